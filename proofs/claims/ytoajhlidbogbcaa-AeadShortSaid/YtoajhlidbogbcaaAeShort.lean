/- The walk of the statement AeadShort. -/
import Derived.Test.YtoajhlidbogbcaaAeA
import Derived.Test.YtoajhlidbogbcaaAeWs
namespace Go.Proofs.Ytoajhlidbogbcaa.Ae
set_option linter.unusedSimpArgs false
set_option linter.unusedVariables false
open Go.RowKit

theorem yieldsMin {P : Program} {ops : Array Oper} {C : World → Prop} {o : Oper} {a : Act} (x y : Operand) (ts : Array TypeId) (hw : Region.wanted o (yielded ops a.tmps) = true) (ho : o.op = .call { callee := .builtin .min, args := #[x, y], argTypes := ts })
    (p q r : Int) (hx : a.eval x = .int .i64 p) (hy : a.eval y = .int .i64 q) (hr : (if q < p then q else p) = r) : YieldsIf P ops C o (.int .i64 r) a :=
  .inl ⟨hw, fun w _ => by
    unfold execOp
    simp only [ho, resolve, invoke, builtin, Sem.run_bind, Sem.run_pure, Result.andThen_ok, List.map_toArray, List.map_cons, List.map_nil, hx, hy, run_min_int2, hr]⟩

set_option maxRecDepth 100000 in
set_option maxHeartbeats 4000000 in
theorem short_walk (key nonce : List Nat) (a : Option Addr) (la ca : Nat) (xa : List Nat) (b : Option Addr) (lb cb : Nat) (xb : List Nat) (w : World) (hk : key.length = 32) (hkb : ∀ x ∈ key, x < 256) (hn : nonce.length = 12) (hnb : ∀ x ∈ nonce, x < 256) (hra : Row8 w a la ca xa) (hrb : Row8 w b lb cb xb) :
    Calls Try.prog 7 #[.agg (bv key).toArray, .agg (bv nonce).toArray, .slice a la ca, .slice b lb cb] w fun e w' => e = .returned (.bool true) ∧ Below w.heap.size w w' := by
  have hlea : la ≤ 9223372036854775807 := by have := hra.2.1; have := hra.2.2.1; omega
  have hleb : lb ≤ 9223372036854775807 := by have := hrb.2.1; have := hrb.2.2.1; omega
  have HK := Lib.hid (show (Try.prog.info? 22).map (·.size) = some key.length by rw [hk]; kernel_rfl)
  have HN := Lib.hid (show (Try.prog.info? 23).map (·.size) = some nonce.length by rw [hn]; kernel_rfl)
  have HK3 := Lib.hid (show (Try.prog.info? 22).map (·.size) = some (nv .u8 key).length by rw [nv_length, hk]; kernel_rfl)
  have HN3 := Lib.hid (show (Try.prog.info? 23).map (·.size) = some (nv .u8 nonce).length by rw [nv_length, hn]; kernel_rfl)
  have u32 := Try.underlying22
  have u12 := Try.underlying23
  have u8 := Try.underlying5
  have us := Try.underlying24
  have ut := Try.underlying9
  have HKL := Lib.hid hk
  have HNL := Lib.hid hn
  clear hk hn
  by_cases hall : la ≤ 200 ∧ lb ≤ 200
  · obtain ⟨ha2, hb2⟩ := hall
    have hRa : RdB w a la ca xa := ⟨by omega, hra⟩
    have hRb : RdB w b lb cb xb := ⟨by omega, hrb⟩
    have d1 : decide ((200 : Int) < (la : Int)) = false := decide_eq_false (by omega)
    have d2 : decide ((200 : Int) < (lb : Int)) = false := decide_eq_false (by omega)
    have ha3 : la ≤ 1000000 := by omega
    have hb3 : lb ≤ 1000000 := by omega
    have hal : xa.length = la := hra.1
    have hbl : xb.length = lb := hrb.1
    have hab := hra.2.2.2.1
    have hbb := hrb.2.2.2.1
    have hs1 := sealA_length key nonce xa xb
    have hs2 := sealA_length key nonce xa []
    rw [hal] at hs1 hs2
    have ht1 := seal_take key nonce xa xb
    have ht2 := seal_take key nonce xa []
    rw [hal] at ht1 ht2
    obtain ⟨ls, hls⟩ : ∃ ls, ls = la + 16 := ⟨_, rfl⟩
    rw [← hls] at hs1 hs2
    have hl16 : (la : Int) + 16 = (ls : Int) := by omega
    have hls4 : ls ≤ 1000000000 := by omega
    have hlas : la ≤ ls := by omega
    obtain ⟨k, hk⟩ : ∃ k : Nat, k = if 15 < la then 15 else la := ⟨_, rfl⟩
    have hmin : (if (15 : Int) < (la : Int) then (15 : Int) else (la : Int)) = (k : Int) := by rw [hk]; split <;> split <;> omega
    have hk15 : k < 16 := by rw [hk]; split <;> omega
    have hkla : k ≤ la := by rw [hk]; split <;> omega
    have hkca : (k : Int) ≤ (ca : Int) := by have := hra.2.1; omega
    have HMIN := Lib.hid hmin
    have cO := Lib.hid (fun (W : World) (h1 : RdB W a k ca (xa.take k)) (h2 : RdB W b lb cb xb) => Open_short W key nonce a k ca (xa.take k) b lb cb xb HKL.out hkb HNL.out hnb h1 h2 (by omega) hb3 hk15)
    have cS := Lib.hid (fun (W : World) (h1 : RdB W a la ca xa) (h2 : RdB W b lb cb xb) => Seal_any W key nonce a la ca xa b lb cb xb HKL.out hkb HNL.out hnb h1 h2 ha3 hb3)
    have cN := Lib.hid (fun (W : World) (h1 : RdB W a la ca xa) => Seal_any W key nonce a la ca xa none 0 0 [] HKL.out hkb HNL.out hnb h1 (rd_nil W) ha3 (by decide))
    rw [← hls] at cS cN
    generalize sealA key nonce xa xb = sl at cS hs1 ht1
    generalize sealA key nonce xa [] = sn at cN hs2 ht2
    generalize St.xorS key 1 nonce xa = xs at ht1 ht2
    have HS1 := Lib.hid hs1
    have HS2 := Lib.hid hs2
    have HT1 := Lib.hid ht1
    have HT2 := Lib.hid ht2
    clear hs1 hs2 ht1 ht2 hls hal hbl hk hmin
    go_enter Try.func7, Try.ntmps7
    have s0 : LW w [(w.heap.size + 1, 23, .u8, nonce), (w.heap.size, 22, .u8, key)] [(a, la, ca, xa), (b, lb, cb, xb)] ((w.alloc (.cells (nv .u8 key).toArray 22)).alloc (.cells (nv .u8 nonce).toArray 23)) := by
      have := ((((LW.nil (xrefl w)).addR hRb).addR hRa).new 22 .u8 key).new 23 .u8 nonce
      rw [World.size_alloc] at this
      exact this
    clear hra hrb hRa hRb
    go_wp2_with (first
      | (go_at_call 8; refine (awake_any _).mono ?_; rintro e w1 ⟨rfl, hb1⟩; have s1 := s0.below hb1; clear s0 hb1)
      | fail)
    refine wp_region_held_drew (S := LW w [(w.heap.size + 1, 23, .u8, nonce), (w.heap.size, 22, .u8, key)] [(a, la, ca, xa), (b, lb, cb, xb)]) (by kernel_rfl) (s1.drew) (fun hHeld => ?_)
    generalize World.drew _ = wv at hHeld ⊢
    refine takeL (i := 0) (v := .agg (nv .u8 key).toArray) rfl rfl (by kernel_rfl) (by kernel_rfl) (by kernel_rfl) (fun _ _ _ h => h) (yieldsIf_load_mid (by rfl) 22 (.tmp 4) rfl w.heap.size 0 (by rfl) (nv .u8 key) _ (fun _ h => blk_range (h.blk 1 rfl)) u32 rfl HK3.out) (by assumption) ?_
    try simp only [Act.put, List.setIfInBounds_toArray, List.set_cons_zero, List.set_cons_succ]
    refine takeL (i := 1) (v := .agg (nv .u8 nonce).toArray) rfl rfl (by kernel_rfl) (by kernel_rfl) (by kernel_rfl) (fun _ _ _ h => h) (yieldsIf_load_mid (by rfl) 23 (.tmp 5) rfl (w.heap.size + 1) 0 (by rfl) (nv .u8 nonce) _ (fun _ h => blk_range (h.blk 0 rfl)) u12 rfl HN3.out) (by assumption) ?_
    try simp only [Act.put, List.setIfInBounds_toArray, List.set_cons_zero, List.set_cons_succ]
    refine takeL (i := 2) (v := ?_) rfl rfl (by kernel_rfl) (by kernel_rfl) (by kernel_rfl) (fun _ _ _ h => h) (Or.inl ⟨by rfl, ?_⟩) (by assumption) ?_
    rotate_left
    · (intro w' hSw; go_simp; try with_reducible rfl)
    try simp only [Act.put, List.setIfInBounds_toArray, List.set_cons_zero, List.set_cons_succ]
    refine takeL (i := 3) (v := ?_) rfl rfl (by kernel_rfl) (by kernel_rfl) (by kernel_rfl) (fun _ _ _ h => h) (Or.inl ⟨by rfl, ?_⟩) (by assumption) ?_
    rotate_left
    · (intro w' hSw; go_simp; try with_reducible rfl)
    try simp only [Act.put, List.setIfInBounds_toArray, List.set_cons_zero, List.set_cons_succ]
    refine takeL (i := 4) (v := ?_) rfl rfl (by kernel_rfl) (by kernel_rfl) (by kernel_rfl) (fun _ _ _ h => h) (Or.inl ⟨by rfl, ?_⟩) (by assumption) ?_
    rotate_left
    · (intro w' hSw; go_simp; try with_reducible rfl)
    try simp only [Act.put, List.setIfInBounds_toArray, List.set_cons_zero, List.set_cons_succ]
    refine takeL (i := 5) (v := .int .i64 (k : Int)) rfl rfl (by kernel_rfl) (by kernel_rfl) (by kernel_rfl) (fun _ _ _ h => h) (yieldsMin (.tmp 31) (.const (.int .i64 15)) #[3, 3] (by rfl) (by rfl) (la : Int) 15 (k : Int) (by rfl) (by rfl) HMIN.out) (by assumption) ?_
    try simp only [Act.put, List.setIfInBounds_toArray, List.set_cons_zero, List.set_cons_succ]
    refine takeL (i := 6) (v := ?_) rfl rfl (by kernel_rfl) (by kernel_rfl) (by kernel_rfl) (fun _ _ _ h => h) (Or.inl ⟨by rfl, ?_⟩) (by assumption) ?_
    rotate_left
    · (intro w' hSw; go_simp; try with_reducible rfl)
    try simp only [Act.put, List.setIfInBounds_toArray, List.set_cons_zero, List.set_cons_succ]
    refine takeL (i := 7) (v := ?_) rfl rfl (by kernel_rfl) (by kernel_rfl) (by kernel_rfl) (fun _ _ _ h => h) (Or.inl ⟨by rfl, ?_⟩) (by assumption) ?_
    rotate_left
    · (intro w' hSw; go_simp; try with_reducible rfl)
    try simp only [Act.put, List.setIfInBounds_toArray, List.set_cons_zero, List.set_cons_succ]
    refine wpAnyH_ready (rs := [8]) (by kernel_rfl) (by simp) ?_
    refine consL rfl (fun K hK => ?_) AllReadyH.nil
    · rw [if_pos (by rfl)]
      go_simp
      refine (cO.out _ (rdb_take (hHeld.rd 0 rfl) k hkla) (hHeld.rd 1 rfl)).mono ?_
      rintro e w8 ⟨rfl, b8⟩
      refine hK.out _ _ (hHeld.below b8) (fun hHeld => ?_)
      clear hK K
      try simp only [Act.put, List.setIfInBounds_toArray, List.set_cons_zero, List.set_cons_succ]
      refine takeL (i := 9) (v := ?_) rfl rfl (by kernel_rfl) (by kernel_rfl) (by kernel_rfl) (fun _ _ _ h => h) (Or.inl ⟨by rfl, ?_⟩) (by assumption) ?_
      rotate_left
      · (intro w' hSw; go_simp; try with_reducible rfl)
      try simp only [Act.put, List.setIfInBounds_toArray, List.set_cons_zero, List.set_cons_succ]
      refine takeL (i := 10) (v := ?_) rfl rfl (by kernel_rfl) (by kernel_rfl) (by kernel_rfl) (fun _ _ _ h => h) (Or.inl ⟨by rfl, ?_⟩) (by assumption) ?_
      rotate_left
      · (intro w' hSw; go_simp; try with_reducible rfl)
      try simp only [Act.put, List.setIfInBounds_toArray, List.set_cons_zero, List.set_cons_succ]
      refine takeL (i := 11) (v := ?_) rfl rfl (by kernel_rfl) (by kernel_rfl) (by kernel_rfl) (fun _ _ _ h => h) (Or.inl ⟨by rfl, ?_⟩) (by assumption) ?_
      rotate_left
      · (intro w' hSw; go_simp; try with_reducible rfl)
      try simp only [Act.put, List.setIfInBounds_toArray, List.set_cons_zero, List.set_cons_succ]
      refine takeL (i := 12) (v := ?_) rfl rfl (by kernel_rfl) (by kernel_rfl) (by kernel_rfl) (fun _ _ _ h => h) (Or.inl ⟨by rfl, ?_⟩) (by assumption) ?_
      rotate_left
      · (intro w' hSw; go_simp; try with_reducible rfl)
      try simp only [Act.put, List.setIfInBounds_toArray, List.set_cons_zero, List.set_cons_succ]
      refine takeL (i := 13) (v := ?_) rfl rfl (by kernel_rfl) (by kernel_rfl) (by kernel_rfl) (fun _ _ _ h => h) (Or.inl ⟨by rfl, ?_⟩) (by assumption) ?_
      rotate_left
      · (intro w' hSw; go_simp; try with_reducible rfl)
      try simp only [Act.put, List.setIfInBounds_toArray, List.set_cons_zero, List.set_cons_succ]
      refine wpAnyH_done (by kernel_rfl) ?_ _
      have s3 := hHeld
      clear hHeld
      go_wp2_with (first
        | (refine wp_load_arr rfl 22 (.tmp 4) rfl w.heap.size rfl (s3.blk 1 rfl) 32 5 Try.underlying22 HK.out ?_)
        | (refine wp_load_arr rfl 23 (.tmp 5) rfl (w.heap.size + 1) rfl (s3.blk 0 rfl) 12 5 Try.underlying23 HN.out ?_)
        | fail)
      refine (cS.out _ (s3.rd 0 rfl) (s3.rd 1 rfl)).mono ?_
      rintro e w5 ⟨ad5, cp5, rfl, p5, b5⟩
      have s5 := (s3.below b5).addR (p5.rdb HS1.out hls4)
      clear s3 b5 p5
      go_wp2_with (first
        | (refine wp_load_arr rfl 22 (.tmp 4) rfl w.heap.size rfl (s5.blk 1 rfl) 32 5 Try.underlying22 HK.out ?_)
        | (refine wp_load_arr rfl 23 (.tmp 5) rfl (w.heap.size + 1) rfl (s5.blk 0 rfl) 12 5 Try.underlying23 HN.out ?_)
        | fail)
      refine (cN.out _ (s5.rd 1 rfl)).mono ?_
      rintro e w7 ⟨ad7, cp7, rfl, p7, b7⟩
      have s7 := (s5.below b7).addR (p7.rdb HS2.out hls4)
      clear s5 b7 p7
      have hcp5 : (la : Int) ≤ (cp5 : Int) := by have := (s7.rd 1 rfl).2.2.1; omega
      have hcp7 : (la : Int) ≤ (cp7 : Int) := by have := (s7.rd 0 rfl).2.2.1; omega
      go_wp2_with fail
      refine wp_region_class (LW w [(w.heap.size + 1, 23, .u8, nonce), (w.heap.size, 22, .u8, key)] [(ad7, ls, cp7, sn), (ad5, ls, cp5, sl), (a, la, ca, xa), (b, lb, cb, xb)]) (by kernel_rfl) (by kernel_rfl) (s7.drew) ?_
      refine qY (v := ?_) rfl ?_ ?_
      rotate_left
      · (intro w' _; go_simp; try with_reducible rfl)
      rotate_left
      try simp only [Act.put, List.setIfInBounds_toArray, List.set_cons_zero, List.set_cons_succ]
      refine qY (v := ?_) rfl ?_ ?_
      rotate_left
      · (intro w' _; go_simp; try with_reducible rfl)
      rotate_left
      try simp only [Act.put, List.setIfInBounds_toArray, List.set_cons_zero, List.set_cons_succ]
      refine qY (v := ?_) rfl ?_ ?_
      rotate_left
      · (intro w' _; go_simp; try with_reducible rfl)
      rotate_left
      try simp only [Act.put, List.setIfInBounds_toArray, List.set_cons_zero, List.set_cons_succ]
      refine qY (v := ?_) rfl ?_ ?_
      rotate_left
      · (intro w' _; go_simp; try with_reducible rfl)
      rotate_left
      try simp only [Act.put, List.setIfInBounds_toArray, List.set_cons_zero, List.set_cons_succ]
      refine qY (v := ?_) rfl ?_ ?_
      rotate_left
      · (intro w' _; go_simp; try with_reducible rfl)
      rotate_left
      try simp only [Act.put, List.setIfInBounds_toArray, List.set_cons_zero, List.set_cons_succ]
      refine qY (v := ?_) rfl ?_ ?_
      rotate_left
      · (intro w' _; go_simp; try with_reducible rfl)
      rotate_left
      try simp only [Act.put, List.setIfInBounds_toArray, List.set_cons_zero, List.set_cons_succ]
      refine qY (v := ?_) rfl ?_ ?_
      rotate_left
      · (intro w' _; go_simp; try with_reducible rfl)
      rotate_left
      try simp only [Act.put, List.setIfInBounds_toArray, List.set_cons_zero, List.set_cons_succ]
      refine qY (v := ?_) rfl ?_ ?_
      rotate_left
      · (intro w' _; go_simp; try with_reducible rfl)
      rotate_left
      try simp only [Act.put, List.setIfInBounds_toArray, List.set_cons_zero, List.set_cons_succ]
      refine qY (v := ?_) rfl ?_ ?_
      rotate_left
      · (intro w' _; go_simp; try with_reducible rfl)
      rotate_left
      try simp only [Act.put, List.setIfInBounds_toArray, List.set_cons_zero, List.set_cons_succ]
      refine qY (v := ?_) rfl ?_ ?_
      rotate_left
      · (intro w' _; go_simp; try with_reducible rfl)
      rotate_left
      try simp only [Act.put, List.setIfInBounds_toArray, List.set_cons_zero, List.set_cons_succ]
      refine qY (v := ?_) rfl ?_ ?_
      rotate_left
      · (intro w' _; go_simp; try with_reducible rfl)
      rotate_left
      try simp only [Act.put, List.setIfInBounds_toArray, List.set_cons_zero, List.set_cons_succ]
      refine qY (v := ?_) rfl ?_ ?_
      rotate_left
      · (intro w' _; go_simp; try with_reducible rfl)
      rotate_left
      try simp only [Act.put, List.setIfInBounds_toArray, List.set_cons_zero, List.set_cons_succ]
      refine qY (v := ?_) rfl ?_ ?_
      rotate_left
      · (intro w' _; go_simp; try with_reducible rfl)
      rotate_left
      try simp only [Act.put, List.setIfInBounds_toArray, List.set_cons_zero, List.set_cons_succ]
      refine qY (v := ?_) rfl ?_ ?_
      rotate_left
      · (intro w' _; go_simp; try with_reducible rfl)
      rotate_left
      try simp only [Act.put, List.setIfInBounds_toArray, List.set_cons_zero, List.set_cons_succ]
      refine qY (v := ?_) rfl ?_ ?_
      rotate_left
      · (intro w' _; go_simp; try with_reducible rfl)
      rotate_left
      try simp only [Act.put, List.setIfInBounds_toArray, List.set_cons_zero, List.set_cons_succ]
      refine qY (v := ?_) rfl ?_ ?_
      rotate_left
      · (intro w' _; go_simp; try with_reducible rfl)
      rotate_left
      try simp only [Act.put, List.setIfInBounds_toArray, List.set_cons_zero, List.set_cons_succ]
      refine qY (v := ?_) rfl ?_ ?_
      rotate_left
      · (intro w' _; go_simp; try with_reducible rfl)
      rotate_left
      try simp only [Act.put, List.setIfInBounds_toArray, List.set_cons_zero, List.set_cons_succ]
      refine qY (v := ?_) rfl ?_ ?_
      rotate_left
      · (intro w' _; go_simp; try with_reducible rfl)
      rotate_left
      try simp only [Act.put, List.setIfInBounds_toArray, List.set_cons_zero, List.set_cons_succ]
      refine qI (v := .string (strB xs)) (yieldsStr (by rfl) (x := .tmp 84) rfl (by rfl) us u8 ut (fun W h => (HT1.out ▸ (rdb_take (h.rd 1 rfl) la hlas)).2)) ?_
      try simp only [Act.put, List.setIfInBounds_toArray, List.set_cons_zero, List.set_cons_succ]
      refine qY (v := ?_) rfl ?_ ?_
      rotate_left
      · (intro w' _; go_simp; try with_reducible rfl)
      rotate_left
      try simp only [Act.put, List.setIfInBounds_toArray, List.set_cons_zero, List.set_cons_succ]
      refine qY (v := ?_) rfl ?_ ?_
      rotate_left
      · (intro w' _; go_simp; try with_reducible rfl)
      rotate_left
      try simp only [Act.put, List.setIfInBounds_toArray, List.set_cons_zero, List.set_cons_succ]
      refine qY (v := ?_) rfl ?_ ?_
      rotate_left
      · (intro w' _; go_simp; try with_reducible rfl)
      rotate_left
      try simp only [Act.put, List.setIfInBounds_toArray, List.set_cons_zero, List.set_cons_succ]
      refine qY (v := ?_) rfl ?_ ?_
      rotate_left
      · (intro w' _; go_simp; try with_reducible rfl)
      rotate_left
      try simp only [Act.put, List.setIfInBounds_toArray, List.set_cons_zero, List.set_cons_succ]
      refine qI (v := .string (strB xs)) (yieldsStr (by rfl) (x := .tmp 89) rfl (by rfl) us u8 ut (fun W h => (HT2.out ▸ (rdb_take (h.rd 0 rfl) la hlas)).2)) ?_
      try simp only [Act.put, List.setIfInBounds_toArray, List.set_cons_zero, List.set_cons_succ]
      refine qI (v := .bool true) (yieldsEqS (by rfl) rfl (by rfl) (by rfl) (beq_self_eq_true _)) ?_
      try simp only [Act.put, List.setIfInBounds_toArray, List.set_cons_zero, List.set_cons_succ]
      refine qY (v := ?_) rfl ?_ ?_
      rotate_left
      · (intro w' _; go_simp; try with_reducible rfl)
      rotate_left
      try simp only [Act.put, List.setIfInBounds_toArray, List.set_cons_zero, List.set_cons_succ]
      refine qY (v := ?_) rfl ?_ ?_
      rotate_left
      · (intro w' _; go_simp; try with_reducible rfl)
      rotate_left
      try simp only [Act.put, List.setIfInBounds_toArray, List.set_cons_zero, List.set_cons_succ]
      refine wpQuiet_nil ?_
      intro wz sZ
      go_wp2_with fail
      go_ret
      exact ⟨rfl, sZ.bel⟩
  · have hsplit : decide ((200 : Int) < (la : Int)) = true ∨ (decide ((200 : Int) < (la : Int)) = false ∧ decide ((200 : Int) < (lb : Int)) = true) := by
      simp only [decide_eq_true_eq, decide_eq_false_iff_not]
      omega
    have box : Below w.heap.size w ((w.alloc (.cells (nv .u8 key).toArray 22)).alloc (.cells (nv .u8 nonce).toArray 23)) := xalloc (xnew _ _) _
    clear hall
    rcases hsplit with d1 | ⟨d1, d2⟩
    all_goals
      go_enter Try.func7, Try.ntmps7
      go_wp2_with (first
        | (go_at_call 8; refine (awake_any _).mono ?_; rintro e w1 ⟨rfl, hb1⟩)
        | fail)
      go_ret
      exact ⟨rfl, xtrans box hb1⟩
end Go.Proofs.Ytoajhlidbogbcaa.Ae
