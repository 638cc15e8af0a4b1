/- The walks of frame.Seal. -/
import Derived.Test.YtpcppnoomogloaaFrW5
import Derived.Test.YtpcppnoomogloaaAeWs
set_option maxRecDepth 4000
namespace Go.Proofs.Ytpcppnoomogloaa.Fr
set_option linter.unusedSimpArgs false
set_option linter.unusedVariables false
open Go.RowKit

def SealOK (w : World) (h : Hd) (key body : List Nat) (e : Ending) (w' : World) : Prop := ∃ ad n cp, e = .returned (.tuple #[.slice ad n cp, .int .i64 ((sealE h body : Nat) : Int)]) ∧ (sealF h key body).length = n ∧ Own w' w.heap.size (.slice ad n cp) (sealF h key body) ∧ Below w.heap.size w w'
theorem seal_no {h : Hd} {body : List Nat} (key : List Nat) (hb : sealB h body = false) : sealE h body = 110 ∧ sealF h key body = [] := by unfold sealE sealF; rw [hb]; exact ⟨rfl, rfl⟩
theorem seal_yes {h : Hd} {body : List Nat} (key : List Nat) (hb : sealB h body = true) : sealE h body = 0 ∧ sealF h key body = headB h ++ Ae.sealA key (nonceB h) body (headB h) := by unfold sealE sealF; rw [hb]; exact ⟨rfl, rfl⟩
theorem lw_low {w W : World} {l : List (Nat × TypeId × IntKind × List Nat)} {r : List (Option Addr × Nat × Nat × List Nat)} (h : LW w l r W) : ∀ e ∈ r, ∀ x, e.1 = some x → 0 < e.2.1 → x.block < W.heap.size := fun e he => rdb_low (h.rds e he)
/-- What is written lies from a base on, below which all slices lie. -/
theorem lw_top {w W W' : World} {l : List (Nat × TypeId × IntKind × List Nat)} {r : List (Option Addr × Nat × Nat × List Nat)} {base : Nat} {v : Value} {xs : List Nat} (h : LW w l r W) (hO : Own W base v xs) (hb : w.heap.size ≤ base) (hg : W.grownBy W' v.ownBlock) (hl : ∀ e ∈ l, e.2.1 ≠ 5)
    (hr : ∀ e ∈ r, ∀ x, e.1 = some x → 0 < e.2.1 → x.block < base) : LW w l r W' :=
  h.grownRow hO hb hg hl (fun e he x hx h0 q => by have := (hO.block _ q).1; have := hr e he x hx h0; omega)
theorem lenNe {x : Int} {n : Nat} (h : ¬ x = (n : Int)) : (x != (n : Int)) = true := by rw [bne_iff_ne]; exact h
theorem Seal_len (w : World) (h : Hd) (key : List Nat) (b : Option Addr) (lb cb : Nat) (body : List Nat) (hk : key.length = 32) (hkb : ∀ x ∈ key, x < 256) (hr : RdB w b lb cb body) (hl : ¬ h.len = (lb : Int)) : Calls Try.prog 15 #[h.v, .agg (bv key).toArray, .slice b lb cb] w fun e w' => e = .returned (.tuple #[.slice none 0 0, .int .i64 110]) ∧ Below w.heap.size w w' := by
  have d1 := lenNe hl
  clear hl
  show Calls Try.prog 15 #[.agg #[.int .i64 h.kind, .int .i64 h.lba, .int .i64 h.len, .int .i64 h.seq, .int .i64 h.epoch], .agg (nv .u8 key).toArray, .slice b lb cb] w _
  go_enter Try.func15, Try.ntmps15
  have hb0 : HBlk ((w.alloc (.cells #[.int .i64 h.kind, .int .i64 h.lba, .int .i64 h.len, .int .i64 h.seq, .int .i64 h.epoch] 23)).alloc (.cells (nv .u8 key).toArray 35)) w.heap.size h := (HBlk.new w h).alloc _
  have s0 : LW w [(w.heap.size + 1, 35, .u8, key)] [(b, lb, cb, body)] ((w.alloc (.cells #[.int .i64 h.kind, .int .i64 h.lba, .int .i64 h.len, .int .i64 h.seq, .int .i64 h.epoch] 23)).alloc (.cells (nv .u8 key).toArray 35)) := by
    have := (((LW.nil (xrefl w)).addR hr).alloc (.cells #[.int .i64 h.kind, .int .i64 h.lba, .int .i64 h.len, .int .i64 h.seq, .int .i64 h.epoch] 23)).new 35 .u8 key
    rw [World.size_alloc] at this
    exact this
  clear hr
  go_upto_region 1 with fail
  generalize (w.alloc (.cells #[.int .i64 h.kind, .int .i64 h.lba, .int .i64 h.len, .int .i64 h.seq, .int .i64 h.epoch] 23)).alloc (.cells (nv .u8 key).toArray 35) = W0 at hb0 s0 ⊢
  obtain ⟨q0, q1, q2, q3, q4⟩ := hb0.cells
  go_wp2_with fail
  go_ret2
  exact ⟨rfl, s0.bel⟩
theorem Seal_bad (w : World) (h : Hd) (key : List Nat) (b : Option Addr) (lb cb : Nat) (body : List Nat) (hk : key.length = 32) (hkb : ∀ x ∈ key, x < 256) (hr : RdB w b lb cb body) (hl : h.len = (lb : Int)) (ho : okH h = false) : Calls Try.prog 15 #[h.v, .agg (bv key).toArray, .slice b lb cb] w fun e w' => e = .returned (.tuple #[.slice none 0 0, .int .i64 110]) ∧ Below w.heap.size w w' := by
  have cW := Lib.hid (fun W => Write_no W h ho)
  have d1 : (h.len != (lb : Int)) = false := by rw [hl]; simp
  clear hl ho
  show Calls Try.prog 15 #[.agg #[.int .i64 h.kind, .int .i64 h.lba, .int .i64 h.len, .int .i64 h.seq, .int .i64 h.epoch], .agg (nv .u8 key).toArray, .slice b lb cb] w _
  go_enter Try.func15, Try.ntmps15
  have hb0 : HBlk ((w.alloc (.cells #[.int .i64 h.kind, .int .i64 h.lba, .int .i64 h.len, .int .i64 h.seq, .int .i64 h.epoch] 23)).alloc (.cells (nv .u8 key).toArray 35)) w.heap.size h := (HBlk.new w h).alloc _
  have s0 : LW w [(w.heap.size + 1, 35, .u8, key)] [(b, lb, cb, body)] ((w.alloc (.cells #[.int .i64 h.kind, .int .i64 h.lba, .int .i64 h.len, .int .i64 h.seq, .int .i64 h.epoch] 23)).alloc (.cells (nv .u8 key).toArray 35)) := by
    have := (((LW.nil (xrefl w)).addR hr).alloc (.cells #[.int .i64 h.kind, .int .i64 h.lba, .int .i64 h.len, .int .i64 h.seq, .int .i64 h.epoch] 23)).new 35 .u8 key
    rw [World.size_alloc] at this
    exact this
  clear hr
  go_upto_region 1 with fail
  generalize (w.alloc (.cells #[.int .i64 h.kind, .int .i64 h.lba, .int .i64 h.len, .int .i64 h.seq, .int .i64 h.epoch] 23)).alloc (.cells (nv .u8 key).toArray 35) = W0 at hb0 s0 ⊢
  obtain ⟨q0, q1, q2, q3, q4⟩ := hb0.cells
  go_wp2_with (first
    | (refine wp_load_head rfl (.tmp 3) rfl w.heap.size rfl hb0 ?_)
    | (go_at_call 12; refine (cW.out _).mono ?_; rintro e7 w7 ⟨rfl, b7⟩; have bb7 := xtrans s0.bel b7; clear q0 q1 q2 q3 q4 s0 hb0 b7)
    | fail)
  go_ret2
  exact ⟨rfl, bb7⟩
set_option maxRecDepth 100000 in
set_option maxHeartbeats 4000000 in
theorem Seal_good (w : World) (h : Hd) (key : List Nat) (b : Option Addr) (lb cb : Nat) (body : List Nat) (hk : key.length = 32) (hkb : ∀ x ∈ key, x < 256) (hr : RdB w b lb cb body) (hl : h.len = (lb : Int)) (ho : okH h = true) : Calls Try.prog 15 #[h.v, .agg (bv key).toArray, .slice b lb cb] w fun e w' => ∃ ad cp, e = .returned (.tuple #[.slice ad (lb + 40) cp, .int .i64 0]) ∧ Own w' w.heap.size (.slice ad (lb + 40) cp) (headB h ++ Ae.sealA key (nonceB h) body (headB h)) ∧ Below w.heap.size w w' := by
  have cW := Lib.hid (fun W => Write_ok W h ho)
  have cN := Lib.hid (fun W => nonce_any W h ho)
  have hl5 : lb ≤ 4096 := by have := (okH_iff h).1 ho; omega
  have hbl : body.length = lb := hr.2.1
  have d1 : (h.len != (lb : Int)) = false := by rw [hl]; simp
  have hhl := headB_length h
  have hhb := headB_lt h
  have hnl := nonceB_length h
  have hnb := nonceB_lt h
  generalize headB h = hd at cW hhl hhb ⊢
  generalize nonceB h = nc at cN hnl hnb ⊢
  have hsl : (Ae.sealA key nc body hd).length = lb + 16 := by rw [Ae.sealA_length, hbl]
  have cS := Lib.hid (fun (W : World) (aw : Option Addr) (cw : Nat) (h1 : RdB W b lb cb body) (h2 : RdB W aw 24 cw hd) => Ae.Seal_any W key nc b lb cb body aw 24 cw hd hk hkb hnl hnb h1 h2 (by omega) (by decide))
  generalize Ae.sealA key nc body hd = sl at cS hsl ⊢
  have HHL := Lib.hid hhl
  have HSL := Lib.hid hsl
  have HK := Lib.hid (show (Try.prog.info? 35).map (·.size) = some key.length by rw [hk]; kernel_rfl)
  have HK3 := Lib.hid (show (Try.prog.info? 35).map (·.size) = some (nv .u8 key).length by rw [nv_length, hk]; kernel_rfl)
  have u32 := Try.underlying35
  have HKL := Lib.hid hk
  have hlh := hl
  clear hl ho hbl hhl hnl hsl hk hlh
  show Calls Try.prog 15 #[.agg #[.int .i64 h.kind, .int .i64 h.lba, .int .i64 h.len, .int .i64 h.seq, .int .i64 h.epoch], .agg (nv .u8 key).toArray, .slice b lb cb] w _
  go_enter Try.func15, Try.ntmps15
  have hb0 : HBlk ((w.alloc (.cells #[.int .i64 h.kind, .int .i64 h.lba, .int .i64 h.len, .int .i64 h.seq, .int .i64 h.epoch] 23)).alloc (.cells (nv .u8 key).toArray 35)) w.heap.size h := (HBlk.new w h).alloc _
  have s0 : LW w [(w.heap.size + 1, 35, .u8, key)] [(b, lb, cb, body)] ((w.alloc (.cells #[.int .i64 h.kind, .int .i64 h.lba, .int .i64 h.len, .int .i64 h.seq, .int .i64 h.epoch] 23)).alloc (.cells (nv .u8 key).toArray 35)) := by
    have := (((LW.nil (xrefl w)).addR hr).alloc (.cells #[.int .i64 h.kind, .int .i64 h.lba, .int .i64 h.len, .int .i64 h.seq, .int .i64 h.epoch] 23)).new 35 .u8 key
    rw [World.size_alloc] at this
    exact this
  clear hr
  go_upto_region 1 with fail
  generalize (w.alloc (.cells #[.int .i64 h.kind, .int .i64 h.lba, .int .i64 h.len, .int .i64 h.seq, .int .i64 h.epoch] 23)).alloc (.cells (nv .u8 key).toArray 35) = W0 at hb0 s0 ⊢
  obtain ⟨q0, q1, q2, q3, q4⟩ := hb0.cells
  go_wp2_with (first
    | (refine wp_load_head rfl (.tmp 3) rfl w.heap.size rfl hb0 ?_)
    | (go_at_call 12; refine (cW.out _).mono ?_; rintro e7 w7 ⟨a7, c7, rfl, p7, b7⟩; have hB7 := hb0.below b7; have o7 := p7.mono s0.bel.size; have s7 := (s0.below b7).addR (o7.rdb HHL.out (by decide)); clear q0 q1 q2 q3 q4 s0 hb0 b7 p7)
    | fail)
  refine wp_region_held_drew (S := fun W => HBlk W w.heap.size h ∧ LW w [(w.heap.size + 1, 35, .u8, key)] [(a7, 24, c7, hd), (b, lb, cb, body)] W) (by kernel_rfl) (⟨hB7.drew, s7.drew⟩) (fun hHeld => ?_)
  have oW := o7.below (below_drewN (xrefl w7) 1)
  change Own (World.drew _) _ _ _ at oW
  generalize World.drew _ = wv at hHeld oW ⊢
  clear hB7 s7 o7
  refine takeL (i := 0) (v := .agg (nv .u8 key).toArray) rfl rfl (by kernel_rfl) (by kernel_rfl) (by kernel_rfl) (fun _ _ _ h => h) (yieldsIf_load_mid (by rfl) 35 (.tmp 4) rfl (w.heap.size + 1) 0 (by rfl) (nv .u8 key) _ (fun _ h => blk_range (h.2.blk 0 rfl)) u32 rfl HK3.out) (by assumption) ?_
  try simp only [Act.put, List.setIfInBounds_toArray, List.set_cons_zero, List.set_cons_succ]
  refine takeL (i := 1) (v := h.v) rfl rfl (by kernel_rfl) (by kernel_rfl) (by kernel_rfl) (fun _ _ _ h => h) (yieldsHead (.tmp 3) (by rfl) rfl w.heap.size (by rfl) (fun _ h => h.1)) (by assumption) ?_
  try simp only [Act.put, List.setIfInBounds_toArray, List.set_cons_zero, List.set_cons_succ]
  refine takeL (i := 3) (v := ?_) rfl rfl (by kernel_rfl) (by kernel_rfl) (by kernel_rfl) (fun _ _ _ h => h) (Or.inl ⟨by rfl, ?_⟩) (by assumption) ?_
  rotate_left
  · (intro w' hSw; go_simp; try with_reducible rfl)
  try simp only [Act.put, List.setIfInBounds_toArray, List.set_cons_zero, List.set_cons_succ]
  refine takeL (i := 4) (v := ?_) rfl rfl (by kernel_rfl) (by kernel_rfl) (by kernel_rfl) (fun _ _ _ h => h) (Or.inl ⟨by rfl, ?_⟩) (by assumption) ?_
  rotate_left
  · (intro w' hSw; go_simp; try with_reducible rfl)
  try simp only [Act.put, List.setIfInBounds_toArray, List.set_cons_zero, List.set_cons_succ]
  refine wpAnyH_ready (rs := [2]) (by kernel_rfl) (by simp) ?_
  refine consL rfl (fun K hK => ?_) AllReadyH.nil
  · rw [if_pos (by rfl)]
    go_simp
    refine (cN.out _).mono ?_
    rintro e8 w8 ⟨rfl, b8⟩
    have o8 := oW.below b8
    refine hK.out _ _ (⟨hHeld.1.below b8, hHeld.2.below b8⟩) (fun hHeld => ?_)
    clear hK K
    try simp only [Act.put, List.setIfInBounds_toArray, List.set_cons_zero, List.set_cons_succ]
    refine wpAnyH_ready (rs := [5]) (by kernel_rfl) (by simp) ?_
    refine consL rfl (fun K hK => ?_) AllReadyH.nil
    · rw [if_pos (by rfl)]
      go_simp
      refine (cS.out _ _ _ (hHeld.2.rd 1 rfl) (hHeld.2.rd 0 rfl)).mono ?_
      rintro e9 w9 ⟨a9, c9, rfl, p9, b9⟩
      have o9 := o8.below b9
      refine hK.out _ _ (⟨hHeld.1.below b9, hHeld.2.below b9⟩) (fun hHeld => ?_)
      clear hK K
      try simp only [Act.put, List.setIfInBounds_toArray, List.set_cons_zero, List.set_cons_succ]
      refine takeL (i := 6) (v := ?_) rfl rfl (by kernel_rfl) (by kernel_rfl) (by kernel_rfl) (fun _ _ _ h => h) (Or.inl ⟨by rfl, ?_⟩) (by assumption) ?_
      rotate_left
      · (intro w' hSw; go_simp; try with_reducible rfl)
      try simp only [Act.put, List.setIfInBounds_toArray, List.set_cons_zero, List.set_cons_succ]
      refine takeL (i := 7) (v := ?_) rfl rfl (by kernel_rfl) (by kernel_rfl) (by kernel_rfl) (fun _ _ _ h => h) (Or.inl ⟨by rfl, ?_⟩) (by assumption) ?_
      rotate_left
      · (intro w' hSw; go_simp; try with_reducible rfl)
      try simp only [Act.put, List.setIfInBounds_toArray, List.set_cons_zero, List.set_cons_succ]
      refine takeL (i := 8) (v := ?_) rfl rfl (by kernel_rfl) (by kernel_rfl) (by kernel_rfl) (fun _ _ _ h => h) (Or.inl ⟨by rfl, ?_⟩) (by assumption) ?_
      rotate_left
      · (intro w' hSw; go_simp; try with_reducible rfl)
      try simp only [Act.put, List.setIfInBounds_toArray, List.set_cons_zero, List.set_cons_succ]
      refine takeL (i := 9) (v := ?_) rfl rfl (by kernel_rfl) (by kernel_rfl) (by kernel_rfl) (fun _ _ _ h => h) (Or.inl ⟨by rfl, ?_⟩) (by assumption) ?_
      rotate_left
      · (intro w' hSw; go_simp; try with_reducible rfl)
      try simp only [Act.put, List.setIfInBounds_toArray, List.set_cons_zero, List.set_cons_succ]
      refine takeL (i := 10) (v := ?_) rfl rfl (by kernel_rfl) (by kernel_rfl) (by kernel_rfl) (fun _ _ _ h => h) (Or.inl ⟨by rfl, ?_⟩) (by assumption) ?_
      rotate_left
      · (intro w' hSw; go_simp; try with_reducible rfl)
      try simp only [Act.put, List.setIfInBounds_toArray, List.set_cons_zero, List.set_cons_succ]
      refine wpAnyH_done (by kernel_rfl) ?_ _
      have bb9 := hHeld.2.bel
      clear hHeld
      go_wp2_with (first
        | (at_builtin; refine wp_append rfl (.tmp 36) (.tmp 37) rfl w.heap.size _ hd rfl o9 a9 (lb + 16) c9 sl rfl (p9.rdb HSL.out (by omega)) (by rw [HHL.out, HSL.out]; omega) bb9.size ?_; intro v10 w10 o10 b10 _; obtain ⟨a10, c10, rfl, _, _⟩ := o10.rd (by rw [List.length_append, HHL.out, HSL.out]; omega); rw [List.length_append, HHL.out, HSL.out, show 24 + (lb + 16) = lb + 40 by omega] at o10 ⊢)
        | fail)
      go_ret2
      exact ⟨a10, c10, rfl, o10, bb9.trans b10⟩
theorem Seal_any (w : World) (h : Hd) (key : List Nat) (b : Option Addr) (lb cb : Nat) (body : List Nat) (hk : key.length = 32) (hkb : ∀ x ∈ key, x < 256) (hr : RdB w b lb cb body) : Calls Try.prog 15 #[h.v, .agg (bv key).toArray, .slice b lb cb] w (SealOK w h key body) := by
  have hbl : body.length = lb := hr.2.1
  by_cases hl : h.len = (lb : Int)
  · cases ho : okH h with
    | true =>
      have hs : sealB h body = true := by unfold sealB; rw [ho, hbl, decide_eq_true hl]; rfl
      have hy := seal_yes key hs
      refine (Seal_good w h key b lb cb body hk hkb hr hl ho).mono ?_
      rintro e w' ⟨ad, cp, rfl, hO, hb⟩
      exact ⟨ad, lb + 40, cp, by rw [hy.1]; rfl, by rw [hy.2, List.length_append, headB_length, Ae.sealA_length, hbl]; omega, by rw [hy.2]; exact hO, hb⟩
    | false =>
      have hs : sealB h body = false := by unfold sealB; rw [ho, Bool.and_false]
      have hy := seal_no key hs
      refine (Seal_bad w h key b lb cb body hk hkb hr hl ho).mono ?_
      rintro e w' ⟨rfl, hb⟩
      exact ⟨none, 0, 0, by rw [hy.1]; rfl, by rw [hy.2]; rfl, by rw [hy.2]; exact Own.nil _ _, hb⟩
  · have hs : sealB h body = false := by unfold sealB; rw [hbl, decide_eq_false hl]; rfl
    have hy := seal_no key hs
    refine (Seal_len w h key b lb cb body hk hkb hr hl).mono ?_
    rintro e w' ⟨rfl, hb⟩
    exact ⟨none, 0, 0, by rw [hy.1]; rfl, by rw [hy.2]; rfl, by rw [hy.2]; exact Own.nil _ _, hb⟩
end Go.Proofs.Ytpcppnoomogloaa.Fr
