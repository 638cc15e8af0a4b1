/- The walk of the statement ChachaCounts. -/
import Derived.Test.YtoehkegbmphlhaaChA
import Derived.Test.YtoehkegbmphlhaaChCPlain
namespace Go.Proofs.Ytoehkegbmphlhaa.Ch
set_option linter.unusedSimpArgs false
set_option linter.unusedVariables false
open Go.RowKit

set_option maxRecDepth 100000 in
set_option maxHeartbeats 4000000 in
theorem counts_walk (key : List Nat) (counter : Int) (nonce : List Nat) (w : World) (hk : key.length = 32) (hkb : ∀ x ∈ key, x < 256) (hct : 0 ≤ counter ∧ counter ≤ 4294967295) (hn : nonce.length = 12) (hnb : ∀ x ∈ nonce, x < 256) :
    Calls Try.prog 7 #[.agg (bv key).toArray, .int .u32 counter, .agg (bv nonce).toArray] w fun e w' => e = .returned (.bool true) ∧ Below w.heap.size w w' := by
  obtain ⟨ct, rfl⟩ := Int.eq_ofNat_of_zero_le hct.1
  have hcl : ct < 4294967296 := by omega
  have HK := Lib.hid (show (Try.prog.info? 23).map (·.size) = some key.length by rw [hk]; kernel_rfl)
  have HN := Lib.hid (show (Try.prog.info? 24).map (·.size) = some nonce.length by rw [hn]; kernel_rfl)
  have HKL := Lib.hid hk
  have HNL := Lib.hid hn
  have hst : okS (start key ct nonce) := start_ok key ct nonce hkb hcl hnb
  have hblk : block key ct nonce = outBytes (start key ct nonce) (rounds10 (start key ct nonce) 10) := block_eq _ _ _
  have cB := Lib.hid (fun W => Block_any W key nonce ct hk hkb hn hnb hcl)
  have hbl := block_length key ct nonce
  obtain ⟨blk, hbk⟩ : ∃ blk, blk = block key ct nonce := ⟨_, rfl⟩
  rw [← hbk] at hblk cB hbl
  have HBK := Lib.hid hblk
  have HZB := Lib.hid (show (Try.prog.info? 28).map (·.size) = some (nv .u8 blk).toArray.size by simp only [List.size_toArray, nv_length]; rw [hbl]; kernel_rfl)
  have HSB := Lib.hid (show 64 = (nv .u8 blk).toArray.size by simp [nv, hbl])
  have HBL := Lib.hid hbl
  obtain ⟨iu, hiu⟩ := info32
  have HIU := Lib.hid hiu
  clear hk hn hblk hbk hbl hiu
  go_enter Try.func7, Try.ntmps7
  have s0 : LW w [(w.heap.size + 1, 24, .u8, nonce), (w.heap.size, 23, .u8, key)] [] ((w.alloc (.cells (nv .u8 key).toArray 23)).alloc (.cells (nv .u8 nonce).toArray 24)) := by
    have := ((LW.nil (xrefl w)).new 23 .u8 key).new 24 .u8 nonce
    rw [World.size_alloc] at this
    exact this
  go_wp2_with (first
    | (go_at_call 8; refine (awake_any _).mono ?_; rintro e w1 ⟨rfl, hb1⟩; have s1 := s0.below hb1; clear s0 hb1)
    | (refine wp_load_arr rfl 23 (.tmp 3) rfl w.heap.size rfl (s1.blk 1 rfl) 32 5 Try.underlying23 HK.out ?_)
    | (refine wp_load_arr rfl 24 (.tmp 5) rfl (w.heap.size + 1) rfl (s1.blk 0 rfl) 12 5 Try.underlying24 HN.out ?_)
    | (go_at_call 11; refine (cB.out _).mono ?_; rintro e w2 ⟨rfl, b2⟩; have s2 := s1.below b2; clear s1 b2)
    | (refine wp_store_new rfl 28 (.tmp 8) (.tmp 29) rfl rfl _ (nv .u8 blk).toArray rfl HZB.out HSB.out (nv_one _ _) ?_; have hX0 := s2.lt _ (List.mem_cons_self); have s3 := s2.new 28 .u8 blk; clear s2)
    | fail)
  have s5 := s3.new 35 .u32 (kS key 0)
  rw [World.size_alloc] at s5
  refine at_world (fun W => LW w [(w2.heap.size + 1, 35, .u32, kS key 0), (w2.heap.size, 28, .u8, blk), (w.heap.size + 1, 24, .u8, nonce), (w.heap.size, 23, .u8, key)] [] W) s5 ?_
  clear s5 s3
  intro W5 s5
  obtain ⟨X, hX⟩ : ∃ X, X = w2.heap.size := ⟨_, rfl⟩
  rw [← hX] at s5 hX0 ⊢
  replace hX0 : w.heap.size + 1 < X := hX0
  clear hX w2
  have hne : ∀ e ∈ [(X, 28, IntKind.u8, blk), (w.heap.size + 1, 24, IntKind.u8, nonce), (w.heap.size, 23, IntKind.u8, key)], e.1 ≠ X + 1 := fun e he => by
    simp only [List.mem_cons, List.not_mem_nil, or_false] at he
    rcases he with rfl | rfl | rfl
    all_goals (dsimp only; omega)
  have HNE := Lib.hid hne
  clear hne
  go_loopw [10] (fun r wr => ∃ i : Nat, i ≤ 8 ∧ r = .int .i64 i ∧ LW w [(X + 1, 35, .u32, kS key i), (X, 28, .u8, blk), (w.heap.size + 1, 24, .u8, nonce), (w.heap.size, 23, .u8, key)] [] wr) (fun r _ => 8 - (intOf r).toNat)
  case atStart => exact ⟨0, by decide, rfl, s5⟩
  case round =>
    clear s5
    obtain ⟨i, hi, rfl, hS⟩ := hrel
    by_cases hlt : i < 8
    · as_aux_lemma =>
      obtain ⟨n0, hn0⟩ : ∃ n : Nat, 4 * i = n := ⟨_, rfl⟩
      obtain ⟨n1, hn1⟩ : ∃ n : Nat, 4 * i + 1 = n := ⟨_, rfl⟩
      obtain ⟨n2, hn2⟩ : ∃ n : Nat, 4 * i + 2 = n := ⟨_, rfl⟩
      obtain ⟨n3, hn3⟩ : ∃ n : Nat, 4 * i + 3 = n := ⟨_, rfl⟩
      obtain ⟨ni, hni⟩ : ∃ n : Nat, 4 + i = n := ⟨_, rfl⟩
      have w0 : IntKind.i64.wrap (4 * (i : Int)) = (n0 : Int) := by rw [IntKind.wrap_i64]; omega
      have w1 : IntKind.i64.wrap ((n0 : Int) + 1) = (n1 : Int) := by rw [IntKind.wrap_i64]; omega
      have w2 : IntKind.i64.wrap ((n0 : Int) + 2) = (n2 : Int) := by rw [IntKind.wrap_i64]; omega
      have w3 : IntKind.i64.wrap ((n0 : Int) + 3) = (n3 : Int) := by rw [IntKind.wrap_i64]; omega
      have wi : IntKind.i64.wrap (4 + (i : Int)) = (ni : Int) := by rw [IntKind.wrap_i64]; omega
      have g0 : (n0 : Int) < 32 := by omega
      have g1 : (n1 : Int) < 32 := by omega
      have g2 : (n2 : Int) < 32 := by omega
      have g3 : (n3 : Int) < 32 := by omega
      have gi : (ni : Int) < 16 := by omega
      obtain ⟨x0, hx0⟩ : ∃ x, x = key.getD n0 0 := ⟨_, rfl⟩
      obtain ⟨x1, hx1⟩ : ∃ x, x = key.getD n1 0 := ⟨_, rfl⟩
      obtain ⟨x2, hx2⟩ : ∃ x, x = key.getD n2 0 := ⟨_, rfl⟩
      obtain ⟨x3, hx3⟩ : ∃ x, x = key.getD n3 0 := ⟨_, rfl⟩
      have l0 : x0 < 256 := hx0 ▸ getD_b key hkb n0
      have l1 : x1 < 256 := hx1 ▸ getD_b key hkb n1
      have l2 : x2 < 256 := hx2 ▸ getD_b key hkb n2
      have l3 : x3 < 256 := hx3 ▸ getD_b key hkb n3
      have c0 : IntKind.u32.wrap (x0 : Int) = (x0 : Int) := by rw [IntKind.wrap_u32]; omega
      have c1 : IntKind.u32.wrap (x1 : Int) = (x1 : Int) := by rw [IntKind.wrap_u32]; omega
      have c2 : IntKind.u32.wrap (x2 : Int) = (x2 : Int) := by rw [IntKind.wrap_u32]; omega
      have c3 : IntKind.u32.wrap (x3 : Int) = (x3 : Int) := by rw [IntKind.wrap_u32]; omega
      have e1 : IntKind.u32.wrap ((x1 : Int) * 256) = (x1 : Int) * 256 := by rw [IntKind.wrap_u32]; omega
      have e2 : IntKind.u32.wrap ((x2 : Int) * 65536) = (x2 : Int) * 65536 := by rw [IntKind.wrap_u32]; omega
      have e3 : IntKind.u32.wrap ((x3 : Int) * 16777216) = (x3 : Int) * 16777216 := by rw [IntKind.wrap_u32]; omega
      obtain ⟨o1, o2, o3⟩ := or4 x0 x1 x2 x3 l0 l1 l2 l3
      have hnum : num key i = x0 + 256 * x1 + 65536 * x2 + 16777216 * x3 := by unfold num; rw [hn3, hn2, hn1, hn0, ← hx0, ← hx1, ← hx2, ← hx3]
      have hset := kS_set key i hlt
      rw [hni, hnum] at hset
      generalize x0 + 256 * x1 + 65536 * x2 + 16777216 * x3 = q3 at o3 hset
      generalize x0 + 256 * x1 + 65536 * x2 = q2 at o2 o3
      generalize x0 + 256 * x1 = q1 at o1 o2
      have HSET := Lib.hid hset
      have HX0 := Lib.hid hx0
      have HX1 := Lib.hid hx1
      have HX2 := Lib.hid hx2
      have HX3 := Lib.hid hx3
      have hnn := Lib.hid hni
      clear hx0 hx1 hx2 hx3 hnum hset hn0 hn1 hn2 hn3 hni
      have hSB := (hS.drew).blk 0 rfl
      have hSX : LW w [(X, 28, .u8, blk), (w.heap.size + 1, 24, .u8, nonce), (w.heap.size, 23, .u8, key)] [] (World.drew _) := ⟨fun e he => hS.drew.has e (List.mem_cons_of_mem _ he), hS.drew.rds, hS.drew.bel⟩
      clear hS
      go_wp2_with fail
      refine wp_region_held_drew (S := LW w [(X, 28, .u8, blk), (w.heap.size + 1, 24, .u8, nonce), (w.heap.size, 23, .u8, key)] []) (by kernel_rfl) (hSX) (fun hHeld => ?_)
      generalize World.drew _ = wv at hHeld hSB ⊢
      refine takeL (i := 0) (v := ?_) rfl rfl (by kernel_rfl) (by kernel_rfl) (by kernel_rfl) (fun _ _ _ h => h) (Or.inl ⟨by rfl, ?_⟩) (by assumption) ?_
      rotate_left
      · (intro w' hSw; go_simp; try with_reducible rfl)
      try simp only [Act.put, List.setIfInBounds_toArray, List.set_cons_zero, List.set_cons_succ]
      refine takeL (i := 1) (v := ?_) rfl rfl (by kernel_rfl) (by kernel_rfl) (by kernel_rfl) (fun _ _ _ h => h) (Or.inl ⟨by rfl, ?_⟩) (by assumption) ?_
      rotate_left
      · (intro w' hSw; go_simp; try with_reducible rfl)
      try simp only [Act.put, List.setIfInBounds_toArray, List.set_cons_zero, List.set_cons_succ]
      refine takeL (i := 2) (v := ?_) rfl rfl (by kernel_rfl) (by kernel_rfl) (by kernel_rfl) (fun _ _ _ h => h) (Or.inl ⟨by rfl, ?_⟩) (by assumption) ?_
      rotate_left
      · (intro w' hSw; go_simp; try with_reducible rfl)
      try simp only [Act.put, List.setIfInBounds_toArray, List.set_cons_zero, List.set_cons_succ]
      refine takeL (i := 3) (v := ?_) rfl rfl (by kernel_rfl) (by kernel_rfl) (by kernel_rfl) (fun _ _ _ h => h) (Or.inl ⟨by rfl, ?_⟩) (by assumption) ?_
      rotate_left
      · (intro w' hSw; go_simp; try with_reducible rfl)
      try simp only [Act.put, List.setIfInBounds_toArray, List.set_cons_zero, List.set_cons_succ]
      refine takeL (i := 4) (v := ?_) rfl rfl (by kernel_rfl) (by kernel_rfl) (by kernel_rfl) (fun _ _ _ h => h) (Or.inl ⟨by rfl, ?_⟩) (by assumption) ?_
      rotate_left
      · (intro w' hSw; go_simp; try with_reducible rfl)
      try simp only [Act.put, List.setIfInBounds_toArray, List.set_cons_zero, List.set_cons_succ]
      refine takeL (i := 5) (v := .int .u8 (x0 : Int)) rfl rfl (by kernel_rfl) (by kernel_rfl) (by kernel_rfl) (fun _ _ _ h => h) (Or.inl ⟨by rfl, ?_⟩) (by assumption) ?_
      · (intro w' hSw; have hc := (hSw.blk 2 rfl).cell n0 (by rw [HKL.out]; omega); rw [← HX0.out] at hc; go_simp; try with_reducible rfl)
      try simp only [Act.put, List.setIfInBounds_toArray, List.set_cons_zero, List.set_cons_succ]
      refine takeL (i := 6) (v := ?_) rfl rfl (by kernel_rfl) (by kernel_rfl) (by kernel_rfl) (fun _ _ _ h => h) (Or.inl ⟨by rfl, ?_⟩) (by assumption) ?_
      rotate_left
      · (intro w' hSw; go_simp; try with_reducible rfl)
      try simp only [Act.put, List.setIfInBounds_toArray, List.set_cons_zero, List.set_cons_succ]
      refine takeL (i := 7) (v := ?_) rfl rfl (by kernel_rfl) (by kernel_rfl) (by kernel_rfl) (fun _ _ _ h => h) (Or.inl ⟨by rfl, ?_⟩) (by assumption) ?_
      rotate_left
      · (intro w' hSw; go_simp; try with_reducible rfl)
      try simp only [Act.put, List.setIfInBounds_toArray, List.set_cons_zero, List.set_cons_succ]
      refine takeL (i := 8) (v := ?_) rfl rfl (by kernel_rfl) (by kernel_rfl) (by kernel_rfl) (fun _ _ _ h => h) (Or.inl ⟨by rfl, ?_⟩) (by assumption) ?_
      rotate_left
      · (intro w' hSw; go_simp; try with_reducible rfl)
      try simp only [Act.put, List.setIfInBounds_toArray, List.set_cons_zero, List.set_cons_succ]
      refine takeL (i := 9) (v := ?_) rfl rfl (by kernel_rfl) (by kernel_rfl) (by kernel_rfl) (fun _ _ _ h => h) (Or.inl ⟨by rfl, ?_⟩) (by assumption) ?_
      rotate_left
      · (intro w' hSw; go_simp; try with_reducible rfl)
      try simp only [Act.put, List.setIfInBounds_toArray, List.set_cons_zero, List.set_cons_succ]
      refine takeL (i := 10) (v := ?_) rfl rfl (by kernel_rfl) (by kernel_rfl) (by kernel_rfl) (fun _ _ _ h => h) (Or.inl ⟨by rfl, ?_⟩) (by assumption) ?_
      rotate_left
      · (intro w' hSw; go_simp; try with_reducible rfl)
      try simp only [Act.put, List.setIfInBounds_toArray, List.set_cons_zero, List.set_cons_succ]
      refine takeL (i := 11) (v := .int .u8 (x1 : Int)) rfl rfl (by kernel_rfl) (by kernel_rfl) (by kernel_rfl) (fun _ _ _ h => h) (Or.inl ⟨by rfl, ?_⟩) (by assumption) ?_
      · (intro w' hSw; have hc := (hSw.blk 2 rfl).cell n1 (by rw [HKL.out]; omega); rw [← HX1.out] at hc; go_simp; try with_reducible rfl)
      try simp only [Act.put, List.setIfInBounds_toArray, List.set_cons_zero, List.set_cons_succ]
      refine takeL (i := 12) (v := ?_) rfl rfl (by kernel_rfl) (by kernel_rfl) (by kernel_rfl) (fun _ _ _ h => h) (Or.inl ⟨by rfl, ?_⟩) (by assumption) ?_
      rotate_left
      · (intro w' hSw; go_simp; try with_reducible rfl)
      try simp only [Act.put, List.setIfInBounds_toArray, List.set_cons_zero, List.set_cons_succ]
      refine takeL (i := 13) (v := ?_) rfl rfl (by kernel_rfl) (by kernel_rfl) (by kernel_rfl) (fun _ _ _ h => h) (Or.inl ⟨by rfl, ?_⟩) (by assumption) ?_
      rotate_left
      · (intro w' hSw; go_simp; try with_reducible rfl)
      try simp only [Act.put, List.setIfInBounds_toArray, List.set_cons_zero, List.set_cons_succ]
      refine takeL (i := 14) (v := .int .u32 (q1 : Int)) rfl rfl (by kernel_rfl) (by kernel_rfl) (by kernel_rfl) (fun _ _ _ h => h) (Or.inl ⟨by rfl, ?_⟩) (by assumption) ?_
      · (intro w' hSw; go_simp; try with_reducible rfl)
      try simp only [Act.put, List.setIfInBounds_toArray, List.set_cons_zero, List.set_cons_succ]
      refine takeL (i := 15) (v := ?_) rfl rfl (by kernel_rfl) (by kernel_rfl) (by kernel_rfl) (fun _ _ _ h => h) (Or.inl ⟨by rfl, ?_⟩) (by assumption) ?_
      rotate_left
      · (intro w' hSw; go_simp; try with_reducible rfl)
      try simp only [Act.put, List.setIfInBounds_toArray, List.set_cons_zero, List.set_cons_succ]
      refine takeL (i := 16) (v := ?_) rfl rfl (by kernel_rfl) (by kernel_rfl) (by kernel_rfl) (fun _ _ _ h => h) (Or.inl ⟨by rfl, ?_⟩) (by assumption) ?_
      rotate_left
      · (intro w' hSw; go_simp; try with_reducible rfl)
      try simp only [Act.put, List.setIfInBounds_toArray, List.set_cons_zero, List.set_cons_succ]
      refine takeL (i := 17) (v := ?_) rfl rfl (by kernel_rfl) (by kernel_rfl) (by kernel_rfl) (fun _ _ _ h => h) (Or.inl ⟨by rfl, ?_⟩) (by assumption) ?_
      rotate_left
      · (intro w' hSw; go_simp; try with_reducible rfl)
      try simp only [Act.put, List.setIfInBounds_toArray, List.set_cons_zero, List.set_cons_succ]
      refine takeL (i := 18) (v := ?_) rfl rfl (by kernel_rfl) (by kernel_rfl) (by kernel_rfl) (fun _ _ _ h => h) (Or.inl ⟨by rfl, ?_⟩) (by assumption) ?_
      rotate_left
      · (intro w' hSw; go_simp; try with_reducible rfl)
      try simp only [Act.put, List.setIfInBounds_toArray, List.set_cons_zero, List.set_cons_succ]
      refine takeL (i := 19) (v := .int .u8 (x2 : Int)) rfl rfl (by kernel_rfl) (by kernel_rfl) (by kernel_rfl) (fun _ _ _ h => h) (Or.inl ⟨by rfl, ?_⟩) (by assumption) ?_
      · (intro w' hSw; have hc := (hSw.blk 2 rfl).cell n2 (by rw [HKL.out]; omega); rw [← HX2.out] at hc; go_simp; try with_reducible rfl)
      try simp only [Act.put, List.setIfInBounds_toArray, List.set_cons_zero, List.set_cons_succ]
      refine takeL (i := 20) (v := ?_) rfl rfl (by kernel_rfl) (by kernel_rfl) (by kernel_rfl) (fun _ _ _ h => h) (Or.inl ⟨by rfl, ?_⟩) (by assumption) ?_
      rotate_left
      · (intro w' hSw; go_simp; try with_reducible rfl)
      try simp only [Act.put, List.setIfInBounds_toArray, List.set_cons_zero, List.set_cons_succ]
      refine takeL (i := 21) (v := ?_) rfl rfl (by kernel_rfl) (by kernel_rfl) (by kernel_rfl) (fun _ _ _ h => h) (Or.inl ⟨by rfl, ?_⟩) (by assumption) ?_
      rotate_left
      · (intro w' hSw; go_simp; try with_reducible rfl)
      try simp only [Act.put, List.setIfInBounds_toArray, List.set_cons_zero, List.set_cons_succ]
      refine takeL (i := 22) (v := .int .u32 (q2 : Int)) rfl rfl (by kernel_rfl) (by kernel_rfl) (by kernel_rfl) (fun _ _ _ h => h) (Or.inl ⟨by rfl, ?_⟩) (by assumption) ?_
      · (intro w' hSw; go_simp; try with_reducible rfl)
      try simp only [Act.put, List.setIfInBounds_toArray, List.set_cons_zero, List.set_cons_succ]
      refine takeL (i := 23) (v := ?_) rfl rfl (by kernel_rfl) (by kernel_rfl) (by kernel_rfl) (fun _ _ _ h => h) (Or.inl ⟨by rfl, ?_⟩) (by assumption) ?_
      rotate_left
      · (intro w' hSw; go_simp; try with_reducible rfl)
      try simp only [Act.put, List.setIfInBounds_toArray, List.set_cons_zero, List.set_cons_succ]
      refine takeL (i := 24) (v := ?_) rfl rfl (by kernel_rfl) (by kernel_rfl) (by kernel_rfl) (fun _ _ _ h => h) (Or.inl ⟨by rfl, ?_⟩) (by assumption) ?_
      rotate_left
      · (intro w' hSw; go_simp; try with_reducible rfl)
      try simp only [Act.put, List.setIfInBounds_toArray, List.set_cons_zero, List.set_cons_succ]
      refine takeL (i := 25) (v := ?_) rfl rfl (by kernel_rfl) (by kernel_rfl) (by kernel_rfl) (fun _ _ _ h => h) (Or.inl ⟨by rfl, ?_⟩) (by assumption) ?_
      rotate_left
      · (intro w' hSw; go_simp; try with_reducible rfl)
      try simp only [Act.put, List.setIfInBounds_toArray, List.set_cons_zero, List.set_cons_succ]
      refine takeL (i := 26) (v := ?_) rfl rfl (by kernel_rfl) (by kernel_rfl) (by kernel_rfl) (fun _ _ _ h => h) (Or.inl ⟨by rfl, ?_⟩) (by assumption) ?_
      rotate_left
      · (intro w' hSw; go_simp; try with_reducible rfl)
      try simp only [Act.put, List.setIfInBounds_toArray, List.set_cons_zero, List.set_cons_succ]
      refine takeL (i := 27) (v := .int .u8 (x3 : Int)) rfl rfl (by kernel_rfl) (by kernel_rfl) (by kernel_rfl) (fun _ _ _ h => h) (Or.inl ⟨by rfl, ?_⟩) (by assumption) ?_
      · (intro w' hSw; have hc := (hSw.blk 2 rfl).cell n3 (by rw [HKL.out]; omega); rw [← HX3.out] at hc; go_simp; try with_reducible rfl)
      try simp only [Act.put, List.setIfInBounds_toArray, List.set_cons_zero, List.set_cons_succ]
      refine takeL (i := 28) (v := ?_) rfl rfl (by kernel_rfl) (by kernel_rfl) (by kernel_rfl) (fun _ _ _ h => h) (Or.inl ⟨by rfl, ?_⟩) (by assumption) ?_
      rotate_left
      · (intro w' hSw; go_simp; try with_reducible rfl)
      try simp only [Act.put, List.setIfInBounds_toArray, List.set_cons_zero, List.set_cons_succ]
      refine takeL (i := 29) (v := ?_) rfl rfl (by kernel_rfl) (by kernel_rfl) (by kernel_rfl) (fun _ _ _ h => h) (Or.inl ⟨by rfl, ?_⟩) (by assumption) ?_
      rotate_left
      · (intro w' hSw; go_simp; try with_reducible rfl)
      try simp only [Act.put, List.setIfInBounds_toArray, List.set_cons_zero, List.set_cons_succ]
      refine takeL (i := 30) (v := .int .u32 (q3 : Int)) rfl rfl (by kernel_rfl) (by kernel_rfl) (by kernel_rfl) (fun _ _ _ h => h) (Or.inl ⟨by rfl, ?_⟩) (by assumption) ?_
      · (intro w' hSw; go_simp; try with_reducible rfl)
      try simp only [Act.put, List.setIfInBounds_toArray, List.set_cons_zero, List.set_cons_succ]
      refine takeL (i := 31) (v := ?_) rfl rfl (by kernel_rfl) (by kernel_rfl) (by kernel_rfl) (fun _ _ _ h => h) (Or.inl ⟨by rfl, ?_⟩) (by assumption) ?_
      rotate_left
      · (intro w' hSw; go_simp; try with_reducible rfl)
      try simp only [Act.put, List.setIfInBounds_toArray, List.set_cons_zero, List.set_cons_succ]
      refine wpAnyH_ready (rs := [32]) (by kernel_rfl) (by simp) ?_
      refine consL rfl (fun K hK => ?_) AllReadyH.nil
      · rw [if_pos (by rfl)]
        refine wpo_store_blk (B := X + 1) (i := ni) (v := q3) rfl rfl rfl rfl HIU.out.1 HIU.out.2 hSB (by rw [kS_length key i (by omega)]; omega) ?_
        intro hSB2
        rw [HSET.out] at hSB2
        refine hK.out _ _ (hHeld.set (Z := X + 1) (by omega) HNE.out (by simp) _ _) (fun hHeld => ?_)
        clear hK K
        try simp only [Act.put, List.setIfInBounds_toArray, List.set_cons_zero, List.set_cons_succ]
        refine wpAnyH_done (by kernel_rfl) ?_ _
        go_wp2_with fail
        exact ⟨⟨i + 1, by omega, by go_num, hHeld.addB hSB2⟩, by simp [intOf]; omega⟩
    · obtain rfl : i = 8 := by omega
      have hcB := (hS.blk 0 rfl).cell 12 (by rw [kS_length key 8 (by decide)]; decide)
      have hfB := (hS.blk 0 rfl).frozen 12
      obtain ⟨w8, hW8⟩ : ∃ w8, wr.setCell ⟨X + 1, 12, none⟩ (.int .u32 ((ct : Nat) : Int)) = w8 := ⟨_, rfl⟩
      have s8 := hS.set1 (by omega) HNE.out (by simp) 12 ct
      rw [hW8, kS_ctr key ct nonce] at s8
      clear hS
      go_wp2_with fail
      clear hW8 hcB hfB
      go_loopw [11] (fun r wr => ∃ i : Nat, i ≤ 3 ∧ r = .int .i64 i ∧ LW w [(X + 1, 35, .u32, nS key ct nonce i), (X, 28, .u8, blk), (w.heap.size + 1, 24, .u8, nonce), (w.heap.size, 23, .u8, key)] [] wr) (fun r _ => 3 - (intOf r).toNat)
      case atStart => exact ⟨0, by decide, rfl, s8⟩
      case round =>
        clear s8
        obtain ⟨i, hi, rfl, hS⟩ := hrel
        by_cases hlt : i < 3
        · as_aux_lemma =>
          obtain ⟨n0, hn0⟩ : ∃ n : Nat, 4 * i = n := ⟨_, rfl⟩
          obtain ⟨n1, hn1⟩ : ∃ n : Nat, 4 * i + 1 = n := ⟨_, rfl⟩
          obtain ⟨n2, hn2⟩ : ∃ n : Nat, 4 * i + 2 = n := ⟨_, rfl⟩
          obtain ⟨n3, hn3⟩ : ∃ n : Nat, 4 * i + 3 = n := ⟨_, rfl⟩
          obtain ⟨ni, hni⟩ : ∃ n : Nat, 13 + i = n := ⟨_, rfl⟩
          have w0 : IntKind.i64.wrap (4 * (i : Int)) = (n0 : Int) := by rw [IntKind.wrap_i64]; omega
          have w1 : IntKind.i64.wrap ((n0 : Int) + 1) = (n1 : Int) := by rw [IntKind.wrap_i64]; omega
          have w2 : IntKind.i64.wrap ((n0 : Int) + 2) = (n2 : Int) := by rw [IntKind.wrap_i64]; omega
          have w3 : IntKind.i64.wrap ((n0 : Int) + 3) = (n3 : Int) := by rw [IntKind.wrap_i64]; omega
          have wi : IntKind.i64.wrap (13 + (i : Int)) = (ni : Int) := by rw [IntKind.wrap_i64]; omega
          have g0 : (n0 : Int) < 12 := by omega
          have g1 : (n1 : Int) < 12 := by omega
          have g2 : (n2 : Int) < 12 := by omega
          have g3 : (n3 : Int) < 12 := by omega
          have gi : (ni : Int) < 16 := by omega
          obtain ⟨x0, hx0⟩ : ∃ x, x = nonce.getD n0 0 := ⟨_, rfl⟩
          obtain ⟨x1, hx1⟩ : ∃ x, x = nonce.getD n1 0 := ⟨_, rfl⟩
          obtain ⟨x2, hx2⟩ : ∃ x, x = nonce.getD n2 0 := ⟨_, rfl⟩
          obtain ⟨x3, hx3⟩ : ∃ x, x = nonce.getD n3 0 := ⟨_, rfl⟩
          have l0 : x0 < 256 := hx0 ▸ getD_b nonce hnb n0
          have l1 : x1 < 256 := hx1 ▸ getD_b nonce hnb n1
          have l2 : x2 < 256 := hx2 ▸ getD_b nonce hnb n2
          have l3 : x3 < 256 := hx3 ▸ getD_b nonce hnb n3
          have c0 : IntKind.u32.wrap (x0 : Int) = (x0 : Int) := by rw [IntKind.wrap_u32]; omega
          have c1 : IntKind.u32.wrap (x1 : Int) = (x1 : Int) := by rw [IntKind.wrap_u32]; omega
          have c2 : IntKind.u32.wrap (x2 : Int) = (x2 : Int) := by rw [IntKind.wrap_u32]; omega
          have c3 : IntKind.u32.wrap (x3 : Int) = (x3 : Int) := by rw [IntKind.wrap_u32]; omega
          have e1 : IntKind.u32.wrap ((x1 : Int) * 256) = (x1 : Int) * 256 := by rw [IntKind.wrap_u32]; omega
          have e2 : IntKind.u32.wrap ((x2 : Int) * 65536) = (x2 : Int) * 65536 := by rw [IntKind.wrap_u32]; omega
          have e3 : IntKind.u32.wrap ((x3 : Int) * 16777216) = (x3 : Int) * 16777216 := by rw [IntKind.wrap_u32]; omega
          obtain ⟨o1, o2, o3⟩ := or4 x0 x1 x2 x3 l0 l1 l2 l3
          have hnum : num nonce i = x0 + 256 * x1 + 65536 * x2 + 16777216 * x3 := by unfold num; rw [hn3, hn2, hn1, hn0, ← hx0, ← hx1, ← hx2, ← hx3]
          have hset := nS_set key ct nonce i hlt
          rw [hni, hnum] at hset
          generalize x0 + 256 * x1 + 65536 * x2 + 16777216 * x3 = q3 at o3 hset
          generalize x0 + 256 * x1 + 65536 * x2 = q2 at o2 o3
          generalize x0 + 256 * x1 = q1 at o1 o2
          have HSET := Lib.hid hset
          have HX0 := Lib.hid hx0
          have HX1 := Lib.hid hx1
          have HX2 := Lib.hid hx2
          have HX3 := Lib.hid hx3
          have hnn := Lib.hid hni
          clear hx0 hx1 hx2 hx3 hnum hset hn0 hn1 hn2 hn3 hni
          have hSB := (hS.drew).blk 0 rfl
          have hSX : LW w [(X, 28, .u8, blk), (w.heap.size + 1, 24, .u8, nonce), (w.heap.size, 23, .u8, key)] [] (World.drew _) := ⟨fun e he => hS.drew.has e (List.mem_cons_of_mem _ he), hS.drew.rds, hS.drew.bel⟩
          clear hS
          go_wp2_with fail
          refine wp_region_held_drew (S := LW w [(X, 28, .u8, blk), (w.heap.size + 1, 24, .u8, nonce), (w.heap.size, 23, .u8, key)] []) (by kernel_rfl) (hSX) (fun hHeld => ?_)
          generalize World.drew _ = wv at hHeld hSB ⊢
          refine takeL (i := 0) (v := ?_) rfl rfl (by kernel_rfl) (by kernel_rfl) (by kernel_rfl) (fun _ _ _ h => h) (Or.inl ⟨by rfl, ?_⟩) (by assumption) ?_
          rotate_left
          · (intro w' hSw; go_simp; try with_reducible rfl)
          try simp only [Act.put, List.setIfInBounds_toArray, List.set_cons_zero, List.set_cons_succ]
          refine takeL (i := 1) (v := ?_) rfl rfl (by kernel_rfl) (by kernel_rfl) (by kernel_rfl) (fun _ _ _ h => h) (Or.inl ⟨by rfl, ?_⟩) (by assumption) ?_
          rotate_left
          · (intro w' hSw; go_simp; try with_reducible rfl)
          try simp only [Act.put, List.setIfInBounds_toArray, List.set_cons_zero, List.set_cons_succ]
          refine takeL (i := 2) (v := ?_) rfl rfl (by kernel_rfl) (by kernel_rfl) (by kernel_rfl) (fun _ _ _ h => h) (Or.inl ⟨by rfl, ?_⟩) (by assumption) ?_
          rotate_left
          · (intro w' hSw; go_simp; try with_reducible rfl)
          try simp only [Act.put, List.setIfInBounds_toArray, List.set_cons_zero, List.set_cons_succ]
          refine takeL (i := 3) (v := ?_) rfl rfl (by kernel_rfl) (by kernel_rfl) (by kernel_rfl) (fun _ _ _ h => h) (Or.inl ⟨by rfl, ?_⟩) (by assumption) ?_
          rotate_left
          · (intro w' hSw; go_simp; try with_reducible rfl)
          try simp only [Act.put, List.setIfInBounds_toArray, List.set_cons_zero, List.set_cons_succ]
          refine takeL (i := 4) (v := ?_) rfl rfl (by kernel_rfl) (by kernel_rfl) (by kernel_rfl) (fun _ _ _ h => h) (Or.inl ⟨by rfl, ?_⟩) (by assumption) ?_
          rotate_left
          · (intro w' hSw; go_simp; try with_reducible rfl)
          try simp only [Act.put, List.setIfInBounds_toArray, List.set_cons_zero, List.set_cons_succ]
          refine takeL (i := 5) (v := .int .u8 (x0 : Int)) rfl rfl (by kernel_rfl) (by kernel_rfl) (by kernel_rfl) (fun _ _ _ h => h) (Or.inl ⟨by rfl, ?_⟩) (by assumption) ?_
          · (intro w' hSw; have hc := (hSw.blk 1 rfl).cell n0 (by rw [HNL.out]; omega); rw [← HX0.out] at hc; go_simp; try with_reducible rfl)
          try simp only [Act.put, List.setIfInBounds_toArray, List.set_cons_zero, List.set_cons_succ]
          refine takeL (i := 6) (v := ?_) rfl rfl (by kernel_rfl) (by kernel_rfl) (by kernel_rfl) (fun _ _ _ h => h) (Or.inl ⟨by rfl, ?_⟩) (by assumption) ?_
          rotate_left
          · (intro w' hSw; go_simp; try with_reducible rfl)
          try simp only [Act.put, List.setIfInBounds_toArray, List.set_cons_zero, List.set_cons_succ]
          refine takeL (i := 7) (v := ?_) rfl rfl (by kernel_rfl) (by kernel_rfl) (by kernel_rfl) (fun _ _ _ h => h) (Or.inl ⟨by rfl, ?_⟩) (by assumption) ?_
          rotate_left
          · (intro w' hSw; go_simp; try with_reducible rfl)
          try simp only [Act.put, List.setIfInBounds_toArray, List.set_cons_zero, List.set_cons_succ]
          refine takeL (i := 8) (v := ?_) rfl rfl (by kernel_rfl) (by kernel_rfl) (by kernel_rfl) (fun _ _ _ h => h) (Or.inl ⟨by rfl, ?_⟩) (by assumption) ?_
          rotate_left
          · (intro w' hSw; go_simp; try with_reducible rfl)
          try simp only [Act.put, List.setIfInBounds_toArray, List.set_cons_zero, List.set_cons_succ]
          refine takeL (i := 9) (v := ?_) rfl rfl (by kernel_rfl) (by kernel_rfl) (by kernel_rfl) (fun _ _ _ h => h) (Or.inl ⟨by rfl, ?_⟩) (by assumption) ?_
          rotate_left
          · (intro w' hSw; go_simp; try with_reducible rfl)
          try simp only [Act.put, List.setIfInBounds_toArray, List.set_cons_zero, List.set_cons_succ]
          refine takeL (i := 10) (v := ?_) rfl rfl (by kernel_rfl) (by kernel_rfl) (by kernel_rfl) (fun _ _ _ h => h) (Or.inl ⟨by rfl, ?_⟩) (by assumption) ?_
          rotate_left
          · (intro w' hSw; go_simp; try with_reducible rfl)
          try simp only [Act.put, List.setIfInBounds_toArray, List.set_cons_zero, List.set_cons_succ]
          refine takeL (i := 11) (v := .int .u8 (x1 : Int)) rfl rfl (by kernel_rfl) (by kernel_rfl) (by kernel_rfl) (fun _ _ _ h => h) (Or.inl ⟨by rfl, ?_⟩) (by assumption) ?_
          · (intro w' hSw; have hc := (hSw.blk 1 rfl).cell n1 (by rw [HNL.out]; omega); rw [← HX1.out] at hc; go_simp; try with_reducible rfl)
          try simp only [Act.put, List.setIfInBounds_toArray, List.set_cons_zero, List.set_cons_succ]
          refine takeL (i := 12) (v := ?_) rfl rfl (by kernel_rfl) (by kernel_rfl) (by kernel_rfl) (fun _ _ _ h => h) (Or.inl ⟨by rfl, ?_⟩) (by assumption) ?_
          rotate_left
          · (intro w' hSw; go_simp; try with_reducible rfl)
          try simp only [Act.put, List.setIfInBounds_toArray, List.set_cons_zero, List.set_cons_succ]
          refine takeL (i := 13) (v := ?_) rfl rfl (by kernel_rfl) (by kernel_rfl) (by kernel_rfl) (fun _ _ _ h => h) (Or.inl ⟨by rfl, ?_⟩) (by assumption) ?_
          rotate_left
          · (intro w' hSw; go_simp; try with_reducible rfl)
          try simp only [Act.put, List.setIfInBounds_toArray, List.set_cons_zero, List.set_cons_succ]
          refine takeL (i := 14) (v := .int .u32 (q1 : Int)) rfl rfl (by kernel_rfl) (by kernel_rfl) (by kernel_rfl) (fun _ _ _ h => h) (Or.inl ⟨by rfl, ?_⟩) (by assumption) ?_
          · (intro w' hSw; go_simp; try with_reducible rfl)
          try simp only [Act.put, List.setIfInBounds_toArray, List.set_cons_zero, List.set_cons_succ]
          refine takeL (i := 15) (v := ?_) rfl rfl (by kernel_rfl) (by kernel_rfl) (by kernel_rfl) (fun _ _ _ h => h) (Or.inl ⟨by rfl, ?_⟩) (by assumption) ?_
          rotate_left
          · (intro w' hSw; go_simp; try with_reducible rfl)
          try simp only [Act.put, List.setIfInBounds_toArray, List.set_cons_zero, List.set_cons_succ]
          refine takeL (i := 16) (v := ?_) rfl rfl (by kernel_rfl) (by kernel_rfl) (by kernel_rfl) (fun _ _ _ h => h) (Or.inl ⟨by rfl, ?_⟩) (by assumption) ?_
          rotate_left
          · (intro w' hSw; go_simp; try with_reducible rfl)
          try simp only [Act.put, List.setIfInBounds_toArray, List.set_cons_zero, List.set_cons_succ]
          refine takeL (i := 17) (v := ?_) rfl rfl (by kernel_rfl) (by kernel_rfl) (by kernel_rfl) (fun _ _ _ h => h) (Or.inl ⟨by rfl, ?_⟩) (by assumption) ?_
          rotate_left
          · (intro w' hSw; go_simp; try with_reducible rfl)
          try simp only [Act.put, List.setIfInBounds_toArray, List.set_cons_zero, List.set_cons_succ]
          refine takeL (i := 18) (v := ?_) rfl rfl (by kernel_rfl) (by kernel_rfl) (by kernel_rfl) (fun _ _ _ h => h) (Or.inl ⟨by rfl, ?_⟩) (by assumption) ?_
          rotate_left
          · (intro w' hSw; go_simp; try with_reducible rfl)
          try simp only [Act.put, List.setIfInBounds_toArray, List.set_cons_zero, List.set_cons_succ]
          refine takeL (i := 19) (v := .int .u8 (x2 : Int)) rfl rfl (by kernel_rfl) (by kernel_rfl) (by kernel_rfl) (fun _ _ _ h => h) (Or.inl ⟨by rfl, ?_⟩) (by assumption) ?_
          · (intro w' hSw; have hc := (hSw.blk 1 rfl).cell n2 (by rw [HNL.out]; omega); rw [← HX2.out] at hc; go_simp; try with_reducible rfl)
          try simp only [Act.put, List.setIfInBounds_toArray, List.set_cons_zero, List.set_cons_succ]
          refine takeL (i := 20) (v := ?_) rfl rfl (by kernel_rfl) (by kernel_rfl) (by kernel_rfl) (fun _ _ _ h => h) (Or.inl ⟨by rfl, ?_⟩) (by assumption) ?_
          rotate_left
          · (intro w' hSw; go_simp; try with_reducible rfl)
          try simp only [Act.put, List.setIfInBounds_toArray, List.set_cons_zero, List.set_cons_succ]
          refine takeL (i := 21) (v := ?_) rfl rfl (by kernel_rfl) (by kernel_rfl) (by kernel_rfl) (fun _ _ _ h => h) (Or.inl ⟨by rfl, ?_⟩) (by assumption) ?_
          rotate_left
          · (intro w' hSw; go_simp; try with_reducible rfl)
          try simp only [Act.put, List.setIfInBounds_toArray, List.set_cons_zero, List.set_cons_succ]
          refine takeL (i := 22) (v := .int .u32 (q2 : Int)) rfl rfl (by kernel_rfl) (by kernel_rfl) (by kernel_rfl) (fun _ _ _ h => h) (Or.inl ⟨by rfl, ?_⟩) (by assumption) ?_
          · (intro w' hSw; go_simp; try with_reducible rfl)
          try simp only [Act.put, List.setIfInBounds_toArray, List.set_cons_zero, List.set_cons_succ]
          refine takeL (i := 23) (v := ?_) rfl rfl (by kernel_rfl) (by kernel_rfl) (by kernel_rfl) (fun _ _ _ h => h) (Or.inl ⟨by rfl, ?_⟩) (by assumption) ?_
          rotate_left
          · (intro w' hSw; go_simp; try with_reducible rfl)
          try simp only [Act.put, List.setIfInBounds_toArray, List.set_cons_zero, List.set_cons_succ]
          refine takeL (i := 24) (v := ?_) rfl rfl (by kernel_rfl) (by kernel_rfl) (by kernel_rfl) (fun _ _ _ h => h) (Or.inl ⟨by rfl, ?_⟩) (by assumption) ?_
          rotate_left
          · (intro w' hSw; go_simp; try with_reducible rfl)
          try simp only [Act.put, List.setIfInBounds_toArray, List.set_cons_zero, List.set_cons_succ]
          refine takeL (i := 25) (v := ?_) rfl rfl (by kernel_rfl) (by kernel_rfl) (by kernel_rfl) (fun _ _ _ h => h) (Or.inl ⟨by rfl, ?_⟩) (by assumption) ?_
          rotate_left
          · (intro w' hSw; go_simp; try with_reducible rfl)
          try simp only [Act.put, List.setIfInBounds_toArray, List.set_cons_zero, List.set_cons_succ]
          refine takeL (i := 26) (v := ?_) rfl rfl (by kernel_rfl) (by kernel_rfl) (by kernel_rfl) (fun _ _ _ h => h) (Or.inl ⟨by rfl, ?_⟩) (by assumption) ?_
          rotate_left
          · (intro w' hSw; go_simp; try with_reducible rfl)
          try simp only [Act.put, List.setIfInBounds_toArray, List.set_cons_zero, List.set_cons_succ]
          refine takeL (i := 27) (v := .int .u8 (x3 : Int)) rfl rfl (by kernel_rfl) (by kernel_rfl) (by kernel_rfl) (fun _ _ _ h => h) (Or.inl ⟨by rfl, ?_⟩) (by assumption) ?_
          · (intro w' hSw; have hc := (hSw.blk 1 rfl).cell n3 (by rw [HNL.out]; omega); rw [← HX3.out] at hc; go_simp; try with_reducible rfl)
          try simp only [Act.put, List.setIfInBounds_toArray, List.set_cons_zero, List.set_cons_succ]
          refine takeL (i := 28) (v := ?_) rfl rfl (by kernel_rfl) (by kernel_rfl) (by kernel_rfl) (fun _ _ _ h => h) (Or.inl ⟨by rfl, ?_⟩) (by assumption) ?_
          rotate_left
          · (intro w' hSw; go_simp; try with_reducible rfl)
          try simp only [Act.put, List.setIfInBounds_toArray, List.set_cons_zero, List.set_cons_succ]
          refine takeL (i := 29) (v := ?_) rfl rfl (by kernel_rfl) (by kernel_rfl) (by kernel_rfl) (fun _ _ _ h => h) (Or.inl ⟨by rfl, ?_⟩) (by assumption) ?_
          rotate_left
          · (intro w' hSw; go_simp; try with_reducible rfl)
          try simp only [Act.put, List.setIfInBounds_toArray, List.set_cons_zero, List.set_cons_succ]
          refine takeL (i := 30) (v := .int .u32 (q3 : Int)) rfl rfl (by kernel_rfl) (by kernel_rfl) (by kernel_rfl) (fun _ _ _ h => h) (Or.inl ⟨by rfl, ?_⟩) (by assumption) ?_
          · (intro w' hSw; go_simp; try with_reducible rfl)
          try simp only [Act.put, List.setIfInBounds_toArray, List.set_cons_zero, List.set_cons_succ]
          refine takeL (i := 31) (v := ?_) rfl rfl (by kernel_rfl) (by kernel_rfl) (by kernel_rfl) (fun _ _ _ h => h) (Or.inl ⟨by rfl, ?_⟩) (by assumption) ?_
          rotate_left
          · (intro w' hSw; go_simp; try with_reducible rfl)
          try simp only [Act.put, List.setIfInBounds_toArray, List.set_cons_zero, List.set_cons_succ]
          refine wpAnyH_ready (rs := [32]) (by kernel_rfl) (by simp) ?_
          refine consL rfl (fun K hK => ?_) AllReadyH.nil
          · rw [if_pos (by rfl)]
            refine wpo_store_blk (B := X + 1) (i := ni) (v := q3) rfl rfl rfl rfl HIU.out.1 HIU.out.2 hSB (by rw [nS_length key ct nonce i (by omega)]; omega) ?_
            intro hSB2
            rw [HSET.out] at hSB2
            refine hK.out _ _ (hHeld.set (Z := X + 1) (by omega) HNE.out (by simp) _ _) (fun hHeld => ?_)
            clear hK K
            try simp only [Act.put, List.setIfInBounds_toArray, List.set_cons_zero, List.set_cons_succ]
            refine wpAnyH_done (by kernel_rfl) ?_ _
            go_wp2_with fail
            exact ⟨⟨i + 1, by omega, by go_num, hHeld.addB hSB2⟩, by simp [intOf]; omega⟩
        · obtain rfl : i = 3 := by omega
          rw [nS_end] at hS
          obtain ⟨s0, hs0⟩ : ∃ s0, s0 = start key ct nonce := ⟨_, rfl⟩
          rw [← hs0] at hS hst HBK
          clear hs0
          have HZ2 : Hid ((nv .u32 s0).toArray.size = 16) := Lib.hid (by simp [nv, hst.1])
          have HZ1 : Hid ((Try.prog.info? 35).map (·.size) = some (nv .u32 s0).toArray.size) := Lib.hid (by rw [HZ2.out]; kernel_rfl)
          have HZ3 : Hid ((Try.prog.info? 35).map (·.size) = some s0.length) := Lib.hid (by rw [hst.1]; kernel_rfl)
          go_wp2_with (first
            | (refine wp_load_arr rfl 35 (.tmp 9) rfl (X + 1) rfl (hS.blk 0 rfl) 16 22 Try.underlying35 HZ3.out ?_)
            | (refine wp_store_new rfl 35 (.tmp 12) (.tmp 105) rfl rfl _ (nv .u32 s0).toArray rfl HZ1.out HZ2.out.symm (nv_one _ _) ?_)
            | fail)
          have hY0 := hS.lt _ (List.mem_cons_self)
          have s9 := hS.new 35 .u32 s0
          obtain ⟨Y, hY⟩ : ∃ Y, Y = wr.heap.size := ⟨_, rfl⟩
          rw [← hY] at s9 hY0 ⊢
          replace hY0 : X + 1 < Y := hY0
          have s9b : LW w [(X + 1, 35, .u32, s0), (Y, 35, .u32, s0), (X, 28, .u8, blk), (w.heap.size + 1, 24, .u8, nonce), (w.heap.size, 23, .u8, key)] [] _ := ⟨fun e he => s9.has e (by
            simp only [List.mem_cons, List.not_mem_nil, or_false] at he ⊢
            rcases he with h | h | h | h | h <;> simp [h]), s9.rds, s9.bel⟩
          refine at_world (fun W => LW w [(X + 1, 35, .u32, s0), (Y, 35, .u32, s0), (X, 28, .u8, blk), (w.heap.size + 1, 24, .u8, nonce), (w.heap.size, 23, .u8, key)] [] W) s9b ?_
          clear s9 s9b hY hS
          intro W9 s9
          have hne : ∀ e ∈ [(Y, 35, IntKind.u32, s0), (X, 28, IntKind.u8, blk), (w.heap.size + 1, 24, IntKind.u8, nonce), (w.heap.size, 23, IntKind.u8, key)], e.1 ≠ X + 1 := fun e he => by
            simp only [List.mem_cons, List.not_mem_nil, or_false] at he
            rcases he with rfl | rfl | rfl | rfl
            all_goals (dsimp only; omega)
          have HNE2 := Lib.hid hne
          clear hne
          go_loopw [13] (fun r wr => ∃ n : Nat, n ≤ 20 ∧ r = .int .i64 n ∧ LW w [(X + 1, 35, .u32, roundsN s0 n), (Y, 35, .u32, s0), (X, 28, .u8, blk), (w.heap.size + 1, 24, .u8, nonce), (w.heap.size, 23, .u8, key)] [] wr) (fun r _ => 20 - (intOf r).toNat)
          case atStart => exact ⟨0, by decide, rfl, by rw [roundsN_zero]; exact s9⟩
          case round =>
            clear s9
            obtain ⟨n, hn20, rfl, hS⟩ := hrel
            by_cases hlt : n < 20
            · have e20 : decide ((n : Int) < 20) = true := decide_eq_true (by omega)
              have HLT := Lib.hid hlt
              clear hlt hn20
              go_wp2_with fail
              obtain ⟨wo, hwo⟩ : ∃ wo : World, wo = wr := ⟨_, rfl⟩
              rw [← hwo] at hS ⊢
              clear hwo
              have hsr := roundsN_ok hst n
              have HS2 := Lib.hid (roundsN_succ s0 n)
              obtain ⟨t, ht⟩ : ∃ t : Nat, t = n % 2 := ⟨_, rfl⟩
              have htm : (n : Int) % 2 = (t : Int) := by omega
              have ht2 : t < 2 := by omega
              rw [← ht] at HS2
              clear ht
              generalize roundsN s0 n = st at hS hsr HS2
              go_loopw [14] (fun r wr => ∃ i : Nat, i ≤ 4 ∧ r = .int .i64 i ∧ LW w [(X + 1, 35, .u32, steps4 st t i), (Y, 35, .u32, s0), (X, 28, .u8, blk), (w.heap.size + 1, 24, .u8, nonce), (w.heap.size, 23, .u8, key)] [] wr) (fun r _ => 4 - (intOf r).toNat)
              case atStart => exact ⟨0, by decide, rfl, by rw [steps4_zero]; exact hS⟩
              case round =>
                clear hS
                obtain ⟨i, hi4, rfl, hS⟩ := hrel
                by_cases hlti : i < 4
                · as_aux_lemma =>
                  have hsi := steps4_ok hsr t i
                  have HI2 := Lib.hid (steps4_succ st t i)
                  generalize steps4 st t i = si at hS hsi HI2
                  obtain ⟨b, hb⟩ : ∃ b, b = 4 + (i + t) % 4 := ⟨_, rfl⟩
                  obtain ⟨c, hcc⟩ : ∃ c, c = 8 + (i + 2 * t) % 4 := ⟨_, rfl⟩
                  obtain ⟨d, hd⟩ : ∃ d, d = 12 + (i + 3 * t) % 4 := ⟨_, rfl⟩
                  have eb : (4 : Int) + ((i : Int) + (t : Int)) % 4 = (b : Int) := by omega
                  have ec : (8 : Int) + ((i : Int) + 2 * (t : Int)) % 4 = (c : Int) := by omega
                  have ed : (12 : Int) + ((i : Int) + 3 * (t : Int)) % 4 = (d : Int) := by omega
                  have a1 : (i : Int) < 16 := by omega
                  have b1 : (b : Int) < 16 := by omega
                  have c1 : (c : Int) < 16 := by omega
                  have d1 : (d : Int) < 16 := by omega
                  rw [step_eq, ← hb, ← hcc, ← hd] at HI2
                  clear hb hcc hd
                  obtain ⟨q, hq⟩ : ∃ q, q = quarter ⟨si.getD i 0, si.getD b 0, si.getD c 0, si.getD d 0⟩ := ⟨_, rfl⟩
                  have HQ := Lib.hid (qs_eq si i b c d q hq)
                  have h1 := okS_get hsi i
                  have h2 := okS_get hsi b
                  have h3 := okS_get hsi c
                  have h4 := okS_get hsi d
                  have cq := Lib.hid (fun W => Quarter_any (si.getD i 0) (si.getD b 0) (si.getD c 0) (si.getD d 0) W ⟨h1, h2, h3, h4⟩)
                  rw [← hq] at cq
                  clear hq h1 h2 h3 h4
                  obtain ⟨qa, qb, qc, qd⟩ := q
                  have HSL := Lib.hid hsi.1
                  obtain ⟨v0, hv0⟩ : ∃ v, v = si.getD i 0 := ⟨_, rfl⟩
                  obtain ⟨v1, hv1⟩ : ∃ v, v = si.getD b 0 := ⟨_, rfl⟩
                  obtain ⟨v2, hv2⟩ : ∃ v, v = si.getD c 0 := ⟨_, rfl⟩
                  obtain ⟨v3, hv3⟩ : ∃ v, v = si.getD d 0 := ⟨_, rfl⟩
                  rw [← hv0, ← hv1, ← hv2, ← hv3] at cq
                  have HV0 := Lib.hid hv0
                  have HV1 := Lib.hid hv1
                  have HV2 := Lib.hid hv2
                  have HV3 := Lib.hid hv3
                  clear hv0 hv1 hv2 hv3
                  go_wp2_with fail
                  refine wp_region_class (LW w [(X + 1, 35, .u32, si), (Y, 35, .u32, s0), (X, 28, .u8, blk), (w.heap.size + 1, 24, .u8, nonce), (w.heap.size, 23, .u8, key)] []) (by kernel_rfl) (by kernel_rfl) (hS.drew) ?_
                  refine qY (v := ?_) rfl ?_ ?_
                  rotate_left
                  · (intro w' _; go_simp; try with_reducible rfl)
                  rotate_left
                  try simp only [Act.put, List.setIfInBounds_toArray, List.set_cons_zero, List.set_cons_succ]
                  refine qY (v := ?_) rfl ?_ ?_
                  rotate_left
                  · (intro w' _; go_simp; try with_reducible rfl)
                  rotate_left
                  try simp only [Act.put, List.setIfInBounds_toArray, List.set_cons_zero, List.set_cons_succ]
                  refine qY (v := .int .u32 (v0 : Int)) rfl ?_ ?_
                  · (intro w' hC; have hc := (hC.blk 0 rfl).cell i (by rw [HSL.out]; omega); rw [← HV0.out] at hc; go_simp; try with_reducible rfl)
                  try simp only [Act.put, List.setIfInBounds_toArray, List.set_cons_zero, List.set_cons_succ]
                  refine qY (v := ?_) rfl ?_ ?_
                  rotate_left
                  · (intro w' _; go_simp; try with_reducible rfl)
                  rotate_left
                  try simp only [Act.put, List.setIfInBounds_toArray, List.set_cons_zero, List.set_cons_succ]
                  refine qY (v := ?_) rfl ?_ ?_
                  rotate_left
                  · (intro w' _; go_simp; try with_reducible rfl)
                  rotate_left
                  try simp only [Act.put, List.setIfInBounds_toArray, List.set_cons_zero, List.set_cons_succ]
                  refine qY (v := .int .u32 (v1 : Int)) rfl ?_ ?_
                  · (intro w' hC; have hc := (hC.blk 0 rfl).cell b (by rw [HSL.out]; omega); rw [← HV1.out] at hc; go_simp; try with_reducible rfl)
                  try simp only [Act.put, List.setIfInBounds_toArray, List.set_cons_zero, List.set_cons_succ]
                  refine qY (v := ?_) rfl ?_ ?_
                  rotate_left
                  · (intro w' _; go_simp; try with_reducible rfl)
                  rotate_left
                  try simp only [Act.put, List.setIfInBounds_toArray, List.set_cons_zero, List.set_cons_succ]
                  refine qY (v := ?_) rfl ?_ ?_
                  rotate_left
                  · (intro w' _; go_simp; try with_reducible rfl)
                  rotate_left
                  try simp only [Act.put, List.setIfInBounds_toArray, List.set_cons_zero, List.set_cons_succ]
                  refine qY (v := .int .u32 (v2 : Int)) rfl ?_ ?_
                  · (intro w' hC; have hc := (hC.blk 0 rfl).cell c (by rw [HSL.out]; omega); rw [← HV2.out] at hc; go_simp; try with_reducible rfl)
                  try simp only [Act.put, List.setIfInBounds_toArray, List.set_cons_zero, List.set_cons_succ]
                  refine qY (v := ?_) rfl ?_ ?_
                  rotate_left
                  · (intro w' _; go_simp; try with_reducible rfl)
                  rotate_left
                  try simp only [Act.put, List.setIfInBounds_toArray, List.set_cons_zero, List.set_cons_succ]
                  refine qY (v := ?_) rfl ?_ ?_
                  rotate_left
                  · (intro w' _; go_simp; try with_reducible rfl)
                  rotate_left
                  try simp only [Act.put, List.setIfInBounds_toArray, List.set_cons_zero, List.set_cons_succ]
                  refine qY (v := .int .u32 (v3 : Int)) rfl ?_ ?_
                  · (intro w' hC; have hc := (hC.blk 0 rfl).cell d (by rw [HSL.out]; omega); rw [← HV3.out] at hc; go_simp; try with_reducible rfl)
                  try simp only [Act.put, List.setIfInBounds_toArray, List.set_cons_zero, List.set_cons_succ]
                  refine qC (f := 9) (args := #[.int .u32 (v0 : Int), .int .u32 (v1 : Int), .int .u32 (v2 : Int), .int .u32 (v3 : Int)]) (v := .tuple #[.int .u32 (qa : Int), .int .u32 (qb : Int), .int .u32 (qc : Int), .int .u32 (qd : Int)]) rfl ?_ (fun W hW => (cq.out W).mono (fun e w' h => ⟨h.1, hW.below h.2⟩)) ?_
                  · (intro w' _; go_simp; try with_reducible rfl)
                  try simp only [Act.put, List.setIfInBounds_toArray, List.set_cons_zero, List.set_cons_succ]
                  refine qY (v := ?_) rfl ?_ ?_
                  rotate_left
                  · (intro w' _; go_simp; try with_reducible rfl)
                  rotate_left
                  try simp only [Act.put, List.setIfInBounds_toArray, List.set_cons_zero, List.set_cons_succ]
                  refine qY (v := ?_) rfl ?_ ?_
                  rotate_left
                  · (intro w' _; go_simp; try with_reducible rfl)
                  rotate_left
                  try simp only [Act.put, List.setIfInBounds_toArray, List.set_cons_zero, List.set_cons_succ]
                  refine qY (v := ?_) rfl ?_ ?_
                  rotate_left
                  · (intro w' _; go_simp; try with_reducible rfl)
                  rotate_left
                  try simp only [Act.put, List.setIfInBounds_toArray, List.set_cons_zero, List.set_cons_succ]
                  refine qY (v := ?_) rfl ?_ ?_
                  rotate_left
                  · (intro w' _; go_simp; try with_reducible rfl)
                  rotate_left
                  try simp only [Act.put, List.setIfInBounds_toArray, List.set_cons_zero, List.set_cons_succ]
                  refine qY (v := ?_) rfl ?_ ?_
                  rotate_left
                  · (intro w' _; go_simp; try with_reducible rfl)
                  rotate_left
                  try simp only [Act.put, List.setIfInBounds_toArray, List.set_cons_zero, List.set_cons_succ]
                  refine qY (v := ?_) rfl ?_ ?_
                  rotate_left
                  · (intro w' _; go_simp; try with_reducible rfl)
                  rotate_left
                  try simp only [Act.put, List.setIfInBounds_toArray, List.set_cons_zero, List.set_cons_succ]
                  refine qY (v := ?_) rfl ?_ ?_
                  rotate_left
                  · (intro w' _; go_simp; try with_reducible rfl)
                  rotate_left
                  try simp only [Act.put, List.setIfInBounds_toArray, List.set_cons_zero, List.set_cons_succ]
                  refine qY (v := ?_) rfl ?_ ?_
                  rotate_left
                  · (intro w' _; go_simp; try with_reducible rfl)
                  rotate_left
                  try simp only [Act.put, List.setIfInBounds_toArray, List.set_cons_zero, List.set_cons_succ]
                  refine qY (v := ?_) rfl ?_ ?_
                  rotate_left
                  · (intro w' _; go_simp; try with_reducible rfl)
                  rotate_left
                  try simp only [Act.put, List.setIfInBounds_toArray, List.set_cons_zero, List.set_cons_succ]
                  refine wpQuiet_nil ?_
                  intro wz sZ
                  have hcsA := (sZ.blk 0 rfl).cell i (by (try simp only [List.length_set]); rw [HSL.out]; omega)
                  have hfsA := (sZ.blk 0 rfl).frozen i
                  obtain ⟨wsA, hWsA⟩ : ∃ w', wz.setCell ⟨X + 1, i, none⟩ (.int .u32 ((qa : Nat) : Int)) = w' := ⟨_, rfl⟩
                  have sA := sZ.set1 (by omega) HNE2.out (by simp) i qa
                  rw [hWsA] at sA
                  have hcsB := (sA.blk 0 rfl).cell b (by (try simp only [List.length_set]); rw [HSL.out]; omega)
                  have hfsB := (sA.blk 0 rfl).frozen b
                  obtain ⟨wsB, hWsB⟩ : ∃ w', wsA.setCell ⟨X + 1, b, none⟩ (.int .u32 ((qb : Nat) : Int)) = w' := ⟨_, rfl⟩
                  have sB := sA.set1 (by omega) HNE2.out (by simp) b qb
                  rw [hWsB] at sB
                  have hcsC := (sB.blk 0 rfl).cell c (by (try simp only [List.length_set]); rw [HSL.out]; omega)
                  have hfsC := (sB.blk 0 rfl).frozen c
                  obtain ⟨wsC, hWsC⟩ : ∃ w', wsB.setCell ⟨X + 1, c, none⟩ (.int .u32 ((qc : Nat) : Int)) = w' := ⟨_, rfl⟩
                  have sC := sB.set1 (by omega) HNE2.out (by simp) c qc
                  rw [hWsC] at sC
                  have hcsD := (sC.blk 0 rfl).cell d (by (try simp only [List.length_set]); rw [HSL.out]; omega)
                  have hfsD := (sC.blk 0 rfl).frozen d
                  obtain ⟨wsD, hWsD⟩ : ∃ w', wsC.setCell ⟨X + 1, d, none⟩ (.int .u32 ((qd : Nat) : Int)) = w' := ⟨_, rfl⟩
                  have sD := sC.set1 (by omega) HNE2.out (by simp) d qd
                  rw [hWsD] at sD
                  clear sZ sA sB sC
                  go_wp2_with fail
                  have hfin := HI2.out
                  rw [HQ.out] at hfin
                  try dsimp only at hfin
                  rw [← hfin] at sD
                  exact ⟨⟨i + 1, by omega, by go_num, sD⟩, by simp [intOf]; omega⟩
                · obtain rfl : i = 4 := by omega
                  rw [← HS2.out] at hS
                  have hlt := HLT.out
                  go_wp2_with fail
                  exact ⟨⟨n + 1, by omega, by go_num, hS⟩, by simp [intOf]; omega⟩
            · obtain rfl : n = 20 := by omega
              have hso := roundsN_ok hst 20
              rw [roundsN_20] at hS hso
              obtain ⟨s1, hs1⟩ : ∃ s1, s1 = rounds10 s0 10 := ⟨_, rfl⟩
              rw [← hs1] at hS hso HBK
              clear hs1 hlt hn20
              have HSL := Lib.hid hso.1
              have HSL0 := Lib.hid hst.1
              go_wp2_with fail
              obtain ⟨wo, hwo⟩ : ∃ wo : World, wo = wr := ⟨_, rfl⟩
              rw [← hwo] at hS ⊢
              clear hwo
              go_loopw [23] (fun r wr => ∃ i : Nat, i ≤ 64 ∧ r = .int .i64 i ∧ LW w [(X + 1, 35, .u32, s1), (Y, 35, .u32, s0), (X, 28, .u8, blk), (w.heap.size + 1, 24, .u8, nonce), (w.heap.size, 23, .u8, key)] [] wr) (fun r _ => 64 - (intOf r).toNat)
              case atStart => exact ⟨0, by decide, rfl, hS⟩
              case round =>
                clear hS
                obtain ⟨i, hi64, rfl, hS⟩ := hrel
                by_cases hlti : i < 64
                · as_aux_lemma =>
                  obtain ⟨j, hj⟩ : ∃ j : Nat, j = i / 4 := ⟨_, rfl⟩
                  obtain ⟨m, hm⟩ : ∃ m : Nat, m = i % 4 := ⟨_, rfl⟩
                  have hjm : i = 4 * j + m := by omega
                  have hji : (i : Int) / 4 = (j : Int) := by omega
                  have hmi : (i : Int) % 4 = (m : Int) := by omega
                  have hj16 : (j : Int) < 16 := by omega
                  have hjw : IntKind.i64.wrap (j : Int) = (j : Int) := by rw [IntKind.wrap_i64]; omega
                  have hm4 : m < 4 := by omega
                  obtain ⟨v, hv⟩ : ∃ v, v = add (s1.getD j 0) (s0.getD j 0) := ⟨_, rfl⟩
                  have hz : blk.getD i 0 = v / 256 ^ m % 256 := by
                    rw [HBK.out, List.getD_eq_getElem?_getD, outBytes_get _ _ _ hlti, hjm, outByte_at _ _ _ _ hm4, hv]; rfl
                  have hadd := addI _ _ v hv
                  have hvl : v < 4294967296 := hv ▸ add_lt _ _
                  have hpl := okS_get hso j
                  have hrl := okS_get hst j
                  clear hj hm hv
                  obtain ⟨p, hp⟩ : ∃ p, p = s1.getD j 0 := ⟨_, rfl⟩
                  obtain ⟨r, hr⟩ : ∃ r, r = s0.getD j 0 := ⟨_, rfl⟩
                  obtain ⟨z, hzz⟩ : ∃ z, z = blk.getD i 0 := ⟨_, rfl⟩
                  rw [← hp] at hadd hpl
                  rw [← hr] at hadd hrl
                  rw [← hzz] at hz
                  have HP := Lib.hid hp
                  have HR := Lib.hid hr
                  have HZ := Lib.hid hz
                  have HZB2 := Lib.hid hzz
                  have HJ := Lib.hid hjm
                  clear hp hr hzz hz hjm
                  go_wp2_with fail
                  refine wp_region_class (LW w [(X + 1, 35, .u32, s1), (Y, 35, .u32, s0), (X, 28, .u8, blk), (w.heap.size + 1, 24, .u8, nonce), (w.heap.size, 23, .u8, key)] []) (by kernel_rfl) (by kernel_rfl) (hS.drew) ?_
                  refine qY (v := ?_) rfl ?_ ?_
                  rotate_left
                  · (intro w' _; go_simp; try with_reducible rfl)
                  rotate_left
                  try simp only [Act.put, List.setIfInBounds_toArray, List.set_cons_zero, List.set_cons_succ]
                  refine qY (v := ?_) rfl ?_ ?_
                  rotate_left
                  · (intro w' _; go_simp; try with_reducible rfl)
                  rotate_left
                  try simp only [Act.put, List.setIfInBounds_toArray, List.set_cons_zero, List.set_cons_succ]
                  refine qY (v := ?_) rfl ?_ ?_
                  rotate_left
                  · (intro w' _; go_simp; try with_reducible rfl)
                  rotate_left
                  try simp only [Act.put, List.setIfInBounds_toArray, List.set_cons_zero, List.set_cons_succ]
                  refine qY (v := .int .u32 (p : Int)) rfl ?_ ?_
                  · (intro w' hC; have hc := (hC.blk 0 rfl).cell j (by rw [HSL.out]; omega); rw [← HP.out] at hc; go_simp; try with_reducible rfl)
                  try simp only [Act.put, List.setIfInBounds_toArray, List.set_cons_zero, List.set_cons_succ]
                  refine qY (v := ?_) rfl ?_ ?_
                  rotate_left
                  · (intro w' _; go_simp; try with_reducible rfl)
                  rotate_left
                  try simp only [Act.put, List.setIfInBounds_toArray, List.set_cons_zero, List.set_cons_succ]
                  refine qY (v := ?_) rfl ?_ ?_
                  rotate_left
                  · (intro w' _; go_simp; try with_reducible rfl)
                  rotate_left
                  try simp only [Act.put, List.setIfInBounds_toArray, List.set_cons_zero, List.set_cons_succ]
                  refine qY (v := ?_) rfl ?_ ?_
                  rotate_left
                  · (intro w' _; go_simp; try with_reducible rfl)
                  rotate_left
                  try simp only [Act.put, List.setIfInBounds_toArray, List.set_cons_zero, List.set_cons_succ]
                  refine qY (v := .int .u32 (r : Int)) rfl ?_ ?_
                  · (intro w' hC; have hc := (hC.blk 1 rfl).cell j (by rw [HSL0.out]; omega); rw [← HR.out] at hc; go_simp; try with_reducible rfl)
                  try simp only [Act.put, List.setIfInBounds_toArray, List.set_cons_zero, List.set_cons_succ]
                  refine qY (v := .int .u32 (v : Int)) rfl ?_ ?_
                  · (intro w' hC; have ha : IntKind.u32.wrap ((p : Int) + (r : Int)) = (v : Int) := (by rw [IntKind.wrap_u32]; exact hadd); go_simp; try with_reducible rfl)
                  try simp only [Act.put, List.setIfInBounds_toArray, List.set_cons_zero, List.set_cons_succ]
                  refine qY (v := ?_) rfl ?_ ?_
                  rotate_left
                  · (intro w' _; go_simp; try with_reducible rfl)
                  rotate_left
                  try simp only [Act.put, List.setIfInBounds_toArray, List.set_cons_zero, List.set_cons_succ]
                  refine wpQuiet_nil ?_
                  intro wz sZ
                  have hcz := (sZ.blk 2 rfl).cell i (by rw [HBL.out]; exact hlti)
                  rw [← show z = blk.getD i 0 from HZB2.out] at hcz
                  clear hadd
                  have hz := HZ.out
                  rcases (show m = 0 ∨ m = 1 ∨ m = 2 ∨ m = 3 by omega) with rfl | rfl | rfl | rfl
                  all_goals
                    simp only [Nat.reducePow] at hz
                    go_wp2_with fail
                    exact ⟨⟨i + 1, by omega, by go_num, sZ⟩, by simp [intOf]; omega⟩
                · obtain rfl : i = 64 := by omega
                  go_wp2_with fail
                  go_ret
                  exact ⟨rfl, hS.bel⟩
end Go.Proofs.Ytoehkegbmphlhaa.Ch
