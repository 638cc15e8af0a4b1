/- The walk of the statement StreamBlocks. -/
import Derived.Test.YtnlogdlnmhnepaaStA
import Derived.Deep.QuietTactic
import Derived.BigQuiet
namespace Go.Proofs.Ytnlogdlnmhnepaa.St
set_option linter.unusedSimpArgs false
set_option linter.unusedVariables false
open Go.RowKit Go.Shelf Go.Proofs.Ytnlogdlnmhnepaa.Ch

theorem neq_self (z : Nat) : ((z : Int) != (z : Int)) = false := by simp
set_option maxRecDepth 100000 in
set_option maxHeartbeats 4000000 in
theorem blocks_walk (key : List Nat) (counter : Int) (nonce : List Nat) (a : Option Addr) (la ca : Nat) (xa : List Nat) (b : Option Addr) (lb cb : Nat) (bs : List Nat) (w : World) (hk : key.length = 32) (hkb : ∀ x ∈ key, x < 256) (hct : 0 ≤ counter ∧ counter ≤ 4294967295) (hn : nonce.length = 12) (hnb : ∀ x ∈ nonce, x < 256) (hra : Row8 w a la ca xa) (hrb : Row8 w b lb cb bs) :
    Calls Try.prog 5 #[.agg (bv key).toArray, .int .u32 counter, .agg (bv nonce).toArray, .slice a la ca, .slice b lb cb] w fun e w' => e = .returned (.bool true) ∧ Below w.heap.size w w' := by
  obtain ⟨c0, rfl⟩ := Int.eq_ofNat_of_zero_le hct.1
  have hlea : la ≤ 9223372036854775807 := by have := hra.2.1; have := hra.2.2.1; omega
  have hleb : lb ≤ 9223372036854775807 := by have := hrb.2.1; have := hrb.2.2.1; omega
  have HK := Lib.hid (show (Try.prog.info? 22).map (·.size) = some key.length by rw [hk]; kernel_rfl)
  have HN := Lib.hid (show (Try.prog.info? 24).map (·.size) = some nonce.length by rw [hn]; kernel_rfl)
  have HK3 := Lib.hid (show (Try.prog.info? 22).map (·.size) = some (nv .u8 key).length by rw [nv_length, hk]; kernel_rfl)
  have HN3 := Lib.hid (show (Try.prog.info? 24).map (·.size) = some (nv .u8 nonce).length by rw [nv_length, hn]; kernel_rfl)
  have u32 := Try.underlying22
  have u12 := Try.underlying24
  have u8 := Try.underlying5
  have us := Try.underlying25
  have ut := Try.underlying9
  have HKL := Lib.hid hk
  have HNL := Lib.hid hn
  clear hk hn
  by_cases hall : la ≤ 300 ∧ lb ≤ 300
  · obtain ⟨ha3, hb3⟩ := hall
    have hRa : RdB w a la ca xa := ⟨by omega, hra⟩
    have hRb : RdB w b lb cb bs := ⟨by omega, hrb⟩
    have d1 : decide ((300 : Int) < (la : Int)) = false := decide_eq_false (by omega)
    have d2 : decide ((300 : Int) < (lb : Int)) = false := decide_eq_false (by omega)
    obtain ⟨ct, hcm⟩ : ∃ ct : Nat, (c0 : Int) % 2147483648 = (ct : Int) := ⟨c0 % 2147483648, by omega⟩
    have hcl2 : ct < 2147483648 := by omega
    have hcl : ct < 4294967296 := by omega
    obtain ⟨c1, hc1⟩ : ∃ c1 : Nat, (ct : Int) + 1 = (c1 : Int) := ⟨ct + 1, by omega⟩
    have hc1l : c1 < 4294967296 := by omega
    have hc1e : c1 = ct + 1 := by omega
    have fa : fits ct la := by unfold fits; omega
    have fb : fits ct lb := by unfold fits; omega
    have fz : fits ct 128 := by unfold fits; omega
    have hal : xa.length = la := hra.1
    have hbl : bs.length = lb := hrb.1
    have HAL := Lib.hid hal
    have HBL := Lib.hid hbl
    have hab := hra.2.2.2.1
    have hbb := hrb.2.2.2.1
    have HF := Lib.hid (And.intro fa (And.intro fb fz))
    have hxb := xor_blocks key ct nonce
    rw [← hc1e] at hxb
    have cB1 := Lib.hid (fun W => Block_any W key nonce ct HKL.out hkb HNL.out hnb hcl)
    have cB2 := Lib.hid (fun W => Block_any W key nonce c1 HKL.out hkb HNL.out hnb hc1l)
    have hl1 := block_length key ct nonce
    have hl2 := block_length key c1 nonce
    have hq1 := block_lt key ct nonce
    have hq2 := block_lt key c1 nonce
    generalize block key ct nonce = k1 at hxb cB1 hl1 hq1
    generalize block key c1 nonce = k2 at hxb cB2 hl2 hq2
    have HXB := Lib.hid hxb
    have HZ1 := Lib.hid (show (Try.prog.info? 32).map (·.size) = some (nv .u8 k1).toArray.size by simp only [List.size_toArray, nv_length]; rw [hl1]; kernel_rfl)
    have HS1 := Lib.hid (show 64 = (nv .u8 k1).toArray.size by simp [nv, hl1])
    have HZ2 := Lib.hid (show (Try.prog.info? 32).map (·.size) = some (nv .u8 k2).toArray.size by simp only [List.size_toArray, nv_length]; rw [hl2]; kernel_rfl)
    have HS2 := Lib.hid (show 64 = (nv .u8 k2).toArray.size by simp [nv, hl2])
    have HL1 := Lib.hid hl1
    have HL2 := Lib.hid hl2
    clear hal hbl fa fb fz hxb hl1 hl2 hc1e
    go_enter Try.func5, Try.ntmps5
    have s0 : LW w [(w.heap.size + 1, 24, .u8, nonce), (w.heap.size, 22, .u8, key)] [(a, la, ca, xa), (b, lb, cb, bs)] ((w.alloc (.cells (nv .u8 key).toArray 22)).alloc (.cells (nv .u8 nonce).toArray 24)) := by
      have := ((((LW.nil (xrefl w)).addR hRb).addR hRa).new 22 .u8 key).new 24 .u8 nonce
      rw [World.size_alloc] at this
      exact this
    clear hra hrb hRa hRb
    go_wp2_with (first
      | (go_at_call 9; refine (awake_any _).mono ?_; rintro e w1 ⟨rfl, hb1⟩; have s1 := s0.below hb1; clear s0 hb1)
      | fail)
    refine wp_region_held_drew (S := LW w [(w.heap.size + 1, 24, .u8, nonce), (w.heap.size, 22, .u8, key)] [(a, la, ca, xa), (b, lb, cb, bs)]) (by kernel_rfl) (s1.drew) (fun hHeld => ?_)
    generalize World.drew _ = wv at hHeld ⊢
    refine takeL (i := 0) (v := .agg (nv .u8 key).toArray) rfl rfl (by kernel_rfl) (by kernel_rfl) (by kernel_rfl) (fun _ _ _ h => h) (yieldsIf_load_mid (by rfl) 22 (.tmp 5) rfl w.heap.size 0 (by rfl) (nv .u8 key) _ (fun _ h => blk_range (h.blk 1 rfl)) u32 rfl HK3.out) (by assumption) ?_
    try simp only [Act.put, List.setIfInBounds_toArray, List.set_cons_zero, List.set_cons_succ]
    refine takeL (i := 1) (v := ?_) rfl rfl (by kernel_rfl) (by kernel_rfl) (by kernel_rfl) (fun _ _ _ h => h) (Or.inl ⟨by rfl, ?_⟩) (by assumption) ?_
    rotate_left
    · (intro w' hSw; go_simp; try with_reducible rfl)
    try simp only [Act.put, List.setIfInBounds_toArray, List.set_cons_zero, List.set_cons_succ]
    refine takeL (i := 2) (v := .agg (nv .u8 nonce).toArray) rfl rfl (by kernel_rfl) (by kernel_rfl) (by kernel_rfl) (fun _ _ _ h => h) (yieldsIf_load_mid (by rfl) 24 (.tmp 7) rfl (w.heap.size + 1) 0 (by rfl) (nv .u8 nonce) _ (fun _ h => blk_range (h.blk 0 rfl)) u12 rfl HN3.out) (by assumption) ?_
    try simp only [Act.put, List.setIfInBounds_toArray, List.set_cons_zero, List.set_cons_succ]
    refine wpAnyH_ready (rs := [3]) (by kernel_rfl) (by simp) ?_
    refine consL rfl (fun K hK => ?_) AllReadyH.nil
    · rw [if_pos (by rfl)]
      refine wpo_make (.const (.int .i64 128)) (.const (.int .i64 128)) rfl .i64 .i64 128 rfl rfl (by decide) ?_
      intro w3 o3 b3
      refine hK.out _ _ (hHeld.below b3) (fun hHeld => ?_)
      clear hK K
      try simp only [Act.put, List.setIfInBounds_toArray, List.set_cons_zero, List.set_cons_succ]
      refine wpAnyH_ready (rs := [4]) (by kernel_rfl) (by simp) ?_
      refine consL rfl (fun K hK => ?_) AllReadyH.nil
      · rw [if_pos (by rfl)]
        go_simp
        refine (Xor_any _ key nonce ct (some ⟨wv.heap.size, 0, none⟩) 128 128 (List.replicate 128 0) HKL.out hkb HNL.out hnb hcl (o3.rdb rfl (by decide)) HF.out.2.2).mono ?_
        intro e w4 h
        obtain ⟨ad4, cp4, rfl, p4, b4⟩ := XorOK.at (n := 128) h (by rw [xorS_length]; rfl)
        refine hK.out _ _ (hHeld.below b4) (fun hHeld => ?_)
        clear hK K
        try simp only [Act.put, List.setIfInBounds_toArray, List.set_cons_zero, List.set_cons_succ]
        refine takeL (i := 5) (v := ?_) rfl rfl (by kernel_rfl) (by kernel_rfl) (by kernel_rfl) (fun _ _ _ h => h) (Or.inl ⟨by rfl, ?_⟩) (by assumption) ?_
        rotate_left
        · (intro w' hSw; go_simp; try with_reducible rfl)
        try simp only [Act.put, List.setIfInBounds_toArray, List.set_cons_zero, List.set_cons_succ]
        refine takeL (i := 6) (v := ?_) rfl rfl (by kernel_rfl) (by kernel_rfl) (by kernel_rfl) (fun _ _ _ h => h) (Or.inl ⟨by rfl, ?_⟩) (by assumption) ?_
        rotate_left
        · (intro w' hSw; go_simp; try with_reducible rfl)
        try simp only [Act.put, List.setIfInBounds_toArray, List.set_cons_zero, List.set_cons_succ]
        refine takeL (i := 7) (v := ?_) rfl rfl (by kernel_rfl) (by kernel_rfl) (by kernel_rfl) (fun _ _ _ h => h) (Or.inl ⟨by rfl, ?_⟩) (by assumption) ?_
        rotate_left
        · (intro w' hSw; go_simp; try with_reducible rfl)
        try simp only [Act.put, List.setIfInBounds_toArray, List.set_cons_zero, List.set_cons_succ]
        refine takeL (i := 8) (v := ?_) rfl rfl (by kernel_rfl) (by kernel_rfl) (by kernel_rfl) (fun _ _ _ h => h) (Or.inl ⟨by rfl, ?_⟩) (by assumption) ?_
        rotate_left
        · (intro w' hSw; go_simp; try with_reducible rfl)
        try simp only [Act.put, List.setIfInBounds_toArray, List.set_cons_zero, List.set_cons_succ]
        refine takeL (i := 9) (v := ?_) rfl rfl (by kernel_rfl) (by kernel_rfl) (by kernel_rfl) (fun _ _ _ h => h) (Or.inl ⟨by rfl, ?_⟩) (by assumption) ?_
        rotate_left
        · (intro w' hSw; go_simp; try with_reducible rfl)
        try simp only [Act.put, List.setIfInBounds_toArray, List.set_cons_zero, List.set_cons_succ]
        refine wpAnyH_done (by kernel_rfl) ?_ _
        have s4 := hHeld.addR (p4.rdb (by rw [xorS_length]; rfl) (by decide))
        clear hHeld p4 o3
        rw [HXB.out] at s4
        go_wp2_with (first
          | (refine wp_load_arr rfl 22 (.tmp 5) rfl w.heap.size rfl (s4.blk 1 rfl) 32 5 Try.underlying22 HK.out ?_)
          | (refine wp_load_arr rfl 24 (.tmp 7) rfl (w.heap.size + 1) rfl (s4.blk 0 rfl) 12 5 Try.underlying24 HN.out ?_)
          | (have _t := s4; go_at_call 12; refine (cB1.out _).mono ?_; rintro e wq ⟨rfl, bq⟩; have s5 := s4.below bq; clear s4 _t bq)
          | (refine wp_store_new rfl 32 (.tmp 15) (.tmp 45) rfl rfl _ (nv .u8 k1).toArray rfl HZ1.out HS1.out (nv_one _ _) ?_; have hX := s5.lt _ (List.mem_cons_self); have s6 := s5.new 32 .u8 k1; clear s5)
          | (refine wp_load_arr rfl 22 (.tmp 5) rfl w.heap.size rfl (s6.blk 2 rfl) 32 5 Try.underlying22 HK.out ?_; generalize wq.heap.size = X at s6 hX ⊢; refine wpList_at (fun V => LW w [(X, 32, .u8, k1), (w.heap.size + 1, 24, .u8, nonce), (w.heap.size, 22, .u8, key)] [(ad4, 128, cp4, k1 ++ k2), (a, la, ca, xa), (b, lb, cb, bs)] V) s6 ?_; clear s6 wq; intro W7 s7)
          | (refine wp_load_arr rfl 22 (.tmp 5) rfl w.heap.size rfl (s7.blk 2 rfl) 32 5 Try.underlying22 HK.out ?_)
          | (refine wp_load_arr rfl 24 (.tmp 7) rfl (w.heap.size + 1) rfl (s7.blk 1 rfl) 12 5 Try.underlying24 HN.out ?_)
          | (have _t := s7; go_at_call 12; refine (cB2.out _).mono ?_; rintro e wr ⟨rfl, br⟩; have s8 := s7.below br; clear s7 _t br)
          | (refine wp_store_new rfl 32 (.tmp 16) (.tmp 50) rfl rfl _ (nv .u8 k2).toArray rfl HZ2.out HS2.out (nv_one _ _) ?_; have s9 := s8.new 32 .u8 k2; clear s8)
          | (refine wp_load_arr rfl 22 (.tmp 5) rfl w.heap.size rfl (s9.blk 3 rfl) 32 5 Try.underlying22 HK.out ?_; generalize wr.heap.size = Y at s9 ⊢; refine wpList_at (fun V => LW w [(Y, 32, .u8, k2), (X, 32, .u8, k1), (w.heap.size + 1, 24, .u8, nonce), (w.heap.size, 22, .u8, key)] [(ad4, 128, cp4, k1 ++ k2), (a, la, ca, xa), (b, lb, cb, bs)] V) s9 ?_; clear s9 wr; intro W10 s10)
          | (refine wp_load_arr rfl 22 (.tmp 5) rfl w.heap.size rfl (s10.blk 3 rfl) 32 5 Try.underlying22 HK.out ?_)
          | (refine wp_load_arr rfl 24 (.tmp 7) rfl (w.heap.size + 1) rfl (s10.blk 2 rfl) 12 5 Try.underlying24 HN.out ?_)
          | fail)
        refine (Xor_any _ key nonce ct a la ca xa HKL.out hkb HNL.out hnb hcl (s10.rd 1 rfl) HF.out.1).mono ?_
        intro e w11 h
        obtain ⟨ad11, cp11, rfl, p11, b11⟩ := XorOK.at (n := la) h (by rw [xorS_length]; exact HAL.out)
        have s11 := (s10.below b11).addR (p11.rdb (by rw [xorS_length]; exact HAL.out) (by omega))
        clear h s10 b11
        go_wp2_with (first
          | (refine wp_load_arr rfl 22 (.tmp 5) rfl w.heap.size rfl (s11.blk 3 rfl) 32 5 Try.underlying22 HK.out ?_)
          | (refine wp_load_arr rfl 24 (.tmp 7) rfl (w.heap.size + 1) rfl (s11.blk 2 rfl) 12 5 Try.underlying24 HN.out ?_)
          | fail)
        refine (Xor_any _ key nonce ct b lb cb bs HKL.out hkb HNL.out hnb hcl (s11.rd 3 rfl) HF.out.2.1).mono ?_
        intro e w12 h
        obtain ⟨ad12, cp12, rfl, p12, b12⟩ := XorOK.at (n := lb) h (by rw [xorS_length]; exact HBL.out)
        have s12 := (s11.below b12).addR (p12.rdb (by rw [xorS_length]; exact HBL.out) (by omega))
        clear h s11 b12
        go_wp2_with fail
        go_loopw [21] (fun r wr => ∃ i : Nat, i ≤ la ∧ r = .int .i64 i ∧ LW w [(Y, 32, .u8, k2), (X, 32, .u8, k1), (w.heap.size + 1, 24, .u8, nonce), (w.heap.size, 22, .u8, key)] [(ad12, lb, cp12, xorS key ct nonce bs), (ad11, la, cp11, xorS key ct nonce xa), (ad4, 128, cp4, k1 ++ k2), (a, la, ca, xa), (b, lb, cb, bs)] wr) (fun r _ => la - (intOf r).toNat)
        case atStart => exact ⟨0, Nat.zero_le _, rfl, s12⟩
        case round =>
          clear s12
          obtain ⟨i, hi, rfl, hS⟩ := hrel
          by_cases hlt : i < la ∧ i < lb
          · obtain ⟨h1, h2⟩ := hlt
            have e1 : decide (i < la) = true := decide_eq_true (by omega)
            have e2 : decide (i < lb) = true := decide_eq_true (by omega)
            have x1 := xorS_get key ct nonce xa i (by rw [HAL.out]; exact h1)
            have x2 := xorS_get key ct nonce bs i (by rw [HBL.out]; exact h2)
            have l1 := get_lt hab i
            have l2 := get_lt hbb i
            have l3 := xb_lt key ct nonce xa hab i
            have l4 := xb_lt key ct nonce bs hbb i
            have z1 := xor_u8 _ _ l3 l4
            have z2 := xor_u8 _ _ l1 l2
            rw [show xb key ct nonce xa i ^^^ xb key ct nonce bs i = xa.getD i 0 ^^^ bs.getD i 0 from xor_same _ _ _] at z1
            obtain ⟨bp, op, hp, _, hcp⟩ := (hS.rd 1 rfl).2.2.2.2.2.2.resolve_left (by omega)
            obtain ⟨bq, oq, hq, _, hcq⟩ := (hS.rd 0 rfl).2.2.2.2.2.2.resolve_left (by omega)
            obtain ⟨ba, oa, ha, _, hca⟩ := (hS.rd 3 rfl).2.2.2.2.2.2.resolve_left (by omega)
            obtain ⟨bb, ob, hb, _, hcb⟩ := (hS.rd 4 rfl).2.2.2.2.2.2.resolve_left (by omega)
            have g1 := hcp i h1
            have g2 := hcq i h2
            have g3 := hca i h1
            have g4 := hcb i h2
            rw [x1] at g1
            rw [x2] at g2
            clear hcp hcq hca hcb x1 x2
            subst hp hq ha hb
            generalize xa.getD i 0 ^^^ bs.getD i 0 = z at z1 z2
            generalize xb key ct nonce xa i = pi at g1 l3 z1
            generalize xb key ct nonce bs i = qi at g2 l4 z1
            generalize xa.getD i 0 = ai at g3 l1 z2
            generalize bs.getD i 0 = bi at g4 l2 z2
            have nz := neq_self z
            have hi0 : (0 : Int) ≤ (i : Int) := by omega
            go_wp2_with fail
            go_quiet (fail)
            go_wp2_with fail
            exact ⟨⟨i + 1, by omega, by go_num, hS.drewN _⟩, by simp [intOf]; omega⟩
          · have hex : decide (i < la) = false ∨ (decide (i < la) = true ∧ decide (i < lb) = false) := by
              simp only [decide_eq_true_eq, decide_eq_false_iff_not]
              omega
            clear hlt
            generalize xorS key ct nonce xa = xs at hS
            generalize xorS key ct nonce bs = ys at hS
            rcases hex with e1 | ⟨e1, e2⟩
            all_goals
              go_wp2_with fail
              refine wp_region_held_drew (S := LW w [(Y, 32, .u8, k2), (X, 32, .u8, k1), (w.heap.size + 1, 24, .u8, nonce), (w.heap.size, 22, .u8, key)] [(ad12, lb, cp12, ys), (ad11, la, cp11, xs), (ad4, 128, cp4, k1 ++ k2), (a, la, ca, xa), (b, lb, cb, bs)]) (by kernel_rfl) (hS.drew) (fun hHeld => ?_)
              refine takeL (i := 0) (v := ?_) rfl rfl (by kernel_rfl) (by kernel_rfl) (by kernel_rfl) (fun _ _ _ h => h) (Or.inl ⟨by rfl, ?_⟩) (by assumption) ?_
              rotate_left
              · (intro w' hSw; go_simp; try with_reducible rfl)
              try simp only [Act.put, List.setIfInBounds_toArray, List.set_cons_zero, List.set_cons_succ]
              refine takeL (i := 1) (v := ?_) rfl rfl (by kernel_rfl) (by kernel_rfl) (by kernel_rfl) (fun _ _ _ h => h) (Or.inl ⟨by rfl, ?_⟩) (by assumption) ?_
              rotate_left
              · (intro w' hSw; go_simp; try with_reducible rfl)
              try simp only [Act.put, List.setIfInBounds_toArray, List.set_cons_zero, List.set_cons_succ]
              refine takeL (i := 2) (v := ?_) rfl rfl (by kernel_rfl) (by kernel_rfl) (by kernel_rfl) (fun _ _ _ h => h) (Or.inl ⟨by rfl, ?_⟩) (by assumption) ?_
              rotate_left
              · (intro w' hSw; go_simp; try with_reducible rfl)
              try simp only [Act.put, List.setIfInBounds_toArray, List.set_cons_zero, List.set_cons_succ]
              refine takeL (i := 3) (v := ?_) rfl rfl (by kernel_rfl) (by kernel_rfl) (by kernel_rfl) (fun _ _ _ h => h) (Or.inl ⟨by rfl, ?_⟩) (by assumption) ?_
              rotate_left
              · (intro w' hSw; go_simp; try with_reducible rfl)
              try simp only [Act.put, List.setIfInBounds_toArray, List.set_cons_zero, List.set_cons_succ]
              refine takeL (i := 4) (v := ?_) rfl rfl (by kernel_rfl) (by kernel_rfl) (by kernel_rfl) (fun _ _ _ h => h) (Or.inl ⟨by rfl, ?_⟩) (by assumption) ?_
              rotate_left
              · (intro w' hSw; go_simp; try with_reducible rfl)
              try simp only [Act.put, List.setIfInBounds_toArray, List.set_cons_zero, List.set_cons_succ]
              refine takeL (i := 5) (v := ?_) rfl rfl (by kernel_rfl) (by kernel_rfl) (by kernel_rfl) (fun _ _ _ h => h) (Or.inl ⟨by rfl, ?_⟩) (by assumption) ?_
              rotate_left
              · (intro w' hSw; go_simp; try with_reducible rfl)
              try simp only [Act.put, List.setIfInBounds_toArray, List.set_cons_zero, List.set_cons_succ]
              refine takeL (i := 6) (v := ?_) rfl rfl (by kernel_rfl) (by kernel_rfl) (by kernel_rfl) (fun _ _ _ h => h) (Or.inl ⟨by rfl, ?_⟩) (by assumption) ?_
              rotate_left
              · (intro w' hSw; go_simp; try with_reducible rfl)
              try simp only [Act.put, List.setIfInBounds_toArray, List.set_cons_zero, List.set_cons_succ]
              refine takeL (i := 7) (v := ?_) rfl rfl (by kernel_rfl) (by kernel_rfl) (by kernel_rfl) (fun _ _ _ h => h) (Or.inl ⟨by rfl, ?_⟩) (by assumption) ?_
              rotate_left
              · (intro w' hSw; go_simp; try with_reducible rfl)
              try simp only [Act.put, List.setIfInBounds_toArray, List.set_cons_zero, List.set_cons_succ]
              refine takeL (i := 8) (v := ?_) rfl rfl (by kernel_rfl) (by kernel_rfl) (by kernel_rfl) (fun _ _ _ h => h) (Or.inl ⟨by rfl, ?_⟩) (by assumption) ?_
              rotate_left
              · (intro w' hSw; go_simp; try with_reducible rfl)
              try simp only [Act.put, List.setIfInBounds_toArray, List.set_cons_zero, List.set_cons_succ]
              refine takeL (i := 9) (v := ?_) rfl rfl (by kernel_rfl) (by kernel_rfl) (by kernel_rfl) (fun _ _ _ h => h) (Or.inl ⟨by rfl, ?_⟩) (by assumption) ?_
              rotate_left
              · (intro w' hSw; go_simp; try with_reducible rfl)
              try simp only [Act.put, List.setIfInBounds_toArray, List.set_cons_zero, List.set_cons_succ]
              refine takeL (i := 10) (v := ?_) rfl rfl (by kernel_rfl) (by kernel_rfl) (by kernel_rfl) (fun _ _ _ h => h) (Or.inl ⟨by rfl, ?_⟩) (by assumption) ?_
              rotate_left
              · (intro w' hSw; go_simp; try with_reducible rfl)
              try simp only [Act.put, List.setIfInBounds_toArray, List.set_cons_zero, List.set_cons_succ]
              refine takeL (i := 11) (v := ?_) rfl rfl (by kernel_rfl) (by kernel_rfl) (by kernel_rfl) (fun _ _ _ h => h) (Or.inl ⟨by rfl, ?_⟩) (by assumption) ?_
              rotate_left
              · (intro w' hSw; go_simp; try with_reducible rfl)
              try simp only [Act.put, List.setIfInBounds_toArray, List.set_cons_zero, List.set_cons_succ]
              refine takeL (i := 12) (v := ?_) rfl rfl (by kernel_rfl) (by kernel_rfl) (by kernel_rfl) (fun _ _ _ h => h) (Or.inl ⟨by rfl, ?_⟩) (by assumption) ?_
              rotate_left
              · (intro w' hSw; go_simp; try with_reducible rfl)
              try simp only [Act.put, List.setIfInBounds_toArray, List.set_cons_zero, List.set_cons_succ]
              refine takeL (i := 13) (v := ?_) rfl rfl (by kernel_rfl) (by kernel_rfl) (by kernel_rfl) (fun _ _ _ h => h) (Or.inl ⟨by rfl, ?_⟩) (by assumption) ?_
              rotate_left
              · (intro w' hSw; go_simp; try with_reducible rfl)
              try simp only [Act.put, List.setIfInBounds_toArray, List.set_cons_zero, List.set_cons_succ]
              refine takeL (i := 14) (v := ?_) rfl rfl (by kernel_rfl) (by kernel_rfl) (by kernel_rfl) (fun _ _ _ h => h) (Or.inl ⟨by rfl, ?_⟩) (by assumption) ?_
              rotate_left
              · (intro w' hSw; go_simp; try with_reducible rfl)
              try simp only [Act.put, List.setIfInBounds_toArray, List.set_cons_zero, List.set_cons_succ]
              refine takeL (i := 15) (v := .string (strB (k1 ++ k2))) rfl rfl (by kernel_rfl) (by kernel_rfl) (by kernel_rfl) (fun _ _ _ h => h) (yieldsStr (by rfl) (x := .tmp 124) rfl (by rfl) us u8 ut (fun W h => (h.rd 2 rfl).2)) (by assumption) ?_
              try simp only [Act.put, List.setIfInBounds_toArray, List.set_cons_zero, List.set_cons_succ]
              refine takeL (i := 16) (v := ?_) rfl rfl (by kernel_rfl) (by kernel_rfl) (by kernel_rfl) (fun _ _ _ h => h) (Or.inl ⟨by rfl, ?_⟩) (by assumption) ?_
              rotate_left
              · (intro w' hSw; go_simp; try with_reducible rfl)
              try simp only [Act.put, List.setIfInBounds_toArray, List.set_cons_zero, List.set_cons_succ]
              refine takeL (i := 17) (v := ?_) rfl rfl (by kernel_rfl) (by kernel_rfl) (by kernel_rfl) (fun _ _ _ h => h) (Or.inl ⟨by rfl, ?_⟩) (by assumption) ?_
              rotate_left
              · (intro w' hSw; go_simp; try with_reducible rfl)
              try simp only [Act.put, List.setIfInBounds_toArray, List.set_cons_zero, List.set_cons_succ]
              refine wpAnyH_ready (rs := [18]) (by kernel_rfl) (by simp) ?_
              refine consL rfl (fun K hK => ?_) AllReadyH.nil
              · rw [if_pos (by rfl)]
                refine wpo_append_full (.tmp 126) (.tmp 127) rfl ⟨X, 0, none⟩ ⟨Y, 0, none⟩ 64 64 64 64 k1 k2 rfl ((hHeld.blk 1 rfl).rd 64 HL1.out hq1 (by decide)) rfl ((hHeld.blk 0 rfl).rd 64 HL2.out hq2 (by decide)) (by decide) ?_
                intro cp20 w20 o20 b20
                refine hK.out _ _ (hHeld.below b20) (fun hHeld => ?_)
                clear hK K
                try simp only [Act.put, List.setIfInBounds_toArray, List.set_cons_zero, List.set_cons_succ]
                refine wpAnyH_ready (rs := [19]) (by kernel_rfl) (by simp) ?_
                refine consL rfl (fun K hK => ?_) AllReadyH.nil
                · rw [if_pos (by rfl)]
                  refine wpo_str (x := .tmp 128) rfl rfl us u8 ut (o20.rdb (by rw [List.length_append, HL1.out, HL2.out]) (by decide)).2 ?_
                  refine hK.out _ _ (hHeld) (fun hHeld => ?_)
                  clear hK K
                  try simp only [Act.put, List.setIfInBounds_toArray, List.set_cons_zero, List.set_cons_succ]
                  refine takeL (i := 20) (v := .bool true) rfl rfl (by kernel_rfl) (by kernel_rfl) (by kernel_rfl) (fun _ _ _ h => h) (yieldsEqS (by rfl) rfl (by rfl) (by rfl) (beq_self_eq_true _)) (by assumption) ?_
                  try simp only [Act.put, List.setIfInBounds_toArray, List.set_cons_zero, List.set_cons_succ]
                  refine takeL (i := 21) (v := ?_) rfl rfl (by kernel_rfl) (by kernel_rfl) (by kernel_rfl) (fun _ _ _ h => h) (Or.inl ⟨by rfl, ?_⟩) (by assumption) ?_
                  rotate_left
                  · (intro w' hSw; go_simp; try with_reducible rfl)
                  try simp only [Act.put, List.setIfInBounds_toArray, List.set_cons_zero, List.set_cons_succ]
                  refine takeL (i := 22) (v := ?_) rfl rfl (by kernel_rfl) (by kernel_rfl) (by kernel_rfl) (fun _ _ _ h => h) (Or.inl ⟨by rfl, ?_⟩) (by assumption) ?_
                  rotate_left
                  · (intro w' hSw; go_simp; try with_reducible rfl)
                  try simp only [Act.put, List.setIfInBounds_toArray, List.set_cons_zero, List.set_cons_succ]
                  refine wpAnyH_done (by kernel_rfl) ?_ _
                  go_wp2_with fail
                  go_ret
                  exact ⟨rfl, hHeld.bel⟩
  · have hsplit : decide ((300 : Int) < (la : Int)) = true ∨ (decide ((300 : Int) < (la : Int)) = false ∧ decide ((300 : Int) < (lb : Int)) = true) := by
      simp only [decide_eq_true_eq, decide_eq_false_iff_not]
      omega
    have box : Below w.heap.size w ((w.alloc (.cells (nv .u8 key).toArray 22)).alloc (.cells (nv .u8 nonce).toArray 24)) := xalloc (xnew _ _) _
    clear hall
    rcases hsplit with d1 | ⟨d1, d2⟩
    all_goals
      go_enter Try.func5, Try.ntmps5
      go_wp2_with (first
        | (go_at_call 9; refine (awake_any _).mono ?_; rintro e w1 ⟨rfl, hb1⟩)
        | fail)
      go_ret
      exact ⟨rfl, xtrans box hb1⟩
end Go.Proofs.Ytnlogdlnmhnepaa.St
