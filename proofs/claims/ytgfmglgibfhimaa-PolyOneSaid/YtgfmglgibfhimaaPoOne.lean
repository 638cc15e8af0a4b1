/- The walk of the statement PolyOne: of a key whose r is 1 the tag is the sum of all parts, and s. -/
import Derived.Test.YtgfmglgibfhimaaPoA
import Derived.Test.YtgfmglgibfhimaaPoLaws
import Derived.Test.YtgfmglgibfhimaaLw
import Derived.Deep.QuietTactic
import Derived.BigQuiet
namespace Go.Proofs.Ytgfmglgibfhimaa.Po
set_option linter.unusedSimpArgs false
set_option linter.unusedVariables false
open Go.RowKit

theorem ten_lt (a : List Nat) (ha : a.length = 16) : (a.set 15 (a.getD 15 0 % 128)).getD 15 0 < 128 := by
  simp only [List.getD_eq_getElem?_getD]
  rw [List.getElem?_set_self (by omega)]
  exact Nat.mod_lt _ (by decide)
theorem wrap_u8mod (n : Nat) (o : Nat) (h : n % 256 = o) : IntKind.u8.wrap ((n : Int) % 256) = (o : Int) := by subst h; rw [IntKind.wrap_u8]; omega
theorem neqF1 (z : Nat) : ((z : Int) != (z : Int)) = false := by simp
theorem rem_128 (x : Nat) (h : x < 256) : IntKind.u8.wrap ((x : Int) % 128) = ((x % 128 : Nat) : Int) := by rw [IntKind.wrap_u8]; omega
set_option maxRecDepth 100000 in
set_option maxHeartbeats 2000000 in
theorem one_walk (a : List Nat) (b : List Nat) (s : List Nat) (w : World) (ha : a.length = 16) (hab : ∀ x ∈ a, x < 256) (hb : b.length = 16) (hbb : ∀ x ∈ b, x < 256) (hs : s.length = 16) (hsb : ∀ x ∈ s, x < 256) :
    Calls Try.prog 5 #[.agg (bv a).toArray, .agg (bv b).toArray, .agg (bv s).toArray] w fun e w' => e = .returned (.bool true) ∧ Below w.heap.size w w' := by
  obtain ⟨a1, ha1⟩ : ∃ a1, a1 = a.set 15 (a.getD 15 0 % 128) := ⟨_, rfl⟩
  have hx15 := getD_lt a hab 15
  have ha1l : a1.length = 16 := by rw [ha1, List.length_set, ha]
  have ha1b : ∀ x ∈ a1, x < 256 := by
    rw [ha1]
    intro x hx
    rcases List.mem_or_eq_of_mem_set hx with hx | rfl
    · exact hab x hx
    · omega
  have h15 : a1.getD 15 0 < 128 := by rw [ha1]; exact ten_lt a ha
  obtain ⟨ko, hko⟩ : ∃ ko, ko = 1 :: List.replicate 15 0 ++ s := ⟨_, rfl⟩
  have hkol : ko.length = 32 := by rw [hko]; simp [hs]
  have hkob : ∀ x ∈ ko, x < 256 := by
    rw [hko]
    intro x hx
    rcases List.mem_append.1 hx with hx | hx
    · have : ∀ x ∈ 1 :: List.replicate 15 0, x < 256 := by decide
      exact this x hx
    · exact hsb x hx
  have h1 := Lib.hid (fun i h => one_at s a1 ha1l hs ha1b h15 i h)
  have h2 := Lib.hid (fun i h => two_at s a1 b ha1l hs hb ha1b h15 hbb i h)
  have HE := Lib.hid (oneK_end s hs)
  rw [← hko] at h1 h2 HE
  have c1 := Lib.hid (fun W ad n c h => Sum_any W ko ad n c a1 hkol hkob h)
  have c2 := Lib.hid (fun W ad n c h => Sum_any W ko ad n c (a1 ++ b) hkol hkob h)
  have h1l := tag_length ko a1
  have h1b := tag_lt ko a1
  have h2l := tag_length ko (a1 ++ b)
  have h2b := tag_lt ko (a1 ++ b)
  generalize tag ko a1 = one at h1 c1 h1l h1b
  generalize tag ko (a1 ++ b) = two at h2 c2 h2l h2b
  have HZ1 := Lib.hid (show (Try.prog.info? 23).map (·.size) = some one.length by rw [h1l]; kernel_rfl)
  have HS1 := Lib.hid (show (List.replicate 16 0).length = one.length by rw [h1l]; rfl)
  have HZ2 := Lib.hid (show (Try.prog.info? 23).map (·.size) = some (nv .u8 two).toArray.size by simp only [List.size_toArray, nv_length]; rw [h2l]; kernel_rfl)
  have HS2 := Lib.hid (show 16 = (nv .u8 two).toArray.size by simp [nv, h2l])
  have HZO := Lib.hid (show (Try.prog.info? 22).map (·.size) = some ko.length by rw [hkol]; kernel_rfl)
  have HZO3 := Lib.hid (show (Try.prog.info? 22).map (·.size) = some (nv .u8 ko).length by rw [nv_length, hkol]; kernel_rfl)
  have u1 := Try.underlying22
  have HA := Lib.hid ha
  have HA1 := Lib.hid ha1l
  have HBL := Lib.hid hb
  have HS := Lib.hid hs
  have HL1 := Lib.hid h1l
  have HL2 := Lib.hid h2l
  have HA1D := Lib.hid ha1
  clear ha ha1l hb hs h1l h2l ha1 hko hkol h15
  go_enter Try.func5, Try.ntmps5
  have s0 : LW w [(w.heap.size + 1 + 1, 23, .u8, s), (w.heap.size + 1, 23, .u8, b), (w.heap.size, 23, .u8, a)] [] (((w.alloc (.cells (nv .u8 a).toArray 23)).alloc (.cells (nv .u8 b).toArray 23)).alloc (.cells (nv .u8 s).toArray 23)) := by
    have := (((LW.nil (xrefl w)).new 23 .u8 a).new 23 .u8 b).new 23 .u8 s
    rw [World.size_alloc, World.size_alloc] at this
    exact this
  go_wp2_with (first
    | (go_at_call 8; refine (awake_any _).mono ?_; rintro e w1 ⟨rfl, hb1⟩; have s1 := s0.below hb1; clear s0 hb1)
    | (refine wp_build rfl 22 _ rfl (.agg (nv .u8 (1 :: List.replicate 31 0)).toArray) (by kernel_rfl) ?_)
    | (refine wp_store_new rfl 22 (.tmp 8) (.tmp 17) rfl rfl _ (nv .u8 (1 :: List.replicate 31 0)).toArray rfl (by kernel_rfl) rfl (nv_one _ _) ?_; have hN1 := s1.lt _ List.mem_cons_self; have s2 := s1.new 22 .u8 (1 :: List.replicate 31 0); clear s1)
    | fail)
  generalize w1.heap.size = Kb at s2 hN1 ⊢
  replace hN1 : w.heap.size + 1 + 1 < Kb := hN1
  refine at_world (fun V => LW w [(Kb, 22, .u8, oneK s 0), (w.heap.size + 1 + 1, 23, .u8, s), (w.heap.size + 1, 23, .u8, b), (w.heap.size, 23, .u8, a)] [] V) (by rw [show oneK s 0 = 1 :: List.replicate 31 0 from kN_zero _ _]; exact s2) ?_
  clear s2 w1
  intro V sV
  go_loopw [9] (fun r wr => ∃ i : Nat, i ≤ 16 ∧ r = .int .i64 i ∧ LW w [(Kb, 22, .u8, oneK s i), (w.heap.size + 1 + 1, 23, .u8, s), (w.heap.size + 1, 23, .u8, b), (w.heap.size, 23, .u8, a)] [] wr) (fun r _ => 16 - (intOf r).toNat)
  case atStart => exact ⟨0, by decide, rfl, sV⟩
  case round =>
    clear sV
    obtain ⟨i, hi, rfl, hS⟩ := hrel
    by_cases hlt : i < 16
    · have hneL : ∀ e ∈ [(w.heap.size + 1 + 1, 23, IntKind.u8, s), (w.heap.size + 1, 23, IntKind.u8, b), (w.heap.size, 23, IntKind.u8, a)], e.1 ≠ Kb := by
        intro e he
        simp only [List.mem_cons, List.not_mem_nil, or_false] at he
        rcases he with rfl | rfl | rfl
        · show w.heap.size + 1 + 1 ≠ Kb; omega
        · show w.heap.size + 1 ≠ Kb; omega
        · show w.heap.size ≠ Kb; omega
      have hB := hS.blk 0 rfl
      have hl : (oneK s i).length = 32 := kN_length (1 :: List.replicate 31 0) s i (by decide) hi
      have hx := (hS.blk 1 rfl).cell i (by have := HS.out; omega)
      have hc := hB.cell (16 + i) (by omega)
      have hf := hB.frozen (16 + i)
      have hfin := hS.set1 (by omega) hneL (by simp) (16 + i) (s.getD i 0)
      rw [show (oneK s i).set (16 + i) (s.getD i 0) = oneK s (i + 1) from kN_succ (1 :: List.replicate 31 0) s i (by decide) hlt] at hfin
      have hv := getD_lt s hsb i
      generalize s.getD i 0 = v at hx hfin hv
      generalize (oneK s i).getD (16 + i) 0 = z1 at hc
      clear hneL hB hS hl
      have hid : decide ((i : Int) < 16) = true := decide_eq_true (by omega)
      have hi32 : (16 : Int) + (i : Int) < 32 := by omega
      go_wp2_with fail
      exact ⟨⟨i + 1, by omega, by go_num, hfin⟩, by simp [intOf]; omega⟩
    · obtain rfl : i = 16 := by omega
      rw [show ((16 : Nat) : Int) = 16 from rfl]
      rw [HE.out] at hS
      have hc := (hS.blk 3 rfl).cell 15 (by have := HA.out; omega)
      have hf := (hS.blk 3 rfl).frozen 15
      have hq := (hS.blk 3 rfl).set 15 (a.getD 15 0 % 128)
      rw [← HA1D.out] at hq
      have hS1 : LW w [(Kb, 22, .u8, ko), (w.heap.size + 1 + 1, 23, .u8, s), (w.heap.size + 1, 23, .u8, b), (w.heap.size, 23, .u8, a1)] [] (wr.setCell ⟨w.heap.size, 15, none⟩ (.int .u8 ((a.getD 15 0 % 128 : Nat) : Int))) :=
        ((((LW.nil (xset hS.bel (Nat.le_refl _) _)).addB hq).addB ((hS.blk 2 rfl).other _ _ (by show w.heap.size + 1 ≠ w.heap.size; omega))).addB ((hS.blk 1 rfl).other _ _ (by show w.heap.size + 1 + 1 ≠ w.heap.size; omega))).addB ((hS.blk 0 rfl).other _ _ (by show Kb ≠ w.heap.size; omega))
      obtain ⟨z, hz⟩ : ∃ z, z = a.getD 15 0 % 128 := ⟨_, rfl⟩
      rw [← hz] at hS1
      generalize a.getD 15 0 = x15 at hc hx15 hz
      have HZ15 := Lib.hid hz
      clear hS hq HA1D hz
      go_wp2_with fail
      refine at_world (fun V => LW w [(Kb, 22, .u8, ko), (w.heap.size + 1 + 1, 23, .u8, s), (w.heap.size + 1, 23, .u8, b), (w.heap.size, 23, .u8, a1)] [] V) (by have := HZ15.out; rw [show (x15 : Int) % 128 = (z : Int) by omega]; exact hS1) ?_
      clear hS1 hc hf
      intro V hS
      have hneL0 : ∀ X, Kb < X → ∀ e ∈ [(Kb, 22, IntKind.u8, ko), (w.heap.size + 1 + 1, 23, IntKind.u8, s), (w.heap.size + 1, 23, IntKind.u8, b), (w.heap.size, 23, IntKind.u8, a1)], e.1 ≠ X := by
        intro X hX e he
        simp only [List.mem_cons, List.not_mem_nil, or_false] at he
        rcases he with rfl | rfl | rfl | rfl
        · show Kb ≠ X; omega
        · show w.heap.size + 1 + 1 ≠ X; omega
        · show w.heap.size + 1 ≠ X; omega
        · show w.heap.size ≠ X; omega
      have tok0 : True := trivial
      · skip
        refine region_cut (fun a0 a2 w2 => ∃ X v34, Kb < X ∧ a2 = (((a0.put (some 32) (.agg (nv .u8 ko).toArray)).put (some 33) (.slice (some ⟨w.heap.size, 0, none⟩) 16 16)).put (some 34) v34).put (some 10) (.pointer (some ⟨X, 0, none⟩)) ∧ LW w ((X, 23, .u8, one) :: [(Kb, 22, .u8, ko), (w.heap.size + 1 + 1, 23, .u8, s), (w.heap.size + 1, 23, .u8, b), (w.heap.size, 23, .u8, a1)]) [] w2) ?_ ?_
        · refine wp_region_held_drew (S := LW w [(Kb, 22, .u8, ko), (w.heap.size + 1 + 1, 23, .u8, s), (w.heap.size + 1, 23, .u8, b), (w.heap.size, 23, .u8, a1)] []) (by kernel_rfl) hS.drew (fun hHeld => ?_)
          generalize World.drew _ = wv at hHeld ⊢
          refine takeL (i := 0) (v := .agg (nv .u8 ko).toArray) rfl rfl (by kernel_rfl) (by kernel_rfl) (by kernel_rfl) (fun _ _ _ h => nomatch h.1) (yieldsIf_load_mid (by rfl) 22 (.tmp 8) rfl Kb 0 (by rfl) (nv .u8 ko) _ (fun _ h => blk_range (h.blk 0 rfl)) u1 rfl HZO3.out) (by assumption) ?_
          try simp only [Act.put, List.setIfInBounds_toArray, List.set_cons_zero, List.set_cons_succ]
          refine takeL (i := 1) (v := ?_) rfl rfl (by kernel_rfl) (by kernel_rfl) (by kernel_rfl) (fun _ _ _ h => nomatch h.1) (Or.inl ⟨by rfl, ?_⟩) (by assumption) ?_
          rotate_left
          · (intro w' _; go_simp; try with_reducible rfl)
          try simp only [Act.put, List.setIfInBounds_toArray, List.set_cons_zero, List.set_cons_succ]
          refine wpAnyH_ready (rs := [2, 3]) (by kernel_rfl) (by simp) ?_
          refine consL rfl (fun K hK => ?_) (consL rfl (fun K hK => ?_) AllReadyH.nil)
          · rw [if_pos (by rfl)]
            go_simp
            go_at_call 9
            refine (c1.out _ _ _ _ ((hHeld.blk 3 rfl).rd 16 HA1.out ha1b (by decide))).mono ?_
            rintro e w1 ⟨rfl, hb1⟩
            refine hK.out _ _ (hHeld.below hb1) (fun hHeld => ?_)
            clear hK K
            try simp only [Act.put, List.setIfInBounds_toArray, List.set_cons_zero, List.set_cons_succ]
            refine wpAnyH_ready (rs := [3]) (by kernel_rfl) (by simp) ?_
            refine consL rfl (fun K hK => ?_) AllReadyH.nil
            · rw [if_pos (by rfl)]
              go_simp
              have hX : Kb < w1.heap.size := hHeld.lt _ List.mem_cons_self
              have hX0 := Blk.new w1 23 .u8 (List.replicate 16 0) _ rfl
              refine hK.out _ _ (hHeld.alloc _) (fun hHeld => ?_)
              clear hK K
              try simp only [Act.put, List.setIfInBounds_toArray, List.set_cons_zero, List.set_cons_succ]
              refine wpAnyH_ready (rs := [4]) (by kernel_rfl) (by simp) ?_
              refine consL rfl (fun K hK => ?_) AllReadyH.nil
              · rw [if_pos (by rfl)]
                refine wpo_store_arr 23 (.tmp 10) (.tmp 34) rfl w1.heap.size rfl hX0 rfl HZ1.out HS1.out ?_
                intro w6 hX6 hg6
                refine hK.out _ _ (hHeld.grown hg6 (by omega) (hneL0 _ hX) (by simp)) (fun hHeld => ?_)
                clear hK K
                try simp only [Act.put, List.setIfInBounds_toArray, List.set_cons_zero, List.set_cons_succ]
                refine wpAnyH_done (by kernel_rfl) ?_ _
                refine ⟨rfl, _, .agg (nv .u8 one).toArray, hX, ?_, hHeld.addB hX6⟩
                try simp only [Act.put, List.setIfInBounds_toArray, List.set_cons_zero, List.set_cons_succ]
                rfl
          · rw [if_pos (by rfl)]
            go_simp
            have hX : Kb < wv.heap.size := hHeld.lt _ List.mem_cons_self
            have hX0 := Blk.new wv 23 .u8 (List.replicate 16 0) _ rfl
            refine hK.out _ _ (hHeld.alloc _) (fun hHeld => ?_)
            clear hK K
            try simp only [Act.put, List.setIfInBounds_toArray, List.set_cons_zero, List.set_cons_succ]
            refine wpAnyH_ready (rs := [2]) (by kernel_rfl) (by simp) ?_
            refine consL rfl (fun K hK => ?_) AllReadyH.nil
            · rw [if_pos (by rfl)]
              go_simp
              go_at_call 9
              refine (c1.out _ _ _ _ ((hHeld.blk 3 rfl).rd 16 HA1.out ha1b (by decide))).mono ?_
              rintro e w1 ⟨rfl, hb1⟩
              have hX1 := hX0.below hb1
              refine hK.out _ _ (hHeld.below hb1) (fun hHeld => ?_)
              clear hK K
              try simp only [Act.put, List.setIfInBounds_toArray, List.set_cons_zero, List.set_cons_succ]
              refine wpAnyH_ready (rs := [4]) (by kernel_rfl) (by simp) ?_
              refine consL rfl (fun K hK => ?_) AllReadyH.nil
              · rw [if_pos (by rfl)]
                refine wpo_store_arr 23 (.tmp 10) (.tmp 34) rfl wv.heap.size rfl hX1 rfl HZ1.out HS1.out ?_
                intro w6 hX6 hg6
                refine hK.out _ _ (hHeld.grown hg6 (by omega) (hneL0 _ hX) (by simp)) (fun hHeld => ?_)
                clear hK K
                try simp only [Act.put, List.setIfInBounds_toArray, List.set_cons_zero, List.set_cons_succ]
                refine wpAnyH_done (by kernel_rfl) ?_ _
                refine ⟨rfl, _, .agg (nv .u8 one).toArray, hX, ?_, hHeld.addB hX6⟩
                try simp only [Act.put, List.setIfInBounds_toArray, List.set_cons_zero, List.set_cons_succ]
                rfl
        rintro a2 w2 ⟨X, v34, hX, rfl, hS2⟩
        clear hS c1
        try simp only [Act.put, List.setIfInBounds_toArray, List.set_cons_zero, List.set_cons_succ]
        go_wp2_with fail
        refine region_cut (fun a0 a2 w2 => ∃ v37 ad cp, a2 = ((((((a0.put (some 35) (.slice none 0 0)).put (some 36) (.slice (some ⟨w.heap.size, 0, none⟩) 16 16)).put (some 38) (.slice (some ⟨w.heap.size + 1, 0, none⟩) 16 16)).put (some 37) v37).put (some 39) (.slice ad 32 cp)).put (some 11) (.slice ad 32 cp)) ∧ LW w [(X, 23, .u8, one), (Kb, 22, .u8, ko), (w.heap.size + 1 + 1, 23, .u8, s), (w.heap.size + 1, 23, .u8, b), (w.heap.size, 23, .u8, a1)] [(ad, 32, cp, a1 ++ b)] w2) ?_ ?_
        · refine wp_region_held_drew (S := LW w [(X, 23, .u8, one), (Kb, 22, .u8, ko), (w.heap.size + 1 + 1, 23, .u8, s), (w.heap.size + 1, 23, .u8, b), (w.heap.size, 23, .u8, a1)] []) (by kernel_rfl) hS2.drew (fun hHeld => ?_)
          generalize World.drew _ = wv at hHeld ⊢
          refine takeL (i := 0) (v := ?_) rfl rfl (by kernel_rfl) (by kernel_rfl) (by kernel_rfl) (fun _ _ _ h => nomatch h.1) (Or.inl ⟨by rfl, ?_⟩) (by assumption) ?_
          rotate_left
          · (intro w' _; go_simp; try with_reducible rfl)
          try simp only [Act.put, List.setIfInBounds_toArray, List.set_cons_zero, List.set_cons_succ]
          refine takeL (i := 1) (v := ?_) rfl rfl (by kernel_rfl) (by kernel_rfl) (by kernel_rfl) (fun _ _ _ h => nomatch h.1) (Or.inl ⟨by rfl, ?_⟩) (by assumption) ?_
          rotate_left
          · (intro w' _; go_simp; try with_reducible rfl)
          try simp only [Act.put, List.setIfInBounds_toArray, List.set_cons_zero, List.set_cons_succ]
          refine takeL (i := 3) (v := ?_) rfl rfl (by kernel_rfl) (by kernel_rfl) (by kernel_rfl) (fun _ _ _ h => nomatch h.1) (Or.inl ⟨by rfl, ?_⟩) (by assumption) ?_
          rotate_left
          · (intro w' _; go_simp; try with_reducible rfl)
          try simp only [Act.put, List.setIfInBounds_toArray, List.set_cons_zero, List.set_cons_succ]
          refine wpAnyH_ready (rs := [2]) (by kernel_rfl) (by simp) ?_
          refine consL rfl (fun K hK => ?_) AllReadyH.nil
          · rw [if_pos (by rfl)]
            have hr1 := (hHeld.blk 4 rfl).rd 16 HA1.out ha1b (by decide)
            refine wpo_append_at (.tmp 35) (.tmp 36) rfl w.heap.size (.slice none 0 0) [] rfl (Own.nil _ _) _ _ _ a1 rfl hr1 (by rw [HA1.out]; decide) hHeld.bel.size ?_
            rintro v1 w1 ho1 hg1 hv1
            have hlt1 := hHeld.lt
            have hbb1 : Below wv.heap.size wv w1 := grown_below hg1 (Nat.le_refl _) (by simp [Value.ownBlock])
            refine hK.out _ _ (hHeld.below hbb1) (fun hHeld => ?_)
            clear hK K
            try simp only [Act.put, List.setIfInBounds_toArray, List.set_cons_zero, List.set_cons_succ]
            refine wpAnyH_ready (rs := [4]) (by kernel_rfl) (by simp) ?_
            refine consL rfl (fun K hK => ?_) AllReadyH.nil
            · rw [if_pos (by rfl)]
              have hr2 := (hHeld.blk 3 rfl).rd 16 HBL.out hbb (by decide)
              refine wpo_append_at (.tmp 37) (.tmp 38) rfl w.heap.size v1 ([] ++ a1) rfl ho1 _ _ _ b rfl hr2 (by simp only [List.nil_append]; rw [HA1.out, HBL.out]; decide) hHeld.bel.size ?_
              rintro v2 w2 ho2 hg2 _
              have hS3 : LW w [(X, 23, .u8, one), (Kb, 22, .u8, ko), (w.heap.size + 1 + 1, 23, .u8, s), (w.heap.size + 1, 23, .u8, b), (w.heap.size, 23, .u8, a1)] [] w2 := by
                rcases hv1 with hv1 | hv1
                · rw [hv1] at hg2
                  exact hHeld.below (grown_below hg2 (Nat.le_refl _) (by simp [Value.ownBlock]))
                · rw [hv1] at hg2
                  exact hHeld.grown hg2 (by have := hlt1 _ List.mem_cons_self; have : X < wv.heap.size := this; omega) (fun e he => Nat.ne_of_lt (hlt1 e he)) (by simp)
              obtain ⟨ad, cp, rfl, hrd, _⟩ := ho2.rd (by simp only [List.nil_append, List.length_append]; rw [HA1.out, HBL.out]; decide)
              rw [List.nil_append, List.length_append, HA1.out, HBL.out] at hrd
              simp only [List.nil_append, List.length_append] at *
              rw [HA1.out, HBL.out] at *
              refine hK.out _ _ hS3 (fun hHeld => ?_)
              clear hK K
              try simp only [Act.put, List.setIfInBounds_toArray, List.set_cons_zero, List.set_cons_succ]
              refine takeL (i := 5) (v := ?_) rfl rfl (by kernel_rfl) (by kernel_rfl) (by kernel_rfl) (fun _ _ _ h => nomatch h.1) (Or.inl ⟨by rfl, ?_⟩) (by assumption) ?_
              rotate_left
              · (intro w' _; go_simp; try with_reducible rfl)
              try simp only [Act.put, List.setIfInBounds_toArray, List.set_cons_zero, List.set_cons_succ]
              refine wpAnyH_done (by kernel_rfl) ?_ _
              refine ⟨rfl, v1, ad, cp, ?_, hHeld.addR hrd⟩
              try simp only [Act.put, List.setIfInBounds_toArray, List.set_cons_zero, List.set_cons_succ]
        rintro a2 w2b ⟨v37, ad, cp, rfl, hS4⟩
        clear hS2
        try simp only [Act.put, List.setIfInBounds_toArray, List.set_cons_zero, List.set_cons_succ]
        have k5 := hS4.blk 1 rfl
        go_wp2_with (first
          | (refine wp_load_arr rfl 22 (.tmp 8) rfl Kb rfl k5 32 5 Try.underlying22 HZO.out ?_)
          | (go_at_call 9; refine (c2.out _ _ _ _ (hS4.rd 0 rfl)).mono ?_; rintro e w5 ⟨rfl, hb5⟩; have s5 := hS4.below hb5; clear hS4 k5 hb5 c2)
          | (refine wp_store_new rfl 23 (.tmp 12) (.tmp 42) rfl rfl _ (nv .u8 two).toArray rfl HZ2.out HS2.out (nv_one _ _) ?_; have s6 := s5.new 23 .u8 two; clear s5)
          | fail)
        generalize w5.heap.size = Y at s6 ⊢
        refine at_world (fun V => LW w [(Y, 23, .u8, two), (X, 23, .u8, one), (Kb, 22, .u8, ko), (w.heap.size + 1 + 1, 23, .u8, s), (w.heap.size + 1, 23, .u8, b), (w.heap.size, 23, .u8, a1)] [(ad, 32, cp, a1 ++ b)] V) s6 ?_
        clear s6 w5
        intro V2 sV2
        go_loopw [13, 14, 15] (fun r13 r14 r wr => ∃ i : Nat, i ≤ 16 ∧ r = .int .i64 i ∧ r13 = .int .i64 (cc (lF a1 s) i) ∧ r14 = .int .i64 (cc (lF3 a1 b s) i) ∧ LW w [(Y, 23, .u8, two), (X, 23, .u8, one), (Kb, 22, .u8, ko), (w.heap.size + 1 + 1, 23, .u8, s), (w.heap.size + 1, 23, .u8, b), (w.heap.size, 23, .u8, a1)] [(ad, 32, cp, a1 ++ b)] wr) (fun _ _ r _ => 16 - (intOf r).toNat)
        case atStart => exact ⟨0, by decide, rfl, rfl, rfl, sV2⟩
        case round =>
          clear sV2
          obtain ⟨i, hi, rfl, rfl, rfl, hS⟩ := hrel
          by_cases hlt : i < 16
          · have hc1 := (hS.blk 5 rfl).cell i (by have := HA1.out; omega)
            have hc2 := (hS.blk 3 rfl).cell i (by have := HS.out; omega)
            have hc3 := (hS.blk 4 rfl).cell i (by have := HBL.out; omega)
            have hc4 := (hS.blk 1 rfl).cell i (by have := HL1.out; omega)
            have hc5 := (hS.blk 0 rfl).cell i (by have := HL2.out; omega)
            have b1 := getD_lt a1 ha1b i
            have b2 := getD_lt s hsb i
            have b3 := getD_lt b hbb i
            have q1 := cc_le (lF a1 s) 2 (fun j => lF_le a1 s ha1b hsb j) (by decide) i
            have q2 := cc_le (lF3 a1 b s) 3 (fun j => lF3_le a1 b s ha1b hbb hsb j) (by decide) i
            rw [h1.out i hlt] at hc4
            rw [h2.out i hlt] at hc5
            have e1 := cc_succ (lF a1 s) i
            have e2 := cc_succ (lF3 a1 b s) i
            unfold cd at hc4 hc5
            rw [show lF a1 s i = a1.getD i 0 + s.getD i 0 from rfl] at hc4 e1
            rw [show lF3 a1 b s i = a1.getD i 0 + b.getD i 0 + s.getD i 0 from rfl] at hc5 e2
            have E1 := Lib.hid e1
            have E2 := Lib.hid e2
            clear e1 e2
            generalize a1.getD i 0 = x at hc1 b1 hc4 hc5 E1 E2
            generalize s.getD i 0 = t at hc2 b2 hc4 hc5 E1 E2
            generalize b.getD i 0 = y at hc3 b3 hc5 E2
            generalize cc (lF a1 s) i = p at q1 hc4 E1 ⊢
            generalize cc (lF3 a1 b s) i = q at q2 hc5 E2 ⊢
            obtain ⟨p1, hp1⟩ : ∃ p1, p1 = p + x := ⟨_, rfl⟩
            obtain ⟨p2, hp2⟩ : ∃ p2, p2 = p1 + t := ⟨_, rfl⟩
            obtain ⟨r1, hr1⟩ : ∃ r1, r1 = q + x := ⟨_, rfl⟩
            obtain ⟨r2, hr2⟩ : ∃ r2, r2 = r1 + y := ⟨_, rfl⟩
            obtain ⟨r3, hr3⟩ : ∃ r3, r3 = r2 + t := ⟨_, rfl⟩
            have w1 := wrap_nat2 p x p1 hp1 (by omega)
            have w2 := wrap_nat2 p1 t p2 hp2 (by omega)
            have w3 := wrap_nat2 q x r1 hr1 (by omega)
            have w4 := wrap_nat2 r1 y r2 hr2 (by omega)
            have w5 := wrap_nat2 r2 t r3 hr3 (by omega)
            rw [show p + (x + t) = p2 by omega] at hc4
            rw [show q + (x + y + t) = r3 by omega] at hc5
            obtain ⟨o1, ho1⟩ : ∃ o1, o1 = p2 % 256 := ⟨_, rfl⟩
            obtain ⟨o2, ho2⟩ : ∃ o2, o2 = r3 % 256 := ⟨_, rfl⟩
            rw [← ho1] at hc4
            rw [← ho2] at hc5
            have w6 := wrap_u8mod p2 o1 ho1.symm
            have w7 := wrap_u8mod r3 o2 ho2.symm
            have n1 := neqF1 o1
            have n2 := neqF1 o2
            have hp2b : (p2 : Int) ≤ 600 := by omega
            have hr3b : (r3 : Int) ≤ 900 := by omega
            have f1 : cc (lF a1 s) (i + 1) = p2 / 256 := by rw [E1.out, show p + (x + t) = p2 by omega]
            have f2 : cc (lF3 a1 b s) (i + 1) = r3 / 256 := by rw [E2.out, show q + (x + y + t) = r3 by omega]
            have F1 := Lib.hid f1
            have F2 := Lib.hid f2
            have hid : decide ((i : Int) < 16) = true := decide_eq_true (by omega)
            clear f1 f2 hp1 hp2 hr1 hr2 hr3 E1 E2 ho1 ho2
            go_wp2_with fail
            go_quiet (fail)
            go_wp2_with fail
            go_quiet (fail)
            go_wp2_with fail
            exact ⟨⟨i + 1, by omega, by go_num, by rw [F1.out]; exact congrArg (Value.int .i64) (by omega), by rw [F2.out]; exact congrArg (Value.int .i64) (by omega), by first | exact hS.drewN _ | exact (hS.drewN _).drewN _⟩, by simp [intOf]; omega⟩
          · obtain rfl : i = 16 := by omega
            rw [show ((16 : Nat) : Int) = 16 from rfl]
            go_wp2_with fail
            go_ret
            exact ⟨rfl, hS.bel⟩
end Go.Proofs.Ytgfmglgibfhimaa.Po
