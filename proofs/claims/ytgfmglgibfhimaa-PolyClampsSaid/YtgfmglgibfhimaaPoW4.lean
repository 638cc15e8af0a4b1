/- Walks: the least number. -/
import Derived.Test.YtgfmglgibfhimaaPoW3
namespace Go.Proofs.Ytgfmglgibfhimaa.Po
set_option linter.unusedSimpArgs false
set_option linter.unusedVariables false
open Go.RowKit

theorem ok5_addc {xs : List Nat} (h : ok5 xs) (i : Nat) : ok5 (addc xs i) := by
  unfold addc
  exact ok5_set (ok5_set h _ _ (Nat.mod_lt _ (by decide))) _ _ (by omega)
theorem ok5_more {xs : List Nat} (h : ok5 xs) : ∀ k, ok5 (moreN xs k)
  | 0 => ok5_set h _ _ (Nat.mod_lt _ (by decide))
  | k + 1 => ok5_addc (ok5_more h k) _
theorem moreN_zero (xs : List Nat) : moreN xs 0 = more5 xs := rfl
theorem moreN_succ (xs : List Nat) (k : Nat) : moreN xs (k + 1) = addc (moreN xs k) k := rfl
theorem ok5_least {xs : List Nat} (h : ok5 xs) : ok5 (least xs) := by
  rw [least_of xs _ _ rfl rfl]
  have h1 := ok5_carried (ok5_carried h)
  have h2 := ok5_more h1 4
  split
  · exact h1
  · exact ok5_set h2 _ _ (by omega)
theorem more5_eq (n : List Nat) (n0 : Nat) (h : n0 = n.getD 0 0) : more5 n = n.set 0 ((n0 + 5) % 18446744073709551616) := by subst h; rfl
theorem addc_eq (ms : List Nat) (k x y z : Nat) (hx : x = ms.getD k 0) (hy : y = ms.getD (k + 1) 0) (hz : z = (y + x / 67108864) % 18446744073709551616) : addc ms k = (ms.set (k + 1) z).set k (x % 67108864) := by
  subst hx hy hz
  unfold addc
  simp only
  congr 2
  simp [List.getD_eq_getElem?_getD]
attribute [local irreducible] moreN addc more5 least carried

set_option maxHeartbeats 1000000 in
theorem least_any (w : World) (xs : List Nat) (hx : ok5 xs) :
    Calls Try.prog 16 #[.agg (nv .u64 xs).toArray] w fun e w' => e = .returned (.agg (nv .u64 (least xs)).toArray) ∧ Below w.heap.size w w' := by
  have hn := ok5_carried (ok5_carried hx)
  have c1 := Lib.hid (fun W => carried_any W xs hx)
  have c2 := Lib.hid (fun W => carried_any W (carried xs) (ok5_carried hx))
  have hle := least_of xs (carried (carried xs)) (moreN (carried (carried xs)) 4) rfl rfl
  obtain ⟨ys, hys⟩ : ∃ ys, ys = carried xs := ⟨_, rfl⟩
  rw [← hys] at c1 c2 hle hn
  obtain ⟨n, hnn⟩ : ∃ n, n = carried ys := ⟨_, rfl⟩
  rw [← hnn] at c2 hle hn
  have HL := Lib.hid hle
  have HZX := Lib.hid (show (Try.prog.info? 34).map (·.size) = some xs.length by rw [hx.1]; kernel_rfl)
  have HZN := Lib.hid (show (Try.prog.info? 34).map (·.size) = some n.length by rw [hn.1]; kernel_rfl)
  have HZN2 := Lib.hid (show (Try.prog.info? 34).map (·.size) = some (nv .u64 n).toArray.size by simp only [List.size_toArray, nv_length]; rw [hn.1]; kernel_rfl)
  have HN5 := Lib.hid hn.1
  have HS1 := Lib.hid (show xs.length = n.length by rw [hx.1, hn.1])
  have HS2 := Lib.hid (show 5 = (nv .u64 n).toArray.size by simp [nv, hn.1])
  obtain ⟨n0, hn0⟩ : ∃ n0, n0 = n.getD 0 0 := ⟨_, rfl⟩
  have hn0l : n0 < 18446744073709551616 := hn0 ▸ getD_le hn.2 (by decide) 0
  have H0 := Lib.hid hn0
  clear hys hnn hle hn0
  go_enter Try.func16, Try.ntmps16
  have hN : Blk ((w.alloc (.cells (nv .u64 xs).toArray 34)).alloc (.cells (nv .u64 [0, 0, 0, 0, 0]).toArray 34)) w.heap.size 34 .u64 xs := (Blk.new w _ _ xs _ rfl).alloc _
  have hO : Blk ((w.alloc (.cells (nv .u64 xs).toArray 34)).alloc (.cells (nv .u64 [0, 0, 0, 0, 0]).toArray 34)) (w.heap.size + 1) 34 .u64 [0, 0, 0, 0, 0] := by
    have := Blk.new (w.alloc (.cells (nv .u64 xs).toArray 34)) 34 .u64 [0, 0, 0, 0, 0] _ rfl
    rw [World.size_alloc] at this
    exact this
  have hB0 : Below w.heap.size w ((w.alloc (.cells (nv .u64 xs).toArray 34)).alloc (.cells (nv .u64 [0, 0, 0, 0, 0]).toArray 34)) := xalloc (xnew _ _) _
  go_wp2_with (first
    | (refine wp_load_arr rfl 34 (.tmp 1) rfl w.heap.size rfl hN 5 32 Try.underlying34 HZX.out ?_; have tok : True := trivial)
    | (go_at_call 21; refine (c1.out _).mono ?_; clear c1; rintro e w1 ⟨rfl, hb1⟩; have hN1 := hN.below hb1; have hO1 := hO.below hb1; have hB1 := xtrans hB0 hb1; clear hN hO hB0)
    | (go_at_call 21; refine (c2.out _).mono ?_; clear c2; rintro e w2 ⟨rfl, hb2⟩; have hN2 := hN1.below hb2; have hO2 := hO1.below hb2; have hB2 := xtrans hB1 hb2; clear hN1 hO1 hB1)
    | (refine wp_store_arr rfl 34 (.tmp 1) (.tmp 7) rfl w.heap.size rfl hN2 rfl HZN.out HS1.out ?_; intro w3 hN3 hg3; have hO3 := hO2.grown hg3 (ne_some (by omega)); have hB3 := gbelow hB2 hg3 (Nat.le_refl _); clear hN2 hO2 hB2)
    | (refine wp_load_arr rfl 34 (.tmp 1) rfl w.heap.size rfl hN3 5 32 Try.underlying34 HZN.out ?_)
    | (refine wp_store_new rfl 34 (.tmp 3) (.tmp 8) rfl rfl _ (nv .u64 n).toArray rfl HZN2.out HS2.out (nv_one _ _) ?_; have hM3 := Blk.new w3 34 .u64 n _ rfl; have m0 := hM3.cell 0 (by rw [hn.1]; decide); have f0 := hM3.frozen 0; rw [← H0.out] at m0)
    | fail)
  have hM4 : Blk (w3.alloc (.cells ((nv .u64 n).set 0 (.int .u64 (IntKind.u64.wrap ((n0 : Int) + 5)))).toArray 34)) w3.heap.size 34 .u64 (moreN n 0) := by
    refine Blk.new w3 _ _ _ _ ?_
    rw [moreN_zero, more5_eq n n0 H0.out, nv_set]
    congr 3
  have hN4 := hN3.alloc (.cells ((nv .u64 n).set 0 (.int .u64 (IntKind.u64.wrap ((n0 : Int) + 5)))).toArray 34)
  have hO4 := hO3.alloc (.cells ((nv .u64 n).set 0 (.int .u64 (IntKind.u64.wrap ((n0 : Int) + 5)))).toArray 34)
  have hB4 := xalloc hB3 (.cells ((nv .u64 n).set 0 (.int .u64 (IntKind.u64.wrap ((n0 : Int) + 5)))).toArray 34)
  have hMlt := hO3.lt
  obtain ⟨M, hM⟩ : ∃ M, M = w3.heap.size := ⟨_, rfl⟩
  rw [← hM] at hM4 hMlt ⊢
  clear hM hN3 hO3 hB3 hb1 hb2 hg3 hn0l H0 m0 f0 hM3
  refine at_world (fun W => Blk W M 34 .u64 (moreN n 0) ∧ Blk W w.heap.size 34 .u64 n ∧ Blk W (w.heap.size + 1) 34 .u64 [0, 0, 0, 0, 0] ∧ Below w.heap.size w W) ⟨hM4, hN4, hO4, hB4⟩ ?_
  clear hM4 hN4 hO4 hB4
  rintro W ⟨hM, hN, hO, hB⟩
  go_loopw [13] (fun r wr => ∃ k : Nat, k ≤ 4 ∧ r = .int .i64 k ∧ Blk wr M 34 .u64 (moreN n k) ∧ Blk wr w.heap.size 34 .u64 n ∧ Blk wr (w.heap.size + 1) 34 .u64 [0, 0, 0, 0, 0] ∧ Below w.heap.size w wr) (fun r _ => 4 - (intOf r).toNat)
  case atStart => exact ⟨0, by decide, rfl, hM, hN, hO, hB⟩
  case round =>
    clear hM hN hO hB
    obtain ⟨k, hk4, rfl, hM, hN, hO, hB⟩ := hrel
    have hok := ok5_more hn k
    by_cases hlt : k < 4
    · have HS := Lib.hid (moreN_succ n k)
      generalize moreN n k = ms at hM hok HS
      have b0 := getD_le hok.2 (by decide) k
      have b1 := getD_le hok.2 (by decide) (k + 1)
      have c0 := hM.cell k (by rw [hok.1]; omega)
      have f0 := hM.frozen k
      have c1 := hM.cell (k + 1) (by rw [hok.1]; omega)
      have f1 := hM.frozen (k + 1)
      have a0 := and26 _ b0
      obtain ⟨x, hx0⟩ : ∃ x, x = ms.getD k 0 := ⟨_, rfl⟩
      obtain ⟨y, hy0⟩ : ∃ y, y = ms.getD (k + 1) 0 := ⟨_, rfl⟩
      obtain ⟨z, hz⟩ : ∃ z, z = (y + x / 67108864) % 18446744073709551616 := ⟨_, rfl⟩
      have hfin := (hM.set (k + 1) z).set k (x % 67108864)
      rw [← addc_eq ms k x y z hx0 hy0 hz, ← HS.out] at hfin
      rw [← hx0] at c0 b0 a0
      rw [← hy0] at c1 b1
      have ez := Lib.hid (show IntKind.u64.wrap ((y : Int) + (x : Int) / 67108864) = (z : Int) by rw [IntKind.wrap_u64]; omega)
      clear hx0 hy0 hz hM
      rcases (show k = 0 ∨ k = 1 ∨ k = 2 ∨ k = 3 from by omega) with rfl | rfl | rfl | rfl
      all_goals
        go_wp2_with fail
        go_region
        all_goals
          go_wp2_with fail
          rw [ez.out]
          exact ⟨⟨_, by decide, rfl, hfin.drewN 1, ((hN.other _ _ (by show w.heap.size ≠ M; omega)).other _ _ (by show w.heap.size ≠ M; omega)).drewN 1, ((hO.other _ _ (by show w.heap.size + 1 ≠ M; omega)).other _ _ (by show w.heap.size + 1 ≠ M; omega)).drewN 1, below_drewN (xset (xset hB (by show w.heap.size ≤ M; omega) _) (by show w.heap.size ≤ M; omega) _) 1⟩, by simp [intOf]⟩
    · obtain rfl : k = 4 := by omega
      have hm4 := hM.cell 4 (by rw [hok.1]; decide)
      have f4 := hM.frozen 4
      have b4 := getD_le hok.2 (by decide) 4
      have a4 := and26 _ b4
      obtain ⟨u, hu⟩ : ∃ u, u = (moreN n 4).getD 4 0 := ⟨_, rfl⟩
      rw [← hu] at hm4 a4 b4
      have HL := HL.out
      rw [← hu] at HL
      by_cases h0 : u / 67108864 = 0
      · have hd : ((u : Int) / 67108864 == 0) = true := beq_iff_eq.2 (by omega)
        rw [if_pos h0] at HL
        have HL2 := Lib.hid HL
        clear HL hu
        go_wp2_with (first
          | (refine wp_load_arr rfl 34 (.tmp 1) rfl w.heap.size rfl hN 5 32 Try.underlying34 HZN.out ?_)
          | (refine wp_store_arr rfl 34 (.tmp 2) (.tmp 36) rfl (w.heap.size + 1) rfl hO rfl HZN.out HN5.out.symm ?_; intro W9 hO9 hg9)
          | fail)
        exact bodyPost_ret (results_cell_row rfl _ _ (w.heap.size + 1) 34 (nv .u64 n).toArray (0, 0) _ rfl hO9 Try.underlying34 rfl HZN2.out) rfl ⟨by rw [HL2.out], gbelow hB hg9 (by omega)⟩
      · have hd : ((u : Int) / 67108864 == 0) = false := beq_eq_false_iff_ne.2 (by omega)
        rw [if_neg h0] at HL
        have hfin := hM.set 4 (u % 67108864)
        rw [← HL] at hfin
        have hll := ok5_least hx
        have HZL := Lib.hid (show (Try.prog.info? 34).map (·.size) = some (least xs).length by rw [hll.1]; kernel_rfl)
        have HZL2 := Lib.hid (show (Try.prog.info? 34).map (·.size) = some (nv .u64 (least xs)).toArray.size by simp only [List.size_toArray, nv_length]; rw [hll.1]; kernel_rfl)
        have HL5 := Lib.hid hll.1
        have hO1 := hO.other ⟨M, 4, none⟩ (.int .u64 ((u % 67108864 : Nat) : Int)) (by show w.heap.size + 1 ≠ M; omega)
        have hB1 := xset hB (p := ⟨M, 4, none⟩) (by show w.heap.size ≤ M; omega) (.int .u64 ((u % 67108864 : Nat) : Int))
        clear HL hu hll hM hN hO hB
        go_wp2_with (first
          | (refine wp_load_arr rfl 34 (.tmp 3) rfl M rfl hfin 5 32 Try.underlying34 HZL.out ?_)
          | (refine wp_store_arr rfl 34 (.tmp 2) (.tmp 41) rfl (w.heap.size + 1) rfl hO1 rfl HZL.out HL5.out.symm ?_; intro W9 hO9 hg9)
          | fail)
        exact bodyPost_ret (results_cell_row rfl _ _ (w.heap.size + 1) 34 (nv .u64 (least xs)).toArray (0, 0) _ rfl hO9 Try.underlying34 rfl HZL2.out) rfl ⟨rfl, gbelow hB1 hg9 (by omega)⟩
end Go.Proofs.Ytgfmglgibfhimaa.Po
