/- Walks of the document's numbers of twenty digits: the prime, comparing, subtracting, adding. -/
import Derived.Test.YtgfmglgibfhimaaPoW6
import Derived.Test.YtgfmglgibfhimaaPrPlain
import Derived.Test.YtgfmglgibfhimaaSub
import Derived.Deep.QuietTactic
import Derived.BigQuiet
namespace Go.Proofs.Ytgfmglgibfhimaa.Po
open Go.RowKit

def prN : Nat → List Nat
  | 0 => 251 :: List.replicate 19 0
  | k + 1 => (prN k).set (k + 1) 255
theorem prN_zero : prN 0 = 251 :: List.replicate 19 0 := rfl
theorem prN_succ (k : Nat) : prN (k + 1) = (prN k).set (k + 1) 255 := rfl
theorem prN_length (k : Nat) : (prN k).length = 20 := by
  induction k with
  | zero => rfl
  | succ k ih => rw [prN_succ, List.length_set, ih]
theorem prN_end : (prN 15).set 16 3 = by_ 20 PP := by decide +kernel

set_option maxHeartbeats 1000000 in
theorem prime_any (w : World) : Calls Try.prog 22 #[] w fun e w' => e = .returned (.agg (nv .i64 (by_ 20 PP)).toArray) ∧ Below w.heap.size w w' := by
  rw [← prN_end]
  have HZ := Lib.hid (show (Try.prog.info? 42).map (·.size) = some (prN 0).length by kernel_rfl)
  have hZ0 : Blk ((w.alloc (.cells (nv .i64 (List.replicate 20 0)).toArray 42)).alloc (.cells (nv .i64 (List.replicate 20 0)).toArray 42)) w.heap.size 42 .i64 (List.replicate 20 0) := (Blk.new w _ _ _ _ rfl).alloc _
  have hZ1 : Blk ((w.alloc (.cells (nv .i64 (List.replicate 20 0)).toArray 42)).alloc (.cells (nv .i64 (List.replicate 20 0)).toArray 42)) (w.heap.size + 1) 42 .i64 (List.replicate 20 0) := by
    have := Blk.new (w.alloc (.cells (nv .i64 (List.replicate 20 0)).toArray 42)) 42 .i64 (List.replicate 20 0) _ rfl
    rw [World.size_alloc] at this
    exact this
  have hB0 : Below w.heap.size w ((w.alloc (.cells (nv .i64 (List.replicate 20 0)).toArray 42)).alloc (.cells (nv .i64 (List.replicate 20 0)).toArray 42)) := xalloc (xnew _ _) _
  go_enter Try.func22, Try.ntmps22
  go_wp2_with (first
    | (refine wp_build rfl 42 _ rfl (.agg (nv .i64 (prN 0)).toArray) (by kernel_rfl) ?_)
    | (refine wp_store_arr rfl 42 (.tmp 1) (.tmp 3) rfl (w.heap.size + 1) rfl hZ1 rfl HZ.out (by kernel_rfl) ?_; intro W hP hg; have hO := hZ0.grown hg (ne_some (by omega)); have hB := gbelow hB0 hg (by omega); clear hZ0 hZ1 hB0)
    | fail)
  go_loopw [2] (fun r wr => ∃ k : Nat, k ≤ 15 ∧ r = .int .i64 ((k : Int) + 1) ∧ Blk wr w.heap.size 42 .i64 (List.replicate 20 0) ∧ Blk wr (w.heap.size + 1) 42 .i64 (prN k) ∧ Below w.heap.size w wr) (fun r _ => 20 - (intOf r).toNat)
  case atStart => exact ⟨0, by decide, rfl, hO, hP, hB⟩
  case round =>
    clear hO hP hB
    obtain ⟨k, hk, rfl, hO, hP, hB⟩ := hrel
    by_cases hlt : k < 15
    · obtain ⟨j, hj⟩ : ∃ j, j = k + 1 := ⟨_, rfl⟩
      have ej : (k : Int) + 1 = (j : Int) := by omega
      have hj16 : (j : Int) < 16 := by omega
      have hj20 : (j : Int) < 20 := by omega
      have hc := hP.cell j (by rw [prN_length]; omega)
      have hf := hP.frozen j
      generalize (prN k).getD j 0 = z at hc
      have hfin : Blk (wr.setCell ⟨w.heap.size + 1, j, none⟩ (.int .i64 255)) (w.heap.size + 1) 42 .i64 (prN (k + 1)) := by rw [prN_succ, ← hj]; exact hP.set j 255
      rw [ej]
      have HJ := Lib.hid hj
      clear hj ej
      go_wp2_with fail
      exact ⟨⟨k + 1, by omega, by have := HJ.out; go_num, hO.other _ _ (by show w.heap.size ≠ w.heap.size + 1; omega), hfin, xset hB (by show w.heap.size ≤ w.heap.size + 1; omega) _⟩, by have := HJ.out; simp [intOf]; omega⟩
    · obtain rfl : k = 15 := by omega
      have hc := hP.cell 16 (by rw [prN_length]; decide)
      have hf := hP.frozen 16
      have hfin := hP.set 16 3
      obtain ⟨ps, hps⟩ : ∃ ps, ps = (prN 15).set 16 3 := ⟨_, rfl⟩
      have hpl : ps.length = 20 := by rw [hps, List.length_set, prN_length]
      rw [← hps] at hfin
      have HPS := Lib.hid hps
      have HZ1 := Lib.hid (show (Try.prog.info? 42).map (·.size) = some ps.length by rw [hpl]; kernel_rfl)
      have HZ2 := Lib.hid (show (Try.prog.info? 42).map (·.size) = some (nv .i64 ps).toArray.size by simp only [List.size_toArray, nv_length]; rw [hpl]; kernel_rfl)
      have HZ3 := Lib.hid (show (List.replicate 20 0).length = ps.length by rw [hpl]; rfl)
      have hO1 := hO.other ⟨w.heap.size + 1, 16, none⟩ (.int .i64 ((3 : Nat) : Int)) (by show w.heap.size ≠ w.heap.size + 1; omega)
      have hB1 := xset hB (p := ⟨w.heap.size + 1, 16, none⟩) (by show w.heap.size ≤ w.heap.size + 1; omega) (.int .i64 ((3 : Nat) : Int))
      clear hps hpl hP hO hB
      rw [show ((15 : Nat) : Int) + 1 = 16 from rfl]
      generalize (prN 15).getD 16 0 = z at hc
      go_wp2_with (first
        | (refine wp_load_arr rfl 42 (.tmp 1) rfl (w.heap.size + 1) rfl hfin 20 3 Try.underlying42 HZ1.out ?_)
        | (refine wp_store_arr rfl 42 (.tmp 0) (.tmp 11) rfl w.heap.size rfl hO1 rfl HZ1.out HZ3.out ?_; intro W9 hO9 hg9)
        | fail)
      exact bodyPost_ret (results_cell_row rfl _ _ w.heap.size 42 (nv .i64 ps).toArray (0, 0) _ rfl hO9 Try.underlying42 rfl HZ2.out) rfl ⟨by rw [HPS.out], gbelow hB1 hg9 (Nat.le_refl _)⟩

theorem beqT (x y : Nat) (h : x = y) : ((x : Int) == (y : Int)) = true := by subst h; exact beq_self_eq_true _
theorem bneF (x y : Nat) (h : x = y) : ((x : Int) != (y : Int)) = false := by subst h; simp
theorem bneT (x y : Nat) (h : ¬ x = y) : ((x : Int) != (y : Int)) = true := by rw [bne_iff_ne]; omega
theorem toN (j : Nat) : ((j : Int) - 1 + 1).toNat = j := by omega
theorem toN1 (j : Nat) : ((j : Int) + 1).toNat = j + 1 := by omega

set_option maxHeartbeats 1000000 in
theorem above_any (w : World) (a b : List Nat) (ha : dg a) (hb : dg b) :
    Calls Try.prog 23 #[.agg (nv .i64 a).toArray, .agg (nv .i64 b).toArray] w fun e w' => e = .returned (.bool (decide (le b ≤ le a))) ∧ Below w.heap.size w w' := by
  go_enter Try.func23, Try.ntmps23
  go_wp2_with fail
  refine at_world (fun W => Blk W w.heap.size 42 .i64 a ∧ Blk W (w.heap.size + 1) 42 .i64 b ∧ Below w.heap.size w W) ⟨(Blk.new w _ _ a _ rfl).alloc _, ?_, xalloc (xnew _ _) _⟩ ?_
  · have := Blk.new (w.alloc (.cells (nv .i64 a).toArray 42)) 42 .i64 b _ rfl
    rw [World.size_alloc] at this
    exact this
  rintro W ⟨hA, hC, hB⟩
  go_loopw [5] (fun r wr => ∃ z : Int, -1 ≤ z ∧ z ≤ 19 ∧ r = .int .i64 z ∧ Hid (a.drop (z + 1).toNat = b.drop (z + 1).toNat) ∧ Blk wr w.heap.size 42 .i64 a ∧ Blk wr (w.heap.size + 1) 42 .i64 b ∧ Below w.heap.size w wr) (fun r _ => (intOf r + 1).toNat)
  case atStart => exact ⟨19, by decide, by decide, rfl, Lib.hid (by rw [List.drop_eq_nil_of_le (by rw [ha.1]; decide), List.drop_eq_nil_of_le (by rw [hb.1]; decide)]), hA, hC, hB⟩
  case round =>
    clear hA hC hB
    obtain ⟨z, hz1, hz2, rfl, HD, hA, hC, hB⟩ := hrel
    by_cases hz0 : 0 ≤ z
    · obtain ⟨j, rfl⟩ := Int.eq_ofNat_of_zero_le hz0
      have hj : j < 20 := by omega
      have hd := HD.out
      rw [toN1] at hd
      have hj20 : (j : Int) < 20 := by omega
      have hx := hA.cell j (by rw [ha.1]; omega)
      have hy := hC.cell j (by rw [hb.1]; omega)
      have hno := above_no ha hb j hj hd
      have hyes := above_no hb ha j hj hd.symm
      have heq := drop_step ha hb j hj hd
      have hxl := getD_lt a ha.2 j
      have hyl := getD_lt b hb.2 j
      obtain ⟨x, hx0⟩ : ∃ x, x = a.getD j 0 := ⟨_, rfl⟩
      obtain ⟨y, hy0⟩ : ∃ y, y = b.getD j 0 := ⟨_, rfl⟩
      rw [← hx0] at hx hno hyes heq hxl
      rw [← hy0] at hy hno hyes heq hyl
      clear hx0 hy0 HD hd
      rcases Nat.lt_trichotomy x y with h | h | h
      · have hne := bneT x y (by omega)
        have hgt : decide (y < x) = false := decide_eq_false (by omega)
        have hfin := Lib.hid (decide_eq_false (show ¬ le b ≤ le a by have := hno h; omega))
        clear hno hyes heq
        go_wp2_with fail
        go_quiet (fail)
        go_wp2_with fail
        go_quiet (fail)
        go_wp2_with fail
        go_ret
        exact ⟨by rw [hfin.out]; first | done | rfl, below_drewN (below_drewN hB _) _⟩
      · have hne := bneF x y h
        have hfin := Lib.hid (heq h)
        clear hno hyes heq
        go_wp2_with fail
        go_quiet (fail)
        go_wp2_with fail
        exact ⟨⟨(j : Int) - 1, by omega, by omega, rfl, Lib.hid (by rw [toN]; exact hfin.out), hA.drewN _, hC.drewN _, below_drewN hB _⟩, by simp [intOf] <;> omega⟩
      · have hne := bneT x y (by omega)
        have hgt : decide (y < x) = true := decide_eq_true h
        have hfin := Lib.hid (decide_eq_true (show le b ≤ le a by have := hyes h; omega))
        clear hno hyes heq
        go_wp2_with fail
        go_quiet (fail)
        go_wp2_with fail
        go_quiet (fail)
        go_wp2_with fail
        go_ret
        exact ⟨by rw [hfin.out]; first | done | rfl, below_drewN (below_drewN hB _) _⟩
    · obtain rfl : z = -1 := by omega
      have hfin := Lib.hid (decide_eq_true (show le b ≤ le a by have := above_eq (a := a) (b := b) HD.out; omega))
      clear HD
      go_wp2_with fail
      go_ret
      exact ⟨by rw [hfin.out]; first | done | rfl, hB⟩
end Go.Proofs.Ytgfmglgibfhimaa.Po
