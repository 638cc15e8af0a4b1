/- The walks of the document's number of any size. -/
import Derived.Test.YtpcppnoomogloaaPoWs
import Derived.Test.YtpcppnoomogloaaPla
import Derived.Test.YtpcppnoomogloaaFnd
import Derived.Deep.QuietTactic
import Derived.BigQuiet
set_option maxRecDepth 4000
namespace Go.Proofs.Ytpcppnoomogloaa.Po
set_option linter.unusedSimpArgs false
set_option linter.unusedVariables false
open Go.RowKit

def prN : Nat → List Nat
  | 0 => 251 :: List.replicate 19 0
  | k + 1 => (prN k).set (k + 1) 255
theorem prN_zero : prN 0 = 251 :: List.replicate 19 0 := rfl
theorem prN_succ (k : Nat) : prN (k + 1) = (prN k).set (k + 1) 255 := rfl
theorem prN_length (k : Nat) : (prN k).length = 20 := by
  induction k with
  | zero => rfl
  | succ k ih => rw [prN_succ, List.length_set, ih]
theorem prN_end : (prN 15).set 16 3 = by_ 20 PP := by decide +kernel

set_option maxHeartbeats 1000000 in
theorem prime_any (w : World) : Calls Try.prog 85 #[] w fun e w' => e = .returned (.agg (nv .i64 (by_ 20 PP)).toArray) ∧ Below w.heap.size w w' := by
  rw [← prN_end]
  have HZ := Lib.hid (show (Try.prog.info? 107).map (·.size) = some (prN 0).length by kernel_rfl)
  have hZ0 : Blk ((w.alloc (.cells (nv .i64 (List.replicate 20 0)).toArray 107)).alloc (.cells (nv .i64 (List.replicate 20 0)).toArray 107)) w.heap.size 107 .i64 (List.replicate 20 0) := (Blk.new w _ _ _ _ rfl).alloc _
  have hZ1 : Blk ((w.alloc (.cells (nv .i64 (List.replicate 20 0)).toArray 107)).alloc (.cells (nv .i64 (List.replicate 20 0)).toArray 107)) (w.heap.size + 1) 107 .i64 (List.replicate 20 0) := by
    have := Blk.new (w.alloc (.cells (nv .i64 (List.replicate 20 0)).toArray 107)) 107 .i64 (List.replicate 20 0) _ rfl
    rw [World.size_alloc] at this
    exact this
  have hB0 : Below w.heap.size w ((w.alloc (.cells (nv .i64 (List.replicate 20 0)).toArray 107)).alloc (.cells (nv .i64 (List.replicate 20 0)).toArray 107)) := xalloc (xnew _ _) _
  go_enter Try.func85, Try.ntmps85
  go_wp2_with (first
    | (refine wp_build rfl 107 _ rfl (.agg (nv .i64 (prN 0)).toArray) (by kernel_rfl) ?_)
    | (refine wp_store_arr rfl 107 (.tmp 1) (.tmp 3) rfl (w.heap.size + 1) rfl hZ1 rfl HZ.out (by kernel_rfl) ?_; intro W hP hg; have hO := hZ0.grown hg (ne_some (by omega)); have hB := gbelow hB0 hg (by omega); clear hZ0 hZ1 hB0)
    | fail)
  go_loopw [2] (fun r wr => ∃ k : Nat, k ≤ 15 ∧ r = .int .i64 ((k : Int) + 1) ∧ Blk wr w.heap.size 107 .i64 (List.replicate 20 0) ∧ Blk wr (w.heap.size + 1) 107 .i64 (prN k) ∧ Below w.heap.size w wr) (fun r _ => 20 - (intOf r).toNat)
  case atStart => exact ⟨0, by decide, rfl, hO, hP, hB⟩
  case round =>
    clear hO hP hB
    obtain ⟨k, hk, rfl, hO, hP, hB⟩ := hrel
    by_cases hlt : k < 15
    · obtain ⟨j, hj⟩ : ∃ j, j = k + 1 := ⟨_, rfl⟩
      have ej : (k : Int) + 1 = (j : Int) := by omega
      have hj16 : (j : Int) < 16 := by omega
      have hj20 : (j : Int) < 20 := by omega
      have hc := hP.cell j (by rw [prN_length]; omega)
      have hf := hP.frozen j
      generalize (prN k).getD j 0 = z at hc
      have hfin : Blk (wr.setCell ⟨w.heap.size + 1, j, none⟩ (.int .i64 255)) (w.heap.size + 1) 107 .i64 (prN (k + 1)) := by rw [prN_succ, ← hj]; exact hP.set j 255
      rw [ej]
      have HJ := Lib.hid hj
      clear hj ej
      go_wp2_with fail
      exact ⟨⟨k + 1, by omega, by have := HJ.out; go_num, hO.other _ _ (by show w.heap.size ≠ w.heap.size + 1; omega), hfin, xset hB (by show w.heap.size ≤ w.heap.size + 1; omega) _⟩, by have := HJ.out; simp [intOf]; omega⟩
    · obtain rfl : k = 15 := by omega
      have hc := hP.cell 16 (by rw [prN_length]; decide)
      have hf := hP.frozen 16
      have hfin := hP.set 16 3
      obtain ⟨ps, hps⟩ : ∃ ps, ps = (prN 15).set 16 3 := ⟨_, rfl⟩
      have hpl : ps.length = 20 := by rw [hps, List.length_set, prN_length]
      rw [← hps] at hfin
      have HPS := Lib.hid hps
      have HZ1 := Lib.hid (show (Try.prog.info? 107).map (·.size) = some ps.length by rw [hpl]; kernel_rfl)
      have HZ2 := Lib.hid (show (Try.prog.info? 107).map (·.size) = some (nv .i64 ps).toArray.size by simp only [List.size_toArray, nv_length]; rw [hpl]; kernel_rfl)
      have HZ3 := Lib.hid (show (List.replicate 20 0).length = ps.length by rw [hpl]; rfl)
      have hO1 := hO.other ⟨w.heap.size + 1, 16, none⟩ (.int .i64 ((3 : Nat) : Int)) (by show w.heap.size ≠ w.heap.size + 1; omega)
      have hB1 := xset hB (p := ⟨w.heap.size + 1, 16, none⟩) (by show w.heap.size ≤ w.heap.size + 1; omega) (.int .i64 ((3 : Nat) : Int))
      clear hps hpl hP hO hB
      rw [show ((15 : Nat) : Int) + 1 = 16 from rfl]
      generalize (prN 15).getD 16 0 = z at hc
      go_wp2_with (first
        | (refine wp_load_arr rfl 107 (.tmp 1) rfl (w.heap.size + 1) rfl hfin 20 3 Try.underlying107 HZ1.out ?_)
        | (refine wp_store_arr rfl 107 (.tmp 0) (.tmp 11) rfl w.heap.size rfl hO1 rfl HZ1.out HZ3.out ?_; intro W9 hO9 hg9)
        | fail)
      exact bodyPost_ret (results_cell_row rfl _ _ w.heap.size 107 (nv .i64 ps).toArray (0, 0) _ rfl hO9 Try.underlying107 rfl HZ2.out) rfl ⟨by rw [HPS.out], gbelow hB1 hg9 (Nat.le_refl _)⟩

theorem beqT (x y : Nat) (h : x = y) : ((x : Int) == (y : Int)) = true := by subst h; exact beq_self_eq_true _
theorem bneF (x y : Nat) (h : x = y) : ((x : Int) != (y : Int)) = false := by subst h; simp
theorem bneT (x y : Nat) (h : ¬ x = y) : ((x : Int) != (y : Int)) = true := by rw [bne_iff_ne]; omega
theorem toN (j : Nat) : ((j : Int) - 1 + 1).toNat = j := by omega
theorem toN1 (j : Nat) : ((j : Int) + 1).toNat = j + 1 := by omega

set_option maxHeartbeats 1000000 in
theorem above_any (w : World) (a b : List Nat) (ha : dg a) (hb : dg b) :
    Calls Try.prog 86 #[.agg (nv .i64 a).toArray, .agg (nv .i64 b).toArray] w fun e w' => e = .returned (.bool (decide (le b ≤ le a))) ∧ Below w.heap.size w w' := by
  go_enter Try.func86, Try.ntmps86
  go_wp2_with fail
  refine at_world (fun W => Blk W w.heap.size 107 .i64 a ∧ Blk W (w.heap.size + 1) 107 .i64 b ∧ Below w.heap.size w W) ⟨(Blk.new w _ _ a _ rfl).alloc _, ?_, xalloc (xnew _ _) _⟩ ?_
  · have := Blk.new (w.alloc (.cells (nv .i64 a).toArray 107)) 107 .i64 b _ rfl
    rw [World.size_alloc] at this
    exact this
  rintro W ⟨hA, hC, hB⟩
  go_loopw [5] (fun r wr => ∃ z : Int, -1 ≤ z ∧ z ≤ 19 ∧ r = .int .i64 z ∧ Hid (a.drop (z + 1).toNat = b.drop (z + 1).toNat) ∧ Blk wr w.heap.size 107 .i64 a ∧ Blk wr (w.heap.size + 1) 107 .i64 b ∧ Below w.heap.size w wr) (fun r _ => (intOf r + 1).toNat)
  case atStart => exact ⟨19, by decide, by decide, rfl, Lib.hid (by rw [List.drop_eq_nil_of_le (by rw [ha.1]; decide), List.drop_eq_nil_of_le (by rw [hb.1]; decide)]), hA, hC, hB⟩
  case round =>
    clear hA hC hB
    obtain ⟨z, hz1, hz2, rfl, HD, hA, hC, hB⟩ := hrel
    by_cases hz0 : 0 ≤ z
    · obtain ⟨j, rfl⟩ := Int.eq_ofNat_of_zero_le hz0
      have hj : j < 20 := by omega
      have hd := HD.out
      rw [toN1] at hd
      have hj20 : (j : Int) < 20 := by omega
      have hx := hA.cell j (by rw [ha.1]; omega)
      have hy := hC.cell j (by rw [hb.1]; omega)
      have hno := above_no ha hb j hj hd
      have hyes := above_no hb ha j hj hd.symm
      have heq := drop_step ha hb j hj hd
      have hxl := getD_lt a ha.2 j
      have hyl := getD_lt b hb.2 j
      obtain ⟨x, hx0⟩ : ∃ x, x = a.getD j 0 := ⟨_, rfl⟩
      obtain ⟨y, hy0⟩ : ∃ y, y = b.getD j 0 := ⟨_, rfl⟩
      rw [← hx0] at hx hno hyes heq hxl
      rw [← hy0] at hy hno hyes heq hyl
      clear hx0 hy0 HD hd
      rcases Nat.lt_trichotomy x y with h | h | h
      · have hne := bneT x y (by omega)
        have hgt : decide (y < x) = false := decide_eq_false (by omega)
        have hfin := Lib.hid (decide_eq_false (show ¬ le b ≤ le a by have := hno h; omega))
        clear hno hyes heq
        go_wp2_with fail
        go_quiet (fail)
        go_wp2_with fail
        go_quiet (fail)
        go_wp2_with fail
        go_ret
        exact ⟨by rw [hfin.out]; first | done | rfl, below_drewN (below_drewN hB _) _⟩
      · have hne := bneF x y h
        have hfin := Lib.hid (heq h)
        clear hno hyes heq
        go_wp2_with fail
        go_quiet (fail)
        go_wp2_with fail
        exact ⟨⟨(j : Int) - 1, by omega, by omega, rfl, Lib.hid (by rw [toN]; exact hfin.out), hA.drewN _, hC.drewN _, below_drewN hB _⟩, by simp [intOf] <;> omega⟩
      · have hne := bneT x y (by omega)
        have hgt : decide (y < x) = true := decide_eq_true h
        have hfin := Lib.hid (decide_eq_true (show le b ≤ le a by have := hyes h; omega))
        clear hno hyes heq
        go_wp2_with fail
        go_quiet (fail)
        go_wp2_with fail
        go_quiet (fail)
        go_wp2_with fail
        go_ret
        exact ⟨by rw [hfin.out]; first | done | rfl, below_drewN (below_drewN hB _) _⟩
    · obtain rfl : z = -1 := by omega
      have hfin := Lib.hid (decide_eq_true (show le b ≤ le a by have := above_eq (a := a) (b := b) HD.out; omega))
      clear HD
      go_wp2_with fail
      go_ret
      exact ⟨by rw [hfin.out]; first | done | rfl, hB⟩
end Go.Proofs.Ytpcppnoomogloaa.Po

namespace Go.Proofs.Ytpcppnoomogloaa.Po
set_option linter.unusedSimpArgs false
set_option linter.unusedVariables false
open Go.RowKit

theorem two_blocks {w : World} {t : TypeId} {k : IntKind} (a b c : List Nat) : (fun W => Blk W w.heap.size t k a ∧ Blk W (w.heap.size + 1) t k b ∧ Blk W (w.heap.size + 1 + 1) t k c ∧ Below w.heap.size w W)
    (((w.alloc (.cells (nv k a).toArray t)).alloc (.cells (nv k b).toArray t)).alloc (.cells (nv k c).toArray t)) := by
  refine ⟨((Blk.new w _ _ a _ rfl).alloc _).alloc _, ?_, ?_, xalloc (xalloc (xnew _ _) _) _⟩
  · have := (Blk.new (w.alloc (.cells (nv k a).toArray t)) t k b _ rfl).alloc (.cells (nv k c).toArray t)
    rw [World.size_alloc] at this
    exact this
  · have := Blk.new ((w.alloc (.cells (nv k a).toArray t)).alloc (.cells (nv k b).toArray t)) t k c _ rfl
    rw [World.size_alloc, World.size_alloc] at this
    exact this

set_option maxHeartbeats 1000000 in
theorem less_any (w : World) (a b : List Nat) (ha : dg a) (hb : dg b) (hle : le b ≤ le a) :
    Calls Try.prog 87 #[.agg (nv .i64 a).toArray, .agg (nv .i64 b).toArray] w fun e w' => e = .returned (.agg (nv .i64 (by_ 20 (le a - le b))).toArray) ∧ Below w.heap.size w w' := by
  have HE := Lib.hid (subN_end ha hb hle)
  clear hle
  go_enter Try.func87, Try.ntmps87
  go_wp2_with fail
  refine at_world (fun W => Blk W w.heap.size 107 .i64 a ∧ Blk W (w.heap.size + 1) 107 .i64 b ∧ Blk W (w.heap.size + 1 + 1) 107 .i64 (List.replicate 20 0) ∧ Below w.heap.size w W) (two_blocks a b (List.replicate 20 0)) ?_
  rintro W ⟨hA, hC, hO, hB⟩
  rw [← subN_zero a b] at hA
  go_loopw [5, 6] (fun c r wr => ∃ i : Nat, i ≤ 20 ∧ r = .int .i64 i ∧ c = .int .i64 ((bor a b i : Nat) : Int) ∧ Blk wr w.heap.size 107 .i64 (subN a b i) ∧ Blk wr (w.heap.size + 1) 107 .i64 b ∧ Blk wr (w.heap.size + 1 + 1) 107 .i64 (List.replicate 20 0) ∧ Below w.heap.size w wr) (fun _ r _ => 20 - (intOf r).toNat)
  case atStart => exact ⟨0, by decide, rfl, rfl, hA, hC, hO, hB⟩
  case round =>
    clear hA hC hO hB
    obtain ⟨i, hi, rfl, rfl, hA, hC, hO, hB⟩ := hrel
    by_cases hlt : i < 20
    · have hx := hA.cell i (by rw [subN_length a b i (by rw [ha.1]; exact hi), ha.1]; exact hlt)
      rw [subN_get a b i (by rw [ha.1]; exact hlt)] at hx
      have hy := hC.cell i (by rw [hb.1]; exact hlt)
      have hset := subN_succ a b i (by rw [ha.1]; exact hlt)
      have hxl := getD_lt a ha.2 i
      have hyl := getD_lt b hb.2 i
      have hcl := bor_le a b i
      have hbs := bor_succ a b i
      have hsd : subD a b i = (a.getD i 0 + 256 - b.getD i 0 - bor a b i) % 256 := rfl
      obtain ⟨x, hx0⟩ : ∃ x, x = a.getD i 0 := ⟨_, rfl⟩
      obtain ⟨y, hy0⟩ : ∃ y, y = b.getD i 0 := ⟨_, rfl⟩
      obtain ⟨c, hc0⟩ : ∃ c, c = bor a b i := ⟨_, rfl⟩
      obtain ⟨d, hd0⟩ : ∃ d, d = subD a b i := ⟨_, rfl⟩
      rw [← hx0] at hx hxl hbs hsd
      rw [← hy0] at hy hyl hbs hsd
      rw [← hc0] at hcl hbs hsd
      rw [← hd0] at hset hsd
      rw [← hc0]
      have HSET := Lib.hid hset
      clear hx0 hy0 hc0 hd0 hset
      by_cases h : x < y + c
      · rw [if_pos h] at hbs
        have HBS := Lib.hid hbs
        have e1 : (x : Int) - (y : Int) - (c : Int) + 256 = (d : Int) := by omega
        have e2 : (x : Int) - (y : Int) - (c : Int) < 0 := by omega
        clear hbs hsd
        go_wp2_with fail
        go_quiet (fail)
        have hA2 := hA.drewN nq
        have hf := hA2.frozen i
        have hcell := hA2.cell i (by rw [subN_length a b i (by rw [ha.1]; exact hi), ha.1]; exact hlt)
        have hfin := hA2.set i d
        rw [HSET.out] at hfin
        generalize (subN a b i).getD i 0 = z at hcell
        clear hx hy
        go_wp2_with fail
        exact ⟨⟨i + 1, by omega, by go_num, by rw [HBS.out]; rfl, hfin, (hC.drewN nq).other _ _ (by show w.heap.size + 1 ≠ w.heap.size; omega), (hO.drewN nq).other _ _ (by show w.heap.size + 1 + 1 ≠ w.heap.size; omega), xset (below_drewN hB nq) (Nat.le_refl _) _⟩, by simp [intOf]; omega⟩
      · rw [if_neg h] at hbs
        have HBS := Lib.hid hbs
        have e1 : (x : Int) - (y : Int) - (c : Int) = (d : Int) := by omega
        clear hbs hsd
        go_wp2_with fail
        go_quiet (fail)
        have hA2 := hA.drewN nq
        have hf := hA2.frozen i
        have hcell := hA2.cell i (by rw [subN_length a b i (by rw [ha.1]; exact hi), ha.1]; exact hlt)
        have hfin := hA2.set i d
        rw [HSET.out] at hfin
        generalize (subN a b i).getD i 0 = z at hcell
        clear hx hy
        try rw [e1]
        have hd0 : ¬ (d : Int) < 0 := by omega
        go_wp2_with fail
        exact ⟨⟨i + 1, by omega, by go_num, by rw [HBS.out]; rfl, hfin, (hC.drewN nq).other _ _ (by show w.heap.size + 1 ≠ w.heap.size; omega), (hO.drewN nq).other _ _ (by show w.heap.size + 1 + 1 ≠ w.heap.size; omega), xset (below_drewN hB nq) (Nat.le_refl _) _⟩, by simp [intOf]; omega⟩
    · obtain rfl : i = 20 := by omega
      have hd := dg_subN ha b 20 (Nat.le_refl _)
      rw [HE.out] at hA hd
      obtain ⟨ps, hps⟩ : ∃ ps, ps = by_ 20 (le a - le b) := ⟨_, rfl⟩
      rw [← hps] at hA hd
      have HPS := Lib.hid hps
      have HZ1 := Lib.hid (show (Try.prog.info? 107).map (·.size) = some ps.length by rw [hd.1]; kernel_rfl)
      have HZ2 := Lib.hid (show (Try.prog.info? 107).map (·.size) = some (nv .i64 ps).toArray.size by simp only [List.size_toArray, nv_length]; rw [hd.1]; kernel_rfl)
      have HZ3 := Lib.hid (show (List.replicate 20 0).length = ps.length by rw [hd.1]; rfl)
      clear hps hd
      rw [show ((20 : Nat) : Int) = 20 from rfl]
      go_wp2_with (first
        | (refine wp_load_arr rfl 107 (.tmp 2) rfl w.heap.size rfl hA 20 3 Try.underlying107 HZ1.out ?_)
        | (refine wp_store_arr rfl 107 (.tmp 4) (.tmp 28) rfl (w.heap.size + 1 + 1) rfl hO rfl HZ1.out HZ3.out ?_; intro W9 hO9 hg9)
        | fail)
      exact bodyPost_ret (results_cell_row rfl _ _ (w.heap.size + 1 + 1) 107 (nv .i64 ps).toArray (0, 0) _ rfl hO9 Try.underlying107 rfl HZ2.out) rfl ⟨by rw [HPS.out], gbelow hB hg9 (by omega)⟩

set_option maxHeartbeats 1500000 in
theorem add_any (w : World) (a b : List Nat) (ha : dg a) (hb : dg b) (hla : le a < PP) (hlb : le b < PP) :
    Calls Try.prog 81 #[.agg (nv .i64 a).toArray, .agg (nv .i64 b).toArray] w fun e w' => e = .returned (.agg (nv .i64 (by_ 20 ((le a + le b) % PP))).toArray) ∧ Below w.heap.size w w' := by
  have hdn := dg_addN ha b 20 (Nat.le_refl _)
  have HF1 := fun h => Lib.hid (add_fin ha hb hla hlb h)
  have HF2 := fun h => Lib.hid (add_fin2 ha hb hla hlb h)
  clear hla hlb
  have cA := Lib.hid (fun W => above_any W (addN a b 20) (by_ 20 PP) hdn (dg_by _))
  rw [le_by20 _ PP_small] at cA
  have cL := fun h => Lib.hid (fun W => less_any W (addN a b 20) (by_ 20 PP) hdn (dg_by _) (by rw [le_by20 _ PP_small]; exact h))
  rw [le_by20 _ PP_small] at cL
  have cP := Lib.hid prime_any
  have hpd := dg_by PP
  obtain ⟨pp, hpp⟩ : ∃ pp, pp = by_ 20 PP := ⟨_, rfl⟩
  rw [← hpp] at cA cL cP hpd
  obtain ⟨PX, hPX⟩ : ∃ PX, PX = PP := ⟨_, rfl⟩
  rw [← hPX] at cA cL HF1 HF2
  have HPX := Lib.hid hPX
  clear hpp hPX
  go_enter Try.func81, Try.ntmps81
  go_wp2_with fail
  refine at_world (fun W => Blk W w.heap.size 107 .i64 a ∧ Blk W (w.heap.size + 1) 107 .i64 b ∧ Blk W (w.heap.size + 1 + 1) 107 .i64 (List.replicate 20 0) ∧ Below w.heap.size w W) (two_blocks a b (List.replicate 20 0)) ?_
  rintro W ⟨hA, hC, hO, hB⟩
  rw [← addN_zero a b] at hA
  go_loopw [5, 6] (fun c r wr => ∃ i : Nat, i ≤ 20 ∧ r = .int .i64 i ∧ c = .int .i64 ((car a b i : Nat) : Int) ∧ Blk wr w.heap.size 107 .i64 (addN a b i) ∧ Blk wr (w.heap.size + 1) 107 .i64 b ∧ Blk wr (w.heap.size + 1 + 1) 107 .i64 (List.replicate 20 0) ∧ Below w.heap.size w wr) (fun _ r _ => 20 - (intOf r).toNat)
  case atStart => exact ⟨0, by decide, rfl, rfl, hA, hC, hO, hB⟩
  case round =>
    clear hA hC hO hB
    obtain ⟨i, hi, rfl, rfl, hA, hC, hO, hB⟩ := hrel
    by_cases hlt : i < 20
    · clear cA cL cP HF1 HF2
      have hx := hA.cell i (by rw [addN_length a b i (by rw [ha.1]; exact hi), ha.1]; exact hlt)
      rw [addN_get a b i (by rw [ha.1]; exact hlt)] at hx
      have hy := hC.cell i (by rw [hb.1]; exact hlt)
      have hset := addN_succ a b i (by rw [ha.1]; exact hlt)
      have hxl := getD_lt a ha.2 i
      have hyl := getD_lt b hb.2 i
      have hcl := car_lt ha.2 hb.2 i
      have hbs := car_succ a b i
      have hsd : addD a b i = (a.getD i 0 + b.getD i 0 + car a b i) % 256 := rfl
      obtain ⟨x, hx0⟩ : ∃ x, x = a.getD i 0 := ⟨_, rfl⟩
      obtain ⟨y, hy0⟩ : ∃ y, y = b.getD i 0 := ⟨_, rfl⟩
      obtain ⟨c, hc0⟩ : ∃ c, c = car a b i := ⟨_, rfl⟩
      obtain ⟨d, hd0⟩ : ∃ d, d = addD a b i := ⟨_, rfl⟩
      obtain ⟨n, hn0⟩ : ∃ n, n = x + y + c := ⟨_, rfl⟩
      rw [← hx0] at hx hxl hbs hsd
      rw [← hy0] at hy hyl hbs hsd
      rw [← hc0] at hcl hbs hsd
      rw [← hd0] at hset hsd
      rw [← hn0] at hbs hsd
      rw [← hc0]
      have HSET := Lib.hid hset
      have HBS := Lib.hid hbs
      have e1 : (x : Int) + (y : Int) + (c : Int) = (n : Int) := by omega
      have e2 : (n : Int) % 256 = (d : Int) := by omega
      have hnl : n < 1000 := by omega
      clear hx0 hy0 hc0 hd0 hn0 hset hbs hsd
      go_wp2_with fail
      go_quiet (fail)
      have hA2 := hA.drewN nq
      have hf := hA2.frozen i
      have hcell := hA2.cell i (by rw [addN_length a b i (by rw [ha.1]; exact hi), ha.1]; exact hlt)
      have hfin := hA2.set i d
      rw [HSET.out] at hfin
      generalize (addN a b i).getD i 0 = z at hcell
      clear hx hy
      try rw [e1]
      go_wp2_with fail
      exact ⟨⟨i + 1, by omega, by go_num, by rw [HBS.out]; rfl, hfin, (hC.drewN nq).other _ _ (by show w.heap.size + 1 ≠ w.heap.size; omega), (hO.drewN nq).other _ _ (by show w.heap.size + 1 + 1 ≠ w.heap.size; omega), xset (below_drewN hB nq) (Nat.le_refl _) _⟩, by simp [intOf]; omega⟩
    · obtain rfl : i = 20 := by omega
      obtain ⟨s, hs⟩ : ∃ s, s = addN a b 20 := ⟨_, rfl⟩
      rw [← hs] at hA hdn cA cL HF1 HF2
      have HZS := Lib.hid (show (Try.prog.info? 107).map (·.size) = some s.length by rw [hdn.1]; kernel_rfl)
      have HZP := Lib.hid (show (Try.prog.info? 107).map (·.size) = some pp.length by rw [hpd.1]; kernel_rfl)
      have HZP2 := Lib.hid (show (Try.prog.info? 107).map (·.size) = some (nv .i64 pp).toArray.size by simp only [List.size_toArray, nv_length]; rw [hpd.1]; kernel_rfl)
      have HSP := Lib.hid (show 20 = (nv .i64 pp).toArray.size by simp [nv, hpd.1])
      have HZ3 := Lib.hid (show (List.replicate 20 0).length = s.length by rw [hdn.1]; rfl)
      rw [show ((20 : Nat) : Int) = 20 from rfl]
      clear hs
      by_cases hle : PX ≤ le s
      · have c1 := cL hle
        have f1 := HF1 hle
        rw [decide_eq_true hle] at cA
        obtain ⟨r, hr⟩ : ∃ r, r = by_ 20 (le s - PX) := ⟨_, rfl⟩
        have hrd : dg r := hr ▸ dg_by _
        rw [← hr] at c1 f1
        have HZR := Lib.hid (show (Try.prog.info? 107).map (·.size) = some r.length by rw [hrd.1]; kernel_rfl)
        have HZR2 := Lib.hid (show (Try.prog.info? 107).map (·.size) = some (nv .i64 r).toArray.size by simp only [List.size_toArray, nv_length]; rw [hrd.1]; kernel_rfl)
        have HZR3 := Lib.hid (show (List.replicate 20 0).length = r.length by rw [hrd.1]; rfl)
        clear hr cL HF1 HF2 hle hrd hdn hpd
        go_wp2_with (first
          | (go_at_call 85; refine (cP.out _).mono ?_; rintro e w1 ⟨rfl, hb1⟩)
          | (refine wp_store_new rfl 107 (.tmp 8) (.tmp 28) rfl rfl _ (nv .i64 pp).toArray rfl HZP2.out HSP.out (nv_one _ _) ?_; have hPb := Blk.new w1 107 .i64 pp _ rfl; have hA1 := (hA.below hb1).alloc (.cells (nv .i64 pp).toArray 107); have hO1 := (hO.below hb1).alloc (.cells (nv .i64 pp).toArray 107); have hB1 := xalloc (xtrans hB hb1) (.cells (nv .i64 pp).toArray 107))
          | (refine wp_load_arr rfl 107 (.tmp 2) rfl w.heap.size rfl hA1 20 3 Try.underlying107 HZS.out ?_)
          | (refine wp_load_arr rfl 107 (.tmp 8) rfl w1.heap.size rfl hPb 20 3 Try.underlying107 HZP.out ?_)
          | (go_at_call 86; refine (cA.out _).mono ?_; rintro e w2 ⟨rfl, hb2⟩; have hA2 := hA1.below hb2; have hP2 := hPb.below hb2; have hO2 := hO1.below hb2; have hB2 := xtrans hB1 hb2)
          | (refine wp_load_arr rfl 107 (.tmp 2) rfl w.heap.size rfl hA2 20 3 Try.underlying107 HZS.out ?_)
          | (refine wp_load_arr rfl 107 (.tmp 8) rfl w1.heap.size rfl hP2 20 3 Try.underlying107 HZP.out ?_)
          | (go_at_call 87; refine (c1.out _).mono ?_; rintro e w3 ⟨rfl, hb3⟩; have hO3 := hO2.below hb3; have hB3 := xtrans hB2 hb3)
          | (refine wp_store_arr rfl 107 (.tmp 4) (.tmp 34) rfl (w.heap.size + 1 + 1) rfl hO3 rfl HZR.out HZR3.out ?_; intro W9 hO9 hg9)
          | fail)
        exact bodyPost_ret (results_cell_row rfl _ _ (w.heap.size + 1 + 1) 107 (nv .i64 r).toArray (0, 0) _ rfl hO9 Try.underlying107 rfl HZR2.out) rfl ⟨by rw [f1.out, HPX.out], gbelow hB3 hg9 (by omega)⟩
      · have f2 := HF2 hle
        rw [decide_eq_false hle] at cA
        have HZS2 := Lib.hid (show (Try.prog.info? 107).map (·.size) = some (nv .i64 s).toArray.size by simp only [List.size_toArray, nv_length]; rw [hdn.1]; kernel_rfl)
        clear cL HF1 HF2 hle hdn hpd
        go_wp2_with (first
          | (go_at_call 85; refine (cP.out _).mono ?_; rintro e w1 ⟨rfl, hb1⟩)
          | (refine wp_store_new rfl 107 (.tmp 8) (.tmp 28) rfl rfl _ (nv .i64 pp).toArray rfl HZP2.out HSP.out (nv_one _ _) ?_; have hPb := Blk.new w1 107 .i64 pp _ rfl; have hA1 := (hA.below hb1).alloc (.cells (nv .i64 pp).toArray 107); have hO1 := (hO.below hb1).alloc (.cells (nv .i64 pp).toArray 107); have hB1 := xalloc (xtrans hB hb1) (.cells (nv .i64 pp).toArray 107))
          | (refine wp_load_arr rfl 107 (.tmp 2) rfl w.heap.size rfl hA1 20 3 Try.underlying107 HZS.out ?_)
          | (refine wp_load_arr rfl 107 (.tmp 8) rfl w1.heap.size rfl hPb 20 3 Try.underlying107 HZP.out ?_)
          | (go_at_call 86; refine (cA.out _).mono ?_; rintro e w2 ⟨rfl, hb2⟩; have hA2 := hA1.below hb2; have hO2 := hO1.below hb2; have hB2 := xtrans hB1 hb2)
          | (refine wp_load_arr rfl 107 (.tmp 2) rfl w.heap.size rfl hA2 20 3 Try.underlying107 HZS.out ?_)
          | (refine wp_store_arr rfl 107 (.tmp 4) (.tmp 35) rfl (w.heap.size + 1 + 1) rfl hO2 rfl HZS.out HZ3.out ?_; intro W9 hO9 hg9)
          | fail)
        exact bodyPost_ret (results_cell_row rfl _ _ (w.heap.size + 1 + 1) 107 (nv .i64 s).toArray (0, 0) _ rfl hO9 Try.underlying107 rfl HZS2.out) rfl ⟨by rw [f2.out, HPX.out], gbelow hB2 hg9 (by omega)⟩
end Go.Proofs.Ytpcppnoomogloaa.Po

namespace Go.Proofs.Ytpcppnoomogloaa.Po
set_option linter.unusedSimpArgs false
set_option linter.unusedVariables false
open Go.RowKit

/-- What is there ahead of bit z. -/
def mulN (x y : Nat) (z : Int) : Nat := x * (y / 2 ^ (z + 1).toNat) % PP
theorem mulN_lt (x y : Nat) (z : Int) : mulN x y z < PP := Nat.mod_lt _ (by rw [PP_eq]; decide)
theorem mulN_start (x y : Nat) (h : y < 2 ^ 132) : mulN x y 131 = 0 := by
  unfold mulN
  rw [show ((131 : Int) + 1).toNat = 132 from rfl, Nat.div_eq_of_lt h, Nat.mul_zero, Nat.zero_mod]
theorem mulN_end (x y : Nat) : mulN x y (-1) = x * y % PP := by
  unfold mulN
  rw [show ((-1 : Int) + 1).toNat = 0 from rfl, Nat.pow_zero, Nat.div_one]
theorem mulN_step (x y n : Nat) : ((mulN x y (n : Int) + mulN x y (n : Int)) % PP + (if y / 2 ^ n % 2 = 1 then x else 0)) % PP = mulN x y ((n : Int) - 1) := by
  have h := bit_step x y 0 (2 ^ n) (Nat.pow_pos (by decide))
  unfold mulN
  rw [show ((n : Int) + 1).toNat = n + 1 from by omega, show ((n : Int) - 1 + 1).toNat = n from by omega, Nat.pow_succ, Nat.mul_comm (2 ^ n) 2]
  exact h
theorem by_zero20 : by_ 20 0 = List.replicate 20 0 := by decide +kernel

theorem four_blocks {w : World} {t : TypeId} {k : IntKind} (a b c d : List Nat) : Blk ((((w.alloc (.cells (nv k a).toArray t)).alloc (.cells (nv k b).toArray t)).alloc (.cells (nv k c).toArray t)).alloc (.cells (nv k d).toArray t)) w.heap.size t k a ∧ Blk ((((w.alloc (.cells (nv k a).toArray t)).alloc (.cells (nv k b).toArray t)).alloc (.cells (nv k c).toArray t)).alloc (.cells (nv k d).toArray t)) (w.heap.size + 1) t k b ∧
    Blk ((((w.alloc (.cells (nv k a).toArray t)).alloc (.cells (nv k b).toArray t)).alloc (.cells (nv k c).toArray t)).alloc (.cells (nv k d).toArray t)) (w.heap.size + 1 + 1) t k c ∧ Blk ((((w.alloc (.cells (nv k a).toArray t)).alloc (.cells (nv k b).toArray t)).alloc (.cells (nv k c).toArray t)).alloc (.cells (nv k d).toArray t)) (w.heap.size + 1 + 1 + 1) t k d ∧
    Below w.heap.size w ((((w.alloc (.cells (nv k a).toArray t)).alloc (.cells (nv k b).toArray t)).alloc (.cells (nv k c).toArray t)).alloc (.cells (nv k d).toArray t)) := by
  obtain ⟨h1, h2, h3, h4⟩ := two_blocks (w := w) (t := t) (k := k) a b c
  refine ⟨h1.alloc _, h2.alloc _, h3.alloc _, ?_, xalloc h4 _⟩
  have := Blk.new (((w.alloc (.cells (nv k a).toArray t)).alloc (.cells (nv k b).toArray t)).alloc (.cells (nv k c).toArray t)) t k d _ rfl
  rw [World.size_alloc, World.size_alloc, World.size_alloc] at this
  exact this
theorem bit_yes {b : List Nat} (hb : dg b) (n j k : Nat) (hj : n = 8 * j + k) (hj20 : j < 20) (hk : k < 8) : le b / 2 ^ n % 2 = b.getD j 0 / 2 ^ k % 2 := by rw [hj, bit_of hb j k hj20 hk]

set_option maxHeartbeats 4000000 in
theorem rtimes_any (w : World) (a b : List Nat) (ha : dg a) (hb : dg b) (hla : le a < PP) (hlb : le b < 2 ^ 132) :
    Calls Try.prog 80 #[.agg (nv .i64 a).toArray, .agg (nv .i64 b).toArray] w fun e w' => e = .returned (.agg (nv .i64 (by_ 20 (le a * le b % PP))).toArray) ∧ Below w.heap.size w w' := by
  have h0 := mulN_start (le a) (le b) hlb
  have HEND := Lib.hid (mulN_end (le a) (le b))
  have HZ0 := Lib.hid (show (Try.prog.info? 107).map (·.size) = some (List.replicate 20 0).length by kernel_rfl)
  have HZa := Lib.hid (show (Try.prog.info? 107).map (·.size) = some a.length by rw [ha.1]; kernel_rfl)
  clear hlb
  obtain ⟨hA0, hC0, hO0, hU0, hB0⟩ := four_blocks (w := w) (t := 107) (k := .i64) a b (List.replicate 20 0) (List.replicate 20 0)
  go_enter Try.func80, Try.ntmps80
  go_wp2_with (first
    | (refine wp_build rfl 107 _ rfl (.agg (nv .i64 (List.replicate 20 0)).toArray) (by kernel_rfl) ?_)
    | (refine wp_store_arr rfl 107 (.tmp 5) (.tmp 7) rfl (w.heap.size + 1 + 1 + 1) rfl hU0 rfl HZ0.out rfl ?_; intro W hU hg; have hA := hA0.grown hg (ne_some (by omega)); have hC := hC0.grown hg (ne_some (by omega)); have hO := hO0.grown hg (ne_some (by omega)); have hB := gbelow hB0 hg (by omega); clear hA0 hC0 hO0 hU0 hB0)
    | fail)
  replace hU : Blk W (w.heap.size + 1 + 1 + 1) 107 .i64 (by_ 20 (mulN (le a) (le b) 131)) := by rw [h0, by_zero20]; exact hU
  clear h0
  go_loopw [6] (fun r wr => ∃ z : Int, -1 ≤ z ∧ z ≤ 131 ∧ r = .int .i64 z ∧ Blk wr (w.heap.size + 1 + 1 + 1) 107 .i64 (by_ 20 (mulN (le a) (le b) z)) ∧ Blk wr w.heap.size 107 .i64 a ∧ Blk wr (w.heap.size + 1) 107 .i64 b ∧ Blk wr (w.heap.size + 1 + 1) 107 .i64 (List.replicate 20 0) ∧ Below w.heap.size w wr) (fun r _ => (intOf r + 1).toNat)
  case atStart => exact ⟨131, by decide, by decide, rfl, hU, hA, hC, hO, hB⟩
  case round =>
    clear hU hA hC hO hB hg
    obtain ⟨z, hz1, hz2, rfl, hU, hA, hC, hO, hB⟩ := hrel
    by_cases hz0 : 0 ≤ z
    · obtain ⟨n, rfl⟩ := Int.eq_ofNat_of_zero_le hz0
      clear hz0 hz1
      obtain ⟨j, hj⟩ : ∃ j, j = n / 8 := ⟨_, rfl⟩
      obtain ⟨k, hk⟩ : ∃ k, k = n % 8 := ⟨_, rfl⟩
      have ej : (n : Int) / 8 = (j : Int) := by omega
      have ek : (n : Int) % 8 = (k : Int) := by omega
      have hj17 : j < 17 := by omega
      have hj20 : (j : Int) < 20 := by omega
      have hk8 : k < 8 := by omega
      have hbt := bit_yes hb n j k (by omega) (by omega) hk8
      have hst := mulN_step (le a) (le b) n
      have hml := mulN_lt (le a) (le b) (n : Int)
      obtain ⟨v, hv⟩ : ∃ v, v = b.getD j 0 := ⟨_, rfl⟩
      have HV := Lib.hid hv
      have hvl : v < 256 := hv ▸ getD_lt b hb.2 j
      rw [← hv] at hbt
      obtain ⟨m, hm⟩ : ∃ m, m = mulN (le a) (le b) (n : Int) := ⟨_, rfl⟩
      rw [← hm] at hU hst hml
      have hPs := PP_small
      have hd1 := dg_by m
      have c1 := Lib.hid (fun W => add_any W (by_ 20 m) (by_ 20 m) hd1 hd1 (by rw [le_by20 m (by omega)]; exact hml) (by rw [le_by20 m (by omega)]; exact hml))
      rw [le_by20 m (by omega)] at c1
      obtain ⟨d, hd⟩ : ∃ d, d = (m + m) % PP := ⟨_, rfl⟩
      have hdl : d < PP := hd ▸ Nat.mod_lt _ (by rw [PP_eq]; decide)
      rw [← hd] at c1 hst
      have hd2 := dg_by d
      have c2 := Lib.hid (fun W => add_any W (by_ 20 d) a hd2 ha (by rw [le_by20 d (by omega)]; exact hdl) hla)
      rw [le_by20 d (by omega)] at c2
      have hd3 := dg_by ((d + le a) % PP)
      have hsm : (if le b / 2 ^ n % 2 = 1 then (d + le a) % PP else d) = mulN (le a) (le b) ((n : Int) - 1) := by
        rw [← hst]
        split
        · rfl
        · rw [Nat.add_zero, Nat.mod_eq_of_lt hdl]
      rw [hbt] at hsm
      obtain ⟨o, ho⟩ : ∃ o, o = by_ 20 m := ⟨_, rfl⟩
      obtain ⟨q, hq⟩ : ∃ q, q = by_ 20 d := ⟨_, rfl⟩
      obtain ⟨f, hf⟩ : ∃ f, f = by_ 20 ((d + le a) % PP) := ⟨_, rfl⟩
      rw [← ho] at hU hd1 c1
      rw [← hq] at c1 c2 hd2
      rw [← hf] at c2 hd3
      have HZo := Lib.hid (show (Try.prog.info? 107).map (·.size) = some o.length by rw [hd1.1]; kernel_rfl)
      have HZd := Lib.hid (show (Try.prog.info? 107).map (·.size) = some q.length by rw [hd2.1]; kernel_rfl)
      have HZf := Lib.hid (show (Try.prog.info? 107).map (·.size) = some f.length by rw [hd3.1]; kernel_rfl)
      have HLd := Lib.hid (show o.length = q.length by rw [hd1.1, hd2.1])
      have HLf := Lib.hid (show q.length = f.length by rw [hd2.1, hd3.1])
      clear hj hk hbt hst hml hv hm hPs hd hdl ho hd1 hd2 hd3
      by_cases hb1t : v / 2 ^ k % 2 = 1
      · rw [if_pos hb1t] at hsm
        have HM := Lib.hid (show by_ 20 (mulN (le a) (le b) ((n : Int) - 1)) = f by rw [hf, hsm])
        clear hsm hq hf
        rcases (show k = 0 ∨ k = 1 ∨ k = 2 ∨ k = 3 ∨ k = 4 ∨ k = 5 ∨ k = 6 ∨ k = 7 from by omega) with rfl | rfl | rfl | rfl | rfl | rfl | rfl | rfl
        · have ek : (n : Int) % 8 = 0 := ek
          simp only [Nat.reducePow, Nat.div_one] at hb1t
          have hbit : ((v : Int) % 2 == 1) = true := beq_iff_eq.2 (by omega)
          go_wp2_with (first
            | (refine wp_load_arr rfl 107 (.tmp 5) rfl (w.heap.size + 1 + 1 + 1) rfl hU 20 3 Try.underlying107 HZo.out ?_)
            | (go_at_call 81; refine (c1.out _).mono ?_; clear c1; rintro e w1 ⟨rfl, hb1⟩; have hU1 := hU.below hb1; have hA1 := hA.below hb1; have hC1 := hC.below hb1; have hO1 := hO.below hb1; have hB1 := xtrans hB hb1)
            | (refine wp_store_arr rfl 107 (.tmp 5) (.tmp 14) rfl (w.heap.size + 1 + 1 + 1) rfl hU1 rfl HZd.out HLd.out ?_; intro w2 hU2 hg2; have hA2 := hA1.grown hg2 (ne_some (by omega)); have hC2 := hC1.grown hg2 (ne_some (by omega)); have hO2 := hO1.grown hg2 (ne_some (by omega)); have hB2 := gbelow hB1 hg2 (by omega); have hcell := hC2.cell j (by rw [hb.1]; omega); rw [← HV.out] at hcell)
            | (refine wp_load_arr rfl 107 (.tmp 5) rfl (w.heap.size + 1 + 1 + 1) rfl hU2 20 3 Try.underlying107 HZd.out ?_)
            | (refine wp_load_arr rfl 107 (.tmp 2) rfl w.heap.size rfl hA2 20 3 Try.underlying107 HZa.out ?_)
            | (go_at_call 81; refine (c2.out _).mono ?_; clear c2; rintro e w3 ⟨rfl, hb3⟩; have hU3 := hU2.below hb3; have hA3 := hA2.below hb3; have hC3 := hC2.below hb3; have hO3 := hO2.below hb3; have hB3 := xtrans hB2 hb3)
            | (refine wp_store_arr rfl 107 (.tmp 5) (.tmp 27) rfl (w.heap.size + 1 + 1 + 1) rfl hU3 rfl HZf.out HLf.out ?_; intro w4 hU4 hg4; have hA4 := hA3.grown hg4 (ne_some (by omega)); have hC4 := hC3.grown hg4 (ne_some (by omega)); have hO4 := hO3.grown hg4 (ne_some (by omega)); have hB4 := gbelow hB3 hg4 (by omega))
            | fail)
          exact ⟨⟨(n : Int) - 1, by omega, by omega, rfl, by rw [HM.out]; exact hU4, hA4, hC4, hO4, hB4⟩, by simp [intOf] <;> omega⟩
        · have ek : (n : Int) % 8 = 1 := ek
          simp only [Nat.reducePow] at hb1t
          have hbit : ((v : Int) / 2 % 2 == 1) = true := beq_iff_eq.2 (by omega)
          go_wp2_with (first
            | (refine wp_load_arr rfl 107 (.tmp 5) rfl (w.heap.size + 1 + 1 + 1) rfl hU 20 3 Try.underlying107 HZo.out ?_)
            | (go_at_call 81; refine (c1.out _).mono ?_; clear c1; rintro e w1 ⟨rfl, hb1⟩; have hU1 := hU.below hb1; have hA1 := hA.below hb1; have hC1 := hC.below hb1; have hO1 := hO.below hb1; have hB1 := xtrans hB hb1)
            | (refine wp_store_arr rfl 107 (.tmp 5) (.tmp 14) rfl (w.heap.size + 1 + 1 + 1) rfl hU1 rfl HZd.out HLd.out ?_; intro w2 hU2 hg2; have hA2 := hA1.grown hg2 (ne_some (by omega)); have hC2 := hC1.grown hg2 (ne_some (by omega)); have hO2 := hO1.grown hg2 (ne_some (by omega)); have hB2 := gbelow hB1 hg2 (by omega); have hcell := hC2.cell j (by rw [hb.1]; omega); rw [← HV.out] at hcell)
            | (refine wp_load_arr rfl 107 (.tmp 5) rfl (w.heap.size + 1 + 1 + 1) rfl hU2 20 3 Try.underlying107 HZd.out ?_)
            | (refine wp_load_arr rfl 107 (.tmp 2) rfl w.heap.size rfl hA2 20 3 Try.underlying107 HZa.out ?_)
            | (go_at_call 81; refine (c2.out _).mono ?_; clear c2; rintro e w3 ⟨rfl, hb3⟩; have hU3 := hU2.below hb3; have hA3 := hA2.below hb3; have hC3 := hC2.below hb3; have hO3 := hO2.below hb3; have hB3 := xtrans hB2 hb3)
            | (refine wp_store_arr rfl 107 (.tmp 5) (.tmp 27) rfl (w.heap.size + 1 + 1 + 1) rfl hU3 rfl HZf.out HLf.out ?_; intro w4 hU4 hg4; have hA4 := hA3.grown hg4 (ne_some (by omega)); have hC4 := hC3.grown hg4 (ne_some (by omega)); have hO4 := hO3.grown hg4 (ne_some (by omega)); have hB4 := gbelow hB3 hg4 (by omega))
            | fail)
          exact ⟨⟨(n : Int) - 1, by omega, by omega, rfl, by rw [HM.out]; exact hU4, hA4, hC4, hO4, hB4⟩, by simp [intOf] <;> omega⟩
        · have ek : (n : Int) % 8 = 2 := ek
          simp only [Nat.reducePow] at hb1t
          have hbit : ((v : Int) / 4 % 2 == 1) = true := beq_iff_eq.2 (by omega)
          go_wp2_with (first
            | (refine wp_load_arr rfl 107 (.tmp 5) rfl (w.heap.size + 1 + 1 + 1) rfl hU 20 3 Try.underlying107 HZo.out ?_)
            | (go_at_call 81; refine (c1.out _).mono ?_; clear c1; rintro e w1 ⟨rfl, hb1⟩; have hU1 := hU.below hb1; have hA1 := hA.below hb1; have hC1 := hC.below hb1; have hO1 := hO.below hb1; have hB1 := xtrans hB hb1)
            | (refine wp_store_arr rfl 107 (.tmp 5) (.tmp 14) rfl (w.heap.size + 1 + 1 + 1) rfl hU1 rfl HZd.out HLd.out ?_; intro w2 hU2 hg2; have hA2 := hA1.grown hg2 (ne_some (by omega)); have hC2 := hC1.grown hg2 (ne_some (by omega)); have hO2 := hO1.grown hg2 (ne_some (by omega)); have hB2 := gbelow hB1 hg2 (by omega); have hcell := hC2.cell j (by rw [hb.1]; omega); rw [← HV.out] at hcell)
            | (refine wp_load_arr rfl 107 (.tmp 5) rfl (w.heap.size + 1 + 1 + 1) rfl hU2 20 3 Try.underlying107 HZd.out ?_)
            | (refine wp_load_arr rfl 107 (.tmp 2) rfl w.heap.size rfl hA2 20 3 Try.underlying107 HZa.out ?_)
            | (go_at_call 81; refine (c2.out _).mono ?_; clear c2; rintro e w3 ⟨rfl, hb3⟩; have hU3 := hU2.below hb3; have hA3 := hA2.below hb3; have hC3 := hC2.below hb3; have hO3 := hO2.below hb3; have hB3 := xtrans hB2 hb3)
            | (refine wp_store_arr rfl 107 (.tmp 5) (.tmp 27) rfl (w.heap.size + 1 + 1 + 1) rfl hU3 rfl HZf.out HLf.out ?_; intro w4 hU4 hg4; have hA4 := hA3.grown hg4 (ne_some (by omega)); have hC4 := hC3.grown hg4 (ne_some (by omega)); have hO4 := hO3.grown hg4 (ne_some (by omega)); have hB4 := gbelow hB3 hg4 (by omega))
            | fail)
          exact ⟨⟨(n : Int) - 1, by omega, by omega, rfl, by rw [HM.out]; exact hU4, hA4, hC4, hO4, hB4⟩, by simp [intOf] <;> omega⟩
        · have ek : (n : Int) % 8 = 3 := ek
          simp only [Nat.reducePow] at hb1t
          have hbit : ((v : Int) / 8 % 2 == 1) = true := beq_iff_eq.2 (by omega)
          go_wp2_with (first
            | (refine wp_load_arr rfl 107 (.tmp 5) rfl (w.heap.size + 1 + 1 + 1) rfl hU 20 3 Try.underlying107 HZo.out ?_)
            | (go_at_call 81; refine (c1.out _).mono ?_; clear c1; rintro e w1 ⟨rfl, hb1⟩; have hU1 := hU.below hb1; have hA1 := hA.below hb1; have hC1 := hC.below hb1; have hO1 := hO.below hb1; have hB1 := xtrans hB hb1)
            | (refine wp_store_arr rfl 107 (.tmp 5) (.tmp 14) rfl (w.heap.size + 1 + 1 + 1) rfl hU1 rfl HZd.out HLd.out ?_; intro w2 hU2 hg2; have hA2 := hA1.grown hg2 (ne_some (by omega)); have hC2 := hC1.grown hg2 (ne_some (by omega)); have hO2 := hO1.grown hg2 (ne_some (by omega)); have hB2 := gbelow hB1 hg2 (by omega); have hcell := hC2.cell j (by rw [hb.1]; omega); rw [← HV.out] at hcell)
            | (refine wp_load_arr rfl 107 (.tmp 5) rfl (w.heap.size + 1 + 1 + 1) rfl hU2 20 3 Try.underlying107 HZd.out ?_)
            | (refine wp_load_arr rfl 107 (.tmp 2) rfl w.heap.size rfl hA2 20 3 Try.underlying107 HZa.out ?_)
            | (go_at_call 81; refine (c2.out _).mono ?_; clear c2; rintro e w3 ⟨rfl, hb3⟩; have hU3 := hU2.below hb3; have hA3 := hA2.below hb3; have hC3 := hC2.below hb3; have hO3 := hO2.below hb3; have hB3 := xtrans hB2 hb3)
            | (refine wp_store_arr rfl 107 (.tmp 5) (.tmp 27) rfl (w.heap.size + 1 + 1 + 1) rfl hU3 rfl HZf.out HLf.out ?_; intro w4 hU4 hg4; have hA4 := hA3.grown hg4 (ne_some (by omega)); have hC4 := hC3.grown hg4 (ne_some (by omega)); have hO4 := hO3.grown hg4 (ne_some (by omega)); have hB4 := gbelow hB3 hg4 (by omega))
            | fail)
          exact ⟨⟨(n : Int) - 1, by omega, by omega, rfl, by rw [HM.out]; exact hU4, hA4, hC4, hO4, hB4⟩, by simp [intOf] <;> omega⟩
        · have ek : (n : Int) % 8 = 4 := ek
          simp only [Nat.reducePow] at hb1t
          have hbit : ((v : Int) / 16 % 2 == 1) = true := beq_iff_eq.2 (by omega)
          go_wp2_with (first
            | (refine wp_load_arr rfl 107 (.tmp 5) rfl (w.heap.size + 1 + 1 + 1) rfl hU 20 3 Try.underlying107 HZo.out ?_)
            | (go_at_call 81; refine (c1.out _).mono ?_; clear c1; rintro e w1 ⟨rfl, hb1⟩; have hU1 := hU.below hb1; have hA1 := hA.below hb1; have hC1 := hC.below hb1; have hO1 := hO.below hb1; have hB1 := xtrans hB hb1)
            | (refine wp_store_arr rfl 107 (.tmp 5) (.tmp 14) rfl (w.heap.size + 1 + 1 + 1) rfl hU1 rfl HZd.out HLd.out ?_; intro w2 hU2 hg2; have hA2 := hA1.grown hg2 (ne_some (by omega)); have hC2 := hC1.grown hg2 (ne_some (by omega)); have hO2 := hO1.grown hg2 (ne_some (by omega)); have hB2 := gbelow hB1 hg2 (by omega); have hcell := hC2.cell j (by rw [hb.1]; omega); rw [← HV.out] at hcell)
            | (refine wp_load_arr rfl 107 (.tmp 5) rfl (w.heap.size + 1 + 1 + 1) rfl hU2 20 3 Try.underlying107 HZd.out ?_)
            | (refine wp_load_arr rfl 107 (.tmp 2) rfl w.heap.size rfl hA2 20 3 Try.underlying107 HZa.out ?_)
            | (go_at_call 81; refine (c2.out _).mono ?_; clear c2; rintro e w3 ⟨rfl, hb3⟩; have hU3 := hU2.below hb3; have hA3 := hA2.below hb3; have hC3 := hC2.below hb3; have hO3 := hO2.below hb3; have hB3 := xtrans hB2 hb3)
            | (refine wp_store_arr rfl 107 (.tmp 5) (.tmp 27) rfl (w.heap.size + 1 + 1 + 1) rfl hU3 rfl HZf.out HLf.out ?_; intro w4 hU4 hg4; have hA4 := hA3.grown hg4 (ne_some (by omega)); have hC4 := hC3.grown hg4 (ne_some (by omega)); have hO4 := hO3.grown hg4 (ne_some (by omega)); have hB4 := gbelow hB3 hg4 (by omega))
            | fail)
          exact ⟨⟨(n : Int) - 1, by omega, by omega, rfl, by rw [HM.out]; exact hU4, hA4, hC4, hO4, hB4⟩, by simp [intOf] <;> omega⟩
        · have ek : (n : Int) % 8 = 5 := ek
          simp only [Nat.reducePow] at hb1t
          have hbit : ((v : Int) / 32 % 2 == 1) = true := beq_iff_eq.2 (by omega)
          go_wp2_with (first
            | (refine wp_load_arr rfl 107 (.tmp 5) rfl (w.heap.size + 1 + 1 + 1) rfl hU 20 3 Try.underlying107 HZo.out ?_)
            | (go_at_call 81; refine (c1.out _).mono ?_; clear c1; rintro e w1 ⟨rfl, hb1⟩; have hU1 := hU.below hb1; have hA1 := hA.below hb1; have hC1 := hC.below hb1; have hO1 := hO.below hb1; have hB1 := xtrans hB hb1)
            | (refine wp_store_arr rfl 107 (.tmp 5) (.tmp 14) rfl (w.heap.size + 1 + 1 + 1) rfl hU1 rfl HZd.out HLd.out ?_; intro w2 hU2 hg2; have hA2 := hA1.grown hg2 (ne_some (by omega)); have hC2 := hC1.grown hg2 (ne_some (by omega)); have hO2 := hO1.grown hg2 (ne_some (by omega)); have hB2 := gbelow hB1 hg2 (by omega); have hcell := hC2.cell j (by rw [hb.1]; omega); rw [← HV.out] at hcell)
            | (refine wp_load_arr rfl 107 (.tmp 5) rfl (w.heap.size + 1 + 1 + 1) rfl hU2 20 3 Try.underlying107 HZd.out ?_)
            | (refine wp_load_arr rfl 107 (.tmp 2) rfl w.heap.size rfl hA2 20 3 Try.underlying107 HZa.out ?_)
            | (go_at_call 81; refine (c2.out _).mono ?_; clear c2; rintro e w3 ⟨rfl, hb3⟩; have hU3 := hU2.below hb3; have hA3 := hA2.below hb3; have hC3 := hC2.below hb3; have hO3 := hO2.below hb3; have hB3 := xtrans hB2 hb3)
            | (refine wp_store_arr rfl 107 (.tmp 5) (.tmp 27) rfl (w.heap.size + 1 + 1 + 1) rfl hU3 rfl HZf.out HLf.out ?_; intro w4 hU4 hg4; have hA4 := hA3.grown hg4 (ne_some (by omega)); have hC4 := hC3.grown hg4 (ne_some (by omega)); have hO4 := hO3.grown hg4 (ne_some (by omega)); have hB4 := gbelow hB3 hg4 (by omega))
            | fail)
          exact ⟨⟨(n : Int) - 1, by omega, by omega, rfl, by rw [HM.out]; exact hU4, hA4, hC4, hO4, hB4⟩, by simp [intOf] <;> omega⟩
        · have ek : (n : Int) % 8 = 6 := ek
          simp only [Nat.reducePow] at hb1t
          have hbit : ((v : Int) / 64 % 2 == 1) = true := beq_iff_eq.2 (by omega)
          go_wp2_with (first
            | (refine wp_load_arr rfl 107 (.tmp 5) rfl (w.heap.size + 1 + 1 + 1) rfl hU 20 3 Try.underlying107 HZo.out ?_)
            | (go_at_call 81; refine (c1.out _).mono ?_; clear c1; rintro e w1 ⟨rfl, hb1⟩; have hU1 := hU.below hb1; have hA1 := hA.below hb1; have hC1 := hC.below hb1; have hO1 := hO.below hb1; have hB1 := xtrans hB hb1)
            | (refine wp_store_arr rfl 107 (.tmp 5) (.tmp 14) rfl (w.heap.size + 1 + 1 + 1) rfl hU1 rfl HZd.out HLd.out ?_; intro w2 hU2 hg2; have hA2 := hA1.grown hg2 (ne_some (by omega)); have hC2 := hC1.grown hg2 (ne_some (by omega)); have hO2 := hO1.grown hg2 (ne_some (by omega)); have hB2 := gbelow hB1 hg2 (by omega); have hcell := hC2.cell j (by rw [hb.1]; omega); rw [← HV.out] at hcell)
            | (refine wp_load_arr rfl 107 (.tmp 5) rfl (w.heap.size + 1 + 1 + 1) rfl hU2 20 3 Try.underlying107 HZd.out ?_)
            | (refine wp_load_arr rfl 107 (.tmp 2) rfl w.heap.size rfl hA2 20 3 Try.underlying107 HZa.out ?_)
            | (go_at_call 81; refine (c2.out _).mono ?_; clear c2; rintro e w3 ⟨rfl, hb3⟩; have hU3 := hU2.below hb3; have hA3 := hA2.below hb3; have hC3 := hC2.below hb3; have hO3 := hO2.below hb3; have hB3 := xtrans hB2 hb3)
            | (refine wp_store_arr rfl 107 (.tmp 5) (.tmp 27) rfl (w.heap.size + 1 + 1 + 1) rfl hU3 rfl HZf.out HLf.out ?_; intro w4 hU4 hg4; have hA4 := hA3.grown hg4 (ne_some (by omega)); have hC4 := hC3.grown hg4 (ne_some (by omega)); have hO4 := hO3.grown hg4 (ne_some (by omega)); have hB4 := gbelow hB3 hg4 (by omega))
            | fail)
          exact ⟨⟨(n : Int) - 1, by omega, by omega, rfl, by rw [HM.out]; exact hU4, hA4, hC4, hO4, hB4⟩, by simp [intOf] <;> omega⟩
        · have ek : (n : Int) % 8 = 7 := ek
          simp only [Nat.reducePow] at hb1t
          have hbit : ((v : Int) / 128 % 2 == 1) = true := beq_iff_eq.2 (by omega)
          go_wp2_with (first
            | (refine wp_load_arr rfl 107 (.tmp 5) rfl (w.heap.size + 1 + 1 + 1) rfl hU 20 3 Try.underlying107 HZo.out ?_)
            | (go_at_call 81; refine (c1.out _).mono ?_; clear c1; rintro e w1 ⟨rfl, hb1⟩; have hU1 := hU.below hb1; have hA1 := hA.below hb1; have hC1 := hC.below hb1; have hO1 := hO.below hb1; have hB1 := xtrans hB hb1)
            | (refine wp_store_arr rfl 107 (.tmp 5) (.tmp 14) rfl (w.heap.size + 1 + 1 + 1) rfl hU1 rfl HZd.out HLd.out ?_; intro w2 hU2 hg2; have hA2 := hA1.grown hg2 (ne_some (by omega)); have hC2 := hC1.grown hg2 (ne_some (by omega)); have hO2 := hO1.grown hg2 (ne_some (by omega)); have hB2 := gbelow hB1 hg2 (by omega); have hcell := hC2.cell j (by rw [hb.1]; omega); rw [← HV.out] at hcell)
            | (refine wp_load_arr rfl 107 (.tmp 5) rfl (w.heap.size + 1 + 1 + 1) rfl hU2 20 3 Try.underlying107 HZd.out ?_)
            | (refine wp_load_arr rfl 107 (.tmp 2) rfl w.heap.size rfl hA2 20 3 Try.underlying107 HZa.out ?_)
            | (go_at_call 81; refine (c2.out _).mono ?_; clear c2; rintro e w3 ⟨rfl, hb3⟩; have hU3 := hU2.below hb3; have hA3 := hA2.below hb3; have hC3 := hC2.below hb3; have hO3 := hO2.below hb3; have hB3 := xtrans hB2 hb3)
            | (refine wp_store_arr rfl 107 (.tmp 5) (.tmp 27) rfl (w.heap.size + 1 + 1 + 1) rfl hU3 rfl HZf.out HLf.out ?_; intro w4 hU4 hg4; have hA4 := hA3.grown hg4 (ne_some (by omega)); have hC4 := hC3.grown hg4 (ne_some (by omega)); have hO4 := hO3.grown hg4 (ne_some (by omega)); have hB4 := gbelow hB3 hg4 (by omega))
            | fail)
          exact ⟨⟨(n : Int) - 1, by omega, by omega, rfl, by rw [HM.out]; exact hU4, hA4, hC4, hO4, hB4⟩, by simp [intOf] <;> omega⟩
      · rw [if_neg hb1t] at hsm
        have HM := Lib.hid (show by_ 20 (mulN (le a) (le b) ((n : Int) - 1)) = q by rw [hq, hsm])
        clear hsm hq hf c2
        rcases (show k = 0 ∨ k = 1 ∨ k = 2 ∨ k = 3 ∨ k = 4 ∨ k = 5 ∨ k = 6 ∨ k = 7 from by omega) with rfl | rfl | rfl | rfl | rfl | rfl | rfl | rfl
        · have ek : (n : Int) % 8 = 0 := ek
          simp only [Nat.reducePow, Nat.div_one] at hb1t
          have hbit : ((v : Int) % 2 == 1) = false := beq_eq_false_iff_ne.2 (by omega)
          go_wp2_with (first
            | (refine wp_load_arr rfl 107 (.tmp 5) rfl (w.heap.size + 1 + 1 + 1) rfl hU 20 3 Try.underlying107 HZo.out ?_)
            | (go_at_call 81; refine (c1.out _).mono ?_; clear c1; rintro e w1 ⟨rfl, hb1⟩; have hU1 := hU.below hb1; have hA1 := hA.below hb1; have hC1 := hC.below hb1; have hO1 := hO.below hb1; have hB1 := xtrans hB hb1)
            | (refine wp_store_arr rfl 107 (.tmp 5) (.tmp 14) rfl (w.heap.size + 1 + 1 + 1) rfl hU1 rfl HZd.out HLd.out ?_; intro w2 hU2 hg2; have hA2 := hA1.grown hg2 (ne_some (by omega)); have hC2 := hC1.grown hg2 (ne_some (by omega)); have hO2 := hO1.grown hg2 (ne_some (by omega)); have hB2 := gbelow hB1 hg2 (by omega); have hcell := hC2.cell j (by rw [hb.1]; omega); rw [← HV.out] at hcell)
            | fail)
          exact ⟨⟨(n : Int) - 1, by omega, by omega, rfl, by rw [HM.out]; exact hU2, hA2, hC2, hO2, hB2⟩, by simp [intOf] <;> omega⟩
        · have ek : (n : Int) % 8 = 1 := ek
          simp only [Nat.reducePow] at hb1t
          have hbit : ((v : Int) / 2 % 2 == 1) = false := beq_eq_false_iff_ne.2 (by omega)
          go_wp2_with (first
            | (refine wp_load_arr rfl 107 (.tmp 5) rfl (w.heap.size + 1 + 1 + 1) rfl hU 20 3 Try.underlying107 HZo.out ?_)
            | (go_at_call 81; refine (c1.out _).mono ?_; clear c1; rintro e w1 ⟨rfl, hb1⟩; have hU1 := hU.below hb1; have hA1 := hA.below hb1; have hC1 := hC.below hb1; have hO1 := hO.below hb1; have hB1 := xtrans hB hb1)
            | (refine wp_store_arr rfl 107 (.tmp 5) (.tmp 14) rfl (w.heap.size + 1 + 1 + 1) rfl hU1 rfl HZd.out HLd.out ?_; intro w2 hU2 hg2; have hA2 := hA1.grown hg2 (ne_some (by omega)); have hC2 := hC1.grown hg2 (ne_some (by omega)); have hO2 := hO1.grown hg2 (ne_some (by omega)); have hB2 := gbelow hB1 hg2 (by omega); have hcell := hC2.cell j (by rw [hb.1]; omega); rw [← HV.out] at hcell)
            | fail)
          exact ⟨⟨(n : Int) - 1, by omega, by omega, rfl, by rw [HM.out]; exact hU2, hA2, hC2, hO2, hB2⟩, by simp [intOf] <;> omega⟩
        · have ek : (n : Int) % 8 = 2 := ek
          simp only [Nat.reducePow] at hb1t
          have hbit : ((v : Int) / 4 % 2 == 1) = false := beq_eq_false_iff_ne.2 (by omega)
          go_wp2_with (first
            | (refine wp_load_arr rfl 107 (.tmp 5) rfl (w.heap.size + 1 + 1 + 1) rfl hU 20 3 Try.underlying107 HZo.out ?_)
            | (go_at_call 81; refine (c1.out _).mono ?_; clear c1; rintro e w1 ⟨rfl, hb1⟩; have hU1 := hU.below hb1; have hA1 := hA.below hb1; have hC1 := hC.below hb1; have hO1 := hO.below hb1; have hB1 := xtrans hB hb1)
            | (refine wp_store_arr rfl 107 (.tmp 5) (.tmp 14) rfl (w.heap.size + 1 + 1 + 1) rfl hU1 rfl HZd.out HLd.out ?_; intro w2 hU2 hg2; have hA2 := hA1.grown hg2 (ne_some (by omega)); have hC2 := hC1.grown hg2 (ne_some (by omega)); have hO2 := hO1.grown hg2 (ne_some (by omega)); have hB2 := gbelow hB1 hg2 (by omega); have hcell := hC2.cell j (by rw [hb.1]; omega); rw [← HV.out] at hcell)
            | fail)
          exact ⟨⟨(n : Int) - 1, by omega, by omega, rfl, by rw [HM.out]; exact hU2, hA2, hC2, hO2, hB2⟩, by simp [intOf] <;> omega⟩
        · have ek : (n : Int) % 8 = 3 := ek
          simp only [Nat.reducePow] at hb1t
          have hbit : ((v : Int) / 8 % 2 == 1) = false := beq_eq_false_iff_ne.2 (by omega)
          go_wp2_with (first
            | (refine wp_load_arr rfl 107 (.tmp 5) rfl (w.heap.size + 1 + 1 + 1) rfl hU 20 3 Try.underlying107 HZo.out ?_)
            | (go_at_call 81; refine (c1.out _).mono ?_; clear c1; rintro e w1 ⟨rfl, hb1⟩; have hU1 := hU.below hb1; have hA1 := hA.below hb1; have hC1 := hC.below hb1; have hO1 := hO.below hb1; have hB1 := xtrans hB hb1)
            | (refine wp_store_arr rfl 107 (.tmp 5) (.tmp 14) rfl (w.heap.size + 1 + 1 + 1) rfl hU1 rfl HZd.out HLd.out ?_; intro w2 hU2 hg2; have hA2 := hA1.grown hg2 (ne_some (by omega)); have hC2 := hC1.grown hg2 (ne_some (by omega)); have hO2 := hO1.grown hg2 (ne_some (by omega)); have hB2 := gbelow hB1 hg2 (by omega); have hcell := hC2.cell j (by rw [hb.1]; omega); rw [← HV.out] at hcell)
            | fail)
          exact ⟨⟨(n : Int) - 1, by omega, by omega, rfl, by rw [HM.out]; exact hU2, hA2, hC2, hO2, hB2⟩, by simp [intOf] <;> omega⟩
        · have ek : (n : Int) % 8 = 4 := ek
          simp only [Nat.reducePow] at hb1t
          have hbit : ((v : Int) / 16 % 2 == 1) = false := beq_eq_false_iff_ne.2 (by omega)
          go_wp2_with (first
            | (refine wp_load_arr rfl 107 (.tmp 5) rfl (w.heap.size + 1 + 1 + 1) rfl hU 20 3 Try.underlying107 HZo.out ?_)
            | (go_at_call 81; refine (c1.out _).mono ?_; clear c1; rintro e w1 ⟨rfl, hb1⟩; have hU1 := hU.below hb1; have hA1 := hA.below hb1; have hC1 := hC.below hb1; have hO1 := hO.below hb1; have hB1 := xtrans hB hb1)
            | (refine wp_store_arr rfl 107 (.tmp 5) (.tmp 14) rfl (w.heap.size + 1 + 1 + 1) rfl hU1 rfl HZd.out HLd.out ?_; intro w2 hU2 hg2; have hA2 := hA1.grown hg2 (ne_some (by omega)); have hC2 := hC1.grown hg2 (ne_some (by omega)); have hO2 := hO1.grown hg2 (ne_some (by omega)); have hB2 := gbelow hB1 hg2 (by omega); have hcell := hC2.cell j (by rw [hb.1]; omega); rw [← HV.out] at hcell)
            | fail)
          exact ⟨⟨(n : Int) - 1, by omega, by omega, rfl, by rw [HM.out]; exact hU2, hA2, hC2, hO2, hB2⟩, by simp [intOf] <;> omega⟩
        · have ek : (n : Int) % 8 = 5 := ek
          simp only [Nat.reducePow] at hb1t
          have hbit : ((v : Int) / 32 % 2 == 1) = false := beq_eq_false_iff_ne.2 (by omega)
          go_wp2_with (first
            | (refine wp_load_arr rfl 107 (.tmp 5) rfl (w.heap.size + 1 + 1 + 1) rfl hU 20 3 Try.underlying107 HZo.out ?_)
            | (go_at_call 81; refine (c1.out _).mono ?_; clear c1; rintro e w1 ⟨rfl, hb1⟩; have hU1 := hU.below hb1; have hA1 := hA.below hb1; have hC1 := hC.below hb1; have hO1 := hO.below hb1; have hB1 := xtrans hB hb1)
            | (refine wp_store_arr rfl 107 (.tmp 5) (.tmp 14) rfl (w.heap.size + 1 + 1 + 1) rfl hU1 rfl HZd.out HLd.out ?_; intro w2 hU2 hg2; have hA2 := hA1.grown hg2 (ne_some (by omega)); have hC2 := hC1.grown hg2 (ne_some (by omega)); have hO2 := hO1.grown hg2 (ne_some (by omega)); have hB2 := gbelow hB1 hg2 (by omega); have hcell := hC2.cell j (by rw [hb.1]; omega); rw [← HV.out] at hcell)
            | fail)
          exact ⟨⟨(n : Int) - 1, by omega, by omega, rfl, by rw [HM.out]; exact hU2, hA2, hC2, hO2, hB2⟩, by simp [intOf] <;> omega⟩
        · have ek : (n : Int) % 8 = 6 := ek
          simp only [Nat.reducePow] at hb1t
          have hbit : ((v : Int) / 64 % 2 == 1) = false := beq_eq_false_iff_ne.2 (by omega)
          go_wp2_with (first
            | (refine wp_load_arr rfl 107 (.tmp 5) rfl (w.heap.size + 1 + 1 + 1) rfl hU 20 3 Try.underlying107 HZo.out ?_)
            | (go_at_call 81; refine (c1.out _).mono ?_; clear c1; rintro e w1 ⟨rfl, hb1⟩; have hU1 := hU.below hb1; have hA1 := hA.below hb1; have hC1 := hC.below hb1; have hO1 := hO.below hb1; have hB1 := xtrans hB hb1)
            | (refine wp_store_arr rfl 107 (.tmp 5) (.tmp 14) rfl (w.heap.size + 1 + 1 + 1) rfl hU1 rfl HZd.out HLd.out ?_; intro w2 hU2 hg2; have hA2 := hA1.grown hg2 (ne_some (by omega)); have hC2 := hC1.grown hg2 (ne_some (by omega)); have hO2 := hO1.grown hg2 (ne_some (by omega)); have hB2 := gbelow hB1 hg2 (by omega); have hcell := hC2.cell j (by rw [hb.1]; omega); rw [← HV.out] at hcell)
            | fail)
          exact ⟨⟨(n : Int) - 1, by omega, by omega, rfl, by rw [HM.out]; exact hU2, hA2, hC2, hO2, hB2⟩, by simp [intOf] <;> omega⟩
        · have ek : (n : Int) % 8 = 7 := ek
          simp only [Nat.reducePow] at hb1t
          have hbit : ((v : Int) / 128 % 2 == 1) = false := beq_eq_false_iff_ne.2 (by omega)
          go_wp2_with (first
            | (refine wp_load_arr rfl 107 (.tmp 5) rfl (w.heap.size + 1 + 1 + 1) rfl hU 20 3 Try.underlying107 HZo.out ?_)
            | (go_at_call 81; refine (c1.out _).mono ?_; clear c1; rintro e w1 ⟨rfl, hb1⟩; have hU1 := hU.below hb1; have hA1 := hA.below hb1; have hC1 := hC.below hb1; have hO1 := hO.below hb1; have hB1 := xtrans hB hb1)
            | (refine wp_store_arr rfl 107 (.tmp 5) (.tmp 14) rfl (w.heap.size + 1 + 1 + 1) rfl hU1 rfl HZd.out HLd.out ?_; intro w2 hU2 hg2; have hA2 := hA1.grown hg2 (ne_some (by omega)); have hC2 := hC1.grown hg2 (ne_some (by omega)); have hO2 := hO1.grown hg2 (ne_some (by omega)); have hB2 := gbelow hB1 hg2 (by omega); have hcell := hC2.cell j (by rw [hb.1]; omega); rw [← HV.out] at hcell)
            | fail)
          exact ⟨⟨(n : Int) - 1, by omega, by omega, rfl, by rw [HM.out]; exact hU2, hA2, hC2, hO2, hB2⟩, by simp [intOf] <;> omega⟩
    · obtain rfl : z = -1 := by omega
      rw [HEND.out] at hU
      have hd := dg_by (le a * le b % PP)
      obtain ⟨ps, hps⟩ : ∃ ps, ps = by_ 20 (le a * le b % PP) := ⟨_, rfl⟩
      rw [← hps] at hU hd
      have HPS := Lib.hid hps
      have HZ1 := Lib.hid (show (Try.prog.info? 107).map (·.size) = some ps.length by rw [hd.1]; kernel_rfl)
      have HZ2 := Lib.hid (show (Try.prog.info? 107).map (·.size) = some (nv .i64 ps).toArray.size by simp only [List.size_toArray, nv_length]; rw [hd.1]; kernel_rfl)
      have HZ3 := Lib.hid (show (List.replicate 20 0).length = ps.length by rw [hd.1]; rfl)
      clear hps hd hla
      go_wp2_with (first
        | (refine wp_load_arr rfl 107 (.tmp 5) rfl (w.heap.size + 1 + 1 + 1) rfl hU 20 3 Try.underlying107 HZ1.out ?_)
        | (refine wp_store_arr rfl 107 (.tmp 4) (.tmp 28) rfl (w.heap.size + 1 + 1) rfl hO rfl HZ1.out HZ3.out ?_; intro W9 hO9 hg9)
        | fail)
      exact bodyPost_ret (results_cell_row rfl _ _ (w.heap.size + 1 + 1) 107 (nv .i64 ps).toArray (0, 0) _ rfl hO9 Try.underlying107 rfl HZ2.out) rfl ⟨by rw [HPS.out], gbelow hB hg9 (by omega)⟩
end Go.Proofs.Ytpcppnoomogloaa.Po

namespace Go.Proofs.Ytpcppnoomogloaa.Po
set_option linter.unusedSimpArgs false
set_option linter.unusedVariables false
open Go.RowKit

def cr (h : List Nat) (n : Nat) : List Nat := (List.range n).map (fun i => clampB i (h.getD i 0)) ++ h.drop n
theorem cr_zero (h : List Nat) : cr h 0 = h := by simp [cr]
theorem cr_succ (h : List Nat) (i : Nat) (hi : i < h.length) : (cr h i).set i (clampB i (h.getD i 0)) = cr h (i + 1) := mapN_set (fun i => clampB i (h.getD i 0)) h i hi
theorem cr_get (h : List Nat) (i : Nat) (hi : i < h.length) : (cr h i).getD i 0 = h.getD i 0 := mapN_get _ h i hi
theorem cr_length (h : List Nat) (i : Nat) (hi : i ≤ h.length) : (cr h i).length = h.length := by simp [cr]; omega
theorem cr_end (h : List Nat) (hl : h.length = 16) : cr h 16 = clamp h := by unfold cr clamp; rw [List.drop_of_length_le (by omega), List.append_nil]
theorem clampB_3 (i x : Nat) (h : i % 4 = 3) : clampB i x = x % 16 := by unfold clampB; rw [if_pos h]
theorem clampB_0 (i x : Nat) (h : i % 4 = 0) (h0 : 0 < i) : clampB i x = x / 4 * 4 := by unfold clampB; rw [if_neg (by omega), if_pos ⟨h, h0⟩]
theorem clampB_e (i x : Nat) (h : i % 4 ≠ 3) (h0 : ¬ (i % 4 = 0 ∧ 0 < i)) : clampB i x = x := by unfold clampB; rw [if_neg h, if_neg h0]
theorem set_self (l : List Nat) (i : Nat) (h : i < l.length) : l.set i (l.getD i 0) = l := by
  rw [List.getD_eq_getElem?_getD, List.getElem?_eq_getElem h]; simp

set_option maxHeartbeats 1000000 in
theorem rClamp_any (w : World) (h : List Nat) (hl : h.length = 16) (hb : ∀ x ∈ h, x < 256) :
    Calls Try.prog 79 #[.agg (bv h).toArray] w fun e w' => e = .returned (.agg (bv (clamp h)).toArray) ∧ Below w.heap.size w w' := by
  rw [← cr_end h hl]
  go_enter Try.func79, Try.ntmps79
  go_wp2_with fail
  refine at_world (fun W => Blk W w.heap.size 76 .u8 (cr h 0) ∧ Blk W (w.heap.size + 1) 76 .u8 (List.replicate 16 0) ∧ Below w.heap.size w W) ?_ ?_
  · rw [cr_zero]
    refine ⟨(Blk.new w _ _ h _ rfl).alloc _, ?_, xalloc (xnew _ _) _⟩
    have := Blk.new (w.alloc (.cells (nv .u8 h).toArray 76)) 76 .u8 (List.replicate 16 0) _ rfl
    rw [World.size_alloc] at this
    exact this
  rintro W ⟨hN, hO, hB⟩
  go_loopw [3] (fun r wr => ∃ k : Nat, k ≤ 16 ∧ r = .int .i64 k ∧ Blk wr w.heap.size 76 .u8 (cr h k) ∧ Blk wr (w.heap.size + 1) 76 .u8 (List.replicate 16 0) ∧ Below w.heap.size w wr) (fun r _ => 16 - (intOf r).toNat)
  case atStart => exact ⟨0, by decide, rfl, hN, hO, hB⟩
  case round =>
    clear hN hO hB
    obtain ⟨k, hk4, rfl, hN, hO, hB⟩ := hrel
    by_cases hlt : k < 16
    · have hll := cr_length h k (by omega)
      rw [hl] at hll
      have hc := hN.cell k (by omega)
      rw [cr_get h k (by omega)] at hc
      have hf := hN.frozen k
      have hx := getD_lt h hb k
      have HS := cr_succ h k (by omega)
      have hse := set_self (cr h k) k (by omega)
      rw [cr_get h k (by omega)] at hse
      obtain ⟨x, hx0⟩ : ∃ x, x = h.getD k 0 := ⟨_, rfl⟩
      rw [← hx0] at hc hx HS hse
      obtain ⟨hs, hhs⟩ : ∃ hs, hs = cr h k := ⟨_, rfl⟩
      rw [← hhs] at hN HS hse
      obtain ⟨hs2, hhs2⟩ : ∃ hs2, hs2 = cr h (k + 1) := ⟨_, rfl⟩
      rw [← hhs2] at HS
      have HQ := Lib.hid hhs2
      clear hhs hhs2 hx0 hll
      have hk16 : (k : Int) < 16 := by omega
      have hkd : decide ((k : Int) < 16) = true := decide_eq_true (by omega)
      by_cases m3 : k % 4 = 3
      · rw [clampB_3 k x m3] at HS
        have hfin := hN.set k (x % 16)
        rw [HS] at hfin
        go_wp2_with fail
        exact ⟨⟨k + 1, by omega, by go_num, by rw [← HQ.out]; exact hfin, hO.other _ _ (by show w.heap.size + 1 ≠ w.heap.size; omega), xset hB (Nat.le_refl _) _⟩, by simp [intOf]; omega⟩
      · by_cases m0 : k % 4 = 0 ∧ 0 < k
        · rw [clampB_0 k x m0.1 m0.2] at HS
          obtain ⟨m1, m2⟩ := m0
          have hfin := hN.set k (x / 4 * 4)
          rw [HS] at hfin
          have hy : ((x / 4 * 4 : Nat) : Int) = (x : Int) / 4 * 4 := by omega
          rw [hy] at hfin
          clear hy HS hse m3
          have hkp : (0 : Int) < (k : Int) := by omega
          have hk4 : (k : Int) % 4 = 0 := by omega
          go_wp2_with fail
          all_goals exact ⟨⟨k + 1, by omega, by go_num, by rw [← HQ.out]; exact hfin, hO.other _ _ (by show w.heap.size + 1 ≠ w.heap.size; omega), xset hB (Nat.le_refl _) _⟩, by simp [intOf]; omega⟩
        · rw [clampB_e k x m3 m0, hse] at HS
          rw [HS] at hN
          rcases (show k % 4 ≠ 0 ∨ k = 0 from by omega) with m1 | rfl
          · go_wp2_with fail
            all_goals exact ⟨⟨k + 1, by omega, by go_num, by rw [← HQ.out]; exact hN, hO, hB⟩, by simp [intOf]; omega⟩
          · rw [show ((0 : Nat) : Int) = 0 from rfl]
            go_wp2_with fail
            all_goals exact ⟨⟨1, by omega, by go_num, by rw [← HQ.out]; exact hN, hO, hB⟩, by simp [intOf]⟩
    · obtain rfl : k = 16 := by omega
      obtain ⟨f, hf⟩ : ∃ f, f = cr h 16 := ⟨_, rfl⟩
      rw [← hf] at hN
      have HF := Lib.hid hf
      have hfl : f.length = 16 := by rw [hf, cr_length h 16 (by omega), hl]
      have HZ := Lib.hid (show (Try.prog.info? 76).map (·.size) = some f.length by rw [hfl]; kernel_rfl)
      have HZ2 := Lib.hid (show (Try.prog.info? 76).map (·.size) = some (nv .u8 f).toArray.size by simp only [List.size_toArray, nv_length]; rw [hfl]; kernel_rfl)
      have HS2 := Lib.hid (show (List.replicate 16 0).length = f.length by rw [hfl]; rfl)
      clear hf hfl
      rw [show ((16 : Nat) : Int) = 16 from rfl]
      go_wp2_with (first
        | (refine wp_load_arr rfl 76 (.tmp 1) rfl w.heap.size rfl hN 16 5 Try.underlying76 HZ.out ?_)
        | (refine wp_store_arr rfl 76 (.tmp 2) (.tmp 31) rfl (w.heap.size + 1) rfl hO rfl HZ.out HS2.out ?_; intro W9 hO9 hg9)
        | fail)
      exact bodyPost_ret (results_cell_row rfl _ _ (w.heap.size + 1) 76 (nv .u8 f).toArray (0, 0) _ rfl hO9 Try.underlying76 rfl HZ2.out) rfl ⟨by rw [HF.out]; rfl, gbelow hB hg9 (by omega)⟩
end Go.Proofs.Ytpcppnoomogloaa.Po
