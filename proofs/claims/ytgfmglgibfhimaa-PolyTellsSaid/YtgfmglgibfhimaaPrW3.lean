/- Walks of the document's numbers of twenty digits: multiplying. -/
import Derived.Test.YtgfmglgibfhimaaPrW2
namespace Go.Proofs.Ytgfmglgibfhimaa.Po
open Go.RowKit

/-- What is there ahead of bit z. -/
def mulN (x y : Nat) (z : Int) : Nat := x * (y / 2 ^ (z + 1).toNat) % PP
theorem mulN_lt (x y : Nat) (z : Int) : mulN x y z < PP := Nat.mod_lt _ (by rw [PP_eq]; decide)
theorem mulN_start (x y : Nat) (h : y < 2 ^ 132) : mulN x y 131 = 0 := by
  unfold mulN
  rw [show ((131 : Int) + 1).toNat = 132 from rfl, Nat.div_eq_of_lt h, Nat.mul_zero, Nat.zero_mod]
theorem mulN_end (x y : Nat) : mulN x y (-1) = x * y % PP := by
  unfold mulN
  rw [show ((-1 : Int) + 1).toNat = 0 from rfl, Nat.pow_zero, Nat.div_one]
theorem mulN_step (x y n : Nat) : ((mulN x y (n : Int) + mulN x y (n : Int)) % PP + (if y / 2 ^ n % 2 = 1 then x else 0)) % PP = mulN x y ((n : Int) - 1) := by
  have h := bit_step x y 0 (2 ^ n) (Nat.pow_pos (by decide))
  unfold mulN
  rw [show ((n : Int) + 1).toNat = n + 1 from by omega, show ((n : Int) - 1 + 1).toNat = n from by omega, Nat.pow_succ, Nat.mul_comm (2 ^ n) 2]
  exact h
theorem by_zero20 : by_ 20 0 = List.replicate 20 0 := by decide +kernel

theorem four_blocks {w : World} {t : TypeId} {k : IntKind} (a b c d : List Nat) : Blk ((((w.alloc (.cells (nv k a).toArray t)).alloc (.cells (nv k b).toArray t)).alloc (.cells (nv k c).toArray t)).alloc (.cells (nv k d).toArray t)) w.heap.size t k a ∧ Blk ((((w.alloc (.cells (nv k a).toArray t)).alloc (.cells (nv k b).toArray t)).alloc (.cells (nv k c).toArray t)).alloc (.cells (nv k d).toArray t)) (w.heap.size + 1) t k b ∧
    Blk ((((w.alloc (.cells (nv k a).toArray t)).alloc (.cells (nv k b).toArray t)).alloc (.cells (nv k c).toArray t)).alloc (.cells (nv k d).toArray t)) (w.heap.size + 1 + 1) t k c ∧ Blk ((((w.alloc (.cells (nv k a).toArray t)).alloc (.cells (nv k b).toArray t)).alloc (.cells (nv k c).toArray t)).alloc (.cells (nv k d).toArray t)) (w.heap.size + 1 + 1 + 1) t k d ∧
    Below w.heap.size w ((((w.alloc (.cells (nv k a).toArray t)).alloc (.cells (nv k b).toArray t)).alloc (.cells (nv k c).toArray t)).alloc (.cells (nv k d).toArray t)) := by
  obtain ⟨h1, h2, h3, h4⟩ := two_blocks (w := w) (t := t) (k := k) a b c
  refine ⟨h1.alloc _, h2.alloc _, h3.alloc _, ?_, xalloc h4 _⟩
  have := Blk.new (((w.alloc (.cells (nv k a).toArray t)).alloc (.cells (nv k b).toArray t)).alloc (.cells (nv k c).toArray t)) t k d _ rfl
  rw [World.size_alloc, World.size_alloc, World.size_alloc] at this
  exact this
theorem bit_yes {b : List Nat} (hb : dg b) (n j k : Nat) (hj : n = 8 * j + k) (hj20 : j < 20) (hk : k < 8) : le b / 2 ^ n % 2 = b.getD j 0 / 2 ^ k % 2 := by rw [hj, bit_of hb j k hj20 hk]

set_option maxHeartbeats 4000000 in
theorem rtimes_any (w : World) (a b : List Nat) (ha : dg a) (hb : dg b) (hla : le a < PP) (hlb : le b < 2 ^ 132) :
    Calls Try.prog 19 #[.agg (nv .i64 a).toArray, .agg (nv .i64 b).toArray] w fun e w' => e = .returned (.agg (nv .i64 (by_ 20 (le a * le b % PP))).toArray) ∧ Below w.heap.size w w' := by
  have h0 := mulN_start (le a) (le b) hlb
  have HEND := Lib.hid (mulN_end (le a) (le b))
  have HZ0 := Lib.hid (show (Try.prog.info? 42).map (·.size) = some (List.replicate 20 0).length by kernel_rfl)
  have HZa := Lib.hid (show (Try.prog.info? 42).map (·.size) = some a.length by rw [ha.1]; kernel_rfl)
  clear hlb
  obtain ⟨hA0, hC0, hO0, hU0, hB0⟩ := four_blocks (w := w) (t := 42) (k := .i64) a b (List.replicate 20 0) (List.replicate 20 0)
  go_enter Try.func19, Try.ntmps19
  go_wp2_with (first
    | (refine wp_build rfl 42 _ rfl (.agg (nv .i64 (List.replicate 20 0)).toArray) (by kernel_rfl) ?_)
    | (refine wp_store_arr rfl 42 (.tmp 5) (.tmp 7) rfl (w.heap.size + 1 + 1 + 1) rfl hU0 rfl HZ0.out rfl ?_; intro W hU hg; have hA := hA0.grown hg (ne_some (by omega)); have hC := hC0.grown hg (ne_some (by omega)); have hO := hO0.grown hg (ne_some (by omega)); have hB := gbelow hB0 hg (by omega); clear hA0 hC0 hO0 hU0 hB0)
    | fail)
  replace hU : Blk W (w.heap.size + 1 + 1 + 1) 42 .i64 (by_ 20 (mulN (le a) (le b) 131)) := by rw [h0, by_zero20]; exact hU
  clear h0
  go_loopw [6] (fun r wr => ∃ z : Int, -1 ≤ z ∧ z ≤ 131 ∧ r = .int .i64 z ∧ Blk wr (w.heap.size + 1 + 1 + 1) 42 .i64 (by_ 20 (mulN (le a) (le b) z)) ∧ Blk wr w.heap.size 42 .i64 a ∧ Blk wr (w.heap.size + 1) 42 .i64 b ∧ Blk wr (w.heap.size + 1 + 1) 42 .i64 (List.replicate 20 0) ∧ Below w.heap.size w wr) (fun r _ => (intOf r + 1).toNat)
  case atStart => exact ⟨131, by decide, by decide, rfl, hU, hA, hC, hO, hB⟩
  case round =>
    clear hU hA hC hO hB hg
    obtain ⟨z, hz1, hz2, rfl, hU, hA, hC, hO, hB⟩ := hrel
    by_cases hz0 : 0 ≤ z
    · obtain ⟨n, rfl⟩ := Int.eq_ofNat_of_zero_le hz0
      clear hz0 hz1
      obtain ⟨j, hj⟩ : ∃ j, j = n / 8 := ⟨_, rfl⟩
      obtain ⟨k, hk⟩ : ∃ k, k = n % 8 := ⟨_, rfl⟩
      have ej : (n : Int) / 8 = (j : Int) := by omega
      have ek : (n : Int) % 8 = (k : Int) := by omega
      have hj17 : j < 17 := by omega
      have hj20 : (j : Int) < 20 := by omega
      have hk8 : k < 8 := by omega
      have hbt := bit_yes hb n j k (by omega) (by omega) hk8
      have hst := mulN_step (le a) (le b) n
      have hml := mulN_lt (le a) (le b) (n : Int)
      obtain ⟨v, hv⟩ : ∃ v, v = b.getD j 0 := ⟨_, rfl⟩
      have HV := Lib.hid hv
      have hvl : v < 256 := hv ▸ getD_lt b hb.2 j
      rw [← hv] at hbt
      obtain ⟨m, hm⟩ : ∃ m, m = mulN (le a) (le b) (n : Int) := ⟨_, rfl⟩
      rw [← hm] at hU hst hml
      have hPs := PP_small
      have hd1 := dg_by m
      have c1 := Lib.hid (fun W => add_any W (by_ 20 m) (by_ 20 m) hd1 hd1 (by rw [le_by20 m (by omega)]; exact hml) (by rw [le_by20 m (by omega)]; exact hml))
      rw [le_by20 m (by omega)] at c1
      obtain ⟨d, hd⟩ : ∃ d, d = (m + m) % PP := ⟨_, rfl⟩
      have hdl : d < PP := hd ▸ Nat.mod_lt _ (by rw [PP_eq]; decide)
      rw [← hd] at c1 hst
      have hd2 := dg_by d
      have c2 := Lib.hid (fun W => add_any W (by_ 20 d) a hd2 ha (by rw [le_by20 d (by omega)]; exact hdl) hla)
      rw [le_by20 d (by omega)] at c2
      have hd3 := dg_by ((d + le a) % PP)
      have hsm : (if le b / 2 ^ n % 2 = 1 then (d + le a) % PP else d) = mulN (le a) (le b) ((n : Int) - 1) := by
        rw [← hst]
        split
        · rfl
        · rw [Nat.add_zero, Nat.mod_eq_of_lt hdl]
      rw [hbt] at hsm
      obtain ⟨o, ho⟩ : ∃ o, o = by_ 20 m := ⟨_, rfl⟩
      obtain ⟨q, hq⟩ : ∃ q, q = by_ 20 d := ⟨_, rfl⟩
      obtain ⟨f, hf⟩ : ∃ f, f = by_ 20 ((d + le a) % PP) := ⟨_, rfl⟩
      rw [← ho] at hU hd1 c1
      rw [← hq] at c1 c2 hd2
      rw [← hf] at c2 hd3
      have HZo := Lib.hid (show (Try.prog.info? 42).map (·.size) = some o.length by rw [hd1.1]; kernel_rfl)
      have HZd := Lib.hid (show (Try.prog.info? 42).map (·.size) = some q.length by rw [hd2.1]; kernel_rfl)
      have HZf := Lib.hid (show (Try.prog.info? 42).map (·.size) = some f.length by rw [hd3.1]; kernel_rfl)
      have HLd := Lib.hid (show o.length = q.length by rw [hd1.1, hd2.1])
      have HLf := Lib.hid (show q.length = f.length by rw [hd2.1, hd3.1])
      clear hj hk hbt hst hml hv hm hPs hd hdl ho hd1 hd2 hd3
      by_cases hb1t : v / 2 ^ k % 2 = 1
      · rw [if_pos hb1t] at hsm
        have HM := Lib.hid (show by_ 20 (mulN (le a) (le b) ((n : Int) - 1)) = f by rw [hf, hsm])
        clear hsm hq hf
        rcases (show k = 0 ∨ k = 1 ∨ k = 2 ∨ k = 3 ∨ k = 4 ∨ k = 5 ∨ k = 6 ∨ k = 7 from by omega) with rfl | rfl | rfl | rfl | rfl | rfl | rfl | rfl
        · have ek : (n : Int) % 8 = 0 := ek
          simp only [Nat.reducePow, Nat.div_one] at hb1t
          have hbit : ((v : Int) % 2 == 1) = true := beq_iff_eq.2 (by omega)
          go_wp2_with (first
            | (refine wp_load_arr rfl 42 (.tmp 5) rfl (w.heap.size + 1 + 1 + 1) rfl hU 20 3 Try.underlying42 HZo.out ?_)
            | (go_at_call 20; refine (c1.out _).mono ?_; clear c1; rintro e w1 ⟨rfl, hb1⟩; have hU1 := hU.below hb1; have hA1 := hA.below hb1; have hC1 := hC.below hb1; have hO1 := hO.below hb1; have hB1 := xtrans hB hb1)
            | (refine wp_store_arr rfl 42 (.tmp 5) (.tmp 14) rfl (w.heap.size + 1 + 1 + 1) rfl hU1 rfl HZd.out HLd.out ?_; intro w2 hU2 hg2; have hA2 := hA1.grown hg2 (ne_some (by omega)); have hC2 := hC1.grown hg2 (ne_some (by omega)); have hO2 := hO1.grown hg2 (ne_some (by omega)); have hB2 := gbelow hB1 hg2 (by omega); have hcell := hC2.cell j (by rw [hb.1]; omega); rw [← HV.out] at hcell)
            | (refine wp_load_arr rfl 42 (.tmp 5) rfl (w.heap.size + 1 + 1 + 1) rfl hU2 20 3 Try.underlying42 HZd.out ?_)
            | (refine wp_load_arr rfl 42 (.tmp 2) rfl w.heap.size rfl hA2 20 3 Try.underlying42 HZa.out ?_)
            | (go_at_call 20; refine (c2.out _).mono ?_; clear c2; rintro e w3 ⟨rfl, hb3⟩; have hU3 := hU2.below hb3; have hA3 := hA2.below hb3; have hC3 := hC2.below hb3; have hO3 := hO2.below hb3; have hB3 := xtrans hB2 hb3)
            | (refine wp_store_arr rfl 42 (.tmp 5) (.tmp 27) rfl (w.heap.size + 1 + 1 + 1) rfl hU3 rfl HZf.out HLf.out ?_; intro w4 hU4 hg4; have hA4 := hA3.grown hg4 (ne_some (by omega)); have hC4 := hC3.grown hg4 (ne_some (by omega)); have hO4 := hO3.grown hg4 (ne_some (by omega)); have hB4 := gbelow hB3 hg4 (by omega))
            | fail)
          exact ⟨⟨(n : Int) - 1, by omega, by omega, rfl, by rw [HM.out]; exact hU4, hA4, hC4, hO4, hB4⟩, by simp [intOf] <;> omega⟩
        · have ek : (n : Int) % 8 = 1 := ek
          simp only [Nat.reducePow] at hb1t
          have hbit : ((v : Int) / 2 % 2 == 1) = true := beq_iff_eq.2 (by omega)
          go_wp2_with (first
            | (refine wp_load_arr rfl 42 (.tmp 5) rfl (w.heap.size + 1 + 1 + 1) rfl hU 20 3 Try.underlying42 HZo.out ?_)
            | (go_at_call 20; refine (c1.out _).mono ?_; clear c1; rintro e w1 ⟨rfl, hb1⟩; have hU1 := hU.below hb1; have hA1 := hA.below hb1; have hC1 := hC.below hb1; have hO1 := hO.below hb1; have hB1 := xtrans hB hb1)
            | (refine wp_store_arr rfl 42 (.tmp 5) (.tmp 14) rfl (w.heap.size + 1 + 1 + 1) rfl hU1 rfl HZd.out HLd.out ?_; intro w2 hU2 hg2; have hA2 := hA1.grown hg2 (ne_some (by omega)); have hC2 := hC1.grown hg2 (ne_some (by omega)); have hO2 := hO1.grown hg2 (ne_some (by omega)); have hB2 := gbelow hB1 hg2 (by omega); have hcell := hC2.cell j (by rw [hb.1]; omega); rw [← HV.out] at hcell)
            | (refine wp_load_arr rfl 42 (.tmp 5) rfl (w.heap.size + 1 + 1 + 1) rfl hU2 20 3 Try.underlying42 HZd.out ?_)
            | (refine wp_load_arr rfl 42 (.tmp 2) rfl w.heap.size rfl hA2 20 3 Try.underlying42 HZa.out ?_)
            | (go_at_call 20; refine (c2.out _).mono ?_; clear c2; rintro e w3 ⟨rfl, hb3⟩; have hU3 := hU2.below hb3; have hA3 := hA2.below hb3; have hC3 := hC2.below hb3; have hO3 := hO2.below hb3; have hB3 := xtrans hB2 hb3)
            | (refine wp_store_arr rfl 42 (.tmp 5) (.tmp 27) rfl (w.heap.size + 1 + 1 + 1) rfl hU3 rfl HZf.out HLf.out ?_; intro w4 hU4 hg4; have hA4 := hA3.grown hg4 (ne_some (by omega)); have hC4 := hC3.grown hg4 (ne_some (by omega)); have hO4 := hO3.grown hg4 (ne_some (by omega)); have hB4 := gbelow hB3 hg4 (by omega))
            | fail)
          exact ⟨⟨(n : Int) - 1, by omega, by omega, rfl, by rw [HM.out]; exact hU4, hA4, hC4, hO4, hB4⟩, by simp [intOf] <;> omega⟩
        · have ek : (n : Int) % 8 = 2 := ek
          simp only [Nat.reducePow] at hb1t
          have hbit : ((v : Int) / 4 % 2 == 1) = true := beq_iff_eq.2 (by omega)
          go_wp2_with (first
            | (refine wp_load_arr rfl 42 (.tmp 5) rfl (w.heap.size + 1 + 1 + 1) rfl hU 20 3 Try.underlying42 HZo.out ?_)
            | (go_at_call 20; refine (c1.out _).mono ?_; clear c1; rintro e w1 ⟨rfl, hb1⟩; have hU1 := hU.below hb1; have hA1 := hA.below hb1; have hC1 := hC.below hb1; have hO1 := hO.below hb1; have hB1 := xtrans hB hb1)
            | (refine wp_store_arr rfl 42 (.tmp 5) (.tmp 14) rfl (w.heap.size + 1 + 1 + 1) rfl hU1 rfl HZd.out HLd.out ?_; intro w2 hU2 hg2; have hA2 := hA1.grown hg2 (ne_some (by omega)); have hC2 := hC1.grown hg2 (ne_some (by omega)); have hO2 := hO1.grown hg2 (ne_some (by omega)); have hB2 := gbelow hB1 hg2 (by omega); have hcell := hC2.cell j (by rw [hb.1]; omega); rw [← HV.out] at hcell)
            | (refine wp_load_arr rfl 42 (.tmp 5) rfl (w.heap.size + 1 + 1 + 1) rfl hU2 20 3 Try.underlying42 HZd.out ?_)
            | (refine wp_load_arr rfl 42 (.tmp 2) rfl w.heap.size rfl hA2 20 3 Try.underlying42 HZa.out ?_)
            | (go_at_call 20; refine (c2.out _).mono ?_; clear c2; rintro e w3 ⟨rfl, hb3⟩; have hU3 := hU2.below hb3; have hA3 := hA2.below hb3; have hC3 := hC2.below hb3; have hO3 := hO2.below hb3; have hB3 := xtrans hB2 hb3)
            | (refine wp_store_arr rfl 42 (.tmp 5) (.tmp 27) rfl (w.heap.size + 1 + 1 + 1) rfl hU3 rfl HZf.out HLf.out ?_; intro w4 hU4 hg4; have hA4 := hA3.grown hg4 (ne_some (by omega)); have hC4 := hC3.grown hg4 (ne_some (by omega)); have hO4 := hO3.grown hg4 (ne_some (by omega)); have hB4 := gbelow hB3 hg4 (by omega))
            | fail)
          exact ⟨⟨(n : Int) - 1, by omega, by omega, rfl, by rw [HM.out]; exact hU4, hA4, hC4, hO4, hB4⟩, by simp [intOf] <;> omega⟩
        · have ek : (n : Int) % 8 = 3 := ek
          simp only [Nat.reducePow] at hb1t
          have hbit : ((v : Int) / 8 % 2 == 1) = true := beq_iff_eq.2 (by omega)
          go_wp2_with (first
            | (refine wp_load_arr rfl 42 (.tmp 5) rfl (w.heap.size + 1 + 1 + 1) rfl hU 20 3 Try.underlying42 HZo.out ?_)
            | (go_at_call 20; refine (c1.out _).mono ?_; clear c1; rintro e w1 ⟨rfl, hb1⟩; have hU1 := hU.below hb1; have hA1 := hA.below hb1; have hC1 := hC.below hb1; have hO1 := hO.below hb1; have hB1 := xtrans hB hb1)
            | (refine wp_store_arr rfl 42 (.tmp 5) (.tmp 14) rfl (w.heap.size + 1 + 1 + 1) rfl hU1 rfl HZd.out HLd.out ?_; intro w2 hU2 hg2; have hA2 := hA1.grown hg2 (ne_some (by omega)); have hC2 := hC1.grown hg2 (ne_some (by omega)); have hO2 := hO1.grown hg2 (ne_some (by omega)); have hB2 := gbelow hB1 hg2 (by omega); have hcell := hC2.cell j (by rw [hb.1]; omega); rw [← HV.out] at hcell)
            | (refine wp_load_arr rfl 42 (.tmp 5) rfl (w.heap.size + 1 + 1 + 1) rfl hU2 20 3 Try.underlying42 HZd.out ?_)
            | (refine wp_load_arr rfl 42 (.tmp 2) rfl w.heap.size rfl hA2 20 3 Try.underlying42 HZa.out ?_)
            | (go_at_call 20; refine (c2.out _).mono ?_; clear c2; rintro e w3 ⟨rfl, hb3⟩; have hU3 := hU2.below hb3; have hA3 := hA2.below hb3; have hC3 := hC2.below hb3; have hO3 := hO2.below hb3; have hB3 := xtrans hB2 hb3)
            | (refine wp_store_arr rfl 42 (.tmp 5) (.tmp 27) rfl (w.heap.size + 1 + 1 + 1) rfl hU3 rfl HZf.out HLf.out ?_; intro w4 hU4 hg4; have hA4 := hA3.grown hg4 (ne_some (by omega)); have hC4 := hC3.grown hg4 (ne_some (by omega)); have hO4 := hO3.grown hg4 (ne_some (by omega)); have hB4 := gbelow hB3 hg4 (by omega))
            | fail)
          exact ⟨⟨(n : Int) - 1, by omega, by omega, rfl, by rw [HM.out]; exact hU4, hA4, hC4, hO4, hB4⟩, by simp [intOf] <;> omega⟩
        · have ek : (n : Int) % 8 = 4 := ek
          simp only [Nat.reducePow] at hb1t
          have hbit : ((v : Int) / 16 % 2 == 1) = true := beq_iff_eq.2 (by omega)
          go_wp2_with (first
            | (refine wp_load_arr rfl 42 (.tmp 5) rfl (w.heap.size + 1 + 1 + 1) rfl hU 20 3 Try.underlying42 HZo.out ?_)
            | (go_at_call 20; refine (c1.out _).mono ?_; clear c1; rintro e w1 ⟨rfl, hb1⟩; have hU1 := hU.below hb1; have hA1 := hA.below hb1; have hC1 := hC.below hb1; have hO1 := hO.below hb1; have hB1 := xtrans hB hb1)
            | (refine wp_store_arr rfl 42 (.tmp 5) (.tmp 14) rfl (w.heap.size + 1 + 1 + 1) rfl hU1 rfl HZd.out HLd.out ?_; intro w2 hU2 hg2; have hA2 := hA1.grown hg2 (ne_some (by omega)); have hC2 := hC1.grown hg2 (ne_some (by omega)); have hO2 := hO1.grown hg2 (ne_some (by omega)); have hB2 := gbelow hB1 hg2 (by omega); have hcell := hC2.cell j (by rw [hb.1]; omega); rw [← HV.out] at hcell)
            | (refine wp_load_arr rfl 42 (.tmp 5) rfl (w.heap.size + 1 + 1 + 1) rfl hU2 20 3 Try.underlying42 HZd.out ?_)
            | (refine wp_load_arr rfl 42 (.tmp 2) rfl w.heap.size rfl hA2 20 3 Try.underlying42 HZa.out ?_)
            | (go_at_call 20; refine (c2.out _).mono ?_; clear c2; rintro e w3 ⟨rfl, hb3⟩; have hU3 := hU2.below hb3; have hA3 := hA2.below hb3; have hC3 := hC2.below hb3; have hO3 := hO2.below hb3; have hB3 := xtrans hB2 hb3)
            | (refine wp_store_arr rfl 42 (.tmp 5) (.tmp 27) rfl (w.heap.size + 1 + 1 + 1) rfl hU3 rfl HZf.out HLf.out ?_; intro w4 hU4 hg4; have hA4 := hA3.grown hg4 (ne_some (by omega)); have hC4 := hC3.grown hg4 (ne_some (by omega)); have hO4 := hO3.grown hg4 (ne_some (by omega)); have hB4 := gbelow hB3 hg4 (by omega))
            | fail)
          exact ⟨⟨(n : Int) - 1, by omega, by omega, rfl, by rw [HM.out]; exact hU4, hA4, hC4, hO4, hB4⟩, by simp [intOf] <;> omega⟩
        · have ek : (n : Int) % 8 = 5 := ek
          simp only [Nat.reducePow] at hb1t
          have hbit : ((v : Int) / 32 % 2 == 1) = true := beq_iff_eq.2 (by omega)
          go_wp2_with (first
            | (refine wp_load_arr rfl 42 (.tmp 5) rfl (w.heap.size + 1 + 1 + 1) rfl hU 20 3 Try.underlying42 HZo.out ?_)
            | (go_at_call 20; refine (c1.out _).mono ?_; clear c1; rintro e w1 ⟨rfl, hb1⟩; have hU1 := hU.below hb1; have hA1 := hA.below hb1; have hC1 := hC.below hb1; have hO1 := hO.below hb1; have hB1 := xtrans hB hb1)
            | (refine wp_store_arr rfl 42 (.tmp 5) (.tmp 14) rfl (w.heap.size + 1 + 1 + 1) rfl hU1 rfl HZd.out HLd.out ?_; intro w2 hU2 hg2; have hA2 := hA1.grown hg2 (ne_some (by omega)); have hC2 := hC1.grown hg2 (ne_some (by omega)); have hO2 := hO1.grown hg2 (ne_some (by omega)); have hB2 := gbelow hB1 hg2 (by omega); have hcell := hC2.cell j (by rw [hb.1]; omega); rw [← HV.out] at hcell)
            | (refine wp_load_arr rfl 42 (.tmp 5) rfl (w.heap.size + 1 + 1 + 1) rfl hU2 20 3 Try.underlying42 HZd.out ?_)
            | (refine wp_load_arr rfl 42 (.tmp 2) rfl w.heap.size rfl hA2 20 3 Try.underlying42 HZa.out ?_)
            | (go_at_call 20; refine (c2.out _).mono ?_; clear c2; rintro e w3 ⟨rfl, hb3⟩; have hU3 := hU2.below hb3; have hA3 := hA2.below hb3; have hC3 := hC2.below hb3; have hO3 := hO2.below hb3; have hB3 := xtrans hB2 hb3)
            | (refine wp_store_arr rfl 42 (.tmp 5) (.tmp 27) rfl (w.heap.size + 1 + 1 + 1) rfl hU3 rfl HZf.out HLf.out ?_; intro w4 hU4 hg4; have hA4 := hA3.grown hg4 (ne_some (by omega)); have hC4 := hC3.grown hg4 (ne_some (by omega)); have hO4 := hO3.grown hg4 (ne_some (by omega)); have hB4 := gbelow hB3 hg4 (by omega))
            | fail)
          exact ⟨⟨(n : Int) - 1, by omega, by omega, rfl, by rw [HM.out]; exact hU4, hA4, hC4, hO4, hB4⟩, by simp [intOf] <;> omega⟩
        · have ek : (n : Int) % 8 = 6 := ek
          simp only [Nat.reducePow] at hb1t
          have hbit : ((v : Int) / 64 % 2 == 1) = true := beq_iff_eq.2 (by omega)
          go_wp2_with (first
            | (refine wp_load_arr rfl 42 (.tmp 5) rfl (w.heap.size + 1 + 1 + 1) rfl hU 20 3 Try.underlying42 HZo.out ?_)
            | (go_at_call 20; refine (c1.out _).mono ?_; clear c1; rintro e w1 ⟨rfl, hb1⟩; have hU1 := hU.below hb1; have hA1 := hA.below hb1; have hC1 := hC.below hb1; have hO1 := hO.below hb1; have hB1 := xtrans hB hb1)
            | (refine wp_store_arr rfl 42 (.tmp 5) (.tmp 14) rfl (w.heap.size + 1 + 1 + 1) rfl hU1 rfl HZd.out HLd.out ?_; intro w2 hU2 hg2; have hA2 := hA1.grown hg2 (ne_some (by omega)); have hC2 := hC1.grown hg2 (ne_some (by omega)); have hO2 := hO1.grown hg2 (ne_some (by omega)); have hB2 := gbelow hB1 hg2 (by omega); have hcell := hC2.cell j (by rw [hb.1]; omega); rw [← HV.out] at hcell)
            | (refine wp_load_arr rfl 42 (.tmp 5) rfl (w.heap.size + 1 + 1 + 1) rfl hU2 20 3 Try.underlying42 HZd.out ?_)
            | (refine wp_load_arr rfl 42 (.tmp 2) rfl w.heap.size rfl hA2 20 3 Try.underlying42 HZa.out ?_)
            | (go_at_call 20; refine (c2.out _).mono ?_; clear c2; rintro e w3 ⟨rfl, hb3⟩; have hU3 := hU2.below hb3; have hA3 := hA2.below hb3; have hC3 := hC2.below hb3; have hO3 := hO2.below hb3; have hB3 := xtrans hB2 hb3)
            | (refine wp_store_arr rfl 42 (.tmp 5) (.tmp 27) rfl (w.heap.size + 1 + 1 + 1) rfl hU3 rfl HZf.out HLf.out ?_; intro w4 hU4 hg4; have hA4 := hA3.grown hg4 (ne_some (by omega)); have hC4 := hC3.grown hg4 (ne_some (by omega)); have hO4 := hO3.grown hg4 (ne_some (by omega)); have hB4 := gbelow hB3 hg4 (by omega))
            | fail)
          exact ⟨⟨(n : Int) - 1, by omega, by omega, rfl, by rw [HM.out]; exact hU4, hA4, hC4, hO4, hB4⟩, by simp [intOf] <;> omega⟩
        · have ek : (n : Int) % 8 = 7 := ek
          simp only [Nat.reducePow] at hb1t
          have hbit : ((v : Int) / 128 % 2 == 1) = true := beq_iff_eq.2 (by omega)
          go_wp2_with (first
            | (refine wp_load_arr rfl 42 (.tmp 5) rfl (w.heap.size + 1 + 1 + 1) rfl hU 20 3 Try.underlying42 HZo.out ?_)
            | (go_at_call 20; refine (c1.out _).mono ?_; clear c1; rintro e w1 ⟨rfl, hb1⟩; have hU1 := hU.below hb1; have hA1 := hA.below hb1; have hC1 := hC.below hb1; have hO1 := hO.below hb1; have hB1 := xtrans hB hb1)
            | (refine wp_store_arr rfl 42 (.tmp 5) (.tmp 14) rfl (w.heap.size + 1 + 1 + 1) rfl hU1 rfl HZd.out HLd.out ?_; intro w2 hU2 hg2; have hA2 := hA1.grown hg2 (ne_some (by omega)); have hC2 := hC1.grown hg2 (ne_some (by omega)); have hO2 := hO1.grown hg2 (ne_some (by omega)); have hB2 := gbelow hB1 hg2 (by omega); have hcell := hC2.cell j (by rw [hb.1]; omega); rw [← HV.out] at hcell)
            | (refine wp_load_arr rfl 42 (.tmp 5) rfl (w.heap.size + 1 + 1 + 1) rfl hU2 20 3 Try.underlying42 HZd.out ?_)
            | (refine wp_load_arr rfl 42 (.tmp 2) rfl w.heap.size rfl hA2 20 3 Try.underlying42 HZa.out ?_)
            | (go_at_call 20; refine (c2.out _).mono ?_; clear c2; rintro e w3 ⟨rfl, hb3⟩; have hU3 := hU2.below hb3; have hA3 := hA2.below hb3; have hC3 := hC2.below hb3; have hO3 := hO2.below hb3; have hB3 := xtrans hB2 hb3)
            | (refine wp_store_arr rfl 42 (.tmp 5) (.tmp 27) rfl (w.heap.size + 1 + 1 + 1) rfl hU3 rfl HZf.out HLf.out ?_; intro w4 hU4 hg4; have hA4 := hA3.grown hg4 (ne_some (by omega)); have hC4 := hC3.grown hg4 (ne_some (by omega)); have hO4 := hO3.grown hg4 (ne_some (by omega)); have hB4 := gbelow hB3 hg4 (by omega))
            | fail)
          exact ⟨⟨(n : Int) - 1, by omega, by omega, rfl, by rw [HM.out]; exact hU4, hA4, hC4, hO4, hB4⟩, by simp [intOf] <;> omega⟩
      · rw [if_neg hb1t] at hsm
        have HM := Lib.hid (show by_ 20 (mulN (le a) (le b) ((n : Int) - 1)) = q by rw [hq, hsm])
        clear hsm hq hf c2
        rcases (show k = 0 ∨ k = 1 ∨ k = 2 ∨ k = 3 ∨ k = 4 ∨ k = 5 ∨ k = 6 ∨ k = 7 from by omega) with rfl | rfl | rfl | rfl | rfl | rfl | rfl | rfl
        · have ek : (n : Int) % 8 = 0 := ek
          simp only [Nat.reducePow, Nat.div_one] at hb1t
          have hbit : ((v : Int) % 2 == 1) = false := beq_eq_false_iff_ne.2 (by omega)
          go_wp2_with (first
            | (refine wp_load_arr rfl 42 (.tmp 5) rfl (w.heap.size + 1 + 1 + 1) rfl hU 20 3 Try.underlying42 HZo.out ?_)
            | (go_at_call 20; refine (c1.out _).mono ?_; clear c1; rintro e w1 ⟨rfl, hb1⟩; have hU1 := hU.below hb1; have hA1 := hA.below hb1; have hC1 := hC.below hb1; have hO1 := hO.below hb1; have hB1 := xtrans hB hb1)
            | (refine wp_store_arr rfl 42 (.tmp 5) (.tmp 14) rfl (w.heap.size + 1 + 1 + 1) rfl hU1 rfl HZd.out HLd.out ?_; intro w2 hU2 hg2; have hA2 := hA1.grown hg2 (ne_some (by omega)); have hC2 := hC1.grown hg2 (ne_some (by omega)); have hO2 := hO1.grown hg2 (ne_some (by omega)); have hB2 := gbelow hB1 hg2 (by omega); have hcell := hC2.cell j (by rw [hb.1]; omega); rw [← HV.out] at hcell)
            | fail)
          exact ⟨⟨(n : Int) - 1, by omega, by omega, rfl, by rw [HM.out]; exact hU2, hA2, hC2, hO2, hB2⟩, by simp [intOf] <;> omega⟩
        · have ek : (n : Int) % 8 = 1 := ek
          simp only [Nat.reducePow] at hb1t
          have hbit : ((v : Int) / 2 % 2 == 1) = false := beq_eq_false_iff_ne.2 (by omega)
          go_wp2_with (first
            | (refine wp_load_arr rfl 42 (.tmp 5) rfl (w.heap.size + 1 + 1 + 1) rfl hU 20 3 Try.underlying42 HZo.out ?_)
            | (go_at_call 20; refine (c1.out _).mono ?_; clear c1; rintro e w1 ⟨rfl, hb1⟩; have hU1 := hU.below hb1; have hA1 := hA.below hb1; have hC1 := hC.below hb1; have hO1 := hO.below hb1; have hB1 := xtrans hB hb1)
            | (refine wp_store_arr rfl 42 (.tmp 5) (.tmp 14) rfl (w.heap.size + 1 + 1 + 1) rfl hU1 rfl HZd.out HLd.out ?_; intro w2 hU2 hg2; have hA2 := hA1.grown hg2 (ne_some (by omega)); have hC2 := hC1.grown hg2 (ne_some (by omega)); have hO2 := hO1.grown hg2 (ne_some (by omega)); have hB2 := gbelow hB1 hg2 (by omega); have hcell := hC2.cell j (by rw [hb.1]; omega); rw [← HV.out] at hcell)
            | fail)
          exact ⟨⟨(n : Int) - 1, by omega, by omega, rfl, by rw [HM.out]; exact hU2, hA2, hC2, hO2, hB2⟩, by simp [intOf] <;> omega⟩
        · have ek : (n : Int) % 8 = 2 := ek
          simp only [Nat.reducePow] at hb1t
          have hbit : ((v : Int) / 4 % 2 == 1) = false := beq_eq_false_iff_ne.2 (by omega)
          go_wp2_with (first
            | (refine wp_load_arr rfl 42 (.tmp 5) rfl (w.heap.size + 1 + 1 + 1) rfl hU 20 3 Try.underlying42 HZo.out ?_)
            | (go_at_call 20; refine (c1.out _).mono ?_; clear c1; rintro e w1 ⟨rfl, hb1⟩; have hU1 := hU.below hb1; have hA1 := hA.below hb1; have hC1 := hC.below hb1; have hO1 := hO.below hb1; have hB1 := xtrans hB hb1)
            | (refine wp_store_arr rfl 42 (.tmp 5) (.tmp 14) rfl (w.heap.size + 1 + 1 + 1) rfl hU1 rfl HZd.out HLd.out ?_; intro w2 hU2 hg2; have hA2 := hA1.grown hg2 (ne_some (by omega)); have hC2 := hC1.grown hg2 (ne_some (by omega)); have hO2 := hO1.grown hg2 (ne_some (by omega)); have hB2 := gbelow hB1 hg2 (by omega); have hcell := hC2.cell j (by rw [hb.1]; omega); rw [← HV.out] at hcell)
            | fail)
          exact ⟨⟨(n : Int) - 1, by omega, by omega, rfl, by rw [HM.out]; exact hU2, hA2, hC2, hO2, hB2⟩, by simp [intOf] <;> omega⟩
        · have ek : (n : Int) % 8 = 3 := ek
          simp only [Nat.reducePow] at hb1t
          have hbit : ((v : Int) / 8 % 2 == 1) = false := beq_eq_false_iff_ne.2 (by omega)
          go_wp2_with (first
            | (refine wp_load_arr rfl 42 (.tmp 5) rfl (w.heap.size + 1 + 1 + 1) rfl hU 20 3 Try.underlying42 HZo.out ?_)
            | (go_at_call 20; refine (c1.out _).mono ?_; clear c1; rintro e w1 ⟨rfl, hb1⟩; have hU1 := hU.below hb1; have hA1 := hA.below hb1; have hC1 := hC.below hb1; have hO1 := hO.below hb1; have hB1 := xtrans hB hb1)
            | (refine wp_store_arr rfl 42 (.tmp 5) (.tmp 14) rfl (w.heap.size + 1 + 1 + 1) rfl hU1 rfl HZd.out HLd.out ?_; intro w2 hU2 hg2; have hA2 := hA1.grown hg2 (ne_some (by omega)); have hC2 := hC1.grown hg2 (ne_some (by omega)); have hO2 := hO1.grown hg2 (ne_some (by omega)); have hB2 := gbelow hB1 hg2 (by omega); have hcell := hC2.cell j (by rw [hb.1]; omega); rw [← HV.out] at hcell)
            | fail)
          exact ⟨⟨(n : Int) - 1, by omega, by omega, rfl, by rw [HM.out]; exact hU2, hA2, hC2, hO2, hB2⟩, by simp [intOf] <;> omega⟩
        · have ek : (n : Int) % 8 = 4 := ek
          simp only [Nat.reducePow] at hb1t
          have hbit : ((v : Int) / 16 % 2 == 1) = false := beq_eq_false_iff_ne.2 (by omega)
          go_wp2_with (first
            | (refine wp_load_arr rfl 42 (.tmp 5) rfl (w.heap.size + 1 + 1 + 1) rfl hU 20 3 Try.underlying42 HZo.out ?_)
            | (go_at_call 20; refine (c1.out _).mono ?_; clear c1; rintro e w1 ⟨rfl, hb1⟩; have hU1 := hU.below hb1; have hA1 := hA.below hb1; have hC1 := hC.below hb1; have hO1 := hO.below hb1; have hB1 := xtrans hB hb1)
            | (refine wp_store_arr rfl 42 (.tmp 5) (.tmp 14) rfl (w.heap.size + 1 + 1 + 1) rfl hU1 rfl HZd.out HLd.out ?_; intro w2 hU2 hg2; have hA2 := hA1.grown hg2 (ne_some (by omega)); have hC2 := hC1.grown hg2 (ne_some (by omega)); have hO2 := hO1.grown hg2 (ne_some (by omega)); have hB2 := gbelow hB1 hg2 (by omega); have hcell := hC2.cell j (by rw [hb.1]; omega); rw [← HV.out] at hcell)
            | fail)
          exact ⟨⟨(n : Int) - 1, by omega, by omega, rfl, by rw [HM.out]; exact hU2, hA2, hC2, hO2, hB2⟩, by simp [intOf] <;> omega⟩
        · have ek : (n : Int) % 8 = 5 := ek
          simp only [Nat.reducePow] at hb1t
          have hbit : ((v : Int) / 32 % 2 == 1) = false := beq_eq_false_iff_ne.2 (by omega)
          go_wp2_with (first
            | (refine wp_load_arr rfl 42 (.tmp 5) rfl (w.heap.size + 1 + 1 + 1) rfl hU 20 3 Try.underlying42 HZo.out ?_)
            | (go_at_call 20; refine (c1.out _).mono ?_; clear c1; rintro e w1 ⟨rfl, hb1⟩; have hU1 := hU.below hb1; have hA1 := hA.below hb1; have hC1 := hC.below hb1; have hO1 := hO.below hb1; have hB1 := xtrans hB hb1)
            | (refine wp_store_arr rfl 42 (.tmp 5) (.tmp 14) rfl (w.heap.size + 1 + 1 + 1) rfl hU1 rfl HZd.out HLd.out ?_; intro w2 hU2 hg2; have hA2 := hA1.grown hg2 (ne_some (by omega)); have hC2 := hC1.grown hg2 (ne_some (by omega)); have hO2 := hO1.grown hg2 (ne_some (by omega)); have hB2 := gbelow hB1 hg2 (by omega); have hcell := hC2.cell j (by rw [hb.1]; omega); rw [← HV.out] at hcell)
            | fail)
          exact ⟨⟨(n : Int) - 1, by omega, by omega, rfl, by rw [HM.out]; exact hU2, hA2, hC2, hO2, hB2⟩, by simp [intOf] <;> omega⟩
        · have ek : (n : Int) % 8 = 6 := ek
          simp only [Nat.reducePow] at hb1t
          have hbit : ((v : Int) / 64 % 2 == 1) = false := beq_eq_false_iff_ne.2 (by omega)
          go_wp2_with (first
            | (refine wp_load_arr rfl 42 (.tmp 5) rfl (w.heap.size + 1 + 1 + 1) rfl hU 20 3 Try.underlying42 HZo.out ?_)
            | (go_at_call 20; refine (c1.out _).mono ?_; clear c1; rintro e w1 ⟨rfl, hb1⟩; have hU1 := hU.below hb1; have hA1 := hA.below hb1; have hC1 := hC.below hb1; have hO1 := hO.below hb1; have hB1 := xtrans hB hb1)
            | (refine wp_store_arr rfl 42 (.tmp 5) (.tmp 14) rfl (w.heap.size + 1 + 1 + 1) rfl hU1 rfl HZd.out HLd.out ?_; intro w2 hU2 hg2; have hA2 := hA1.grown hg2 (ne_some (by omega)); have hC2 := hC1.grown hg2 (ne_some (by omega)); have hO2 := hO1.grown hg2 (ne_some (by omega)); have hB2 := gbelow hB1 hg2 (by omega); have hcell := hC2.cell j (by rw [hb.1]; omega); rw [← HV.out] at hcell)
            | fail)
          exact ⟨⟨(n : Int) - 1, by omega, by omega, rfl, by rw [HM.out]; exact hU2, hA2, hC2, hO2, hB2⟩, by simp [intOf] <;> omega⟩
        · have ek : (n : Int) % 8 = 7 := ek
          simp only [Nat.reducePow] at hb1t
          have hbit : ((v : Int) / 128 % 2 == 1) = false := beq_eq_false_iff_ne.2 (by omega)
          go_wp2_with (first
            | (refine wp_load_arr rfl 42 (.tmp 5) rfl (w.heap.size + 1 + 1 + 1) rfl hU 20 3 Try.underlying42 HZo.out ?_)
            | (go_at_call 20; refine (c1.out _).mono ?_; clear c1; rintro e w1 ⟨rfl, hb1⟩; have hU1 := hU.below hb1; have hA1 := hA.below hb1; have hC1 := hC.below hb1; have hO1 := hO.below hb1; have hB1 := xtrans hB hb1)
            | (refine wp_store_arr rfl 42 (.tmp 5) (.tmp 14) rfl (w.heap.size + 1 + 1 + 1) rfl hU1 rfl HZd.out HLd.out ?_; intro w2 hU2 hg2; have hA2 := hA1.grown hg2 (ne_some (by omega)); have hC2 := hC1.grown hg2 (ne_some (by omega)); have hO2 := hO1.grown hg2 (ne_some (by omega)); have hB2 := gbelow hB1 hg2 (by omega); have hcell := hC2.cell j (by rw [hb.1]; omega); rw [← HV.out] at hcell)
            | fail)
          exact ⟨⟨(n : Int) - 1, by omega, by omega, rfl, by rw [HM.out]; exact hU2, hA2, hC2, hO2, hB2⟩, by simp [intOf] <;> omega⟩
    · obtain rfl : z = -1 := by omega
      rw [HEND.out] at hU
      have hd := dg_by (le a * le b % PP)
      obtain ⟨ps, hps⟩ : ∃ ps, ps = by_ 20 (le a * le b % PP) := ⟨_, rfl⟩
      rw [← hps] at hU hd
      have HPS := Lib.hid hps
      have HZ1 := Lib.hid (show (Try.prog.info? 42).map (·.size) = some ps.length by rw [hd.1]; kernel_rfl)
      have HZ2 := Lib.hid (show (Try.prog.info? 42).map (·.size) = some (nv .i64 ps).toArray.size by simp only [List.size_toArray, nv_length]; rw [hd.1]; kernel_rfl)
      have HZ3 := Lib.hid (show (List.replicate 20 0).length = ps.length by rw [hd.1]; rfl)
      clear hps hd hla
      go_wp2_with (first
        | (refine wp_load_arr rfl 42 (.tmp 5) rfl (w.heap.size + 1 + 1 + 1) rfl hU 20 3 Try.underlying42 HZ1.out ?_)
        | (refine wp_store_arr rfl 42 (.tmp 4) (.tmp 28) rfl (w.heap.size + 1 + 1) rfl hO rfl HZ1.out HZ3.out ?_; intro W9 hO9 hg9)
        | fail)
      exact bodyPost_ret (results_cell_row rfl _ _ (w.heap.size + 1 + 1) 42 (nv .i64 ps).toArray (0, 0) _ rfl hO9 Try.underlying42 rfl HZ2.out) rfl ⟨by rw [HPS.out], gbelow hB hg9 (by omega)⟩
end Go.Proofs.Ytgfmglgibfhimaa.Po
