/- The document's clamp. -/
import Derived.Test.YtgfmglgibfhimaaPrW3
import Derived.Test.YtgfmglgibfhimaaPoW6
namespace Go.Proofs.Ytgfmglgibfhimaa.Po
open Go.RowKit

def cr (h : List Nat) (n : Nat) : List Nat := (List.range n).map (fun i => clampB i (h.getD i 0)) ++ h.drop n
theorem cr_zero (h : List Nat) : cr h 0 = h := by simp [cr]
theorem cr_succ (h : List Nat) (i : Nat) (hi : i < h.length) : (cr h i).set i (clampB i (h.getD i 0)) = cr h (i + 1) := mapN_set (fun i => clampB i (h.getD i 0)) h i hi
theorem cr_get (h : List Nat) (i : Nat) (hi : i < h.length) : (cr h i).getD i 0 = h.getD i 0 := mapN_get _ h i hi
theorem cr_length (h : List Nat) (i : Nat) (hi : i ≤ h.length) : (cr h i).length = h.length := by simp [cr]; omega
theorem cr_end (h : List Nat) (hl : h.length = 16) : cr h 16 = clamp h := by unfold cr clamp; rw [List.drop_of_length_le (by omega), List.append_nil]
theorem clampB_3 (i x : Nat) (h : i % 4 = 3) : clampB i x = x % 16 := by unfold clampB; rw [if_pos h]
theorem clampB_0 (i x : Nat) (h : i % 4 = 0) (h0 : 0 < i) : clampB i x = x / 4 * 4 := by unfold clampB; rw [if_neg (by omega), if_pos ⟨h, h0⟩]
theorem clampB_e (i x : Nat) (h : i % 4 ≠ 3) (h0 : ¬ (i % 4 = 0 ∧ 0 < i)) : clampB i x = x := by unfold clampB; rw [if_neg h, if_neg h0]
theorem set_self (l : List Nat) (i : Nat) (h : i < l.length) : l.set i (l.getD i 0) = l := by
  rw [List.getD_eq_getElem?_getD, List.getElem?_eq_getElem h]; simp

set_option maxHeartbeats 1000000 in
theorem rClamp_any (w : World) (h : List Nat) (hl : h.length = 16) (hb : ∀ x ∈ h, x < 256) :
    Calls Try.prog 12 #[.agg (bv h).toArray] w fun e w' => e = .returned (.agg (bv (clamp h)).toArray) ∧ Below w.heap.size w w' := by
  rw [← cr_end h hl]
  go_enter Try.func12, Try.ntmps12
  go_wp2_with fail
  refine at_world (fun W => Blk W w.heap.size 23 .u8 (cr h 0) ∧ Blk W (w.heap.size + 1) 23 .u8 (List.replicate 16 0) ∧ Below w.heap.size w W) ?_ ?_
  · rw [cr_zero]
    refine ⟨(Blk.new w _ _ h _ rfl).alloc _, ?_, xalloc (xnew _ _) _⟩
    have := Blk.new (w.alloc (.cells (nv .u8 h).toArray 23)) 23 .u8 (List.replicate 16 0) _ rfl
    rw [World.size_alloc] at this
    exact this
  rintro W ⟨hN, hO, hB⟩
  go_loopw [3] (fun r wr => ∃ k : Nat, k ≤ 16 ∧ r = .int .i64 k ∧ Blk wr w.heap.size 23 .u8 (cr h k) ∧ Blk wr (w.heap.size + 1) 23 .u8 (List.replicate 16 0) ∧ Below w.heap.size w wr) (fun r _ => 16 - (intOf r).toNat)
  case atStart => exact ⟨0, by decide, rfl, hN, hO, hB⟩
  case round =>
    clear hN hO hB
    obtain ⟨k, hk4, rfl, hN, hO, hB⟩ := hrel
    by_cases hlt : k < 16
    · have hll := cr_length h k (by omega)
      rw [hl] at hll
      have hc := hN.cell k (by omega)
      rw [cr_get h k (by omega)] at hc
      have hf := hN.frozen k
      have hx := getD_lt h hb k
      have HS := cr_succ h k (by omega)
      have hse := set_self (cr h k) k (by omega)
      rw [cr_get h k (by omega)] at hse
      obtain ⟨x, hx0⟩ : ∃ x, x = h.getD k 0 := ⟨_, rfl⟩
      rw [← hx0] at hc hx HS hse
      obtain ⟨hs, hhs⟩ : ∃ hs, hs = cr h k := ⟨_, rfl⟩
      rw [← hhs] at hN HS hse
      obtain ⟨hs2, hhs2⟩ : ∃ hs2, hs2 = cr h (k + 1) := ⟨_, rfl⟩
      rw [← hhs2] at HS
      have HQ := Lib.hid hhs2
      clear hhs hhs2 hx0 hll
      have hk16 : (k : Int) < 16 := by omega
      have hkd : decide ((k : Int) < 16) = true := decide_eq_true (by omega)
      by_cases m3 : k % 4 = 3
      · rw [clampB_3 k x m3] at HS
        have hfin := hN.set k (x % 16)
        rw [HS] at hfin
        go_wp2_with fail
        exact ⟨⟨k + 1, by omega, by go_num, by rw [← HQ.out]; exact hfin, hO.other _ _ (by show w.heap.size + 1 ≠ w.heap.size; omega), xset hB (Nat.le_refl _) _⟩, by simp [intOf]; omega⟩
      · by_cases m0 : k % 4 = 0 ∧ 0 < k
        · rw [clampB_0 k x m0.1 m0.2] at HS
          obtain ⟨m1, m2⟩ := m0
          have hfin := hN.set k (x / 4 * 4)
          rw [HS] at hfin
          have hy : ((x / 4 * 4 : Nat) : Int) = (x : Int) / 4 * 4 := by omega
          rw [hy] at hfin
          clear hy HS hse m3
          have hkp : (0 : Int) < (k : Int) := by omega
          have hk4 : (k : Int) % 4 = 0 := by omega
          go_wp2_with fail
          all_goals exact ⟨⟨k + 1, by omega, by go_num, by rw [← HQ.out]; exact hfin, hO.other _ _ (by show w.heap.size + 1 ≠ w.heap.size; omega), xset hB (Nat.le_refl _) _⟩, by simp [intOf]; omega⟩
        · rw [clampB_e k x m3 m0, hse] at HS
          rw [HS] at hN
          rcases (show k % 4 ≠ 0 ∨ k = 0 from by omega) with m1 | rfl
          · go_wp2_with fail
            all_goals exact ⟨⟨k + 1, by omega, by go_num, by rw [← HQ.out]; exact hN, hO, hB⟩, by simp [intOf]; omega⟩
          · rw [show ((0 : Nat) : Int) = 0 from rfl]
            go_wp2_with fail
            all_goals exact ⟨⟨1, by omega, by go_num, by rw [← HQ.out]; exact hN, hO, hB⟩, by simp [intOf]⟩
    · obtain rfl : k = 16 := by omega
      obtain ⟨f, hf⟩ : ∃ f, f = cr h 16 := ⟨_, rfl⟩
      rw [← hf] at hN
      have HF := Lib.hid hf
      have hfl : f.length = 16 := by rw [hf, cr_length h 16 (by omega), hl]
      have HZ := Lib.hid (show (Try.prog.info? 23).map (·.size) = some f.length by rw [hfl]; kernel_rfl)
      have HZ2 := Lib.hid (show (Try.prog.info? 23).map (·.size) = some (nv .u8 f).toArray.size by simp only [List.size_toArray, nv_length]; rw [hfl]; kernel_rfl)
      have HS2 := Lib.hid (show (List.replicate 16 0).length = f.length by rw [hfl]; rfl)
      clear hf hfl
      rw [show ((16 : Nat) : Int) = 16 from rfl]
      go_wp2_with (first
        | (refine wp_load_arr rfl 23 (.tmp 1) rfl w.heap.size rfl hN 16 5 Try.underlying23 HZ.out ?_)
        | (refine wp_store_arr rfl 23 (.tmp 2) (.tmp 31) rfl (w.heap.size + 1) rfl hO rfl HZ.out HS2.out ?_; intro W9 hO9 hg9)
        | fail)
      exact bodyPost_ret (results_cell_row rfl _ _ (w.heap.size + 1) 23 (nv .u8 f).toArray (0, 0) _ rfl hO9 Try.underlying23 rfl HZ2.out) rfl ⟨by rw [HF.out]; rfl, gbelow hB hg9 (by omega)⟩
end Go.Proofs.Ytgfmglgibfhimaa.Po
