/- The walk of 'of': the limbs of up to seventeen bytes. -/
import Derived.Test.YtgfmglgibfhimaaPoW1
import Derived.Test.YtgfmglgibfhimaaPoLimb
import Derived.BigRegion
import Derived.WalkSmall
namespace Go.Proofs.Ytgfmglgibfhimaa.Po
set_option linter.unusedSimpArgs false
set_option linter.unusedVariables false
open Go.RowKit

theorem or64 (l m n : Nat) (hl : l < 2 ^ n) (hm : m % 2 ^ n = 0) (hs : l + m < 18446744073709551616) : bits .or .u64 (l : Int) (m : Int) = ((l + m : Nat) : Int) := by
  obtain ⟨c, rfl⟩ : ∃ c, m = c * 2 ^ n := ⟨m / 2 ^ n, (Nat.div_mul_cancel (Nat.dvd_of_mod_eq_zero hm)).symm⟩
  rw [bits_or .u64 rfl _ _ (by omega) (by show (l : Int) < 18446744073709551616; omega) (by omega) (by show ((c * 2 ^ n : Nat) : Int) < 18446744073709551616; omega), Int.toNat_natCast, Int.toNat_natCast, Nat.or_comm, or_add _ _ _ hl, Nat.add_comm]
theorem or64z (x q : Nat) (hx : x < 256) : bits .or .u64 0 ((x : Int) / (q : Int)) = ((x / q : Nat) : Int) := by
  have e : (x : Int) / (q : Int) = ((x / q : Nat) : Int) := rfl
  have h : x / q < 256 := Nat.lt_of_le_of_lt (Nat.div_le_self _ _) hx
  rw [e]
  generalize x / q = y at h
  rw [bits_or .u64 rfl _ _ (by omega) (by decide) (by omega) (by show (y : Int) < 18446744073709551616; omega)]
  simp

set_option maxHeartbeats 4000000 in
theorem of_any (w : World) (a : Option Addr) (len cap : Nat) (bs : List Nat) (hr : RdB w a len cap bs) (h17 : len ≤ 17) (hlast : 16 < len → bs.getD 16 0 < 4) :
    Calls Try.prog 14 #[.slice a len cap] w fun e w' => e = .returned (.agg (nv .u64 (limbs (le bs))).toArray) ∧ Below w.heap.size w w' := by
  obtain ⟨_, k1, k2, k3, hb, _, k6⟩ := hr
  rw [← leN_all bs, k1]
  go_enter Try.func14, Try.ntmps14
  go_wp2_with fail
  refine at_world (fun W => Blk W w.heap.size 34 .u64 (limbs (leN bs 0)) ∧ Below w.heap.size w W) ⟨by rw [leN_zero, limbs_def]; exact Blk.new w _ _ [0, 0, 0, 0, 0] _ rfl, xnew _ _⟩ ?_
  rintro W ⟨hB0, hBe0⟩
  go_loopw [9] (fun r wr => ∃ i : Nat, i ≤ len ∧ r = .int .i64 i ∧ Blk wr w.heap.size 34 .u64 (limbs (leN bs i)) ∧ Below w.heap.size w wr) (fun r _ => len - (intOf r).toNat)
  case atStart => exact ⟨0, by omega, rfl, hB0, hBe0⟩
  case round =>
    clear hB0 hBe0
    obtain ⟨i, hil, rfl, hB, hBe⟩ := hrel
    by_cases hlt : i < len
    · rcases k6 with k6 | ⟨b, off, rfl, hblt, hc⟩
      · omega
      have hci := (hBe.cell (p := ⟨b, off + i, none⟩) hblt).trans (hc i hlt)
      have hx := getD_u8 hb i
      obtain ⟨x, hx0⟩ : ∃ x, x = bs.getD i 0 := ⟨_, rfl⟩
      rw [← hx0] at hci hx
      clear hc
      rcases (show i = 0 ∨ i = 1 ∨ i = 2 ∨ i = 3 ∨ i = 4 ∨ i = 5 ∨ i = 6 ∨ i = 7 ∨ i = 8 ∨ i = 9 ∨ i = 10 ∨ i = 11 ∨ i = 12 ∨ i = 13 ∨ i = 14 ∨ i = 15 ∨ i = 16 from by omega) with rfl | rfl | rfl | rfl | rfl | rfl | rfl | rfl | rfl | rfl | rfl | rfl | rfl | rfl | rfl | rfl | rfl
      · rw [Nat.add_zero] at hci
        have ho := Lib.hid (leN_succ bs 0 (by omega))
        rw [← hx0] at ho
        have hn := leN_lt bs hb 0 (by omega)
        simp only [Nat.reducePow] at ho hn
        generalize leN bs 0 = n at ho hn hB
        have c0 := hB.cell 0 (by rw [limbs_length]; decide)
        have f0 := hB.frozen 0
        obtain ⟨h1, h2⟩ := lst0 n x hn hx
        have hov : x / 67108864 = 0 := by omega
        obtain ⟨l, hl⟩ : ∃ l, l = (limbs n).getD 0 0 := ⟨_, rfl⟩
        rw [← hl] at h1 h2 c0
        obtain ⟨v, hv⟩ : ∃ v, v = l + x * 1 % 67108864 := ⟨_, rfl⟩
        rw [← hv] at h1
        have a1 : bits .and .u64 ((x : Int)) 67108863 = ((x * 1 % 67108864 : Nat) : Int) := by have := and26 (x * 1) (by omega); simpa using this
        have a2 : bits .or .u64 (l : Int) ((x * 1 % 67108864 : Nat) : Int) = (v : Int) := by rw [hv]; exact or64 l _ 0 (by simpa using h2) (by simp only [Nat.reducePow]; omega) (by omega)
        obtain ⟨m, hm⟩ : ∃ m, m = x * 1 % 67108864 := ⟨_, rfl⟩
        rw [← hm] at a1 a2
        have hvb : v < 67108864 * 2 := by omega
        have gt : ¬ (0 : Int) < (x : Int) / 67108864 := by omega
        have hfin := hB.set 0 v
        rw [← h1, ← ho.out] at hfin
        clear hl hv hm h1 h2 ho hx0
        rw [show ((0 : Nat) : Int) = 0 from rfl]
        go_wp2_with fail
        go_region
        all_goals (go_wp2_with fail)
        all_goals exact ⟨⟨1, by omega, rfl, hfin.drewN 1, below_drewN (xset hBe (by show w.heap.size ≤ w.heap.size; omega) _) 1⟩, by simp [intOf]; omega⟩
      · have ho := Lib.hid (leN_succ bs 1 (by omega))
        rw [← hx0] at ho
        have hn := leN_lt bs hb 1 (by omega)
        simp only [Nat.reducePow] at ho hn
        generalize leN bs 1 = n at ho hn hB
        have c0 := hB.cell 0 (by rw [limbs_length]; decide)
        have f0 := hB.frozen 0
        obtain ⟨h1, h2⟩ := lst1 n x hn hx
        have hov : x / 262144 = 0 := by omega
        obtain ⟨l, hl⟩ : ∃ l, l = (limbs n).getD 0 0 := ⟨_, rfl⟩
        rw [← hl] at h1 h2 c0
        obtain ⟨v, hv⟩ : ∃ v, v = l + x * 256 % 67108864 := ⟨_, rfl⟩
        rw [← hv] at h1
        have a1 : bits .and .u64 ((x : Int) * 256) 67108863 = ((x * 256 % 67108864 : Nat) : Int) := by have := and26 (x * 256) (by omega); simpa using this
        have a2 : bits .or .u64 (l : Int) ((x * 256 % 67108864 : Nat) : Int) = (v : Int) := by rw [hv]; exact or64 l _ 8 (by simpa using h2) (by simp only [Nat.reducePow]; omega) (by omega)
        obtain ⟨m, hm⟩ : ∃ m, m = x * 256 % 67108864 := ⟨_, rfl⟩
        rw [← hm] at a1 a2
        have hvb : v < 67108864 * 2 := by omega
        have gt : ¬ (0 : Int) < (x : Int) / 262144 := by omega
        have hfin := hB.set 0 v
        rw [← h1, ← ho.out] at hfin
        clear hl hv hm h1 h2 ho hx0
        rw [show ((1 : Nat) : Int) = 1 from rfl]
        go_wp2_with fail
        go_region
        all_goals (go_wp2_with fail)
        all_goals exact ⟨⟨2, by omega, rfl, hfin.drewN 1, below_drewN (xset hBe (by show w.heap.size ≤ w.heap.size; omega) _) 1⟩, by simp [intOf]; omega⟩
      · have ho := Lib.hid (leN_succ bs 2 (by omega))
        rw [← hx0] at ho
        have hn := leN_lt bs hb 2 (by omega)
        simp only [Nat.reducePow] at ho hn
        generalize leN bs 2 = n at ho hn hB
        have c0 := hB.cell 0 (by rw [limbs_length]; decide)
        have f0 := hB.frozen 0
        obtain ⟨h1, h2⟩ := lst2 n x hn hx
        have hov : x / 1024 = 0 := by omega
        obtain ⟨l, hl⟩ : ∃ l, l = (limbs n).getD 0 0 := ⟨_, rfl⟩
        rw [← hl] at h1 h2 c0
        obtain ⟨v, hv⟩ : ∃ v, v = l + x * 65536 % 67108864 := ⟨_, rfl⟩
        rw [← hv] at h1
        have a1 : bits .and .u64 ((x : Int) * 65536) 67108863 = ((x * 65536 % 67108864 : Nat) : Int) := by have := and26 (x * 65536) (by omega); simpa using this
        have a2 : bits .or .u64 (l : Int) ((x * 65536 % 67108864 : Nat) : Int) = (v : Int) := by rw [hv]; exact or64 l _ 16 (by simpa using h2) (by simp only [Nat.reducePow]; omega) (by omega)
        obtain ⟨m, hm⟩ : ∃ m, m = x * 65536 % 67108864 := ⟨_, rfl⟩
        rw [← hm] at a1 a2
        have hvb : v < 67108864 * 2 := by omega
        have gt : ¬ (0 : Int) < (x : Int) / 1024 := by omega
        have hfin := hB.set 0 v
        rw [← h1, ← ho.out] at hfin
        clear hl hv hm h1 h2 ho hx0
        rw [show ((2 : Nat) : Int) = 2 from rfl]
        go_wp2_with fail
        go_region
        all_goals (go_wp2_with fail)
        all_goals exact ⟨⟨3, by omega, rfl, hfin.drewN 1, below_drewN (xset hBe (by show w.heap.size ≤ w.heap.size; omega) _) 1⟩, by simp [intOf]; omega⟩
      · have ho := Lib.hid (leN_succ bs 3 (by omega))
        rw [← hx0] at ho
        have hn := leN_lt bs hb 3 (by omega)
        simp only [Nat.reducePow] at ho hn
        generalize leN bs 3 = n at ho hn hB
        have c0 := hB.cell 0 (by rw [limbs_length]; decide)
        have f0 := hB.frozen 0
        by_cases hov : x / 4 = 0
        · obtain ⟨h1, h2⟩ := lst3 n x hn hx hov
          obtain ⟨l, hl⟩ : ∃ l, l = (limbs n).getD 0 0 := ⟨_, rfl⟩
          rw [← hl] at h1 h2 c0
          obtain ⟨v, hv⟩ : ∃ v, v = l + x * 16777216 % 67108864 := ⟨_, rfl⟩
          rw [← hv] at h1
          have a1 : bits .and .u64 ((x : Int) * 16777216) 67108863 = ((x * 16777216 % 67108864 : Nat) : Int) := by have := and26 (x * 16777216) (by omega); simpa using this
          have a2 : bits .or .u64 (l : Int) ((x * 16777216 % 67108864 : Nat) : Int) = (v : Int) := by rw [hv]; exact or64 l _ 24 (by simpa using h2) (by simp only [Nat.reducePow]; omega) (by omega)
          obtain ⟨m, hm⟩ : ∃ m, m = x * 16777216 % 67108864 := ⟨_, rfl⟩
          rw [← hm] at a1 a2
          have hvb : v < 67108864 * 2 := by omega
          have gt : ¬ (0 : Int) < (x : Int) / 4 := by omega
          have hfin := hB.set 0 v
          rw [← h1, ← ho.out] at hfin
          clear hl hv hm h1 h2 ho hx0
          rw [show ((3 : Nat) : Int) = 3 from rfl]
          go_wp2_with fail
          go_region
          all_goals (go_wp2_with fail)
          all_goals exact ⟨⟨4, by omega, rfl, hfin.drewN 1, below_drewN (xset hBe (by show w.heap.size ≤ w.heap.size; omega) _) 1⟩, by simp [intOf]; omega⟩
        · obtain ⟨h1, h2, h3⟩ := lst3_o n x hn hx
          obtain ⟨l, hl⟩ : ∃ l, l = (limbs n).getD 0 0 := ⟨_, rfl⟩
          rw [← hl] at h1 h2 c0
          obtain ⟨v, hv⟩ : ∃ v, v = l + x * 16777216 % 67108864 := ⟨_, rfl⟩
          rw [← hv] at h1
          have a1 : bits .and .u64 ((x : Int) * 16777216) 67108863 = ((x * 16777216 % 67108864 : Nat) : Int) := by have := and26 (x * 16777216) (by omega); simpa using this
          have a2 : bits .or .u64 (l : Int) ((x * 16777216 % 67108864 : Nat) : Int) = (v : Int) := by rw [hv]; exact or64 l _ 24 (by simpa using h2) (by simp only [Nat.reducePow]; omega) (by omega)
          obtain ⟨m, hm⟩ : ∃ m, m = x * 16777216 % 67108864 := ⟨_, rfl⟩
          rw [← hm] at a1 a2
          have hvb : v < 67108864 * 2 := by omega
          have gt : (0 : Int) < (x : Int) / 4 := by omega
          have c1 := hB.cell 1 (by rw [limbs_length]; decide)
          have f1 := hB.frozen 1
          rw [h3] at c1
          have a3 : bits .or .u64 0 ((x : Int) / 4) = ((x / 4 : Nat) : Int) := or64z x 4 (by omega)
          have hfin := (hB.set 0 v).set 1 (x / 4)
          rw [← h1, ← ho.out] at hfin
          clear hl hv hm h1 h2 ho hx0
          rw [show ((3 : Nat) : Int) = 3 from rfl]
          go_wp2_with fail
          go_region
          all_goals (go_wp2_with fail)
          all_goals exact ⟨⟨4, by omega, rfl, hfin.drewN 1, below_drewN (xset (xset hBe (by show w.heap.size ≤ w.heap.size; omega) _) (by show w.heap.size ≤ w.heap.size; omega) _) 1⟩, by simp [intOf]; omega⟩
      · have ho := Lib.hid (leN_succ bs 4 (by omega))
        rw [← hx0] at ho
        have hn := leN_lt bs hb 4 (by omega)
        simp only [Nat.reducePow] at ho hn
        generalize leN bs 4 = n at ho hn hB
        have c0 := hB.cell 1 (by rw [limbs_length]; decide)
        have f0 := hB.frozen 1
        obtain ⟨h1, h2⟩ := lst4 n x hn hx
        have hov : x / 1048576 = 0 := by omega
        obtain ⟨l, hl⟩ : ∃ l, l = (limbs n).getD 1 0 := ⟨_, rfl⟩
        rw [← hl] at h1 h2 c0
        obtain ⟨v, hv⟩ : ∃ v, v = l + x * 64 % 67108864 := ⟨_, rfl⟩
        rw [← hv] at h1
        have a1 : bits .and .u64 ((x : Int) * 64) 67108863 = ((x * 64 % 67108864 : Nat) : Int) := by have := and26 (x * 64) (by omega); simpa using this
        have a2 : bits .or .u64 (l : Int) ((x * 64 % 67108864 : Nat) : Int) = (v : Int) := by rw [hv]; exact or64 l _ 6 (by simpa using h2) (by simp only [Nat.reducePow]; omega) (by omega)
        obtain ⟨m, hm⟩ : ∃ m, m = x * 64 % 67108864 := ⟨_, rfl⟩
        rw [← hm] at a1 a2
        have hvb : v < 67108864 * 2 := by omega
        have gt : ¬ (0 : Int) < (x : Int) / 1048576 := by omega
        have hfin := hB.set 1 v
        rw [← h1, ← ho.out] at hfin
        clear hl hv hm h1 h2 ho hx0
        rw [show ((4 : Nat) : Int) = 4 from rfl]
        go_wp2_with fail
        go_region
        all_goals (go_wp2_with fail)
        all_goals exact ⟨⟨5, by omega, rfl, hfin.drewN 1, below_drewN (xset hBe (by show w.heap.size ≤ w.heap.size; omega) _) 1⟩, by simp [intOf]; omega⟩
      · have ho := Lib.hid (leN_succ bs 5 (by omega))
        rw [← hx0] at ho
        have hn := leN_lt bs hb 5 (by omega)
        simp only [Nat.reducePow] at ho hn
        generalize leN bs 5 = n at ho hn hB
        have c0 := hB.cell 1 (by rw [limbs_length]; decide)
        have f0 := hB.frozen 1
        obtain ⟨h1, h2⟩ := lst5 n x hn hx
        have hov : x / 4096 = 0 := by omega
        obtain ⟨l, hl⟩ : ∃ l, l = (limbs n).getD 1 0 := ⟨_, rfl⟩
        rw [← hl] at h1 h2 c0
        obtain ⟨v, hv⟩ : ∃ v, v = l + x * 16384 % 67108864 := ⟨_, rfl⟩
        rw [← hv] at h1
        have a1 : bits .and .u64 ((x : Int) * 16384) 67108863 = ((x * 16384 % 67108864 : Nat) : Int) := by have := and26 (x * 16384) (by omega); simpa using this
        have a2 : bits .or .u64 (l : Int) ((x * 16384 % 67108864 : Nat) : Int) = (v : Int) := by rw [hv]; exact or64 l _ 14 (by simpa using h2) (by simp only [Nat.reducePow]; omega) (by omega)
        obtain ⟨m, hm⟩ : ∃ m, m = x * 16384 % 67108864 := ⟨_, rfl⟩
        rw [← hm] at a1 a2
        have hvb : v < 67108864 * 2 := by omega
        have gt : ¬ (0 : Int) < (x : Int) / 4096 := by omega
        have hfin := hB.set 1 v
        rw [← h1, ← ho.out] at hfin
        clear hl hv hm h1 h2 ho hx0
        rw [show ((5 : Nat) : Int) = 5 from rfl]
        go_wp2_with fail
        go_region
        all_goals (go_wp2_with fail)
        all_goals exact ⟨⟨6, by omega, rfl, hfin.drewN 1, below_drewN (xset hBe (by show w.heap.size ≤ w.heap.size; omega) _) 1⟩, by simp [intOf]; omega⟩
      · have ho := Lib.hid (leN_succ bs 6 (by omega))
        rw [← hx0] at ho
        have hn := leN_lt bs hb 6 (by omega)
        simp only [Nat.reducePow] at ho hn
        generalize leN bs 6 = n at ho hn hB
        have c0 := hB.cell 1 (by rw [limbs_length]; decide)
        have f0 := hB.frozen 1
        by_cases hov : x / 16 = 0
        · obtain ⟨h1, h2⟩ := lst6 n x hn hx hov
          obtain ⟨l, hl⟩ : ∃ l, l = (limbs n).getD 1 0 := ⟨_, rfl⟩
          rw [← hl] at h1 h2 c0
          obtain ⟨v, hv⟩ : ∃ v, v = l + x * 4194304 % 67108864 := ⟨_, rfl⟩
          rw [← hv] at h1
          have a1 : bits .and .u64 ((x : Int) * 4194304) 67108863 = ((x * 4194304 % 67108864 : Nat) : Int) := by have := and26 (x * 4194304) (by omega); simpa using this
          have a2 : bits .or .u64 (l : Int) ((x * 4194304 % 67108864 : Nat) : Int) = (v : Int) := by rw [hv]; exact or64 l _ 22 (by simpa using h2) (by simp only [Nat.reducePow]; omega) (by omega)
          obtain ⟨m, hm⟩ : ∃ m, m = x * 4194304 % 67108864 := ⟨_, rfl⟩
          rw [← hm] at a1 a2
          have hvb : v < 67108864 * 2 := by omega
          have gt : ¬ (0 : Int) < (x : Int) / 16 := by omega
          have hfin := hB.set 1 v
          rw [← h1, ← ho.out] at hfin
          clear hl hv hm h1 h2 ho hx0
          rw [show ((6 : Nat) : Int) = 6 from rfl]
          go_wp2_with fail
          go_region
          all_goals (go_wp2_with fail)
          all_goals exact ⟨⟨7, by omega, rfl, hfin.drewN 1, below_drewN (xset hBe (by show w.heap.size ≤ w.heap.size; omega) _) 1⟩, by simp [intOf]; omega⟩
        · obtain ⟨h1, h2, h3⟩ := lst6_o n x hn hx
          obtain ⟨l, hl⟩ : ∃ l, l = (limbs n).getD 1 0 := ⟨_, rfl⟩
          rw [← hl] at h1 h2 c0
          obtain ⟨v, hv⟩ : ∃ v, v = l + x * 4194304 % 67108864 := ⟨_, rfl⟩
          rw [← hv] at h1
          have a1 : bits .and .u64 ((x : Int) * 4194304) 67108863 = ((x * 4194304 % 67108864 : Nat) : Int) := by have := and26 (x * 4194304) (by omega); simpa using this
          have a2 : bits .or .u64 (l : Int) ((x * 4194304 % 67108864 : Nat) : Int) = (v : Int) := by rw [hv]; exact or64 l _ 22 (by simpa using h2) (by simp only [Nat.reducePow]; omega) (by omega)
          obtain ⟨m, hm⟩ : ∃ m, m = x * 4194304 % 67108864 := ⟨_, rfl⟩
          rw [← hm] at a1 a2
          have hvb : v < 67108864 * 2 := by omega
          have gt : (0 : Int) < (x : Int) / 16 := by omega
          have c1 := hB.cell 2 (by rw [limbs_length]; decide)
          have f1 := hB.frozen 2
          rw [h3] at c1
          have a3 : bits .or .u64 0 ((x : Int) / 16) = ((x / 16 : Nat) : Int) := or64z x 16 (by omega)
          have hfin := (hB.set 1 v).set 2 (x / 16)
          rw [← h1, ← ho.out] at hfin
          clear hl hv hm h1 h2 ho hx0
          rw [show ((6 : Nat) : Int) = 6 from rfl]
          go_wp2_with fail
          go_region
          all_goals (go_wp2_with fail)
          all_goals exact ⟨⟨7, by omega, rfl, hfin.drewN 1, below_drewN (xset (xset hBe (by show w.heap.size ≤ w.heap.size; omega) _) (by show w.heap.size ≤ w.heap.size; omega) _) 1⟩, by simp [intOf]; omega⟩
      · have ho := Lib.hid (leN_succ bs 7 (by omega))
        rw [← hx0] at ho
        have hn := leN_lt bs hb 7 (by omega)
        simp only [Nat.reducePow] at ho hn
        generalize leN bs 7 = n at ho hn hB
        have c0 := hB.cell 2 (by rw [limbs_length]; decide)
        have f0 := hB.frozen 2
        obtain ⟨h1, h2⟩ := lst7 n x hn hx
        have hov : x / 4194304 = 0 := by omega
        obtain ⟨l, hl⟩ : ∃ l, l = (limbs n).getD 2 0 := ⟨_, rfl⟩
        rw [← hl] at h1 h2 c0
        obtain ⟨v, hv⟩ : ∃ v, v = l + x * 16 % 67108864 := ⟨_, rfl⟩
        rw [← hv] at h1
        have a1 : bits .and .u64 ((x : Int) * 16) 67108863 = ((x * 16 % 67108864 : Nat) : Int) := by have := and26 (x * 16) (by omega); simpa using this
        have a2 : bits .or .u64 (l : Int) ((x * 16 % 67108864 : Nat) : Int) = (v : Int) := by rw [hv]; exact or64 l _ 4 (by simpa using h2) (by simp only [Nat.reducePow]; omega) (by omega)
        obtain ⟨m, hm⟩ : ∃ m, m = x * 16 % 67108864 := ⟨_, rfl⟩
        rw [← hm] at a1 a2
        have hvb : v < 67108864 * 2 := by omega
        have gt : ¬ (0 : Int) < (x : Int) / 4194304 := by omega
        have hfin := hB.set 2 v
        rw [← h1, ← ho.out] at hfin
        clear hl hv hm h1 h2 ho hx0
        rw [show ((7 : Nat) : Int) = 7 from rfl]
        go_wp2_with fail
        go_region
        all_goals (go_wp2_with fail)
        all_goals exact ⟨⟨8, by omega, rfl, hfin.drewN 1, below_drewN (xset hBe (by show w.heap.size ≤ w.heap.size; omega) _) 1⟩, by simp [intOf]; omega⟩
      · have ho := Lib.hid (leN_succ bs 8 (by omega))
        rw [← hx0] at ho
        have hn := leN_lt bs hb 8 (by omega)
        simp only [Nat.reducePow] at ho hn
        generalize leN bs 8 = n at ho hn hB
        have c0 := hB.cell 2 (by rw [limbs_length]; decide)
        have f0 := hB.frozen 2
        obtain ⟨h1, h2⟩ := lst8 n x hn hx
        have hov : x / 16384 = 0 := by omega
        obtain ⟨l, hl⟩ : ∃ l, l = (limbs n).getD 2 0 := ⟨_, rfl⟩
        rw [← hl] at h1 h2 c0
        obtain ⟨v, hv⟩ : ∃ v, v = l + x * 4096 % 67108864 := ⟨_, rfl⟩
        rw [← hv] at h1
        have a1 : bits .and .u64 ((x : Int) * 4096) 67108863 = ((x * 4096 % 67108864 : Nat) : Int) := by have := and26 (x * 4096) (by omega); simpa using this
        have a2 : bits .or .u64 (l : Int) ((x * 4096 % 67108864 : Nat) : Int) = (v : Int) := by rw [hv]; exact or64 l _ 12 (by simpa using h2) (by simp only [Nat.reducePow]; omega) (by omega)
        obtain ⟨m, hm⟩ : ∃ m, m = x * 4096 % 67108864 := ⟨_, rfl⟩
        rw [← hm] at a1 a2
        have hvb : v < 67108864 * 2 := by omega
        have gt : ¬ (0 : Int) < (x : Int) / 16384 := by omega
        have hfin := hB.set 2 v
        rw [← h1, ← ho.out] at hfin
        clear hl hv hm h1 h2 ho hx0
        rw [show ((8 : Nat) : Int) = 8 from rfl]
        go_wp2_with fail
        go_region
        all_goals (go_wp2_with fail)
        all_goals exact ⟨⟨9, by omega, rfl, hfin.drewN 1, below_drewN (xset hBe (by show w.heap.size ≤ w.heap.size; omega) _) 1⟩, by simp [intOf]; omega⟩
      · have ho := Lib.hid (leN_succ bs 9 (by omega))
        rw [← hx0] at ho
        have hn := leN_lt bs hb 9 (by omega)
        simp only [Nat.reducePow] at ho hn
        generalize leN bs 9 = n at ho hn hB
        have c0 := hB.cell 2 (by rw [limbs_length]; decide)
        have f0 := hB.frozen 2
        by_cases hov : x / 64 = 0
        · obtain ⟨h1, h2⟩ := lst9 n x hn hx hov
          obtain ⟨l, hl⟩ : ∃ l, l = (limbs n).getD 2 0 := ⟨_, rfl⟩
          rw [← hl] at h1 h2 c0
          obtain ⟨v, hv⟩ : ∃ v, v = l + x * 1048576 % 67108864 := ⟨_, rfl⟩
          rw [← hv] at h1
          have a1 : bits .and .u64 ((x : Int) * 1048576) 67108863 = ((x * 1048576 % 67108864 : Nat) : Int) := by have := and26 (x * 1048576) (by omega); simpa using this
          have a2 : bits .or .u64 (l : Int) ((x * 1048576 % 67108864 : Nat) : Int) = (v : Int) := by rw [hv]; exact or64 l _ 20 (by simpa using h2) (by simp only [Nat.reducePow]; omega) (by omega)
          obtain ⟨m, hm⟩ : ∃ m, m = x * 1048576 % 67108864 := ⟨_, rfl⟩
          rw [← hm] at a1 a2
          have hvb : v < 67108864 * 2 := by omega
          have gt : ¬ (0 : Int) < (x : Int) / 64 := by omega
          have hfin := hB.set 2 v
          rw [← h1, ← ho.out] at hfin
          clear hl hv hm h1 h2 ho hx0
          rw [show ((9 : Nat) : Int) = 9 from rfl]
          go_wp2_with fail
          go_region
          all_goals (go_wp2_with fail)
          all_goals exact ⟨⟨10, by omega, rfl, hfin.drewN 1, below_drewN (xset hBe (by show w.heap.size ≤ w.heap.size; omega) _) 1⟩, by simp [intOf]; omega⟩
        · obtain ⟨h1, h2, h3⟩ := lst9_o n x hn hx
          obtain ⟨l, hl⟩ : ∃ l, l = (limbs n).getD 2 0 := ⟨_, rfl⟩
          rw [← hl] at h1 h2 c0
          obtain ⟨v, hv⟩ : ∃ v, v = l + x * 1048576 % 67108864 := ⟨_, rfl⟩
          rw [← hv] at h1
          have a1 : bits .and .u64 ((x : Int) * 1048576) 67108863 = ((x * 1048576 % 67108864 : Nat) : Int) := by have := and26 (x * 1048576) (by omega); simpa using this
          have a2 : bits .or .u64 (l : Int) ((x * 1048576 % 67108864 : Nat) : Int) = (v : Int) := by rw [hv]; exact or64 l _ 20 (by simpa using h2) (by simp only [Nat.reducePow]; omega) (by omega)
          obtain ⟨m, hm⟩ : ∃ m, m = x * 1048576 % 67108864 := ⟨_, rfl⟩
          rw [← hm] at a1 a2
          have hvb : v < 67108864 * 2 := by omega
          have gt : (0 : Int) < (x : Int) / 64 := by omega
          have c1 := hB.cell 3 (by rw [limbs_length]; decide)
          have f1 := hB.frozen 3
          rw [h3] at c1
          have a3 : bits .or .u64 0 ((x : Int) / 64) = ((x / 64 : Nat) : Int) := or64z x 64 (by omega)
          have hfin := (hB.set 2 v).set 3 (x / 64)
          rw [← h1, ← ho.out] at hfin
          clear hl hv hm h1 h2 ho hx0
          rw [show ((9 : Nat) : Int) = 9 from rfl]
          go_wp2_with fail
          go_region
          all_goals (go_wp2_with fail)
          all_goals exact ⟨⟨10, by omega, rfl, hfin.drewN 1, below_drewN (xset (xset hBe (by show w.heap.size ≤ w.heap.size; omega) _) (by show w.heap.size ≤ w.heap.size; omega) _) 1⟩, by simp [intOf]; omega⟩
      · have ho := Lib.hid (leN_succ bs 10 (by omega))
        rw [← hx0] at ho
        have hn := leN_lt bs hb 10 (by omega)
        simp only [Nat.reducePow] at ho hn
        generalize leN bs 10 = n at ho hn hB
        have c0 := hB.cell 3 (by rw [limbs_length]; decide)
        have f0 := hB.frozen 3
        obtain ⟨h1, h2⟩ := lst10 n x hn hx
        have hov : x / 16777216 = 0 := by omega
        obtain ⟨l, hl⟩ : ∃ l, l = (limbs n).getD 3 0 := ⟨_, rfl⟩
        rw [← hl] at h1 h2 c0
        obtain ⟨v, hv⟩ : ∃ v, v = l + x * 4 % 67108864 := ⟨_, rfl⟩
        rw [← hv] at h1
        have a1 : bits .and .u64 ((x : Int) * 4) 67108863 = ((x * 4 % 67108864 : Nat) : Int) := by have := and26 (x * 4) (by omega); simpa using this
        have a2 : bits .or .u64 (l : Int) ((x * 4 % 67108864 : Nat) : Int) = (v : Int) := by rw [hv]; exact or64 l _ 2 (by simpa using h2) (by simp only [Nat.reducePow]; omega) (by omega)
        obtain ⟨m, hm⟩ : ∃ m, m = x * 4 % 67108864 := ⟨_, rfl⟩
        rw [← hm] at a1 a2
        have hvb : v < 67108864 * 2 := by omega
        have gt : ¬ (0 : Int) < (x : Int) / 16777216 := by omega
        have hfin := hB.set 3 v
        rw [← h1, ← ho.out] at hfin
        clear hl hv hm h1 h2 ho hx0
        rw [show ((10 : Nat) : Int) = 10 from rfl]
        go_wp2_with fail
        go_region
        all_goals (go_wp2_with fail)
        all_goals exact ⟨⟨11, by omega, rfl, hfin.drewN 1, below_drewN (xset hBe (by show w.heap.size ≤ w.heap.size; omega) _) 1⟩, by simp [intOf]; omega⟩
      · have ho := Lib.hid (leN_succ bs 11 (by omega))
        rw [← hx0] at ho
        have hn := leN_lt bs hb 11 (by omega)
        simp only [Nat.reducePow] at ho hn
        generalize leN bs 11 = n at ho hn hB
        have c0 := hB.cell 3 (by rw [limbs_length]; decide)
        have f0 := hB.frozen 3
        obtain ⟨h1, h2⟩ := lst11 n x hn hx
        have hov : x / 65536 = 0 := by omega
        obtain ⟨l, hl⟩ : ∃ l, l = (limbs n).getD 3 0 := ⟨_, rfl⟩
        rw [← hl] at h1 h2 c0
        obtain ⟨v, hv⟩ : ∃ v, v = l + x * 1024 % 67108864 := ⟨_, rfl⟩
        rw [← hv] at h1
        have a1 : bits .and .u64 ((x : Int) * 1024) 67108863 = ((x * 1024 % 67108864 : Nat) : Int) := by have := and26 (x * 1024) (by omega); simpa using this
        have a2 : bits .or .u64 (l : Int) ((x * 1024 % 67108864 : Nat) : Int) = (v : Int) := by rw [hv]; exact or64 l _ 10 (by simpa using h2) (by simp only [Nat.reducePow]; omega) (by omega)
        obtain ⟨m, hm⟩ : ∃ m, m = x * 1024 % 67108864 := ⟨_, rfl⟩
        rw [← hm] at a1 a2
        have hvb : v < 67108864 * 2 := by omega
        have gt : ¬ (0 : Int) < (x : Int) / 65536 := by omega
        have hfin := hB.set 3 v
        rw [← h1, ← ho.out] at hfin
        clear hl hv hm h1 h2 ho hx0
        rw [show ((11 : Nat) : Int) = 11 from rfl]
        go_wp2_with fail
        go_region
        all_goals (go_wp2_with fail)
        all_goals exact ⟨⟨12, by omega, rfl, hfin.drewN 1, below_drewN (xset hBe (by show w.heap.size ≤ w.heap.size; omega) _) 1⟩, by simp [intOf]; omega⟩
      · have ho := Lib.hid (leN_succ bs 12 (by omega))
        rw [← hx0] at ho
        have hn := leN_lt bs hb 12 (by omega)
        simp only [Nat.reducePow] at ho hn
        generalize leN bs 12 = n at ho hn hB
        have c0 := hB.cell 3 (by rw [limbs_length]; decide)
        have f0 := hB.frozen 3
        obtain ⟨h1, h2⟩ := lst12 n x hn hx
        have hov : x / 256 = 0 := by omega
        obtain ⟨l, hl⟩ : ∃ l, l = (limbs n).getD 3 0 := ⟨_, rfl⟩
        rw [← hl] at h1 h2 c0
        obtain ⟨v, hv⟩ : ∃ v, v = l + x * 262144 % 67108864 := ⟨_, rfl⟩
        rw [← hv] at h1
        have a1 : bits .and .u64 ((x : Int) * 262144) 67108863 = ((x * 262144 % 67108864 : Nat) : Int) := by have := and26 (x * 262144) (by omega); simpa using this
        have a2 : bits .or .u64 (l : Int) ((x * 262144 % 67108864 : Nat) : Int) = (v : Int) := by rw [hv]; exact or64 l _ 18 (by simpa using h2) (by simp only [Nat.reducePow]; omega) (by omega)
        obtain ⟨m, hm⟩ : ∃ m, m = x * 262144 % 67108864 := ⟨_, rfl⟩
        rw [← hm] at a1 a2
        have hvb : v < 67108864 * 2 := by omega
        have gt : ¬ (0 : Int) < (x : Int) / 256 := by omega
        have hfin := hB.set 3 v
        rw [← h1, ← ho.out] at hfin
        clear hl hv hm h1 h2 ho hx0
        rw [show ((12 : Nat) : Int) = 12 from rfl]
        go_wp2_with fail
        go_region
        all_goals (go_wp2_with fail)
        all_goals exact ⟨⟨13, by omega, rfl, hfin.drewN 1, below_drewN (xset hBe (by show w.heap.size ≤ w.heap.size; omega) _) 1⟩, by simp [intOf]; omega⟩
      · have ho := Lib.hid (leN_succ bs 13 (by omega))
        rw [← hx0] at ho
        have hn := leN_lt bs hb 13 (by omega)
        simp only [Nat.reducePow] at ho hn
        generalize leN bs 13 = n at ho hn hB
        have c0 := hB.cell 4 (by rw [limbs_length]; decide)
        have f0 := hB.frozen 4
        obtain ⟨h1, h2⟩ := lst13 n x hn hx
        have hov : x / 67108864 = 0 := by omega
        obtain ⟨l, hl⟩ : ∃ l, l = (limbs n).getD 4 0 := ⟨_, rfl⟩
        rw [← hl] at h1 h2 c0
        obtain ⟨v, hv⟩ : ∃ v, v = l + x * 1 % 67108864 := ⟨_, rfl⟩
        rw [← hv] at h1
        have a1 : bits .and .u64 ((x : Int)) 67108863 = ((x * 1 % 67108864 : Nat) : Int) := by have := and26 (x * 1) (by omega); simpa using this
        have a2 : bits .or .u64 (l : Int) ((x * 1 % 67108864 : Nat) : Int) = (v : Int) := by rw [hv]; exact or64 l _ 0 (by simpa using h2) (by simp only [Nat.reducePow]; omega) (by omega)
        obtain ⟨m, hm⟩ : ∃ m, m = x * 1 % 67108864 := ⟨_, rfl⟩
        rw [← hm] at a1 a2
        have hvb : v < 67108864 * 2 := by omega
        have gt : ¬ (0 : Int) < (x : Int) / 67108864 := by omega
        have hfin := hB.set 4 v
        rw [← h1, ← ho.out] at hfin
        clear hl hv hm h1 h2 ho hx0
        rw [show ((13 : Nat) : Int) = 13 from rfl]
        go_wp2_with fail
        go_region
        all_goals (go_wp2_with fail)
        all_goals exact ⟨⟨14, by omega, rfl, hfin.drewN 1, below_drewN (xset hBe (by show w.heap.size ≤ w.heap.size; omega) _) 1⟩, by simp [intOf]; omega⟩
      · have ho := Lib.hid (leN_succ bs 14 (by omega))
        rw [← hx0] at ho
        have hn := leN_lt bs hb 14 (by omega)
        simp only [Nat.reducePow] at ho hn
        generalize leN bs 14 = n at ho hn hB
        have c0 := hB.cell 4 (by rw [limbs_length]; decide)
        have f0 := hB.frozen 4
        obtain ⟨h1, h2⟩ := lst14 n x hn hx
        have hov : x / 262144 = 0 := by omega
        obtain ⟨l, hl⟩ : ∃ l, l = (limbs n).getD 4 0 := ⟨_, rfl⟩
        rw [← hl] at h1 h2 c0
        obtain ⟨v, hv⟩ : ∃ v, v = l + x * 256 % 67108864 := ⟨_, rfl⟩
        rw [← hv] at h1
        have a1 : bits .and .u64 ((x : Int) * 256) 67108863 = ((x * 256 % 67108864 : Nat) : Int) := by have := and26 (x * 256) (by omega); simpa using this
        have a2 : bits .or .u64 (l : Int) ((x * 256 % 67108864 : Nat) : Int) = (v : Int) := by rw [hv]; exact or64 l _ 8 (by simpa using h2) (by simp only [Nat.reducePow]; omega) (by omega)
        obtain ⟨m, hm⟩ : ∃ m, m = x * 256 % 67108864 := ⟨_, rfl⟩
        rw [← hm] at a1 a2
        have hvb : v < 67108864 * 2 := by omega
        have gt : ¬ (0 : Int) < (x : Int) / 262144 := by omega
        have hfin := hB.set 4 v
        rw [← h1, ← ho.out] at hfin
        clear hl hv hm h1 h2 ho hx0
        rw [show ((14 : Nat) : Int) = 14 from rfl]
        go_wp2_with fail
        go_region
        all_goals (go_wp2_with fail)
        all_goals exact ⟨⟨15, by omega, rfl, hfin.drewN 1, below_drewN (xset hBe (by show w.heap.size ≤ w.heap.size; omega) _) 1⟩, by simp [intOf]; omega⟩
      · have ho := Lib.hid (leN_succ bs 15 (by omega))
        rw [← hx0] at ho
        have hn := leN_lt bs hb 15 (by omega)
        simp only [Nat.reducePow] at ho hn
        generalize leN bs 15 = n at ho hn hB
        have c0 := hB.cell 4 (by rw [limbs_length]; decide)
        have f0 := hB.frozen 4
        obtain ⟨h1, h2⟩ := lst15 n x hn hx
        have hov : x / 1024 = 0 := by omega
        obtain ⟨l, hl⟩ : ∃ l, l = (limbs n).getD 4 0 := ⟨_, rfl⟩
        rw [← hl] at h1 h2 c0
        obtain ⟨v, hv⟩ : ∃ v, v = l + x * 65536 % 67108864 := ⟨_, rfl⟩
        rw [← hv] at h1
        have a1 : bits .and .u64 ((x : Int) * 65536) 67108863 = ((x * 65536 % 67108864 : Nat) : Int) := by have := and26 (x * 65536) (by omega); simpa using this
        have a2 : bits .or .u64 (l : Int) ((x * 65536 % 67108864 : Nat) : Int) = (v : Int) := by rw [hv]; exact or64 l _ 16 (by simpa using h2) (by simp only [Nat.reducePow]; omega) (by omega)
        obtain ⟨m, hm⟩ : ∃ m, m = x * 65536 % 67108864 := ⟨_, rfl⟩
        rw [← hm] at a1 a2
        have hvb : v < 67108864 * 2 := by omega
        have gt : ¬ (0 : Int) < (x : Int) / 1024 := by omega
        have hfin := hB.set 4 v
        rw [← h1, ← ho.out] at hfin
        clear hl hv hm h1 h2 ho hx0
        rw [show ((15 : Nat) : Int) = 15 from rfl]
        go_wp2_with fail
        go_region
        all_goals (go_wp2_with fail)
        all_goals exact ⟨⟨16, by omega, rfl, hfin.drewN 1, below_drewN (xset hBe (by show w.heap.size ≤ w.heap.size; omega) _) 1⟩, by simp [intOf]; omega⟩
      · have ho := Lib.hid (leN_succ bs 16 (by omega))
        rw [← hx0] at ho
        have hn := leN_lt bs hb 16 (by omega)
        simp only [Nat.reducePow] at ho hn
        generalize leN bs 16 = n at ho hn hB
        have c0 := hB.cell 4 (by rw [limbs_length]; decide)
        have f0 := hB.frozen 4
        have hx4 : x < 4 := hx0 ▸ hlast (by omega)
        obtain ⟨h1, h2⟩ := lst16 n x hn hx4
        have hov : x / 4 = 0 := by omega
        obtain ⟨l, hl⟩ : ∃ l, l = (limbs n).getD 4 0 := ⟨_, rfl⟩
        rw [← hl] at h1 h2 c0
        obtain ⟨v, hv⟩ : ∃ v, v = l + x * 16777216 % 67108864 := ⟨_, rfl⟩
        rw [← hv] at h1
        have a1 : bits .and .u64 ((x : Int) * 16777216) 67108863 = ((x * 16777216 % 67108864 : Nat) : Int) := by have := and26 (x * 16777216) (by omega); simpa using this
        have a2 : bits .or .u64 (l : Int) ((x * 16777216 % 67108864 : Nat) : Int) = (v : Int) := by rw [hv]; exact or64 l _ 24 (by simpa using h2) (by simp only [Nat.reducePow]; omega) (by omega)
        obtain ⟨m, hm⟩ : ∃ m, m = x * 16777216 % 67108864 := ⟨_, rfl⟩
        rw [← hm] at a1 a2
        have hvb : v < 67108864 * 2 := by omega
        have gt : ¬ (0 : Int) < (x : Int) / 4 := by omega
        have hfin := hB.set 4 v
        rw [← h1, ← ho.out] at hfin
        clear hl hv hm h1 h2 ho hx0
        rw [show ((16 : Nat) : Int) = 16 from rfl]
        go_wp2_with fail
        go_region
        all_goals (go_wp2_with fail)
        all_goals exact ⟨⟨17, by omega, rfl, hfin.drewN 1, below_drewN (xset hBe (by show w.heap.size ≤ w.heap.size; omega) _) 1⟩, by simp [intOf]; omega⟩
    · obtain rfl : i = len := by omega
      have hl5 := limbs_length (leN bs i)
      have HZ := Lib.hid (show (Try.prog.info? 34).map (·.size) = some (limbs (leN bs i)).length by rw [hl5]; kernel_rfl)
      have HZ2 := Lib.hid (show (Try.prog.info? 34).map (·.size) = some (nv .u64 (limbs (leN bs i))).toArray.size by simp only [List.size_toArray, nv_length]; rw [hl5]; kernel_rfl)
      obtain ⟨ls, hls⟩ : ∃ ls, ls = limbs (leN bs i) := ⟨_, rfl⟩
      rw [← hls] at hB hl5 HZ HZ2
      have HLS := Lib.hid hls
      clear hls
      go_wp2_with (first
        | (refine wp_load_arr rfl 34 (.tmp 2) rfl w.heap.size rfl hB 5 32 Try.underlying34 HZ.out ?_)
        | (refine wp_store_arr rfl 34 (.tmp 2) (.tmp 45) rfl w.heap.size rfl hB rfl HZ.out rfl ?_; intro W9 hO9 hg9)
        | fail)
      exact bodyPost_ret (results_cell_row rfl _ _ w.heap.size 34 (nv .u64 ls).toArray (0, 0) _ rfl hO9 Try.underlying34 rfl HZ2.out) rfl ⟨by rw [HLS.out], gbelow hBe hg9 (Nat.le_refl _)⟩
end Go.Proofs.Ytgfmglgibfhimaa.Po
