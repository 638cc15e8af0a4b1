/- The walk of 'numbers': bytes as numbers of four bytes, into a row of noughts. -/
import Derived.Test.YtoehkegbmphlhaaBlk
import Derived.Test.YtoehkegbmphlhaaChPlain2
import Derived.BigRegion
namespace Go.Proofs.Ytoehkegbmphlhaa.Ch
set_option linter.unusedSimpArgs false
set_option linter.unusedVariables false
open Go.RowKit

/-- The first k bytes of the number at place i. -/
def part (bs : List Nat) (i : Nat) : Nat → Nat
  | 0 => 0
  | k + 1 => part bs i k + bs.getD (4 * i + k) 0 * 256 ^ k
theorem part4 (bs : List Nat) (i : Nat) : part bs i 4 = num bs i := by simp [part, num]; omega
theorem nums_succ (bs : List Nat) (i : Nat) : nums bs (i + 1) = nums bs i ++ [num bs i] := by simp [nums, List.range_succ]
theorem nums_length (bs : List Nat) (i : Nat) : (nums bs i).length = i := by simp [nums]
theorem or_part (p x n : Nat) (hp : p < 2 ^ n) (hx : x * 2 ^ n + p < 4294967296) : bits .or .u32 (p : Int) (((x * 2 ^ n : Nat) : Int)) = ((p + x * 2 ^ n : Nat) : Int) := by
  rw [bits_or .u32 rfl _ _ (by omega) (by show (p : Int) < 4294967296; omega) (by omega) (by show ((x * 2 ^ n : Nat) : Int) < 4294967296; omega), Int.toNat_natCast, Int.toNat_natCast, Nat.or_comm, or_add _ _ _ hp, Nat.add_comm]
def row (bs pre post : List Nat) (n i k : Nat) : List Nat := pre ++ (nums bs i ++ part bs i k :: List.replicate (n - i - 1) 0) ++ post
theorem row_get (bs pre post : List Nat) (n i k : Nat) : (row bs pre post n i k).getD (pre.length + i) 0 = part bs i k := by
  unfold row
  have h : i < (nums bs i ++ part bs i k :: List.replicate (n - i - 1) 0).length := by simp [nums_length]
  rw [mid_get _ _ _ _ h, List.getD_eq_getElem?_getD, List.getElem?_append_right (Nat.le_of_eq (nums_length bs i))]
  simp [nums_length]
theorem row_length (bs pre post : List Nat) (n i k : Nat) : pre.length + i < (row bs pre post n i k).length := by
  unfold row; simp [nums_length]
theorem row_set (bs pre post : List Nat) (n i k v : Nat) (hv : v = part bs i (k + 1)) : (row bs pre post n i k).set (pre.length + i) v = row bs pre post n i (k + 1) := by
  subst hv
  unfold row
  rw [mid_set _ _ _ _ _ (by simp [nums_length])]
  rw [List.set_append_right _ _ (by simp [nums_length])]
  simp [nums_length]
theorem row_start (bs pre post : List Nat) (n i : Nat) (h : i < n) : row bs pre post n i 0 = pre ++ (nums bs i ++ List.replicate (n - i) 0) ++ post := by
  unfold row
  obtain ⟨m, hm⟩ : ∃ m, n - i = m + 1 := ⟨n - i - 1, by omega⟩
  have : n - i - 1 = m := by omega
  rw [this, hm, List.replicate_succ]; rfl
theorem row_end (bs pre post : List Nat) (n i : Nat) : row bs pre post n i 4 = pre ++ (nums bs (i + 1) ++ List.replicate (n - (i + 1)) 0) ++ post := by
  unfold row
  rw [nums_succ, part4, List.append_assoc, show n - (i + 1) = n - i - 1 from by omega]; simp

theorem part_lt (bs : List Nat) (hb : ∀ x ∈ bs, x < 256) (i : Nat) : part bs i 1 < 256 ∧ part bs i 2 < 65536 ∧ part bs i 3 < 16777216 ∧ part bs i 4 < 4294967296 := by
  have h0 := getD_b bs hb (4 * i)
  have h1 := getD_b bs hb (4 * i + 1)
  have h2 := getD_b bs hb (4 * i + 2)
  have h3 := getD_b bs hb (4 * i + 3)
  simp only [part, Nat.add_zero]; omega

set_option maxHeartbeats 2000000 in
theorem numbers_any (w : World) (te : TypeId) (Bo n cap : Nat) (pre post : List Nat) (b off bl bc : Nat) (bs : List Nat) (hB : Blk w Bo te .u32 (pre ++ List.replicate n 0 ++ post)) (hne : b ≠ Bo)
    (hr : RdB w (some ⟨b, off, none⟩) bl bc bs) (h4 : bl = 4 * n) (hn : n ≤ 16) (hn0 : 0 < n) :
    Calls Try.prog 15 #[.slice (some ⟨Bo, pre.length, none⟩) n cap, .slice (some ⟨b, off, none⟩) bl bc] w fun e w' =>
      e = .returned (.tuple #[]) ∧ Blk w' Bo te .u32 (pre ++ nums bs n ++ post) ∧ w.grownBy w' (some Bo) := by
  obtain ⟨_, k1, k2, k3, hb, _, k6⟩ := hr
  rcases k6 with k6 | ⟨b', off', he, hblt, hc⟩
  · omega
  obtain ⟨rfl, rfl, _⟩ := Addr.mk.inj (Option.some.inj he)
  subst h4
  go_enter Try.func15, Try.ntmps15
  go_wp2_with fail
  go_loopw [8] (fun i wr => ∃ m : Nat, m ≤ n ∧ i = .int .i64 m ∧ Blk wr Bo te .u32 (pre ++ (nums bs m ++ List.replicate (n - m) 0) ++ post) ∧ w.grownBy wr (some Bo)) (fun i _ => n - (intOf i).toNat)
  case atStart => exact ⟨0, Nat.zero_le _, rfl, by simpa [nums] using hB, World.grownBy.refl _ _⟩
  case round =>
    obtain ⟨m, hm, rfl, hBm, hgm⟩ := hrel
    by_cases hlt : m < n
    · rw [← row_start _ _ _ _ _ hlt] at hBm
      go_wp2_with fail
      obtain ⟨wo, hwo⟩ : ∃ wo : World, wo = wr := ⟨_, rfl⟩
      go_loopw [11] (fun j wr => ∃ k : Nat, k ≤ 4 ∧ j = .int .i64 k ∧ Blk wr Bo te .u32 (row bs pre post n m k) ∧ w.grownBy wr (some Bo)) (fun j _ => 4 - (intOf j).toNat)
      case atStart => exact ⟨0, by decide, rfl, hBm, hgm⟩
      case round =>
        clear hBm hgm
        obtain ⟨k, hk, rfl, hBk, hgk⟩ := hrel
        by_cases hk4 : k < 4
        · have hcell := hBk.cell (pre.length + m) (row_length _ _ _ _ _ _)
          rw [row_get] at hcell
          have hfrz := hBk.frozen (pre.length + m)
          have hbc : wr.cell? ⟨b, off + (4 * m + k), none⟩ = some (.int .u8 ((bs.getD (4 * m + k) 0 : Nat) : Int)) :=
            (World.cell?_of_block (w := w) (hgk.block b hblt (fun e => hne (Option.some.inj e)))).trans (hc (4 * m + k) (by omega))
          have hx := getD_b bs hb (4 * m + k)
          obtain ⟨p1, p2, p3, p4⟩ := part_lt bs hb m
          obtain ⟨q', hq'0⟩ : ∃ q', q' = part bs m (k + 1) := ⟨_, rfl⟩
          have HQ := Lib.hid hq'0
          have hq' : q' = part bs m k + bs.getD (4 * m + k) 0 * 256 ^ k := hq'0
          clear hq'0
          obtain ⟨x, hxd⟩ : ∃ x, x = bs.getD (4 * m + k) 0 := ⟨_, rfl⟩
          obtain ⟨q, hqd⟩ : ∃ q, q = part bs m k := ⟨_, rfl⟩
          rw [← hxd] at hx hbc hq'
          rw [← hqd] at hcell hq'
          clear hxd
          rcases (show k = 0 ∨ k = 1 ∨ k = 2 ∨ k = 3 from by omega) with rfl | rfl | rfl | rfl
          · simp only [Nat.add_zero] at hbc
            have hor : bits .or .u32 ((q : Nat) : Int) ((x : Int)) = (q' : Int) := by
              rw [hq']
              have := or_part q x 0 (by rw [hqd]; simp [part]) (by rw [hqd]; simp only [part]; omega)
              simpa using this
            clear hq' hqd p1 p2 p3 p4
            go_wp2_with fail
            go_region
            all_goals (go_wp2_with fail)
            all_goals exact ⟨⟨1, by decide, rfl, by rw [← row_set bs pre post n m 0 q' HQ.out]; exact (hBk.drewN 1).set _ _, gset (gdrewN hgk 1) _ _⟩, by simp [intOf]⟩
          · have hor : bits .or .u32 ((q : Nat) : Int) ((x : Int) * 256) = (q' : Int) := by
              rw [hq']
              have := or_part q x 8 (by have := p1; rw [← hqd] at this; omega) (by have := p1; rw [← hqd] at this; omega)
              simpa using this
            clear hq' hqd p1 p2 p3 p4
            go_wp2_with fail
            go_region
            all_goals (go_wp2_with fail)
            all_goals exact ⟨⟨2, by decide, rfl, by rw [← row_set bs pre post n m 1 q' HQ.out]; exact (hBk.drewN 1).set _ _, gset (gdrewN hgk 1) _ _⟩, by simp [intOf]⟩
          · have hor : bits .or .u32 ((q : Nat) : Int) ((x : Int) * 65536) = (q' : Int) := by
              rw [hq']
              have := or_part q x 16 (by have := p2; rw [← hqd] at this; omega) (by have := p2; rw [← hqd] at this; omega)
              simpa using this
            clear hq' hqd p1 p2 p3 p4
            go_wp2_with fail
            go_region
            all_goals (go_wp2_with fail)
            all_goals exact ⟨⟨3, by decide, rfl, by rw [← row_set bs pre post n m 2 q' HQ.out]; exact (hBk.drewN 1).set _ _, gset (gdrewN hgk 1) _ _⟩, by simp [intOf]⟩
          · have hor : bits .or .u32 ((q : Nat) : Int) ((x : Int) * 16777216) = (q' : Int) := by
              rw [hq']
              have := or_part q x 24 (by have := p3; rw [← hqd] at this; omega) (by have := p3; rw [← hqd] at this; omega)
              simpa using this
            clear hq' hqd p1 p2 p3 p4
            go_wp2_with fail
            go_region
            all_goals (go_wp2_with fail)
            all_goals exact ⟨⟨4, by decide, rfl, by rw [← row_set bs pre post n m 3 q' HQ.out]; exact (hBk.drewN 1).set _ _, gset (gdrewN hgk 1) _ _⟩, by simp [intOf]⟩
        · obtain rfl : k = 4 := by omega
          rw [row_end] at hBk
          go_wp2_with fail
          exact ⟨⟨m + 1, by omega, by go_num, hBk, hgk⟩, by simp [intOf]; omega⟩
    · obtain rfl : m = n := by omega
      go_wp2_with fail
      go_end0
      refine ⟨rfl, ?_, hgm⟩
      simpa using hBm
end Go.Proofs.Ytoehkegbmphlhaa.Ch
