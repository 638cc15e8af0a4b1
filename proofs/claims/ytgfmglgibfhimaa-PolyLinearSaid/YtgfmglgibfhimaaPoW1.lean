/- Walks: limbs that are carried. -/
import Derived.Test.YtgfmglgibfhimaaBlk
import Derived.Test.YtgfmglgibfhimaaPoPlain2
import Derived.Handy
namespace Go.Proofs.Ytgfmglgibfhimaa.Po
set_option linter.unusedSimpArgs false
set_option linter.unusedVariables false
open Go.RowKit

theorem and26 (x : Nat) (hx : x < 18446744073709551616) : bits .and .u64 (x : Int) 67108863 = ((x % 67108864 : Nat) : Int) := by
  rw [show (67108863 : Int) = ((67108863 : Nat) : Int) from rfl, bits_and .u64 rfl _ _ (by omega) (by show (x : Int) < 18446744073709551616; omega) (by omega) (by decide)]
  rw [Int.toNat_natCast, Int.toNat_natCast, show 67108863 = 2 ^ 26 - 1 from rfl, Nat.and_two_pow_sub_one_eq_mod]
theorem getD_le {xs : List Nat} {M : Nat} (h : ∀ x ∈ xs, x < M) (hM : 0 < M) (i : Nat) : xs.getD i 0 < M := by
  by_cases hi : i < xs.length
  · rw [List.getD_eq_getElem?_getD, List.getElem?_eq_getElem hi]; exact h _ (List.getElem_mem hi)
  · rw [List.getD_eq_getElem?_getD, List.getElem?_eq_none (by omega)]; exact hM

theorem wrapM (x y t z : Nat) (h : z = (y + x / 67108864 * t % 18446744073709551616) % 18446744073709551616) : IntKind.u64.wrap ((y : Int) + IntKind.u64.wrap ((x : Int) / 67108864 * (t : Int))) = (z : Int) := by
  rw [IntKind.wrap_u64, IntKind.wrap_u64, h]
  have e : (x : Int) / 67108864 * (t : Int) = ((x / 67108864 * t : Nat) : Int) := by rw [Int.natCast_mul]; rfl
  rw [e]
  generalize x / 67108864 * t = m
  omega
set_option maxHeartbeats 400000 in
theorem carryFn (w : World) (te : TypeId) (B : Nat) (xs : List Nat) (i to t : Nat) (hB : Blk w B te .u64 xs) (hl : xs.length = 5) (hx : ∀ x ∈ xs, x < 18446744073709551616) (hit : (i = 0 ∧ to = 1) ∨ (i = 1 ∧ to = 2) ∨ (i = 2 ∧ to = 3) ∨ (i = 3 ∧ to = 4) ∨ (i = 4 ∧ to = 0)) :
    Calls Try.prog 25 #[.int .i64 (i : Int), .int .i64 (to : Int), .int .u64 (t : Int), .pointer (some ⟨B, 0, none⟩)] w fun e w' => e = .returned (.tuple #[]) ∧ Blk w' B te .u64 (carry1 xs i to t) ∧ w.grownBy w' (some B) := by
  obtain ⟨hi, hto, hne⟩ : i < 5 ∧ to < 5 ∧ i ≠ to := by omega
  have h0 := hB.cell i (by omega)
  have f0 := hB.frozen i
  have b0 := getD_le hx (by decide) i
  have a0 := and26 _ b0
  have h1 := hB.cell to (by omega)
  have f1 := hB.frozen to
  have e1 : (xs.set i (xs.getD i 0 % 67108864)).getD to 0 = xs.getD to 0 := by simp [List.getD_eq_getElem?_getD, hne]
  obtain ⟨z, hz⟩ : ∃ z, z = (xs.getD to 0 + xs.getD i 0 / 67108864 * t % 18446744073709551616) % 18446744073709551616 := ⟨_, rfl⟩
  have HE : Hid (carry1 xs i to t = (xs.set i (xs.getD i 0 % 67108864)).set to z) := Lib.hid (by unfold carry1; simp only; rw [e1, hz])
  have hfin := ((hB.set i (xs.getD i 0 % 67108864)).set to z)
  rw [← HE.out] at hfin
  clear HE e1
  obtain ⟨x, hxi⟩ : ∃ x, x = xs.getD i 0 := ⟨_, rfl⟩
  obtain ⟨y, hy⟩ : ∃ y, y = xs.getD to 0 := ⟨_, rfl⟩
  rw [← hy] at h1 hz
  rw [← hxi] at h0 b0 a0 hz hfin
  have hez := Lib.hid (wrapM x y t z hz)
  clear hxi hy hx hl hi hto hne hz
  rcases hit with ⟨rfl, rfl⟩ | ⟨rfl, rfl⟩ | ⟨rfl, rfl⟩ | ⟨rfl, rfl⟩ | ⟨rfl, rfl⟩
  all_goals
    go_enter Try.func25, Try.ntmps25
    go_wp2
    rw [hez.out]
    go_end0
    exact ⟨rfl, hfin, gset (gset (World.grownBy.refl _ _) _ _) _ _⟩
end Go.Proofs.Ytgfmglgibfhimaa.Po
