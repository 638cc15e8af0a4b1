/- The walk of the statement AdlerEmpty: sums of three texts come together in whatever order they are joined. -/
import Derived.Test.YtjjmoefipkkihaaAdW2
import Derived.Test.YtjjmoefipkkihaaOwn
namespace Go.Proofs.Ytjjmoefipkkihaa.Ad
open Go.RowKit

set_option maxHeartbeats 2000000 in
theorem empty_walk (a1 : Option Addr) (n1 c1 : Nat) (xs : List Nat) (a2 : Option Addr) (n2 c2 : Nat) (ys : List Nat) (a3 : Option Addr) (n3 c3 : Nat) (zs : List Nat) (z : Int) (w : World) (h1 : Row8 w a1 n1 c1 xs) (h2 : Row8 w a2 n2 c2 ys) (h3 : Row8 w a3 n3 c3 zs) (hz : 0 ≤ z ∧ z ≤ 255) :
    Calls Try.prog 6 #[.slice a1 n1 c1, .slice a2 n2 c2, .slice a3 n3 c3, .int .u8 z] w fun e w' => e = .returned (.bool true) ∧ Below w.heap.size w w' := by
  by_cases hl : n1 ≤ 300 ∧ n2 ≤ 300 ∧ n3 ≤ 300
  · obtain ⟨l1, l2, l3⟩ := hl
    have k1 := h1.1
    have k2 := h2.1
    have k3 := h3.1
    obtain ⟨z, rfl⟩ := Int.eq_ofNat_of_zero_le hz.1
    go_enter Try.func6, Try.ntmps6
    go_wp2_with fail
    refine (awake_any _).mono ?_
    rintro e w1 ⟨rfl, hb1⟩
    go_wp2_with fail
    refine (Sum_any _ _ _ xs _ ⟨by omega, h1.below hb1⟩).mono ?_
    rintro e w2 ⟨rfl, hb2⟩
    have hB2 := xtrans hb1 hb2
    have m1 := more_lt 1 xs
    go_wp2_with fail
    refine (Sum_any _ _ _ ys _ ⟨by omega, h2.below hB2⟩).mono ?_
    rintro e w3 ⟨rfl, hb3⟩
    have hB3 := xtrans hB2 hb3
    have m2 := more_lt 1 ys
    go_wp2_with fail
    refine (Sum_any _ _ _ zs _ ⟨by omega, h3.below hB3⟩).mono ?_
    rintro e w4 ⟨rfl, hb4⟩
    have hB4 := xtrans hB3 hb4
    have m3 := more_lt 1 zs
    go_wp2_with fail
    refine (Join_any _ _ _ _ (by omega) (by omega) (by omega) (by omega) (by omega)).mono ?_
    rintro e w5 ⟨rfl, hb5⟩
    have hB5 := xtrans hB4 hb5
    rw [Int.toNat_natCast, Int.toNat_natCast, Int.toNat_natCast]
    have m4 := join_lt (more 1 xs) (more 1 ys) n2
    go_wp2_with fail
    refine (Join_any _ _ _ _ (by omega) (by omega) (by omega) (by omega) (by omega)).mono ?_
    rintro e w6 ⟨rfl, hb6⟩
    have hB6 := xtrans hB5 hb6
    rw [Int.toNat_natCast, Int.toNat_natCast, Int.toNat_natCast, join_assoc]
    go_wp2_with fail
    refine (Join_any _ _ _ _ (by omega) (by omega) (by omega) (by omega) (by omega)).mono ?_
    rintro e w7 ⟨rfl, hb7⟩
    have hB7 := xtrans hB6 hb7
    rw [Int.toNat_natCast, Int.toNat_natCast, Int.toNat_natCast]
    have m5 := join_lt (more 1 ys) (more 1 zs) n3
    go_wp2_with fail
    refine (Join_any _ _ _ _ (by omega) (by omega) (by omega) (by omega) (by omega)).mono ?_
    rintro e w8 ⟨rfl, hb8⟩
    have hB8 := xtrans hB7 hb8
    rw [Int.toNat_natCast, Int.toNat_natCast, show ((n2 : Int) + (n3 : Int)).toNat = n2 + n3 from by omega]
    go_wp2_with fail
    refine (More_any _ _ _ _ [] _ (by omega) (by omega) (rd_nil _)).mono ?_
    rintro e w9 ⟨rfl, hb9⟩
    have hB9 := xtrans hB8 hb9
    rw [Int.toNat_natCast, more_nil]
    go_wp2_with (first
      | (at_make; refine wp_make rfl (.tmp 66) (.tmp 66) rfl .u8 .u8 z rfl rfl (by omega) ?_; intro w10 hown hb10 _)
      | fail)
    have hB10 := xtrans hB9 hb10
    refine (More_any _ _ _ _ (List.replicate z 0) _ (by omega) (by omega) (hown.rdb (by simp) (by omega))).mono ?_
    rintro e w11 ⟨rfl, hb11⟩
    rw [Int.toNat_natCast]
    have e1 : ((more (more 1 xs) (List.replicate z 0) : Nat) : Int) % 65536 = ((more 1 xs : Nat) : Int) % 65536 := by
      have := more_zeros_lo (more 1 xs) z
      have := more_lo 1 xs
      omega
    generalize more (more 1 xs) (List.replicate z 0) = q at *
    go_wp2_with fail
    go_ret
    exact ⟨rfl, xtrans hB10 hb11⟩
  · go_enter Try.func6, Try.ntmps6
    by_cases l1 : n1 ≤ 300
    · by_cases l2 : n2 ≤ 300
      · have l3 : ¬ n3 ≤ 300 := fun h => hl ⟨l1, l2, h⟩
        go_wp2_with fail
        refine (awake_any _).mono ?_
        rintro e w1 ⟨rfl, hb1⟩
        go_wp2_with fail
        go_ret
        exact ⟨rfl, hb1⟩
      · go_wp2_with fail
        refine (awake_any _).mono ?_
        rintro e w1 ⟨rfl, hb1⟩
        go_wp2_with fail
        go_ret
        exact ⟨rfl, hb1⟩
    · go_wp2_with fail
      refine (awake_any _).mono ?_
      rintro e w1 ⟨rfl, hb1⟩
      go_wp2_with fail
      go_ret
      exact ⟨rfl, hb1⟩
end Go.Proofs.Ytjjmoefipkkihaa.Ad
