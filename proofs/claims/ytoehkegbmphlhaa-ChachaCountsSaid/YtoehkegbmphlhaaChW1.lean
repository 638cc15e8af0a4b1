/- Walks: rotations and quarters. -/
import Derived.Test.YtoehkegbmphlhaaBase
import Derived.Test.YtoehkegbmphlhaaChPlain
namespace Go.Proofs.Ytoehkegbmphlhaa.Ch
set_option linter.unusedSimpArgs false
set_option linter.unusedVariables false
open Go.RowKit


theorem or16 (x r : Nat) (hx : x < 4294967296) (hr : r = rot 65536 65536 x) : bits .or .u32 ((x : Int) * 65536 % 4294967296) ((x : Int) / 65536) = (r : Int) := by
  have e1 : (x : Int) * 65536 % 4294967296 = (((x % 65536) * 2 ^ 16 : Nat) : Int) := by
    have : (2 : Nat) ^ 16 = 65536 := rfl
    rw [this]; omega
  have e2 : (x : Int) / 65536 = ((x / 65536 : Nat) : Int) := rfl
  have e3 : (x % 65536) * 2 ^ 16 < 4294967296 := by
    have : (2 : Nat) ^ 16 = 65536 := rfl
    rw [this]; omega
  have e4 : x / 65536 < 2 ^ 16 := by
    have : (2 : Nat) ^ 16 = 65536 := rfl
    rw [this]; omega
  rw [e1, e2, bits_or .u32 rfl _ _ (Int.natCast_nonneg _) (by show (((x % 65536) * 2 ^ 16 : Nat) : Int) < 4294967296; omega) (Int.natCast_nonneg _) (by show ((x / 65536 : Nat) : Int) < 4294967296; omega), Int.toNat_natCast, Int.toNat_natCast, or_add _ _ _ e4, hr]
  have : (2 : Nat) ^ 16 = 65536 := rfl
  rw [this]
  unfold rot
  omega
set_option maxHeartbeats 400000 in
theorem RotL16_any (x r : Nat) (w : World) (hx : x < 4294967296) (hr : r = rot 65536 65536 x) :
    Calls Try.prog 13 #[.int .u32 (x : Int), .int .i64 16] w fun e w' => e = .returned (.int .u32 (r : Int)) ∧ w = w' := by
  have h31 : bits .and .u64 16 31 = 16 := by decide
  have hor := or16 x r hx hr
  clear hr
  go_enter Try.func13, Try.ntmps13
  go_wp2
  go_ret
  exact ⟨rfl, rfl⟩
set_option maxHeartbeats 400000 in
theorem Turned16_any (x r : Nat) (w : World) (hx : x < 4294967296) (hr : r = rot 65536 65536 x) :
    Calls Try.prog 14 #[.int .u32 (x : Int), .int .u64 16] w fun e w' => e = .returned (.int .u32 (r : Int)) ∧ w = w' := by
  have hs : (x : Int) * 65536 % 4294967296 + (x : Int) / 65536 = (r : Int) := by rw [hr]; rfl
  have hr2 : r < 4294967296 := by rw [hr]; exact rot16_lt hx
  clear hr
  go_enter Try.func14, Try.ntmps14
  go_wp2
  go_ret
  exact ⟨rfl, rfl⟩

theorem or12 (x r : Nat) (hx : x < 4294967296) (hr : r = rot 4096 1048576 x) : bits .or .u32 ((x : Int) * 4096 % 4294967296) ((x : Int) / 1048576) = (r : Int) := by
  have e1 : (x : Int) * 4096 % 4294967296 = (((x % 1048576) * 2 ^ 12 : Nat) : Int) := by
    have : (2 : Nat) ^ 12 = 4096 := rfl
    rw [this]; omega
  have e2 : (x : Int) / 1048576 = ((x / 1048576 : Nat) : Int) := rfl
  have e3 : (x % 1048576) * 2 ^ 12 < 4294967296 := by
    have : (2 : Nat) ^ 12 = 4096 := rfl
    rw [this]; omega
  have e4 : x / 1048576 < 2 ^ 12 := by
    have : (2 : Nat) ^ 12 = 4096 := rfl
    rw [this]; omega
  rw [e1, e2, bits_or .u32 rfl _ _ (Int.natCast_nonneg _) (by show (((x % 1048576) * 2 ^ 12 : Nat) : Int) < 4294967296; omega) (Int.natCast_nonneg _) (by show ((x / 1048576 : Nat) : Int) < 4294967296; omega), Int.toNat_natCast, Int.toNat_natCast, or_add _ _ _ e4, hr]
  have : (2 : Nat) ^ 12 = 4096 := rfl
  rw [this]
  unfold rot
  omega
set_option maxHeartbeats 400000 in
theorem RotL12_any (x r : Nat) (w : World) (hx : x < 4294967296) (hr : r = rot 4096 1048576 x) :
    Calls Try.prog 13 #[.int .u32 (x : Int), .int .i64 12] w fun e w' => e = .returned (.int .u32 (r : Int)) ∧ w = w' := by
  have h31 : bits .and .u64 12 31 = 12 := by decide
  have hor := or12 x r hx hr
  clear hr
  go_enter Try.func13, Try.ntmps13
  go_wp2
  go_ret
  exact ⟨rfl, rfl⟩
set_option maxHeartbeats 400000 in
theorem Turned12_any (x r : Nat) (w : World) (hx : x < 4294967296) (hr : r = rot 4096 1048576 x) :
    Calls Try.prog 14 #[.int .u32 (x : Int), .int .u64 12] w fun e w' => e = .returned (.int .u32 (r : Int)) ∧ w = w' := by
  have hs : (x : Int) * 4096 % 4294967296 + (x : Int) / 1048576 = (r : Int) := by rw [hr]; rfl
  have hr2 : r < 4294967296 := by rw [hr]; exact rot12_lt hx
  clear hr
  go_enter Try.func14, Try.ntmps14
  go_wp2
  go_ret
  exact ⟨rfl, rfl⟩

theorem or8 (x r : Nat) (hx : x < 4294967296) (hr : r = rot 256 16777216 x) : bits .or .u32 ((x : Int) * 256 % 4294967296) ((x : Int) / 16777216) = (r : Int) := by
  have e1 : (x : Int) * 256 % 4294967296 = (((x % 16777216) * 2 ^ 8 : Nat) : Int) := by
    have : (2 : Nat) ^ 8 = 256 := rfl
    rw [this]; omega
  have e2 : (x : Int) / 16777216 = ((x / 16777216 : Nat) : Int) := rfl
  have e3 : (x % 16777216) * 2 ^ 8 < 4294967296 := by
    have : (2 : Nat) ^ 8 = 256 := rfl
    rw [this]; omega
  have e4 : x / 16777216 < 2 ^ 8 := by
    have : (2 : Nat) ^ 8 = 256 := rfl
    rw [this]; omega
  rw [e1, e2, bits_or .u32 rfl _ _ (Int.natCast_nonneg _) (by show (((x % 16777216) * 2 ^ 8 : Nat) : Int) < 4294967296; omega) (Int.natCast_nonneg _) (by show ((x / 16777216 : Nat) : Int) < 4294967296; omega), Int.toNat_natCast, Int.toNat_natCast, or_add _ _ _ e4, hr]
  have : (2 : Nat) ^ 8 = 256 := rfl
  rw [this]
  unfold rot
  omega
set_option maxHeartbeats 400000 in
theorem RotL8_any (x r : Nat) (w : World) (hx : x < 4294967296) (hr : r = rot 256 16777216 x) :
    Calls Try.prog 13 #[.int .u32 (x : Int), .int .i64 8] w fun e w' => e = .returned (.int .u32 (r : Int)) ∧ w = w' := by
  have h31 : bits .and .u64 8 31 = 8 := by decide
  have hor := or8 x r hx hr
  clear hr
  go_enter Try.func13, Try.ntmps13
  go_wp2
  go_ret
  exact ⟨rfl, rfl⟩
set_option maxHeartbeats 400000 in
theorem Turned8_any (x r : Nat) (w : World) (hx : x < 4294967296) (hr : r = rot 256 16777216 x) :
    Calls Try.prog 14 #[.int .u32 (x : Int), .int .u64 8] w fun e w' => e = .returned (.int .u32 (r : Int)) ∧ w = w' := by
  have hs : (x : Int) * 256 % 4294967296 + (x : Int) / 16777216 = (r : Int) := by rw [hr]; rfl
  have hr2 : r < 4294967296 := by rw [hr]; exact rot8_lt hx
  clear hr
  go_enter Try.func14, Try.ntmps14
  go_wp2
  go_ret
  exact ⟨rfl, rfl⟩

theorem or7 (x r : Nat) (hx : x < 4294967296) (hr : r = rot 128 33554432 x) : bits .or .u32 ((x : Int) * 128 % 4294967296) ((x : Int) / 33554432) = (r : Int) := by
  have e1 : (x : Int) * 128 % 4294967296 = (((x % 33554432) * 2 ^ 7 : Nat) : Int) := by
    have : (2 : Nat) ^ 7 = 128 := rfl
    rw [this]; omega
  have e2 : (x : Int) / 33554432 = ((x / 33554432 : Nat) : Int) := rfl
  have e3 : (x % 33554432) * 2 ^ 7 < 4294967296 := by
    have : (2 : Nat) ^ 7 = 128 := rfl
    rw [this]; omega
  have e4 : x / 33554432 < 2 ^ 7 := by
    have : (2 : Nat) ^ 7 = 128 := rfl
    rw [this]; omega
  rw [e1, e2, bits_or .u32 rfl _ _ (Int.natCast_nonneg _) (by show (((x % 33554432) * 2 ^ 7 : Nat) : Int) < 4294967296; omega) (Int.natCast_nonneg _) (by show ((x / 33554432 : Nat) : Int) < 4294967296; omega), Int.toNat_natCast, Int.toNat_natCast, or_add _ _ _ e4, hr]
  have : (2 : Nat) ^ 7 = 128 := rfl
  rw [this]
  unfold rot
  omega
set_option maxHeartbeats 400000 in
theorem RotL7_any (x r : Nat) (w : World) (hx : x < 4294967296) (hr : r = rot 128 33554432 x) :
    Calls Try.prog 13 #[.int .u32 (x : Int), .int .i64 7] w fun e w' => e = .returned (.int .u32 (r : Int)) ∧ w = w' := by
  have h31 : bits .and .u64 7 31 = 7 := by decide
  have hor := or7 x r hx hr
  clear hr
  go_enter Try.func13, Try.ntmps13
  go_wp2
  go_ret
  exact ⟨rfl, rfl⟩
set_option maxHeartbeats 400000 in
theorem Turned7_any (x r : Nat) (w : World) (hx : x < 4294967296) (hr : r = rot 128 33554432 x) :
    Calls Try.prog 14 #[.int .u32 (x : Int), .int .u64 7] w fun e w' => e = .returned (.int .u32 (r : Int)) ∧ w = w' := by
  have hs : (x : Int) * 128 % 4294967296 + (x : Int) / 33554432 = (r : Int) := by rw [hr]; rfl
  have hr2 : r < 4294967296 := by rw [hr]; exact rot7_lt hx
  clear hr
  go_enter Try.func14, Try.ntmps14
  go_wp2
  go_ret
  exact ⟨rfl, rfl⟩
end Go.Proofs.Ytoehkegbmphlhaa.Ch
