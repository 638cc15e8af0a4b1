/- The walks of chacha. -/
import Derived.Test.YtpcppnoomogloaaFnd
import Derived.Test.YtpcppnoomogloaaPla
import Derived.WalkSmall
import Derived.BigRegion
import Derived.Deep.RegionWith
set_option maxRecDepth 4000
namespace Go.Proofs.Ytpcppnoomogloaa.Ch
set_option linter.unusedSimpArgs false
set_option linter.unusedVariables false
open Go.RowKit


theorem or16 (x r : Nat) (hx : x < 4294967296) (hr : r = rot 65536 65536 x) : bits .or .u32 ((x : Int) * 65536 % 4294967296) ((x : Int) / 65536) = (r : Int) := by
  have e1 : (x : Int) * 65536 % 4294967296 = (((x % 65536) * 2 ^ 16 : Nat) : Int) := by
    have : (2 : Nat) ^ 16 = 65536 := rfl
    rw [this]; omega
  have e2 : (x : Int) / 65536 = ((x / 65536 : Nat) : Int) := rfl
  have e3 : (x % 65536) * 2 ^ 16 < 4294967296 := by
    have : (2 : Nat) ^ 16 = 65536 := rfl
    rw [this]; omega
  have e4 : x / 65536 < 2 ^ 16 := by
    have : (2 : Nat) ^ 16 = 65536 := rfl
    rw [this]; omega
  rw [e1, e2, bits_or .u32 rfl _ _ (Int.natCast_nonneg _) (by show (((x % 65536) * 2 ^ 16 : Nat) : Int) < 4294967296; omega) (Int.natCast_nonneg _) (by show ((x / 65536 : Nat) : Int) < 4294967296; omega), Int.toNat_natCast, Int.toNat_natCast, or_add _ _ _ e4, hr]
  have : (2 : Nat) ^ 16 = 65536 := rfl
  rw [this]
  unfold rot
  omega
set_option maxHeartbeats 400000 in
theorem RotL16_any (x r : Nat) (w : World) (hx : x < 4294967296) (hr : r = rot 65536 65536 x) :
    Calls Try.prog 82 #[.int .u32 (x : Int), .int .i64 16] w fun e w' => e = .returned (.int .u32 (r : Int)) ∧ w = w' := by
  have h31 : bits .and .u64 16 31 = 16 := by decide
  have hor := or16 x r hx hr
  clear hr
  go_enter Try.func82, Try.ntmps82
  go_wp2
  go_ret
  exact ⟨rfl, rfl⟩
set_option maxHeartbeats 400000 in
theorem Turned16_any (x r : Nat) (w : World) (hx : x < 4294967296) (hr : r = rot 65536 65536 x) :
    Calls Try.prog 84 #[.int .u32 (x : Int), .int .u64 16] w fun e w' => e = .returned (.int .u32 (r : Int)) ∧ w = w' := by
  have hs : (x : Int) * 65536 % 4294967296 + (x : Int) / 65536 = (r : Int) := by rw [hr]; rfl
  have hr2 : r < 4294967296 := by rw [hr]; exact rot16_lt hx
  clear hr
  go_enter Try.func84, Try.ntmps84
  go_wp2
  go_ret
  exact ⟨rfl, rfl⟩

theorem or12 (x r : Nat) (hx : x < 4294967296) (hr : r = rot 4096 1048576 x) : bits .or .u32 ((x : Int) * 4096 % 4294967296) ((x : Int) / 1048576) = (r : Int) := by
  have e1 : (x : Int) * 4096 % 4294967296 = (((x % 1048576) * 2 ^ 12 : Nat) : Int) := by
    have : (2 : Nat) ^ 12 = 4096 := rfl
    rw [this]; omega
  have e2 : (x : Int) / 1048576 = ((x / 1048576 : Nat) : Int) := rfl
  have e3 : (x % 1048576) * 2 ^ 12 < 4294967296 := by
    have : (2 : Nat) ^ 12 = 4096 := rfl
    rw [this]; omega
  have e4 : x / 1048576 < 2 ^ 12 := by
    have : (2 : Nat) ^ 12 = 4096 := rfl
    rw [this]; omega
  rw [e1, e2, bits_or .u32 rfl _ _ (Int.natCast_nonneg _) (by show (((x % 1048576) * 2 ^ 12 : Nat) : Int) < 4294967296; omega) (Int.natCast_nonneg _) (by show ((x / 1048576 : Nat) : Int) < 4294967296; omega), Int.toNat_natCast, Int.toNat_natCast, or_add _ _ _ e4, hr]
  have : (2 : Nat) ^ 12 = 4096 := rfl
  rw [this]
  unfold rot
  omega
set_option maxHeartbeats 400000 in
theorem RotL12_any (x r : Nat) (w : World) (hx : x < 4294967296) (hr : r = rot 4096 1048576 x) :
    Calls Try.prog 82 #[.int .u32 (x : Int), .int .i64 12] w fun e w' => e = .returned (.int .u32 (r : Int)) ∧ w = w' := by
  have h31 : bits .and .u64 12 31 = 12 := by decide
  have hor := or12 x r hx hr
  clear hr
  go_enter Try.func82, Try.ntmps82
  go_wp2
  go_ret
  exact ⟨rfl, rfl⟩
set_option maxHeartbeats 400000 in
theorem Turned12_any (x r : Nat) (w : World) (hx : x < 4294967296) (hr : r = rot 4096 1048576 x) :
    Calls Try.prog 84 #[.int .u32 (x : Int), .int .u64 12] w fun e w' => e = .returned (.int .u32 (r : Int)) ∧ w = w' := by
  have hs : (x : Int) * 4096 % 4294967296 + (x : Int) / 1048576 = (r : Int) := by rw [hr]; rfl
  have hr2 : r < 4294967296 := by rw [hr]; exact rot12_lt hx
  clear hr
  go_enter Try.func84, Try.ntmps84
  go_wp2
  go_ret
  exact ⟨rfl, rfl⟩

theorem or8 (x r : Nat) (hx : x < 4294967296) (hr : r = rot 256 16777216 x) : bits .or .u32 ((x : Int) * 256 % 4294967296) ((x : Int) / 16777216) = (r : Int) := by
  have e1 : (x : Int) * 256 % 4294967296 = (((x % 16777216) * 2 ^ 8 : Nat) : Int) := by
    have : (2 : Nat) ^ 8 = 256 := rfl
    rw [this]; omega
  have e2 : (x : Int) / 16777216 = ((x / 16777216 : Nat) : Int) := rfl
  have e3 : (x % 16777216) * 2 ^ 8 < 4294967296 := by
    have : (2 : Nat) ^ 8 = 256 := rfl
    rw [this]; omega
  have e4 : x / 16777216 < 2 ^ 8 := by
    have : (2 : Nat) ^ 8 = 256 := rfl
    rw [this]; omega
  rw [e1, e2, bits_or .u32 rfl _ _ (Int.natCast_nonneg _) (by show (((x % 16777216) * 2 ^ 8 : Nat) : Int) < 4294967296; omega) (Int.natCast_nonneg _) (by show ((x / 16777216 : Nat) : Int) < 4294967296; omega), Int.toNat_natCast, Int.toNat_natCast, or_add _ _ _ e4, hr]
  have : (2 : Nat) ^ 8 = 256 := rfl
  rw [this]
  unfold rot
  omega
set_option maxHeartbeats 400000 in
theorem RotL8_any (x r : Nat) (w : World) (hx : x < 4294967296) (hr : r = rot 256 16777216 x) :
    Calls Try.prog 82 #[.int .u32 (x : Int), .int .i64 8] w fun e w' => e = .returned (.int .u32 (r : Int)) ∧ w = w' := by
  have h31 : bits .and .u64 8 31 = 8 := by decide
  have hor := or8 x r hx hr
  clear hr
  go_enter Try.func82, Try.ntmps82
  go_wp2
  go_ret
  exact ⟨rfl, rfl⟩
set_option maxHeartbeats 400000 in
theorem Turned8_any (x r : Nat) (w : World) (hx : x < 4294967296) (hr : r = rot 256 16777216 x) :
    Calls Try.prog 84 #[.int .u32 (x : Int), .int .u64 8] w fun e w' => e = .returned (.int .u32 (r : Int)) ∧ w = w' := by
  have hs : (x : Int) * 256 % 4294967296 + (x : Int) / 16777216 = (r : Int) := by rw [hr]; rfl
  have hr2 : r < 4294967296 := by rw [hr]; exact rot8_lt hx
  clear hr
  go_enter Try.func84, Try.ntmps84
  go_wp2
  go_ret
  exact ⟨rfl, rfl⟩

theorem or7 (x r : Nat) (hx : x < 4294967296) (hr : r = rot 128 33554432 x) : bits .or .u32 ((x : Int) * 128 % 4294967296) ((x : Int) / 33554432) = (r : Int) := by
  have e1 : (x : Int) * 128 % 4294967296 = (((x % 33554432) * 2 ^ 7 : Nat) : Int) := by
    have : (2 : Nat) ^ 7 = 128 := rfl
    rw [this]; omega
  have e2 : (x : Int) / 33554432 = ((x / 33554432 : Nat) : Int) := rfl
  have e3 : (x % 33554432) * 2 ^ 7 < 4294967296 := by
    have : (2 : Nat) ^ 7 = 128 := rfl
    rw [this]; omega
  have e4 : x / 33554432 < 2 ^ 7 := by
    have : (2 : Nat) ^ 7 = 128 := rfl
    rw [this]; omega
  rw [e1, e2, bits_or .u32 rfl _ _ (Int.natCast_nonneg _) (by show (((x % 33554432) * 2 ^ 7 : Nat) : Int) < 4294967296; omega) (Int.natCast_nonneg _) (by show ((x / 33554432 : Nat) : Int) < 4294967296; omega), Int.toNat_natCast, Int.toNat_natCast, or_add _ _ _ e4, hr]
  have : (2 : Nat) ^ 7 = 128 := rfl
  rw [this]
  unfold rot
  omega
set_option maxHeartbeats 400000 in
theorem RotL7_any (x r : Nat) (w : World) (hx : x < 4294967296) (hr : r = rot 128 33554432 x) :
    Calls Try.prog 82 #[.int .u32 (x : Int), .int .i64 7] w fun e w' => e = .returned (.int .u32 (r : Int)) ∧ w = w' := by
  have h31 : bits .and .u64 7 31 = 7 := by decide
  have hor := or7 x r hx hr
  clear hr
  go_enter Try.func82, Try.ntmps82
  go_wp2
  go_ret
  exact ⟨rfl, rfl⟩
set_option maxHeartbeats 400000 in
theorem Turned7_any (x r : Nat) (w : World) (hx : x < 4294967296) (hr : r = rot 128 33554432 x) :
    Calls Try.prog 84 #[.int .u32 (x : Int), .int .u64 7] w fun e w' => e = .returned (.int .u32 (r : Int)) ∧ w = w' := by
  have hs : (x : Int) * 128 % 4294967296 + (x : Int) / 33554432 = (r : Int) := by rw [hr]; rfl
  have hr2 : r < 4294967296 := by rw [hr]; exact rot7_lt hx
  clear hr
  go_enter Try.func84, Try.ntmps84
  go_wp2
  go_ret
  exact ⟨rfl, rfl⟩
end Go.Proofs.Ytpcppnoomogloaa.Ch

namespace Go.Proofs.Ytpcppnoomogloaa.Ch
set_option linter.unusedSimpArgs false
set_option linter.unusedVariables false
open Go.RowKit

/-- Four numbers as Go hands them back. -/
def tup (x : Four) : Value := .tuple #[.int .u32 (x.a : Int), .int .u32 (x.b : Int), .int .u32 (x.c : Int), .int .u32 (x.d : Int)]
theorem addI (x y r : Nat) (h : r = add x y) : ((x : Int) + (y : Int)) % 4294967296 = (r : Int) := by rw [h]; rfl
theorem xorI (x y r : Nat) (hx : x < 4294967296) (hy : y < 4294967296) (h : r = x ^^^ y) : bits .xor .u32 (x : Int) (y : Int) = (r : Int) := by
  rw [bits_xor .u32 rfl _ _ (by omega) (by show (x : Int) < 4294967296; omega) (by omega) (by show (y : Int) < 4294967296; omega), h]; rfl

/-- Go's loop over the four rotations: every number on the way under a name of its own. -/
theorem steps (a b c d : Nat) (h : Four.ok ⟨a, b, c, d⟩) : ∃ a1 x1 d1 c1 y1 b1 a2 x2 d2 c2 y2 b2 : Nat,
    quarter ⟨a, b, c, d⟩ = ⟨a2, b2, c2, d2⟩ ∧
    (a1 < 4294967296 ∧ x1 < 4294967296 ∧ d1 < 4294967296 ∧ c1 < 4294967296 ∧ y1 < 4294967296 ∧ b1 < 4294967296 ∧ a2 < 4294967296 ∧ x2 < 4294967296 ∧ d2 < 4294967296 ∧ c2 < 4294967296 ∧ y2 < 4294967296 ∧ b2 < 4294967296) ∧
    d1 = rot 65536 65536 x1 ∧ b1 = rot 4096 1048576 y1 ∧ d2 = rot 256 16777216 x2 ∧ b2 = rot 128 33554432 y2 ∧
    ((a : Int) + (b : Int)) % 4294967296 = (a1 : Int) ∧ bits .xor .u32 (d : Int) (a1 : Int) = (x1 : Int) ∧ ((c : Int) + (d1 : Int)) % 4294967296 = (c1 : Int) ∧ bits .xor .u32 (b : Int) (c1 : Int) = (y1 : Int) ∧
    ((a1 : Int) + (b1 : Int)) % 4294967296 = (a2 : Int) ∧ bits .xor .u32 (d1 : Int) (a2 : Int) = (x2 : Int) ∧ ((c1 : Int) + (d2 : Int)) % 4294967296 = (c2 : Int) ∧ bits .xor .u32 (b1 : Int) (c2 : Int) = (y2 : Int) := by
  obtain ⟨h1, h2, h3, h4⟩ := h
  simp only at h1 h2 h3 h4
  have e1 := add_lt a b
  have e2 := xor_lt h4 e1
  have e3 := rot16_lt e2
  have e4 := add_lt c (rot 65536 65536 (d ^^^ add a b))
  have e5 := xor_lt h2 e4
  have e6 := rot12_lt e5
  have e7 := add_lt (add a b) (rot 4096 1048576 (b ^^^ add c (rot 65536 65536 (d ^^^ add a b))))
  have e8 := xor_lt e3 e7
  have e9 := rot8_lt e8
  have e10 := add_lt (add c (rot 65536 65536 (d ^^^ add a b))) (rot 256 16777216 (rot 65536 65536 (d ^^^ add a b) ^^^ add (add a b) (rot 4096 1048576 (b ^^^ add c (rot 65536 65536 (d ^^^ add a b))))))
  have e11 := xor_lt e6 e10
  have e12 := rot7_lt e11
  exact ⟨_, _, _, _, _, _, _, _, _, _, _, _, rfl, ⟨e1, e2, e3, e4, e5, e6, e7, e8, e9, e10, e11, e12⟩, rfl, rfl, rfl, rfl,
    addI _ _ _ rfl, xorI _ _ _ h4 e1 rfl, addI _ _ _ rfl, xorI _ _ _ h2 e4 rfl, addI _ _ _ rfl, xorI _ _ _ e3 e7 rfl, addI _ _ _ rfl, xorI _ _ _ e6 e10 rfl⟩

theorem ix0 (w : World) : (Instr.index 109 (.agg #[.int .i64 16, .int .i64 12, .int .i64 8, .int .i64 7]) (.int .i64 0)).run Try.prog w = .ok (.agg #[.int .i64 16, .int .i64 12]) w := by kernel_rfl
theorem ix1 (w : World) : (Instr.index 109 (.agg #[.int .i64 16, .int .i64 12, .int .i64 8, .int .i64 7]) (.int .i64 1)).run Try.prog w = .ok (.agg #[.int .i64 8, .int .i64 7]) w := by kernel_rfl

set_option maxHeartbeats 1000000 in
theorem Quarter_any (a b c d : Nat) (w : World) (h : Four.ok ⟨a, b, c, d⟩) :
    Calls Try.prog 70 #[.int .u32 (a : Int), .int .u32 (b : Int), .int .u32 (c : Int), .int .u32 (d : Int)] w fun e w' => e = .returned (tup (quarter ⟨a, b, c, d⟩)) ∧ Below w.heap.size w w' := by
  obtain ⟨a1, x1, d1, c1, y1, b1, a2, x2, d2, c2, y2, b2, hq, ⟨l1, l2, l3, l4, l5, l6, l7, l8, l9, l10, l11, l12⟩, r1, r2, r3, r4, A1, X1, C1, Y1, A2, X2, C2, Y2⟩ := steps a b c d h
  have m1 := fun w => RotL16_any x1 d1 w l2 r1
  have m2 := fun w => RotL12_any y1 b1 w l5 r2
  have m3 := fun w => RotL8_any x2 d2 w l8 r3
  have m4 := fun w => RotL7_any y2 b2 w l11 r4
  have M1 := Lib.hid m1
  have M2 := Lib.hid m2
  have M3 := Lib.hid m3
  have M4 := Lib.hid m4
  rw [hq]
  clear hq r1 r2 r3 r4 m1 m2 m3 m4
  have i0 := ix0
  have i1 := ix1
  go_enter Try.func70, Try.ntmps70
  go_wp2_with fail
  refine wp_loop_rounds 3 ?_
  rw [rounds_succ]
  go_wp2_with fail
  refine (M1.out _).mono ?_
  rintro e w' ⟨rfl, rfl⟩
  go_wp2_with fail
  refine (M2.out _).mono ?_
  rintro e w' ⟨rfl, rfl⟩
  go_wp2_with fail
  rw [rounds_succ]
  go_wp2_with fail
  refine (M3.out _).mono ?_
  rintro e w' ⟨rfl, rfl⟩
  go_wp2_with fail
  refine (M4.out _).mono ?_
  rintro e w' ⟨rfl, rfl⟩
  go_wp2_with fail
  rw [rounds_succ]
  go_wp2_with fail
  exact bodyPost_ret (v := tup ⟨a2, b2, c2, d2⟩) (by simp [results, Try.results70, go_sem, tup]) rfl ⟨rfl, xalloc (xnew _ _) _⟩

set_option maxHeartbeats 1000000 in
theorem RefQuarter_any (a b c d : Nat) (w : World) (h : Four.ok ⟨a, b, c, d⟩) :
    Calls Try.prog 78 #[.int .u32 (a : Int), .int .u32 (b : Int), .int .u32 (c : Int), .int .u32 (d : Int)] w fun e w' => e = .returned (tup (quarter ⟨a, b, c, d⟩)) ∧ w = w' := by
  obtain ⟨a1, x1, d1, c1, y1, b1, a2, x2, d2, c2, y2, b2, hq, ⟨l1, l2, l3, l4, l5, l6, l7, l8, l9, l10, l11, l12⟩, r1, r2, r3, r4, A1, X1, C1, Y1, A2, X2, C2, Y2⟩ := steps a b c d h
  have M1 := Lib.hid (fun w => Turned16_any x1 d1 w l2 r1)
  have M2 := Lib.hid (fun w => Turned12_any y1 b1 w l5 r2)
  have M3 := Lib.hid (fun w => Turned8_any x2 d2 w l8 r3)
  have M4 := Lib.hid (fun w => Turned7_any y2 b2 w l11 r4)
  rw [hq]
  clear hq r1 r2 r3 r4
  go_enter Try.func78, Try.ntmps78
  go_wp2_with fail
  refine (M1.out _).mono ?_
  rintro e w' ⟨rfl, rfl⟩
  go_wp2_with fail
  refine (M2.out _).mono ?_
  rintro e w' ⟨rfl, rfl⟩
  go_wp2_with fail
  refine (M3.out _).mono ?_
  rintro e w' ⟨rfl, rfl⟩
  go_wp2_with fail
  refine (M4.out _).mono ?_
  rintro e w' ⟨rfl, rfl⟩
  go_wp2_with fail
  exact bodyPost_ret (v := tup ⟨a2, b2, c2, d2⟩) (by simp [results, Try.results78, go_sem, tup]) rfl ⟨rfl, rfl⟩
end Go.Proofs.Ytpcppnoomogloaa.Ch

namespace Go.Proofs.Ytpcppnoomogloaa.Ch
set_option linter.unusedSimpArgs false
set_option linter.unusedVariables false
open Go.RowKit

/-- The first k bytes of the number at place i. -/
def part (bs : List Nat) (i : Nat) : Nat → Nat
  | 0 => 0
  | k + 1 => part bs i k + bs.getD (4 * i + k) 0 * 256 ^ k
theorem part4 (bs : List Nat) (i : Nat) : part bs i 4 = num bs i := by simp [part, num]; omega
theorem nums_succ (bs : List Nat) (i : Nat) : nums bs (i + 1) = nums bs i ++ [num bs i] := by simp [nums, List.range_succ]
theorem nums_length (bs : List Nat) (i : Nat) : (nums bs i).length = i := by simp [nums]
theorem or_part (p x n : Nat) (hp : p < 2 ^ n) (hx : x * 2 ^ n + p < 4294967296) : bits .or .u32 (p : Int) (((x * 2 ^ n : Nat) : Int)) = ((p + x * 2 ^ n : Nat) : Int) := by
  rw [bits_or .u32 rfl _ _ (by omega) (by show (p : Int) < 4294967296; omega) (by omega) (by show ((x * 2 ^ n : Nat) : Int) < 4294967296; omega), Int.toNat_natCast, Int.toNat_natCast, Nat.or_comm, or_add _ _ _ hp, Nat.add_comm]
def row (bs pre post : List Nat) (n i k : Nat) : List Nat := pre ++ (nums bs i ++ part bs i k :: List.replicate (n - i - 1) 0) ++ post
theorem row_get (bs pre post : List Nat) (n i k : Nat) : (row bs pre post n i k).getD (pre.length + i) 0 = part bs i k := by
  unfold row
  have h : i < (nums bs i ++ part bs i k :: List.replicate (n - i - 1) 0).length := by simp [nums_length]
  rw [mid_get _ _ _ _ h, List.getD_eq_getElem?_getD, List.getElem?_append_right (Nat.le_of_eq (nums_length bs i))]
  simp [nums_length]
theorem row_length (bs pre post : List Nat) (n i k : Nat) : pre.length + i < (row bs pre post n i k).length := by
  unfold row; simp [nums_length]
theorem row_set (bs pre post : List Nat) (n i k v : Nat) (hv : v = part bs i (k + 1)) : (row bs pre post n i k).set (pre.length + i) v = row bs pre post n i (k + 1) := by
  subst hv
  unfold row
  rw [mid_set _ _ _ _ _ (by simp [nums_length])]
  rw [List.set_append_right _ _ (by simp [nums_length])]
  simp [nums_length]
theorem row_start (bs pre post : List Nat) (n i : Nat) (h : i < n) : row bs pre post n i 0 = pre ++ (nums bs i ++ List.replicate (n - i) 0) ++ post := by
  unfold row
  obtain ⟨m, hm⟩ : ∃ m, n - i = m + 1 := ⟨n - i - 1, by omega⟩
  have : n - i - 1 = m := by omega
  rw [this, hm, List.replicate_succ]; rfl
theorem row_end (bs pre post : List Nat) (n i : Nat) : row bs pre post n i 4 = pre ++ (nums bs (i + 1) ++ List.replicate (n - (i + 1)) 0) ++ post := by
  unfold row
  rw [nums_succ, part4, List.append_assoc, show n - (i + 1) = n - i - 1 from by omega]; simp

theorem part_lt (bs : List Nat) (hb : ∀ x ∈ bs, x < 256) (i : Nat) : part bs i 1 < 256 ∧ part bs i 2 < 65536 ∧ part bs i 3 < 16777216 ∧ part bs i 4 < 4294967296 := by
  have h0 := getD_b bs hb (4 * i)
  have h1 := getD_b bs hb (4 * i + 1)
  have h2 := getD_b bs hb (4 * i + 2)
  have h3 := getD_b bs hb (4 * i + 3)
  simp only [part, Nat.add_zero]; omega

set_option maxHeartbeats 2000000 in
theorem numbers_any (w : World) (te : TypeId) (Bo n cap : Nat) (pre post : List Nat) (b off bl bc : Nat) (bs : List Nat) (hB : Blk w Bo te .u32 (pre ++ List.replicate n 0 ++ post)) (hne : b ≠ Bo)
    (hr : RdB w (some ⟨b, off, none⟩) bl bc bs) (h4 : bl = 4 * n) (hn : n ≤ 16) (hn0 : 0 < n) :
    Calls Try.prog 69 #[.slice (some ⟨Bo, pre.length, none⟩) n cap, .slice (some ⟨b, off, none⟩) bl bc] w fun e w' =>
      e = .returned (.tuple #[]) ∧ Blk w' Bo te .u32 (pre ++ nums bs n ++ post) ∧ w.grownBy w' (some Bo) := by
  obtain ⟨_, k1, k2, k3, hb, _, k6⟩ := hr
  rcases k6 with k6 | ⟨b', off', he, hblt, hc⟩
  · omega
  obtain ⟨rfl, rfl, _⟩ := Addr.mk.inj (Option.some.inj he)
  subst h4
  go_enter Try.func69, Try.ntmps69
  go_wp2_with fail
  go_loopw [8] (fun i wr => ∃ m : Nat, m ≤ n ∧ i = .int .i64 m ∧ Blk wr Bo te .u32 (pre ++ (nums bs m ++ List.replicate (n - m) 0) ++ post) ∧ w.grownBy wr (some Bo)) (fun i _ => n - (intOf i).toNat)
  case atStart => exact ⟨0, Nat.zero_le _, rfl, by simpa [nums] using hB, World.grownBy.refl _ _⟩
  case round =>
    obtain ⟨m, hm, rfl, hBm, hgm⟩ := hrel
    by_cases hlt : m < n
    · rw [← row_start _ _ _ _ _ hlt] at hBm
      go_wp2_with fail
      obtain ⟨wo, hwo⟩ : ∃ wo : World, wo = wr := ⟨_, rfl⟩
      go_loopw [11] (fun j wr => ∃ k : Nat, k ≤ 4 ∧ j = .int .i64 k ∧ Blk wr Bo te .u32 (row bs pre post n m k) ∧ w.grownBy wr (some Bo)) (fun j _ => 4 - (intOf j).toNat)
      case atStart => exact ⟨0, by decide, rfl, hBm, hgm⟩
      case round =>
        clear hBm hgm
        obtain ⟨k, hk, rfl, hBk, hgk⟩ := hrel
        by_cases hk4 : k < 4
        · have hcell := hBk.cell (pre.length + m) (row_length _ _ _ _ _ _)
          rw [row_get] at hcell
          have hfrz := hBk.frozen (pre.length + m)
          have hbc : wr.cell? ⟨b, off + (4 * m + k), none⟩ = some (.int .u8 ((bs.getD (4 * m + k) 0 : Nat) : Int)) :=
            (World.cell?_of_block (w := w) (hgk.block b hblt (fun e => hne (Option.some.inj e)))).trans (hc (4 * m + k) (by omega))
          have hx := getD_b bs hb (4 * m + k)
          obtain ⟨p1, p2, p3, p4⟩ := part_lt bs hb m
          obtain ⟨q', hq'0⟩ : ∃ q', q' = part bs m (k + 1) := ⟨_, rfl⟩
          have HQ := Lib.hid hq'0
          have hq' : q' = part bs m k + bs.getD (4 * m + k) 0 * 256 ^ k := hq'0
          clear hq'0
          obtain ⟨x, hxd⟩ : ∃ x, x = bs.getD (4 * m + k) 0 := ⟨_, rfl⟩
          obtain ⟨q, hqd⟩ : ∃ q, q = part bs m k := ⟨_, rfl⟩
          rw [← hxd] at hx hbc hq'
          rw [← hqd] at hcell hq'
          clear hxd
          rcases (show k = 0 ∨ k = 1 ∨ k = 2 ∨ k = 3 from by omega) with rfl | rfl | rfl | rfl
          · simp only [Nat.add_zero] at hbc
            have hor : bits .or .u32 ((q : Nat) : Int) ((x : Int)) = (q' : Int) := by
              rw [hq']
              have := or_part q x 0 (by rw [hqd]; simp [part]) (by rw [hqd]; simp only [part]; omega)
              simpa using this
            clear hq' hqd p1 p2 p3 p4
            go_wp2_with fail
            go_region
            all_goals (go_wp2_with fail)
            all_goals exact ⟨⟨1, by decide, rfl, by rw [← row_set bs pre post n m 0 q' HQ.out]; exact (hBk.drewN 1).set _ _, gset (gdrewN hgk 1) _ _⟩, by simp [intOf]⟩
          · have hor : bits .or .u32 ((q : Nat) : Int) ((x : Int) * 256) = (q' : Int) := by
              rw [hq']
              have := or_part q x 8 (by have := p1; rw [← hqd] at this; omega) (by have := p1; rw [← hqd] at this; omega)
              simpa using this
            clear hq' hqd p1 p2 p3 p4
            go_wp2_with fail
            go_region
            all_goals (go_wp2_with fail)
            all_goals exact ⟨⟨2, by decide, rfl, by rw [← row_set bs pre post n m 1 q' HQ.out]; exact (hBk.drewN 1).set _ _, gset (gdrewN hgk 1) _ _⟩, by simp [intOf]⟩
          · have hor : bits .or .u32 ((q : Nat) : Int) ((x : Int) * 65536) = (q' : Int) := by
              rw [hq']
              have := or_part q x 16 (by have := p2; rw [← hqd] at this; omega) (by have := p2; rw [← hqd] at this; omega)
              simpa using this
            clear hq' hqd p1 p2 p3 p4
            go_wp2_with fail
            go_region
            all_goals (go_wp2_with fail)
            all_goals exact ⟨⟨3, by decide, rfl, by rw [← row_set bs pre post n m 2 q' HQ.out]; exact (hBk.drewN 1).set _ _, gset (gdrewN hgk 1) _ _⟩, by simp [intOf]⟩
          · have hor : bits .or .u32 ((q : Nat) : Int) ((x : Int) * 16777216) = (q' : Int) := by
              rw [hq']
              have := or_part q x 24 (by have := p3; rw [← hqd] at this; omega) (by have := p3; rw [← hqd] at this; omega)
              simpa using this
            clear hq' hqd p1 p2 p3 p4
            go_wp2_with fail
            go_region
            all_goals (go_wp2_with fail)
            all_goals exact ⟨⟨4, by decide, rfl, by rw [← row_set bs pre post n m 3 q' HQ.out]; exact (hBk.drewN 1).set _ _, gset (gdrewN hgk 1) _ _⟩, by simp [intOf]⟩
        · obtain rfl : k = 4 := by omega
          rw [row_end] at hBk
          go_wp2_with fail
          exact ⟨⟨m + 1, by omega, by go_num, hBk, hgk⟩, by simp [intOf]; omega⟩
    · obtain rfl : m = n := by omega
      go_wp2_with fail
      go_end0
      refine ⟨rfl, ?_, hgm⟩
      simpa using hBm
end Go.Proofs.Ytpcppnoomogloaa.Ch

namespace Go.Proofs.Ytpcppnoomogloaa.Ch
set_option linter.unusedSimpArgs false
set_option linter.unusedVariables false
open Go.RowKit

theorem info32 : ∃ i0, Try.prog.info? 29 = some i0 ∧ i0.size = 1 := ⟨_, rfl, by kernel_rfl⟩

set_option maxRecDepth 100000 in
set_option maxHeartbeats 1500000 in
theorem Block_any (w : World) (key nonce : List Nat) (counter : Nat) (hk : key.length = 32) (hkb : ∀ x ∈ key, x < 256) (hn : nonce.length = 12) (hnb : ∀ x ∈ nonce, x < 256) (hc : counter < 4294967296) :
    Calls Try.prog 61 #[.agg (bv key).toArray, .int .u32 (counter : Int), .agg (bv nonce).toArray] w fun e w' => e = .returned (.agg (bv (block key counter nonce)).toArray) ∧ Below w.heap.size w w' := by
  obtain ⟨s0, hs0⟩ : ∃ s0, s0 = start key counter nonce := ⟨_, rfl⟩
  have hst : okS s0 := hs0 ▸ start_ok key counter nonce hkb hc hnb
  have hblk : block key counter nonce = outBytes s0 (rounds10 s0 10) := by rw [hs0]; exact block_eq _ _ _
  rw [hblk]
  have HS0 := Lib.hid hs0
  clear hblk hs0
  go_enter Try.func61, Try.ntmps61
  go_wp2_with fail
  refine at_world (fun W => Blk W w.heap.size 35 .u8 key ∧ Blk W (w.heap.size + 1) 62 .u8 nonce ∧ Blk W (w.heap.size + 1 + 1) 83 .u8 (List.replicate 64 0) ∧
      Blk W (w.heap.size + 1 + 1 + 1) 91 .u32 ([1634760805, 857760878, 2036477234, 1797285236] ++ List.replicate 8 0 ++ [counter, 0, 0, 0]) ∧ Below w.heap.size w W ∧ W.heap.size = w.heap.size + 1 + 1 + 1 + 1) ?_ ?_
  · refine ⟨(((Blk.new w _ _ key _ rfl).alloc _).alloc _).alloc _, ?_, ?_, ?_, xalloc (xalloc (xalloc (xnew _ _) _) _) _, by simp⟩
    · have := (((Blk.new (w.alloc (.cells (bv key).toArray 35)) 62 .u8 nonce _ rfl).alloc (.cells (nv .u8 (List.replicate 64 0)).toArray 83)).alloc (.cells (nv .u32 ([1634760805, 857760878, 2036477234, 1797285236] ++ List.replicate 8 0 ++ [counter, 0, 0, 0])).toArray 91))
      rw [World.size_alloc] at this
      exact this
    · have := (Blk.new ((w.alloc (.cells (bv key).toArray 35)).alloc (.cells (bv nonce).toArray 62)) 83 .u8 (List.replicate 64 0) _ rfl).alloc (.cells (nv .u32 ([1634760805, 857760878, 2036477234, 1797285236] ++ List.replicate 8 0 ++ [counter, 0, 0, 0])).toArray 91)
      rw [World.size_alloc, World.size_alloc] at this
      exact this
    · have := (Blk.new (((w.alloc (.cells (bv key).toArray 35)).alloc (.cells (bv nonce).toArray 62)).alloc (.cells (nv .u8 (List.replicate 64 0)).toArray 83)) 91 .u32 ([1634760805, 857760878, 2036477234, 1797285236] ++ List.replicate 8 0 ++ [counter, 0, 0, 0]) _ rfl)
      rw [World.size_alloc, World.size_alloc, World.size_alloc] at this
      exact this
  rintro W ⟨hKey, hNon, hOut, hWas, hB, hsz⟩
  have c1 := Lib.hid (fun W' (h1 : Blk W' (w.heap.size + 1 + 1 + 1) 91 .u32 ([1634760805, 857760878, 2036477234, 1797285236] ++ List.replicate 8 0 ++ [counter, 0, 0, 0])) (h2 : Blk W' w.heap.size 35 .u8 key) =>
    numbers_any W' 91 (w.heap.size + 1 + 1 + 1) 8 12 [1634760805, 857760878, 2036477234, 1797285236] [counter, 0, 0, 0] w.heap.size 0 32 32 key h1 (by omega) (h2.rd 32 hk hkb (by decide)) rfl (by decide) (by decide))
  go_region_with (go_at_call 69; refine (c1.out _ (hWas.drewN 1) (hKey.drewN 1)).mono ?_; rintro e W1 ⟨rfl, hWas1, hg1⟩)
  have hS1 := hg1.size
  have hB1 : Below w.heap.size w W1 := gbelow (below_drewN hB 1) hg1 (by omega)
  have hsz1 : w.heap.size + 1 + 1 + 1 + 1 ≤ W1.heap.size := by have : (W.drewN 1).heap.size = W.heap.size := rfl; omega
  have hKey1 : Blk W1 w.heap.size 35 .u8 key := (hKey.drewN 1).grown hg1 (ne_some (by omega))
  have hNon1 : Blk W1 (w.heap.size + 1) 62 .u8 nonce := (hNon.drewN 1).grown hg1 (ne_some (by omega))
  have hOut1 : Blk W1 (w.heap.size + 1 + 1) 83 .u8 (List.replicate 64 0) := (hOut.drewN 1).grown hg1 (ne_some (by omega))
  have hWas1' : Blk W1 (w.heap.size + 1 + 1 + 1) 91 .u32 (([1634760805, 857760878, 2036477234, 1797285236] ++ nums key 8 ++ [counter]) ++ List.replicate 3 0 ++ []) := by
    have e : ([1634760805, 857760878, 2036477234, 1797285236] ++ nums key 8 ++ [counter]) ++ List.replicate 3 0 ++ [] = [1634760805, 857760878, 2036477234, 1797285236] ++ nums key 8 ++ [counter, 0, 0, 0] := by simp [List.replicate]
    rw [e]; exact hWas1
  have c2 := Lib.hid (fun W' (h1 : Blk W' (w.heap.size + 1 + 1 + 1) 91 .u32 (([1634760805, 857760878, 2036477234, 1797285236] ++ nums key 8 ++ [counter]) ++ List.replicate 3 0 ++ [])) (h2 : Blk W' (w.heap.size + 1) 62 .u8 nonce) =>
    numbers_any W' 91 (w.heap.size + 1 + 1 + 1) 3 3 ([1634760805, 857760878, 2036477234, 1797285236] ++ nums key 8 ++ [counter]) [] (w.heap.size + 1) 0 12 12 nonce h1 (by omega) (h2.rd 12 hn hnb (by decide)) rfl (by decide) (by decide))
  clear hKey hNon hOut hWas hB hsz hg1 hWas1 c1 hS1
  go_wp2_with fail
  go_region_with (go_at_call 69; refine (c2.out _ (hWas1'.drewN 1) (hNon1.drewN 1)).mono ?_; rintro e W2 ⟨rfl, hWas2, hg2⟩)
  have hB2 : Below w.heap.size w W2 := gbelow (below_drewN hB1 1) hg2 (by omega)
  have hsz2 : w.heap.size + 1 + 1 + 1 + 1 ≤ W2.heap.size := by have := hg2.size; have : (W1.drewN 1).heap.size = W1.heap.size := rfl; omega
  have hOut2 : Blk W2 (w.heap.size + 1 + 1) 83 .u8 (List.replicate 64 0) := (hOut1.drewN 1).grown hg2 (ne_some (by omega))
  have hWas3 : Blk W2 (w.heap.size + 1 + 1 + 1) 91 .u32 (start key counter nonce) := by
    have e : start key counter nonce = ([1634760805, 857760878, 2036477234, 1797285236] ++ nums key 8 ++ [counter]) ++ nums nonce 3 ++ [] := by unfold start; simp
    rw [e]; exact hWas2
  rw [← HS0.out] at hWas3
  clear hKey1 hNon1 hOut1 hWas1' hB1 hsz1 hg2 hWas2 c2 HS0
  have HZ2 : Hid ((nv .u32 s0).toArray.size = 16) := Lib.hid (by simp [nv, hst.1])
  have HZ1 : Hid ((Try.prog.info? 91).map (·.size) = some (nv .u32 s0).toArray.size) := Lib.hid (by rw [HZ2.out]; kernel_rfl)
  go_wp2_with (first
    | (refine wp_load_arr rfl 91 (.tmp 7) rfl (w.heap.size + 1 + 1 + 1) rfl hWas3 16 29 Try.underlying91 (by rw [hst.1]; kernel_rfl) ?_)
    | (refine wp_store_new rfl 91 (.tmp 8) (.tmp 25) rfl rfl _ (nv .u32 s0).toArray rfl HZ1.out HZ2.out.symm (nv_one _ _) ?_)
    | fail)
  obtain ⟨Bs, hBs⟩ : ∃ Bs, Bs = W2.heap.size := ⟨_, rfl⟩
  refine at_world (fun W => Blk W Bs 91 .u32 s0 ∧ Blk W (w.heap.size + 1 + 1) 83 .u8 (List.replicate 64 0) ∧ Blk W (w.heap.size + 1 + 1 + 1) 91 .u32 s0 ∧ Below w.heap.size w W) ⟨hBs ▸ Blk.new W2 _ _ s0 _ rfl, hOut2.alloc _, hWas3.alloc _, xalloc hB2 _⟩ ?_
  rintro W3 ⟨hS, hO, hW, hB3⟩
  have hBs' : w.heap.size + 1 + 1 + 1 < Bs := by omega
  rw [← hBs]
  clear hOut2 hWas3 hB2 hsz2 hBs
  go_loopw [26] (fun r wr => ∃ n : Nat, n ≤ 10 ∧ r = .int .i64 n ∧ Blk wr Bs 91 .u32 (rounds10 s0 n) ∧ Blk wr (w.heap.size + 1 + 1) 83 .u8 (List.replicate 64 0) ∧ Blk wr (w.heap.size + 1 + 1 + 1) 91 .u32 s0 ∧ Below w.heap.size w wr) (fun r _ => 10 - (intOf r).toNat)
  case atStart => exact ⟨0, by decide, rfl, by rw [rounds10_zero]; exact hS, hO, hW, hB3⟩
  case round =>
    clear hS hO hW hB3
    obtain ⟨n, hn10, rfl, hS, hO, hW, hB3⟩ := hrel
    by_cases hlt : n < 10
    · go_wp2_with fail
      obtain ⟨wo, hwo⟩ : ∃ wo : World, wo = wr := ⟨_, rfl⟩
      rw [← hwo] at hS hO hW hB3 ⊢
      clear hwo
      have hsr := rounds10_ok hst n
      have HS2 := Lib.hid (rounds10_succ s0 n)
      generalize rounds10 s0 n = sr at hS hsr HS2
      go_loopw [28] (fun r wr => ∃ t : Nat, t ≤ 2 ∧ r = .int .i64 t ∧ Blk wr Bs 91 .u32 (turns2 sr t) ∧ Blk wr (w.heap.size + 1 + 1) 83 .u8 (List.replicate 64 0) ∧ Blk wr (w.heap.size + 1 + 1 + 1) 91 .u32 s0 ∧ Below w.heap.size w wr) (fun r _ => 2 - (intOf r).toNat)
      case atStart => exact ⟨0, by decide, rfl, by rw [turns2_zero]; exact hS, hO, hW, hB3⟩
      case round =>
        clear hS hO hW hB3
        obtain ⟨t, ht2, rfl, hS, hO, hW, hB3⟩ := hrel
        by_cases hltt : t < 2
        · go_wp2_with fail
          obtain ⟨wo3, hwo⟩ : ∃ wo : World, wo = wr := ⟨_, rfl⟩
          rw [← hwo] at hS hO hW hB3 ⊢
          clear hwo
          have hst2 := turns2_ok hsr t
          have HT2 := Lib.hid (turns2_succ sr t)
          generalize turns2 sr t = st at hS hst2 HT2
          go_loopw [31] (fun r wr => ∃ i : Nat, i ≤ 4 ∧ r = .int .i64 i ∧ Blk wr Bs 91 .u32 (steps4 st t i) ∧ Blk wr (w.heap.size + 1 + 1) 83 .u8 (List.replicate 64 0) ∧ Blk wr (w.heap.size + 1 + 1 + 1) 91 .u32 s0 ∧ Below w.heap.size w wr) (fun r _ => 4 - (intOf r).toNat)
          case atStart => exact ⟨0, by decide, rfl, by rw [steps4_zero]; exact hS, hO, hW, hB3⟩
          case round =>
            clear hS hO hW hB3
            obtain ⟨i, hi4, rfl, hS, hO, hW, hB3⟩ := hrel
            by_cases hlti : i < 4
            · have hsi := steps4_ok hst2 t i
              have HI2 := Lib.hid (steps4_succ st t i)
              generalize steps4 st t i = si at hS hsi HI2
              obtain ⟨b, hb⟩ : ∃ b, b = 4 + (i + t) % 4 := ⟨_, rfl⟩
              obtain ⟨c, hcc⟩ : ∃ c, c = 8 + (i + 2 * t) % 4 := ⟨_, rfl⟩
              obtain ⟨d, hd⟩ : ∃ d, d = 12 + (i + 3 * t) % 4 := ⟨_, rfl⟩
              have eb : (4 : Int) + ((i : Int) + (t : Int)) % 4 = (b : Int) := by omega
              have ec : (8 : Int) + ((i : Int) + 2 * (t : Int)) % 4 = (c : Int) := by omega
              have ed : (12 : Int) + ((i : Int) + 3 * (t : Int)) % 4 = (d : Int) := by omega
              have b1 : b < 16 := by omega
              have c1 : c < 16 := by omega
              have d1 : d < 16 := by omega
              rw [step_eq, ← hb, ← hcc, ← hd] at HI2
              clear hb hcc hd
              obtain ⟨q, hq⟩ : ∃ q, q = quarter ⟨si.getD i 0, si.getD b 0, si.getD c 0, si.getD d 0⟩ := ⟨_, rfl⟩
              have HQ := Lib.hid (qs_eq si i b c d q hq)
              have h1 := okS_get hsi i
              have h2 := okS_get hsi b
              have h3 := okS_get hsi c
              have h4 := okS_get hsi d
              have hqok := quarter_ok (x := ⟨si.getD i 0, si.getD b 0, si.getD c 0, si.getD d 0⟩) ⟨h1, h2, h3, h4⟩
              rw [← hq] at hqok
              have cq := Lib.hid (fun W => Quarter_any (si.getD i 0) (si.getD b 0) (si.getD c 0) (si.getD d 0) W ⟨h1, h2, h3, h4⟩)
              rw [← hq] at cq
              have l0 := hS.cell i (by rw [hsi.1]; omega)
              have l1 := hS.cell b (by rw [hsi.1]; omega)
              have l2 := hS.cell c (by rw [hsi.1]; omega)
              have l3 := hS.cell d (by rw [hsi.1]; omega)
              clear hq h1 h2 h3 h4
              go_wp2_with fail
              obtain ⟨i0, hi0⟩ := info32
              refine wp_region_any (by kernel_rfl) ?_
              change wpAny _ _ _ _ _ _ _ (World.drew _)
              refine wpAny_step (i := 0) (d := 52) (v := .int .i64 (i : Int)) rfl rfl (by kernel_rfl) (by kernel_rfl) (by kernel_rfl) (fun _ _ _ h => h) (yields_move rfl rfl (by kernel_rfl)) ?_
              refine wpAny_step (i := 1) (d := 53) (v := .int .i64 (b : Int)) rfl rfl (by kernel_rfl) (by kernel_rfl) (by kernel_rfl) (fun _ _ _ h => h) (yields_move rfl rfl (by kernel_rfl)) ?_
              refine wpAny_step (i := 2) (d := 54) (v := .int .i64 (c : Int)) rfl rfl (by kernel_rfl) (by kernel_rfl) (by kernel_rfl) (fun _ _ _ h => h) (yields_move rfl rfl (by kernel_rfl)) ?_
              refine wpAny_step (i := 3) (d := 55) (v := .int .i64 (d : Int)) rfl rfl (by kernel_rfl) (by kernel_rfl) (by kernel_rfl) (fun _ _ _ h => h) (yields_move rfl rfl (by kernel_rfl)) ?_
              refine wpAny_step (i := 4) (d := 56) (v := .int .i64 (i : Int)) rfl rfl (by kernel_rfl) (by kernel_rfl) (by kernel_rfl) (fun _ _ _ h => h) (yields_move rfl rfl (by kernel_rfl)) ?_
              refine wpAny_step (i := 5) (d := 57) (v := .pointer (some ⟨Bs, i, none⟩)) rfl rfl (by kernel_rfl) (by kernel_rfl) (by kernel_rfl) (fun _ _ _ h => h) (yields_indexAddr (x := .tmp 8) rfl rfl (by kernel_rfl) (by kernel_rfl) Try.underlying91 hi0.1 hi0.2 (by omega)) ?_
              refine wpAny_step (i := 7) (d := 59) (v := .int .i64 (b : Int)) rfl rfl (by kernel_rfl) (by kernel_rfl) (by kernel_rfl) (fun _ _ _ h => h) (yields_move rfl rfl (by kernel_rfl)) ?_
              refine wpAny_step (i := 8) (d := 60) (v := .pointer (some ⟨Bs, b, none⟩)) rfl rfl (by kernel_rfl) (by kernel_rfl) (by kernel_rfl) (fun _ _ _ h => h) (yields_indexAddr (x := .tmp 8) rfl rfl (by kernel_rfl) (by kernel_rfl) Try.underlying91 hi0.1 hi0.2 (by omega)) ?_
              refine wpAny_step (i := 10) (d := 62) (v := .int .i64 (c : Int)) rfl rfl (by kernel_rfl) (by kernel_rfl) (by kernel_rfl) (fun _ _ _ h => h) (yields_move rfl rfl (by kernel_rfl)) ?_
              refine wpAny_step (i := 11) (d := 63) (v := .pointer (some ⟨Bs, c, none⟩)) rfl rfl (by kernel_rfl) (by kernel_rfl) (by kernel_rfl) (fun _ _ _ h => h) (yields_indexAddr (x := .tmp 8) rfl rfl (by kernel_rfl) (by kernel_rfl) Try.underlying91 hi0.1 hi0.2 (by omega)) ?_
              refine wpAny_step (i := 13) (d := 65) (v := .int .i64 (d : Int)) rfl rfl (by kernel_rfl) (by kernel_rfl) (by kernel_rfl) (fun _ _ _ h => h) (yields_move rfl rfl (by kernel_rfl)) ?_
              refine wpAny_step (i := 14) (d := 66) (v := .pointer (some ⟨Bs, d, none⟩)) rfl rfl (by kernel_rfl) (by kernel_rfl) (by kernel_rfl) (fun _ _ _ h => h) (yields_indexAddr (x := .tmp 8) rfl rfl (by kernel_rfl) (by kernel_rfl) Try.underlying91 hi0.1 hi0.2 (by omega)) ?_
              refine wpAny_step4 (by kernel_rfl) 6 9 12 15 58 61 64 67 (.int .u32 ((si.getD i 0 : Nat) : Int)) (.int .u32 ((si.getD b 0 : Nat) : Int)) (.int .u32 ((si.getD c 0 : Nat) : Int)) (.int .u32 ((si.getD d 0 : Nat) : Int)) (by decide) (by kernel_rfl) (by kernel_rfl) rfl rfl rfl rfl rfl rfl rfl rfl (at_load rfl rfl (by kernel_rfl) Try.underlying29 l0) (at_load rfl rfl (by kernel_rfl) Try.underlying29 l1) (at_load rfl rfl (by kernel_rfl) Try.underlying29 l2) (at_load rfl rfl (by kernel_rfl) Try.underlying29 l3) ?_
              refine wpAny_call (i := 16) (d := some 68) (by kernel_rfl) rfl rfl rfl (by kernel_rfl) (cq.out _) (fun wq hbq => ?_)
              have hS0 := (hS.drewN 1).below hbq
              refine wpAny_step (i := 17) (d := 51) (v := tup q) rfl rfl (by kernel_rfl) (by kernel_rfl) (by kernel_rfl) (fun _ _ _ h => h) (yields_move rfl rfl (by kernel_rfl)) ?_
              refine wpAny_step (i := 18) (d := 69) (v := .int .u32 ((q.a : Nat) : Int)) rfl rfl (by kernel_rfl) (by kernel_rfl) (by kernel_rfl) (fun _ _ _ h => h) (yields_extract (vs := #[.int .u32 (q.a : Int), .int .u32 (q.b : Int), .int .u32 (q.c : Int), .int .u32 (q.d : Int)]) rfl rfl (by kernel_rfl) rfl) ?_
              refine wpAny_step (i := 19) (d := 70) (v := .int .u32 ((q.b : Nat) : Int)) rfl rfl (by kernel_rfl) (by kernel_rfl) (by kernel_rfl) (fun _ _ _ h => h) (yields_extract (vs := #[.int .u32 (q.a : Int), .int .u32 (q.b : Int), .int .u32 (q.c : Int), .int .u32 (q.d : Int)]) rfl rfl (by kernel_rfl) rfl) ?_
              refine wpAny_step (i := 20) (d := 71) (v := .int .u32 ((q.c : Nat) : Int)) rfl rfl (by kernel_rfl) (by kernel_rfl) (by kernel_rfl) (fun _ _ _ h => h) (yields_extract (vs := #[.int .u32 (q.a : Int), .int .u32 (q.b : Int), .int .u32 (q.c : Int), .int .u32 (q.d : Int)]) rfl rfl (by kernel_rfl) rfl) ?_
              refine wpAny_step (i := 21) (d := 72) (v := .int .u32 ((q.d : Nat) : Int)) rfl rfl (by kernel_rfl) (by kernel_rfl) (by kernel_rfl) (fun _ _ _ h => h) (yields_extract (vs := #[.int .u32 (q.a : Int), .int .u32 (q.b : Int), .int .u32 (q.c : Int), .int .u32 (q.d : Int)]) rfl rfl (by kernel_rfl) rfl) ?_
              refine wpAny_step (i := 22) (d := 73) (v := .pointer (some ⟨Bs, i, none⟩)) rfl rfl (by kernel_rfl) (by kernel_rfl) (by kernel_rfl) (fun _ _ _ h => h) (yields_indexAddr (x := .tmp 8) rfl rfl (by kernel_rfl) (by kernel_rfl) Try.underlying91 hi0.1 hi0.2 (by omega)) ?_
              have m0 := hS0.cell i (by simp [hsi.1]; omega)
              refine wpAny_store (i := 23) (ad := ⟨Bs, i, none⟩) (k := .u32) (n := (q.a : Nat)) (by kernel_rfl) rfl rfl rfl rfl (by kernel_rfl) (by kernel_rfl) hi0.1 hi0.2 (m0) (hS0.frozen i) ?_
              have hS1 := hS0.set i q.a
              refine wpAny_step (i := 24) (d := 74) (v := .pointer (some ⟨Bs, b, none⟩)) rfl rfl (by kernel_rfl) (by kernel_rfl) (by kernel_rfl) (fun _ _ _ h => h) (yields_indexAddr (x := .tmp 8) rfl rfl (by kernel_rfl) (by kernel_rfl) Try.underlying91 hi0.1 hi0.2 (by omega)) ?_
              have m1 := hS1.cell b (by simp [hsi.1]; omega)
              refine wpAny_store (i := 25) (ad := ⟨Bs, b, none⟩) (k := .u32) (n := (q.b : Nat)) (by kernel_rfl) rfl rfl rfl rfl (by kernel_rfl) (by kernel_rfl) hi0.1 hi0.2 (m1) (hS1.frozen b) ?_
              have hS2 := hS1.set b q.b
              refine wpAny_step (i := 26) (d := 75) (v := .pointer (some ⟨Bs, c, none⟩)) rfl rfl (by kernel_rfl) (by kernel_rfl) (by kernel_rfl) (fun _ _ _ h => h) (yields_indexAddr (x := .tmp 8) rfl rfl (by kernel_rfl) (by kernel_rfl) Try.underlying91 hi0.1 hi0.2 (by omega)) ?_
              have m2 := hS2.cell c (by simp [hsi.1]; omega)
              refine wpAny_store (i := 27) (ad := ⟨Bs, c, none⟩) (k := .u32) (n := (q.c : Nat)) (by kernel_rfl) rfl rfl rfl rfl (by kernel_rfl) (by kernel_rfl) hi0.1 hi0.2 (m2) (hS2.frozen c) ?_
              have hS3 := hS2.set c q.c
              refine wpAny_step (i := 28) (d := 76) (v := .pointer (some ⟨Bs, d, none⟩)) rfl rfl (by kernel_rfl) (by kernel_rfl) (by kernel_rfl) (fun _ _ _ h => h) (yields_indexAddr (x := .tmp 8) rfl rfl (by kernel_rfl) (by kernel_rfl) Try.underlying91 hi0.1 hi0.2 (by omega)) ?_
              have m3 := hS3.cell d (by simp [hsi.1]; omega)
              refine wpAny_store (i := 29) (ad := ⟨Bs, d, none⟩) (k := .u32) (n := (q.d : Nat)) (by kernel_rfl) rfl rfl rfl rfl (by kernel_rfl) (by kernel_rfl) hi0.1 hi0.2 (m3) (hS3.frozen d) ?_
              have hS4 := hS3.set d q.d
              refine wpAny_done (by kernel_rfl) ?_ _
              go_frame
              rw [← HQ.out, ← HI2.out] at hS4
              have nO : w.heap.size + 1 + 1 ≠ Bs := by omega
              have nW : w.heap.size + 1 + 1 + 1 ≠ Bs := by omega
              have nB : w.heap.size ≤ Bs := by omega
              have hO4 := (((((hO.drewN 1).below hbq).other ⟨Bs, i, none⟩ (.int .u32 (q.a : Nat)) nO).other ⟨Bs, b, none⟩ (.int .u32 (q.b : Nat)) nO).other ⟨Bs, c, none⟩ (.int .u32 (q.c : Nat)) nO).other ⟨Bs, d, none⟩ (.int .u32 (q.d : Nat)) nO
              have hW4 := (((((hW.drewN 1).below hbq).other ⟨Bs, i, none⟩ (.int .u32 (q.a : Nat)) nW).other ⟨Bs, b, none⟩ (.int .u32 (q.b : Nat)) nW).other ⟨Bs, c, none⟩ (.int .u32 (q.c : Nat)) nW).other ⟨Bs, d, none⟩ (.int .u32 (q.d : Nat)) nW
              have hB4 := xset (xset (xset (xset (xtrans (below_drewN hB3 1) hbq) (p := ⟨Bs, i, none⟩) nB (.int .u32 (q.a : Nat))) (p := ⟨Bs, b, none⟩) nB (.int .u32 (q.b : Nat))) (p := ⟨Bs, c, none⟩) nB (.int .u32 (q.c : Nat))) (p := ⟨Bs, d, none⟩) nB (.int .u32 (q.d : Nat))
              clear hS hO hW hB3 hS0 hS1 hS2 hS3 m0 m1 m2 m3 l0 l1 l2 l3 cq HQ HI2
              revert hS4 hO4 hW4 hB4
              generalize (((wq.setCell ⟨Bs, i, none⟩ (.int .u32 (q.a : Nat))).setCell ⟨Bs, b, none⟩ (.int .u32 (q.b : Nat))).setCell ⟨Bs, c, none⟩ (.int .u32 (q.c : Nat))).setCell ⟨Bs, d, none⟩ (.int .u32 (q.d : Nat)) = WW
              intro hS hO hW hB3
              clear hbq
              go_wp2_with fail
              exact ⟨⟨i + 1, by omega, by go_num, hS, hO, hW, hB3⟩, by simp [intOf]; omega⟩
            · obtain rfl : i = 4 := by omega
              rw [← HT2.out] at hS
              go_wp2_with fail
              exact ⟨⟨t + 1, by omega, by go_num, hS, hO, hW, hB3⟩, by simp [intOf]; omega⟩
        · obtain rfl : t = 2 := by omega
          rw [← HS2.out] at hS
          go_wp2_with fail
          exact ⟨⟨n + 1, by omega, by go_num, hS, hO, hW, hB3⟩, by simp [intOf]; omega⟩
    · obtain rfl : n = 10 := by omega
      have hso := rounds10_ok hst 10
      obtain ⟨s1, hs1⟩ : ∃ s1, s1 = rounds10 s0 10 := ⟨_, rfl⟩
      rw [← hs1] at hS hso
      have HS1 := Lib.hid hs1
      clear hs1
      obtain ⟨i0, hi0⟩ : ∃ i0, Try.prog.info? 29 = some i0 ∧ i0.size = 1 := info32
      have hix := fun (i : Nat) (h : i < 16) (W : World) => run_index_arr (P := Try.prog) (ty := 91) (el := 29) (n := 16) (q := .u32) Try.underlying91 Try.underlying29 hi0.1 hi0.2 .u32 s1 hso.1 i h W
      have HIX := Lib.hid hix
      clear hix hi0 hlt hn10
      rw [← outsAt_start s0 s1] at hO
      go_wp2_with (first
        | (refine wp_load_arr rfl 91 (.tmp 8) rfl Bs rfl hS 16 29 Try.underlying91 (by rw [hso.1]; kernel_rfl) ?_)
        | fail)
      obtain ⟨wo, hwo⟩ : ∃ wo : World, wo = wr := ⟨_, rfl⟩
      rw [← hwo] at hO hW hB3 ⊢
      clear hS hwo
      go_loopw [81] (fun r wr => ∃ i : Nat, i ≤ 16 ∧ r = .int .i64 i ∧ Blk wr (w.heap.size + 1 + 1) 83 .u8 (outsAt s0 s1 (4 * i)) ∧ Blk wr (w.heap.size + 1 + 1 + 1) 91 .u32 s0 ∧ Below w.heap.size w wr) (fun r _ => 16 - (intOf r).toNat)
      case atStart => exact ⟨0, by decide, rfl, hO, hW, hB3⟩
      case round =>
        clear hO hW hB3
        obtain ⟨i, hi16, rfl, hO, hW, hB3⟩ := hrel
        by_cases hlt : i < 16
        · have hx := HIX.out i hlt
          have hwc := hW.cell i (by rw [hst.1]; exact hlt)
          obtain ⟨v, hv⟩ : ∃ v, v = add (s1.getD i 0) (s0.getD i 0) := ⟨_, rfl⟩
          have hadd := addI _ _ v hv
          have hvl : v < 4294967296 := hv ▸ add_lt _ _
          have HV := Lib.hid hv
          obtain ⟨p, hp⟩ : ∃ p, p = s1.getD i 0 := ⟨_, rfl⟩
          obtain ⟨q, hq⟩ : ∃ q, q = s0.getD i 0 := ⟨_, rfl⟩
          have hpl : p < 4294967296 := hp ▸ okS_get hso i
          have hql : q < 4294967296 := hq ▸ okS_get hst i
          rw [← hp] at hx hadd
          rw [← hq] at hwc hadd
          clear hp hq hv
          go_wp2_with fail
          obtain ⟨wo2, hwo⟩ : ∃ wo : World, wo = wr := ⟨_, rfl⟩
          rw [← hwo] at hO hW hB3 ⊢
          have HA := Lib.hid hadd
          clear hwo hx hwc hadd
          go_loopw [90] (fun r wr => ∃ k : Nat, k ≤ 4 ∧ r = .int .i64 k ∧ Blk wr (w.heap.size + 1 + 1) 83 .u8 (outsAt s0 s1 (4 * i + k)) ∧ Blk wr (w.heap.size + 1 + 1 + 1) 91 .u32 s0 ∧ Below w.heap.size w wr) (fun r _ => 4 - (intOf r).toNat)
          case atStart => exact ⟨0, by decide, rfl, hO, hW, hB3⟩
          case round =>
            clear hO hW hB3
            obtain ⟨k, hk4, rfl, hO, hW, hB3⟩ := hrel
            by_cases hkt : k < 4
            · have hoc := hO.cell (4 * i + k) (by rw [outsAt_length _ _ _ (by omega)]; omega)
              have hof := hO.frozen (4 * i + k)
              have hob := outByte_at s0 s1 i k hkt
              rw [← HV.out] at hob
              have HB := Lib.hid hob
              clear hob
              generalize (outsAt s0 s1 (4 * i + k)).getD (4 * i + k) 0 = z at hoc
              rcases (show k = 0 ∨ k = 1 ∨ k = 2 ∨ k = 3 from by omega) with rfl | rfl | rfl | rfl
              · have ev : ((v / 256 ^ 0 % 256 : Nat) : Int) = ((p : Int) + (q : Int)) % 256 := by
                  have := HA.out
                  simp only [Nat.reducePow]
                  omega
                have hs := hO.set (4 * i + 0) (v / 256 ^ 0 % 256)
                rw [ev, outsAt_set s0 s1 _ _ (by omega) HB.out.symm] at hs
                simp only [Nat.add_zero] at hoc hof hs
                clear ev
                go_wp2_with fail
                exact ⟨⟨1, by decide, rfl, hs, hW.other _ _ (by show w.heap.size + 1 + 1 + 1 ≠ w.heap.size + 1 + 1; omega), xset hB3 (by show w.heap.size ≤ w.heap.size + 1 + 1; omega) _⟩, by simp [intOf]⟩
              · have ev : ((v / 256 ^ 1 % 256 : Nat) : Int) = ((p : Int) + (q : Int)) % 4294967296 / 256 % 256 := by
                  have := HA.out
                  simp only [Nat.reducePow]
                  omega
                have hs := hO.set (4 * i + 1) (v / 256 ^ 1 % 256)
                rw [ev, outsAt_set s0 s1 _ _ (by omega) HB.out.symm] at hs
                skip
                clear ev
                go_wp2_with fail
                exact ⟨⟨2, by decide, rfl, hs, hW.other _ _ (by show w.heap.size + 1 + 1 + 1 ≠ w.heap.size + 1 + 1; omega), xset hB3 (by show w.heap.size ≤ w.heap.size + 1 + 1; omega) _⟩, by simp [intOf]⟩
              · have ev : ((v / 256 ^ 2 % 256 : Nat) : Int) = ((p : Int) + (q : Int)) % 4294967296 / 65536 % 256 := by
                  have := HA.out
                  simp only [Nat.reducePow]
                  omega
                have hs := hO.set (4 * i + 2) (v / 256 ^ 2 % 256)
                rw [ev, outsAt_set s0 s1 _ _ (by omega) HB.out.symm] at hs
                skip
                clear ev
                go_wp2_with fail
                exact ⟨⟨3, by decide, rfl, hs, hW.other _ _ (by show w.heap.size + 1 + 1 + 1 ≠ w.heap.size + 1 + 1; omega), xset hB3 (by show w.heap.size ≤ w.heap.size + 1 + 1; omega) _⟩, by simp [intOf]⟩
              · have ev : ((v / 256 ^ 3 % 256 : Nat) : Int) = ((p : Int) + (q : Int)) % 4294967296 / 16777216 := by
                  have := HA.out
                  simp only [Nat.reducePow]
                  omega
                have hs := hO.set (4 * i + 3) (v / 256 ^ 3 % 256)
                rw [ev, outsAt_set s0 s1 _ _ (by omega) HB.out.symm] at hs
                skip
                clear ev
                go_wp2_with fail
                exact ⟨⟨4, by decide, rfl, hs, hW.other _ _ (by show w.heap.size + 1 + 1 + 1 ≠ w.heap.size + 1 + 1; omega), xset hB3 (by show w.heap.size ≤ w.heap.size + 1 + 1; omega) _⟩, by simp [intOf]⟩
            · obtain rfl : k = 4 := by omega
              go_wp2_with fail
              exact ⟨⟨i + 1, by omega, by go_num, hO, hW, hB3⟩, by simp [intOf]; omega⟩
        · obtain rfl : i = 16 := by omega
          rw [show 4 * 16 = 64 from rfl, outsAt_end] at hO
          go_wp2_with (first
            | (refine wp_load_arr rfl 83 (.tmp 6) rfl (w.heap.size + 1 + 1) rfl hO 64 5 Try.underlying83 (by rw [outBytes_length]; kernel_rfl) ?_)
            | (refine wp_store_arr rfl 83 (.tmp 6) (.tmp 105) rfl (w.heap.size + 1 + 1) rfl hO rfl (by rw [outBytes_length]; kernel_rfl) rfl ?_; intro W9 hO9 hg9)
            | fail)
          have HZ3 : (nv .u8 (outBytes s0 s1)).toArray.size = 64 := by simp [nv, outBytes_length]
          have HZ4 : Hid ((Try.prog.info? 83).map (·.size) = some (nv .u8 (outBytes s0 s1)).toArray.size) := Lib.hid (by rw [HZ3]; kernel_rfl)
          exact bodyPost_ret (results_cell_row rfl _ _ (w.heap.size + 1 + 1) 83 (nv .u8 (outBytes s0 s1)).toArray (0, 0) _ rfl hO9 Try.underlying83 rfl HZ4.out) rfl ⟨by rw [← HS1.out]; rfl, gbelow hB3 hg9 (by omega)⟩
end Go.Proofs.Ytpcppnoomogloaa.Ch
