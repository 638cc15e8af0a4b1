/- Walks: quarters. -/
import Derived.Test.YtoehkegbmphlhaaChW1
import Derived.WalkSmall
namespace Go.Proofs.Ytoehkegbmphlhaa.Ch
set_option linter.unusedSimpArgs false
set_option linter.unusedVariables false
open Go.RowKit

/-- Four numbers as Go hands them back. -/
def tup (x : Four) : Value := .tuple #[.int .u32 (x.a : Int), .int .u32 (x.b : Int), .int .u32 (x.c : Int), .int .u32 (x.d : Int)]
theorem addI (x y r : Nat) (h : r = add x y) : ((x : Int) + (y : Int)) % 4294967296 = (r : Int) := by rw [h]; rfl
theorem xorI (x y r : Nat) (hx : x < 4294967296) (hy : y < 4294967296) (h : r = x ^^^ y) : bits .xor .u32 (x : Int) (y : Int) = (r : Int) := by
  rw [bits_xor .u32 rfl _ _ (by omega) (by show (x : Int) < 4294967296; omega) (by omega) (by show (y : Int) < 4294967296; omega), h]; rfl

/-- Go's loop over the four rotations: every number on the way under a name of its own. -/
theorem steps (a b c d : Nat) (h : Four.ok ⟨a, b, c, d⟩) : ∃ a1 x1 d1 c1 y1 b1 a2 x2 d2 c2 y2 b2 : Nat,
    quarter ⟨a, b, c, d⟩ = ⟨a2, b2, c2, d2⟩ ∧
    (a1 < 4294967296 ∧ x1 < 4294967296 ∧ d1 < 4294967296 ∧ c1 < 4294967296 ∧ y1 < 4294967296 ∧ b1 < 4294967296 ∧ a2 < 4294967296 ∧ x2 < 4294967296 ∧ d2 < 4294967296 ∧ c2 < 4294967296 ∧ y2 < 4294967296 ∧ b2 < 4294967296) ∧
    d1 = rot 65536 65536 x1 ∧ b1 = rot 4096 1048576 y1 ∧ d2 = rot 256 16777216 x2 ∧ b2 = rot 128 33554432 y2 ∧
    ((a : Int) + (b : Int)) % 4294967296 = (a1 : Int) ∧ bits .xor .u32 (d : Int) (a1 : Int) = (x1 : Int) ∧ ((c : Int) + (d1 : Int)) % 4294967296 = (c1 : Int) ∧ bits .xor .u32 (b : Int) (c1 : Int) = (y1 : Int) ∧
    ((a1 : Int) + (b1 : Int)) % 4294967296 = (a2 : Int) ∧ bits .xor .u32 (d1 : Int) (a2 : Int) = (x2 : Int) ∧ ((c1 : Int) + (d2 : Int)) % 4294967296 = (c2 : Int) ∧ bits .xor .u32 (b1 : Int) (c2 : Int) = (y2 : Int) := by
  obtain ⟨h1, h2, h3, h4⟩ := h
  simp only at h1 h2 h3 h4
  have e1 := add_lt a b
  have e2 := xor_lt h4 e1
  have e3 := rot16_lt e2
  have e4 := add_lt c (rot 65536 65536 (d ^^^ add a b))
  have e5 := xor_lt h2 e4
  have e6 := rot12_lt e5
  have e7 := add_lt (add a b) (rot 4096 1048576 (b ^^^ add c (rot 65536 65536 (d ^^^ add a b))))
  have e8 := xor_lt e3 e7
  have e9 := rot8_lt e8
  have e10 := add_lt (add c (rot 65536 65536 (d ^^^ add a b))) (rot 256 16777216 (rot 65536 65536 (d ^^^ add a b) ^^^ add (add a b) (rot 4096 1048576 (b ^^^ add c (rot 65536 65536 (d ^^^ add a b))))))
  have e11 := xor_lt e6 e10
  have e12 := rot7_lt e11
  exact ⟨_, _, _, _, _, _, _, _, _, _, _, _, rfl, ⟨e1, e2, e3, e4, e5, e6, e7, e8, e9, e10, e11, e12⟩, rfl, rfl, rfl, rfl,
    addI _ _ _ rfl, xorI _ _ _ h4 e1 rfl, addI _ _ _ rfl, xorI _ _ _ h2 e4 rfl, addI _ _ _ rfl, xorI _ _ _ e3 e7 rfl, addI _ _ _ rfl, xorI _ _ _ e6 e10 rfl⟩

theorem ix0 (w : World) : (Instr.index 37 (.agg #[.int .i64 16, .int .i64 12, .int .i64 8, .int .i64 7]) (.int .i64 0)).run Try.prog w = .ok (.agg #[.int .i64 16, .int .i64 12]) w := by kernel_rfl
theorem ix1 (w : World) : (Instr.index 37 (.agg #[.int .i64 16, .int .i64 12, .int .i64 8, .int .i64 7]) (.int .i64 1)).run Try.prog w = .ok (.agg #[.int .i64 8, .int .i64 7]) w := by kernel_rfl

set_option maxHeartbeats 1000000 in
theorem Quarter_any (a b c d : Nat) (w : World) (h : Four.ok ⟨a, b, c, d⟩) :
    Calls Try.prog 9 #[.int .u32 (a : Int), .int .u32 (b : Int), .int .u32 (c : Int), .int .u32 (d : Int)] w fun e w' => e = .returned (tup (quarter ⟨a, b, c, d⟩)) ∧ Below w.heap.size w w' := by
  obtain ⟨a1, x1, d1, c1, y1, b1, a2, x2, d2, c2, y2, b2, hq, ⟨l1, l2, l3, l4, l5, l6, l7, l8, l9, l10, l11, l12⟩, r1, r2, r3, r4, A1, X1, C1, Y1, A2, X2, C2, Y2⟩ := steps a b c d h
  have m1 := fun w => RotL16_any x1 d1 w l2 r1
  have m2 := fun w => RotL12_any y1 b1 w l5 r2
  have m3 := fun w => RotL8_any x2 d2 w l8 r3
  have m4 := fun w => RotL7_any y2 b2 w l11 r4
  have M1 := Lib.hid m1
  have M2 := Lib.hid m2
  have M3 := Lib.hid m3
  have M4 := Lib.hid m4
  rw [hq]
  clear hq r1 r2 r3 r4 m1 m2 m3 m4
  have i0 := ix0
  have i1 := ix1
  go_enter Try.func9, Try.ntmps9
  go_wp2_with fail
  refine wp_loop_rounds 3 ?_
  rw [rounds_succ]
  go_wp2_with fail
  refine (M1.out _).mono ?_
  rintro e w' ⟨rfl, rfl⟩
  go_wp2_with fail
  refine (M2.out _).mono ?_
  rintro e w' ⟨rfl, rfl⟩
  go_wp2_with fail
  rw [rounds_succ]
  go_wp2_with fail
  refine (M3.out _).mono ?_
  rintro e w' ⟨rfl, rfl⟩
  go_wp2_with fail
  refine (M4.out _).mono ?_
  rintro e w' ⟨rfl, rfl⟩
  go_wp2_with fail
  rw [rounds_succ]
  go_wp2_with fail
  exact bodyPost_ret (v := tup ⟨a2, b2, c2, d2⟩) (by simp [results, Try.results9, go_sem, tup]) rfl ⟨rfl, xalloc (xnew _ _) _⟩

set_option maxHeartbeats 1000000 in
theorem RefQuarter_any (a b c d : Nat) (w : World) (h : Four.ok ⟨a, b, c, d⟩) :
    Calls Try.prog 10 #[.int .u32 (a : Int), .int .u32 (b : Int), .int .u32 (c : Int), .int .u32 (d : Int)] w fun e w' => e = .returned (tup (quarter ⟨a, b, c, d⟩)) ∧ w = w' := by
  obtain ⟨a1, x1, d1, c1, y1, b1, a2, x2, d2, c2, y2, b2, hq, ⟨l1, l2, l3, l4, l5, l6, l7, l8, l9, l10, l11, l12⟩, r1, r2, r3, r4, A1, X1, C1, Y1, A2, X2, C2, Y2⟩ := steps a b c d h
  have M1 := Lib.hid (fun w => Turned16_any x1 d1 w l2 r1)
  have M2 := Lib.hid (fun w => Turned12_any y1 b1 w l5 r2)
  have M3 := Lib.hid (fun w => Turned8_any x2 d2 w l8 r3)
  have M4 := Lib.hid (fun w => Turned7_any y2 b2 w l11 r4)
  rw [hq]
  clear hq r1 r2 r3 r4
  go_enter Try.func10, Try.ntmps10
  go_wp2_with fail
  refine (M1.out _).mono ?_
  rintro e w' ⟨rfl, rfl⟩
  go_wp2_with fail
  refine (M2.out _).mono ?_
  rintro e w' ⟨rfl, rfl⟩
  go_wp2_with fail
  refine (M3.out _).mono ?_
  rintro e w' ⟨rfl, rfl⟩
  go_wp2_with fail
  refine (M4.out _).mono ?_
  rintro e w' ⟨rfl, rfl⟩
  go_wp2_with fail
  exact bodyPost_ret (v := tup ⟨a2, b2, c2, d2⟩) (by simp [results, Try.results10, go_sem, tup]) rfl ⟨rfl, rfl⟩
end Go.Proofs.Ytoehkegbmphlhaa.Ch
