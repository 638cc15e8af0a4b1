/- The walk of the statement ChachaBack: what was mixed is mixed back. -/
import Derived.Test.YtoehkegbmphlhaaChA
namespace Go.Proofs.Ytoehkegbmphlhaa.Ch
open Go.RowKit

theorem backs (a b c d : Nat) (h : Four.ok ⟨a, b, c, d⟩) : ∃ a1 x1 d1 c1 y1 b1 a2 x2 d2 c2 y2 b2 : Nat,
    quarter ⟨a, b, c, d⟩ = ⟨a2, b2, c2, d2⟩ ∧
    (a1 < 4294967296 ∧ x1 < 4294967296 ∧ d1 < 4294967296 ∧ c1 < 4294967296 ∧ y1 < 4294967296 ∧ b1 < 4294967296 ∧ a2 < 4294967296 ∧ x2 < 4294967296 ∧ d2 < 4294967296 ∧ c2 < 4294967296 ∧ y2 < 4294967296 ∧ b2 < 4294967296) ∧
    b2 / 128 + b2 * 33554432 % 4294967296 = y2 ∧ y2 ^^^ c2 = b1 ∧ (c2 + (4294967296 - d2)) % 4294967296 = c1 ∧ d2 / 256 + d2 * 16777216 % 4294967296 = x2 ∧ x2 ^^^ a2 = d1 ∧ (a2 + (4294967296 - b1)) % 4294967296 = a1 ∧
    b1 / 4096 + b1 * 1048576 % 4294967296 = y1 ∧ y1 ^^^ c1 = b ∧ (c1 + (4294967296 - d1)) % 4294967296 = c ∧ d1 / 65536 + d1 * 65536 % 4294967296 = x1 ∧ x1 ^^^ a1 = d ∧ (a1 + (4294967296 - b)) % 4294967296 = a := by
  obtain ⟨h1, h2, h3, h4⟩ := h
  simp only at h1 h2 h3 h4
  have e1 := add_lt a b
  have e2 := xor_lt h4 e1
  have e3 := rot16_lt e2
  have e4 := add_lt c (rot 65536 65536 (d ^^^ add a b))
  have e5 := xor_lt h2 e4
  have e6 := rot12_lt e5
  have e7 := add_lt (add a b) (rot 4096 1048576 (b ^^^ add c (rot 65536 65536 (d ^^^ add a b))))
  have e8 := xor_lt e3 e7
  have e9 := rot8_lt e8
  have e10 := add_lt (add c (rot 65536 65536 (d ^^^ add a b))) (rot 256 16777216 (rot 65536 65536 (d ^^^ add a b) ^^^ add (add a b) (rot 4096 1048576 (b ^^^ add c (rot 65536 65536 (d ^^^ add a b))))))
  have e11 := xor_lt e6 e10
  have e12 := rot7_lt e11
  exact ⟨_, _, _, _, _, _, _, _, _, _, _, _, rfl, ⟨e1, e2, e3, e4, e5, e6, e7, e8, e9, e10, e11, e12⟩,
    rot_back7 _ e11, xor_back _ _, add_back _ _ e4 e9, rot_back8 _ e8, xor_back _ _, add_back _ _ e1 e6,
    rot_back12 _ e5, xor_back _ _, add_back _ _ h3 e3, rot_back16 _ e2, xor_back _ _, add_back _ _ h1 h2⟩

theorem or_sh (p x n : Nat) (hp : p < 2 ^ n) (hx : x * 2 ^ n + p < 4294967296) : bits .or .u32 (p : Int) (((x * 2 ^ n : Nat) : Int)) = ((p + x * 2 ^ n : Nat) : Int) := by
  rw [bits_or .u32 rfl _ _ (by omega) (by show (p : Int) < 4294967296; omega) (by omega) (by show ((x * 2 ^ n : Nat) : Int) < 4294967296; omega), Int.toNat_natCast, Int.toNat_natCast, Nat.or_comm, or_add _ _ _ hp, Nat.add_comm]
theorem b7 (x y : Nat) (hx : x < 4294967296) (h : x / 128 + x * 33554432 % 4294967296 = y) : bits .or .u32 ((x : Int) / 128) ((x : Int) * 33554432 % 4294967296) = (y : Int) := by
  have e := or_sh (x / 128) (x % 128) 25 (by simp only [Nat.reducePow]; omega) (by simp only [Nat.reducePow]; omega)
  rw [show ((x / 128 : Nat) : Int) = (x : Int) / 128 from rfl, show ((x % 128 * 2 ^ 25 : Nat) : Int) = (x : Int) * 33554432 % 4294967296 from by simp only [Nat.reducePow]; omega] at e
  rw [e, ← h]; simp only [Nat.reducePow]; omega
theorem b8 (x y : Nat) (hx : x < 4294967296) (h : x / 256 + x * 16777216 % 4294967296 = y) : bits .or .u32 ((x : Int) / 256) ((x : Int) * 16777216 % 4294967296) = (y : Int) := by
  have e := or_sh (x / 256) (x % 256) 24 (by simp only [Nat.reducePow]; omega) (by simp only [Nat.reducePow]; omega)
  rw [show ((x / 256 : Nat) : Int) = (x : Int) / 256 from rfl, show ((x % 256 * 2 ^ 24 : Nat) : Int) = (x : Int) * 16777216 % 4294967296 from by simp only [Nat.reducePow]; omega] at e
  rw [e, ← h]; simp only [Nat.reducePow]; omega
theorem b12 (x y : Nat) (hx : x < 4294967296) (h : x / 4096 + x * 1048576 % 4294967296 = y) : bits .or .u32 ((x : Int) / 4096) ((x : Int) * 1048576 % 4294967296) = (y : Int) := by
  have e := or_sh (x / 4096) (x % 4096) 20 (by simp only [Nat.reducePow]; omega) (by simp only [Nat.reducePow]; omega)
  rw [show ((x / 4096 : Nat) : Int) = (x : Int) / 4096 from rfl, show ((x % 4096 * 2 ^ 20 : Nat) : Int) = (x : Int) * 1048576 % 4294967296 from by simp only [Nat.reducePow]; omega] at e
  rw [e, ← h]; simp only [Nat.reducePow]; omega
theorem b16 (x y : Nat) (hx : x < 4294967296) (h : x / 65536 + x * 65536 % 4294967296 = y) : bits .or .u32 ((x : Int) / 65536) ((x : Int) * 65536 % 4294967296) = (y : Int) := by
  have e := or_sh (x / 65536) (x % 65536) 16 (by simp only [Nat.reducePow]; omega) (by simp only [Nat.reducePow]; omega)
  rw [show ((x / 65536 : Nat) : Int) = (x : Int) / 65536 from rfl, show ((x % 65536 * 2 ^ 16 : Nat) : Int) = (x : Int) * 65536 % 4294967296 from by simp only [Nat.reducePow]; omega] at e
  rw [e, ← h]; simp only [Nat.reducePow]; omega
theorem subI (x y r : Nat) (h : (x + (4294967296 - y)) % 4294967296 = r) (hy : y < 4294967296) : ((x : Int) - (y : Int)) % 4294967296 = (r : Int) := by omega
theorem xorJ (x y r : Nat) (hx : x < 4294967296) (hy : y < 4294967296) (h : x ^^^ y = r) : bits .xor .u32 (x : Int) (y : Int) = (r : Int) := xorI x y r hx hy h.symm

set_option maxHeartbeats 1000000 in
theorem back_walk (a b c d : Int) (w : World) (ha : 0 ≤ a ∧ a ≤ 4294967295) (hb : 0 ≤ b ∧ b ≤ 4294967295) (hc : 0 ≤ c ∧ c ≤ 4294967295) (hd : 0 ≤ d ∧ d ≤ 4294967295) :
    Calls Try.prog 4 #[.int .u32 a, .int .u32 b, .int .u32 c, .int .u32 d] w fun e w' => e = .returned (.bool true) ∧ Below w.heap.size w w' := by
  obtain ⟨a, rfl⟩ := Int.eq_ofNat_of_zero_le ha.1
  obtain ⟨b, rfl⟩ := Int.eq_ofNat_of_zero_le hb.1
  obtain ⟨c, rfl⟩ := Int.eq_ofNat_of_zero_le hc.1
  obtain ⟨d, rfl⟩ := Int.eq_ofNat_of_zero_le hd.1
  have hok : Four.ok ⟨a, b, c, d⟩ := ⟨by show a < _; omega, by show b < _; omega, by show c < _; omega, by show d < _; omega⟩
  obtain ⟨a1, x1, d1, c1, y1, b1, a2, x2, d2, c2, y2, b2, hq, ⟨l1, l2, l3, l4, l5, l6, l7, l8, l9, l10, l11, l12⟩, r1, r2, r3, r4, r5, r6, r7, r8, r9, r10, r11, r12⟩ := backs a b c d hok
  have q1 := Lib.hid (fun W => Quarter_any a b c d W hok)
  rw [hq] at q1
  simp only [tup] at q1
  have s1 := b7 b2 y2 l12 r1
  have s2 := xorJ y2 c2 b1 l11 l10 r2
  have s3 := subI c2 d2 c1 r3 l9
  have s4 := b8 d2 x2 l9 r4
  have s5 := xorJ x2 a2 d1 l8 l7 r5
  have s6 := subI a2 b1 a1 r6 l6
  have s7 := b12 b1 y1 l6 r7
  have s8 := xorJ y1 c1 b l5 l4 r8
  have s9 := subI c1 d1 c r9 l3
  have s10 := b16 d1 x1 l3 r10
  have s11 := xorJ x1 a1 d l2 l1 r11
  have s12 := subI a1 b a r12 (by omega)
  clear hq r1 r2 r3 r4 r5 r6 r7 r8 r9 r10 r11 r12 hok
  go_enter Try.func4, Try.ntmps4
  go_wp2_with (first
    | (go_at_call 8; refine (awake_any _).mono ?_; rintro e w1 ⟨rfl, hb1⟩)
    | (go_at_call 9; refine (q1.out _).mono ?_; rintro e w2 ⟨rfl, hb2⟩)
    | fail)
  go_ret
  exact ⟨rfl, xtrans hb1 hb2⟩
end Go.Proofs.Ytoehkegbmphlhaa.Ch
