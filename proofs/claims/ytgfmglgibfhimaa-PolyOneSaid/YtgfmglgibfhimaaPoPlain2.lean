/- Plain: products of limbs, the least number, a text's parts, its tag. -/
import Derived.Test.YtgfmglgibfhimaaPoPlain
namespace Go.Proofs.Ytgfmglgibfhimaa.Po
set_option linter.unusedSimpArgs false
set_option linter.unusedVariables false

def WW : Nat := 18446744073709551616
theorem WW_eq : WW = 18446744073709551616 := rfl
def tstep (xs ys out : List Nat) (i k : Nat) : List Nat :=
  if i + k < 5 then out.set (i + k) ((out.getD (i + k) 0 + xs.getD i 0 * ys.getD k 0 % 18446744073709551616) % 18446744073709551616)
  else out.set (i + k - 5) ((out.getD (i + k - 5) 0 + 5 * xs.getD i 0 % 18446744073709551616 * ys.getD k 0 % 18446744073709551616) % 18446744073709551616)
def trow (xs ys out : List Nat) (i : Nat) : Nat → List Nat
  | 0 => out
  | k + 1 => tstep xs ys (trow xs ys out i k) i k
def tall (xs ys : List Nat) : Nat → List Nat
  | 0 => [0, 0, 0, 0, 0]
  | i + 1 => trow xs ys (tall xs ys i) i 5
def times (xs ys : List Nat) : List Nat := carried (tall xs ys 5)
theorem tstep_length (xs ys out : List Nat) (i k : Nat) : (tstep xs ys out i k).length = out.length := by unfold tstep; split <;> simp
theorem trow_length (xs ys out : List Nat) (i k : Nat) : (trow xs ys out i k).length = out.length := by
  induction k with
  | zero => rfl
  | succ k ih => rw [trow, tstep_length, ih]
theorem tall_length (xs ys : List Nat) (i : Nat) : (tall xs ys i).length = 5 := by
  induction i with
  | zero => rfl
  | succ i ih => rw [tall, trow_length, ih]
theorem times_length (xs ys : List Nat) : (times xs ys).length = 5 := by unfold times; rw [carried_length, tall_length]
theorem trow_zero (xs ys out : List Nat) (i : Nat) : trow xs ys out i 0 = out := rfl
theorem trow_succ (xs ys out : List Nat) (i k : Nat) : trow xs ys out i (k + 1) = tstep xs ys (trow xs ys out i k) i k := rfl
theorem tall_zero (xs ys : List Nat) : tall xs ys 0 = [0, 0, 0, 0, 0] := rfl
theorem tall_succ (xs ys : List Nat) (i : Nat) : tall xs ys (i + 1) = trow xs ys (tall xs ys i) i 5 := rfl

theorem mb (x y A B : Nat) (hx : x < A) (hy : y < B) : x * y < A * B := Nat.mul_lt_mul'' hx hy
theorem tall_eq (x0 x1 x2 x3 x4 y0 y1 y2 y3 y4 : Nat) (h0 : x0 < 536870912) (h1 : x1 < 536870912) (h2 : x2 < 536870912) (h3 : x3 < 536870912) (h4 : x4 < 536870912)
    (k0 : y0 < 67108864) (k1 : y1 < 67108864) (k2 : y2 < 67108864) (k3 : y3 < 67108864) (k4 : y4 < 67108864) :
    tall [x0, x1, x2, x3, x4] [y0, y1, y2, y3, y4] 5 =
      [x0 * y0 + 5 * (x1 * y4) + 5 * (x2 * y3) + 5 * (x3 * y2) + 5 * (x4 * y1),
       x0 * y1 + x1 * y0 + 5 * (x2 * y4) + 5 * (x3 * y3) + 5 * (x4 * y2),
       x0 * y2 + x1 * y1 + x2 * y0 + 5 * (x3 * y4) + 5 * (x4 * y3),
       x0 * y3 + x1 * y2 + x2 * y1 + x3 * y0 + 5 * (x4 * y4),
       x0 * y4 + x1 * y3 + x2 * y2 + x3 * y1 + x4 * y0] := by
  have e1 : 5 * x1 % 18446744073709551616 = 5 * x1 := by omega
  have e2 : 5 * x2 % 18446744073709551616 = 5 * x2 := by omega
  have e3 : 5 * x3 % 18446744073709551616 = 5 * x3 := by omega
  have e4 : 5 * x4 % 18446744073709551616 = 5 * x4 := by omega
  have b00 := mb _ _ _ _ h0 k0
  have b01 := mb _ _ _ _ h0 k1
  have b02 := mb _ _ _ _ h0 k2
  have b03 := mb _ _ _ _ h0 k3
  have b04 := mb _ _ _ _ h0 k4
  have b10 := mb _ _ _ _ h1 k0
  have b11 := mb _ _ _ _ h1 k1
  have b12 := mb _ _ _ _ h1 k2
  have b13 := mb _ _ _ _ h1 k3
  have b14 := mb _ _ _ _ h1 k4
  have b20 := mb _ _ _ _ h2 k0
  have b21 := mb _ _ _ _ h2 k1
  have b22 := mb _ _ _ _ h2 k2
  have b23 := mb _ _ _ _ h2 k3
  have b24 := mb _ _ _ _ h2 k4
  have b30 := mb _ _ _ _ h3 k0
  have b31 := mb _ _ _ _ h3 k1
  have b32 := mb _ _ _ _ h3 k2
  have b33 := mb _ _ _ _ h3 k3
  have b34 := mb _ _ _ _ h3 k4
  have b40 := mb _ _ _ _ h4 k0
  have b41 := mb _ _ _ _ h4 k1
  have b42 := mb _ _ _ _ h4 k2
  have b43 := mb _ _ _ _ h4 k3
  have b44 := mb _ _ _ _ h4 k4
  simp only [Nat.reduceMul] at b00 b01 b02 b03 b04 b10 b11 b12 b13 b14 b20 b21 b22 b23 b24 b30 b31 b32 b33 b34 b40 b41 b42 b43 b44
  have hr : ∀ (z0 z1 z2 z3 z4 i a b c d e : Nat), True := fun _ _ _ _ _ _ _ _ _ _ _ => trivial
  clear hr
  simp only [tall, trow, tstep, List.set_cons_zero, List.set_cons_succ, List.getD_cons_zero, List.getD_cons_succ, Nat.reduceAdd, Nat.reduceLT, Nat.reduceSub, if_true, if_false, Nat.zero_add, e1, e2, e3, e4, Nat.mul_assoc 5]
  generalize x0 * y0 = p00 at *
  generalize x0 * y1 = p01 at *
  generalize x0 * y2 = p02 at *
  generalize x0 * y3 = p03 at *
  generalize x0 * y4 = p04 at *
  generalize x1 * y0 = p10 at *
  generalize x1 * y1 = p11 at *
  generalize x1 * y2 = p12 at *
  generalize x1 * y3 = p13 at *
  generalize x1 * y4 = p14 at *
  generalize x2 * y0 = p20 at *
  generalize x2 * y1 = p21 at *
  generalize x2 * y2 = p22 at *
  generalize x2 * y3 = p23 at *
  generalize x2 * y4 = p24 at *
  generalize x3 * y0 = p30 at *
  generalize x3 * y1 = p31 at *
  generalize x3 * y2 = p32 at *
  generalize x3 * y3 = p33 at *
  generalize x3 * y4 = p34 at *
  generalize x4 * y0 = p40 at *
  generalize x4 * y1 = p41 at *
  generalize x4 * y2 = p42 at *
  generalize x4 * y3 = p43 at *
  generalize x4 * y4 = p44 at *
  clear e1 e2 e3 e4 h0 h1 h2 h3 h4 k0 k1 k2 k3 k4
  refine congr (congrArg List.cons ?_) (congr (congrArg List.cons ?_) (congr (congrArg List.cons ?_) (congr (congrArg List.cons ?_) (congr (congrArg List.cons ?_) rfl))))
  · clear b01 b02 b03 b04 b10 b11 b12 b13 b20 b21 b22 b24 b30 b31 b33 b34 b40 b42 b43 b44; omega
  · clear b00 b02 b03 b04 b11 b12 b13 b14 b20 b21 b22 b23 b30 b31 b32 b34 b40 b41 b43 b44; omega
  · clear b00 b01 b03 b04 b10 b12 b13 b14 b21 b22 b23 b24 b30 b31 b32 b33 b40 b41 b42 b44; omega
  · clear b00 b01 b02 b04 b10 b11 b13 b14 b20 b22 b23 b24 b31 b32 b33 b34 b40 b41 b42 b43; omega
  · clear b00 b01 b02 b03 b10 b11 b12 b14 b20 b21 b23 b24 b30 b32 b33 b34 b41 b42 b43 b44; omega

theorem mm (A B x y : Nat) : A * x * (B * y) = A * B * (x * y) := Nat.mul_mul_mul_comm _ _ _ _
theorem val_mul (x0 x1 x2 x3 x4 y0 y1 y2 y3 y4 : Nat) :
    val [x0, x1, x2, x3, x4] * val [y0, y1, y2, y3, y4] =
      val [x0 * y0 + 5 * (x1 * y4) + 5 * (x2 * y3) + 5 * (x3 * y2) + 5 * (x4 * y1),
       x0 * y1 + x1 * y0 + 5 * (x2 * y4) + 5 * (x3 * y3) + 5 * (x4 * y2),
       x0 * y2 + x1 * y1 + x2 * y0 + 5 * (x3 * y4) + 5 * (x4 * y3),
       x0 * y3 + x1 * y2 + x2 * y1 + x3 * y0 + 5 * (x4 * y4),
       x0 * y4 + x1 * y3 + x2 * y2 + x3 * y1 + x4 * y0] +
      PP * (x1 * y4 + x2 * y3 + x3 * y2 + x4 * y1 + 67108864 * (x2 * y4 + x3 * y3 + x4 * y2) + 4503599627370496 * (x3 * y4 + x4 * y3) + 302231454903657293676544 * (x4 * y4)) := by
  rw [val5, val5, val5, PP_eq]
  grind

/-- A product is the product, modulo P. -/
theorem times_val (xs ys : List Nat) (hx : bnd xs 536870912 536870912 536870912 536870912 536870912) (hy : bnd ys 67108864 67108864 67108864 67108864 67108864) :
    bnd (times xs ys) 67108864 67108865 67108864 67108864 67108864 ∧ val (times xs ys) % PP = val xs * val ys % PP := by
  obtain ⟨x0, x1, x2, x3, x4, rfl, h0, h1, h2, h3, h4⟩ := hx
  obtain ⟨y0, y1, y2, y3, y4, rfl, k0, k1, k2, k3, k4⟩ := hy
  have hm := val_mul x0 x1 x2 x3 x4 y0 y1 y2 y3 y4
  unfold times
  rw [tall_eq x0 x1 x2 x3 x4 y0 y1 y2 y3 y4 h0 h1 h2 h3 h4 k0 k1 k2 k3 k4]
  have b : ∀ x y, x < 536870912 → y < 67108864 → x * y < 36028797018963968 := fun x y hx hy => mb x y _ _ hx hy
  have c0 : x0 * y0 + 5 * (x1 * y4) + 5 * (x2 * y3) + 5 * (x3 * y2) + 5 * (x4 * y1) < 1152921504606846976 := by
    have := b _ _ h0 k0; have := b _ _ h1 k4; have := b _ _ h2 k3; have := b _ _ h3 k2; have := b _ _ h4 k1; omega
  have c1 : x0 * y1 + x1 * y0 + 5 * (x2 * y4) + 5 * (x3 * y3) + 5 * (x4 * y2) < 1152921504606846976 := by
    have := b _ _ h0 k1; have := b _ _ h1 k0; have := b _ _ h2 k4; have := b _ _ h3 k3; have := b _ _ h4 k2; omega
  have c2 : x0 * y2 + x1 * y1 + x2 * y0 + 5 * (x3 * y4) + 5 * (x4 * y3) < 1152921504606846976 := by
    have := b _ _ h0 k2; have := b _ _ h1 k1; have := b _ _ h2 k0; have := b _ _ h3 k4; have := b _ _ h4 k3; omega
  have c3 : x0 * y3 + x1 * y2 + x2 * y1 + x3 * y0 + 5 * (x4 * y4) < 1152921504606846976 := by
    have := b _ _ h0 k3; have := b _ _ h1 k2; have := b _ _ h2 k1; have := b _ _ h3 k0; have := b _ _ h4 k4; omega
  have c4 : x0 * y4 + x1 * y3 + x2 * y2 + x3 * y1 + x4 * y0 < 1152921504606846976 := by
    have := b _ _ h0 k4; have := b _ _ h1 k3; have := b _ _ h2 k2; have := b _ _ h3 k1; have := b _ _ h4 k0; omega
  obtain ⟨a', b', c', d', e', hr, hv, l1, l2, l3, l4, l5⟩ := carried_gen _ _ _ _ _ c0 c1 c2 c3 c4
  rw [hr]
  refine ⟨⟨a', b', c', d', e', rfl, l1, l2, l3, l4, l5⟩, ?_⟩
  rw [← hv, hm, Nat.add_mul_mod_self_left]

/-! ### The least number -/
def addc (xs : List Nat) (i : Nat) : List Nat :=
  let ys := xs.set (i + 1) ((xs.getD (i + 1) 0 + xs.getD i 0 / 67108864) % 18446744073709551616)
  ys.set i (ys.getD i 0 % 67108864)
def more5 (n : List Nat) : List Nat := n.set 0 ((n.getD 0 0 + 5) % 18446744073709551616)
def moreN (n : List Nat) : Nat → List Nat
  | 0 => more5 n
  | k + 1 => addc (moreN n k) k
def least (xs : List Nat) : List Nat :=
  let n := carried (carried xs)
  let m := moreN n 4
  if m.getD 4 0 / 67108864 = 0 then n else m.set 4 (m.getD 4 0 % 67108864)
theorem addc_length (xs : List Nat) (i : Nat) : (addc xs i).length = xs.length := by simp [addc]
theorem moreN_length (xs : List Nat) (k : Nat) : (moreN xs k).length = xs.length := by
  induction k with
  | zero => simp [moreN, more5]
  | succ k ih => rw [moreN, addc_length, ih]
theorem least_length (xs : List Nat) : (least xs).length = xs.length := by
  unfold least
  simp only
  split <;> simp [moreN_length, carried_length]

theorem least_of (xs n m : List Nat) (hn : carried (carried xs) = n) (hm : moreN n 4 = m) : least xs = if m.getD 4 0 / 67108864 = 0 then n else m.set 4 (m.getD 4 0 % 67108864) := by subst hn hm; rfl
theorem least_val (xs : List Nat) (h : bnd xs 67108864 67108865 67108864 67108864 67108864) : bnd (least xs) 67108864 67108864 67108864 67108864 67108864 ∧ val (least xs) = val xs % PP := by
  obtain ⟨a, b, c, d, e, rfl, h1, h2, h3, h4, h5⟩ := h
  obtain ⟨a1, b1, c1, d1, e1, r1, v1, l1, l2, l3, l4, l5⟩ := carried_gen a b c d e (by omega) (by omega) (by omega) (by omega) (by omega)
  obtain ⟨a2, b2, c2, d2, e2, r2, v2, m1, m2, m3, m4, m5⟩ := carried_short a1 b1 c1 d1 e1 l1 l2 l3 l4 l5
  rw [v1, v2]
  have hmore : moreN [a2, b2, c2, d2, e2] 4 = [(a2 + 5) % 67108864, (b2 + (a2 + 5) / 67108864) % 67108864, (c2 + (b2 + (a2 + 5) / 67108864) / 67108864) % 67108864,
      (d2 + (c2 + (b2 + (a2 + 5) / 67108864) / 67108864) / 67108864) % 67108864, e2 + (d2 + (c2 + (b2 + (a2 + 5) / 67108864) / 67108864) / 67108864) / 67108864] := by
    simp only [moreN, more5, addc, List.set_cons_zero, List.set_cons_succ, List.getD_cons_zero, List.getD_cons_succ, Nat.zero_add, Nat.reduceAdd]
    have w0 : (a2 + 5) % 18446744073709551616 = a2 + 5 := by omega
    rw [w0]
    obtain ⟨o1, p1⟩ : ∃ o1, o1 = (a2 + 5) / 67108864 := ⟨_, rfl⟩
    rw [← p1]
    have w1 : (b2 + o1) % 18446744073709551616 = b2 + o1 := by omega
    rw [w1]
    obtain ⟨o2, p2⟩ : ∃ o2, o2 = (b2 + o1) / 67108864 := ⟨_, rfl⟩
    rw [← p2]
    have w2 : (c2 + o2) % 18446744073709551616 = c2 + o2 := by omega
    rw [w2]
    obtain ⟨o3, p3⟩ : ∃ o3, o3 = (c2 + o2) / 67108864 := ⟨_, rfl⟩
    rw [← p3]
    have w3 : (d2 + o3) % 18446744073709551616 = d2 + o3 := by omega
    rw [w3]
    obtain ⟨o4, p4⟩ : ∃ o4, o4 = (d2 + o3) / 67108864 := ⟨_, rfl⟩
    rw [← p4]
    have w4 : (e2 + o4) % 18446744073709551616 = e2 + o4 := by omega
    rw [w4]
  have hle := least_of [a, b, c, d, e] _ _ (by rw [r1, r2]) hmore
  clear hmore r1 r2 v1 v2
  obtain ⟨o1, p1⟩ : ∃ o1, o1 = (a2 + 5) / 67108864 := ⟨_, rfl⟩
  rw [← p1] at hle
  obtain ⟨o2, p2⟩ : ∃ o2, o2 = (b2 + o1) / 67108864 := ⟨_, rfl⟩
  rw [← p2] at hle
  obtain ⟨o3, p3⟩ : ∃ o3, o3 = (c2 + o2) / 67108864 := ⟨_, rfl⟩
  rw [← p3] at hle
  obtain ⟨o4, p4⟩ : ∃ o4, o4 = (d2 + o3) / 67108864 := ⟨_, rfl⟩
  rw [← p4] at hle
  simp only [List.getD_cons_zero, List.getD_cons_succ, List.set_cons_zero, List.set_cons_succ] at hle
  by_cases h0 : (e2 + o4) / 67108864 = 0
  · rw [if_pos h0] at hle
    rw [hle]
    refine ⟨⟨_, _, _, _, _, rfl, m1, m2, m3, m4, m5⟩, ?_⟩
    rw [Nat.mod_eq_of_lt]
    clear hle
    rw [val5, PP_eq]; omega
  · rw [if_neg h0] at hle
    rw [hle]
    clear hle
    refine ⟨⟨_, _, _, _, _, rfl, by omega, by omega, by omega, by omega, by omega⟩, ?_⟩
    have hv : val [a2, b2, c2, d2, e2] = val [(a2 + 5) % 67108864, (b2 + o1) % 67108864, (c2 + o2) % 67108864, (d2 + o3) % 67108864, (e2 + o4) % 67108864] + PP := by
      rw [val5, val5, PP_eq]
      omega
    have h2 : val [a2, b2, c2, d2, e2] < 2 * PP := by rw [val5, PP_eq]; clear hv h0; omega
    rw [hv] at h2
    rw [hv, Nat.add_mod_right]
    rw [Nat.two_mul] at h2
    exact (Nat.mod_eq_of_lt (Nat.lt_of_add_lt_add_right h2)).symm
end Go.Proofs.Ytgfmglgibfhimaa.Po
