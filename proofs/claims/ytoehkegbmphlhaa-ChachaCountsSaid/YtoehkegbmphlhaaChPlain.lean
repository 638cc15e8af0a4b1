/- Plain arithmetic of blocks: numbers of 32 bits as naturals below 2^32. -/
import Init
namespace Go.Proofs.Ytoehkegbmphlhaa.Ch
set_option linter.unusedSimpArgs false
set_option linter.unusedVariables false

def add (x y : Nat) : Nat := (x + y) % 4294967296
/-- Rotated to the left by k bits; p = 2^k, q = 2^(32-k). -/
def rot (p q x : Nat) : Nat := x * p % 4294967296 + x / q
theorem add_lt (x y : Nat) : add x y < 4294967296 := Nat.mod_lt _ (by decide)
theorem xor_lt {x y : Nat} (hx : x < 4294967296) (hy : y < 4294967296) : x ^^^ y < 4294967296 := Nat.xor_lt_two_pow (n := 32) hx hy
theorem rot16_lt {x : Nat} (h : x < 4294967296) : rot 65536 65536 x < 4294967296 := by unfold rot; omega
theorem rot12_lt {x : Nat} (h : x < 4294967296) : rot 4096 1048576 x < 4294967296 := by unfold rot; omega
theorem rot8_lt {x : Nat} (h : x < 4294967296) : rot 256 16777216 x < 4294967296 := by unfold rot; omega
theorem rot7_lt {x : Nat} (h : x < 4294967296) : rot 128 33554432 x < 4294967296 := by unfold rot; omega

/-- Four numbers. -/
structure Four where
  a : Nat
  b : Nat
  c : Nat
  d : Nat
def Four.ok (x : Four) : Prop := x.a < 4294967296 ∧ x.b < 4294967296 ∧ x.c < 4294967296 ∧ x.d < 4294967296

/-- Half a quarter. -/
def halfQ (p q p' q' : Nat) (x : Four) : Four :=
  let a := add x.a x.b
  let d := rot p q (x.d ^^^ a)
  let c := add x.c d
  let b := rot p' q' (x.b ^^^ c)
  ⟨a, b, c, d⟩
def quarter (x : Four) : Four := halfQ 256 16777216 128 33554432 (halfQ 65536 65536 4096 1048576 x)
theorem half1_ok {x : Four} (h : x.ok) : (halfQ 65536 65536 4096 1048576 x).ok := by
  obtain ⟨h1, h2, h3, h4⟩ := h
  have e1 := rot16_lt (xor_lt h4 (add_lt x.a x.b))
  exact ⟨add_lt _ _, rot12_lt (xor_lt h2 (add_lt _ _)), add_lt _ _, e1⟩
theorem half2_ok {x : Four} (h : x.ok) : (halfQ 256 16777216 128 33554432 x).ok := by
  obtain ⟨h1, h2, h3, h4⟩ := h
  have e1 := rot8_lt (xor_lt h4 (add_lt x.a x.b))
  exact ⟨add_lt _ _, rot7_lt (xor_lt h2 (add_lt _ _)), add_lt _ _, e1⟩
theorem quarter_ok {x : Four} (h : x.ok) : (quarter x).ok := half2_ok (half1_ok h)

/-! ### Backwards -/
theorem rot7_eq (hi lo : Nat) (h2 : lo < 33554432) : rot 128 33554432 (hi * 33554432 + lo) = lo * 128 + hi := by unfold rot; omega
theorem rot_back7 (x : Nat) (h : x < 4294967296) : rot 128 33554432 x / 128 + rot 128 33554432 x * 33554432 % 4294967296 = x := by
  have e := rot7_eq (x / 33554432) (x % 33554432) (by omega)
  have e2 : x / 33554432 * 33554432 + x % 33554432 = x := by omega
  rw [e2] at e
  rw [e]
  have h1 : x / 33554432 < 128 := by omega
  have h2 : x % 33554432 < 33554432 := by omega
  clear e
  have e3 : (x % 33554432 * 128 + x / 33554432) / 128 = x % 33554432 := by
    generalize x / 33554432 = hi at *
    generalize x % 33554432 = lo at *
    omega
  have e4 : (x % 33554432 * 128 + x / 33554432) * 33554432 % 4294967296 = x / 33554432 * 33554432 := by
    generalize x / 33554432 = hi at *
    generalize x % 33554432 = lo at *
    omega
  rw [e3, e4]; omega
theorem rot7_inj (x y : Nat) (hx : x < 4294967296) (hy : y < 4294967296) (h : rot 128 33554432 x = rot 128 33554432 y) : x = y := by
  rw [← rot_back7 x hx, ← rot_back7 y hy, h]
theorem rot8_eq (hi lo : Nat) (h2 : lo < 16777216) : rot 256 16777216 (hi * 16777216 + lo) = lo * 256 + hi := by unfold rot; omega
theorem rot_back8 (x : Nat) (h : x < 4294967296) : rot 256 16777216 x / 256 + rot 256 16777216 x * 16777216 % 4294967296 = x := by
  have e := rot8_eq (x / 16777216) (x % 16777216) (by omega)
  have e2 : x / 16777216 * 16777216 + x % 16777216 = x := by omega
  rw [e2] at e
  rw [e]
  have h1 : x / 16777216 < 256 := by omega
  have h2 : x % 16777216 < 16777216 := by omega
  clear e
  have e3 : (x % 16777216 * 256 + x / 16777216) / 256 = x % 16777216 := by
    generalize x / 16777216 = hi at *
    generalize x % 16777216 = lo at *
    omega
  have e4 : (x % 16777216 * 256 + x / 16777216) * 16777216 % 4294967296 = x / 16777216 * 16777216 := by
    generalize x / 16777216 = hi at *
    generalize x % 16777216 = lo at *
    omega
  rw [e3, e4]; omega
theorem rot8_inj (x y : Nat) (hx : x < 4294967296) (hy : y < 4294967296) (h : rot 256 16777216 x = rot 256 16777216 y) : x = y := by
  rw [← rot_back8 x hx, ← rot_back8 y hy, h]
theorem rot12_eq (hi lo : Nat) (h2 : lo < 1048576) : rot 4096 1048576 (hi * 1048576 + lo) = lo * 4096 + hi := by unfold rot; omega
theorem rot_back12 (x : Nat) (h : x < 4294967296) : rot 4096 1048576 x / 4096 + rot 4096 1048576 x * 1048576 % 4294967296 = x := by
  have e := rot12_eq (x / 1048576) (x % 1048576) (by omega)
  have e2 : x / 1048576 * 1048576 + x % 1048576 = x := by omega
  rw [e2] at e
  rw [e]
  have h1 : x / 1048576 < 4096 := by omega
  have h2 : x % 1048576 < 1048576 := by omega
  clear e
  have e3 : (x % 1048576 * 4096 + x / 1048576) / 4096 = x % 1048576 := by
    generalize x / 1048576 = hi at *
    generalize x % 1048576 = lo at *
    omega
  have e4 : (x % 1048576 * 4096 + x / 1048576) * 1048576 % 4294967296 = x / 1048576 * 1048576 := by
    generalize x / 1048576 = hi at *
    generalize x % 1048576 = lo at *
    omega
  rw [e3, e4]; omega
theorem rot12_inj (x y : Nat) (hx : x < 4294967296) (hy : y < 4294967296) (h : rot 4096 1048576 x = rot 4096 1048576 y) : x = y := by
  rw [← rot_back12 x hx, ← rot_back12 y hy, h]
theorem rot16_eq (hi lo : Nat) (h2 : lo < 65536) : rot 65536 65536 (hi * 65536 + lo) = lo * 65536 + hi := by unfold rot; omega
theorem rot_back16 (x : Nat) (h : x < 4294967296) : rot 65536 65536 x / 65536 + rot 65536 65536 x * 65536 % 4294967296 = x := by
  have e := rot16_eq (x / 65536) (x % 65536) (by omega)
  have e2 : x / 65536 * 65536 + x % 65536 = x := by omega
  rw [e2] at e
  rw [e]
  have h1 : x / 65536 < 65536 := by omega
  have h2 : x % 65536 < 65536 := by omega
  clear e
  have e3 : (x % 65536 * 65536 + x / 65536) / 65536 = x % 65536 := by
    generalize x / 65536 = hi at *
    generalize x % 65536 = lo at *
    omega
  have e4 : (x % 65536 * 65536 + x / 65536) * 65536 % 4294967296 = x / 65536 * 65536 := by
    generalize x / 65536 = hi at *
    generalize x % 65536 = lo at *
    omega
  rw [e3, e4]; omega
theorem rot16_inj (x y : Nat) (hx : x < 4294967296) (hy : y < 4294967296) (h : rot 65536 65536 x = rot 65536 65536 y) : x = y := by
  rw [← rot_back16 x hx, ← rot_back16 y hy, h]
theorem add_back (x y : Nat) (h : x < 4294967296) (hy : y < 4294967296) : (add x y + (4294967296 - y)) % 4294967296 = x := by unfold add; omega
theorem xor_back (x y : Nat) : x ^^^ y ^^^ y = x := by rw [Nat.xor_assoc, Nat.xor_self, Nat.xor_zero]

/-- A half is told by what it answers. -/
theorem half_inj {p q p' q' : Nat} (r1 : ∀ x y, x < 4294967296 → y < 4294967296 → rot p q x = rot p q y → x = y) (r2 : ∀ x y, x < 4294967296 → y < 4294967296 → rot p' q' x = rot p' q' y → x = y)
    (l1 : ∀ x, x < 4294967296 → rot p q x < 4294967296) {x y : Four} (hx : x.ok) (hy : y.ok) (h : halfQ p q p' q' x = halfQ p q p' q' y) : x = y := by
  obtain ⟨a, b, c, d⟩ := x
  obtain ⟨a', b', c', d'⟩ := y
  obtain ⟨h1, h2, h3, h4⟩ := hx
  obtain ⟨k1, k2, k3, k4⟩ := hy
  simp only [halfQ, Four.mk.injEq] at h h1 h2 h3 h4 k1 k2 k3 k4 ⊢
  obtain ⟨ea, eb, ec, ed⟩ := h
  have hl := l1 _ (xor_lt h4 (add_lt a b))
  rw [ec, ← ed] at eb
  rw [← ed] at ec
  have eb' := r2 _ _ (xor_lt h2 (add_lt _ _)) (xor_lt k2 (add_lt _ _)) eb
  have hb : b = b' := by
    have := congrArg (· ^^^ add c' (rot p q (d ^^^ add a b))) eb'
    simpa [xor_back] using this
  have hc : c = c' := by
    generalize rot p q (d ^^^ add a b) = r at *
    unfold add at ec; omega
  subst hb
  have ha : a = a' := by unfold add at ea; omega
  subst ha
  have ed' := r1 _ _ (xor_lt h4 (add_lt _ _)) (xor_lt k4 (add_lt _ _)) ed
  have hd : d = d' := by
    have := congrArg (· ^^^ add a b) ed'
    simpa [xor_back] using this
  exact ⟨rfl, rfl, hc, hd⟩
theorem quarter_inj {x y : Four} (hx : x.ok) (hy : y.ok) (h : quarter x = quarter y) : x = y :=
  half_inj rot16_inj rot12_inj (fun _ => rot16_lt) hx hy (half_inj rot8_inj rot7_inj (fun _ => rot8_lt) (half1_ok hx) (half1_ok hy) h)
end Go.Proofs.Ytoehkegbmphlhaa.Ch
