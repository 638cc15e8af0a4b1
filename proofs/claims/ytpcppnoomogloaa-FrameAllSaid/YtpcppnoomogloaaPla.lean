/- The plain laws: check sums, ciphers, tags, seals, as functions of lists. -/
import Init
namespace Go.Proofs.Ytpcppnoomogloaa.Ad
set_option linter.unusedSimpArgs false
set_option linter.unusedVariables false

/-- All bytes added. -/
def S : List Nat → Nat
  | [] => 0
  | x :: b => x + S b
/-- Each byte as often as bytes are behind it, and once more. -/
def W : List Nat → Nat
  | [] => 0
  | x :: b => (b.length + 1) * x + W b

theorem S_append (a b : List Nat) : S (a ++ b) = S a + S b := by
  induction a with
  | nil => simp [S]
  | cons x a ih => simp [S, ih]; omega
theorem W_append (a b : List Nat) : W (a ++ b) = W a + b.length * S a + W b := by
  induction a with
  | nil => simp [S, W]
  | cons x a ih =>
    simp only [List.cons_append, W, ih, List.length_append, S, Nat.mul_add, Nat.add_mul]
    omega
theorem S_le (a : List Nat) (h : ∀ x ∈ a, x < 256) : S a ≤ 255 * a.length := by
  induction a with
  | nil => simp [S]
  | cons x a ih =>
    have h1 := ih (fun y hy => h y (List.mem_cons_of_mem _ hy))
    have h2 := h x List.mem_cons_self
    simp [S]; omega
theorem S_zeros (n : Nat) : S (List.replicate n 0) = 0 := by
  induction n with
  | zero => rfl
  | succ n ih => simp [List.replicate_succ, S, ih]
theorem W_zeros (n : Nat) : W (List.replicate n 0) = 0 := by
  induction n with
  | zero => rfl
  | succ n ih => simp [List.replicate_succ, W, ih]
theorem S_take_succ (b : List Nat) (k : Nat) (h : k < b.length) : S (b.take (k + 1)) = S (b.take k) + b.getD k 0 := by
  rw [List.take_succ_eq_append_getElem h, S_append]
  simp [S, List.getD_eq_getElem?_getD, List.getElem?_eq_getElem h]
theorem W_take_succ (b : List Nat) (k : Nat) (h : k < b.length) : W (b.take (k + 1)) = W (b.take k) + S (b.take (k + 1)) := by
  rw [List.take_succ_eq_append_getElem h, S_append, W_append]
  simp [S, W]; omega

/-- What goes on from a sum by bytes. -/
def more (s : Nat) (b : List Nat) : Nat :=
  (s / 65536 + b.length * (s % 65536) + W b) % 65521 * 65536 + (s % 65536 + S b) % 65521
theorem more_lt (s : Nat) (b : List Nat) : more s b < 4294967296 := by unfold more; omega
theorem more_lo (s : Nat) (b : List Nat) : more s b % 65536 = (s % 65536 + S b) % 65521 := by unfold more; omega
theorem more_hi (s : Nat) (b : List Nat) : more s b / 65536 = (s / 65536 + b.length * (s % 65536) + W b) % 65521 := by unfold more; omega

theorem more_more (s : Nat) (a b : List Nat) : more (more s a) b = more s (a ++ b) := by
  have h : more (more s a) b = (more s a / 65536 + b.length * (more s a % 65536) + W b) % 65521 * 65536 + (more s a % 65536 + S b) % 65521 := rfl
  rw [h, more_lo, more_hi]
  have e1 : ((s % 65536 + S a) % 65521 + S b) % 65521 = (s % 65536 + S (a ++ b)) % 65521 := by rw [S_append]; omega
  have e2 : ((s / 65536 + a.length * (s % 65536) + W a) % 65521 + b.length * ((s % 65536 + S a) % 65521) + W b) % 65521
      = (s / 65536 + (a ++ b).length * (s % 65536) + W (a ++ b)) % 65521 := by
    rw [W_append, List.length_append]
    have e3 : b.length * ((s % 65536 + S a) % 65521) % 65521 = b.length * (s % 65536 + S a) % 65521 := by simp [Nat.mul_mod]
    have e4 : b.length * (s % 65536 + S a) = b.length * (s % 65536) + b.length * S a := Nat.mul_add ..
    have e5 : (a.length + b.length) * (s % 65536) = a.length * (s % 65536) + b.length * (s % 65536) := Nat.add_mul ..
    rw [e5]; rw [e4] at e3
    generalize b.length * ((s % 65536 + S a) % 65521) = p at *
    generalize b.length * (s % 65536) = q at *
    generalize b.length * S a = r at *
    generalize a.length * (s % 65536) = t at *
    omega
  rw [e1, e2]; rfl

/-- Two sums come together; n: of how many bytes the second one is. -/
def join (a b n : Nat) : Nat :=
  (a / 65536 + b / 65536 + n * (a % 65536 + 65520)) % 65521 * 65536 + (a % 65536 + 65520 + b % 65536) % 65521
theorem join_lo (a b n : Nat) : join a b n % 65536 = (a % 65536 + 65520 + b % 65536) % 65521 := by unfold join; omega
theorem join_hi (a b n : Nat) : join a b n / 65536 = (a / 65536 + b / 65536 + n * (a % 65536 + 65520)) % 65521 := by unfold join; omega
theorem join_lt (a b n : Nat) : join a b n < 4294967296 := by unfold join; omega

theorem join_more (s : Nat) (a b : List Nat) : join (more s a) (more 1 b) b.length = more s (a ++ b) := by
  unfold join
  rw [more_lo, more_lo, more_hi, more_hi]
  have e1 : ((s % 65536 + S a) % 65521 + 65520 + (1 % 65536 + S b) % 65521) % 65521 = (s % 65536 + S (a ++ b)) % 65521 := by rw [S_append]; omega
  have e2 : ((s / 65536 + a.length * (s % 65536) + W a) % 65521 + (1 / 65536 + b.length * (1 % 65536) + W b) % 65521 + b.length * ((s % 65536 + S a) % 65521 + 65520)) % 65521
      = (s / 65536 + (a ++ b).length * (s % 65536) + W (a ++ b)) % 65521 := by
    rw [W_append, List.length_append]
    have e3 : b.length * ((s % 65536 + S a) % 65521) % 65521 = b.length * (s % 65536 + S a) % 65521 := by simp [Nat.mul_mod]
    have e4 : b.length * (s % 65536 + S a) = b.length * (s % 65536) + b.length * S a := Nat.mul_add ..
    have e5 : (a.length + b.length) * (s % 65536) = a.length * (s % 65536) + b.length * (s % 65536) := Nat.add_mul ..
    have e6 : b.length * ((s % 65536 + S a) % 65521 + 65520) = b.length * ((s % 65536 + S a) % 65521) + b.length * 65520 := Nat.mul_add ..
    rw [e5, e6]; rw [e4] at e3
    generalize b.length * ((s % 65536 + S a) % 65521) = p at *
    generalize b.length * (s % 65536) = q at *
    generalize b.length * S a = r at *
    generalize a.length * (s % 65536) = t at *
    omega
  rw [e1, e2]; rfl

theorem aux (xh yh zh t p q r c : Nat) (h : p % 65521 = (q + c + r) % 65521) :
    ((xh + yh + t) % 65521 + zh + (p + c)) % 65521 = (xh + (yh + zh + (r + c)) % 65521 + (t + (q + c))) % 65521 := by omega
theorem join_assoc (x y z m n : Nat) : join (join x y m) z n = join x (join y z n) (m + n) := by
  have h1 : join (join x y m) z n = (join x y m / 65536 + z / 65536 + n * (join x y m % 65536 + 65520)) % 65521 * 65536 + (join x y m % 65536 + 65520 + z % 65536) % 65521 := rfl
  have h2 : join x (join y z n) (m + n) = (x / 65536 + join y z n / 65536 + (m + n) * (x % 65536 + 65520)) % 65521 * 65536 + (x % 65536 + 65520 + join y z n % 65536) % 65521 := rfl
  rw [h1, h2, join_lo, join_lo, join_hi, join_hi]
  have e1 : ((x % 65536 + 65520 + y % 65536) % 65521 + 65520 + z % 65536) % 65521 = (x % 65536 + 65520 + (y % 65536 + 65520 + z % 65536) % 65521) % 65521 := by omega
  have e2 : ((x / 65536 + y / 65536 + m * (x % 65536 + 65520)) % 65521 + z / 65536 + n * ((x % 65536 + 65520 + y % 65536) % 65521 + 65520)) % 65521
      = (x / 65536 + (y / 65536 + z / 65536 + n * (y % 65536 + 65520)) % 65521 + (m + n) * (x % 65536 + 65520)) % 65521 := by
    have e3 : n * ((x % 65536 + 65520 + y % 65536) % 65521) % 65521 = n * (x % 65536 + 65520 + y % 65536) % 65521 := by simp [Nat.mul_mod]
    have e4 : n * (x % 65536 + 65520 + y % 65536) = n * (x % 65536) + n * 65520 + n * (y % 65536) := by simp [Nat.mul_add]
    have e5 : (m + n) * (x % 65536 + 65520) = m * (x % 65536 + 65520) + (n * (x % 65536) + n * 65520) := by rw [Nat.add_mul, Nat.mul_add n]
    have e6 : n * ((x % 65536 + 65520 + y % 65536) % 65521 + 65520) = n * ((x % 65536 + 65520 + y % 65536) % 65521) + n * 65520 := Nat.mul_add ..
    have e7 : n * (y % 65536 + 65520) = n * (y % 65536) + n * 65520 := Nat.mul_add ..
    rw [e5, e6, e7]; rw [e4] at e3
    exact aux _ _ _ _ _ _ _ _ e3
  rw [e1, e2]

/-! What the statements want. -/
theorem more_zeros_lo (s n : Nat) : more s (List.replicate n 0) % 65536 = s % 65536 % 65521 := by rw [more_lo, S_zeros]; rfl
theorem more_nil (b : List Nat) : more (more 1 b) [] = more 1 b := by rw [more_more, List.append_nil]
theorem more_noughts (b : List Nat) (n : Nat) :
    more 1 (b ++ List.replicate n 0) = more 1 b % 65536 + 65536 * ((more 1 b / 65536 + n * (more 1 b % 65536) % 65521) % 65521) := by
  rw [← more_more]
  have h : more (more 1 b) (List.replicate n 0) = (more 1 b / 65536 + (List.replicate n 0).length * (more 1 b % 65536) + W (List.replicate n 0)) % 65521 * 65536 + (more 1 b % 65536 + S (List.replicate n 0)) % 65521 := rfl
  rw [h, W_zeros, S_zeros, List.length_replicate]
  have := more_lo 1 b
  generalize n * (more 1 b % 65536) = p
  omega
theorem more_only_noughts (n : Nat) (h : n < 256) : more 1 (List.replicate n 0) = 1 + 65536 * n := by
  unfold more; rw [W_zeros, S_zeros, List.length_replicate]; omega

theorem S_set (b : List Nat) (k v : Nat) (h : k < b.length) : S (b.set k v) + b.getD k 0 = S b + v := by
  induction b generalizing k with
  | nil => simp at h
  | cons x b ih =>
    cases k with
    | zero => simp [S]; omega
    | succ k =>
      have := ih k (by simpa using h)
      simp [S] at this ⊢; omega
theorem getD_lt (b : List Nat) (hb : ∀ x ∈ b, x < 256) (k : Nat) : b.getD k 0 < 256 := by
  by_cases h : k < b.length
  · rw [List.getD_eq_getElem?_getD, List.getElem?_eq_getElem h]; exact hb _ (List.getElem_mem h)
  · rw [List.getD_eq_getElem?_getD, List.getElem?_eq_none (by omega)]; decide
/-- One byte turned turns the sum. -/
theorem more_set (b : List Nat) (k v : Nat) (hk : k < b.length) (hb : ∀ x ∈ b, x < 256) (hv : v < 256) :
    more 1 (b.set k v) = more 1 b ↔ v = b.getD k 0 := by
  constructor
  · intro h
    have h1 := congrArg (· % 65536) h
    simp only [more_lo] at h1
    have h2 := S_set b k v hk
    have h3 := getD_lt b hb k
    omega
  · intro h
    subst h
    have : b.set k (b.getD k 0) = b := by
      rw [List.getD_eq_getElem?_getD, List.getElem?_eq_getElem hk]; simp
    rw [this]

theorem W_set (b : List Nat) (k v : Nat) (h : k < b.length) : W (b.set k v) + (b.length - k) * b.getD k 0 = W b + (b.length - k) * v := by
  induction b generalizing k with
  | nil => simp at h
  | cons x b ih =>
    cases k with
    | zero => simp [W]; omega
    | succ k =>
      have := ih k (by simpa using h)
      simp [W] at this ⊢
      have e : b.length + 1 - (k + 1) = b.length - k := by omega
      rw [e] at *; omega

/-- Two neighbours exchanged. -/
theorem swap_S (b : List Nat) (k : Nat) (hk : k + 1 < b.length) : S ((b.set k (b.getD (k + 1) 0)).set (k + 1) (b.getD k 0)) = S b := by
  have h1 := S_set b k (b.getD (k + 1) 0) (by omega)
  have h2 := S_set (b.set k (b.getD (k + 1) 0)) (k + 1) (b.getD k 0) (by simpa using hk)
  have e : (b.set k (b.getD (k + 1) 0)).getD (k + 1) 0 = b.getD (k + 1) 0 := by simp [List.getD_eq_getElem?_getD]
  rw [e] at h2; omega
theorem swap_W (b : List Nat) (k : Nat) (hk : k + 1 < b.length) :
    W ((b.set k (b.getD (k + 1) 0)).set (k + 1) (b.getD k 0)) + b.getD k 0 = W b + b.getD (k + 1) 0 := by
  have h1 := W_set b k (b.getD (k + 1) 0) (by omega)
  have h2 := W_set (b.set k (b.getD (k + 1) 0)) (k + 1) (b.getD k 0) (by simpa using hk)
  have e : (b.set k (b.getD (k + 1) 0)).getD (k + 1) 0 = b.getD (k + 1) 0 := by simp [List.getD_eq_getElem?_getD]
  rw [e] at h2
  simp only [List.length_set] at h2
  obtain ⟨m, hm⟩ : ∃ m, b.length - k = m + 1 := ⟨b.length - k - 1, by omega⟩
  have hm' : b.length - (k + 1) = m := by omega
  rw [hm] at h1; rw [hm'] at h2
  have a1 := Nat.add_mul m 1 (b.getD k 0)
  have a2 := Nat.add_mul m 1 (b.getD (k + 1) 0)
  rw [a1, a2] at h1
  generalize m * b.getD k 0 = p at *
  generalize m * b.getD (k + 1) 0 = q at *
  omega
theorem more_swap (b : List Nat) (k : Nat) (hk : k + 1 < b.length) (hb : ∀ x ∈ b, x < 256) :
    (more 1 b = more 1 ((b.set k (b.getD (k + 1) 0)).set (k + 1) (b.getD k 0)) ↔ b.getD k 0 = b.getD (k + 1) 0) ∧
    more 1 b % 65536 = more 1 ((b.set k (b.getD (k + 1) 0)).set (k + 1) (b.getD k 0)) % 65536 := by
  have hS := swap_S b k hk
  have hW := swap_W b k hk
  have hl : ((b.set k (b.getD (k + 1) 0)).set (k + 1) (b.getD k 0)).length = b.length := by simp
  have h1 := getD_lt b hb k
  have h2 := getD_lt b hb (k + 1)
  constructor
  · unfold more
    rw [hS, hl]
    generalize W ((b.set k (b.getD (k + 1) 0)).set (k + 1) (b.getD k 0)) = w' at *
    generalize b.getD k 0 = p at *
    generalize b.getD (k + 1) 0 = q at *
    constructor
    · intro h; omega
    · intro h
      have : W b = w' := by omega
      rw [this]
  · rw [more_lo, more_lo, hS]

/-- A short text's sum, without remainders. -/
theorem more_short (b : List Nat) (hl : b.length ≤ 16) (hb : ∀ x ∈ b, x < 256) :
    more 1 b = (b.length + W b) * 65536 + (1 + S b) := by
  have hS := S_le b hb
  have hW : W b ≤ b.length * (255 * b.length) := by
    clear hS hl
    induction b with
    | nil => simp [W]
    | cons x b ih =>
      have h1 := ih (fun y hy => hb y (List.mem_cons_of_mem _ hy))
      have h2 := hb x List.mem_cons_self
      simp only [W, List.length_cons]
      have h3 : (b.length + 1) * x ≤ (b.length + 1) * 255 := Nat.mul_le_mul_left _ (by omega)
      have h4 : (b.length + 1) * (255 * (b.length + 1)) = (b.length + 1) * (255 * b.length) + (b.length + 1) * 255 := by rw [Nat.mul_add 255, Nat.mul_add (b.length + 1)]
      have h5 : b.length * (255 * b.length) ≤ (b.length + 1) * (255 * b.length) := Nat.mul_le_mul_right _ (by omega)
      omega
  have hW' : b.length * (255 * b.length) ≤ 16 * (255 * 16) := Nat.mul_le_mul hl (Nat.mul_le_mul_left _ hl)
  unfold more
  have e : b.length * (1 % 65536) = b.length := by omega
  rw [e]
  generalize W b = w at *
  generalize S b = s at *
  omega

/-- What the loop over the bytes has gathered after k of them. -/
def Inv (s : Nat) (bs : List Nat) (k lo hi : Nat) : Prop :=
  lo = (s % 65536 + S (bs.take k)) % 65521 ∧ hi % 65521 = (s / 65536 + k * (s % 65536) + W (bs.take k)) % 65521 ∧ hi ≤ 65521 * (k + 1)
theorem Inv.start (s : Nat) (bs : List Nat) : Inv s bs 0 (s % 65536 % 65521) (s / 65536 % 65521) := by
  refine ⟨by simp [S], by simp [W], by omega⟩
theorem Inv.step {s : Nat} {bs : List Nat} {k lo hi : Nat} (h : Inv s bs k lo hi) (hk : k < bs.length) :
    Inv s bs (k + 1) ((lo + bs.getD k 0) % 65521) (hi + (lo + bs.getD k 0) % 65521) := by
  obtain ⟨h1, h2, h3⟩ := h
  refine ⟨?_, ?_, by omega⟩
  · rw [S_take_succ _ _ hk, h1]; omega
  · rw [W_take_succ _ _ hk, S_take_succ _ _ hk, Nat.add_mul]
    generalize k * (s % 65536) = p at *
    generalize W (bs.take k) = q at *
    omega
theorem Inv.done {s : Nat} {bs : List Nat} {lo hi : Nat} (h : Inv s bs bs.length lo hi) : hi % 65521 * 65536 + lo % 65521 = more s bs := by
  obtain ⟨h1, h2, h3⟩ := h
  rw [List.take_of_length_le (Nat.le_refl _)] at h1 h2
  unfold more; rw [h2, h1]; omega
end Go.Proofs.Ytpcppnoomogloaa.Ad

namespace Go.Proofs.Ytpcppnoomogloaa.Ch
set_option linter.unusedSimpArgs false
set_option linter.unusedVariables false

def add (x y : Nat) : Nat := (x + y) % 4294967296
/-- Rotated to the left by k bits; p = 2^k, q = 2^(32-k). -/
def rot (p q x : Nat) : Nat := x * p % 4294967296 + x / q
theorem add_lt (x y : Nat) : add x y < 4294967296 := Nat.mod_lt _ (by decide)
theorem xor_lt {x y : Nat} (hx : x < 4294967296) (hy : y < 4294967296) : x ^^^ y < 4294967296 := Nat.xor_lt_two_pow (n := 32) hx hy
theorem rot16_lt {x : Nat} (h : x < 4294967296) : rot 65536 65536 x < 4294967296 := by unfold rot; omega
theorem rot12_lt {x : Nat} (h : x < 4294967296) : rot 4096 1048576 x < 4294967296 := by unfold rot; omega
theorem rot8_lt {x : Nat} (h : x < 4294967296) : rot 256 16777216 x < 4294967296 := by unfold rot; omega
theorem rot7_lt {x : Nat} (h : x < 4294967296) : rot 128 33554432 x < 4294967296 := by unfold rot; omega

/-- Four numbers. -/
structure Four where
  a : Nat
  b : Nat
  c : Nat
  d : Nat
def Four.ok (x : Four) : Prop := x.a < 4294967296 ∧ x.b < 4294967296 ∧ x.c < 4294967296 ∧ x.d < 4294967296

/-- Half a quarter. -/
def halfQ (p q p' q' : Nat) (x : Four) : Four :=
  let a := add x.a x.b
  let d := rot p q (x.d ^^^ a)
  let c := add x.c d
  let b := rot p' q' (x.b ^^^ c)
  ⟨a, b, c, d⟩
def quarter (x : Four) : Four := halfQ 256 16777216 128 33554432 (halfQ 65536 65536 4096 1048576 x)
theorem half1_ok {x : Four} (h : x.ok) : (halfQ 65536 65536 4096 1048576 x).ok := by
  obtain ⟨h1, h2, h3, h4⟩ := h
  have e1 := rot16_lt (xor_lt h4 (add_lt x.a x.b))
  exact ⟨add_lt _ _, rot12_lt (xor_lt h2 (add_lt _ _)), add_lt _ _, e1⟩
theorem half2_ok {x : Four} (h : x.ok) : (halfQ 256 16777216 128 33554432 x).ok := by
  obtain ⟨h1, h2, h3, h4⟩ := h
  have e1 := rot8_lt (xor_lt h4 (add_lt x.a x.b))
  exact ⟨add_lt _ _, rot7_lt (xor_lt h2 (add_lt _ _)), add_lt _ _, e1⟩
theorem quarter_ok {x : Four} (h : x.ok) : (quarter x).ok := half2_ok (half1_ok h)

/-! ### Backwards -/
theorem rot7_eq (hi lo : Nat) (h2 : lo < 33554432) : rot 128 33554432 (hi * 33554432 + lo) = lo * 128 + hi := by unfold rot; omega
theorem rot_back7 (x : Nat) (h : x < 4294967296) : rot 128 33554432 x / 128 + rot 128 33554432 x * 33554432 % 4294967296 = x := by
  have e := rot7_eq (x / 33554432) (x % 33554432) (by omega)
  have e2 : x / 33554432 * 33554432 + x % 33554432 = x := by omega
  rw [e2] at e
  rw [e]
  have h1 : x / 33554432 < 128 := by omega
  have h2 : x % 33554432 < 33554432 := by omega
  clear e
  have e3 : (x % 33554432 * 128 + x / 33554432) / 128 = x % 33554432 := by
    generalize x / 33554432 = hi at *
    generalize x % 33554432 = lo at *
    omega
  have e4 : (x % 33554432 * 128 + x / 33554432) * 33554432 % 4294967296 = x / 33554432 * 33554432 := by
    generalize x / 33554432 = hi at *
    generalize x % 33554432 = lo at *
    omega
  rw [e3, e4]; omega
theorem rot7_inj (x y : Nat) (hx : x < 4294967296) (hy : y < 4294967296) (h : rot 128 33554432 x = rot 128 33554432 y) : x = y := by
  rw [← rot_back7 x hx, ← rot_back7 y hy, h]
theorem rot8_eq (hi lo : Nat) (h2 : lo < 16777216) : rot 256 16777216 (hi * 16777216 + lo) = lo * 256 + hi := by unfold rot; omega
theorem rot_back8 (x : Nat) (h : x < 4294967296) : rot 256 16777216 x / 256 + rot 256 16777216 x * 16777216 % 4294967296 = x := by
  have e := rot8_eq (x / 16777216) (x % 16777216) (by omega)
  have e2 : x / 16777216 * 16777216 + x % 16777216 = x := by omega
  rw [e2] at e
  rw [e]
  have h1 : x / 16777216 < 256 := by omega
  have h2 : x % 16777216 < 16777216 := by omega
  clear e
  have e3 : (x % 16777216 * 256 + x / 16777216) / 256 = x % 16777216 := by
    generalize x / 16777216 = hi at *
    generalize x % 16777216 = lo at *
    omega
  have e4 : (x % 16777216 * 256 + x / 16777216) * 16777216 % 4294967296 = x / 16777216 * 16777216 := by
    generalize x / 16777216 = hi at *
    generalize x % 16777216 = lo at *
    omega
  rw [e3, e4]; omega
theorem rot8_inj (x y : Nat) (hx : x < 4294967296) (hy : y < 4294967296) (h : rot 256 16777216 x = rot 256 16777216 y) : x = y := by
  rw [← rot_back8 x hx, ← rot_back8 y hy, h]
theorem rot12_eq (hi lo : Nat) (h2 : lo < 1048576) : rot 4096 1048576 (hi * 1048576 + lo) = lo * 4096 + hi := by unfold rot; omega
theorem rot_back12 (x : Nat) (h : x < 4294967296) : rot 4096 1048576 x / 4096 + rot 4096 1048576 x * 1048576 % 4294967296 = x := by
  have e := rot12_eq (x / 1048576) (x % 1048576) (by omega)
  have e2 : x / 1048576 * 1048576 + x % 1048576 = x := by omega
  rw [e2] at e
  rw [e]
  have h1 : x / 1048576 < 4096 := by omega
  have h2 : x % 1048576 < 1048576 := by omega
  clear e
  have e3 : (x % 1048576 * 4096 + x / 1048576) / 4096 = x % 1048576 := by
    generalize x / 1048576 = hi at *
    generalize x % 1048576 = lo at *
    omega
  have e4 : (x % 1048576 * 4096 + x / 1048576) * 1048576 % 4294967296 = x / 1048576 * 1048576 := by
    generalize x / 1048576 = hi at *
    generalize x % 1048576 = lo at *
    omega
  rw [e3, e4]; omega
theorem rot12_inj (x y : Nat) (hx : x < 4294967296) (hy : y < 4294967296) (h : rot 4096 1048576 x = rot 4096 1048576 y) : x = y := by
  rw [← rot_back12 x hx, ← rot_back12 y hy, h]
theorem rot16_eq (hi lo : Nat) (h2 : lo < 65536) : rot 65536 65536 (hi * 65536 + lo) = lo * 65536 + hi := by unfold rot; omega
theorem rot_back16 (x : Nat) (h : x < 4294967296) : rot 65536 65536 x / 65536 + rot 65536 65536 x * 65536 % 4294967296 = x := by
  have e := rot16_eq (x / 65536) (x % 65536) (by omega)
  have e2 : x / 65536 * 65536 + x % 65536 = x := by omega
  rw [e2] at e
  rw [e]
  have h1 : x / 65536 < 65536 := by omega
  have h2 : x % 65536 < 65536 := by omega
  clear e
  have e3 : (x % 65536 * 65536 + x / 65536) / 65536 = x % 65536 := by
    generalize x / 65536 = hi at *
    generalize x % 65536 = lo at *
    omega
  have e4 : (x % 65536 * 65536 + x / 65536) * 65536 % 4294967296 = x / 65536 * 65536 := by
    generalize x / 65536 = hi at *
    generalize x % 65536 = lo at *
    omega
  rw [e3, e4]; omega
theorem rot16_inj (x y : Nat) (hx : x < 4294967296) (hy : y < 4294967296) (h : rot 65536 65536 x = rot 65536 65536 y) : x = y := by
  rw [← rot_back16 x hx, ← rot_back16 y hy, h]
theorem add_back (x y : Nat) (h : x < 4294967296) (hy : y < 4294967296) : (add x y + (4294967296 - y)) % 4294967296 = x := by unfold add; omega
theorem xor_back (x y : Nat) : x ^^^ y ^^^ y = x := by rw [Nat.xor_assoc, Nat.xor_self, Nat.xor_zero]

/-- A half is told by what it answers. -/
theorem half_inj {p q p' q' : Nat} (r1 : ∀ x y, x < 4294967296 → y < 4294967296 → rot p q x = rot p q y → x = y) (r2 : ∀ x y, x < 4294967296 → y < 4294967296 → rot p' q' x = rot p' q' y → x = y)
    (l1 : ∀ x, x < 4294967296 → rot p q x < 4294967296) {x y : Four} (hx : x.ok) (hy : y.ok) (h : halfQ p q p' q' x = halfQ p q p' q' y) : x = y := by
  obtain ⟨a, b, c, d⟩ := x
  obtain ⟨a', b', c', d'⟩ := y
  obtain ⟨h1, h2, h3, h4⟩ := hx
  obtain ⟨k1, k2, k3, k4⟩ := hy
  simp only [halfQ, Four.mk.injEq] at h h1 h2 h3 h4 k1 k2 k3 k4 ⊢
  obtain ⟨ea, eb, ec, ed⟩ := h
  have hl := l1 _ (xor_lt h4 (add_lt a b))
  rw [ec, ← ed] at eb
  rw [← ed] at ec
  have eb' := r2 _ _ (xor_lt h2 (add_lt _ _)) (xor_lt k2 (add_lt _ _)) eb
  have hb : b = b' := by
    have := congrArg (· ^^^ add c' (rot p q (d ^^^ add a b))) eb'
    simpa [xor_back] using this
  have hc : c = c' := by
    generalize rot p q (d ^^^ add a b) = r at *
    unfold add at ec; omega
  subst hb
  have ha : a = a' := by unfold add at ea; omega
  subst ha
  have ed' := r1 _ _ (xor_lt h4 (add_lt _ _)) (xor_lt k4 (add_lt _ _)) ed
  have hd : d = d' := by
    have := congrArg (· ^^^ add a b) ed'
    simpa [xor_back] using this
  exact ⟨rfl, rfl, hc, hd⟩
theorem quarter_inj {x y : Four} (hx : x.ok) (hy : y.ok) (h : quarter x = quarter y) : x = y :=
  half_inj rot16_inj rot12_inj (fun _ => rot16_lt) hx hy (half_inj rot8_inj rot7_inj (fun _ => rot8_lt) (half1_ok hx) (half1_ok hy) h)
end Go.Proofs.Ytpcppnoomogloaa.Ch

namespace Go.Proofs.Ytpcppnoomogloaa.Ch
set_option linter.unusedSimpArgs false
set_option linter.unusedVariables false

/-- The number that bytes are, the lowest first. -/
def le : List Nat → Nat
  | [] => 0
  | x :: b => x + 256 * le b
theorem le_append (a b : List Nat) : le (a ++ b) = le a + 256 ^ a.length * le b := by
  induction a with
  | nil => simp [le]
  | cons x a ih => simp only [List.cons_append, le, ih, List.length_cons, Nat.pow_succ, Nat.mul_add]; rw [Nat.mul_comm (256 ^ a.length) 256, Nat.mul_assoc]; omega
theorem le_lt (a : List Nat) (h : ∀ x ∈ a, x < 256) : le a < 256 ^ a.length := by
  induction a with
  | nil => simp [le]
  | cons x a ih =>
    have h1 := ih (fun y hy => h y (List.mem_cons_of_mem _ hy))
    have h2 := h x List.mem_cons_self
    simp only [le, List.length_cons, Nat.pow_succ]
    omega
/-- The number at place j of a text of numbers of four bytes. -/
def num (bs : List Nat) (j : Nat) : Nat := bs.getD (4 * j) 0 + 256 * bs.getD (4 * j + 1) 0 + 65536 * bs.getD (4 * j + 2) 0 + 16777216 * bs.getD (4 * j + 3) 0
def nums (bs : List Nat) (n : Nat) : List Nat := (List.range n).map (num bs)
theorem getD_b (bs : List Nat) (hb : ∀ x ∈ bs, x < 256) (k : Nat) : bs.getD k 0 < 256 := by
  by_cases h : k < bs.length
  · rw [List.getD_eq_getElem?_getD, List.getElem?_eq_getElem h]; exact hb _ (List.getElem_mem h)
  · rw [List.getD_eq_getElem?_getD, List.getElem?_eq_none (by omega)]; decide
theorem num_lt (bs : List Nat) (hb : ∀ x ∈ bs, x < 256) (j : Nat) : num bs j < 4294967296 := by
  have h0 := getD_b bs hb (4 * j)
  have h1 := getD_b bs hb (4 * j + 1)
  have h2 := getD_b bs hb (4 * j + 2)
  have h3 := getD_b bs hb (4 * j + 3)
  unfold num; omega

/-- The sixteen numbers at the start. -/
def start (key : List Nat) (counter : Nat) (nonce : List Nat) : List Nat := [1634760805, 857760878, 2036477234, 1797285236] ++ nums key 8 ++ [counter] ++ nums nonce 3
def okS (s : List Nat) : Prop := s.length = 16 ∧ ∀ x ∈ s, x < 4294967296
theorem start_ok (key : List Nat) (counter : Nat) (nonce : List Nat) (hk : ∀ x ∈ key, x < 256) (hc : counter < 4294967296) (hn : ∀ x ∈ nonce, x < 256) : okS (start key counter nonce) := by
  refine ⟨by simp [start, nums], ?_⟩
  intro x hx
  simp only [start, nums, List.mem_append, List.mem_map, List.mem_cons, List.mem_range, List.not_mem_nil, or_false] at hx
  rcases hx with ((hx | ⟨j, _, rfl⟩) | rfl) | ⟨j, _, rfl⟩
  · omega
  · exact num_lt _ hk _
  · exact hc
  · exact num_lt _ hn _

/-- A quarter of four of the numbers. -/
def qs (s : List Nat) (i b c d : Nat) : List Nat :=
  let q := quarter ⟨s.getD i 0, s.getD b 0, s.getD c 0, s.getD d 0⟩
  (((s.set i q.a).set b q.b).set c q.c).set d q.d
theorem okS_set {s : List Nat} (h : okS s) (i v : Nat) (hv : v < 4294967296) : okS (s.set i v) :=
  ⟨by simp [h.1], fun x hx => by rcases List.mem_or_eq_of_mem_set hx with hx | rfl; exact h.2 x hx; exact hv⟩
theorem okS_get {s : List Nat} (h : okS s) (i : Nat) : s.getD i 0 < 4294967296 := by
  by_cases hi : i < s.length
  · rw [List.getD_eq_getElem?_getD, List.getElem?_eq_getElem hi]; exact h.2 _ (List.getElem_mem hi)
  · rw [List.getD_eq_getElem?_getD, List.getElem?_eq_none (by omega)]; decide
theorem qs_ok {s : List Nat} (h : okS s) (i b c d : Nat) : okS (qs s i b c d) := by
  have hq := quarter_ok (x := ⟨s.getD i 0, s.getD b 0, s.getD c 0, s.getD d 0⟩) ⟨okS_get h i, okS_get h b, okS_get h c, okS_get h d⟩
  obtain ⟨h1, h2, h3, h4⟩ := hq
  exact okS_set (okS_set (okS_set (okS_set h _ _ h1) _ _ h2) _ _ h3) _ _ h4
/-- Step i of a turn. -/
def step (s : List Nat) (turn i : Nat) : List Nat := qs s i (4 + (i + turn) % 4) (8 + (i + 2 * turn) % 4) (12 + (i + 3 * turn) % 4)
/-- The first k steps of a turn; the first t turns of a round; r rounds. -/
def steps4 (s : List Nat) (turn : Nat) : Nat → List Nat
  | 0 => s
  | k + 1 => step (steps4 s turn k) turn k
def turns2 (s : List Nat) : Nat → List Nat
  | 0 => s
  | t + 1 => steps4 (turns2 s t) t 4
def rounds10 (s : List Nat) : Nat → List Nat
  | 0 => s
  | r + 1 => turns2 (rounds10 s r) 2
theorem steps4_succ (s : List Nat) (turn k : Nat) : steps4 s turn (k + 1) = step (steps4 s turn k) turn k := rfl
theorem turns2_succ (s : List Nat) (t : Nat) : turns2 s (t + 1) = steps4 (turns2 s t) t 4 := rfl
theorem rounds10_succ (s : List Nat) (r : Nat) : rounds10 s (r + 1) = turns2 (rounds10 s r) 2 := rfl
theorem steps4_ok {s : List Nat} (h : okS s) (turn : Nat) : ∀ k, okS (steps4 s turn k)
  | 0 => h
  | k + 1 => qs_ok (steps4_ok h turn k) _ _ _ _
theorem turns2_ok {s : List Nat} (h : okS s) : ∀ t, okS (turns2 s t)
  | 0 => h
  | t + 1 => steps4_ok (turns2_ok h t) _ _
theorem rounds10_ok {s : List Nat} (h : okS s) : ∀ r, okS (rounds10 s r)
  | 0 => h
  | r + 1 => turns2_ok (rounds10_ok h r) _

/-- Byte m of the sums. -/
def outByte (was s : List Nat) (m : Nat) : Nat := add (s.getD (m / 4) 0) (was.getD (m / 4) 0) / 256 ^ (m % 4) % 256
def outBytes (was s : List Nat) : List Nat := (List.range 64).map (outByte was s)
def block (key : List Nat) (counter : Nat) (nonce : List Nat) : List Nat := outBytes (start key counter nonce) (rounds10 (start key counter nonce) 10)
/-- The first m bytes are there. -/
def outsAt (was s : List Nat) (m : Nat) : List Nat := (outBytes was s).take m ++ List.replicate (64 - m) 0
theorem outBytes_length (was s : List Nat) : (outBytes was s).length = 64 := by simp [outBytes]
theorem outsAt_length (was s : List Nat) (m : Nat) (h : m ≤ 64) : (outsAt was s m).length = 64 := by simp [outsAt, outBytes_length]; omega
theorem outsAt_start (was s : List Nat) : outsAt was s 0 = List.replicate 64 0 := by simp [outsAt]
theorem outsAt_end (was s : List Nat) : outsAt was s 64 = outBytes was s := by
  unfold outsAt
  rw [List.take_of_length_le (by rw [outBytes_length]; exact Nat.le_refl _)]; simp
theorem outBytes_get (was s : List Nat) (m : Nat) (h : m < 64) : (outBytes was s)[m]? = some (outByte was s m) := by simp [outBytes, h]
theorem outsAt_set (was s : List Nat) (m v : Nat) (h : m < 64) (hv : v = outByte was s m) : (outsAt was s m).set m v = outsAt was s (m + 1) := by
  subst hv
  unfold outsAt
  have hl : ((outBytes was s).take m).length = m := by simp [outBytes_length]; omega
  rw [List.set_append_right _ _ (by omega), hl, Nat.sub_self]
  obtain ⟨j, hj⟩ : ∃ j, 64 - m = j + 1 := ⟨64 - m - 1, by omega⟩
  have hj' : 64 - (m + 1) = j := by omega
  rw [hj, hj', List.replicate_succ, List.set_cons_zero, List.take_add_one, outBytes_get _ _ _ h]
  simp
theorem outByte_at (was s : List Nat) (i k : Nat) (hk : k < 4) : outByte was s (4 * i + k) = add (s.getD i 0) (was.getD i 0) / 256 ^ k % 256 := by
  unfold outByte
  rw [show (4 * i + k) / 4 = i from by omega, show (4 * i + k) % 4 = k from by omega]
theorem block_length (key : List Nat) (counter : Nat) (nonce : List Nat) : (block key counter nonce).length = 64 := by simp [block, outBytes]
theorem block_lt (key : List Nat) (counter : Nat) (nonce : List Nat) : ∀ x ∈ block key counter nonce, x < 256 := by
  intro x hx
  simp only [block, outBytes, List.mem_map] at hx
  obtain ⟨m, _, rfl⟩ := hx
  exact Nat.mod_lt _ (by decide)
theorem block_ex : (block (List.replicate 32 0) 0 (List.replicate 12 0)).getD 0 0 = 118 ∧ (block (List.replicate 32 0) 0 (List.replicate 12 0)).getD 1 0 = 184 ∧ (block (List.replicate 32 0) 0 (List.replicate 12 0)).getD 63 0 = 134 := by decide +kernel
theorem block_eq (key : List Nat) (counter : Nat) (nonce : List Nat) : block key counter nonce = outBytes (start key counter nonce) (rounds10 (start key counter nonce) 10) := rfl
theorem step_eq (s : List Nat) (turn i : Nat) : step s turn i = qs s i (4 + (i + turn) % 4) (8 + (i + 2 * turn) % 4) (12 + (i + 3 * turn) % 4) := rfl
theorem qs_eq (s : List Nat) (i b c d : Nat) (q : Four) (hq : q = quarter ⟨s.getD i 0, s.getD b 0, s.getD c 0, s.getD d 0⟩) : qs s i b c d = (((s.set i q.a).set b q.b).set c q.c).set d q.d := by subst hq; rfl
theorem steps4_zero (s : List Nat) (turn : Nat) : steps4 s turn 0 = s := rfl
theorem turns2_zero (s : List Nat) : turns2 s 0 = s := rfl
theorem rounds10_zero (s : List Nat) : rounds10 s 0 = s := rfl
attribute [irreducible] start qs step steps4 turns2 rounds10 outByte outBytes outsAt block
end Go.Proofs.Ytpcppnoomogloaa.Ch

namespace Go.Proofs.Ytpcppnoomogloaa.Ch
set_option linter.unusedSimpArgs false
set_option linter.unusedVariables false

/-- The places of the eight quarters. -/
def places : List Nat := [0, 4, 8, 12, 1, 5, 9, 13, 2, 6, 10, 14, 3, 7, 11, 15, 0, 5, 10, 15, 1, 6, 11, 12, 2, 7, 8, 13, 3, 4, 9, 14]
def pl (m : Nat) : List Nat := (places.drop (m * 4)).take 4
theorem pl_eq (m : Nat) (h : m < 8) : pl m = [m % 4, 4 + (m % 4 + m / 4) % 4, 8 + (m % 4 + 2 * (m / 4)) % 4, 12 + (m % 4 + 3 * (m / 4)) % 4] := by
  have : ∀ m : Fin 8, pl m.1 = [m.1 % 4, 4 + (m.1 % 4 + m.1 / 4) % 4, 8 + (m.1 % 4 + 2 * (m.1 / 4)) % 4, 12 + (m.1 % 4 + 3 * (m.1 / 4)) % 4] := by decide
  exact this ⟨m, h⟩
/-- The first n of the eighty steps. -/
def stepN (s : List Nat) : Nat → List Nat
  | 0 => s
  | n + 1 => step (stepN s n) (n % 8 / 4) (n % 8 % 4)
theorem stepN_zero (s : List Nat) : stepN s 0 = s := rfl
theorem stepN_succ (s : List Nat) (n : Nat) : stepN s (n + 1) = step (stepN s n) (n % 8 / 4) (n % 8 % 4) := rfl
theorem stepN_ok {s : List Nat} (h : okS s) : ∀ n, okS (stepN s n)
  | 0 => h
  | n + 1 => by rw [stepN_succ, step_eq]; exact qs_ok (stepN_ok h n) _ _ _ _
theorem stepN_steps4 (s : List Nat) (n : Nat) (t : Nat) (hn : n % 8 = 4 * t) (ht : t < 2) : ∀ k, k ≤ 4 → stepN s (n + k) = steps4 (stepN s n) t k
  | 0, _ => by rw [steps4_zero]; rfl
  | k + 1, h => by
    rw [← Nat.add_assoc, stepN_succ, steps4_succ, stepN_steps4 s n t hn ht k (by omega), show (n + k) % 8 / 4 = t from by omega, show (n + k) % 8 % 4 = k from by omega]
theorem stepN_turns2 (s : List Nat) (n : Nat) (hn : n % 8 = 0) : ∀ t, t ≤ 2 → stepN s (n + 4 * t) = turns2 (stepN s n) t
  | 0, _ => by rw [turns2_zero]; rfl
  | t + 1, h => by
    rw [show n + 4 * (t + 1) = (n + 4 * t) + 4 from by omega, turns2_succ, stepN_steps4 s (n + 4 * t) t (by omega) (by omega) 4 (Nat.le_refl _), stepN_turns2 s n hn t (by omega)]
theorem stepN_rounds (s : List Nat) : ∀ r, stepN s (8 * r) = rounds10 s r
  | 0 => by rw [rounds10_zero]; rfl
  | r + 1 => by
    rw [show 8 * (r + 1) = 8 * r + 4 * 2 from by omega, rounds10_succ, stepN_turns2 s (8 * r) (by omega) 2 (Nat.le_refl _), stepN_rounds s r]
theorem stepN_80 (s : List Nat) : stepN s 80 = rounds10 s 10 := stepN_rounds s 10
theorem stepN_places (s : List Nat) (n p0 p1 p2 p3 : Nat) (h : pl (n % 8) = [p0, p1, p2, p3]) : stepN s (n + 1) = qs (stepN s n) p0 p1 p2 p3 := by
  rw [pl_eq _ (by omega)] at h
  obtain ⟨h0, h⟩ := List.cons.inj h
  obtain ⟨h1, h⟩ := List.cons.inj h
  obtain ⟨h2, h⟩ := List.cons.inj h
  obtain ⟨h3, _⟩ := List.cons.inj h
  rw [stepN_succ, step_eq, h3, h2, h1, h0]
theorem pl_lt (m : Nat) (h : m < 8) : ∃ p0 p1 p2 p3, pl m = [p0, p1, p2, p3] ∧ p0 < 16 ∧ p1 < 16 ∧ p2 < 16 ∧ p3 < 16 :=
  ⟨_, _, _, _, pl_eq m h, by omega, by omega, by omega, by omega⟩
attribute [irreducible] stepN
end Go.Proofs.Ytpcppnoomogloaa.Ch

namespace Go.Proofs.Ytpcppnoomogloaa.St
set_option linter.unusedSimpArgs false
set_option linter.unusedVariables false
open Go.Proofs.Ytpcppnoomogloaa.Ch

/-- Byte i of the stream from a counter on. -/
def strm (key : List Nat) (ct : Nat) (nonce : List Nat) (i : Nat) : Nat := (block key (ct + i / 64) nonce).getD (i % 64) 0
def xb (key : List Nat) (ct : Nat) (nonce bs : List Nat) (i : Nat) : Nat := bs.getD i 0 ^^^ strm key ct nonce i
/-- The first n bytes, changed. -/
def xorN (key : List Nat) (ct : Nat) (nonce bs : List Nat) (n : Nat) : List Nat := (List.range n).map (xb key ct nonce bs)
def xorS (key : List Nat) (ct : Nat) (nonce bs : List Nat) : List Nat := xorN key ct nonce bs bs.length
theorem xorN_length (key : List Nat) (ct : Nat) (nonce bs : List Nat) (n : Nat) : (xorN key ct nonce bs n).length = n := by simp [xorN]
theorem xorN_zero (key : List Nat) (ct : Nat) (nonce bs : List Nat) : xorN key ct nonce bs 0 = [] := rfl
theorem xorN_succ (key : List Nat) (ct : Nat) (nonce bs : List Nat) (n : Nat) : xorN key ct nonce bs (n + 1) = xorN key ct nonce bs n ++ [xb key ct nonce bs n] := by
  unfold xorN; rw [List.range_succ, List.map_append]; rfl
theorem xorS_length (key : List Nat) (ct : Nat) (nonce bs : List Nat) : (xorS key ct nonce bs).length = bs.length := xorN_length _ _ _ _ _
theorem get_lt {bs : List Nat} (hb : ∀ x ∈ bs, x < 256) (i : Nat) : bs.getD i 0 < 256 := by
  by_cases h : i < bs.length
  · rw [List.getD_eq_getElem?_getD, List.getElem?_eq_getElem h]; exact hb _ (List.getElem_mem h)
  · rw [List.getD_eq_getElem?_getD, List.getElem?_eq_none (by omega)]; decide
theorem strm_lt (key : List Nat) (ct : Nat) (nonce : List Nat) (i : Nat) : strm key ct nonce i < 256 := get_lt (block_lt _ _ _) _
theorem xb_lt (key : List Nat) (ct : Nat) (nonce bs : List Nat) (hb : ∀ x ∈ bs, x < 256) (i : Nat) : xb key ct nonce bs i < 256 := Nat.xor_lt_two_pow (n := 8) (get_lt hb i) (strm_lt _ _ _ _)
theorem xorN_lt (key : List Nat) (ct : Nat) (nonce bs : List Nat) (hb : ∀ x ∈ bs, x < 256) (n : Nat) : ∀ x ∈ xorN key ct nonce bs n, x < 256 := by
  intro x hx
  simp only [xorN, List.mem_map] at hx
  obtain ⟨i, _, rfl⟩ := hx
  exact xb_lt _ _ _ _ hb i
theorem xorS_lt (key : List Nat) (ct : Nat) (nonce bs : List Nat) (hb : ∀ x ∈ bs, x < 256) : ∀ x ∈ xorS key ct nonce bs, x < 256 := xorN_lt _ _ _ _ hb _
/-- In block k. -/
theorem strm_at (key : List Nat) (ct : Nat) (nonce : List Nat) (k i : Nat) (h : i < 64) : strm key ct nonce (64 * k + i) = (block key (ct + k) nonce).getD i 0 := by
  unfold strm
  rw [show (64 * k + i) / 64 = k by omega, show (64 * k + i) % 64 = i by omega]
theorem xorS_nil (key : List Nat) (ct : Nat) (nonce : List Nat) : xorS key ct nonce [] = [] := rfl
theorem xorS_get (key : List Nat) (ct : Nat) (nonce bs : List Nat) (i : Nat) (h : i < bs.length) : (xorS key ct nonce bs).getD i 0 = xb key ct nonce bs i := by
  simp [xorS, xorN, List.getD_eq_getElem?_getD, h]
/-- Whether the blocks go as far. -/
def fits (ct len : Nat) : Prop := (len + 63) / 64 ≤ 4294967296 - ct
instance (ct len : Nat) : Decidable (fits ct len) := inferInstanceAs (Decidable (_ ≤ _))
theorem ext_getD {a b : List Nat} (hl : a.length = b.length) (h : ∀ i, i < a.length → a.getD i 0 = b.getD i 0) : a = b := by
  refine List.ext_getElem hl fun i h1 h2 => ?_
  have := h i h1
  simpa [List.getD_eq_getElem?_getD, List.getElem?_eq_getElem h1, List.getElem?_eq_getElem h2] using this
theorem getD_take (bs : List Nat) (k i : Nat) (h : i < k) : (bs.take k).getD i 0 = bs.getD i 0 := by simp [List.getD_eq_getElem?_getD, h]
theorem xorS_take (key : List Nat) (ct : Nat) (nonce bs : List Nat) (k : Nat) (h : k ≤ bs.length) : (xorS key ct nonce bs).take k = xorS key ct nonce (bs.take k) := by
  refine ext_getD (by simp [xorS_length]) fun i hi => ?_
  rw [List.length_take, xorS_length] at hi
  rw [getD_take _ _ _ (by omega), xorS_get _ _ _ _ _ (by omega), xorS_get _ _ _ _ _ (by rw [List.length_take]; omega)]
  unfold xb
  rw [getD_take _ _ _ (by omega)]
theorem xorS_inj (key : List Nat) (ct : Nat) (nonce a b : List Nat) (hl : a.length = b.length) (h : xorS key ct nonce a = xorS key ct nonce b) : a = b := by
  refine ext_getD hl fun i hi => ?_
  have h1 := xorS_get key ct nonce a i hi
  have h2 := xorS_get key ct nonce b i (by omega)
  rw [h, h2] at h1
  unfold xb at h1
  have h3 := congrArg (· ^^^ strm key ct nonce i) h1
  simp only [Nat.xor_assoc, Nat.xor_self, Nat.xor_zero] at h3
  exact h3.symm
theorem xorS_twice (key : List Nat) (ct : Nat) (nonce bs : List Nat) : xorS key ct nonce (xorS key ct nonce bs) = bs := by
  refine ext_getD (by rw [xorS_length, xorS_length]) fun i hi => ?_
  rw [xorS_length, xorS_length] at hi
  rw [xorS_get _ _ _ _ _ (by rw [xorS_length]; exact hi)]
  unfold xb
  rw [xorS_get _ _ _ _ _ hi]
  unfold xb
  rw [Nat.xor_assoc, Nat.xor_self, Nat.xor_zero]
theorem xorS_append (key : List Nat) (ct : Nat) (nonce bs : List Nat) (k : Nat) (h : 64 * k ≤ bs.length) : xorS key ct nonce (bs.take (64 * k)) ++ xorS key (ct + k) nonce (bs.drop (64 * k)) = xorS key ct nonce bs := by
  refine ext_getD (by rw [List.length_append, xorS_length, xorS_length, xorS_length, List.length_take, List.length_drop]; omega) fun i hi => ?_
  rw [List.length_append, xorS_length, xorS_length, List.length_take, List.length_drop] at hi
  rw [xorS_get _ _ _ bs i (by omega)]
  by_cases h1 : i < 64 * k
  · have hl : i < (xorS key ct nonce (bs.take (64 * k))).length := by rw [xorS_length, List.length_take]; omega
    rw [List.getD_eq_getElem?_getD, List.getElem?_append_left hl, ← List.getD_eq_getElem?_getD, xorS_get _ _ _ _ _ (by rw [List.length_take]; omega)]
    unfold xb
    rw [getD_take _ _ _ h1]
  · have hl : (xorS key ct nonce (bs.take (64 * k))).length = 64 * k := by rw [xorS_length, List.length_take]; omega
    rw [List.getD_eq_getElem?_getD, List.getElem?_append_right (by omega), ← List.getD_eq_getElem?_getD, hl, xorS_get _ _ _ _ _ (by rw [List.length_drop]; omega)]
    unfold xb strm
    rw [show (bs.drop (64 * k)).getD (i - 64 * k) 0 = bs.getD i 0 from by simp [List.getD_eq_getElem?_getD, show 64 * k + (i - 64 * k) = i by omega]]
    rw [show ct + k + (i - 64 * k) / 64 = ct + i / 64 by omega, show (i - 64 * k) % 64 = i % 64 by omega]
/-- One byte is another one. -/
theorem xorS_set (key : List Nat) (ct : Nat) (nonce bs : List Nat) (k by_ : Nat) (h : k < bs.length) : (xorS key ct nonce (bs.set k (bs.getD k 0 ^^^ by_))).set k ((xorS key ct nonce (bs.set k (bs.getD k 0 ^^^ by_))).getD k 0 ^^^ by_) = xorS key ct nonce bs := by
  have hl : (bs.set k (bs.getD k 0 ^^^ by_)).length = bs.length := List.length_set
  refine ext_getD (by rw [List.length_set, xorS_length, xorS_length, hl]) fun i hi => ?_
  rw [List.length_set, xorS_length, hl] at hi
  rw [xorS_get _ _ _ bs i hi]
  by_cases e : k = i
  · subst e
    rw [List.getD_eq_getElem?_getD, List.getElem?_set_self (by rw [xorS_length, hl]; exact h)]
    show (xorS key ct nonce (bs.set k (bs.getD k 0 ^^^ by_))).getD k 0 ^^^ by_ = _
    rw [xorS_get _ _ _ _ _ (by rw [hl]; exact h)]
    unfold xb
    rw [show (bs.set k (bs.getD k 0 ^^^ by_)).getD k 0 = bs.getD k 0 ^^^ by_ from by rw [List.getD_eq_getElem?_getD, List.getElem?_set_self h]; rfl]
    rw [Nat.xor_assoc, Nat.xor_assoc, Nat.xor_comm (strm key ct nonce k) by_, ← Nat.xor_assoc by_, Nat.xor_self, Nat.zero_xor]
  · rw [List.getD_eq_getElem?_getD, List.getElem?_set_ne e, ← List.getD_eq_getElem?_getD, xorS_get _ _ _ _ _ (by rw [hl]; exact hi)]
    unfold xb
    rw [List.getD_eq_getElem?_getD, List.getElem?_set_ne e, ← List.getD_eq_getElem?_getD]
theorem zeros_get (n i : Nat) : (List.replicate n 0).getD i 0 = 0 := by
  rw [List.getD_eq_getElem?_getD, List.getElem?_replicate]
  split <;> rfl
/-- 128 bytes 0: two blocks. -/
theorem xor_blocks (key : List Nat) (ct : Nat) (nonce : List Nat) : xorS key ct nonce (List.replicate 128 0) = block key ct nonce ++ block key (ct + 1) nonce := by
  have h1 := block_length key ct nonce
  have h2 := block_length key (ct + 1) nonce
  refine ext_getD (by rw [xorS_length, List.length_append, h1, h2, List.length_replicate]) fun i hi => ?_
  rw [xorS_length, List.length_replicate] at hi
  rw [xorS_get _ _ _ _ _ (by rw [List.length_replicate]; exact hi)]
  unfold xb
  rw [zeros_get, Nat.zero_xor]
  unfold strm
  by_cases h : i < 64
  · rw [show i / 64 = 0 by omega, show i % 64 = i by omega, Nat.add_zero]
    rw [List.getD_eq_getElem?_getD, List.getD_eq_getElem?_getD, List.getElem?_append_left (by omega)]
  · rw [show i / 64 = 1 by omega, show i % 64 = i - 64 by omega]
    rw [List.getD_eq_getElem?_getD, List.getD_eq_getElem?_getD, List.getElem?_append_right (by omega), h1]
theorem xor_same (x y s : Nat) : (x ^^^ s) ^^^ (y ^^^ s) = x ^^^ y := by
  rw [Nat.xor_assoc, Nat.xor_comm y s, ← Nat.xor_assoc s s y, Nat.xor_self, Nat.zero_xor]
end Go.Proofs.Ytpcppnoomogloaa.St

namespace Go.Proofs.Ytpcppnoomogloaa.Po
set_option linter.unusedSimpArgs false
set_option linter.unusedVariables false

def PP : Nat := 1361129467683753853853498429727072845819
theorem PP_eq : PP = 1361129467683753853853498429727072845819 := rfl

/-! ### Bytes -/
def le : List Nat → Nat
  | [] => 0
  | x :: b => x + 256 * le b
theorem le_append (a b : List Nat) : le (a ++ b) = le a + 256 ^ a.length * le b := by
  induction a with
  | nil => simp [le]
  | cons x a ih => simp only [List.cons_append, le, ih, List.length_cons, Nat.pow_succ, Nat.mul_add]; rw [Nat.mul_comm (256 ^ a.length) 256, Nat.mul_assoc]; omega
theorem le_lt (a : List Nat) (h : ∀ x ∈ a, x < 256) : le a < 256 ^ a.length := by
  induction a with
  | nil => simp [le]
  | cons x a ih =>
    have h1 := ih (fun y hy => h y (List.mem_cons_of_mem _ hy))
    have h2 := h x List.mem_cons_self
    simp only [le, List.length_cons, Nat.pow_succ]
    omega
/-- k bytes of a number, the lowest first. -/
def by_ (k n : Nat) : List Nat := (List.range k).map fun i => n / 256 ^ i % 256
theorem by_length (k n : Nat) : (by_ k n).length = k := by simp [by_]
theorem by_lt (k n : Nat) : ∀ x ∈ by_ k n, x < 256 := by
  intro x hx
  simp only [by_, List.mem_map] at hx
  obtain ⟨i, _, rfl⟩ := hx
  exact Nat.mod_lt _ (by decide)
theorem by_succ (k n : Nat) : by_ (k + 1) n = n % 256 :: by_ k (n / 256) := by
  simp only [by_, List.range_succ_eq_map, List.map_cons, List.map_map, Nat.pow_zero, Nat.div_one]
  congr 1
  refine List.map_congr_left fun i _ => ?_
  simp only [Function.comp, Nat.pow_succ, Nat.div_div_eq_div_mul]
  rw [Nat.mul_comm]
theorem by_le (bs : List Nat) (h : ∀ x ∈ bs, x < 256) : by_ bs.length (le bs) = bs := by
  induction bs with
  | nil => rfl
  | cons x b ih =>
    have hx := h x List.mem_cons_self
    rw [List.length_cons, by_succ]
    simp only [le]
    rw [show (x + 256 * le b) % 256 = x from by omega, show (x + 256 * le b) / 256 = le b from by omega, ih (fun y hy => h y (List.mem_cons_of_mem _ hy))]
theorem le_by (k : Nat) : ∀ n, le (by_ k n) = n % 256 ^ k := by
  induction k with
  | zero => intro n; simp [by_, le, Nat.mod_one]
  | succ k ih =>
    intro n
    rw [by_succ, le, ih, Nat.pow_succ, Nat.mul_comm (256 ^ k) 256, Nat.mod_mul]
theorem by_mod (k n : Nat) : by_ k (n % 256 ^ k) = by_ k n := by
  have h := by_le (by_ k n) (by_lt k n)
  rw [by_length, le_by] at h
  exact h
theorem by_inj (k a b : Nat) (h : by_ k a = by_ k b) : a % 256 ^ k = b % 256 ^ k := by
  rw [← le_by, ← le_by, h]

/-! ### Limbs -/
def val (xs : List Nat) : Nat := xs.getD 0 0 + 67108864 * xs.getD 1 0 + 4503599627370496 * xs.getD 2 0 + 302231454903657293676544 * xs.getD 3 0 + 20282409603651670423947251286016 * xs.getD 4 0
def carry1 (xs : List Nat) (i to t : Nat) : List Nat :=
  let ys := xs.set i (xs.getD i 0 % 67108864)
  ys.set to ((ys.getD to 0 + xs.getD i 0 / 67108864 * t % 18446744073709551616) % 18446744073709551616)
def round1 (xs : List Nat) : List Nat := carry1 (carry1 (carry1 (carry1 (carry1 xs 0 1 1) 1 2 1) 2 3 1) 3 4 1) 4 0 5
def carried (xs : List Nat) : List Nat := carry1 (round1 (round1 xs)) 0 1 1
theorem carry1_length (xs : List Nat) (i to t : Nat) : (carry1 xs i to t).length = xs.length := by simp [carry1]
theorem round1_length (xs : List Nat) : (round1 xs).length = xs.length := by simp [round1, carry1_length]
theorem carried_length (xs : List Nat) : (carried xs).length = xs.length := by simp [carried, round1_length, carry1_length]

/-- The first k of a round's steps; n rounds. -/
def ups (xs : List Nat) : Nat → List Nat
  | 0 => xs
  | k + 1 => carry1 (ups xs k) k (k + 1) 1
def rnd (xs : List Nat) : Nat → List Nat
  | 0 => xs
  | n + 1 => carry1 (ups (rnd xs n) 4) 4 0 5
theorem ups_zero (xs : List Nat) : ups xs 0 = xs := rfl
theorem ups_succ (xs : List Nat) (k : Nat) : ups xs (k + 1) = carry1 (ups xs k) k (k + 1) 1 := rfl
theorem rnd_zero (xs : List Nat) : rnd xs 0 = xs := rfl
theorem rnd_succ (xs : List Nat) (n : Nat) : rnd xs (n + 1) = carry1 (ups (rnd xs n) 4) 4 0 5 := rfl
theorem carried_eq (xs : List Nat) : carried xs = carry1 (rnd xs 2) 0 1 1 := rfl
/-- Five numbers of 64 bits. -/
def ok5 (xs : List Nat) : Prop := xs.length = 5 ∧ ∀ x ∈ xs, x < 18446744073709551616
theorem ok5_set {xs : List Nat} (h : ok5 xs) (i v : Nat) (hv : v < 18446744073709551616) : ok5 (xs.set i v) :=
  ⟨by simp [h.1], fun x hx => by rcases List.mem_or_eq_of_mem_set hx with hx | rfl; exact h.2 x hx; exact hv⟩
theorem ok5_carry {xs : List Nat} (h : ok5 xs) (i to t : Nat) : ok5 (carry1 xs i to t) := by
  unfold carry1
  exact ok5_set (ok5_set h _ _ (by omega)) _ _ (Nat.mod_lt _ (by decide))
theorem ok5_ups {xs : List Nat} (h : ok5 xs) : ∀ k, ok5 (ups xs k)
  | 0 => h
  | k + 1 => ok5_carry (ok5_ups h k) _ _ _
theorem ok5_rnd {xs : List Nat} (h : ok5 xs) : ∀ n, ok5 (rnd xs n)
  | 0 => h
  | n + 1 => ok5_carry (ok5_ups (ok5_rnd h n) 4) _ _ _
theorem ok5_carried {xs : List Nat} (h : ok5 xs) : ok5 (carried xs) := ok5_carry (ok5_rnd h 2) _ _ _

theorem c01 (a b c d e : Nat) : carry1 [a, b, c, d, e] 0 1 1 = [a % 67108864, (b + a / 67108864 * 1 % 18446744073709551616) % 18446744073709551616, c, d, e] := rfl
theorem c12 (a b c d e : Nat) : carry1 [a, b, c, d, e] 1 2 1 = [a, b % 67108864, (c + b / 67108864 * 1 % 18446744073709551616) % 18446744073709551616, d, e] := rfl
theorem c23 (a b c d e : Nat) : carry1 [a, b, c, d, e] 2 3 1 = [a, b, c % 67108864, (d + c / 67108864 * 1 % 18446744073709551616) % 18446744073709551616, e] := rfl
theorem c34 (a b c d e : Nat) : carry1 [a, b, c, d, e] 3 4 1 = [a, b, c, d % 67108864, (e + d / 67108864 * 1 % 18446744073709551616) % 18446744073709551616] := rfl
theorem c40 (a b c d e : Nat) : carry1 [a, b, c, d, e] 4 0 5 = [(a + e / 67108864 * 5 % 18446744073709551616) % 18446744073709551616, b, c, d, e % 67108864] := rfl

/-- Each limb is below a bound. -/
def bnd (xs : List Nat) (A B C D E : Nat) : Prop := ∃ a b c d e, xs = [a, b, c, d, e] ∧ a < A ∧ b < B ∧ c < C ∧ d < D ∧ e < E
theorem bnd_mono {xs : List Nat} {A B C D E A' B' C' D' E' : Nat} (h : bnd xs A B C D E) (h1 : A ≤ A') (h2 : B ≤ B') (h3 : C ≤ C') (h4 : D ≤ D') (h5 : E ≤ E') : bnd xs A' B' C' D' E' := by
  obtain ⟨a, b, c, d, e, rfl, k1, k2, k3, k4, k5⟩ := h
  exact ⟨a, b, c, d, e, rfl, by omega, by omega, by omega, by omega, by omega⟩

theorem val5 (a b c d e : Nat) : val [a, b, c, d, e] = a + 67108864 * b + 4503599627370496 * c + 302231454903657293676544 * d + 20282409603651670423947251286016 * e := rfl

/-- A round: what it comes to, and how large limbs are. -/
theorem round1_gen (a b c d e : Nat) (ha : a < 1152921504606846976) (hb : b < 1152921504606846976) (hc : c < 1152921504606846976) (hd : d < 1152921504606846976) (he : e < 1152921504606846976) :
    ∃ a' b' c' d' e' q, round1 [a, b, c, d, e] = [a', b', c', d', e'] ∧ val [a, b, c, d, e] = val [a', b', c', d', e'] + q * PP ∧ a' < 67108864 + 5 * (q + 1) ∧ b' < 67108864 ∧ c' < 67108864 ∧ d' < 67108864 ∧ e' < 67108864 ∧
      a' = a % 67108864 + 5 * q ∧ q ≤ (e + 17179869440) / 67108864 ∧
      (∃ o1 o2 o3 o4, o1 = a / 67108864 ∧ o2 = (b + o1) / 67108864 ∧ o3 = (c + o2) / 67108864 ∧ o4 = (d + o3) / 67108864 ∧ q = (e + o4) / 67108864 ∧
        b' = (b + o1) % 67108864 ∧ c' = (c + o2) % 67108864 ∧ d' = (d + o3) % 67108864 ∧ e' = (e + o4) % 67108864) := by
  unfold round1
  rw [c01, c12, c23, c34, c40]
  obtain ⟨o1, h1⟩ : ∃ o1, o1 = a / 67108864 := ⟨_, rfl⟩
  have g1 : (b + a / 67108864 * 1 % 18446744073709551616) % 18446744073709551616 = b + o1 := by omega
  rw [g1]
  obtain ⟨o2, h2⟩ : ∃ o2, o2 = (b + o1) / 67108864 := ⟨_, rfl⟩
  have g2 : (c + (b + o1) / 67108864 * 1 % 18446744073709551616) % 18446744073709551616 = c + o2 := by omega
  rw [g2]
  obtain ⟨o3, h3⟩ : ∃ o3, o3 = (c + o2) / 67108864 := ⟨_, rfl⟩
  have g3 : (d + (c + o2) / 67108864 * 1 % 18446744073709551616) % 18446744073709551616 = d + o3 := by omega
  rw [g3]
  obtain ⟨o4, h4⟩ : ∃ o4, o4 = (d + o3) / 67108864 := ⟨_, rfl⟩
  have g4 : (e + (d + o3) / 67108864 * 1 % 18446744073709551616) % 18446744073709551616 = e + o4 := by omega
  rw [g4]
  obtain ⟨q, h5⟩ : ∃ q, q = (e + o4) / 67108864 := ⟨_, rfl⟩
  have g5 : (a % 67108864 + (e + o4) / 67108864 * 5 % 18446744073709551616) % 18446744073709551616 = a % 67108864 + 5 * q := by omega
  rw [g5]
  refine ⟨_, _, _, _, _, q, rfl, ?_, by omega, by omega, by omega, by omega, by omega, rfl, by omega, o1, o2, o3, o4, h1, h2, h3, h4, h5, rfl, rfl, rfl, rfl⟩
  rw [val5, val5, PP_eq]
  omega

theorem d1 (x o : Nat) (h : o = x / 67108864) (hx : x < 86234889216) : o ≤ 1284 := by omega
theorem d2 (x o p : Nat) (h : p = (x + o) / 67108864) (hx : x < 67108864) (ho : o ≤ 1284) : p ≤ 1 := by omega
theorem d3 (x o p : Nat) (h : p = (x + o) / 67108864) (hx : x < 67108865) (ho : o = 0) : p ≤ 1 := by omega
theorem d4 (e q : Nat) (he : e < 1152921504606846976) (h : q ≤ (e + 17179869440) / 67108864) : q ≤ 17179869440 := by omega
theorem d5 (b a : Nat) (hb : b < 67108864) (ha : a < 67108874) : (b + a / 67108864 * 1 % 18446744073709551616) % 18446744073709551616 = b + a / 67108864 ∧ b + a / 67108864 < 67108865 := by omega
theorem d6 (a b c d e : Nat) : val [a, b, c, d, e] = val [a % 67108864, b + a / 67108864, c, d, e] := by
  rw [val5, val5]; omega
/-- What is carried is the same number modulo P; its limbs are short, but for one. -/
theorem carried_gen (a b c d e : Nat) (ha : a < 1152921504606846976) (hb : b < 1152921504606846976) (hc : c < 1152921504606846976) (hd : d < 1152921504606846976) (he : e < 1152921504606846976) :
    ∃ a' b' c' d' e', carried [a, b, c, d, e] = [a', b', c', d', e'] ∧ val [a, b, c, d, e] % PP = val [a', b', c', d', e'] % PP ∧ a' < 67108864 ∧ b' < 67108865 ∧ c' < 67108864 ∧ d' < 67108864 ∧ e' < 67108864 := by
  obtain ⟨a1, b1, c1, d1', e1, q1, r1, v1, l1, l2, l3, l4, l5, _, l7, _⟩ := round1_gen a b c d e ha hb hc hd he
  have hq1 := d4 e q1 he l7
  have l1' : a1 < 86234889216 := by clear v1 r1; omega
  obtain ⟨a2, b2, c2, d2', e2, q2, r2, v2, m1, m2, m3, m4, m5, _, _, o1, o2, o3, o4, p1, p2, p3, p4, p5, _⟩ := round1_gen a1 b1 c1 d1' e1 (by clear v1 r1; omega) (by clear v1 r1; omega) (by clear v1 r1; omega) (by clear v1 r1; omega) (by clear v1 r1; omega)
  unfold carried
  rw [r1, r2, c01]
  have hv : val [a, b, c, d, e] % PP = val [a2, b2, c2, d2', e2] % PP := by
    rw [v1, v2, Nat.add_mul_mod_self_right, Nat.add_mul_mod_self_right]
  clear v1 r1 v2 r2 ha hb hc hd he l7 hq1 l1
  have ho1 := d1 _ _ p1 l1'
  have ho2 := d2 _ _ _ p2 l2 ho1
  have ho3 := d2 _ _ _ p3 l3 (by clear hv; omega)
  have ho4 := d2 _ _ _ p4 l4 (by clear hv; omega)
  have hq2 := d2 _ _ _ p5 l5 (by clear hv; omega)
  clear p1 p2 p3 p4 p5 ho1 ho2 ho3 ho4
  obtain ⟨g1, g2⟩ := d5 b2 a2 m2 (by clear hv; omega)
  rw [g1]
  refine ⟨_, _, _, _, _, rfl, ?_, Nat.mod_lt _ (by decide), g2, m3, m4, m5⟩
  rw [hv, ← d6]

theorem carried_short (a b c d e : Nat) (ha : a < 67108864) (hb : b < 67108865) (hc : c < 67108864) (hd : d < 67108864) (he : e < 67108864) :
    ∃ a' b' c' d' e', carried [a, b, c, d, e] = [a', b', c', d', e'] ∧ val [a, b, c, d, e] % PP = val [a', b', c', d', e'] % PP ∧ a' < 67108864 ∧ b' < 67108864 ∧ c' < 67108864 ∧ d' < 67108864 ∧ e' < 67108864 := by
  obtain ⟨a1, b1, c1, d1', e1, q1, r1, v1, l1, l2, l3, l4, l5, l6, _, t1, t2, t3, t4, s1, s2, s3, s4, s5, s6, _⟩ := round1_gen a b c d e (by omega) (by omega) (by omega) (by omega) (by omega)
  have h0 : t1 = 0 := by clear v1 r1; omega
  have h1 : t2 ≤ 1 := d3 _ _ _ s2 hb h0
  have h2 : t3 ≤ 1 := d2 _ _ _ s3 hc (by clear v1 r1; omega)
  have h3 : t4 ≤ 1 := d2 _ _ _ s4 hd (by clear v1 r1; omega)
  have h4 : q1 ≤ 1 := d2 _ _ _ s5 he (by clear v1 r1; omega)
  -- where the first limb gets more, the second one is small
  have hb1 : q1 = 0 ∨ b1 = 0 := by
    by_cases hz : t2 = 0
    · exact .inl (by clear v1 r1; subst hz; have : t3 = 0 := by omega
                     have : t4 = 0 := by omega
                     omega)
    · exact .inr (by clear v1 r1; omega)
  have ha1 : a1 < 67108864 ∧ b1 < 67108864 ∨ a1 < 67108864 + 5 ∧ b1 = 0 := by
    clear v1 r1 s1 s2 s3 s4 s5
    rcases hb1 with h | h
    · exact .inl ⟨by omega, l2⟩
    · exact .inr ⟨by omega, h⟩
  obtain ⟨a2, b2, c2, d2', e2, q2, r2, v2, m1, m2, m3, m4, m5, m6, _, o1, o2, o3, o4, p1, p2, p3, p4, p5, _⟩ := round1_gen a1 b1 c1 d1' e1 (by clear v1 r1; omega) (by clear v1 r1; omega) (by clear v1 r1; omega) (by clear v1 r1; omega) (by clear v1 r1; omega)
  unfold carried
  rw [r1, r2, c01]
  have hv : val [a, b, c, d, e] % PP = val [a2, b2, c2, d2', e2] % PP := by
    rw [v1, v2, Nat.add_mul_mod_self_right, Nat.add_mul_mod_self_right]
  clear v1 r1 v2 r2 s1 s2 s3 s4 s5 s6 h0 h1 h2 h3 h4 l6 l1 hb1
  have ho2 : o2 = 0 := by
    clear hv p3 p4 p5
    rcases ha1 with ⟨x, y⟩ | ⟨x, y⟩ <;> omega
  have ho3 : o3 = 0 := by clear hv p1 p2 p4 p5 ha1; omega
  have ho4 : o4 = 0 := by clear hv p1 p2 p3 p5 ha1; omega
  have hq2 : q2 = 0 := by clear hv p1 p2 p3 p4 ha1; omega
  have ha2 : a2 < 67108864 := by clear hv p1 p2 p3 p4 p5 ha1; omega
  have g1 : (b2 + a2 / 67108864 * 1 % 18446744073709551616) % 18446744073709551616 = b2 := by clear hv p1 p2 p3 p4 p5 ha1 m6; omega
  rw [g1, Nat.mod_eq_of_lt ha2]
  exact ⟨_, _, _, _, _, rfl, hv, ha2, m2, m3, m4, m5⟩
end Go.Proofs.Ytpcppnoomogloaa.Po

namespace Go.Proofs.Ytpcppnoomogloaa.Po
set_option linter.unusedSimpArgs false
set_option linter.unusedVariables false

def WW : Nat := 18446744073709551616
theorem WW_eq : WW = 18446744073709551616 := rfl
def tstep (xs ys out : List Nat) (i k : Nat) : List Nat :=
  if i + k < 5 then out.set (i + k) ((out.getD (i + k) 0 + xs.getD i 0 * ys.getD k 0 % 18446744073709551616) % 18446744073709551616)
  else out.set (i + k - 5) ((out.getD (i + k - 5) 0 + 5 * xs.getD i 0 % 18446744073709551616 * ys.getD k 0 % 18446744073709551616) % 18446744073709551616)
def trow (xs ys out : List Nat) (i : Nat) : Nat → List Nat
  | 0 => out
  | k + 1 => tstep xs ys (trow xs ys out i k) i k
def tall (xs ys : List Nat) : Nat → List Nat
  | 0 => [0, 0, 0, 0, 0]
  | i + 1 => trow xs ys (tall xs ys i) i 5
def times (xs ys : List Nat) : List Nat := carried (tall xs ys 5)
theorem tstep_length (xs ys out : List Nat) (i k : Nat) : (tstep xs ys out i k).length = out.length := by unfold tstep; split <;> simp
theorem trow_length (xs ys out : List Nat) (i k : Nat) : (trow xs ys out i k).length = out.length := by
  induction k with
  | zero => rfl
  | succ k ih => rw [trow, tstep_length, ih]
theorem tall_length (xs ys : List Nat) (i : Nat) : (tall xs ys i).length = 5 := by
  induction i with
  | zero => rfl
  | succ i ih => rw [tall, trow_length, ih]
theorem times_length (xs ys : List Nat) : (times xs ys).length = 5 := by unfold times; rw [carried_length, tall_length]
theorem trow_zero (xs ys out : List Nat) (i : Nat) : trow xs ys out i 0 = out := rfl
theorem trow_succ (xs ys out : List Nat) (i k : Nat) : trow xs ys out i (k + 1) = tstep xs ys (trow xs ys out i k) i k := rfl
theorem tall_zero (xs ys : List Nat) : tall xs ys 0 = [0, 0, 0, 0, 0] := rfl
theorem tall_succ (xs ys : List Nat) (i : Nat) : tall xs ys (i + 1) = trow xs ys (tall xs ys i) i 5 := rfl

theorem mb (x y A B : Nat) (hx : x < A) (hy : y < B) : x * y < A * B := Nat.mul_lt_mul'' hx hy
theorem tall_eq (x0 x1 x2 x3 x4 y0 y1 y2 y3 y4 : Nat) (h0 : x0 < 536870912) (h1 : x1 < 536870912) (h2 : x2 < 536870912) (h3 : x3 < 536870912) (h4 : x4 < 536870912)
    (k0 : y0 < 67108864) (k1 : y1 < 67108864) (k2 : y2 < 67108864) (k3 : y3 < 67108864) (k4 : y4 < 67108864) :
    tall [x0, x1, x2, x3, x4] [y0, y1, y2, y3, y4] 5 =
      [x0 * y0 + 5 * (x1 * y4) + 5 * (x2 * y3) + 5 * (x3 * y2) + 5 * (x4 * y1),
       x0 * y1 + x1 * y0 + 5 * (x2 * y4) + 5 * (x3 * y3) + 5 * (x4 * y2),
       x0 * y2 + x1 * y1 + x2 * y0 + 5 * (x3 * y4) + 5 * (x4 * y3),
       x0 * y3 + x1 * y2 + x2 * y1 + x3 * y0 + 5 * (x4 * y4),
       x0 * y4 + x1 * y3 + x2 * y2 + x3 * y1 + x4 * y0] := by
  have e1 : 5 * x1 % 18446744073709551616 = 5 * x1 := by omega
  have e2 : 5 * x2 % 18446744073709551616 = 5 * x2 := by omega
  have e3 : 5 * x3 % 18446744073709551616 = 5 * x3 := by omega
  have e4 : 5 * x4 % 18446744073709551616 = 5 * x4 := by omega
  have b00 := mb _ _ _ _ h0 k0
  have b01 := mb _ _ _ _ h0 k1
  have b02 := mb _ _ _ _ h0 k2
  have b03 := mb _ _ _ _ h0 k3
  have b04 := mb _ _ _ _ h0 k4
  have b10 := mb _ _ _ _ h1 k0
  have b11 := mb _ _ _ _ h1 k1
  have b12 := mb _ _ _ _ h1 k2
  have b13 := mb _ _ _ _ h1 k3
  have b14 := mb _ _ _ _ h1 k4
  have b20 := mb _ _ _ _ h2 k0
  have b21 := mb _ _ _ _ h2 k1
  have b22 := mb _ _ _ _ h2 k2
  have b23 := mb _ _ _ _ h2 k3
  have b24 := mb _ _ _ _ h2 k4
  have b30 := mb _ _ _ _ h3 k0
  have b31 := mb _ _ _ _ h3 k1
  have b32 := mb _ _ _ _ h3 k2
  have b33 := mb _ _ _ _ h3 k3
  have b34 := mb _ _ _ _ h3 k4
  have b40 := mb _ _ _ _ h4 k0
  have b41 := mb _ _ _ _ h4 k1
  have b42 := mb _ _ _ _ h4 k2
  have b43 := mb _ _ _ _ h4 k3
  have b44 := mb _ _ _ _ h4 k4
  simp only [Nat.reduceMul] at b00 b01 b02 b03 b04 b10 b11 b12 b13 b14 b20 b21 b22 b23 b24 b30 b31 b32 b33 b34 b40 b41 b42 b43 b44
  have hr : ∀ (z0 z1 z2 z3 z4 i a b c d e : Nat), True := fun _ _ _ _ _ _ _ _ _ _ _ => trivial
  clear hr
  simp only [tall, trow, tstep, List.set_cons_zero, List.set_cons_succ, List.getD_cons_zero, List.getD_cons_succ, Nat.reduceAdd, Nat.reduceLT, Nat.reduceSub, if_true, if_false, Nat.zero_add, e1, e2, e3, e4, Nat.mul_assoc 5]
  generalize x0 * y0 = p00 at *
  generalize x0 * y1 = p01 at *
  generalize x0 * y2 = p02 at *
  generalize x0 * y3 = p03 at *
  generalize x0 * y4 = p04 at *
  generalize x1 * y0 = p10 at *
  generalize x1 * y1 = p11 at *
  generalize x1 * y2 = p12 at *
  generalize x1 * y3 = p13 at *
  generalize x1 * y4 = p14 at *
  generalize x2 * y0 = p20 at *
  generalize x2 * y1 = p21 at *
  generalize x2 * y2 = p22 at *
  generalize x2 * y3 = p23 at *
  generalize x2 * y4 = p24 at *
  generalize x3 * y0 = p30 at *
  generalize x3 * y1 = p31 at *
  generalize x3 * y2 = p32 at *
  generalize x3 * y3 = p33 at *
  generalize x3 * y4 = p34 at *
  generalize x4 * y0 = p40 at *
  generalize x4 * y1 = p41 at *
  generalize x4 * y2 = p42 at *
  generalize x4 * y3 = p43 at *
  generalize x4 * y4 = p44 at *
  clear e1 e2 e3 e4 h0 h1 h2 h3 h4 k0 k1 k2 k3 k4
  refine congr (congrArg List.cons ?_) (congr (congrArg List.cons ?_) (congr (congrArg List.cons ?_) (congr (congrArg List.cons ?_) (congr (congrArg List.cons ?_) rfl))))
  · clear b01 b02 b03 b04 b10 b11 b12 b13 b20 b21 b22 b24 b30 b31 b33 b34 b40 b42 b43 b44; omega
  · clear b00 b02 b03 b04 b11 b12 b13 b14 b20 b21 b22 b23 b30 b31 b32 b34 b40 b41 b43 b44; omega
  · clear b00 b01 b03 b04 b10 b12 b13 b14 b21 b22 b23 b24 b30 b31 b32 b33 b40 b41 b42 b44; omega
  · clear b00 b01 b02 b04 b10 b11 b13 b14 b20 b22 b23 b24 b31 b32 b33 b34 b40 b41 b42 b43; omega
  · clear b00 b01 b02 b03 b10 b11 b12 b14 b20 b21 b23 b24 b30 b32 b33 b34 b41 b42 b43 b44; omega

theorem mm (A B x y : Nat) : A * x * (B * y) = A * B * (x * y) := Nat.mul_mul_mul_comm _ _ _ _
theorem val_mul (x0 x1 x2 x3 x4 y0 y1 y2 y3 y4 : Nat) :
    val [x0, x1, x2, x3, x4] * val [y0, y1, y2, y3, y4] =
      val [x0 * y0 + 5 * (x1 * y4) + 5 * (x2 * y3) + 5 * (x3 * y2) + 5 * (x4 * y1),
       x0 * y1 + x1 * y0 + 5 * (x2 * y4) + 5 * (x3 * y3) + 5 * (x4 * y2),
       x0 * y2 + x1 * y1 + x2 * y0 + 5 * (x3 * y4) + 5 * (x4 * y3),
       x0 * y3 + x1 * y2 + x2 * y1 + x3 * y0 + 5 * (x4 * y4),
       x0 * y4 + x1 * y3 + x2 * y2 + x3 * y1 + x4 * y0] +
      PP * (x1 * y4 + x2 * y3 + x3 * y2 + x4 * y1 + 67108864 * (x2 * y4 + x3 * y3 + x4 * y2) + 4503599627370496 * (x3 * y4 + x4 * y3) + 302231454903657293676544 * (x4 * y4)) := by
  rw [val5, val5, val5, PP_eq]
  grind

/-- A product is the product, modulo P. -/
theorem times_val (xs ys : List Nat) (hx : bnd xs 536870912 536870912 536870912 536870912 536870912) (hy : bnd ys 67108864 67108864 67108864 67108864 67108864) :
    bnd (times xs ys) 67108864 67108865 67108864 67108864 67108864 ∧ val (times xs ys) % PP = val xs * val ys % PP := by
  obtain ⟨x0, x1, x2, x3, x4, rfl, h0, h1, h2, h3, h4⟩ := hx
  obtain ⟨y0, y1, y2, y3, y4, rfl, k0, k1, k2, k3, k4⟩ := hy
  have hm := val_mul x0 x1 x2 x3 x4 y0 y1 y2 y3 y4
  unfold times
  rw [tall_eq x0 x1 x2 x3 x4 y0 y1 y2 y3 y4 h0 h1 h2 h3 h4 k0 k1 k2 k3 k4]
  have b : ∀ x y, x < 536870912 → y < 67108864 → x * y < 36028797018963968 := fun x y hx hy => mb x y _ _ hx hy
  have c0 : x0 * y0 + 5 * (x1 * y4) + 5 * (x2 * y3) + 5 * (x3 * y2) + 5 * (x4 * y1) < 1152921504606846976 := by
    have := b _ _ h0 k0; have := b _ _ h1 k4; have := b _ _ h2 k3; have := b _ _ h3 k2; have := b _ _ h4 k1; omega
  have c1 : x0 * y1 + x1 * y0 + 5 * (x2 * y4) + 5 * (x3 * y3) + 5 * (x4 * y2) < 1152921504606846976 := by
    have := b _ _ h0 k1; have := b _ _ h1 k0; have := b _ _ h2 k4; have := b _ _ h3 k3; have := b _ _ h4 k2; omega
  have c2 : x0 * y2 + x1 * y1 + x2 * y0 + 5 * (x3 * y4) + 5 * (x4 * y3) < 1152921504606846976 := by
    have := b _ _ h0 k2; have := b _ _ h1 k1; have := b _ _ h2 k0; have := b _ _ h3 k4; have := b _ _ h4 k3; omega
  have c3 : x0 * y3 + x1 * y2 + x2 * y1 + x3 * y0 + 5 * (x4 * y4) < 1152921504606846976 := by
    have := b _ _ h0 k3; have := b _ _ h1 k2; have := b _ _ h2 k1; have := b _ _ h3 k0; have := b _ _ h4 k4; omega
  have c4 : x0 * y4 + x1 * y3 + x2 * y2 + x3 * y1 + x4 * y0 < 1152921504606846976 := by
    have := b _ _ h0 k4; have := b _ _ h1 k3; have := b _ _ h2 k2; have := b _ _ h3 k1; have := b _ _ h4 k0; omega
  obtain ⟨a', b', c', d', e', hr, hv, l1, l2, l3, l4, l5⟩ := carried_gen _ _ _ _ _ c0 c1 c2 c3 c4
  rw [hr]
  refine ⟨⟨a', b', c', d', e', rfl, l1, l2, l3, l4, l5⟩, ?_⟩
  rw [← hv, hm, Nat.add_mul_mod_self_left]

/-! ### The least number -/
def addc (xs : List Nat) (i : Nat) : List Nat :=
  let ys := xs.set (i + 1) ((xs.getD (i + 1) 0 + xs.getD i 0 / 67108864) % 18446744073709551616)
  ys.set i (ys.getD i 0 % 67108864)
def more5 (n : List Nat) : List Nat := n.set 0 ((n.getD 0 0 + 5) % 18446744073709551616)
def moreN (n : List Nat) : Nat → List Nat
  | 0 => more5 n
  | k + 1 => addc (moreN n k) k
def least (xs : List Nat) : List Nat :=
  let n := carried (carried xs)
  let m := moreN n 4
  if m.getD 4 0 / 67108864 = 0 then n else m.set 4 (m.getD 4 0 % 67108864)
theorem addc_length (xs : List Nat) (i : Nat) : (addc xs i).length = xs.length := by simp [addc]
theorem moreN_length (xs : List Nat) (k : Nat) : (moreN xs k).length = xs.length := by
  induction k with
  | zero => simp [moreN, more5]
  | succ k ih => rw [moreN, addc_length, ih]
theorem least_length (xs : List Nat) : (least xs).length = xs.length := by
  unfold least
  simp only
  split <;> simp [moreN_length, carried_length]

theorem least_of (xs n m : List Nat) (hn : carried (carried xs) = n) (hm : moreN n 4 = m) : least xs = if m.getD 4 0 / 67108864 = 0 then n else m.set 4 (m.getD 4 0 % 67108864) := by subst hn hm; rfl
theorem least_val (xs : List Nat) (h : bnd xs 67108864 67108865 67108864 67108864 67108864) : bnd (least xs) 67108864 67108864 67108864 67108864 67108864 ∧ val (least xs) = val xs % PP := by
  obtain ⟨a, b, c, d, e, rfl, h1, h2, h3, h4, h5⟩ := h
  obtain ⟨a1, b1, c1, d1, e1, r1, v1, l1, l2, l3, l4, l5⟩ := carried_gen a b c d e (by omega) (by omega) (by omega) (by omega) (by omega)
  obtain ⟨a2, b2, c2, d2, e2, r2, v2, m1, m2, m3, m4, m5⟩ := carried_short a1 b1 c1 d1 e1 l1 l2 l3 l4 l5
  rw [v1, v2]
  have hmore : moreN [a2, b2, c2, d2, e2] 4 = [(a2 + 5) % 67108864, (b2 + (a2 + 5) / 67108864) % 67108864, (c2 + (b2 + (a2 + 5) / 67108864) / 67108864) % 67108864,
      (d2 + (c2 + (b2 + (a2 + 5) / 67108864) / 67108864) / 67108864) % 67108864, e2 + (d2 + (c2 + (b2 + (a2 + 5) / 67108864) / 67108864) / 67108864) / 67108864] := by
    simp only [moreN, more5, addc, List.set_cons_zero, List.set_cons_succ, List.getD_cons_zero, List.getD_cons_succ, Nat.zero_add, Nat.reduceAdd]
    have w0 : (a2 + 5) % 18446744073709551616 = a2 + 5 := by omega
    rw [w0]
    obtain ⟨o1, p1⟩ : ∃ o1, o1 = (a2 + 5) / 67108864 := ⟨_, rfl⟩
    rw [← p1]
    have w1 : (b2 + o1) % 18446744073709551616 = b2 + o1 := by omega
    rw [w1]
    obtain ⟨o2, p2⟩ : ∃ o2, o2 = (b2 + o1) / 67108864 := ⟨_, rfl⟩
    rw [← p2]
    have w2 : (c2 + o2) % 18446744073709551616 = c2 + o2 := by omega
    rw [w2]
    obtain ⟨o3, p3⟩ : ∃ o3, o3 = (c2 + o2) / 67108864 := ⟨_, rfl⟩
    rw [← p3]
    have w3 : (d2 + o3) % 18446744073709551616 = d2 + o3 := by omega
    rw [w3]
    obtain ⟨o4, p4⟩ : ∃ o4, o4 = (d2 + o3) / 67108864 := ⟨_, rfl⟩
    rw [← p4]
    have w4 : (e2 + o4) % 18446744073709551616 = e2 + o4 := by omega
    rw [w4]
  have hle := least_of [a, b, c, d, e] _ _ (by rw [r1, r2]) hmore
  clear hmore r1 r2 v1 v2
  obtain ⟨o1, p1⟩ : ∃ o1, o1 = (a2 + 5) / 67108864 := ⟨_, rfl⟩
  rw [← p1] at hle
  obtain ⟨o2, p2⟩ : ∃ o2, o2 = (b2 + o1) / 67108864 := ⟨_, rfl⟩
  rw [← p2] at hle
  obtain ⟨o3, p3⟩ : ∃ o3, o3 = (c2 + o2) / 67108864 := ⟨_, rfl⟩
  rw [← p3] at hle
  obtain ⟨o4, p4⟩ : ∃ o4, o4 = (d2 + o3) / 67108864 := ⟨_, rfl⟩
  rw [← p4] at hle
  simp only [List.getD_cons_zero, List.getD_cons_succ, List.set_cons_zero, List.set_cons_succ] at hle
  by_cases h0 : (e2 + o4) / 67108864 = 0
  · rw [if_pos h0] at hle
    rw [hle]
    refine ⟨⟨_, _, _, _, _, rfl, m1, m2, m3, m4, m5⟩, ?_⟩
    rw [Nat.mod_eq_of_lt]
    clear hle
    rw [val5, PP_eq]; omega
  · rw [if_neg h0] at hle
    rw [hle]
    clear hle
    refine ⟨⟨_, _, _, _, _, rfl, by omega, by omega, by omega, by omega, by omega⟩, ?_⟩
    have hv : val [a2, b2, c2, d2, e2] = val [(a2 + 5) % 67108864, (b2 + o1) % 67108864, (c2 + o2) % 67108864, (d2 + o3) % 67108864, (e2 + o4) % 67108864] + PP := by
      rw [val5, val5, PP_eq]
      omega
    have h2 : val [a2, b2, c2, d2, e2] < 2 * PP := by rw [val5, PP_eq]; clear hv h0; omega
    rw [hv] at h2
    rw [hv, Nat.add_mod_right]
    rw [Nat.two_mul] at h2
    exact (Nat.mod_eq_of_lt (Nat.lt_of_add_lt_add_right h2)).symm
end Go.Proofs.Ytpcppnoomogloaa.Po

namespace Go.Proofs.Ytpcppnoomogloaa.Po
set_option linter.unusedSimpArgs false
set_option linter.unusedVariables false

/-- The limbs of a number. -/
def limbs (n : Nat) : List Nat := [n % 67108864, n / 67108864 % 67108864, n / 4503599627370496 % 67108864, n / 302231454903657293676544 % 67108864, n / 20282409603651670423947251286016 % 67108864]
theorem limbs_length (n : Nat) : (limbs n).length = 5 := rfl
theorem limbs_val (n : Nat) (h : n < 1361129467683753853853498429727072845824) : val (limbs n) = n := by
  unfold limbs; rw [val5]; omega
theorem limbs_bnd (n : Nat) : bnd (limbs n) 67108864 67108864 67108864 67108864 67108864 := ⟨_, _, _, _, _, rfl, by omega, by omega, by omega, by omega, by omega⟩
theorem limbs_zero : limbs 0 = [0, 0, 0, 0, 0] := rfl
/-- The number of the first i bytes. -/
def leN (bs : List Nat) (i : Nat) : Nat := le (bs.take i)
theorem leN_zero (bs : List Nat) : leN bs 0 = 0 := by simp [leN, le]
theorem leN_succ (bs : List Nat) (i : Nat) (h : i < bs.length) : leN bs (i + 1) = leN bs i + 256 ^ i * bs.getD i 0 := by
  unfold leN
  rw [List.take_succ_eq_append_getElem h, le_append, List.length_take, Nat.min_eq_left (by omega)]
  simp [le, List.getD_eq_getElem?_getD, List.getElem?_eq_getElem h]
theorem leN_lt (bs : List Nat) (hb : ∀ x ∈ bs, x < 256) (i : Nat) (h : i ≤ bs.length) : leN bs i < 256 ^ i := by
  have := le_lt (bs.take i) (fun x hx => hb x (List.mem_of_mem_take hx))
  rw [List.length_take, Nat.min_eq_left h] at this
  exact this
theorem leN_all (bs : List Nat) : leN bs bs.length = le bs := by unfold leN; rw [List.take_length]

/-! ### Clamped -/
def clampB (i x : Nat) : Nat := if i % 4 = 3 then x % 16 else if i % 4 = 0 ∧ 0 < i then x / 4 * 4 else x
def clamp (h : List Nat) : List Nat := (List.range 16).map fun i => clampB i (h.getD i 0)
theorem clampB_le (i x : Nat) : clampB i x ≤ x := by unfold clampB; split; omega; split <;> omega
theorem clamp_length (h : List Nat) : (clamp h).length = 16 := by simp [clamp]
theorem clamp_get (h : List Nat) (i : Nat) (hi : i < 16) : (clamp h).getD i 0 = clampB i (h.getD i 0) := by simp [clamp, List.getD_eq_getElem?_getD, hi]
theorem clampB_idem (i x : Nat) : clampB i (clampB i x) = clampB i x := by unfold clampB; split; omega; split <;> omega
theorem clamp_idem (h : List Nat) : clamp (clamp h) = clamp h := by
  unfold clamp
  refine List.map_congr_left fun i hi => ?_
  have hi := List.mem_range.1 hi
  have := clamp_get h i hi
  unfold clamp at this
  rw [this, clampB_idem]
theorem getD_lt (bs : List Nat) (hb : ∀ x ∈ bs, x < 256) (k : Nat) : bs.getD k 0 < 256 := by
  by_cases h : k < bs.length
  · rw [List.getD_eq_getElem?_getD, List.getElem?_eq_getElem h]; exact hb _ (List.getElem_mem h)
  · rw [List.getD_eq_getElem?_getD, List.getElem?_eq_none (by omega)]; decide
theorem clamp_lt (h : List Nat) (hb : ∀ x ∈ h, x < 256) : ∀ x ∈ clamp h, x < 256 := by
  intro x hx
  simp only [clamp, List.mem_map] at hx
  obtain ⟨i, _, rfl⟩ := hx
  have := clampB_le i (h.getD i 0)
  have := getD_lt h hb i
  omega

/-! ### A text's parts -/
/-- Part i, with its last bit. -/
def part (bs : List Nat) (i : Nat) : List Nat := (bs.drop (16 * i)).take 16 ++ [1]
def accN (r : Nat) (bs : List Nat) : Nat → Nat
  | 0 => 0
  | i + 1 => (accN r bs i + le (part bs i)) * r % PP
theorem accN_zero (r : Nat) (bs : List Nat) : accN r bs 0 = 0 := rfl
theorem accN_succ (r : Nat) (bs : List Nat) (i : Nat) : accN r bs (i + 1) = (accN r bs i + le (part bs i)) * r % PP := rfl
theorem accN_lt (r : Nat) (bs : List Nat) (i : Nat) : accN r bs i < PP := by
  cases i with
  | zero => rw [accN_zero, PP_eq]; decide
  | succ i => rw [accN_succ]; exact Nat.mod_lt _ (by rw [PP_eq]; decide)
theorem part_lt (bs : List Nat) (hb : ∀ x ∈ bs, x < 256) (i : Nat) : (∀ x ∈ part bs i, x < 256) ∧ (part bs i).length ≤ 17 := by
  refine ⟨fun x hx => ?_, by simp [part]; omega⟩
  simp only [part, List.mem_append, List.mem_singleton] at hx
  rcases hx with hx | rfl
  · exact hb x (List.mem_of_mem_drop (List.mem_of_mem_take hx))
  · decide
theorem part_le (bs : List Nat) (hb : ∀ x ∈ bs, x < 256) (i : Nat) : le (part bs i) < 680564733841876926926749214863536422912 := by
  unfold part
  rw [le_append]
  have h := le_lt ((bs.drop (16 * i)).take 16) (fun x hx => hb x (List.mem_of_mem_drop (List.mem_of_mem_take hx)))
  have hl : ((bs.drop (16 * i)).take 16).length ≤ 16 := by simp; omega
  have hp := Nat.pow_le_pow_right (n := 256) (by decide) hl
  have e : (256 : Nat) ^ 16 = 340282366920938463463374607431768211456 := by decide
  rw [e] at hp
  simp only [le]
  omega
/-- How many parts a text has. -/
def parts (n : Nat) : Nat := (n + 15) / 16
/-- What a text's parts come to. -/
def acc (r : Nat) (bs : List Nat) : Nat := accN r bs (parts bs.length)
def rOf (key : List Nat) : Nat := le (clamp (key.take 16))
def sOf (key : List Nat) : Nat := le (key.drop 16)
def tag (key bs : List Nat) : List Nat := by_ 16 (acc (rOf key) bs + sOf key)
theorem tag_length (key bs : List Nat) : (tag key bs).length = 16 := by_length _ _
theorem tag_lt (key bs : List Nat) : ∀ x ∈ tag key bs, x < 256 := by_lt _ _
/-- r is small. -/
theorem rOf_lt (key : List Nat) (hk : ∀ x ∈ key, x < 256) : rOf key < 340282366920938463463374607431768211456 := by
  have h := le_lt (clamp (key.take 16)) (clamp_lt _ (fun x hx => hk x (List.mem_of_mem_take hx)))
  rw [clamp_length] at h
  have e : (256 : Nat) ^ 16 = 340282366920938463463374607431768211456 := by decide
  rw [e] at h
  exact h

/-! ### The limbs of what the parts come to -/
/-- Limbs that are a number, short but for one. -/
def okH (h : List Nat) (v : Nat) : Prop := bnd h 67108864 67108865 67108864 67108864 67108864 ∧ val h % PP = v % PP
theorem okH_zero : okH [0, 0, 0, 0, 0] 0 := ⟨⟨_, _, _, _, _, rfl, by decide, by decide, by decide, by decide, by decide⟩, rfl⟩
def addL (h n : List Nat) : List Nat := [(h.getD 0 0 + n.getD 0 0) % 18446744073709551616, (h.getD 1 0 + n.getD 1 0) % 18446744073709551616, (h.getD 2 0 + n.getD 2 0) % 18446744073709551616, (h.getD 3 0 + n.getD 3 0) % 18446744073709551616, (h.getD 4 0 + n.getD 4 0) % 18446744073709551616]
theorem okH_step (h : List Nat) (v n r : Nat) (hh : okH h v) (hn : n < 680564733841876926926749214863536422912) (hr : r < 340282366920938463463374607431768211456) : okH (times (addL h (limbs n)) (limbs r)) ((v + n) * r % PP) := by
  obtain ⟨⟨a, b, c, d, e, rfl, h1, h2, h3, h4, h5⟩, hv⟩ := hh
  have hln := limbs_val n (by omega)
  obtain ⟨n0, n1, n2, n3, n4, en, k1, k2, k3, k4, k5⟩ := limbs_bnd n
  rw [en] at hln ⊢
  have ea : addL [a, b, c, d, e] [n0, n1, n2, n3, n4] = [a + n0, b + n1, c + n2, d + n3, e + n4] := by
    unfold addL
    simp only [List.getD_cons_zero, List.getD_cons_succ]
    rw [Nat.mod_eq_of_lt (show a + n0 < 18446744073709551616 by omega), Nat.mod_eq_of_lt (show b + n1 < 18446744073709551616 by omega), Nat.mod_eq_of_lt (show c + n2 < 18446744073709551616 by omega),
      Nat.mod_eq_of_lt (show d + n3 < 18446744073709551616 by omega), Nat.mod_eq_of_lt (show e + n4 < 18446744073709551616 by omega)]
  rw [ea]
  have hs : val [a + n0, b + n1, c + n2, d + n3, e + n4] = val [a, b, c, d, e] + n := by
    rw [← hln, val5, val5, val5]; omega
  obtain ⟨t1, t2⟩ := times_val [a + n0, b + n1, c + n2, d + n3, e + n4] (limbs r) ⟨_, _, _, _, _, rfl, by omega, by omega, by omega, by omega, by omega⟩ (limbs_bnd r)
  refine ⟨t1, ?_⟩
  rw [t2, hs, limbs_val r (by omega), Nat.mod_mod, Nat.mul_mod, Nat.add_mod, hv, ← Nat.add_mod, ← Nat.mul_mod]

/-! ### The last sum: two halves of eight bytes each -/
theorem fin_low (h0 h1 h2 : Nat) (k0 : h0 < 67108864) (k1 : h1 < 67108864) : h0 + h1 * 67108864 + h2 % 4096 * 4503599627370496 = (h0 + 67108864 * h1 + 4503599627370496 * h2) % 18446744073709551616 := by omega
def lowOf (n : Nat) : Nat := n % 18446744073709551616
def highOf (n : Nat) : Nat := n / 18446744073709551616 % 18446744073709551616
theorem fin_sum (a s : Nat) :
    lowOf (a + s) = (lowOf a + lowOf s) % 18446744073709551616 ∧ highOf (a + s) = (highOf a + highOf s + (lowOf a + lowOf s) / 18446744073709551616) % 18446744073709551616 := by
  unfold lowOf highOf; omega
theorem by16 (n i : Nat) (hi : i < 8) : (by_ 16 n).getD i 0 = lowOf n / 256 ^ i % 256 ∧ (by_ 16 n).getD (8 + i) 0 = highOf n / 256 ^ i % 256 := by
  have g : ∀ j, j < 16 → (by_ 16 n).getD j 0 = n / 256 ^ j % 256 := by intro j hj; simp [by_, List.getD_eq_getElem?_getD, hj]
  rw [g i (by omega), g (8 + i) (by omega)]
  unfold lowOf highOf
  have h8 : i = 0 ∨ i = 1 ∨ i = 2 ∨ i = 3 ∨ i = 4 ∨ i = 5 ∨ i = 6 ∨ i = 7 := by omega
  rcases h8 with rfl | rfl | rfl | rfl | rfl | rfl | rfl | rfl <;> (simp only [Nat.reducePow, Nat.reduceAdd]; omega)
attribute [irreducible] accN limbs
end Go.Proofs.Ytpcppnoomogloaa.Po

namespace Go.Proofs.Ytpcppnoomogloaa.Po
set_option linter.unusedSimpArgs false
set_option linter.unusedVariables false

def outP (lo hi k : Nat) : List Nat := (List.range 16).map fun i => if i < 8 then (if i < k then lo / 256 ^ i % 256 else 0) else (if i - 8 < k then hi / 256 ^ (i - 8) % 256 else 0)
theorem outP_length (lo hi k : Nat) : (outP lo hi k).length = 16 := by simp [outP]
theorem outP_zero (lo hi : Nat) : outP lo hi 0 = List.replicate 16 0 := by
  unfold outP
  rw [List.eq_replicate_iff]
  refine ⟨by simp, fun b hb => ?_⟩
  simp only [List.mem_map] at hb
  obtain ⟨i, _, rfl⟩ := hb
  simp
theorem outP_get (lo hi k i : Nat) (h : i < 16) : (outP lo hi k)[i]'(by rw [outP_length]; exact h) = if i < 8 then (if i < k then lo / 256 ^ i % 256 else 0) else (if i - 8 < k then hi / 256 ^ (i - 8) % 256 else 0) := by simp [outP]
theorem outP_step (lo hi k a b : Nat) (h : k < 8) (ha : a = lo / 256 ^ k % 256) (hb : b = hi / 256 ^ k % 256) : ((outP lo hi k).set k a).set (8 + k) b = outP lo hi (k + 1) := by
  subst ha hb
  refine List.ext_getElem (by simp [outP_length]) fun i h1 h2 => ?_
  rw [outP_length] at h2
  rw [outP_get lo hi (k + 1) i h2, List.getElem_set, List.getElem_set, outP_get lo hi k i h2]
  by_cases e1 : 8 + k = i
  · subst e1
    rw [if_pos rfl, if_neg (by omega), if_pos (by omega), show 8 + k - 8 = k from by omega]
  · rw [if_neg e1]
    by_cases e2 : k = i
    · subst e2
      rw [if_pos rfl, if_pos h, if_pos (by omega)]
    · rw [if_neg e2]
      by_cases e3 : i < 8
      · rw [if_pos e3, if_pos e3]
        by_cases e4 : i < k
        · rw [if_pos e4, if_pos (by omega)]
        · rw [if_neg e4, if_neg (by omega)]
      · rw [if_neg e3, if_neg e3]
        by_cases e4 : i - 8 < k
        · rw [if_pos e4, if_pos (by omega)]
        · rw [if_neg e4, if_neg (by omega)]
theorem outP_end (n : Nat) : outP (lowOf n) (highOf n) 8 = by_ 16 n := by
  refine List.ext_getElem (by rw [outP_length, by_length]) fun i h1 h2 => ?_
  rw [outP_length] at h1
  rw [outP_get _ _ _ _ h1]
  have e : (by_ 16 n)[i]'h2 = (by_ 16 n).getD i 0 := by rw [List.getD_eq_getElem?_getD, List.getElem?_eq_getElem h2]; rfl
  rw [e]
  by_cases h : i < 8
  · rw [if_pos h, if_pos h, (by16 n i h).1]
  · rw [if_neg h, if_pos (by omega)]
    have := (by16 n (i - 8) (by omega)).2
    rw [show 8 + (i - 8) = i from by omega] at this
    rw [this]

/-- The two words of a number that is five limbs. -/
theorem words_of (a b c d e : Nat) (ha : a < 67108864) (hb : b < 67108864) (hc : c < 67108864) (hd : d < 67108864) :
    a + b * 67108864 + c % 4096 * 4503599627370496 = lowOf (val [a, b, c, d, e]) ∧ c / 4096 + d * 16384 + e % 16777216 * 1099511627776 = highOf (val [a, b, c, d, e]) := by
  unfold lowOf highOf
  rw [val5]
  omega
theorem le_split (s : List Nat) (h : s.length = 16) : le s = le (s.take 8) + 18446744073709551616 * le (s.drop 8) := by
  have e := le_append (s.take 8) (s.drop 8)
  rw [List.take_append_drop, List.length_take, h] at e
  rw [e]; rfl
theorem low_le (s : List Nat) (h : s.length = 16) (hb : ∀ x ∈ s, x < 256) : lowOf (le s) = le (s.take 8) ∧ highOf (le s) = le (s.drop 8) := by
  have h1 := le_lt (s.take 8) (fun x hx => hb x (List.mem_of_mem_take hx))
  have h2 := le_lt (s.drop 8) (fun x hx => hb x (List.mem_of_mem_drop hx))
  rw [List.length_take, h] at h1
  rw [List.length_drop, h] at h2
  have e8 : (256 : Nat) ^ (min 8 16) = 18446744073709551616 := by decide
  have e9 : (256 : Nat) ^ (16 - 8) = 18446744073709551616 := by decide
  rw [e8] at h1
  rw [e9] at h2
  unfold lowOf highOf
  rw [le_split s h]
  omega
/-! ### Parts of a text -/
theorem parts_zero : parts 0 = 0 := rfl
theorem parts_lt (n i : Nat) : i < parts n ↔ 16 * i < n := by unfold parts; omega
end Go.Proofs.Ytpcppnoomogloaa.Po

namespace Go.Proofs.Ytpcppnoomogloaa.Po
set_option linter.unusedSimpArgs false
set_option linter.unusedVariables false
theorem limbs_def (n : Nat) : limbs n = [n % 67108864, n / 67108864 % 67108864, n / 4503599627370496 % 67108864, n / 302231454903657293676544 % 67108864, n / 20282409603651670423947251286016 % 67108864] := by unfold limbs; rfl
theorem lst0 (n x : Nat) (hn : n < 1) (hx : x < 256) : limbs (n + 1 * x) = (limbs n).set 0 ((limbs n).getD 0 0 + x * 1 % 67108864) ∧ (limbs n).getD 0 0 < 1 := by
  rw [limbs_def, limbs_def]
  simp only [List.set_cons_zero, List.set_cons_succ, List.getD_cons_zero, List.getD_cons_succ]
  refine ⟨?_, by omega⟩
  refine congr (congrArg List.cons ?_) (congr (congrArg List.cons ?_) (congr (congrArg List.cons ?_) (congr (congrArg List.cons ?_) (congr (congrArg List.cons ?_) rfl))))
  all_goals omega
theorem lst1 (n x : Nat) (hn : n < 256) (hx : x < 256) : limbs (n + 256 * x) = (limbs n).set 0 ((limbs n).getD 0 0 + x * 256 % 67108864) ∧ (limbs n).getD 0 0 < 256 := by
  rw [limbs_def, limbs_def]
  simp only [List.set_cons_zero, List.set_cons_succ, List.getD_cons_zero, List.getD_cons_succ]
  refine ⟨?_, by omega⟩
  refine congr (congrArg List.cons ?_) (congr (congrArg List.cons ?_) (congr (congrArg List.cons ?_) (congr (congrArg List.cons ?_) (congr (congrArg List.cons ?_) rfl))))
  all_goals omega
theorem lst2 (n x : Nat) (hn : n < 65536) (hx : x < 256) : limbs (n + 65536 * x) = (limbs n).set 0 ((limbs n).getD 0 0 + x * 65536 % 67108864) ∧ (limbs n).getD 0 0 < 65536 := by
  rw [limbs_def, limbs_def]
  simp only [List.set_cons_zero, List.set_cons_succ, List.getD_cons_zero, List.getD_cons_succ]
  refine ⟨?_, by omega⟩
  refine congr (congrArg List.cons ?_) (congr (congrArg List.cons ?_) (congr (congrArg List.cons ?_) (congr (congrArg List.cons ?_) (congr (congrArg List.cons ?_) rfl))))
  all_goals omega
theorem lst3 (n x : Nat) (hn : n < 16777216) (hx : x < 256) (ho : x / 4 = 0) : limbs (n + 16777216 * x) = (limbs n).set 0 ((limbs n).getD 0 0 + x * 16777216 % 67108864) ∧ (limbs n).getD 0 0 < 16777216 := by
  rw [limbs_def, limbs_def]
  simp only [List.set_cons_zero, List.set_cons_succ, List.getD_cons_zero, List.getD_cons_succ]
  refine ⟨?_, by omega⟩
  refine congr (congrArg List.cons ?_) (congr (congrArg List.cons ?_) (congr (congrArg List.cons ?_) (congr (congrArg List.cons ?_) (congr (congrArg List.cons ?_) rfl))))
  all_goals omega
theorem lst3_o (n x : Nat) (hn : n < 16777216) (hx : x < 256) : limbs (n + 16777216 * x) = ((limbs n).set 0 ((limbs n).getD 0 0 + x * 16777216 % 67108864)).set 1 (x / 4) ∧ (limbs n).getD 0 0 < 16777216 ∧ (limbs n).getD 1 0 = 0 := by
  rw [limbs_def, limbs_def]
  simp only [List.set_cons_zero, List.set_cons_succ, List.getD_cons_zero, List.getD_cons_succ]
  refine ⟨?_, by omega, by omega⟩
  refine congr (congrArg List.cons ?_) (congr (congrArg List.cons ?_) (congr (congrArg List.cons ?_) (congr (congrArg List.cons ?_) (congr (congrArg List.cons ?_) rfl))))
  all_goals omega
theorem lst4 (n x : Nat) (hn : n < 4294967296) (hx : x < 256) : limbs (n + 4294967296 * x) = (limbs n).set 1 ((limbs n).getD 1 0 + x * 64 % 67108864) ∧ (limbs n).getD 1 0 < 64 := by
  rw [limbs_def, limbs_def]
  simp only [List.set_cons_zero, List.set_cons_succ, List.getD_cons_zero, List.getD_cons_succ]
  refine ⟨?_, by omega⟩
  refine congr (congrArg List.cons ?_) (congr (congrArg List.cons ?_) (congr (congrArg List.cons ?_) (congr (congrArg List.cons ?_) (congr (congrArg List.cons ?_) rfl))))
  all_goals omega
theorem lst5 (n x : Nat) (hn : n < 1099511627776) (hx : x < 256) : limbs (n + 1099511627776 * x) = (limbs n).set 1 ((limbs n).getD 1 0 + x * 16384 % 67108864) ∧ (limbs n).getD 1 0 < 16384 := by
  rw [limbs_def, limbs_def]
  simp only [List.set_cons_zero, List.set_cons_succ, List.getD_cons_zero, List.getD_cons_succ]
  refine ⟨?_, by omega⟩
  refine congr (congrArg List.cons ?_) (congr (congrArg List.cons ?_) (congr (congrArg List.cons ?_) (congr (congrArg List.cons ?_) (congr (congrArg List.cons ?_) rfl))))
  all_goals omega
theorem lst6 (n x : Nat) (hn : n < 281474976710656) (hx : x < 256) (ho : x / 16 = 0) : limbs (n + 281474976710656 * x) = (limbs n).set 1 ((limbs n).getD 1 0 + x * 4194304 % 67108864) ∧ (limbs n).getD 1 0 < 4194304 := by
  rw [limbs_def, limbs_def]
  simp only [List.set_cons_zero, List.set_cons_succ, List.getD_cons_zero, List.getD_cons_succ]
  refine ⟨?_, by omega⟩
  refine congr (congrArg List.cons ?_) (congr (congrArg List.cons ?_) (congr (congrArg List.cons ?_) (congr (congrArg List.cons ?_) (congr (congrArg List.cons ?_) rfl))))
  all_goals omega
theorem lst6_o (n x : Nat) (hn : n < 281474976710656) (hx : x < 256) : limbs (n + 281474976710656 * x) = ((limbs n).set 1 ((limbs n).getD 1 0 + x * 4194304 % 67108864)).set 2 (x / 16) ∧ (limbs n).getD 1 0 < 4194304 ∧ (limbs n).getD 2 0 = 0 := by
  rw [limbs_def, limbs_def]
  simp only [List.set_cons_zero, List.set_cons_succ, List.getD_cons_zero, List.getD_cons_succ]
  refine ⟨?_, by omega, by omega⟩
  refine congr (congrArg List.cons ?_) (congr (congrArg List.cons ?_) (congr (congrArg List.cons ?_) (congr (congrArg List.cons ?_) (congr (congrArg List.cons ?_) rfl))))
  all_goals omega
theorem lst7 (n x : Nat) (hn : n < 72057594037927936) (hx : x < 256) : limbs (n + 72057594037927936 * x) = (limbs n).set 2 ((limbs n).getD 2 0 + x * 16 % 67108864) ∧ (limbs n).getD 2 0 < 16 := by
  rw [limbs_def, limbs_def]
  simp only [List.set_cons_zero, List.set_cons_succ, List.getD_cons_zero, List.getD_cons_succ]
  refine ⟨?_, by omega⟩
  refine congr (congrArg List.cons ?_) (congr (congrArg List.cons ?_) (congr (congrArg List.cons ?_) (congr (congrArg List.cons ?_) (congr (congrArg List.cons ?_) rfl))))
  all_goals omega
theorem lst8 (n x : Nat) (hn : n < 18446744073709551616) (hx : x < 256) : limbs (n + 18446744073709551616 * x) = (limbs n).set 2 ((limbs n).getD 2 0 + x * 4096 % 67108864) ∧ (limbs n).getD 2 0 < 4096 := by
  rw [limbs_def, limbs_def]
  simp only [List.set_cons_zero, List.set_cons_succ, List.getD_cons_zero, List.getD_cons_succ]
  refine ⟨?_, by omega⟩
  refine congr (congrArg List.cons ?_) (congr (congrArg List.cons ?_) (congr (congrArg List.cons ?_) (congr (congrArg List.cons ?_) (congr (congrArg List.cons ?_) rfl))))
  all_goals omega
theorem lst9 (n x : Nat) (hn : n < 4722366482869645213696) (hx : x < 256) (ho : x / 64 = 0) : limbs (n + 4722366482869645213696 * x) = (limbs n).set 2 ((limbs n).getD 2 0 + x * 1048576 % 67108864) ∧ (limbs n).getD 2 0 < 1048576 := by
  rw [limbs_def, limbs_def]
  simp only [List.set_cons_zero, List.set_cons_succ, List.getD_cons_zero, List.getD_cons_succ]
  refine ⟨?_, by omega⟩
  refine congr (congrArg List.cons ?_) (congr (congrArg List.cons ?_) (congr (congrArg List.cons ?_) (congr (congrArg List.cons ?_) (congr (congrArg List.cons ?_) rfl))))
  all_goals omega
theorem lst9_o (n x : Nat) (hn : n < 4722366482869645213696) (hx : x < 256) : limbs (n + 4722366482869645213696 * x) = ((limbs n).set 2 ((limbs n).getD 2 0 + x * 1048576 % 67108864)).set 3 (x / 64) ∧ (limbs n).getD 2 0 < 1048576 ∧ (limbs n).getD 3 0 = 0 := by
  rw [limbs_def, limbs_def]
  simp only [List.set_cons_zero, List.set_cons_succ, List.getD_cons_zero, List.getD_cons_succ]
  refine ⟨?_, by omega, by omega⟩
  refine congr (congrArg List.cons ?_) (congr (congrArg List.cons ?_) (congr (congrArg List.cons ?_) (congr (congrArg List.cons ?_) (congr (congrArg List.cons ?_) rfl))))
  all_goals omega
theorem lst10 (n x : Nat) (hn : n < 1208925819614629174706176) (hx : x < 256) : limbs (n + 1208925819614629174706176 * x) = (limbs n).set 3 ((limbs n).getD 3 0 + x * 4 % 67108864) ∧ (limbs n).getD 3 0 < 4 := by
  rw [limbs_def, limbs_def]
  simp only [List.set_cons_zero, List.set_cons_succ, List.getD_cons_zero, List.getD_cons_succ]
  refine ⟨?_, by omega⟩
  refine congr (congrArg List.cons ?_) (congr (congrArg List.cons ?_) (congr (congrArg List.cons ?_) (congr (congrArg List.cons ?_) (congr (congrArg List.cons ?_) rfl))))
  all_goals omega
theorem lst11 (n x : Nat) (hn : n < 309485009821345068724781056) (hx : x < 256) : limbs (n + 309485009821345068724781056 * x) = (limbs n).set 3 ((limbs n).getD 3 0 + x * 1024 % 67108864) ∧ (limbs n).getD 3 0 < 1024 := by
  rw [limbs_def, limbs_def]
  simp only [List.set_cons_zero, List.set_cons_succ, List.getD_cons_zero, List.getD_cons_succ]
  refine ⟨?_, by omega⟩
  refine congr (congrArg List.cons ?_) (congr (congrArg List.cons ?_) (congr (congrArg List.cons ?_) (congr (congrArg List.cons ?_) (congr (congrArg List.cons ?_) rfl))))
  all_goals omega
theorem lst12 (n x : Nat) (hn : n < 79228162514264337593543950336) (hx : x < 256) : limbs (n + 79228162514264337593543950336 * x) = (limbs n).set 3 ((limbs n).getD 3 0 + x * 262144 % 67108864) ∧ (limbs n).getD 3 0 < 262144 := by
  rw [limbs_def, limbs_def]
  simp only [List.set_cons_zero, List.set_cons_succ, List.getD_cons_zero, List.getD_cons_succ]
  refine ⟨?_, by omega⟩
  refine congr (congrArg List.cons ?_) (congr (congrArg List.cons ?_) (congr (congrArg List.cons ?_) (congr (congrArg List.cons ?_) (congr (congrArg List.cons ?_) rfl))))
  all_goals omega
theorem lst13 (n x : Nat) (hn : n < 20282409603651670423947251286016) (hx : x < 256) : limbs (n + 20282409603651670423947251286016 * x) = (limbs n).set 4 ((limbs n).getD 4 0 + x * 1 % 67108864) ∧ (limbs n).getD 4 0 < 1 := by
  rw [limbs_def, limbs_def]
  simp only [List.set_cons_zero, List.set_cons_succ, List.getD_cons_zero, List.getD_cons_succ]
  refine ⟨?_, by omega⟩
  refine congr (congrArg List.cons ?_) (congr (congrArg List.cons ?_) (congr (congrArg List.cons ?_) (congr (congrArg List.cons ?_) (congr (congrArg List.cons ?_) rfl))))
  all_goals omega
theorem lst14 (n x : Nat) (hn : n < 5192296858534827628530496329220096) (hx : x < 256) : limbs (n + 5192296858534827628530496329220096 * x) = (limbs n).set 4 ((limbs n).getD 4 0 + x * 256 % 67108864) ∧ (limbs n).getD 4 0 < 256 := by
  rw [limbs_def, limbs_def]
  simp only [List.set_cons_zero, List.set_cons_succ, List.getD_cons_zero, List.getD_cons_succ]
  refine ⟨?_, by omega⟩
  refine congr (congrArg List.cons ?_) (congr (congrArg List.cons ?_) (congr (congrArg List.cons ?_) (congr (congrArg List.cons ?_) (congr (congrArg List.cons ?_) rfl))))
  all_goals omega
theorem lst15 (n x : Nat) (hn : n < 1329227995784915872903807060280344576) (hx : x < 256) : limbs (n + 1329227995784915872903807060280344576 * x) = (limbs n).set 4 ((limbs n).getD 4 0 + x * 65536 % 67108864) ∧ (limbs n).getD 4 0 < 65536 := by
  rw [limbs_def, limbs_def]
  simp only [List.set_cons_zero, List.set_cons_succ, List.getD_cons_zero, List.getD_cons_succ]
  refine ⟨?_, by omega⟩
  refine congr (congrArg List.cons ?_) (congr (congrArg List.cons ?_) (congr (congrArg List.cons ?_) (congr (congrArg List.cons ?_) (congr (congrArg List.cons ?_) rfl))))
  all_goals omega
theorem lst16 (n x : Nat) (hn : n < 340282366920938463463374607431768211456) (hx : x < 4) : limbs (n + 340282366920938463463374607431768211456 * x) = (limbs n).set 4 ((limbs n).getD 4 0 + x * 16777216 % 67108864) ∧ (limbs n).getD 4 0 < 16777216 := by
  rw [limbs_def, limbs_def]
  simp only [List.set_cons_zero, List.set_cons_succ, List.getD_cons_zero, List.getD_cons_succ]
  refine ⟨?_, by omega⟩
  refine congr (congrArg List.cons ?_) (congr (congrArg List.cons ?_) (congr (congrArg List.cons ?_) (congr (congrArg List.cons ?_) (congr (congrArg List.cons ?_) rfl))))
  all_goals omega
end Go.Proofs.Ytpcppnoomogloaa.Po

namespace Go.Proofs.Ytpcppnoomogloaa.Po
set_option linter.unusedSimpArgs false
set_option linter.unusedVariables false

/-- Twenty digits. -/
def dg (xs : List Nat) : Prop := xs.length = 20 ∧ ∀ x ∈ xs, x < 256
theorem dg_by (n : Nat) : dg (by_ 20 n) := ⟨by_length _ _, by_lt _ _⟩
theorem dg_le {xs : List Nat} (h : dg xs) : le xs < 1461501637330902918203684832716283019655932542976 := by
  have := le_lt xs h.2
  rw [h.1, show (256 : Nat) ^ 20 = 1461501637330902918203684832716283019655932542976 from by decide] at this
  exact this
theorem le_by20 (n : Nat) (h : n < 1461501637330902918203684832716283019655932542976) : le (by_ 20 n) = n := by
  rw [le_by, show (256 : Nat) ^ 20 = 1461501637330902918203684832716283019655932542976 from by decide]
  exact Nat.mod_eq_of_lt h
theorem by_of_le {xs : List Nat} (h : dg xs) : by_ 20 (le xs) = xs := by
  have := by_le xs h.2
  rwa [h.1] at this
theorem PP_small : PP < 1461501637330902918203684832716283019655932542976 := by rw [PP_eq]; decide
theorem take_succ' (xs : List Nat) (i : Nat) (h : i < xs.length) : le (xs.take (i + 1)) = le (xs.take i) + 256 ^ i * xs.getD i 0 := leN_succ xs i h

/-! ### Compared -/
theorem drop_cons (xs : List Nat) (i : Nat) (h : i < xs.length) : xs.drop i = xs.getD i 0 :: xs.drop (i + 1) := by
  rw [List.drop_eq_getElem_cons h]
  simp [List.getD_eq_getElem?_getD, List.getElem?_eq_getElem h]
theorem le_at (xs : List Nat) (i : Nat) (h : i < xs.length) : le xs = le (xs.take i) + 256 ^ i * (xs.getD i 0 + 256 * le (xs.drop (i + 1))) := by
  have e := le_append (xs.take i) (xs.drop i)
  rw [List.take_append_drop, List.length_take, Nat.min_eq_left (by omega), drop_cons xs i h] at e
  rw [e]; rfl
theorem above_no {a b : List Nat} (ha : dg a) (hb : dg b) (i : Nat) (h : i < 20) (hd : a.drop (i + 1) = b.drop (i + 1)) (hlt : a.getD i 0 < b.getD i 0) : le a < le b := by
  rw [le_at a i (by rw [ha.1]; exact h), le_at b i (by rw [hb.1]; exact h), hd]
  have h1 := le_lt (a.take i) (fun x hx => ha.2 x (List.mem_of_mem_take hx))
  rw [List.length_take, ha.1, Nat.min_eq_left (by omega)] at h1
  generalize le (b.drop (i + 1)) = t
  have : 256 ^ i * (a.getD i 0 + 256 * t) + 256 ^ i ≤ 256 ^ i * (b.getD i 0 + 256 * t) := by
    rw [← Nat.mul_succ]
    exact Nat.mul_le_mul_left _ (by omega)
  omega
theorem above_eq {a b : List Nat} (hd : a.drop 0 = b.drop 0) : le a = le b := by rw [List.drop_zero, List.drop_zero] at hd; rw [hd]
theorem drop_step {a b : List Nat} (ha : dg a) (hb : dg b) (i : Nat) (h : i < 20) (hd : a.drop (i + 1) = b.drop (i + 1)) (he : a.getD i 0 = b.getD i 0) : a.drop i = b.drop i := by
  rw [drop_cons a i (by rw [ha.1]; exact h), drop_cons b i (by rw [hb.1]; exact h), hd, he]

/-! ### Subtracted -/
def bor (a b : List Nat) : Nat → Nat
  | 0 => 0
  | i + 1 => if a.getD i 0 < b.getD i 0 + bor a b i then 1 else 0
def subD (a b : List Nat) (i : Nat) : Nat := (a.getD i 0 + 256 - b.getD i 0 - bor a b i) % 256
def subN (a b : List Nat) (i : Nat) : List Nat := (List.range i).map (subD a b) ++ a.drop i
theorem bor_le (a b : List Nat) (i : Nat) : bor a b i ≤ 1 := by
  cases i with
  | zero => exact Nat.zero_le _
  | succ i => unfold bor; split <;> omega
theorem bor_zero (a b : List Nat) : bor a b 0 = 0 := rfl
theorem bor_succ (a b : List Nat) (i : Nat) : bor a b (i + 1) = if a.getD i 0 < b.getD i 0 + bor a b i then 1 else 0 := rfl
theorem subN_zero (a b : List Nat) : subN a b 0 = a := by simp [subN]
theorem mapN_set (f : Nat → Nat) (a : List Nat) (i : Nat) (h : i < a.length) : ((List.range i).map f ++ a.drop i).set i (f i) = (List.range (i + 1)).map f ++ a.drop (i + 1) := by
  rw [List.set_append_right _ _ (by simp), List.length_map, List.length_range, Nat.sub_self, drop_cons a i h, List.set_cons_zero, List.range_succ, List.map_append]
  simp
theorem subN_succ (a b : List Nat) (i : Nat) (h : i < a.length) : (subN a b i).set i (subD a b i) = subN a b (i + 1) := mapN_set _ a i h
theorem mapN_get (f : Nat → Nat) (a : List Nat) (i : Nat) (h : i < a.length) : ((List.range i).map f ++ a.drop i).getD i 0 = a.getD i 0 := by
  rw [List.getD_eq_getElem?_getD, List.getElem?_append_right (by simp), List.length_map, List.length_range, Nat.sub_self, List.getElem?_drop, Nat.add_zero, ← List.getD_eq_getElem?_getD]
theorem subN_get (a b : List Nat) (i : Nat) (h : i < a.length) : (subN a b i).getD i 0 = a.getD i 0 := mapN_get _ a i h
theorem subN_length (a b : List Nat) (i : Nat) (h : i ≤ a.length) : (subN a b i).length = a.length := by simp [subN]; omega
theorem le_map_succ (f : Nat → Nat) (i : Nat) : le ((List.range (i + 1)).map f) = le ((List.range i).map f) + 256 ^ i * f i := by
  rw [List.range_succ, List.map_append, le_append]
  simp [le]
theorem sub_inv {a b : List Nat} (ha : dg a) (hb : dg b) : ∀ i, i ≤ 20 → le ((List.range i).map (subD a b)) + le (b.take i) = le (a.take i) + 256 ^ i * bor a b i
  | 0, _ => by simp [le, bor]
  | i + 1, h => by
    have ih := sub_inv ha hb i (by omega)
    rw [le_map_succ, take_succ' b i (by rw [hb.1]; omega), take_succ' a i (by rw [ha.1]; omega), bor_succ, Nat.pow_succ]
    have h1 := getD_lt a ha.2 i
    have h2 := getD_lt b hb.2 i
    have h3 := bor_le a b i
    rw [show subD a b i = (a.getD i 0 + 256 - b.getD i 0 - bor a b i) % 256 from rfl]
    generalize le ((List.range i).map (subD a b)) = u at *
    generalize a.getD i 0 = x at *
    generalize b.getD i 0 = y at *
    generalize bor a b i = c at *
    generalize 256 ^ i = p at *
    generalize le (b.take i) = v at *
    generalize le (a.take i) = t at *
    have hc : c = 0 ∨ c = 1 := by omega
    by_cases hxy : x < y + c
    · rw [if_pos hxy, Nat.mod_eq_of_lt (by omega)]
      have e : p * (x + 256 - y - c) + p * y + p * c = p * x + p * 256 := by
        rw [← Nat.mul_add, ← Nat.mul_add, ← Nat.mul_add]; congr 1; omega
      rcases hc with rfl | rfl
      · simp only [Nat.mul_zero, Nat.mul_one] at *; omega
      · simp only [Nat.mul_one] at *; omega
    · rw [if_neg hxy, show x + 256 - y - c = (x - y - c) + 256 from by omega, Nat.add_mod_right, Nat.mod_eq_of_lt (by omega)]
      have e : p * (x - y - c) + p * y + p * c = p * x := by
        rw [← Nat.mul_add, ← Nat.mul_add]; congr 1; omega
      rcases hc with rfl | rfl
      · simp only [Nat.mul_zero] at *; omega
      · simp only [Nat.mul_one, Nat.mul_zero] at *; omega
theorem dg_subN {a : List Nat} (ha : dg a) (b : List Nat) (i : Nat) (h : i ≤ 20) : dg (subN a b i) := by
  refine ⟨by rw [subN_length a b i (by rw [ha.1]; exact h), ha.1], fun x hx => ?_⟩
  simp only [subN, List.mem_append, List.mem_map] at hx
  rcases hx with ⟨j, _, rfl⟩ | hx
  · exact Nat.mod_lt _ (by decide)
  · exact ha.2 x (List.mem_of_mem_drop hx)
theorem subN_end {a b : List Nat} (ha : dg a) (hb : dg b) (h : le b ≤ le a) : subN a b 20 = by_ 20 (le a - le b) := by
  have hi := sub_inv ha hb 20 (Nat.le_refl _)
  have e1 : subN a b 20 = (List.range 20).map (subD a b) := by
    unfold subN
    rw [List.drop_eq_nil_of_le (by rw [ha.1]; exact Nat.le_refl _), List.append_nil]
  have hd := dg_subN ha b 20 (Nat.le_refl _)
  rw [← by_of_le hd]
  rw [← e1, List.take_of_length_le (l := a) (by rw [ha.1]; exact Nat.le_refl _), List.take_of_length_le (l := b) (by rw [hb.1]; exact Nat.le_refl _)] at hi
  have hlt := dg_le hd
  rw [show (256 : Nat) ^ 20 = 1461501637330902918203684832716283019655932542976 from by decide] at hi
  have hb1 := bor_le a b 20
  generalize bor a b 20 = c at *
  exact congrArg (by_ 20) (by omega)

/-! ### Added -/
def car (a b : List Nat) : Nat → Nat
  | 0 => 0
  | i + 1 => (a.getD i 0 + b.getD i 0 + car a b i) / 256
def addD (a b : List Nat) (i : Nat) : Nat := (a.getD i 0 + b.getD i 0 + car a b i) % 256
def addN (a b : List Nat) (i : Nat) : List Nat := (List.range i).map (addD a b) ++ a.drop i
theorem car_zero (a b : List Nat) : car a b 0 = 0 := rfl
theorem car_succ (a b : List Nat) (i : Nat) : car a b (i + 1) = (a.getD i 0 + b.getD i 0 + car a b i) / 256 := rfl
theorem addN_zero (a b : List Nat) : addN a b 0 = a := by simp [addN]
theorem addN_succ (a b : List Nat) (i : Nat) (h : i < a.length) : (addN a b i).set i (addD a b i) = addN a b (i + 1) := mapN_set _ a i h
theorem addN_get (a b : List Nat) (i : Nat) (h : i < a.length) : (addN a b i).getD i 0 = a.getD i 0 := mapN_get _ a i h
theorem addN_length (a b : List Nat) (i : Nat) (h : i ≤ a.length) : (addN a b i).length = a.length := by simp [addN]; omega
theorem car_lt {a b : List Nat} (ha : ∀ x ∈ a, x < 256) (hb : ∀ x ∈ b, x < 256) : ∀ i, car a b i ≤ 1
  | 0 => by simp [car]
  | i + 1 => by
    have ih := car_lt ha hb i
    have h1 := getD_lt a ha i
    have h2 := getD_lt b hb i
    rw [car_succ]; omega
theorem add_inv {a b : List Nat} (ha : a.length = b.length) : ∀ i, i ≤ a.length → le ((List.range i).map (addD a b)) + 256 ^ i * car a b i = le (a.take i) + le (b.take i)
  | 0, _ => by simp [le, car]
  | i + 1, h => by
    have ih := add_inv ha i (by omega)
    rw [le_map_succ, take_succ' b i (by omega), take_succ' a i (by omega), car_succ, Nat.pow_succ]
    rw [show addD a b i = (a.getD i 0 + b.getD i 0 + car a b i) % 256 from rfl]
    generalize le ((List.range i).map (addD a b)) = u at *
    generalize a.getD i 0 = x at *
    generalize b.getD i 0 = y at *
    generalize car a b i = c at *
    generalize 256 ^ i = p at *
    generalize le (b.take i) = v at *
    generalize le (a.take i) = t at *
    have e : p * ((x + y + c) % 256) + p * 256 * ((x + y + c) / 256) = p * x + p * y + p * c := by
      rw [Nat.mul_assoc, ← Nat.mul_add, ← Nat.mul_add, ← Nat.mul_add, Nat.mod_add_div]
    omega
theorem dg_addN {a : List Nat} (ha : dg a) (b : List Nat) (i : Nat) (h : i ≤ 20) : dg (addN a b i) := by
  refine ⟨by rw [addN_length a b i (by rw [ha.1]; exact h), ha.1], fun x hx => ?_⟩
  simp only [addN, List.mem_append, List.mem_map] at hx
  rcases hx with ⟨j, _, rfl⟩ | hx
  · exact Nat.mod_lt _ (by decide)
  · exact ha.2 x (List.mem_of_mem_drop hx)
theorem addN_end {a b : List Nat} (ha : dg a) (hb : dg b) (h : le a < PP) (h2 : le b < PP) : le (addN a b 20) = le a + le b := by
  have hi := add_inv (by rw [ha.1, hb.1] : a.length = b.length) 20 (by rw [ha.1]; exact Nat.le_refl _)
  have e1 : addN a b 20 = (List.range 20).map (addD a b) := by
    unfold addN
    rw [List.drop_eq_nil_of_le (by rw [ha.1]; exact Nat.le_refl _), List.append_nil]
  rw [← e1, List.take_of_length_le (l := a) (by rw [ha.1]; exact Nat.le_refl _), List.take_of_length_le (l := b) (by rw [hb.1]; exact Nat.le_refl _)] at hi
  rw [show (256 : Nat) ^ 20 = 1461501637330902918203684832716283019655932542976 from by decide] at hi
  rw [PP_eq] at h h2
  generalize car a b 20 = c at *
  omega
/-- Added, modulo P. -/
theorem add_fin {a b : List Nat} (ha : dg a) (hb : dg b) (h : le a < PP) (h2 : le b < PP) (hab : PP ≤ le (addN a b 20)) : by_ 20 (le (addN a b 20) - PP) = by_ 20 ((le a + le b) % PP) := by
  rw [addN_end ha hb h h2] at hab ⊢
  refine congrArg (by_ 20) ?_
  rw [Nat.mod_eq_sub_mod hab, Nat.mod_eq_of_lt (by omega)]
theorem add_fin2 {a b : List Nat} (ha : dg a) (hb : dg b) (h : le a < PP) (h2 : le b < PP) (hab : ¬ PP ≤ le (addN a b 20)) : addN a b 20 = by_ 20 ((le a + le b) % PP) := by
  rw [← by_of_le (dg_addN ha b 20 (Nat.le_refl _)), addN_end ha hb h h2] at *
  rw [le_by20 _ (by rw [PP_eq] at *; omega)] at hab
  rw [Nat.mod_eq_of_lt (by omega)]

/-! ### Multiplied, bit by bit -/
theorem bit_step (x y b q : Nat) (hq : 0 < q) : ((x * (y / (2 * q)) % PP + x * (y / (2 * q)) % PP) % PP + (if y / q % 2 = 1 then x else 0)) % PP = x * (y / q) % PP := by
  have e : y / (2 * q) = y / q / 2 := by rw [Nat.div_div_eq_div_mul, Nat.mul_comm]
  rw [e]
  generalize y / q = z
  have hz : z = 2 * (z / 2) + z % 2 := by omega
  rw [← Nat.add_mod, Nat.mod_add_mod]
  split
  · rename_i h1
    rw [h1] at hz
    congr 1
    generalize z / 2 = t at *
    subst hz
    rw [Nat.mul_add, Nat.mul_one, Nat.two_mul, Nat.mul_add]
  · rename_i h1
    have h0 : z % 2 = 0 := by omega
    rw [h0] at hz
    congr 1
    generalize z / 2 = t at *
    subst hz
    rw [Nat.add_zero, Nat.add_zero, Nat.two_mul, Nat.mul_add]
theorem bit_of {b : List Nat} (hb : dg b) (j k : Nat) (hj : j < 20) (hk : k < 8) : b.getD j 0 / 2 ^ k % 2 = le b / 2 ^ (8 * j + k) % 2 := by
  rw [le_at b j (by rw [hb.1]; exact hj)]
  have h1 := le_lt (b.take j) (fun x hx => hb.2 x (List.mem_of_mem_take hx))
  rw [List.length_take, hb.1, Nat.min_eq_left (by omega)] at h1
  generalize le (b.take j) = u at *
  generalize le (b.drop (j + 1)) = t
  generalize b.getD j 0 = x
  have e : (2 : Nat) ^ (8 * j + k) = 256 ^ j * 2 ^ k := by rw [Nat.pow_add, Nat.pow_mul]
  rw [e, ← Nat.div_div_eq_div_mul, Nat.add_mul_div_left _ _ (Nat.pow_pos (by decide)), Nat.div_eq_of_lt h1, Nat.zero_add]
  rcases (show k = 0 ∨ k = 1 ∨ k = 2 ∨ k = 3 ∨ k = 4 ∨ k = 5 ∨ k = 6 ∨ k = 7 from by omega) with rfl | rfl | rfl | rfl | rfl | rfl | rfl | rfl <;> (simp only [Nat.reducePow]; omega)
end Go.Proofs.Ytpcppnoomogloaa.Po

namespace Go.Proofs.Ytpcppnoomogloaa.Po
set_option linter.unusedSimpArgs false
set_option linter.unusedVariables false

/-- A list of which the first i are laid anew. -/
def fl (f : Nat → Nat) (b : List Nat) (i : Nat) : List Nat := (List.range i).map f ++ b.drop i
theorem fl_zero (f : Nat → Nat) (b : List Nat) : fl f b 0 = b := by simp [fl]
theorem fl_succ (f : Nat → Nat) (b : List Nat) (i : Nat) (h : i < b.length) : (fl f b i).set i (f i) = fl f b (i + 1) := mapN_set f b i h
theorem fl_length (f : Nat → Nat) (b : List Nat) (i : Nat) (h : i ≤ b.length) : (fl f b i).length = b.length := by simp [fl]; omega
theorem map_getD (a : List Nat) (n o : Nat) (h : o + n ≤ a.length) : (List.range n).map (fun i => a.getD (o + i) 0) = (a.drop o).take n := by
  refine List.ext_getElem (by simp; omega) fun i h1 h2 => ?_
  simp only [List.length_map, List.length_range] at h1
  simp [List.getD_eq_getElem?_getD, List.getElem?_eq_getElem (show o + i < a.length by omega)]
theorem fl_dg (f : Nat → Nat) (hf : ∀ i, f i < 256) (i : Nat) (h : i ≤ 20) : dg (fl f (List.replicate 20 0) i) := by
  refine ⟨by rw [fl_length _ _ _ (by simpa using h)]; rfl, fun x hx => ?_⟩
  simp only [fl, List.mem_append, List.mem_map] at hx
  rcases hx with ⟨j, _, rfl⟩ | hx
  · exact hf j
  · have := List.mem_of_mem_drop hx
    rw [List.mem_replicate] at this
    omega
theorem le_zeros : ∀ n, le (List.replicate n 0) = 0
  | 0 => rfl
  | n + 1 => by rw [List.replicate_succ]; simp only [le, le_zeros n]
theorem le_fl (f : Nat → Nat) (n i : Nat) : le (fl f (List.replicate n 0) i) = le ((List.range i).map f) := by
  unfold fl
  rw [le_append, List.drop_replicate, le_zeros, Nat.mul_zero, Nat.add_zero]

def halfL (key : List Nat) (i : Nat) : List Nat := fl (fun j => key.getD j 0) (List.replicate 16 0) i
def sL (key : List Nat) (i : Nat) : List Nat := fl (fun j => key.getD (16 + j) 0) (List.replicate 20 0) i
def rL (c : List Nat) (i : Nat) : List Nat := fl (fun j => c.getD j 0) (List.replicate 20 0) i
def nL (bs : List Nat) (at_ k : Nat) : List Nat := fl (fun j => bs.getD (at_ + j) 0) (List.replicate 20 0) k
theorem halfL_end (key : List Nat) (hk : key.length = 32) : halfL key 16 = key.take 16 := by
  have := map_getD key 16 0 (by omega)
  rw [List.drop_zero] at this
  simp only [Nat.zero_add] at this
  unfold halfL fl
  rw [this, List.drop_of_length_le (by simp), List.append_nil]
theorem sL_le (key : List Nat) (hk : key.length = 32) : le (sL key 16) = sOf key := by
  unfold sL sOf
  rw [le_fl, map_getD key 16 16 (by omega), List.take_of_length_le (by simp; omega)]
theorem rL_le (key : List Nat) : le (rL (clamp (key.take 16)) 16) = rOf key := by
  have := map_getD (clamp (key.take 16)) 16 0 (by rw [clamp_length]; omega)
  simp only [Nat.zero_add, List.drop_zero] at this
  unfold rL rOf
  rw [le_fl, this, List.take_of_length_le (by rw [clamp_length]; omega)]
theorem sL_dg (key : List Nat) (hb : ∀ x ∈ key, x < 256) (i : Nat) (h : i ≤ 20) : dg (sL key i) := fl_dg _ (fun _ => getD_lt key hb _) i h
theorem rL_dg (c : List Nat) (hb : ∀ x ∈ c, x < 256) (i : Nat) (h : i ≤ 20) : dg (rL c i) := fl_dg _ (fun _ => getD_lt c hb _) i h
theorem nL_dg (bs : List Nat) (hb : ∀ x ∈ bs, x < 256) (a k : Nat) (h : k ≤ 20) : dg (nL bs a k) := fl_dg _ (fun _ => getD_lt bs hb _) k h
/-- A part, with its last bit. -/
theorem nL_end (bs : List Nat) (hb : ∀ x ∈ bs, x < 256) (i k : Nat) (h : k = min 16 (bs.length - 16 * i)) (h0 : 16 * i < bs.length) : dg ((nL bs (16 * i) k).set k 1) ∧ le ((nL bs (16 * i) k).set k 1) = le (part bs i) := by
  have hd := nL_dg bs hb (16 * i) k (by omega)
  have hl : k < (nL bs (16 * i) k).length := by rw [hd.1]; omega
  refine ⟨⟨by rw [List.length_set, hd.1], fun x hx => ?_⟩, ?_⟩
  · rcases List.mem_or_eq_of_mem_set hx with hx | rfl
    · exact hd.2 x hx
    · decide
  · have e1 : part bs i = (List.range k).map (fun j => bs.getD (16 * i + j) 0) ++ [1] := by
      rw [map_getD bs k (16 * i) (by omega)]
      unfold part
      rw [h]
      congr 1
      rw [List.take_eq_take_iff]
      simp
    have e2 : (nL bs (16 * i) k).set k 1 = (List.range k).map (fun j => bs.getD (16 * i + j) 0) ++ (1 :: List.replicate (19 - k) 0) := by
      unfold nL fl
      rw [List.set_append_right _ _ (by simp), List.length_map, List.length_range, Nat.sub_self, List.drop_replicate, show 20 - k = (19 - k) + 1 from by omega, List.replicate_succ]
      rfl
    rw [e1, e2, le_append, le_append]
    simp only [le, le_zeros]
/-- A round of the sum. -/
theorem acc_step (key bs : List Nat) (i : Nat) : ((accN (rOf key) bs i + le (part bs i)) % PP) * rOf key % PP = accN (rOf key) bs (i + 1) := by
  rw [accN_succ, Nat.mod_mul_mod]
/-- The tag's bytes: two numbers of twenty digits, the lowest sixteen of their sum. -/
def oL (a b : List Nat) (i : Nat) : List Nat := fl (addD a b) (List.replicate 16 0) i
theorem by_same (k x y : Nat) (h : x % 256 ^ k = y % 256 ^ k) : by_ k x = by_ k y := by rw [← by_mod k x, h, by_mod k y]
theorem mod_of (M u c ta tb x y da db : Nat) (hi : u + M * c = ta + tb) (ea : x = ta + M * da) (eb : y = tb + M * db) : u % M = (x + y) % M := by
  rw [ea, eb, show ta + M * da + (tb + M * db) = u + M * (c + da + db) from by rw [Nat.mul_add, Nat.mul_add]; omega, Nat.add_mul_mod_self_left]
theorem oL_end {a b : List Nat} (ha : dg a) (hb : dg b) : oL a b 16 = by_ 16 (le a + le b) := by
  have e : oL a b 16 = (List.range 16).map (addD a b) := by unfold oL fl; rw [List.drop_of_length_le (by simp), List.append_nil]
  have hl : ((List.range 16).map (addD a b)).length = 16 := by simp
  have hlt : ∀ x ∈ (List.range 16).map (addD a b), x < 256 := by
    intro x hx
    simp only [List.mem_map] at hx
    obtain ⟨j, _, rfl⟩ := hx
    exact Nat.mod_lt _ (by decide)
  have h1 := by_le _ hlt
  rw [hl] at h1
  have hi := add_inv (a := a) (b := b) (by rw [ha.1, hb.1]) 16 (by rw [ha.1]; decide)
  have ea := le_append (a.take 16) (a.drop 16)
  have eb := le_append (b.take 16) (b.drop 16)
  rw [List.take_append_drop, List.length_take, ha.1, show min 16 20 = 16 from rfl] at ea
  rw [List.take_append_drop, List.length_take, hb.1, show min 16 20 = 16 from rfl] at eb
  rw [e, ← h1]
  exact by_same _ _ _ (mod_of _ _ _ _ _ _ _ _ _ hi ea eb)
theorem part_small (bs : List Nat) (hb : ∀ x ∈ bs, x < 256) (i : Nat) : le (part bs i) < PP := by have := part_le bs hb i; rw [PP_eq]; omega
theorem rOf_small (key : List Nat) (hk : ∀ x ∈ key, x < 256) : rOf key < 2 ^ 132 := by have := rOf_lt key hk; simp only [Nat.reducePow]; omega
end Go.Proofs.Ytpcppnoomogloaa.Po

namespace Go.Proofs.Ytpcppnoomogloaa.Ae
set_option linter.unusedSimpArgs false
set_option linter.unusedVariables false
open Go.Proofs.Ytpcppnoomogloaa.St (xorS xorS_length xorS_twice xorS_lt)

def fillZ (bs : List Nat) : List Nat := bs ++ List.replicate ((16 - bs.length % 16) % 16) 0
def e8 (n : Nat) : List Nat := (List.range 8).map fun i => n / 256 ^ i % 256
def text (hidden beside : List Nat) : List Nat := fillZ beside ++ fillZ hidden ++ e8 beside.length ++ e8 hidden.length
def tagA (key nonce hidden beside : List Nat) : List Nat := Po.tag ((Ch.block key 0 nonce).take 32) (text hidden beside)
def sealA (key nonce plain beside : List Nat) : List Nat := xorS key 1 nonce plain ++ tagA key nonce (xorS key 1 nonce plain) beside
theorem fillZ_length (bs : List Nat) : (fillZ bs).length = bs.length + (16 - bs.length % 16) % 16 := by simp [fillZ]
theorem fillZ_le (bs : List Nat) : (fillZ bs).length ≤ bs.length + 15 := by rw [fillZ_length]; omega
theorem fillZ_lt {bs : List Nat} (h : ∀ x ∈ bs, x < 256) : ∀ x ∈ fillZ bs, x < 256 := by
  intro x hx
  rcases List.mem_append.1 hx with hx | hx
  · exact h x hx
  · have := List.eq_of_mem_replicate hx
    omega
theorem e8_length (n : Nat) : (e8 n).length = 8 := by simp [e8]
theorem e8_lt (n : Nat) : ∀ x ∈ e8 n, x < 256 := by
  intro x hx
  simp only [e8, List.mem_map] at hx
  obtain ⟨i, _, rfl⟩ := hx
  exact Nat.mod_lt _ (by decide)
theorem text_lt {hidden beside : List Nat} (h1 : ∀ x ∈ hidden, x < 256) (h2 : ∀ x ∈ beside, x < 256) : ∀ x ∈ text hidden beside, x < 256 := by
  intro x hx
  simp only [text, List.mem_append] at hx
  rcases hx with ((hx | hx) | hx) | hx
  · exact fillZ_lt h2 x hx
  · exact fillZ_lt h1 x hx
  · exact e8_lt _ x hx
  · exact e8_lt _ x hx
theorem tagA_length (key nonce hidden beside : List Nat) : (tagA key nonce hidden beside).length = 16 := Po.tag_length _ _
theorem tagA_lt (key nonce hidden beside : List Nat) : ∀ x ∈ tagA key nonce hidden beside, x < 256 := Po.by_lt _ _
theorem sealA_length (key nonce plain beside : List Nat) : (sealA key nonce plain beside).length = plain.length + 16 := by
  unfold sealA
  rw [List.length_append, xorS_length, tagA_length]
theorem sealA_lt {key nonce plain beside : List Nat} (h : ∀ x ∈ plain, x < 256) : ∀ x ∈ sealA key nonce plain beside, x < 256 := by
  intro x hx
  rcases List.mem_append.1 hx with hx | hx
  · exact xorS_lt _ _ _ _ h x hx
  · exact tagA_lt _ _ _ _ x hx
/-- What opening hands back, if it opens. -/
def openA (key nonce b beside : List Nat) : Option (List Nat) :=
  if b.length < 16 then none
  else if tagA key nonce (b.take (b.length - 16)) beside = b.drop (b.length - 16) then some (xorS key 1 nonce (b.take (b.length - 16))) else none
theorem openA_short {key nonce b beside : List Nat} (h : b.length < 16) : openA key nonce b beside = none := by unfold openA; rw [if_pos h]
theorem openA_right {key nonce b beside : List Nat} (h : 16 ≤ b.length) (ht : tagA key nonce (b.take (b.length - 16)) beside = b.drop (b.length - 16)) : openA key nonce b beside = some (xorS key 1 nonce (b.take (b.length - 16))) := by
  unfold openA; rw [if_neg (by omega), if_pos ht]
theorem openA_wrong {key nonce b beside : List Nat} (h : 16 ≤ b.length) (ht : tagA key nonce (b.take (b.length - 16)) beside ≠ b.drop (b.length - 16)) : openA key nonce b beside = none := by
  unfold openA; rw [if_neg (by omega), if_neg ht]
theorem seal_take (key nonce plain beside : List Nat) : (sealA key nonce plain beside).take plain.length = xorS key 1 nonce plain := by
  unfold sealA
  rw [List.take_append_of_le_length (by rw [xorS_length]; exact Nat.le_refl _), List.take_of_length_le (by rw [xorS_length]; exact Nat.le_refl _)]
theorem seal_drop (key nonce plain beside : List Nat) : (sealA key nonce plain beside).drop plain.length = tagA key nonce (xorS key 1 nonce plain) beside := by
  unfold sealA
  exact List.drop_left' (by rw [xorS_length])
theorem open_seal (key nonce plain beside : List Nat) : openA key nonce (sealA key nonce plain beside) beside = some plain := by
  have hl := sealA_length key nonce plain beside
  rw [openA_right (by omega), hl, Nat.add_sub_cancel, seal_take, xorS_twice]
  rw [hl, Nat.add_sub_cancel, seal_take, seal_drop]
end Go.Proofs.Ytpcppnoomogloaa.Ae
