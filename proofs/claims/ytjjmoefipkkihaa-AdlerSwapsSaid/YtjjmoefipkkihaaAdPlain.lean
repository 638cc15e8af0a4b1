/- Plain arithmetic of check sums: no program in sight. -/
import Init
namespace Go.Proofs.Ytjjmoefipkkihaa.Ad

/-- All bytes added. -/
def S : List Nat → Nat
  | [] => 0
  | x :: b => x + S b
/-- Each byte as often as bytes are behind it, and once more. -/
def W : List Nat → Nat
  | [] => 0
  | x :: b => (b.length + 1) * x + W b

theorem S_append (a b : List Nat) : S (a ++ b) = S a + S b := by
  induction a with
  | nil => simp [S]
  | cons x a ih => simp [S, ih]; omega
theorem W_append (a b : List Nat) : W (a ++ b) = W a + b.length * S a + W b := by
  induction a with
  | nil => simp [S, W]
  | cons x a ih =>
    simp only [List.cons_append, W, ih, List.length_append, S, Nat.mul_add, Nat.add_mul]
    omega
theorem S_le (a : List Nat) (h : ∀ x ∈ a, x < 256) : S a ≤ 255 * a.length := by
  induction a with
  | nil => simp [S]
  | cons x a ih =>
    have h1 := ih (fun y hy => h y (List.mem_cons_of_mem _ hy))
    have h2 := h x List.mem_cons_self
    simp [S]; omega
theorem S_zeros (n : Nat) : S (List.replicate n 0) = 0 := by
  induction n with
  | zero => rfl
  | succ n ih => simp [List.replicate_succ, S, ih]
theorem W_zeros (n : Nat) : W (List.replicate n 0) = 0 := by
  induction n with
  | zero => rfl
  | succ n ih => simp [List.replicate_succ, W, ih]
theorem S_take_succ (b : List Nat) (k : Nat) (h : k < b.length) : S (b.take (k + 1)) = S (b.take k) + b.getD k 0 := by
  rw [List.take_succ_eq_append_getElem h, S_append]
  simp [S, List.getD_eq_getElem?_getD, List.getElem?_eq_getElem h]
theorem W_take_succ (b : List Nat) (k : Nat) (h : k < b.length) : W (b.take (k + 1)) = W (b.take k) + S (b.take (k + 1)) := by
  rw [List.take_succ_eq_append_getElem h, S_append, W_append]
  simp [S, W]; omega

/-- What goes on from a sum by bytes. -/
def more (s : Nat) (b : List Nat) : Nat :=
  (s / 65536 + b.length * (s % 65536) + W b) % 65521 * 65536 + (s % 65536 + S b) % 65521
theorem more_lt (s : Nat) (b : List Nat) : more s b < 4294967296 := by unfold more; omega
theorem more_lo (s : Nat) (b : List Nat) : more s b % 65536 = (s % 65536 + S b) % 65521 := by unfold more; omega
theorem more_hi (s : Nat) (b : List Nat) : more s b / 65536 = (s / 65536 + b.length * (s % 65536) + W b) % 65521 := by unfold more; omega

theorem more_more (s : Nat) (a b : List Nat) : more (more s a) b = more s (a ++ b) := by
  have h : more (more s a) b = (more s a / 65536 + b.length * (more s a % 65536) + W b) % 65521 * 65536 + (more s a % 65536 + S b) % 65521 := rfl
  rw [h, more_lo, more_hi]
  have e1 : ((s % 65536 + S a) % 65521 + S b) % 65521 = (s % 65536 + S (a ++ b)) % 65521 := by rw [S_append]; omega
  have e2 : ((s / 65536 + a.length * (s % 65536) + W a) % 65521 + b.length * ((s % 65536 + S a) % 65521) + W b) % 65521
      = (s / 65536 + (a ++ b).length * (s % 65536) + W (a ++ b)) % 65521 := by
    rw [W_append, List.length_append]
    have e3 : b.length * ((s % 65536 + S a) % 65521) % 65521 = b.length * (s % 65536 + S a) % 65521 := by simp [Nat.mul_mod]
    have e4 : b.length * (s % 65536 + S a) = b.length * (s % 65536) + b.length * S a := Nat.mul_add ..
    have e5 : (a.length + b.length) * (s % 65536) = a.length * (s % 65536) + b.length * (s % 65536) := Nat.add_mul ..
    rw [e5]; rw [e4] at e3
    generalize b.length * ((s % 65536 + S a) % 65521) = p at *
    generalize b.length * (s % 65536) = q at *
    generalize b.length * S a = r at *
    generalize a.length * (s % 65536) = t at *
    omega
  rw [e1, e2]; rfl

/-- Two sums come together; n: of how many bytes the second one is. -/
def join (a b n : Nat) : Nat :=
  (a / 65536 + b / 65536 + n * (a % 65536 + 65520)) % 65521 * 65536 + (a % 65536 + 65520 + b % 65536) % 65521
theorem join_lo (a b n : Nat) : join a b n % 65536 = (a % 65536 + 65520 + b % 65536) % 65521 := by unfold join; omega
theorem join_hi (a b n : Nat) : join a b n / 65536 = (a / 65536 + b / 65536 + n * (a % 65536 + 65520)) % 65521 := by unfold join; omega
theorem join_lt (a b n : Nat) : join a b n < 4294967296 := by unfold join; omega

theorem join_more (s : Nat) (a b : List Nat) : join (more s a) (more 1 b) b.length = more s (a ++ b) := by
  unfold join
  rw [more_lo, more_lo, more_hi, more_hi]
  have e1 : ((s % 65536 + S a) % 65521 + 65520 + (1 % 65536 + S b) % 65521) % 65521 = (s % 65536 + S (a ++ b)) % 65521 := by rw [S_append]; omega
  have e2 : ((s / 65536 + a.length * (s % 65536) + W a) % 65521 + (1 / 65536 + b.length * (1 % 65536) + W b) % 65521 + b.length * ((s % 65536 + S a) % 65521 + 65520)) % 65521
      = (s / 65536 + (a ++ b).length * (s % 65536) + W (a ++ b)) % 65521 := by
    rw [W_append, List.length_append]
    have e3 : b.length * ((s % 65536 + S a) % 65521) % 65521 = b.length * (s % 65536 + S a) % 65521 := by simp [Nat.mul_mod]
    have e4 : b.length * (s % 65536 + S a) = b.length * (s % 65536) + b.length * S a := Nat.mul_add ..
    have e5 : (a.length + b.length) * (s % 65536) = a.length * (s % 65536) + b.length * (s % 65536) := Nat.add_mul ..
    have e6 : b.length * ((s % 65536 + S a) % 65521 + 65520) = b.length * ((s % 65536 + S a) % 65521) + b.length * 65520 := Nat.mul_add ..
    rw [e5, e6]; rw [e4] at e3
    generalize b.length * ((s % 65536 + S a) % 65521) = p at *
    generalize b.length * (s % 65536) = q at *
    generalize b.length * S a = r at *
    generalize a.length * (s % 65536) = t at *
    omega
  rw [e1, e2]; rfl

theorem aux (xh yh zh t p q r c : Nat) (h : p % 65521 = (q + c + r) % 65521) :
    ((xh + yh + t) % 65521 + zh + (p + c)) % 65521 = (xh + (yh + zh + (r + c)) % 65521 + (t + (q + c))) % 65521 := by omega
theorem join_assoc (x y z m n : Nat) : join (join x y m) z n = join x (join y z n) (m + n) := by
  have h1 : join (join x y m) z n = (join x y m / 65536 + z / 65536 + n * (join x y m % 65536 + 65520)) % 65521 * 65536 + (join x y m % 65536 + 65520 + z % 65536) % 65521 := rfl
  have h2 : join x (join y z n) (m + n) = (x / 65536 + join y z n / 65536 + (m + n) * (x % 65536 + 65520)) % 65521 * 65536 + (x % 65536 + 65520 + join y z n % 65536) % 65521 := rfl
  rw [h1, h2, join_lo, join_lo, join_hi, join_hi]
  have e1 : ((x % 65536 + 65520 + y % 65536) % 65521 + 65520 + z % 65536) % 65521 = (x % 65536 + 65520 + (y % 65536 + 65520 + z % 65536) % 65521) % 65521 := by omega
  have e2 : ((x / 65536 + y / 65536 + m * (x % 65536 + 65520)) % 65521 + z / 65536 + n * ((x % 65536 + 65520 + y % 65536) % 65521 + 65520)) % 65521
      = (x / 65536 + (y / 65536 + z / 65536 + n * (y % 65536 + 65520)) % 65521 + (m + n) * (x % 65536 + 65520)) % 65521 := by
    have e3 : n * ((x % 65536 + 65520 + y % 65536) % 65521) % 65521 = n * (x % 65536 + 65520 + y % 65536) % 65521 := by simp [Nat.mul_mod]
    have e4 : n * (x % 65536 + 65520 + y % 65536) = n * (x % 65536) + n * 65520 + n * (y % 65536) := by simp [Nat.mul_add]
    have e5 : (m + n) * (x % 65536 + 65520) = m * (x % 65536 + 65520) + (n * (x % 65536) + n * 65520) := by rw [Nat.add_mul, Nat.mul_add n]
    have e6 : n * ((x % 65536 + 65520 + y % 65536) % 65521 + 65520) = n * ((x % 65536 + 65520 + y % 65536) % 65521) + n * 65520 := Nat.mul_add ..
    have e7 : n * (y % 65536 + 65520) = n * (y % 65536) + n * 65520 := Nat.mul_add ..
    rw [e5, e6, e7]; rw [e4] at e3
    exact aux _ _ _ _ _ _ _ _ e3
  rw [e1, e2]

/-! What the statements want. -/
theorem more_zeros_lo (s n : Nat) : more s (List.replicate n 0) % 65536 = s % 65536 % 65521 := by rw [more_lo, S_zeros]; rfl
theorem more_nil (b : List Nat) : more (more 1 b) [] = more 1 b := by rw [more_more, List.append_nil]
theorem more_noughts (b : List Nat) (n : Nat) :
    more 1 (b ++ List.replicate n 0) = more 1 b % 65536 + 65536 * ((more 1 b / 65536 + n * (more 1 b % 65536) % 65521) % 65521) := by
  rw [← more_more]
  have h : more (more 1 b) (List.replicate n 0) = (more 1 b / 65536 + (List.replicate n 0).length * (more 1 b % 65536) + W (List.replicate n 0)) % 65521 * 65536 + (more 1 b % 65536 + S (List.replicate n 0)) % 65521 := rfl
  rw [h, W_zeros, S_zeros, List.length_replicate]
  have := more_lo 1 b
  generalize n * (more 1 b % 65536) = p
  omega
theorem more_only_noughts (n : Nat) (h : n < 256) : more 1 (List.replicate n 0) = 1 + 65536 * n := by
  unfold more; rw [W_zeros, S_zeros, List.length_replicate]; omega

theorem S_set (b : List Nat) (k v : Nat) (h : k < b.length) : S (b.set k v) + b.getD k 0 = S b + v := by
  induction b generalizing k with
  | nil => simp at h
  | cons x b ih =>
    cases k with
    | zero => simp [S]; omega
    | succ k =>
      have := ih k (by simpa using h)
      simp [S] at this ⊢; omega
theorem getD_lt (b : List Nat) (hb : ∀ x ∈ b, x < 256) (k : Nat) : b.getD k 0 < 256 := by
  by_cases h : k < b.length
  · rw [List.getD_eq_getElem?_getD, List.getElem?_eq_getElem h]; exact hb _ (List.getElem_mem h)
  · rw [List.getD_eq_getElem?_getD, List.getElem?_eq_none (by omega)]; decide
/-- One byte turned turns the sum. -/
theorem more_set (b : List Nat) (k v : Nat) (hk : k < b.length) (hb : ∀ x ∈ b, x < 256) (hv : v < 256) :
    more 1 (b.set k v) = more 1 b ↔ v = b.getD k 0 := by
  constructor
  · intro h
    have h1 := congrArg (· % 65536) h
    simp only [more_lo] at h1
    have h2 := S_set b k v hk
    have h3 := getD_lt b hb k
    omega
  · intro h
    subst h
    have : b.set k (b.getD k 0) = b := by
      rw [List.getD_eq_getElem?_getD, List.getElem?_eq_getElem hk]; simp
    rw [this]

theorem W_set (b : List Nat) (k v : Nat) (h : k < b.length) : W (b.set k v) + (b.length - k) * b.getD k 0 = W b + (b.length - k) * v := by
  induction b generalizing k with
  | nil => simp at h
  | cons x b ih =>
    cases k with
    | zero => simp [W]; omega
    | succ k =>
      have := ih k (by simpa using h)
      simp [W] at this ⊢
      have e : b.length + 1 - (k + 1) = b.length - k := by omega
      rw [e] at *; omega

/-- Two neighbours exchanged. -/
theorem swap_S (b : List Nat) (k : Nat) (hk : k + 1 < b.length) : S ((b.set k (b.getD (k + 1) 0)).set (k + 1) (b.getD k 0)) = S b := by
  have h1 := S_set b k (b.getD (k + 1) 0) (by omega)
  have h2 := S_set (b.set k (b.getD (k + 1) 0)) (k + 1) (b.getD k 0) (by simpa using hk)
  have e : (b.set k (b.getD (k + 1) 0)).getD (k + 1) 0 = b.getD (k + 1) 0 := by simp [List.getD_eq_getElem?_getD]
  rw [e] at h2; omega
theorem swap_W (b : List Nat) (k : Nat) (hk : k + 1 < b.length) :
    W ((b.set k (b.getD (k + 1) 0)).set (k + 1) (b.getD k 0)) + b.getD k 0 = W b + b.getD (k + 1) 0 := by
  have h1 := W_set b k (b.getD (k + 1) 0) (by omega)
  have h2 := W_set (b.set k (b.getD (k + 1) 0)) (k + 1) (b.getD k 0) (by simpa using hk)
  have e : (b.set k (b.getD (k + 1) 0)).getD (k + 1) 0 = b.getD (k + 1) 0 := by simp [List.getD_eq_getElem?_getD]
  rw [e] at h2
  simp only [List.length_set] at h2
  obtain ⟨m, hm⟩ : ∃ m, b.length - k = m + 1 := ⟨b.length - k - 1, by omega⟩
  have hm' : b.length - (k + 1) = m := by omega
  rw [hm] at h1; rw [hm'] at h2
  have a1 := Nat.add_mul m 1 (b.getD k 0)
  have a2 := Nat.add_mul m 1 (b.getD (k + 1) 0)
  rw [a1, a2] at h1
  generalize m * b.getD k 0 = p at *
  generalize m * b.getD (k + 1) 0 = q at *
  omega
theorem more_swap (b : List Nat) (k : Nat) (hk : k + 1 < b.length) (hb : ∀ x ∈ b, x < 256) :
    (more 1 b = more 1 ((b.set k (b.getD (k + 1) 0)).set (k + 1) (b.getD k 0)) ↔ b.getD k 0 = b.getD (k + 1) 0) ∧
    more 1 b % 65536 = more 1 ((b.set k (b.getD (k + 1) 0)).set (k + 1) (b.getD k 0)) % 65536 := by
  have hS := swap_S b k hk
  have hW := swap_W b k hk
  have hl : ((b.set k (b.getD (k + 1) 0)).set (k + 1) (b.getD k 0)).length = b.length := by simp
  have h1 := getD_lt b hb k
  have h2 := getD_lt b hb (k + 1)
  constructor
  · unfold more
    rw [hS, hl]
    generalize W ((b.set k (b.getD (k + 1) 0)).set (k + 1) (b.getD k 0)) = w' at *
    generalize b.getD k 0 = p at *
    generalize b.getD (k + 1) 0 = q at *
    constructor
    · intro h; omega
    · intro h
      have : W b = w' := by omega
      rw [this]
  · rw [more_lo, more_lo, hS]

/-- A short text's sum, without remainders. -/
theorem more_short (b : List Nat) (hl : b.length ≤ 16) (hb : ∀ x ∈ b, x < 256) :
    more 1 b = (b.length + W b) * 65536 + (1 + S b) := by
  have hS := S_le b hb
  have hW : W b ≤ b.length * (255 * b.length) := by
    clear hS hl
    induction b with
    | nil => simp [W]
    | cons x b ih =>
      have h1 := ih (fun y hy => hb y (List.mem_cons_of_mem _ hy))
      have h2 := hb x List.mem_cons_self
      simp only [W, List.length_cons]
      have h3 : (b.length + 1) * x ≤ (b.length + 1) * 255 := Nat.mul_le_mul_left _ (by omega)
      have h4 : (b.length + 1) * (255 * (b.length + 1)) = (b.length + 1) * (255 * b.length) + (b.length + 1) * 255 := by rw [Nat.mul_add 255, Nat.mul_add (b.length + 1)]
      have h5 : b.length * (255 * b.length) ≤ (b.length + 1) * (255 * b.length) := Nat.mul_le_mul_right _ (by omega)
      omega
  have hW' : b.length * (255 * b.length) ≤ 16 * (255 * 16) := Nat.mul_le_mul hl (Nat.mul_le_mul_left _ hl)
  unfold more
  have e : b.length * (1 % 65536) = b.length := by omega
  rw [e]
  generalize W b = w at *
  generalize S b = s at *
  omega

/-- What the loop over the bytes has gathered after k of them. -/
def Inv (s : Nat) (bs : List Nat) (k lo hi : Nat) : Prop :=
  lo = (s % 65536 + S (bs.take k)) % 65521 ∧ hi % 65521 = (s / 65536 + k * (s % 65536) + W (bs.take k)) % 65521 ∧ hi ≤ 65521 * (k + 1)
theorem Inv.start (s : Nat) (bs : List Nat) : Inv s bs 0 (s % 65536 % 65521) (s / 65536 % 65521) := by
  refine ⟨by simp [S], by simp [W], by omega⟩
theorem Inv.step {s : Nat} {bs : List Nat} {k lo hi : Nat} (h : Inv s bs k lo hi) (hk : k < bs.length) :
    Inv s bs (k + 1) ((lo + bs.getD k 0) % 65521) (hi + (lo + bs.getD k 0) % 65521) := by
  obtain ⟨h1, h2, h3⟩ := h
  refine ⟨?_, ?_, by omega⟩
  · rw [S_take_succ _ _ hk, h1]; omega
  · rw [W_take_succ _ _ hk, S_take_succ _ _ hk, Nat.add_mul]
    generalize k * (s % 65536) = p at *
    generalize W (bs.take k) = q at *
    omega
theorem Inv.done {s : Nat} {bs : List Nat} {lo hi : Nat} (h : Inv s bs bs.length lo hi) : hi % 65521 * 65536 + lo % 65521 = more s bs := by
  obtain ⟨h1, h2, h3⟩ := h
  rw [List.take_of_length_le (Nat.le_refl _)] at h1 h2
  unfold more; rw [h2, h1]; omega
end Go.Proofs.Ytjjmoefipkkihaa.Ad
