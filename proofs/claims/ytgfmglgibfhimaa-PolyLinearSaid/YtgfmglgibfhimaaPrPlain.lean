/- Plain: numbers of twenty digits of a byte each: compared, subtracted, added, multiplied. -/
import Derived.Test.YtgfmglgibfhimaaPoPlain4
namespace Go.Proofs.Ytgfmglgibfhimaa.Po
set_option linter.unusedSimpArgs false
set_option linter.unusedVariables false

/-- Twenty digits. -/
def dg (xs : List Nat) : Prop := xs.length = 20 ∧ ∀ x ∈ xs, x < 256
theorem dg_by (n : Nat) : dg (by_ 20 n) := ⟨by_length _ _, by_lt _ _⟩
theorem dg_le {xs : List Nat} (h : dg xs) : le xs < 1461501637330902918203684832716283019655932542976 := by
  have := le_lt xs h.2
  rw [h.1, show (256 : Nat) ^ 20 = 1461501637330902918203684832716283019655932542976 from by decide] at this
  exact this
theorem le_by20 (n : Nat) (h : n < 1461501637330902918203684832716283019655932542976) : le (by_ 20 n) = n := by
  rw [le_by, show (256 : Nat) ^ 20 = 1461501637330902918203684832716283019655932542976 from by decide]
  exact Nat.mod_eq_of_lt h
theorem by_of_le {xs : List Nat} (h : dg xs) : by_ 20 (le xs) = xs := by
  have := by_le xs h.2
  rwa [h.1] at this
theorem PP_small : PP < 1461501637330902918203684832716283019655932542976 := by rw [PP_eq]; decide
theorem take_succ' (xs : List Nat) (i : Nat) (h : i < xs.length) : le (xs.take (i + 1)) = le (xs.take i) + 256 ^ i * xs.getD i 0 := leN_succ xs i h

/-! ### Compared -/
theorem drop_cons (xs : List Nat) (i : Nat) (h : i < xs.length) : xs.drop i = xs.getD i 0 :: xs.drop (i + 1) := by
  rw [List.drop_eq_getElem_cons h]
  simp [List.getD_eq_getElem?_getD, List.getElem?_eq_getElem h]
theorem le_at (xs : List Nat) (i : Nat) (h : i < xs.length) : le xs = le (xs.take i) + 256 ^ i * (xs.getD i 0 + 256 * le (xs.drop (i + 1))) := by
  have e := le_append (xs.take i) (xs.drop i)
  rw [List.take_append_drop, List.length_take, Nat.min_eq_left (by omega), drop_cons xs i h] at e
  rw [e]; rfl
theorem above_no {a b : List Nat} (ha : dg a) (hb : dg b) (i : Nat) (h : i < 20) (hd : a.drop (i + 1) = b.drop (i + 1)) (hlt : a.getD i 0 < b.getD i 0) : le a < le b := by
  rw [le_at a i (by rw [ha.1]; exact h), le_at b i (by rw [hb.1]; exact h), hd]
  have h1 := le_lt (a.take i) (fun x hx => ha.2 x (List.mem_of_mem_take hx))
  rw [List.length_take, ha.1, Nat.min_eq_left (by omega)] at h1
  generalize le (b.drop (i + 1)) = t
  have : 256 ^ i * (a.getD i 0 + 256 * t) + 256 ^ i ≤ 256 ^ i * (b.getD i 0 + 256 * t) := by
    rw [← Nat.mul_succ]
    exact Nat.mul_le_mul_left _ (by omega)
  omega
theorem above_eq {a b : List Nat} (hd : a.drop 0 = b.drop 0) : le a = le b := by rw [List.drop_zero, List.drop_zero] at hd; rw [hd]
theorem drop_step {a b : List Nat} (ha : dg a) (hb : dg b) (i : Nat) (h : i < 20) (hd : a.drop (i + 1) = b.drop (i + 1)) (he : a.getD i 0 = b.getD i 0) : a.drop i = b.drop i := by
  rw [drop_cons a i (by rw [ha.1]; exact h), drop_cons b i (by rw [hb.1]; exact h), hd, he]

/-! ### Subtracted -/
def bor (a b : List Nat) : Nat → Nat
  | 0 => 0
  | i + 1 => if a.getD i 0 < b.getD i 0 + bor a b i then 1 else 0
def subD (a b : List Nat) (i : Nat) : Nat := (a.getD i 0 + 256 - b.getD i 0 - bor a b i) % 256
def subN (a b : List Nat) (i : Nat) : List Nat := (List.range i).map (subD a b) ++ a.drop i
theorem bor_le (a b : List Nat) (i : Nat) : bor a b i ≤ 1 := by
  cases i with
  | zero => exact Nat.zero_le _
  | succ i => unfold bor; split <;> omega
theorem bor_zero (a b : List Nat) : bor a b 0 = 0 := rfl
theorem bor_succ (a b : List Nat) (i : Nat) : bor a b (i + 1) = if a.getD i 0 < b.getD i 0 + bor a b i then 1 else 0 := rfl
theorem subN_zero (a b : List Nat) : subN a b 0 = a := by simp [subN]
theorem mapN_set (f : Nat → Nat) (a : List Nat) (i : Nat) (h : i < a.length) : ((List.range i).map f ++ a.drop i).set i (f i) = (List.range (i + 1)).map f ++ a.drop (i + 1) := by
  rw [List.set_append_right _ _ (by simp), List.length_map, List.length_range, Nat.sub_self, drop_cons a i h, List.set_cons_zero, List.range_succ, List.map_append]
  simp
theorem subN_succ (a b : List Nat) (i : Nat) (h : i < a.length) : (subN a b i).set i (subD a b i) = subN a b (i + 1) := mapN_set _ a i h
theorem mapN_get (f : Nat → Nat) (a : List Nat) (i : Nat) (h : i < a.length) : ((List.range i).map f ++ a.drop i).getD i 0 = a.getD i 0 := by
  rw [List.getD_eq_getElem?_getD, List.getElem?_append_right (by simp), List.length_map, List.length_range, Nat.sub_self, List.getElem?_drop, Nat.add_zero, ← List.getD_eq_getElem?_getD]
theorem subN_get (a b : List Nat) (i : Nat) (h : i < a.length) : (subN a b i).getD i 0 = a.getD i 0 := mapN_get _ a i h
theorem subN_length (a b : List Nat) (i : Nat) (h : i ≤ a.length) : (subN a b i).length = a.length := by simp [subN]; omega
theorem le_map_succ (f : Nat → Nat) (i : Nat) : le ((List.range (i + 1)).map f) = le ((List.range i).map f) + 256 ^ i * f i := by
  rw [List.range_succ, List.map_append, le_append]
  simp [le]
theorem sub_inv {a b : List Nat} (ha : dg a) (hb : dg b) : ∀ i, i ≤ 20 → le ((List.range i).map (subD a b)) + le (b.take i) = le (a.take i) + 256 ^ i * bor a b i
  | 0, _ => by simp [le, bor]
  | i + 1, h => by
    have ih := sub_inv ha hb i (by omega)
    rw [le_map_succ, take_succ' b i (by rw [hb.1]; omega), take_succ' a i (by rw [ha.1]; omega), bor_succ, Nat.pow_succ]
    have h1 := getD_lt a ha.2 i
    have h2 := getD_lt b hb.2 i
    have h3 := bor_le a b i
    rw [show subD a b i = (a.getD i 0 + 256 - b.getD i 0 - bor a b i) % 256 from rfl]
    generalize le ((List.range i).map (subD a b)) = u at *
    generalize a.getD i 0 = x at *
    generalize b.getD i 0 = y at *
    generalize bor a b i = c at *
    generalize 256 ^ i = p at *
    generalize le (b.take i) = v at *
    generalize le (a.take i) = t at *
    have hc : c = 0 ∨ c = 1 := by omega
    by_cases hxy : x < y + c
    · rw [if_pos hxy, Nat.mod_eq_of_lt (by omega)]
      have e : p * (x + 256 - y - c) + p * y + p * c = p * x + p * 256 := by
        rw [← Nat.mul_add, ← Nat.mul_add, ← Nat.mul_add]; congr 1; omega
      rcases hc with rfl | rfl
      · simp only [Nat.mul_zero, Nat.mul_one] at *; omega
      · simp only [Nat.mul_one] at *; omega
    · rw [if_neg hxy, show x + 256 - y - c = (x - y - c) + 256 from by omega, Nat.add_mod_right, Nat.mod_eq_of_lt (by omega)]
      have e : p * (x - y - c) + p * y + p * c = p * x := by
        rw [← Nat.mul_add, ← Nat.mul_add]; congr 1; omega
      rcases hc with rfl | rfl
      · simp only [Nat.mul_zero] at *; omega
      · simp only [Nat.mul_one, Nat.mul_zero] at *; omega
theorem dg_subN {a : List Nat} (ha : dg a) (b : List Nat) (i : Nat) (h : i ≤ 20) : dg (subN a b i) := by
  refine ⟨by rw [subN_length a b i (by rw [ha.1]; exact h), ha.1], fun x hx => ?_⟩
  simp only [subN, List.mem_append, List.mem_map] at hx
  rcases hx with ⟨j, _, rfl⟩ | hx
  · exact Nat.mod_lt _ (by decide)
  · exact ha.2 x (List.mem_of_mem_drop hx)
theorem subN_end {a b : List Nat} (ha : dg a) (hb : dg b) (h : le b ≤ le a) : subN a b 20 = by_ 20 (le a - le b) := by
  have hi := sub_inv ha hb 20 (Nat.le_refl _)
  have e1 : subN a b 20 = (List.range 20).map (subD a b) := by
    unfold subN
    rw [List.drop_eq_nil_of_le (by rw [ha.1]; exact Nat.le_refl _), List.append_nil]
  have hd := dg_subN ha b 20 (Nat.le_refl _)
  rw [← by_of_le hd]
  rw [← e1, List.take_of_length_le (l := a) (by rw [ha.1]; exact Nat.le_refl _), List.take_of_length_le (l := b) (by rw [hb.1]; exact Nat.le_refl _)] at hi
  have hlt := dg_le hd
  rw [show (256 : Nat) ^ 20 = 1461501637330902918203684832716283019655932542976 from by decide] at hi
  have hb1 := bor_le a b 20
  generalize bor a b 20 = c at *
  exact congrArg (by_ 20) (by omega)

/-! ### Added -/
def car (a b : List Nat) : Nat → Nat
  | 0 => 0
  | i + 1 => (a.getD i 0 + b.getD i 0 + car a b i) / 256
def addD (a b : List Nat) (i : Nat) : Nat := (a.getD i 0 + b.getD i 0 + car a b i) % 256
def addN (a b : List Nat) (i : Nat) : List Nat := (List.range i).map (addD a b) ++ a.drop i
theorem car_zero (a b : List Nat) : car a b 0 = 0 := rfl
theorem car_succ (a b : List Nat) (i : Nat) : car a b (i + 1) = (a.getD i 0 + b.getD i 0 + car a b i) / 256 := rfl
theorem addN_zero (a b : List Nat) : addN a b 0 = a := by simp [addN]
theorem addN_succ (a b : List Nat) (i : Nat) (h : i < a.length) : (addN a b i).set i (addD a b i) = addN a b (i + 1) := mapN_set _ a i h
theorem addN_get (a b : List Nat) (i : Nat) (h : i < a.length) : (addN a b i).getD i 0 = a.getD i 0 := mapN_get _ a i h
theorem addN_length (a b : List Nat) (i : Nat) (h : i ≤ a.length) : (addN a b i).length = a.length := by simp [addN]; omega
theorem car_lt {a b : List Nat} (ha : ∀ x ∈ a, x < 256) (hb : ∀ x ∈ b, x < 256) : ∀ i, car a b i ≤ 1
  | 0 => by simp [car]
  | i + 1 => by
    have ih := car_lt ha hb i
    have h1 := getD_lt a ha i
    have h2 := getD_lt b hb i
    rw [car_succ]; omega
theorem add_inv {a b : List Nat} (ha : a.length = b.length) : ∀ i, i ≤ a.length → le ((List.range i).map (addD a b)) + 256 ^ i * car a b i = le (a.take i) + le (b.take i)
  | 0, _ => by simp [le, car]
  | i + 1, h => by
    have ih := add_inv ha i (by omega)
    rw [le_map_succ, take_succ' b i (by omega), take_succ' a i (by omega), car_succ, Nat.pow_succ]
    rw [show addD a b i = (a.getD i 0 + b.getD i 0 + car a b i) % 256 from rfl]
    generalize le ((List.range i).map (addD a b)) = u at *
    generalize a.getD i 0 = x at *
    generalize b.getD i 0 = y at *
    generalize car a b i = c at *
    generalize 256 ^ i = p at *
    generalize le (b.take i) = v at *
    generalize le (a.take i) = t at *
    have e : p * ((x + y + c) % 256) + p * 256 * ((x + y + c) / 256) = p * x + p * y + p * c := by
      rw [Nat.mul_assoc, ← Nat.mul_add, ← Nat.mul_add, ← Nat.mul_add, Nat.mod_add_div]
    omega
theorem dg_addN {a : List Nat} (ha : dg a) (b : List Nat) (i : Nat) (h : i ≤ 20) : dg (addN a b i) := by
  refine ⟨by rw [addN_length a b i (by rw [ha.1]; exact h), ha.1], fun x hx => ?_⟩
  simp only [addN, List.mem_append, List.mem_map] at hx
  rcases hx with ⟨j, _, rfl⟩ | hx
  · exact Nat.mod_lt _ (by decide)
  · exact ha.2 x (List.mem_of_mem_drop hx)
theorem addN_end {a b : List Nat} (ha : dg a) (hb : dg b) (h : le a < PP) (h2 : le b < PP) : le (addN a b 20) = le a + le b := by
  have hi := add_inv (by rw [ha.1, hb.1] : a.length = b.length) 20 (by rw [ha.1]; exact Nat.le_refl _)
  have e1 : addN a b 20 = (List.range 20).map (addD a b) := by
    unfold addN
    rw [List.drop_eq_nil_of_le (by rw [ha.1]; exact Nat.le_refl _), List.append_nil]
  rw [← e1, List.take_of_length_le (l := a) (by rw [ha.1]; exact Nat.le_refl _), List.take_of_length_le (l := b) (by rw [hb.1]; exact Nat.le_refl _)] at hi
  rw [show (256 : Nat) ^ 20 = 1461501637330902918203684832716283019655932542976 from by decide] at hi
  rw [PP_eq] at h h2
  generalize car a b 20 = c at *
  omega
/-- Added, modulo P. -/
theorem add_fin {a b : List Nat} (ha : dg a) (hb : dg b) (h : le a < PP) (h2 : le b < PP) (hab : PP ≤ le (addN a b 20)) : by_ 20 (le (addN a b 20) - PP) = by_ 20 ((le a + le b) % PP) := by
  rw [addN_end ha hb h h2] at hab ⊢
  refine congrArg (by_ 20) ?_
  rw [Nat.mod_eq_sub_mod hab, Nat.mod_eq_of_lt (by omega)]
theorem add_fin2 {a b : List Nat} (ha : dg a) (hb : dg b) (h : le a < PP) (h2 : le b < PP) (hab : ¬ PP ≤ le (addN a b 20)) : addN a b 20 = by_ 20 ((le a + le b) % PP) := by
  rw [← by_of_le (dg_addN ha b 20 (Nat.le_refl _)), addN_end ha hb h h2] at *
  rw [le_by20 _ (by rw [PP_eq] at *; omega)] at hab
  rw [Nat.mod_eq_of_lt (by omega)]

/-! ### Multiplied, bit by bit -/
theorem bit_step (x y b q : Nat) (hq : 0 < q) : ((x * (y / (2 * q)) % PP + x * (y / (2 * q)) % PP) % PP + (if y / q % 2 = 1 then x else 0)) % PP = x * (y / q) % PP := by
  have e : y / (2 * q) = y / q / 2 := by rw [Nat.div_div_eq_div_mul, Nat.mul_comm]
  rw [e]
  generalize y / q = z
  have hz : z = 2 * (z / 2) + z % 2 := by omega
  rw [← Nat.add_mod, Nat.mod_add_mod]
  split
  · rename_i h1
    rw [h1] at hz
    congr 1
    generalize z / 2 = t at *
    subst hz
    rw [Nat.mul_add, Nat.mul_one, Nat.two_mul, Nat.mul_add]
  · rename_i h1
    have h0 : z % 2 = 0 := by omega
    rw [h0] at hz
    congr 1
    generalize z / 2 = t at *
    subst hz
    rw [Nat.add_zero, Nat.add_zero, Nat.two_mul, Nat.mul_add]
theorem bit_of {b : List Nat} (hb : dg b) (j k : Nat) (hj : j < 20) (hk : k < 8) : b.getD j 0 / 2 ^ k % 2 = le b / 2 ^ (8 * j + k) % 2 := by
  rw [le_at b j (by rw [hb.1]; exact hj)]
  have h1 := le_lt (b.take j) (fun x hx => hb.2 x (List.mem_of_mem_take hx))
  rw [List.length_take, hb.1, Nat.min_eq_left (by omega)] at h1
  generalize le (b.take j) = u at *
  generalize le (b.drop (j + 1)) = t
  generalize b.getD j 0 = x
  have e : (2 : Nat) ^ (8 * j + k) = 256 ^ j * 2 ^ k := by rw [Nat.pow_add, Nat.pow_mul]
  rw [e, ← Nat.div_div_eq_div_mul, Nat.add_mul_div_left _ _ (Nat.pow_pos (by decide)), Nat.div_eq_of_lt h1, Nat.zero_add]
  rcases (show k = 0 ∨ k = 1 ∨ k = 2 ∨ k = 3 ∨ k = 4 ∨ k = 5 ∨ k = 6 ∨ k = 7 from by omega) with rfl | rfl | rfl | rfl | rfl | rfl | rfl | rfl <;> (simp only [Nat.reducePow]; omega)
end Go.Proofs.Ytgfmglgibfhimaa.Po
