/- Plain: the number of up to seventeen bytes, in limbs; a text's tag; its last sum. -/
import Derived.Test.YtgfmglgibfhimaaPoPlain2
namespace Go.Proofs.Ytgfmglgibfhimaa.Po
set_option linter.unusedSimpArgs false
set_option linter.unusedVariables false

/-- The limbs of a number. -/
def limbs (n : Nat) : List Nat := [n % 67108864, n / 67108864 % 67108864, n / 4503599627370496 % 67108864, n / 302231454903657293676544 % 67108864, n / 20282409603651670423947251286016 % 67108864]
theorem limbs_length (n : Nat) : (limbs n).length = 5 := rfl
theorem limbs_val (n : Nat) (h : n < 1361129467683753853853498429727072845824) : val (limbs n) = n := by
  unfold limbs; rw [val5]; omega
theorem limbs_bnd (n : Nat) : bnd (limbs n) 67108864 67108864 67108864 67108864 67108864 := ⟨_, _, _, _, _, rfl, by omega, by omega, by omega, by omega, by omega⟩
theorem limbs_zero : limbs 0 = [0, 0, 0, 0, 0] := rfl
/-- The number of the first i bytes. -/
def leN (bs : List Nat) (i : Nat) : Nat := le (bs.take i)
theorem leN_zero (bs : List Nat) : leN bs 0 = 0 := by simp [leN, le]
theorem leN_succ (bs : List Nat) (i : Nat) (h : i < bs.length) : leN bs (i + 1) = leN bs i + 256 ^ i * bs.getD i 0 := by
  unfold leN
  rw [List.take_succ_eq_append_getElem h, le_append, List.length_take, Nat.min_eq_left (by omega)]
  simp [le, List.getD_eq_getElem?_getD, List.getElem?_eq_getElem h]
theorem leN_lt (bs : List Nat) (hb : ∀ x ∈ bs, x < 256) (i : Nat) (h : i ≤ bs.length) : leN bs i < 256 ^ i := by
  have := le_lt (bs.take i) (fun x hx => hb x (List.mem_of_mem_take hx))
  rw [List.length_take, Nat.min_eq_left h] at this
  exact this
theorem leN_all (bs : List Nat) : leN bs bs.length = le bs := by unfold leN; rw [List.take_length]

/-! ### Clamped -/
def clampB (i x : Nat) : Nat := if i % 4 = 3 then x % 16 else if i % 4 = 0 ∧ 0 < i then x / 4 * 4 else x
def clamp (h : List Nat) : List Nat := (List.range 16).map fun i => clampB i (h.getD i 0)
theorem clampB_le (i x : Nat) : clampB i x ≤ x := by unfold clampB; split; omega; split <;> omega
theorem clamp_length (h : List Nat) : (clamp h).length = 16 := by simp [clamp]
theorem clamp_get (h : List Nat) (i : Nat) (hi : i < 16) : (clamp h).getD i 0 = clampB i (h.getD i 0) := by simp [clamp, List.getD_eq_getElem?_getD, hi]
theorem clampB_idem (i x : Nat) : clampB i (clampB i x) = clampB i x := by unfold clampB; split; omega; split <;> omega
theorem clamp_idem (h : List Nat) : clamp (clamp h) = clamp h := by
  unfold clamp
  refine List.map_congr_left fun i hi => ?_
  have hi := List.mem_range.1 hi
  have := clamp_get h i hi
  unfold clamp at this
  rw [this, clampB_idem]
theorem getD_lt (bs : List Nat) (hb : ∀ x ∈ bs, x < 256) (k : Nat) : bs.getD k 0 < 256 := by
  by_cases h : k < bs.length
  · rw [List.getD_eq_getElem?_getD, List.getElem?_eq_getElem h]; exact hb _ (List.getElem_mem h)
  · rw [List.getD_eq_getElem?_getD, List.getElem?_eq_none (by omega)]; decide
theorem clamp_lt (h : List Nat) (hb : ∀ x ∈ h, x < 256) : ∀ x ∈ clamp h, x < 256 := by
  intro x hx
  simp only [clamp, List.mem_map] at hx
  obtain ⟨i, _, rfl⟩ := hx
  have := clampB_le i (h.getD i 0)
  have := getD_lt h hb i
  omega

/-! ### A text's parts -/
/-- Part i, with its last bit. -/
def part (bs : List Nat) (i : Nat) : List Nat := (bs.drop (16 * i)).take 16 ++ [1]
def accN (r : Nat) (bs : List Nat) : Nat → Nat
  | 0 => 0
  | i + 1 => (accN r bs i + le (part bs i)) * r % PP
theorem accN_zero (r : Nat) (bs : List Nat) : accN r bs 0 = 0 := rfl
theorem accN_succ (r : Nat) (bs : List Nat) (i : Nat) : accN r bs (i + 1) = (accN r bs i + le (part bs i)) * r % PP := rfl
theorem accN_lt (r : Nat) (bs : List Nat) (i : Nat) : accN r bs i < PP := by
  cases i with
  | zero => rw [accN_zero, PP_eq]; decide
  | succ i => rw [accN_succ]; exact Nat.mod_lt _ (by rw [PP_eq]; decide)
theorem part_lt (bs : List Nat) (hb : ∀ x ∈ bs, x < 256) (i : Nat) : (∀ x ∈ part bs i, x < 256) ∧ (part bs i).length ≤ 17 := by
  refine ⟨fun x hx => ?_, by simp [part]; omega⟩
  simp only [part, List.mem_append, List.mem_singleton] at hx
  rcases hx with hx | rfl
  · exact hb x (List.mem_of_mem_drop (List.mem_of_mem_take hx))
  · decide
theorem part_le (bs : List Nat) (hb : ∀ x ∈ bs, x < 256) (i : Nat) : le (part bs i) < 680564733841876926926749214863536422912 := by
  unfold part
  rw [le_append]
  have h := le_lt ((bs.drop (16 * i)).take 16) (fun x hx => hb x (List.mem_of_mem_drop (List.mem_of_mem_take hx)))
  have hl : ((bs.drop (16 * i)).take 16).length ≤ 16 := by simp; omega
  have hp := Nat.pow_le_pow_right (n := 256) (by decide) hl
  have e : (256 : Nat) ^ 16 = 340282366920938463463374607431768211456 := by decide
  rw [e] at hp
  simp only [le]
  omega
/-- How many parts a text has. -/
def parts (n : Nat) : Nat := (n + 15) / 16
/-- What a text's parts come to. -/
def acc (r : Nat) (bs : List Nat) : Nat := accN r bs (parts bs.length)
def rOf (key : List Nat) : Nat := le (clamp (key.take 16))
def sOf (key : List Nat) : Nat := le (key.drop 16)
def tag (key bs : List Nat) : List Nat := by_ 16 (acc (rOf key) bs + sOf key)
theorem tag_length (key bs : List Nat) : (tag key bs).length = 16 := by_length _ _
theorem tag_lt (key bs : List Nat) : ∀ x ∈ tag key bs, x < 256 := by_lt _ _
/-- r is small. -/
theorem rOf_lt (key : List Nat) (hk : ∀ x ∈ key, x < 256) : rOf key < 340282366920938463463374607431768211456 := by
  have h := le_lt (clamp (key.take 16)) (clamp_lt _ (fun x hx => hk x (List.mem_of_mem_take hx)))
  rw [clamp_length] at h
  have e : (256 : Nat) ^ 16 = 340282366920938463463374607431768211456 := by decide
  rw [e] at h
  exact h

/-! ### The limbs of what the parts come to -/
/-- Limbs that are a number, short but for one. -/
def okH (h : List Nat) (v : Nat) : Prop := bnd h 67108864 67108865 67108864 67108864 67108864 ∧ val h % PP = v % PP
theorem okH_zero : okH [0, 0, 0, 0, 0] 0 := ⟨⟨_, _, _, _, _, rfl, by decide, by decide, by decide, by decide, by decide⟩, rfl⟩
def addL (h n : List Nat) : List Nat := [(h.getD 0 0 + n.getD 0 0) % 18446744073709551616, (h.getD 1 0 + n.getD 1 0) % 18446744073709551616, (h.getD 2 0 + n.getD 2 0) % 18446744073709551616, (h.getD 3 0 + n.getD 3 0) % 18446744073709551616, (h.getD 4 0 + n.getD 4 0) % 18446744073709551616]
theorem okH_step (h : List Nat) (v n r : Nat) (hh : okH h v) (hn : n < 680564733841876926926749214863536422912) (hr : r < 340282366920938463463374607431768211456) : okH (times (addL h (limbs n)) (limbs r)) ((v + n) * r % PP) := by
  obtain ⟨⟨a, b, c, d, e, rfl, h1, h2, h3, h4, h5⟩, hv⟩ := hh
  have hln := limbs_val n (by omega)
  obtain ⟨n0, n1, n2, n3, n4, en, k1, k2, k3, k4, k5⟩ := limbs_bnd n
  rw [en] at hln ⊢
  have ea : addL [a, b, c, d, e] [n0, n1, n2, n3, n4] = [a + n0, b + n1, c + n2, d + n3, e + n4] := by
    unfold addL
    simp only [List.getD_cons_zero, List.getD_cons_succ]
    rw [Nat.mod_eq_of_lt (show a + n0 < 18446744073709551616 by omega), Nat.mod_eq_of_lt (show b + n1 < 18446744073709551616 by omega), Nat.mod_eq_of_lt (show c + n2 < 18446744073709551616 by omega),
      Nat.mod_eq_of_lt (show d + n3 < 18446744073709551616 by omega), Nat.mod_eq_of_lt (show e + n4 < 18446744073709551616 by omega)]
  rw [ea]
  have hs : val [a + n0, b + n1, c + n2, d + n3, e + n4] = val [a, b, c, d, e] + n := by
    rw [← hln, val5, val5, val5]; omega
  obtain ⟨t1, t2⟩ := times_val [a + n0, b + n1, c + n2, d + n3, e + n4] (limbs r) ⟨_, _, _, _, _, rfl, by omega, by omega, by omega, by omega, by omega⟩ (limbs_bnd r)
  refine ⟨t1, ?_⟩
  rw [t2, hs, limbs_val r (by omega), Nat.mod_mod, Nat.mul_mod, Nat.add_mod, hv, ← Nat.add_mod, ← Nat.mul_mod]

/-! ### The last sum: two halves of eight bytes each -/
theorem fin_low (h0 h1 h2 : Nat) (k0 : h0 < 67108864) (k1 : h1 < 67108864) : h0 + h1 * 67108864 + h2 % 4096 * 4503599627370496 = (h0 + 67108864 * h1 + 4503599627370496 * h2) % 18446744073709551616 := by omega
def lowOf (n : Nat) : Nat := n % 18446744073709551616
def highOf (n : Nat) : Nat := n / 18446744073709551616 % 18446744073709551616
theorem fin_sum (a s : Nat) :
    lowOf (a + s) = (lowOf a + lowOf s) % 18446744073709551616 ∧ highOf (a + s) = (highOf a + highOf s + (lowOf a + lowOf s) / 18446744073709551616) % 18446744073709551616 := by
  unfold lowOf highOf; omega
theorem by16 (n i : Nat) (hi : i < 8) : (by_ 16 n).getD i 0 = lowOf n / 256 ^ i % 256 ∧ (by_ 16 n).getD (8 + i) 0 = highOf n / 256 ^ i % 256 := by
  have g : ∀ j, j < 16 → (by_ 16 n).getD j 0 = n / 256 ^ j % 256 := by intro j hj; simp [by_, List.getD_eq_getElem?_getD, hj]
  rw [g i (by omega), g (8 + i) (by omega)]
  unfold lowOf highOf
  have h8 : i = 0 ∨ i = 1 ∨ i = 2 ∨ i = 3 ∨ i = 4 ∨ i = 5 ∨ i = 6 ∨ i = 7 := by omega
  rcases h8 with rfl | rfl | rfl | rfl | rfl | rfl | rfl | rfl <;> (simp only [Nat.reducePow, Nat.reduceAdd]; omega)
attribute [irreducible] accN limbs
end Go.Proofs.Ytgfmglgibfhimaa.Po
