/- Plain: the two words of the last sum, and the tag's bytes. -/
import Derived.Test.YtgfmglgibfhimaaPoPlain3
namespace Go.Proofs.Ytgfmglgibfhimaa.Po
set_option linter.unusedSimpArgs false
set_option linter.unusedVariables false

def outP (lo hi k : Nat) : List Nat := (List.range 16).map fun i => if i < 8 then (if i < k then lo / 256 ^ i % 256 else 0) else (if i - 8 < k then hi / 256 ^ (i - 8) % 256 else 0)
theorem outP_length (lo hi k : Nat) : (outP lo hi k).length = 16 := by simp [outP]
theorem outP_zero (lo hi : Nat) : outP lo hi 0 = List.replicate 16 0 := by
  unfold outP
  rw [List.eq_replicate_iff]
  refine ⟨by simp, fun b hb => ?_⟩
  simp only [List.mem_map] at hb
  obtain ⟨i, _, rfl⟩ := hb
  simp
theorem outP_get (lo hi k i : Nat) (h : i < 16) : (outP lo hi k)[i]'(by rw [outP_length]; exact h) = if i < 8 then (if i < k then lo / 256 ^ i % 256 else 0) else (if i - 8 < k then hi / 256 ^ (i - 8) % 256 else 0) := by simp [outP]
theorem outP_step (lo hi k a b : Nat) (h : k < 8) (ha : a = lo / 256 ^ k % 256) (hb : b = hi / 256 ^ k % 256) : ((outP lo hi k).set k a).set (8 + k) b = outP lo hi (k + 1) := by
  subst ha hb
  refine List.ext_getElem (by simp [outP_length]) fun i h1 h2 => ?_
  rw [outP_length] at h2
  rw [outP_get lo hi (k + 1) i h2, List.getElem_set, List.getElem_set, outP_get lo hi k i h2]
  by_cases e1 : 8 + k = i
  · subst e1
    rw [if_pos rfl, if_neg (by omega), if_pos (by omega), show 8 + k - 8 = k from by omega]
  · rw [if_neg e1]
    by_cases e2 : k = i
    · subst e2
      rw [if_pos rfl, if_pos h, if_pos (by omega)]
    · rw [if_neg e2]
      by_cases e3 : i < 8
      · rw [if_pos e3, if_pos e3]
        by_cases e4 : i < k
        · rw [if_pos e4, if_pos (by omega)]
        · rw [if_neg e4, if_neg (by omega)]
      · rw [if_neg e3, if_neg e3]
        by_cases e4 : i - 8 < k
        · rw [if_pos e4, if_pos (by omega)]
        · rw [if_neg e4, if_neg (by omega)]
theorem outP_end (n : Nat) : outP (lowOf n) (highOf n) 8 = by_ 16 n := by
  refine List.ext_getElem (by rw [outP_length, by_length]) fun i h1 h2 => ?_
  rw [outP_length] at h1
  rw [outP_get _ _ _ _ h1]
  have e : (by_ 16 n)[i]'h2 = (by_ 16 n).getD i 0 := by rw [List.getD_eq_getElem?_getD, List.getElem?_eq_getElem h2]; rfl
  rw [e]
  by_cases h : i < 8
  · rw [if_pos h, if_pos h, (by16 n i h).1]
  · rw [if_neg h, if_pos (by omega)]
    have := (by16 n (i - 8) (by omega)).2
    rw [show 8 + (i - 8) = i from by omega] at this
    rw [this]

/-- The two words of a number that is five limbs. -/
theorem words_of (a b c d e : Nat) (ha : a < 67108864) (hb : b < 67108864) (hc : c < 67108864) (hd : d < 67108864) :
    a + b * 67108864 + c % 4096 * 4503599627370496 = lowOf (val [a, b, c, d, e]) ∧ c / 4096 + d * 16384 + e % 16777216 * 1099511627776 = highOf (val [a, b, c, d, e]) := by
  unfold lowOf highOf
  rw [val5]
  omega
theorem le_split (s : List Nat) (h : s.length = 16) : le s = le (s.take 8) + 18446744073709551616 * le (s.drop 8) := by
  have e := le_append (s.take 8) (s.drop 8)
  rw [List.take_append_drop, List.length_take, h] at e
  rw [e]; rfl
theorem low_le (s : List Nat) (h : s.length = 16) (hb : ∀ x ∈ s, x < 256) : lowOf (le s) = le (s.take 8) ∧ highOf (le s) = le (s.drop 8) := by
  have h1 := le_lt (s.take 8) (fun x hx => hb x (List.mem_of_mem_take hx))
  have h2 := le_lt (s.drop 8) (fun x hx => hb x (List.mem_of_mem_drop hx))
  rw [List.length_take, h] at h1
  rw [List.length_drop, h] at h2
  have e8 : (256 : Nat) ^ (min 8 16) = 18446744073709551616 := by decide
  have e9 : (256 : Nat) ^ (16 - 8) = 18446744073709551616 := by decide
  rw [e8] at h1
  rw [e9] at h2
  unfold lowOf highOf
  rw [le_split s h]
  omega
/-! ### Parts of a text -/
theorem parts_zero : parts 0 = 0 := rfl
theorem parts_lt (n i : Nat) : i < parts n ↔ 16 * i < n := by unfold parts; omega
end Go.Proofs.Ytgfmglgibfhimaa.Po
