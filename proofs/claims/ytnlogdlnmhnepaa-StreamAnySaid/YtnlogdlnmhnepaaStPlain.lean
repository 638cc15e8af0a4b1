/- Plain: what a stream changes bytes to. -/
import Derived.Test.YtnlogdlnmhnepaaChPlain2
namespace Go.Proofs.Ytnlogdlnmhnepaa.St
set_option linter.unusedSimpArgs false
set_option linter.unusedVariables false
open Go.Proofs.Ytnlogdlnmhnepaa.Ch

/-- Byte i of the stream from a counter on. -/
def strm (key : List Nat) (ct : Nat) (nonce : List Nat) (i : Nat) : Nat := (block key (ct + i / 64) nonce).getD (i % 64) 0
def xb (key : List Nat) (ct : Nat) (nonce bs : List Nat) (i : Nat) : Nat := bs.getD i 0 ^^^ strm key ct nonce i
/-- The first n bytes, changed. -/
def xorN (key : List Nat) (ct : Nat) (nonce bs : List Nat) (n : Nat) : List Nat := (List.range n).map (xb key ct nonce bs)
def xorS (key : List Nat) (ct : Nat) (nonce bs : List Nat) : List Nat := xorN key ct nonce bs bs.length
theorem xorN_length (key : List Nat) (ct : Nat) (nonce bs : List Nat) (n : Nat) : (xorN key ct nonce bs n).length = n := by simp [xorN]
theorem xorN_zero (key : List Nat) (ct : Nat) (nonce bs : List Nat) : xorN key ct nonce bs 0 = [] := rfl
theorem xorN_succ (key : List Nat) (ct : Nat) (nonce bs : List Nat) (n : Nat) : xorN key ct nonce bs (n + 1) = xorN key ct nonce bs n ++ [xb key ct nonce bs n] := by
  unfold xorN; rw [List.range_succ, List.map_append]; rfl
theorem xorS_length (key : List Nat) (ct : Nat) (nonce bs : List Nat) : (xorS key ct nonce bs).length = bs.length := xorN_length _ _ _ _ _
theorem get_lt {bs : List Nat} (hb : ∀ x ∈ bs, x < 256) (i : Nat) : bs.getD i 0 < 256 := by
  by_cases h : i < bs.length
  · rw [List.getD_eq_getElem?_getD, List.getElem?_eq_getElem h]; exact hb _ (List.getElem_mem h)
  · rw [List.getD_eq_getElem?_getD, List.getElem?_eq_none (by omega)]; decide
theorem strm_lt (key : List Nat) (ct : Nat) (nonce : List Nat) (i : Nat) : strm key ct nonce i < 256 := get_lt (block_lt _ _ _) _
theorem xb_lt (key : List Nat) (ct : Nat) (nonce bs : List Nat) (hb : ∀ x ∈ bs, x < 256) (i : Nat) : xb key ct nonce bs i < 256 := Nat.xor_lt_two_pow (n := 8) (get_lt hb i) (strm_lt _ _ _ _)
theorem xorN_lt (key : List Nat) (ct : Nat) (nonce bs : List Nat) (hb : ∀ x ∈ bs, x < 256) (n : Nat) : ∀ x ∈ xorN key ct nonce bs n, x < 256 := by
  intro x hx
  simp only [xorN, List.mem_map] at hx
  obtain ⟨i, _, rfl⟩ := hx
  exact xb_lt _ _ _ _ hb i
theorem xorS_lt (key : List Nat) (ct : Nat) (nonce bs : List Nat) (hb : ∀ x ∈ bs, x < 256) : ∀ x ∈ xorS key ct nonce bs, x < 256 := xorN_lt _ _ _ _ hb _
/-- In block k. -/
theorem strm_at (key : List Nat) (ct : Nat) (nonce : List Nat) (k i : Nat) (h : i < 64) : strm key ct nonce (64 * k + i) = (block key (ct + k) nonce).getD i 0 := by
  unfold strm
  rw [show (64 * k + i) / 64 = k by omega, show (64 * k + i) % 64 = i by omega]
theorem xorS_nil (key : List Nat) (ct : Nat) (nonce : List Nat) : xorS key ct nonce [] = [] := rfl
theorem xorS_get (key : List Nat) (ct : Nat) (nonce bs : List Nat) (i : Nat) (h : i < bs.length) : (xorS key ct nonce bs).getD i 0 = xb key ct nonce bs i := by
  simp [xorS, xorN, List.getD_eq_getElem?_getD, h]
/-- Whether the blocks go as far. -/
def fits (ct len : Nat) : Prop := (len + 63) / 64 ≤ 4294967296 - ct
instance (ct len : Nat) : Decidable (fits ct len) := inferInstanceAs (Decidable (_ ≤ _))
theorem ext_getD {a b : List Nat} (hl : a.length = b.length) (h : ∀ i, i < a.length → a.getD i 0 = b.getD i 0) : a = b := by
  refine List.ext_getElem hl fun i h1 h2 => ?_
  have := h i h1
  simpa [List.getD_eq_getElem?_getD, List.getElem?_eq_getElem h1, List.getElem?_eq_getElem h2] using this
theorem getD_take (bs : List Nat) (k i : Nat) (h : i < k) : (bs.take k).getD i 0 = bs.getD i 0 := by simp [List.getD_eq_getElem?_getD, h]
theorem xorS_take (key : List Nat) (ct : Nat) (nonce bs : List Nat) (k : Nat) (h : k ≤ bs.length) : (xorS key ct nonce bs).take k = xorS key ct nonce (bs.take k) := by
  refine ext_getD (by simp [xorS_length]) fun i hi => ?_
  rw [List.length_take, xorS_length] at hi
  rw [getD_take _ _ _ (by omega), xorS_get _ _ _ _ _ (by omega), xorS_get _ _ _ _ _ (by rw [List.length_take]; omega)]
  unfold xb
  rw [getD_take _ _ _ (by omega)]
theorem xorS_inj (key : List Nat) (ct : Nat) (nonce a b : List Nat) (hl : a.length = b.length) (h : xorS key ct nonce a = xorS key ct nonce b) : a = b := by
  refine ext_getD hl fun i hi => ?_
  have h1 := xorS_get key ct nonce a i hi
  have h2 := xorS_get key ct nonce b i (by omega)
  rw [h, h2] at h1
  unfold xb at h1
  have h3 := congrArg (· ^^^ strm key ct nonce i) h1
  simp only [Nat.xor_assoc, Nat.xor_self, Nat.xor_zero] at h3
  exact h3.symm
theorem xorS_twice (key : List Nat) (ct : Nat) (nonce bs : List Nat) : xorS key ct nonce (xorS key ct nonce bs) = bs := by
  refine ext_getD (by rw [xorS_length, xorS_length]) fun i hi => ?_
  rw [xorS_length, xorS_length] at hi
  rw [xorS_get _ _ _ _ _ (by rw [xorS_length]; exact hi)]
  unfold xb
  rw [xorS_get _ _ _ _ _ hi]
  unfold xb
  rw [Nat.xor_assoc, Nat.xor_self, Nat.xor_zero]
theorem xorS_append (key : List Nat) (ct : Nat) (nonce bs : List Nat) (k : Nat) (h : 64 * k ≤ bs.length) : xorS key ct nonce (bs.take (64 * k)) ++ xorS key (ct + k) nonce (bs.drop (64 * k)) = xorS key ct nonce bs := by
  refine ext_getD (by rw [List.length_append, xorS_length, xorS_length, xorS_length, List.length_take, List.length_drop]; omega) fun i hi => ?_
  rw [List.length_append, xorS_length, xorS_length, List.length_take, List.length_drop] at hi
  rw [xorS_get _ _ _ bs i (by omega)]
  by_cases h1 : i < 64 * k
  · have hl : i < (xorS key ct nonce (bs.take (64 * k))).length := by rw [xorS_length, List.length_take]; omega
    rw [List.getD_eq_getElem?_getD, List.getElem?_append_left hl, ← List.getD_eq_getElem?_getD, xorS_get _ _ _ _ _ (by rw [List.length_take]; omega)]
    unfold xb
    rw [getD_take _ _ _ h1]
  · have hl : (xorS key ct nonce (bs.take (64 * k))).length = 64 * k := by rw [xorS_length, List.length_take]; omega
    rw [List.getD_eq_getElem?_getD, List.getElem?_append_right (by omega), ← List.getD_eq_getElem?_getD, hl, xorS_get _ _ _ _ _ (by rw [List.length_drop]; omega)]
    unfold xb strm
    rw [show (bs.drop (64 * k)).getD (i - 64 * k) 0 = bs.getD i 0 from by simp [List.getD_eq_getElem?_getD, show 64 * k + (i - 64 * k) = i by omega]]
    rw [show ct + k + (i - 64 * k) / 64 = ct + i / 64 by omega, show (i - 64 * k) % 64 = i % 64 by omega]
/-- One byte is another one. -/
theorem xorS_set (key : List Nat) (ct : Nat) (nonce bs : List Nat) (k by_ : Nat) (h : k < bs.length) : (xorS key ct nonce (bs.set k (bs.getD k 0 ^^^ by_))).set k ((xorS key ct nonce (bs.set k (bs.getD k 0 ^^^ by_))).getD k 0 ^^^ by_) = xorS key ct nonce bs := by
  have hl : (bs.set k (bs.getD k 0 ^^^ by_)).length = bs.length := List.length_set
  refine ext_getD (by rw [List.length_set, xorS_length, xorS_length, hl]) fun i hi => ?_
  rw [List.length_set, xorS_length, hl] at hi
  rw [xorS_get _ _ _ bs i hi]
  by_cases e : k = i
  · subst e
    rw [List.getD_eq_getElem?_getD, List.getElem?_set_self (by rw [xorS_length, hl]; exact h)]
    show (xorS key ct nonce (bs.set k (bs.getD k 0 ^^^ by_))).getD k 0 ^^^ by_ = _
    rw [xorS_get _ _ _ _ _ (by rw [hl]; exact h)]
    unfold xb
    rw [show (bs.set k (bs.getD k 0 ^^^ by_)).getD k 0 = bs.getD k 0 ^^^ by_ from by rw [List.getD_eq_getElem?_getD, List.getElem?_set_self h]; rfl]
    rw [Nat.xor_assoc, Nat.xor_assoc, Nat.xor_comm (strm key ct nonce k) by_, ← Nat.xor_assoc by_, Nat.xor_self, Nat.zero_xor]
  · rw [List.getD_eq_getElem?_getD, List.getElem?_set_ne e, ← List.getD_eq_getElem?_getD, xorS_get _ _ _ _ _ (by rw [hl]; exact hi)]
    unfold xb
    rw [List.getD_eq_getElem?_getD, List.getElem?_set_ne e, ← List.getD_eq_getElem?_getD]
theorem zeros_get (n i : Nat) : (List.replicate n 0).getD i 0 = 0 := by
  rw [List.getD_eq_getElem?_getD, List.getElem?_replicate]
  split <;> rfl
/-- 128 bytes 0: two blocks. -/
theorem xor_blocks (key : List Nat) (ct : Nat) (nonce : List Nat) : xorS key ct nonce (List.replicate 128 0) = block key ct nonce ++ block key (ct + 1) nonce := by
  have h1 := block_length key ct nonce
  have h2 := block_length key (ct + 1) nonce
  refine ext_getD (by rw [xorS_length, List.length_append, h1, h2, List.length_replicate]) fun i hi => ?_
  rw [xorS_length, List.length_replicate] at hi
  rw [xorS_get _ _ _ _ _ (by rw [List.length_replicate]; exact hi)]
  unfold xb
  rw [zeros_get, Nat.zero_xor]
  unfold strm
  by_cases h : i < 64
  · rw [show i / 64 = 0 by omega, show i % 64 = i by omega, Nat.add_zero]
    rw [List.getD_eq_getElem?_getD, List.getD_eq_getElem?_getD, List.getElem?_append_left (by omega)]
  · rw [show i / 64 = 1 by omega, show i % 64 = i - 64 by omega]
    rw [List.getD_eq_getElem?_getD, List.getD_eq_getElem?_getD, List.getElem?_append_right (by omega), h1]
theorem xor_same (x y s : Nat) : (x ^^^ s) ^^^ (y ^^^ s) = x ^^^ y := by
  rw [Nat.xor_assoc, Nat.xor_comm y s, ← Nat.xor_assoc s s y, Nat.xor_self, Nat.zero_xor]
end Go.Proofs.Ytnlogdlnmhnepaa.St
