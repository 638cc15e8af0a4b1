/- Plain: what the document's answer of a tag fills, digit by digit. -/
import Derived.Test.YtgfmglgibfhimaaPrPlain
namespace Go.Proofs.Ytgfmglgibfhimaa.Po
set_option linter.unusedSimpArgs false
set_option linter.unusedVariables false

/-- A list of which the first i are laid anew. -/
def fl (f : Nat → Nat) (b : List Nat) (i : Nat) : List Nat := (List.range i).map f ++ b.drop i
theorem fl_zero (f : Nat → Nat) (b : List Nat) : fl f b 0 = b := by simp [fl]
theorem fl_succ (f : Nat → Nat) (b : List Nat) (i : Nat) (h : i < b.length) : (fl f b i).set i (f i) = fl f b (i + 1) := mapN_set f b i h
theorem fl_length (f : Nat → Nat) (b : List Nat) (i : Nat) (h : i ≤ b.length) : (fl f b i).length = b.length := by simp [fl]; omega
theorem map_getD (a : List Nat) (n o : Nat) (h : o + n ≤ a.length) : (List.range n).map (fun i => a.getD (o + i) 0) = (a.drop o).take n := by
  refine List.ext_getElem (by simp; omega) fun i h1 h2 => ?_
  simp only [List.length_map, List.length_range] at h1
  simp [List.getD_eq_getElem?_getD, List.getElem?_eq_getElem (show o + i < a.length by omega)]
theorem fl_dg (f : Nat → Nat) (hf : ∀ i, f i < 256) (i : Nat) (h : i ≤ 20) : dg (fl f (List.replicate 20 0) i) := by
  refine ⟨by rw [fl_length _ _ _ (by simpa using h)]; rfl, fun x hx => ?_⟩
  simp only [fl, List.mem_append, List.mem_map] at hx
  rcases hx with ⟨j, _, rfl⟩ | hx
  · exact hf j
  · have := List.mem_of_mem_drop hx
    rw [List.mem_replicate] at this
    omega
theorem le_zeros : ∀ n, le (List.replicate n 0) = 0
  | 0 => rfl
  | n + 1 => by rw [List.replicate_succ]; simp only [le, le_zeros n]
theorem le_fl (f : Nat → Nat) (n i : Nat) : le (fl f (List.replicate n 0) i) = le ((List.range i).map f) := by
  unfold fl
  rw [le_append, List.drop_replicate, le_zeros, Nat.mul_zero, Nat.add_zero]

def halfL (key : List Nat) (i : Nat) : List Nat := fl (fun j => key.getD j 0) (List.replicate 16 0) i
def sL (key : List Nat) (i : Nat) : List Nat := fl (fun j => key.getD (16 + j) 0) (List.replicate 20 0) i
def rL (c : List Nat) (i : Nat) : List Nat := fl (fun j => c.getD j 0) (List.replicate 20 0) i
def nL (bs : List Nat) (at_ k : Nat) : List Nat := fl (fun j => bs.getD (at_ + j) 0) (List.replicate 20 0) k
theorem halfL_end (key : List Nat) (hk : key.length = 32) : halfL key 16 = key.take 16 := by
  have := map_getD key 16 0 (by omega)
  rw [List.drop_zero] at this
  simp only [Nat.zero_add] at this
  unfold halfL fl
  rw [this, List.drop_of_length_le (by simp), List.append_nil]
theorem sL_le (key : List Nat) (hk : key.length = 32) : le (sL key 16) = sOf key := by
  unfold sL sOf
  rw [le_fl, map_getD key 16 16 (by omega), List.take_of_length_le (by simp; omega)]
theorem rL_le (key : List Nat) : le (rL (clamp (key.take 16)) 16) = rOf key := by
  have := map_getD (clamp (key.take 16)) 16 0 (by rw [clamp_length]; omega)
  simp only [Nat.zero_add, List.drop_zero] at this
  unfold rL rOf
  rw [le_fl, this, List.take_of_length_le (by rw [clamp_length]; omega)]
theorem sL_dg (key : List Nat) (hb : ∀ x ∈ key, x < 256) (i : Nat) (h : i ≤ 20) : dg (sL key i) := fl_dg _ (fun _ => getD_lt key hb _) i h
theorem rL_dg (c : List Nat) (hb : ∀ x ∈ c, x < 256) (i : Nat) (h : i ≤ 20) : dg (rL c i) := fl_dg _ (fun _ => getD_lt c hb _) i h
theorem nL_dg (bs : List Nat) (hb : ∀ x ∈ bs, x < 256) (a k : Nat) (h : k ≤ 20) : dg (nL bs a k) := fl_dg _ (fun _ => getD_lt bs hb _) k h
/-- A part, with its last bit. -/
theorem nL_end (bs : List Nat) (hb : ∀ x ∈ bs, x < 256) (i k : Nat) (h : k = min 16 (bs.length - 16 * i)) (h0 : 16 * i < bs.length) : dg ((nL bs (16 * i) k).set k 1) ∧ le ((nL bs (16 * i) k).set k 1) = le (part bs i) := by
  have hd := nL_dg bs hb (16 * i) k (by omega)
  have hl : k < (nL bs (16 * i) k).length := by rw [hd.1]; omega
  refine ⟨⟨by rw [List.length_set, hd.1], fun x hx => ?_⟩, ?_⟩
  · rcases List.mem_or_eq_of_mem_set hx with hx | rfl
    · exact hd.2 x hx
    · decide
  · have e1 : part bs i = (List.range k).map (fun j => bs.getD (16 * i + j) 0) ++ [1] := by
      rw [map_getD bs k (16 * i) (by omega)]
      unfold part
      rw [h]
      congr 1
      rw [List.take_eq_take_iff]
      simp
    have e2 : (nL bs (16 * i) k).set k 1 = (List.range k).map (fun j => bs.getD (16 * i + j) 0) ++ (1 :: List.replicate (19 - k) 0) := by
      unfold nL fl
      rw [List.set_append_right _ _ (by simp), List.length_map, List.length_range, Nat.sub_self, List.drop_replicate, show 20 - k = (19 - k) + 1 from by omega, List.replicate_succ]
      rfl
    rw [e1, e2, le_append, le_append]
    simp only [le, le_zeros]
/-- A round of the sum. -/
theorem acc_step (key bs : List Nat) (i : Nat) : ((accN (rOf key) bs i + le (part bs i)) % PP) * rOf key % PP = accN (rOf key) bs (i + 1) := by
  rw [accN_succ, Nat.mod_mul_mod]
/-- The tag's bytes: two numbers of twenty digits, the lowest sixteen of their sum. -/
def oL (a b : List Nat) (i : Nat) : List Nat := fl (addD a b) (List.replicate 16 0) i
theorem by_same (k x y : Nat) (h : x % 256 ^ k = y % 256 ^ k) : by_ k x = by_ k y := by rw [← by_mod k x, h, by_mod k y]
theorem mod_of (M u c ta tb x y da db : Nat) (hi : u + M * c = ta + tb) (ea : x = ta + M * da) (eb : y = tb + M * db) : u % M = (x + y) % M := by
  rw [ea, eb, show ta + M * da + (tb + M * db) = u + M * (c + da + db) from by rw [Nat.mul_add, Nat.mul_add]; omega, Nat.add_mul_mod_self_left]
theorem oL_end {a b : List Nat} (ha : dg a) (hb : dg b) : oL a b 16 = by_ 16 (le a + le b) := by
  have e : oL a b 16 = (List.range 16).map (addD a b) := by unfold oL fl; rw [List.drop_of_length_le (by simp), List.append_nil]
  have hl : ((List.range 16).map (addD a b)).length = 16 := by simp
  have hlt : ∀ x ∈ (List.range 16).map (addD a b), x < 256 := by
    intro x hx
    simp only [List.mem_map] at hx
    obtain ⟨j, _, rfl⟩ := hx
    exact Nat.mod_lt _ (by decide)
  have h1 := by_le _ hlt
  rw [hl] at h1
  have hi := add_inv (a := a) (b := b) (by rw [ha.1, hb.1]) 16 (by rw [ha.1]; decide)
  have ea := le_append (a.take 16) (a.drop 16)
  have eb := le_append (b.take 16) (b.drop 16)
  rw [List.take_append_drop, List.length_take, ha.1, show min 16 20 = 16 from rfl] at ea
  rw [List.take_append_drop, List.length_take, hb.1, show min 16 20 = 16 from rfl] at eb
  rw [e, ← h1]
  exact by_same _ _ _ (mod_of _ _ _ _ _ _ _ _ _ hi ea eb)
theorem part_small (bs : List Nat) (hb : ∀ x ∈ bs, x < 256) (i : Nat) : le (part bs i) < PP := by have := part_le bs hb i; rw [PP_eq]; omega
theorem rOf_small (key : List Nat) (hk : ∀ x ∈ key, x < 256) : rOf key < 2 ^ 132 := by have := rOf_lt key hk; simp only [Nat.reducePow]; omega
end Go.Proofs.Ytgfmglgibfhimaa.Po
