/- Plain: what the statements of chapter 6 say of tags. -/
import Derived.Test.YtgfmglgibfhimaaPrPlain2
namespace Go.Proofs.Ytgfmglgibfhimaa.Po
set_option linter.unusedSimpArgs false
set_option linter.unusedVariables false

/-! ### Sums by columns -/
def cc (f : Nat → Nat) : Nat → Nat
  | 0 => 0
  | i + 1 => (cc f i + f i) / 256
def cd (f : Nat → Nat) (i : Nat) : Nat := (cc f i + f i) % 256
def cs (f : Nat → Nat) : Nat → Nat
  | 0 => 0
  | i + 1 => cs f i + 256 ^ i * f i
theorem cc_zero (f : Nat → Nat) : cc f 0 = 0 := rfl
theorem cc_succ (f : Nat → Nat) (i : Nat) : cc f (i + 1) = (cc f i + f i) / 256 := rfl
theorem cc_inv (f : Nat → Nat) : ∀ i, le ((List.range i).map (cd f)) + 256 ^ i * cc f i = cs f i
  | 0 => by simp [cc, cs, le]
  | i + 1 => by
    have ih := cc_inv f i
    rw [le_map_succ, cc_succ, cs, ← ih]
    unfold cd
    have h := Nat.mod_add_div (cc f i + f i) 256
    have h2 : 256 ^ i * ((cc f i + f i) % 256) + 256 ^ (i + 1) * ((cc f i + f i) / 256) = 256 ^ i * cc f i + 256 ^ i * f i := by
      rw [Nat.pow_succ, Nat.mul_assoc, ← Nat.mul_add, h, Nat.mul_add]
    omega
theorem cd_of (f : Nat → Nat) (n i : Nat) (h : i < n) : cd f i = cs f n / 256 ^ i % 256 := by
  have hl : ∀ x ∈ (List.range n).map (cd f), x < 256 := by
    intro x hx
    simp only [List.mem_map] at hx
    obtain ⟨j, _, rfl⟩ := hx
    exact Nat.mod_lt _ (by decide)
  have h1 := by_le _ hl
  rw [List.length_map, List.length_range] at h1
  have h2 := by_same n (le ((List.range n).map (cd f))) (cs f n) (by rw [← cc_inv f n, Nat.add_mul_mod_self_left])
  rw [h2] at h1
  have h3 : ((List.range n).map (cd f))[i]? = (by_ n (cs f n))[i]? := by rw [← h1]
  simpa [by_, h] using h3
theorem cs_add (f g : Nat → Nat) : ∀ n, cs (fun i => f i + g i) n = cs f n + cs g n
  | 0 => rfl
  | n + 1 => by simp only [cs, cs_add f g n, Nat.mul_add]; omega
theorem cs_list (a : List Nat) : ∀ n, n ≤ a.length → cs (fun i => a.getD i 0) n = le (a.take n)
  | 0, _ => by simp [cs, le]
  | n + 1, h => by rw [cs, cs_list a n (by omega), take_succ' a n (by omega)]
theorem cs_all (a : List Nat) (n : Nat) (h : a.length = n) : cs (fun i => a.getD i 0) n = le a := by rw [cs_list a n (by omega), List.take_of_length_le (by omega)]
theorem cc_le (f : Nat → Nat) (b : Nat) (hf : ∀ i, f i ≤ b * 255) (hb : 0 < b) : ∀ i, cc f i ≤ b
  | 0 => Nat.zero_le _
  | i + 1 => by
    have := cc_le f b hf hb i
    have := hf i
    rw [cc_succ]
    omega

theorem digit_of (n p q i : Nat) (h : i < n) (hpq : p % 256 ^ n = q % 256 ^ n) : p / 256 ^ i % 256 = q / 256 ^ i % 256 := by
  have := by_same n p q hpq
  have h3 : (by_ n p)[i]? = (by_ n q)[i]? := by rw [this]
  simpa [by_, h] using h3
theorem acc_nil (r : Nat) : acc r [] = 0 := accN_zero r []

/-! ### PolyZero -/
theorem tag_nil (key : List Nat) (hk : key.length = 32) (hb : ∀ x ∈ key, x < 256) : tag key [] = key.drop 16 := by
  unfold tag
  rw [acc_nil, Nat.zero_add]
  have := by_le (key.drop 16) (fun x hx => hb x (List.mem_of_mem_drop hx))
  rw [List.length_drop, hk] at this
  exact this
theorem acc_zero (bs : List Nat) : acc 0 bs = 0 := by
  unfold acc
  generalize parts bs.length = n
  cases n with
  | zero => exact accN_zero _ _
  | succ n => rw [accN_succ, Nat.mul_zero, Nat.zero_mod]
theorem tag_of (key key' bs bs' : List Nat) (h1 : rOf key = rOf key') (h2 : sOf key = sOf key') (h3 : bs = bs') : tag key bs = tag key' bs' := by unfold tag; rw [h1, h2, h3]
/-- The key of which the first i bytes are 0. -/
def zN (key : List Nat) (i : Nat) : List Nat := fl (fun _ => 0) key i
theorem zN_length (key : List Nat) (i : Nat) (h : i ≤ key.length) : (zN key i).length = key.length := fl_length _ _ _ h
theorem zN_succ (key : List Nat) (i : Nat) (h : i < key.length) : (zN key i).set i 0 = zN key (i + 1) := fl_succ _ _ _ h
def zF (key : List Nat) : List Nat := ((zN key 16).set 3 240).set 4 3
theorem zF_eq (key : List Nat) (hk : key.length = 32) : zF key = [0, 0, 0, 240, 3, 0, 0, 0, 0, 0, 0, 0, 0, 0, 0, 0] ++ key.drop 16 := rfl
theorem zF_length (key : List Nat) (hk : key.length = 32) : (zF key).length = 32 := by unfold zF; rw [List.length_set, List.length_set, zN_length _ _ (by omega), hk]
theorem zF_lt (key : List Nat) (hk : key.length = 32) (hb : ∀ x ∈ key, x < 256) : ∀ x ∈ zF key, x < 256 := by
  rw [zF_eq key hk]
  intro x hx
  rcases List.mem_append.1 hx with hx | hx
  · have : ∀ x ∈ [0, 0, 0, 240, 3, 0, 0, 0, 0, 0, 0, 0, 0, 0, 0, 0], x < 256 := by decide
    exact this x hx
  · exact hb x (List.mem_of_mem_drop hx)
theorem tag_zF (key bs : List Nat) (hk : key.length = 32) (hb : ∀ x ∈ key, x < 256) : tag (zF key) bs = key.drop 16 := by
  have e1 : (zF key).take 16 = [0, 0, 0, 240, 3, 0, 0, 0, 0, 0, 0, 0, 0, 0, 0, 0] := by rw [zF_eq key hk]; rfl
  have e2 : (zF key).drop 16 = key.drop 16 := by rw [zF_eq key hk]; rfl
  have h : rOf (zF key) = 0 := by unfold rOf; rw [e1]; rfl
  have hs : sOf (zF key) = sOf key := by unfold sOf; rw [e2]
  rw [← tag_nil key hk hb]
  unfold tag
  rw [h, hs, acc_zero, acc_nil]

/-! ### PolyLinear -/
/-- The key of whose second half the first i bytes are another one's. -/
def kN (key s : List Nat) (i : Nat) : List Nat := key.take 16 ++ fl (fun j => s.getD j 0) (key.drop 16) i
theorem kN_zero (key s : List Nat) : kN key s 0 = key := by unfold kN; rw [fl_zero, List.take_append_drop]
theorem kN_length (key s : List Nat) (i : Nat) (hk : key.length = 32) (h : i ≤ 16) : (kN key s i).length = 32 := by
  unfold kN
  rw [List.length_append, fl_length (fun j => s.getD j 0) (key.drop 16) i (by rw [List.length_drop]; omega), List.length_take, List.length_drop]; omega
theorem kN_succ (key s : List Nat) (i : Nat) (hk : key.length = 32) (h : i < 16) : (kN key s i).set (16 + i) (s.getD i 0) = kN key s (i + 1) := by
  unfold kN
  have hl : (key.take 16).length = 16 := by rw [List.length_take]; omega
  rw [List.set_append_right _ _ (by omega), hl, show 16 + i - 16 = i by omega, fl_succ (fun j => s.getD j 0) (key.drop 16) i (by rw [List.length_drop]; omega)]
theorem kN_end (key s : List Nat) (hk : key.length = 32) (hs : s.length = 16) : kN key s 16 = key.take 16 ++ s := by
  unfold kN fl
  have := map_getD s 16 0 (by omega)
  simp only [Nat.zero_add, List.drop_zero] at this
  rw [this, List.take_of_length_le (show s.length ≤ 16 by omega), List.drop_of_length_le (show (key.drop 16).length ≤ 16 by rw [List.length_drop]; omega), List.append_nil]
theorem kEnd_lt (key s : List Nat) (hb : ∀ x ∈ key, x < 256) (hs : ∀ x ∈ s, x < 256) : ∀ x ∈ key.take 16 ++ s, x < 256 := by
  intro x hx
  rcases List.mem_append.1 hx with hx | hx
  · exact hb x (List.mem_of_mem_take hx)
  · exact hs x hx
def lF (x s : List Nat) (i : Nat) : Nat := x.getD i 0 + s.getD i 0
theorem linear (key s bs : List Nat) (hk : key.length = 32) (hs : s.length = 16) (i : Nat) (h : i < 16) :
    cd (lF (tag key bs) s) i = cd (lF (tag (key.take 16 ++ s) bs) (key.drop 16)) i := by
  have hl : (key.take 16).length = 16 := by rw [List.length_take]; omega
  have e1 : rOf (key.take 16 ++ s) = rOf key := by unfold rOf; rw [List.take_append_of_le_length (by omega), List.take_take]; rfl
  have e2 : sOf (key.take 16 ++ s) = le s := by unfold sOf; rw [List.drop_append_of_le_length (by omega), List.drop_of_length_le (by omega), List.nil_append]
  rw [cd_of _ 16 i h, cd_of _ 16 i h]
  unfold lF
  rw [cs_add, cs_add, cs_all _ 16 (tag_length _ _), cs_all _ 16 (tag_length _ _), cs_all _ 16 hs, cs_all (key.drop 16) 16 (by rw [List.length_drop]; omega)]
  unfold tag
  rw [le_by, le_by, e1, e2]
  unfold sOf
  generalize acc (rOf key) bs = A
  generalize le (key.drop 16) = u
  generalize le s = v
  refine digit_of 16 _ _ i h ?_
  generalize 256 ^ 16 = M
  rw [Nat.mod_add_mod, Nat.mod_add_mod, Nat.add_right_comm]
theorem lF_le (x s : List Nat) (hx : ∀ y ∈ x, y < 256) (hs : ∀ y ∈ s, y < 256) (i : Nat) : lF x s i ≤ 2 * 255 := by
  have := getD_lt x hx i
  have := getD_lt s hs i
  unfold lF; omega

/-! ### PolyClamps -/
theorem clampB_and (i x : Nat) (h : x < 256) : clampB i x &&& x = clampB i x := by
  have : ∀ x, x < 256 → (x % 16 &&& x = x % 16) ∧ (x / 4 * 4 &&& x = x / 4 * 4) := by decide +kernel
  unfold clampB
  split
  · exact (this x h).1
  · split
    · exact (this x h).2
    · exact Nat.and_self x
theorem tag_clamp (key bs : List Nat) (hk : key.length = 32) : tag (clamp (key.take 16) ++ key.drop 16) bs = tag key bs := by
  have hl : (clamp (key.take 16)).length = 16 := clamp_length _
  refine tag_of _ _ _ _ ?_ ?_ rfl
  · unfold rOf; rw [List.take_append_of_le_length (by omega), List.take_of_length_le (by omega), clamp_idem]
  · unfold sOf; rw [List.drop_append_of_le_length (by omega), List.drop_of_length_le (by omega), List.nil_append]
/-- The key of which the first i bytes are another list's. -/
def cN (key c : List Nat) (i : Nat) : List Nat := fl (fun j => c.getD j 0) key i
theorem cN_zero (key c : List Nat) : cN key c 0 = key := fl_zero _ _
theorem cN_length (key c : List Nat) (i : Nat) (h : i ≤ key.length) : (cN key c i).length = key.length := fl_length _ _ _ h
theorem cN_succ (key c : List Nat) (i : Nat) (h : i < key.length) : (cN key c i).set i (c.getD i 0) = cN key c (i + 1) := fl_succ _ _ _ h
theorem cN_end (key c : List Nat) (hc : c.length = 16) : cN key c 16 = c ++ key.drop 16 := by
  unfold cN fl
  have := map_getD c 16 0 (by omega)
  simp only [Nat.zero_add, List.drop_zero] at this
  rw [this, List.take_of_length_le (by omega)]

/-! ### PolyOne -/
def oneK (s : List Nat) (i : Nat) : List Nat := kN (1 :: List.replicate 31 0) s i
theorem oneK_end (s : List Nat) (hs : s.length = 16) : oneK s 16 = (1 :: List.replicate 15 0) ++ s := by
  have := kN_end (1 :: List.replicate 31 0) s (by decide) hs
  unfold oneK
  rw [this]
  congr 1
theorem r_one (s : List Nat) : rOf (1 :: List.replicate 15 0 ++ s) = 1 := by
  unfold rOf
  rw [List.take_append_of_le_length (by decide)]
  decide +kernel
theorem s_one (s : List Nat) : sOf (1 :: List.replicate 15 0 ++ s) = le s := by
  unfold sOf
  rw [List.drop_append_of_le_length (by decide), List.drop_of_length_le (by decide), List.nil_append]
theorem le16 (a : List Nat) (ha : a.length = 16) (hb : ∀ x ∈ a, x < 256) : le a < 340282366920938463463374607431768211456 := by
  have h := le_lt a hb
  have e : (256 : Nat) ^ 16 = 340282366920938463463374607431768211456 := by decide
  rw [ha, e] at h
  exact h
theorem part_first (a b : List Nat) (ha : a.length = 16) : le (part (a ++ b) 0) = le a + 340282366920938463463374607431768211456 := by
  unfold part
  rw [Nat.mul_zero, List.drop_zero, List.take_append_of_le_length (by omega), List.take_of_length_le (by omega), le_append, ha]
  rfl
theorem part_second (a b : List Nat) (ha : a.length = 16) (hb : b.length = 16) : le (part (a ++ b) 1) = le b + 340282366920938463463374607431768211456 := by
  unfold part
  rw [Nat.mul_one, List.drop_append_of_le_length (by omega), List.drop_of_length_le (by omega), List.nil_append, List.take_of_length_le (by omega), le_append, hb]
  rfl
theorem top_lt (a : List Nat) (ha : a.length = 16) (hb : ∀ x ∈ a, x < 256) (h15 : a.getD 15 0 < 128) : le a < 170141183460469231731687303715884105728 := by
  have h := take_succ' a 15 (by omega)
  rw [List.take_of_length_le (by omega)] at h
  have h2 := le_lt (a.take 15) (fun x hx => hb x (List.mem_of_mem_take hx))
  rw [List.length_take, ha] at h2
  have e : (256 : Nat) ^ 15 = 1329227995784915872903807060280344576 := by decide
  rw [show min 15 16 = 15 from rfl, e] at h2
  rw [h, e]
  omega
theorem tag_one (s a : List Nat) (ha : a.length = 16) (hb : ∀ x ∈ a, x < 256) (h15 : a.getD 15 0 < 128) : tag (1 :: List.replicate 15 0 ++ s) a = by_ 16 (le a + le s) := by
  have h1 := top_lt a ha hb h15
  have hp := part_first a [] ha
  rw [List.append_nil] at hp
  have e : acc 1 a = le a + 340282366920938463463374607431768211456 := by
    unfold acc
    rw [ha, show parts 16 = 1 from rfl, accN_succ, accN_zero, hp, Nat.zero_add, Nat.mul_one, PP_eq]
    exact Nat.mod_eq_of_lt (by omega)
  unfold tag
  rw [r_one, s_one, e]
  refine by_same 16 _ _ ?_
  have e : (256 : Nat) ^ 16 = 340282366920938463463374607431768211456 := by decide
  rw [e]
  omega
theorem tag_two (s a b : List Nat) (ha : a.length = 16) (hb : ∀ x ∈ a, x < 256) (h15 : a.getD 15 0 < 128) (hc : b.length = 16) (hd : ∀ x ∈ b, x < 256) : tag (1 :: List.replicate 15 0 ++ s) (a ++ b) = by_ 16 (le a + le b + le s) := by
  have h1 := top_lt a ha hb h15
  have h2 := le16 b hc hd
  have e : acc 1 (a ++ b) = le a + le b + 680564733841876926926749214863536422912 := by
    unfold acc
    rw [List.length_append, ha, hc, show parts (16 + 16) = 2 from rfl, accN_succ, accN_succ, accN_zero, part_first a b ha, part_second a b ha hc, Nat.zero_add, Nat.mul_one, Nat.mul_one, PP_eq]
    omega
  unfold tag
  rw [r_one, s_one, e]
  refine by_same 16 _ _ ?_
  have e : (256 : Nat) ^ 16 = 340282366920938463463374607431768211456 := by decide
  rw [e]
  omega
def lF3 (a b s : List Nat) (i : Nat) : Nat := a.getD i 0 + b.getD i 0 + s.getD i 0
theorem by_get (n x i : Nat) (h : i < n) : (by_ n x).getD i 0 = x / 256 ^ i % 256 := by simp [by_, List.getD_eq_getElem?_getD, h]
theorem one_at (s a : List Nat) (ha : a.length = 16) (hs : s.length = 16) (hb : ∀ x ∈ a, x < 256) (h15 : a.getD 15 0 < 128) (i : Nat) (h : i < 16) : (tag (1 :: List.replicate 15 0 ++ s) a).getD i 0 = cd (lF a s) i := by
  rw [tag_one s a ha hb h15, by_get _ _ _ h, cd_of _ 16 i h]
  unfold lF
  rw [cs_add, cs_all a 16 ha, cs_all s 16 hs]
theorem two_at (s a b : List Nat) (ha : a.length = 16) (hs : s.length = 16) (hc : b.length = 16) (hb : ∀ x ∈ a, x < 256) (h15 : a.getD 15 0 < 128) (hd : ∀ x ∈ b, x < 256) (i : Nat) (h : i < 16) : (tag (1 :: List.replicate 15 0 ++ s) (a ++ b)).getD i 0 = cd (lF3 a b s) i := by
  rw [tag_two s a b ha hb h15 hc hd, by_get _ _ _ h, cd_of _ 16 i h]
  unfold lF3
  rw [cs_add (fun i => a.getD i 0 + b.getD i 0), cs_add, cs_all a 16 ha, cs_all b 16 hc, cs_all s 16 hs]
theorem lF3_le (a b s : List Nat) (ha : ∀ y ∈ a, y < 256) (hb : ∀ y ∈ b, y < 256) (hs : ∀ y ∈ s, y < 256) (i : Nat) : lF3 a b s i ≤ 3 * 255 := by
  have := getD_lt a ha i
  have := getD_lt b hb i
  have := getD_lt s hs i
  unfold lF3; omega
end Go.Proofs.Ytgfmglgibfhimaa.Po
