/- Plain arithmetic of tags: numbers of five limbs, modulo 2^130 - 5. -/
import Init
namespace Go.Proofs.Ytgfmglgibfhimaa.Po
set_option linter.unusedSimpArgs false
set_option linter.unusedVariables false

def PP : Nat := 1361129467683753853853498429727072845819
theorem PP_eq : PP = 1361129467683753853853498429727072845819 := rfl

/-! ### Bytes -/
def le : List Nat → Nat
  | [] => 0
  | x :: b => x + 256 * le b
theorem le_append (a b : List Nat) : le (a ++ b) = le a + 256 ^ a.length * le b := by
  induction a with
  | nil => simp [le]
  | cons x a ih => simp only [List.cons_append, le, ih, List.length_cons, Nat.pow_succ, Nat.mul_add]; rw [Nat.mul_comm (256 ^ a.length) 256, Nat.mul_assoc]; omega
theorem le_lt (a : List Nat) (h : ∀ x ∈ a, x < 256) : le a < 256 ^ a.length := by
  induction a with
  | nil => simp [le]
  | cons x a ih =>
    have h1 := ih (fun y hy => h y (List.mem_cons_of_mem _ hy))
    have h2 := h x List.mem_cons_self
    simp only [le, List.length_cons, Nat.pow_succ]
    omega
/-- k bytes of a number, the lowest first. -/
def by_ (k n : Nat) : List Nat := (List.range k).map fun i => n / 256 ^ i % 256
theorem by_length (k n : Nat) : (by_ k n).length = k := by simp [by_]
theorem by_lt (k n : Nat) : ∀ x ∈ by_ k n, x < 256 := by
  intro x hx
  simp only [by_, List.mem_map] at hx
  obtain ⟨i, _, rfl⟩ := hx
  exact Nat.mod_lt _ (by decide)
theorem by_succ (k n : Nat) : by_ (k + 1) n = n % 256 :: by_ k (n / 256) := by
  simp only [by_, List.range_succ_eq_map, List.map_cons, List.map_map, Nat.pow_zero, Nat.div_one]
  congr 1
  refine List.map_congr_left fun i _ => ?_
  simp only [Function.comp, Nat.pow_succ, Nat.div_div_eq_div_mul]
  rw [Nat.mul_comm]
theorem by_le (bs : List Nat) (h : ∀ x ∈ bs, x < 256) : by_ bs.length (le bs) = bs := by
  induction bs with
  | nil => rfl
  | cons x b ih =>
    have hx := h x List.mem_cons_self
    rw [List.length_cons, by_succ]
    simp only [le]
    rw [show (x + 256 * le b) % 256 = x from by omega, show (x + 256 * le b) / 256 = le b from by omega, ih (fun y hy => h y (List.mem_cons_of_mem _ hy))]
theorem le_by (k : Nat) : ∀ n, le (by_ k n) = n % 256 ^ k := by
  induction k with
  | zero => intro n; simp [by_, le, Nat.mod_one]
  | succ k ih =>
    intro n
    rw [by_succ, le, ih, Nat.pow_succ, Nat.mul_comm (256 ^ k) 256, Nat.mod_mul]
theorem by_mod (k n : Nat) : by_ k (n % 256 ^ k) = by_ k n := by
  have h := by_le (by_ k n) (by_lt k n)
  rw [by_length, le_by] at h
  exact h
theorem by_inj (k a b : Nat) (h : by_ k a = by_ k b) : a % 256 ^ k = b % 256 ^ k := by
  rw [← le_by, ← le_by, h]

/-! ### Limbs -/
def val (xs : List Nat) : Nat := xs.getD 0 0 + 67108864 * xs.getD 1 0 + 4503599627370496 * xs.getD 2 0 + 302231454903657293676544 * xs.getD 3 0 + 20282409603651670423947251286016 * xs.getD 4 0
def carry1 (xs : List Nat) (i to t : Nat) : List Nat :=
  let ys := xs.set i (xs.getD i 0 % 67108864)
  ys.set to ((ys.getD to 0 + xs.getD i 0 / 67108864 * t % 18446744073709551616) % 18446744073709551616)
def round1 (xs : List Nat) : List Nat := carry1 (carry1 (carry1 (carry1 (carry1 xs 0 1 1) 1 2 1) 2 3 1) 3 4 1) 4 0 5
def carried (xs : List Nat) : List Nat := carry1 (round1 (round1 xs)) 0 1 1
theorem carry1_length (xs : List Nat) (i to t : Nat) : (carry1 xs i to t).length = xs.length := by simp [carry1]
theorem round1_length (xs : List Nat) : (round1 xs).length = xs.length := by simp [round1, carry1_length]
theorem carried_length (xs : List Nat) : (carried xs).length = xs.length := by simp [carried, round1_length, carry1_length]

/-- The first k of a round's steps; n rounds. -/
def ups (xs : List Nat) : Nat → List Nat
  | 0 => xs
  | k + 1 => carry1 (ups xs k) k (k + 1) 1
def rnd (xs : List Nat) : Nat → List Nat
  | 0 => xs
  | n + 1 => carry1 (ups (rnd xs n) 4) 4 0 5
theorem ups_zero (xs : List Nat) : ups xs 0 = xs := rfl
theorem ups_succ (xs : List Nat) (k : Nat) : ups xs (k + 1) = carry1 (ups xs k) k (k + 1) 1 := rfl
theorem rnd_zero (xs : List Nat) : rnd xs 0 = xs := rfl
theorem rnd_succ (xs : List Nat) (n : Nat) : rnd xs (n + 1) = carry1 (ups (rnd xs n) 4) 4 0 5 := rfl
theorem carried_eq (xs : List Nat) : carried xs = carry1 (rnd xs 2) 0 1 1 := rfl
/-- Five numbers of 64 bits. -/
def ok5 (xs : List Nat) : Prop := xs.length = 5 ∧ ∀ x ∈ xs, x < 18446744073709551616
theorem ok5_set {xs : List Nat} (h : ok5 xs) (i v : Nat) (hv : v < 18446744073709551616) : ok5 (xs.set i v) :=
  ⟨by simp [h.1], fun x hx => by rcases List.mem_or_eq_of_mem_set hx with hx | rfl; exact h.2 x hx; exact hv⟩
theorem ok5_carry {xs : List Nat} (h : ok5 xs) (i to t : Nat) : ok5 (carry1 xs i to t) := by
  unfold carry1
  exact ok5_set (ok5_set h _ _ (by omega)) _ _ (Nat.mod_lt _ (by decide))
theorem ok5_ups {xs : List Nat} (h : ok5 xs) : ∀ k, ok5 (ups xs k)
  | 0 => h
  | k + 1 => ok5_carry (ok5_ups h k) _ _ _
theorem ok5_rnd {xs : List Nat} (h : ok5 xs) : ∀ n, ok5 (rnd xs n)
  | 0 => h
  | n + 1 => ok5_carry (ok5_ups (ok5_rnd h n) 4) _ _ _
theorem ok5_carried {xs : List Nat} (h : ok5 xs) : ok5 (carried xs) := ok5_carry (ok5_rnd h 2) _ _ _

theorem c01 (a b c d e : Nat) : carry1 [a, b, c, d, e] 0 1 1 = [a % 67108864, (b + a / 67108864 * 1 % 18446744073709551616) % 18446744073709551616, c, d, e] := rfl
theorem c12 (a b c d e : Nat) : carry1 [a, b, c, d, e] 1 2 1 = [a, b % 67108864, (c + b / 67108864 * 1 % 18446744073709551616) % 18446744073709551616, d, e] := rfl
theorem c23 (a b c d e : Nat) : carry1 [a, b, c, d, e] 2 3 1 = [a, b, c % 67108864, (d + c / 67108864 * 1 % 18446744073709551616) % 18446744073709551616, e] := rfl
theorem c34 (a b c d e : Nat) : carry1 [a, b, c, d, e] 3 4 1 = [a, b, c, d % 67108864, (e + d / 67108864 * 1 % 18446744073709551616) % 18446744073709551616] := rfl
theorem c40 (a b c d e : Nat) : carry1 [a, b, c, d, e] 4 0 5 = [(a + e / 67108864 * 5 % 18446744073709551616) % 18446744073709551616, b, c, d, e % 67108864] := rfl

/-- Each limb is below a bound. -/
def bnd (xs : List Nat) (A B C D E : Nat) : Prop := ∃ a b c d e, xs = [a, b, c, d, e] ∧ a < A ∧ b < B ∧ c < C ∧ d < D ∧ e < E
theorem bnd_mono {xs : List Nat} {A B C D E A' B' C' D' E' : Nat} (h : bnd xs A B C D E) (h1 : A ≤ A') (h2 : B ≤ B') (h3 : C ≤ C') (h4 : D ≤ D') (h5 : E ≤ E') : bnd xs A' B' C' D' E' := by
  obtain ⟨a, b, c, d, e, rfl, k1, k2, k3, k4, k5⟩ := h
  exact ⟨a, b, c, d, e, rfl, by omega, by omega, by omega, by omega, by omega⟩

theorem val5 (a b c d e : Nat) : val [a, b, c, d, e] = a + 67108864 * b + 4503599627370496 * c + 302231454903657293676544 * d + 20282409603651670423947251286016 * e := rfl

/-- A round: what it comes to, and how large limbs are. -/
theorem round1_gen (a b c d e : Nat) (ha : a < 1152921504606846976) (hb : b < 1152921504606846976) (hc : c < 1152921504606846976) (hd : d < 1152921504606846976) (he : e < 1152921504606846976) :
    ∃ a' b' c' d' e' q, round1 [a, b, c, d, e] = [a', b', c', d', e'] ∧ val [a, b, c, d, e] = val [a', b', c', d', e'] + q * PP ∧ a' < 67108864 + 5 * (q + 1) ∧ b' < 67108864 ∧ c' < 67108864 ∧ d' < 67108864 ∧ e' < 67108864 ∧
      a' = a % 67108864 + 5 * q ∧ q ≤ (e + 17179869440) / 67108864 ∧
      (∃ o1 o2 o3 o4, o1 = a / 67108864 ∧ o2 = (b + o1) / 67108864 ∧ o3 = (c + o2) / 67108864 ∧ o4 = (d + o3) / 67108864 ∧ q = (e + o4) / 67108864 ∧
        b' = (b + o1) % 67108864 ∧ c' = (c + o2) % 67108864 ∧ d' = (d + o3) % 67108864 ∧ e' = (e + o4) % 67108864) := by
  unfold round1
  rw [c01, c12, c23, c34, c40]
  obtain ⟨o1, h1⟩ : ∃ o1, o1 = a / 67108864 := ⟨_, rfl⟩
  have g1 : (b + a / 67108864 * 1 % 18446744073709551616) % 18446744073709551616 = b + o1 := by omega
  rw [g1]
  obtain ⟨o2, h2⟩ : ∃ o2, o2 = (b + o1) / 67108864 := ⟨_, rfl⟩
  have g2 : (c + (b + o1) / 67108864 * 1 % 18446744073709551616) % 18446744073709551616 = c + o2 := by omega
  rw [g2]
  obtain ⟨o3, h3⟩ : ∃ o3, o3 = (c + o2) / 67108864 := ⟨_, rfl⟩
  have g3 : (d + (c + o2) / 67108864 * 1 % 18446744073709551616) % 18446744073709551616 = d + o3 := by omega
  rw [g3]
  obtain ⟨o4, h4⟩ : ∃ o4, o4 = (d + o3) / 67108864 := ⟨_, rfl⟩
  have g4 : (e + (d + o3) / 67108864 * 1 % 18446744073709551616) % 18446744073709551616 = e + o4 := by omega
  rw [g4]
  obtain ⟨q, h5⟩ : ∃ q, q = (e + o4) / 67108864 := ⟨_, rfl⟩
  have g5 : (a % 67108864 + (e + o4) / 67108864 * 5 % 18446744073709551616) % 18446744073709551616 = a % 67108864 + 5 * q := by omega
  rw [g5]
  refine ⟨_, _, _, _, _, q, rfl, ?_, by omega, by omega, by omega, by omega, by omega, rfl, by omega, o1, o2, o3, o4, h1, h2, h3, h4, h5, rfl, rfl, rfl, rfl⟩
  rw [val5, val5, PP_eq]
  omega

theorem d1 (x o : Nat) (h : o = x / 67108864) (hx : x < 86234889216) : o ≤ 1284 := by omega
theorem d2 (x o p : Nat) (h : p = (x + o) / 67108864) (hx : x < 67108864) (ho : o ≤ 1284) : p ≤ 1 := by omega
theorem d3 (x o p : Nat) (h : p = (x + o) / 67108864) (hx : x < 67108865) (ho : o = 0) : p ≤ 1 := by omega
theorem d4 (e q : Nat) (he : e < 1152921504606846976) (h : q ≤ (e + 17179869440) / 67108864) : q ≤ 17179869440 := by omega
theorem d5 (b a : Nat) (hb : b < 67108864) (ha : a < 67108874) : (b + a / 67108864 * 1 % 18446744073709551616) % 18446744073709551616 = b + a / 67108864 ∧ b + a / 67108864 < 67108865 := by omega
theorem d6 (a b c d e : Nat) : val [a, b, c, d, e] = val [a % 67108864, b + a / 67108864, c, d, e] := by
  rw [val5, val5]; omega
/-- What is carried is the same number modulo P; its limbs are short, but for one. -/
theorem carried_gen (a b c d e : Nat) (ha : a < 1152921504606846976) (hb : b < 1152921504606846976) (hc : c < 1152921504606846976) (hd : d < 1152921504606846976) (he : e < 1152921504606846976) :
    ∃ a' b' c' d' e', carried [a, b, c, d, e] = [a', b', c', d', e'] ∧ val [a, b, c, d, e] % PP = val [a', b', c', d', e'] % PP ∧ a' < 67108864 ∧ b' < 67108865 ∧ c' < 67108864 ∧ d' < 67108864 ∧ e' < 67108864 := by
  obtain ⟨a1, b1, c1, d1', e1, q1, r1, v1, l1, l2, l3, l4, l5, _, l7, _⟩ := round1_gen a b c d e ha hb hc hd he
  have hq1 := d4 e q1 he l7
  have l1' : a1 < 86234889216 := by clear v1 r1; omega
  obtain ⟨a2, b2, c2, d2', e2, q2, r2, v2, m1, m2, m3, m4, m5, _, _, o1, o2, o3, o4, p1, p2, p3, p4, p5, _⟩ := round1_gen a1 b1 c1 d1' e1 (by clear v1 r1; omega) (by clear v1 r1; omega) (by clear v1 r1; omega) (by clear v1 r1; omega) (by clear v1 r1; omega)
  unfold carried
  rw [r1, r2, c01]
  have hv : val [a, b, c, d, e] % PP = val [a2, b2, c2, d2', e2] % PP := by
    rw [v1, v2, Nat.add_mul_mod_self_right, Nat.add_mul_mod_self_right]
  clear v1 r1 v2 r2 ha hb hc hd he l7 hq1 l1
  have ho1 := d1 _ _ p1 l1'
  have ho2 := d2 _ _ _ p2 l2 ho1
  have ho3 := d2 _ _ _ p3 l3 (by clear hv; omega)
  have ho4 := d2 _ _ _ p4 l4 (by clear hv; omega)
  have hq2 := d2 _ _ _ p5 l5 (by clear hv; omega)
  clear p1 p2 p3 p4 p5 ho1 ho2 ho3 ho4
  obtain ⟨g1, g2⟩ := d5 b2 a2 m2 (by clear hv; omega)
  rw [g1]
  refine ⟨_, _, _, _, _, rfl, ?_, Nat.mod_lt _ (by decide), g2, m3, m4, m5⟩
  rw [hv, ← d6]

theorem carried_short (a b c d e : Nat) (ha : a < 67108864) (hb : b < 67108865) (hc : c < 67108864) (hd : d < 67108864) (he : e < 67108864) :
    ∃ a' b' c' d' e', carried [a, b, c, d, e] = [a', b', c', d', e'] ∧ val [a, b, c, d, e] % PP = val [a', b', c', d', e'] % PP ∧ a' < 67108864 ∧ b' < 67108864 ∧ c' < 67108864 ∧ d' < 67108864 ∧ e' < 67108864 := by
  obtain ⟨a1, b1, c1, d1', e1, q1, r1, v1, l1, l2, l3, l4, l5, l6, _, t1, t2, t3, t4, s1, s2, s3, s4, s5, s6, _⟩ := round1_gen a b c d e (by omega) (by omega) (by omega) (by omega) (by omega)
  have h0 : t1 = 0 := by clear v1 r1; omega
  have h1 : t2 ≤ 1 := d3 _ _ _ s2 hb h0
  have h2 : t3 ≤ 1 := d2 _ _ _ s3 hc (by clear v1 r1; omega)
  have h3 : t4 ≤ 1 := d2 _ _ _ s4 hd (by clear v1 r1; omega)
  have h4 : q1 ≤ 1 := d2 _ _ _ s5 he (by clear v1 r1; omega)
  -- where the first limb gets more, the second one is small
  have hb1 : q1 = 0 ∨ b1 = 0 := by
    by_cases hz : t2 = 0
    · exact .inl (by clear v1 r1; subst hz; have : t3 = 0 := by omega
                     have : t4 = 0 := by omega
                     omega)
    · exact .inr (by clear v1 r1; omega)
  have ha1 : a1 < 67108864 ∧ b1 < 67108864 ∨ a1 < 67108864 + 5 ∧ b1 = 0 := by
    clear v1 r1 s1 s2 s3 s4 s5
    rcases hb1 with h | h
    · exact .inl ⟨by omega, l2⟩
    · exact .inr ⟨by omega, h⟩
  obtain ⟨a2, b2, c2, d2', e2, q2, r2, v2, m1, m2, m3, m4, m5, m6, _, o1, o2, o3, o4, p1, p2, p3, p4, p5, _⟩ := round1_gen a1 b1 c1 d1' e1 (by clear v1 r1; omega) (by clear v1 r1; omega) (by clear v1 r1; omega) (by clear v1 r1; omega) (by clear v1 r1; omega)
  unfold carried
  rw [r1, r2, c01]
  have hv : val [a, b, c, d, e] % PP = val [a2, b2, c2, d2', e2] % PP := by
    rw [v1, v2, Nat.add_mul_mod_self_right, Nat.add_mul_mod_self_right]
  clear v1 r1 v2 r2 s1 s2 s3 s4 s5 s6 h0 h1 h2 h3 h4 l6 l1 hb1
  have ho2 : o2 = 0 := by
    clear hv p3 p4 p5
    rcases ha1 with ⟨x, y⟩ | ⟨x, y⟩ <;> omega
  have ho3 : o3 = 0 := by clear hv p1 p2 p4 p5 ha1; omega
  have ho4 : o4 = 0 := by clear hv p1 p2 p3 p5 ha1; omega
  have hq2 : q2 = 0 := by clear hv p1 p2 p3 p4 ha1; omega
  have ha2 : a2 < 67108864 := by clear hv p1 p2 p3 p4 p5 ha1; omega
  have g1 : (b2 + a2 / 67108864 * 1 % 18446744073709551616) % 18446744073709551616 = b2 := by clear hv p1 p2 p3 p4 p5 ha1 m6; omega
  rw [g1, Nat.mod_eq_of_lt ha2]
  exact ⟨_, _, _, _, _, rfl, hv, ha2, m2, m3, m4, m5⟩
end Go.Proofs.Ytgfmglgibfhimaa.Po
