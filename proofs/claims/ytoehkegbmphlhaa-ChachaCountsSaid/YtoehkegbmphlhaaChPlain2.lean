/- Plain: a block's state, its rounds, its bytes. -/
import Derived.Test.YtoehkegbmphlhaaChPlain
namespace Go.Proofs.Ytoehkegbmphlhaa.Ch
set_option linter.unusedSimpArgs false
set_option linter.unusedVariables false

/-- The number that bytes are, the lowest first. -/
def le : List Nat → Nat
  | [] => 0
  | x :: b => x + 256 * le b
theorem le_append (a b : List Nat) : le (a ++ b) = le a + 256 ^ a.length * le b := by
  induction a with
  | nil => simp [le]
  | cons x a ih => simp only [List.cons_append, le, ih, List.length_cons, Nat.pow_succ, Nat.mul_add]; rw [Nat.mul_comm (256 ^ a.length) 256, Nat.mul_assoc]; omega
theorem le_lt (a : List Nat) (h : ∀ x ∈ a, x < 256) : le a < 256 ^ a.length := by
  induction a with
  | nil => simp [le]
  | cons x a ih =>
    have h1 := ih (fun y hy => h y (List.mem_cons_of_mem _ hy))
    have h2 := h x List.mem_cons_self
    simp only [le, List.length_cons, Nat.pow_succ]
    omega
/-- The number at place j of a text of numbers of four bytes. -/
def num (bs : List Nat) (j : Nat) : Nat := bs.getD (4 * j) 0 + 256 * bs.getD (4 * j + 1) 0 + 65536 * bs.getD (4 * j + 2) 0 + 16777216 * bs.getD (4 * j + 3) 0
def nums (bs : List Nat) (n : Nat) : List Nat := (List.range n).map (num bs)
theorem getD_b (bs : List Nat) (hb : ∀ x ∈ bs, x < 256) (k : Nat) : bs.getD k 0 < 256 := by
  by_cases h : k < bs.length
  · rw [List.getD_eq_getElem?_getD, List.getElem?_eq_getElem h]; exact hb _ (List.getElem_mem h)
  · rw [List.getD_eq_getElem?_getD, List.getElem?_eq_none (by omega)]; decide
theorem num_lt (bs : List Nat) (hb : ∀ x ∈ bs, x < 256) (j : Nat) : num bs j < 4294967296 := by
  have h0 := getD_b bs hb (4 * j)
  have h1 := getD_b bs hb (4 * j + 1)
  have h2 := getD_b bs hb (4 * j + 2)
  have h3 := getD_b bs hb (4 * j + 3)
  unfold num; omega

/-- The sixteen numbers at the start. -/
def start (key : List Nat) (counter : Nat) (nonce : List Nat) : List Nat := [1634760805, 857760878, 2036477234, 1797285236] ++ nums key 8 ++ [counter] ++ nums nonce 3
def okS (s : List Nat) : Prop := s.length = 16 ∧ ∀ x ∈ s, x < 4294967296
theorem start_ok (key : List Nat) (counter : Nat) (nonce : List Nat) (hk : ∀ x ∈ key, x < 256) (hc : counter < 4294967296) (hn : ∀ x ∈ nonce, x < 256) : okS (start key counter nonce) := by
  refine ⟨by simp [start, nums], ?_⟩
  intro x hx
  simp only [start, nums, List.mem_append, List.mem_map, List.mem_cons, List.mem_range, List.not_mem_nil, or_false] at hx
  rcases hx with ((hx | ⟨j, _, rfl⟩) | rfl) | ⟨j, _, rfl⟩
  · omega
  · exact num_lt _ hk _
  · exact hc
  · exact num_lt _ hn _

/-- A quarter of four of the numbers. -/
def qs (s : List Nat) (i b c d : Nat) : List Nat :=
  let q := quarter ⟨s.getD i 0, s.getD b 0, s.getD c 0, s.getD d 0⟩
  (((s.set i q.a).set b q.b).set c q.c).set d q.d
theorem okS_set {s : List Nat} (h : okS s) (i v : Nat) (hv : v < 4294967296) : okS (s.set i v) :=
  ⟨by simp [h.1], fun x hx => by rcases List.mem_or_eq_of_mem_set hx with hx | rfl; exact h.2 x hx; exact hv⟩
theorem okS_get {s : List Nat} (h : okS s) (i : Nat) : s.getD i 0 < 4294967296 := by
  by_cases hi : i < s.length
  · rw [List.getD_eq_getElem?_getD, List.getElem?_eq_getElem hi]; exact h.2 _ (List.getElem_mem hi)
  · rw [List.getD_eq_getElem?_getD, List.getElem?_eq_none (by omega)]; decide
theorem qs_ok {s : List Nat} (h : okS s) (i b c d : Nat) : okS (qs s i b c d) := by
  have hq := quarter_ok (x := ⟨s.getD i 0, s.getD b 0, s.getD c 0, s.getD d 0⟩) ⟨okS_get h i, okS_get h b, okS_get h c, okS_get h d⟩
  obtain ⟨h1, h2, h3, h4⟩ := hq
  exact okS_set (okS_set (okS_set (okS_set h _ _ h1) _ _ h2) _ _ h3) _ _ h4
/-- Step i of a turn. -/
def step (s : List Nat) (turn i : Nat) : List Nat := qs s i (4 + (i + turn) % 4) (8 + (i + 2 * turn) % 4) (12 + (i + 3 * turn) % 4)
/-- The first k steps of a turn; the first t turns of a round; r rounds. -/
def steps4 (s : List Nat) (turn : Nat) : Nat → List Nat
  | 0 => s
  | k + 1 => step (steps4 s turn k) turn k
def turns2 (s : List Nat) : Nat → List Nat
  | 0 => s
  | t + 1 => steps4 (turns2 s t) t 4
def rounds10 (s : List Nat) : Nat → List Nat
  | 0 => s
  | r + 1 => turns2 (rounds10 s r) 2
theorem steps4_succ (s : List Nat) (turn k : Nat) : steps4 s turn (k + 1) = step (steps4 s turn k) turn k := rfl
theorem turns2_succ (s : List Nat) (t : Nat) : turns2 s (t + 1) = steps4 (turns2 s t) t 4 := rfl
theorem rounds10_succ (s : List Nat) (r : Nat) : rounds10 s (r + 1) = turns2 (rounds10 s r) 2 := rfl
theorem steps4_ok {s : List Nat} (h : okS s) (turn : Nat) : ∀ k, okS (steps4 s turn k)
  | 0 => h
  | k + 1 => qs_ok (steps4_ok h turn k) _ _ _ _
theorem turns2_ok {s : List Nat} (h : okS s) : ∀ t, okS (turns2 s t)
  | 0 => h
  | t + 1 => steps4_ok (turns2_ok h t) _ _
theorem rounds10_ok {s : List Nat} (h : okS s) : ∀ r, okS (rounds10 s r)
  | 0 => h
  | r + 1 => turns2_ok (rounds10_ok h r) _

/-- Byte m of the sums. -/
def outByte (was s : List Nat) (m : Nat) : Nat := add (s.getD (m / 4) 0) (was.getD (m / 4) 0) / 256 ^ (m % 4) % 256
def outBytes (was s : List Nat) : List Nat := (List.range 64).map (outByte was s)
def block (key : List Nat) (counter : Nat) (nonce : List Nat) : List Nat := outBytes (start key counter nonce) (rounds10 (start key counter nonce) 10)
/-- The first m bytes are there. -/
def outsAt (was s : List Nat) (m : Nat) : List Nat := (outBytes was s).take m ++ List.replicate (64 - m) 0
theorem outBytes_length (was s : List Nat) : (outBytes was s).length = 64 := by simp [outBytes]
theorem outsAt_length (was s : List Nat) (m : Nat) (h : m ≤ 64) : (outsAt was s m).length = 64 := by simp [outsAt, outBytes_length]; omega
theorem outsAt_start (was s : List Nat) : outsAt was s 0 = List.replicate 64 0 := by simp [outsAt]
theorem outsAt_end (was s : List Nat) : outsAt was s 64 = outBytes was s := by
  unfold outsAt
  rw [List.take_of_length_le (by rw [outBytes_length]; exact Nat.le_refl _)]; simp
theorem outBytes_get (was s : List Nat) (m : Nat) (h : m < 64) : (outBytes was s)[m]? = some (outByte was s m) := by simp [outBytes, h]
theorem outsAt_set (was s : List Nat) (m v : Nat) (h : m < 64) (hv : v = outByte was s m) : (outsAt was s m).set m v = outsAt was s (m + 1) := by
  subst hv
  unfold outsAt
  have hl : ((outBytes was s).take m).length = m := by simp [outBytes_length]; omega
  rw [List.set_append_right _ _ (by omega), hl, Nat.sub_self]
  obtain ⟨j, hj⟩ : ∃ j, 64 - m = j + 1 := ⟨64 - m - 1, by omega⟩
  have hj' : 64 - (m + 1) = j := by omega
  rw [hj, hj', List.replicate_succ, List.set_cons_zero, List.take_add_one, outBytes_get _ _ _ h]
  simp
theorem outByte_at (was s : List Nat) (i k : Nat) (hk : k < 4) : outByte was s (4 * i + k) = add (s.getD i 0) (was.getD i 0) / 256 ^ k % 256 := by
  unfold outByte
  rw [show (4 * i + k) / 4 = i from by omega, show (4 * i + k) % 4 = k from by omega]
theorem block_length (key : List Nat) (counter : Nat) (nonce : List Nat) : (block key counter nonce).length = 64 := by simp [block, outBytes]
theorem block_lt (key : List Nat) (counter : Nat) (nonce : List Nat) : ∀ x ∈ block key counter nonce, x < 256 := by
  intro x hx
  simp only [block, outBytes, List.mem_map] at hx
  obtain ⟨m, _, rfl⟩ := hx
  exact Nat.mod_lt _ (by decide)
theorem block_ex : (block (List.replicate 32 0) 0 (List.replicate 12 0)).getD 0 0 = 118 ∧ (block (List.replicate 32 0) 0 (List.replicate 12 0)).getD 1 0 = 184 ∧ (block (List.replicate 32 0) 0 (List.replicate 12 0)).getD 63 0 = 134 := by decide +kernel
theorem block_eq (key : List Nat) (counter : Nat) (nonce : List Nat) : block key counter nonce = outBytes (start key counter nonce) (rounds10 (start key counter nonce) 10) := rfl
theorem step_eq (s : List Nat) (turn i : Nat) : step s turn i = qs s i (4 + (i + turn) % 4) (8 + (i + 2 * turn) % 4) (12 + (i + 3 * turn) % 4) := rfl
theorem qs_eq (s : List Nat) (i b c d : Nat) (q : Four) (hq : q = quarter ⟨s.getD i 0, s.getD b 0, s.getD c 0, s.getD d 0⟩) : qs s i b c d = (((s.set i q.a).set b q.b).set c q.c).set d q.d := by subst hq; rfl
theorem steps4_zero (s : List Nat) (turn : Nat) : steps4 s turn 0 = s := rfl
theorem turns2_zero (s : List Nat) : turns2 s 0 = s := rfl
theorem rounds10_zero (s : List Nat) : rounds10 s 0 = s := rfl
attribute [irreducible] start qs step steps4 turns2 rounds10 outByte outBytes outsAt block
end Go.Proofs.Ytoehkegbmphlhaa.Ch
