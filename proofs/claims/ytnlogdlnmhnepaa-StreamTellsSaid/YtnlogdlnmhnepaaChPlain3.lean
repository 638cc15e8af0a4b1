/- Plain: the reference's eighty steps are the ten rounds. -/
import Derived.Test.YtnlogdlnmhnepaaChPlain2
namespace Go.Proofs.Ytnlogdlnmhnepaa.Ch
set_option linter.unusedSimpArgs false
set_option linter.unusedVariables false

/-- The places of the eight quarters. -/
def places : List Nat := [0, 4, 8, 12, 1, 5, 9, 13, 2, 6, 10, 14, 3, 7, 11, 15, 0, 5, 10, 15, 1, 6, 11, 12, 2, 7, 8, 13, 3, 4, 9, 14]
def pl (m : Nat) : List Nat := (places.drop (m * 4)).take 4
theorem pl_eq (m : Nat) (h : m < 8) : pl m = [m % 4, 4 + (m % 4 + m / 4) % 4, 8 + (m % 4 + 2 * (m / 4)) % 4, 12 + (m % 4 + 3 * (m / 4)) % 4] := by
  have : ∀ m : Fin 8, pl m.1 = [m.1 % 4, 4 + (m.1 % 4 + m.1 / 4) % 4, 8 + (m.1 % 4 + 2 * (m.1 / 4)) % 4, 12 + (m.1 % 4 + 3 * (m.1 / 4)) % 4] := by decide
  exact this ⟨m, h⟩
/-- The first n of the eighty steps. -/
def stepN (s : List Nat) : Nat → List Nat
  | 0 => s
  | n + 1 => step (stepN s n) (n % 8 / 4) (n % 8 % 4)
theorem stepN_zero (s : List Nat) : stepN s 0 = s := rfl
theorem stepN_succ (s : List Nat) (n : Nat) : stepN s (n + 1) = step (stepN s n) (n % 8 / 4) (n % 8 % 4) := rfl
theorem stepN_ok {s : List Nat} (h : okS s) : ∀ n, okS (stepN s n)
  | 0 => h
  | n + 1 => by rw [stepN_succ, step_eq]; exact qs_ok (stepN_ok h n) _ _ _ _
theorem stepN_steps4 (s : List Nat) (n : Nat) (t : Nat) (hn : n % 8 = 4 * t) (ht : t < 2) : ∀ k, k ≤ 4 → stepN s (n + k) = steps4 (stepN s n) t k
  | 0, _ => by rw [steps4_zero]; rfl
  | k + 1, h => by
    rw [← Nat.add_assoc, stepN_succ, steps4_succ, stepN_steps4 s n t hn ht k (by omega), show (n + k) % 8 / 4 = t from by omega, show (n + k) % 8 % 4 = k from by omega]
theorem stepN_turns2 (s : List Nat) (n : Nat) (hn : n % 8 = 0) : ∀ t, t ≤ 2 → stepN s (n + 4 * t) = turns2 (stepN s n) t
  | 0, _ => by rw [turns2_zero]; rfl
  | t + 1, h => by
    rw [show n + 4 * (t + 1) = (n + 4 * t) + 4 from by omega, turns2_succ, stepN_steps4 s (n + 4 * t) t (by omega) (by omega) 4 (Nat.le_refl _), stepN_turns2 s n hn t (by omega)]
theorem stepN_rounds (s : List Nat) : ∀ r, stepN s (8 * r) = rounds10 s r
  | 0 => by rw [rounds10_zero]; rfl
  | r + 1 => by
    rw [show 8 * (r + 1) = 8 * r + 4 * 2 from by omega, rounds10_succ, stepN_turns2 s (8 * r) (by omega) 2 (Nat.le_refl _), stepN_rounds s r]
theorem stepN_80 (s : List Nat) : stepN s 80 = rounds10 s 10 := stepN_rounds s 10
theorem stepN_places (s : List Nat) (n p0 p1 p2 p3 : Nat) (h : pl (n % 8) = [p0, p1, p2, p3]) : stepN s (n + 1) = qs (stepN s n) p0 p1 p2 p3 := by
  rw [pl_eq _ (by omega)] at h
  obtain ⟨h0, h⟩ := List.cons.inj h
  obtain ⟨h1, h⟩ := List.cons.inj h
  obtain ⟨h2, h⟩ := List.cons.inj h
  obtain ⟨h3, _⟩ := List.cons.inj h
  rw [stepN_succ, step_eq, h3, h2, h1, h0]
theorem pl_lt (m : Nat) (h : m < 8) : ∃ p0 p1 p2 p3, pl m = [p0, p1, p2, p3] ∧ p0 < 16 ∧ p1 < 16 ∧ p2 < 16 ∧ p3 < 16 :=
  ⟨_, _, _, _, pl_eq m h, by omega, by omega, by omega, by omega⟩
attribute [irreducible] stepN
end Go.Proofs.Ytnlogdlnmhnepaa.Ch
