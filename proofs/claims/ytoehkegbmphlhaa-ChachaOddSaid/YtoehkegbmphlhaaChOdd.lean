/- The walk of the statement ChachaOdd: a quarter hangs on its last number. -/
import Derived.Test.YtoehkegbmphlhaaChA
namespace Go.Proofs.Ytoehkegbmphlhaa.Ch
open Go.RowKit

theorem beqT (x y : Nat) (h : x = y) : ((x : Int) == (y : Int)) = true := by subst h; exact beq_self_eq_true _
theorem beqF (x y : Nat) (h : ¬ x = y) : ((x : Int) == (y : Int)) = false := beq_eq_false_iff_ne.2 (by omega)
set_option maxHeartbeats 1000000 in
theorem odd_walk (a b c d o : Int) (w : World) (ha : 0 ≤ a ∧ a ≤ 4294967295) (hb : 0 ≤ b ∧ b ≤ 4294967295) (hc : 0 ≤ c ∧ c ≤ 4294967295) (hd : 0 ≤ d ∧ d ≤ 4294967295) (ho : 0 ≤ o ∧ o ≤ 4294967295) :
    Calls Try.prog 6 #[.int .u32 a, .int .u32 b, .int .u32 c, .int .u32 d, .int .u32 o] w fun e w' => e = .returned (.bool true) ∧ Below w.heap.size w w' := by
  obtain ⟨a, rfl⟩ := Int.eq_ofNat_of_zero_le ha.1
  obtain ⟨b, rfl⟩ := Int.eq_ofNat_of_zero_le hb.1
  obtain ⟨c, rfl⟩ := Int.eq_ofNat_of_zero_le hc.1
  obtain ⟨d, rfl⟩ := Int.eq_ofNat_of_zero_le hd.1
  obtain ⟨o, rfl⟩ := Int.eq_ofNat_of_zero_le ho.1
  have hdl : d < 4294967296 := by omega
  have hol : o < 4294967296 := by omega
  have hok : Four.ok ⟨a, b, c, d⟩ := ⟨by show a < _; omega, by show b < _; omega, by show c < _; omega, hdl⟩
  have hok2 : Four.ok ⟨a, b, c, d ^^^ o⟩ := ⟨by show a < _; omega, by show b < _; omega, by show c < _; omega, xor_lt hdl hol⟩
  have hx := xorI d o _ hdl hol rfl
  have q1 := Lib.hid (fun W => Quarter_any a b c d W hok)
  have q2 := Lib.hid (fun W => Quarter_any a b c (d ^^^ o) W hok2)
  have hinj := fun h => quarter_inj hok hok2 h
  have hsame : o = 0 → quarter ⟨a, b, c, d ^^^ o⟩ = quarter ⟨a, b, c, d⟩ := fun h => by rw [h, Nat.xor_zero]
  have hdiff : o ≠ 0 → quarter ⟨a, b, c, d⟩ ≠ quarter ⟨a, b, c, d ^^^ o⟩ := fun h e => by
    have := hinj e
    simp only [Four.mk.injEq, true_and] at this
    have h2 := congrArg (d ^^^ ·) this
    simp only [Nat.xor_self, ← Nat.xor_assoc, Nat.zero_xor] at h2
    exact h h2.symm
  obtain ⟨q, hq⟩ : ∃ q, q = quarter ⟨a, b, c, d⟩ := ⟨_, rfl⟩
  obtain ⟨r, hr⟩ : ∃ r, r = quarter ⟨a, b, c, d ^^^ o⟩ := ⟨_, rfl⟩
  rw [← hq] at q1 hsame hdiff
  rw [← hr] at q2 hsame hdiff
  obtain ⟨qa, qb, qc, qd⟩ := q
  obtain ⟨ra, rb, rc, rd⟩ := r
  obtain ⟨e, he⟩ : ∃ e, e = d ^^^ o := ⟨_, rfl⟩
  rw [← he] at hx q2
  simp only [tup] at q1 q2
  simp only [Four.mk.injEq, ne_eq, not_and] at hsame hdiff
  clear hinj hok hok2 he hq hr
  have go : (((o : Int) == 0) = true ∧ ((qa : Int) == (ra : Int)) = true ∧ ((qb : Int) == (rb : Int)) = true ∧ ((qc : Int) == (rc : Int)) = true ∧ ((qd : Int) == (rd : Int)) = true) ∨
      (((o : Int) == 0) = false ∧ ((qa : Int) == (ra : Int)) = false) ∨ (((o : Int) == 0) = false ∧ ((qa : Int) == (ra : Int)) = true ∧ ((qb : Int) == (rb : Int)) = false) ∨
      (((o : Int) == 0) = false ∧ ((qa : Int) == (ra : Int)) = true ∧ ((qb : Int) == (rb : Int)) = true ∧ ((qc : Int) == (rc : Int)) = false) ∨
      (((o : Int) == 0) = false ∧ ((qa : Int) == (ra : Int)) = true ∧ ((qb : Int) == (rb : Int)) = true ∧ ((qc : Int) == (rc : Int)) = true ∧ ((qd : Int) == (rd : Int)) = false) := by
    by_cases h0 : o = 0
    · obtain ⟨h1, h2, h3, h4⟩ := hsame h0
      exact .inl ⟨beqT o 0 h0, beqT _ _ h1.symm, beqT _ _ h2.symm, beqT _ _ h3.symm, beqT _ _ h4.symm⟩
    · have h5 := hdiff h0
      by_cases h1 : qa = ra
      · by_cases h2 : qb = rb
        · by_cases h3 : qc = rc
          · exact .inr (.inr (.inr (.inr ⟨beqF o 0 h0, beqT _ _ h1, beqT _ _ h2, beqT _ _ h3, beqF _ _ (h5 h1 h2 h3)⟩)))
          · exact .inr (.inr (.inr (.inl ⟨beqF o 0 h0, beqT _ _ h1, beqT _ _ h2, beqF _ _ h3⟩)))
        · exact .inr (.inr (.inl ⟨beqF o 0 h0, beqT _ _ h1, beqF _ _ h2⟩))
      · exact .inr (.inl ⟨beqF o 0 h0, beqF _ _ h1⟩)
  clear hsame hdiff
  rcases go with ⟨g0, g1, g2, g3, g4⟩ | ⟨g0, g1⟩ | ⟨g0, g1, g2⟩ | ⟨g0, g1, g2, g3⟩ | ⟨g0, g1, g2, g3, g4⟩
  all_goals
    go_enter Try.func6, Try.ntmps6
    go_wp2_with (first
      | (go_at_call 8; refine (awake_any _).mono ?_; rintro e w1 ⟨rfl, hb1⟩)
      | (go_at_call 9; refine (q1.out _).mono ?_; clear q1; rintro e w2 ⟨rfl, hb2⟩)
      | (go_at_call 9; refine (q2.out _).mono ?_; clear q2; rintro e w3 ⟨rfl, hb3⟩)
      | fail)
    go_ret
    exact ⟨rfl, xtrans (xtrans hb1 hb2) hb3⟩
end Go.Proofs.Ytoehkegbmphlhaa.Ch
