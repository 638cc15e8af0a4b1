/- The walks of Check, and of the document's. -/
import Derived.Test.YtpcppnoomogloaaFrW1
set_option maxRecDepth 4000
namespace Go.Proofs.Ytpcppnoomogloaa.Fr
set_option linter.unusedSimpArgs false
set_option linter.unusedVariables false
open Go.RowKit

def Hd.v (h : Hd) : Value := .agg #[.int .i64 h.kind, .int .i64 h.lba, .int .i64 h.len, .int .i64 h.seq, .int .i64 h.epoch]
theorem okE_ok {h : Hd} (e : okH h = true) : okE h = 0 := by unfold okE; rw [e]; rfl
theorem okE_no {h : Hd} (e : okH h = false) : okE h = 110 := by unfold okE; rw [e]; rfl

set_option maxHeartbeats 4000000 in
theorem Check_any (w : World) (h : Hd) : Calls Try.prog 18 #[h.v] w fun e w' => e = .returned (.int .i64 ((okE h : Nat) : Int)) ∧ Below w.heap.size w w' := by
  obtain ⟨k, l, n, s, e⟩ := h
  show Calls Try.prog 18 #[.agg #[.int .i64 k, .int .i64 l, .int .i64 n, .int .i64 s, .int .i64 e]] w fun e' w' => e' = .returned (.int .i64 ((okE ⟨k, l, n, s, e⟩ : Nat) : Int)) ∧ Below w.heap.size w w'
  by_cases hk : k = 1
  · have hkd : decide (k = 1) = true := decide_eq_true hk
    have hkb : (k == 1) = true := by rw [beq_iff_eq]; exact hk
    have HKK := Lib.hid hk
    clear hk
    have hk := HKK.out
    by_cases h0 : 1 ≤ k ∧ k ≤ 3
    rotate_left
    · have hv := okE_no (h := ⟨k, l, n, s, e⟩) (by unfold okH; first | exact decide_eq_true (by dsimp only; omega) | exact decide_eq_false (by dsimp only; omega))
      rw [hv]
      have c0 := Lib.hid (fun W => within_any W k 1 3)
      rw [show decide (1 ≤ k ∧ k ≤ 3) = false from decide_eq_false (by omega)] at c0
      clear hv hk h0
      go_enter Try.func18, Try.ntmps18
      go_wp2_with (first
        | (go_at_call 39; with_reducible refine (c0.out _).mono ?_; rintro e0 w0 ⟨rfl, rfl⟩)
        | fail)
      go_ret
      exact ⟨rfl, xnew _ _⟩
    by_cases h1 : 0 ≤ l ∧ l ≤ 63
    rotate_left
    · have hv := okE_no (h := ⟨k, l, n, s, e⟩) (by unfold okH; first | exact decide_eq_true (by dsimp only; omega) | exact decide_eq_false (by dsimp only; omega))
      rw [hv]
      have c0 := Lib.hid (fun W => within_any W k 1 3)
      rw [show decide (1 ≤ k ∧ k ≤ 3) = true from decide_eq_true (by omega)] at c0
      have c1 := Lib.hid (fun W => within_any W l 0 63)
      rw [show decide (0 ≤ l ∧ l ≤ 63) = false from decide_eq_false (by omega)] at c1
      clear hv hk h0 h1
      go_enter Try.func18, Try.ntmps18
      go_wp2_with (first
        | (go_at_call 39; with_reducible refine (c0.out _).mono ?_; rintro e0 w0 ⟨rfl, rfl⟩)
        | (go_at_call 39; with_reducible refine (c1.out _).mono ?_; rintro e1 w1 ⟨rfl, rfl⟩)
        | fail)
      go_ret
      exact ⟨rfl, xnew _ _⟩
    by_cases h2 : 64 ≤ n ∧ n ≤ 64
    rotate_left
    · have hv := okE_no (h := ⟨k, l, n, s, e⟩) (by unfold okH; first | exact decide_eq_true (by dsimp only; omega) | exact decide_eq_false (by dsimp only; omega))
      rw [hv]
      have c0 := Lib.hid (fun W => within_any W k 1 3)
      rw [show decide (1 ≤ k ∧ k ≤ 3) = true from decide_eq_true (by omega)] at c0
      have c1 := Lib.hid (fun W => within_any W l 0 63)
      rw [show decide (0 ≤ l ∧ l ≤ 63) = true from decide_eq_true (by omega)] at c1
      have c2 := Lib.hid (fun W => within_any W n 64 64)
      rw [show decide (64 ≤ n ∧ n ≤ 64) = false from decide_eq_false (by omega)] at c2
      clear hv hk h0 h1 h2
      go_enter Try.func18, Try.ntmps18
      go_wp2_with (first
        | (go_at_call 39; with_reducible refine (c0.out _).mono ?_; rintro e0 w0 ⟨rfl, rfl⟩)
        | (go_at_call 39; with_reducible refine (c1.out _).mono ?_; rintro e1 w1 ⟨rfl, rfl⟩)
        | (go_at_call 39; with_reducible refine (c2.out _).mono ?_; rintro e2 w2 ⟨rfl, rfl⟩)
        | fail)
      go_ret
      exact ⟨rfl, xnew _ _⟩
    by_cases h3 : 0 ≤ s ∧ s ≤ 4611686018427387903
    rotate_left
    · have hv := okE_no (h := ⟨k, l, n, s, e⟩) (by unfold okH; first | exact decide_eq_true (by dsimp only; omega) | exact decide_eq_false (by dsimp only; omega))
      rw [hv]
      have c0 := Lib.hid (fun W => within_any W k 1 3)
      rw [show decide (1 ≤ k ∧ k ≤ 3) = true from decide_eq_true (by omega)] at c0
      have c1 := Lib.hid (fun W => within_any W l 0 63)
      rw [show decide (0 ≤ l ∧ l ≤ 63) = true from decide_eq_true (by omega)] at c1
      have c2 := Lib.hid (fun W => within_any W n 64 64)
      rw [show decide (64 ≤ n ∧ n ≤ 64) = true from decide_eq_true (by omega)] at c2
      have c3 := Lib.hid (fun W => within_any W s 0 4611686018427387903)
      rw [show decide (0 ≤ s ∧ s ≤ 4611686018427387903) = false from decide_eq_false (by omega)] at c3
      clear hv hk h0 h1 h2 h3
      go_enter Try.func18, Try.ntmps18
      go_wp2_with (first
        | (go_at_call 39; with_reducible refine (c0.out _).mono ?_; rintro e0 w0 ⟨rfl, rfl⟩)
        | (go_at_call 39; with_reducible refine (c1.out _).mono ?_; rintro e1 w1 ⟨rfl, rfl⟩)
        | (go_at_call 39; with_reducible refine (c2.out _).mono ?_; rintro e2 w2 ⟨rfl, rfl⟩)
        | (go_at_call 39; with_reducible refine (c3.out _).mono ?_; rintro e3 w3 ⟨rfl, rfl⟩)
        | fail)
      go_ret
      exact ⟨rfl, xnew _ _⟩
    by_cases h4 : 0 ≤ e ∧ e ≤ 4294967295
    rotate_left
    · have hv := okE_no (h := ⟨k, l, n, s, e⟩) (by unfold okH; first | exact decide_eq_true (by dsimp only; omega) | exact decide_eq_false (by dsimp only; omega))
      rw [hv]
      have c0 := Lib.hid (fun W => within_any W k 1 3)
      rw [show decide (1 ≤ k ∧ k ≤ 3) = true from decide_eq_true (by omega)] at c0
      have c1 := Lib.hid (fun W => within_any W l 0 63)
      rw [show decide (0 ≤ l ∧ l ≤ 63) = true from decide_eq_true (by omega)] at c1
      have c2 := Lib.hid (fun W => within_any W n 64 64)
      rw [show decide (64 ≤ n ∧ n ≤ 64) = true from decide_eq_true (by omega)] at c2
      have c3 := Lib.hid (fun W => within_any W s 0 4611686018427387903)
      rw [show decide (0 ≤ s ∧ s ≤ 4611686018427387903) = true from decide_eq_true (by omega)] at c3
      have c4 := Lib.hid (fun W => within_any W e 0 4294967295)
      rw [show decide (0 ≤ e ∧ e ≤ 4294967295) = false from decide_eq_false (by omega)] at c4
      clear hv hk h0 h1 h2 h3 h4
      go_enter Try.func18, Try.ntmps18
      go_wp2_with (first
        | (go_at_call 39; with_reducible refine (c0.out _).mono ?_; rintro e0 w0 ⟨rfl, rfl⟩)
        | (go_at_call 39; with_reducible refine (c1.out _).mono ?_; rintro e1 w1 ⟨rfl, rfl⟩)
        | (go_at_call 39; with_reducible refine (c2.out _).mono ?_; rintro e2 w2 ⟨rfl, rfl⟩)
        | (go_at_call 39; with_reducible refine (c3.out _).mono ?_; rintro e3 w3 ⟨rfl, rfl⟩)
        | (go_at_call 39; with_reducible refine (c4.out _).mono ?_; rintro e4 w4 ⟨rfl, rfl⟩)
        | fail)
      go_ret
      exact ⟨rfl, xnew _ _⟩
    have hv := okE_ok (h := ⟨k, l, n, s, e⟩) (by unfold okH; first | exact decide_eq_true (by dsimp only; omega) | exact decide_eq_false (by dsimp only; omega))
    rw [hv]
    have c0 := Lib.hid (fun W => within_any W k 1 3)
    rw [show decide (1 ≤ k ∧ k ≤ 3) = true from decide_eq_true (by omega)] at c0
    have c1 := Lib.hid (fun W => within_any W l 0 63)
    rw [show decide (0 ≤ l ∧ l ≤ 63) = true from decide_eq_true (by omega)] at c1
    have c2 := Lib.hid (fun W => within_any W n 64 64)
    rw [show decide (64 ≤ n ∧ n ≤ 64) = true from decide_eq_true (by omega)] at c2
    have c3 := Lib.hid (fun W => within_any W s 0 4611686018427387903)
    rw [show decide (0 ≤ s ∧ s ≤ 4611686018427387903) = true from decide_eq_true (by omega)] at c3
    have c4 := Lib.hid (fun W => within_any W e 0 4294967295)
    rw [show decide (0 ≤ e ∧ e ≤ 4294967295) = true from decide_eq_true (by omega)] at c4
    clear hv hk h0 h1 h2 h3 h4
    go_enter Try.func18, Try.ntmps18
    go_wp2_with (first
      | (go_at_call 39; with_reducible refine (c0.out _).mono ?_; rintro e0 w0 ⟨rfl, rfl⟩)
      | (go_at_call 39; with_reducible refine (c1.out _).mono ?_; rintro e1 w1 ⟨rfl, rfl⟩)
      | (go_at_call 39; with_reducible refine (c2.out _).mono ?_; rintro e2 w2 ⟨rfl, rfl⟩)
      | (go_at_call 39; with_reducible refine (c3.out _).mono ?_; rintro e3 w3 ⟨rfl, rfl⟩)
      | (go_at_call 39; with_reducible refine (c4.out _).mono ?_; rintro e4 w4 ⟨rfl, rfl⟩)
      | fail)
    go_ret
    exact ⟨rfl, xnew _ _⟩
  · have hkd : decide (k = 1) = false := decide_eq_false hk
    have hkb : (k == 1) = false := by rw [beq_eq_false_iff_ne]; exact hk
    by_cases h0 : 1 ≤ k ∧ k ≤ 3
    rotate_left
    · have hv := okE_no (h := ⟨k, l, n, s, e⟩) (by unfold okH; first | exact decide_eq_true (by dsimp only; omega) | exact decide_eq_false (by dsimp only; omega))
      rw [hv]
      have c0 := Lib.hid (fun W => within_any W k 1 3)
      rw [show decide (1 ≤ k ∧ k ≤ 3) = false from decide_eq_false (by omega)] at c0
      clear hv hk h0
      go_enter Try.func18, Try.ntmps18
      go_wp2_with (first
        | (go_at_call 39; with_reducible refine (c0.out _).mono ?_; rintro e0 w0 ⟨rfl, rfl⟩)
        | fail)
      go_ret
      exact ⟨rfl, xnew _ _⟩
    by_cases h1 : 0 ≤ l ∧ l ≤ 0
    rotate_left
    · have hv := okE_no (h := ⟨k, l, n, s, e⟩) (by unfold okH; first | exact decide_eq_true (by dsimp only; omega) | exact decide_eq_false (by dsimp only; omega))
      rw [hv]
      have c0 := Lib.hid (fun W => within_any W k 1 3)
      rw [show decide (1 ≤ k ∧ k ≤ 3) = true from decide_eq_true (by omega)] at c0
      have c1 := Lib.hid (fun W => within_any W l 0 0)
      rw [show decide (0 ≤ l ∧ l ≤ 0) = false from decide_eq_false (by omega)] at c1
      clear hv hk h0 h1
      go_enter Try.func18, Try.ntmps18
      go_wp2_with (first
        | (go_at_call 39; with_reducible refine (c0.out _).mono ?_; rintro e0 w0 ⟨rfl, rfl⟩)
        | (go_at_call 39; with_reducible refine (c1.out _).mono ?_; rintro e1 w1 ⟨rfl, rfl⟩)
        | fail)
      go_ret
      exact ⟨rfl, xnew _ _⟩
    by_cases h2 : 1 ≤ n ∧ n ≤ 4096
    rotate_left
    · have hv := okE_no (h := ⟨k, l, n, s, e⟩) (by unfold okH; first | exact decide_eq_true (by dsimp only; omega) | exact decide_eq_false (by dsimp only; omega))
      rw [hv]
      have c0 := Lib.hid (fun W => within_any W k 1 3)
      rw [show decide (1 ≤ k ∧ k ≤ 3) = true from decide_eq_true (by omega)] at c0
      have c1 := Lib.hid (fun W => within_any W l 0 0)
      rw [show decide (0 ≤ l ∧ l ≤ 0) = true from decide_eq_true (by omega)] at c1
      have c2 := Lib.hid (fun W => within_any W n 1 4096)
      rw [show decide (1 ≤ n ∧ n ≤ 4096) = false from decide_eq_false (by omega)] at c2
      clear hv hk h0 h1 h2
      go_enter Try.func18, Try.ntmps18
      go_wp2_with (first
        | (go_at_call 39; with_reducible refine (c0.out _).mono ?_; rintro e0 w0 ⟨rfl, rfl⟩)
        | (go_at_call 39; with_reducible refine (c1.out _).mono ?_; rintro e1 w1 ⟨rfl, rfl⟩)
        | (go_at_call 39; with_reducible refine (c2.out _).mono ?_; rintro e2 w2 ⟨rfl, rfl⟩)
        | fail)
      go_ret
      exact ⟨rfl, xnew _ _⟩
    by_cases h3 : 0 ≤ s ∧ s ≤ 4611686018427387903
    rotate_left
    · have hv := okE_no (h := ⟨k, l, n, s, e⟩) (by unfold okH; first | exact decide_eq_true (by dsimp only; omega) | exact decide_eq_false (by dsimp only; omega))
      rw [hv]
      have c0 := Lib.hid (fun W => within_any W k 1 3)
      rw [show decide (1 ≤ k ∧ k ≤ 3) = true from decide_eq_true (by omega)] at c0
      have c1 := Lib.hid (fun W => within_any W l 0 0)
      rw [show decide (0 ≤ l ∧ l ≤ 0) = true from decide_eq_true (by omega)] at c1
      have c2 := Lib.hid (fun W => within_any W n 1 4096)
      rw [show decide (1 ≤ n ∧ n ≤ 4096) = true from decide_eq_true (by omega)] at c2
      have c3 := Lib.hid (fun W => within_any W s 0 4611686018427387903)
      rw [show decide (0 ≤ s ∧ s ≤ 4611686018427387903) = false from decide_eq_false (by omega)] at c3
      clear hv hk h0 h1 h2 h3
      go_enter Try.func18, Try.ntmps18
      go_wp2_with (first
        | (go_at_call 39; with_reducible refine (c0.out _).mono ?_; rintro e0 w0 ⟨rfl, rfl⟩)
        | (go_at_call 39; with_reducible refine (c1.out _).mono ?_; rintro e1 w1 ⟨rfl, rfl⟩)
        | (go_at_call 39; with_reducible refine (c2.out _).mono ?_; rintro e2 w2 ⟨rfl, rfl⟩)
        | (go_at_call 39; with_reducible refine (c3.out _).mono ?_; rintro e3 w3 ⟨rfl, rfl⟩)
        | fail)
      go_ret
      exact ⟨rfl, xnew _ _⟩
    by_cases h4 : 0 ≤ e ∧ e ≤ 4294967295
    rotate_left
    · have hv := okE_no (h := ⟨k, l, n, s, e⟩) (by unfold okH; first | exact decide_eq_true (by dsimp only; omega) | exact decide_eq_false (by dsimp only; omega))
      rw [hv]
      have c0 := Lib.hid (fun W => within_any W k 1 3)
      rw [show decide (1 ≤ k ∧ k ≤ 3) = true from decide_eq_true (by omega)] at c0
      have c1 := Lib.hid (fun W => within_any W l 0 0)
      rw [show decide (0 ≤ l ∧ l ≤ 0) = true from decide_eq_true (by omega)] at c1
      have c2 := Lib.hid (fun W => within_any W n 1 4096)
      rw [show decide (1 ≤ n ∧ n ≤ 4096) = true from decide_eq_true (by omega)] at c2
      have c3 := Lib.hid (fun W => within_any W s 0 4611686018427387903)
      rw [show decide (0 ≤ s ∧ s ≤ 4611686018427387903) = true from decide_eq_true (by omega)] at c3
      have c4 := Lib.hid (fun W => within_any W e 0 4294967295)
      rw [show decide (0 ≤ e ∧ e ≤ 4294967295) = false from decide_eq_false (by omega)] at c4
      clear hv hk h0 h1 h2 h3 h4
      go_enter Try.func18, Try.ntmps18
      go_wp2_with (first
        | (go_at_call 39; with_reducible refine (c0.out _).mono ?_; rintro e0 w0 ⟨rfl, rfl⟩)
        | (go_at_call 39; with_reducible refine (c1.out _).mono ?_; rintro e1 w1 ⟨rfl, rfl⟩)
        | (go_at_call 39; with_reducible refine (c2.out _).mono ?_; rintro e2 w2 ⟨rfl, rfl⟩)
        | (go_at_call 39; with_reducible refine (c3.out _).mono ?_; rintro e3 w3 ⟨rfl, rfl⟩)
        | (go_at_call 39; with_reducible refine (c4.out _).mono ?_; rintro e4 w4 ⟨rfl, rfl⟩)
        | fail)
      go_ret
      exact ⟨rfl, xnew _ _⟩
    have hv := okE_ok (h := ⟨k, l, n, s, e⟩) (by unfold okH; first | exact decide_eq_true (by dsimp only; omega) | exact decide_eq_false (by dsimp only; omega))
    rw [hv]
    have c0 := Lib.hid (fun W => within_any W k 1 3)
    rw [show decide (1 ≤ k ∧ k ≤ 3) = true from decide_eq_true (by omega)] at c0
    have c1 := Lib.hid (fun W => within_any W l 0 0)
    rw [show decide (0 ≤ l ∧ l ≤ 0) = true from decide_eq_true (by omega)] at c1
    have c2 := Lib.hid (fun W => within_any W n 1 4096)
    rw [show decide (1 ≤ n ∧ n ≤ 4096) = true from decide_eq_true (by omega)] at c2
    have c3 := Lib.hid (fun W => within_any W s 0 4611686018427387903)
    rw [show decide (0 ≤ s ∧ s ≤ 4611686018427387903) = true from decide_eq_true (by omega)] at c3
    have c4 := Lib.hid (fun W => within_any W e 0 4294967295)
    rw [show decide (0 ≤ e ∧ e ≤ 4294967295) = true from decide_eq_true (by omega)] at c4
    clear hv hk h0 h1 h2 h3 h4
    go_enter Try.func18, Try.ntmps18
    go_wp2_with (first
      | (go_at_call 39; with_reducible refine (c0.out _).mono ?_; rintro e0 w0 ⟨rfl, rfl⟩)
      | (go_at_call 39; with_reducible refine (c1.out _).mono ?_; rintro e1 w1 ⟨rfl, rfl⟩)
      | (go_at_call 39; with_reducible refine (c2.out _).mono ?_; rintro e2 w2 ⟨rfl, rfl⟩)
      | (go_at_call 39; with_reducible refine (c3.out _).mono ?_; rintro e3 w3 ⟨rfl, rfl⟩)
      | (go_at_call 39; with_reducible refine (c4.out _).mono ?_; rintro e4 w4 ⟨rfl, rfl⟩)
      | fail)
    go_ret
    exact ⟨rfl, xnew _ _⟩

set_option maxHeartbeats 8000000 in
theorem rCheck_any (w : World) (h : Hd) : Calls Try.prog 19 #[h.v] w fun e w' => e = .returned (.int .i64 ((okE h : Nat) : Int)) ∧ Below w.heap.size w w' := by
  obtain ⟨k, l, n, s, e⟩ := h
  show Calls Try.prog 19 #[.agg #[.int .i64 k, .int .i64 l, .int .i64 n, .int .i64 s, .int .i64 e]] w fun e' w' => e' = .returned (.int .i64 ((okE ⟨k, l, n, s, e⟩ : Nat) : Int)) ∧ Below w.heap.size w w'
  go_enter Try.func19, Try.ntmps19
  go_upto_region 1 with fail
  go_cut [3] from 6 to 13 (fun x wx => x = .bool (decide (1 ≤ k ∧ k ≤ 3)) ∧ wx = w.alloc (.cells #[.int .i64 k, .int .i64 l, .int .i64 n, .int .i64 s, .int .i64 e] 23))
  case first =>
    by_cases h1 : 1 ≤ k
    · have d1a : decide (k ≥ 1) = true := by first | exact decide_eq_true (by omega) | exact decide_eq_false (by omega) | (rw [beq_iff_eq]; omega) | (rw [beq_eq_false_iff_ne]; omega) | (rw [bne_iff_ne]; omega) | (rw [bne_eq_false_iff_eq]; omega)
      by_cases h2 : k ≤ 3
      · have d2a : decide (k ≤ 3) = true := by first | exact decide_eq_true (by omega) | exact decide_eq_false (by omega) | (rw [beq_iff_eq]; omega) | (rw [beq_eq_false_iff_ne]; omega) | (rw [bne_iff_ne]; omega) | (rw [bne_eq_false_iff_eq]; omega)
        have DZ : Hid (decide (1 ≤ k ∧ k ≤ 3) = true) := Lib.hid (decide_eq_true (by omega))
        clear h1 h2
        go_wp2_with fail
        go_meet
        case rel => exact ⟨congrArg Value.bool DZ.out.symm, rfl⟩
      · have d2a : decide (k ≤ 3) = false := by first | exact decide_eq_true (by omega) | exact decide_eq_false (by omega) | (rw [beq_iff_eq]; omega) | (rw [beq_eq_false_iff_ne]; omega) | (rw [bne_iff_ne]; omega) | (rw [bne_eq_false_iff_eq]; omega)
        have DZ : Hid (decide (1 ≤ k ∧ k ≤ 3) = false) := Lib.hid (decide_eq_false (by omega))
        clear h1 h2
        go_wp2_with fail
        go_meet
        case rel => exact ⟨congrArg Value.bool DZ.out.symm, rfl⟩
    · have d1a : decide (k ≥ 1) = false := by first | exact decide_eq_true (by omega) | exact decide_eq_false (by omega) | (rw [beq_iff_eq]; omega) | (rw [beq_eq_false_iff_ne]; omega) | (rw [bne_iff_ne]; omega) | (rw [bne_eq_false_iff_eq]; omega)
      have DZ : Hid (decide (1 ≤ k ∧ k ≤ 3) = false) := Lib.hid (decide_eq_false (by omega))
      clear h1
      go_wp2_with fail
      go_meet
      case rel => exact ⟨congrArg Value.bool DZ.out.symm, rfl⟩
  case rest =>
    obtain ⟨rfl, rfl⟩ := hcut
    obtain ⟨b1, hb1⟩ : ∃ q : Bool, q = decide (1 ≤ k ∧ k ≤ 3) := ⟨_, rfl⟩
    rw [← hb1]
    have Hb1 := Lib.hid hb1
    clear hb1
    go_upto_region 2 with fail
    go_cut [4] from 14 to 31 (fun x wx => x = .bool (decide (0 ≤ l ∧ l ≤ 63 ∧ (k = 1 ∨ l = 0))) ∧ wx = w.alloc (.cells #[.int .i64 k, .int .i64 l, .int .i64 n, .int .i64 s, .int .i64 e] 23))
    case first =>
      by_cases h1 : 0 ≤ l
      · have d1a : decide (l ≥ 0) = true := by first | exact decide_eq_true (by omega) | exact decide_eq_false (by omega) | (rw [beq_iff_eq]; omega) | (rw [beq_eq_false_iff_ne]; omega) | (rw [bne_iff_ne]; omega) | (rw [bne_eq_false_iff_eq]; omega)
        by_cases h2 : l < 64
        · have d2a : decide (l < 64) = true := by first | exact decide_eq_true (by omega) | exact decide_eq_false (by omega) | (rw [beq_iff_eq]; omega) | (rw [beq_eq_false_iff_ne]; omega) | (rw [bne_iff_ne]; omega) | (rw [bne_eq_false_iff_eq]; omega)
          by_cases h3 : k = 1
          · have d3a : decide (k = 1) = true := by first | exact decide_eq_true (by omega) | exact decide_eq_false (by omega) | (rw [beq_iff_eq]; omega) | (rw [beq_eq_false_iff_ne]; omega) | (rw [bne_iff_ne]; omega) | (rw [bne_eq_false_iff_eq]; omega)
            have d3b : (k == 1) = true := by first | exact decide_eq_true (by omega) | exact decide_eq_false (by omega) | (rw [beq_iff_eq]; omega) | (rw [beq_eq_false_iff_ne]; omega) | (rw [bne_iff_ne]; omega) | (rw [bne_eq_false_iff_eq]; omega)
            have DZ : Hid (decide (0 ≤ l ∧ l ≤ 63 ∧ (k = 1 ∨ l = 0)) = true) := Lib.hid (decide_eq_true (by omega))
            clear h1 h2 h3
            go_wp2_with fail
            go_meet
            case rel => exact ⟨congrArg Value.bool DZ.out.symm, rfl⟩
          · have d3a : decide (k = 1) = false := by first | exact decide_eq_true (by omega) | exact decide_eq_false (by omega) | (rw [beq_iff_eq]; omega) | (rw [beq_eq_false_iff_ne]; omega) | (rw [bne_iff_ne]; omega) | (rw [bne_eq_false_iff_eq]; omega)
            have d3b : (k == 1) = false := by first | exact decide_eq_true (by omega) | exact decide_eq_false (by omega) | (rw [beq_iff_eq]; omega) | (rw [beq_eq_false_iff_ne]; omega) | (rw [bne_iff_ne]; omega) | (rw [bne_eq_false_iff_eq]; omega)
            by_cases h4 : l = 0
            · have d4a : decide (l = 0) = true := by first | exact decide_eq_true (by omega) | exact decide_eq_false (by omega) | (rw [beq_iff_eq]; omega) | (rw [beq_eq_false_iff_ne]; omega) | (rw [bne_iff_ne]; omega) | (rw [bne_eq_false_iff_eq]; omega)
              have d4b : (l == 0) = true := by first | exact decide_eq_true (by omega) | exact decide_eq_false (by omega) | (rw [beq_iff_eq]; omega) | (rw [beq_eq_false_iff_ne]; omega) | (rw [bne_iff_ne]; omega) | (rw [bne_eq_false_iff_eq]; omega)
              have DZ : Hid (decide (0 ≤ l ∧ l ≤ 63 ∧ (k = 1 ∨ l = 0)) = true) := Lib.hid (decide_eq_true (by omega))
              clear h1 h2 h3 h4
              go_wp2_with fail
              go_meet
              case rel => exact ⟨congrArg Value.bool DZ.out.symm, rfl⟩
            · have d4a : decide (l = 0) = false := by first | exact decide_eq_true (by omega) | exact decide_eq_false (by omega) | (rw [beq_iff_eq]; omega) | (rw [beq_eq_false_iff_ne]; omega) | (rw [bne_iff_ne]; omega) | (rw [bne_eq_false_iff_eq]; omega)
              have d4b : (l == 0) = false := by first | exact decide_eq_true (by omega) | exact decide_eq_false (by omega) | (rw [beq_iff_eq]; omega) | (rw [beq_eq_false_iff_ne]; omega) | (rw [bne_iff_ne]; omega) | (rw [bne_eq_false_iff_eq]; omega)
              have DZ : Hid (decide (0 ≤ l ∧ l ≤ 63 ∧ (k = 1 ∨ l = 0)) = false) := Lib.hid (decide_eq_false (by omega))
              clear h1 h2 h3 h4
              go_wp2_with fail
              go_meet
              case rel => exact ⟨congrArg Value.bool DZ.out.symm, rfl⟩
        · have d2a : decide (l < 64) = false := by first | exact decide_eq_true (by omega) | exact decide_eq_false (by omega) | (rw [beq_iff_eq]; omega) | (rw [beq_eq_false_iff_ne]; omega) | (rw [bne_iff_ne]; omega) | (rw [bne_eq_false_iff_eq]; omega)
          have DZ : Hid (decide (0 ≤ l ∧ l ≤ 63 ∧ (k = 1 ∨ l = 0)) = false) := Lib.hid (decide_eq_false (by omega))
          clear h1 h2
          go_wp2_with fail
          go_meet
          case rel => exact ⟨congrArg Value.bool DZ.out.symm, rfl⟩
      · have d1a : decide (l ≥ 0) = false := by first | exact decide_eq_true (by omega) | exact decide_eq_false (by omega) | (rw [beq_iff_eq]; omega) | (rw [beq_eq_false_iff_ne]; omega) | (rw [bne_iff_ne]; omega) | (rw [bne_eq_false_iff_eq]; omega)
        have DZ : Hid (decide (0 ≤ l ∧ l ≤ 63 ∧ (k = 1 ∨ l = 0)) = false) := Lib.hid (decide_eq_false (by omega))
        clear h1
        go_wp2_with fail
        go_meet
        case rel => exact ⟨congrArg Value.bool DZ.out.symm, rfl⟩
    case rest =>
      obtain ⟨rfl, rfl⟩ := hcut
      obtain ⟨b2, hb2⟩ : ∃ q : Bool, q = decide (0 ≤ l ∧ l ≤ 63 ∧ (k = 1 ∨ l = 0)) := ⟨_, rfl⟩
      rw [← hb2]
      have Hb2 := Lib.hid hb2
      clear hb2
      go_upto_region 3 with fail
      go_cut [5] from 32 to 49 (fun x wx => x = .bool (decide (1 ≤ n ∧ n ≤ 4096 ∧ (k ≠ 1 ∨ n = 64))) ∧ wx = w.alloc (.cells #[.int .i64 k, .int .i64 l, .int .i64 n, .int .i64 s, .int .i64 e] 23))
      case first =>
        by_cases h1 : 1 ≤ n
        · have d1a : decide (n ≥ 1) = true := by first | exact decide_eq_true (by omega) | exact decide_eq_false (by omega) | (rw [beq_iff_eq]; omega) | (rw [beq_eq_false_iff_ne]; omega) | (rw [bne_iff_ne]; omega) | (rw [bne_eq_false_iff_eq]; omega)
          by_cases h2 : n ≤ 4096
          · have d2a : decide (n ≤ 4096) = true := by first | exact decide_eq_true (by omega) | exact decide_eq_false (by omega) | (rw [beq_iff_eq]; omega) | (rw [beq_eq_false_iff_ne]; omega) | (rw [bne_iff_ne]; omega) | (rw [bne_eq_false_iff_eq]; omega)
            by_cases h3 : k = 1
            · have d3a : (k != 1) = false := by first | exact decide_eq_true (by omega) | exact decide_eq_false (by omega) | (rw [beq_iff_eq]; omega) | (rw [beq_eq_false_iff_ne]; omega) | (rw [bne_iff_ne]; omega) | (rw [bne_eq_false_iff_eq]; omega)
              by_cases h4 : n = 64
              · have d4a : decide (n = 64) = true := by first | exact decide_eq_true (by omega) | exact decide_eq_false (by omega) | (rw [beq_iff_eq]; omega) | (rw [beq_eq_false_iff_ne]; omega) | (rw [bne_iff_ne]; omega) | (rw [bne_eq_false_iff_eq]; omega)
                have d4b : (n == 64) = true := by first | exact decide_eq_true (by omega) | exact decide_eq_false (by omega) | (rw [beq_iff_eq]; omega) | (rw [beq_eq_false_iff_ne]; omega) | (rw [bne_iff_ne]; omega) | (rw [bne_eq_false_iff_eq]; omega)
                have DZ : Hid (decide (1 ≤ n ∧ n ≤ 4096 ∧ (k ≠ 1 ∨ n = 64)) = true) := Lib.hid (decide_eq_true (by omega))
                clear h1 h2 h3 h4
                go_wp2_with fail
                go_meet
                case rel => exact ⟨congrArg Value.bool DZ.out.symm, rfl⟩
              · have d4a : decide (n = 64) = false := by first | exact decide_eq_true (by omega) | exact decide_eq_false (by omega) | (rw [beq_iff_eq]; omega) | (rw [beq_eq_false_iff_ne]; omega) | (rw [bne_iff_ne]; omega) | (rw [bne_eq_false_iff_eq]; omega)
                have d4b : (n == 64) = false := by first | exact decide_eq_true (by omega) | exact decide_eq_false (by omega) | (rw [beq_iff_eq]; omega) | (rw [beq_eq_false_iff_ne]; omega) | (rw [bne_iff_ne]; omega) | (rw [bne_eq_false_iff_eq]; omega)
                have DZ : Hid (decide (1 ≤ n ∧ n ≤ 4096 ∧ (k ≠ 1 ∨ n = 64)) = false) := Lib.hid (decide_eq_false (by omega))
                clear h1 h2 h3 h4
                go_wp2_with fail
                go_meet
                case rel => exact ⟨congrArg Value.bool DZ.out.symm, rfl⟩
            · have d3a : (k != 1) = true := by first | exact decide_eq_true (by omega) | exact decide_eq_false (by omega) | (rw [beq_iff_eq]; omega) | (rw [beq_eq_false_iff_ne]; omega) | (rw [bne_iff_ne]; omega) | (rw [bne_eq_false_iff_eq]; omega)
              have DZ : Hid (decide (1 ≤ n ∧ n ≤ 4096 ∧ (k ≠ 1 ∨ n = 64)) = true) := Lib.hid (decide_eq_true (by omega))
              clear h1 h2 h3
              go_wp2_with fail
              go_meet
              case rel => exact ⟨congrArg Value.bool DZ.out.symm, rfl⟩
          · have d2a : decide (n ≤ 4096) = false := by first | exact decide_eq_true (by omega) | exact decide_eq_false (by omega) | (rw [beq_iff_eq]; omega) | (rw [beq_eq_false_iff_ne]; omega) | (rw [bne_iff_ne]; omega) | (rw [bne_eq_false_iff_eq]; omega)
            have DZ : Hid (decide (1 ≤ n ∧ n ≤ 4096 ∧ (k ≠ 1 ∨ n = 64)) = false) := Lib.hid (decide_eq_false (by omega))
            clear h1 h2
            go_wp2_with fail
            go_meet
            case rel => exact ⟨congrArg Value.bool DZ.out.symm, rfl⟩
        · have d1a : decide (n ≥ 1) = false := by first | exact decide_eq_true (by omega) | exact decide_eq_false (by omega) | (rw [beq_iff_eq]; omega) | (rw [beq_eq_false_iff_ne]; omega) | (rw [bne_iff_ne]; omega) | (rw [bne_eq_false_iff_eq]; omega)
          have DZ : Hid (decide (1 ≤ n ∧ n ≤ 4096 ∧ (k ≠ 1 ∨ n = 64)) = false) := Lib.hid (decide_eq_false (by omega))
          clear h1
          go_wp2_with fail
          go_meet
          case rel => exact ⟨congrArg Value.bool DZ.out.symm, rfl⟩
      case rest =>
        obtain ⟨rfl, rfl⟩ := hcut
        obtain ⟨b3, hb3⟩ : ∃ q : Bool, q = decide (1 ≤ n ∧ n ≤ 4096 ∧ (k ≠ 1 ∨ n = 64)) := ⟨_, rfl⟩
        rw [← hb3]
        have Hb3 := Lib.hid hb3
        clear hb3
        by_cases h1 : 1 ≤ k ∧ k ≤ 3
        · obtain rfl : b1 = true := by rw [Hb1.out]; first | exact decide_eq_true (by omega) | exact decide_eq_false (by omega)
          by_cases h2 : 0 ≤ l ∧ l ≤ 63 ∧ (k = 1 ∨ l = 0)
          · obtain rfl : b2 = true := by rw [Hb2.out]; first | exact decide_eq_true (by omega) | exact decide_eq_false (by omega)
            by_cases h3 : 1 ≤ n ∧ n ≤ 4096 ∧ (k ≠ 1 ∨ n = 64)
            · obtain rfl : b3 = true := by rw [Hb3.out]; first | exact decide_eq_true (by omega) | exact decide_eq_false (by omega)
              by_cases h4 : s < 0
              · have d4a : decide (s < 0) = true := by first | exact decide_eq_true (by omega) | exact decide_eq_false (by omega) | (rw [beq_iff_eq]; omega) | (rw [beq_eq_false_iff_ne]; omega) | (rw [bne_iff_ne]; omega) | (rw [bne_eq_false_iff_eq]; omega)
                have HV := Lib.hid (okE_no (h := ⟨k, l, n, s, e⟩) (by unfold okH; first | exact decide_eq_true (by dsimp only; omega) | exact decide_eq_false (by dsimp only; omega)))
                clear h1 h2 h3 h4
                go_wp2_with fail
                go_ret
                exact ⟨by rw [HV.out]; rfl, xnew _ _⟩
              · have d4a : decide (s < 0) = false := by first | exact decide_eq_true (by omega) | exact decide_eq_false (by omega) | (rw [beq_iff_eq]; omega) | (rw [beq_eq_false_iff_ne]; omega) | (rw [bne_iff_ne]; omega) | (rw [bne_eq_false_iff_eq]; omega)
                by_cases h5 : s ≥ 4611686018427387904
                · have d5a : decide (s ≥ 4611686018427387904) = true := by first | exact decide_eq_true (by omega) | exact decide_eq_false (by omega) | (rw [beq_iff_eq]; omega) | (rw [beq_eq_false_iff_ne]; omega) | (rw [bne_iff_ne]; omega) | (rw [bne_eq_false_iff_eq]; omega)
                  have HV := Lib.hid (okE_no (h := ⟨k, l, n, s, e⟩) (by unfold okH; first | exact decide_eq_true (by dsimp only; omega) | exact decide_eq_false (by dsimp only; omega)))
                  clear h1 h2 h3 h4 h5
                  go_wp2_with fail
                  go_ret
                  exact ⟨by rw [HV.out]; rfl, xnew _ _⟩
                · have d5a : decide (s ≥ 4611686018427387904) = false := by first | exact decide_eq_true (by omega) | exact decide_eq_false (by omega) | (rw [beq_iff_eq]; omega) | (rw [beq_eq_false_iff_ne]; omega) | (rw [bne_iff_ne]; omega) | (rw [bne_eq_false_iff_eq]; omega)
                  by_cases h6 : e < 0
                  · have d6a : decide (e < 0) = true := by first | exact decide_eq_true (by omega) | exact decide_eq_false (by omega) | (rw [beq_iff_eq]; omega) | (rw [beq_eq_false_iff_ne]; omega) | (rw [bne_iff_ne]; omega) | (rw [bne_eq_false_iff_eq]; omega)
                    have HV := Lib.hid (okE_no (h := ⟨k, l, n, s, e⟩) (by unfold okH; first | exact decide_eq_true (by dsimp only; omega) | exact decide_eq_false (by dsimp only; omega)))
                    clear h1 h2 h3 h4 h5 h6
                    go_wp2_with fail
                    go_ret
                    exact ⟨by rw [HV.out]; rfl, xnew _ _⟩
                  · have d6a : decide (e < 0) = false := by first | exact decide_eq_true (by omega) | exact decide_eq_false (by omega) | (rw [beq_iff_eq]; omega) | (rw [beq_eq_false_iff_ne]; omega) | (rw [bne_iff_ne]; omega) | (rw [bne_eq_false_iff_eq]; omega)
                    by_cases h7 : e ≥ 4294967296
                    · have d7a : decide (e ≥ 4294967296) = true := by first | exact decide_eq_true (by omega) | exact decide_eq_false (by omega) | (rw [beq_iff_eq]; omega) | (rw [beq_eq_false_iff_ne]; omega) | (rw [bne_iff_ne]; omega) | (rw [bne_eq_false_iff_eq]; omega)
                      have HV := Lib.hid (okE_no (h := ⟨k, l, n, s, e⟩) (by unfold okH; first | exact decide_eq_true (by dsimp only; omega) | exact decide_eq_false (by dsimp only; omega)))
                      clear h1 h2 h3 h4 h5 h6 h7
                      go_wp2_with fail
                      go_ret
                      exact ⟨by rw [HV.out]; rfl, xnew _ _⟩
                    · have d7a : decide (e ≥ 4294967296) = false := by first | exact decide_eq_true (by omega) | exact decide_eq_false (by omega) | (rw [beq_iff_eq]; omega) | (rw [beq_eq_false_iff_ne]; omega) | (rw [bne_iff_ne]; omega) | (rw [bne_eq_false_iff_eq]; omega)
                      have HV := Lib.hid (okE_ok (h := ⟨k, l, n, s, e⟩) (by unfold okH; first | exact decide_eq_true (by dsimp only; omega) | exact decide_eq_false (by dsimp only; omega)))
                      clear h1 h2 h3 h4 h5 h6 h7
                      go_wp2_with fail
                      go_ret
                      exact ⟨by rw [HV.out]; rfl, xnew _ _⟩
            · obtain rfl : b3 = false := by rw [Hb3.out]; first | exact decide_eq_true (by omega) | exact decide_eq_false (by omega)
              have HV := Lib.hid (okE_no (h := ⟨k, l, n, s, e⟩) (by unfold okH; first | exact decide_eq_true (by dsimp only; omega) | exact decide_eq_false (by dsimp only; omega)))
              clear h1 h2 h3
              go_wp2_with fail
              go_ret
              exact ⟨by rw [HV.out]; rfl, xnew _ _⟩
          · obtain rfl : b2 = false := by rw [Hb2.out]; first | exact decide_eq_true (by omega) | exact decide_eq_false (by omega)
            have HV := Lib.hid (okE_no (h := ⟨k, l, n, s, e⟩) (by unfold okH; first | exact decide_eq_true (by dsimp only; omega) | exact decide_eq_false (by dsimp only; omega)))
            clear h1 h2
            go_wp2_with fail
            go_ret
            exact ⟨by rw [HV.out]; rfl, xnew _ _⟩
        · obtain rfl : b1 = false := by rw [Hb1.out]; first | exact decide_eq_true (by omega) | exact decide_eq_false (by omega)
          have HV := Lib.hid (okE_no (h := ⟨k, l, n, s, e⟩) (by unfold okH; first | exact decide_eq_true (by dsimp only; omega) | exact decide_eq_false (by dsimp only; omega)))
          clear h1
          go_wp2_with fail
          go_ret
          exact ⟨by rw [HV.out]; rfl, xnew _ _⟩
end Go.Proofs.Ytpcppnoomogloaa.Fr
