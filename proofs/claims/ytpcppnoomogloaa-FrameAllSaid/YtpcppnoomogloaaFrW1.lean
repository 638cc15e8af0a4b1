/- The walks of a frame's small functions: bytes.HasPrefix, within, sizes, Size, Check, and the document's. -/
import Derived.Test.YtpcppnoomogloaaFxW2
import Derived.Test.YtpcppnoomogloaaAdW3
import Derived.Test.YtpcppnoomogloaaFnd
import Derived.Deep.DeepCutAuto
set_option maxRecDepth 4000
namespace Go.Proofs.Ytpcppnoomogloaa.Fr
set_option linter.unusedSimpArgs false
set_option linter.unusedVariables false
open Go.RowKit

theorem Equal_any (w : World) (a : Option Addr) (la ca : Nat) (xa : List Nat) (b : Option Addr) (lb cb : Nat) (xb : List Nat) (ha : Row8 w a la ca xa) (hb : Row8 w b lb cb xb) :
    Calls Try.prog 49 #[.slice a la ca, .slice b lb cb] w fun e w' => e = .returned (.bool (decide (xa = xb))) ∧ w = w' := by
  have u8 := Try.underlying5
  have us := Try.underlying25
  have ut := Try.underlying9
  have h1 := run_str us u8 ut ha
  have h2 := run_str us u8 ut hb
  have h3 := strB_beq ha.2.2.2.1 hb.2.2.2.1
  clear ha hb u8 us ut
  generalize strB xa = sa at h1 h3
  generalize strB xb = sb at h2 h3
  go_enter Try.func49, Try.ntmps49
  go_wp2_with fail
  go_ret
  exact ⟨by first | rw [h3] | rfl, rfl⟩
theorem HasPrefix_any (w : World) (a : Option Addr) (la ca : Nat) (xa : List Nat) (b : Option Addr) (lb cb : Nat) (xb : List Nat) (ha : RdB w a la ca xa) (hb : RdB w b lb cb xb) (hl : lb ≤ la) :
    Calls Try.prog 34 #[.slice a la ca, .slice b lb cb] w fun e w' => e = .returned (.bool (decide (xa.take lb = xb))) ∧ w = w' := by
  have hge : decide ((la : Int) ≥ (lb : Int)) = true := decide_eq_true (by omega)
  have hlc : (lb : Int) ≤ (ca : Int) := by have := ha.2.2.1; omega
  have hcm : ca ≤ 9223372036854775807 := ha.2.2.2.1
  have hlbm : lb ≤ 1000000000 := by have := ha.1; omega
  have ra := (rdb_take ha lb hl).2
  have rb := hb.2
  clear ha hb
  go_enter Try.func34, Try.ntmps34
  go_wp2_with (first
    | (go_at_call 49; refine (Equal_any _ _ _ _ _ _ _ _ _ ra rb).mono ?_; rintro e w1 ⟨rfl, rfl⟩)
    | fail)
  go_ret
  exact ⟨rfl, rfl⟩
theorem within_any (w : World) (n low high : Int) : Calls Try.prog 39 #[.int .i64 n, .int .i64 low, .int .i64 high] w fun e w' => e = .returned (.bool (decide (low ≤ n ∧ n ≤ high))) ∧ w = w' := by
  by_cases h1 : n ≥ low
  · have d1 : decide (n ≥ low) = true := decide_eq_true h1
    have e : decide (low ≤ n ∧ n ≤ high) = decide (n ≤ high) := by rw [decide_eq_decide]; omega
    rw [e]
    clear h1 e
    go_enter Try.func39, Try.ntmps39
    go_wp2_with fail
    go_ret
    exact ⟨rfl, rfl⟩
  · have d1 : decide (n ≥ low) = false := decide_eq_false h1
    have e : decide (low ≤ n ∧ n ≤ high) = false := by rw [decide_eq_false_iff_not]; omega
    rw [e]
    clear h1 e
    go_enter Try.func39, Try.ntmps39
    go_wp2_with fail
    go_ret
    exact ⟨rfl, rfl⟩
theorem sizes_any (w : World) : Calls Try.prog 30 #[] w fun e w' => e = .returned (.slice (some ⟨w.heap.size, 0, none⟩) 6 6) ∧ Blk w' w.heap.size 3 .i64 sizes6 ∧ Below w.heap.size w w' := by
  go_enter Try.func30, Try.ntmps30
  go_wp2_with fail
  go_ret
  exact ⟨rfl, Blk.new w _ .i64 sizes6 _ rfl, xnew _ _⟩
theorem Size_any (w : World) (n : Int) : Calls Try.prog 20 #[.int .i64 n] w fun e w' => e = .returned (.int .i64 (sizeF n)) ∧ w = w' := by
  unfold sizeF
  by_cases h : 1 ≤ n ∧ n ≤ 4096
  · have hd : decide (1 ≤ n ∧ n ≤ 4096) = true := decide_eq_true h
    rw [if_pos h]
    obtain ⟨h1, h2⟩ := h
    have cW := Lib.hid (fun W => within_any W n 1 4096)
    rw [hd] at cW
    clear hd
    go_enter Try.func20, Try.ntmps20
    go_wp2_with (first
      | (go_at_call 39; refine (cW.out _).mono ?_; rintro e w1 ⟨rfl, rfl⟩)
      | fail)
    go_ret
    exact ⟨Ad.ret_int (by omega), rfl⟩
  · have hd : decide (1 ≤ n ∧ n ≤ 4096) = false := decide_eq_false h
    rw [if_neg h]
    have cW := Lib.hid (fun W => within_any W n 1 4096)
    rw [hd] at cW
    clear hd h
    go_enter Try.func20, Try.ntmps20
    go_wp2_with (first
      | (go_at_call 39; refine (cW.out _).mono ?_; rintro e w1 ⟨rfl, rfl⟩)
      | fail)
    go_ret
    exact ⟨rfl, rfl⟩
theorem rSizeF_any (w : World) (n : Int) : Calls Try.prog 21 #[.int .i64 n] w fun e w' => e = .returned (.int .i64 (sizeF n)) ∧ w = w' := by
  unfold sizeF
  by_cases h1 : n < 1
  · have d1 : decide (n < 1) = true := decide_eq_true h1
    rw [if_neg (by omega)]
    clear h1
    go_enter Try.func21, Try.ntmps21
    go_wp2_with fail
    go_ret
    exact ⟨rfl, rfl⟩
  · have d1 : decide (n < 1) = false := decide_eq_false h1
    by_cases h2 : n > 4096
    · have d2 : decide (n > 4096) = true := decide_eq_true h2
      rw [if_neg (by omega)]
      clear h1 h2
      go_enter Try.func21, Try.ntmps21
      go_wp2_with fail
      go_ret
      exact ⟨rfl, rfl⟩
    · have d2 : decide (n > 4096) = false := decide_eq_false h2
      rw [if_pos (by omega)]
      have h3 : 1 ≤ n := by omega
      have h4 : n ≤ 4096 := by omega
      clear h1 h2
      go_enter Try.func21, Try.ntmps21
      go_wp2_with fail
      go_ret
      exact ⟨rfl, rfl⟩
end Go.Proofs.Ytpcppnoomogloaa.Fr
