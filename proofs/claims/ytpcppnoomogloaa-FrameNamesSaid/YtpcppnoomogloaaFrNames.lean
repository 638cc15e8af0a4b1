/- The walk of the statement FrameNames. -/
import Derived.Test.YtpcppnoomogloaaFrA
set_option maxRecDepth 4000
namespace Go.Proofs.Ytpcppnoomogloaa.Fr
set_option linter.unusedSimpArgs false
set_option linter.unusedVariables false
open Go.RowKit

theorem names_walk (w : World) : Calls Try.prog 5 #[] w fun e w' => e = .returned (.bool true) ∧ Below w.heap.size w w' := by
  go_enter Try.func5, Try.ntmps5
  go_wp2_with (first
    | (go_at_call 11; refine (awake_any _).mono ?_; rintro e1 w1 ⟨rfl, b1⟩)
    | fail)
  go_ret
  exact ⟨rfl, b1⟩
end Go.Proofs.Ytpcppnoomogloaa.Fr
