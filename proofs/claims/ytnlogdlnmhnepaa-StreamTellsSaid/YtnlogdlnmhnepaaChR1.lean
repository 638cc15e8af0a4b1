/- The walk of the document's 'number'. -/
import Derived.Test.YtnlogdlnmhnepaaBlk
import Derived.Test.YtnlogdlnmhnepaaChPlain2
import Derived.Deep.QuietTactic
import Derived.BigQuiet
import Derived.WalkSmall
namespace Go.Proofs.Ytnlogdlnmhnepaa.Ch
set_option linter.unusedSimpArgs false
set_option linter.unusedVariables false
open Go.RowKit

set_option maxHeartbeats 1000000 in
theorem RefNumber_any (w : World) (b off cap x0 x1 x2 x3 : Nat) (h0 : w.cell? ⟨b, off, none⟩ = some (.int .u8 (x0 : Int))) (h1 : w.cell? ⟨b, off + 1, none⟩ = some (.int .u8 (x1 : Int))) (h2 : w.cell? ⟨b, off + 2, none⟩ = some (.int .u8 (x2 : Int))) (h3 : w.cell? ⟨b, off + 3, none⟩ = some (.int .u8 (x3 : Int)))
    (l0 : x0 < 256) (l1 : x1 < 256) (l2 : x2 < 256) (l3 : x3 < 256) :
    Calls Try.prog 18 #[.slice (some ⟨b, off, none⟩) 4 cap] w fun e w' => e = .returned (.int .u32 ((x0 + 256 * x1 + 65536 * x2 + 16777216 * x3 : Nat) : Int)) ∧ Below w.heap.size w w' := by
  rw [show ((x0 + 256 * x1 + 65536 * x2 + 16777216 * x3 : Nat) : Int) = (x0 : Int) + 256 * (x1 : Int) + 65536 * (x2 : Int) + 16777216 * (x3 : Int) from by omega]
  go_enter Try.func18, Try.ntmps18
  go_wp2_with fail
  have h0 : w.drew.cell? ⟨b, off, none⟩ = some (.int .u8 (x0 : Int)) := h0
  have h1 : w.drew.cell? ⟨b, off + 1, none⟩ = some (.int .u8 (x1 : Int)) := h1
  have h2 : w.drew.cell? ⟨b, off + 2, none⟩ = some (.int .u8 (x2 : Int)) := h2
  have h3 : w.drew.cell? ⟨b, off + 3, none⟩ = some (.int .u8 (x3 : Int)) := h3
  go_quiet (fail)
  go_wp2_with fail
  go_ret
  exact ⟨rfl, below_drewN (xrefl _) _⟩
end Go.Proofs.Ytnlogdlnmhnepaa.Ch
