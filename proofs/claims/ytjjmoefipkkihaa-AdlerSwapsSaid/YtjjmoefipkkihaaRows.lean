/-
  No cell of these rows narrows 'for every input' (looked for: loops, veiled, ifaces, maps, wideKeys, modest, calm, conditions, laid).
  DERIVED. THE GIVEN ROWS OF THIS SEAT. 7 by the template 'for every input the law returns true; each argument reads behind the call as it read before'; 0 by the template 'total and deterministic' (their statements: YtjjmoefipkkihaaTotals.lean).
  GIVEN WITH THE SEED: the statements are not yours to turn. If you find one false, say at which input.
  Laid BY PROGRAM, IN A SANDBOX (cutbox-rows.mjs): the forced cells as the released guide's own fill.sh prints them over the translation 1730bcd2d6b1dc27… (all of the seat's roots in one cut). By AI agents, Wed Nov 11 2026. No macro, syntax, notation, axiom, sorry.
-/
import Derived.Test.YtjjmoefipkkihaaChecked
import GoSem.Claim
import GoSem.ClaimJoined
import GoSem.ClaimMapViews
import Derived.JoinedTies
import Derived.KernelRfl
namespace Go.Proofs.Ytjjmoefipkkihaa
/- THE CELL 'sum', in the pinned program and in every row, IS THE sha256 OF THE DUMP (.gsa) THAT YtjjmoefipkkihaaProg.lean LOADS. Nothing in Lean hashes anything: it is a label: what it is worth is what the hold of that sum in a sandbox is worth. -/
noncomputable def Try.pinned : Pinned := { name := "ytjjmoefipkkihaa", sum := "1730bcd2d6b1dc2747d3d051419691caae0dd5f7c9fe65504be45f7009b8cd15", checked := Try.checked }
namespace Rows
def none {H : Type} : Left H := { results := [], args := [] }

/-- 'quicklimelaw03.AdlerTells': WHATEVER THE INPUT: true; the input reads as it did. -/
def adlerTellsSpec : ChangeSpec := { name := "adlerTells", fn := fun _ => fun
  | [d1, d2, d3, d4] => { results := [.lit (.bool true)], args := [d1, d2, d3, d4] }
  | _ => none }
def adlerTellsRow : OpenClaim := { program := "ytjjmoefipkkihaa", sum := "1730bcd2d6b1dc2747d3d051419691caae0dd5f7c9fe65504be45f7009b8cd15", func := "quicklime/quicklimelaw03.AdlerTells", spec := "adlerTells", unfollowed := true, recurses := true, apart := false }
def AdlerTellsSaid : Prop := adlerTellsRow.holds Try.pinned (OpenSpec.ofChange adlerTellsSpec)

/-- ITS FALSE NEIGHBOUR: 'it returns false'. Refute it at one input. -/
def adlerTellsWrong : ChangeSpec := { name := "adlerTells", fn := fun _ => fun
  | [d1, d2, d3, d4] => { results := [.lit (.bool false)], args := [d1, d2, d3, d4] }
  | _ => none }
def AdlerTellsWrongFalsely : Prop := adlerTellsRow.holds Try.pinned (OpenSpec.ofChange adlerTellsWrong)

/-- 'quicklimelaw03.AdlerGoes': WHATEVER THE INPUT: true; the input reads as it did. -/
def adlerGoesSpec : ChangeSpec := { name := "adlerGoes", fn := fun _ => fun
  | [d1, d2, d3] => { results := [.lit (.bool true)], args := [d1, d2, d3] }
  | _ => none }
def adlerGoesRow : OpenClaim := { program := "ytjjmoefipkkihaa", sum := "1730bcd2d6b1dc2747d3d051419691caae0dd5f7c9fe65504be45f7009b8cd15", func := "quicklime/quicklimelaw03.AdlerGoes", spec := "adlerGoes", unfollowed := true, recurses := true, apart := false }
def AdlerGoesSaid : Prop := adlerGoesRow.holds Try.pinned (OpenSpec.ofChange adlerGoesSpec)

/-- ITS FALSE NEIGHBOUR: 'it returns false'. Refute it at one input. -/
def adlerGoesWrong : ChangeSpec := { name := "adlerGoes", fn := fun _ => fun
  | [d1, d2, d3] => { results := [.lit (.bool false)], args := [d1, d2, d3] }
  | _ => none }
def AdlerGoesWrongFalsely : Prop := adlerGoesRow.holds Try.pinned (OpenSpec.ofChange adlerGoesWrong)

/-- 'quicklimelaw03.AdlerTurns': WHATEVER THE INPUT: true; the input reads as it did. -/
def adlerTurnsSpec : ChangeSpec := { name := "adlerTurns", fn := fun _ => fun
  | [d1, d2, d3] => { results := [.lit (.bool true)], args := [d1, d2, d3] }
  | _ => none }
def adlerTurnsRow : OpenClaim := { program := "ytjjmoefipkkihaa", sum := "1730bcd2d6b1dc2747d3d051419691caae0dd5f7c9fe65504be45f7009b8cd15", func := "quicklime/quicklimelaw03.AdlerTurns", spec := "adlerTurns", unfollowed := true, recurses := true, apart := false }
def AdlerTurnsSaid : Prop := adlerTurnsRow.holds Try.pinned (OpenSpec.ofChange adlerTurnsSpec)

/-- ITS FALSE NEIGHBOUR: 'it returns false'. Refute it at one input. -/
def adlerTurnsWrong : ChangeSpec := { name := "adlerTurns", fn := fun _ => fun
  | [d1, d2, d3] => { results := [.lit (.bool false)], args := [d1, d2, d3] }
  | _ => none }
def AdlerTurnsWrongFalsely : Prop := adlerTurnsRow.holds Try.pinned (OpenSpec.ofChange adlerTurnsWrong)

/-- 'quicklimelaw03.AdlerEmpty': WHATEVER THE INPUT: true; the input reads as it did. -/
def adlerEmptySpec : ChangeSpec := { name := "adlerEmpty", fn := fun _ => fun
  | [d1, d2, d3, d4] => { results := [.lit (.bool true)], args := [d1, d2, d3, d4] }
  | _ => none }
def adlerEmptyRow : OpenClaim := { program := "ytjjmoefipkkihaa", sum := "1730bcd2d6b1dc2747d3d051419691caae0dd5f7c9fe65504be45f7009b8cd15", func := "quicklime/quicklimelaw03.AdlerEmpty", spec := "adlerEmpty", unfollowed := true, recurses := true, apart := false }
def AdlerEmptySaid : Prop := adlerEmptyRow.holds Try.pinned (OpenSpec.ofChange adlerEmptySpec)

/-- ITS FALSE NEIGHBOUR: 'it returns false'. Refute it at one input. -/
def adlerEmptyWrong : ChangeSpec := { name := "adlerEmpty", fn := fun _ => fun
  | [d1, d2, d3, d4] => { results := [.lit (.bool false)], args := [d1, d2, d3, d4] }
  | _ => none }
def AdlerEmptyWrongFalsely : Prop := adlerEmptyRow.holds Try.pinned (OpenSpec.ofChange adlerEmptyWrong)

/-- 'quicklimelaw03.AdlerAdds': WHATEVER THE INPUT: true; the input reads as it did. -/
def adlerAddsSpec : ChangeSpec := { name := "adlerAdds", fn := fun _ => fun
  | [d] => { results := [.lit (.bool true)], args := [d] }
  | _ => none }
def adlerAddsRow : OpenClaim := { program := "ytjjmoefipkkihaa", sum := "1730bcd2d6b1dc2747d3d051419691caae0dd5f7c9fe65504be45f7009b8cd15", func := "quicklime/quicklimelaw03.AdlerAdds", spec := "adlerAdds", unfollowed := true, recurses := true, apart := false }
def AdlerAddsSaid : Prop := adlerAddsRow.holds Try.pinned (OpenSpec.ofChange adlerAddsSpec)

/-- ITS FALSE NEIGHBOUR: 'it returns false'. Refute it at one input. -/
def adlerAddsWrong : ChangeSpec := { name := "adlerAdds", fn := fun _ => fun
  | [d] => { results := [.lit (.bool false)], args := [d] }
  | _ => none }
def AdlerAddsWrongFalsely : Prop := adlerAddsRow.holds Try.pinned (OpenSpec.ofChange adlerAddsWrong)

/-- 'quicklimelaw03.AdlerNoughts': WHATEVER THE INPUT: true; the input reads as it did. -/
def adlerNoughtsSpec : ChangeSpec := { name := "adlerNoughts", fn := fun _ => fun
  | [d1, d2] => { results := [.lit (.bool true)], args := [d1, d2] }
  | _ => none }
def adlerNoughtsRow : OpenClaim := { program := "ytjjmoefipkkihaa", sum := "1730bcd2d6b1dc2747d3d051419691caae0dd5f7c9fe65504be45f7009b8cd15", func := "quicklime/quicklimelaw03.AdlerNoughts", spec := "adlerNoughts", unfollowed := true, recurses := true, apart := false }
def AdlerNoughtsSaid : Prop := adlerNoughtsRow.holds Try.pinned (OpenSpec.ofChange adlerNoughtsSpec)

/-- ITS FALSE NEIGHBOUR: 'it returns false'. Refute it at one input. -/
def adlerNoughtsWrong : ChangeSpec := { name := "adlerNoughts", fn := fun _ => fun
  | [d1, d2] => { results := [.lit (.bool false)], args := [d1, d2] }
  | _ => none }
def AdlerNoughtsWrongFalsely : Prop := adlerNoughtsRow.holds Try.pinned (OpenSpec.ofChange adlerNoughtsWrong)

/-- 'quicklimelaw03.AdlerSwaps': WHATEVER THE INPUT: true; the input reads as it did. -/
def adlerSwapsSpec : ChangeSpec := { name := "adlerSwaps", fn := fun _ => fun
  | [d1, d2] => { results := [.lit (.bool true)], args := [d1, d2] }
  | _ => none }
def adlerSwapsRow : OpenClaim := { program := "ytjjmoefipkkihaa", sum := "1730bcd2d6b1dc2747d3d051419691caae0dd5f7c9fe65504be45f7009b8cd15", func := "quicklime/quicklimelaw03.AdlerSwaps", spec := "adlerSwaps", unfollowed := true, recurses := true, apart := false }
def AdlerSwapsSaid : Prop := adlerSwapsRow.holds Try.pinned (OpenSpec.ofChange adlerSwapsSpec)

/-- ITS FALSE NEIGHBOUR: 'it returns false'. Refute it at one input. -/
def adlerSwapsWrong : ChangeSpec := { name := "adlerSwaps", fn := fun _ => fun
  | [d1, d2] => { results := [.lit (.bool false)], args := [d1, d2] }
  | _ => none }
def AdlerSwapsWrongFalsely : Prop := adlerSwapsRow.holds Try.pinned (OpenSpec.ofChange adlerSwapsWrong)

/- THE SECOND FORM. 'bulk': how many values and letters a reading holds, each counted each time it is reached (what is shared counts as often as it is met; a slice's spare places count too). A statement '..UptoSaid' is the law's where the arguments, and the package variables that the reading takes, are together of bulk at most 1048576: NARROWER than '..Said'. Prove '..Said' where nothing that the law and all that it calls make is longer than what came in: it says more and counts as full. Else prove '..UptoSaid'. A law counts once. -/
mutual
def uptoBulk {H : Type} : DataW H → Nat
  | .lit (.string bytes) => bytes.length + 1
  | .lit _ => 1
  | .nil => 1
  | .ptr d => uptoBulk d + 1
  | .slice elems spare => uptoBulkAll elems + uptoBulkAll spare + 1
  | .agg parts => uptoBulkAll parts + 1
  | .iface _ d => uptoBulk d + 1
  | .map entries => uptoBulkEntries entries + 1
  | .held _ => 1
def uptoBulkAll {H : Type} : List (DataW H) → Nat
  | [] => 0
  | d :: r => uptoBulk d + uptoBulkAll r
def uptoBulkEntries {H : Type} : List (Lit × DataW H) → Nat
  | [] => 0
  | x :: r => uptoBulkEntry x + uptoBulkEntries r
def uptoBulkEntry {H : Type} : Lit × DataW H → Nat
  | (.string bytes, d) => bytes.length + uptoBulk d + 1
  | (_, d) => uptoBulk d + 1
 end
def uptoSmall : (H : Type) → List (DataW H) → Bool := fun _ ds => decide (uptoBulkAll ds ≤ 1048576)
def OpenSpec.upto (s : _root_.Go.ChangeSpec) : _root_.Go.OpenSpec := { _root_.Go.OpenSpec.ofChange s with cond := some uptoSmall }

/-- 'quicklimelaw03.AdlerTells', WHERE WHAT IT READS IS OF BULK AT MOST 1048576: true; the input reads as it did. -/
def adlerTellsUptoRow : OpenClaim := { program := "ytjjmoefipkkihaa", sum := "1730bcd2d6b1dc2747d3d051419691caae0dd5f7c9fe65504be45f7009b8cd15", func := "quicklime/quicklimelaw03.AdlerTells", spec := "adlerTells", unfollowed := true, recurses := true, apart := false, narrowed := true }
def AdlerTellsUptoSaid : Prop := adlerTellsUptoRow.holds Try.pinned (OpenSpec.upto adlerTellsSpec)

/-- 'quicklimelaw03.AdlerGoes', WHERE WHAT IT READS IS OF BULK AT MOST 1048576: true; the input reads as it did. -/
def adlerGoesUptoRow : OpenClaim := { program := "ytjjmoefipkkihaa", sum := "1730bcd2d6b1dc2747d3d051419691caae0dd5f7c9fe65504be45f7009b8cd15", func := "quicklime/quicklimelaw03.AdlerGoes", spec := "adlerGoes", unfollowed := true, recurses := true, apart := false, narrowed := true }
def AdlerGoesUptoSaid : Prop := adlerGoesUptoRow.holds Try.pinned (OpenSpec.upto adlerGoesSpec)

/-- 'quicklimelaw03.AdlerTurns', WHERE WHAT IT READS IS OF BULK AT MOST 1048576: true; the input reads as it did. -/
def adlerTurnsUptoRow : OpenClaim := { program := "ytjjmoefipkkihaa", sum := "1730bcd2d6b1dc2747d3d051419691caae0dd5f7c9fe65504be45f7009b8cd15", func := "quicklime/quicklimelaw03.AdlerTurns", spec := "adlerTurns", unfollowed := true, recurses := true, apart := false, narrowed := true }
def AdlerTurnsUptoSaid : Prop := adlerTurnsUptoRow.holds Try.pinned (OpenSpec.upto adlerTurnsSpec)

/-- 'quicklimelaw03.AdlerEmpty', WHERE WHAT IT READS IS OF BULK AT MOST 1048576: true; the input reads as it did. -/
def adlerEmptyUptoRow : OpenClaim := { program := "ytjjmoefipkkihaa", sum := "1730bcd2d6b1dc2747d3d051419691caae0dd5f7c9fe65504be45f7009b8cd15", func := "quicklime/quicklimelaw03.AdlerEmpty", spec := "adlerEmpty", unfollowed := true, recurses := true, apart := false, narrowed := true }
def AdlerEmptyUptoSaid : Prop := adlerEmptyUptoRow.holds Try.pinned (OpenSpec.upto adlerEmptySpec)

/-- 'quicklimelaw03.AdlerAdds', WHERE WHAT IT READS IS OF BULK AT MOST 1048576: true; the input reads as it did. -/
def adlerAddsUptoRow : OpenClaim := { program := "ytjjmoefipkkihaa", sum := "1730bcd2d6b1dc2747d3d051419691caae0dd5f7c9fe65504be45f7009b8cd15", func := "quicklime/quicklimelaw03.AdlerAdds", spec := "adlerAdds", unfollowed := true, recurses := true, apart := false, narrowed := true }
def AdlerAddsUptoSaid : Prop := adlerAddsUptoRow.holds Try.pinned (OpenSpec.upto adlerAddsSpec)

/-- 'quicklimelaw03.AdlerNoughts', WHERE WHAT IT READS IS OF BULK AT MOST 1048576: true; the input reads as it did. -/
def adlerNoughtsUptoRow : OpenClaim := { program := "ytjjmoefipkkihaa", sum := "1730bcd2d6b1dc2747d3d051419691caae0dd5f7c9fe65504be45f7009b8cd15", func := "quicklime/quicklimelaw03.AdlerNoughts", spec := "adlerNoughts", unfollowed := true, recurses := true, apart := false, narrowed := true }
def AdlerNoughtsUptoSaid : Prop := adlerNoughtsUptoRow.holds Try.pinned (OpenSpec.upto adlerNoughtsSpec)

/-- 'quicklimelaw03.AdlerSwaps', WHERE WHAT IT READS IS OF BULK AT MOST 1048576: true; the input reads as it did. -/
def adlerSwapsUptoRow : OpenClaim := { program := "ytjjmoefipkkihaa", sum := "1730bcd2d6b1dc2747d3d051419691caae0dd5f7c9fe65504be45f7009b8cd15", func := "quicklime/quicklimelaw03.AdlerSwaps", spec := "adlerSwaps", unfollowed := true, recurses := true, apart := false, narrowed := true }
def AdlerSwapsUptoSaid : Prop := adlerSwapsUptoRow.holds Try.pinned (OpenSpec.upto adlerSwapsSpec)

end Rows
end Go.Proofs.Ytjjmoefipkkihaa
