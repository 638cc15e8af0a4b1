/-
  No cell of these rows narrows 'for every input' (looked for: loops, veiled, ifaces, maps, wideKeys, modest, calm, conditions, laid).
  DERIVED. THE GIVEN ROWS OF THIS SEAT. 5 by the template 'for every input the law returns true; each argument reads behind the call as it read before'; 0 by the template 'total and deterministic' (their statements: YtoehkegbmphlhaaTotals.lean).
  GIVEN WITH THE SEED: the statements are not yours to turn. If you find one false, say at which input.
  Laid BY PROGRAM, IN A SANDBOX (cutbox-rows.mjs): the forced cells as the released guide's own fill.sh prints them over the translation 0b4a847348b36593… (all of the seat's roots in one cut). By AI agents, Wed Nov 11 2026. No macro, syntax, notation, axiom, sorry.
-/
import Derived.Test.YtoehkegbmphlhaaChecked
import GoSem.Claim
import GoSem.ClaimJoined
import GoSem.ClaimMapViews
import Derived.JoinedTies
import Derived.KernelRfl
namespace Go.Proofs.Ytoehkegbmphlhaa
/- THE CELL 'sum', in the pinned program and in every row, IS THE sha256 OF THE DUMP (.gsa) THAT YtoehkegbmphlhaaProg.lean LOADS. Nothing in Lean hashes anything: it is a label: what it is worth is what the hold of that sum in a sandbox is worth. -/
noncomputable def Try.pinned : Pinned := { name := "ytoehkegbmphlhaa", sum := "0b4a847348b36593dd5658b5edd406d05162d8308002a95c76c6935ebe98fecd", checked := Try.checked }
namespace Rows
def none {H : Type} : Left H := { results := [], args := [] }

/-- 'quicklimelaw04.ChachaTells': WHATEVER THE INPUT: true; the input reads as it did. -/
def chachaTellsSpec : ChangeSpec := { name := "chachaTells", fn := fun _ => fun
  | [d1, d2, d3, d4, d5, d6, d7] => { results := [.lit (.bool true)], args := [d1, d2, d3, d4, d5, d6, d7] }
  | _ => none }
def chachaTellsRow : OpenClaim := { program := "ytoehkegbmphlhaa", sum := "0b4a847348b36593dd5658b5edd406d05162d8308002a95c76c6935ebe98fecd", func := "quicklime/quicklimelaw04.ChachaTells", spec := "chachaTells", apart := false }
def ChachaTellsSaid : Prop := chachaTellsRow.holds Try.pinned (OpenSpec.ofChange chachaTellsSpec)

/-- ITS FALSE NEIGHBOUR: 'it returns false'. Refute it at one input. -/
def chachaTellsWrong : ChangeSpec := { name := "chachaTells", fn := fun _ => fun
  | [d1, d2, d3, d4, d5, d6, d7] => { results := [.lit (.bool false)], args := [d1, d2, d3, d4, d5, d6, d7] }
  | _ => none }
def ChachaTellsWrongFalsely : Prop := chachaTellsRow.holds Try.pinned (OpenSpec.ofChange chachaTellsWrong)

/-- 'quicklimelaw04.ChachaBack': WHATEVER THE INPUT: true; the input reads as it did. -/
def chachaBackSpec : ChangeSpec := { name := "chachaBack", fn := fun _ => fun
  | [d1, d2, d3, d4] => { results := [.lit (.bool true)], args := [d1, d2, d3, d4] }
  | _ => none }
def chachaBackRow : OpenClaim := { program := "ytoehkegbmphlhaa", sum := "0b4a847348b36593dd5658b5edd406d05162d8308002a95c76c6935ebe98fecd", func := "quicklime/quicklimelaw04.ChachaBack", spec := "chachaBack", apart := false }
def ChachaBackSaid : Prop := chachaBackRow.holds Try.pinned (OpenSpec.ofChange chachaBackSpec)

/-- ITS FALSE NEIGHBOUR: 'it returns false'. Refute it at one input. -/
def chachaBackWrong : ChangeSpec := { name := "chachaBack", fn := fun _ => fun
  | [d1, d2, d3, d4] => { results := [.lit (.bool false)], args := [d1, d2, d3, d4] }
  | _ => none }
def ChachaBackWrongFalsely : Prop := chachaBackRow.holds Try.pinned (OpenSpec.ofChange chachaBackWrong)

/-- 'quicklimelaw04.ChachaSame': WHATEVER THE INPUT: true; the input reads as it did. -/
def chachaSameSpec : ChangeSpec := { name := "chachaSame", fn := fun _ => fun
  | [d1, d2, d3] => { results := [.lit (.bool true)], args := [d1, d2, d3] }
  | _ => none }
def chachaSameRow : OpenClaim := { program := "ytoehkegbmphlhaa", sum := "0b4a847348b36593dd5658b5edd406d05162d8308002a95c76c6935ebe98fecd", func := "quicklime/quicklimelaw04.ChachaSame", spec := "chachaSame", apart := false }
def ChachaSameSaid : Prop := chachaSameRow.holds Try.pinned (OpenSpec.ofChange chachaSameSpec)

/-- ITS FALSE NEIGHBOUR: 'it returns false'. Refute it at one input. -/
def chachaSameWrong : ChangeSpec := { name := "chachaSame", fn := fun _ => fun
  | [d1, d2, d3] => { results := [.lit (.bool false)], args := [d1, d2, d3] }
  | _ => none }
def ChachaSameWrongFalsely : Prop := chachaSameRow.holds Try.pinned (OpenSpec.ofChange chachaSameWrong)

/-- 'quicklimelaw04.ChachaOdd': WHATEVER THE INPUT: true; the input reads as it did. -/
def chachaOddSpec : ChangeSpec := { name := "chachaOdd", fn := fun _ => fun
  | [d1, d2, d3, d4, d5] => { results := [.lit (.bool true)], args := [d1, d2, d3, d4, d5] }
  | _ => none }
def chachaOddRow : OpenClaim := { program := "ytoehkegbmphlhaa", sum := "0b4a847348b36593dd5658b5edd406d05162d8308002a95c76c6935ebe98fecd", func := "quicklime/quicklimelaw04.ChachaOdd", spec := "chachaOdd", apart := false }
def ChachaOddSaid : Prop := chachaOddRow.holds Try.pinned (OpenSpec.ofChange chachaOddSpec)

/-- ITS FALSE NEIGHBOUR: 'it returns false'. Refute it at one input. -/
def chachaOddWrong : ChangeSpec := { name := "chachaOdd", fn := fun _ => fun
  | [d1, d2, d3, d4, d5] => { results := [.lit (.bool false)], args := [d1, d2, d3, d4, d5] }
  | _ => none }
def ChachaOddWrongFalsely : Prop := chachaOddRow.holds Try.pinned (OpenSpec.ofChange chachaOddWrong)

/-- 'quicklimelaw04.ChachaCounts': WHATEVER THE INPUT: true; the input reads as it did. -/
def chachaCountsSpec : ChangeSpec := { name := "chachaCounts", fn := fun _ => fun
  | [d1, d2, d3] => { results := [.lit (.bool true)], args := [d1, d2, d3] }
  | _ => none }
def chachaCountsRow : OpenClaim := { program := "ytoehkegbmphlhaa", sum := "0b4a847348b36593dd5658b5edd406d05162d8308002a95c76c6935ebe98fecd", func := "quicklime/quicklimelaw04.ChachaCounts", spec := "chachaCounts", apart := false }
def ChachaCountsSaid : Prop := chachaCountsRow.holds Try.pinned (OpenSpec.ofChange chachaCountsSpec)

/-- ITS FALSE NEIGHBOUR: 'it returns false'. Refute it at one input. -/
def chachaCountsWrong : ChangeSpec := { name := "chachaCounts", fn := fun _ => fun
  | [d1, d2, d3] => { results := [.lit (.bool false)], args := [d1, d2, d3] }
  | _ => none }
def ChachaCountsWrongFalsely : Prop := chachaCountsRow.holds Try.pinned (OpenSpec.ofChange chachaCountsWrong)

/- THE SECOND FORM. 'bulk': how many values and letters a reading holds, each counted each time it is reached (what is shared counts as often as it is met; a slice's spare places count too). A statement '..UptoSaid' is the law's where the arguments, and the package variables that the reading takes, are together of bulk at most 1048576: NARROWER than '..Said'. Prove '..Said' where nothing that the law and all that it calls make is longer than what came in: it says more and counts as full. Else prove '..UptoSaid'. A law counts once. -/
mutual
def uptoBulk {H : Type} : DataW H → Nat
  | .lit (.string bytes) => bytes.length + 1
  | .lit _ => 1
  | .nil => 1
  | .ptr d => uptoBulk d + 1
  | .slice elems spare => uptoBulkAll elems + uptoBulkAll spare + 1
  | .agg parts => uptoBulkAll parts + 1
  | .iface _ d => uptoBulk d + 1
  | .map entries => uptoBulkEntries entries + 1
  | .held _ => 1
def uptoBulkAll {H : Type} : List (DataW H) → Nat
  | [] => 0
  | d :: r => uptoBulk d + uptoBulkAll r
def uptoBulkEntries {H : Type} : List (Lit × DataW H) → Nat
  | [] => 0
  | x :: r => uptoBulkEntry x + uptoBulkEntries r
def uptoBulkEntry {H : Type} : Lit × DataW H → Nat
  | (.string bytes, d) => bytes.length + uptoBulk d + 1
  | (_, d) => uptoBulk d + 1
 end
def uptoSmall : (H : Type) → List (DataW H) → Bool := fun _ ds => decide (uptoBulkAll ds ≤ 1048576)
def OpenSpec.upto (s : _root_.Go.ChangeSpec) : _root_.Go.OpenSpec := { _root_.Go.OpenSpec.ofChange s with cond := some uptoSmall }

/-- 'quicklimelaw04.ChachaTells', WHERE WHAT IT READS IS OF BULK AT MOST 1048576: true; the input reads as it did. -/
def chachaTellsUptoRow : OpenClaim := { program := "ytoehkegbmphlhaa", sum := "0b4a847348b36593dd5658b5edd406d05162d8308002a95c76c6935ebe98fecd", func := "quicklime/quicklimelaw04.ChachaTells", spec := "chachaTells", apart := false, narrowed := true }
def ChachaTellsUptoSaid : Prop := chachaTellsUptoRow.holds Try.pinned (OpenSpec.upto chachaTellsSpec)

/-- 'quicklimelaw04.ChachaBack', WHERE WHAT IT READS IS OF BULK AT MOST 1048576: true; the input reads as it did. -/
def chachaBackUptoRow : OpenClaim := { program := "ytoehkegbmphlhaa", sum := "0b4a847348b36593dd5658b5edd406d05162d8308002a95c76c6935ebe98fecd", func := "quicklime/quicklimelaw04.ChachaBack", spec := "chachaBack", apart := false, narrowed := true }
def ChachaBackUptoSaid : Prop := chachaBackUptoRow.holds Try.pinned (OpenSpec.upto chachaBackSpec)

/-- 'quicklimelaw04.ChachaSame', WHERE WHAT IT READS IS OF BULK AT MOST 1048576: true; the input reads as it did. -/
def chachaSameUptoRow : OpenClaim := { program := "ytoehkegbmphlhaa", sum := "0b4a847348b36593dd5658b5edd406d05162d8308002a95c76c6935ebe98fecd", func := "quicklime/quicklimelaw04.ChachaSame", spec := "chachaSame", apart := false, narrowed := true }
def ChachaSameUptoSaid : Prop := chachaSameUptoRow.holds Try.pinned (OpenSpec.upto chachaSameSpec)

/-- 'quicklimelaw04.ChachaOdd', WHERE WHAT IT READS IS OF BULK AT MOST 1048576: true; the input reads as it did. -/
def chachaOddUptoRow : OpenClaim := { program := "ytoehkegbmphlhaa", sum := "0b4a847348b36593dd5658b5edd406d05162d8308002a95c76c6935ebe98fecd", func := "quicklime/quicklimelaw04.ChachaOdd", spec := "chachaOdd", apart := false, narrowed := true }
def ChachaOddUptoSaid : Prop := chachaOddUptoRow.holds Try.pinned (OpenSpec.upto chachaOddSpec)

/-- 'quicklimelaw04.ChachaCounts', WHERE WHAT IT READS IS OF BULK AT MOST 1048576: true; the input reads as it did. -/
def chachaCountsUptoRow : OpenClaim := { program := "ytoehkegbmphlhaa", sum := "0b4a847348b36593dd5658b5edd406d05162d8308002a95c76c6935ebe98fecd", func := "quicklime/quicklimelaw04.ChachaCounts", spec := "chachaCounts", apart := false, narrowed := true }
def ChachaCountsUptoSaid : Prop := chachaCountsUptoRow.holds Try.pinned (OpenSpec.upto chachaCountsSpec)

end Rows
end Go.Proofs.Ytoehkegbmphlhaa
