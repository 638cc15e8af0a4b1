/-
  No cell of these rows narrows 'for every input' (looked for: loops, veiled, ifaces, maps, wideKeys, modest, calm, conditions, laid).
  DERIVED. THE GIVEN ROWS OF THIS SEAT. 6 by the template 'for every input the law returns true; each argument reads behind the call as it read before'; 0 by the template 'total and deterministic' (their statements: YtnlogdlnmhnepaaTotals.lean).
  GIVEN WITH THE SEED: the statements are not yours to turn. If you find one false, say at which input.
  Laid BY PROGRAM, IN A SANDBOX (cutbox-rows.mjs): the forced cells as the released guide's own fill.sh prints them over the translation 4641588399d90965… (all of the seat's roots in one cut). By AI agents, Wed Nov 11 2026. No macro, syntax, notation, axiom, sorry.
-/
import Derived.Test.YtnlogdlnmhnepaaChecked
import GoSem.Claim
import GoSem.ClaimJoined
import GoSem.ClaimMapViews
import Derived.JoinedTies
import Derived.KernelRfl
namespace Go.Proofs.Ytnlogdlnmhnepaa
/- THE CELL 'sum', in the pinned program and in every row, IS THE sha256 OF THE DUMP (.gsa) THAT YtnlogdlnmhnepaaProg.lean LOADS. Nothing in Lean hashes anything: it is a label: what it is worth is what the hold of that sum in a sandbox is worth. -/
noncomputable def Try.pinned : Pinned := { name := "ytnlogdlnmhnepaa", sum := "4641588399d90965e82bca34bab328032ab0265610840a1427a5ca946592ca4c", checked := Try.checked }
namespace Rows
def none {H : Type} : Left H := { results := [], args := [] }

/-- 'quicklimelaw05.StreamTells': WHATEVER THE INPUT: true; the input reads as it did. -/
def streamTellsSpec : ChangeSpec := { name := "streamTells", fn := fun _ => fun
  | [d1, d2, d3, d4] => { results := [.lit (.bool true)], args := [d1, d2, d3, d4] }
  | _ => none }
def streamTellsRow : OpenClaim := { program := "ytnlogdlnmhnepaa", sum := "4641588399d90965e82bca34bab328032ab0265610840a1427a5ca946592ca4c", func := "quicklime/quicklimelaw05.StreamTells", spec := "streamTells", unfollowed := true, recurses := true, apart := false }
def StreamTellsSaid : Prop := streamTellsRow.holds Try.pinned (OpenSpec.ofChange streamTellsSpec)

/-- ITS FALSE NEIGHBOUR: 'it returns false'. Refute it at one input. -/
def streamTellsWrong : ChangeSpec := { name := "streamTells", fn := fun _ => fun
  | [d1, d2, d3, d4] => { results := [.lit (.bool false)], args := [d1, d2, d3, d4] }
  | _ => none }
def StreamTellsWrongFalsely : Prop := streamTellsRow.holds Try.pinned (OpenSpec.ofChange streamTellsWrong)

/-- 'quicklimelaw05.StreamBack': WHATEVER THE INPUT: true; the input reads as it did. -/
def streamBackSpec : ChangeSpec := { name := "streamBack", fn := fun _ => fun
  | [d1, d2, d3, d4, d5] => { results := [.lit (.bool true)], args := [d1, d2, d3, d4, d5] }
  | _ => none }
def streamBackRow : OpenClaim := { program := "ytnlogdlnmhnepaa", sum := "4641588399d90965e82bca34bab328032ab0265610840a1427a5ca946592ca4c", func := "quicklime/quicklimelaw05.StreamBack", spec := "streamBack", unfollowed := true, recurses := true, apart := false }
def StreamBackSaid : Prop := streamBackRow.holds Try.pinned (OpenSpec.ofChange streamBackSpec)

/-- ITS FALSE NEIGHBOUR: 'it returns false'. Refute it at one input. -/
def streamBackWrong : ChangeSpec := { name := "streamBack", fn := fun _ => fun
  | [d1, d2, d3, d4, d5] => { results := [.lit (.bool false)], args := [d1, d2, d3, d4, d5] }
  | _ => none }
def StreamBackWrongFalsely : Prop := streamBackRow.holds Try.pinned (OpenSpec.ofChange streamBackWrong)

/-- 'quicklimelaw05.StreamBlocks': WHATEVER THE INPUT: true; the input reads as it did. -/
def streamBlocksSpec : ChangeSpec := { name := "streamBlocks", fn := fun _ => fun
  | [d1, d2, d3, d4, d5] => { results := [.lit (.bool true)], args := [d1, d2, d3, d4, d5] }
  | _ => none }
def streamBlocksRow : OpenClaim := { program := "ytnlogdlnmhnepaa", sum := "4641588399d90965e82bca34bab328032ab0265610840a1427a5ca946592ca4c", func := "quicklime/quicklimelaw05.StreamBlocks", spec := "streamBlocks", unfollowed := true, recurses := true, apart := false }
def StreamBlocksSaid : Prop := streamBlocksRow.holds Try.pinned (OpenSpec.ofChange streamBlocksSpec)

/-- ITS FALSE NEIGHBOUR: 'it returns false'. Refute it at one input. -/
def streamBlocksWrong : ChangeSpec := { name := "streamBlocks", fn := fun _ => fun
  | [d1, d2, d3, d4, d5] => { results := [.lit (.bool false)], args := [d1, d2, d3, d4, d5] }
  | _ => none }
def StreamBlocksWrongFalsely : Prop := streamBlocksRow.holds Try.pinned (OpenSpec.ofChange streamBlocksWrong)

/-- 'quicklimelaw05.StreamLast': WHATEVER THE INPUT: true; the input reads as it did. -/
def streamLastSpec : ChangeSpec := { name := "streamLast", fn := fun _ => fun
  | [d1, d2, d3, d4] => { results := [.lit (.bool true)], args := [d1, d2, d3, d4] }
  | _ => none }
def streamLastRow : OpenClaim := { program := "ytnlogdlnmhnepaa", sum := "4641588399d90965e82bca34bab328032ab0265610840a1427a5ca946592ca4c", func := "quicklime/quicklimelaw05.StreamLast", spec := "streamLast", unfollowed := true, recurses := true, apart := false }
def StreamLastSaid : Prop := streamLastRow.holds Try.pinned (OpenSpec.ofChange streamLastSpec)

/-- ITS FALSE NEIGHBOUR: 'it returns false'. Refute it at one input. -/
def streamLastWrong : ChangeSpec := { name := "streamLast", fn := fun _ => fun
  | [d1, d2, d3, d4] => { results := [.lit (.bool false)], args := [d1, d2, d3, d4] }
  | _ => none }
def StreamLastWrongFalsely : Prop := streamLastRow.holds Try.pinned (OpenSpec.ofChange streamLastWrong)

/-- 'quicklimelaw05.StreamAny': WHATEVER THE INPUT: true; the input reads as it did. -/
def streamAnySpec : ChangeSpec := { name := "streamAny", fn := fun _ => fun
  | [d1, d2, d3, d4, d5, d6] => { results := [.lit (.bool true)], args := [d1, d2, d3, d4, d5, d6] }
  | _ => none }
def streamAnyRow : OpenClaim := { program := "ytnlogdlnmhnepaa", sum := "4641588399d90965e82bca34bab328032ab0265610840a1427a5ca946592ca4c", func := "quicklime/quicklimelaw05.StreamAny", spec := "streamAny", unfollowed := true, recurses := true, apart := false }
def StreamAnySaid : Prop := streamAnyRow.holds Try.pinned (OpenSpec.ofChange streamAnySpec)

/-- ITS FALSE NEIGHBOUR: 'it returns false'. Refute it at one input. -/
def streamAnyWrong : ChangeSpec := { name := "streamAny", fn := fun _ => fun
  | [d1, d2, d3, d4, d5, d6] => { results := [.lit (.bool false)], args := [d1, d2, d3, d4, d5, d6] }
  | _ => none }
def StreamAnyWrongFalsely : Prop := streamAnyRow.holds Try.pinned (OpenSpec.ofChange streamAnyWrong)

/-- 'quicklimelaw05.StreamCuts': WHATEVER THE INPUT: true; the input reads as it did. -/
def streamCutsSpec : ChangeSpec := { name := "streamCuts", fn := fun _ => fun
  | [d1, d2, d3, d4, d5, d6] => { results := [.lit (.bool true)], args := [d1, d2, d3, d4, d5, d6] }
  | _ => none }
def streamCutsRow : OpenClaim := { program := "ytnlogdlnmhnepaa", sum := "4641588399d90965e82bca34bab328032ab0265610840a1427a5ca946592ca4c", func := "quicklime/quicklimelaw05.StreamCuts", spec := "streamCuts", unfollowed := true, recurses := true, apart := false }
def StreamCutsSaid : Prop := streamCutsRow.holds Try.pinned (OpenSpec.ofChange streamCutsSpec)

/-- ITS FALSE NEIGHBOUR: 'it returns false'. Refute it at one input. -/
def streamCutsWrong : ChangeSpec := { name := "streamCuts", fn := fun _ => fun
  | [d1, d2, d3, d4, d5, d6] => { results := [.lit (.bool false)], args := [d1, d2, d3, d4, d5, d6] }
  | _ => none }
def StreamCutsWrongFalsely : Prop := streamCutsRow.holds Try.pinned (OpenSpec.ofChange streamCutsWrong)

/- THE SECOND FORM. 'bulk': how many values and letters a reading holds, each counted each time it is reached (what is shared counts as often as it is met; a slice's spare places count too). A statement '..UptoSaid' is the law's where the arguments, and the package variables that the reading takes, are together of bulk at most 1048576: NARROWER than '..Said'. Prove '..Said' where nothing that the law and all that it calls make is longer than what came in: it says more and counts as full. Else prove '..UptoSaid'. A law counts once. -/
mutual
def uptoBulk {H : Type} : DataW H → Nat
  | .lit (.string bytes) => bytes.length + 1
  | .lit _ => 1
  | .nil => 1
  | .ptr d => uptoBulk d + 1
  | .slice elems spare => uptoBulkAll elems + uptoBulkAll spare + 1
  | .agg parts => uptoBulkAll parts + 1
  | .iface _ d => uptoBulk d + 1
  | .map entries => uptoBulkEntries entries + 1
  | .held _ => 1
def uptoBulkAll {H : Type} : List (DataW H) → Nat
  | [] => 0
  | d :: r => uptoBulk d + uptoBulkAll r
def uptoBulkEntries {H : Type} : List (Lit × DataW H) → Nat
  | [] => 0
  | x :: r => uptoBulkEntry x + uptoBulkEntries r
def uptoBulkEntry {H : Type} : Lit × DataW H → Nat
  | (.string bytes, d) => bytes.length + uptoBulk d + 1
  | (_, d) => uptoBulk d + 1
 end
def uptoSmall : (H : Type) → List (DataW H) → Bool := fun _ ds => decide (uptoBulkAll ds ≤ 1048576)
def OpenSpec.upto (s : _root_.Go.ChangeSpec) : _root_.Go.OpenSpec := { _root_.Go.OpenSpec.ofChange s with cond := some uptoSmall }

/-- 'quicklimelaw05.StreamTells', WHERE WHAT IT READS IS OF BULK AT MOST 1048576: true; the input reads as it did. -/
def streamTellsUptoRow : OpenClaim := { program := "ytnlogdlnmhnepaa", sum := "4641588399d90965e82bca34bab328032ab0265610840a1427a5ca946592ca4c", func := "quicklime/quicklimelaw05.StreamTells", spec := "streamTells", unfollowed := true, recurses := true, apart := false, narrowed := true }
def StreamTellsUptoSaid : Prop := streamTellsUptoRow.holds Try.pinned (OpenSpec.upto streamTellsSpec)

/-- 'quicklimelaw05.StreamBack', WHERE WHAT IT READS IS OF BULK AT MOST 1048576: true; the input reads as it did. -/
def streamBackUptoRow : OpenClaim := { program := "ytnlogdlnmhnepaa", sum := "4641588399d90965e82bca34bab328032ab0265610840a1427a5ca946592ca4c", func := "quicklime/quicklimelaw05.StreamBack", spec := "streamBack", unfollowed := true, recurses := true, apart := false, narrowed := true }
def StreamBackUptoSaid : Prop := streamBackUptoRow.holds Try.pinned (OpenSpec.upto streamBackSpec)

/-- 'quicklimelaw05.StreamBlocks', WHERE WHAT IT READS IS OF BULK AT MOST 1048576: true; the input reads as it did. -/
def streamBlocksUptoRow : OpenClaim := { program := "ytnlogdlnmhnepaa", sum := "4641588399d90965e82bca34bab328032ab0265610840a1427a5ca946592ca4c", func := "quicklime/quicklimelaw05.StreamBlocks", spec := "streamBlocks", unfollowed := true, recurses := true, apart := false, narrowed := true }
def StreamBlocksUptoSaid : Prop := streamBlocksUptoRow.holds Try.pinned (OpenSpec.upto streamBlocksSpec)

/-- 'quicklimelaw05.StreamLast', WHERE WHAT IT READS IS OF BULK AT MOST 1048576: true; the input reads as it did. -/
def streamLastUptoRow : OpenClaim := { program := "ytnlogdlnmhnepaa", sum := "4641588399d90965e82bca34bab328032ab0265610840a1427a5ca946592ca4c", func := "quicklime/quicklimelaw05.StreamLast", spec := "streamLast", unfollowed := true, recurses := true, apart := false, narrowed := true }
def StreamLastUptoSaid : Prop := streamLastUptoRow.holds Try.pinned (OpenSpec.upto streamLastSpec)

/-- 'quicklimelaw05.StreamAny', WHERE WHAT IT READS IS OF BULK AT MOST 1048576: true; the input reads as it did. -/
def streamAnyUptoRow : OpenClaim := { program := "ytnlogdlnmhnepaa", sum := "4641588399d90965e82bca34bab328032ab0265610840a1427a5ca946592ca4c", func := "quicklime/quicklimelaw05.StreamAny", spec := "streamAny", unfollowed := true, recurses := true, apart := false, narrowed := true }
def StreamAnyUptoSaid : Prop := streamAnyUptoRow.holds Try.pinned (OpenSpec.upto streamAnySpec)

/-- 'quicklimelaw05.StreamCuts', WHERE WHAT IT READS IS OF BULK AT MOST 1048576: true; the input reads as it did. -/
def streamCutsUptoRow : OpenClaim := { program := "ytnlogdlnmhnepaa", sum := "4641588399d90965e82bca34bab328032ab0265610840a1427a5ca946592ca4c", func := "quicklime/quicklimelaw05.StreamCuts", spec := "streamCuts", unfollowed := true, recurses := true, apart := false, narrowed := true }
def StreamCutsUptoSaid : Prop := streamCutsUptoRow.holds Try.pinned (OpenSpec.upto streamCutsSpec)

end Rows
end Go.Proofs.Ytnlogdlnmhnepaa
