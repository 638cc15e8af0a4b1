/- Heads held against each other, in a plain region. -/
import Derived.Test.YtpcppnoomogloaaFrW8
set_option maxRecDepth 4000
namespace Go.Proofs.Ytpcppnoomogloaa.Fr
set_option linter.unusedSimpArgs false
set_option linter.unusedVariables false
open Go.RowKit

theorem wp_eql_head {ops : Array Oper} {rest : List Oper} {o : Oper} {a : Act} {w : World} {Q : Exit → Act → World → Prop} {rt : TypeId} {x y : Operand} {h g : Hd} (hw : Region.wanted o (yielded ops a.tmps) = true) (ho : o.op = .binOp .eql 23 x y rt) (hx : a.eval x = h.v) (hy : a.eval y = g.v) (hk : wpList Try.prog ops Q rest (a.put o.dst (.bool (h.same g))) w) : wpList Try.prog ops Q (o :: rest) a w :=
  wp_yields (.bool (h.same g)) hw (by
    have h1 : (eqGuard .eql 23 x y h.v g.v).run Try.prog w = .ok () w := run_eqGuard_agg (P := Try.prog) w .eql 23 x y _ _ eqGuardH
    simp [execOp, ho, hx, hy, h1, run_eql_head]) hk
theorem yieldsEqHb {ops : Array Oper} {C : World → Prop} {o : Oper} {a : Act} {rt : TypeId} {x y : Operand} {h g : Hd} {b : Bool} (hw : Region.wanted o (yielded ops a.tmps) = true) (ho : o.op = .binOp .eql 23 x y rt) (hx : a.eval x = h.v) (hy : a.eval y = g.v) (hb : h.same g = b) : YieldsIf Try.prog ops C o (.bool b) a := by
  subst hb
  exact yieldsEqlH hw ho hx hy
end Go.Proofs.Ytpcppnoomogloaa.Fr
