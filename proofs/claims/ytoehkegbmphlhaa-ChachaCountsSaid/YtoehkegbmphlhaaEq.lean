/- Arrays of numbers that are compared; ranges of a block; what a world holds of some blocks. -/
import Derived.Test.YtoehkegbmphlhaaBlk
import Derived.ChangeKeysEq
import Derived.Deep.MidRow
import Derived.Deep.RegionHeld3
namespace Go.Proofs.Ytoehkegbmphlhaa
set_option linter.unusedSimpArgs false
set_option linter.unusedVariables false
open Go.RowKit

theorem blk_range {w : World} {B : Nat} {e : TypeId} {k : IntKind} {xs : List Nat} (h : Blk w B e k xs) : w.rangeAt B 0 (nv k xs) := by
  have h' : w.heap[B]? = some (.cells (nv k xs).toArray e (0, 0)) := h
  have := World.rangeAt_of_block h' 0 (nv k xs).length
  simpa using this

theorem run_eqItems_int {P : Program} {e : TypeId} {q : IntKind} (he : P.underlying e = some (.int q)) (d : Nat) (k : IntKind) (xs ys : List Nat) (w : World) : ∀ is : List Nat, (∀ i ∈ is, i < xs.length ∧ i < ys.length) →
    (Op.eqItems (d + 1) e 1 (nv k xs).toArray (nv k ys).toArray is).run P w = .ok (is.all fun i => xs.getD i 0 == ys.getD i 0) w
  | [], _ => by simp [Op.eqItems]
  | i :: is, h => by
    obtain ⟨h1, h2⟩ := h i List.mem_cons_self
    have ih := run_eqItems_int he d k xs ys w is (fun j hj => h j (List.mem_cons_of_mem _ hj))
    have hagg : (isAgg e).run P w = .ok false w := by simp [isAgg, run_underlying he]
    have p1 : (part e (nv k xs).toArray (i * 1)).run P w = .ok (.int k ((xs.getD i 0 : Nat) : Int)) w := by
      simp only [part, Nat.mul_one, Sem.run_bind, hagg, Result.andThen_ok]
      simp [nv_get k xs i h1]
    have p2 : (part e (nv k ys).toArray (i * 1)).run P w = .ok (.int k ((ys.getD i 0 : Nat) : Int)) w := by
      simp only [part, Nat.mul_one, Sem.run_bind, hagg, Result.andThen_ok]
      simp [nv_get k ys i h2]
    have p3 := run_equalIn_int (P := P) w d e k q ((xs.getD i 0 : Nat) : Int) ((ys.getD i 0 : Nat) : Int) he
    have hb : (((xs.getD i 0 : Nat) : Int) == ((ys.getD i 0 : Nat) : Int)) = (xs.getD i 0 == ys.getD i 0) := by
      rw [Bool.eq_iff_iff, beq_iff_eq, beq_iff_eq]; omega
    simp only [Op.eqItems, Sem.run_bind, p1, p2, p3, Result.andThen_ok, hb, List.all_cons]
    cases hc : (xs.getD i 0 == ys.getD i 0)
    · simp
    · simpa using ih
theorem run_equalIn_arr {P : Program} {t e : TypeId} {n : Nat} {q : IntKind} {info : TypeInfo} (hu : P.underlying t = some (.array n e)) (he : P.underlying e = some (.int q)) (hi : P.info? e = some info) (hs : info.size = 1) (d : Nat) (k : IntKind) (xs ys : List Nat) (hx : xs.length = n) (hy : ys.length = n) (w : World) :
    (Op.equalIn (d + 1 + 1) t (.agg (nv k xs).toArray) (.agg (nv k ys).toArray)).run P w = .ok (decide (xs = ys)) w := by
  have hc : P.cellsOf e = 1 := by simp [Program.cellsOf, hi, hs]
  have h1 := run_equalIn_array (P := P) w (d + 1) (nv k xs).toArray (nv k ys).toArray hu hi
  rw [h1, hc, run_eqItems_int he d k xs ys w _ (fun i hi => by have := List.mem_range.1 hi; omega)]
  congr 1
  rw [Bool.eq_iff_iff, List.all_eq_true, decide_eq_true_eq]
  constructor
  · intro h
    refine List.ext_getElem (by omega) fun i h2 h3 => ?_
    have := h i (List.mem_range.2 (by omega))
    rw [beq_iff_eq] at this
    simpa [List.getD_eq_getElem?_getD, List.getElem?_eq_getElem h2, List.getElem?_eq_getElem h3] using this
  · intro h i _
    rw [h]; exact beq_self_eq_true _
theorem run_eql_arr {P : Program} {t e : TypeId} {n : Nat} {q : IntKind} {info : TypeInfo} (hu : P.underlying t = some (.array n e)) (he : P.underlying e = some (.int q)) (hi : P.info? e = some info) (hs : info.size = 1) (k : IntKind) (xs ys : List Nat) (hx : xs.length = n) (hy : ys.length = n) (w : World) :
    (binOp .eql t (.agg (nv k xs).toArray) (.agg (nv k ys).toArray)).run P w = .ok (.bool (decide (xs = ys))) w := by
  rw [run_eql_struct, run_equalIn_arr hu he hi hs 9998 k xs ys hx hy w]; rfl

/-! ### Regions that draw their order, operation by operation -/
section
variable {P : Program} {l : List Oper} {Q : Exit → Act → World → Prop} {md : Region.Mode} {S : World → Prop}
theorem getElem_drop {i : Nat} {o : Oper} {rest : List Oper} (h : l.drop i = o :: rest) : l.toArray[i]? = some o := by
  have h1 : (l.drop i)[0]? = some o := by rw [h]; rfl
  simpa using h1
theorem takeL {i d : Nat} {oi : Oper} {rest : List Oper} {v : Value} {fuel : Nat} {listed : Array Bool} {a : Act} {w : World} (hi : l.drop i = oi :: rest) (hd : oi.dst = some d)
    (hs : Region.noSelect l.toArray = true) (hf : Region.free md l.toArray listed i = true) (hr : (Region.ready md l.toArray listed).contains i = true)
    (hQ : ∀ c a w, Q (.panic c) (a.put oi.dst v) w → Q (.panic c) a w) (hy : YieldsIf P l.toArray S oi v a) (hS : S w)
    (h : wpAnyH P md l.toArray Q S fuel (listed.setIfInBounds i true) (a.put (some d) v) w) : wpAnyH P md l.toArray Q S (fuel + 1) listed a w :=
  wpAnyH_take (getElem_drop hi) hs hf hr hQ hy hS (hd ▸ h)
theorem consL {fuel : Nat} {listed : Array Bool} {a : Act} {w : World} {i : Nat} {o : Oper} {rest : List Oper} {rs : List Nat} (ho : l.drop i = o :: rest)
    (h : ∀ K' : Act → World → Prop, Shut (∀ a w, S w → (S w → wpAnyH P md l.toArray Q S fuel (listed.setIfInBounds i true) a w) → K' a w) → if Region.wanted o (yielded l.toArray a.tmps) = true then Oper.wp P o a w K' Q else K' (a.put o.dst undef) w)
    (hs : AllReadyH P md l.toArray Q S fuel listed a w rs) : AllReadyH P md l.toArray Q S fuel listed a w (i :: rs) := AllReadyH.cons (getElem_drop ho) h hs
theorem yieldsOf {o : Oper} {a : Act} {v : Value} (hw : Region.wanted o (yielded l.toArray a.tmps) = true) (h : ∀ w, (execOp a.eval o).run P w = .ok (.value v) w) : YieldsIf P l.toArray S o v a := Or.inl ⟨hw, fun w _ => h w⟩
theorem yieldsEql {o : Oper} {a : Act} {t rt : TypeId} {x y : Operand} {xs ys : Array Value} {b : Bool} (hw : Region.wanted o (yielded l.toArray a.tmps) = true) (ho : o.op = .binOp .eql t x y rt) (hx : a.eval x = .agg xs) (hy : a.eval y = .agg ys)
    (hg : P.eqGuardType P.depth t = false) (hrun : ∀ w, (binOp .eql t (.agg xs) (.agg ys)).run P w = .ok (.bool b) w) : YieldsIf P l.toArray S o (.bool b) a :=
  yieldsOf hw fun w => by
    have h1 := run_eqGuard_agg (P := P) w .eql t x y xs ys hg
    simp [execOp, ho, hx, hy, h1, hrun]
end

/-- What a world holds of a key and a nonce that lie in blocks of their own. -/
def KN (w : World) (B C : Nat) (t u : TypeId) (key nonce : List Nat) (W : World) : Prop := Blk W B t .u8 key ∧ Blk W C u .u8 nonce ∧ Below w.heap.size w W
section
variable {w W W' : World} {B C : Nat} {t u : TypeId} {key nonce : List Nat}
theorem KN.drew (h : KN w B C t u key nonce W) : KN w B C t u key nonce W.drew := ⟨h.1, h.2.1, below_drewN h.2.2 1⟩
theorem KN.below (h : KN w B C t u key nonce W) (hb : Below W.heap.size W W') : KN w B C t u key nonce W' := ⟨h.1.below hb, h.2.1.below hb, xtrans h.2.2 hb⟩
theorem KN.r1 (h : KN w B C t u key nonce W) : W.rangeAt B 0 (nv .u8 key) := blk_range h.1
theorem KN.r2 (h : KN w B C t u key nonce W) : W.rangeAt C 0 (nv .u8 nonce) := blk_range h.2.1
end
end Go.Proofs.Ytoehkegbmphlhaa
