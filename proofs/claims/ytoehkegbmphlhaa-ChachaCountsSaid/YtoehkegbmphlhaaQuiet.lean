/- Regions that draw their order and whose operations each yield one value in every world of a class: one walk in the order of the text. Strings of bytes. -/
import Derived.Test.YtoehkegbmphlhaaEq
import Derived.Deep.Quiet
import Derived.Laws.BytesArg
namespace Go.Proofs.Ytoehkegbmphlhaa
set_option linter.unusedSimpArgs false
set_option linter.unusedVariables false
open Go.RowKit

section
variable {P : Program} {ops : Array Oper} {C : World → Prop} {Q : Act → Prop} {o : Oper} {rest : List Oper} {a : Act} {v : Value}
theorem qI (h : YieldsIf P ops C o v a) (hk : wpQuiet P ops C Q rest (a.put o.dst v)) : wpQuiet P ops C Q (o :: rest) a := by
  unfold wpQuiet
  rcases h with ⟨hw, hy⟩ | ⟨hw, rfl⟩
  · rw [if_pos hw]
    exact ⟨v, fun w hC => by unfold Oper.quietAt; rw [hy w hC]; exact ⟨rfl, rfl⟩, hk⟩
  · rw [if_neg (by rw [hw]; decide)]
    exact hk
/-- An operation that yields v and leaves the world. -/
theorem qY (hw : Region.wanted o (yielded ops a.tmps) = true) (hy : ∀ w, C w → (execOp a.eval o).run P w = .ok (.value v) w) (hk : wpQuiet P ops C Q rest (a.put o.dst v)) : wpQuiet P ops C Q (o :: rest) a := qI (.inl ⟨hw, hy⟩) hk
/-- An operation that is not wanted. -/
theorem qS (hw : Region.wanted o (yielded ops a.tmps) = false) (hk : wpQuiet P ops C Q rest (a.put o.dst undef)) : wpQuiet P ops C Q (o :: rest) a := qI (.inr ⟨hw, rfl⟩) hk
/-- A call that hands back v and leaves a world of the class. -/
theorem qC {f : FuncId} {args : Array Value} (hw : Region.wanted o (yielded ops a.tmps) = true) (he : ∀ w, C w → (execOp a.eval o).run P w = .ok (.enter f args) w) (hc : ∀ w, C w → Calls P f args w fun e w' => e = .returned v ∧ C w')
    (hk : wpQuiet P ops C Q rest (a.put o.dst v)) : wpQuiet P ops C Q (o :: rest) a := by
  unfold wpQuiet
  rw [if_pos hw]
  exact ⟨v, fun w hC => by unfold Oper.quietAt; rw [he w hC]; exact ⟨rfl, hc w hC⟩, hk⟩
/-- The region, written out. -/
theorem wp_region_class {id : Nat} {Q : Exit → Act → World → Prop} {w : World} {l : List Oper} (C : World → Prop) (hm : P.follows .mixedOrders = true) (hB : Region.lexB .any l.toArray = true) (hC : C w.drew)
    (h : wpQuiet P l.toArray C (fun a' => ∀ w', C w' → Q .normal a' w') l a) : (Code.region id l.toArray true).wp P Q a w :=
  wp_region_quiet (C := C) hm hB hC (by simpa using h)
end

/-- At the list of a plain region's operations. -/
theorem wp_yields {P : Program} {ops : Array Oper} {Q : Exit → Act → World → Prop} {o : Oper} {rest : List Oper} {a : Act} {w : World} (v : Value) (hw : Region.wanted o (yielded ops a.tmps) = true) (hy : (execOp a.eval o).run P w = .ok (.value v) w) (hk : wpList P ops Q rest (a.put o.dst v) w) : wpList P ops Q (o :: rest) a w := by
  refine wpList_wanted hw ?_
  unfold Oper.wp
  rw [hy]
  exact hk
theorem wp_eql {P : Program} {ops : Array Oper} {Q : Exit → Act → World → Prop} {o : Oper} {rest : List Oper} {a : Act} {w : World} {t rt : TypeId} {x y : Operand} {xs ys : Array Value} {b : Bool} (hw : Region.wanted o (yielded ops a.tmps) = true) (ho : o.op = .binOp .eql t x y rt) (hx : a.eval x = .agg xs) (hy : a.eval y = .agg ys)
    (hg : P.eqGuardType P.depth t = false) (hrun : ∀ w, (binOp .eql t (.agg xs) (.agg ys)).run P w = .ok (.bool b) w) (hk : wpList P ops Q rest (a.put o.dst (.bool b)) w) : wpList P ops Q (o :: rest) a w :=
  wp_yields (.bool b) hw (by
    have h1 := run_eqGuard_agg (P := P) w .eql t x y xs ys hg
    simp [execOp, ho, hx, hy, h1, hrun]) hk

/-! ### Strings of bytes -/
def strB (bs : List Nat) : ByteArray := strOfNums (bs.map Int.ofNat)
theorem strB_data (bs : List Nat) : (strB bs).data.toList = bs.map UInt8.ofNat := by
  unfold strB
  rw [strOfNums_data, List.map_map]
  rfl
theorem strB_size (bs : List Nat) : (strB bs).size = bs.length := by unfold strB; rw [strOfNums_size, List.length_map]
theorem strB_list (bs : List Nat) : (strB bs).toList = bs.map UInt8.ofNat := by rw [ByteArray.toList_eq, strB_data]
theorem u8_inj {a b : List Nat} (ha : ∀ x ∈ a, x < 256) (hb : ∀ x ∈ b, x < 256) (h : a.map UInt8.ofNat = b.map UInt8.ofNat) : a = b := by
  have h1 := congrArg (fun s => s.map UInt8.toNat) h
  simp only [List.map_map] at h1
  have e : ∀ l : List Nat, (∀ x ∈ l, x < 256) → l.map (UInt8.toNat ∘ UInt8.ofNat) = l := by
    intro l hl
    conv => rhs; rw [← List.map_id l]
    refine List.map_congr_left fun x hx => ?_
    have := hl x hx
    simp only [Function.comp, UInt8.toNat_ofNat', id]
    exact Nat.mod_eq_of_lt this
  rwa [e a ha, e b hb] at h1
theorem strB_beq {a b : List Nat} (ha : ∀ x ∈ a, x < 256) (hb : ∀ x ∈ b, x < 256) : ((strB a).toList == (strB b).toList) = decide (a = b) := by
  rw [Bool.eq_iff_iff, beq_iff_eq, decide_eq_true_eq, strB_list, strB_list]
  exact ⟨u8_inj ha hb, fun h => by rw [h]⟩
theorem strB_nil : strB [] = ByteArray.empty := rfl
theorem run_str {P : Program} {w : World} {src e dst : TypeId} {a : Option Addr} {n c : Nat} {bs : List Nat} (hs : P.underlying src = some (.slice e)) (he : P.underlying e = some (.int .u8)) (hd : P.underlying dst = some .string) (h : Row8 w a n c bs) :
    (convert src dst (.slice a n c)).run P w = .ok (.string (strB bs)) w := by
  obtain ⟨h1, h2, h3, h4, h5, h6⟩ := h
  cases a with
  | none =>
    have := h5 rfl
    obtain rfl : bs = [] := List.eq_nil_of_length_eq_zero (by omega)
    rw [run_convert_bytes_nil w src e hs he n c dst hd, strB_nil]
  | some ad =>
    rcases h6 with h6 | ⟨b, off, hadr, hlt, hc⟩
    · obtain rfl : bs = [] := List.eq_nil_of_length_eq_zero (by omega)
      subst h6
      obtain ⟨b, off, sp⟩ := ad
      rw [run_convert_bytes_string w src dst e _ 0 c hs he hd, run_bytesToString w _ 0 c [] (by simp [loadCells, loadCellsFrom]), strB_nil]
      rfl
    · cases hadr
      exact run_convert_bytes_arg w src e hs he b off n c (bs.map Int.ofNat) (by rw [List.length_map, h1]) (fun i hi => by
        rw [hc i hi]
        simp [List.getD_eq_getElem?_getD, List.getElem?_eq_getElem (show i < bs.length by omega)]) dst hd
/-- string(b) in a region whose class tells b's bytes. -/
theorem yieldsStr {P : Program} {ops : Array Oper} {C : World → Prop} {o : Oper} {a : Act} {src e dst : TypeId} {x : Operand} {ad : Option Addr} {n c : Nat} {bs : List Nat} (hw : Region.wanted o (yielded ops a.tmps) = true) (ho : o.op = .convert src dst x) (hx : a.eval x = .slice ad n c)
    (hs : P.underlying src = some (.slice e)) (he : P.underlying e = some (.int .u8)) (hd : P.underlying dst = some .string) (hr : ∀ w, C w → Row8 w ad n c bs) : YieldsIf P ops C o (.string (strB bs)) a :=
  .inl ⟨hw, fun w hC => by simp [execOp, ho, hx, run_str hs he hd (hr w hC)]⟩
/-- Two strings held against each other. -/
theorem yieldsEqS {P : Program} {ops : Array Oper} {C : World → Prop} {o : Oper} {a : Act} {t rt : TypeId} {x y : Operand} {s u : ByteArray} {b : Bool} (hw : Region.wanted o (yielded ops a.tmps) = true) (ho : o.op = .binOp .eql t x y rt) (hx : a.eval x = .string s) (hy : a.eval y = .string u) (hb : (s.toList == u.toList) = b) : YieldsIf P ops C o (.bool b) a :=
  .inl ⟨hw, fun w _ => by
    have h1 : eqGuard .eql t x y (.string s) (.string u) = pure () := rfl
    simp only [execOp, ho, hx, hy, h1, binOp_string_eql, hb, Sem.run_bind, Sem.run_pure, Sem.run_map, Result.andThen_ok]⟩
end Go.Proofs.Ytoehkegbmphlhaa
