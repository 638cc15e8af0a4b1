/- An array that lies inside an array's block: its address, its load. -/
import Derived.Test.YtoehkegbmphlhaaBlk
import Derived.Laws.Cells
namespace Go.Proofs.Ytoehkegbmphlhaa
set_option linter.unusedSimpArgs false
set_option linter.unusedVariables false
open Go.RowKit

theorem wpList_at {P : Program} {ops : Array Oper} {rest : List Oper} {Q : Exit → Act → World → Prop} {a : Act} {w : World} (F : World → Prop) (hF : F w) (h : ∀ W, F W → wpList P ops Q rest a W) : wpList P ops Q rest a w := h w hF
theorem wp_build {P : Program} {ops : Array Oper} {rest : List Oper} {o : Oper} {a : Act} {w : World} {Q : Exit → Act → World → Prop} (hw : Region.wanted o (yielded ops a.tmps) = true) (ty : TypeId) (parts : Array (Nat × Operand)) (ho : o.op = .build ty parts)
    (v : Value) (hrun : (Instr.build ty (parts.map fun (i, x) => (i, a.eval x))).run P w = .ok v w) (hk : wpList P ops Q rest (a.put o.dst v) w) : wpList P ops Q (o :: rest) a w := by
  refine wpList_wanted hw ?_
  unfold Oper.wp
  simp [execOp, ho, hrun, Result.andThen]
  exact hk
theorem Addr.add_off (B i j : Nat) : (⟨B, i, none⟩ : Addr).add j = ⟨B, i + j, none⟩ := by
  unfold Addr.add
  by_cases h0 : j = 0
  · subst h0; rfl
  · rw [if_neg h0]
theorem wp_index_sub {P : Program} {ops : Array Oper} {rest : List Oper} {o : Oper} {a : Act} {w : World} {Q : Exit → Act → World → Prop} (hw : Region.wanted o (yielded ops a.tmps) = true) (ty : TypeId) (x y : Operand) (ho : o.op = .indexAddr ty x y)
    (B i : Nat) (hx : a.eval x = .pointer (some ⟨B, 0, none⟩)) (hy : a.eval y = .int .i64 (i : Int)) (n : Nat) (el : TypeId) (hu : P.underlying ty = some (.array n el)) (m : Nat) (hi : (P.info? el).map (·.size) = some m) (h : i < n)
    (hk : wpList P ops Q rest (a.put o.dst (.pointer (some ⟨B, i * m, none⟩))) w) : wpList P ops Q (o :: rest) a w := by
  refine wpList_wanted hw ?_
  obtain ⟨info, hi1, hi2⟩ : ∃ info, P.info? el = some info ∧ info.size = m := by
    cases hq : P.info? el with
    | none => rw [hq] at hi; cases hi
    | some info => rw [hq] at hi; exact ⟨info, rfl, by simpa using hi⟩
  have hz : (sizeOf el).run P w = .ok m w := by simp [sizeOf, typeInfo, hi1, hi2]
  have hrun : (Instr.indexAt ty (.pointer (some ⟨B, 0, none⟩)) (.int .i64 (i : Int))).run P w = .ok (.pointer (some ⟨B, i * m, none⟩)) w := by
    simp [Instr.indexAt, asIntOf, run_underlying hu, Instr.sureAddr, hz, h, Addr.add_off]
  unfold Oper.wp
  simp [execOp, ho, hx, hy, hrun, Result.andThen]
  exact hk
theorem wp_load_sub {P : Program} {ops : Array Oper} {rest : List Oper} {o : Oper} {a : Act} {w : World} {Q : Exit → Act → World → Prop} (hw : Region.wanted o (yielded ops a.tmps) = true) (ty : TypeId) (x : Operand) (ho : o.op = .load ty x)
    (B off : Nat) (hx : a.eval x = .pointer (some ⟨B, off, none⟩)) {te : TypeId} {k : IntKind} {xs ys : List Nat} (hB : Blk w B te k xs) (n m : Nat) (el : TypeId) (hu : P.underlying ty = some (.array n el)) (hi : (P.info? ty).map (·.size) = some m)
    (hys : (xs.drop off).take m = ys) (hl : ys.length = m) (h : wpList P ops Q rest (a.put o.dst (.agg (nv k ys).toArray)) w) : wpList P ops Q (o :: rest) a w := by
  refine wpList_wanted hw ?_
  obtain ⟨info, hi1, hi2⟩ : ∃ info, P.info? ty = some info ∧ info.size = m := by
    cases hq : P.info? ty with
    | none => rw [hq] at hi; cases hi
    | some info => rw [hq] at hi; exact ⟨info, rfl, by simpa using hi⟩
  have hz : (sizeOf ty).run P w = .ok m w := by simp [sizeOf, typeInfo, hi1, hi2]
  have hagg : (isAgg ty).run P w = .ok true w := by simp [isAgg, run_underlying hu]
  have hcells := run_loadCells_list (P := P) w ⟨B, off, none⟩ (nv k ys) (fun j v hv => by
    have hj : j < ys.length := by
      have := (List.getElem?_eq_some_iff.1 hv).1; simpa [nv] using this
    rw [Addr.add_off]
    have h1 : off + j < xs.length := by
      rw [← hys] at hj; simp at hj; omega
    rw [hB.cell (off + j) h1, ← hv, nv_get k ys j hj, ← hys]
    congr 3
    simp only [List.getD_eq_getElem?_getD]
    rw [List.getElem?_take_of_lt (by omega), List.getElem?_drop])
  rw [nv_length, hl] at hcells
  have hrun : (Instr.loadAt ty (.pointer (some ⟨B, off, none⟩))).run P w = .ok (.agg (nv k ys).toArray) w := by
    simp [Instr.loadAt, Instr.sureAddr, loadVar, hagg, hz, hcells]
  unfold Oper.wp
  simp [execOp, ho, hx, hrun, Result.andThen]
  exact h
end Go.Proofs.Ytoehkegbmphlhaa
