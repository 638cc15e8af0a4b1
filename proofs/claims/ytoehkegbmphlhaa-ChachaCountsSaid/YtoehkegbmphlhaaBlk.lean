/- Blocks of numbers of one kind: reading, writing, keeping them. -/
import Derived.Test.YtoehkegbmphlhaaBase
import Derived.WalkSmall
import Derived.Deep.WholeRow
namespace Go.Proofs.Ytoehkegbmphlhaa
set_option linter.unusedSimpArgs false
set_option linter.unusedVariables false
open Go.RowKit

def nv (k : IntKind) (xs : List Nat) : List Value := xs.map fun n => .int k ((n : Nat) : Int)
theorem nv_length (k : IntKind) (xs : List Nat) : (nv k xs).length = xs.length := by simp [nv]
theorem nv_get (k : IntKind) (xs : List Nat) (i : Nat) (h : i < xs.length) : (nv k xs)[i]? = some (.int k ((xs.getD i 0 : Nat) : Int)) := by
  simp [nv, List.getD_eq_getElem?_getD, List.getElem?_eq_getElem h]
theorem nv_set (k : IntKind) (xs : List Nat) (i v : Nat) : nv k (xs.set i v) = (nv k xs).set i (.int k ((v : Nat) : Int)) := by simp [nv, List.map_set]

/-- Block B is a row of the numbers xs, of kind k (element type e), and nothing of it is frozen. -/
def Blk (w : World) (B : Nat) (e : TypeId) (k : IntKind) (xs : List Nat) : Prop := w.heap[B]? = some (.cells (nv k xs).toArray e (0, 0))

section
variable {w w' : World} {B : Nat} {e : TypeId} {k : IntKind} {xs : List Nat}
theorem Blk.lt (h : Blk w B e k xs) : B < w.heap.size := (Array.getElem?_eq_some_iff.1 h).1
theorem Blk.cell (h : Blk w B e k xs) (i : Nat) (hi : i < xs.length) : w.cell? ⟨B, i, none⟩ = some (.int k ((xs.getD i 0 : Nat) : Int)) := by
  unfold World.cell?
  rw [show w.heap[(⟨B, i, none⟩ : Addr).block]? = _ from h]
  simpa using nv_get k xs i hi
theorem Blk.frozen (h : Blk w B e k xs) (i : Nat) : w.frozen? ⟨B, i, none⟩ = false := by
  unfold World.frozen?
  rw [show w.heap[(⟨B, i, none⟩ : Addr).block]? = _ from h]
  simp
theorem Blk.set (h : Blk w B e k xs) (i v : Nat) : Blk (w.setCell ⟨B, i, none⟩ (.int k ((v : Nat) : Int))) B e k (xs.set i v) := by
  unfold Blk
  rw [nv_set]
  have := heap_setCell_same w B i (nv k xs).toArray e (.int k ((v : Nat) : Int)) h
  simpa using this
theorem Blk.other (h : Blk w B e k xs) (a : Addr) (u : Value) (hne : B ≠ a.block) : Blk (w.setCell a u) B e k xs := by
  unfold Blk
  rw [Below.heap_setCell _ _ _ _ hne]
  exact h
theorem Blk.below (h : Blk w B e k xs) (hb : Below w.heap.size w w') : Blk w' B e k xs := by
  unfold Blk
  rw [hb.block B h.lt]
  exact h
theorem Blk.grown (h : Blk w B e k xs) {row : Option Nat} (hg : w.grownBy w' row) (hne : some B ≠ row) : Blk w' B e k xs := by
  unfold Blk
  rw [hg.block B h.lt hne]
  exact h
theorem Blk.drewN (h : Blk w B e k xs) (n : Nat) : Blk (w.drewN n) B e k xs := h
theorem Blk.alloc (h : Blk w B e k xs) (o : Obj) : Blk (w.alloc o) B e k xs := h.below (xnew _ _)
end
theorem Blk.new (w : World) (e : TypeId) (k : IntKind) (xs : List Nat) (cs : Array Value) (h : cs = (nv k xs).toArray) : Blk (w.alloc (.cells cs e)) w.heap.size e k xs := by
  subst h
  unfold Blk
  show (w.heap.push _)[w.heap.size]? = _
  simp
/-- A block of bytes, read as a slice of all of it. -/
theorem Blk.rd {w : World} {B : Nat} {xs : List Nat} {e : TypeId} (h : Blk w B e .u8 xs) (n : Nat) (hn : xs.length = n) (hb : ∀ x ∈ xs, x < 256) (hl : n ≤ 1000000000) : RdB w (some ⟨B, 0, none⟩) n n xs := by
  subst hn
  exact ⟨hl, rfl, Nat.le_refl _, by omega, hb, by simp, .inr ⟨B, 0, rfl, h.lt, fun i hi => by rw [Nat.zero_add]; exact h.cell i hi⟩⟩

/-! ### Whole arrays -/
theorem nv_one (k : IntKind) (xs : List Nat) : (nv k xs).toArray.all (·.oneCell') = true := by
  rw [List.all_toArray, List.all_eq_true]
  intro u hu
  simp only [nv, List.mem_map] at hu
  obtain ⟨n, _, rfl⟩ := hu
  rfl
theorem wpList_wanted {P : Program} {ops : Array Oper} {rest : List Oper} {o : Oper} {a : Act} {w : World} {Q : Exit → Act → World → Prop} (hw : Region.wanted o (yielded ops a.tmps) = true)
    (h : o.wp P a w (wpList P ops Q rest) Q) : wpList P ops Q (o :: rest) a w := by
  unfold wpList
  rw [if_pos hw]
  exact .inl h
/-- A whole array out of its variable. -/
theorem wp_load_arr {P : Program} {ops : Array Oper} {rest : List Oper} {o : Oper} {a : Act} {w : World} {Q : Exit → Act → World → Prop} (hw : Region.wanted o (yielded ops a.tmps) = true) (ty : TypeId) (x : Operand) (ho : o.op = .load ty x)
    (B : Nat) (hx : a.eval x = .pointer (some ⟨B, 0, none⟩)) {te : TypeId} {k : IntKind} {xs : List Nat} (hB : Blk w B te k xs) (n : Nat) (el : TypeId) (hu : P.underlying ty = some (.array n el)) (hi : (P.info? ty).map (·.size) = some xs.length)
    (h : wpList P ops Q rest (a.put o.dst (.agg (nv k xs).toArray)) w) : wpList P ops Q (o :: rest) a w :=
  wpList_wanted hw (wp_load_row ty x ho B hx te (nv k xs).toArray (0, 0) _ hB hu rfl (by rw [hi]; simp [nv]) h)
/-- A whole array into the variable that was made last. -/
theorem wp_store_new {P : Program} {ops : Array Oper} {rest : List Oper} {o : Oper} {a : Act} {w : World} {Q : Exit → Act → World → Prop} (hw : Region.wanted o (yielded ops a.tmps) = true) (ty : TypeId) (x y : Operand) (ho : o.op = .store ty x y)
    (hx : a.eval x = .pointer (some ⟨w.heap.size, 0, none⟩)) (c c' : Array Value) (hy : a.eval y = .agg c') (hi : (P.info? ty).map (·.size) = some c'.size) (hs : c.size = c'.size) (h1 : c'.all (·.oneCell') = true)
    (h : wpList P ops Q rest (a.put o.dst undef) (w.alloc (.cells c' ty))) : wpList P ops Q (o :: rest) a (w.alloc (.cells c ty)) := by
  refine wpList_wanted hw ?_
  have hrun := run_storeAt_new (P := P) w ty c c' hi hs h1
  unfold Oper.wp
  simp [execOp, ho, hx, hy, hrun, Result.andThen]
  exact h
/-- A whole array into any variable of the call's own. -/
theorem wp_store_arr {P : Program} {ops : Array Oper} {rest : List Oper} {o : Oper} {a : Act} {w : World} {Q : Exit → Act → World → Prop} (hw : Region.wanted o (yielded ops a.tmps) = true) (ty : TypeId) (x y : Operand) (ho : o.op = .store ty x y)
    (B : Nat) (hx : a.eval x = .pointer (some ⟨B, 0, none⟩)) {te : TypeId} {k : IntKind} {xs ys : List Nat} (hB : Blk w B te k xs) (hy : a.eval y = .agg (nv k ys).toArray) (hi : (P.info? ty).map (·.size) = some ys.length) (hs : xs.length = ys.length)
    (h : ∀ w', Blk w' B te k ys → w.grownBy w' (some B) → wpList P ops Q rest (a.put o.dst undef) w') : wpList P ops Q (o :: rest) a w := by
  refine wpList_wanted hw ?_
  have hrun := run_storeVar_row (P := P) w B te ty (nv k xs).toArray (nv k ys).toArray hB (by rw [hi]; simp [nv]) (by simp [nv, hs]) (nv_one k ys)
  have hrun2 : (Instr.storeAt ty (.pointer (some ⟨B, 0, none⟩)) (.agg (nv k ys).toArray)).run P w = .ok () (w.setRow B (nv k ys).toArray) := by
    simp only [Instr.storeAt, Instr.sureAddr, Sem.run_bind, Sem.run_pure, Result.andThen]
    exact hrun
  unfold Oper.wp
  simp [execOp, ho, hx, hy, hrun2, Result.andThen]
  refine h _ ?_ ?_
  · unfold Blk World.setRow
    simp only [Array.getElem?_modify, if_true]
    rw [show w.heap[B]? = _ from hB]
    rfl
  · refine ⟨rfl, rfl, rfl, by simp [World.setRow], fun j hj hne => ?_⟩
    unfold World.setRow
    simp only [Array.getElem?_modify]
    rw [if_neg (fun e => hne (by rw [e]))]

/-- An element of an array that is a value. -/
theorem run_index_arr {P : Program} {ty el : TypeId} {n : Nat} {info : TypeInfo} {q : IntKind} (hu : P.underlying ty = some (.array n el)) (he : P.underlying el = some (.int q)) (hi : P.info? el = some info) (hs : info.size = 1) (k : IntKind) (xs : List Nat) (hl : xs.length = n) (i : Nat) (h : i < n) (w : World) :
    (Instr.index ty (.agg (nv k xs).toArray) (.int .i64 (i : Int))).run P w = .ok (.int k ((xs.getD i 0 : Nat) : Int)) w := by
  have hz : (sizeOf el).run P w = .ok 1 w := by
    simp [sizeOf, typeInfo, hi, hs]
  have hg : (nv k xs)[i]? = some (.int k ((xs.getD i 0 : Nat) : Int)) := nv_get k xs i (by omega)
  have hagg : (isAgg el).run P w = .ok false w := by
    simp [isAgg, run_underlying he]
  simp [Instr.index, asIntOf, run_underlying hu, hz, part, hagg, hg, h]

/-! ### The middle of a row -/
theorem mid_get (pre X post : List Nat) (i : Nat) (h : i < X.length) : (pre ++ X ++ post).getD (pre.length + i) 0 = X.getD i 0 := by
  simp [List.getD_eq_getElem?_getD, List.getElem?_append_left, List.getElem?_append_right, h]
theorem mid_set (pre X post : List Nat) (i v : Nat) (h : i < X.length) : (pre ++ X ++ post).set (pre.length + i) v = pre ++ X.set i v ++ post := by
  rw [List.set_append_left _ _ (by simp; omega), List.set_append_right _ _ (by omega)]
  simp

/-! ### A world is forgotten but for what is said of it -/
theorem at_world {P : Program} {c : Code} {Q : Exit → Act → World → Prop} {a : Act} {w : World} (F : World → Prop) (hF : F w) (h : ∀ W, F W → Code.wp P c Q a W) : Code.wp P c Q a w := h w hF

theorem ne_some {a b : Nat} (h : a ≠ b) : some a ≠ some b := fun e => h (Option.some.inj e)

/-! ### Frames -/
theorem gbelow {w0 w w' : World} {B : Nat} (h : Below w0.heap.size w0 w) (hg : w.grownBy w' (some B)) (hB : w0.heap.size ≤ B) : Below w0.heap.size w0 w' :=
  h.grown hg h.size (fun k hk => by cases hk; exact hB)
theorem gset {w w' : World} {B : Nat} (hg : w.grownBy w' (some B)) (i : Nat) (u : Value) : w.grownBy (w'.setCell ⟨B, i, none⟩ u) (some B) :=
  ⟨hg.os, hg.tape, hg.output, by show w.heap.size ≤ (w'.setCell ⟨B, i, none⟩ u).heap.size; have := hg.size; simpa [World.setCell] using this, fun k hk hne => by
    rw [Below.heap_setCell _ _ _ _ (fun e => hne (by rw [e]))]; exact hg.block k hk hne⟩
theorem gdrewN {w w' : World} {row : Option Nat} (hg : w.grownBy w' row) (n : Nat) : w.grownBy (w'.drewN n) row := ⟨hg.os, hg.tape, hg.output, hg.size, hg.block⟩
end Go.Proofs.Ytoehkegbmphlhaa
