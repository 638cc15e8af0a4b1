/- Regions that draw their order: loads that stand side by side ahead of a call come to one end, in whatever order. -/
import Derived.Test.YtoehkegbmphlhaaBlk
import Derived.BigRegion
import Derived.Maps.RangeWalk
namespace Go.Proofs.Ytoehkegbmphlhaa
set_option linter.unusedSimpArgs false
set_option linter.unusedVariables false
open Go.RowKit

section
variable {P : Program} {ops : Array Oper} {Q : Exit → Act → World → Prop} {md : Region.Mode}

/-- In state a and world w the operation yields v, and the world stays. -/
def At (P : Program) (ops : Array Oper) (o : Oper) (v : Value) (a : Act) (w : World) : Prop :=
  Region.wanted o (yielded ops a.tmps) = true ∧ (execOp a.eval o).run P w = .ok (.value v) w

theorem yields_move {o : Oper} {a : Act} {x : Operand} {v : Value} (ho : o.op = .move x) (hg : o.guard = none) (hx : a.eval x = v) : Yields P ops o v a :=
  Or.inl ⟨by simp [Region.wanted, hg], fun w => by simp [execOp, ho, hx]⟩
theorem yields_assign {o : Oper} {a : Act} {x : Operand} {v : Value} (ho : o.op = .assign x) (hg : o.guard = none) (hx : a.eval x = v) : Yields P ops o v a :=
  Or.inl ⟨by simp [Region.wanted, hg], fun w => by simp [execOp, ho, hx]⟩
theorem yields_extract {o : Oper} {a : Act} {x : Operand} {vs : Array Value} {n : Nat} {v : Value} (ho : o.op = .extract x n) (hg : o.guard = none) (hx : a.eval x = .tuple vs) (hv : vs[n]? = some v) : Yields P ops o v a :=
  Or.inl ⟨by simp [Region.wanted, hg], fun w => by simp [execOp, ho, hx, Instr.extract, hv]⟩
theorem run_indexAt_arr {ty el : TypeId} {n : Nat} {info : TypeInfo} (hu : P.underlying ty = some (.array n el)) (hi : P.info? el = some info) (hs : info.size = 1) (B i : Nat) (h : i < n) (w : World) :
    (Instr.indexAt ty (.pointer (some ⟨B, 0, none⟩)) (.int .i64 (i : Int))).run P w = .ok (.pointer (some ⟨B, i, none⟩)) w := by
  have hz : (sizeOf el).run P w = .ok 1 w := by simp [sizeOf, typeInfo, hi, hs]
  have he : (⟨B, 0, none⟩ : Addr).add i = ⟨B, i, none⟩ := by
    unfold Addr.add
    by_cases h0 : i = 0
    · subst h0; rfl
    · rw [if_neg h0]; simp
  simp [Instr.indexAt, asIntOf, run_underlying hu, Instr.sureAddr, hz, h, he]
theorem yields_indexAddr {o : Oper} {a : Act} {x y : Operand} {ty el : TypeId} {n : Nat} {info : TypeInfo} {B i : Nat} (ho : o.op = .indexAddr ty x y) (hg : o.guard = none) (hx : a.eval x = .pointer (some ⟨B, 0, none⟩)) (hy : a.eval y = .int .i64 (i : Int))
    (hu : P.underlying ty = some (.array n el)) (hi : P.info? el = some info) (hs : info.size = 1) (h : i < n) : Yields P ops o (.pointer (some ⟨B, i, none⟩)) a :=
  Or.inl ⟨by simp [Region.wanted, hg], fun w => by simp [execOp, ho, hx, hy, run_indexAt_arr hu hi hs B i h w]⟩
theorem at_load {o : Oper} {a : Act} {x : Operand} {ty : TypeId} {k : IntKind} {ad : Addr} {v : Value} {w : World} (ho : o.op = .load ty x) (hg : o.guard = none) (hx : a.eval x = .pointer (some ad)) (hu : P.underlying ty = some (.int k)) (hc : w.cell? ad = some v) : At P ops o v a w := by
  refine ⟨by simp [Region.wanted, hg], ?_⟩
  have hagg : (isAgg ty).run P w = .ok false w := by simp [isAgg, run_underlying hu]
  simp [execOp, ho, hx, Instr.loadAt, Instr.sureAddr, loadVar, hagg, hc]

/-- Just the operations 'is' may come up, and each of them leaves just the others. -/
def batchB (md : Region.Mode) (ops : Array Oper) : Nat → Array Bool → List Nat → Bool
  | 0, _, _ => true
  | n + 1, listed, is => (Region.ready md ops listed == is) && is.all fun i => batchB md ops n (listed.setIfInBounds i true) (is.erase i)
def apartB (ops : Array Oper) (is : List Nat) : Bool :=
  is.all fun i => is.all fun j => i == j || (match ops[i]?, ops[j]? with | some x, some y => x.apart ops y | _, _ => false)
theorem apartB_spec {is : List Nat} (h : apartB ops is = true) {i j : Nat} (hi : i ∈ is) (hj : j ∈ is) (hne : i ≠ j) {x y : Oper} (hx : ops[i]? = some x) (hy : ops[j]? = some y) : x.apart ops y = true := by
  have h1 := List.all_eq_true.1 (List.all_eq_true.1 h i hi) j hj
  simp only [hx, hy, Bool.or_eq_true, beq_iff_eq] at h1
  exact h1.resolve_left hne

def listAll (listed : Array Bool) (is : List Nat) : Array Bool := is.foldl (fun l i => l.setIfInBounds i true) listed
def putAll (ops : Array Oper) (val : Nat → Value) (a : Act) (is : List Nat) : Act := is.foldl (fun a i => a.put ((ops[i]?).bind (·.dst)) (val i)) a

theorem listAll_perm {is js : List Nat} (h : is.Perm js) (listed : Array Bool) : listAll listed is = listAll listed js := by
  unfold listAll
  refine List.Perm.foldl_eq' h (fun x _ y _ z => ?_) _
  by_cases hxy : x = y
  · subst hxy; rfl
  · exact Array.setIfInBounds_comm _ _ hxy
theorem putAll_perm {is js : List Nat} (h : is.Perm js) (hap : apartB ops is = true) (hall : ∀ i ∈ is, ∃ o, ops[i]? = some o) (val : Nat → Value) (a : Act) : putAll ops val a is = putAll ops val a js := by
  unfold putAll
  refine List.Perm.foldl_eq' h (fun x hx y hy z => ?_) _
  by_cases hxy : x = y
  · subst hxy; rfl
  · obtain ⟨ox, hox⟩ := hall x hx
    obtain ⟨oy, hoy⟩ := hall y hy
    have hs := Oper.apart_spec (apartB_spec hap hx hy hxy hox hoy)
    simp only [hox, hoy, Option.bind_some]
    exact Act.put_comm z _ _ hs.2.1

theorem apartB_erase {is : List Nat} (h : apartB ops is = true) (i : Nat) : apartB ops (is.erase i) = true := by
  unfold apartB at *
  rw [List.all_eq_true] at *
  intro x hx
  have h1 := h x (List.mem_of_mem_erase hx)
  rw [List.all_eq_true] at *
  intro y hy
  exact h1 y (List.mem_of_mem_erase hy)

/-- **A batch of operations that only read: one order serves all.** -/
theorem wpAny_batch (hsel : Region.noSelect ops = true) {fuel : Nat} {w : World} (val : Nat → Value) : ∀ (n : Nat) (is : List Nat) (listed : Array Bool) (a : Act), is.length = n → is.Nodup →
    batchB md ops n listed is = true → apartB ops is = true → (∀ i ∈ is, ∃ o, ops[i]? = some o ∧ At P ops o (val i) a w) →
    wpAny P md ops Q fuel (listAll listed is) (putAll ops val a is) w → wpAny P md ops Q (fuel + n) listed a w := by
  intro n
  induction n with
  | zero =>
    intro is listed a hl _ _ _ _ h
    obtain rfl := List.eq_nil_of_length_eq_zero hl
    exact h
  | succ n ih =>
    intro is listed a hl hnd hB hap hval h
    simp only [batchB, Bool.and_eq_true, beq_iff_eq] at hB
    obtain ⟨hr, hB⟩ := hB
    refine ⟨fun h0 => ?_, fun i hi => ?_⟩
    · rw [hr] at h0; subst h0; simp at hl
    · rw [hr] at hi
      obtain ⟨o, ho, hw, hrun⟩ := hval i hi
      have hK : wpAny P md ops Q (fuel + n) (listed.setIfInBounds i true) (a.put o.dst (val i)) w := by
        refine ih (is.erase i) _ _ (by rw [List.length_erase_of_mem hi, hl]; rfl) (hnd.erase i) (List.all_eq_true.1 hB i hi) (apartB_erase hap i) ?_ ?_
        · intro j hj
          have hj' := List.mem_of_mem_erase hj
          have hne : j ≠ i := fun e => by subst e; exact (List.Nodup.not_mem_erase hnd) hj
          obtain ⟨oj, hoj, hwj, hrj⟩ := hval j hj'
          have hs := Oper.apart_spec (apartB_spec hap hi hj' (Ne.symm hne) ho hoj)
          have hselj := Region.noSelect_spec hsel j oj
          exact ⟨oj, hoj, by rw [wanted_put oj a o.dst _ hs.1]; exact hwj, by rw [execOp_put oj (fun cs b => hselj cs b hoj) a o.dst _ hs.1]; exact hrj⟩
        · have hp := List.perm_cons_erase hi
          have e1 := listAll_perm hp listed
          have e2 := putAll_perm hp hap (fun j hj => let ⟨oj, hoj, _⟩ := hval j hj; ⟨oj, hoj⟩) val a
          rw [e1, e2] at h
          simpa [listAll, putAll, ho] using h
      unfold wpOp
      simp only [ho]
      rw [if_pos hw]
      refine .inl ?_
      unfold Oper.wp
      rw [hrun]
      exact hK
theorem wpAny_batch4 (hsel : Region.noSelect ops = true) {fuel : Nat} {w : World} {listed : Array Bool} {a : Act} (i1 i2 i3 i4 : Nat) {o1 o2 o3 o4 : Oper} (v1 v2 v3 v4 : Value)
    (hn : [i1, i2, i3, i4].Nodup) (hB : batchB md ops 4 listed [i1, i2, i3, i4] = true) (hap : apartB ops [i1, i2, i3, i4] = true)
    (h1 : ops[i1]? = some o1) (h2 : ops[i2]? = some o2) (h3 : ops[i3]? = some o3) (h4 : ops[i4]? = some o4)
    (y1 : At P ops o1 v1 a w) (y2 : At P ops o2 v2 a w) (y3 : At P ops o3 v3 a w) (y4 : At P ops o4 v4 a w)
    (h : wpAny P md ops Q fuel ((((listed.setIfInBounds i1 true).setIfInBounds i2 true).setIfInBounds i3 true).setIfInBounds i4 true) ((((a.put o1.dst v1).put o2.dst v2).put o3.dst v3).put o4.dst v4) w) :
    wpAny P md ops Q (fuel + 4) listed a w := by
  simp only [List.nodup_cons, List.mem_cons, List.not_mem_nil, or_false, not_or, not_false_eq_true, and_true, List.nodup_nil] at hn
  obtain ⟨⟨n12, n13, n14⟩, ⟨n23, n24⟩, n34⟩ := hn
  refine wpAny_batch hsel (fun j => if j = i1 then v1 else if j = i2 then v2 else if j = i3 then v3 else v4) 4 [i1, i2, i3, i4] listed a rfl (by simp [n12, n13, n14, n23, n24, n34]) hB hap ?_ ?_
  · intro j hj
    simp only [List.mem_cons, List.not_mem_nil, or_false] at hj
    rcases hj with rfl | rfl | rfl | rfl
    · exact ⟨_, h1, by rw [if_pos rfl]; exact y1⟩
    · exact ⟨_, h2, by rw [if_neg (Ne.symm n12), if_pos rfl]; exact y2⟩
    · exact ⟨_, h3, by rw [if_neg (Ne.symm n13), if_neg (Ne.symm n23), if_pos rfl]; exact y3⟩
    · exact ⟨_, h4, by rw [if_neg (Ne.symm n14), if_neg (Ne.symm n24), if_neg (Ne.symm n34)]; exact y4⟩
  · simp only [listAll, putAll, List.foldl_cons, List.foldl_nil, h1, h2, h3, h4, Option.bind_some, if_true, if_neg (Ne.symm n12), if_neg (Ne.symm n13), if_neg (Ne.symm n23), if_neg (Ne.symm n14), if_neg (Ne.symm n24), if_neg (Ne.symm n34)]
    exact h
theorem run_storeAt_int {ty : TypeId} {info : TypeInfo} (hi : P.info? ty = some info) (hs : info.size = 1) {ad : Addr} {k : IntKind} {n : Int} {old : Value} {w : World} (hc : w.cell? ad = some old) (hf : w.frozen? ad = false) :
    (Instr.storeAt ty (.pointer (some ad)) (.int k n)).run P w = .ok () (w.setCell ad (.int k n)) := by
  have hz : (sizeOf ty).run P w = .ok 1 w := by simp [sizeOf, typeInfo, hi, hs]
  simp [Instr.storeAt, Instr.sureAddr, storeVar, hz, storeCells, go_sem, hc, hf, Value.cells]
theorem wpAny_call {fuel : Nat} {listed : Array Bool} {a : Act} {w : World} {i : Nat} {o : Oper} {d : Option Nat} {f : FuncId} {args : Array Value} {v : Value} {R : World → Prop} (hr : Region.ready md ops listed = [i]) (ho : ops[i]? = some o) (hd : o.dst = d) (hg : o.guard = none)
    (hrun : (execOp a.eval o).run P w = .ok (.enter f args) w) (hc : Calls P f args w fun e w' => e = .returned v ∧ R w') (h : ∀ w', R w' → wpAny P md ops Q fuel (listed.setIfInBounds i true) (a.put d v) w') : wpAny P md ops Q (fuel + 1) listed a w := by
  refine ⟨fun h0 => by simp [hr] at h0, fun j hj => ?_⟩
  rw [hr] at hj
  obtain rfl : j = i := by simpa using hj
  unfold wpOp
  simp only [ho]
  rw [if_pos (by simp [Region.wanted, hg])]
  refine .inl ?_
  unfold Oper.wp
  rw [hrun, Oper.upon_enter]
  refine hc.mono ?_
  rintro e w' ⟨rfl, hR⟩
  exact hd ▸ h w' hR
theorem wpAny_store {fuel : Nat} {listed : Array Bool} {a : Act} {w : World} {i : Nat} {o : Oper} {ty : TypeId} {x y : Operand} {ad : Addr} {k : IntKind} {n : Int} {old : Value} {info : TypeInfo} (hr : Region.ready md ops listed = [i]) (ho : ops[i]? = some o) (hop : o.op = .store ty x y) (hd : o.dst = none) (hg : o.guard = none)
    (hx : a.eval x = .pointer (some ad)) (hy : a.eval y = .int k n) (hi : P.info? ty = some info) (hs : info.size = 1) (hc : w.cell? ad = some old) (hf : w.frozen? ad = false) (h : wpAny P md ops Q fuel (listed.setIfInBounds i true) a (w.setCell ad (.int k n))) : wpAny P md ops Q (fuel + 1) listed a w := by
  refine ⟨fun h0 => by simp [hr] at h0, fun j hj => ?_⟩
  rw [hr] at hj
  obtain rfl : j = i := by simpa using hj
  unfold wpOp
  simp only [ho]
  rw [if_pos (by simp [Region.wanted, hg])]
  refine .inl ?_
  unfold Oper.wp
  have hrun : (execOp a.eval o).run P w = .ok .skip (w.setCell ad (.int k n)) := by simp [execOp, hop, hx, hy, run_storeAt_int hi hs hc hf]
  rw [hrun, Oper.upon_skip, hd]
  exact h
/-- wpAny_take with the operation's own parts told. -/
theorem wpAny_step {i : Nat} {oi : Oper} {v : Value} {d : Nat} {fuel : Nat} {listed : Array Bool} {a : Act} {w : World} (hi : ops[i]? = some oi) (hd : oi.dst = some d)
    (hs : Region.noSelect ops = true) (hf : Region.free md ops listed i = true) (hr : (Region.ready md ops listed).contains i = true)
    (hQ : ∀ c a w, Q (.panic c) (a.put (some d) v) w → Q (.panic c) a w) (hy : Yields P ops oi v a)
    (h : wpAny P md ops Q fuel (listed.setIfInBounds i true) (a.put (some d) v) w) : wpAny P md ops Q (fuel + 1) listed a w :=
  wpAny_take hi hs hf hr (hd ▸ hQ) hy (hd ▸ h)
theorem wpAny_step4 (hsel : Region.noSelect ops = true) {fuel : Nat} {w : World} {listed : Array Bool} {a : Act} (i1 i2 i3 i4 : Nat) (d1 d2 d3 d4 : Nat) {o1 o2 o3 o4 : Oper} (v1 v2 v3 v4 : Value)
    (hn : [i1, i2, i3, i4].Nodup) (hB : batchB md ops 4 listed [i1, i2, i3, i4] = true) (hap : apartB ops [i1, i2, i3, i4] = true)
    (h1 : ops[i1]? = some o1) (h2 : ops[i2]? = some o2) (h3 : ops[i3]? = some o3) (h4 : ops[i4]? = some o4)
    (e1 : o1.dst = some d1) (e2 : o2.dst = some d2) (e3 : o3.dst = some d3) (e4 : o4.dst = some d4)
    (y1 : At P ops o1 v1 a w) (y2 : At P ops o2 v2 a w) (y3 : At P ops o3 v3 a w) (y4 : At P ops o4 v4 a w)
    (h : wpAny P md ops Q fuel ((((listed.setIfInBounds i1 true).setIfInBounds i2 true).setIfInBounds i3 true).setIfInBounds i4 true) ((((a.put (some d1) v1).put (some d2) v2).put (some d3) v3).put (some d4) v4) w) :
    wpAny P md ops Q (fuel + 4) listed a w :=
  wpAny_batch4 hsel i1 i2 i3 i4 v1 v2 v3 v4 hn hB hap h1 h2 h3 h4 y1 y2 y3 y4 (by rw [e1, e2, e3, e4]; exact h)
end

end Go.Proofs.Ytoehkegbmphlhaa
