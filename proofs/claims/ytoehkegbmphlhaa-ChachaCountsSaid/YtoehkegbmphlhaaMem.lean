/- Operations that make or write memory, each alone (for regions that draw their order); what stays. -/
import Derived.Test.YtoehkegbmphlhaaOwn
import Derived.Test.YtoehkegbmphlhaaBlk
import Derived.Test.YtoehkegbmphlhaaEq
import Derived.Test.YtoehkegbmphlhaaSub
import Derived.Maps.AppendAt
import Derived.Laws.MakeOwn
namespace Go.Proofs.Ytoehkegbmphlhaa
set_option linter.unusedSimpArgs false
set_option linter.unusedVariables false
open Go.RowKit

theorem region_cut {P : Program} {c : Code} {Q : Exit → Act → World → Prop} {a : Act} {w : World} (R : Act → Act → World → Prop) (h1 : Code.wp P c (fun e a' w' => e = .normal ∧ R a a' w') a w) (h2 : ∀ a' w', R a a' w' → Q .normal a' w') : Code.wp P c Q a w :=
  Code.wp_mono (fun _ a' w' h => by rw [h.1]; exact h2 a' w' h.2) h1

theorem below_grown {w w' : World} (h : Below w.heap.size w w') : w.grownBy w' none := ⟨h.os, h.tape, h.output, h.size, fun k hk _ => h.block k hk⟩
theorem alloc_grown (w : World) (o : Obj) : w.grownBy (w.alloc o) none := World.grownBy_alloc w o none
theorem RdB.grown {w w' : World} {a : Option Addr} {n c : Nat} {bs : List Nat} {row : Option Nat} (h : RdB w a n c bs) (hg : w.grownBy w' row) (hne : ∀ x, a = some x → row ≠ some x.block) : RdB w' a n c bs := by
  obtain ⟨h0, h1, h2, h3, h4, h5, h6⟩ := h
  refine ⟨h0, h1, h2, h3, h4, h5, ?_⟩
  rcases h6 with h6 | ⟨b, off, rfl, hlt, hc⟩
  · exact .inl h6
  · exact .inr ⟨b, off, rfl, Nat.lt_of_lt_of_le hlt hg.size, fun i hi => hg.cell (hc i hi) (fun e => hne _ rfl e.symm)⟩
/-- What lay before a base is kept. -/
theorem grown_below {w w' : World} {row : Option Nat} {B : Nat} (hg : w.grownBy w' row) (hB : B ≤ w.heap.size) (hr : ∀ k, row = some k → B ≤ k) : Below B w w' := (Below.refl B w).grown hg hB hr
theorem Blk.belowB {w w' : World} {B b : Nat} {e : TypeId} {k : IntKind} {xs : List Nat} (h : Blk w b e k xs) (hb : Below B w w') (hlt : b < B) : Blk w' b e k xs := by
  unfold Blk
  rw [hb.block b hlt]
  exact h
theorem RdB.belowB {w w' : World} {B : Nat} {a : Option Addr} {n c : Nat} {bs : List Nat} (h : RdB w a n c bs) (hb : Below B w w') (hlt : ∀ x, a = some x → x.block < B) : RdB w' a n c bs := by
  obtain ⟨h0, h1, h2, h3, h4, h5, h6⟩ := h
  refine ⟨h0, h1, h2, h3, h4, h5, ?_⟩
  rcases h6 with h6 | ⟨b, off, rfl, hl, hc⟩
  · exact .inl h6
  · exact .inr ⟨b, off, rfl, Nat.lt_of_lt_of_le hl hb.size, fun i hi => (hb.cell (p := ⟨b, off + i, none⟩) (show b < B from hlt ⟨b, off, none⟩ rfl)).trans (hc i hi)⟩
theorem RdB.setN {w : World} {a : Option Addr} {n c : Nat} {bs : List Nat} (h : RdB w a n c bs) {B : Nat} (hne : ∀ x, a = some x → x.block ≠ B) (i : Nat) (u : Value) : RdB (w.setCell ⟨B, i, none⟩ u) a n c bs :=
  h.grown (gset (B := B) ⟨rfl, rfl, rfl, Nat.le_refl _, fun _ _ _ => rfl⟩ i u) (fun x hx e => hne x hx (Option.some.inj e).symm)
theorem RdB.drewN {w : World} {a : Option Addr} {n c : Nat} {bs : List Nat} (h : RdB w a n c bs) (m : Nat) : RdB (w.drewN m) a n c bs := h
theorem RdB.lt {w : World} {x : Addr} {n c : Nat} {bs : List Nat} (h : RdB w (some x) n c bs) (h0 : 0 < n) : x.block < w.heap.size := by
  obtain ⟨_, _, _, _, _, _, h6⟩ := h
  rcases h6 with h6 | ⟨b, off, he, hl, _⟩
  · omega
  · cases he; exact hl

/-- append(v, ys...): v owned, ys read: the operation alone; and where the new slice lies. -/
theorem wpo_append_at {o : Oper} {a : Act} {w : World} {K : Act → World → Prop} {Q : Exit → Act → World → Prop} (s x : Operand)
    (ho : o.op = .call { callee := .builtin .append, args := #[s, x], argTypes := #[42, 42] })
    (base : Nat) (v : Value) (xs : List Nat) (hs : a.eval s = v) (hown : Own w base v xs) (ad : Option Addr) (len cap : Nat) (ys : List Nat) (hx : a.eval x = .slice ad len cap) (hr : RdB w ad len cap ys)
    (hlen : xs.length + ys.length ≤ 1000000000) (hbase : base ≤ w.heap.size)
    (h : ∀ v' w', Own w' base v' (xs ++ ys) → w.grownBy w' v.ownBlock → (v'.ownBlock = v.ownBlock ∨ v'.ownBlock = some w.heap.size) → K (a.put o.dst v') w') :
    o.wp Try.prog a w K Q := by
  obtain ⟨i0, hi, hz0, hz1, hz2⟩ := info_parts infoB
  obtain ⟨hl, h1, h2, h3, h4, h5, h6⟩ := hr
  by_cases hnone : ad = none
  · subst hnone
    obtain rfl : cap = 0 := h5 rfl
    obtain rfl : len = 0 := by omega
    obtain rfl : ys = [] := List.eq_nil_of_length_eq_zero h1
    have hrun := run_append_owned_none (P := Try.prog) (w := w) base 42 o.type 5 i0 1 Try.underlying42 hi v xs.length (bv xs) hown.1
    unfold Oper.wp
    simp [execOp, ho, resolve, invoke, builtin, hs, hx, hrun, Result.andThen]
    exact h v w (by rw [List.append_nil]; exact hown) ⟨rfl, rfl, rfl, Nat.le_refl _, fun _ _ _ => rfl⟩ (.inl rfl)
  · obtain ⟨adr, rfl⟩ : ∃ adr, ad = some adr := by cases ad with
      | none => exact absurd rfl hnone
      | some x => exact ⟨x, rfl⟩
    have hnews : ∀ j u, (bv ys)[j]? = some u → w.cell? (adr.add j) = some u := by
      intro j u hj
      have hj' : j < ys.length := by
        have := (List.getElem?_eq_some_iff.1 hj).1
        rwa [bv_length] at this
      rcases h6 with h6 | ⟨b, off, hadr, hlt, hc⟩
      · omega
      · have hadr := Option.some.inj hadr
        subst hadr
        have e : (⟨b, off, none⟩ : Addr).add j = ⟨b, off + j, none⟩ := by
          unfold Addr.add
          by_cases h : j = 0
          · subst h; rfl
          · rw [if_neg h]
        rw [e, hc j (by omega)]
        have := bv_get ys j hj'
        rw [List.getElem?_toArray, hj] at this
        exact this.symm
    obtain ⟨v', w', hrun, r2, r3, _, r5⟩ := run_append_own_at (P := Try.prog) w base 42 o.type 5 i0 (.int .u8 0) 1 1 Try.underlying42 hi hz0 hz1 hz2 rfl (by decide) v xs.length (bv xs) hown.1 adr len cap (bv ys) (by rw [bv_length]; omega) hnews (bv_one ys) (by unfold maxLen; omega) (by omega) hbase
    unfold Oper.wp execOp
    simp only [ho, resolve, invoke, builtin, Sem.run_bind, Sem.run_pure, Result.andThen_ok, List.map_toArray, List.map_cons, List.map_nil, hs, hx, hrun]
    refine h v' w' ⟨?_, ?_⟩ r3 r5
    · rw [List.length_append, bv_append, h1]; exact r2
    · intro y hy
      rcases List.mem_append.1 hy with hy | hy
      · exact hown.2 y hy
      · exact h4 y hy
/-- make([]byte, 0, n). -/
theorem wpo_make0 {o : Oper} {a : Act} {w : World} {K : Act → World → Prop} {Q : Exit → Act → World → Prop} (l c : Operand) (hop : o.op = Op.makeSlice 42 l c) (n : Nat) (hl : a.eval l = .int .i64 0) (hc : a.eval c = .int .i64 (n : Int)) (hn : n ≤ 1000000000)
    (base : Nat) (hbase : base ≤ w.heap.size)
    (h : ∀ w', Own w' base (.slice (some ⟨w.heap.size, 0, none⟩) 0 n) [] → w.grownBy w' none → K (a.put o.dst (.slice (some ⟨w.heap.size, 0, none⟩) 0 n)) w') : o.wp Try.prog a w K Q := by
  obtain ⟨i0, hi, hz0, hz1, hz2⟩ := info_parts infoB
  obtain ⟨w', hrun, r1, r2⟩ := run_make_own (P := Try.prog) (w := w) base 42 5 i0 (.int .u8 0) 1 Try.underlying42 hi hz0 hz1 .i64 .i64 n (by rw [hz2]; omega) (by unfold maxLen; omega) hbase
  unfold Oper.wp
  simp [execOp, hop, hl, hc, hrun, Result.andThen]
  exact h w' ⟨r1, by simp⟩ r2
/-- A whole array into a variable: the operation alone. -/
theorem wpo_store_arr {P : Program} {o : Oper} {a : Act} {w : World} {K : Act → World → Prop} {Q : Exit → Act → World → Prop} (ty : TypeId) (x y : Operand) (ho : o.op = .store ty x y)
    (B : Nat) (hx : a.eval x = .pointer (some ⟨B, 0, none⟩)) {te : TypeId} {k : IntKind} {xs ys : List Nat} (hB : Blk w B te k xs) (hy : a.eval y = .agg (nv k ys).toArray) (hi : (P.info? ty).map (·.size) = some ys.length) (hs : xs.length = ys.length)
    (h : ∀ w', Blk w' B te k ys → w.grownBy w' (some B) → K (a.put o.dst undef) w') : o.wp P a w K Q := by
  have hrun := run_storeVar_row (P := P) w B te ty (nv k xs).toArray (nv k ys).toArray hB (by rw [hi]; simp [nv]) (by simp [nv, hs]) (nv_one k ys)
  have hrun2 : (Instr.storeAt ty (.pointer (some ⟨B, 0, none⟩)) (.agg (nv k ys).toArray)).run P w = .ok () (w.setRow B (nv k ys).toArray) := by
    simp only [Instr.storeAt, Instr.sureAddr, Sem.run_bind, Sem.run_pure, Result.andThen]
    exact hrun
  unfold Oper.wp
  simp [execOp, ho, hx, hy, hrun2, Result.andThen]
  refine h _ ?_ ?_
  · unfold Blk World.setRow
    simp only [Array.getElem?_modify, if_true]
    rw [show w.heap[B]? = _ from hB]
    rfl
  · refine ⟨rfl, rfl, rfl, by simp [World.setRow], fun j hj hne => ?_⟩
    unfold World.setRow
    simp only [Array.getElem?_modify]
    rw [if_neg (fun e => hne (by rw [e]))]
/-- min(x, y) of two ints, its value told. -/
theorem wp_min {P : Program} {ops : Array Oper} {rest : List Oper} {o : Oper} {a : Act} {w : World} {Q : Exit → Act → World → Prop} (hw : Region.wanted o (yielded ops a.tmps) = true) (x y : Operand) (ts : Array TypeId) (ho : o.op = .call { callee := .builtin .min, args := #[x, y], argTypes := ts })
    (p q r : Int) (hx : a.eval x = .int .i64 p) (hy : a.eval y = .int .i64 q) (hr : (if q < p then q else p) = r) (h : wpList P ops Q rest (a.put o.dst (.int .i64 r)) w) : wpList P ops Q (o :: rest) a w := by
  refine wpList_wanted hw ?_
  unfold Oper.wp execOp
  simp only [ho, resolve, invoke, builtin, Sem.run_bind, Sem.run_pure, Result.andThen_ok, List.map_toArray, List.map_cons, List.map_nil, hx, hy, run_min_int2, hr]
  exact h
/-! ### What is behind a place of a slice -/
def cutA (a : Option Addr) (cap k : Nat) : Option Addr := if cap = k then a else a.map (·.add (k * 1))
theorem run_slice_from {P : Program} {t e : TypeId} {info : TypeInfo} (ht : P.underlying t = some (.slice e)) (hi : P.info? e = some info) (hs : info.size = 1) (a : Option Addr) (n cap k : Nat) (hk : k ≤ n) (w : World) :
    (Instr.slice t (.slice a n cap) (some (.int .i64 (k : Int))) none none).run P w = .ok (.slice (cutA a cap k) (n - k) (cap - k)) w := by
  have hz : (sizeOf e).run P w = .ok 1 w := by simp [sizeOf, typeInfo, hi, hs]
  have h1 : (k : Int) ≤ (n : Int) := by omega
  simp [Instr.slice, run_underlying ht, Instr.sliceBounds, Instr.sliceBound, asIntOf, hz, h1, cutA]
  intro h; omega
theorem cutA_lt {a : Option Addr} {cap k B : Nat} (h : ∀ x, a = some x → x.block < B) : ∀ x, cutA a cap k = some x → x.block < B := by
  intro x hx
  unfold cutA at hx
  split at hx
  · exact h x hx
  · cases a with
    | none => cases hx
    | some y =>
      have := h y rfl
      simp only [Option.map_some, Option.some.injEq] at hx
      subst hx
      unfold Addr.add
      split <;> exact this
theorem RdB.cut {w : World} {a : Option Addr} {n cap : Nat} {bs : List Nat} (h : RdB w a n cap bs) (k : Nat) (hk : k ≤ n) : RdB w (cutA a cap k) (n - k) (cap - k) (bs.drop k) := by
  obtain ⟨h0, h1, h2, h3, h4, h5, h6⟩ := h
  refine ⟨by omega, by rw [List.length_drop, h1], by omega, by omega, fun x hx => h4 x (List.mem_of_mem_drop hx), ?_, ?_⟩
  · intro hn
    unfold cutA at hn
    split at hn
    · omega
    · have := h5 (by cases a with
        | none => rfl
        | some y => cases hn)
      omega
  · rcases h6 with h6 | ⟨b, off, rfl, hl, hc⟩
    · exact .inl (by omega)
    · by_cases hkn : k = n
      · exact .inl (by omega)
      · refine .inr ⟨b, off + k, ?_, hl, fun i hi => ?_⟩
        · unfold cutA
          rw [if_neg (by omega), Option.map_some, Nat.mul_one, Addr.add_off]
        · rw [Nat.add_assoc, hc (k + i) (by omega)]
          congr 3
          simp [List.getD_eq_getElem?_getD]
theorem yieldsSliceFrom {P : Program} {l : List Oper} {S : World → Prop} {o : Oper} {a : Act} {t e : TypeId} {info : TypeInfo} {x y : Operand} {ad : Option Addr} {n cap k : Nat} (hw : Region.wanted o (yielded l.toArray a.tmps) = true) (ho : o.op = .slice t x (some y) none none) (hx : a.eval x = .slice ad n cap) (hy : a.eval y = .int .i64 (k : Int))
    (ht : P.underlying t = some (.slice e)) (hi : P.info? e = some info) (hs : info.size = 1) (hk : k ≤ n) : YieldsIf P l.toArray S o (.slice (cutA ad cap k) (n - k) (cap - k)) a :=
  yieldsOf hw fun w => by simp [execOp, ho, hx, hy, Instr.sliceAt, run_underlying ht, run_slice_from ht hi hs ad n cap k hk w]
theorem wp_slice_from {P : Program} {ops : Array Oper} {rest : List Oper} {o : Oper} {a : Act} {w : World} {Q : Exit → Act → World → Prop} (hw : Region.wanted o (yielded ops a.tmps) = true) {t e : TypeId} {info : TypeInfo} (x y : Operand) {ad : Option Addr} {n cap k : Nat} (ho : o.op = .slice t x (some y) none none) (hx : a.eval x = .slice ad n cap) (hy : a.eval y = .int .i64 (k : Int))
    (ht : P.underlying t = some (.slice e)) (hi : P.info? e = some info) (hs : info.size = 1) (hk : k ≤ n) (h : wpList P ops Q rest (a.put o.dst (.slice (cutA ad cap k) (n - k) (cap - k))) w) : wpList P ops Q (o :: rest) a w := by
  refine wpList_wanted hw ?_
  unfold Oper.wp
  simp [execOp, ho, hx, hy, Instr.sliceAt, run_underlying ht, run_slice_from ht hi hs ad n cap k hk w, Result.andThen]
  exact h
/-- make([]byte, n): the operation alone. -/
theorem wpo_make {o : Oper} {a : Act} {w : World} {K : Act → World → Prop} {Q : Exit → Act → World → Prop} (l c : Operand) (hop : o.op = Op.makeSlice 42 l c) (kl kc : IntKind) (n : Nat) (hl : a.eval l = .int kl (n : Int)) (hc : a.eval c = .int kc (n : Int)) (hn : n ≤ 1000000000)
    (h : ∀ w', Own w' w.heap.size (.slice (some ⟨w.heap.size, 0, none⟩) n n) (List.replicate n 0) → Below w.heap.size w w' → K (a.put o.dst (.slice (some ⟨w.heap.size, 0, none⟩) n n)) w') : o.wp Try.prog a w K Q := by
  obtain ⟨i0, hi, hz0, hz1, hz2⟩ := info_parts infoB
  obtain ⟨w', hrun, r1, r2⟩ := run_make_full (P := Try.prog) (w := w) w.heap.size 42 5 i0 (.int .u8 0) 1 Try.underlying42 hi hz0 hz1 kl kc n (by rw [hz2]; omega) (by unfold maxLen; omega) (Nat.le_refl _)
  unfold Oper.wp
  simp [execOp, hop, hl, hc, hrun, Result.andThen]
  have e : (madeCells (Value.int .u8 0).cells (n * 1)).toList = bv (List.replicate n 0) := by
    rw [bv_zeros, Nat.mul_one]; exact toList_madeCells_one _ _
  exact h w' ⟨by rw [List.length_replicate, ← e]; exact r1, by intro x hx; have := List.eq_of_mem_replicate hx; omega⟩ ((Below.refl _ w).grown r2 (Nat.le_refl _) (by simp))
theorem rdb_cells {w : World} {adr : Addr} {n c : Nat} {bs : List Nat} (h : RdB w (some adr) n c bs) : ∀ j u, (bv bs)[j]? = some u → w.cell? (adr.add j) = some u := by
  obtain ⟨_, h1, _, _, _, _, h6⟩ := h
  intro j u hj
  have hj' : j < bs.length := by
    have := (List.getElem?_eq_some_iff.1 hj).1
    rwa [bv_length] at this
  rcases h6 with h6 | ⟨b, off, hadr, hlt, hc⟩
  · omega
  · have hadr := Option.some.inj hadr
    subst hadr
    have e : (⟨b, off, none⟩ : Addr).add j = ⟨b, off + j, none⟩ := by
      unfold Addr.add
      by_cases h : j = 0
      · subst h; rfl
      · rw [if_neg h]
    rw [e, hc j (by omega)]
    have := bv_get bs j hj'
    rw [List.getElem?_toArray, hj] at this
    exact this.symm
/-- append(x, y...): x is full: a new row is made. -/
theorem wpo_append_full {o : Oper} {a : Act} {w : World} {K : Act → World → Prop} {Q : Exit → Act → World → Prop} (s x : Operand)
    (ho : o.op = .call { callee := .builtin .append, args := #[s, x], argTypes := #[42, 42] })
    (a1 a2 : Addr) (n1 c1 n2 c2 : Nat) (xs ys : List Nat) (hs : a.eval s = .slice (some a1) n1 c1) (h1 : RdB w (some a1) n1 c1 xs) (hx : a.eval x = .slice (some a2) n2 c2) (h2 : RdB w (some a2) n2 c2 ys)
    (hfull : c1 < n1 + n2)
    (h : ∀ cp w', Own w' w.heap.size (.slice (some ⟨w.heap.size, 0, none⟩) (n1 + n2) cp) (xs ++ ys) → Below w.heap.size w w' → K (a.put o.dst (.slice (some ⟨w.heap.size, 0, none⟩) (n1 + n2) cp)) w') :
    o.wp Try.prog a w K Q := by
  obtain ⟨i0, hi, hz0, hz1, hz2⟩ := info_parts infoB
  have e1 := h1.2.1
  have e2 := h2.2.1
  have g1 := h1.1
  have g2 := h2.1
  have hrun := run_append_grow (P := Try.prog) w 42 o.type 5 i0 (.int .u8 0) Try.underlying42 hi hz0 a1 n1 c1 (bv xs) (by rw [bv_length, hz1]; omega) (rdb_cells h1) a2 n2 c2 (bv ys) (by rw [bv_length, hz1]; omega) (rdb_cells h2) hfull (by omega) (growslice_fits hfull (by rw [hz2]; omega))
  have hge := grownCap_ge w (n1 + n2) c1 5
  have hcm : grownCap w (n1 + n2) c1 5 ≤ maxLen := grownCap_le_maxLen w (n1 + n2) c1 5 (by unfold maxLen; omega)
  unfold Oper.wp execOp
  simp only [ho, resolve, invoke, builtin, Sem.run_bind, Sem.run_pure, Result.andThen_ok, List.map_toArray, List.map_cons, List.map_nil, hs, hx, hrun]
  refine h _ _ ⟨⟨by rw [bv_length, Nat.mul_one], .inr ⟨w.heap.size, _, _, by rw [List.length_append, e1, e2], Nat.le_refl _, heap_alloc_new w.drew _, ?_, hcm, ?_, ?_⟩⟩, ?_⟩ (xalloc (below_drewN (xrefl w) 1) _)
  · rw [List.length_append, e1, e2]; exact hge
  · simp only [Array.size_append, List.size_toArray, size_zeroCells, bv_length, e1, e2]
    have : (Value.int IntKind.u8 0).cells.size = 1 := rfl
    rw [this]
    omega
  · simp only [Array.toList_append, List.length_append, e1, e2]
    rw [bv_append]
    have hl : (bv xs ++ bv ys).length = (n1 + n2) * 1 := by rw [List.length_append, bv_length, bv_length, e1, e2, Nat.mul_one]
    rw [← hl]
    exact List.take_left
  · intro q hq
    rcases List.mem_append.1 hq with hq | hq
    · exact h1.2.2.2.2.1 q hq
    · exact h2.2.2.2.2.1 q hq
end Go.Proofs.Ytoehkegbmphlhaa
