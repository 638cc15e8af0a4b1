/- Rows of numbers and of heads that the call owns; a slice out of the middle. -/
import Derived.Test.YtpcppnoomogloaaFxW1
set_option maxRecDepth 4000
namespace Go.Proofs.Ytpcppnoomogloaa.Fr
set_option linter.unusedSimpArgs false
set_option linter.unusedVariables false
open Go.RowKit

section
variable {w w' : World} {base e size n : Nat} {v : Value} {xs : List Value}
theorem row_below (h : w.ownsRow base e size v n xs) (hb : Below w.heap.size w w') : w'.ownsRow base e size v n xs := by
  obtain ⟨h1, h3⟩ := h
  refine ⟨h1, ?_⟩
  rcases h3 with h3 | ⟨g, cap, cur, hv, hgb, hh, r⟩
  · exact .inl h3
  · have hlt : g < w.heap.size := (Array.getElem?_eq_some_iff.1 hh).1
    exact .inr ⟨g, cap, cur, hv, hgb, by rw [hb.block g hlt]; exact hh, r⟩
theorem row_kept {row : Option Nat} (h : w.ownsRow base e size v n xs) (hg : w.grownBy w' row) (hr : ∀ k, row = some k → v.ownBlock ≠ some k) : w'.ownsRow base e size v n xs := by
  obtain ⟨h1, h3⟩ := h
  refine ⟨h1, ?_⟩
  rcases h3 with h3 | ⟨g, cap, cur, hv, hgb, hh, r⟩
  · exact .inl h3
  · have hlt : g < w.heap.size := (Array.getElem?_eq_some_iff.1 hh).1
    refine .inr ⟨g, cap, cur, hv, hgb, ?_, r⟩
    rw [hg.block g hlt (fun e => by subst hv; exact hr g e.symm rfl)]
    exact hh
theorem row_mono {base' : Nat} (h : w.ownsRow base e size v n xs) (hb : base' ≤ base) : w.ownsRow base' e size v n xs := by
  obtain ⟨h1, h3⟩ := h
  refine ⟨h1, ?_⟩
  rcases h3 with h3 | ⟨g, cap, cur, hv, hgb, r⟩
  · exact .inl h3
  · exact .inr ⟨g, cap, cur, hv, by omega, r⟩
theorem row_block (h : w.ownsRow base e size v n xs) : ∀ g, v.ownBlock = some g → base ≤ g ∧ g < w.heap.size := by
  intro k hk
  rcases h.2 with ⟨rfl, _⟩ | ⟨g, cap, cur, rfl, hgb, hh, _⟩
  · simp [Value.ownBlock] at hk
  · have hlt : g < w.heap.size := (Array.getElem?_eq_some_iff.1 hh).1
    simp [Value.ownBlock] at hk
    omega
theorem row_shape (h : w.ownsRow base e size v n xs) : (v = .slice none 0 0 ∧ n = 0) ∨ ∃ g cap, v = .slice (some ⟨g, 0, none⟩) n cap ∧ base ≤ g ∧ g < w.heap.size ∧ n ≤ cap ∧ cap ≤ maxLen ∧ (∀ j, j < n * size → w.cell? ⟨g, j, none⟩ = xs[j]?) ∧ (∀ j, w.frozen? ⟨g, j, none⟩ = false) := by
  have h0 := h
  rcases h.2 with ⟨h1, h2⟩ | ⟨g, cap, cur, rfl, hgb, hh, hc, hm, _⟩
  · exact .inl ⟨h1, h2⟩
  · exact .inr ⟨g, cap, rfl, hgb, (Array.getElem?_eq_some_iff.1 hh).1, hc, hm, fun j hj => World.ownsRow.cellAt h0 j hj, fun j => World.ownsRow.frozenAt h0 j⟩
theorem row_nil (w : World) (base e size : Nat) : w.ownsRow base e size (.slice none 0 0) 0 [] := World.ownsRow_nil _ _ _ _
end
/-- t is the type of slices of e; an e has so many cells and bytes. -/
def RowT (t e size bytes : Nat) : Prop := ∃ i z, Try.prog.underlying t = some (.slice e) ∧ Try.prog.info? e = some i ∧ i.zero = some z ∧ i.size = size ∧ i.bytes = bytes ∧ z.cells.size = size ∧ 0 < size
theorem rowT_of {t e size bytes : Nat} {z : Value} (ht : Try.prog.underlying t = some (.slice e)) (hi : (Try.prog.info? e).map (fun i => (i.zero, i.size, i.bytes)) = some (some z, size, bytes)) (hz : z.cells.size = size) (h0 : 0 < size) : RowT t e size bytes := by
  obtain ⟨i, h1, h2, h3, h4⟩ := info_parts hi
  exact ⟨i, z, ht, h1, h2, h3, h4, hz, h0⟩
theorem rowU : RowT 57 54 1 8 := rowT_of Try.underlying57 (z := .int .u64 0) (by kernel_rfl) rfl (by decide)
theorem rowI : RowT 45 3 1 8 := rowT_of Try.underlying45 (z := .int .i64 0) (by kernel_rfl) rfl (by decide)
theorem rowH : RowT 44 23 5 40 := rowT_of Try.underlying44 (z := .agg #[.int .i64 0, .int .i64 0, .int .i64 0, .int .i64 0, .int .i64 0]) (by kernel_rfl) rfl (by decide)
/-- append(s, x) of one element that lies in a block R. -/
theorem wpo_append_one {t e size bytes : Nat} (hT : RowT t e size bytes) {o : Oper} {a : Act} {w : World} {K : Act → World → Prop} {Q : Exit → Act → World → Prop} (s x : Operand)
    (ho : o.op = .call { callee := .builtin .append, args := #[s, x], argTypes := #[t, t] }) (base : Nat) (v : Value) (n : Nat) (xs : List Value) (hs : a.eval s = v) (hown : w.ownsRow base e size v n xs)
    (R c : Nat) (news : List Value) (hx : a.eval x = .slice (some ⟨R, 0, none⟩) 1 c) (hl : news.length = size) (hnews : ∀ j u, news[j]? = some u → w.cell? ⟨R, j, none⟩ = some u) (h1 : ∀ u ∈ news, u.oneCell' = true) (hn : n ≤ 1000000) (hby : bytes ≤ 100) (hbase : base ≤ w.heap.size)
    (h : ∀ v' w', w'.ownsRow base e size v' (n + 1) (xs ++ news) → w.grownBy w' v.ownBlock → (v'.ownBlock = v.ownBlock ∨ v'.ownBlock = some w.heap.size) → K (a.put o.dst v') w') : o.wp Try.prog a w K Q := by
  obtain ⟨i, z, ht, hi, hz, hsz, hb, hzs, h0⟩ := hT
  have hbn : (n + 1) * bytes ≤ 140737488355328 := Nat.le_trans (Nat.mul_le_mul (show n + 1 ≤ 1000001 by omega) hby) (by decide)
  obtain ⟨v', w', hr, h2, h3, h4, h5⟩ := run_append_own_at (P := Try.prog) w base t o.type e i z size bytes ht hi hz hsz hb hzs h0 v n xs hown ⟨R, 0, none⟩ 1 c news (by rw [hl, Nat.one_mul]) (fun j u hj => by rw [Addr.add_off, Nat.zero_add]; exact hnews j u hj) h1 (by unfold maxLen; omega) hbn hbase
  unfold Oper.wp execOp
  simp only [ho, resolve, invoke, builtin, Sem.run_bind, Sem.run_pure, Result.andThen_ok, List.map_toArray, List.map_cons, List.map_nil, hs, hx, hr]
  exact h v' w' h2 h3 h5
theorem news_one {w : World} {R : Nat} {u : Value} (h : w.cell? ⟨R, 0, none⟩ = some u) : ∀ j x, [u][j]? = some x → w.cell? ⟨R, j, none⟩ = some x := by
  intro j x hj
  match j, hj with
  | 0, hj => simp at hj; subst hj; exact h
  | j + 1, hj => simp at hj
theorem cell_new0 (w : World) (u : Value) (t : TypeId) (fr : Nat × Nat) : (w.alloc (.cells #[u] t fr)).cell? ⟨w.heap.size, 0, none⟩ = some u := by
  unfold World.cell?
  rw [show (w.alloc (.cells #[u] t fr)).heap[(⟨w.heap.size, 0, none⟩ : Addr).block]? = some (.cells #[u] t fr) by show (w.heap.push _)[w.heap.size]? = _; simp]
  simp
/-- The first k bytes, with that room. -/
theorem row8_cut {w : World} {a : Option Addr} {n c : Nat} {bs : List Nat} (h : RdB w a n c bs) (k : Nat) (hk : k ≤ n) (h0 : 0 < k) : Row8 w a k k (bs.take k) := by
  obtain ⟨h0', h1, h2, h3, h4, h5, h6⟩ := rdb_take h k hk
  refine ⟨h1, Nat.le_refl _, by omega, h4, fun hn => ?_, h6⟩
  have := h5 hn
  omega
/-- b[i:j] -/
theorem run_slice_mid {P : Program} {t e : TypeId} {info : TypeInfo} (ht : P.underlying t = some (.slice e)) (hi : P.info? e = some info) (hs : info.size = 1) (a : Option Addr) (n cap i j : Nat) (hij : i ≤ j) (hj : j ≤ cap) (w : World) :
    (Instr.slice t (.slice a n cap) (some (.int .i64 (i : Int))) (some (.int .i64 (j : Int))) none).run P w = .ok (.slice (cutA a cap i) (j - i) (cap - i)) w := by
  have hz : (sizeOf e).run P w = .ok 1 w := by simp [sizeOf, typeInfo, hi, hs]
  have h1 : (i : Int) ≤ (j : Int) := by omega
  have h2 : (j : Int) ≤ (cap : Int) := by omega
  simp [Instr.slice, run_underlying ht, Instr.sliceBounds, Instr.sliceBound, asIntOf, hz, h1, h2, cutA]
  rw [if_pos hj, if_pos hij]
theorem wp_slice_mid {P : Program} {ops : Array Oper} {rest : List Oper} {o : Oper} {a : Act} {w : World} {Q : Exit → Act → World → Prop} (hw : Region.wanted o (yielded ops a.tmps) = true) {t e : TypeId} {info : TypeInfo} (x y z : Operand) {ad : Option Addr} {n cap i j : Nat} (ho : o.op = .slice t x (some y) (some z) none) (hx : a.eval x = .slice ad n cap) (hy : a.eval y = .int .i64 (i : Int)) (hz : a.eval z = .int .i64 (j : Int))
    (ht : P.underlying t = some (.slice e)) (hi : P.info? e = some info) (hs : info.size = 1) (hij : i ≤ j) (hj : j ≤ cap) (h : wpList P ops Q rest (a.put o.dst (.slice (cutA ad cap i) (j - i) (cap - i))) w) : wpList P ops Q (o :: rest) a w := by
  refine wpList_wanted hw ?_
  unfold Oper.wp
  simp [execOp, ho, hx, hy, hz, Instr.sliceAt, run_underlying ht, run_slice_mid ht hi hs ad n cap i j hij hj w, Result.andThen]
  exact h
theorem info8f : ∃ i0, Try.prog.info? 5 = some i0 ∧ i0.size = 1 := ⟨_, rfl, by kernel_rfl⟩
theorem nv_snoc (k : IntKind) (xs : List Nat) (u : Nat) : nv k xs ++ [.int k ((u : Nat) : Int)] = nv k (xs ++ [u]) := by simp [nv]
theorem one_int (k : IntKind) (z : Int) : ∀ u ∈ [Value.int k z], u.oneCell' = true := by
  intro u hu
  rw [List.mem_singleton.1 hu]
  rfl
end Go.Proofs.Ytpcppnoomogloaa.Fr
