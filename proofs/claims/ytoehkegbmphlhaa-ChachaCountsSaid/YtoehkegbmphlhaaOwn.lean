/- Rows of bytes that the call itself made: append, stores, and reading them. -/
import Derived.Test.YtoehkegbmphlhaaBase
import Derived.Laws.AppendOwnNone
namespace Go.Proofs.Ytoehkegbmphlhaa
set_option linter.unusedSimpArgs false
set_option linter.unusedVariables false
open Go.RowKit

theorem infoB : (Try.prog.info? 5).map (fun i => (i.zero, i.size, i.bytes)) = some (some (.int .u8 0), 1, 1) := by kernel_rfl

theorem bv_length (bs : List Nat) : (bv bs).length = bs.length := by simp [bv]
theorem bv_append (a b : List Nat) : bv (a ++ b) = bv a ++ bv b := by simp [bv]
theorem bv_set (a : List Nat) (k v : Nat) : bv (a.set k v) = (bv a).set k (.int .u8 ((v : Nat) : Int)) := by simp [bv, List.map_set]
theorem bv_one (bs : List Nat) : ∀ u ∈ bv bs, u.oneCell' = true := by
  intro u hu
  simp only [bv, List.mem_map] at hu
  obtain ⟨n, _, rfl⟩ := hu
  rfl

/-- The value owns a row that holds the bytes bs, in a block from base on. -/
def Own (w : World) (base : Nat) (v : Value) (bs : List Nat) : Prop := w.ownsRow base 5 1 v bs.length (bv bs) ∧ ∀ x ∈ bs, x < 256

theorem Own.nil (w : World) (base : Nat) : Own w base (.slice none 0 0) [] := ⟨World.ownsRow_nil _ _ _ _, by simp⟩

theorem Own.lit (w : World) (cs : Array Value) (n : Nat) (bs : List Nat) (hcs : cs = (bv bs).toArray) (hn : bs.length = n) (hm : n ≤ maxLen) (hb : ∀ x ∈ bs, x < 256) :
    Own (w.alloc (.cells cs 5)) w.heap.size (.slice (some ⟨w.heap.size, 0, none⟩) n n) bs := by
  subst hcs hn
  refine ⟨?_, hb⟩
  have := World.ownsRow_lit (base := w.heap.size) (e := 5) (size := 1) w (bv bs).toArray bs.length (Nat.le_refl _) hm (by simp [bv])
  simpa using this

theorem Own.shape {w : World} {base : Nat} {v : Value} {bs : List Nat} (h : Own w base v bs) :
    (v = .slice none 0 0 ∧ bs = []) ∨ ∃ g cap, v = .slice (some ⟨g, 0, none⟩) bs.length cap ∧ base ≤ g ∧ g < w.heap.size ∧ bs.length ≤ cap ∧ cap ≤ maxLen ∧
      (∀ i, i < bs.length → w.cell? ⟨g, i, none⟩ = some (.int .u8 ((bs.getD i 0 : Nat) : Int))) ∧ (∀ i, w.frozen? ⟨g, i, none⟩ = false) := by
  obtain ⟨h1, h2⟩ := h
  have h0 := h1
  obtain ⟨_, h3⟩ := h1
  rcases h3 with ⟨hv, hn⟩ | ⟨g, cap, cur, hv, hg, hh, hc, hm, hs, ht⟩
  · exact .inl ⟨hv, List.eq_nil_of_length_eq_zero hn⟩
  · subst hv
    have hlt : g < w.heap.size := (Array.getElem?_eq_some_iff.1 hh).1
    refine .inr ⟨g, cap, rfl, hg, hlt, hc, hm, fun i hi => ?_, fun i => World.ownsRow.frozenAt h0 i⟩
    rw [World.ownsRow.cellAt h0 i (by omega)]
    have := bv_get bs i hi
    simpa using this

theorem Own.rd {w : World} {base : Nat} {v : Value} {bs : List Nat} (h : Own w base v bs) (hl : bs.length ≤ 1000000000) : ∃ a cap, v = .slice a bs.length cap ∧ RdB w a bs.length cap bs ∧ (a = none → bs = []) := by
  rcases h.shape with ⟨rfl, rfl⟩ | ⟨g, cap, rfl, hg, hlt, hc, hm, hcell, _⟩
  · exact ⟨none, 0, rfl, rd_nil w, fun _ => rfl⟩
  · unfold maxLen at hm
    exact ⟨_, cap, rfl, ⟨hl, rfl, hc, hm, h.2, by simp, .inr ⟨g, 0, rfl, hlt, fun i hi => by rw [Nat.zero_add]; exact hcell i hi⟩⟩, by simp⟩

theorem Own.rdb {w : World} {base n cap : Nat} {a : Option Addr} {bs : List Nat} (h : Own w base (.slice a n cap) bs) (hn : bs.length = n) (hl : n ≤ 1000000000) : RdB w a n cap bs := by
  subst hn
  obtain ⟨a', cap', hv, hr, _⟩ := h.rd hl
  simp only [Value.slice.injEq] at hv
  obtain ⟨rfl, _, rfl⟩ := hv
  exact hr

theorem Own.block {w : World} {base : Nat} {v : Value} {bs : List Nat} (h : Own w base v bs) : ∀ k, v.ownBlock = some k → base ≤ k ∧ k < w.heap.size := by
  intro k hk
  rcases h.shape with ⟨rfl, rfl⟩ | ⟨g, cap, rfl, hg, hlt, _⟩
  · simp [Value.ownBlock] at hk
  · simp [Value.ownBlock] at hk; omega

/-- What is owned stays so while other blocks are made or written. -/
theorem Own.kept {w w' : World} {base : Nat} {v : Value} {bs : List Nat} {row : Option Nat} (h : Own w base v bs) (hg : w.grownBy w' row) (hr : ∀ k, row = some k → v.ownBlock ≠ some k) : Own w' base v bs := by
  refine ⟨?_, h.2⟩
  obtain ⟨h1, h3⟩ := h.1
  refine ⟨h1, ?_⟩
  rcases h3 with h3 | ⟨g, cap, cur, hv, hgb, hh, r⟩
  · exact .inl h3
  · refine .inr ⟨g, cap, cur, hv, hgb, ?_, r⟩
    have hlt : g < w.heap.size := (Array.getElem?_eq_some_iff.1 hh).1
    rw [hg.block g hlt (fun e => by subst hv; exact hr g e.symm rfl)]
    exact hh
/-- What is owned stays so where all that lay before the call is kept. -/
theorem Own.below {w w' : World} {base : Nat} {v : Value} {bs : List Nat} (h : Own w base v bs) (hb : Below w.heap.size w w') : Own w' base v bs := by
  refine ⟨?_, h.2⟩
  obtain ⟨h1, h3⟩ := h.1
  refine ⟨h1, ?_⟩
  rcases h3 with h3 | ⟨g, cap, cur, hv, hgb, hh, r⟩
  · exact .inl h3
  · have hlt : g < w.heap.size := (Array.getElem?_eq_some_iff.1 hh).1
    exact .inr ⟨g, cap, cur, hv, hgb, by rw [hb.block g hlt]; exact hh, r⟩
theorem Own.mono {w : World} {base base' : Nat} {v : Value} {bs : List Nat} (h : Own w base v bs) (hb : base' ≤ base) : Own w base' v bs := by
  refine ⟨?_, h.2⟩
  obtain ⟨h1, h3⟩ := h.1
  refine ⟨h1, ?_⟩
  rcases h3 with h3 | ⟨g, cap, cur, hv, hgb, r⟩
  · exact .inl h3
  · exact .inr ⟨g, cap, cur, hv, by omega, r⟩

/-- append(v, ys...): v owned, ys read: the operation alone. -/
theorem wpo_append {o : Oper} {a : Act} {w : World} {K : Act → World → Prop} {Q : Exit → Act → World → Prop} (s x : Operand)
    (ho : o.op = .call { callee := .builtin .append, args := #[s, x], argTypes := #[42, 42] })
    (base : Nat) (v : Value) (xs : List Nat) (hs : a.eval s = v) (hown : Own w base v xs) (ad : Option Addr) (len cap : Nat) (ys : List Nat) (hx : a.eval x = .slice ad len cap) (hr : RdB w ad len cap ys)
    (hlen : xs.length + ys.length ≤ 1000000000) (hbase : base ≤ w.heap.size)
    (h : ∀ v' w', Own w' base v' (xs ++ ys) → Below base w w' → w.grownBy w' v.ownBlock → K (a.put o.dst v') w') :
    o.wp Try.prog a w K Q := by
  obtain ⟨i0, hi, hz0, hz1, hz2⟩ := info_parts infoB
  obtain ⟨hl, h1, h2, h3, h4, h5, h6⟩ := hr
  have hblk := hown.block
  by_cases hnone : ad = none
  · subst hnone
    obtain rfl : cap = 0 := h5 rfl
    obtain rfl : len = 0 := by omega
    obtain rfl : ys = [] := List.eq_nil_of_length_eq_zero h1
    have hrun := run_append_owned_none (P := Try.prog) (w := w) base 42 o.type 5 i0 1 Try.underlying42 hi v xs.length (bv xs) hown.1
    unfold Oper.wp
    simp [execOp, ho, resolve, invoke, builtin, hs, hx, hrun, Result.andThen]
    exact h v w (by rw [List.append_nil]; exact hown) (Below.refl _ _) ⟨rfl, rfl, rfl, Nat.le_refl _, fun _ _ _ => rfl⟩
  · obtain ⟨adr, rfl⟩ : ∃ adr, ad = some adr := by cases ad with
      | none => exact absurd rfl hnone
      | some x => exact ⟨x, rfl⟩
    refine wp_append_own w s x 42 ho base 5 i0 (.int .u8 0) 1 1 Try.underlying42 hi hz0 hz1 hz2 rfl (by decide) v xs.length (bv xs) hs hown.1 adr len cap (bv ys) hx (by rw [bv_length]; omega) ?_ (bv_one ys) (by unfold maxLen; omega) (by omega) hbase ?_
    · intro j u hj
      have hj' : j < ys.length := by
        have := (List.getElem?_eq_some_iff.1 hj).1
        rwa [bv_length] at this
      rcases h6 with h6 | ⟨b, off, hadr, hlt, hc⟩
      · omega
      · have hadr := Option.some.inj hadr
        subst hadr
        have e : (⟨b, off, none⟩ : Addr).add j = ⟨b, off + j, none⟩ := by
          unfold Addr.add
          by_cases h : j = 0
          · subst h; rfl
          · rw [if_neg h]
        rw [e, hc j (by omega)]
        have := bv_get ys j hj'
        rw [List.getElem?_toArray, hj] at this
        exact this.symm
    · intro v' w' hown' hg _
      refine h v' w' ⟨?_, ?_⟩ ((Below.refl base w).grown hg hbase (fun k hk => (hblk k hk).1)) hg
      · rw [List.length_append, bv_append, h1]; exact hown'
      · intro y hy
        rcases List.mem_append.1 hy with hy | hy
        · exact hown.2 y hy
        · exact h4 y hy

theorem wpList_of_wp {P : Program} {ops : Array Oper} {rest : List Oper} {o : Oper} {a : Act} {w : World} {Q : Exit → Act → World → Prop} (hw : Region.wanted o (yielded ops a.tmps) = true)
    (h : o.wp P a w (wpList P ops Q rest) Q) : wpList P ops Q (o :: rest) a w := by
  unfold wpList
  rw [if_pos hw]
  exact .inl h

/-- append(v, ys...) in a region. hw: the operation is wanted ('rfl' where it bears no guard, or its guard says yes). -/
theorem wp_append {ops : Array Oper} {rest : List Oper} {o : Oper} {a : Act} {w : World} {Q : Exit → Act → World → Prop} (hw : Region.wanted o (yielded ops a.tmps) = true) (s x : Operand)
    (ho : o.op = .call { callee := .builtin .append, args := #[s, x], argTypes := #[42, 42] })
    (base : Nat) (v : Value) (xs : List Nat) (hs : a.eval s = v) (hown : Own w base v xs) (ad : Option Addr) (len cap : Nat) (ys : List Nat) (hx : a.eval x = .slice ad len cap) (hr : RdB w ad len cap ys)
    (hlen : xs.length + ys.length ≤ 1000000000) (hbase : base ≤ w.heap.size)
    (h : ∀ v' w', Own w' base v' (xs ++ ys) → Below base w w' → w.grownBy w' v.ownBlock → wpList Try.prog ops Q rest (a.put o.dst v') w') :
    wpList Try.prog ops Q (o :: rest) a w :=
  wpList_of_wp hw (wpo_append s x ho base v xs hs hown ad len cap ys hx hr hlen hbase h)

theorem bv_zeros (n : Nat) : bv (List.replicate n 0) = List.replicate n (.int .u8 0) := by simp [bv]
/-- make([]byte, n). -/
theorem wp_make {ops : Array Oper} {rest : List Oper} {o : Oper} {a : Act} {w : World} {Q : Exit → Act → World → Prop} (hw : Region.wanted o (yielded ops a.tmps) = true) (l c : Operand)
    (hop : o.op = Op.makeSlice 42 l c) (kl kc : IntKind) (n : Nat) (hl : a.eval l = .int kl (n : Int)) (hc : a.eval c = .int kc (n : Int)) (hn : n ≤ 1000000000)
    (h : ∀ w', Own w' w.heap.size (.slice (some ⟨w.heap.size, 0, none⟩) n n) (List.replicate n 0) → Below w.heap.size w w' → w.heap.size < w'.heap.size → wpList Try.prog ops Q rest (a.put o.dst (.slice (some ⟨w.heap.size, 0, none⟩) n n)) w') :
    wpList Try.prog ops Q (o :: rest) a w := by
  obtain ⟨i0, hi, hz0, hz1, hz2⟩ := info_parts infoB
  refine wpList_of_wp hw ?_
  obtain ⟨w', hrun, r1, r2⟩ := run_make_full (P := Try.prog) (w := w) w.heap.size 42 5 i0 (.int .u8 0) 1 Try.underlying42 hi hz0 hz1 kl kc n (by rw [hz2]; omega) (by unfold maxLen; omega) (Nat.le_refl _)
  unfold Oper.wp
  simp [execOp, hop, hl, hc, hrun, Result.andThen]
  have e : (madeCells (Value.int .u8 0).cells (n * 1)).toList = bv (List.replicate n 0) := by
    rw [bv_zeros, Nat.mul_one]; exact toList_madeCells_one _ _
  have r1' : Own w' w.heap.size (.slice (some ⟨w.heap.size, 0, none⟩) n n) (List.replicate n 0) := ⟨by rw [List.length_replicate, ← e]; exact r1, by intro x hx; have := List.eq_of_mem_replicate hx; omega⟩
  refine h w' r1' ((Below.refl _ w).grown r2 (Nat.le_refl _) (by simp)) ?_
  rcases r1.2 with ⟨h1, _⟩ | ⟨g, cap, cur, h1, _, h2, _⟩
  · simp at h1
  · simp only [Value.slice.injEq, Option.some.injEq, Addr.mk.injEq] at h1
    obtain ⟨⟨rfl, _⟩, _⟩ := h1
    exact (Array.getElem?_eq_some_iff.1 h2).1

/-- v[k] = u. -/
theorem Own.set {w : World} {base g cap : Nat} {bs : List Nat} (h : Own w base (.slice (some ⟨g, 0, none⟩) bs.length cap) bs) (k u : Nat) (hu : u < 256) :
    Own (w.setCell ⟨g, k, none⟩ (.int .u8 ((u : Nat) : Int))) base (.slice (some ⟨g, 0, none⟩) (bs.set k u).length cap) (bs.set k u) := by
  refine ⟨?_, ?_⟩
  · rw [List.length_set, bv_set]
    exact (World.ownsRow.stored h.1 k _).1
  · intro x hx
    rcases List.mem_or_eq_of_mem_set hx with hx | rfl
    · exact h.2 x hx
    · exact hu
end Go.Proofs.Ytoehkegbmphlhaa
