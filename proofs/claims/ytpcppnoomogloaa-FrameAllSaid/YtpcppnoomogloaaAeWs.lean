/- The walks of aead.Tag, Seal, Open. -/
import Derived.Test.YtpcppnoomogloaaFnd
import Derived.Lib.AppendZerosOnto
import Derived.Laws.IdiomStrings
import Derived.Test.YtpcppnoomogloaaPla
import Derived.Test.YtpcppnoomogloaaStWs
import Derived.Test.YtpcppnoomogloaaPoW7
import Derived.Deep.MidRow
import Derived.Laws.Cover3
set_option maxRecDepth 4000
namespace Go.Proofs.Ytpcppnoomogloaa
set_option linter.unusedSimpArgs false
set_option linter.unusedVariables false
open Go.RowKit

theorem zeroCells_list (k : Nat) : (Builtin.zeroCells (Value.int .u8 0).cells k).toList = bv (List.replicate k 0) := by
  rw [bv_zeros]
  refine List.eq_replicate_iff.2 ⟨by simp [Builtin.zeroCells, Value.cells], fun b hb => ?_⟩
  simp [Builtin.zeroCells, Value.cells] at hb
  obtain ⟨i, _, rfl⟩ := hb
  simp [Nat.mod_one]
theorem own_grown_zeros (w : World) (base : Nat) (xs : List Nat) (k old : Nat) (hx : ∀ x ∈ xs, x < 256) (hlen : xs.length + k ≤ 1000000000) (hbase : base ≤ w.heap.size) :
    Own (w.drew.alloc (.cells ((bv xs).toArray ++ Builtin.zeroCells (Value.int .u8 0).cells k ++ Builtin.zeroCells (Value.int .u8 0).cells (grownCap w (xs.length + k) old 5 - (xs.length + k))) 5)) base
      (.slice (some ⟨w.heap.size, 0, none⟩) (xs.length + k) (grownCap w (xs.length + k) old 5)) (xs ++ List.replicate k 0) := by
  have hge := grownCap_ge w (xs.length + k) old 5
  have hcm : grownCap w (xs.length + k) old 5 ≤ maxLen := grownCap_le_maxLen w _ old 5 (by unfold maxLen; omega)
  have hl : (xs ++ List.replicate k 0).length = xs.length + k := by simp
  refine ⟨⟨by rw [bv_length, Nat.mul_one], .inr ⟨w.heap.size, _, _, by rw [hl], hbase, heap_alloc_new w.drew _, by rw [hl]; exact hge, hcm, ?_, ?_⟩⟩, ?_⟩
  · simp only [Array.size_append, List.size_toArray, size_zeroCells, bv_length]
    have : (Value.int IntKind.u8 0).cells.size = 1 := rfl
    rw [this]
    omega
  · simp only [Array.toList_append, hl, zeroCells_list]
    rw [bv_append]
    have hn : (bv xs ++ bv (List.replicate k 0)).length = (xs.length + k) * 1 := by rw [List.length_append, bv_length, bv_length, List.length_replicate, Nat.mul_one]
    rw [← hn]
    exact List.take_left
  · intro q hq
    rcases List.mem_append.1 hq with hq | hq
    · exact hx q hq
    · have := List.eq_of_mem_replicate hq
      omega
theorem wpo_append_zeros {o : Oper} {a : Act} {w : World} {K : Act → World → Prop} {Q : Exit → Act → World → Prop} (s x : Operand)
    (ho : o.op = .call { callee := .builtin .append, args := #[s, x], argTypes := #[25, 3] })
    (base : Nat) (v : Value) (xs : List Nat) (hs : a.eval s = v) (hown : Own w base v xs) (k : Nat) (hx : a.eval x = .int .i64 (k : Int))
    (hlen : xs.length + k ≤ 1000000000) (hbase : base ≤ w.heap.size)
    (h : ∀ v' w', Own w' base v' (xs ++ List.replicate k 0) → w.grownBy w' v.ownBlock → (v'.ownBlock = v.ownBlock ∨ v'.ownBlock = some w.heap.size) → K (a.put o.dst v') w') :
    o.wp Try.prog a w K Q := by
  obtain ⟨i0, hi, hz0, hz1, hz2⟩ := info_parts infoB
  have ht := Try.underlying25
  have htn := Try.underlying3
  have fin : ∀ v' w', (Builtin.append_ #[25, 3] o.type #[v, .int .i64 (k : Int)]).run Try.prog w = .ok v' w' → Own w' base v' (xs ++ List.replicate k 0) → w.grownBy w' v.ownBlock → (v'.ownBlock = v.ownBlock ∨ v'.ownBlock = some w.heap.size) → o.wp Try.prog a w K Q := fun v' w' hr h1 h2 h3 =>
    Lib.wp_append_run w s x _ _ ho v _ hs hx v' w' hr (h v' w' h1 h2 h3)
  have hw : IntKind.i64.wrap (k : Int) = k := by rw [IntKind.wrap_i64]; omega
  have hw0 : IntKind.i64.wrap (0 : Int) = 0 := by rw [IntKind.wrap_i64]; rfl
  obtain ⟨⟨hl1, h3⟩, hb⟩ := hown
  rcases h3 with ⟨rfl, hn⟩ | ⟨g, cap, cur, rfl, hbg, hg, hnc, hcm, hcs, htake⟩
  · obtain rfl : xs = [] := List.eq_nil_of_length_eq_zero hn
    by_cases hk : k = 0
    · subst hk
      refine fin (.slice none 0 0) w ?_ (Own.nil w base) ⟨rfl, rfl, rfl, Nat.le_refl _, fun _ _ _ => rfl⟩ (.inl rfl)
      simp [Builtin.append_, run_underlying ht, run_underlying htn, sizeOf, typeInfo, hi, asInt, asIntOf, hw0]
    · have hr := Lib.run_append_nil_zeros (P := Try.prog) w 25 3 o.type 5 i0 (.int .u8 0) .i64 .i64 ht htn hi hz0 k (by omega) (by omega) (by simp at hlen; omega) (by simp at hlen; rw [hz2]; omega)
      have hO := own_grown_zeros w base [] k 0 (by simp) hlen hbase
      simp only [List.length_nil, Nat.zero_add, bv, List.map_nil, Array.empty_append] at hO
      refine fin _ _ hr ?_ ?_ (.inr rfl)
      · simpa using hO
      · exact ⟨rfl, rfl, rfl, by simp, fun _ hj _ => heap_alloc_old w.drew _ hj⟩
  · by_cases hroom : xs.length + k ≤ cap
    · refine fin (.slice (some ⟨g, 0, none⟩) (xs.length + k) cap) (w.setRow g (cur.toList.take (xs.length * 1) ++ bv (List.replicate k 0) ++ cur.toList.drop (xs.length * 1 + (bv (List.replicate k 0)).length)).toArray) ?_ ?_ ?_ (.inl rfl)
      · have hst := run_storeCells_at Try.prog g (xs.length * 1) 5 (bv (List.replicate k 0)) 0 cur w hg (by rw [bv_length, List.length_replicate, hcs]; omega) (bv_one _)
        have hzl : (Builtin.zeroCells (Value.int .u8 0).cells k).toList = bv (List.replicate k 0) := zeroCells_list k
        simp only [Nat.add_zero] at hst
        have hneg : ¬ ((k : Int) < 0) := by omega
        have h48 : ¬ (281474976710656 < (k : Int)) := by omega
        by_cases hk : k = 0
        · subst hk
          simp [Builtin.append_, run_underlying ht, run_underlying htn, sizeOf, typeInfo, hi, hz1, hz2, asInt, asIntOf, hw0, hnc, bv, Addr.add_lit, storeCells]
          have h9 := hst
          simp [bv, storeCells] at h9
          exact h9
        · simp [Builtin.append_, run_underlying ht, run_underlying htn, sizeOf, typeInfo, zeroValue, hi, hz0, hz1, hz2, asInt, asIntOf, hw, hroom, hneg, h48, hk, Addr.add_lit, hzl]
          simp at hst
          simp [hst]
      · have hl : (xs ++ List.replicate k 0).length = xs.length + k := by simp
        refine ⟨⟨by rw [bv_length, Nat.mul_one], .inr ⟨g, cap, _, by rw [hl], hbg, setRow_heap w g cur _ 5 _ hg, by rw [hl]; exact hroom, hcm, ?_, ?_⟩⟩, ?_⟩
        · simp only [List.size_toArray, List.length_append, List.length_take, List.length_drop, Array.length_toList, bv_length, List.length_replicate]
          omega
        · rw [htake, hl, bv_append]
          have hn : (bv xs ++ bv (List.replicate k 0)).length = (xs.length + k) * 1 := by rw [List.length_append, bv_length, bv_length, List.length_replicate, Nat.mul_one]
          rw [← hn]
          exact List.take_left
        · intro q hq
          rcases List.mem_append.1 hq with hq | hq
          · exact hb q hq
          · have := List.eq_of_mem_replicate hq
            omega
      · exact ⟨rfl, rfl, rfl, by simp, fun j _ hj => setRow_other w g j _ (fun e => hj (by simp [Value.ownBlock, e]))⟩
    · have hk : 0 < k := by omega
      have holds := (show w.ownsRow base 5 1 (.slice (some ⟨g, 0, none⟩) xs.length cap) xs.length (bv xs) from ⟨hl1, .inr ⟨g, cap, cur, rfl, hbg, hg, hnc, hcm, hcs, htake⟩⟩).cells (g := g) rfl
      have hfc := run_firstCells_some (P := Try.prog) w.drew i0.size xs.length ⟨g, 0, none⟩ xs.length cap (bv xs) (by rw [bv_length, hz1]; omega) holds
      have hr := Lib.run_append_grow_zeros (P := Try.prog) w 25 3 o.type 5 i0 (.int .u8 0) .i64 .i64 ht htn hi hz0 (some ⟨g, 0, none⟩) xs.length cap (bv xs) hfc k hk (by rw [hz1]; decide) (by omega) (by omega) (by rw [hz2]; omega) (by have := growslice_fits (old := cap) (show cap < xs.length + k by omega) (show (xs.length + k) * i0.bytes ≤ 140737488355328 by rw [hz2]; omega); omega)
      exact fin _ _ hr (own_grown_zeros w base xs k cap hb hlen hbase) ⟨rfl, rfl, rfl, by simp, fun _ hj _ => heap_alloc_old w.drew _ hj⟩ (.inr rfl)

theorem neg_and (n : Nat) (h : n ≤ 1000000000) : bits .and .i64 (-(n : Int)) 15 = (((16 - n % 16) % 16 : Nat) : Int) := by
  have h1 : (BitVec.ofInt 64 (-(n : Int))).toNat = (18446744073709551616 - n) % 18446744073709551616 := by
    rw [BitVec.toNat_ofInt]
    omega
  have h2 : (BitVec.ofInt 64 15).toNat = 2 ^ 4 - 1 := by decide
  show IntKind.i64.wrap (((BitVec.ofInt 64 (-(n : Int)) &&& BitVec.ofInt 64 15).toNat : Nat) : Int) = _
  rw [BitVec.toNat_and, h1, h2, Nat.and_two_pow_sub_one_eq_mod, IntKind.wrap_i64]
  omega
end Go.Proofs.Ytpcppnoomogloaa

namespace Go.Proofs.Ytpcppnoomogloaa
set_option linter.unusedSimpArgs false
set_option linter.unusedVariables false
open Go.RowKit

/-- Where block b is a row, the conversion leaves a world in which b is a row of the same cells, and all else stays. -/
theorem run_conv_own {P : Program} (w : World) (t e : TypeId) (b : Nat) (C : Array Value) (n c : Nat) (ht : P.underlying t = some (.slice e)) (he : P.underlying e = some (.int .u8)) (hb : w.heap[b]? = some (.cells C e (0, 0))) :
    ∃ w' fr, (convert t t (.slice (some ⟨b, 0, none⟩) n c)).run P w = .ok (.slice (some ⟨b, 0, none⟩) n c) w' ∧ w.grownBy w' (some b) ∧ w'.heap[b]? = some (.cells C e fr) := by
  have hsh : w.shape? b = some (e, C.size) := by
    unfold World.shape?
    rw [hb]
  refine ⟨w.freeze ⟨b, C.size, none⟩ 1, (C.size, C.size + 1), ?_, ⟨rfl, rfl, rfl, ?_, fun k hk hne => ?_⟩, ?_⟩
  · simp [convert, run_underlying ht, run_underlying he, markStringish, hsh]
  · simp [World.freeze]
  · unfold World.freeze
    rw [if_neg (by decide)]
    simp only [Array.getElem?_modify]
    rw [if_neg (fun e => hne (by rw [e]))]
  · unfold World.freeze
    rw [if_neg (by decide)]
    simp only [Array.getElem?_modify, if_true]
    rw [hb]
    rfl
theorem wpo_conv {o : Oper} {a : Act} {w : World} {K : Act → World → Prop} {Q : Exit → Act → World → Prop} {x : Operand} {b n c : Nat} {C : Array Value} (ho : o.op = .convert 25 25 x) (hx : a.eval x = .slice (some ⟨b, 0, none⟩) n c) (hb : w.heap[b]? = some (.cells C 5 (0, 0)))
    (h : ∀ w' fr, w.grownBy w' (some b) → w'.heap[b]? = some (.cells C 5 fr) → K (a.put o.dst (.slice (some ⟨b, 0, none⟩) n c)) w') : o.wp Try.prog a w K Q := by
  obtain ⟨w', fr, hrun, hg, hh⟩ := run_conv_own (P := Try.prog) w 25 5 b C n c Try.underlying25 Try.underlying5 hb
  unfold Oper.wp execOp
  simp only [ho, hx, Sem.run_bind, hrun, Result.andThen_ok]
  exact h w' fr hg hh
theorem rd_row {w : World} {b n : Nat} {bs : List Nat} {e : TypeId} {fr : Nat × Nat} {C : Array Value} (h : w.heap[b]? = some (.cells C e fr)) (hC : C = (bv bs).toArray) (hn : bs.length = n) (hb : ∀ x ∈ bs, x < 256) (hl : n ≤ 1000000000) : RdB w (some ⟨b, 0, none⟩) n n bs := by
  subst hn hC
  refine ⟨hl, rfl, Nat.le_refl _, by omega, hb, by simp, .inr ⟨b, 0, rfl, (Array.getElem?_eq_some_iff.1 h).1, fun i hi => ?_⟩⟩
  rw [Nat.zero_add]
  unfold World.cell?
  rw [show w.heap[(⟨b, i, none⟩ : Addr).block]? = _ from h]
  simpa using bv_get bs i hi
end Go.Proofs.Ytpcppnoomogloaa

namespace Go.Proofs.Ytpcppnoomogloaa.Ae
set_option linter.unusedSimpArgs false
set_option linter.unusedVariables false
open Go.RowKit

/-- Block B is one variable of type []byte, and holds v. -/
def TV (w : World) (B : Nat) (v : Value) : Prop := w.heap[B]? = some (.cells #[v] 25 (0, 0))
section
variable {w w' : World} {B : Nat} {v : Value}
theorem TV.lt (h : TV w B v) : B < w.heap.size := (Array.getElem?_eq_some_iff.1 h).1
theorem TV.cell (h : TV w B v) : w.cell? ⟨B, 0, none⟩ = some v := by
  unfold World.cell?
  rw [show w.heap[(⟨B, 0, none⟩ : Addr).block]? = _ from h]
  simp
theorem TV.frozen (h : TV w B v) : w.frozen? ⟨B, 0, none⟩ = false := by
  unfold World.frozen?
  rw [show w.heap[(⟨B, 0, none⟩ : Addr).block]? = _ from h]
  simp
theorem TV.set (h : TV w B v) (u : Value) : TV (w.setCell ⟨B, 0, none⟩ u) B u := by
  unfold TV
  have := heap_setCell_same w B 0 #[v] 25 u h
  simpa using this
theorem TV.grown (h : TV w B v) {row : Option Nat} (hg : w.grownBy w' row) (hne : some B ≠ row) : TV w' B v := by
  unfold TV
  rw [hg.block B h.lt hne]
  exact h
theorem TV.below (h : TV w B v) (hb : Below w.heap.size w w') : TV w' B v := by
  unfold TV
  rw [hb.block B h.lt]
  exact h
theorem TV.new (w : World) (v : Value) : TV (w.alloc (.cells #[v] 25)) w.heap.size v := by
  unfold TV
  show (w.heap.push _)[w.heap.size]? = _
  simp
end
theorem own_setB {w : World} {B : Nat} {v : Value} {xs : List Nat} (h : Own w (B + 1) v xs) (u : Value) : Own (w.setCell ⟨B, 0, none⟩ u) (B + 1) v xs :=
  h.kept (gset (B := B) ⟨rfl, rfl, rfl, Nat.le_refl _, fun _ _ _ => rfl⟩ 0 u) (fun k hk q => by
    have := (h.block k q).1
    have := Option.some.inj hk
    omega)
theorem below_setB {w w' : World} {B : Nat} (h : Below B w w') (u : Value) : Below B w (w'.setCell ⟨B, 0, none⟩ u) := h.setCell (Nat.le_refl _) u
theorem own_neB {w : World} {B : Nat} {v : Value} {xs : List Nat} (h : Own w (B + 1) v xs) : some B ≠ v.ownBlock := fun e => by
  have := (h.block B e.symm).1
  omega
theorem own_grownB {w w' : World} {B : Nat} {v : Value} {xs : List Nat} (h : Own w (B + 1) v xs) (hB : B ≤ w.heap.size) (hg : w.grownBy w' v.ownBlock) : Below B w w' :=
  grown_below hg hB (fun k hk => by have := (h.block k hk).1; omega)

set_option maxHeartbeats 2000000 in
theorem filled_any (w : World) (B n : Nat) (av : Option Addr) (cv : Nat) (xs : List Nat) (a : Option Addr) (len cap : Nat) (bs : List Nat) (hT : TV w B (.slice av n cv)) (hn : xs.length = n) (hO : Own w (B + 1) (.slice av n cv) xs) (hr : RdB w a len cap bs)
    (hsz : n + len ≤ 900000000) :
    Calls Try.prog 62 #[.slice a len cap, .pointer (some ⟨B, 0, none⟩)] w fun e w' => e = .returned (.tuple #[]) ∧ ∃ av' cv', TV w' B (.slice av' (n + (fillZ bs).length) cv') ∧ Own w' (B + 1) (.slice av' (n + (fillZ bs).length) cv') (xs ++ fillZ bs) ∧ Below B w w' := by
  have hbl : bs.length = len := hr.2.1
  have hB := hT.lt
  obtain ⟨k, hk⟩ : ∃ k, k = (16 - len % 16) % 16 := ⟨_, rfl⟩
  have hk15 : k ≤ 15 := by omega
  have hand := neg_and len (by omega)
  rw [← hk] at hand
  have hnw : IntKind.i64.wrap (-(len : Int)) = -(len : Int) := by rw [IntKind.wrap_i64]; omega
  have hfl : (fillZ bs).length = len + k := by rw [fillZ_length, hbl, hk]
  have hfz : fillZ bs = bs ++ List.replicate k 0 := by unfold fillZ; rw [hbl, hk]
  rw [hfl, hfz]
  have HBL := Lib.hid hbl
  have HN := Lib.hid hn
  clear hk hfl hfz hbl hn
  go_enter Try.func62, Try.ntmps62
  have hc0 := hT.cell
  go_wp2_with (first
    | (at_builtin; refine wpList_of_wp rfl (wpo_append_at (.tmp 3) (.tmp 4) rfl (B + 1) (.slice av n cv) xs rfl hO a len cap bs rfl hr (by rw [HN.out, HBL.out]; omega) hB ?_); intro v1 w1 o1 g1 _; have b1 := own_grownB hO (Nat.le_of_lt hB) g1; have t1 := hT.grown g1 (own_neB hO); obtain ⟨a1, c1, rfl, r1, _⟩ := o1.rd (by rw [List.length_append, HN.out, HBL.out]; omega); rw [List.length_append, HN.out, HBL.out] at o1 ⊢; have hf1 := t1.frozen; have hc1 := t1.cell; obtain ⟨w2, hW2⟩ : ∃ w2, w1.setCell ⟨B, 0, none⟩ (.slice a1 (n + len) c1) = w2 := ⟨_, rfl⟩; have t2 := t1.set (.slice a1 (n + len) c1); have o2 := own_setB o1 (.slice a1 (n + len) c1); have b2 := below_setB b1 (.slice a1 (n + len) c1); rw [hW2] at t2 o2 b2; have hc2 := t2.cell; have hB2 := t2.lt; clear r1)
    | (at_builtin; refine wpList_of_wp rfl (wpo_append_zeros (.tmp 6) (.tmp 10) rfl (B + 1) (.slice a1 (n + len) c1) (xs ++ bs) rfl o2 k rfl (by rw [List.length_append, HN.out, HBL.out]; omega) hB2 ?_); intro v3 w3 o3 g3 _; have b3 := b2.trans (own_grownB o2 (Nat.le_of_lt hB2) g3); have t3 := t2.grown g3 (own_neB o2); obtain ⟨a3, c3, rfl, r3, _⟩ := o3.rd (by rw [List.length_append, List.length_append, List.length_replicate, HN.out, HBL.out]; omega); rw [List.length_append, List.length_append, List.length_replicate, HN.out, HBL.out] at o3 ⊢; have hf3 := t3.frozen; have hc3 := t3.cell; clear r3)
    | fail)
  go_end0
  refine ⟨rfl, a3, c3, ?_, ?_, ?_⟩
  · rw [← Nat.add_assoc]; exact t3.set _
  · rw [← Nat.add_assoc, ← List.append_assoc]; exact own_setB o3 _
  · exact below_setB b3 _
end Go.Proofs.Ytpcppnoomogloaa.Ae

namespace Go.Proofs.Ytpcppnoomogloaa.Ae
set_option linter.unusedSimpArgs false
set_option linter.unusedVariables false
open Go.RowKit

theorem range_take {w : World} {B : Nat} {e : TypeId} {k : IntKind} {xs : List Nat} (h : Blk w B e k xs) (n : Nat) : w.rangeAt B 0 (nv k (xs.take n)) := by
  intro j v hj
  refine blk_range h j v ?_
  have : nv k (xs.take n) = (nv k xs).take n := by simp [nv, List.map_take]
  rw [this, List.getElem?_take] at hj
  split at hj
  · exact hj
  · cases hj
theorem LW.belowB {w W W' : World} {l : List (Nat × TypeId × IntKind × List Nat)} {r : List (Option Addr × Nat × Nat × List Nat)} {B : Nat} (h : LW w l r W) (hb : Below B W W') (hB : w.heap.size ≤ B) (hl : ∀ e ∈ l, e.1 < B) (hr : ∀ e ∈ r, ∀ x, e.1 = some x → 0 < e.2.1 → x.block < B) : LW w l r W' :=
  ⟨fun e he => (h.has e he).belowB hb (hl e he), fun e he => by
    have h0 := h.rds e he
    rcases Nat.eq_zero_or_pos e.2.1 with hz | hp
    · exact ⟨h0.1, h0.2.1, h0.2.2.1, h0.2.2.2.1, h0.2.2.2.2.1, h0.2.2.2.2.2.1, .inl hz⟩
    · exact h0.belowB hb (fun x hx => hr e he x hx hp), h.bel.trans (hb.mono hB)⟩
theorem wpo_value {P : Program} {o : Oper} {a : Act} {w : World} {K : Act → World → Prop} {Q : Exit → Act → World → Prop} {v : Value} (h : (execOp a.eval o).run P w = .ok (.value v) w) (hk : K (a.put o.dst v) w) : o.wp P a w K Q := by
  unfold Oper.wp
  rw [h]
  exact hk
theorem info_sl : ∃ i0, Try.prog.info? 25 = some i0 ∧ i0.size = 1 := ⟨_, rfl, by kernel_rfl⟩
theorem run_storeAt_sl {w : World} {B n c : Nat} {v : Value} {ad : Option Addr} (hT : TV w B v) : (Instr.storeAt 25 (.pointer (some ⟨B, 0, none⟩)) (.slice ad n c)).run Try.prog w = .ok () (w.setCell ⟨B, 0, none⟩ (.slice ad n c)) := by
  obtain ⟨i0, hi, hs⟩ := info_sl
  have hz : (sizeOf 25).run Try.prog w = .ok 1 w := by simp [sizeOf, typeInfo, hi, hs]
  simp [Instr.storeAt, Instr.sureAddr, storeVar, hz, storeCells, go_sem, hT.cell, hT.frozen, Value.cells]
theorem run_loadAt_sl {w : World} {B : Nat} {v : Value} (hT : TV w B v) : (Instr.loadAt 25 (.pointer (some ⟨B, 0, none⟩))).run Try.prog w = .ok v w := by
  obtain ⟨i0, hi, hs⟩ := info_sl
  simp [Instr.loadAt, Instr.sureAddr, go_sem, hT.cell, Try.underlying25]
theorem info_int : ∃ i0, Try.prog.info? 3 = some i0 ∧ i0.size = 1 := ⟨_, rfl, by kernel_rfl⟩
theorem wpo_store_tv {o : Oper} {a : Act} {w : World} {K : Act → World → Prop} {Q : Exit → Act → World → Prop} {x y : Operand} {B n c : Nat} {v : Value} {ad : Option Addr} (ho : o.op = .store 25 x y) (hd : o.dst = none) (hx : a.eval x = .pointer (some ⟨B, 0, none⟩)) (hy : a.eval y = .slice ad n c) (hT : TV w B v)
    (h : K a (w.setCell ⟨B, 0, none⟩ (.slice ad n c))) : o.wp Try.prog a w K Q := by
  have hrun : (execOp a.eval o).run Try.prog w = .ok .skip (w.setCell ⟨B, 0, none⟩ (.slice ad n c)) := by simp [execOp, ho, hx, hy, run_storeAt_sl hT]
  unfold Oper.wp
  rw [hrun, Oper.upon_skip, hd]
  exact h
theorem wpo_load_tv {o : Oper} {a : Act} {w : World} {K : Act → World → Prop} {Q : Exit → Act → World → Prop} {x : Operand} {B : Nat} {v : Value} (ho : o.op = .load 25 x) (hx : a.eval x = .pointer (some ⟨B, 0, none⟩)) (hT : TV w B v)
    (h : K (a.put o.dst v) w) : o.wp Try.prog a w K Q := by
  exact wpo_value (v := v) (by simp [execOp, ho, hx, run_loadAt_sl hT]) h
end Go.Proofs.Ytpcppnoomogloaa.Ae

namespace Go.Proofs.Ytpcppnoomogloaa.Ae
set_option linter.unusedSimpArgs false
set_option linter.unusedVariables false
open Go.RowKit

def acc (base : List Nat) (lb lh m : Nat) : List Nat := base ++ ([lb, lh].take m).flatMap e8
theorem acc_zero (base : List Nat) (lb lh : Nat) : acc base lb lh 0 = base := by simp [acc]
theorem acc_succ (base : List Nat) (lb lh m : Nat) (h : m < 2) : acc base lb lh (m + 1) = acc base lb lh m ++ e8 ([lb, lh].getD m 0) := by
  rcases (show m = 0 ∨ m = 1 by omega) with rfl | rfl <;> simp [acc]
theorem acc_length (base : List Nat) (lb lh m : Nat) (h : m ≤ 2) : (acc base lb lh m).length = base.length + 8 * m := by
  rcases (show m = 0 ∨ m = 1 ∨ m = 2 by omega) with rfl | rfl | rfl <;> simp [acc, e8_length]
theorem e8_take (n i : Nat) (h : i < 8) : (e8 n).take (i + 1) = (e8 n).take i ++ [n / 256 ^ i % 256] := by
  rw [List.take_add_one]
  congr 1
  simp [e8, h]

theorem byte_at (q : Nat) : IntKind.u8.wrap (q : Int) = ((q % 256 : Nat) : Int) := by rw [IntKind.wrap_u8]; omega
theorem pow_8 (i : Nat) : (256 : Nat) ^ i = 2 ^ (8 * i) := by rw [Nat.pow_mul]
set_option maxRecDepth 100000 in
set_option maxHeartbeats 2000000 in
theorem Tag_any (w : World) (key nonce : List Nat) (ha : Option Addr) (lh ch : Nat) (hid : List Nat) (ba : Option Addr) (lb cb : Nat) (bes : List Nat) (hk : key.length = 32) (hkb : ∀ x ∈ key, x < 256) (hn : nonce.length = 12) (hnb : ∀ x ∈ nonce, x < 256)
    (hrh : RdB w ha lh ch hid) (hrb : RdB w ba lb cb bes) (hs1 : lh ≤ 100000000) (hs2 : lb ≤ 100000000) :
    Calls Try.prog 51 #[.agg (bv key).toArray, .agg (bv nonce).toArray, .slice ha lh ch, .slice ba lb cb] w fun e w' => e = .returned (.agg (bv (tagA key nonce hid bes)).toArray) ∧ Below w.heap.size w w' := by
  have HK := Lib.hid (show (Try.prog.info? 35).map (·.size) = some key.length by rw [hk]; kernel_rfl)
  have HN := Lib.hid (show (Try.prog.info? 62).map (·.size) = some nonce.length by rw [hn]; kernel_rfl)
  have cB := Lib.hid (fun W => Ch.Block_any W key nonce 0 hk hkb hn hnb (by decide))
  have hol := Ch.block_length key 0 nonce
  have hob := Ch.block_lt key 0 nonce
  have htag : tagA key nonce hid bes = Po.tag ((Ch.block key 0 nonce).take 32) (text hid bes) := rfl
  generalize Ch.block key 0 nonce = once at cB hol hob htag
  have htx : text hid bes = acc (fillZ bes ++ fillZ hid) lb lh 2 := by
    unfold text acc
    rw [show bes.length = lb from hrb.2.1, show hid.length = lh from hrh.2.1]
    simp
  obtain ⟨base, hbase⟩ : ∃ base, base = fillZ bes ++ fillZ hid := ⟨_, rfl⟩
  rw [← hbase] at htx
  have HBASE := Lib.hid hbase
  clear hbase
  rw [htx] at htag
  have HTG : Hid (tagA key nonce hid bes = Po.tag (once.take 32) (acc base lb lh 2)) := Lib.hid htag
  have htl := tagA_length key nonce hid bes
  rw [htag] at htl
  have hZB := Lib.hid (show (Try.prog.info? 83).map (·.size) = some (nv .u8 once).toArray.size by simp only [List.size_toArray, nv_length]; rw [hol]; kernel_rfl)
  have hSB := Lib.hid (show 64 = (nv .u8 once).toArray.size by simp [nv, hol])
  have HOL := Lib.hid hol
  have HTL := Lib.hid htl
  have HHL := Lib.hid (show hid.length = lh from hrh.2.1)
  have HBL := Lib.hid (show bes.length = lb from hrb.2.1)
  have HFB := Lib.hid (fillZ_le bes)
  have HFH := Lib.hid (fillZ_le hid)
  have HLO := Lib.hid (And.intro (rdb_low hrh) (rdb_low hrb))
  clear hk hn hol htag htl htx
  go_enter Try.func51, Try.ntmps51
  have s0 : LW w [(w.heap.size + 1 + 1, 76, .u8, List.replicate 16 0), (w.heap.size + 1, 62, .u8, nonce), (w.heap.size, 35, .u8, key)] [(ha, lh, ch, hid), (ba, lb, cb, bes)] (((w.alloc (.cells (nv .u8 key).toArray 35)).alloc (.cells (nv .u8 nonce).toArray 62)).alloc (.cells (nv .u8 (List.replicate 16 0)).toArray 76)) := by
    have := (((((LW.nil (xrefl w)).addR hrb).addR hrh).new 35 .u8 key).new 62 .u8 nonce).new 76 .u8 (List.replicate 16 0)
    rw [World.size_alloc, World.size_alloc] at this
    exact this
  clear hrh hrb
  go_wp2_with (first
    | (refine wp_load_arr rfl 35 (.tmp 4) rfl w.heap.size rfl (s0.blk 2 rfl) 32 5 Try.underlying35 HK.out ?_)
    | (refine wp_load_arr rfl 62 (.tmp 5) rfl (w.heap.size + 1) rfl (s0.blk 1 rfl) 12 5 Try.underlying62 HN.out ?_)
    | (go_at_call 61; refine (cB.out _).mono ?_; rintro e w2 ⟨rfl, b2⟩; have s2 := s0.below b2; clear s0 b2)
    | (refine wp_store_new rfl 83 (.tmp 9) (.tmp 17) rfl rfl _ (nv .u8 once).toArray rfl hZB.out hSB.out (nv_one _ _) ?_; have hX0 := s2.lt _ (List.mem_cons_self); have s3 := s2.new 83 .u8 once; generalize w2.heap.size = X at s3 hX0 ⊢; replace hX0 : w.heap.size + 1 + 1 < X := hX0; refine wpList_at (fun V => LW w [(X, 83, .u8, once), (w.heap.size + 1 + 1, 76, .u8, List.replicate 16 0), (w.heap.size + 1, 62, .u8, nonce), (w.heap.size, 35, .u8, key)] [(ha, lh, ch, hid), (ba, lb, cb, bes)] V) s3 ?_; clear s3 s2 w2; intro W3 s3)
    | fail)
  have hTV := TV.new W3 (.slice none 0 0)
  have hXB : X < W3.heap.size := s3.lt _ (List.mem_cons_self)
  have s4 := s3.alloc (.cells #[.slice none 0 0] 25)
  clear s3
  have hlX : ∀ e ∈ [(X, 83, IntKind.u8, once), (w.heap.size + 1 + 1, 76, IntKind.u8, List.replicate 16 0), (w.heap.size + 1, 62, IntKind.u8, nonce), (w.heap.size, 35, IntKind.u8, key)], e.1 < W3.heap.size := fun e he => by
    simp only [List.mem_cons, List.not_mem_nil, or_false] at he
    rcases he with rfl | rfl | rfl | rfl
    all_goals (dsimp only; omega)
  have hrX : ∀ e ∈ [(ha, lh, ch, hid), (ba, lb, cb, bes)], ∀ x, e.1 = some x → 0 < e.2.1 → x.block < W3.heap.size := fun e he x hx h0 => by
    simp only [List.mem_cons, List.not_mem_nil, or_false] at he
    rcases he with rfl | rfl
    · have := HLO.out.1 x hx h0; omega
    · have := HLO.out.2 x hx h0; omega
  have HLX := Lib.hid hlX
  have HRX := Lib.hid hrX
  clear hlX hrX
  refine (filled_any _ W3.heap.size 0 none 0 [] ba lb cb bes hTV rfl (Own.nil _ _) (s4.rd 1 rfl) (by omega)).mono ?_
  rintro e w4 ⟨rfl, av4, cv4, t4, o4, b4⟩
  have s5 := LW.belowB s4 b4 (by omega) HLX.out HRX.out
  rw [List.nil_append] at o4
  simp only [Nat.zero_add] at t4 o4
  clear s4 b4 hTV
  go_wp2_with fail
  refine (filled_any _ W3.heap.size (fillZ bes).length av4 cv4 (fillZ bes) ha lh ch hid t4 rfl o4 (s5.rd 0 rfl) (by have := HFB.out; have := HBL.out; omega)).mono ?_
  rintro e w6 ⟨rfl, av6, cv6, t6, o6, b6⟩
  have s6 := LW.belowB s5 b6 (by omega) HLX.out HRX.out
  obtain ⟨n0, hn0⟩ : ∃ n0, n0 = (fillZ bes).length + (fillZ hid).length := ⟨_, rfl⟩
  have hbn : base.length = n0 := by rw [HBASE.out, hn0, List.length_append]
  have hn0l : n0 ≤ 400000000 := by have := HFB.out; have := HFH.out; have := HBL.out; have := HHL.out; omega
  rw [← HBASE.out] at o6
  rw [← hn0] at t6 o6
  have HBN := Lib.hid hbn
  have hal2 := acc_length base lb lh 2 (by decide)
  rw [hbn] at hal2
  have HAL2 := Lib.hid hal2
  clear hal2
  clear s5 b6 hn0 t4 o4 hbn
  have hix := fun (i : Nat) (h : i < 2) (W : World) => run_index_arr (P := Try.prog) (ty := 86) (el := 3) (n := 2) (q := .i64) Try.underlying86 Try.underlying3 info_int.choose_spec.1 info_int.choose_spec.2 .i64 [lb, lh] rfl i h W
  have HIX := Lib.hid hix
  clear hix
  go_wp2_with fail
  obtain ⟨wo, hwo⟩ : ∃ wo : World, wo = w6 := ⟨_, rfl⟩
  rw [← hwo] at s6 t6 o6 ⊢
  clear hwo
  go_loopw [30] (fun r wr => ∃ m : Nat, m ≤ 2 ∧ r = .int .i64 m ∧ ∃ av cv, TV wr W3.heap.size (.slice av (n0 + 8 * m) cv) ∧ Own wr (W3.heap.size + 1) (.slice av (n0 + 8 * m) cv) (acc base lb lh m) ∧ LW w [(X, 83, .u8, once), (w.heap.size + 1 + 1, 76, .u8, List.replicate 16 0), (w.heap.size + 1, 62, .u8, nonce), (w.heap.size, 35, .u8, key)] [(ha, lh, ch, hid), (ba, lb, cb, bes)] wr) (fun r _ => 2 - (intOf r).toNat)
  case atStart => exact ⟨0, by decide, rfl, av6, cv6, t6, by rw [acc_zero]; exact o6, s6⟩
  case round =>
    clear s6 t6 o6
    obtain ⟨m, hm2, rfl, avm, cvm, tm, om, sm⟩ := hrel
    by_cases hlt : m < 2
    · have e2 : decide ((m : Int) < 2) = true := decide_eq_true (by omega)
      have hx0 := HIX.out m hlt
      have HAS := Lib.hid (acc_succ base lb lh m hlt)
      have HAL := Lib.hid (acc_length base lb lh m hm2)
      obtain ⟨lm, hlm⟩ : ∃ lm, lm = [lb, lh].getD m 0 := ⟨_, rfl⟩
      have hlm8 : lm ≤ 100000000 := by
        rcases (show m = 0 ∨ m = 1 by omega) with rfl | rfl
        · rw [hlm]; exact hs2
        · rw [hlm]; exact hs1
      rw [← hlm] at hx0 HAS
      have hx : ∀ W, (Instr.index 86 (.agg #[.int .i64 (lb : Int), .int .i64 (lh : Int)]) (.int .i64 (m : Int))).run Try.prog W = .ok (.int .i64 (lm : Int)) W := hx0
      clear hx0
      have HLT := Lib.hid hlt
      generalize acc base lb lh m = ys at om HAS HAL
      clear hlt hm2 hlm
      go_wp2_with fail
      clear hx
      obtain ⟨n1, hn1⟩ : ∃ n1, n1 = n0 + 8 * m := ⟨_, rfl⟩
      rw [← hn1] at tm om
      have hn1l : n1 ≤ 400000016 := by have := HLT.out; omega
      have hyl : ys.length = n1 := by rw [HAL.out, HBN.out, hn1]
      have HYL := Lib.hid hyl
      have HN1 := Lib.hid hn1
      clear hyl hn1
      go_loopw [33] (fun r wr => ∃ i : Nat, i ≤ 8 ∧ r = .int .i64 i ∧ ∃ av cv, TV wr W3.heap.size (.slice av (n1 + i) cv) ∧ Own wr (W3.heap.size + 1) (.slice av (n1 + i) cv) (ys ++ (e8 lm).take i) ∧ LW w [(X, 83, .u8, once), (w.heap.size + 1 + 1, 76, .u8, List.replicate 16 0), (w.heap.size + 1, 62, .u8, nonce), (w.heap.size, 35, .u8, key)] [(ha, lh, ch, hid), (ba, lb, cb, bes)] wr) (fun r _ => 8 - (intOf r).toNat)
      case atStart => exact ⟨0, by decide, rfl, avm, cvm, tm, by rw [List.take_zero, List.append_nil]; exact om, sm⟩
      case round =>
        clear tm om sm
        obtain ⟨i, hi8, rfl, avi, cvi, ti, oi, si⟩ := hrel
        by_cases hlti : i < 8
        · have e8t := e8_take lm i hlti
          have HE8 := Lib.hid e8t
          have e9 : decide ((i : Int) < 8) = true := decide_eq_true (by omega)
          obtain ⟨z, hz⟩ : ∃ z, z = lm / 256 ^ i % 256 := ⟨_, rfl⟩
          have hzl : z < 256 := hz ▸ Nat.mod_lt _ (by decide)
          have HZ := Lib.hid hz
          rw [← hz] at HE8
          obtain ⟨s8, hs8⟩ : ∃ s8, s8 = 8 * i := ⟨_, rfl⟩
          have w8 : IntKind.i64.wrap (8 * (i : Int)) = (s8 : Int) := by rw [IntKind.wrap_i64]; omega
          have hs8l : (s8 : Int) < 64 := by omega
          obtain ⟨q, hq⟩ : ∃ q, q = lm / 2 ^ s8 := ⟨_, rfl⟩
          have hqz := byte_at q
          rw [show q % 256 = z by rw [hz, hq, hs8, pow_8]] at hqz
          have hq2 : (lm : Int) / 2 ^ s8 = (q : Int) := by rw [hq]; norm_cast
          clear hs8 hq
          clear hz e8t
          obtain ⟨xs, hxs⟩ : ∃ xs, xs = ys ++ (e8 lm).take i := ⟨_, rfl⟩
          have hxl : xs.length = n1 + i := by rw [hxs, List.length_append, List.length_take, e8_length, HYL.out]; omega
          rw [← hxs] at oi
          have HXS := Lib.hid hxs
          have HXL := Lib.hid hxl
          obtain ⟨n2, hn2⟩ : ∃ n2, n2 = n1 + i := ⟨_, rfl⟩
          rw [← hn2] at ti oi HXL
          have hn2l : n2 ≤ 400000100 := by omega
          have HN2 := Lib.hid hn2
          clear hxs hxl hn2
          go_wp2_with fail
          refine wp_region_held_drew (S := fun _ => True) (by kernel_rfl) (trivial) (fun hHeld => ?_)
          have tv : TV wr.drew W3.heap.size (.slice avi n2 cvi) := ti
          have ov := oi.below (below_drewN (xrefl _) 1)
          have sv := si.drew
          change Own wr.drew _ _ _ at ov
          generalize World.drew _ = wv at hHeld tv ov sv ⊢
          clear ti oi si
          refine takeL (i := 1) (v := ?_) rfl rfl (by kernel_rfl) (by kernel_rfl) (by kernel_rfl) (fun _ _ _ h => h) (Or.inl ⟨by rfl, ?_⟩) (by assumption) ?_
          rotate_left
          · (intro w' hSw; go_simp; try with_reducible rfl)
          try simp only [Act.put, List.setIfInBounds_toArray, List.set_cons_zero, List.set_cons_succ]
          refine takeL (i := 2) (v := ?_) rfl rfl (by kernel_rfl) (by kernel_rfl) (by kernel_rfl) (fun _ _ _ h => h) (Or.inl ⟨by rfl, ?_⟩) (by assumption) ?_
          rotate_left
          · (intro w' hSw; go_simp; try with_reducible rfl)
          try simp only [Act.put, List.setIfInBounds_toArray, List.set_cons_zero, List.set_cons_succ]
          refine takeL (i := 3) (v := ?_) rfl rfl (by kernel_rfl) (by kernel_rfl) (by kernel_rfl) (fun _ _ _ h => h) (Or.inl ⟨by rfl, ?_⟩) (by assumption) ?_
          rotate_left
          · (intro w' hSw; go_simp; try with_reducible rfl)
          try simp only [Act.put, List.setIfInBounds_toArray, List.set_cons_zero, List.set_cons_succ]
          refine takeL (i := 4) (v := .int .i64 (q : Int)) rfl rfl (by kernel_rfl) (by kernel_rfl) (by kernel_rfl) (fun _ _ _ h => h) (Or.inl ⟨by rfl, ?_⟩) (by assumption) ?_
          · (intro w' hSw; go_simp; try with_reducible rfl)
          try simp only [Act.put, List.setIfInBounds_toArray, List.set_cons_zero, List.set_cons_succ]
          refine takeL (i := 5) (v := .int .u8 (z : Int)) rfl rfl (by kernel_rfl) (by kernel_rfl) (by kernel_rfl) (fun _ _ _ h => h) (Or.inl ⟨by rfl, ?_⟩) (by assumption) ?_
          · (intro w' hSw; go_simp; try with_reducible rfl)
          try simp only [Act.put, List.setIfInBounds_toArray, List.set_cons_zero, List.set_cons_succ]
          refine wpAnyH_ready (rs := [0, 6]) (by kernel_rfl) (by simp) ?_
          refine consL rfl (fun K hK => ?_) (consL rfl (fun K hK => ?_) AllReadyH.nil)
          · rw [if_pos (by rfl)]
            refine wpo_load_tv rfl rfl tv ?_
            refine hK.out _ _ (trivial) (fun hHeld => ?_)
            clear hK K
            try simp only [Act.put, List.setIfInBounds_toArray, List.set_cons_zero, List.set_cons_succ]
            refine wpAnyH_ready (rs := [6]) (by kernel_rfl) (by simp) ?_
            refine consL rfl (fun K hK => ?_) AllReadyH.nil
            · rw [if_pos (by rfl)]
              go_simp
              have g21 := alloc_grown wv (.cells #[.int .u8 (z : Int)] 5)
              have o21 := ov.kept g21 (by simp)
              have t21 := tv.grown g21 (by simp)
              have s21 := sv.alloc (.cells #[.int .u8 (z : Int)] 5)
              have r21 : RdB (wv.alloc (.cells #[.int .u8 (z : Int)] 5)) (some ⟨wv.heap.size, 0, none⟩) 1 1 [z] := rd_new _ _ _ _ _ _ rfl rfl (fun x hx => List.mem_singleton.1 hx ▸ hzl) (by simp)
              generalize wv.alloc (.cells #[.int .u8 (z : Int)] 5) = w21 at g21 o21 t21 s21 r21 ⊢
              refine hK.out _ _ (trivial) (fun hHeld => ?_)
              clear hK K
              try simp only [Act.put, List.setIfInBounds_toArray, List.set_cons_zero, List.set_cons_succ]
              refine wpAnyH_ready (rs := [7]) (by kernel_rfl) (by simp) ?_
              refine consL rfl (fun K hK => ?_) AllReadyH.nil
              · rw [if_pos (by rfl)]
                refine wpo_append_at (.tmp 36) (.tmp 42) rfl (W3.heap.size + 1) (.slice avi n2 cvi) xs rfl o21 _ _ _ [z] rfl r21 (by rw [HXL.out]; show n2 + 1 ≤ 1000000000; omega) t21.lt ?_
                intro v22 w22 o22 g22 _
                have t22 := t21.grown g22 (own_neB o21)
                have s22 := LW.belowB s21 (own_grownB o21 (Nat.le_of_lt t21.lt) g22) (by omega) HLX.out HRX.out
                obtain ⟨a22, c22, rfl, r22, _⟩ := o22.rd (by rw [List.length_append, HXL.out]; show n2 + 1 ≤ 1000000000; omega)
                rw [List.length_append, HXL.out] at o22
                rw [List.length_append, HXL.out]
                change Own w22 _ (.slice a22 (n2 + 1) c22) _ at o22
                change K (Act.put _ _ (.slice a22 (n2 + 1) c22)) _
                refine hK.out _ _ (trivial) (fun hHeld => ?_)
                clear hK K
                try simp only [Act.put, List.setIfInBounds_toArray, List.set_cons_zero, List.set_cons_succ]
                refine wpAnyH_ready (rs := [8]) (by kernel_rfl) (by simp) ?_
                refine consL rfl (fun K hK => ?_) AllReadyH.nil
                · rw [if_pos (by rfl)]
                  refine wpo_store_tv rfl rfl rfl rfl t22 ?_
                  have tF := t22.set (.slice a22 (n2 + 1) c22)
                  have oF := own_setB o22 (.slice a22 (n2 + 1) c22)
                  have sF := LW.belowB s22 (below_setB (Below.refl _ _) (.slice a22 (n2 + 1) c22)) (by omega) HLX.out HRX.out
                  generalize World.setCell w22 ⟨W3.heap.size, 0, none⟩ (.slice a22 (n2 + 1) c22) = wF at tF oF sF ⊢
                  refine hK.out _ _ (trivial) (fun hHeld => ?_)
                  clear hK K
                  try simp only [Act.put, List.setIfInBounds_toArray, List.set_cons_zero, List.set_cons_succ]
                  refine wpAnyH_done (by kernel_rfl) ?_ _
                  go_wp2_with fail
                  have hfin : xs ++ [z] = ys ++ (e8 lm).take (i + 1) := by rw [HXS.out, HE8.out, List.append_assoc]
                  rw [hfin] at oF
                  rw [HN2.out, Nat.add_assoc] at tF oF
                  exact ⟨⟨i + 1, by omega, by go_num, _, _, tF, oF, sF⟩, by simp [intOf]; omega⟩
          · rw [if_pos (by rfl)]
            go_simp
            have g21 := alloc_grown wv (.cells #[.int .u8 (z : Int)] 5)
            have o21 := ov.kept g21 (by simp)
            have t21 := tv.grown g21 (by simp)
            have s21 := sv.alloc (.cells #[.int .u8 (z : Int)] 5)
            have r21 : RdB (wv.alloc (.cells #[.int .u8 (z : Int)] 5)) (some ⟨wv.heap.size, 0, none⟩) 1 1 [z] := rd_new _ _ _ _ _ _ rfl rfl (fun x hx => List.mem_singleton.1 hx ▸ hzl) (by simp)
            generalize wv.alloc (.cells #[.int .u8 (z : Int)] 5) = w21 at g21 o21 t21 s21 r21 ⊢
            refine hK.out _ _ (trivial) (fun hHeld => ?_)
            clear hK K
            try simp only [Act.put, List.setIfInBounds_toArray, List.set_cons_zero, List.set_cons_succ]
            refine wpAnyH_ready (rs := [0]) (by kernel_rfl) (by simp) ?_
            refine consL rfl (fun K hK => ?_) AllReadyH.nil
            · rw [if_pos (by rfl)]
              refine wpo_load_tv rfl rfl t21 ?_
              refine hK.out _ _ (trivial) (fun hHeld => ?_)
              clear hK K
              try simp only [Act.put, List.setIfInBounds_toArray, List.set_cons_zero, List.set_cons_succ]
              refine wpAnyH_ready (rs := [7]) (by kernel_rfl) (by simp) ?_
              refine consL rfl (fun K hK => ?_) AllReadyH.nil
              · rw [if_pos (by rfl)]
                refine wpo_append_at (.tmp 36) (.tmp 42) rfl (W3.heap.size + 1) (.slice avi n2 cvi) xs rfl o21 _ _ _ [z] rfl r21 (by rw [HXL.out]; show n2 + 1 ≤ 1000000000; omega) t21.lt ?_
                intro v22 w22 o22 g22 _
                have t22 := t21.grown g22 (own_neB o21)
                have s22 := LW.belowB s21 (own_grownB o21 (Nat.le_of_lt t21.lt) g22) (by omega) HLX.out HRX.out
                obtain ⟨a22, c22, rfl, r22, _⟩ := o22.rd (by rw [List.length_append, HXL.out]; show n2 + 1 ≤ 1000000000; omega)
                rw [List.length_append, HXL.out] at o22
                rw [List.length_append, HXL.out]
                change Own w22 _ (.slice a22 (n2 + 1) c22) _ at o22
                change K (Act.put _ _ (.slice a22 (n2 + 1) c22)) _
                refine hK.out _ _ (trivial) (fun hHeld => ?_)
                clear hK K
                try simp only [Act.put, List.setIfInBounds_toArray, List.set_cons_zero, List.set_cons_succ]
                refine wpAnyH_ready (rs := [8]) (by kernel_rfl) (by simp) ?_
                refine consL rfl (fun K hK => ?_) AllReadyH.nil
                · rw [if_pos (by rfl)]
                  refine wpo_store_tv rfl rfl rfl rfl t22 ?_
                  have tF := t22.set (.slice a22 (n2 + 1) c22)
                  have oF := own_setB o22 (.slice a22 (n2 + 1) c22)
                  have sF := LW.belowB s22 (below_setB (Below.refl _ _) (.slice a22 (n2 + 1) c22)) (by omega) HLX.out HRX.out
                  generalize World.setCell w22 ⟨W3.heap.size, 0, none⟩ (.slice a22 (n2 + 1) c22) = wF at tF oF sF ⊢
                  refine hK.out _ _ (trivial) (fun hHeld => ?_)
                  clear hK K
                  try simp only [Act.put, List.setIfInBounds_toArray, List.set_cons_zero, List.set_cons_succ]
                  refine wpAnyH_done (by kernel_rfl) ?_ _
                  go_wp2_with fail
                  have hfin : xs ++ [z] = ys ++ (e8 lm).take (i + 1) := by rw [HXS.out, HE8.out, List.append_assoc]
                  rw [hfin] at oF
                  rw [HN2.out, Nat.add_assoc] at tF oF
                  exact ⟨⟨i + 1, by omega, by go_num, _, _, tF, oF, sF⟩, by simp [intOf]; omega⟩
        · obtain rfl : i = 8 := by omega
          rw [List.take_of_length_le (by rw [e8_length]; exact Nat.le_refl _), ← HAS.out] at oi
          rw [HN1.out, Nat.add_assoc] at ti oi
          have hlt := HLT.out
          go_wp2_with fail
          exact ⟨⟨m + 1, by omega, by go_num, _, _, ti, oi, si⟩, by simp [intOf]; omega⟩
    · obtain rfl : m = 2 := by omega
      have htx := HAL2.out
      obtain ⟨n, hn⟩ : ∃ n, n = n0 + 8 * 2 := ⟨_, rfl⟩
      rw [← hn] at tm om htx
      have hnl : n ≤ 400000100 := by omega
      clear hn
      have hrt := om.rdb htx (by omega)
      have hav := own_low om
      obtain ⟨tx, htxe⟩ : ∃ tx, tx = acc base lb lh 2 := ⟨_, rfl⟩
      rw [← htxe] at hrt HTL HTG
      have HTG2 := HTG
      have hzo := Lib.hid (show (Try.prog.info? 76).map (·.size) = some (Po.tag (once.take 32) tx).length by rw [HTL.out]; kernel_rfl)
      have hso := Lib.hid (show (List.replicate 16 0).length = (Po.tag (once.take 32) tx).length by rw [HTL.out]; rfl)
      have hz3 := Lib.hid (show (Try.prog.info? 76).map (·.size) = some (nv .u8 (Po.tag (once.take 32) tx)).toArray.size by simp only [List.size_toArray, nv_length]; rw [HTL.out]; kernel_rfl)
      have u32 := Try.underlying35
      have ho32 : (once.take 32).length = 32 := by rw [List.length_take, HOL.out]; rfl
      have hk2 := Lib.hid (show (Try.prog.info? 35).map (·.size) = some (nv .u8 (once.take 32)).length by rw [nv_length, ho32]; kernel_rfl)
      have HO32 := Lib.hid ho32
      have sm2 : LW w [(X, 83, .u8, once), (w.heap.size + 1, 62, .u8, nonce), (w.heap.size, 35, .u8, key)] [(ha, lh, ch, hid), (ba, lb, cb, bes)] wr.drew := ⟨fun e he => sm.drew.has e (by
        simp only [List.mem_cons, List.not_mem_nil, or_false] at he ⊢
        rcases he with h | h | h <;> simp [h]), sm.drew.rds, sm.drew.bel⟩
      have hcS : LW w [(X, 83, .u8, once), (w.heap.size + 1, 62, .u8, nonce), (w.heap.size, 35, .u8, key)] [(avm, n, cvm, tx), (ha, lh, ch, hid), (ba, lb, cb, bes)] wr.drew ∧ TV wr.drew W3.heap.size (.slice avm n cvm) :=
        ⟨LW.addR sm2 hrt, tm⟩
      have hR := (sm.drew).blk 1 rfl
      have hneR : ∀ e ∈ [(avm, n, cvm, tx), (ha, lh, ch, hid), (ba, lb, cb, bes)], ∀ x, e.1 = some x → 0 < e.2.1 → x.block ≠ w.heap.size + 1 + 1 := fun e he x hx h0 => by
        simp only [List.mem_cons, List.not_mem_nil, or_false] at he
        rcases he with rfl | rfl | rfl
        · have := (hav x hx).1; omega
        · have := HLO.out.1 x hx h0; omega
        · have := HLO.out.2 x hx h0; omega
      have hneL : ∀ e ∈ [(X, 83, IntKind.u8, once), (w.heap.size + 1, 62, IntKind.u8, nonce), (w.heap.size, 35, IntKind.u8, key)], e.1 ≠ w.heap.size + 1 + 1 := fun e he => by
        simp only [List.mem_cons, List.not_mem_nil, or_false] at he
        rcases he with rfl | rfl | rfl
        all_goals (dsimp only; omega)
      have HNR := Lib.hid hneR
      have HNL2 := Lib.hid hneL
      clear hneR hneL hrt hav tm om sm sm2 htx ho32 htxe HAL2 HTG
      go_wp2_with fail
      refine wp_region_held_drew (S := fun W => LW w [(X, 83, .u8, once), (w.heap.size + 1, 62, .u8, nonce), (w.heap.size, 35, .u8, key)] [(avm, n, cvm, tx), (ha, lh, ch, hid), (ba, lb, cb, bes)] W ∧ TV W W3.heap.size (.slice avm n cvm)) (by kernel_rfl) (hcS) (fun hHeld => ?_)
      generalize World.drew _ = wv at hHeld hR ⊢
      clear hcS
      refine takeL (i := 0) (v := ?_) rfl rfl (by kernel_rfl) (by kernel_rfl) (by kernel_rfl) (fun _ _ _ h => h) (Or.inl ⟨by rfl, ?_⟩) (by assumption) ?_
      rotate_left
      · (intro w' hSw; go_simp; try with_reducible rfl)
      try simp only [Act.put, List.setIfInBounds_toArray, List.set_cons_zero, List.set_cons_succ]
      refine takeL (i := 1) (v := .pointer (some ⟨X, 0, none⟩)) rfl rfl (by kernel_rfl) (by kernel_rfl) (by kernel_rfl) (fun _ _ _ h => h) (Or.inl ⟨by rfl, ?_⟩) (by assumption) ?_
      · (intro w' hSw; have har := run_arrayAt (P := Try.prog) (w := w') 35 5 32 (some ⟨X, 0, none⟩) 32 64 u32 (Nat.le_refl _); go_simp; try with_reducible rfl)
      try simp only [Act.put, List.setIfInBounds_toArray, List.set_cons_zero, List.set_cons_succ]
      refine takeL (i := 2) (v := .agg (nv .u8 (once.take 32)).toArray) rfl rfl (by kernel_rfl) (by kernel_rfl) (by kernel_rfl) (fun _ _ _ h => h) (yieldsIf_load_mid (by rfl) 35 (.tmp 47) rfl X 0 (by rfl) (nv .u8 (once.take 32)) _ (fun _ h => range_take (h.1.blk 0 rfl) 32) u32 rfl hk2.out) (by assumption) ?_
      try simp only [Act.put, List.setIfInBounds_toArray, List.set_cons_zero, List.set_cons_succ]
      refine takeL (i := 3) (v := .slice avm n cvm) rfl rfl (by kernel_rfl) (by kernel_rfl) (by kernel_rfl) (fun _ _ _ h => h) (Or.inl ⟨by rfl, ?_⟩) (by assumption) ?_
      · (intro w' hSw; have hc := hSw.2.cell; go_simp; try with_reducible rfl)
      try simp only [Act.put, List.setIfInBounds_toArray, List.set_cons_zero, List.set_cons_succ]
      refine wpAnyH_ready (rs := [4]) (by kernel_rfl) (by simp) ?_
      refine consL rfl (fun K hK => ?_) AllReadyH.nil
      · rw [if_pos (by rfl)]
        go_simp
        refine (Po.Sum_any _ (once.take 32) avm n cvm tx HO32.out (fun x hx => hob x (List.mem_of_mem_take hx)) (hHeld.1.rd 0 rfl)).mono ?_
        rintro e w30 ⟨rfl, b30⟩
        have hR30 := hR.below b30
        refine hK.out _ _ (⟨hHeld.1.below b30, hHeld.2.below b30⟩) (fun hHeld => ?_)
        clear hK K
        try simp only [Act.put, List.setIfInBounds_toArray, List.set_cons_zero, List.set_cons_succ]
        refine wpAnyH_ready (rs := [5]) (by kernel_rfl) (by simp) ?_
        refine consL rfl (fun K hK => ?_) AllReadyH.nil
        · rw [if_pos (by rfl)]
          refine wpo_store_arr 76 (.tmp 8) (.tmp 50) rfl (w.heap.size + 1 + 1) rfl hR30 rfl hzo.out hso.out ?_
          intro w31 hO31 g31
          refine hK.out _ _ (⟨hHeld.1.grown g31 (by omega) HNL2.out HNR.out, hHeld.2.grown g31 (ne_some (by omega))⟩) (fun hHeld => ?_)
          clear hK K
          try simp only [Act.put, List.setIfInBounds_toArray, List.set_cons_zero, List.set_cons_succ]
          refine wpAnyH_done (by kernel_rfl) ?_ _
          go_wp2_with fail
          exact bodyPost_ret (results_cell_row rfl _ _ (w.heap.size + 1 + 1) 76 (nv .u8 (Po.tag (once.take 32) tx)).toArray (0, 0) _ rfl hO31 Try.underlying76 rfl hz3.out) rfl ⟨by rw [HTG2.out]; rfl, hHeld.1.bel⟩
end Go.Proofs.Ytpcppnoomogloaa.Ae

namespace Go.Proofs.Ytpcppnoomogloaa.Ae
set_option linter.unusedSimpArgs false
set_option linter.unusedVariables false
open Go.RowKit

set_option maxRecDepth 100000 in
set_option maxHeartbeats 2000000 in
theorem Seal_any (w : World) (key nonce : List Nat) (pa : Option Addr) (lp cp : Nat) (plain : List Nat) (ba : Option Addr) (lb cb : Nat) (bes : List Nat) (hk : key.length = 32) (hkb : ∀ x ∈ key, x < 256) (hn : nonce.length = 12) (hnb : ∀ x ∈ nonce, x < 256) (hrp : RdB w pa lp cp plain) (hrb : RdB w ba lb cb bes) (hs1 : lp ≤ 1000000) (hs2 : lb ≤ 1000000) :
    Calls Try.prog 35 #[.agg (bv key).toArray, .agg (bv nonce).toArray, .slice pa lp cp, .slice ba lb cb] w fun e w' => ∃ ad cp', e = .returned (.tuple #[.slice ad (lp + 16) cp', .int .i64 0]) ∧ Own w' w.heap.size (.slice ad (lp + 16) cp') (sealA key nonce plain bes) ∧ Below w.heap.size w w' := by
  have hbl : plain.length = lp := hrp.2.1
  have HBL := Lib.hid hbl
  have hf : St.fits 1 lp := by unfold St.fits; omega
  have HF := Lib.hid hf
  have hxl : (St.xorS key 1 nonce plain).length = lp := by rw [St.xorS_length]; exact hbl
  have HXL := Lib.hid hxl
  have htl := tagA_length key nonce (St.xorS key 1 nonce plain) bes
  have htb := tagA_lt key nonce (St.xorS key 1 nonce plain) bes
  have hsl : sealA key nonce plain bes = St.xorS key 1 nonce plain ++ tagA key nonce (St.xorS key 1 nonce plain) bes := rfl
  have HSL := Lib.hid hsl
  have cT := Lib.hid (fun (W : World) (ha : Option Addr) (ch : Nat) (hr1 : RdB W ha lp ch (St.xorS key 1 nonce plain)) (hr2 : RdB W ba lb cb bes) => Tag_any W key nonce ha lp ch _ ba lb cb bes hk hkb hn hnb hr1 hr2 (by omega) (by omega))
  generalize tagA key nonce (St.xorS key 1 nonce plain) bes = tg at htl htb HSL cT
  have HTL := Lib.hid htl
  have HZ := Lib.hid (show (Try.prog.info? 76).map (·.size) = some (nv .u8 tg).toArray.size by simp only [List.size_toArray, nv_length]; rw [htl]; kernel_rfl)
  have HS := Lib.hid (show 16 = (nv .u8 tg).toArray.size by simp [nv, htl])
  clear hbl hf hxl hsl htl
  have HK := Lib.hid (show (Try.prog.info? 35).map (·.size) = some key.length by rw [hk]; kernel_rfl)
  have HN := Lib.hid (show (Try.prog.info? 62).map (·.size) = some nonce.length by rw [hn]; kernel_rfl)
  have HKL := Lib.hid hk
  have HNL := Lib.hid hn
  clear hk hn
  go_enter Try.func35, Try.ntmps35
  have s0 : LW w [(w.heap.size + 1, 62, .u8, nonce), (w.heap.size, 35, .u8, key)] [(pa, lp, cp, plain), (ba, lb, cb, bes)] ((w.alloc (.cells (nv .u8 key).toArray 35)).alloc (.cells (nv .u8 nonce).toArray 62)) := by
    have := ((((LW.nil (xrefl w)).addR hrb).addR hrp).new 35 .u8 key).new 62 .u8 nonce
    rw [World.size_alloc] at this
    exact this
  clear hrp hrb
  go_wp2_with (first
    | (refine wp_load_arr rfl 35 (.tmp 4) rfl w.heap.size rfl (s0.blk 1 rfl) 32 5 Try.underlying35 HK.out ?_)
    | (refine wp_load_arr rfl 62 (.tmp 5) rfl (w.heap.size + 1) rfl (s0.blk 0 rfl) 12 5 Try.underlying62 HN.out ?_)
    | fail)
  refine (St.Xor_any _ key nonce 1 pa lp cp plain HKL.out hkb HNL.out hnb (by decide) (s0.rd 0 rfl) HF.out).mono ?_
  intro e w3 h
  obtain ⟨ad3, cp3, rfl, p3, b3⟩ := St.XorOK.at (n := lp) h HXL.out
  have s3 := (s0.below b3).addR (p3.rdb HXL.out (by omega))
  have p3m : Own w3 w.heap.size (.slice ad3 lp cp3) (St.xorS key 1 nonce plain) := p3.mono s0.bel.size
  clear h s0 b3 p3
  go_wp2_with (first
    | (refine wp_load_arr rfl 35 (.tmp 4) rfl w.heap.size rfl (s3.blk 1 rfl) 32 5 Try.underlying35 HK.out ?_)
    | (refine wp_load_arr rfl 62 (.tmp 5) rfl (w.heap.size + 1) rfl (s3.blk 0 rfl) 12 5 Try.underlying62 HN.out ?_)
    | (go_at_call 51; refine (cT.out _ _ _ (s3.rd 0 rfl) (s3.rd 2 rfl)).mono ?_; rintro e w5 ⟨rfl, b5⟩; have s5 := s3.below b5; have p5 := p3m.below b5; clear s3 p3m b5)
    | (refine wp_store_new rfl 76 (.tmp 12) (.tmp 27) rfl rfl _ (nv .u8 tg).toArray rfl HZ.out HS.out (nv_one _ _) ?_; have hY := Blk.new w5 76 .u8 tg _ rfl; have s6 := s5.alloc (.cells (nv .u8 tg).toArray 76); have p6 := p5.below (xnew w5 (.cells (nv .u8 tg).toArray 76)); have hb6 := s6.bel.size; generalize w5.heap.size = Y at hY ⊢; refine wpList_at (fun V => LW w [(w.heap.size + 1, 62, .u8, nonce), (w.heap.size, 35, .u8, key)] [(ad3, lp, cp3, St.xorS key 1 nonce plain), (pa, lp, cp, plain), (ba, lb, cb, bes)] V ∧ Own V w.heap.size (.slice ad3 lp cp3) (St.xorS key 1 nonce plain) ∧ Blk V Y 76 .u8 tg) ⟨s6, p6, hY⟩ ?_; clear s6 p6 hY s5 p5 hb6 w5; rintro W6 ⟨s6, p6, hY⟩)
    | (at_builtin; refine wpList_of_wp rfl (wpo_append_at (.tmp 28) (.tmp 29) rfl w.heap.size (.slice ad3 lp cp3) (St.xorS key 1 nonce plain) rfl p6 _ _ _ tg rfl (hY.rd 16 HTL.out htb (by decide)) (by rw [HXL.out, HTL.out]; omega) s6.bel.size ?_); intro v7 w7 o7 g7 _; have b7 := s6.bel.trans (grown_below g7 s6.bel.size (fun k hk => (p6.block k hk).1)); rw [← HSL.out] at o7; obtain ⟨a7, c7, rfl, _, _⟩ := o7.rd (by rw [HSL.out, List.length_append, HXL.out, HTL.out]; omega); rw [HSL.out, List.length_append, HXL.out, HTL.out] at o7 ⊢)
    | fail)
  go_ret2
  exact ⟨a7, c7, rfl, by rw [HSL.out]; exact o7, b7⟩
end Go.Proofs.Ytpcppnoomogloaa.Ae

namespace Go.Proofs.Ytpcppnoomogloaa.Ae
set_option linter.unusedSimpArgs false
set_option linter.unusedVariables false
open Go.RowKit

theorem run_neq_arr {P : Program} {t e : TypeId} {n : Nat} {q : IntKind} {info : TypeInfo} (hu : P.underlying t = some (.array n e)) (he : P.underlying e = some (.int q)) (hi : P.info? e = some info) (hs : info.size = 1) (k : IntKind) (xs ys : List Nat) (hx : xs.length = n) (hy : ys.length = n) (w : World) :
    (binOp .neq t (.agg (nv k xs).toArray) (.agg (nv k ys).toArray)).run P w = .ok (.bool (!decide (xs = ys))) w := by
  rw [run_neq_struct, run_equalIn_arr hu he hi hs 9998 k xs ys hx hy w]; rfl
theorem yieldsNeq {P : Program} {ops : Array Oper} {C : World → Prop} {o : Oper} {a : Act} {t rt : TypeId} {x y : Operand} {xs ys : Array Value} {b : Bool} (hw : Region.wanted o (yielded ops a.tmps) = true) (ho : o.op = .binOp .neq t x y rt) (hx : a.eval x = .agg xs) (hy : a.eval y = .agg ys)
    (hg : P.eqGuardType P.depth t = false) (hrun : ∀ w, (binOp .neq t (.agg xs) (.agg ys)).run P w = .ok (.bool b) w) : YieldsIf P ops C o (.bool b) a :=
  .inl ⟨hw, fun w _ => by
    have h1 := run_eqGuard_agg (P := P) w .neq t x y xs ys hg
    simp [execOp, ho, hx, hy, h1, hrun]⟩
theorem yieldsFrom {P : Program} {ops : Array Oper} {C : World → Prop} {o : Oper} {a : Act} {t e : TypeId} {info : TypeInfo} {x y : Operand} {ad ad' : Option Addr} {n cap k : Nat} (hw : Region.wanted o (yielded ops a.tmps) = true) (ho : o.op = .slice t x (some y) none none) (hx : a.eval x = .slice ad n cap) (hy : a.eval y = .int .i64 (k : Int))
    (ht : P.underlying t = some (.slice e)) (hi : P.info? e = some info) (hs : info.size = 1) (hk : k ≤ n) (hc : cutA ad cap k = ad') : YieldsIf P ops C o (.slice ad' (n - k) (cap - k)) a :=
  .inl ⟨hw, fun w _ => by simp [execOp, ho, hx, hy, Instr.sliceAt, run_underlying ht, run_slice_from ht hi hs ad n cap k hk w, hc]⟩
theorem range_rd {w : World} {b off n c : Nat} {bs : List Nat} (h : RdB w (some ⟨b, off, none⟩) n c bs) : w.rangeAt b off (nv .u8 bs) := by
  intro j v hj
  have h1 := rdb_cells h j v hj
  rwa [Addr.add_mid] at h1
/-- What stands behind a place of a slice that goes on has an address. -/
theorem cut_some {w : World} {a : Option Addr} {n c : Nat} {bs : List Nat} (h : RdB w a n c bs) (k : Nat) (hk : k < n) : ∃ b off, cutA a c k = some ⟨b, off, none⟩ := by
  obtain ⟨_, _, hc, _, _, _, h6⟩ := h
  rcases h6 with h6 | ⟨b, off, rfl, _, _⟩
  · omega
  · refine ⟨b, off + k, ?_⟩
    unfold cutA
    rw [if_neg (by omega), Option.map_some, Nat.mul_one, Addr.add_off]
theorem info8o : ∃ i0, Try.prog.info? 5 = some i0 ∧ i0.size = 1 := ⟨_, rfl, by kernel_rfl⟩

set_option maxRecDepth 100000 in
set_option maxHeartbeats 2000000 in
theorem Open_short (w : World) (key nonce : List Nat) (a : Option Addr) (lb cb : Nat) (bs : List Nat) (ba : Option Addr) (ls cs : Nat) (bes : List Nat) (hk : key.length = 32) (hkb : ∀ x ∈ key, x < 256) (hn : nonce.length = 12) (hnb : ∀ x ∈ nonce, x < 256) (hr : RdB w a lb cb bs) (hrb : RdB w ba ls cs bes) (hs1 : lb ≤ 1000000) (hs2 : ls ≤ 1000000) (h16 : lb < 16) :
    Calls Try.prog 42 #[.agg (bv key).toArray, .agg (bv nonce).toArray, .slice a lb cb, .slice ba ls cs] w fun e w' => e = .returned (.tuple #[.slice none 0 0, .int .i64 70]) ∧ Below w.heap.size w w' := by
  have d0 : decide ((lb : Int) - 16 < 0) = true := decide_eq_true (by omega)
  have HK3 := Lib.hid (show (Try.prog.info? 35).map (·.size) = some (nv .u8 key).length by rw [nv_length, hk]; kernel_rfl)
  have HN3 := Lib.hid (show (Try.prog.info? 62).map (·.size) = some (nv .u8 nonce).length by rw [nv_length, hn]; kernel_rfl)
  have u32 := Try.underlying35
  have u12 := Try.underlying62
  have us := Try.underlying25
  have HK := Lib.hid (show (Try.prog.info? 35).map (·.size) = some key.length by rw [hk]; kernel_rfl)
  have HN := Lib.hid (show (Try.prog.info? 62).map (·.size) = some nonce.length by rw [hn]; kernel_rfl)
  have HKL := Lib.hid hk
  have HNL := Lib.hid hn
  clear hk hn
  go_enter Try.func42, Try.ntmps42
  have s0 : LW w [(w.heap.size + 1, 62, .u8, nonce), (w.heap.size, 35, .u8, key)] [(a, lb, cb, bs), (ba, ls, cs, bes)] ((w.alloc (.cells (nv .u8 key).toArray 35)).alloc (.cells (nv .u8 nonce).toArray 62)) := by
    have := ((((LW.nil (xrefl w)).addR hrb).addR hr).new 35 .u8 key).new 62 .u8 nonce
    rw [World.size_alloc] at this
    exact this
  clear hr hrb
  go_wp2_with fail
  refine wp_region_held_drew (S := LW w [(w.heap.size + 1, 62, .u8, nonce), (w.heap.size, 35, .u8, key)] [(a, lb, cb, bs), (ba, ls, cs, bes)]) (by kernel_rfl) (s0.drew) (fun hHeld => ?_)
  generalize World.drew _ = wv at hHeld ⊢
  refine takeL (i := 0) (v := ?_) rfl rfl (by kernel_rfl) (by kernel_rfl) (by kernel_rfl) (fun _ _ _ h => h) (Or.inl ⟨by rfl, ?_⟩) (by assumption) ?_
  rotate_left
  · (intro w' hSw; go_simp; try with_reducible rfl)
  try simp only [Act.put, List.setIfInBounds_toArray, List.set_cons_zero, List.set_cons_succ]
  refine takeL (i := 1) (v := .bool true) rfl rfl (by kernel_rfl) (by kernel_rfl) (by kernel_rfl) (fun _ _ _ h => h) (Or.inl ⟨by rfl, ?_⟩) (by assumption) ?_
  · (intro w' hSw; have h := d0; go_simp; try with_reducible rfl)
  try simp only [Act.put, List.setIfInBounds_toArray, List.set_cons_zero, List.set_cons_succ]
  refine takeL (i := 2) (v := ?_) rfl rfl (by kernel_rfl) (by kernel_rfl) (by kernel_rfl) (fun _ _ _ h => h) (Or.inl ⟨by rfl, ?_⟩) (by assumption) ?_
  rotate_left
  · (intro w' hSw; go_simp; try with_reducible rfl)
  try simp only [Act.put, List.setIfInBounds_toArray, List.set_cons_zero, List.set_cons_succ]
  refine takeL (i := 3) (v := undef) rfl rfl (by kernel_rfl) (by kernel_rfl) (by kernel_rfl) (fun _ _ _ h => h) (Or.inr ⟨by rfl, rfl⟩) (by assumption) ?_
  try simp only [Act.put, List.setIfInBounds_toArray, List.set_cons_zero, List.set_cons_succ]
  refine takeL (i := 4) (v := undef) rfl rfl (by kernel_rfl) (by kernel_rfl) (by kernel_rfl) (fun _ _ _ h => h) (Or.inr ⟨by rfl, rfl⟩) (by assumption) ?_
  try simp only [Act.put, List.setIfInBounds_toArray, List.set_cons_zero, List.set_cons_succ]
  refine takeL (i := 5) (v := undef) rfl rfl (by kernel_rfl) (by kernel_rfl) (by kernel_rfl) (fun _ _ _ h => h) (Or.inr ⟨by rfl, rfl⟩) (by assumption) ?_
  try simp only [Act.put, List.setIfInBounds_toArray, List.set_cons_zero, List.set_cons_succ]
  refine takeL (i := 6) (v := undef) rfl rfl (by kernel_rfl) (by kernel_rfl) (by kernel_rfl) (fun _ _ _ h => h) (Or.inr ⟨by rfl, rfl⟩) (by assumption) ?_
  try simp only [Act.put, List.setIfInBounds_toArray, List.set_cons_zero, List.set_cons_succ]
  refine takeL (i := 7) (v := undef) rfl rfl (by kernel_rfl) (by kernel_rfl) (by kernel_rfl) (fun _ _ _ h => h) (Or.inr ⟨by rfl, rfl⟩) (by assumption) ?_
  try simp only [Act.put, List.setIfInBounds_toArray, List.set_cons_zero, List.set_cons_succ]
  refine takeL (i := 8) (v := undef) rfl rfl (by kernel_rfl) (by kernel_rfl) (by kernel_rfl) (fun _ _ _ h => h) (Or.inr ⟨by rfl, rfl⟩) (by assumption) ?_
  try simp only [Act.put, List.setIfInBounds_toArray, List.set_cons_zero, List.set_cons_succ]
  refine takeL (i := 9) (v := undef) rfl rfl (by kernel_rfl) (by kernel_rfl) (by kernel_rfl) (fun _ _ _ h => h) (Or.inr ⟨by rfl, rfl⟩) (by assumption) ?_
  try simp only [Act.put, List.setIfInBounds_toArray, List.set_cons_zero, List.set_cons_succ]
  refine takeL (i := 10) (v := undef) rfl rfl (by kernel_rfl) (by kernel_rfl) (by kernel_rfl) (fun _ _ _ h => h) (Or.inr ⟨by rfl, rfl⟩) (by assumption) ?_
  try simp only [Act.put, List.setIfInBounds_toArray, List.set_cons_zero, List.set_cons_succ]
  refine takeL (i := 11) (v := undef) rfl rfl (by kernel_rfl) (by kernel_rfl) (by kernel_rfl) (fun _ _ _ h => h) (Or.inr ⟨by rfl, rfl⟩) (by assumption) ?_
  try simp only [Act.put, List.setIfInBounds_toArray, List.set_cons_zero, List.set_cons_succ]
  refine takeL (i := 12) (v := undef) rfl rfl (by kernel_rfl) (by kernel_rfl) (by kernel_rfl) (fun _ _ _ h => h) (Or.inr ⟨by rfl, rfl⟩) (by assumption) ?_
  try simp only [Act.put, List.setIfInBounds_toArray, List.set_cons_zero, List.set_cons_succ]
  refine takeL (i := 13) (v := undef) rfl rfl (by kernel_rfl) (by kernel_rfl) (by kernel_rfl) (fun _ _ _ h => h) (Or.inr ⟨by rfl, rfl⟩) (by assumption) ?_
  try simp only [Act.put, List.setIfInBounds_toArray, List.set_cons_zero, List.set_cons_succ]
  refine takeL (i := 14) (v := undef) rfl rfl (by kernel_rfl) (by kernel_rfl) (by kernel_rfl) (fun _ _ _ h => h) (Or.inr ⟨by rfl, rfl⟩) (by assumption) ?_
  try simp only [Act.put, List.setIfInBounds_toArray, List.set_cons_zero, List.set_cons_succ]
  refine takeL (i := 15) (v := undef) rfl rfl (by kernel_rfl) (by kernel_rfl) (by kernel_rfl) (fun _ _ _ h => h) (Or.inr ⟨by rfl, rfl⟩) (by assumption) ?_
  try simp only [Act.put, List.setIfInBounds_toArray, List.set_cons_zero, List.set_cons_succ]
  refine takeL (i := 16) (v := ?_) rfl rfl (by kernel_rfl) (by kernel_rfl) (by kernel_rfl) (fun _ _ _ h => h) (Or.inl ⟨by rfl, ?_⟩) (by assumption) ?_
  rotate_left
  · (intro w' hSw; go_simp; try with_reducible rfl)
  try simp only [Act.put, List.setIfInBounds_toArray, List.set_cons_zero, List.set_cons_succ]
  refine wpAnyH_done (by kernel_rfl) ?_ _
  go_wp2_with fail
  go_ret2
  exact ⟨rfl, hHeld.bel⟩

set_option maxRecDepth 100000 in
set_option maxHeartbeats 2000000 in
theorem Open_wrong (w : World) (key nonce : List Nat) (a : Option Addr) (lb cb : Nat) (bs : List Nat) (ba : Option Addr) (ls cs : Nat) (bes : List Nat) (hk : key.length = 32) (hkb : ∀ x ∈ key, x < 256) (hn : nonce.length = 12) (hnb : ∀ x ∈ nonce, x < 256) (hr : RdB w a lb cb bs) (hrb : RdB w ba ls cs bes) (hs1 : lb ≤ 1000000) (hs2 : ls ≤ 1000000) (h16 : 16 ≤ lb) (ht : tagA key nonce (bs.take (bs.length - 16)) bes ≠ bs.drop (bs.length - 16)) :
    Calls Try.prog 42 #[.agg (bv key).toArray, .agg (bv nonce).toArray, .slice a lb cb, .slice ba ls cs] w fun e w' => e = .returned (.tuple #[.slice none 0 0, .int .i64 70]) ∧ Below w.heap.size w w' := by
  have HK3 := Lib.hid (show (Try.prog.info? 35).map (·.size) = some (nv .u8 key).length by rw [nv_length, hk]; kernel_rfl)
  have HN3 := Lib.hid (show (Try.prog.info? 62).map (·.size) = some (nv .u8 nonce).length by rw [nv_length, hn]; kernel_rfl)
  have u32 := Try.underlying35
  have u12 := Try.underlying62
  have us := Try.underlying25
  obtain ⟨n, hn16⟩ : ∃ n, n = lb - 16 := ⟨_, rfl⟩
  have hnl : n ≤ lb := by omega
  have hnc : n ≤ cb := by have := hr.2.2.1; omega
  have hcm : cb ≤ 9223372036854775807 := hr.2.2.2.1
  have hsub : (lb : Int) - 16 = (n : Int) := by omega
  have hd0 : decide ((n : Int) < 0) = false := decide_eq_false (by omega)
  have hl16 : 16 ≤ lb - n := by omega
  have hbl : bs.length = lb := hr.2.1
  have hdl : (bs.drop n).length = 16 := by rw [List.length_drop]; omega
  obtain ⟨bb, oo, hcut⟩ := cut_some hr n (by omega)
  have cT := Lib.hid (fun (W : World) (hr1 : RdB W a n cb (bs.take n)) (hr2 : RdB W ba ls cs bes) => Tag_any W key nonce a n cb (bs.take n) ba ls cs bes hk hkb hn hnb hr1 hr2 (by omega) (by omega))
  have htl := tagA_length key nonce (bs.take n) bes
  rw [hbl, ← hn16] at ht
  obtain ⟨i0, hi0, hi1⟩ := info8o
  have hneq := fun W => run_neq_arr (P := Try.prog) Try.underlying76 Try.underlying5 hi0 hi1 .u8 (tagA key nonce (bs.take n) bes) (bs.drop n) htl hdl W
  have HI := Lib.hid (And.intro hi0 hi1)
  have g16 := Lib.hid (show Try.prog.eqGuardType Try.prog.depth 76 = false by kernel_rfl)
  have u16 := Try.underlying76
  have hz16 := Lib.hid (show (Try.prog.info? 76).map (·.size) = some (nv .u8 (bs.drop n)).length by rw [nv_length, hdl]; kernel_rfl)
  rw [show (!decide (tagA key nonce (bs.take n) bes = bs.drop n)) = true by rw [decide_eq_false ht]; rfl] at hneq
  have HNEQ := Lib.hid hneq
  generalize tagA key nonce (bs.take n) bes = tg at cT htl ht HNEQ hneq
  clear ht htl hneq hdl hbl hn16 hi0 hi1
  have HK := Lib.hid (show (Try.prog.info? 35).map (·.size) = some key.length by rw [hk]; kernel_rfl)
  have HN := Lib.hid (show (Try.prog.info? 62).map (·.size) = some nonce.length by rw [hn]; kernel_rfl)
  have HKL := Lib.hid hk
  have HNL := Lib.hid hn
  clear hk hn
  go_enter Try.func42, Try.ntmps42
  have s0 : LW w [(w.heap.size + 1, 62, .u8, nonce), (w.heap.size, 35, .u8, key)] [(a, lb, cb, bs), (ba, ls, cs, bes)] ((w.alloc (.cells (nv .u8 key).toArray 35)).alloc (.cells (nv .u8 nonce).toArray 62)) := by
    have := ((((LW.nil (xrefl w)).addR hrb).addR hr).new 35 .u8 key).new 62 .u8 nonce
    rw [World.size_alloc] at this
    exact this
  clear hr hrb
  go_wp2_with fail
  refine wp_region_class (LW w [(w.heap.size + 1, 62, .u8, nonce), (w.heap.size, 35, .u8, key)] [(a, lb, cb, bs), (ba, ls, cs, bes)]) (by kernel_rfl) (by kernel_rfl) (s0.drew) ?_
  refine qY (v := ?_) rfl ?_ ?_
  rotate_left
  · (intro w' _; go_simp; try with_reducible rfl)
  rotate_left
  try simp only [Act.put, List.setIfInBounds_toArray, List.set_cons_zero, List.set_cons_succ]
  refine qY (v := .bool false) rfl ?_ ?_
  · (intro w' hC; have h := hd0; go_simp; try with_reducible rfl)
  try simp only [Act.put, List.setIfInBounds_toArray, List.set_cons_zero, List.set_cons_succ]
  refine qY (v := ?_) rfl ?_ ?_
  rotate_left
  · (intro w' _; go_simp; try with_reducible rfl)
  rotate_left
  try simp only [Act.put, List.setIfInBounds_toArray, List.set_cons_zero, List.set_cons_succ]
  refine qI (v := .agg (nv .u8 key).toArray) (yieldsIf_load_mid (by rfl) 35 (.tmp 4) rfl w.heap.size 0 (by rfl) (nv .u8 key) _ (fun _ h => blk_range (h.blk 1 rfl)) u32 rfl HK3.out) ?_
  try simp only [Act.put, List.setIfInBounds_toArray, List.set_cons_zero, List.set_cons_succ]
  refine qI (v := .agg (nv .u8 nonce).toArray) (yieldsIf_load_mid (by rfl) 62 (.tmp 5) rfl (w.heap.size + 1) 0 (by rfl) (nv .u8 nonce) _ (fun _ h => blk_range (h.blk 0 rfl)) u12 rfl HN3.out) ?_
  try simp only [Act.put, List.setIfInBounds_toArray, List.set_cons_zero, List.set_cons_succ]
  refine qY (v := ?_) rfl ?_ ?_
  rotate_left
  · (intro w' _; go_simp; try with_reducible rfl)
  rotate_left
  try simp only [Act.put, List.setIfInBounds_toArray, List.set_cons_zero, List.set_cons_succ]
  refine qY (v := ?_) rfl ?_ ?_
  rotate_left
  · (intro w' _; go_simp; try with_reducible rfl)
  rotate_left
  try simp only [Act.put, List.setIfInBounds_toArray, List.set_cons_zero, List.set_cons_succ]
  refine qY (v := ?_) rfl ?_ ?_
  rotate_left
  · (intro w' _; go_simp; try with_reducible rfl)
  rotate_left
  try simp only [Act.put, List.setIfInBounds_toArray, List.set_cons_zero, List.set_cons_succ]
  refine qY (v := ?_) rfl ?_ ?_
  rotate_left
  · (intro w' _; go_simp; try with_reducible rfl)
  rotate_left
  try simp only [Act.put, List.setIfInBounds_toArray, List.set_cons_zero, List.set_cons_succ]
  refine qC (f := 51) (args := #[.agg (nv .u8 key).toArray, .agg (nv .u8 nonce).toArray, .slice a n cb, .slice ba ls cs]) (v := .agg (nv .u8 tg).toArray) rfl ?_ (fun W hW => (cT.out W (rdb_take (hW.rd 0 rfl) n hnl) (hW.rd 1 rfl)).mono (fun e w' h => ⟨h.1, hW.below h.2⟩)) ?_
  · (intro w' _; go_simp; try with_reducible rfl)
  try simp only [Act.put, List.setIfInBounds_toArray, List.set_cons_zero, List.set_cons_succ]
  refine qY (v := ?_) rfl ?_ ?_
  rotate_left
  · (intro w' _; go_simp; try with_reducible rfl)
  rotate_left
  try simp only [Act.put, List.setIfInBounds_toArray, List.set_cons_zero, List.set_cons_succ]
  refine qY (v := ?_) rfl ?_ ?_
  rotate_left
  · (intro w' _; go_simp; try with_reducible rfl)
  rotate_left
  try simp only [Act.put, List.setIfInBounds_toArray, List.set_cons_zero, List.set_cons_succ]
  refine qI (v := .slice (some ⟨bb, oo, none⟩) (lb - n) (cb - n)) (yieldsFrom (by rfl) rfl (by rfl) (by rfl) us HI.out.1 HI.out.2 hnl hcut) ?_
  try simp only [Act.put, List.setIfInBounds_toArray, List.set_cons_zero, List.set_cons_succ]
  refine qY (v := .pointer (some ⟨bb, oo, none⟩)) rfl ?_ ?_
  · (intro w' hC; have har := run_arrayAt (P := Try.prog) (w := w') 76 5 16 (some ⟨bb, oo, none⟩) (lb - n) (cb - n) u16 hl16; go_simp; try with_reducible rfl)
  try simp only [Act.put, List.setIfInBounds_toArray, List.set_cons_zero, List.set_cons_succ]
  refine qI (v := .agg (nv .u8 (bs.drop n)).toArray) (yieldsIf_load_mid (by rfl) 76 (.tmp 27) rfl bb oo (by rfl) (nv .u8 (bs.drop n)) _ (fun _ h => range_rd (hcut ▸ (h.rd 0 rfl).cut n hnl)) u16 rfl hz16.out) ?_
  try simp only [Act.put, List.setIfInBounds_toArray, List.set_cons_zero, List.set_cons_succ]
  refine qI (v := .bool true) (yieldsNeq (by rfl) rfl (by rfl) (by rfl) g16.out HNEQ.out) ?_
  try simp only [Act.put, List.setIfInBounds_toArray, List.set_cons_zero, List.set_cons_succ]
  refine qY (v := ?_) rfl ?_ ?_
  rotate_left
  · (intro w' _; go_simp; try with_reducible rfl)
  rotate_left
  try simp only [Act.put, List.setIfInBounds_toArray, List.set_cons_zero, List.set_cons_succ]
  refine wpQuiet_nil ?_
  intro wz sZ
  go_wp2_with fail
  go_ret2
  exact ⟨rfl, sZ.bel⟩

set_option maxRecDepth 100000 in
set_option maxHeartbeats 2000000 in
theorem Open_right (w : World) (key nonce : List Nat) (a : Option Addr) (lb cb : Nat) (bs : List Nat) (ba : Option Addr) (ls cs : Nat) (bes : List Nat) (hk : key.length = 32) (hkb : ∀ x ∈ key, x < 256) (hn : nonce.length = 12) (hnb : ∀ x ∈ nonce, x < 256) (hr : RdB w a lb cb bs) (hrb : RdB w ba ls cs bes) (hs1 : lb ≤ 1000000) (hs2 : ls ≤ 1000000) (h16 : 16 ≤ lb) (ht : tagA key nonce (bs.take (bs.length - 16)) bes = bs.drop (bs.length - 16)) :
    Calls Try.prog 42 #[.agg (bv key).toArray, .agg (bv nonce).toArray, .slice a lb cb, .slice ba ls cs] w fun e w' => ∃ ad cp, e = .returned (.tuple #[.slice ad (lb - 16) cp, .int .i64 0]) ∧ Own w' w.heap.size (.slice ad (lb - 16) cp) (St.xorS key 1 nonce (bs.take (lb - 16))) ∧ Below w.heap.size w w' := by
  have HK3 := Lib.hid (show (Try.prog.info? 35).map (·.size) = some (nv .u8 key).length by rw [nv_length, hk]; kernel_rfl)
  have HN3 := Lib.hid (show (Try.prog.info? 62).map (·.size) = some (nv .u8 nonce).length by rw [nv_length, hn]; kernel_rfl)
  have u32 := Try.underlying35
  have u12 := Try.underlying62
  have us := Try.underlying25
  obtain ⟨n, hn16⟩ : ∃ n, n = lb - 16 := ⟨_, rfl⟩
  have hnl : n ≤ lb := by omega
  have hnc : n ≤ cb := by have := hr.2.2.1; omega
  have hcm : cb ≤ 9223372036854775807 := hr.2.2.2.1
  have hsub : (lb : Int) - 16 = (n : Int) := by omega
  have hd0 : decide ((n : Int) < 0) = false := decide_eq_false (by omega)
  have hl16 : 16 ≤ lb - n := by omega
  have hbl : bs.length = lb := hr.2.1
  have hdl : (bs.drop n).length = 16 := by rw [List.length_drop]; omega
  obtain ⟨bb, oo, hcut⟩ := cut_some hr n (by omega)
  have cT := Lib.hid (fun (W : World) (hr1 : RdB W a n cb (bs.take n)) (hr2 : RdB W ba ls cs bes) => Tag_any W key nonce a n cb (bs.take n) ba ls cs bes hk hkb hn hnb hr1 hr2 (by omega) (by omega))
  have htl := tagA_length key nonce (bs.take n) bes
  rw [hbl, ← hn16] at ht
  obtain ⟨i0, hi0, hi1⟩ := info8o
  have hneq := fun W => run_neq_arr (P := Try.prog) Try.underlying76 Try.underlying5 hi0 hi1 .u8 (tagA key nonce (bs.take n) bes) (bs.drop n) htl hdl W
  have HI := Lib.hid (And.intro hi0 hi1)
  have g16 := Lib.hid (show Try.prog.eqGuardType Try.prog.depth 76 = false by kernel_rfl)
  have u16 := Try.underlying76
  have hz16 := Lib.hid (show (Try.prog.info? 76).map (·.size) = some (nv .u8 (bs.drop n)).length by rw [nv_length, hdl]; kernel_rfl)
  rw [show (!decide (tagA key nonce (bs.take n) bes = bs.drop n)) = false by rw [ht]; simp] at hneq
  have HNEQ := Lib.hid hneq
  generalize tagA key nonce (bs.take n) bes = tg at cT htl ht HNEQ hneq
  rw [← hn16]
  have hxl : (St.xorS key 1 nonce (bs.take n)).length = n := by rw [St.xorS_length, List.length_take]; omega
  have HXL := Lib.hid hxl
  have hf : St.fits 1 n := by unfold St.fits; omega
  have HF := Lib.hid hf
  clear hxl hf
  clear ht htl hneq hdl hbl hn16 hi0 hi1
  have HK := Lib.hid (show (Try.prog.info? 35).map (·.size) = some key.length by rw [hk]; kernel_rfl)
  have HN := Lib.hid (show (Try.prog.info? 62).map (·.size) = some nonce.length by rw [hn]; kernel_rfl)
  have HKL := Lib.hid hk
  have HNL := Lib.hid hn
  clear hk hn
  go_enter Try.func42, Try.ntmps42
  have s0 : LW w [(w.heap.size + 1, 62, .u8, nonce), (w.heap.size, 35, .u8, key)] [(a, lb, cb, bs), (ba, ls, cs, bes)] ((w.alloc (.cells (nv .u8 key).toArray 35)).alloc (.cells (nv .u8 nonce).toArray 62)) := by
    have := ((((LW.nil (xrefl w)).addR hrb).addR hr).new 35 .u8 key).new 62 .u8 nonce
    rw [World.size_alloc] at this
    exact this
  clear hr hrb
  go_wp2_with fail
  refine wp_region_class (LW w [(w.heap.size + 1, 62, .u8, nonce), (w.heap.size, 35, .u8, key)] [(a, lb, cb, bs), (ba, ls, cs, bes)]) (by kernel_rfl) (by kernel_rfl) (s0.drew) ?_
  refine qY (v := ?_) rfl ?_ ?_
  rotate_left
  · (intro w' _; go_simp; try with_reducible rfl)
  rotate_left
  try simp only [Act.put, List.setIfInBounds_toArray, List.set_cons_zero, List.set_cons_succ]
  refine qY (v := .bool false) rfl ?_ ?_
  · (intro w' hC; have h := hd0; go_simp; try with_reducible rfl)
  try simp only [Act.put, List.setIfInBounds_toArray, List.set_cons_zero, List.set_cons_succ]
  refine qY (v := ?_) rfl ?_ ?_
  rotate_left
  · (intro w' _; go_simp; try with_reducible rfl)
  rotate_left
  try simp only [Act.put, List.setIfInBounds_toArray, List.set_cons_zero, List.set_cons_succ]
  refine qI (v := .agg (nv .u8 key).toArray) (yieldsIf_load_mid (by rfl) 35 (.tmp 4) rfl w.heap.size 0 (by rfl) (nv .u8 key) _ (fun _ h => blk_range (h.blk 1 rfl)) u32 rfl HK3.out) ?_
  try simp only [Act.put, List.setIfInBounds_toArray, List.set_cons_zero, List.set_cons_succ]
  refine qI (v := .agg (nv .u8 nonce).toArray) (yieldsIf_load_mid (by rfl) 62 (.tmp 5) rfl (w.heap.size + 1) 0 (by rfl) (nv .u8 nonce) _ (fun _ h => blk_range (h.blk 0 rfl)) u12 rfl HN3.out) ?_
  try simp only [Act.put, List.setIfInBounds_toArray, List.set_cons_zero, List.set_cons_succ]
  refine qY (v := ?_) rfl ?_ ?_
  rotate_left
  · (intro w' _; go_simp; try with_reducible rfl)
  rotate_left
  try simp only [Act.put, List.setIfInBounds_toArray, List.set_cons_zero, List.set_cons_succ]
  refine qY (v := ?_) rfl ?_ ?_
  rotate_left
  · (intro w' _; go_simp; try with_reducible rfl)
  rotate_left
  try simp only [Act.put, List.setIfInBounds_toArray, List.set_cons_zero, List.set_cons_succ]
  refine qY (v := ?_) rfl ?_ ?_
  rotate_left
  · (intro w' _; go_simp; try with_reducible rfl)
  rotate_left
  try simp only [Act.put, List.setIfInBounds_toArray, List.set_cons_zero, List.set_cons_succ]
  refine qY (v := ?_) rfl ?_ ?_
  rotate_left
  · (intro w' _; go_simp; try with_reducible rfl)
  rotate_left
  try simp only [Act.put, List.setIfInBounds_toArray, List.set_cons_zero, List.set_cons_succ]
  refine qC (f := 51) (args := #[.agg (nv .u8 key).toArray, .agg (nv .u8 nonce).toArray, .slice a n cb, .slice ba ls cs]) (v := .agg (nv .u8 tg).toArray) rfl ?_ (fun W hW => (cT.out W (rdb_take (hW.rd 0 rfl) n hnl) (hW.rd 1 rfl)).mono (fun e w' h => ⟨h.1, hW.below h.2⟩)) ?_
  · (intro w' _; go_simp; try with_reducible rfl)
  try simp only [Act.put, List.setIfInBounds_toArray, List.set_cons_zero, List.set_cons_succ]
  refine qY (v := ?_) rfl ?_ ?_
  rotate_left
  · (intro w' _; go_simp; try with_reducible rfl)
  rotate_left
  try simp only [Act.put, List.setIfInBounds_toArray, List.set_cons_zero, List.set_cons_succ]
  refine qY (v := ?_) rfl ?_ ?_
  rotate_left
  · (intro w' _; go_simp; try with_reducible rfl)
  rotate_left
  try simp only [Act.put, List.setIfInBounds_toArray, List.set_cons_zero, List.set_cons_succ]
  refine qI (v := .slice (some ⟨bb, oo, none⟩) (lb - n) (cb - n)) (yieldsFrom (by rfl) rfl (by rfl) (by rfl) us HI.out.1 HI.out.2 hnl hcut) ?_
  try simp only [Act.put, List.setIfInBounds_toArray, List.set_cons_zero, List.set_cons_succ]
  refine qY (v := .pointer (some ⟨bb, oo, none⟩)) rfl ?_ ?_
  · (intro w' hC; have har := run_arrayAt (P := Try.prog) (w := w') 76 5 16 (some ⟨bb, oo, none⟩) (lb - n) (cb - n) u16 hl16; go_simp; try with_reducible rfl)
  try simp only [Act.put, List.setIfInBounds_toArray, List.set_cons_zero, List.set_cons_succ]
  refine qI (v := .agg (nv .u8 (bs.drop n)).toArray) (yieldsIf_load_mid (by rfl) 76 (.tmp 27) rfl bb oo (by rfl) (nv .u8 (bs.drop n)) _ (fun _ h => range_rd (hcut ▸ (h.rd 0 rfl).cut n hnl)) u16 rfl hz16.out) ?_
  try simp only [Act.put, List.setIfInBounds_toArray, List.set_cons_zero, List.set_cons_succ]
  refine qI (v := .bool false) (yieldsNeq (by rfl) rfl (by rfl) (by rfl) g16.out HNEQ.out) ?_
  try simp only [Act.put, List.setIfInBounds_toArray, List.set_cons_zero, List.set_cons_succ]
  refine qY (v := ?_) rfl ?_ ?_
  rotate_left
  · (intro w' _; go_simp; try with_reducible rfl)
  rotate_left
  try simp only [Act.put, List.setIfInBounds_toArray, List.set_cons_zero, List.set_cons_succ]
  refine wpQuiet_nil ?_
  intro wz sZ
  go_wp2_with fail
  refine wp_region_held_drew (S := LW w [(w.heap.size + 1, 62, .u8, nonce), (w.heap.size, 35, .u8, key)] [(a, lb, cb, bs), (ba, ls, cs, bes)]) (by kernel_rfl) (sZ.drew) (fun hHeld => ?_)
  generalize World.drew _ = wv at hHeld ⊢
  refine takeL (i := 0) (v := .agg (nv .u8 key).toArray) rfl rfl (by kernel_rfl) (by kernel_rfl) (by kernel_rfl) (fun _ _ _ h => h) (yieldsIf_load_mid (by rfl) 35 (.tmp 4) rfl w.heap.size 0 (by rfl) (nv .u8 key) _ (fun _ h => blk_range (h.blk 1 rfl)) u32 rfl HK3.out) (by assumption) ?_
  try simp only [Act.put, List.setIfInBounds_toArray, List.set_cons_zero, List.set_cons_succ]
  refine takeL (i := 1) (v := .agg (nv .u8 nonce).toArray) rfl rfl (by kernel_rfl) (by kernel_rfl) (by kernel_rfl) (fun _ _ _ h => h) (yieldsIf_load_mid (by rfl) 62 (.tmp 5) rfl (w.heap.size + 1) 0 (by rfl) (nv .u8 nonce) _ (fun _ h => blk_range (h.blk 0 rfl)) u12 rfl HN3.out) (by assumption) ?_
  try simp only [Act.put, List.setIfInBounds_toArray, List.set_cons_zero, List.set_cons_succ]
  refine takeL (i := 2) (v := ?_) rfl rfl (by kernel_rfl) (by kernel_rfl) (by kernel_rfl) (fun _ _ _ h => h) (Or.inl ⟨by rfl, ?_⟩) (by assumption) ?_
  rotate_left
  · (intro w' hSw; go_simp; try with_reducible rfl)
  try simp only [Act.put, List.setIfInBounds_toArray, List.set_cons_zero, List.set_cons_succ]
  refine takeL (i := 3) (v := ?_) rfl rfl (by kernel_rfl) (by kernel_rfl) (by kernel_rfl) (fun _ _ _ h => h) (Or.inl ⟨by rfl, ?_⟩) (by assumption) ?_
  rotate_left
  · (intro w' hSw; go_simp; try with_reducible rfl)
  try simp only [Act.put, List.setIfInBounds_toArray, List.set_cons_zero, List.set_cons_succ]
  refine takeL (i := 4) (v := ?_) rfl rfl (by kernel_rfl) (by kernel_rfl) (by kernel_rfl) (fun _ _ _ h => h) (Or.inl ⟨by rfl, ?_⟩) (by assumption) ?_
  rotate_left
  · (intro w' hSw; go_simp; try with_reducible rfl)
  try simp only [Act.put, List.setIfInBounds_toArray, List.set_cons_zero, List.set_cons_succ]
  refine wpAnyH_ready (rs := [5]) (by kernel_rfl) (by simp) ?_
  refine consL rfl (fun K hK => ?_) AllReadyH.nil
  · rw [if_pos (by rfl)]
    go_simp
    refine (St.Xor_any _ key nonce 1 a n cb (bs.take n) HKL.out hkb HNL.out hnb (by decide) (rdb_take (hHeld.rd 0 rfl) n hnl) HF.out).mono ?_
    intro e w6 h
    obtain ⟨ad6, cp6, rfl, p6, b6⟩ := St.XorOK.at (n := n) h HXL.out
    have p6m := p6.mono hHeld.bel.size
    refine hK.out _ _ (hHeld.below b6) (fun hHeld => ?_)
    clear hK K
    try simp only [Act.put, List.setIfInBounds_toArray, List.set_cons_zero, List.set_cons_succ]
    refine takeL (i := 6) (v := ?_) rfl rfl (by kernel_rfl) (by kernel_rfl) (by kernel_rfl) (fun _ _ _ h => h) (Or.inl ⟨by rfl, ?_⟩) (by assumption) ?_
    rotate_left
    · (intro w' hSw; go_simp; try with_reducible rfl)
    try simp only [Act.put, List.setIfInBounds_toArray, List.set_cons_zero, List.set_cons_succ]
    refine takeL (i := 7) (v := ?_) rfl rfl (by kernel_rfl) (by kernel_rfl) (by kernel_rfl) (fun _ _ _ h => h) (Or.inl ⟨by rfl, ?_⟩) (by assumption) ?_
    rotate_left
    · (intro w' hSw; go_simp; try with_reducible rfl)
    try simp only [Act.put, List.setIfInBounds_toArray, List.set_cons_zero, List.set_cons_succ]
    refine takeL (i := 8) (v := ?_) rfl rfl (by kernel_rfl) (by kernel_rfl) (by kernel_rfl) (fun _ _ _ h => h) (Or.inl ⟨by rfl, ?_⟩) (by assumption) ?_
    rotate_left
    · (intro w' hSw; go_simp; try with_reducible rfl)
    try simp only [Act.put, List.setIfInBounds_toArray, List.set_cons_zero, List.set_cons_succ]
    refine takeL (i := 9) (v := ?_) rfl rfl (by kernel_rfl) (by kernel_rfl) (by kernel_rfl) (fun _ _ _ h => h) (Or.inl ⟨by rfl, ?_⟩) (by assumption) ?_
    rotate_left
    · (intro w' hSw; go_simp; try with_reducible rfl)
    try simp only [Act.put, List.setIfInBounds_toArray, List.set_cons_zero, List.set_cons_succ]
    refine wpAnyH_done (by kernel_rfl) ?_ _
    go_wp2_with fail
    go_ret2
    exact ⟨ad6, cp6, rfl, p6m, hHeld.bel⟩
end Go.Proofs.Ytpcppnoomogloaa.Ae

namespace Go.Proofs.Ytpcppnoomogloaa.Ae
set_option linter.unusedSimpArgs false
set_option linter.unusedVariables false
open Go.RowKit

def openB (key nonce bs bes : List Nat) : List Nat := (openA key nonce bs bes).getD []
def openE (key nonce bs bes : List Nat) : Nat := if (openA key nonce bs bes).isSome then 0 else 70
def OpenOK (w : World) (xs : List Nat) (c : Nat) (e : Ending) (w' : World) : Prop := ∃ ad n cp, e = .returned (.tuple #[.slice ad n cp, .int .i64 (c : Int)]) ∧ xs.length = n ∧ Own w' w.heap.size (.slice ad n cp) xs ∧ Below w.heap.size w w'
theorem openA_some {key nonce bs bes p : List Nat} (h : openA key nonce bs bes = some p) : 16 ≤ bs.length ∧ tagA key nonce (bs.take (bs.length - 16)) bes = bs.drop (bs.length - 16) ∧ p = St.xorS key 1 nonce (bs.take (bs.length - 16)) := by
  unfold openA at h
  split at h
  · cases h
  · split at h
    · cases h; exact ⟨by omega, by assumption, rfl⟩
    · cases h
theorem openB_length (key nonce bs bes : List Nat) : (openB key nonce bs bes).length ≤ bs.length := by
  unfold openB
  cases h : openA key nonce bs bes with
  | none => simp
  | some p =>
    obtain ⟨_, _, rfl⟩ := openA_some h
    simp [St.xorS_length]
theorem openB_lt {key nonce bs : List Nat} (bes : List Nat) (hb : ∀ x ∈ bs, x < 256) : ∀ x ∈ openB key nonce bs bes, x < 256 := by
  unfold openB
  cases h : openA key nonce bs bes with
  | none => simp
  | some p =>
    obtain ⟨_, _, rfl⟩ := openA_some h
    exact St.xorS_lt _ _ _ _ (fun x hx => hb x (List.mem_of_mem_take hx))
theorem Open_any (w : World) (key nonce : List Nat) (a : Option Addr) (lb cb : Nat) (bs : List Nat) (ba : Option Addr) (ls cs : Nat) (bes : List Nat) (hk : key.length = 32) (hkb : ∀ x ∈ key, x < 256) (hn : nonce.length = 12) (hnb : ∀ x ∈ nonce, x < 256) (hr : RdB w a lb cb bs) (hrb : RdB w ba ls cs bes) (hs1 : lb ≤ 1000000) (hs2 : ls ≤ 1000000) :
    Calls Try.prog 42 #[.agg (bv key).toArray, .agg (bv nonce).toArray, .slice a lb cb, .slice ba ls cs] w (OpenOK w (openB key nonce bs bes) (openE key nonce bs bes)) := by
  have hl : bs.length = lb := hr.2.1
  by_cases h16 : lb < 16
  · have h0 : openA key nonce bs bes = none := openA_short (by omega)
    refine (Open_short w key nonce a lb cb bs ba ls cs bes hk hkb hn hnb hr hrb hs1 hs2 h16).mono ?_
    rintro e w' ⟨rfl, hb⟩
    refine ⟨none, 0, 0, ?_, ?_, ?_, hb⟩
    · unfold openE; rw [h0]; rfl
    · unfold openB; rw [h0]; rfl
    · unfold openB; rw [h0]; exact Own.nil _ _
  · by_cases ht : tagA key nonce (bs.take (bs.length - 16)) bes = bs.drop (bs.length - 16)
    · have h0 := openA_right (show 16 ≤ bs.length by omega) ht
      refine (Open_right w key nonce a lb cb bs ba ls cs bes hk hkb hn hnb hr hrb hs1 hs2 (by omega) ht).mono ?_
      rintro e w' ⟨ad, cp, rfl, hO, hb⟩
      refine ⟨ad, lb - 16, cp, ?_, ?_, ?_, hb⟩
      · unfold openE; rw [h0]; rfl
      · unfold openB; rw [h0, Option.getD_some, St.xorS_length, List.length_take]; omega
      · unfold openB; rw [h0, Option.getD_some, hl]; exact hO
    · have h0 := openA_wrong (show 16 ≤ bs.length by omega) ht
      refine (Open_wrong w key nonce a lb cb bs ba ls cs bes hk hkb hn hnb hr hrb hs1 hs2 (by omega) ht).mono ?_
      rintro e w' ⟨rfl, hb⟩
      refine ⟨none, 0, 0, ?_, ?_, ?_, hb⟩
      · unfold openE; rw [h0]; rfl
      · unfold openB; rw [h0]; rfl
      · unfold openB; rw [h0]; exact Own.nil _ _
end Go.Proofs.Ytpcppnoomogloaa.Ae
