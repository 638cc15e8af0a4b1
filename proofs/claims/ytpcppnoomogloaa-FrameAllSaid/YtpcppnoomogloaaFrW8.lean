/- Heads held against each other; the walks of Heads and Numbers, and of the closure of Scan. -/
import Derived.Test.YtpcppnoomogloaaFrW7
import Derived.ScopeJumps
import Derived.WalkMore
set_option maxRecDepth 4000
namespace Go.Proofs.Ytpcppnoomogloaa.Fr
set_option linter.unusedSimpArgs false
set_option linter.unusedVariables false
open Go.RowKit

theorem run_equal_head (w : World) (h g : Hd) : (Op.equalIn 10000 23 h.v g.v).run Try.prog w = .ok (h.same g) w := by
  have hf : (Try.prog.fieldsOf 23).toList.map (fun f => (f.name, f.type, f.offset)) = [("Kind", 3, 0), ("Lba", 3, 1), ("Len", 3, 2), ("Seq", 3, 3), ("Epoch", 3, 4)] := by kernel_rfl
  have hu : Try.prog.underlying 23 = some (.struct (Try.prog.fieldsOf 23)) := by kernel_rfl
  have ui := Try.underlying3
  have hs := run_equalIn_struct (P := Try.prog) w 9999 23 #[.int .i64 h.kind, .int .i64 h.lba, .int .i64 h.len, .int .i64 h.seq, .int .i64 h.epoch] #[.int .i64 g.kind, .int .i64 g.lba, .int .i64 g.len, .int .i64 g.seq, .int .i64 g.epoch] hu (by kernel_rfl)
  refine hs.trans ?_
  generalize (Try.prog.fieldsOf 23).toList = fs at hf
  rcases fs with _ | ⟨f0, _ | ⟨f1, _ | ⟨f2, _ | ⟨f3, _ | ⟨f4, _ | ⟨f5, fs⟩⟩⟩⟩⟩⟩
  all_goals first
    | (exfalso; simp at hf; done)
    | skip
  simp only [List.map_cons, List.map_nil, List.cons.injEq, Prod.mk.injEq, and_true] at hf
  obtain ⟨⟨n0, t0, o0⟩, ⟨n1, t1, o1⟩, ⟨n2, t2, o2⟩, ⟨n3, t3, o3⟩, ⟨n4, t4, o4⟩⟩ := hf
  have e (a b : Int) (d : Nat) : (Op.equalIn (d + 1) 3 (.int .i64 a) (.int .i64 b)).run Try.prog w = .ok (a == b) w := run_equalIn_int w d 3 .i64 .i64 a b ui
  have hagg : (isAgg 3).run Try.prog w = .ok false w := by simp [isAgg, run_underlying ui]
  have k0 := e h.kind g.kind 9998
  have k1 := e h.lba g.lba 9998
  have k2 := e h.len g.len 9998
  have k3 := e h.seq g.seq 9998
  have k4 := e h.epoch g.epoch 9998
  simp [Op.eqFields, n0, t0, o0, n1, t1, o1, n2, t2, o2, n3, t3, o3, n4, t4, o4, part, hagg, k0, k1, k2, k3, k4, Result.andThen]
  unfold Hd.same
  by_cases c0 : h.kind = g.kind <;> by_cases c1 : h.lba = g.lba <;> by_cases c2 : h.len = g.len <;> by_cases c3 : h.seq = g.seq <;> by_cases c4 : h.epoch = g.epoch <;> simp [c0, c1, c2, c3, c4, Result.andThen]
theorem eqGuardH : Try.prog.eqGuardType Try.prog.depth 23 = false := by kernel_rfl
theorem run_eql_head (w : World) (h g : Hd) : (binOp .eql 23 h.v g.v).run Try.prog w = .ok (.bool (h.same g)) w := by
  have := run_equal_head w h g
  unfold Hd.v at *
  rw [run_eql_struct, this]; rfl
theorem run_neq_head (w : World) (h g : Hd) : (binOp .neq 23 h.v g.v).run Try.prog w = .ok (.bool (!h.same g)) w := by
  have := run_equal_head w h g
  unfold Hd.v at *
  rw [run_neq_struct, this]; rfl
theorem yieldsEqlH {ops : Array Oper} {C : World → Prop} {o : Oper} {a : Act} {rt : TypeId} {x y : Operand} {h g : Hd} (hw : Region.wanted o (yielded ops a.tmps) = true) (ho : o.op = .binOp .eql 23 x y rt) (hx : a.eval x = h.v) (hy : a.eval y = g.v) : YieldsIf Try.prog ops C o (.bool (h.same g)) a :=
  .inl ⟨hw, fun w _ => by
    have h1 : (eqGuard .eql 23 x y h.v g.v).run Try.prog w = .ok () w := run_eqGuard_agg (P := Try.prog) w .eql 23 x y _ _ eqGuardH
    simp [execOp, ho, hx, hy, h1, run_eql_head]⟩
theorem yieldsNeqH {ops : Array Oper} {C : World → Prop} {o : Oper} {a : Act} {rt : TypeId} {x y : Operand} {h g : Hd} (hw : Region.wanted o (yielded ops a.tmps) = true) (ho : o.op = .binOp .neq 23 x y rt) (hx : a.eval x = h.v) (hy : a.eval y = g.v) : YieldsIf Try.prog ops C o (.bool (!h.same g)) a :=
  .inl ⟨hw, fun w _ => by
    have h1 : (eqGuard .neq 23 x y h.v g.v).run Try.prog w = .ok () w := run_eqGuard_agg (P := Try.prog) w .neq 23 x y _ _ eqGuardH
    simp [execOp, ho, hx, hy, h1, run_neq_head]⟩

/-! ### Lists of numbers, of heads -/
instance : DecidableEq Hd := fun a b => decidable_of_iff (a.same b = true) (Hd.same_iff a b)
/-- The slice's words tell these numbers. -/
def RdI (w : World) (a : Option Addr) (n c : Nat) (xs : List Nat) : Prop := xs.length = n ∧ n ≤ c ∧ n ≤ 1000000 ∧ c ≤ 9223372036854775807 ∧ (n = 0 ∨ ∃ g, a = some ⟨g, 0, none⟩ ∧ g < w.heap.size ∧ ∀ i, i < n → w.cell? ⟨g, i, none⟩ = some (.int .i64 ((xs.getD i 0 : Nat) : Int)))
/-- The slice's words tell these heads. -/
def RdH (w : World) (a : Option Addr) (n c : Nat) (hs : List Hd) : Prop := hs.length = n ∧ n ≤ c ∧ n ≤ 1000000 ∧ c ≤ 9223372036854775807 ∧ (n = 0 ∨ ∃ g, a = some ⟨g, 0, none⟩ ∧ g < w.heap.size ∧ ∀ i, i < n → w.rangeAt g (i * 5) [.int .i64 (hs.getD i hd0).kind, .int .i64 (hs.getD i hd0).lba, .int .i64 (hs.getD i hd0).len, .int .i64 (hs.getD i hd0).seq, .int .i64 (hs.getD i hd0).epoch])
theorem RdI.below {w w' : World} {a : Option Addr} {n c : Nat} {xs : List Nat} (h : RdI w a n c xs) (hb : Below w.heap.size w w') : RdI w' a n c xs := by
  obtain ⟨h1, h2, h3, h4, h5⟩ := h
  refine ⟨h1, h2, h3, h4, ?_⟩
  rcases h5 with h5 | ⟨g, ha, hg, hc⟩
  · exact .inl h5
  · exact .inr ⟨g, ha, Nat.lt_of_lt_of_le hg hb.size, fun i hi => (hb.cell (p := ⟨g, i, none⟩) hg).trans (hc i hi)⟩
theorem RdH.below {w w' : World} {a : Option Addr} {n c : Nat} {hs : List Hd} (h : RdH w a n c hs) (hb : Below w.heap.size w w') : RdH w' a n c hs := by
  obtain ⟨h1, h2, h3, h4, h5⟩ := h
  refine ⟨h1, h2, h3, h4, ?_⟩
  rcases h5 with h5 | ⟨g, ha, hg, hc⟩
  · exact .inl h5
  · exact .inr ⟨g, ha, Nat.lt_of_lt_of_le hg hb.size, fun i hi j v hj => (hb.cell (p := ⟨g, i * 5 + j, none⟩) hg).trans (hc i hi j v hj)⟩
def sameHs (a b : List Hd) : Bool := decide (a = b)
def cellsH (l : List Hd) : List Value := l.flatMap fun h => [.int .i64 h.kind, .int .i64 h.lba, .int .i64 h.len, .int .i64 h.seq, .int .i64 h.epoch]
theorem cellsH_length (l : List Hd) : (cellsH l).length = l.length * 5 := by
  induction l with
  | nil => rfl
  | cons h l ih =>
    have : cellsH (h :: l) = [.int .i64 h.kind, .int .i64 h.lba, .int .i64 h.len, .int .i64 h.seq, .int .i64 h.epoch] ++ cellsH l := rfl
    rw [this, List.length_append, ih, List.length_cons]
    simp
    omega
theorem cellsH_get (l : List Hd) (i j : Nat) (hi : i < l.length) (hj : j < 5) : (cellsH l)[i * 5 + j]? = [Value.int .i64 (l.getD i hd0).kind, .int .i64 (l.getD i hd0).lba, .int .i64 (l.getD i hd0).len, .int .i64 (l.getD i hd0).seq, .int .i64 (l.getD i hd0).epoch][j]? := by
  induction l generalizing i with
  | nil => simp at hi
  | cons h l ih =>
    have e : cellsH (h :: l) = [.int .i64 h.kind, .int .i64 h.lba, .int .i64 h.len, .int .i64 h.seq, .int .i64 h.epoch] ++ cellsH l := rfl
    rw [e]
    cases i with
    | zero => rw [List.getElem?_append_left (by simp; omega)]; simp
    | succ i =>
      rw [List.getElem?_append_right (by simp; omega)]
      have := ih i (by simpa using hi)
      simp only [List.length_cons, List.length_nil] at this ⊢
      rw [show (i + 1) * 5 + j - (0 + 1 + 1 + 1 + 1 + 1) = i * 5 + j by omega, this]
      rfl
theorem cellsH_snoc (l : List Hd) (h : Hd) : cellsH l ++ [.int .i64 h.kind, .int .i64 h.lba, .int .i64 h.len, .int .i64 h.seq, .int .i64 h.epoch] = cellsH (l ++ [h]) := by simp [cellsH]
theorem rdI_row {w : World} {base n : Nat} {v : Value} {xs : List Nat} (h : w.ownsRow base 3 1 v n (nv .i64 xs)) (hl : xs.length = n) (hn : n ≤ 1000000) : ∃ a c, v = .slice a n c ∧ RdI w a n c xs := by
  rcases row_shape h with ⟨rfl, rfl⟩ | ⟨g, c, rfl, _, hg, hc, hm, hcs, _⟩
  · exact ⟨none, 0, rfl, hl, Nat.le_refl _, hn, by decide, .inl rfl⟩
  · exact ⟨_, c, rfl, hl, hc, hn, by unfold maxLen at hm; omega, .inr ⟨g, rfl, hg, fun i hi => by rw [hcs i (by omega)]; exact nv_get .i64 xs i (by omega)⟩⟩
theorem rdH_row {w : World} {base n : Nat} {v : Value} {hs : List Hd} (h : w.ownsRow base 23 5 v n (cellsH hs)) (hl : hs.length = n) (hn : n ≤ 1000000) : ∃ a c, v = .slice a n c ∧ RdH w a n c hs := by
  rcases row_shape h with ⟨rfl, rfl⟩ | ⟨g, c, rfl, _, hg, hc, hm, hcs, _⟩
  · exact ⟨none, 0, rfl, hl, Nat.le_refl _, hn, by decide, .inl rfl⟩
  · refine ⟨_, c, rfl, hl, hc, hn, by unfold maxLen at hm; omega, .inr ⟨g, rfl, hg, fun i hi j v hj => ?_⟩⟩
    have hj5 : j < 5 := by
      have := (List.getElem?_eq_some_iff.1 hj).1
      simpa using this
    rw [hcs (i * 5 + j) (by omega), cellsH_get hs i j (by omega) hj5]
    exact hj

set_option maxRecDepth 100000 in
set_option maxHeartbeats 2000000 in
theorem Numbers_any (w : World) (a : Option Addr) (n c : Nat) (xs : List Nat) (b : Option Addr) (m d : Nat) (ys : List Nat) (ha : RdI w a n c xs) (hb : RdI w b m d ys) : Calls Try.prog 28 #[.slice a n c, .slice b m d] w fun e w' => e = .returned (.bool (decide (xs = ys))) ∧ Below w.heap.size w w' := by
  have hxl := ha.1
  have hyl := hb.1
  have hn6 := ha.2.2.1
  by_cases hl : n = m
  · subst hl
    have d1 : ((n : Int) != (n : Int)) = false := by simp
    rcases Nat.eq_zero_or_pos n with rfl | hn0
    · obtain rfl : xs = [] := List.eq_nil_of_length_eq_zero hxl
      obtain rfl : ys = [] := List.eq_nil_of_length_eq_zero hyl
      go_enter Try.func28, Try.ntmps28
      go_wp2_with fail
      go_loop [5] (fun r => r = .int .i64 0) (fun r => 0)
      case atStart => exact rfl
      case round =>
        obtain rfl := hrel
        go_wp2_with fail
        go_ret
        exact ⟨rfl, xrefl _⟩
    · obtain ⟨g, rfl, hg, hcg⟩ : ∃ g, a = some ⟨g, 0, none⟩ ∧ g < w.heap.size ∧ _ := by
        rcases ha.2.2.2.2 with h | h
        · omega
        · exact h
      obtain ⟨q, rfl, hq, hcq⟩ : ∃ q, b = some ⟨q, 0, none⟩ ∧ q < w.heap.size ∧ _ := by
        rcases hb.2.2.2.2 with h | h
        · omega
        · exact h
      have HCG := Lib.hid hcg
      have HCQ := Lib.hid hcq
      have HXL := Lib.hid hxl
      have HYL := Lib.hid hyl
      clear ha hb hcg hcq hxl hyl
      go_enter Try.func28, Try.ntmps28
      go_wp2_with fail
      go_loopw [5] (fun r wr => ∃ i : Nat, i ≤ n ∧ r = .int .i64 i ∧ xs.take i = ys.take i ∧ Below w.heap.size w wr) (fun r _ => n - (intOf r).toNat)
      case atStart => exact ⟨0, Nat.zero_le _, rfl, rfl, xrefl _⟩
      case round =>
        obtain ⟨i, hi, rfl, htk, bb⟩ := hrel
        by_cases hlt : i < n
        · have e9 : decide ((i : Int) < (n : Int)) = true := decide_eq_true (by omega)
          have hil : (i : Int) < (n : Int) := by omega
          have hc1 := (bb.cell (p := ⟨g, i, none⟩) hg).trans (HCG.out i hlt)
          have hc2 := (bb.cell (p := ⟨q, i, none⟩) hq).trans (HCQ.out i hlt)
          have hnext : xs.getD i 0 = ys.getD i 0 → xs.take (i + 1) = ys.take (i + 1) := fun e => by
            have h1 := HXL.out
            have h2 := HYL.out
            rw [List.take_add_one, List.take_add_one, htk]
            congr 1
            rw [List.getD_eq_getElem?_getD, List.getD_eq_getElem?_getD, List.getElem?_eq_getElem (show i < xs.length by omega), List.getElem?_eq_getElem (show i < ys.length by omega)] at e
            rw [List.getElem?_eq_getElem (show i < xs.length by omega), List.getElem?_eq_getElem (show i < ys.length by omega)]
            simpa using e
          have hneq : xs.getD i 0 ≠ ys.getD i 0 → decide (xs = ys) = false := fun h => decide_eq_false (fun e => h (by rw [e]))
          have HNX := Lib.hid hnext
          have HNE := Lib.hid hneq
          have HLT := Lib.hid hlt
          clear hnext hneq htk hlt
          generalize xs.getD i 0 = x at hc1 HNX HNE
          generalize ys.getD i 0 = y at hc2 HNX HNE
          by_cases hxy : x = y
          · have hb1 : ((x : Int) != (y : Int)) = false := by rw [hxy]; simp
            have HXY := Lib.hid hxy
            clear hxy
            go_wp2_with fail
            refine wp_region_class (fun W => W.cell? ⟨g, i, none⟩ = some (.int .i64 (x : Int)) ∧ W.cell? ⟨q, i, none⟩ = some (.int .i64 (y : Int)) ∧ Below w.heap.size w W) (by kernel_rfl) (by kernel_rfl) (⟨hc1, hc2, below_drewN bb 1⟩) ?_
            refine qY (v := ?_) rfl ?_ ?_
            rotate_left
            · (intro w' _; go_simp; try with_reducible rfl)
            rotate_left
            try simp only [Act.put, List.setIfInBounds_toArray, List.set_cons_zero, List.set_cons_succ]
            refine qY (v := ?_) rfl ?_ ?_
            rotate_left
            · (intro w' _; go_simp; try with_reducible rfl)
            rotate_left
            try simp only [Act.put, List.setIfInBounds_toArray, List.set_cons_zero, List.set_cons_succ]
            refine qY (v := ?_) rfl ?_ ?_
            rotate_left
            · (intro w' _; go_simp; try with_reducible rfl)
            rotate_left
            try simp only [Act.put, List.setIfInBounds_toArray, List.set_cons_zero, List.set_cons_succ]
            refine qY (v := .int .i64 (x : Int)) rfl ?_ ?_
            · (intro w' hC; have hh := hC.1; go_simp; try with_reducible rfl)
            try simp only [Act.put, List.setIfInBounds_toArray, List.set_cons_zero, List.set_cons_succ]
            refine qY (v := ?_) rfl ?_ ?_
            rotate_left
            · (intro w' _; go_simp; try with_reducible rfl)
            rotate_left
            try simp only [Act.put, List.setIfInBounds_toArray, List.set_cons_zero, List.set_cons_succ]
            refine qY (v := ?_) rfl ?_ ?_
            rotate_left
            · (intro w' _; go_simp; try with_reducible rfl)
            rotate_left
            try simp only [Act.put, List.setIfInBounds_toArray, List.set_cons_zero, List.set_cons_succ]
            refine qY (v := ?_) rfl ?_ ?_
            rotate_left
            · (intro w' _; go_simp; try with_reducible rfl)
            rotate_left
            try simp only [Act.put, List.setIfInBounds_toArray, List.set_cons_zero, List.set_cons_succ]
            refine qY (v := .int .i64 (y : Int)) rfl ?_ ?_
            · (intro w' hC; have hh := hC.2.1; go_simp; try with_reducible rfl)
            try simp only [Act.put, List.setIfInBounds_toArray, List.set_cons_zero, List.set_cons_succ]
            refine qY (v := .bool false) rfl ?_ ?_
            · (intro w' hC; go_simp; try with_reducible rfl)
            try simp only [Act.put, List.setIfInBounds_toArray, List.set_cons_zero, List.set_cons_succ]
            refine wpQuiet_nil ?_
            intro w2 hC
            go_wp2_with fail
            exact ⟨⟨i + 1, HLT.out, by go_num, HNX.out HXY.out, hC.2.2⟩, by simp [intOf]; have := HLT.out; omega⟩
          · have hb1 : ((x : Int) != (y : Int)) = true := by rw [bne_iff_ne]; omega
            have HF := Lib.hid (HNE.out hxy)
            clear hxy HNE
            go_wp2_with fail
            refine wp_region_class (fun W => W.cell? ⟨g, i, none⟩ = some (.int .i64 (x : Int)) ∧ W.cell? ⟨q, i, none⟩ = some (.int .i64 (y : Int)) ∧ Below w.heap.size w W) (by kernel_rfl) (by kernel_rfl) (⟨hc1, hc2, below_drewN bb 1⟩) ?_
            refine qY (v := ?_) rfl ?_ ?_
            rotate_left
            · (intro w' _; go_simp; try with_reducible rfl)
            rotate_left
            try simp only [Act.put, List.setIfInBounds_toArray, List.set_cons_zero, List.set_cons_succ]
            refine qY (v := ?_) rfl ?_ ?_
            rotate_left
            · (intro w' _; go_simp; try with_reducible rfl)
            rotate_left
            try simp only [Act.put, List.setIfInBounds_toArray, List.set_cons_zero, List.set_cons_succ]
            refine qY (v := ?_) rfl ?_ ?_
            rotate_left
            · (intro w' _; go_simp; try with_reducible rfl)
            rotate_left
            try simp only [Act.put, List.setIfInBounds_toArray, List.set_cons_zero, List.set_cons_succ]
            refine qY (v := .int .i64 (x : Int)) rfl ?_ ?_
            · (intro w' hC; have hh := hC.1; go_simp; try with_reducible rfl)
            try simp only [Act.put, List.setIfInBounds_toArray, List.set_cons_zero, List.set_cons_succ]
            refine qY (v := ?_) rfl ?_ ?_
            rotate_left
            · (intro w' _; go_simp; try with_reducible rfl)
            rotate_left
            try simp only [Act.put, List.setIfInBounds_toArray, List.set_cons_zero, List.set_cons_succ]
            refine qY (v := ?_) rfl ?_ ?_
            rotate_left
            · (intro w' _; go_simp; try with_reducible rfl)
            rotate_left
            try simp only [Act.put, List.setIfInBounds_toArray, List.set_cons_zero, List.set_cons_succ]
            refine qY (v := ?_) rfl ?_ ?_
            rotate_left
            · (intro w' _; go_simp; try with_reducible rfl)
            rotate_left
            try simp only [Act.put, List.setIfInBounds_toArray, List.set_cons_zero, List.set_cons_succ]
            refine qY (v := .int .i64 (y : Int)) rfl ?_ ?_
            · (intro w' hC; have hh := hC.2.1; go_simp; try with_reducible rfl)
            try simp only [Act.put, List.setIfInBounds_toArray, List.set_cons_zero, List.set_cons_succ]
            refine qY (v := .bool true) rfl ?_ ?_
            · (intro w' hC; go_simp; try with_reducible rfl)
            try simp only [Act.put, List.setIfInBounds_toArray, List.set_cons_zero, List.set_cons_succ]
            refine wpQuiet_nil ?_
            intro w2 hC
            go_wp2_with fail
            go_ret
            exact ⟨by rw [HF.out]; rfl, hC.2.2⟩
        · obtain rfl : i = n := by omega
          rw [List.take_of_length_le (by rw [HXL.out]; exact Nat.le_refl _), List.take_of_length_le (by rw [HYL.out]; exact Nat.le_refl _)] at htk
          have HD := Lib.hid (decide_eq_true htk)
          clear htk
          go_wp2_with fail
          go_ret
          exact ⟨by rw [HD.out]; rfl, bb⟩
  · have d1 : ((n : Int) != (m : Int)) = true := by rw [bne_iff_ne]; omega
    have hd : decide (xs = ys) = false := decide_eq_false (fun e => hl (by rw [← hxl, ← hyl, e]))
    rw [hd]
    clear ha hb hd hxl hyl hl
    go_enter Try.func28, Try.ntmps28
    go_wp2_with fail
    go_ret
    exact ⟨rfl, xrefl _⟩

set_option maxRecDepth 100000 in
set_option maxHeartbeats 2000000 in
theorem Heads_any (w : World) (a : Option Addr) (n c : Nat) (xs : List Hd) (b : Option Addr) (m d : Nat) (ys : List Hd) (ha : RdH w a n c xs) (hb : RdH w b m d ys) : Calls Try.prog 27 #[.slice a n c, .slice b m d] w fun e w' => e = .returned (.bool (decide (xs = ys))) ∧ Below w.heap.size w w' := by
  have hxl := ha.1
  have hyl := hb.1
  have hn6 := ha.2.2.1
  by_cases hl : n = m
  · subst hl
    have d1 : ((n : Int) != (n : Int)) = false := by simp
    rcases Nat.eq_zero_or_pos n with rfl | hn0
    · obtain rfl : xs = [] := List.eq_nil_of_length_eq_zero hxl
      obtain rfl : ys = [] := List.eq_nil_of_length_eq_zero hyl
      go_enter Try.func27, Try.ntmps27
      go_wp2_with fail
      go_loop [5] (fun r => r = .int .i64 0) (fun r => 0)
      case atStart => exact rfl
      case round =>
        obtain rfl := hrel
        go_wp2_with fail
        go_ret
        exact ⟨rfl, xrefl _⟩
    · obtain ⟨g, rfl, hg, hcg⟩ : ∃ g, a = some ⟨g, 0, none⟩ ∧ g < w.heap.size ∧ _ := by
        rcases ha.2.2.2.2 with h | h
        · omega
        · exact h
      obtain ⟨q, rfl, hq, hcq⟩ : ∃ q, b = some ⟨q, 0, none⟩ ∧ q < w.heap.size ∧ _ := by
        rcases hb.2.2.2.2 with h | h
        · omega
        · exact h
      have HCG := Lib.hid hcg
      have HCQ := Lib.hid hcq
      have HXL := Lib.hid hxl
      have HYL := Lib.hid hyl
      clear ha hb hcg hcq hxl hyl
      go_enter Try.func27, Try.ntmps27
      go_wp2_with fail
      go_loopw [5] (fun r wr => ∃ i : Nat, i ≤ n ∧ r = .int .i64 i ∧ xs.take i = ys.take i ∧ Below w.heap.size w wr) (fun r _ => n - (intOf r).toNat)
      case atStart => exact ⟨0, Nat.zero_le _, rfl, rfl, xrefl _⟩
      case round =>
        obtain ⟨i, hi, rfl, htk, bb⟩ := hrel
        by_cases hlt : i < n
        · have e9 : decide ((i : Int) < (n : Int)) = true := decide_eq_true (by omega)
          have hil : (i : Int) < (n : Int) := by omega
          have hc1 : wr.rangeAt g (i * 5) _ := fun j v hj => (bb.cell (p := ⟨g, i * 5 + j, none⟩) hg).trans (HCG.out i hlt j v hj)
          have hc2 : wr.rangeAt q (i * 5) _ := fun j v hj => (bb.cell (p := ⟨q, i * 5 + j, none⟩) hq).trans (HCQ.out i hlt j v hj)
          have uH := Try.underlying23
          have hnext : xs.getD i hd0 = ys.getD i hd0 → xs.take (i + 1) = ys.take (i + 1) := fun e => by
            have h1 := HXL.out
            have h2 := HYL.out
            rw [List.take_add_one, List.take_add_one, htk]
            congr 1
            rw [List.getD_eq_getElem?_getD, List.getD_eq_getElem?_getD, List.getElem?_eq_getElem (show i < xs.length by omega), List.getElem?_eq_getElem (show i < ys.length by omega)] at e
            rw [List.getElem?_eq_getElem (show i < xs.length by omega), List.getElem?_eq_getElem (show i < ys.length by omega)]
            simpa using e
          have hneq : xs.getD i hd0 ≠ ys.getD i hd0 → decide (xs = ys) = false := fun h => decide_eq_false (fun e => h (by rw [e]))
          have HNX := Lib.hid hnext
          have HNE := Lib.hid hneq
          have HLT := Lib.hid hlt
          clear hnext hneq htk hlt
          generalize xs.getD i hd0 = x at hc1 HNX HNE
          generalize ys.getD i hd0 = y at hc2 HNX HNE
          by_cases hxy : x = y
          · have hb1 : x.same y = true := (Hd.same_iff x y).2 hxy
            have HXY := Lib.hid hxy
            clear hxy
            go_wp2_with fail
            refine wp_region_class (fun W => W.rangeAt g (i * 5) [.int .i64 x.kind, .int .i64 x.lba, .int .i64 x.len, .int .i64 x.seq, .int .i64 x.epoch] ∧ W.rangeAt q (i * 5) [.int .i64 y.kind, .int .i64 y.lba, .int .i64 y.len, .int .i64 y.seq, .int .i64 y.epoch] ∧ Below w.heap.size w W) (by kernel_rfl) (by kernel_rfl) (⟨hc1, hc2, below_drewN bb 1⟩) ?_
            refine qY (v := ?_) rfl ?_ ?_
            rotate_left
            · (intro w' _; go_simp; try with_reducible rfl)
            rotate_left
            try simp only [Act.put, List.setIfInBounds_toArray, List.set_cons_zero, List.set_cons_succ]
            refine qY (v := ?_) rfl ?_ ?_
            rotate_left
            · (intro w' _; go_simp; try with_reducible rfl)
            rotate_left
            try simp only [Act.put, List.setIfInBounds_toArray, List.set_cons_zero, List.set_cons_succ]
            refine qY (v := ?_) rfl ?_ ?_
            rotate_left
            · (intro w' _; go_simp; try with_reducible rfl)
            rotate_left
            try simp only [Act.put, List.setIfInBounds_toArray, List.set_cons_zero, List.set_cons_succ]
            refine qI (v := x.v) (yieldsIf_load_mid (by rfl) 23 (.tmp 19) rfl g (i * 5) (by rfl) [.int .i64 x.kind, .int .i64 x.lba, .int .i64 x.len, .int .i64 x.seq, .int .i64 x.epoch] _ (fun W h => h.1) uH rfl hszH) ?_
            try simp only [Act.put, List.setIfInBounds_toArray, List.set_cons_zero, List.set_cons_succ]
            refine qY (v := ?_) rfl ?_ ?_
            rotate_left
            · (intro w' _; go_simp; try with_reducible rfl)
            rotate_left
            try simp only [Act.put, List.setIfInBounds_toArray, List.set_cons_zero, List.set_cons_succ]
            refine qY (v := ?_) rfl ?_ ?_
            rotate_left
            · (intro w' _; go_simp; try with_reducible rfl)
            rotate_left
            try simp only [Act.put, List.setIfInBounds_toArray, List.set_cons_zero, List.set_cons_succ]
            refine qY (v := ?_) rfl ?_ ?_
            rotate_left
            · (intro w' _; go_simp; try with_reducible rfl)
            rotate_left
            try simp only [Act.put, List.setIfInBounds_toArray, List.set_cons_zero, List.set_cons_succ]
            refine qI (v := y.v) (yieldsIf_load_mid (by rfl) 23 (.tmp 23) rfl q (i * 5) (by rfl) [.int .i64 y.kind, .int .i64 y.lba, .int .i64 y.len, .int .i64 y.seq, .int .i64 y.epoch] _ (fun W h => h.2.1) uH rfl hszH) ?_
            try simp only [Act.put, List.setIfInBounds_toArray, List.set_cons_zero, List.set_cons_succ]
            refine qI (v := .bool (!x.same y)) (yieldsNeqH (by rfl) rfl (by rfl) (by rfl)) ?_
            try simp only [Act.put, List.setIfInBounds_toArray, List.set_cons_zero, List.set_cons_succ]
            refine wpQuiet_nil ?_
            intro w2 hC
            rw [hb1, Bool.not_true]
            go_wp2_with fail
            exact ⟨⟨i + 1, HLT.out, by go_num, HNX.out HXY.out, hC.2.2⟩, by simp [intOf]; have := HLT.out; omega⟩
          · have hb1 : x.same y = false := by cases hq : x.same y with | false => rfl | true => exact absurd ((Hd.same_iff x y).1 hq) hxy
            have HF := Lib.hid (HNE.out hxy)
            clear hxy HNE
            go_wp2_with fail
            refine wp_region_class (fun W => W.rangeAt g (i * 5) [.int .i64 x.kind, .int .i64 x.lba, .int .i64 x.len, .int .i64 x.seq, .int .i64 x.epoch] ∧ W.rangeAt q (i * 5) [.int .i64 y.kind, .int .i64 y.lba, .int .i64 y.len, .int .i64 y.seq, .int .i64 y.epoch] ∧ Below w.heap.size w W) (by kernel_rfl) (by kernel_rfl) (⟨hc1, hc2, below_drewN bb 1⟩) ?_
            refine qY (v := ?_) rfl ?_ ?_
            rotate_left
            · (intro w' _; go_simp; try with_reducible rfl)
            rotate_left
            try simp only [Act.put, List.setIfInBounds_toArray, List.set_cons_zero, List.set_cons_succ]
            refine qY (v := ?_) rfl ?_ ?_
            rotate_left
            · (intro w' _; go_simp; try with_reducible rfl)
            rotate_left
            try simp only [Act.put, List.setIfInBounds_toArray, List.set_cons_zero, List.set_cons_succ]
            refine qY (v := ?_) rfl ?_ ?_
            rotate_left
            · (intro w' _; go_simp; try with_reducible rfl)
            rotate_left
            try simp only [Act.put, List.setIfInBounds_toArray, List.set_cons_zero, List.set_cons_succ]
            refine qI (v := x.v) (yieldsIf_load_mid (by rfl) 23 (.tmp 19) rfl g (i * 5) (by rfl) [.int .i64 x.kind, .int .i64 x.lba, .int .i64 x.len, .int .i64 x.seq, .int .i64 x.epoch] _ (fun W h => h.1) uH rfl hszH) ?_
            try simp only [Act.put, List.setIfInBounds_toArray, List.set_cons_zero, List.set_cons_succ]
            refine qY (v := ?_) rfl ?_ ?_
            rotate_left
            · (intro w' _; go_simp; try with_reducible rfl)
            rotate_left
            try simp only [Act.put, List.setIfInBounds_toArray, List.set_cons_zero, List.set_cons_succ]
            refine qY (v := ?_) rfl ?_ ?_
            rotate_left
            · (intro w' _; go_simp; try with_reducible rfl)
            rotate_left
            try simp only [Act.put, List.setIfInBounds_toArray, List.set_cons_zero, List.set_cons_succ]
            refine qY (v := ?_) rfl ?_ ?_
            rotate_left
            · (intro w' _; go_simp; try with_reducible rfl)
            rotate_left
            try simp only [Act.put, List.setIfInBounds_toArray, List.set_cons_zero, List.set_cons_succ]
            refine qI (v := y.v) (yieldsIf_load_mid (by rfl) 23 (.tmp 23) rfl q (i * 5) (by rfl) [.int .i64 y.kind, .int .i64 y.lba, .int .i64 y.len, .int .i64 y.seq, .int .i64 y.epoch] _ (fun W h => h.2.1) uH rfl hszH) ?_
            try simp only [Act.put, List.setIfInBounds_toArray, List.set_cons_zero, List.set_cons_succ]
            refine qI (v := .bool (!x.same y)) (yieldsNeqH (by rfl) rfl (by rfl) (by rfl)) ?_
            try simp only [Act.put, List.setIfInBounds_toArray, List.set_cons_zero, List.set_cons_succ]
            refine wpQuiet_nil ?_
            intro w2 hC
            rw [hb1, Bool.not_false]
            go_wp2_with fail
            go_ret
            exact ⟨by rw [HF.out]; rfl, hC.2.2⟩
        · obtain rfl : i = n := by omega
          rw [List.take_of_length_le (by rw [HXL.out]; exact Nat.le_refl _), List.take_of_length_le (by rw [HYL.out]; exact Nat.le_refl _)] at htk
          have HD := Lib.hid (decide_eq_true htk)
          clear htk
          go_wp2_with fail
          go_ret
          exact ⟨by rw [HD.out]; rfl, bb⟩
  · have d1 : ((n : Int) != (m : Int)) = true := by rw [bne_iff_ne]; omega
    have hd : decide (xs = ys) = false := decide_eq_false (fun e => hl (by rw [← hxl, ← hyl, e]))
    rw [hd]
    clear ha hb hd hxl hyl hl
    go_enter Try.func27, Try.ntmps27
    go_wp2_with fail
    go_ret
    exact ⟨rfl, xrefl _⟩
end Go.Proofs.Ytpcppnoomogloaa.Fr
