/- Operations and regions within a round of a range over a function: what holds of them elsewhere holds there, too (no defer statement). -/
import Derived.Test.YtnlogdlnmhnepaaLw
import Derived.RangeFuncNested
import Derived.RangeFuncBound
import Derived.RangeFuncCalls
import Derived.RangeFuncLeaves
import Derived.RangeFuncBox
import Derived.Shelf.Abstract
import Derived.Shelf.RegionOpen
import Derived.OwnWalkIn
import Derived.TacticsInMore
import Derived.LoopNIn
import Derived.LoopIn
namespace Go.Proofs.Ytnlogdlnmhnepaa
set_option linter.unusedSimpArgs false
set_option linter.unusedVariables false
open Go.RowKit Go.Shelf

def NoDefer (o : Oper) : Bool := match o.op with | .defer _ => false | _ => true
theorem NoDefer.spec {o : Oper} (h : NoDefer o = true) : ∀ c, o.op ≠ .defer c := by
  intro c hc
  unfold NoDefer at h
  rw [hc] at h
  cases h
section
variable {n l : Nat} {P : Program} {ops : Array Oper} {Q : Exit → Act → World → Prop} {o : Oper} {rest : List Oper} {a : Act} {w : World} {K : Act → World → Prop}
theorem callsIn_round {f : FuncId} {args : Array Value} {R : Ending → World → Prop} (h : Calls P f args w R) : CallsIn (Fence.wide.inRound l) n P f args w R := CallsIn.inRound l (callsIn_wide.2 h)
theorem rowsIn_wide {row : String} {args : Array Value} {R : Value → World → Prop} (h : Rows P row args w R) : RowsIn (Fence.wide.inRound l) n P row args w R := fun c cs _ =>
  let ⟨v, w', r, s⟩ := h c cs
  ⟨v, w', r, stepsIn_wide.2 s⟩
/-- An operation of a round. -/
theorem operIn_of (hd : NoDefer o = true) (h : o.wp P a w K Q) : o.wpIn (Fence.wide.inRound l) n P a w K Q := by
  refine ⟨fun f _ => trivial, ?_⟩
  rw [Oper.semAt_plain (Fence.wide.inRound l) _ _ (NoDefer.spec hd)]
  unfold Oper.wp at h
  generalize (execOp a.eval o).run P w = r at h ⊢
  cases r with
  | ok x w' =>
    cases x <;> simp only [Oper.upon] at h <;> simp only [Oper.uponIn]
    case value v => exact h
    case skip => exact h
    case defer d => exact h
    case enter f args => exact ⟨(fun hh => by cases hh), callsIn_round h⟩
    case row row args => exact ⟨(fun hh => by cases hh), rowsIn_wide h⟩
  | halt x w' => cases x <;> simp only [Oper.upon] at h <;> simp only [Oper.uponIn] <;> exact h
theorem listIn_of (hg : o.guard = none) (hd : NoDefer o = true) (h : ∀ K : Act → World → Prop, (∀ a w, wpListIn (Fence.wide.inRound l) n P ops Q rest a w → K a w) → o.wp P a w K Q) : wpListIn (Fence.wide.inRound l) n P ops Q (o :: rest) a w :=
  wpListIn_plain hg fun K hK => operIn_of hd (h K hK)
/-- The same at the wide fence itself. -/
theorem operW_of (hd : NoDefer o = true) (h : o.wp P a w K Q) : o.wpIn Fence.wide n P a w K Q := by
  refine ⟨fun f _ => trivial, ?_⟩
  rw [Oper.semAt_plain Fence.wide _ _ (NoDefer.spec hd)]
  unfold Oper.wp at h
  generalize (execOp a.eval o).run P w = r at h ⊢
  cases r with
  | ok x w' =>
    cases x <;> simp only [Oper.upon] at h <;> simp only [Oper.uponIn]
    case value v => exact h
    case skip => exact h
    case defer d => exact h
    case enter f args => exact ⟨(fun hh => by cases hh), callsIn_wide.2 h⟩
    case row row args => exact ⟨(fun hh => by cases hh), fun c cs _ => let ⟨v, w', r, s⟩ := h c cs; ⟨v, w', r, stepsIn_wide.2 s⟩⟩
  | halt x w' => cases x <;> simp only [Oper.upon] at h <;> simp only [Oper.uponIn] <;> exact h
theorem listW_of (hg : o.guard = none) (hd : NoDefer o = true) (h : ∀ K : Act → World → Prop, (∀ a w, wpListIn Fence.wide n P ops Q rest a w → K a w) → o.wp P a w K Q) : wpListIn Fence.wide n P ops Q (o :: rest) a w :=
  wpListIn_plain hg fun K hK => operW_of hd (h K hK)
theorem opsIn_of (hd : ∀ o ∈ ops, NoDefer o = true) (hQ : ¬ LetsOut Q) : ∀ (is : List Nat) (a : Act) (w : World), wpOps P ops Q is a w → wpOpsIn (Fence.wide.inRound l) n P ops Q is a w
  | [], _, _, h => h
  | i :: is, a, w, h => by
    simp only [wpOps] at h
    simp only [wpOpsIn]
    cases ho : ops[i]? with
    | none => simp only [ho] at h ⊢; exact opsIn_of hd hQ is a w h
    | some o =>
      simp only [ho] at h ⊢
      by_cases hw : Region.wanted o (yielded ops a.tmps) = true
      · simp only [hw, if_true] at h ⊢
        rcases h with h | ⟨_, h⟩
        · exact operIn_of (hd o (Array.mem_of_getElem? ho)) (Oper.wp_mono (fun a w h => opsIn_of hd hQ is a w h) h)
        · exact absurd h hQ
      · simp only [hw, if_false, Bool.false_eq_true] at h ⊢
        exact ⟨fun f _ => trivial, opsIn_of hd hQ is _ w h⟩
/-- A region of a round that draws its order. -/
theorem regionIn_held {id : Nat} {S : World → Prop} {ls : List Oper} (hm : P.follows .mixedOrders = true) (hd : ls.all NoDefer = true) (hQ : ¬ LetsOut Q) (hS : S w.drew) (h : S w.drew → wpAnyH P .any ls.toArray Q S ls.length (Array.replicate ls.length false) a w.drew) :
    (Code.region id ls.toArray true).wpIn (Fence.wide.inRound l) n P Q a w :=
  wpIn_region_draw fun t => opsIn_of (by intro o ho; rw [List.all_eq_true] at hd; exact hd o (by simpa using ho)) hQ _ _ _ (by
    simp only [Region.schedule, hm, Bool.true_or, if_true]
    exact wpAny_sound _ t _ a _ (wpAny_of_held _ _ _ _ (by simpa using h hS)))
end

/-! ### Operations alone -/
section
variable {P : Program} {Q : Exit → Act → World → Prop} {o : Oper} {a : Act} {w : World} {K : Act → World → Prop}
theorem wpo_load_arr (ty : TypeId) (x : Operand) (ho : o.op = .load ty x) (B : Nat) (hx : a.eval x = .pointer (some ⟨B, 0, none⟩)) {te : TypeId} {k : IntKind} {xs : List Nat} (hB : Blk w B te k xs) (n : Nat) (el : TypeId) (hu : P.underlying ty = some (.array n el)) (hi : (P.info? ty).map (·.size) = some xs.length)
    (h : K (a.put o.dst (.agg (nv k xs).toArray)) w) : o.wp P a w K Q :=
  wp_load_row ty x ho B hx te (nv k xs).toArray (0, 0) _ hB hu rfl (by rw [hi]; simp [nv]) h
theorem wpo_yields (v : Value) (hy : (execOp a.eval o).run P w = .ok (.value v) w) (h : K (a.put o.dst v) w) : o.wp P a w K Q := by
  unfold Oper.wp
  rw [hy]
  exact h
theorem wpo_min (x y : Operand) (ts : Array TypeId) (ho : o.op = .call { callee := .builtin .min, args := #[x, y], argTypes := ts })
    (p q r : Int) (hx : a.eval x = .int .i64 p) (hy : a.eval y = .int .i64 q) (hr : (if q < p then q else p) = r) (h : K (a.put o.dst (.int .i64 r)) w) : o.wp P a w K Q := by
  unfold Oper.wp execOp
  simp only [ho, resolve, invoke, builtin, Sem.run_bind, Sem.run_pure, Result.andThen_ok, List.map_toArray, List.map_cons, List.map_nil, hx, hy, run_min_int2, hr]
  exact h
end

/-! ### A range over a function that is left by a break -/
/-- What is asked of a round's body: it runs off its end, or leaves the loop by exit id. -/
def endPost (L : Nat) (rec : LoopState → Option Code → Loop) (R : Ending → World → Prop) : Exit → Act → World → Prop
  | .normal, _, w' => w'.heap[L]? = some (.loop (rec .busy none)) ∧ R (.returned (.bool true)) (w'.putObj L (.loop (rec .ready none)))
  | .exit id, _, w' => w'.heap[L]? = some (.loop (rec .busy none)) ∧ R (.returned (.bool false)) (w'.putObj L (.loop (rec .done (some (.exit id)))))
  | _, _, _ => False
theorem range_law {P : Program} {n m : Nat} {g : Operand} {p : Tmp} {assign body : Code} {Q : Exit → Act → World → Prop} {a : Act} {w : World} {gf : Nat} {lb : Array Value} (hg : a.eval g = .func (.func gf) #[] lb) (eg : ∀ args w, (callFunc gf args).run P w = .ok (.enter gf args) w)
    (h : ∀ rec : LoopState → Option Code → Loop,
      (∀ (W : World) (x : Value) (R : Ending → World → Prop), W.heap[w.heap.size + 1]? = some (.loop (rec .ready none)) →
        assign.wpIn (Fence.wide.inRound (w.heap.size + 1)) m P (Exit.then (fun a₁ w₁ => w₁.heap[w.heap.size + 1]? = some (.loop (rec .ready none)) ∧ body.wpIn (Fence.wide.inRound (w.heap.size + 1)) m P (endPost (w.heap.size + 1) rec R) a₁ (w₁.putObj (w.heap.size + 1) (.loop (rec .busy none)))) (fun _ _ _ => False)) { tmps := a.tmps.setIfInBounds p x, defers := [] } W →
        YieldAt Fence.wide m P (w.heap.size + 1) #[x] W R) →
      (∀ (W : World) (v : Value) (c : Code), W.heap[w.heap.size + 1]? = some (.loop (rec .done (some c))) → c.wpIn Fence.wide n P Q { a with defers := { target := .collected w.heap.size, args := #[] } :: a.defers } (W.putObj (w.heap.size + 1) (.loop (rec .exhausted (some c)))) →
        rangePost Fence.wide n P (w.heap.size + 1) Q { a with defers := { target := .collected w.heap.size, args := #[] } :: a.defers } (.returned v) W) →
      CallsIn Fence.wide (n - 1) P gf (#[.func (.yield (w.heap.size + 1)) #[] #[]] ++ lb) ((w.alloc (.deferred (some []))).alloc (.loop (rec .ready none))) (rangePost Fence.wide n P (w.heap.size + 1) Q { a with defers := { target := .collected w.heap.size, args := #[] } :: a.defers })) :
    (Code.rangeFunc g #[p] assign body).wpIn Fence.wide n P Q a w := by
  refine wpIn_rangeFunc ?_
  intro fn _
  obtain ⟨rec, hrec⟩ : ∃ rec : LoopState → Option Code → Loop, rec = fun st pe => { state := st, pending := pe, fn, tmps := a.tmps, params := #[p], assign, body, defers := w.heap.size } := ⟨_, rfl⟩
  obtain ⟨W1, hW1⟩ : ∃ W1, (w.alloc (.deferred (some []))).alloc (.loop (rec .ready none)) = W1 := ⟨_, rfl⟩
  refine ⟨w.heap.size + 1, [{ target := .collected w.heap.size, args := #[] }], W1, { target := .fn (.func gf) lb, args := #[.func (.yield (w.heap.size + 1)) #[] #[]] }, W1, gf, #[.func (.yield (w.heap.size + 1)) #[] #[]] ++ lb, W1, ?_, ?_, fun _ _ => trivial, ?_, (fun hh => by cases hh), ?_⟩
  · rw [← hW1, hrec]; exact run_enterLoop_outer _ _ _ _ _
  · simp only [resolve, hg]
    simp [go_sem]
  · simp [invoke, go_sem, eg]
  · rw [← hW1]
    refine h rec ?_ ?_
    · intro W x R hL hA
      have hy := run_yield (P := P) (args := #[x]) hL (by rw [hrec]; rfl)
      rw [hrec] at hy
      refine ⟨fn, _, assign, body, hy, roundIn_of_wpIn trivial ?_⟩
      refine wpIn_mono (by simpa using hA) ?_
      intro e a1 w1 he
      cases e with
      | normal =>
        obtain ⟨hl1, hb1⟩ := he
        refine ⟨_, run_beginRound hl1 (by rw [hrec]), ?_⟩
        have hbz : ({ rec .ready none with state := .busy } : Loop) = rec .busy none := by rw [hrec]
        rw [hbz]
        refine wpIn_mono hb1 ?_
        intro e2 a2 w2 h2
        cases e2 with
        | normal =>
          have hr := run_endRound (P := P) none h2.1
          refine ⟨_, _, hr, ?_⟩
          have := h2.2
          rw [hrec] at this ⊢
          exact this
        | exit id =>
          have hr := run_endRound (P := P) (some (.exit id)) h2.1
          refine ⟨_, _, hr, ?_⟩
          have := h2.2
          rw [hrec] at this ⊢
          exact this
        | ret => exact h2.elim
        | goto t => exact h2.elim
        | panic c => exact h2.elim
        | outgrown => exact h2.elim
      | exit id => exact he.elim
      | ret => exact he.elim
      | goto t => exact he.elim
      | panic c => exact he.elim
      | outgrown => exact he.elim
    · intro W v c hL hc
      have hE := run_endLoop (P := P) hL (by rw [hrec]; simp)
      refine ⟨some c, _, ?_, hc⟩
      rw [hrec] at hE ⊢
      exact hE
end Go.Proofs.Ytnlogdlnmhnepaa
