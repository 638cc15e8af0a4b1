/- What a world holds of some blocks and some slices, carried in one piece. -/
import Derived.Test.YtoehkegbmphlhaaQuiet
import Derived.Test.YtoehkegbmphlhaaMem
namespace Go.Proofs.Ytoehkegbmphlhaa
set_option linter.unusedSimpArgs false
set_option linter.unusedVariables false
open Go.RowKit

/-- Blocks (number, type, kind, what they hold) and slices of bytes (address, length, capacity, bytes) as they lie in W; what lay in w is as it was. -/
structure LW (w : World) (l : List (Nat × TypeId × IntKind × List Nat)) (r : List (Option Addr × Nat × Nat × List Nat)) (W : World) : Prop where
  has : ∀ e ∈ l, Blk W e.1 e.2.1 e.2.2.1 e.2.2.2
  rds : ∀ e ∈ r, RdB W e.1 e.2.1 e.2.2.1 e.2.2.2
  bel : Below w.heap.size w W
section
variable {w W W' : World} {l : List (Nat × TypeId × IntKind × List Nat)} {r : List (Option Addr × Nat × Nat × List Nat)}
theorem LW.nil (hb : Below w.heap.size w W) : LW w [] [] W := ⟨by simp, by simp, hb⟩
theorem LW.blk (h : LW w l r W) (i : Nat) {B : Nat} {t : TypeId} {k : IntKind} {xs : List Nat} (hi : l[i]? = some (B, t, k, xs)) : Blk W B t k xs := h.has _ (List.mem_of_getElem? hi)
theorem LW.rd (h : LW w l r W) (i : Nat) {a : Option Addr} {n c : Nat} {bs : List Nat} (hi : r[i]? = some (a, n, c, bs)) : RdB W a n c bs := h.rds _ (List.mem_of_getElem? hi)
theorem LW.below (h : LW w l r W) (hb : Below W.heap.size W W') : LW w l r W' := ⟨fun e he => (h.has e he).below hb, fun e he => (h.rds e he).below hb, xtrans h.bel hb⟩
theorem LW.alloc (h : LW w l r W) (o : Obj) : LW w l r (W.alloc o) := h.below (xnew _ _)
theorem LW.drewN (h : LW w l r W) (n : Nat) : LW w l r (W.drewN n) := ⟨fun e he => (h.has e he).drewN n, fun e he => (h.rds e he).drewN n, below_drewN h.bel n⟩
theorem LW.drew (h : LW w l r W) : LW w l r W.drew := h.drewN 1
theorem LW.addB (h : LW w l r W) {B : Nat} {t : TypeId} {k : IntKind} {xs : List Nat} (hB : Blk W B t k xs) : LW w ((B, t, k, xs) :: l) r W :=
  ⟨fun e he => (List.mem_cons.1 he).elim (fun q => by subst q; exact hB) (fun q => h.has e q), h.rds, h.bel⟩
theorem LW.addR (h : LW w l r W) {a : Option Addr} {n c : Nat} {bs : List Nat} (hr : RdB W a n c bs) : LW w l ((a, n, c, bs) :: r) W :=
  ⟨h.has, fun e he => (List.mem_cons.1 he).elim (fun q => by subst q; exact hr) (fun q => h.rds e q), h.bel⟩
theorem rdb_setM {w : World} {a : Option Addr} {n c : Nat} {bs : List Nat} (h : RdB w a n c bs) {B : Nat} (hne : ∀ x, a = some x → 0 < n → x.block ≠ B) (i : Nat) (u : Value) : RdB (w.setCell ⟨B, i, none⟩ u) a n c bs := by
  rcases Nat.eq_zero_or_pos n with rfl | hn
  · exact ⟨h.1, h.2.1, h.2.2.1, h.2.2.2.1, h.2.2.2.2.1, h.2.2.2.2.2.1, .inl rfl⟩
  · exact h.setN (fun x hx => hne x hx hn) i u
theorem rdb_grownM {w w' : World} {a : Option Addr} {n c : Nat} {bs : List Nat} {row : Option Nat} (h : RdB w a n c bs) (hg : w.grownBy w' row) (hne : ∀ x, a = some x → 0 < n → row ≠ some x.block) : RdB w' a n c bs := by
  rcases Nat.eq_zero_or_pos n with rfl | hn
  · exact ⟨h.1, h.2.1, h.2.2.1, h.2.2.2.1, h.2.2.2.2.1, h.2.2.2.2.2.1, .inl rfl⟩
  · exact h.grown hg (fun x hx => hne x hx hn)
/-- A store into a block of the call's own that is not among these. -/
theorem LW.set (h : LW w l r W) {Z : Nat} (hZ : w.heap.size ≤ Z) (hl : ∀ e ∈ l, e.1 ≠ Z) (hr : ∀ e ∈ r, ∀ x, e.1 = some x → 0 < e.2.1 → x.block ≠ Z) (i : Nat) (u : Value) : LW w l r (W.setCell ⟨Z, i, none⟩ u) :=
  ⟨fun e he => (h.has e he).other _ _ (hl e he), fun e he => rdb_setM (h.rds e he) (hr e he) i u, xset h.bel hZ u⟩
/-- A step that writes one such block. -/
theorem LW.grown (h : LW w l r W) {Z : Nat} (hg : W.grownBy W' (some Z)) (hZ : w.heap.size ≤ Z) (hl : ∀ e ∈ l, e.1 ≠ Z) (hr : ∀ e ∈ r, ∀ x, e.1 = some x → 0 < e.2.1 → x.block ≠ Z) : LW w l r W' :=
  ⟨fun e he => (h.has e he).grown hg (ne_some (hl e he)), fun e he => rdb_grownM (h.rds e he) hg (fun x hx h0 e => hr _ he x hx h0 (Option.some.inj e).symm), gbelow h.bel hg hZ⟩
/-- The first block is written. -/
theorem LW.set1 {B : Nat} {t : TypeId} {k : IntKind} {xs : List Nat} (h : LW w ((B, t, k, xs) :: l) r W) (hZ : w.heap.size ≤ B) (hl : ∀ e ∈ l, e.1 ≠ B) (hr : ∀ e ∈ r, ∀ x, e.1 = some x → 0 < e.2.1 → x.block ≠ B) (i v : Nat) :
    LW w ((B, t, k, xs.set i v) :: l) r (W.setCell ⟨B, i, none⟩ (.int k ((v : Nat) : Int))) :=
  LW.addB (LW.set ⟨fun e he => h.has e (List.mem_cons_of_mem _ he), h.rds, h.bel⟩ hZ hl hr i _) ((h.has _ List.mem_cons_self).set i v)
theorem LW.lt (h : LW w l r W) : ∀ e ∈ l, e.1 < W.heap.size := fun e he => (h.has e he).lt
/-- A new block. -/
theorem LW.new (h : LW w l r W) (t : TypeId) (k : IntKind) (xs : List Nat) : LW w ((W.heap.size, t, k, xs) :: l) r (W.alloc (.cells (nv k xs).toArray t)) := (h.alloc _).addB (Blk.new W t k xs _ rfl)
end
theorem wrap_nat (n : Nat) (h : n < 9223372036854775808) : IntKind.i64.wrap (n : Int) = (n : Int) := by rw [IntKind.wrap_i64]; omega
theorem wrap_nat2 (m k n : Nat) (e : n = m + k) (h : n < 9223372036854775808) : IntKind.i64.wrap ((m : Int) + (k : Int)) = (n : Int) := by subst e; rw [IntKind.wrap_i64]; omega
theorem wrap_16 (i n : Nat) (e : n = 16 + i) (h : n < 9223372036854775808) : IntKind.i64.wrap (16 + (i : Int)) = (n : Int) := by subst e; rw [IntKind.wrap_i64]; omega
theorem mod_neF (m n : Nat) (h : m % 256 = n % 256) : ((m : Int) % 256 != (n : Int) % 256) = false := by
  have : (m : Int) % 256 = (n : Int) % 256 := by omega
  rw [this]; simp
/-- A block that is no row of bytes is not what a slice owns. -/
theorem own_ne {W : World} {base B : Nat} {v : Value} {xs : List Nat} {o : Obj} (h : Own W base v xs) (hB : W.heap[B]? = some o) (ho : ∀ cs fr, o ≠ .cells cs 5 fr) : some B ≠ v.ownBlock := by
  rcases h.1.2 with ⟨rfl, _⟩ | ⟨g, cap, cur, rfl, _, hgb, _⟩
  · simp [Value.ownBlock]
  · intro e'
    obtain rfl : B = g := by simpa [Value.ownBlock] using e'
    rw [hB] at hgb
    cases hgb
    exact ho _ _ rfl
theorem cells_ne {cs : Array Value} {t : TypeId} {fr : Nat × Nat} (h : t ≠ 5) : ∀ cs' fr', Obj.cells cs t fr ≠ .cells cs' 5 fr' := fun _ _ e => by cases e; exact h rfl
theorem own_lt {W : World} {base : Nat} {v : Value} {xs : List Nat} (h : Own W base v xs) : ∀ g, v.ownBlock = some g → base ≤ g ∧ g < W.heap.size := h.block

/-- An append to what the call owns leaves blocks of other types and slices from outside. -/
theorem LW.grownOwn {w W W' : World} {l : List (Nat × TypeId × IntKind × List Nat)} {r : List (Option Addr × Nat × Nat × List Nat)} {v : Value} {xs : List Nat} (h : LW w l r W) (hO : Own W w.heap.size v xs) (hg : W.grownBy W' v.ownBlock) (hl : ∀ e ∈ l, e.2.1 ≠ 5) (hr : ∀ e ∈ r, ∀ x, e.1 = some x → 0 < e.2.1 → x.block < w.heap.size) : LW w l r W' := by
  have hlow : ∀ g, v.ownBlock = some g → w.heap.size ≤ g := fun g hg => (own_lt hO g hg).1
  exact ⟨fun e he => (h.has e he).grown hg (own_ne hO (h.has e he) (cells_ne (hl e he))), fun e he => rdb_grownM (h.rds e he) hg (fun x hx h0 q => by have := hr e he x hx h0; have := hlow _ q; omega), h.bel.grown hg h.bel.size hlow⟩
/-- string(b): the operation alone. -/
theorem wpo_str {P : Program} {o : Oper} {a : Act} {w : World} {K : Act → World → Prop} {Q : Exit → Act → World → Prop} {src dst e : TypeId} {x : Operand} {ad : Option Addr} {n c : Nat} {bs : List Nat} (ho : o.op = .convert src dst x) (hx : a.eval x = .slice ad n c)
    (hs : P.underlying src = some (.slice e)) (he : P.underlying e = some (.int .u8)) (hd : P.underlying dst = some .string) (hr : Row8 w ad n c bs) (h : K (a.put o.dst (.string (strB bs))) w) : o.wp P a w K Q := by
  unfold Oper.wp execOp
  simp only [ho, hx, Sem.run_bind, run_str hs he hd hr, Result.andThen_ok]
  exact h
/-- A call of a Go function: the operation alone. -/
theorem wpo_call {P : Program} {o : Oper} {a : Act} {w : World} {K : Act → World → Prop} {Q : Exit → Act → World → Prop} {f : FuncId} {args : Array Value} {R : Ending → World → Prop} (he : (execOp a.eval o).run P w = .ok (.enter f args) w) (hc : Calls P f args w R)
    (h : ∀ e w', R e w' → ∃ v, e = .returned v ∧ K (a.put o.dst v) w') : o.wp P a w K Q := by
  unfold Oper.wp
  rw [he]
  exact hc.mono fun e w' hr => by
    obtain ⟨v, rfl, hk⟩ := h e w' hr
    exact hk
theorem rdb_take {w : World} {a : Option Addr} {n c : Nat} {bs : List Nat} (h : RdB w a n c bs) (k : Nat) (hk : k ≤ n) : RdB w a k c (bs.take k) := by
  obtain ⟨h0, h1, h2, h3, h4, h5, h6⟩ := h
  refine ⟨by omega, by rw [List.length_take, h1]; omega, by omega, h3, fun x hx => h4 x (List.mem_of_mem_take hx), h5, ?_⟩
  rcases h6 with h6 | ⟨b, off, ha, hl, hc⟩
  · exact .inl (by omega)
  · refine .inr ⟨b, off, ha, hl, fun i hi => ?_⟩
    rw [hc i (by omega)]
    congr 3
    simp [List.getD_eq_getElem?_getD, hi]
theorem rdb_low {w : World} {a : Option Addr} {n c : Nat} {bs : List Nat} (h : RdB w a n c bs) : ∀ x, a = some x → 0 < n → x.block < w.heap.size := fun x hx h0 => by subst hx; exact h.lt h0
theorem own_low {w : World} {base n c : Nat} {a : Option Addr} {bs : List Nat} (h : Own w base (.slice a n c) bs) : ∀ x, a = some x → base ≤ x.block ∧ x.block < w.heap.size := fun x hx => h.block x.block (by subst hx; rfl)
/-- A step that writes what is owned from a base on leaves what is of other types or lies elsewhere. -/
theorem LW.grownRow {w W W' : World} {l : List (Nat × TypeId × IntKind × List Nat)} {r : List (Option Addr × Nat × Nat × List Nat)} {base : Nat} {v : Value} {xs : List Nat} (h : LW w l r W) (hO : Own W base v xs) (hb : w.heap.size ≤ base) (hg : W.grownBy W' v.ownBlock) (hl : ∀ e ∈ l, e.2.1 ≠ 5)
    (hr : ∀ e ∈ r, ∀ x, e.1 = some x → 0 < e.2.1 → v.ownBlock ≠ some x.block) : LW w l r W' :=
  ⟨fun e he => (h.has e he).grown hg (own_ne hO (h.has e he) (cells_ne (hl e he))), fun e he => rdb_grownM (h.rds e he) hg (hr e he), h.bel.grown hg h.bel.size (fun g q => Nat.le_trans hb (hO.block g q).1)⟩
end Go.Proofs.Ytoehkegbmphlhaa
