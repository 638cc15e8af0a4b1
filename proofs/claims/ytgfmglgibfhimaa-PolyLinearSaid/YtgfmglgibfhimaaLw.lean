/- What a world holds of some blocks and some slices, carried in one piece. -/
import Derived.Test.YtgfmglgibfhimaaQuiet
import Derived.Test.YtgfmglgibfhimaaMem
namespace Go.Proofs.Ytgfmglgibfhimaa
set_option linter.unusedSimpArgs false
set_option linter.unusedVariables false
open Go.RowKit

/-- Blocks (number, type, kind, what they hold) and slices of bytes (address, length, capacity, bytes) as they lie in W; what lay in w is as it was. -/
structure LW (w : World) (l : List (Nat × TypeId × IntKind × List Nat)) (r : List (Option Addr × Nat × Nat × List Nat)) (W : World) : Prop where
  has : ∀ e ∈ l, Blk W e.1 e.2.1 e.2.2.1 e.2.2.2
  rds : ∀ e ∈ r, RdB W e.1 e.2.1 e.2.2.1 e.2.2.2
  bel : Below w.heap.size w W
section
variable {w W W' : World} {l : List (Nat × TypeId × IntKind × List Nat)} {r : List (Option Addr × Nat × Nat × List Nat)}
theorem LW.nil (hb : Below w.heap.size w W) : LW w [] [] W := ⟨by simp, by simp, hb⟩
theorem LW.blk (h : LW w l r W) (i : Nat) {B : Nat} {t : TypeId} {k : IntKind} {xs : List Nat} (hi : l[i]? = some (B, t, k, xs)) : Blk W B t k xs := h.has _ (List.mem_of_getElem? hi)
theorem LW.rd (h : LW w l r W) (i : Nat) {a : Option Addr} {n c : Nat} {bs : List Nat} (hi : r[i]? = some (a, n, c, bs)) : RdB W a n c bs := h.rds _ (List.mem_of_getElem? hi)
theorem LW.below (h : LW w l r W) (hb : Below W.heap.size W W') : LW w l r W' := ⟨fun e he => (h.has e he).below hb, fun e he => (h.rds e he).below hb, xtrans h.bel hb⟩
theorem LW.alloc (h : LW w l r W) (o : Obj) : LW w l r (W.alloc o) := h.below (xnew _ _)
theorem LW.drewN (h : LW w l r W) (n : Nat) : LW w l r (W.drewN n) := ⟨fun e he => (h.has e he).drewN n, fun e he => (h.rds e he).drewN n, below_drewN h.bel n⟩
theorem LW.drew (h : LW w l r W) : LW w l r W.drew := h.drewN 1
theorem LW.addB (h : LW w l r W) {B : Nat} {t : TypeId} {k : IntKind} {xs : List Nat} (hB : Blk W B t k xs) : LW w ((B, t, k, xs) :: l) r W :=
  ⟨fun e he => (List.mem_cons.1 he).elim (fun q => by subst q; exact hB) (fun q => h.has e q), h.rds, h.bel⟩
theorem LW.addR (h : LW w l r W) {a : Option Addr} {n c : Nat} {bs : List Nat} (hr : RdB W a n c bs) : LW w l ((a, n, c, bs) :: r) W :=
  ⟨h.has, fun e he => (List.mem_cons.1 he).elim (fun q => by subst q; exact hr) (fun q => h.rds e q), h.bel⟩
theorem rdb_setM {w : World} {a : Option Addr} {n c : Nat} {bs : List Nat} (h : RdB w a n c bs) {B : Nat} (hne : ∀ x, a = some x → 0 < n → x.block ≠ B) (i : Nat) (u : Value) : RdB (w.setCell ⟨B, i, none⟩ u) a n c bs := by
  rcases Nat.eq_zero_or_pos n with rfl | hn
  · exact ⟨h.1, h.2.1, h.2.2.1, h.2.2.2.1, h.2.2.2.2.1, h.2.2.2.2.2.1, .inl rfl⟩
  · exact h.setN (fun x hx => hne x hx hn) i u
theorem rdb_grownM {w w' : World} {a : Option Addr} {n c : Nat} {bs : List Nat} {row : Option Nat} (h : RdB w a n c bs) (hg : w.grownBy w' row) (hne : ∀ x, a = some x → 0 < n → row ≠ some x.block) : RdB w' a n c bs := by
  rcases Nat.eq_zero_or_pos n with rfl | hn
  · exact ⟨h.1, h.2.1, h.2.2.1, h.2.2.2.1, h.2.2.2.2.1, h.2.2.2.2.2.1, .inl rfl⟩
  · exact h.grown hg (fun x hx => hne x hx hn)
/-- A store into a block of the call's own that is not among these. -/
theorem LW.set (h : LW w l r W) {Z : Nat} (hZ : w.heap.size ≤ Z) (hl : ∀ e ∈ l, e.1 ≠ Z) (hr : ∀ e ∈ r, ∀ x, e.1 = some x → 0 < e.2.1 → x.block ≠ Z) (i : Nat) (u : Value) : LW w l r (W.setCell ⟨Z, i, none⟩ u) :=
  ⟨fun e he => (h.has e he).other _ _ (hl e he), fun e he => rdb_setM (h.rds e he) (hr e he) i u, xset h.bel hZ u⟩
/-- A step that writes one such block. -/
theorem LW.grown (h : LW w l r W) {Z : Nat} (hg : W.grownBy W' (some Z)) (hZ : w.heap.size ≤ Z) (hl : ∀ e ∈ l, e.1 ≠ Z) (hr : ∀ e ∈ r, ∀ x, e.1 = some x → 0 < e.2.1 → x.block ≠ Z) : LW w l r W' :=
  ⟨fun e he => (h.has e he).grown hg (ne_some (hl e he)), fun e he => rdb_grownM (h.rds e he) hg (fun x hx h0 e => hr _ he x hx h0 (Option.some.inj e).symm), gbelow h.bel hg hZ⟩
/-- The first block is written. -/
theorem LW.set1 {B : Nat} {t : TypeId} {k : IntKind} {xs : List Nat} (h : LW w ((B, t, k, xs) :: l) r W) (hZ : w.heap.size ≤ B) (hl : ∀ e ∈ l, e.1 ≠ B) (hr : ∀ e ∈ r, ∀ x, e.1 = some x → 0 < e.2.1 → x.block ≠ B) (i v : Nat) :
    LW w ((B, t, k, xs.set i v) :: l) r (W.setCell ⟨B, i, none⟩ (.int k ((v : Nat) : Int))) :=
  LW.addB (LW.set ⟨fun e he => h.has e (List.mem_cons_of_mem _ he), h.rds, h.bel⟩ hZ hl hr i _) ((h.has _ List.mem_cons_self).set i v)
theorem LW.lt (h : LW w l r W) : ∀ e ∈ l, e.1 < W.heap.size := fun e he => (h.has e he).lt
/-- A new block. -/
theorem LW.new (h : LW w l r W) (t : TypeId) (k : IntKind) (xs : List Nat) : LW w ((W.heap.size, t, k, xs) :: l) r (W.alloc (.cells (nv k xs).toArray t)) := (h.alloc _).addB (Blk.new W t k xs _ rfl)
end
theorem wrap_nat (n : Nat) (h : n < 9223372036854775808) : IntKind.i64.wrap (n : Int) = (n : Int) := by rw [IntKind.wrap_i64]; omega
theorem wrap_nat2 (m k n : Nat) (e : n = m + k) (h : n < 9223372036854775808) : IntKind.i64.wrap ((m : Int) + (k : Int)) = (n : Int) := by subst e; rw [IntKind.wrap_i64]; omega
theorem wrap_16 (i n : Nat) (e : n = 16 + i) (h : n < 9223372036854775808) : IntKind.i64.wrap (16 + (i : Int)) = (n : Int) := by subst e; rw [IntKind.wrap_i64]; omega
theorem mod_neF (m n : Nat) (h : m % 256 = n % 256) : ((m : Int) % 256 != (n : Int) % 256) = false := by
  have : (m : Int) % 256 = (n : Int) % 256 := by omega
  rw [this]; simp
end Go.Proofs.Ytgfmglgibfhimaa
