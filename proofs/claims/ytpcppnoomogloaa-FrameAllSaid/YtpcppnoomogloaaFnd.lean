/- What all walks share: numbers, rows of bytes, blocks, what is owned, regions that draw their order. -/
import Derived.Test.YtpcppnoomogloaaProg
import Derived.WalkKit
import Derived.WalkSpells
import Derived.WalkLawsBesides
import Derived.Lib.Hide
import Derived.WalkSmall
import Derived.Deep.WholeRow
import Derived.Laws.AppendOwnNone
import Derived.Laws.Cells
import Derived.ChangeKeysEq
import Derived.Deep.MidRow
import Derived.Deep.RegionHeld3
import Derived.BigRegion
import Derived.Maps.RangeWalk
import Derived.Maps.AppendAt
import Derived.Laws.MakeOwn
import Derived.Deep.Quiet
import Derived.Laws.BytesArg
import Derived.RangeFuncNested
import Derived.RangeFuncBound
import Derived.RangeFuncCalls
import Derived.RangeFuncLeaves
import Derived.RangeFuncBox
import Derived.Shelf.Abstract
import Derived.Shelf.RegionOpen
import Derived.OwnWalkIn
import Derived.TacticsInMore
import Derived.LoopNIn
import Derived.LoopIn
set_option maxRecDepth 4000
namespace Go.Proofs.Ytpcppnoomogloaa
set_option linter.unusedSimpArgs false
set_option linter.unusedVariables false
open Go.RowKit

/-! ### Numbers and their bits -/
theorem ofInt_toNat (n : Nat) (x : Int) (h0 : 0 ≤ x) (h1 : x < 2 ^ n) : (BitVec.ofInt n x).toNat = x.toNat := by
  obtain ⟨m, rfl⟩ := Int.eq_ofNat_of_zero_le h0
  have h2 : m < 2 ^ n := by exact_mod_cast h1
  simp [BitVec.toNat_ofNat, Nat.mod_eq_of_lt h2]

theorem wrap_u (k : IntKind) (hk : k.signed = false) (m : Nat) (h : m < 2 ^ k.bits) : k.wrap (m : Int) = (m : Int) := by
  have h' : (m : Int) < 2 ^ k.bits := by exact_mod_cast h
  simp only [IntKind.wrap, hk, Bool.false_and, Bool.false_eq_true, if_false]
  exact Int.emod_eq_of_lt (Int.natCast_nonneg _) h'

theorem bits_and (k : IntKind) (hk : k.signed = false) (x y : Int) (hx0 : 0 ≤ x) (hx : x < 2 ^ k.bits) (hy0 : 0 ≤ y) (hy : y < 2 ^ k.bits) :
    bits .and k x y = ((x.toNat &&& y.toNat : Nat) : Int) := by
  have h1 : x.toNat < 2 ^ k.bits := by have : (x.toNat : Int) < 2 ^ k.bits := by omega
                                       exact_mod_cast this
  simp only [bits, BitVec.toNat_and, ofInt_toNat _ _ hx0 hx, ofInt_toNat _ _ hy0 hy]
  exact wrap_u k hk _ (Nat.lt_of_le_of_lt Nat.and_le_left h1)
theorem bits_or (k : IntKind) (hk : k.signed = false) (x y : Int) (hx0 : 0 ≤ x) (hx : x < 2 ^ k.bits) (hy0 : 0 ≤ y) (hy : y < 2 ^ k.bits) :
    bits .or k x y = ((x.toNat ||| y.toNat : Nat) : Int) := by
  have h1 : x.toNat < 2 ^ k.bits := by have : (x.toNat : Int) < 2 ^ k.bits := by omega
                                       exact_mod_cast this
  have h2 : y.toNat < 2 ^ k.bits := by have : (y.toNat : Int) < 2 ^ k.bits := by omega
                                       exact_mod_cast this
  simp only [bits, BitVec.toNat_or, ofInt_toNat _ _ hx0 hx, ofInt_toNat _ _ hy0 hy]
  exact wrap_u k hk _ (Nat.or_lt_two_pow h1 h2)
theorem bits_xor (k : IntKind) (hk : k.signed = false) (x y : Int) (hx0 : 0 ≤ x) (hx : x < 2 ^ k.bits) (hy0 : 0 ≤ y) (hy : y < 2 ^ k.bits) :
    bits .xor k x y = ((x.toNat ^^^ y.toNat : Nat) : Int) := by
  have h1 : x.toNat < 2 ^ k.bits := by have : (x.toNat : Int) < 2 ^ k.bits := by omega
                                       exact_mod_cast this
  have h2 : y.toNat < 2 ^ k.bits := by have : (y.toNat : Int) < 2 ^ k.bits := by omega
                                       exact_mod_cast this
  simp only [bits, BitVec.toNat_xor, ofInt_toNat _ _ hx0 hx, ofInt_toNat _ _ hy0 hy]
  exact wrap_u k hk _ (Nat.xor_lt_two_pow h1 h2)

theorem or_add (a b n : Nat) (h : b < 2 ^ n) : a * 2 ^ n ||| b = a * 2 ^ n + b := by
  have := Nat.shiftLeft_add_eq_or_of_lt h a
  rw [Nat.shiftLeft_eq] at this
  exact this.symm

/-! ### Worlds one behind the other -/
theorem xtrans {a b c : World} (h : Below a.heap.size a b) (k : Below b.heap.size b c) : Below a.heap.size a c := h.trans (k.mono h.size)
theorem xalloc {a b : World} (h : Below a.heap.size a b) (o : Obj) : Below a.heap.size a (b.alloc o) := h.alloc h.size o
theorem xnew (a : World) (o : Obj) : Below a.heap.size a (a.alloc o) := (Below.refl _ _).alloc (Nat.le_refl _) o
theorem xset {a b : World} (h : Below a.heap.size a b) {p : Addr} (hp : a.heap.size ≤ p.block) (u : Value) : Below a.heap.size a (b.setCell p u) := h.setCell hp u
theorem xrefl (a : World) : Below a.heap.size a a := Below.refl _ _

/-! ### A slice of bytes that is read -/
/-- The slice's words tell the bytes bs; nil has none. -/
def Row8 (w : World) (a : Option Addr) (len cap : Nat) (bs : List Nat) : Prop :=
  bs.length = len ∧ len ≤ cap ∧ cap ≤ 9223372036854775807 ∧ (∀ x ∈ bs, x < 256) ∧ (a = none → cap = 0) ∧
  (len = 0 ∨ ∃ b off, a = some ⟨b, off, none⟩ ∧ b < w.heap.size ∧ ∀ i, i < len → w.cell? ⟨b, off + i, none⟩ = some (.int .u8 ((bs.getD i 0 : Nat) : Int)))
/-- The same of a slice that is not too long. -/
def RdB (w : World) (a : Option Addr) (len cap : Nat) (bs : List Nat) : Prop := len ≤ 1000000000 ∧ Row8 w a len cap bs

theorem Row8.below {w w' : World} {a : Option Addr} {len cap : Nat} {bs : List Nat} (h : Row8 w a len cap bs) (hb : Below w.heap.size w w') : Row8 w' a len cap bs := by
  obtain ⟨h1, h2, h3, h4, h5, h6⟩ := h
  refine ⟨h1, h2, h3, h4, h5, ?_⟩
  rcases h6 with h6 | ⟨b, off, rfl, hlt, hc⟩
  · exact .inl h6
  · exact .inr ⟨b, off, rfl, Nat.lt_of_lt_of_le hlt hb.size, fun i hi => (hb.cell (p := ⟨b, off + i, none⟩) hlt).trans (hc i hi)⟩
theorem RdB.below {w w' : World} {a : Option Addr} {len cap : Nat} {bs : List Nat} (h : RdB w a len cap bs) (hb : Below w.heap.size w w') : RdB w' a len cap bs := ⟨h.1, h.2.below hb⟩

/-- A row of bytes that was just laid. -/
def bv (bs : List Nat) : List Value := bs.map fun n => .int .u8 ((n : Nat) : Int)
theorem bv_get (bs : List Nat) (i : Nat) (h : i < bs.length) : (bv bs).toArray[i]? = some (.int .u8 ((bs.getD i 0 : Nat) : Int)) := by
  simp [bv, List.getD_eq_getElem?_getD, List.getElem?_eq_getElem h]
theorem rd_new (w : World) (bs : List Nat) (cs : Array Value) (e : TypeId) (fr : Nat × Nat) (n : Nat) (hn : bs.length = n) (hcs : cs = (bv bs).toArray) (hb : ∀ x ∈ bs, x < 256) (hl : n ≤ 1000000000) :
    RdB (w.alloc (.cells cs e fr)) (some ⟨w.heap.size, 0, none⟩) n n bs := by
  subst hn hcs
  refine ⟨hl, rfl, Nat.le_refl _, by omega, hb, by simp, .inr ⟨_, _, rfl, by simp, fun i hi => ?_⟩⟩
  have h : (w.alloc (.cells (bv bs).toArray e fr)).heap[w.heap.size]? = some (.cells (bv bs).toArray e fr) := by
    show (w.heap.push _)[w.heap.size]? = _
    simp
  unfold World.cell?
  rw [h]
  simpa using bv_get bs i hi

theorem rd_nil (w : World) : RdB w none 0 0 [] := ⟨by decide, rfl, Nat.le_refl _, by decide, by simp, fun _ => rfl, .inl rfl⟩

theorem getD_u8 {bs : List Nat} (h : ∀ x ∈ bs, x < 256) (i : Nat) : bs.getD i 0 < 256 := by
  by_cases hi : i < bs.length
  · rw [List.getD_eq_getElem?_getD, List.getElem?_eq_getElem hi]; exact h _ (List.getElem_mem hi)
  · rw [List.getD_eq_getElem?_getD, List.getElem?_eq_none (by omega)]; decide
end Go.Proofs.Ytpcppnoomogloaa

namespace Go.Proofs.Ytpcppnoomogloaa
set_option linter.unusedSimpArgs false
set_option linter.unusedVariables false
open Go.RowKit

def nv (k : IntKind) (xs : List Nat) : List Value := xs.map fun n => .int k ((n : Nat) : Int)
theorem nv_length (k : IntKind) (xs : List Nat) : (nv k xs).length = xs.length := by simp [nv]
theorem nv_get (k : IntKind) (xs : List Nat) (i : Nat) (h : i < xs.length) : (nv k xs)[i]? = some (.int k ((xs.getD i 0 : Nat) : Int)) := by
  simp [nv, List.getD_eq_getElem?_getD, List.getElem?_eq_getElem h]
theorem nv_set (k : IntKind) (xs : List Nat) (i v : Nat) : nv k (xs.set i v) = (nv k xs).set i (.int k ((v : Nat) : Int)) := by simp [nv, List.map_set]

/-- Block B is a row of the numbers xs, of kind k (element type e), and nothing of it is frozen. -/
def Blk (w : World) (B : Nat) (e : TypeId) (k : IntKind) (xs : List Nat) : Prop := w.heap[B]? = some (.cells (nv k xs).toArray e (0, 0))

section
variable {w w' : World} {B : Nat} {e : TypeId} {k : IntKind} {xs : List Nat}
theorem Blk.lt (h : Blk w B e k xs) : B < w.heap.size := (Array.getElem?_eq_some_iff.1 h).1
theorem Blk.cell (h : Blk w B e k xs) (i : Nat) (hi : i < xs.length) : w.cell? ⟨B, i, none⟩ = some (.int k ((xs.getD i 0 : Nat) : Int)) := by
  unfold World.cell?
  rw [show w.heap[(⟨B, i, none⟩ : Addr).block]? = _ from h]
  simpa using nv_get k xs i hi
theorem Blk.frozen (h : Blk w B e k xs) (i : Nat) : w.frozen? ⟨B, i, none⟩ = false := by
  unfold World.frozen?
  rw [show w.heap[(⟨B, i, none⟩ : Addr).block]? = _ from h]
  simp
theorem Blk.set (h : Blk w B e k xs) (i v : Nat) : Blk (w.setCell ⟨B, i, none⟩ (.int k ((v : Nat) : Int))) B e k (xs.set i v) := by
  unfold Blk
  rw [nv_set]
  have := heap_setCell_same w B i (nv k xs).toArray e (.int k ((v : Nat) : Int)) h
  simpa using this
theorem Blk.other (h : Blk w B e k xs) (a : Addr) (u : Value) (hne : B ≠ a.block) : Blk (w.setCell a u) B e k xs := by
  unfold Blk
  rw [Below.heap_setCell _ _ _ _ hne]
  exact h
theorem Blk.below (h : Blk w B e k xs) (hb : Below w.heap.size w w') : Blk w' B e k xs := by
  unfold Blk
  rw [hb.block B h.lt]
  exact h
theorem Blk.grown (h : Blk w B e k xs) {row : Option Nat} (hg : w.grownBy w' row) (hne : some B ≠ row) : Blk w' B e k xs := by
  unfold Blk
  rw [hg.block B h.lt hne]
  exact h
theorem Blk.drewN (h : Blk w B e k xs) (n : Nat) : Blk (w.drewN n) B e k xs := h
theorem Blk.alloc (h : Blk w B e k xs) (o : Obj) : Blk (w.alloc o) B e k xs := h.below (xnew _ _)
end
theorem Blk.new (w : World) (e : TypeId) (k : IntKind) (xs : List Nat) (cs : Array Value) (h : cs = (nv k xs).toArray) : Blk (w.alloc (.cells cs e)) w.heap.size e k xs := by
  subst h
  unfold Blk
  show (w.heap.push _)[w.heap.size]? = _
  simp
/-- A block of bytes, read as a slice of all of it. -/
theorem Blk.rd {w : World} {B : Nat} {xs : List Nat} {e : TypeId} (h : Blk w B e .u8 xs) (n : Nat) (hn : xs.length = n) (hb : ∀ x ∈ xs, x < 256) (hl : n ≤ 1000000000) : RdB w (some ⟨B, 0, none⟩) n n xs := by
  subst hn
  exact ⟨hl, rfl, Nat.le_refl _, by omega, hb, by simp, .inr ⟨B, 0, rfl, h.lt, fun i hi => by rw [Nat.zero_add]; exact h.cell i hi⟩⟩

/-! ### Whole arrays -/
theorem nv_one (k : IntKind) (xs : List Nat) : (nv k xs).toArray.all (·.oneCell') = true := by
  rw [List.all_toArray, List.all_eq_true]
  intro u hu
  simp only [nv, List.mem_map] at hu
  obtain ⟨n, _, rfl⟩ := hu
  rfl
theorem wpList_wanted {P : Program} {ops : Array Oper} {rest : List Oper} {o : Oper} {a : Act} {w : World} {Q : Exit → Act → World → Prop} (hw : Region.wanted o (yielded ops a.tmps) = true)
    (h : o.wp P a w (wpList P ops Q rest) Q) : wpList P ops Q (o :: rest) a w := by
  unfold wpList
  rw [if_pos hw]
  exact .inl h
/-- A whole array out of its variable. -/
theorem wp_load_arr {P : Program} {ops : Array Oper} {rest : List Oper} {o : Oper} {a : Act} {w : World} {Q : Exit → Act → World → Prop} (hw : Region.wanted o (yielded ops a.tmps) = true) (ty : TypeId) (x : Operand) (ho : o.op = .load ty x)
    (B : Nat) (hx : a.eval x = .pointer (some ⟨B, 0, none⟩)) {te : TypeId} {k : IntKind} {xs : List Nat} (hB : Blk w B te k xs) (n : Nat) (el : TypeId) (hu : P.underlying ty = some (.array n el)) (hi : (P.info? ty).map (·.size) = some xs.length)
    (h : wpList P ops Q rest (a.put o.dst (.agg (nv k xs).toArray)) w) : wpList P ops Q (o :: rest) a w :=
  wpList_wanted hw (wp_load_row ty x ho B hx te (nv k xs).toArray (0, 0) _ hB hu rfl (by rw [hi]; simp [nv]) h)
/-- A whole array into the variable that was made last. -/
theorem wp_store_new {P : Program} {ops : Array Oper} {rest : List Oper} {o : Oper} {a : Act} {w : World} {Q : Exit → Act → World → Prop} (hw : Region.wanted o (yielded ops a.tmps) = true) (ty : TypeId) (x y : Operand) (ho : o.op = .store ty x y)
    (hx : a.eval x = .pointer (some ⟨w.heap.size, 0, none⟩)) (c c' : Array Value) (hy : a.eval y = .agg c') (hi : (P.info? ty).map (·.size) = some c'.size) (hs : c.size = c'.size) (h1 : c'.all (·.oneCell') = true)
    (h : wpList P ops Q rest (a.put o.dst undef) (w.alloc (.cells c' ty))) : wpList P ops Q (o :: rest) a (w.alloc (.cells c ty)) := by
  refine wpList_wanted hw ?_
  have hrun := run_storeAt_new (P := P) w ty c c' hi hs h1
  unfold Oper.wp
  simp [execOp, ho, hx, hy, hrun, Result.andThen]
  exact h
/-- A whole array into any variable of the call's own. -/
theorem wp_store_arr {P : Program} {ops : Array Oper} {rest : List Oper} {o : Oper} {a : Act} {w : World} {Q : Exit → Act → World → Prop} (hw : Region.wanted o (yielded ops a.tmps) = true) (ty : TypeId) (x y : Operand) (ho : o.op = .store ty x y)
    (B : Nat) (hx : a.eval x = .pointer (some ⟨B, 0, none⟩)) {te : TypeId} {k : IntKind} {xs ys : List Nat} (hB : Blk w B te k xs) (hy : a.eval y = .agg (nv k ys).toArray) (hi : (P.info? ty).map (·.size) = some ys.length) (hs : xs.length = ys.length)
    (h : ∀ w', Blk w' B te k ys → w.grownBy w' (some B) → wpList P ops Q rest (a.put o.dst undef) w') : wpList P ops Q (o :: rest) a w := by
  refine wpList_wanted hw ?_
  have hrun := run_storeVar_row (P := P) w B te ty (nv k xs).toArray (nv k ys).toArray hB (by rw [hi]; simp [nv]) (by simp [nv, hs]) (nv_one k ys)
  have hrun2 : (Instr.storeAt ty (.pointer (some ⟨B, 0, none⟩)) (.agg (nv k ys).toArray)).run P w = .ok () (w.setRow B (nv k ys).toArray) := by
    simp only [Instr.storeAt, Instr.sureAddr, Sem.run_bind, Sem.run_pure, Result.andThen]
    exact hrun
  unfold Oper.wp
  simp [execOp, ho, hx, hy, hrun2, Result.andThen]
  refine h _ ?_ ?_
  · unfold Blk World.setRow
    simp only [Array.getElem?_modify, if_true]
    rw [show w.heap[B]? = _ from hB]
    rfl
  · refine ⟨rfl, rfl, rfl, by simp [World.setRow], fun j hj hne => ?_⟩
    unfold World.setRow
    simp only [Array.getElem?_modify]
    rw [if_neg (fun e => hne (by rw [e]))]

/-- An element of an array that is a value. -/
theorem run_index_arr {P : Program} {ty el : TypeId} {n : Nat} {info : TypeInfo} {q : IntKind} (hu : P.underlying ty = some (.array n el)) (he : P.underlying el = some (.int q)) (hi : P.info? el = some info) (hs : info.size = 1) (k : IntKind) (xs : List Nat) (hl : xs.length = n) (i : Nat) (h : i < n) (w : World) :
    (Instr.index ty (.agg (nv k xs).toArray) (.int .i64 (i : Int))).run P w = .ok (.int k ((xs.getD i 0 : Nat) : Int)) w := by
  have hz : (sizeOf el).run P w = .ok 1 w := by
    simp [sizeOf, typeInfo, hi, hs]
  have hg : (nv k xs)[i]? = some (.int k ((xs.getD i 0 : Nat) : Int)) := nv_get k xs i (by omega)
  have hagg : (isAgg el).run P w = .ok false w := by
    simp [isAgg, run_underlying he]
  simp [Instr.index, asIntOf, run_underlying hu, hz, part, hagg, hg, h]

/-! ### The middle of a row -/
theorem mid_get (pre X post : List Nat) (i : Nat) (h : i < X.length) : (pre ++ X ++ post).getD (pre.length + i) 0 = X.getD i 0 := by
  simp [List.getD_eq_getElem?_getD, List.getElem?_append_left, List.getElem?_append_right, h]
theorem mid_set (pre X post : List Nat) (i v : Nat) (h : i < X.length) : (pre ++ X ++ post).set (pre.length + i) v = pre ++ X.set i v ++ post := by
  rw [List.set_append_left _ _ (by simp; omega), List.set_append_right _ _ (by omega)]
  simp

/-! ### A world is forgotten but for what is said of it -/
theorem at_world {P : Program} {c : Code} {Q : Exit → Act → World → Prop} {a : Act} {w : World} (F : World → Prop) (hF : F w) (h : ∀ W, F W → Code.wp P c Q a W) : Code.wp P c Q a w := h w hF

theorem ne_some {a b : Nat} (h : a ≠ b) : some a ≠ some b := fun e => h (Option.some.inj e)

/-! ### Frames -/
theorem gbelow {w0 w w' : World} {B : Nat} (h : Below w0.heap.size w0 w) (hg : w.grownBy w' (some B)) (hB : w0.heap.size ≤ B) : Below w0.heap.size w0 w' :=
  h.grown hg h.size (fun k hk => by cases hk; exact hB)
theorem gset {w w' : World} {B : Nat} (hg : w.grownBy w' (some B)) (i : Nat) (u : Value) : w.grownBy (w'.setCell ⟨B, i, none⟩ u) (some B) :=
  ⟨hg.os, hg.tape, hg.output, by show w.heap.size ≤ (w'.setCell ⟨B, i, none⟩ u).heap.size; have := hg.size; simpa [World.setCell] using this, fun k hk hne => by
    rw [Below.heap_setCell _ _ _ _ (fun e => hne (by rw [e]))]; exact hg.block k hk hne⟩
theorem gdrewN {w w' : World} {row : Option Nat} (hg : w.grownBy w' row) (n : Nat) : w.grownBy (w'.drewN n) row := ⟨hg.os, hg.tape, hg.output, hg.size, hg.block⟩
end Go.Proofs.Ytpcppnoomogloaa

namespace Go.Proofs.Ytpcppnoomogloaa
set_option linter.unusedSimpArgs false
set_option linter.unusedVariables false
open Go.RowKit

theorem infoB : (Try.prog.info? 5).map (fun i => (i.zero, i.size, i.bytes)) = some (some (.int .u8 0), 1, 1) := by kernel_rfl

theorem bv_length (bs : List Nat) : (bv bs).length = bs.length := by simp [bv]
theorem bv_append (a b : List Nat) : bv (a ++ b) = bv a ++ bv b := by simp [bv]
theorem bv_set (a : List Nat) (k v : Nat) : bv (a.set k v) = (bv a).set k (.int .u8 ((v : Nat) : Int)) := by simp [bv, List.map_set]
theorem bv_one (bs : List Nat) : ∀ u ∈ bv bs, u.oneCell' = true := by
  intro u hu
  simp only [bv, List.mem_map] at hu
  obtain ⟨n, _, rfl⟩ := hu
  rfl

/-- The value owns a row that holds the bytes bs, in a block from base on. -/
def Own (w : World) (base : Nat) (v : Value) (bs : List Nat) : Prop := w.ownsRow base 5 1 v bs.length (bv bs) ∧ ∀ x ∈ bs, x < 256

theorem Own.nil (w : World) (base : Nat) : Own w base (.slice none 0 0) [] := ⟨World.ownsRow_nil _ _ _ _, by simp⟩

theorem Own.lit (w : World) (cs : Array Value) (n : Nat) (bs : List Nat) (hcs : cs = (bv bs).toArray) (hn : bs.length = n) (hm : n ≤ maxLen) (hb : ∀ x ∈ bs, x < 256) :
    Own (w.alloc (.cells cs 5)) w.heap.size (.slice (some ⟨w.heap.size, 0, none⟩) n n) bs := by
  subst hcs hn
  refine ⟨?_, hb⟩
  have := World.ownsRow_lit (base := w.heap.size) (e := 5) (size := 1) w (bv bs).toArray bs.length (Nat.le_refl _) hm (by simp [bv])
  simpa using this

theorem Own.shape {w : World} {base : Nat} {v : Value} {bs : List Nat} (h : Own w base v bs) :
    (v = .slice none 0 0 ∧ bs = []) ∨ ∃ g cap, v = .slice (some ⟨g, 0, none⟩) bs.length cap ∧ base ≤ g ∧ g < w.heap.size ∧ bs.length ≤ cap ∧ cap ≤ maxLen ∧
      (∀ i, i < bs.length → w.cell? ⟨g, i, none⟩ = some (.int .u8 ((bs.getD i 0 : Nat) : Int))) ∧ (∀ i, w.frozen? ⟨g, i, none⟩ = false) := by
  obtain ⟨h1, h2⟩ := h
  have h0 := h1
  obtain ⟨_, h3⟩ := h1
  rcases h3 with ⟨hv, hn⟩ | ⟨g, cap, cur, hv, hg, hh, hc, hm, hs, ht⟩
  · exact .inl ⟨hv, List.eq_nil_of_length_eq_zero hn⟩
  · subst hv
    have hlt : g < w.heap.size := (Array.getElem?_eq_some_iff.1 hh).1
    refine .inr ⟨g, cap, rfl, hg, hlt, hc, hm, fun i hi => ?_, fun i => World.ownsRow.frozenAt h0 i⟩
    rw [World.ownsRow.cellAt h0 i (by omega)]
    have := bv_get bs i hi
    simpa using this

theorem Own.rd {w : World} {base : Nat} {v : Value} {bs : List Nat} (h : Own w base v bs) (hl : bs.length ≤ 1000000000) : ∃ a cap, v = .slice a bs.length cap ∧ RdB w a bs.length cap bs ∧ (a = none → bs = []) := by
  rcases h.shape with ⟨rfl, rfl⟩ | ⟨g, cap, rfl, hg, hlt, hc, hm, hcell, _⟩
  · exact ⟨none, 0, rfl, rd_nil w, fun _ => rfl⟩
  · unfold maxLen at hm
    exact ⟨_, cap, rfl, ⟨hl, rfl, hc, hm, h.2, by simp, .inr ⟨g, 0, rfl, hlt, fun i hi => by rw [Nat.zero_add]; exact hcell i hi⟩⟩, by simp⟩

theorem Own.rdb {w : World} {base n cap : Nat} {a : Option Addr} {bs : List Nat} (h : Own w base (.slice a n cap) bs) (hn : bs.length = n) (hl : n ≤ 1000000000) : RdB w a n cap bs := by
  subst hn
  obtain ⟨a', cap', hv, hr, _⟩ := h.rd hl
  simp only [Value.slice.injEq] at hv
  obtain ⟨rfl, _, rfl⟩ := hv
  exact hr

theorem Own.block {w : World} {base : Nat} {v : Value} {bs : List Nat} (h : Own w base v bs) : ∀ k, v.ownBlock = some k → base ≤ k ∧ k < w.heap.size := by
  intro k hk
  rcases h.shape with ⟨rfl, rfl⟩ | ⟨g, cap, rfl, hg, hlt, _⟩
  · simp [Value.ownBlock] at hk
  · simp [Value.ownBlock] at hk; omega

/-- What is owned stays so while other blocks are made or written. -/
theorem Own.kept {w w' : World} {base : Nat} {v : Value} {bs : List Nat} {row : Option Nat} (h : Own w base v bs) (hg : w.grownBy w' row) (hr : ∀ k, row = some k → v.ownBlock ≠ some k) : Own w' base v bs := by
  refine ⟨?_, h.2⟩
  obtain ⟨h1, h3⟩ := h.1
  refine ⟨h1, ?_⟩
  rcases h3 with h3 | ⟨g, cap, cur, hv, hgb, hh, r⟩
  · exact .inl h3
  · refine .inr ⟨g, cap, cur, hv, hgb, ?_, r⟩
    have hlt : g < w.heap.size := (Array.getElem?_eq_some_iff.1 hh).1
    rw [hg.block g hlt (fun e => by subst hv; exact hr g e.symm rfl)]
    exact hh
/-- What is owned stays so where all that lay before the call is kept. -/
theorem Own.below {w w' : World} {base : Nat} {v : Value} {bs : List Nat} (h : Own w base v bs) (hb : Below w.heap.size w w') : Own w' base v bs := by
  refine ⟨?_, h.2⟩
  obtain ⟨h1, h3⟩ := h.1
  refine ⟨h1, ?_⟩
  rcases h3 with h3 | ⟨g, cap, cur, hv, hgb, hh, r⟩
  · exact .inl h3
  · have hlt : g < w.heap.size := (Array.getElem?_eq_some_iff.1 hh).1
    exact .inr ⟨g, cap, cur, hv, hgb, by rw [hb.block g hlt]; exact hh, r⟩
theorem Own.mono {w : World} {base base' : Nat} {v : Value} {bs : List Nat} (h : Own w base v bs) (hb : base' ≤ base) : Own w base' v bs := by
  refine ⟨?_, h.2⟩
  obtain ⟨h1, h3⟩ := h.1
  refine ⟨h1, ?_⟩
  rcases h3 with h3 | ⟨g, cap, cur, hv, hgb, r⟩
  · exact .inl h3
  · exact .inr ⟨g, cap, cur, hv, by omega, r⟩

/-- append(v, ys...): v owned, ys read: the operation alone. -/
theorem wpo_append {o : Oper} {a : Act} {w : World} {K : Act → World → Prop} {Q : Exit → Act → World → Prop} (s x : Operand)
    (ho : o.op = .call { callee := .builtin .append, args := #[s, x], argTypes := #[25, 25] })
    (base : Nat) (v : Value) (xs : List Nat) (hs : a.eval s = v) (hown : Own w base v xs) (ad : Option Addr) (len cap : Nat) (ys : List Nat) (hx : a.eval x = .slice ad len cap) (hr : RdB w ad len cap ys)
    (hlen : xs.length + ys.length ≤ 1000000000) (hbase : base ≤ w.heap.size)
    (h : ∀ v' w', Own w' base v' (xs ++ ys) → Below base w w' → w.grownBy w' v.ownBlock → K (a.put o.dst v') w') :
    o.wp Try.prog a w K Q := by
  obtain ⟨i0, hi, hz0, hz1, hz2⟩ := info_parts infoB
  obtain ⟨hl, h1, h2, h3, h4, h5, h6⟩ := hr
  have hblk := hown.block
  by_cases hnone : ad = none
  · subst hnone
    obtain rfl : cap = 0 := h5 rfl
    obtain rfl : len = 0 := by omega
    obtain rfl : ys = [] := List.eq_nil_of_length_eq_zero h1
    have hrun := run_append_owned_none (P := Try.prog) (w := w) base 25 o.type 5 i0 1 Try.underlying25 hi v xs.length (bv xs) hown.1
    unfold Oper.wp
    simp [execOp, ho, resolve, invoke, builtin, hs, hx, hrun, Result.andThen]
    exact h v w (by rw [List.append_nil]; exact hown) (Below.refl _ _) ⟨rfl, rfl, rfl, Nat.le_refl _, fun _ _ _ => rfl⟩
  · obtain ⟨adr, rfl⟩ : ∃ adr, ad = some adr := by cases ad with
      | none => exact absurd rfl hnone
      | some x => exact ⟨x, rfl⟩
    refine wp_append_own w s x 25 ho base 5 i0 (.int .u8 0) 1 1 Try.underlying25 hi hz0 hz1 hz2 rfl (by decide) v xs.length (bv xs) hs hown.1 adr len cap (bv ys) hx (by rw [bv_length]; omega) ?_ (bv_one ys) (by unfold maxLen; omega) (by omega) hbase ?_
    · intro j u hj
      have hj' : j < ys.length := by
        have := (List.getElem?_eq_some_iff.1 hj).1
        rwa [bv_length] at this
      rcases h6 with h6 | ⟨b, off, hadr, hlt, hc⟩
      · omega
      · have hadr := Option.some.inj hadr
        subst hadr
        have e : (⟨b, off, none⟩ : Addr).add j = ⟨b, off + j, none⟩ := by
          unfold Addr.add
          by_cases h : j = 0
          · subst h; rfl
          · rw [if_neg h]
        rw [e, hc j (by omega)]
        have := bv_get ys j hj'
        rw [List.getElem?_toArray, hj] at this
        exact this.symm
    · intro v' w' hown' hg _
      refine h v' w' ⟨?_, ?_⟩ ((Below.refl base w).grown hg hbase (fun k hk => (hblk k hk).1)) hg
      · rw [List.length_append, bv_append, h1]; exact hown'
      · intro y hy
        rcases List.mem_append.1 hy with hy | hy
        · exact hown.2 y hy
        · exact h4 y hy

theorem wpList_of_wp {P : Program} {ops : Array Oper} {rest : List Oper} {o : Oper} {a : Act} {w : World} {Q : Exit → Act → World → Prop} (hw : Region.wanted o (yielded ops a.tmps) = true)
    (h : o.wp P a w (wpList P ops Q rest) Q) : wpList P ops Q (o :: rest) a w := by
  unfold wpList
  rw [if_pos hw]
  exact .inl h

/-- append(v, ys...) in a region. hw: the operation is wanted ('rfl' where it bears no guard, or its guard says yes). -/
theorem wp_append {ops : Array Oper} {rest : List Oper} {o : Oper} {a : Act} {w : World} {Q : Exit → Act → World → Prop} (hw : Region.wanted o (yielded ops a.tmps) = true) (s x : Operand)
    (ho : o.op = .call { callee := .builtin .append, args := #[s, x], argTypes := #[25, 25] })
    (base : Nat) (v : Value) (xs : List Nat) (hs : a.eval s = v) (hown : Own w base v xs) (ad : Option Addr) (len cap : Nat) (ys : List Nat) (hx : a.eval x = .slice ad len cap) (hr : RdB w ad len cap ys)
    (hlen : xs.length + ys.length ≤ 1000000000) (hbase : base ≤ w.heap.size)
    (h : ∀ v' w', Own w' base v' (xs ++ ys) → Below base w w' → w.grownBy w' v.ownBlock → wpList Try.prog ops Q rest (a.put o.dst v') w') :
    wpList Try.prog ops Q (o :: rest) a w :=
  wpList_of_wp hw (wpo_append s x ho base v xs hs hown ad len cap ys hx hr hlen hbase h)

theorem bv_zeros (n : Nat) : bv (List.replicate n 0) = List.replicate n (.int .u8 0) := by simp [bv]
/-- make([]byte, n). -/
theorem wp_make {ops : Array Oper} {rest : List Oper} {o : Oper} {a : Act} {w : World} {Q : Exit → Act → World → Prop} (hw : Region.wanted o (yielded ops a.tmps) = true) (l c : Operand)
    (hop : o.op = Op.makeSlice 25 l c) (kl kc : IntKind) (n : Nat) (hl : a.eval l = .int kl (n : Int)) (hc : a.eval c = .int kc (n : Int)) (hn : n ≤ 1000000000)
    (h : ∀ w', Own w' w.heap.size (.slice (some ⟨w.heap.size, 0, none⟩) n n) (List.replicate n 0) → Below w.heap.size w w' → w.heap.size < w'.heap.size → wpList Try.prog ops Q rest (a.put o.dst (.slice (some ⟨w.heap.size, 0, none⟩) n n)) w') :
    wpList Try.prog ops Q (o :: rest) a w := by
  obtain ⟨i0, hi, hz0, hz1, hz2⟩ := info_parts infoB
  refine wpList_of_wp hw ?_
  obtain ⟨w', hrun, r1, r2⟩ := run_make_full (P := Try.prog) (w := w) w.heap.size 25 5 i0 (.int .u8 0) 1 Try.underlying25 hi hz0 hz1 kl kc n (by rw [hz2]; omega) (by unfold maxLen; omega) (Nat.le_refl _)
  unfold Oper.wp
  simp [execOp, hop, hl, hc, hrun, Result.andThen]
  have e : (madeCells (Value.int .u8 0).cells (n * 1)).toList = bv (List.replicate n 0) := by
    rw [bv_zeros, Nat.mul_one]; exact toList_madeCells_one _ _
  have r1' : Own w' w.heap.size (.slice (some ⟨w.heap.size, 0, none⟩) n n) (List.replicate n 0) := ⟨by rw [List.length_replicate, ← e]; exact r1, by intro x hx; have := List.eq_of_mem_replicate hx; omega⟩
  refine h w' r1' ((Below.refl _ w).grown r2 (Nat.le_refl _) (by simp)) ?_
  rcases r1.2 with ⟨h1, _⟩ | ⟨g, cap, cur, h1, _, h2, _⟩
  · simp at h1
  · simp only [Value.slice.injEq, Option.some.injEq, Addr.mk.injEq] at h1
    obtain ⟨⟨rfl, _⟩, _⟩ := h1
    exact (Array.getElem?_eq_some_iff.1 h2).1

/-- v[k] = u. -/
theorem Own.set {w : World} {base g cap : Nat} {bs : List Nat} (h : Own w base (.slice (some ⟨g, 0, none⟩) bs.length cap) bs) (k u : Nat) (hu : u < 256) :
    Own (w.setCell ⟨g, k, none⟩ (.int .u8 ((u : Nat) : Int))) base (.slice (some ⟨g, 0, none⟩) (bs.set k u).length cap) (bs.set k u) := by
  refine ⟨?_, ?_⟩
  · rw [List.length_set, bv_set]
    exact (World.ownsRow.stored h.1 k _).1
  · intro x hx
    rcases List.mem_or_eq_of_mem_set hx with hx | rfl
    · exact h.2 x hx
    · exact hu
end Go.Proofs.Ytpcppnoomogloaa

namespace Go.Proofs.Ytpcppnoomogloaa
set_option linter.unusedSimpArgs false
set_option linter.unusedVariables false
open Go.RowKit

theorem wpList_at {P : Program} {ops : Array Oper} {rest : List Oper} {Q : Exit → Act → World → Prop} {a : Act} {w : World} (F : World → Prop) (hF : F w) (h : ∀ W, F W → wpList P ops Q rest a W) : wpList P ops Q rest a w := h w hF
theorem wp_build {P : Program} {ops : Array Oper} {rest : List Oper} {o : Oper} {a : Act} {w : World} {Q : Exit → Act → World → Prop} (hw : Region.wanted o (yielded ops a.tmps) = true) (ty : TypeId) (parts : Array (Nat × Operand)) (ho : o.op = .build ty parts)
    (v : Value) (hrun : (Instr.build ty (parts.map fun (i, x) => (i, a.eval x))).run P w = .ok v w) (hk : wpList P ops Q rest (a.put o.dst v) w) : wpList P ops Q (o :: rest) a w := by
  refine wpList_wanted hw ?_
  unfold Oper.wp
  simp [execOp, ho, hrun, Result.andThen]
  exact hk
theorem Addr.add_off (B i j : Nat) : (⟨B, i, none⟩ : Addr).add j = ⟨B, i + j, none⟩ := by
  unfold Addr.add
  by_cases h0 : j = 0
  · subst h0; rfl
  · rw [if_neg h0]
theorem wp_index_sub {P : Program} {ops : Array Oper} {rest : List Oper} {o : Oper} {a : Act} {w : World} {Q : Exit → Act → World → Prop} (hw : Region.wanted o (yielded ops a.tmps) = true) (ty : TypeId) (x y : Operand) (ho : o.op = .indexAddr ty x y)
    (B i : Nat) (hx : a.eval x = .pointer (some ⟨B, 0, none⟩)) (hy : a.eval y = .int .i64 (i : Int)) (n : Nat) (el : TypeId) (hu : P.underlying ty = some (.array n el)) (m : Nat) (hi : (P.info? el).map (·.size) = some m) (h : i < n)
    (hk : wpList P ops Q rest (a.put o.dst (.pointer (some ⟨B, i * m, none⟩))) w) : wpList P ops Q (o :: rest) a w := by
  refine wpList_wanted hw ?_
  obtain ⟨info, hi1, hi2⟩ : ∃ info, P.info? el = some info ∧ info.size = m := by
    cases hq : P.info? el with
    | none => rw [hq] at hi; cases hi
    | some info => rw [hq] at hi; exact ⟨info, rfl, by simpa using hi⟩
  have hz : (sizeOf el).run P w = .ok m w := by simp [sizeOf, typeInfo, hi1, hi2]
  have hrun : (Instr.indexAt ty (.pointer (some ⟨B, 0, none⟩)) (.int .i64 (i : Int))).run P w = .ok (.pointer (some ⟨B, i * m, none⟩)) w := by
    simp [Instr.indexAt, asIntOf, run_underlying hu, Instr.sureAddr, hz, h, Addr.add_off]
  unfold Oper.wp
  simp [execOp, ho, hx, hy, hrun, Result.andThen]
  exact hk
theorem wp_load_sub {P : Program} {ops : Array Oper} {rest : List Oper} {o : Oper} {a : Act} {w : World} {Q : Exit → Act → World → Prop} (hw : Region.wanted o (yielded ops a.tmps) = true) (ty : TypeId) (x : Operand) (ho : o.op = .load ty x)
    (B off : Nat) (hx : a.eval x = .pointer (some ⟨B, off, none⟩)) {te : TypeId} {k : IntKind} {xs ys : List Nat} (hB : Blk w B te k xs) (n m : Nat) (el : TypeId) (hu : P.underlying ty = some (.array n el)) (hi : (P.info? ty).map (·.size) = some m)
    (hys : (xs.drop off).take m = ys) (hl : ys.length = m) (h : wpList P ops Q rest (a.put o.dst (.agg (nv k ys).toArray)) w) : wpList P ops Q (o :: rest) a w := by
  refine wpList_wanted hw ?_
  obtain ⟨info, hi1, hi2⟩ : ∃ info, P.info? ty = some info ∧ info.size = m := by
    cases hq : P.info? ty with
    | none => rw [hq] at hi; cases hi
    | some info => rw [hq] at hi; exact ⟨info, rfl, by simpa using hi⟩
  have hz : (sizeOf ty).run P w = .ok m w := by simp [sizeOf, typeInfo, hi1, hi2]
  have hagg : (isAgg ty).run P w = .ok true w := by simp [isAgg, run_underlying hu]
  have hcells := run_loadCells_list (P := P) w ⟨B, off, none⟩ (nv k ys) (fun j v hv => by
    have hj : j < ys.length := by
      have := (List.getElem?_eq_some_iff.1 hv).1; simpa [nv] using this
    rw [Addr.add_off]
    have h1 : off + j < xs.length := by
      rw [← hys] at hj; simp at hj; omega
    rw [hB.cell (off + j) h1, ← hv, nv_get k ys j hj, ← hys]
    congr 3
    simp only [List.getD_eq_getElem?_getD]
    rw [List.getElem?_take_of_lt (by omega), List.getElem?_drop])
  rw [nv_length, hl] at hcells
  have hrun : (Instr.loadAt ty (.pointer (some ⟨B, off, none⟩))).run P w = .ok (.agg (nv k ys).toArray) w := by
    simp [Instr.loadAt, Instr.sureAddr, loadVar, hagg, hz, hcells]
  unfold Oper.wp
  simp [execOp, ho, hx, hrun, Result.andThen]
  exact h
end Go.Proofs.Ytpcppnoomogloaa

namespace Go.Proofs.Ytpcppnoomogloaa
set_option linter.unusedSimpArgs false
set_option linter.unusedVariables false
open Go.RowKit

theorem blk_range {w : World} {B : Nat} {e : TypeId} {k : IntKind} {xs : List Nat} (h : Blk w B e k xs) : w.rangeAt B 0 (nv k xs) := by
  have h' : w.heap[B]? = some (.cells (nv k xs).toArray e (0, 0)) := h
  have := World.rangeAt_of_block h' 0 (nv k xs).length
  simpa using this

theorem run_eqItems_int {P : Program} {e : TypeId} {q : IntKind} (he : P.underlying e = some (.int q)) (d : Nat) (k : IntKind) (xs ys : List Nat) (w : World) : ∀ is : List Nat, (∀ i ∈ is, i < xs.length ∧ i < ys.length) →
    (Op.eqItems (d + 1) e 1 (nv k xs).toArray (nv k ys).toArray is).run P w = .ok (is.all fun i => xs.getD i 0 == ys.getD i 0) w
  | [], _ => by simp [Op.eqItems]
  | i :: is, h => by
    obtain ⟨h1, h2⟩ := h i List.mem_cons_self
    have ih := run_eqItems_int he d k xs ys w is (fun j hj => h j (List.mem_cons_of_mem _ hj))
    have hagg : (isAgg e).run P w = .ok false w := by simp [isAgg, run_underlying he]
    have p1 : (part e (nv k xs).toArray (i * 1)).run P w = .ok (.int k ((xs.getD i 0 : Nat) : Int)) w := by
      simp only [part, Nat.mul_one, Sem.run_bind, hagg, Result.andThen_ok]
      simp [nv_get k xs i h1]
    have p2 : (part e (nv k ys).toArray (i * 1)).run P w = .ok (.int k ((ys.getD i 0 : Nat) : Int)) w := by
      simp only [part, Nat.mul_one, Sem.run_bind, hagg, Result.andThen_ok]
      simp [nv_get k ys i h2]
    have p3 := run_equalIn_int (P := P) w d e k q ((xs.getD i 0 : Nat) : Int) ((ys.getD i 0 : Nat) : Int) he
    have hb : (((xs.getD i 0 : Nat) : Int) == ((ys.getD i 0 : Nat) : Int)) = (xs.getD i 0 == ys.getD i 0) := by
      rw [Bool.eq_iff_iff, beq_iff_eq, beq_iff_eq]; omega
    simp only [Op.eqItems, Sem.run_bind, p1, p2, p3, Result.andThen_ok, hb, List.all_cons]
    cases hc : (xs.getD i 0 == ys.getD i 0)
    · simp
    · simpa using ih
theorem run_equalIn_arr {P : Program} {t e : TypeId} {n : Nat} {q : IntKind} {info : TypeInfo} (hu : P.underlying t = some (.array n e)) (he : P.underlying e = some (.int q)) (hi : P.info? e = some info) (hs : info.size = 1) (d : Nat) (k : IntKind) (xs ys : List Nat) (hx : xs.length = n) (hy : ys.length = n) (w : World) :
    (Op.equalIn (d + 1 + 1) t (.agg (nv k xs).toArray) (.agg (nv k ys).toArray)).run P w = .ok (decide (xs = ys)) w := by
  have hc : P.cellsOf e = 1 := by simp [Program.cellsOf, hi, hs]
  have h1 := run_equalIn_array (P := P) w (d + 1) (nv k xs).toArray (nv k ys).toArray hu hi
  rw [h1, hc, run_eqItems_int he d k xs ys w _ (fun i hi => by have := List.mem_range.1 hi; omega)]
  congr 1
  rw [Bool.eq_iff_iff, List.all_eq_true, decide_eq_true_eq]
  constructor
  · intro h
    refine List.ext_getElem (by omega) fun i h2 h3 => ?_
    have := h i (List.mem_range.2 (by omega))
    rw [beq_iff_eq] at this
    simpa [List.getD_eq_getElem?_getD, List.getElem?_eq_getElem h2, List.getElem?_eq_getElem h3] using this
  · intro h i _
    rw [h]; exact beq_self_eq_true _
theorem run_eql_arr {P : Program} {t e : TypeId} {n : Nat} {q : IntKind} {info : TypeInfo} (hu : P.underlying t = some (.array n e)) (he : P.underlying e = some (.int q)) (hi : P.info? e = some info) (hs : info.size = 1) (k : IntKind) (xs ys : List Nat) (hx : xs.length = n) (hy : ys.length = n) (w : World) :
    (binOp .eql t (.agg (nv k xs).toArray) (.agg (nv k ys).toArray)).run P w = .ok (.bool (decide (xs = ys))) w := by
  rw [run_eql_struct, run_equalIn_arr hu he hi hs 9998 k xs ys hx hy w]; rfl

/-! ### Regions that draw their order, operation by operation -/
section
variable {P : Program} {l : List Oper} {Q : Exit → Act → World → Prop} {md : Region.Mode} {S : World → Prop}
theorem getElem_drop {i : Nat} {o : Oper} {rest : List Oper} (h : l.drop i = o :: rest) : l.toArray[i]? = some o := by
  have h1 : (l.drop i)[0]? = some o := by rw [h]; rfl
  simpa using h1
theorem takeL {i d : Nat} {oi : Oper} {rest : List Oper} {v : Value} {fuel : Nat} {listed : Array Bool} {a : Act} {w : World} (hi : l.drop i = oi :: rest) (hd : oi.dst = some d)
    (hs : Region.noSelect l.toArray = true) (hf : Region.free md l.toArray listed i = true) (hr : (Region.ready md l.toArray listed).contains i = true)
    (hQ : ∀ c a w, Q (.panic c) (a.put oi.dst v) w → Q (.panic c) a w) (hy : YieldsIf P l.toArray S oi v a) (hS : S w)
    (h : wpAnyH P md l.toArray Q S fuel (listed.setIfInBounds i true) (a.put (some d) v) w) : wpAnyH P md l.toArray Q S (fuel + 1) listed a w :=
  wpAnyH_take (getElem_drop hi) hs hf hr hQ hy hS (hd ▸ h)
theorem consL {fuel : Nat} {listed : Array Bool} {a : Act} {w : World} {i : Nat} {o : Oper} {rest : List Oper} {rs : List Nat} (ho : l.drop i = o :: rest)
    (h : ∀ K' : Act → World → Prop, Shut (∀ a w, S w → (S w → wpAnyH P md l.toArray Q S fuel (listed.setIfInBounds i true) a w) → K' a w) → if Region.wanted o (yielded l.toArray a.tmps) = true then Oper.wp P o a w K' Q else K' (a.put o.dst undef) w)
    (hs : AllReadyH P md l.toArray Q S fuel listed a w rs) : AllReadyH P md l.toArray Q S fuel listed a w (i :: rs) := AllReadyH.cons (getElem_drop ho) h hs
theorem yieldsOf {o : Oper} {a : Act} {v : Value} (hw : Region.wanted o (yielded l.toArray a.tmps) = true) (h : ∀ w, (execOp a.eval o).run P w = .ok (.value v) w) : YieldsIf P l.toArray S o v a := Or.inl ⟨hw, fun w _ => h w⟩
theorem yieldsEql {o : Oper} {a : Act} {t rt : TypeId} {x y : Operand} {xs ys : Array Value} {b : Bool} (hw : Region.wanted o (yielded l.toArray a.tmps) = true) (ho : o.op = .binOp .eql t x y rt) (hx : a.eval x = .agg xs) (hy : a.eval y = .agg ys)
    (hg : P.eqGuardType P.depth t = false) (hrun : ∀ w, (binOp .eql t (.agg xs) (.agg ys)).run P w = .ok (.bool b) w) : YieldsIf P l.toArray S o (.bool b) a :=
  yieldsOf hw fun w => by
    have h1 := run_eqGuard_agg (P := P) w .eql t x y xs ys hg
    simp [execOp, ho, hx, hy, h1, hrun]
end

/-- What a world holds of a key and a nonce that lie in blocks of their own. -/
def KN (w : World) (B C : Nat) (t u : TypeId) (key nonce : List Nat) (W : World) : Prop := Blk W B t .u8 key ∧ Blk W C u .u8 nonce ∧ Below w.heap.size w W
section
variable {w W W' : World} {B C : Nat} {t u : TypeId} {key nonce : List Nat}
theorem KN.drew (h : KN w B C t u key nonce W) : KN w B C t u key nonce W.drew := ⟨h.1, h.2.1, below_drewN h.2.2 1⟩
theorem KN.below (h : KN w B C t u key nonce W) (hb : Below W.heap.size W W') : KN w B C t u key nonce W' := ⟨h.1.below hb, h.2.1.below hb, xtrans h.2.2 hb⟩
theorem KN.r1 (h : KN w B C t u key nonce W) : W.rangeAt B 0 (nv .u8 key) := blk_range h.1
theorem KN.r2 (h : KN w B C t u key nonce W) : W.rangeAt C 0 (nv .u8 nonce) := blk_range h.2.1
end
end Go.Proofs.Ytpcppnoomogloaa

namespace Go.Proofs.Ytpcppnoomogloaa
set_option linter.unusedSimpArgs false
set_option linter.unusedVariables false
open Go.RowKit

section
variable {P : Program} {ops : Array Oper} {Q : Exit → Act → World → Prop} {md : Region.Mode}

/-- In state a and world w the operation yields v, and the world stays. -/
def At (P : Program) (ops : Array Oper) (o : Oper) (v : Value) (a : Act) (w : World) : Prop :=
  Region.wanted o (yielded ops a.tmps) = true ∧ (execOp a.eval o).run P w = .ok (.value v) w

theorem yields_move {o : Oper} {a : Act} {x : Operand} {v : Value} (ho : o.op = .move x) (hg : o.guard = none) (hx : a.eval x = v) : Yields P ops o v a :=
  Or.inl ⟨by simp [Region.wanted, hg], fun w => by simp [execOp, ho, hx]⟩
theorem yields_assign {o : Oper} {a : Act} {x : Operand} {v : Value} (ho : o.op = .assign x) (hg : o.guard = none) (hx : a.eval x = v) : Yields P ops o v a :=
  Or.inl ⟨by simp [Region.wanted, hg], fun w => by simp [execOp, ho, hx]⟩
theorem yields_extract {o : Oper} {a : Act} {x : Operand} {vs : Array Value} {n : Nat} {v : Value} (ho : o.op = .extract x n) (hg : o.guard = none) (hx : a.eval x = .tuple vs) (hv : vs[n]? = some v) : Yields P ops o v a :=
  Or.inl ⟨by simp [Region.wanted, hg], fun w => by simp [execOp, ho, hx, Instr.extract, hv]⟩
theorem run_indexAt_arr {ty el : TypeId} {n : Nat} {info : TypeInfo} (hu : P.underlying ty = some (.array n el)) (hi : P.info? el = some info) (hs : info.size = 1) (B i : Nat) (h : i < n) (w : World) :
    (Instr.indexAt ty (.pointer (some ⟨B, 0, none⟩)) (.int .i64 (i : Int))).run P w = .ok (.pointer (some ⟨B, i, none⟩)) w := by
  have hz : (sizeOf el).run P w = .ok 1 w := by simp [sizeOf, typeInfo, hi, hs]
  have he : (⟨B, 0, none⟩ : Addr).add i = ⟨B, i, none⟩ := by
    unfold Addr.add
    by_cases h0 : i = 0
    · subst h0; rfl
    · rw [if_neg h0]; simp
  simp [Instr.indexAt, asIntOf, run_underlying hu, Instr.sureAddr, hz, h, he]
theorem yields_indexAddr {o : Oper} {a : Act} {x y : Operand} {ty el : TypeId} {n : Nat} {info : TypeInfo} {B i : Nat} (ho : o.op = .indexAddr ty x y) (hg : o.guard = none) (hx : a.eval x = .pointer (some ⟨B, 0, none⟩)) (hy : a.eval y = .int .i64 (i : Int))
    (hu : P.underlying ty = some (.array n el)) (hi : P.info? el = some info) (hs : info.size = 1) (h : i < n) : Yields P ops o (.pointer (some ⟨B, i, none⟩)) a :=
  Or.inl ⟨by simp [Region.wanted, hg], fun w => by simp [execOp, ho, hx, hy, run_indexAt_arr hu hi hs B i h w]⟩
theorem at_load {o : Oper} {a : Act} {x : Operand} {ty : TypeId} {k : IntKind} {ad : Addr} {v : Value} {w : World} (ho : o.op = .load ty x) (hg : o.guard = none) (hx : a.eval x = .pointer (some ad)) (hu : P.underlying ty = some (.int k)) (hc : w.cell? ad = some v) : At P ops o v a w := by
  refine ⟨by simp [Region.wanted, hg], ?_⟩
  have hagg : (isAgg ty).run P w = .ok false w := by simp [isAgg, run_underlying hu]
  simp [execOp, ho, hx, Instr.loadAt, Instr.sureAddr, loadVar, hagg, hc]

/-- Just the operations 'is' may come up, and each of them leaves just the others. -/
def batchB (md : Region.Mode) (ops : Array Oper) : Nat → Array Bool → List Nat → Bool
  | 0, _, _ => true
  | n + 1, listed, is => (Region.ready md ops listed == is) && is.all fun i => batchB md ops n (listed.setIfInBounds i true) (is.erase i)
def apartB (ops : Array Oper) (is : List Nat) : Bool :=
  is.all fun i => is.all fun j => i == j || (match ops[i]?, ops[j]? with | some x, some y => x.apart ops y | _, _ => false)
theorem apartB_spec {is : List Nat} (h : apartB ops is = true) {i j : Nat} (hi : i ∈ is) (hj : j ∈ is) (hne : i ≠ j) {x y : Oper} (hx : ops[i]? = some x) (hy : ops[j]? = some y) : x.apart ops y = true := by
  have h1 := List.all_eq_true.1 (List.all_eq_true.1 h i hi) j hj
  simp only [hx, hy, Bool.or_eq_true, beq_iff_eq] at h1
  exact h1.resolve_left hne

def listAll (listed : Array Bool) (is : List Nat) : Array Bool := is.foldl (fun l i => l.setIfInBounds i true) listed
def putAll (ops : Array Oper) (val : Nat → Value) (a : Act) (is : List Nat) : Act := is.foldl (fun a i => a.put ((ops[i]?).bind (·.dst)) (val i)) a

theorem listAll_perm {is js : List Nat} (h : is.Perm js) (listed : Array Bool) : listAll listed is = listAll listed js := by
  unfold listAll
  refine List.Perm.foldl_eq' h (fun x _ y _ z => ?_) _
  by_cases hxy : x = y
  · subst hxy; rfl
  · exact Array.setIfInBounds_comm _ _ hxy
theorem putAll_perm {is js : List Nat} (h : is.Perm js) (hap : apartB ops is = true) (hall : ∀ i ∈ is, ∃ o, ops[i]? = some o) (val : Nat → Value) (a : Act) : putAll ops val a is = putAll ops val a js := by
  unfold putAll
  refine List.Perm.foldl_eq' h (fun x hx y hy z => ?_) _
  by_cases hxy : x = y
  · subst hxy; rfl
  · obtain ⟨ox, hox⟩ := hall x hx
    obtain ⟨oy, hoy⟩ := hall y hy
    have hs := Oper.apart_spec (apartB_spec hap hx hy hxy hox hoy)
    simp only [hox, hoy, Option.bind_some]
    exact Act.put_comm z _ _ hs.2.1

theorem apartB_erase {is : List Nat} (h : apartB ops is = true) (i : Nat) : apartB ops (is.erase i) = true := by
  unfold apartB at *
  rw [List.all_eq_true] at *
  intro x hx
  have h1 := h x (List.mem_of_mem_erase hx)
  rw [List.all_eq_true] at *
  intro y hy
  exact h1 y (List.mem_of_mem_erase hy)

/-- **A batch of operations that only read: one order serves all.** -/
theorem wpAny_batch (hsel : Region.noSelect ops = true) {fuel : Nat} {w : World} (val : Nat → Value) : ∀ (n : Nat) (is : List Nat) (listed : Array Bool) (a : Act), is.length = n → is.Nodup →
    batchB md ops n listed is = true → apartB ops is = true → (∀ i ∈ is, ∃ o, ops[i]? = some o ∧ At P ops o (val i) a w) →
    wpAny P md ops Q fuel (listAll listed is) (putAll ops val a is) w → wpAny P md ops Q (fuel + n) listed a w := by
  intro n
  induction n with
  | zero =>
    intro is listed a hl _ _ _ _ h
    obtain rfl := List.eq_nil_of_length_eq_zero hl
    exact h
  | succ n ih =>
    intro is listed a hl hnd hB hap hval h
    simp only [batchB, Bool.and_eq_true, beq_iff_eq] at hB
    obtain ⟨hr, hB⟩ := hB
    refine ⟨fun h0 => ?_, fun i hi => ?_⟩
    · rw [hr] at h0; subst h0; simp at hl
    · rw [hr] at hi
      obtain ⟨o, ho, hw, hrun⟩ := hval i hi
      have hK : wpAny P md ops Q (fuel + n) (listed.setIfInBounds i true) (a.put o.dst (val i)) w := by
        refine ih (is.erase i) _ _ (by rw [List.length_erase_of_mem hi, hl]; rfl) (hnd.erase i) (List.all_eq_true.1 hB i hi) (apartB_erase hap i) ?_ ?_
        · intro j hj
          have hj' := List.mem_of_mem_erase hj
          have hne : j ≠ i := fun e => by subst e; exact (List.Nodup.not_mem_erase hnd) hj
          obtain ⟨oj, hoj, hwj, hrj⟩ := hval j hj'
          have hs := Oper.apart_spec (apartB_spec hap hi hj' (Ne.symm hne) ho hoj)
          have hselj := Region.noSelect_spec hsel j oj
          exact ⟨oj, hoj, by rw [wanted_put oj a o.dst _ hs.1]; exact hwj, by rw [execOp_put oj (fun cs b => hselj cs b hoj) a o.dst _ hs.1]; exact hrj⟩
        · have hp := List.perm_cons_erase hi
          have e1 := listAll_perm hp listed
          have e2 := putAll_perm hp hap (fun j hj => let ⟨oj, hoj, _⟩ := hval j hj; ⟨oj, hoj⟩) val a
          rw [e1, e2] at h
          simpa [listAll, putAll, ho] using h
      unfold wpOp
      simp only [ho]
      rw [if_pos hw]
      refine .inl ?_
      unfold Oper.wp
      rw [hrun]
      exact hK
theorem wpAny_batch4 (hsel : Region.noSelect ops = true) {fuel : Nat} {w : World} {listed : Array Bool} {a : Act} (i1 i2 i3 i4 : Nat) {o1 o2 o3 o4 : Oper} (v1 v2 v3 v4 : Value)
    (hn : [i1, i2, i3, i4].Nodup) (hB : batchB md ops 4 listed [i1, i2, i3, i4] = true) (hap : apartB ops [i1, i2, i3, i4] = true)
    (h1 : ops[i1]? = some o1) (h2 : ops[i2]? = some o2) (h3 : ops[i3]? = some o3) (h4 : ops[i4]? = some o4)
    (y1 : At P ops o1 v1 a w) (y2 : At P ops o2 v2 a w) (y3 : At P ops o3 v3 a w) (y4 : At P ops o4 v4 a w)
    (h : wpAny P md ops Q fuel ((((listed.setIfInBounds i1 true).setIfInBounds i2 true).setIfInBounds i3 true).setIfInBounds i4 true) ((((a.put o1.dst v1).put o2.dst v2).put o3.dst v3).put o4.dst v4) w) :
    wpAny P md ops Q (fuel + 4) listed a w := by
  simp only [List.nodup_cons, List.mem_cons, List.not_mem_nil, or_false, not_or, not_false_eq_true, and_true, List.nodup_nil] at hn
  obtain ⟨⟨n12, n13, n14⟩, ⟨n23, n24⟩, n34⟩ := hn
  refine wpAny_batch hsel (fun j => if j = i1 then v1 else if j = i2 then v2 else if j = i3 then v3 else v4) 4 [i1, i2, i3, i4] listed a rfl (by simp [n12, n13, n14, n23, n24, n34]) hB hap ?_ ?_
  · intro j hj
    simp only [List.mem_cons, List.not_mem_nil, or_false] at hj
    rcases hj with rfl | rfl | rfl | rfl
    · exact ⟨_, h1, by rw [if_pos rfl]; exact y1⟩
    · exact ⟨_, h2, by rw [if_neg (Ne.symm n12), if_pos rfl]; exact y2⟩
    · exact ⟨_, h3, by rw [if_neg (Ne.symm n13), if_neg (Ne.symm n23), if_pos rfl]; exact y3⟩
    · exact ⟨_, h4, by rw [if_neg (Ne.symm n14), if_neg (Ne.symm n24), if_neg (Ne.symm n34)]; exact y4⟩
  · simp only [listAll, putAll, List.foldl_cons, List.foldl_nil, h1, h2, h3, h4, Option.bind_some, if_true, if_neg (Ne.symm n12), if_neg (Ne.symm n13), if_neg (Ne.symm n23), if_neg (Ne.symm n14), if_neg (Ne.symm n24), if_neg (Ne.symm n34)]
    exact h
theorem run_storeAt_int {ty : TypeId} {info : TypeInfo} (hi : P.info? ty = some info) (hs : info.size = 1) {ad : Addr} {k : IntKind} {n : Int} {old : Value} {w : World} (hc : w.cell? ad = some old) (hf : w.frozen? ad = false) :
    (Instr.storeAt ty (.pointer (some ad)) (.int k n)).run P w = .ok () (w.setCell ad (.int k n)) := by
  have hz : (sizeOf ty).run P w = .ok 1 w := by simp [sizeOf, typeInfo, hi, hs]
  simp [Instr.storeAt, Instr.sureAddr, storeVar, hz, storeCells, go_sem, hc, hf, Value.cells]
theorem wpAny_call {fuel : Nat} {listed : Array Bool} {a : Act} {w : World} {i : Nat} {o : Oper} {d : Option Nat} {f : FuncId} {args : Array Value} {v : Value} {R : World → Prop} (hr : Region.ready md ops listed = [i]) (ho : ops[i]? = some o) (hd : o.dst = d) (hg : o.guard = none)
    (hrun : (execOp a.eval o).run P w = .ok (.enter f args) w) (hc : Calls P f args w fun e w' => e = .returned v ∧ R w') (h : ∀ w', R w' → wpAny P md ops Q fuel (listed.setIfInBounds i true) (a.put d v) w') : wpAny P md ops Q (fuel + 1) listed a w := by
  refine ⟨fun h0 => by simp [hr] at h0, fun j hj => ?_⟩
  rw [hr] at hj
  obtain rfl : j = i := by simpa using hj
  unfold wpOp
  simp only [ho]
  rw [if_pos (by simp [Region.wanted, hg])]
  refine .inl ?_
  unfold Oper.wp
  rw [hrun, Oper.upon_enter]
  refine hc.mono ?_
  rintro e w' ⟨rfl, hR⟩
  exact hd ▸ h w' hR
theorem wpAny_store {fuel : Nat} {listed : Array Bool} {a : Act} {w : World} {i : Nat} {o : Oper} {ty : TypeId} {x y : Operand} {ad : Addr} {k : IntKind} {n : Int} {old : Value} {info : TypeInfo} (hr : Region.ready md ops listed = [i]) (ho : ops[i]? = some o) (hop : o.op = .store ty x y) (hd : o.dst = none) (hg : o.guard = none)
    (hx : a.eval x = .pointer (some ad)) (hy : a.eval y = .int k n) (hi : P.info? ty = some info) (hs : info.size = 1) (hc : w.cell? ad = some old) (hf : w.frozen? ad = false) (h : wpAny P md ops Q fuel (listed.setIfInBounds i true) a (w.setCell ad (.int k n))) : wpAny P md ops Q (fuel + 1) listed a w := by
  refine ⟨fun h0 => by simp [hr] at h0, fun j hj => ?_⟩
  rw [hr] at hj
  obtain rfl : j = i := by simpa using hj
  unfold wpOp
  simp only [ho]
  rw [if_pos (by simp [Region.wanted, hg])]
  refine .inl ?_
  unfold Oper.wp
  have hrun : (execOp a.eval o).run P w = .ok .skip (w.setCell ad (.int k n)) := by simp [execOp, hop, hx, hy, run_storeAt_int hi hs hc hf]
  rw [hrun, Oper.upon_skip, hd]
  exact h
/-- wpAny_take with the operation's own parts told. -/
theorem wpAny_step {i : Nat} {oi : Oper} {v : Value} {d : Nat} {fuel : Nat} {listed : Array Bool} {a : Act} {w : World} (hi : ops[i]? = some oi) (hd : oi.dst = some d)
    (hs : Region.noSelect ops = true) (hf : Region.free md ops listed i = true) (hr : (Region.ready md ops listed).contains i = true)
    (hQ : ∀ c a w, Q (.panic c) (a.put (some d) v) w → Q (.panic c) a w) (hy : Yields P ops oi v a)
    (h : wpAny P md ops Q fuel (listed.setIfInBounds i true) (a.put (some d) v) w) : wpAny P md ops Q (fuel + 1) listed a w :=
  wpAny_take hi hs hf hr (hd ▸ hQ) hy (hd ▸ h)
theorem wpAny_step4 (hsel : Region.noSelect ops = true) {fuel : Nat} {w : World} {listed : Array Bool} {a : Act} (i1 i2 i3 i4 : Nat) (d1 d2 d3 d4 : Nat) {o1 o2 o3 o4 : Oper} (v1 v2 v3 v4 : Value)
    (hn : [i1, i2, i3, i4].Nodup) (hB : batchB md ops 4 listed [i1, i2, i3, i4] = true) (hap : apartB ops [i1, i2, i3, i4] = true)
    (h1 : ops[i1]? = some o1) (h2 : ops[i2]? = some o2) (h3 : ops[i3]? = some o3) (h4 : ops[i4]? = some o4)
    (e1 : o1.dst = some d1) (e2 : o2.dst = some d2) (e3 : o3.dst = some d3) (e4 : o4.dst = some d4)
    (y1 : At P ops o1 v1 a w) (y2 : At P ops o2 v2 a w) (y3 : At P ops o3 v3 a w) (y4 : At P ops o4 v4 a w)
    (h : wpAny P md ops Q fuel ((((listed.setIfInBounds i1 true).setIfInBounds i2 true).setIfInBounds i3 true).setIfInBounds i4 true) ((((a.put (some d1) v1).put (some d2) v2).put (some d3) v3).put (some d4) v4) w) :
    wpAny P md ops Q (fuel + 4) listed a w :=
  wpAny_batch4 hsel i1 i2 i3 i4 v1 v2 v3 v4 hn hB hap h1 h2 h3 h4 y1 y2 y3 y4 (by rw [e1, e2, e3, e4]; exact h)
end

end Go.Proofs.Ytpcppnoomogloaa

namespace Go.Proofs.Ytpcppnoomogloaa
set_option linter.unusedSimpArgs false
set_option linter.unusedVariables false
open Go.RowKit

theorem region_cut {P : Program} {c : Code} {Q : Exit → Act → World → Prop} {a : Act} {w : World} (R : Act → Act → World → Prop) (h1 : Code.wp P c (fun e a' w' => e = .normal ∧ R a a' w') a w) (h2 : ∀ a' w', R a a' w' → Q .normal a' w') : Code.wp P c Q a w :=
  Code.wp_mono (fun _ a' w' h => by rw [h.1]; exact h2 a' w' h.2) h1

theorem below_grown {w w' : World} (h : Below w.heap.size w w') : w.grownBy w' none := ⟨h.os, h.tape, h.output, h.size, fun k hk _ => h.block k hk⟩
theorem alloc_grown (w : World) (o : Obj) : w.grownBy (w.alloc o) none := World.grownBy_alloc w o none
theorem RdB.grown {w w' : World} {a : Option Addr} {n c : Nat} {bs : List Nat} {row : Option Nat} (h : RdB w a n c bs) (hg : w.grownBy w' row) (hne : ∀ x, a = some x → row ≠ some x.block) : RdB w' a n c bs := by
  obtain ⟨h0, h1, h2, h3, h4, h5, h6⟩ := h
  refine ⟨h0, h1, h2, h3, h4, h5, ?_⟩
  rcases h6 with h6 | ⟨b, off, rfl, hlt, hc⟩
  · exact .inl h6
  · exact .inr ⟨b, off, rfl, Nat.lt_of_lt_of_le hlt hg.size, fun i hi => hg.cell (hc i hi) (fun e => hne _ rfl e.symm)⟩
/-- What lay before a base is kept. -/
theorem grown_below {w w' : World} {row : Option Nat} {B : Nat} (hg : w.grownBy w' row) (hB : B ≤ w.heap.size) (hr : ∀ k, row = some k → B ≤ k) : Below B w w' := (Below.refl B w).grown hg hB hr
theorem Blk.belowB {w w' : World} {B b : Nat} {e : TypeId} {k : IntKind} {xs : List Nat} (h : Blk w b e k xs) (hb : Below B w w') (hlt : b < B) : Blk w' b e k xs := by
  unfold Blk
  rw [hb.block b hlt]
  exact h
theorem RdB.belowB {w w' : World} {B : Nat} {a : Option Addr} {n c : Nat} {bs : List Nat} (h : RdB w a n c bs) (hb : Below B w w') (hlt : ∀ x, a = some x → x.block < B) : RdB w' a n c bs := by
  obtain ⟨h0, h1, h2, h3, h4, h5, h6⟩ := h
  refine ⟨h0, h1, h2, h3, h4, h5, ?_⟩
  rcases h6 with h6 | ⟨b, off, rfl, hl, hc⟩
  · exact .inl h6
  · exact .inr ⟨b, off, rfl, Nat.lt_of_lt_of_le hl hb.size, fun i hi => (hb.cell (p := ⟨b, off + i, none⟩) (show b < B from hlt ⟨b, off, none⟩ rfl)).trans (hc i hi)⟩
theorem RdB.setN {w : World} {a : Option Addr} {n c : Nat} {bs : List Nat} (h : RdB w a n c bs) {B : Nat} (hne : ∀ x, a = some x → x.block ≠ B) (i : Nat) (u : Value) : RdB (w.setCell ⟨B, i, none⟩ u) a n c bs :=
  h.grown (gset (B := B) ⟨rfl, rfl, rfl, Nat.le_refl _, fun _ _ _ => rfl⟩ i u) (fun x hx e => hne x hx (Option.some.inj e).symm)
theorem RdB.drewN {w : World} {a : Option Addr} {n c : Nat} {bs : List Nat} (h : RdB w a n c bs) (m : Nat) : RdB (w.drewN m) a n c bs := h
theorem RdB.lt {w : World} {x : Addr} {n c : Nat} {bs : List Nat} (h : RdB w (some x) n c bs) (h0 : 0 < n) : x.block < w.heap.size := by
  obtain ⟨_, _, _, _, _, _, h6⟩ := h
  rcases h6 with h6 | ⟨b, off, he, hl, _⟩
  · omega
  · cases he; exact hl

/-- append(v, ys...): v owned, ys read: the operation alone; and where the new slice lies. -/
theorem wpo_append_at {o : Oper} {a : Act} {w : World} {K : Act → World → Prop} {Q : Exit → Act → World → Prop} (s x : Operand)
    (ho : o.op = .call { callee := .builtin .append, args := #[s, x], argTypes := #[25, 25] })
    (base : Nat) (v : Value) (xs : List Nat) (hs : a.eval s = v) (hown : Own w base v xs) (ad : Option Addr) (len cap : Nat) (ys : List Nat) (hx : a.eval x = .slice ad len cap) (hr : RdB w ad len cap ys)
    (hlen : xs.length + ys.length ≤ 1000000000) (hbase : base ≤ w.heap.size)
    (h : ∀ v' w', Own w' base v' (xs ++ ys) → w.grownBy w' v.ownBlock → (v'.ownBlock = v.ownBlock ∨ v'.ownBlock = some w.heap.size) → K (a.put o.dst v') w') :
    o.wp Try.prog a w K Q := by
  obtain ⟨i0, hi, hz0, hz1, hz2⟩ := info_parts infoB
  obtain ⟨hl, h1, h2, h3, h4, h5, h6⟩ := hr
  by_cases hnone : ad = none
  · subst hnone
    obtain rfl : cap = 0 := h5 rfl
    obtain rfl : len = 0 := by omega
    obtain rfl : ys = [] := List.eq_nil_of_length_eq_zero h1
    have hrun := run_append_owned_none (P := Try.prog) (w := w) base 25 o.type 5 i0 1 Try.underlying25 hi v xs.length (bv xs) hown.1
    unfold Oper.wp
    simp [execOp, ho, resolve, invoke, builtin, hs, hx, hrun, Result.andThen]
    exact h v w (by rw [List.append_nil]; exact hown) ⟨rfl, rfl, rfl, Nat.le_refl _, fun _ _ _ => rfl⟩ (.inl rfl)
  · obtain ⟨adr, rfl⟩ : ∃ adr, ad = some adr := by cases ad with
      | none => exact absurd rfl hnone
      | some x => exact ⟨x, rfl⟩
    have hnews : ∀ j u, (bv ys)[j]? = some u → w.cell? (adr.add j) = some u := by
      intro j u hj
      have hj' : j < ys.length := by
        have := (List.getElem?_eq_some_iff.1 hj).1
        rwa [bv_length] at this
      rcases h6 with h6 | ⟨b, off, hadr, hlt, hc⟩
      · omega
      · have hadr := Option.some.inj hadr
        subst hadr
        have e : (⟨b, off, none⟩ : Addr).add j = ⟨b, off + j, none⟩ := by
          unfold Addr.add
          by_cases h : j = 0
          · subst h; rfl
          · rw [if_neg h]
        rw [e, hc j (by omega)]
        have := bv_get ys j hj'
        rw [List.getElem?_toArray, hj] at this
        exact this.symm
    obtain ⟨v', w', hrun, r2, r3, _, r5⟩ := run_append_own_at (P := Try.prog) w base 25 o.type 5 i0 (.int .u8 0) 1 1 Try.underlying25 hi hz0 hz1 hz2 rfl (by decide) v xs.length (bv xs) hown.1 adr len cap (bv ys) (by rw [bv_length]; omega) hnews (bv_one ys) (by unfold maxLen; omega) (by omega) hbase
    unfold Oper.wp execOp
    simp only [ho, resolve, invoke, builtin, Sem.run_bind, Sem.run_pure, Result.andThen_ok, List.map_toArray, List.map_cons, List.map_nil, hs, hx, hrun]
    refine h v' w' ⟨?_, ?_⟩ r3 r5
    · rw [List.length_append, bv_append, h1]; exact r2
    · intro y hy
      rcases List.mem_append.1 hy with hy | hy
      · exact hown.2 y hy
      · exact h4 y hy
/-- make([]byte, 0, n). -/
theorem wpo_make0 {o : Oper} {a : Act} {w : World} {K : Act → World → Prop} {Q : Exit → Act → World → Prop} (l c : Operand) (hop : o.op = Op.makeSlice 25 l c) (n : Nat) (hl : a.eval l = .int .i64 0) (hc : a.eval c = .int .i64 (n : Int)) (hn : n ≤ 1000000000)
    (base : Nat) (hbase : base ≤ w.heap.size)
    (h : ∀ w', Own w' base (.slice (some ⟨w.heap.size, 0, none⟩) 0 n) [] → w.grownBy w' none → K (a.put o.dst (.slice (some ⟨w.heap.size, 0, none⟩) 0 n)) w') : o.wp Try.prog a w K Q := by
  obtain ⟨i0, hi, hz0, hz1, hz2⟩ := info_parts infoB
  obtain ⟨w', hrun, r1, r2⟩ := run_make_own (P := Try.prog) (w := w) base 25 5 i0 (.int .u8 0) 1 Try.underlying25 hi hz0 hz1 .i64 .i64 n (by rw [hz2]; omega) (by unfold maxLen; omega) hbase
  unfold Oper.wp
  simp [execOp, hop, hl, hc, hrun, Result.andThen]
  exact h w' ⟨r1, by simp⟩ r2
/-- A whole array into a variable: the operation alone. -/
theorem wpo_store_arr {P : Program} {o : Oper} {a : Act} {w : World} {K : Act → World → Prop} {Q : Exit → Act → World → Prop} (ty : TypeId) (x y : Operand) (ho : o.op = .store ty x y)
    (B : Nat) (hx : a.eval x = .pointer (some ⟨B, 0, none⟩)) {te : TypeId} {k : IntKind} {xs ys : List Nat} (hB : Blk w B te k xs) (hy : a.eval y = .agg (nv k ys).toArray) (hi : (P.info? ty).map (·.size) = some ys.length) (hs : xs.length = ys.length)
    (h : ∀ w', Blk w' B te k ys → w.grownBy w' (some B) → K (a.put o.dst undef) w') : o.wp P a w K Q := by
  have hrun := run_storeVar_row (P := P) w B te ty (nv k xs).toArray (nv k ys).toArray hB (by rw [hi]; simp [nv]) (by simp [nv, hs]) (nv_one k ys)
  have hrun2 : (Instr.storeAt ty (.pointer (some ⟨B, 0, none⟩)) (.agg (nv k ys).toArray)).run P w = .ok () (w.setRow B (nv k ys).toArray) := by
    simp only [Instr.storeAt, Instr.sureAddr, Sem.run_bind, Sem.run_pure, Result.andThen]
    exact hrun
  unfold Oper.wp
  simp [execOp, ho, hx, hy, hrun2, Result.andThen]
  refine h _ ?_ ?_
  · unfold Blk World.setRow
    simp only [Array.getElem?_modify, if_true]
    rw [show w.heap[B]? = _ from hB]
    rfl
  · refine ⟨rfl, rfl, rfl, by simp [World.setRow], fun j hj hne => ?_⟩
    unfold World.setRow
    simp only [Array.getElem?_modify]
    rw [if_neg (fun e => hne (by rw [e]))]
/-- min(x, y) of two ints, its value told. -/
theorem wp_min {P : Program} {ops : Array Oper} {rest : List Oper} {o : Oper} {a : Act} {w : World} {Q : Exit → Act → World → Prop} (hw : Region.wanted o (yielded ops a.tmps) = true) (x y : Operand) (ts : Array TypeId) (ho : o.op = .call { callee := .builtin .min, args := #[x, y], argTypes := ts })
    (p q r : Int) (hx : a.eval x = .int .i64 p) (hy : a.eval y = .int .i64 q) (hr : (if q < p then q else p) = r) (h : wpList P ops Q rest (a.put o.dst (.int .i64 r)) w) : wpList P ops Q (o :: rest) a w := by
  refine wpList_wanted hw ?_
  unfold Oper.wp execOp
  simp only [ho, resolve, invoke, builtin, Sem.run_bind, Sem.run_pure, Result.andThen_ok, List.map_toArray, List.map_cons, List.map_nil, hx, hy, run_min_int2, hr]
  exact h
/-! ### What is behind a place of a slice -/
def cutA (a : Option Addr) (cap k : Nat) : Option Addr := if cap = k then a else a.map (·.add (k * 1))
theorem run_slice_from {P : Program} {t e : TypeId} {info : TypeInfo} (ht : P.underlying t = some (.slice e)) (hi : P.info? e = some info) (hs : info.size = 1) (a : Option Addr) (n cap k : Nat) (hk : k ≤ n) (w : World) :
    (Instr.slice t (.slice a n cap) (some (.int .i64 (k : Int))) none none).run P w = .ok (.slice (cutA a cap k) (n - k) (cap - k)) w := by
  have hz : (sizeOf e).run P w = .ok 1 w := by simp [sizeOf, typeInfo, hi, hs]
  have h1 : (k : Int) ≤ (n : Int) := by omega
  simp [Instr.slice, run_underlying ht, Instr.sliceBounds, Instr.sliceBound, asIntOf, hz, h1, cutA]
  intro h; omega
theorem cutA_lt {a : Option Addr} {cap k B : Nat} (h : ∀ x, a = some x → x.block < B) : ∀ x, cutA a cap k = some x → x.block < B := by
  intro x hx
  unfold cutA at hx
  split at hx
  · exact h x hx
  · cases a with
    | none => cases hx
    | some y =>
      have := h y rfl
      simp only [Option.map_some, Option.some.injEq] at hx
      subst hx
      unfold Addr.add
      split <;> exact this
theorem RdB.cut {w : World} {a : Option Addr} {n cap : Nat} {bs : List Nat} (h : RdB w a n cap bs) (k : Nat) (hk : k ≤ n) : RdB w (cutA a cap k) (n - k) (cap - k) (bs.drop k) := by
  obtain ⟨h0, h1, h2, h3, h4, h5, h6⟩ := h
  refine ⟨by omega, by rw [List.length_drop, h1], by omega, by omega, fun x hx => h4 x (List.mem_of_mem_drop hx), ?_, ?_⟩
  · intro hn
    unfold cutA at hn
    split at hn
    · omega
    · have := h5 (by cases a with
        | none => rfl
        | some y => cases hn)
      omega
  · rcases h6 with h6 | ⟨b, off, rfl, hl, hc⟩
    · exact .inl (by omega)
    · by_cases hkn : k = n
      · exact .inl (by omega)
      · refine .inr ⟨b, off + k, ?_, hl, fun i hi => ?_⟩
        · unfold cutA
          rw [if_neg (by omega), Option.map_some, Nat.mul_one, Addr.add_off]
        · rw [Nat.add_assoc, hc (k + i) (by omega)]
          congr 3
          simp [List.getD_eq_getElem?_getD]
theorem yieldsSliceFrom {P : Program} {l : List Oper} {S : World → Prop} {o : Oper} {a : Act} {t e : TypeId} {info : TypeInfo} {x y : Operand} {ad : Option Addr} {n cap k : Nat} (hw : Region.wanted o (yielded l.toArray a.tmps) = true) (ho : o.op = .slice t x (some y) none none) (hx : a.eval x = .slice ad n cap) (hy : a.eval y = .int .i64 (k : Int))
    (ht : P.underlying t = some (.slice e)) (hi : P.info? e = some info) (hs : info.size = 1) (hk : k ≤ n) : YieldsIf P l.toArray S o (.slice (cutA ad cap k) (n - k) (cap - k)) a :=
  yieldsOf hw fun w => by simp [execOp, ho, hx, hy, Instr.sliceAt, run_underlying ht, run_slice_from ht hi hs ad n cap k hk w]
theorem wp_slice_from {P : Program} {ops : Array Oper} {rest : List Oper} {o : Oper} {a : Act} {w : World} {Q : Exit → Act → World → Prop} (hw : Region.wanted o (yielded ops a.tmps) = true) {t e : TypeId} {info : TypeInfo} (x y : Operand) {ad : Option Addr} {n cap k : Nat} (ho : o.op = .slice t x (some y) none none) (hx : a.eval x = .slice ad n cap) (hy : a.eval y = .int .i64 (k : Int))
    (ht : P.underlying t = some (.slice e)) (hi : P.info? e = some info) (hs : info.size = 1) (hk : k ≤ n) (h : wpList P ops Q rest (a.put o.dst (.slice (cutA ad cap k) (n - k) (cap - k))) w) : wpList P ops Q (o :: rest) a w := by
  refine wpList_wanted hw ?_
  unfold Oper.wp
  simp [execOp, ho, hx, hy, Instr.sliceAt, run_underlying ht, run_slice_from ht hi hs ad n cap k hk w, Result.andThen]
  exact h
/-- make([]byte, n): the operation alone. -/
theorem wpo_make {o : Oper} {a : Act} {w : World} {K : Act → World → Prop} {Q : Exit → Act → World → Prop} (l c : Operand) (hop : o.op = Op.makeSlice 25 l c) (kl kc : IntKind) (n : Nat) (hl : a.eval l = .int kl (n : Int)) (hc : a.eval c = .int kc (n : Int)) (hn : n ≤ 1000000000)
    (h : ∀ w', Own w' w.heap.size (.slice (some ⟨w.heap.size, 0, none⟩) n n) (List.replicate n 0) → Below w.heap.size w w' → K (a.put o.dst (.slice (some ⟨w.heap.size, 0, none⟩) n n)) w') : o.wp Try.prog a w K Q := by
  obtain ⟨i0, hi, hz0, hz1, hz2⟩ := info_parts infoB
  obtain ⟨w', hrun, r1, r2⟩ := run_make_full (P := Try.prog) (w := w) w.heap.size 25 5 i0 (.int .u8 0) 1 Try.underlying25 hi hz0 hz1 kl kc n (by rw [hz2]; omega) (by unfold maxLen; omega) (Nat.le_refl _)
  unfold Oper.wp
  simp [execOp, hop, hl, hc, hrun, Result.andThen]
  have e : (madeCells (Value.int .u8 0).cells (n * 1)).toList = bv (List.replicate n 0) := by
    rw [bv_zeros, Nat.mul_one]; exact toList_madeCells_one _ _
  exact h w' ⟨by rw [List.length_replicate, ← e]; exact r1, by intro x hx; have := List.eq_of_mem_replicate hx; omega⟩ ((Below.refl _ w).grown r2 (Nat.le_refl _) (by simp))
theorem rdb_cells {w : World} {adr : Addr} {n c : Nat} {bs : List Nat} (h : RdB w (some adr) n c bs) : ∀ j u, (bv bs)[j]? = some u → w.cell? (adr.add j) = some u := by
  obtain ⟨_, h1, _, _, _, _, h6⟩ := h
  intro j u hj
  have hj' : j < bs.length := by
    have := (List.getElem?_eq_some_iff.1 hj).1
    rwa [bv_length] at this
  rcases h6 with h6 | ⟨b, off, hadr, hlt, hc⟩
  · omega
  · have hadr := Option.some.inj hadr
    subst hadr
    have e : (⟨b, off, none⟩ : Addr).add j = ⟨b, off + j, none⟩ := by
      unfold Addr.add
      by_cases h : j = 0
      · subst h; rfl
      · rw [if_neg h]
    rw [e, hc j (by omega)]
    have := bv_get bs j hj'
    rw [List.getElem?_toArray, hj] at this
    exact this.symm
/-- append(x, y...): x is full: a new row is made. -/
theorem wpo_append_full {o : Oper} {a : Act} {w : World} {K : Act → World → Prop} {Q : Exit → Act → World → Prop} (s x : Operand)
    (ho : o.op = .call { callee := .builtin .append, args := #[s, x], argTypes := #[25, 25] })
    (a1 a2 : Addr) (n1 c1 n2 c2 : Nat) (xs ys : List Nat) (hs : a.eval s = .slice (some a1) n1 c1) (h1 : RdB w (some a1) n1 c1 xs) (hx : a.eval x = .slice (some a2) n2 c2) (h2 : RdB w (some a2) n2 c2 ys)
    (hfull : c1 < n1 + n2)
    (h : ∀ cp w', Own w' w.heap.size (.slice (some ⟨w.heap.size, 0, none⟩) (n1 + n2) cp) (xs ++ ys) → Below w.heap.size w w' → K (a.put o.dst (.slice (some ⟨w.heap.size, 0, none⟩) (n1 + n2) cp)) w') :
    o.wp Try.prog a w K Q := by
  obtain ⟨i0, hi, hz0, hz1, hz2⟩ := info_parts infoB
  have e1 := h1.2.1
  have e2 := h2.2.1
  have g1 := h1.1
  have g2 := h2.1
  have hrun := run_append_grow (P := Try.prog) w 25 o.type 5 i0 (.int .u8 0) Try.underlying25 hi hz0 a1 n1 c1 (bv xs) (by rw [bv_length, hz1]; omega) (rdb_cells h1) a2 n2 c2 (bv ys) (by rw [bv_length, hz1]; omega) (rdb_cells h2) hfull (by omega) (growslice_fits hfull (by rw [hz2]; omega))
  have hge := grownCap_ge w (n1 + n2) c1 5
  have hcm : grownCap w (n1 + n2) c1 5 ≤ maxLen := grownCap_le_maxLen w (n1 + n2) c1 5 (by unfold maxLen; omega)
  unfold Oper.wp execOp
  simp only [ho, resolve, invoke, builtin, Sem.run_bind, Sem.run_pure, Result.andThen_ok, List.map_toArray, List.map_cons, List.map_nil, hs, hx, hrun]
  refine h _ _ ⟨⟨by rw [bv_length, Nat.mul_one], .inr ⟨w.heap.size, _, _, by rw [List.length_append, e1, e2], Nat.le_refl _, heap_alloc_new w.drew _, ?_, hcm, ?_, ?_⟩⟩, ?_⟩ (xalloc (below_drewN (xrefl w) 1) _)
  · rw [List.length_append, e1, e2]; exact hge
  · simp only [Array.size_append, List.size_toArray, size_zeroCells, bv_length, e1, e2]
    have : (Value.int IntKind.u8 0).cells.size = 1 := rfl
    rw [this]
    omega
  · simp only [Array.toList_append, List.length_append, e1, e2]
    rw [bv_append]
    have hl : (bv xs ++ bv ys).length = (n1 + n2) * 1 := by rw [List.length_append, bv_length, bv_length, e1, e2, Nat.mul_one]
    rw [← hl]
    exact List.take_left
  · intro q hq
    rcases List.mem_append.1 hq with hq | hq
    · exact h1.2.2.2.2.1 q hq
    · exact h2.2.2.2.2.1 q hq
end Go.Proofs.Ytpcppnoomogloaa

namespace Go.Proofs.Ytpcppnoomogloaa
set_option linter.unusedSimpArgs false
set_option linter.unusedVariables false
open Go.RowKit

section
variable {P : Program} {ops : Array Oper} {C : World → Prop} {Q : Act → Prop} {o : Oper} {rest : List Oper} {a : Act} {v : Value}
theorem qI (h : YieldsIf P ops C o v a) (hk : wpQuiet P ops C Q rest (a.put o.dst v)) : wpQuiet P ops C Q (o :: rest) a := by
  unfold wpQuiet
  rcases h with ⟨hw, hy⟩ | ⟨hw, rfl⟩
  · rw [if_pos hw]
    exact ⟨v, fun w hC => by unfold Oper.quietAt; rw [hy w hC]; exact ⟨rfl, rfl⟩, hk⟩
  · rw [if_neg (by rw [hw]; decide)]
    exact hk
/-- An operation that yields v and leaves the world. -/
theorem qY (hw : Region.wanted o (yielded ops a.tmps) = true) (hy : ∀ w, C w → (execOp a.eval o).run P w = .ok (.value v) w) (hk : wpQuiet P ops C Q rest (a.put o.dst v)) : wpQuiet P ops C Q (o :: rest) a := qI (.inl ⟨hw, hy⟩) hk
/-- An operation that is not wanted. -/
theorem qS (hw : Region.wanted o (yielded ops a.tmps) = false) (hk : wpQuiet P ops C Q rest (a.put o.dst undef)) : wpQuiet P ops C Q (o :: rest) a := qI (.inr ⟨hw, rfl⟩) hk
/-- A call that hands back v and leaves a world of the class. -/
theorem qC {f : FuncId} {args : Array Value} (hw : Region.wanted o (yielded ops a.tmps) = true) (he : ∀ w, C w → (execOp a.eval o).run P w = .ok (.enter f args) w) (hc : ∀ w, C w → Calls P f args w fun e w' => e = .returned v ∧ C w')
    (hk : wpQuiet P ops C Q rest (a.put o.dst v)) : wpQuiet P ops C Q (o :: rest) a := by
  unfold wpQuiet
  rw [if_pos hw]
  exact ⟨v, fun w hC => by unfold Oper.quietAt; rw [he w hC]; exact ⟨rfl, hc w hC⟩, hk⟩
/-- The region, written out. -/
theorem wp_region_class {id : Nat} {Q : Exit → Act → World → Prop} {w : World} {l : List Oper} (C : World → Prop) (hm : P.follows .mixedOrders = true) (hB : Region.lexB .any l.toArray = true) (hC : C w.drew)
    (h : wpQuiet P l.toArray C (fun a' => ∀ w', C w' → Q .normal a' w') l a) : (Code.region id l.toArray true).wp P Q a w :=
  wp_region_quiet (C := C) hm hB hC (by simpa using h)
end

/-- At the list of a plain region's operations. -/
theorem wp_yields {P : Program} {ops : Array Oper} {Q : Exit → Act → World → Prop} {o : Oper} {rest : List Oper} {a : Act} {w : World} (v : Value) (hw : Region.wanted o (yielded ops a.tmps) = true) (hy : (execOp a.eval o).run P w = .ok (.value v) w) (hk : wpList P ops Q rest (a.put o.dst v) w) : wpList P ops Q (o :: rest) a w := by
  refine wpList_wanted hw ?_
  unfold Oper.wp
  rw [hy]
  exact hk
theorem wp_eql {P : Program} {ops : Array Oper} {Q : Exit → Act → World → Prop} {o : Oper} {rest : List Oper} {a : Act} {w : World} {t rt : TypeId} {x y : Operand} {xs ys : Array Value} {b : Bool} (hw : Region.wanted o (yielded ops a.tmps) = true) (ho : o.op = .binOp .eql t x y rt) (hx : a.eval x = .agg xs) (hy : a.eval y = .agg ys)
    (hg : P.eqGuardType P.depth t = false) (hrun : ∀ w, (binOp .eql t (.agg xs) (.agg ys)).run P w = .ok (.bool b) w) (hk : wpList P ops Q rest (a.put o.dst (.bool b)) w) : wpList P ops Q (o :: rest) a w :=
  wp_yields (.bool b) hw (by
    have h1 := run_eqGuard_agg (P := P) w .eql t x y xs ys hg
    simp [execOp, ho, hx, hy, h1, hrun]) hk

/-! ### Strings of bytes -/
def strB (bs : List Nat) : ByteArray := strOfNums (bs.map Int.ofNat)
theorem strB_data (bs : List Nat) : (strB bs).data.toList = bs.map UInt8.ofNat := by
  unfold strB
  rw [strOfNums_data, List.map_map]
  rfl
theorem strB_size (bs : List Nat) : (strB bs).size = bs.length := by unfold strB; rw [strOfNums_size, List.length_map]
theorem strB_list (bs : List Nat) : (strB bs).toList = bs.map UInt8.ofNat := by rw [ByteArray.toList_eq, strB_data]
theorem u8_inj {a b : List Nat} (ha : ∀ x ∈ a, x < 256) (hb : ∀ x ∈ b, x < 256) (h : a.map UInt8.ofNat = b.map UInt8.ofNat) : a = b := by
  have h1 := congrArg (fun s => s.map UInt8.toNat) h
  simp only [List.map_map] at h1
  have e : ∀ l : List Nat, (∀ x ∈ l, x < 256) → l.map (UInt8.toNat ∘ UInt8.ofNat) = l := by
    intro l hl
    conv => rhs; rw [← List.map_id l]
    refine List.map_congr_left fun x hx => ?_
    have := hl x hx
    simp only [Function.comp, UInt8.toNat_ofNat', id]
    exact Nat.mod_eq_of_lt this
  rwa [e a ha, e b hb] at h1
theorem strB_beq {a b : List Nat} (ha : ∀ x ∈ a, x < 256) (hb : ∀ x ∈ b, x < 256) : ((strB a).toList == (strB b).toList) = decide (a = b) := by
  rw [Bool.eq_iff_iff, beq_iff_eq, decide_eq_true_eq, strB_list, strB_list]
  exact ⟨u8_inj ha hb, fun h => by rw [h]⟩
theorem strB_nil : strB [] = ByteArray.empty := rfl
theorem run_str {P : Program} {w : World} {src e dst : TypeId} {a : Option Addr} {n c : Nat} {bs : List Nat} (hs : P.underlying src = some (.slice e)) (he : P.underlying e = some (.int .u8)) (hd : P.underlying dst = some .string) (h : Row8 w a n c bs) :
    (convert src dst (.slice a n c)).run P w = .ok (.string (strB bs)) w := by
  obtain ⟨h1, h2, h3, h4, h5, h6⟩ := h
  cases a with
  | none =>
    have := h5 rfl
    obtain rfl : bs = [] := List.eq_nil_of_length_eq_zero (by omega)
    rw [run_convert_bytes_nil w src e hs he n c dst hd, strB_nil]
  | some ad =>
    rcases h6 with h6 | ⟨b, off, hadr, hlt, hc⟩
    · obtain rfl : bs = [] := List.eq_nil_of_length_eq_zero (by omega)
      subst h6
      obtain ⟨b, off, sp⟩ := ad
      rw [run_convert_bytes_string w src dst e _ 0 c hs he hd, run_bytesToString w _ 0 c [] (by simp [loadCells, loadCellsFrom]), strB_nil]
      rfl
    · cases hadr
      exact run_convert_bytes_arg w src e hs he b off n c (bs.map Int.ofNat) (by rw [List.length_map, h1]) (fun i hi => by
        rw [hc i hi]
        simp [List.getD_eq_getElem?_getD, List.getElem?_eq_getElem (show i < bs.length by omega)]) dst hd
/-- string(b) in a region whose class tells b's bytes. -/
theorem yieldsStr {P : Program} {ops : Array Oper} {C : World → Prop} {o : Oper} {a : Act} {src e dst : TypeId} {x : Operand} {ad : Option Addr} {n c : Nat} {bs : List Nat} (hw : Region.wanted o (yielded ops a.tmps) = true) (ho : o.op = .convert src dst x) (hx : a.eval x = .slice ad n c)
    (hs : P.underlying src = some (.slice e)) (he : P.underlying e = some (.int .u8)) (hd : P.underlying dst = some .string) (hr : ∀ w, C w → Row8 w ad n c bs) : YieldsIf P ops C o (.string (strB bs)) a :=
  .inl ⟨hw, fun w hC => by simp [execOp, ho, hx, run_str hs he hd (hr w hC)]⟩
/-- Two strings held against each other. -/
theorem yieldsEqS {P : Program} {ops : Array Oper} {C : World → Prop} {o : Oper} {a : Act} {t rt : TypeId} {x y : Operand} {s u : ByteArray} {b : Bool} (hw : Region.wanted o (yielded ops a.tmps) = true) (ho : o.op = .binOp .eql t x y rt) (hx : a.eval x = .string s) (hy : a.eval y = .string u) (hb : (s.toList == u.toList) = b) : YieldsIf P ops C o (.bool b) a :=
  .inl ⟨hw, fun w _ => by
    have h1 : eqGuard .eql t x y (.string s) (.string u) = pure () := rfl
    simp only [execOp, ho, hx, hy, h1, binOp_string_eql, hb, Sem.run_bind, Sem.run_pure, Sem.run_map, Result.andThen_ok]⟩
end Go.Proofs.Ytpcppnoomogloaa

namespace Go.Proofs.Ytpcppnoomogloaa
set_option linter.unusedSimpArgs false
set_option linter.unusedVariables false
open Go.RowKit

/-- Blocks (number, type, kind, what they hold) and slices of bytes (address, length, capacity, bytes) as they lie in W; what lay in w is as it was. -/
structure LW (w : World) (l : List (Nat × TypeId × IntKind × List Nat)) (r : List (Option Addr × Nat × Nat × List Nat)) (W : World) : Prop where
  has : ∀ e ∈ l, Blk W e.1 e.2.1 e.2.2.1 e.2.2.2
  rds : ∀ e ∈ r, RdB W e.1 e.2.1 e.2.2.1 e.2.2.2
  bel : Below w.heap.size w W
section
variable {w W W' : World} {l : List (Nat × TypeId × IntKind × List Nat)} {r : List (Option Addr × Nat × Nat × List Nat)}
theorem LW.nil (hb : Below w.heap.size w W) : LW w [] [] W := ⟨by simp, by simp, hb⟩
theorem LW.blk (h : LW w l r W) (i : Nat) {B : Nat} {t : TypeId} {k : IntKind} {xs : List Nat} (hi : l[i]? = some (B, t, k, xs)) : Blk W B t k xs := h.has _ (List.mem_of_getElem? hi)
theorem LW.rd (h : LW w l r W) (i : Nat) {a : Option Addr} {n c : Nat} {bs : List Nat} (hi : r[i]? = some (a, n, c, bs)) : RdB W a n c bs := h.rds _ (List.mem_of_getElem? hi)
theorem LW.below (h : LW w l r W) (hb : Below W.heap.size W W') : LW w l r W' := ⟨fun e he => (h.has e he).below hb, fun e he => (h.rds e he).below hb, xtrans h.bel hb⟩
theorem LW.alloc (h : LW w l r W) (o : Obj) : LW w l r (W.alloc o) := h.below (xnew _ _)
theorem LW.drewN (h : LW w l r W) (n : Nat) : LW w l r (W.drewN n) := ⟨fun e he => (h.has e he).drewN n, fun e he => (h.rds e he).drewN n, below_drewN h.bel n⟩
theorem LW.drew (h : LW w l r W) : LW w l r W.drew := h.drewN 1
theorem LW.addB (h : LW w l r W) {B : Nat} {t : TypeId} {k : IntKind} {xs : List Nat} (hB : Blk W B t k xs) : LW w ((B, t, k, xs) :: l) r W :=
  ⟨fun e he => (List.mem_cons.1 he).elim (fun q => by subst q; exact hB) (fun q => h.has e q), h.rds, h.bel⟩
theorem LW.addR (h : LW w l r W) {a : Option Addr} {n c : Nat} {bs : List Nat} (hr : RdB W a n c bs) : LW w l ((a, n, c, bs) :: r) W :=
  ⟨h.has, fun e he => (List.mem_cons.1 he).elim (fun q => by subst q; exact hr) (fun q => h.rds e q), h.bel⟩
theorem rdb_setM {w : World} {a : Option Addr} {n c : Nat} {bs : List Nat} (h : RdB w a n c bs) {B : Nat} (hne : ∀ x, a = some x → 0 < n → x.block ≠ B) (i : Nat) (u : Value) : RdB (w.setCell ⟨B, i, none⟩ u) a n c bs := by
  rcases Nat.eq_zero_or_pos n with rfl | hn
  · exact ⟨h.1, h.2.1, h.2.2.1, h.2.2.2.1, h.2.2.2.2.1, h.2.2.2.2.2.1, .inl rfl⟩
  · exact h.setN (fun x hx => hne x hx hn) i u
theorem rdb_grownM {w w' : World} {a : Option Addr} {n c : Nat} {bs : List Nat} {row : Option Nat} (h : RdB w a n c bs) (hg : w.grownBy w' row) (hne : ∀ x, a = some x → 0 < n → row ≠ some x.block) : RdB w' a n c bs := by
  rcases Nat.eq_zero_or_pos n with rfl | hn
  · exact ⟨h.1, h.2.1, h.2.2.1, h.2.2.2.1, h.2.2.2.2.1, h.2.2.2.2.2.1, .inl rfl⟩
  · exact h.grown hg (fun x hx => hne x hx hn)
/-- A store into a block of the call's own that is not among these. -/
theorem LW.set (h : LW w l r W) {Z : Nat} (hZ : w.heap.size ≤ Z) (hl : ∀ e ∈ l, e.1 ≠ Z) (hr : ∀ e ∈ r, ∀ x, e.1 = some x → 0 < e.2.1 → x.block ≠ Z) (i : Nat) (u : Value) : LW w l r (W.setCell ⟨Z, i, none⟩ u) :=
  ⟨fun e he => (h.has e he).other _ _ (hl e he), fun e he => rdb_setM (h.rds e he) (hr e he) i u, xset h.bel hZ u⟩
/-- A step that writes one such block. -/
theorem LW.grown (h : LW w l r W) {Z : Nat} (hg : W.grownBy W' (some Z)) (hZ : w.heap.size ≤ Z) (hl : ∀ e ∈ l, e.1 ≠ Z) (hr : ∀ e ∈ r, ∀ x, e.1 = some x → 0 < e.2.1 → x.block ≠ Z) : LW w l r W' :=
  ⟨fun e he => (h.has e he).grown hg (ne_some (hl e he)), fun e he => rdb_grownM (h.rds e he) hg (fun x hx h0 e => hr _ he x hx h0 (Option.some.inj e).symm), gbelow h.bel hg hZ⟩
/-- The first block is written. -/
theorem LW.set1 {B : Nat} {t : TypeId} {k : IntKind} {xs : List Nat} (h : LW w ((B, t, k, xs) :: l) r W) (hZ : w.heap.size ≤ B) (hl : ∀ e ∈ l, e.1 ≠ B) (hr : ∀ e ∈ r, ∀ x, e.1 = some x → 0 < e.2.1 → x.block ≠ B) (i v : Nat) :
    LW w ((B, t, k, xs.set i v) :: l) r (W.setCell ⟨B, i, none⟩ (.int k ((v : Nat) : Int))) :=
  LW.addB (LW.set ⟨fun e he => h.has e (List.mem_cons_of_mem _ he), h.rds, h.bel⟩ hZ hl hr i _) ((h.has _ List.mem_cons_self).set i v)
theorem LW.lt (h : LW w l r W) : ∀ e ∈ l, e.1 < W.heap.size := fun e he => (h.has e he).lt
/-- A new block. -/
theorem LW.new (h : LW w l r W) (t : TypeId) (k : IntKind) (xs : List Nat) : LW w ((W.heap.size, t, k, xs) :: l) r (W.alloc (.cells (nv k xs).toArray t)) := (h.alloc _).addB (Blk.new W t k xs _ rfl)
end
theorem wrap_nat (n : Nat) (h : n < 9223372036854775808) : IntKind.i64.wrap (n : Int) = (n : Int) := by rw [IntKind.wrap_i64]; omega
theorem wrap_nat2 (m k n : Nat) (e : n = m + k) (h : n < 9223372036854775808) : IntKind.i64.wrap ((m : Int) + (k : Int)) = (n : Int) := by subst e; rw [IntKind.wrap_i64]; omega
theorem wrap_16 (i n : Nat) (e : n = 16 + i) (h : n < 9223372036854775808) : IntKind.i64.wrap (16 + (i : Int)) = (n : Int) := by subst e; rw [IntKind.wrap_i64]; omega
theorem mod_neF (m n : Nat) (h : m % 256 = n % 256) : ((m : Int) % 256 != (n : Int) % 256) = false := by
  have : (m : Int) % 256 = (n : Int) % 256 := by omega
  rw [this]; simp
/-- A block that is no row of bytes is not what a slice owns. -/
theorem own_ne {W : World} {base B : Nat} {v : Value} {xs : List Nat} {o : Obj} (h : Own W base v xs) (hB : W.heap[B]? = some o) (ho : ∀ cs fr, o ≠ .cells cs 5 fr) : some B ≠ v.ownBlock := by
  rcases h.1.2 with ⟨rfl, _⟩ | ⟨g, cap, cur, rfl, _, hgb, _⟩
  · simp [Value.ownBlock]
  · intro e'
    obtain rfl : B = g := by simpa [Value.ownBlock] using e'
    rw [hB] at hgb
    cases hgb
    exact ho _ _ rfl
theorem cells_ne {cs : Array Value} {t : TypeId} {fr : Nat × Nat} (h : t ≠ 5) : ∀ cs' fr', Obj.cells cs t fr ≠ .cells cs' 5 fr' := fun _ _ e => by cases e; exact h rfl
theorem own_lt {W : World} {base : Nat} {v : Value} {xs : List Nat} (h : Own W base v xs) : ∀ g, v.ownBlock = some g → base ≤ g ∧ g < W.heap.size := h.block

/-- An append to what the call owns leaves blocks of other types and slices from outside. -/
theorem LW.grownOwn {w W W' : World} {l : List (Nat × TypeId × IntKind × List Nat)} {r : List (Option Addr × Nat × Nat × List Nat)} {v : Value} {xs : List Nat} (h : LW w l r W) (hO : Own W w.heap.size v xs) (hg : W.grownBy W' v.ownBlock) (hl : ∀ e ∈ l, e.2.1 ≠ 5) (hr : ∀ e ∈ r, ∀ x, e.1 = some x → 0 < e.2.1 → x.block < w.heap.size) : LW w l r W' := by
  have hlow : ∀ g, v.ownBlock = some g → w.heap.size ≤ g := fun g hg => (own_lt hO g hg).1
  exact ⟨fun e he => (h.has e he).grown hg (own_ne hO (h.has e he) (cells_ne (hl e he))), fun e he => rdb_grownM (h.rds e he) hg (fun x hx h0 q => by have := hr e he x hx h0; have := hlow _ q; omega), h.bel.grown hg h.bel.size hlow⟩
/-- string(b): the operation alone. -/
theorem wpo_str {P : Program} {o : Oper} {a : Act} {w : World} {K : Act → World → Prop} {Q : Exit → Act → World → Prop} {src dst e : TypeId} {x : Operand} {ad : Option Addr} {n c : Nat} {bs : List Nat} (ho : o.op = .convert src dst x) (hx : a.eval x = .slice ad n c)
    (hs : P.underlying src = some (.slice e)) (he : P.underlying e = some (.int .u8)) (hd : P.underlying dst = some .string) (hr : Row8 w ad n c bs) (h : K (a.put o.dst (.string (strB bs))) w) : o.wp P a w K Q := by
  unfold Oper.wp execOp
  simp only [ho, hx, Sem.run_bind, run_str hs he hd hr, Result.andThen_ok]
  exact h
/-- A call of a Go function: the operation alone. -/
theorem wpo_call {P : Program} {o : Oper} {a : Act} {w : World} {K : Act → World → Prop} {Q : Exit → Act → World → Prop} {f : FuncId} {args : Array Value} {R : Ending → World → Prop} (he : (execOp a.eval o).run P w = .ok (.enter f args) w) (hc : Calls P f args w R)
    (h : ∀ e w', R e w' → ∃ v, e = .returned v ∧ K (a.put o.dst v) w') : o.wp P a w K Q := by
  unfold Oper.wp
  rw [he]
  exact hc.mono fun e w' hr => by
    obtain ⟨v, rfl, hk⟩ := h e w' hr
    exact hk
theorem rdb_take {w : World} {a : Option Addr} {n c : Nat} {bs : List Nat} (h : RdB w a n c bs) (k : Nat) (hk : k ≤ n) : RdB w a k c (bs.take k) := by
  obtain ⟨h0, h1, h2, h3, h4, h5, h6⟩ := h
  refine ⟨by omega, by rw [List.length_take, h1]; omega, by omega, h3, fun x hx => h4 x (List.mem_of_mem_take hx), h5, ?_⟩
  rcases h6 with h6 | ⟨b, off, ha, hl, hc⟩
  · exact .inl (by omega)
  · refine .inr ⟨b, off, ha, hl, fun i hi => ?_⟩
    rw [hc i (by omega)]
    congr 3
    simp [List.getD_eq_getElem?_getD, hi]
theorem rdb_low {w : World} {a : Option Addr} {n c : Nat} {bs : List Nat} (h : RdB w a n c bs) : ∀ x, a = some x → 0 < n → x.block < w.heap.size := fun x hx h0 => by subst hx; exact h.lt h0
theorem own_low {w : World} {base n c : Nat} {a : Option Addr} {bs : List Nat} (h : Own w base (.slice a n c) bs) : ∀ x, a = some x → base ≤ x.block ∧ x.block < w.heap.size := fun x hx => h.block x.block (by subst hx; rfl)
/-- A step that writes what is owned from a base on leaves what is of other types or lies elsewhere. -/
theorem LW.grownRow {w W W' : World} {l : List (Nat × TypeId × IntKind × List Nat)} {r : List (Option Addr × Nat × Nat × List Nat)} {base : Nat} {v : Value} {xs : List Nat} (h : LW w l r W) (hO : Own W base v xs) (hb : w.heap.size ≤ base) (hg : W.grownBy W' v.ownBlock) (hl : ∀ e ∈ l, e.2.1 ≠ 5)
    (hr : ∀ e ∈ r, ∀ x, e.1 = some x → 0 < e.2.1 → v.ownBlock ≠ some x.block) : LW w l r W' :=
  ⟨fun e he => (h.has e he).grown hg (own_ne hO (h.has e he) (cells_ne (hl e he))), fun e he => rdb_grownM (h.rds e he) hg (hr e he), h.bel.grown hg h.bel.size (fun g q => Nat.le_trans hb (hO.block g q).1)⟩
end Go.Proofs.Ytpcppnoomogloaa

namespace Go.Proofs.Ytpcppnoomogloaa
set_option linter.unusedSimpArgs false
set_option linter.unusedVariables false
open Go.RowKit Go.Shelf

def NoDefer (o : Oper) : Bool := match o.op with | .defer _ => false | _ => true
theorem NoDefer.spec {o : Oper} (h : NoDefer o = true) : ∀ c, o.op ≠ .defer c := by
  intro c hc
  unfold NoDefer at h
  rw [hc] at h
  cases h
section
variable {n l : Nat} {P : Program} {ops : Array Oper} {Q : Exit → Act → World → Prop} {o : Oper} {rest : List Oper} {a : Act} {w : World} {K : Act → World → Prop}
theorem callsIn_round {f : FuncId} {args : Array Value} {R : Ending → World → Prop} (h : Calls P f args w R) : CallsIn (Fence.wide.inRound l) n P f args w R := CallsIn.inRound l (callsIn_wide.2 h)
theorem rowsIn_wide {row : String} {args : Array Value} {R : Value → World → Prop} (h : Rows P row args w R) : RowsIn (Fence.wide.inRound l) n P row args w R := fun c cs _ =>
  let ⟨v, w', r, s⟩ := h c cs
  ⟨v, w', r, stepsIn_wide.2 s⟩
/-- An operation of a round. -/
theorem operIn_of (hd : NoDefer o = true) (h : o.wp P a w K Q) : o.wpIn (Fence.wide.inRound l) n P a w K Q := by
  refine ⟨fun f _ => trivial, ?_⟩
  rw [Oper.semAt_plain (Fence.wide.inRound l) _ _ (NoDefer.spec hd)]
  unfold Oper.wp at h
  generalize (execOp a.eval o).run P w = r at h ⊢
  cases r with
  | ok x w' =>
    cases x <;> simp only [Oper.upon] at h <;> simp only [Oper.uponIn]
    case value v => exact h
    case skip => exact h
    case defer d => exact h
    case enter f args => exact ⟨(fun hh => by cases hh), callsIn_round h⟩
    case row row args => exact ⟨(fun hh => by cases hh), rowsIn_wide h⟩
  | halt x w' => cases x <;> simp only [Oper.upon] at h <;> simp only [Oper.uponIn] <;> exact h
theorem listIn_of (hg : o.guard = none) (hd : NoDefer o = true) (h : ∀ K : Act → World → Prop, (∀ a w, wpListIn (Fence.wide.inRound l) n P ops Q rest a w → K a w) → o.wp P a w K Q) : wpListIn (Fence.wide.inRound l) n P ops Q (o :: rest) a w :=
  wpListIn_plain hg fun K hK => operIn_of hd (h K hK)
/-- The same at the wide fence itself. -/
theorem operW_of (hd : NoDefer o = true) (h : o.wp P a w K Q) : o.wpIn Fence.wide n P a w K Q := by
  refine ⟨fun f _ => trivial, ?_⟩
  rw [Oper.semAt_plain Fence.wide _ _ (NoDefer.spec hd)]
  unfold Oper.wp at h
  generalize (execOp a.eval o).run P w = r at h ⊢
  cases r with
  | ok x w' =>
    cases x <;> simp only [Oper.upon] at h <;> simp only [Oper.uponIn]
    case value v => exact h
    case skip => exact h
    case defer d => exact h
    case enter f args => exact ⟨(fun hh => by cases hh), callsIn_wide.2 h⟩
    case row row args => exact ⟨(fun hh => by cases hh), fun c cs _ => let ⟨v, w', r, s⟩ := h c cs; ⟨v, w', r, stepsIn_wide.2 s⟩⟩
  | halt x w' => cases x <;> simp only [Oper.upon] at h <;> simp only [Oper.uponIn] <;> exact h
theorem listW_of (hg : o.guard = none) (hd : NoDefer o = true) (h : ∀ K : Act → World → Prop, (∀ a w, wpListIn Fence.wide n P ops Q rest a w → K a w) → o.wp P a w K Q) : wpListIn Fence.wide n P ops Q (o :: rest) a w :=
  wpListIn_plain hg fun K hK => operW_of hd (h K hK)
theorem opsIn_of (hd : ∀ o ∈ ops, NoDefer o = true) (hQ : ¬ LetsOut Q) : ∀ (is : List Nat) (a : Act) (w : World), wpOps P ops Q is a w → wpOpsIn (Fence.wide.inRound l) n P ops Q is a w
  | [], _, _, h => h
  | i :: is, a, w, h => by
    simp only [wpOps] at h
    simp only [wpOpsIn]
    cases ho : ops[i]? with
    | none => simp only [ho] at h ⊢; exact opsIn_of hd hQ is a w h
    | some o =>
      simp only [ho] at h ⊢
      by_cases hw : Region.wanted o (yielded ops a.tmps) = true
      · simp only [hw, if_true] at h ⊢
        rcases h with h | ⟨_, h⟩
        · exact operIn_of (hd o (Array.mem_of_getElem? ho)) (Oper.wp_mono (fun a w h => opsIn_of hd hQ is a w h) h)
        · exact absurd h hQ
      · simp only [hw, if_false, Bool.false_eq_true] at h ⊢
        exact ⟨fun f _ => trivial, opsIn_of hd hQ is _ w h⟩
/-- A region of a round that draws its order. -/
theorem regionIn_held {id : Nat} {S : World → Prop} {ls : List Oper} (hm : P.follows .mixedOrders = true) (hd : ls.all NoDefer = true) (hQ : ¬ LetsOut Q) (hS : S w.drew) (h : S w.drew → wpAnyH P .any ls.toArray Q S ls.length (Array.replicate ls.length false) a w.drew) :
    (Code.region id ls.toArray true).wpIn (Fence.wide.inRound l) n P Q a w :=
  wpIn_region_draw fun t => opsIn_of (by intro o ho; rw [List.all_eq_true] at hd; exact hd o (by simpa using ho)) hQ _ _ _ (by
    simp only [Region.schedule, hm, Bool.true_or, if_true]
    exact wpAny_sound _ t _ a _ (wpAny_of_held _ _ _ _ (by simpa using h hS)))
end

/-! ### Operations alone -/
section
variable {P : Program} {Q : Exit → Act → World → Prop} {o : Oper} {a : Act} {w : World} {K : Act → World → Prop}
theorem wpo_load_arr (ty : TypeId) (x : Operand) (ho : o.op = .load ty x) (B : Nat) (hx : a.eval x = .pointer (some ⟨B, 0, none⟩)) {te : TypeId} {k : IntKind} {xs : List Nat} (hB : Blk w B te k xs) (n : Nat) (el : TypeId) (hu : P.underlying ty = some (.array n el)) (hi : (P.info? ty).map (·.size) = some xs.length)
    (h : K (a.put o.dst (.agg (nv k xs).toArray)) w) : o.wp P a w K Q :=
  wp_load_row ty x ho B hx te (nv k xs).toArray (0, 0) _ hB hu rfl (by rw [hi]; simp [nv]) h
theorem wpo_yields (v : Value) (hy : (execOp a.eval o).run P w = .ok (.value v) w) (h : K (a.put o.dst v) w) : o.wp P a w K Q := by
  unfold Oper.wp
  rw [hy]
  exact h
theorem wpo_min (x y : Operand) (ts : Array TypeId) (ho : o.op = .call { callee := .builtin .min, args := #[x, y], argTypes := ts })
    (p q r : Int) (hx : a.eval x = .int .i64 p) (hy : a.eval y = .int .i64 q) (hr : (if q < p then q else p) = r) (h : K (a.put o.dst (.int .i64 r)) w) : o.wp P a w K Q := by
  unfold Oper.wp execOp
  simp only [ho, resolve, invoke, builtin, Sem.run_bind, Sem.run_pure, Result.andThen_ok, List.map_toArray, List.map_cons, List.map_nil, hx, hy, run_min_int2, hr]
  exact h
end

/-! ### A range over a function that is left by a break -/
/-- What is asked of a round's body: it runs off its end, or leaves the loop by exit id. -/
def endPost (L : Nat) (rec : LoopState → Option Code → Loop) (R : Ending → World → Prop) : Exit → Act → World → Prop
  | .normal, _, w' => w'.heap[L]? = some (.loop (rec .busy none)) ∧ R (.returned (.bool true)) (w'.putObj L (.loop (rec .ready none)))
  | .exit id, _, w' => w'.heap[L]? = some (.loop (rec .busy none)) ∧ R (.returned (.bool false)) (w'.putObj L (.loop (rec .done (some (.exit id)))))
  | _, _, _ => False
theorem range_law {P : Program} {n m : Nat} {g : Operand} {p : Tmp} {assign body : Code} {Q : Exit → Act → World → Prop} {a : Act} {w : World} {gf : Nat} {lb : Array Value} (hg : a.eval g = .func (.func gf) #[] lb) (eg : ∀ args w, (callFunc gf args).run P w = .ok (.enter gf args) w)
    (h : ∀ rec : LoopState → Option Code → Loop,
      (∀ (W : World) (x : Value) (R : Ending → World → Prop), W.heap[w.heap.size + 1]? = some (.loop (rec .ready none)) →
        assign.wpIn (Fence.wide.inRound (w.heap.size + 1)) m P (Exit.then (fun a₁ w₁ => w₁.heap[w.heap.size + 1]? = some (.loop (rec .ready none)) ∧ body.wpIn (Fence.wide.inRound (w.heap.size + 1)) m P (endPost (w.heap.size + 1) rec R) a₁ (w₁.putObj (w.heap.size + 1) (.loop (rec .busy none)))) (fun _ _ _ => False)) { tmps := a.tmps.setIfInBounds p x, defers := [] } W →
        YieldAt Fence.wide m P (w.heap.size + 1) #[x] W R) →
      (∀ (W : World) (v : Value) (c : Code), W.heap[w.heap.size + 1]? = some (.loop (rec .done (some c))) → c.wpIn Fence.wide n P Q { a with defers := { target := .collected w.heap.size, args := #[] } :: a.defers } (W.putObj (w.heap.size + 1) (.loop (rec .exhausted (some c)))) →
        rangePost Fence.wide n P (w.heap.size + 1) Q { a with defers := { target := .collected w.heap.size, args := #[] } :: a.defers } (.returned v) W) →
      CallsIn Fence.wide (n - 1) P gf (#[.func (.yield (w.heap.size + 1)) #[] #[]] ++ lb) ((w.alloc (.deferred (some []))).alloc (.loop (rec .ready none))) (rangePost Fence.wide n P (w.heap.size + 1) Q { a with defers := { target := .collected w.heap.size, args := #[] } :: a.defers })) :
    (Code.rangeFunc g #[p] assign body).wpIn Fence.wide n P Q a w := by
  refine wpIn_rangeFunc ?_
  intro fn _
  obtain ⟨rec, hrec⟩ : ∃ rec : LoopState → Option Code → Loop, rec = fun st pe => { state := st, pending := pe, fn, tmps := a.tmps, params := #[p], assign, body, defers := w.heap.size } := ⟨_, rfl⟩
  obtain ⟨W1, hW1⟩ : ∃ W1, (w.alloc (.deferred (some []))).alloc (.loop (rec .ready none)) = W1 := ⟨_, rfl⟩
  refine ⟨w.heap.size + 1, [{ target := .collected w.heap.size, args := #[] }], W1, { target := .fn (.func gf) lb, args := #[.func (.yield (w.heap.size + 1)) #[] #[]] }, W1, gf, #[.func (.yield (w.heap.size + 1)) #[] #[]] ++ lb, W1, ?_, ?_, fun _ _ => trivial, ?_, (fun hh => by cases hh), ?_⟩
  · rw [← hW1, hrec]; exact run_enterLoop_outer _ _ _ _ _
  · simp only [resolve, hg]
    simp [go_sem]
  · simp [invoke, go_sem, eg]
  · rw [← hW1]
    refine h rec ?_ ?_
    · intro W x R hL hA
      have hy := run_yield (P := P) (args := #[x]) hL (by rw [hrec]; rfl)
      rw [hrec] at hy
      refine ⟨fn, _, assign, body, hy, roundIn_of_wpIn trivial ?_⟩
      refine wpIn_mono (by simpa using hA) ?_
      intro e a1 w1 he
      cases e with
      | normal =>
        obtain ⟨hl1, hb1⟩ := he
        refine ⟨_, run_beginRound hl1 (by rw [hrec]), ?_⟩
        have hbz : ({ rec .ready none with state := .busy } : Loop) = rec .busy none := by rw [hrec]
        rw [hbz]
        refine wpIn_mono hb1 ?_
        intro e2 a2 w2 h2
        cases e2 with
        | normal =>
          have hr := run_endRound (P := P) none h2.1
          refine ⟨_, _, hr, ?_⟩
          have := h2.2
          rw [hrec] at this ⊢
          exact this
        | exit id =>
          have hr := run_endRound (P := P) (some (.exit id)) h2.1
          refine ⟨_, _, hr, ?_⟩
          have := h2.2
          rw [hrec] at this ⊢
          exact this
        | ret => exact h2.elim
        | goto t => exact h2.elim
        | panic c => exact h2.elim
        | outgrown => exact h2.elim
      | exit id => exact he.elim
      | ret => exact he.elim
      | goto t => exact he.elim
      | panic c => exact he.elim
      | outgrown => exact he.elim
    · intro W v c hL hc
      have hE := run_endLoop (P := P) hL (by rw [hrec]; simp)
      refine ⟨some c, _, ?_, hc⟩
      rw [hrec] at hE ⊢
      exact hE
end Go.Proofs.Ytpcppnoomogloaa
