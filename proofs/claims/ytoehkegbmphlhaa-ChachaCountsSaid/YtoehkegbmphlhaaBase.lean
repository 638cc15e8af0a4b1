/- Small facts that all walks of this seat share: bits of numbers, slices of bytes that are read. -/
import Derived.Test.YtoehkegbmphlhaaProg
import Derived.WalkKit
import Derived.WalkSpells
import Derived.WalkLawsBesides
import Derived.Lib.Hide
namespace Go.Proofs.Ytoehkegbmphlhaa
set_option linter.unusedSimpArgs false
set_option linter.unusedVariables false
open Go.RowKit

/-! ### Numbers and their bits -/
theorem ofInt_toNat (n : Nat) (x : Int) (h0 : 0 ≤ x) (h1 : x < 2 ^ n) : (BitVec.ofInt n x).toNat = x.toNat := by
  obtain ⟨m, rfl⟩ := Int.eq_ofNat_of_zero_le h0
  have h2 : m < 2 ^ n := by exact_mod_cast h1
  simp [BitVec.toNat_ofNat, Nat.mod_eq_of_lt h2]

theorem wrap_u (k : IntKind) (hk : k.signed = false) (m : Nat) (h : m < 2 ^ k.bits) : k.wrap (m : Int) = (m : Int) := by
  have h' : (m : Int) < 2 ^ k.bits := by exact_mod_cast h
  simp only [IntKind.wrap, hk, Bool.false_and, Bool.false_eq_true, if_false]
  exact Int.emod_eq_of_lt (Int.natCast_nonneg _) h'

theorem bits_and (k : IntKind) (hk : k.signed = false) (x y : Int) (hx0 : 0 ≤ x) (hx : x < 2 ^ k.bits) (hy0 : 0 ≤ y) (hy : y < 2 ^ k.bits) :
    bits .and k x y = ((x.toNat &&& y.toNat : Nat) : Int) := by
  have h1 : x.toNat < 2 ^ k.bits := by have : (x.toNat : Int) < 2 ^ k.bits := by omega
                                       exact_mod_cast this
  simp only [bits, BitVec.toNat_and, ofInt_toNat _ _ hx0 hx, ofInt_toNat _ _ hy0 hy]
  exact wrap_u k hk _ (Nat.lt_of_le_of_lt Nat.and_le_left h1)
theorem bits_or (k : IntKind) (hk : k.signed = false) (x y : Int) (hx0 : 0 ≤ x) (hx : x < 2 ^ k.bits) (hy0 : 0 ≤ y) (hy : y < 2 ^ k.bits) :
    bits .or k x y = ((x.toNat ||| y.toNat : Nat) : Int) := by
  have h1 : x.toNat < 2 ^ k.bits := by have : (x.toNat : Int) < 2 ^ k.bits := by omega
                                       exact_mod_cast this
  have h2 : y.toNat < 2 ^ k.bits := by have : (y.toNat : Int) < 2 ^ k.bits := by omega
                                       exact_mod_cast this
  simp only [bits, BitVec.toNat_or, ofInt_toNat _ _ hx0 hx, ofInt_toNat _ _ hy0 hy]
  exact wrap_u k hk _ (Nat.or_lt_two_pow h1 h2)
theorem bits_xor (k : IntKind) (hk : k.signed = false) (x y : Int) (hx0 : 0 ≤ x) (hx : x < 2 ^ k.bits) (hy0 : 0 ≤ y) (hy : y < 2 ^ k.bits) :
    bits .xor k x y = ((x.toNat ^^^ y.toNat : Nat) : Int) := by
  have h1 : x.toNat < 2 ^ k.bits := by have : (x.toNat : Int) < 2 ^ k.bits := by omega
                                       exact_mod_cast this
  have h2 : y.toNat < 2 ^ k.bits := by have : (y.toNat : Int) < 2 ^ k.bits := by omega
                                       exact_mod_cast this
  simp only [bits, BitVec.toNat_xor, ofInt_toNat _ _ hx0 hx, ofInt_toNat _ _ hy0 hy]
  exact wrap_u k hk _ (Nat.xor_lt_two_pow h1 h2)

theorem or_add (a b n : Nat) (h : b < 2 ^ n) : a * 2 ^ n ||| b = a * 2 ^ n + b := by
  have := Nat.shiftLeft_add_eq_or_of_lt h a
  rw [Nat.shiftLeft_eq] at this
  exact this.symm

/-! ### Worlds one behind the other -/
theorem xtrans {a b c : World} (h : Below a.heap.size a b) (k : Below b.heap.size b c) : Below a.heap.size a c := h.trans (k.mono h.size)
theorem xalloc {a b : World} (h : Below a.heap.size a b) (o : Obj) : Below a.heap.size a (b.alloc o) := h.alloc h.size o
theorem xnew (a : World) (o : Obj) : Below a.heap.size a (a.alloc o) := (Below.refl _ _).alloc (Nat.le_refl _) o
theorem xset {a b : World} (h : Below a.heap.size a b) {p : Addr} (hp : a.heap.size ≤ p.block) (u : Value) : Below a.heap.size a (b.setCell p u) := h.setCell hp u
theorem xrefl (a : World) : Below a.heap.size a a := Below.refl _ _

/-! ### A slice of bytes that is read -/
/-- The slice's words tell the bytes bs; nil has none. -/
def Row8 (w : World) (a : Option Addr) (len cap : Nat) (bs : List Nat) : Prop :=
  bs.length = len ∧ len ≤ cap ∧ cap ≤ 9223372036854775807 ∧ (∀ x ∈ bs, x < 256) ∧ (a = none → cap = 0) ∧
  (len = 0 ∨ ∃ b off, a = some ⟨b, off, none⟩ ∧ b < w.heap.size ∧ ∀ i, i < len → w.cell? ⟨b, off + i, none⟩ = some (.int .u8 ((bs.getD i 0 : Nat) : Int)))
/-- The same of a slice that is not too long. -/
def RdB (w : World) (a : Option Addr) (len cap : Nat) (bs : List Nat) : Prop := len ≤ 1000000000 ∧ Row8 w a len cap bs

theorem Row8.below {w w' : World} {a : Option Addr} {len cap : Nat} {bs : List Nat} (h : Row8 w a len cap bs) (hb : Below w.heap.size w w') : Row8 w' a len cap bs := by
  obtain ⟨h1, h2, h3, h4, h5, h6⟩ := h
  refine ⟨h1, h2, h3, h4, h5, ?_⟩
  rcases h6 with h6 | ⟨b, off, rfl, hlt, hc⟩
  · exact .inl h6
  · exact .inr ⟨b, off, rfl, Nat.lt_of_lt_of_le hlt hb.size, fun i hi => (hb.cell (p := ⟨b, off + i, none⟩) hlt).trans (hc i hi)⟩
theorem RdB.below {w w' : World} {a : Option Addr} {len cap : Nat} {bs : List Nat} (h : RdB w a len cap bs) (hb : Below w.heap.size w w') : RdB w' a len cap bs := ⟨h.1, h.2.below hb⟩

/-- A row of bytes that was just laid. -/
def bv (bs : List Nat) : List Value := bs.map fun n => .int .u8 ((n : Nat) : Int)
theorem bv_get (bs : List Nat) (i : Nat) (h : i < bs.length) : (bv bs).toArray[i]? = some (.int .u8 ((bs.getD i 0 : Nat) : Int)) := by
  simp [bv, List.getD_eq_getElem?_getD, List.getElem?_eq_getElem h]
theorem rd_new (w : World) (bs : List Nat) (cs : Array Value) (e : TypeId) (fr : Nat × Nat) (n : Nat) (hn : bs.length = n) (hcs : cs = (bv bs).toArray) (hb : ∀ x ∈ bs, x < 256) (hl : n ≤ 1000000000) :
    RdB (w.alloc (.cells cs e fr)) (some ⟨w.heap.size, 0, none⟩) n n bs := by
  subst hn hcs
  refine ⟨hl, rfl, Nat.le_refl _, by omega, hb, by simp, .inr ⟨_, _, rfl, by simp, fun i hi => ?_⟩⟩
  have h : (w.alloc (.cells (bv bs).toArray e fr)).heap[w.heap.size]? = some (.cells (bv bs).toArray e fr) := by
    show (w.heap.push _)[w.heap.size]? = _
    simp
  unfold World.cell?
  rw [h]
  simpa using bv_get bs i hi

theorem rd_nil (w : World) : RdB w none 0 0 [] := ⟨by decide, rfl, Nat.le_refl _, by decide, by simp, fun _ => rfl, .inl rfl⟩

theorem getD_u8 {bs : List Nat} (h : ∀ x ∈ bs, x < 256) (i : Nat) : bs.getD i 0 < 256 := by
  by_cases hi : i < bs.length
  · rw [List.getD_eq_getElem?_getD, List.getElem?_eq_getElem hi]; exact h _ (List.getElem_mem hi)
  · rw [List.getD_eq_getElem?_getD, List.getElem?_eq_none (by omega)]; decide
end Go.Proofs.Ytoehkegbmphlhaa
