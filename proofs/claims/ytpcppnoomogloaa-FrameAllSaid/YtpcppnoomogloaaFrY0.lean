/- What a world holds of heads, blocks and slices; lists of frames. -/
import Derived.Test.YtpcppnoomogloaaFrX1
import Derived.Test.YtpcppnoomogloaaAeWs
import Derived.Lib.SlBytesConst
set_option maxRecDepth 4000
namespace Go.Proofs.Ytpcppnoomogloaa.Fr
set_option linter.unusedSimpArgs false
set_option linter.unusedVariables false
open Go.RowKit

/-- Heads in variables, blocks, slices that are read, and what lay before. -/
def HW (w : World) (hs : List (Nat × Hd)) (l : List (Nat × TypeId × IntKind × List Nat)) (r : List (Option Addr × Nat × Nat × List Nat)) (W : World) : Prop := (∀ e ∈ hs, HBlk W e.1 e.2) ∧ LW w l r W
section
variable {w W W' : World} {hs : List (Nat × Hd)} {l : List (Nat × TypeId × IntKind × List Nat)} {r : List (Option Addr × Nat × Nat × List Nat)}
theorem HW.hd (h : HW w hs l r W) (i : Nat) {B : Nat} {g : Hd} (hi : hs[i]? = some (B, g)) : HBlk W B g := h.1 _ (List.mem_of_getElem? hi)
theorem HW.below (h : HW w hs l r W) (hb : Below W.heap.size W W') : HW w hs l r W' := ⟨fun e he => (h.1 e he).below hb, h.2.below hb⟩
theorem HW.alloc (h : HW w hs l r W) (o : Obj) : HW w hs l r (W.alloc o) := h.below (xnew _ _)
theorem HW.drew (h : HW w hs l r W) : HW w hs l r W.drew := ⟨fun e he => (h.1 e he).drew, h.2.drew⟩
theorem HW.addR (h : HW w hs l r W) {a : Option Addr} {n c : Nat} {bs : List Nat} (hr : RdB W a n c bs) : HW w hs l ((a, n, c, bs) :: r) W := ⟨h.1, h.2.addR hr⟩
theorem HW.addH (h : HW w hs l r W) {B : Nat} {g : Hd} (hb : HBlk W B g) : HW w ((B, g) :: hs) l r W := ⟨fun e he => (List.mem_cons.1 he).elim (fun q => by subst q; exact hb) (fun q => h.1 e q), h.2⟩
theorem HW.new (h : HW w hs l r W) (t : TypeId) (k : IntKind) (xs : List Nat) : HW w hs ((W.heap.size, t, k, xs) :: l) r (W.alloc (.cells (nv k xs).toArray t)) := ⟨fun e he => (h.1 e he).alloc _, h.2.new t k xs⟩
theorem HW.low (h : HW w hs l r W) : ∀ e ∈ r, ∀ x, e.1 = some x → 0 < e.2.1 → x.block < W.heap.size := lw_low h.2
/-- A new variable that takes a head. -/
theorem HW.store (h : HW w hs l r W) {H : Hd} (hX : HBlk W' W.heap.size H) (g : (W.alloc (.cells #[.int .i64 0, .int .i64 0, .int .i64 0, .int .i64 0, .int .i64 0] 23)).grownBy W' (some W.heap.size)) : HW w ((W.heap.size, H) :: hs) l r W' :=
  ⟨fun e he => (List.mem_cons.1 he).elim (fun q => by subst q; exact hX) (fun q => ((h.1 e q).alloc _).grown g (fun e' => by have := Option.some.inj e'; have := (h.1 e q).lt; omega)),
   (h.2.alloc _).grown g h.2.bel.size (fun e he => Nat.ne_of_lt (h.2.lt e he)) (fun e he x hx h0 => Nat.ne_of_lt (lw_low h.2 e he x hx h0))⟩
/-- What is written lies from a base on, below which all slices lie; it is a row of bytes. -/
theorem HW.top (h : HW w hs l r W) {base : Nat} {v : Value} {xs : List Nat} (hO : Own W base v xs) (hb : w.heap.size ≤ base) (hg : W.grownBy W' v.ownBlock) (hl : ∀ e ∈ l, e.2.1 ≠ 5) (hr : ∀ e ∈ r, ∀ x, e.1 = some x → 0 < e.2.1 → x.block < base) : HW w hs l r W' :=
  ⟨fun e he => (h.1 e he).grown hg (own_ne hO (h.1 e he) (cells_ne (by decide))), lw_top h.2 hO hb hg hl hr⟩
end
theorem rd_cell {w : World} {g n c : Nat} {bs : List Nat} (h : RdB w (some ⟨g, 0, none⟩) n c bs) (i : Nat) (hi : i < n) : w.cell? ⟨g, i, none⟩ = some (.int .u8 ((bs.getD i 0 : Nat) : Int)) := by
  rcases h.2.2.2.2.2.2 with h6 | ⟨b, off, ha, _, hc⟩
  · omega
  · cases ha
    have := hc i hi
    rwa [Nat.zero_add] at this
theorem rdI_lit (w : World) (xs : List Nat) (n : Nat) (cs : Array Value) (hcs : cs = (nv .i64 xs).toArray) (hn : xs.length = n) (h : n ≤ 1000000) : RdI (w.alloc (.cells cs 3)) (some ⟨w.heap.size, 0, none⟩) n n xs := by
  have hb := Blk.new w 3 .i64 xs cs hcs
  exact ⟨hn, Nat.le_refl _, h, by omega, .inr ⟨_, rfl, hb.lt, fun i hi => hb.cell i (by omega)⟩⟩
theorem scan_empty (f : Nat) (bs : List Nat) : scanG f bs bs.length = [] := by
  cases f with
  | zero => rfl
  | succ f =>
    rw [scanG, if_neg]
    rintro ⟨h1, _⟩
    have h2 := ((readB_iff _).1 h1).1
    rw [List.length_drop] at h2
    omega
/-- Frames of the heads l, of bodies, one behind the other. -/
def frames (key : List Nat) : List (Hd × List Nat) → List Nat
  | [] => []
  | e :: l => sealF e.1 key e.2 ++ frames key l
def places (key : List Nat) : Nat → List (Hd × List Nat) → List (Hd × Nat)
  | _, [] => []
  | p, e :: l => (e.1, p) :: places key (p + (sealF e.1 key e.2).length) l
/-- All of them are found, up to where they are cut off. -/
theorem scan_frames (key : List Nat) (l : List (Hd × List Nat)) (hl : ∀ e ∈ l, sealB e.1 e.2 = true) (pre rest : List Nat) (f : Nat) (hf : l.length ≤ f) :
    scanG f (pre ++ (frames key l ++ rest)) pre.length = places key pre.length l ++ scanG (f - l.length) ((pre ++ frames key l) ++ rest) (pre ++ frames key l).length := by
  induction l generalizing pre f with
  | nil => simp [frames, places]
  | cons e l ih =>
    obtain ⟨f, rfl⟩ : ∃ g, f = g + 1 := ⟨f - 1, by simp at hf; omega⟩
    have hs := hl e List.mem_cons_self
    have h1 := scanG_frame (key := key) hs f pre (frames key l ++ rest)
    have h2 := ih (fun x hx => hl x (List.mem_cons_of_mem _ hx)) (pre ++ sealF e.1 key e.2) f (by simpa using hf)
    simp only [frames, places, List.append_assoc] at h1 h2 ⊢
    rw [h1]
    simp only [List.length_append] at h2 ⊢
    rw [h2, List.cons_append]
    simp only [List.length_cons]
    rw [show f + 1 - (l.length + 1) = f - l.length by omega]
end Go.Proofs.Ytpcppnoomogloaa.Fr
