/- What the changing of bytes holds between two steps. -/
import Derived.Test.YtnlogdlnmhnepaaStW1
namespace Go.Proofs.Ytnlogdlnmhnepaa.St
set_option linter.unusedSimpArgs false
set_option linter.unusedVariables false
open Go.RowKit Go.Shelf Go.Proofs.Ytnlogdlnmhnepaa.Ch

/-- A state: m bytes have been changed; the iterator's counter is c; the loop's record is oL. -/
structure XS (w : World) (O A Bk Bc Bn L D : Nat) (a : Option Addr) (len cap : Nat) (key nonce bs : List Nat) (ct c : Nat) (oL : Obj) (m : Nat) (W : World) : Prop where
  out : ∃ ad cp, Boxed W O 25 (.slice ad m cp) ∧ Own W w.heap.size (.slice ad m cp) (xorN key ct nonce bs m)
  arg : Boxed W A 25 (.slice a len cap)
  rd : RdB W a len cap bs
  its : Its Bk Bc Bn key nonce c W
  bel : Below w.heap.size w W
  lrec : W.heap[L]? = some oL
  dfr : W.heap[D]? = some (.deferred (some []))

section
variable {w W W' : World} {O A Bk Bc Bn L D : Nat} {a : Option Addr} {len cap : Nat} {key nonce bs : List Nat} {ct c c' : Nat} {oL oL' : Obj} {m : Nat}
/-- What is made anew leaves it. -/
theorem XS.below (h : XS w O A Bk Bc Bn L D a len cap key nonce bs ct c oL m W) (hb : Below W.heap.size W W') : XS w O A Bk Bc Bn L D a len cap key nonce bs ct c oL m W' := by
  obtain ⟨⟨ad, cp, h1, h2⟩, h3, h4, ⟨h5, h6, h7⟩, h8, h9, h10⟩ := h
  exact ⟨⟨ad, cp, (hb.block O h1.lt).trans h1, h2.below hb⟩, (hb.block A h3.lt).trans h3, h4.below hb, ⟨h5.below hb, h6.below hb, h7.below hb⟩, xtrans h8 hb, (hb.block L (Array.getElem?_eq_some_iff.1 h9).1).trans h9, (hb.block D (Array.getElem?_eq_some_iff.1 h10).1).trans h10⟩
theorem XS.alloc (h : XS w O A Bk Bc Bn L D a len cap key nonce bs ct c oL m W) (o : Obj) : XS w O A Bk Bc Bn L D a len cap key nonce bs ct c oL m (W.alloc o) := h.below (xnew _ _)
theorem XS.drewN (h : XS w O A Bk Bc Bn L D a len cap key nonce bs ct c oL m W) (n : Nat) : XS w O A Bk Bc Bn L D a len cap key nonce bs ct c oL m (W.drewN n) := by
  obtain ⟨⟨ad, cp, h1, h2⟩, h3, h4, ⟨h5, h6, h7⟩, h8, h9, h10⟩ := h
  exact ⟨⟨ad, cp, h1, h2⟩, h3, h4, ⟨h5.drewN n, h6.drewN n, h7.drewN n⟩, below_drewN h8 n, h9, h10⟩
/-- Another block of the call's own is written (the record, or the counter). -/
theorem XS.other (h : XS w O A Bk Bc Bn L D a len cap key nonce bs ct c oL m W) {Z : Nat} (hg : W.grownBy W' (some Z)) (hZ : w.heap.size ≤ Z) (hl : ∀ x, a = some x → 0 < len → x.block < w.heap.size)
    {oZ : Obj} (hZo : W.heap[Z]? = some oZ) (hZn : ∀ cs fr, oZ ≠ .cells cs 5 fr) (h1 : O ≠ Z) (h2 : A ≠ Z) (h3 : D ≠ Z)
    (hits : Its Bk Bc Bn key nonce c' W') (hrec : W'.heap[L]? = some oL') : XS w O A Bk Bc Bn L D a len cap key nonce bs ct c' oL' m W' := by
  obtain ⟨⟨ad, cp, k1, k2⟩, k3, k4, _, k8, _, k10⟩ := h
  refine ⟨⟨ad, cp, k1.kept hg (ne_some h1), k2.kept hg (fun k hk => by cases hk; exact (own_ne k2 hZo hZn).symm)⟩, k3.kept hg (ne_some h2), rdb_grownM k4 hg (fun x hx h0 e => ?_), hits, gbelow k8 hg hZ, hrec, (hg.block D (Array.getElem?_eq_some_iff.1 k10).1 (ne_some h3)).trans k10⟩
  have := hl x hx h0
  have := Option.some.inj e
  omega
/-- The record is turned. -/
theorem XS.putL {o1 : Loop} (h : XS w O A Bk Bc Bn L D a len cap key nonce bs ct c (.loop o1) m W) (o2 : Loop) (hL : w.heap.size ≤ L) (hl : ∀ x, a = some x → 0 < len → x.block < w.heap.size)
    (h1 : O ≠ L) (h2 : A ≠ L) (h3 : D ≠ L) (h4 : Bk ≠ L) (h5 : Bc ≠ L) (h6 : Bn ≠ L) : XS w O A Bk Bc Bn L D a len cap key nonce bs ct c (.loop o2) m (W.putObj L (.loop o2)) := by
  have hg := grownBy_putObj' W L (.loop o2)
  have hL' := (Array.getElem?_eq_some_iff.1 h.lrec).1
  exact h.other hg hL hl h.lrec (fun _ _ e => by cases e) h1 h2 h3 ⟨h.its.1.grown hg (ne_some h4), h.its.2.1.grown hg (ne_some h5), h.its.2.2.grown hg (ne_some h6)⟩ (World.putObj_heap_same hL')
/-- The counter goes on. -/
theorem XS.count (h : XS w O A Bk Bc Bn L D a len cap key nonce bs ct c oL m W) (c' : Nat) (hc : w.heap.size ≤ Bc) (hl : ∀ x, a = some x → 0 < len → x.block < w.heap.size)
    (h1 : O ≠ Bc) (h2 : A ≠ Bc) (h3 : D ≠ Bc) (h4 : Bk ≠ Bc) (h5 : L ≠ Bc) (h6 : Bn ≠ Bc) : XS w O A Bk Bc Bn L D a len cap key nonce bs ct c' oL m (W.setCell ⟨Bc, 0, none⟩ (.int .u32 (c' : Int))) := by
  have hg := grownBy_setCell' W Bc (.int .u32 (c' : Int))
  have hs := h.its.2.1.set 0 c'
  exact h.other hg hc hl h.its.2.1 (cells_ne (by decide)) h1 h2 h3 ⟨h.its.1.grown hg (ne_some h4), hs, h.its.2.2.grown hg (ne_some h6)⟩ ((hg.block L (Array.getElem?_eq_some_iff.1 h.lrec).1 (ne_some h5)).trans h.lrec)
end
/-- A byte more: the append's world w1, and the store of the new slice. -/
theorem XS.more {w W w1 : World} {O A Bk Bc Bn L D : Nat} {a : Option Addr} {len cap : Nat} {key nonce bs : List Nat} {ct c : Nat} {oL : Obj} {m : Nat} {ad : Option Addr} {cp : Nat} {tmp : Obj} {ad' : Option Addr} {cp' : Nat}
    (h : XS w O A Bk Bc Bn L D a len cap key nonce bs ct c oL m W) (h1 : Boxed W O 25 (.slice ad m cp)) (h2 : Own W w.heap.size (.slice ad m cp) (xorN key ct nonce bs m))
    (hn : Own w1 w.heap.size (.slice ad' (m + 1) cp') (xorN key ct nonce bs (m + 1))) (hg : (W.alloc tmp).grownBy w1 (Value.slice ad m cp).ownBlock)
    (hO : w.heap.size ≤ O) (hl : ∀ x, a = some x → 0 < len → x.block < w.heap.size) (q1 : A ≠ O) (q2 : L ≠ O) (q3 : D ≠ O) (q4 : Bk ≠ O) (q5 : Bc ≠ O) (q6 : Bn ≠ O) (hrec : ∀ cs fr, oL ≠ .cells cs 5 fr) :
    Boxed w1 O 25 (.slice ad m cp) ∧ XS w O A Bk Bc Bn L D a len cap key nonce bs ct c oL (m + 1) (w1.setCell ⟨O, 0, none⟩ (.slice ad' (m + 1) cp')) := by
  have ha := h.alloc tmp
  have h2a := h2.below (xnew W tmp)
  have h1a := h1.alloc tmp
  have ne : ∀ (B : Nat) (o : Obj), (W.alloc tmp).heap[B]? = some o → (∀ cs fr, o ≠ .cells cs 5 fr) → some B ≠ (Value.slice ad m cp).ownBlock := fun B o hB ho => own_ne h2a hB ho
  have hO1 : Boxed w1 O 25 (.slice ad m cp) := h1a.kept hg (ne O _ h1a (cells_ne (by decide)))
  refine ⟨hO1, ?_⟩
  obtain ⟨_, k3, k4, ⟨k5, k6, k7⟩, k8, k9, k10⟩ := ha
  have hg2 := grownBy_setCell' w1 O (.slice ad' (m + 1) cp')
  have hwl : ∀ g, (Value.slice ad m cp).ownBlock = some g → w.heap.size ≤ g := fun g hg => (own_lt h2 g hg).1
  refine ⟨⟨ad', cp', hO1.set _, hn.kept hg2 (fun k hk => by cases hk; exact (own_ne hn hO1 (cells_ne (by decide))).symm)⟩, ?_, ?_, ⟨?_, ?_, ?_⟩, ?_, ?_, ?_⟩
  · exact (k3.kept hg (ne A _ k3 (cells_ne (by decide)))).kept hg2 (ne_some q1)
  · have r1 : RdB w1 a len cap bs := rdb_grownM k4 hg (fun x hx h0 e => by
      have := hl x hx h0
      have := hwl _ e
      omega)
    exact rdb_grownM r1 hg2 (fun x hx h0 e => by
      have := hl x hx h0
      have := Option.some.inj e
      omega)
  · exact (k5.grown hg (ne Bk _ k5 (cells_ne (by decide)))).grown hg2 (ne_some q4)
  · exact (k6.grown hg (ne Bc _ k6 (cells_ne (by decide)))).grown hg2 (ne_some q5)
  · exact (k7.grown hg (ne Bn _ k7 (cells_ne (by decide)))).grown hg2 (ne_some q6)
  · exact gbelow (k8.grown hg k8.size hwl) hg2 hO
  · exact (hg2.block L (by have := (Array.getElem?_eq_some_iff.1 k9).1; have := hg.size; omega) (ne_some q2)).trans ((hg.block L (Array.getElem?_eq_some_iff.1 k9).1 (ne L _ k9 hrec)).trans k9)
  · exact (hg2.block D (by have := (Array.getElem?_eq_some_iff.1 k10).1; have := hg.size; omega) (ne_some q3)).trans ((hg.block D (Array.getElem?_eq_some_iff.1 k10).1 (ne D _ k10 (fun _ _ e => by cases e))).trans k10)
/-- Where the loop begins: its record and the block for deferred calls are laid. -/
theorem XS.start {w V : World} {O A Bk Bc Bn : Nat} {a : Option Addr} {len cap : Nat} {key nonce bs : List Nat} {ct : Nat} {r : Loop} {ad : Option Addr} {cp : Nat} (h1 : Boxed V O 25 (.slice ad 0 cp)) (h2 : Own V w.heap.size (.slice ad 0 cp) []) (h3 : Boxed V A 25 (.slice a len cap)) (h4 : RdB V a len cap bs) (h5 : Its Bk Bc Bn key nonce ct V) (h6 : Below w.heap.size w V) :
    XS w O A Bk Bc Bn (V.heap.size + 1) V.heap.size a len cap key nonce bs ct ct (.loop r) 0 ((V.alloc (.deferred (some []))).alloc (.loop r)) := by
  have hb : Below V.heap.size V ((V.alloc (.deferred (some []))).alloc (.loop r)) := xalloc (xnew V _) _
  refine ⟨⟨ad, cp, (hb.block O h1.lt).trans h1, h2.below hb⟩, (hb.block A h3.lt).trans h3, h4.below hb, ⟨h5.1.below hb, h5.2.1.below hb, h5.2.2.below hb⟩, xtrans h6 hb, ?_, ?_⟩
  · have := World.alloc_heap_new (V.alloc (.deferred (some []))) (.loop r)
    rwa [World.size_alloc] at this
  · exact (Below.heap_alloc _ _ _ (by simp)).trans (World.alloc_heap_new V _)
theorem rdb_at {w : World} {b off n c : Nat} {bs : List Nat} (h : RdB w (some ⟨b, off, none⟩) n c bs) (i : Nat) (hi : i < n) : w.cell? ⟨b, off + i, none⟩ = some (.int .u8 ((bs.getD i 0 : Nat) : Int)) := by
  rcases h.2.2.2.2.2.2 with h6 | ⟨b', off', ha, _, hc⟩
  · omega
  · cases ha
    exact hc i hi
theorem xor_u8 (x y : Nat) (hx : x < 256) (hy : y < 256) : bits .xor .u8 (x : Int) (y : Int) = ((x ^^^ y : Nat) : Int) := by
  rw [bits_xor .u8 rfl _ _ (by omega) (by show (x : Int) < 256; omega) (by omega) (by show (y : Int) < 256; omega), Int.toNat_natCast, Int.toNat_natCast]
end Go.Proofs.Ytnlogdlnmhnepaa.St
