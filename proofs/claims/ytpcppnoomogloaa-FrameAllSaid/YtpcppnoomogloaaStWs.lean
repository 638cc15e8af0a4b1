/- The walks of stream.Xor and what it calls. -/
import Derived.Test.YtpcppnoomogloaaChWs
import Derived.Test.YtpcppnoomogloaaFnd
import Derived.Test.YtpcppnoomogloaaPla
set_option maxRecDepth 4000
namespace Go.Proofs.Ytpcppnoomogloaa.St
set_option linter.unusedSimpArgs false
set_option linter.unusedVariables false
open Go.RowKit Go.Shelf Go.Proofs.Ytpcppnoomogloaa.Ch
attribute [local go_sem] Oper.semAt_some

set_option maxHeartbeats 1000000 in
theorem blocks_any (w : World) (key nonce : List Nat) (ct : Nat) :
    Calls Try.prog 60 #[.agg (nv .u8 key).toArray, .int .u32 (ct : Int), .agg (nv .u8 nonce).toArray] w fun e w' =>
      e = .returned (.func (.func 68) #[] #[.pointer (some ⟨w.heap.size, 0, none⟩), .pointer (some ⟨w.heap.size + 1, 0, none⟩), .pointer (some ⟨w.heap.size + 1 + 1, 0, none⟩)]) ∧
      w' = ((w.alloc (.cells (nv .u8 key).toArray 35)).alloc (.cells (nv .u32 [ct]).toArray 29)).alloc (.cells (nv .u8 nonce).toArray 62) := by
  go_enter Try.func60, Try.ntmps60
  go_wp2
  go_ret
  exact ⟨rfl, rfl⟩

/-- What the iterator reads: its key, its counter, its nonce. -/
def Its (Bk Bc Bn : Nat) (key nonce : List Nat) (c : Nat) (W : World) : Prop := Blk W Bk 35 .u8 key ∧ Blk W Bc 29 .u32 [c] ∧ Blk W Bn 62 .u8 nonce
noncomputable def cnt (Bc : Nat) (W : World) : Nat := match W.cell? ⟨Bc, 0, none⟩ with | some (.int _ n) => n.toNat | _ => 0
theorem cnt_of {Bk Bc Bn : Nat} {key nonce : List Nat} {c : Nat} {W : World} (h : Its Bk Bc Bn key nonce c W) : cnt Bc W = c := by
  unfold cnt
  rw [h.2.1.cell 0 (by simp)]
  simp

set_option maxRecDepth 100000 in
set_option maxHeartbeats 2000000 in
theorem blocks1_in (n : Nat) (l Bk Bc Bn : Nat) (key nonce : List Nat) (ct N : Nat) (hk : key.length = 32) (hkb : ∀ x ∈ key, x < 256) (hn : nonce.length = 12) (hnb : ∀ x ∈ nonce, x < 256) (hN : ct + N ≤ 4294967296)
    (J Jd : Nat → World → Prop) (Fin : World → Prop)
    (hI : ∀ k W, J k W → k < N ∧ Its Bk Bc Bn key nonce (ct + k) W)
    (hId : ∀ k W, Jd k W → k + 1 < N ∧ Its Bk Bc Bn key nonce (ct + k) W)
    (hB : ∀ k W W', J k W → Below W.heap.size W W' → J k W')
    (hS : ∀ k W, Jd k W → J (k + 1) (W.setCell ⟨Bc, 0, none⟩ (.int .u32 ((ct + (k + 1) : Nat) : Int))))
    (hY : ∀ k W, J k W → YieldAt Fence.wide (n - 1) Try.prog l #[.agg (bv (block key (ct + k) nonce)).toArray] W fun e W' => (e = .returned (.bool true) ∧ Jd k W') ∨ (e = .returned (.bool false) ∧ Fin W'))
    (W : World) (h0 : J 0 W) :
    CallsIn Fence.wide n Try.prog 68 #[.func (.yield l) #[] #[], .pointer (some ⟨Bk, 0, none⟩), .pointer (some ⟨Bc, 0, none⟩), .pointer (some ⟨Bn, 0, none⟩)] W fun e W' => (∃ v, e = .returned v) ∧ Fin W' := by
  have HK := Lib.hid (show (Try.prog.info? 35).map (·.size) = some key.length by rw [hk]; kernel_rfl)
  have HN := Lib.hid (show (Try.prog.info? 62).map (·.size) = some nonce.length by rw [hn]; kernel_rfl)
  have cB := Lib.hid (fun W c h => Block_any W key nonce c hk hkb hn hnb h)
  clear hk hn
  have HI := Lib.hid hI
  have HId := Lib.hid hId
  have HB := Lib.hid hB
  have HS := Lib.hid hS
  have HY := Lib.hid hY
  clear hI hId hB hS hY
  refine callsIn_of_wp Try.func68 rfl trivial ?_ rfl
  simp only [Try.ntmps68, List.size_toArray, List.length_cons, List.length_nil, Nat.reduceAdd, Nat.reduceSub, Array.replicate_succ, Array.replicate_zero, List.push_toArray, List.append_toArray, List.nil_append, List.cons_append]
  gi_wp2
  gi_loopw [5] (fun s wr => ∃ k : Nat, J k wr) (fun s wr => ct + N - cnt Bc wr)
  case atStart => exact ⟨0, h0⟩
  case round =>
    obtain ⟨k, hJ⟩ := hrel
    obtain ⟨hlt, hI0⟩ := HI.out k wr hJ
    have hcn := cnt_of hI0
    obtain ⟨hk, hc, hn⟩ := hI0
    obtain ⟨c, hc0⟩ : ∃ c, c = ct + k := ⟨_, rfl⟩
    rw [← hc0] at hc hcn
    have hcc : wr.cell? ⟨Bc, 0, none⟩ = some (.int .u32 (c : Int)) := hc.cell 0 (by simp)
    have hcb : c < 4294967296 := by omega
    have HC0 := Lib.hid hc0
    have HCN := Lib.hid hcn
    clear hc0 hcn
    gi_wp2_with (first
      | (refine listW_of rfl rfl fun K hK => wpo_load_arr 35 (.tmp 1) rfl Bk rfl hk 32 5 Try.underlying35 HK.out (hK _ _ ?_))
      | (refine listW_of rfl rfl fun K hK => wpo_load_arr 62 (.tmp 3) rfl Bn rfl hn 12 5 Try.underlying62 HN.out (hK _ _ ?_))
      | fail)
    refine ⟨trivial, (fun hh => by cases hh), ?_⟩
    refine (callsIn_wide.2 (cB.out _ _ hcb)).mono ?_
    rintro e w1 ⟨rfl, hb1⟩
    have hJ1 := HB.out k wr w1 hJ hb1
    obtain ⟨fn, tmps, assign, body, hy, hR⟩ := HY.out k w1 hJ1
    rw [← HC0.out] at hy
    clear hk hc hn hcc
    gi_wp2
    refine ⟨(fun hh => by cases hh), ?_⟩
    refine hR.mono ?_
    rintro e W3 (⟨rfl, hJ3⟩ | ⟨rfl, hF⟩)
    · obtain ⟨hlt3, hI3⟩ := HId.out k W3 hJ3
      have hcn3 := cnt_of hI3
      have hSt := HS.out k W3 hJ3
      obtain ⟨_, hc3, _⟩ := hI3
      have hcc3 : W3.cell? ⟨Bc, 0, none⟩ = some (.int .u32 (c : Int)) := by rw [HC0.out]; exact hc3.cell 0 (by simp)
      have hf3 := hc3.frozen 0
      obtain ⟨c', hc'⟩ : ∃ c', c' = ct + (k + 1) := ⟨_, rfl⟩
      have hw : IntKind.u32.wrap ((c : Int) + 1) = (c' : Int) := by have := HC0.out; rw [IntKind.wrap_u32]; omega
      have hcs : cnt Bc (W3.setCell ⟨Bc, 0, none⟩ (.int .u32 ((ct + (k + 1) : Nat) : Int))) = ct + (k + 1) := cnt_of (HI.out _ _ hSt).2
      have HCS := Lib.hid hcs
      rw [← hc'] at hSt HCS
      have HC1 := Lib.hid hc'
      clear hcn3 hc3 hcs hc'
      gi_wp2
      exact ⟨⟨k + 1, hSt⟩, by rw [HCS.out, HCN.out]; have := HC0.out; have := HC1.out; omega⟩
    · gi_wp2
      go_end0
      exact ⟨⟨_, rfl⟩, hF⟩
end Go.Proofs.Ytpcppnoomogloaa.St

namespace Go.Proofs.Ytpcppnoomogloaa.St
set_option linter.unusedSimpArgs false
set_option linter.unusedVariables false
open Go.RowKit Go.Shelf Go.Proofs.Ytpcppnoomogloaa.Ch

/-- A state: m bytes have been changed; the iterator's counter is c; the loop's record is oL. -/
structure XS (w : World) (O A Bk Bc Bn L D : Nat) (a : Option Addr) (len cap : Nat) (key nonce bs : List Nat) (ct c : Nat) (oL : Obj) (m : Nat) (W : World) : Prop where
  out : ∃ ad cp, Boxed W O 25 (.slice ad m cp) ∧ Own W w.heap.size (.slice ad m cp) (xorN key ct nonce bs m)
  arg : Boxed W A 25 (.slice a len cap)
  rd : RdB W a len cap bs
  its : Its Bk Bc Bn key nonce c W
  bel : Below w.heap.size w W
  lrec : W.heap[L]? = some oL
  dfr : W.heap[D]? = some (.deferred (some []))

section
variable {w W W' : World} {O A Bk Bc Bn L D : Nat} {a : Option Addr} {len cap : Nat} {key nonce bs : List Nat} {ct c c' : Nat} {oL oL' : Obj} {m : Nat}
/-- What is made anew leaves it. -/
theorem XS.below (h : XS w O A Bk Bc Bn L D a len cap key nonce bs ct c oL m W) (hb : Below W.heap.size W W') : XS w O A Bk Bc Bn L D a len cap key nonce bs ct c oL m W' := by
  obtain ⟨⟨ad, cp, h1, h2⟩, h3, h4, ⟨h5, h6, h7⟩, h8, h9, h10⟩ := h
  exact ⟨⟨ad, cp, (hb.block O h1.lt).trans h1, h2.below hb⟩, (hb.block A h3.lt).trans h3, h4.below hb, ⟨h5.below hb, h6.below hb, h7.below hb⟩, xtrans h8 hb, (hb.block L (Array.getElem?_eq_some_iff.1 h9).1).trans h9, (hb.block D (Array.getElem?_eq_some_iff.1 h10).1).trans h10⟩
theorem XS.alloc (h : XS w O A Bk Bc Bn L D a len cap key nonce bs ct c oL m W) (o : Obj) : XS w O A Bk Bc Bn L D a len cap key nonce bs ct c oL m (W.alloc o) := h.below (xnew _ _)
theorem XS.drewN (h : XS w O A Bk Bc Bn L D a len cap key nonce bs ct c oL m W) (n : Nat) : XS w O A Bk Bc Bn L D a len cap key nonce bs ct c oL m (W.drewN n) := by
  obtain ⟨⟨ad, cp, h1, h2⟩, h3, h4, ⟨h5, h6, h7⟩, h8, h9, h10⟩ := h
  exact ⟨⟨ad, cp, h1, h2⟩, h3, h4, ⟨h5.drewN n, h6.drewN n, h7.drewN n⟩, below_drewN h8 n, h9, h10⟩
/-- Another block of the call's own is written (the record, or the counter). -/
theorem XS.other (h : XS w O A Bk Bc Bn L D a len cap key nonce bs ct c oL m W) {Z : Nat} (hg : W.grownBy W' (some Z)) (hZ : w.heap.size ≤ Z) (hl : ∀ x, a = some x → 0 < len → x.block < w.heap.size)
    {oZ : Obj} (hZo : W.heap[Z]? = some oZ) (hZn : ∀ cs fr, oZ ≠ .cells cs 5 fr) (h1 : O ≠ Z) (h2 : A ≠ Z) (h3 : D ≠ Z)
    (hits : Its Bk Bc Bn key nonce c' W') (hrec : W'.heap[L]? = some oL') : XS w O A Bk Bc Bn L D a len cap key nonce bs ct c' oL' m W' := by
  obtain ⟨⟨ad, cp, k1, k2⟩, k3, k4, _, k8, _, k10⟩ := h
  refine ⟨⟨ad, cp, k1.kept hg (ne_some h1), k2.kept hg (fun k hk => by cases hk; exact (own_ne k2 hZo hZn).symm)⟩, k3.kept hg (ne_some h2), rdb_grownM k4 hg (fun x hx h0 e => ?_), hits, gbelow k8 hg hZ, hrec, (hg.block D (Array.getElem?_eq_some_iff.1 k10).1 (ne_some h3)).trans k10⟩
  have := hl x hx h0
  have := Option.some.inj e
  omega
/-- The record is turned. -/
theorem XS.putL {o1 : Loop} (h : XS w O A Bk Bc Bn L D a len cap key nonce bs ct c (.loop o1) m W) (o2 : Loop) (hL : w.heap.size ≤ L) (hl : ∀ x, a = some x → 0 < len → x.block < w.heap.size)
    (h1 : O ≠ L) (h2 : A ≠ L) (h3 : D ≠ L) (h4 : Bk ≠ L) (h5 : Bc ≠ L) (h6 : Bn ≠ L) : XS w O A Bk Bc Bn L D a len cap key nonce bs ct c (.loop o2) m (W.putObj L (.loop o2)) := by
  have hg := grownBy_putObj' W L (.loop o2)
  have hL' := (Array.getElem?_eq_some_iff.1 h.lrec).1
  exact h.other hg hL hl h.lrec (fun _ _ e => by cases e) h1 h2 h3 ⟨h.its.1.grown hg (ne_some h4), h.its.2.1.grown hg (ne_some h5), h.its.2.2.grown hg (ne_some h6)⟩ (World.putObj_heap_same hL')
/-- The counter goes on. -/
theorem XS.count (h : XS w O A Bk Bc Bn L D a len cap key nonce bs ct c oL m W) (c' : Nat) (hc : w.heap.size ≤ Bc) (hl : ∀ x, a = some x → 0 < len → x.block < w.heap.size)
    (h1 : O ≠ Bc) (h2 : A ≠ Bc) (h3 : D ≠ Bc) (h4 : Bk ≠ Bc) (h5 : L ≠ Bc) (h6 : Bn ≠ Bc) : XS w O A Bk Bc Bn L D a len cap key nonce bs ct c' oL m (W.setCell ⟨Bc, 0, none⟩ (.int .u32 (c' : Int))) := by
  have hg := grownBy_setCell' W Bc (.int .u32 (c' : Int))
  have hs := h.its.2.1.set 0 c'
  exact h.other hg hc hl h.its.2.1 (cells_ne (by decide)) h1 h2 h3 ⟨h.its.1.grown hg (ne_some h4), hs, h.its.2.2.grown hg (ne_some h6)⟩ ((hg.block L (Array.getElem?_eq_some_iff.1 h.lrec).1 (ne_some h5)).trans h.lrec)
end
/-- A byte more: the append's world w1, and the store of the new slice. -/
theorem XS.more {w W w1 : World} {O A Bk Bc Bn L D : Nat} {a : Option Addr} {len cap : Nat} {key nonce bs : List Nat} {ct c : Nat} {oL : Obj} {m : Nat} {ad : Option Addr} {cp : Nat} {tmp : Obj} {ad' : Option Addr} {cp' : Nat}
    (h : XS w O A Bk Bc Bn L D a len cap key nonce bs ct c oL m W) (h1 : Boxed W O 25 (.slice ad m cp)) (h2 : Own W w.heap.size (.slice ad m cp) (xorN key ct nonce bs m))
    (hn : Own w1 w.heap.size (.slice ad' (m + 1) cp') (xorN key ct nonce bs (m + 1))) (hg : (W.alloc tmp).grownBy w1 (Value.slice ad m cp).ownBlock)
    (hO : w.heap.size ≤ O) (hl : ∀ x, a = some x → 0 < len → x.block < w.heap.size) (q1 : A ≠ O) (q2 : L ≠ O) (q3 : D ≠ O) (q4 : Bk ≠ O) (q5 : Bc ≠ O) (q6 : Bn ≠ O) (hrec : ∀ cs fr, oL ≠ .cells cs 5 fr) :
    Boxed w1 O 25 (.slice ad m cp) ∧ XS w O A Bk Bc Bn L D a len cap key nonce bs ct c oL (m + 1) (w1.setCell ⟨O, 0, none⟩ (.slice ad' (m + 1) cp')) := by
  have ha := h.alloc tmp
  have h2a := h2.below (xnew W tmp)
  have h1a := h1.alloc tmp
  have ne : ∀ (B : Nat) (o : Obj), (W.alloc tmp).heap[B]? = some o → (∀ cs fr, o ≠ .cells cs 5 fr) → some B ≠ (Value.slice ad m cp).ownBlock := fun B o hB ho => own_ne h2a hB ho
  have hO1 : Boxed w1 O 25 (.slice ad m cp) := h1a.kept hg (ne O _ h1a (cells_ne (by decide)))
  refine ⟨hO1, ?_⟩
  obtain ⟨_, k3, k4, ⟨k5, k6, k7⟩, k8, k9, k10⟩ := ha
  have hg2 := grownBy_setCell' w1 O (.slice ad' (m + 1) cp')
  have hwl : ∀ g, (Value.slice ad m cp).ownBlock = some g → w.heap.size ≤ g := fun g hg => (own_lt h2 g hg).1
  refine ⟨⟨ad', cp', hO1.set _, hn.kept hg2 (fun k hk => by cases hk; exact (own_ne hn hO1 (cells_ne (by decide))).symm)⟩, ?_, ?_, ⟨?_, ?_, ?_⟩, ?_, ?_, ?_⟩
  · exact (k3.kept hg (ne A _ k3 (cells_ne (by decide)))).kept hg2 (ne_some q1)
  · have r1 : RdB w1 a len cap bs := rdb_grownM k4 hg (fun x hx h0 e => by
      have := hl x hx h0
      have := hwl _ e
      omega)
    exact rdb_grownM r1 hg2 (fun x hx h0 e => by
      have := hl x hx h0
      have := Option.some.inj e
      omega)
  · exact (k5.grown hg (ne Bk _ k5 (cells_ne (by decide)))).grown hg2 (ne_some q4)
  · exact (k6.grown hg (ne Bc _ k6 (cells_ne (by decide)))).grown hg2 (ne_some q5)
  · exact (k7.grown hg (ne Bn _ k7 (cells_ne (by decide)))).grown hg2 (ne_some q6)
  · exact gbelow (k8.grown hg k8.size hwl) hg2 hO
  · exact (hg2.block L (by have := (Array.getElem?_eq_some_iff.1 k9).1; have := hg.size; omega) (ne_some q2)).trans ((hg.block L (Array.getElem?_eq_some_iff.1 k9).1 (ne L _ k9 hrec)).trans k9)
  · exact (hg2.block D (by have := (Array.getElem?_eq_some_iff.1 k10).1; have := hg.size; omega) (ne_some q3)).trans ((hg.block D (Array.getElem?_eq_some_iff.1 k10).1 (ne D _ k10 (fun _ _ e => by cases e))).trans k10)
/-- Where the loop begins: its record and the block for deferred calls are laid. -/
theorem XS.start {w V : World} {O A Bk Bc Bn : Nat} {a : Option Addr} {len cap : Nat} {key nonce bs : List Nat} {ct : Nat} {r : Loop} {ad : Option Addr} {cp : Nat} (h1 : Boxed V O 25 (.slice ad 0 cp)) (h2 : Own V w.heap.size (.slice ad 0 cp) []) (h3 : Boxed V A 25 (.slice a len cap)) (h4 : RdB V a len cap bs) (h5 : Its Bk Bc Bn key nonce ct V) (h6 : Below w.heap.size w V) :
    XS w O A Bk Bc Bn (V.heap.size + 1) V.heap.size a len cap key nonce bs ct ct (.loop r) 0 ((V.alloc (.deferred (some []))).alloc (.loop r)) := by
  have hb : Below V.heap.size V ((V.alloc (.deferred (some []))).alloc (.loop r)) := xalloc (xnew V _) _
  refine ⟨⟨ad, cp, (hb.block O h1.lt).trans h1, h2.below hb⟩, (hb.block A h3.lt).trans h3, h4.below hb, ⟨h5.1.below hb, h5.2.1.below hb, h5.2.2.below hb⟩, xtrans h6 hb, ?_, ?_⟩
  · have := World.alloc_heap_new (V.alloc (.deferred (some []))) (.loop r)
    rwa [World.size_alloc] at this
  · exact (Below.heap_alloc _ _ _ (by simp)).trans (World.alloc_heap_new V _)
theorem rdb_at {w : World} {b off n c : Nat} {bs : List Nat} (h : RdB w (some ⟨b, off, none⟩) n c bs) (i : Nat) (hi : i < n) : w.cell? ⟨b, off + i, none⟩ = some (.int .u8 ((bs.getD i 0 : Nat) : Int)) := by
  rcases h.2.2.2.2.2.2 with h6 | ⟨b', off', ha, _, hc⟩
  · omega
  · cases ha
    exact hc i hi
theorem xor_u8 (x y : Nat) (hx : x < 256) (hy : y < 256) : bits .xor .u8 (x : Int) (y : Int) = ((x ^^^ y : Nat) : Int) := by
  rw [bits_xor .u8 rfl _ _ (by omega) (by show (x : Int) < 256; omega) (by omega) (by show (y : Int) < 256; omega), Int.toNat_natCast, Int.toNat_natCast]
end Go.Proofs.Ytpcppnoomogloaa.St

namespace Go.Proofs.Ytpcppnoomogloaa.St
set_option linter.unusedSimpArgs false
set_option linter.unusedVariables false
open Go.RowKit Go.Shelf Go.Proofs.Ytpcppnoomogloaa.Ch
attribute [local go_sem] Oper.semAt_some

/-- What comes back: a slice of the call's own that holds xs, and no error. -/
def XorOK (w : World) (xs : List Nat) (e : Ending) (w' : World) : Prop := ∃ ad cp, e = .returned (.tuple #[.slice ad xs.length cp, .int .i64 0]) ∧ Own w' w.heap.size (.slice ad xs.length cp) xs ∧ Below w.heap.size w w'

theorem u64conv (n : Nat) (h : n ≤ 1000000000) : IntKind.u64.wrap ((n : Int) + 64 - 1) = ((n + 63 : Nat) : Int) := by rw [IntKind.wrap_u64]; omega
set_option maxRecDepth 100000 in
set_option maxHeartbeats 4000000 in
theorem Xor_loop (w : World) (key nonce : List Nat) (ct : Nat) (a : Option Addr) (len cap : Nat) (bs : List Nat) (hk : key.length = 32) (hkb : ∀ x ∈ key, x < 256) (hn : nonce.length = 12) (hnb : ∀ x ∈ nonce, x < 256) (hct : ct < 4294967296) (hr : RdB w a len cap bs) (hlen : 0 < len) (hf : fits ct len) :
    Calls Try.prog 50 #[.agg (nv .u8 key).toArray, .int .u32 (ct : Int), .agg (nv .u8 nonce).toArray, .slice a len cap] w (XorOK w (xorS key ct nonce bs)) := by
  have hle : len ≤ 1000000000 := hr.1
  have hbl : bs.length = len := hr.2.1
  have hbb := hr.2.2.2.2.1
  have hpa : ∀ x, a = some x → 0 < len → x.block < w.heap.size := fun x hx h0 => by subst hx; exact hr.lt h0
  unfold fits at hf
  have HK := Lib.hid (show (Try.prog.info? 35).map (·.size) = some key.length by rw [hk]; kernel_rfl)
  have HN := Lib.hid (show (Try.prog.info? 62).map (·.size) = some nonce.length by rw [hn]; kernel_rfl)
  have d1 : decide (4294967296 - (ct : Int) < ((len : Int) + 63) / 64) = false := decide_eq_false (by omega)
  have d2 : ((len : Int) == 0) = false := beq_eq_false_iff_ne.2 (by omega)
  have hw1 := u64conv len hle
  refine (callsIn_wide (n := 3)).1 ?_
  refine callsIn_of_wp_marks Try.func50 rfl trivial ?_ rfl
  simp only [Try.ntmps50, List.size_toArray, List.length_cons, List.length_nil, Nat.reduceAdd, Nat.reduceSub, Array.replicate_succ, Array.replicate_zero, List.push_toArray, List.append_toArray, List.nil_append, List.cons_append]
  refine wpIn_wide.2 ?_
  have s0 : LW w [(w.heap.size + 1, 62, .u8, nonce), (w.heap.size, 35, .u8, key)] [(a, len, cap, bs)] ((w.alloc (.cells (nv .u8 key).toArray 35)).alloc (.cells (nv .u8 nonce).toArray 62)) := by
    have := (((LW.nil (xrefl w)).addR hr).new 35 .u8 key).new 62 .u8 nonce
    rw [World.size_alloc] at this
    exact this
  have bA := Boxed.new ((w.alloc (.cells (nv .u8 key).toArray 35)).alloc (.cells (nv .u8 nonce).toArray 62)) 25 (.slice a len cap)
  rw [World.size_alloc, World.size_alloc] at bA
  have s1 := s0.alloc (.cells #[.slice a len cap] 25)
  have cA := bA.cell
  have HKL := Lib.hid hk
  have HNL := Lib.hid hn
  have HBL := Lib.hid hbl
  clear hk hn hbl s0
  go_wp2_with (first
    | (refine wpList_wanted rfl (wpo_make0 (.const (.int .i64 0)) (.tmp 28) rfl len rfl rfl hle w.heap.size s1.bel.size ?_); intro w2 ho2 hg2; have s2 := s1.below (grown_below hg2 (Nat.le_refl _) (by simp)); have bA2 := bA.kept hg2 (by simp); have hM := bA.lt; have hS2 : w.heap.size + 1 + 1 < w2.heap.size := bA2.lt; clear hg2 bA cA s1 hM; generalize Array.size (World.heap (World.alloc _ _)) = M at ho2 ⊢; have bA3 := bA2.alloc (.cells #[.slice (some ⟨M, 0, none⟩) 0 len] 25); have s3 := s2.alloc (.cells #[.slice (some ⟨M, 0, none⟩) 0 len] 25); have bO3 := Boxed.new w2 25 (.slice (some ⟨M, 0, none⟩) 0 len); have ho3 := ho2.below (xnew w2 (.cells #[.slice (some ⟨M, 0, none⟩) 0 len] 25)); have cA3 := bA3.cell; have k1 := s3.blk 1 rfl; have k2 := s3.blk 0 rfl; clear s2 bA2 ho2)
    | (refine wp_load_arr rfl 35 (.tmp 4) rfl w.heap.size rfl k1 32 5 Try.underlying35 HK.out ?_)
    | (refine wp_load_arr rfl 62 (.tmp 6) rfl (w.heap.size + 1) rfl k2 12 5 Try.underlying62 HN.out ?_; clear k1 k2 cA3)
    | (go_at_call 60; refine (blocks_any _ key nonce ct).mono ?_; rintro e w4 ⟨rfl, rfl⟩)
    | fail)
  have sI := (((LW.nil (xrefl (w2.alloc (.cells #[.slice (some ⟨M, 0, none⟩) 0 len] 25)))).new 35 .u8 key).new 29 .u32 [ct]).new 62 .u8 nonce
  simp only [World.size_alloc] at sI
  have hbI := sI.bel
  refine at_world (fun V => Boxed V w2.heap.size 25 (.slice (some ⟨M, 0, none⟩) 0 len) ∧ Own V w.heap.size (.slice (some ⟨M, 0, none⟩) 0 len) [] ∧ Boxed V (w.heap.size + 1 + 1) 25 (.slice a len cap) ∧ RdB V a len cap bs ∧ Its (w2.heap.size + 1) (w2.heap.size + 1 + 1) (w2.heap.size + 1 + 1 + 1) key nonce ct V ∧ Below w.heap.size w V ∧ w2.heap.size + 1 + 1 + 1 < V.heap.size)
    ⟨(hbI.block _ bO3.lt).trans bO3, ho3.below hbI, (hbI.block _ bA3.lt).trans bA3, (s3.rd 0 rfl).below hbI, ⟨sI.blk 2 rfl, sI.blk 1 rfl, sI.blk 0 rfl⟩, xtrans s3.bel hbI, sI.lt _ List.mem_cons_self⟩ ?_
  clear bO3 ho3 bA3 s3 sI hbI
  generalize w2.heap.size = O at hS2 ⊢
  clear w2
  rintro V ⟨bO, hO, bA, hrd, hI, hB, hVl⟩
  obtain ⟨Bk, hBk⟩ : ∃ Bk, Bk = O + 1 := ⟨_, rfl⟩
  obtain ⟨Bc, hBc⟩ : ∃ Bc, Bc = O + 1 + 1 := ⟨_, rfl⟩
  obtain ⟨Bn, hBn⟩ : ∃ Bn, Bn = O + 1 + 1 + 1 := ⟨_, rfl⟩
  obtain ⟨A, hA⟩ : ∃ A, A = w.heap.size + 1 + 1 := ⟨_, rfl⟩
  rw [← hBn, ← hBc, ← hBk] at hI ⊢
  rw [← hBn] at hVl
  rw [← hA] at bA hS2 ⊢
  have hwA : w.heap.size < A := by omega
  have hkc : O < Bk ∧ Bk < Bc ∧ Bc < Bn := by omega
  clear hBk hBc hBn hA
  have d1' := d1
  clear d1 d2 hw1
  refine wpIn_wide.1 (range_law (n := 3) (m := 1) (gf := 68) (lb := #[.pointer (some ⟨Bk, 0, none⟩), .pointer (some ⟨Bc, 0, none⟩), .pointer (some ⟨Bn, 0, none⟩)]) rfl (enters_of Try.func68 (by kernel_rfl) rfl) ?_)
  intro rec hy he
  have sX := XS.start (r := rec .ready none) bO hO bA hrd hI hB
  generalize V.heap.size = D at hVl hy he sX ⊢
  generalize (V.alloc (.deferred (some []))).alloc (.loop (rec .ready none)) = W1 at sX ⊢
  clear bO hO bA hrd hI hB
  obtain ⟨N, hNd⟩ : ∃ N, N = (len + 63) / 64 := ⟨_, rfl⟩
  have hN : ct + N ≤ 4294967296 := by omega
  have hN0 : 0 < N := by omega
  refine (blocks1_in 2 (D + 1) Bk Bc Bn key nonce ct N HKL.out hkb HNL.out hnb hN
    (fun k W => k < N ∧ XS w O A Bk Bc Bn (D + 1) D a len cap key nonce bs ct (ct + k) (.loop (rec .ready none)) (64 * k) W)
    (fun k W => k + 1 < N ∧ XS w O A Bk Bc Bn (D + 1) D a len cap key nonce bs ct (ct + k) (.loop (rec .ready none)) (64 * (k + 1)) W)
    (fun W => ∃ c, XS w O A Bk Bc Bn (D + 1) D a len cap key nonce bs ct c (.loop (rec .done (some (.exit 0)))) len W)
    (fun k W h => ⟨h.1, h.2.its⟩) (fun k W h => ⟨h.1, h.2.its⟩) (fun k W W' h hb => ⟨h.1, h.2.below hb⟩)
    (fun k W h => ⟨h.1, h.2.count _ (by omega) hpa (by omega) (by omega) (by omega) (by omega) (by omega) (by omega)⟩) ?rounds W1 ⟨hN0, sX⟩).mono ?fin
  case fin =>
    rintro e W3 ⟨⟨v, rfl⟩, c, hX⟩
    refine he W3 v (.exit 0) hX.lrec ?_
    have hX2 := hX.putL (rec .exhausted (some (.exit 0))) (by omega) hpa (by omega) (by omega) (by omega) (by omega) (by omega) (by omega)
    obtain ⟨ad, cp, bO, oO⟩ := hX2.out
    have cO := bO.cell
    have hbel := hX2.bel
    have hdf := hX2.dfr
    clear hX hX2 hy he sX
    gi_wp2
    go_wp2_with fail
    refine ⟨by simp, .inl ⟨_, _, rfl, run_takeDeferred hdf, ?_⟩⟩
    have hgD := grownBy_putObj' (W3.putObj (D + 1) (.loop (rec .exhausted (some (.exit 0))))) D (.deferred none)
    have hO2 := oO.kept hgD (fun k hk => by cases hk; exact (own_ne oO hdf (fun _ _ e => by cases e)).symm)
    have hB2 := gbelow hbel hgD (by omega)
    have hxl : (xorS key ct nonce bs).length = len := by rw [xorS_length]; exact HBL.out
    refine ⟨_, results_tmp2 rfl _ _ _, ad, cp, ?_, ?_, hB2⟩
    · rw [hxl]; rfl
    · rw [hxl]; unfold xorS; rw [HBL.out]; exact hO2
  case rounds =>
    rintro k W ⟨hkN, hX⟩
    refine hy W _ _ hX.lrec ?_
    clear hy he sX W1
    simp only [List.setIfInBounds_toArray, List.set_cons_succ, List.set_cons_zero]
    have hST := Lib.hid (fun i (h : i < 64) => strm_at key ct nonce k i h)
    have hbl := block_length key (ct + k) nonce
    have hbb2 := block_lt key (ct + k) nonce
    generalize block key (ct + k) nonce = blk at hST hbl hbb2 ⊢
    have HZB := Lib.hid (show (Try.prog.info? 83).map (·.size) = some blk.length by rw [hbl]; kernel_rfl)
    have HSB := Lib.hid (show (List.replicate 64 0).length = blk.length by rw [hbl]; rfl)
    have HBK := Lib.hid hbl
    clear hbl
    have hWl : D + 1 < W.heap.size := (Array.getElem?_eq_some_iff.1 hX.lrec).1
    gi_wp2_with (first
      | (refine listIn_of rfl rfl fun K hK => wpo_store_arr 83 (.tmp 12) (.tmp 38) rfl W.heap.size rfl (Blk.new W 83 .u8 (List.replicate 64 0) _ rfl) rfl HZB.out HSB.out ?_; intro w5 hB5 hg5; refine hK _ _ ?_)
      | fail)
    have b5 : Below W.heap.size W w5 := gbelow (xnew W _) hg5 (Nat.le_refl _)
    have s5 := hX.below b5
    refine ⟨s5.lrec, ?_⟩
    have s6 := s5.putL (rec .busy none) (by omega) hpa (by omega) (by omega) (by omega) (by omega) (by omega) (by omega)
    have hB6 := hB5.grown (grownBy_putObj' w5 (D + 1) (.loop (rec .busy none))) (ne_some (by omega))
    generalize w5.putObj (D + 1) (.loop (rec .busy none)) = W6 at s6 hB6 ⊢
    clear s5 b5 hg5 hB5 w5 hX
    generalize W.heap.size = Bb at hB6 hWl ⊢
    clear W
    obtain ⟨m, hm⟩ : ∃ m, m = 64 * k := ⟨_, rfl⟩
    rw [← hm] at s6 hST
    obtain ⟨nn, hnn⟩ : ∃ nn, nn = min 64 (len - m) := ⟨_, rfl⟩
    have hml : m < len := by omega
    have hmin : (if (len : Int) - (m : Int) < 64 then (len : Int) - (m : Int) else 64) = (nn : Int) := by split <;> omega
    have hn0 : 0 < nn := by omega
    have hn64 : nn ≤ 64 := by omega
    have hmn : m + nn ≤ len := by omega
    obtain ⟨ad, cp, bO, hO⟩ := s6.out
    have cO := bO.cell
    have cA := s6.arg.cell
    obtain ⟨b0, off, ha, hlt0, hcell⟩ : ∃ b off, a = some ⟨b, off, none⟩ ∧ b < W6.heap.size ∧ ∀ i, i < len → W6.cell? ⟨b, off + i, none⟩ = some (.int .u8 ((bs.getD i 0 : Nat) : Int)) := by
      have h6 := s6.rd.2.2.2.2.2.2
      rcases h6 with h6 | h6
      · omega
      · exact h6
    have hcap : len ≤ cap := s6.rd.2.2.1
    have hcap2 : cap ≤ 9223372036854775807 := s6.rd.2.2.2.1
    have HM := Lib.hid hm
    have HNN := Lib.hid hnn
    have HA := Lib.hid ha
    have HCELL := Lib.hid hcell
    have HND := Lib.hid hNd
    clear hm hnn hcell hNd
    rw [ha] at cA
    gi_wp2_with (first
      | (refine listIn_of rfl rfl fun K hK => wpo_min (.const (.int .i64 64)) (.tmp 43) _ rfl 64 ((len : Int) - (m : Int)) (nn : Int) rfl rfl hmin (hK _ _ ?_))
      | fail)
    rw [show m + nn - m = nn by omega]
    clear cO cA bO hO
    gi_loopw [58] (fun r wr => ∃ i : Nat, i ≤ nn ∧ r = .int .i64 i ∧ XS w O A Bk Bc Bn (D + 1) D a len cap key nonce bs ct (ct + k) (.loop (rec .busy none)) (m + i) wr ∧ Blk wr Bb 83 .u8 blk) (fun r _ => nn - (intOf r).toNat)
    case atStart => exact ⟨0, Nat.zero_le _, rfl, s6, hB6⟩
    case round =>
      clear s6 hB6
      obtain ⟨i, hi, rfl, hX, hBb⟩ := hrel
      obtain ⟨ad, cp, bO, oO⟩ := hX.out
      by_cases hlt : i < nn
      · have hx := rdb_at (HA.out ▸ hX.rd) (m + i) (by omega)
        rw [← Nat.add_assoc] at hx
        have hxl := get_lt hbb (m + i)
        have hyl := get_lt hbb2 i
        have hz0 : xb key ct nonce bs (m + i) = bs.getD (m + i) 0 ^^^ blk.getD i 0 := by unfold xb; rw [hST.out i (by omega)]
        obtain ⟨z, hz⟩ : ∃ z, z = bs.getD (m + i) 0 ^^^ blk.getD i 0 := ⟨_, rfl⟩
        have hxr := xor_u8 _ _ hxl hyl
        rw [← hz] at hz0 hxr
        have hzl : z < 256 := by rw [← hz0]; exact xb_lt _ _ _ _ hbb _
        have hBC := Lib.hid (fun W' (h : Blk W' Bb 83 .u8 blk) => h.cell i (by have := HBK.out; omega))
        generalize bs.getD (m + i) 0 = x at hx hxl hxr hz
        generalize blk.getD i 0 = y at hBC hyl hxr hz
        have HZ := Lib.hid hz0.symm
        clear hz0 hz
        have hid : decide ((i : Int) < (nn : Int)) = true := decide_eq_true (by omega)
        have hi64 : (i : Int) < 64 := by omega
        gi_wp2_with fail
        refine regionIn_held (S := fun W' => Blk W' Bb 83 .u8 blk) (by kernel_rfl) (by rfl) (by rintro ⟨_, _, h⟩; exact h) (hBb.drewN 1) (fun hHeld => ?_)
        have hXv := hX.drewN 1
        have bOv : Boxed (wr.drewN 1) O 25 (.slice ad (m + i) cp) := bO
        have oOv : Own (wr.drewN 1) w.heap.size (.slice ad (m + i) cp) (xorN key ct nonce bs (m + i)) := oO
        clear hX bO oO hBb hx
        rw [show wr.drew = wr.drewN 1 from rfl] at hHeld ⊢
        generalize wr.drewN 1 = wv at hHeld hXv bOv oOv ⊢
        have bO := bOv
        have oO := oOv
        clear bOv oOv
        have cO := bO.cell
        have hHeld0 : Blk wv Bb 83 .u8 blk := hHeld
        have oA := oO.below (xnew wv (.cells #[.int .u8 (z : Int)] 5))
        have hrz := rd_new wv [z] #[.int .u8 (z : Int)] 5 (0, 0) 1 rfl rfl (by simpa using hzl) (by decide)
        have hlz : (xorN key ct nonce bs (m + i)).length + [z].length ≤ 1000000000 := by rw [xorN_length]; simp; omega
        have hbz : w.heap.size ≤ (wv.alloc (.cells #[.int .u8 (z : Int)] 5)).heap.size := by have := hXv.bel.size; simp; omega
        have cO2 := (bO.alloc (.cells #[.int .u8 (z : Int)] 5)).cell
        refine takeL (i := 1) (v := ?_) rfl rfl (by kernel_rfl) (by kernel_rfl) (by kernel_rfl) (fun _ _ _ h => h) (Or.inl ⟨by rfl, ?_⟩) (by assumption) ?_
        rotate_left
        · (intro w' hSw; go_simp; try with_reducible rfl)
        try simp only [Act.put, List.setIfInBounds_toArray, List.set_cons_zero, List.set_cons_succ]
        refine takeL (i := 2) (v := ?_) rfl rfl (by kernel_rfl) (by kernel_rfl) (by kernel_rfl) (fun _ _ _ h => h) (Or.inl ⟨by rfl, ?_⟩) (by assumption) ?_
        rotate_left
        · (intro w' hSw; go_simp; try with_reducible rfl)
        try simp only [Act.put, List.setIfInBounds_toArray, List.set_cons_zero, List.set_cons_succ]
        refine takeL (i := 3) (v := ?_) rfl rfl (by kernel_rfl) (by kernel_rfl) (by kernel_rfl) (fun _ _ _ h => h) (Or.inl ⟨by rfl, ?_⟩) (by assumption) ?_
        rotate_left
        · (intro w' hSw; go_simp; try with_reducible rfl)
        try simp only [Act.put, List.setIfInBounds_toArray, List.set_cons_zero, List.set_cons_succ]
        refine takeL (i := 4) (v := ?_) rfl rfl (by kernel_rfl) (by kernel_rfl) (by kernel_rfl) (fun _ _ _ h => h) (Or.inl ⟨by rfl, ?_⟩) (by assumption) ?_
        rotate_left
        · (intro w' hSw; have hcb := hBC.out w' hSw; go_simp; try with_reducible rfl)
        try simp only [Act.put, List.setIfInBounds_toArray, List.set_cons_zero, List.set_cons_succ]
        refine takeL (i := 5) (v := ?_) rfl rfl (by kernel_rfl) (by kernel_rfl) (by kernel_rfl) (fun _ _ _ h => h) (Or.inl ⟨by rfl, ?_⟩) (by assumption) ?_
        rotate_left
        · (intro w' hSw; go_simp; try with_reducible rfl)
        try simp only [Act.put, List.setIfInBounds_toArray, List.set_cons_zero, List.set_cons_succ]
        refine wpAnyH_ready (rs := [0, 6]) (by kernel_rfl) (by simp) ?_
        refine consL rfl (fun K hK => ?_) (consL rfl (fun K hK => ?_) AllReadyH.nil)
        · rw [if_pos (by rfl)]
          go_simp
          refine hK.out _ _ hHeld0 (fun hHeld => ?_)
          clear hK K
          try simp only [Act.put, List.setIfInBounds_toArray, List.set_cons_zero, List.set_cons_succ]
          refine wpAnyH_ready (rs := [6]) (by kernel_rfl) (by simp) ?_
          refine consL rfl (fun K hK => ?_) AllReadyH.nil
          · rw [if_pos (by rfl)]
            go_simp
            refine hK.out _ _ (hHeld0.alloc _) (fun hHeld => ?_)
            clear hK K
            try simp only [Act.put, List.setIfInBounds_toArray, List.set_cons_zero, List.set_cons_succ]
            refine wpAnyH_ready (rs := [7]) (by kernel_rfl) (by simp) ?_
            refine consL rfl (fun K hK => ?_) AllReadyH.nil
            · rw [if_pos (by rfl)]
              refine wpo_append_at (.tmp 63) (.tmp 69) rfl w.heap.size (.slice ad (m + i) cp) (xorN key ct nonce bs (m + i)) rfl oA (some ⟨wv.heap.size, 0, none⟩) 1 1 [z] rfl hrz hlz hbz ?_
              rintro v7 w7 o7 g7 _
              rw [HZ.out, ← xorN_succ] at o7
              obtain ⟨ad7, cp7, rfl, _, _⟩ := o7.rd (by rw [xorN_length]; omega)
              rw [xorN_length] at o7 ⊢
              obtain ⟨bO7, hX7⟩ := hXv.more bO oO o7 g7 (by omega) hpa (by omega) (by omega) (by omega) (by omega) (by omega) (by omega) (fun _ _ e => by cases e)
              have hB7 := (hHeld0.alloc (.cells #[.int .u8 (z : Int)] 5)).grown g7 (own_ne oA (hHeld0.alloc (.cells #[.int .u8 (z : Int)] 5)) (cells_ne (by decide)))
              refine hK.out _ _ hB7 (fun hHeld => ?_)
              clear hK K
              try simp only [Act.put, List.setIfInBounds_toArray, List.set_cons_zero, List.set_cons_succ]
              refine wpAnyH_ready (rs := [8]) (by kernel_rfl) (by simp) ?_
              refine consL rfl (fun K hK => ?_) AllReadyH.nil
              · rw [if_pos (by rfl)]
                have c7 := bO7.cell
                have f7 := bO7.frozen
                go_simp
                refine hK.out _ _ (hB7.other _ _ (by show Bb ≠ O; omega)) (fun hHeld => ?_)
                clear hK K c7 f7
                try simp only [Act.put, List.setIfInBounds_toArray, List.set_cons_zero, List.set_cons_succ]
                refine wpAnyH_done (by kernel_rfl) ?_ _
                gi_wp2
                exact ⟨⟨i + 1, by omega, by go_num, hX7, hHeld⟩, by simp [intOf]; omega⟩
        · rw [if_pos (by rfl)]
          go_simp
          refine hK.out _ _ (hHeld0.alloc _) (fun hHeld => ?_)
          clear hK K
          try simp only [Act.put, List.setIfInBounds_toArray, List.set_cons_zero, List.set_cons_succ]
          refine wpAnyH_ready (rs := [0]) (by kernel_rfl) (by simp) ?_
          refine consL rfl (fun K hK => ?_) AllReadyH.nil
          · rw [if_pos (by rfl)]
            go_simp
            refine hK.out _ _ (hHeld0.alloc _) (fun hHeld => ?_)
            clear hK K
            try simp only [Act.put, List.setIfInBounds_toArray, List.set_cons_zero, List.set_cons_succ]
            refine wpAnyH_ready (rs := [7]) (by kernel_rfl) (by simp) ?_
            refine consL rfl (fun K hK => ?_) AllReadyH.nil
            · rw [if_pos (by rfl)]
              refine wpo_append_at (.tmp 63) (.tmp 69) rfl w.heap.size (.slice ad (m + i) cp) (xorN key ct nonce bs (m + i)) rfl oA (some ⟨wv.heap.size, 0, none⟩) 1 1 [z] rfl hrz hlz hbz ?_
              rintro v7 w7 o7 g7 _
              rw [HZ.out, ← xorN_succ] at o7
              obtain ⟨ad7, cp7, rfl, _, _⟩ := o7.rd (by rw [xorN_length]; omega)
              rw [xorN_length] at o7 ⊢
              obtain ⟨bO7, hX7⟩ := hXv.more bO oO o7 g7 (by omega) hpa (by omega) (by omega) (by omega) (by omega) (by omega) (by omega) (fun _ _ e => by cases e)
              have hB7 := (hHeld0.alloc (.cells #[.int .u8 (z : Int)] 5)).grown g7 (own_ne oA (hHeld0.alloc (.cells #[.int .u8 (z : Int)] 5)) (cells_ne (by decide)))
              refine hK.out _ _ hB7 (fun hHeld => ?_)
              clear hK K
              try simp only [Act.put, List.setIfInBounds_toArray, List.set_cons_zero, List.set_cons_succ]
              refine wpAnyH_ready (rs := [8]) (by kernel_rfl) (by simp) ?_
              refine consL rfl (fun K hK => ?_) AllReadyH.nil
              · rw [if_pos (by rfl)]
                have c7 := bO7.cell
                have f7 := bO7.frozen
                go_simp
                refine hK.out _ _ (hB7.other _ _ (by show Bb ≠ O; omega)) (fun hHeld => ?_)
                clear hK K c7 f7
                try simp only [Act.put, List.setIfInBounds_toArray, List.set_cons_zero, List.set_cons_succ]
                refine wpAnyH_done (by kernel_rfl) ?_ _
                gi_wp2
                exact ⟨⟨i + 1, by omega, by go_num, hX7, hHeld⟩, by simp [intOf]; omega⟩
      · obtain rfl : i = nn := by omega
        obtain ⟨q, hq⟩ : ∃ q, q = m + i := ⟨_, rfl⟩
        rw [← hq] at hX bO oO
        have cO := bO.cell
        have cA := hX.arg.cell
        rw [HA.out] at cA
        have hid : decide ((i : Int) < (i : Int)) = false := decide_eq_false (by omega)
        have hql : q ≤ len := by omega
        have HQ := Lib.hid hq
        clear hq
        by_cases hend : q = len
        · have ht : ((q : Int) == (len : Int)) = true := beq_iff_eq.2 (by omega)
          have HE := Lib.hid hend
          clear hend
          gi_wp2
          have := hX.putL (rec .done (some (.exit 0))) (by omega) hpa (by omega) (by omega) (by omega) (by omega) (by omega) (by omega)
          rw [HE.out] at this
          exact ⟨hX.lrec, .inr ⟨rfl, _, this⟩⟩
        · have ht : ((q : Int) == (len : Int)) = false := beq_eq_false_iff_ne.2 (by omega)
          gi_wp2
          have := hX.putL (rec .ready none) (by omega) hpa (by omega) (by omega) (by omega) (by omega) (by omega) (by omega)
          have h1 := HQ.out
          have h2 := HNN.out
          have h3 := HM.out
          have h4 := HND.out
          rw [show q = 64 * (k + 1) by omega] at this
          exact ⟨hX.lrec, .inl ⟨rfl, by omega, this⟩⟩

set_option maxRecDepth 100000 in
set_option maxHeartbeats 1000000 in
theorem Xor_none (w : World) (key nonce : List Nat) (ct : Nat) (a : Option Addr) (cap : Nat) (bs : List Nat) (hct : ct < 4294967296) (hr : RdB w a 0 cap bs) :
    Calls Try.prog 50 #[.agg (nv .u8 key).toArray, .int .u32 (ct : Int), .agg (nv .u8 nonce).toArray, .slice a 0 cap] w (XorOK w []) := by
  have d1 : decide (4294967296 - (ct : Int) < 0) = false := decide_eq_false (by omega)
  have bA := Boxed.new ((w.alloc (.cells (nv .u8 key).toArray 35)).alloc (.cells (nv .u8 nonce).toArray 62)) 25 (.slice a 0 cap)
  rw [World.size_alloc, World.size_alloc] at bA
  have s1 : Below w.heap.size w (((w.alloc (.cells (nv .u8 key).toArray 35)).alloc (.cells (nv .u8 nonce).toArray 62)).alloc (.cells #[.slice a 0 cap] 25)) := xalloc (xalloc (xnew _ _) _) _
  have cA := bA.cell
  go_enter Try.func50, Try.ntmps50
  go_wp2_with (first
    | (refine wpList_wanted rfl (wpo_make0 (.const (.int .i64 0)) (.tmp 28) rfl 0 rfl rfl (by decide) w.heap.size s1.size ?_); intro w2 ho2 hg2; have bA2 := bA.kept hg2 (by simp); have s2 := xtrans s1 (grown_below hg2 (Nat.le_refl _) (by simp)); clear hg2 bA cA s1; generalize Array.size (World.heap (World.alloc _ _)) = M at ho2 ⊢; have cA3 := (bA2.alloc (.cells #[.slice (some ⟨M, 0, none⟩) 0 0] 25)).cell)
    | fail)
  go_ret2
  exact ⟨_, _, rfl, ho2.below (xnew _ _), xalloc s2 _⟩
set_option maxHeartbeats 1000000 in
theorem Xor_err (w : World) (key nonce : List Nat) (ct : Nat) (a : Option Addr) (len cap : Nat) (bs : List Nat) (hct : ct < 4294967296) (hr : RdB w a len cap bs) (hf : ¬ fits ct len) :
    Calls Try.prog 50 #[.agg (nv .u8 key).toArray, .int .u32 (ct : Int), .agg (nv .u8 nonce).toArray, .slice a len cap] w fun e w' => e = .returned (.tuple #[.slice none 0 0, .int .i64 1]) ∧ Below w.heap.size w w' := by
  have hle : len ≤ 1000000000 := hr.1
  unfold fits at hf
  have d1 : decide (4294967296 - (ct : Int) < ((len : Int) + 63) / 64) = true := decide_eq_true (by omega)
  have hw1 := u64conv len hle
  have bA := Boxed.new ((w.alloc (.cells (nv .u8 key).toArray 35)).alloc (.cells (nv .u8 nonce).toArray 62)) 25 (.slice a len cap)
  rw [World.size_alloc, World.size_alloc] at bA
  have cA := bA.cell
  go_enter Try.func50, Try.ntmps50
  go_wp2_with fail
  go_ret2
  exact ⟨rfl, xalloc (xalloc (xnew _ _) _) _⟩
theorem Xor_any (w : World) (key nonce : List Nat) (ct : Nat) (a : Option Addr) (len cap : Nat) (bs : List Nat) (hk : key.length = 32) (hkb : ∀ x ∈ key, x < 256) (hn : nonce.length = 12) (hnb : ∀ x ∈ nonce, x < 256) (hct : ct < 4294967296) (hr : RdB w a len cap bs) (hf : fits ct len) :
    Calls Try.prog 50 #[.agg (nv .u8 key).toArray, .int .u32 (ct : Int), .agg (nv .u8 nonce).toArray, .slice a len cap] w (XorOK w (xorS key ct nonce bs)) := by
  rcases Nat.eq_zero_or_pos len with rfl | h
  · obtain rfl : bs = [] := List.eq_nil_of_length_eq_zero hr.2.1
    exact Xor_none w key nonce ct a cap [] hct hr
  · exact Xor_loop w key nonce ct a len cap bs hk hkb hn hnb hct hr h hf
theorem XorOK.at {w w' : World} {xs : List Nat} {e : Ending} (h : XorOK w xs e w') {n : Nat} (hn : xs.length = n) : ∃ ad cp, e = .returned (.tuple #[.slice ad n cp, .int .i64 0]) ∧ Own w' w.heap.size (.slice ad n cp) xs ∧ Below w.heap.size w w' := by
  subst hn; exact h
end Go.Proofs.Ytpcppnoomogloaa.St
