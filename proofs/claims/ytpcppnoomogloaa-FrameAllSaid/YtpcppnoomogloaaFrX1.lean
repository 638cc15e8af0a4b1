/- The walk of Scan. -/
import Derived.Test.YtpcppnoomogloaaFrW9
set_option maxRecDepth 4000
namespace Go.Proofs.Ytpcppnoomogloaa.Fr
set_option linter.unusedSimpArgs false
set_option linter.unusedVariables false
open Go.RowKit

theorem next_pos {bs : List Nat} {p : Nat} (h : nextS bs p ≠ 0) : ∃ sz : Nat, nextS bs p = (sz : Int) ∧ 41 ≤ sz ∧ sz ≤ 4136 ∧ p + sz ≤ bs.length ∧ readB (bs.drop p) = true ∧ sizeF (readN (bs.drop p)).len = (sz : Int) := by
  unfold nextS at *
  split at h
  · rename_i hc
    have h1 := readB_size hc.1
    obtain ⟨sz, hs⟩ := Int.eq_ofNat_of_zero_le (show 0 ≤ sizeF (readN (bs.drop p)).len by omega)
    rw [if_pos hc]
    exact ⟨sz, hs, by omega, by omega, by omega, hc.1, hs⟩
  · exact absurd rfl h
/-- What was found so far. -/
def ScanL (bs : List Nat) (i p : Nat) (l : List (Hd × Nat)) : Prop := l.length = i ∧ 41 * i ≤ p ∧ p ≤ bs.length ∧ ∃ f, bs.length < f + p ∧ scanF bs = l ++ scanG f bs p
theorem ScanL.start (bs : List Nat) : ScanL bs 0 0 [] := ⟨rfl, Nat.le_refl _, Nat.zero_le _, bs.length + 1, by omega, rfl⟩
theorem ScanL.end {bs : List Nat} {i p : Nat} {l : List (Hd × Nat)} (h : ScanL bs i p l) (h0 : nextS bs p = 0) : scanF bs = l := by
  obtain ⟨_, _, hp, f, hf, he⟩ := h
  obtain ⟨f, rfl⟩ : ∃ g, f = g + 1 := ⟨f - 1, by omega⟩
  rw [he, scanG, if_neg, List.append_nil]
  intro hc
  have h1 := (readB_size hc.1).1
  unfold nextS at h0
  rw [if_pos hc] at h0
  omega
theorem ScanL.step {bs : List Nat} {i p : Nat} {l : List (Hd × Nat)} (h : ScanL bs i p l) {sz : Nat} (hn : nextS bs p = (sz : Int)) (h41 : 41 ≤ sz) : ScanL bs (i + 1) (p + sz) (l ++ [(readN (bs.drop p), p)]) := by
  obtain ⟨hl, hi, hp, f, hf, he⟩ := h
  obtain ⟨f, rfl⟩ : ∃ g, f = g + 1 := ⟨f - 1, by omega⟩
  obtain ⟨sz', h1, _, _, h4, h5, h6⟩ := next_pos (bs := bs) (p := p) (by omega)
  obtain rfl : sz' = sz := by omega
  refine ⟨by rw [List.length_append, hl]; rfl, by omega, h4, f, by omega, ?_⟩
  rw [he, scanG, if_pos ⟨h5, by rw [h6]; omega⟩, h6, Int.toNat_natCast, List.append_assoc]
  rfl
theorem wp_scope_jumps2 {P : Program} {a : Act} {w : World} {Q : Exit → Act → World → Prop} {c rest : Code} (l : Nat) (J : Act → World → Prop) (μ : Act → World → Nat) (hf : findLabel c l = some (Code.skip.seq rest))
    (pass : ∀ a w, J a w → rest.wp P (Exit.jump l (fun a' w' => J a' w' ∧ μ a' w' < μ a w) Q) a w)
    (first : (∀ a w, J a w → rest.wp P (Exit.jump l J Q) a w) → c.wp P (Exit.jump l J Q) a w) : (Code.scope c).wp P Q a w :=
  wp_scope_jumps l J μ hf (first fun a w h => Code.wp_mono (fun e a' w' q => by
    cases e with
    | goto l' => exact ⟨q.1, q.2.1⟩
    | _ => exact q) (pass a w h)) (fun a w h => wp_seq (wp_skip (pass a w h)))
noncomputable def atOf (A : Nat) (W : World) : Nat := match W.cell? ⟨A, 0, none⟩ with | some (.int _ n) => n.toNat | _ => 0
theorem atOf_eq {A n : Nat} {W : World} (h : Blk W A 3 .i64 [n]) : atOf A W = n := by
  unfold atOf
  rw [blk_one h]
  simp
theorem rows_ne {w : World} {b1 e1 s1 n b2 e2 s2 m : Nat} {v q : Value} {xs ys : List Value} (h1 : w.ownsRow b1 e1 s1 v n xs) (h2 : w.ownsRow b2 e2 s2 q m ys) (he : e1 ≠ e2) : ∀ k, v.ownBlock = some k → q.ownBlock ≠ some k := by
  intro k hv hq
  rcases h1.2 with ⟨rfl, _⟩ | ⟨g, cap, cur, rfl, _, hg, _⟩
  · simp [Value.ownBlock] at hv
  · rcases h2.2 with ⟨rfl, _⟩ | ⟨g2, cap2, cur2, rfl, _, hg2, _⟩
    · simp [Value.ownBlock] at hq
    · have e1' : g = k := by simpa [Value.ownBlock] using hv
      have e2' : g2 = k := by simpa [Value.ownBlock] using hq
      subst e1' e2'
      rw [hg] at hg2
      cases hg2
      exact he rfl
theorem lt_of_cellF {w : World} {b : Nat} {v : Value} (h : w.cell? ⟨b, 0, none⟩ = some v) : b < w.heap.size := by
  by_cases hb : b < w.heap.size
  · exact hb
  · simp [World.cell?, Array.getElem?_eq_none (by omega : w.heap.size ≤ b)] at h
def cells5 (h : Hd) : List Value := [.int .i64 h.kind, .int .i64 h.lba, .int .i64 h.len, .int .i64 h.seq, .int .i64 h.epoch]
theorem cells5_one (h : Hd) : ∀ u ∈ cells5 h, u.oneCell' = true := by
  intro u hu
  simp only [cells5, List.mem_cons, List.not_mem_nil, or_false] at hu
  rcases hu with rfl | rfl | rfl | rfl | rfl <;> rfl
theorem HBlk.news {w : World} {R : Nat} {h : Hd} (hb : HBlk w R h) : ∀ j u, (cells5 h)[j]? = some u → w.cell? ⟨R, j, none⟩ = some u := by
  intro j u hj
  have hb' : w.heap[R]? = _ := hb
  unfold World.cell?
  dsimp only
  rw [hb']
  simpa [cells5] using hj
def ScanSt (w W : World) (b : Option Addr) (lb cb : Nat) (bs : List Nat) (i p : Nat) (l : List (Hd × Nat)) (v q : Value) : Prop :=
  ScanL bs i p l ∧ W.ownsRow (w.heap.size + 1 + 1) 23 5 v i (cellsH (l.map Prod.fst)) ∧ W.ownsRow (w.heap.size + 1 + 1) 3 1 q i (nv .i64 (l.map Prod.snd)) ∧ Ae.TV W w.heap.size (.slice b lb cb) ∧ Blk W (w.heap.size + 1) 3 .i64 [p] ∧ RdB W b lb cb bs ∧ Below w.heap.size w W
def ScanOK (w : World) (bs : List Nat) (e : Ending) (w' : World) : Prop := ∃ v q n, e = .returned (.tuple #[v, q]) ∧ (scanF bs).length = n ∧ n ≤ 1000000 ∧ w'.ownsRow w.heap.size 23 5 v n (cellsH ((scanF bs).map Prod.fst)) ∧ w'.ownsRow w.heap.size 3 1 q n (nv .i64 ((scanF bs).map Prod.snd)) ∧ Below w.heap.size w w'

set_option maxRecDepth 100000 in
set_option maxHeartbeats 8000000 in
theorem Scan_any (w : World) (b : Option Addr) (lb cb : Nat) (bs : List Nat) (hr : RdB w b lb cb bs) (hlb : lb ≤ 1000000) : Calls Try.prog 25 #[.slice b lb cb] w (ScanOK w bs) := by
  have hbl : bs.length = lb := hr.2.1
  have HBL := Lib.hid hbl
  have hlow := rdb_low hr
  go_enter Try.func25, Try.ntmps25
  go_wp2_with fail
  refine wp_scope_jumps2 0 (fun a' W => ∃ (i p : Nat) (l : List (Hd × Nat)) (v q u6 u7 u8 u9 u10 u11 u12 u13 u14 u15 u16 u17 u18 u19 u20 u21 u22 u23 u24 u25 u26 u27 u28 : Value), a' = { tmps := #[.slice b lb cb, .pointer (some ⟨w.heap.size, 0, none⟩), v, q, .pointer (some ⟨w.heap.size + 1, 0, none⟩), .func (.func 44) #[] #[.pointer (some ⟨w.heap.size, 0, none⟩), .pointer (some ⟨w.heap.size + 1, 0, none⟩)], u6, u7, u8, u9, u10, u11, u12, u13, u14, u15, u16, u17, u18, u19, u20, u21, u22, u23, u24, u25, u26, u27, u28], defers := [] } ∧ ScanSt w W b lb cb bs i p l v q) (fun _ W => lb - atOf (w.heap.size + 1) W) rfl ?_ ?_
  · rintro a' W ⟨i, p, l, v, q, u6, u7, u8, u9, u10, u11, u12, u13, u14, u15, u16, u17, u18, u19, u20, u21, u22, u23, u24, u25, u26, u27, u28, rfl, hS⟩
    obtain ⟨hL, ov, oq, hT, hA, hr', bb⟩ := hS
    have hpl : p ≤ lb := by have := hL.2.2.1; omega
    have hi41 : i ≤ 100000 := by have := hL.2.1; omega
    have cN := Lib.hid (next_any W w.heap.size (w.heap.size + 1) b lb cb p bs hT hA hr' hpl)
    have HL := Lib.hid hL
    clear hL
    go_wp2_with fail
    refine cN.out.mono ?_
    rintro e2 w2 ⟨H, rfl, hH, b2⟩
    have HH := Lib.hid hH
    have ov2 := row_below ov b2
    have oq2 := row_below oq b2
    have hT2 := hT.below b2
    have hA2 := hA.below b2
    have hr2 := hr'.below b2
    have bb2 := xtrans bb b2
    have hat := atOf_eq hA
    have HAT := Lib.hid hat
    clear cN ov oq hT hA hr' bb b2 hH hat
    have hvX := fun g hg => (row_block ov2 g hg).2
    have hqX := fun g hg => (row_block oq2 g hg).2
    have hAX := hA2.lt
    have h2Z := HBlk.new w2 hd0
    have bZ := xnew w2 (.cells #[.int .i64 0, .int .i64 0, .int .i64 0, .int .i64 0, .int .i64 0] 23)
    have ov3 := row_below ov2 bZ
    have oq3 := row_below oq2 bZ
    have hT3 := hT2.below bZ
    have hA3 := hA2.below bZ
    have hr3 := hr2.below bZ
    have bb3 := xtrans bb2 bZ
    clear ov2 oq2 hT2 hA2 hr2 bb2 bZ
    by_cases hz : nextS bs p = 0
    · have HZ := Lib.hid hz
      rw [hz]
      go_wp2_with (first
        | (refine wp_store_head rfl (.tmp 6) (.tmp 12) rfl w2.heap.size rfl (h1 := H) h2Z rfl ?_; intro w4 h4 g4; have ov4 := row_kept ov3 g4 (fun k hk q => by have := Option.some.inj hk; have := hvX _ q; omega); have oq4 := row_kept oq3 g4 (fun k hk q => by have := Option.some.inj hk; have := hqX _ q; omega); have bb4 := gbelow bb3 g4 (by omega); clear ov3 oq3 hT3 hA3 hr3 bb3 h2Z)
        | fail)
      simp only [Exit.jump]
      go_ret2
      have he := HL.out.end HZ.out
      have hl := HL.out.1
      refine ⟨v, q, i, rfl, by rw [he]; exact hl, by omega, ?_, ?_, bb4⟩
      · rw [he]; exact row_mono ov4 (by omega)
      · rw [he]; exact row_mono oq4 (by omega)
    · obtain ⟨sz, hsz, h41, h4136, hend, _, _⟩ := next_pos hz
      have HN := Lib.hid (HH.out hz)
      have HSZ := Lib.hid hsz
      rw [hsz]
      have d0 : decide ((sz : Int) = 0) = false := decide_eq_false (by omega)
      have d0b : ((sz : Int) == 0) = false := by rw [beq_eq_false_iff_ne]; omega
      obtain ⟨p2, hp2⟩ : ∃ p2, p2 = p + sz := ⟨_, rfl⟩
      have hadd : (p : Int) + (sz : Int) = (p2 : Int) := by omega
      have hp2l : p2 ≤ lb := by rw [hp2, ← HBL.out]; exact hend
      have HP2 := Lib.hid hp2
      clear hz hsz hend hp2
      go_wp2_with (first
        | (refine wp_store_head rfl (.tmp 6) (.tmp 12) rfl w2.heap.size rfl (h1 := H) h2Z rfl ?_; intro w4 h4 g4; have ov4 := row_kept ov3 g4 (fun k hk q => by have := Option.some.inj hk; have := hvX _ q; omega); have oq4 := row_kept oq3 g4 (fun k hk q => by have := Option.some.inj hk; have := hqX _ q; omega); have hT4 := hT3.grown g4 (fun e => by have := Option.some.inj e; omega); have hA4 := hA3.grown g4 (fun e => by have := Option.some.inj e; omega); have hr4 := rdb_grownM hr3 g4 (fun x hx h0 e => by have := Option.some.inj e; have := hlow x hx h0; omega); have bb4 := gbelow bb3 g4 (by omega); clear ov3 oq3 hT3 hA3 hr3 bb3 h2Z; generalize w2.heap.size = X at h4 g4 hvX hqX hAX ⊢; clear g4)
        | fail)
      refine wp_region_held_drew (S := fun W => HBlk W X H ∧ Ae.TV W w.heap.size (.slice b lb cb) ∧ Blk W (w.heap.size + 1) 3 .i64 [p] ∧ RdB W b lb cb bs ∧ Below w.heap.size w W) (by kernel_rfl) (⟨h4.drew, hT4, hA4.drewN 1, hr4, below_drewN bb4 1⟩) (fun hHeld => ?_)
      have ov5 := World.ownsRow.drew ov4
      have oq5 := World.ownsRow.drew oq4
      generalize World.drew _ = wv at hHeld ov5 oq5 ⊢
      clear h4 hT4 hA4 hr4 bb4 ov4 oq4
      refine takeL (i := 0) (v := ?_) rfl rfl (by kernel_rfl) (by kernel_rfl) (by kernel_rfl) (fun _ _ _ h => h) (Or.inl ⟨by rfl, ?_⟩) (by assumption) ?_
      rotate_left
      · (intro w' hSw; go_simp; try with_reducible rfl)
      try simp only [Act.put, List.setIfInBounds_toArray, List.set_cons_zero, List.set_cons_succ]
      refine takeL (i := 1) (v := .agg #[.int .i64 H.kind, .int .i64 H.lba, .int .i64 H.len, .int .i64 H.seq, .int .i64 H.epoch]) rfl rfl (by kernel_rfl) (by kernel_rfl) (by kernel_rfl) (fun _ _ _ h => h) (yieldsHead (.tmp 6) (by rfl) rfl X (by rfl) (fun _ h => h.1)) (by assumption) ?_
      try simp only [Act.put, List.setIfInBounds_toArray, List.set_cons_zero, List.set_cons_succ]
      refine takeL (i := 4) (v := ?_) rfl rfl (by kernel_rfl) (by kernel_rfl) (by kernel_rfl) (fun _ _ _ h => h) (Or.inl ⟨by rfl, ?_⟩) (by assumption) ?_
      rotate_left
      · (intro w' hSw; go_simp; try with_reducible rfl)
      try simp only [Act.put, List.setIfInBounds_toArray, List.set_cons_zero, List.set_cons_succ]
      refine takeL (i := 5) (v := .int .i64 (p : Int)) rfl rfl (by kernel_rfl) (by kernel_rfl) (by kernel_rfl) (fun _ _ _ h => h) (Or.inl ⟨by rfl, ?_⟩) (by assumption) ?_
      · (intro w' hSw; have hh := blk_one hSw.2.2.1; go_simp; try with_reducible rfl)
      try simp only [Act.put, List.setIfInBounds_toArray, List.set_cons_zero, List.set_cons_succ]
      refine wpAnyH_ready (rs := [2, 6]) (by kernel_rfl) (by simp) ?_
      refine consL rfl (fun K hK => ?_) (consL rfl (fun K hK => ?_) AllReadyH.nil)
      · rw [if_pos (by rfl)]
        go_simp
        have bL11 := xnew wv (.cells #[.int .i64 H.kind, .int .i64 H.lba, .int .i64 H.len, .int .i64 H.seq, .int .i64 H.epoch] 23)
        have hc11 : HBlk (wv.alloc (.cells #[.int .i64 H.kind, .int .i64 H.lba, .int .i64 H.len, .int .i64 H.seq, .int .i64 H.epoch] 23)) wv.heap.size H := HBlk.new wv H
        have ov11 := row_below ov5 bL11
        have oq11 := row_below oq5 bL11
        have hX11 := hHeld.1.lt
        have hl11 : (fun W => HBlk W X H ∧ Ae.TV W w.heap.size (.slice b lb cb) ∧ Blk W (w.heap.size + 1) 3 .i64 [p] ∧ RdB W b lb cb bs ∧ Below w.heap.size w W) (wv.alloc (.cells #[.int .i64 H.kind, .int .i64 H.lba, .int .i64 H.len, .int .i64 H.seq, .int .i64 H.epoch] 23)) := ⟨hHeld.1.alloc (.cells #[.int .i64 H.kind, .int .i64 H.lba, .int .i64 H.len, .int .i64 H.seq, .int .i64 H.epoch] 23), hHeld.2.1.below (xnew wv (.cells #[.int .i64 H.kind, .int .i64 H.lba, .int .i64 H.len, .int .i64 H.seq, .int .i64 H.epoch] 23)), hHeld.2.2.1.alloc (.cells #[.int .i64 H.kind, .int .i64 H.lba, .int .i64 H.len, .int .i64 H.seq, .int .i64 H.epoch] 23), hHeld.2.2.2.1.below (xnew wv (.cells #[.int .i64 H.kind, .int .i64 H.lba, .int .i64 H.len, .int .i64 H.seq, .int .i64 H.epoch] 23)), xalloc hHeld.2.2.2.2 (.cells #[.int .i64 H.kind, .int .i64 H.lba, .int .i64 H.len, .int .i64 H.seq, .int .i64 H.epoch] 23)⟩
        generalize wv.heap.size = RH at hc11 hX11 ⊢
        change K _ (wv.alloc (.cells #[.int .i64 H.kind, .int .i64 H.lba, .int .i64 H.len, .int .i64 H.seq, .int .i64 H.epoch] 23))
        clear bL11
        generalize wv.alloc (.cells #[.int .i64 H.kind, .int .i64 H.lba, .int .i64 H.len, .int .i64 H.seq, .int .i64 H.epoch] 23) = w71 at hc11 hl11 ov11 oq11  ⊢
        refine hK.out _ _ (hl11) (fun hHeld => ?_)
        clear hK K
        try simp only [Act.put, List.setIfInBounds_toArray, List.set_cons_zero, List.set_cons_succ]
        refine wpAnyH_ready (rs := [3, 6]) (by kernel_rfl) (by simp) ?_
        refine consL rfl (fun K hK => ?_) (consL rfl (fun K hK => ?_) AllReadyH.nil)
        · rw [if_pos (by rfl)]
          refine wpo_append_one rowH (.tmp 18) (.tmp 20) rfl (w.heap.size + 1 + 1) v i (cellsH (l.map Prod.fst)) rfl ov11 RH 1 (cells5 H) rfl rfl hc11.news (cells5_one H) (by omega) (by decide) (by have := hHeld.2.2.1.lt; omega) ?_
          intro v72 w72 o12 g12 _
          rw [show cellsH (l.map Prod.fst) ++ cells5 H = _ from cellsH_snoc _ H] at o12
          have x12 := row_kept oq11 g12 (fun k hk q => rows_ne ov11 oq11 (by decide) k hk q)
          refine hK.out _ _ (⟨hHeld.1.grown g12 (fun e => by have := hvX _ e.symm; omega), hHeld.2.1.grown g12 (fun e => by have := (row_block ov11 _ e.symm).1; omega), hHeld.2.2.1.grown g12 (fun e => by have := (row_block ov11 _ e.symm).1; omega), rdb_grownM hHeld.2.2.2.1 g12 (fun x hx h0 e => by have := (row_block ov11 _ e).1; have := hlow x hx h0; omega), hHeld.2.2.2.2.grown g12 hHeld.2.2.2.2.size (fun g hg => by have := (row_block ov11 g hg).1; omega)⟩) (fun hHeld => ?_)
          clear hK K
          try simp only [Act.put, List.setIfInBounds_toArray, List.set_cons_zero, List.set_cons_succ]
          refine wpAnyH_ready (rs := [6]) (by kernel_rfl) (by simp) ?_
          refine consL rfl (fun K hK => ?_) AllReadyH.nil
          · rw [if_pos (by rfl)]
            go_simp
            have bL13 := xnew w72 (.cells #[.int .i64 (p : Int)] 3)
            have hc13 := cell_new0 w72 (.int .i64 (p : Int)) 3 (0, 0)
            have ov13 := row_below o12 bL13
            have oq13 := row_below x12 bL13
            have hX13 := hHeld.1.lt
            have hl13 : (fun W => HBlk W X H ∧ Ae.TV W w.heap.size (.slice b lb cb) ∧ Blk W (w.heap.size + 1) 3 .i64 [p] ∧ RdB W b lb cb bs ∧ Below w.heap.size w W) (w72.alloc (.cells #[.int .i64 (p : Int)] 3)) := ⟨hHeld.1.alloc (.cells #[.int .i64 (p : Int)] 3), hHeld.2.1.below (xnew w72 (.cells #[.int .i64 (p : Int)] 3)), hHeld.2.2.1.alloc (.cells #[.int .i64 (p : Int)] 3), hHeld.2.2.2.1.below (xnew w72 (.cells #[.int .i64 (p : Int)] 3)), xalloc hHeld.2.2.2.2 (.cells #[.int .i64 (p : Int)] 3)⟩
            generalize w72.heap.size = RI at hc13 hX13 ⊢
            change K _ (w72.alloc (.cells #[.int .i64 (p : Int)] 3))
            clear bL13
            generalize w72.alloc (.cells #[.int .i64 (p : Int)] 3) = w73 at hc13 hl13 ov13 oq13  ⊢
            refine hK.out _ _ (hl13) (fun hHeld => ?_)
            clear hK K
            try simp only [Act.put, List.setIfInBounds_toArray, List.set_cons_zero, List.set_cons_succ]
            refine wpAnyH_ready (rs := [7]) (by kernel_rfl) (by simp) ?_
            refine consL rfl (fun K hK => ?_) AllReadyH.nil
            · rw [if_pos (by rfl)]
              refine wpo_append_one rowI (.tmp 22) (.tmp 24) rfl (w.heap.size + 1 + 1) q i (nv .i64 (l.map Prod.snd)) rfl oq13 RI 1 [.int .i64 (p : Int)] rfl rfl (news_one hc13) (one_int _ _) (by omega) (by decide) (by have := hHeld.2.2.1.lt; omega) ?_
              intro v74 w74 o14 g14 _
              rw [nv_snoc] at o14
              have x14 := row_kept ov13 g14 (fun k hk q => rows_ne oq13 ov13 (by decide) k hk q)
              refine hK.out _ _ (⟨hHeld.1.grown g14 (fun e => by have := hqX _ e.symm; omega), hHeld.2.1.grown g14 (fun e => by have := (row_block oq13 _ e.symm).1; omega), hHeld.2.2.1.grown g14 (fun e => by have := (row_block oq13 _ e.symm).1; omega), rdb_grownM hHeld.2.2.2.1 g14 (fun x hx h0 e => by have := (row_block oq13 _ e).1; have := hlow x hx h0; omega), hHeld.2.2.2.2.grown g14 hHeld.2.2.2.2.size (fun g hg => by have := (row_block oq13 g hg).1; omega)⟩) (fun hHeld => ?_)
              clear hK K
              try simp only [Act.put, List.setIfInBounds_toArray, List.set_cons_zero, List.set_cons_succ]
              refine takeL (i := 8) (v := ?_) rfl rfl (by kernel_rfl) (by kernel_rfl) (by kernel_rfl) (fun _ _ _ h => h) (Or.inl ⟨by rfl, ?_⟩) (by assumption) ?_
              rotate_left
              · (intro w' hSw; go_simp; try with_reducible rfl)
              try simp only [Act.put, List.setIfInBounds_toArray, List.set_cons_zero, List.set_cons_succ]
              refine takeL (i := 9) (v := ?_) rfl rfl (by kernel_rfl) (by kernel_rfl) (by kernel_rfl) (fun _ _ _ h => h) (Or.inl ⟨by rfl, ?_⟩) (by assumption) ?_
              rotate_left
              · (intro w' hSw; go_simp; try with_reducible rfl)
              try simp only [Act.put, List.setIfInBounds_toArray, List.set_cons_zero, List.set_cons_succ]
              refine wpAnyH_done (by kernel_rfl) ?_ _
              have hc1 := blk_one hHeld.2.2.1
              have hf1 := hHeld.2.2.1.frozen 0
              obtain ⟨w8, hW8⟩ : ∃ w8, w74.setCell ⟨w.heap.size + 1, 0, none⟩ (.int .i64 ((p2 : Nat) : Int)) = w8 := ⟨_, rfl⟩
              have gS : w74.grownBy (w74.setCell ⟨w.heap.size + 1, 0, none⟩ (.int .i64 ((p2 : Nat) : Int))) (some (w.heap.size + 1)) := gset (B := w.heap.size + 1) ⟨rfl, rfl, rfl, Nat.le_refl _, fun _ _ _ => rfl⟩ 0 _
              have hA8 : Blk _ (w.heap.size + 1) 3 .i64 [p2] := hHeld.2.2.1.set 0 p2
              rw [hW8] at gS hA8
              have ov8 := row_kept x14 gS (fun k hk q => by have := Option.some.inj hk; have := (row_block x14 _ q).1; omega)
              have oq8 := row_kept o14 gS (fun k hk q => by have := Option.some.inj hk; have := (row_block o14 _ q).1; omega)
              have hT8 := hHeld.2.1.grown gS (fun e => by have := Option.some.inj e; omega)
              have hr8 := rdb_grownM hHeld.2.2.2.1 gS (fun x hx h0 e => by have := Option.some.inj e; have := hlow x hx h0; omega)
              have bb8 := gbelow hHeld.2.2.2.2 gS (by omega)
              clear hHeld gS
              go_wp2_with fail
              go_step3
              refine ⟨rfl, ⟨i + 1, p2, l ++ [(H, p)], v72, v74, _, _, _, _, _, _, _, _, _, _, _, _, _, _, _, _, _, _, _, _, _, _, _, rfl, ?_, ?_, ?_, hT8, hA8, hr8, bb8⟩, ?_⟩
              · rw [HP2.out, HN.out]; exact HL.out.step HSZ.out h41
              · rw [List.map_append]; exact ov8
              · rw [List.map_append]; exact oq8
              · show lb - atOf (w.heap.size + 1) w8 < lb - atOf (w.heap.size + 1) W
                rw [atOf_eq hA8, HAT.out]
                have := HP2.out
                omega
        · rw [if_pos (by rfl)]
          go_simp
          have bL12 := xnew w71 (.cells #[.int .i64 (p : Int)] 3)
          have hc12 := cell_new0 w71 (.int .i64 (p : Int)) 3 (0, 0)
          have ov12 := row_below ov11 bL12
          have oq12 := row_below oq11 bL12
          have hh12 := hc11.below bL12
          have hX12 := hHeld.1.lt
          have hl12 : (fun W => HBlk W X H ∧ Ae.TV W w.heap.size (.slice b lb cb) ∧ Blk W (w.heap.size + 1) 3 .i64 [p] ∧ RdB W b lb cb bs ∧ Below w.heap.size w W) (w71.alloc (.cells #[.int .i64 (p : Int)] 3)) := ⟨hHeld.1.alloc (.cells #[.int .i64 (p : Int)] 3), hHeld.2.1.below (xnew w71 (.cells #[.int .i64 (p : Int)] 3)), hHeld.2.2.1.alloc (.cells #[.int .i64 (p : Int)] 3), hHeld.2.2.2.1.below (xnew w71 (.cells #[.int .i64 (p : Int)] 3)), xalloc hHeld.2.2.2.2 (.cells #[.int .i64 (p : Int)] 3)⟩
          generalize w71.heap.size = RI at hc12 hX12 ⊢
          change K _ (w71.alloc (.cells #[.int .i64 (p : Int)] 3))
          clear bL12
          generalize w71.alloc (.cells #[.int .i64 (p : Int)] 3) = w72 at hc12 hl12 ov12 oq12 hh12 ⊢
          refine hK.out _ _ (hl12) (fun hHeld => ?_)
          clear hK K
          try simp only [Act.put, List.setIfInBounds_toArray, List.set_cons_zero, List.set_cons_succ]
          refine wpAnyH_ready (rs := [3]) (by kernel_rfl) (by simp) ?_
          refine consL rfl (fun K hK => ?_) AllReadyH.nil
          · rw [if_pos (by rfl)]
            refine wpo_append_one rowH (.tmp 18) (.tmp 20) rfl (w.heap.size + 1 + 1) v i (cellsH (l.map Prod.fst)) rfl ov12 RH 1 (cells5 H) rfl rfl hh12.news (cells5_one H) (by omega) (by decide) (by have := hHeld.2.2.1.lt; omega) ?_
            intro v73 w73 o13 g13 _
            rw [show cellsH (l.map Prod.fst) ++ cells5 H = _ from cellsH_snoc _ H] at o13
            have x13 := row_kept oq12 g13 (fun k hk q => rows_ne ov12 oq12 (by decide) k hk q)
            have y13 := g13.cell hc12 (fun e => by have h9 : RI < X := hvX _ e.symm; have := hX12; omega)
            refine hK.out _ _ (⟨hHeld.1.grown g13 (fun e => by have := hvX _ e.symm; omega), hHeld.2.1.grown g13 (fun e => by have := (row_block ov12 _ e.symm).1; omega), hHeld.2.2.1.grown g13 (fun e => by have := (row_block ov12 _ e.symm).1; omega), rdb_grownM hHeld.2.2.2.1 g13 (fun x hx h0 e => by have := (row_block ov12 _ e).1; have := hlow x hx h0; omega), hHeld.2.2.2.2.grown g13 hHeld.2.2.2.2.size (fun g hg => by have := (row_block ov12 g hg).1; omega)⟩) (fun hHeld => ?_)
            clear hK K
            try simp only [Act.put, List.setIfInBounds_toArray, List.set_cons_zero, List.set_cons_succ]
            refine wpAnyH_ready (rs := [7]) (by kernel_rfl) (by simp) ?_
            refine consL rfl (fun K hK => ?_) AllReadyH.nil
            · rw [if_pos (by rfl)]
              refine wpo_append_one rowI (.tmp 22) (.tmp 24) rfl (w.heap.size + 1 + 1) q i (nv .i64 (l.map Prod.snd)) rfl x13 RI 1 [.int .i64 (p : Int)] rfl rfl (news_one y13) (one_int _ _) (by omega) (by decide) (by have := hHeld.2.2.1.lt; omega) ?_
              intro v74 w74 o14 g14 _
              rw [nv_snoc] at o14
              have x14 := row_kept o13 g14 (fun k hk q => rows_ne x13 o13 (by decide) k hk q)
              refine hK.out _ _ (⟨hHeld.1.grown g14 (fun e => by have := hqX _ e.symm; omega), hHeld.2.1.grown g14 (fun e => by have := (row_block x13 _ e.symm).1; omega), hHeld.2.2.1.grown g14 (fun e => by have := (row_block x13 _ e.symm).1; omega), rdb_grownM hHeld.2.2.2.1 g14 (fun x hx h0 e => by have := (row_block x13 _ e).1; have := hlow x hx h0; omega), hHeld.2.2.2.2.grown g14 hHeld.2.2.2.2.size (fun g hg => by have := (row_block x13 g hg).1; omega)⟩) (fun hHeld => ?_)
              clear hK K
              try simp only [Act.put, List.setIfInBounds_toArray, List.set_cons_zero, List.set_cons_succ]
              refine takeL (i := 8) (v := ?_) rfl rfl (by kernel_rfl) (by kernel_rfl) (by kernel_rfl) (fun _ _ _ h => h) (Or.inl ⟨by rfl, ?_⟩) (by assumption) ?_
              rotate_left
              · (intro w' hSw; go_simp; try with_reducible rfl)
              try simp only [Act.put, List.setIfInBounds_toArray, List.set_cons_zero, List.set_cons_succ]
              refine takeL (i := 9) (v := ?_) rfl rfl (by kernel_rfl) (by kernel_rfl) (by kernel_rfl) (fun _ _ _ h => h) (Or.inl ⟨by rfl, ?_⟩) (by assumption) ?_
              rotate_left
              · (intro w' hSw; go_simp; try with_reducible rfl)
              try simp only [Act.put, List.setIfInBounds_toArray, List.set_cons_zero, List.set_cons_succ]
              refine wpAnyH_done (by kernel_rfl) ?_ _
              have hc1 := blk_one hHeld.2.2.1
              have hf1 := hHeld.2.2.1.frozen 0
              obtain ⟨w8, hW8⟩ : ∃ w8, w74.setCell ⟨w.heap.size + 1, 0, none⟩ (.int .i64 ((p2 : Nat) : Int)) = w8 := ⟨_, rfl⟩
              have gS : w74.grownBy (w74.setCell ⟨w.heap.size + 1, 0, none⟩ (.int .i64 ((p2 : Nat) : Int))) (some (w.heap.size + 1)) := gset (B := w.heap.size + 1) ⟨rfl, rfl, rfl, Nat.le_refl _, fun _ _ _ => rfl⟩ 0 _
              have hA8 : Blk _ (w.heap.size + 1) 3 .i64 [p2] := hHeld.2.2.1.set 0 p2
              rw [hW8] at gS hA8
              have ov8 := row_kept x14 gS (fun k hk q => by have := Option.some.inj hk; have := (row_block x14 _ q).1; omega)
              have oq8 := row_kept o14 gS (fun k hk q => by have := Option.some.inj hk; have := (row_block o14 _ q).1; omega)
              have hT8 := hHeld.2.1.grown gS (fun e => by have := Option.some.inj e; omega)
              have hr8 := rdb_grownM hHeld.2.2.2.1 gS (fun x hx h0 e => by have := Option.some.inj e; have := hlow x hx h0; omega)
              have bb8 := gbelow hHeld.2.2.2.2 gS (by omega)
              clear hHeld gS
              go_wp2_with fail
              go_step3
              refine ⟨rfl, ⟨i + 1, p2, l ++ [(H, p)], v73, v74, _, _, _, _, _, _, _, _, _, _, _, _, _, _, _, _, _, _, _, _, _, _, _, rfl, ?_, ?_, ?_, hT8, hA8, hr8, bb8⟩, ?_⟩
              · rw [HP2.out, HN.out]; exact HL.out.step HSZ.out h41
              · rw [List.map_append]; exact ov8
              · rw [List.map_append]; exact oq8
              · show lb - atOf (w.heap.size + 1) w8 < lb - atOf (w.heap.size + 1) W
                rw [atOf_eq hA8, HAT.out]
                have := HP2.out
                omega
      · rw [if_pos (by rfl)]
        go_simp
        have bL11 := xnew wv (.cells #[.int .i64 (p : Int)] 3)
        have hc11 := cell_new0 wv (.int .i64 (p : Int)) 3 (0, 0)
        have ov11 := row_below ov5 bL11
        have oq11 := row_below oq5 bL11
        have hX11 := hHeld.1.lt
        have hl11 : (fun W => HBlk W X H ∧ Ae.TV W w.heap.size (.slice b lb cb) ∧ Blk W (w.heap.size + 1) 3 .i64 [p] ∧ RdB W b lb cb bs ∧ Below w.heap.size w W) (wv.alloc (.cells #[.int .i64 (p : Int)] 3)) := ⟨hHeld.1.alloc (.cells #[.int .i64 (p : Int)] 3), hHeld.2.1.below (xnew wv (.cells #[.int .i64 (p : Int)] 3)), hHeld.2.2.1.alloc (.cells #[.int .i64 (p : Int)] 3), hHeld.2.2.2.1.below (xnew wv (.cells #[.int .i64 (p : Int)] 3)), xalloc hHeld.2.2.2.2 (.cells #[.int .i64 (p : Int)] 3)⟩
        generalize wv.heap.size = RI at hc11 hX11 ⊢
        change K _ (wv.alloc (.cells #[.int .i64 (p : Int)] 3))
        clear bL11
        generalize wv.alloc (.cells #[.int .i64 (p : Int)] 3) = w71 at hc11 hl11 ov11 oq11  ⊢
        refine hK.out _ _ (hl11) (fun hHeld => ?_)
        clear hK K
        try simp only [Act.put, List.setIfInBounds_toArray, List.set_cons_zero, List.set_cons_succ]
        refine wpAnyH_ready (rs := [2]) (by kernel_rfl) (by simp) ?_
        refine consL rfl (fun K hK => ?_) AllReadyH.nil
        · rw [if_pos (by rfl)]
          go_simp
          have bL12 := xnew w71 (.cells #[.int .i64 H.kind, .int .i64 H.lba, .int .i64 H.len, .int .i64 H.seq, .int .i64 H.epoch] 23)
          have hc12 : HBlk (w71.alloc (.cells #[.int .i64 H.kind, .int .i64 H.lba, .int .i64 H.len, .int .i64 H.seq, .int .i64 H.epoch] 23)) w71.heap.size H := HBlk.new w71 H
          have ov12 := row_below ov11 bL12
          have oq12 := row_below oq11 bL12
          have hi12 := (bL12.cell (p := ⟨RI, 0, none⟩) (lt_of_cellF hc11)).trans hc11
          have hX12 := hHeld.1.lt
          have hl12 : (fun W => HBlk W X H ∧ Ae.TV W w.heap.size (.slice b lb cb) ∧ Blk W (w.heap.size + 1) 3 .i64 [p] ∧ RdB W b lb cb bs ∧ Below w.heap.size w W) (w71.alloc (.cells #[.int .i64 H.kind, .int .i64 H.lba, .int .i64 H.len, .int .i64 H.seq, .int .i64 H.epoch] 23)) := ⟨hHeld.1.alloc (.cells #[.int .i64 H.kind, .int .i64 H.lba, .int .i64 H.len, .int .i64 H.seq, .int .i64 H.epoch] 23), hHeld.2.1.below (xnew w71 (.cells #[.int .i64 H.kind, .int .i64 H.lba, .int .i64 H.len, .int .i64 H.seq, .int .i64 H.epoch] 23)), hHeld.2.2.1.alloc (.cells #[.int .i64 H.kind, .int .i64 H.lba, .int .i64 H.len, .int .i64 H.seq, .int .i64 H.epoch] 23), hHeld.2.2.2.1.below (xnew w71 (.cells #[.int .i64 H.kind, .int .i64 H.lba, .int .i64 H.len, .int .i64 H.seq, .int .i64 H.epoch] 23)), xalloc hHeld.2.2.2.2 (.cells #[.int .i64 H.kind, .int .i64 H.lba, .int .i64 H.len, .int .i64 H.seq, .int .i64 H.epoch] 23)⟩
          generalize w71.heap.size = RH at hc12 hX12 ⊢
          change K _ (w71.alloc (.cells #[.int .i64 H.kind, .int .i64 H.lba, .int .i64 H.len, .int .i64 H.seq, .int .i64 H.epoch] 23))
          clear bL12
          generalize w71.alloc (.cells #[.int .i64 H.kind, .int .i64 H.lba, .int .i64 H.len, .int .i64 H.seq, .int .i64 H.epoch] 23) = w72 at hc12 hl12 ov12 oq12 hi12 ⊢
          refine hK.out _ _ (hl12) (fun hHeld => ?_)
          clear hK K
          try simp only [Act.put, List.setIfInBounds_toArray, List.set_cons_zero, List.set_cons_succ]
          refine wpAnyH_ready (rs := [3]) (by kernel_rfl) (by simp) ?_
          refine consL rfl (fun K hK => ?_) AllReadyH.nil
          · rw [if_pos (by rfl)]
            refine wpo_append_one rowH (.tmp 18) (.tmp 20) rfl (w.heap.size + 1 + 1) v i (cellsH (l.map Prod.fst)) rfl ov12 RH 1 (cells5 H) rfl rfl hc12.news (cells5_one H) (by omega) (by decide) (by have := hHeld.2.2.1.lt; omega) ?_
            intro v73 w73 o13 g13 _
            rw [show cellsH (l.map Prod.fst) ++ cells5 H = _ from cellsH_snoc _ H] at o13
            have x13 := row_kept oq12 g13 (fun k hk q => rows_ne ov12 oq12 (by decide) k hk q)
            have y13 := g13.cell hi12 (fun e => by have h9 : RI < X := hvX _ e.symm; have := hX11; omega)
            refine hK.out _ _ (⟨hHeld.1.grown g13 (fun e => by have := hvX _ e.symm; omega), hHeld.2.1.grown g13 (fun e => by have := (row_block ov12 _ e.symm).1; omega), hHeld.2.2.1.grown g13 (fun e => by have := (row_block ov12 _ e.symm).1; omega), rdb_grownM hHeld.2.2.2.1 g13 (fun x hx h0 e => by have := (row_block ov12 _ e).1; have := hlow x hx h0; omega), hHeld.2.2.2.2.grown g13 hHeld.2.2.2.2.size (fun g hg => by have := (row_block ov12 g hg).1; omega)⟩) (fun hHeld => ?_)
            clear hK K
            try simp only [Act.put, List.setIfInBounds_toArray, List.set_cons_zero, List.set_cons_succ]
            refine wpAnyH_ready (rs := [7]) (by kernel_rfl) (by simp) ?_
            refine consL rfl (fun K hK => ?_) AllReadyH.nil
            · rw [if_pos (by rfl)]
              refine wpo_append_one rowI (.tmp 22) (.tmp 24) rfl (w.heap.size + 1 + 1) q i (nv .i64 (l.map Prod.snd)) rfl x13 RI 1 [.int .i64 (p : Int)] rfl rfl (news_one y13) (one_int _ _) (by omega) (by decide) (by have := hHeld.2.2.1.lt; omega) ?_
              intro v74 w74 o14 g14 _
              rw [nv_snoc] at o14
              have x14 := row_kept o13 g14 (fun k hk q => rows_ne x13 o13 (by decide) k hk q)
              refine hK.out _ _ (⟨hHeld.1.grown g14 (fun e => by have := hqX _ e.symm; omega), hHeld.2.1.grown g14 (fun e => by have := (row_block x13 _ e.symm).1; omega), hHeld.2.2.1.grown g14 (fun e => by have := (row_block x13 _ e.symm).1; omega), rdb_grownM hHeld.2.2.2.1 g14 (fun x hx h0 e => by have := (row_block x13 _ e).1; have := hlow x hx h0; omega), hHeld.2.2.2.2.grown g14 hHeld.2.2.2.2.size (fun g hg => by have := (row_block x13 g hg).1; omega)⟩) (fun hHeld => ?_)
              clear hK K
              try simp only [Act.put, List.setIfInBounds_toArray, List.set_cons_zero, List.set_cons_succ]
              refine takeL (i := 8) (v := ?_) rfl rfl (by kernel_rfl) (by kernel_rfl) (by kernel_rfl) (fun _ _ _ h => h) (Or.inl ⟨by rfl, ?_⟩) (by assumption) ?_
              rotate_left
              · (intro w' hSw; go_simp; try with_reducible rfl)
              try simp only [Act.put, List.setIfInBounds_toArray, List.set_cons_zero, List.set_cons_succ]
              refine takeL (i := 9) (v := ?_) rfl rfl (by kernel_rfl) (by kernel_rfl) (by kernel_rfl) (fun _ _ _ h => h) (Or.inl ⟨by rfl, ?_⟩) (by assumption) ?_
              rotate_left
              · (intro w' hSw; go_simp; try with_reducible rfl)
              try simp only [Act.put, List.setIfInBounds_toArray, List.set_cons_zero, List.set_cons_succ]
              refine wpAnyH_done (by kernel_rfl) ?_ _
              have hc1 := blk_one hHeld.2.2.1
              have hf1 := hHeld.2.2.1.frozen 0
              obtain ⟨w8, hW8⟩ : ∃ w8, w74.setCell ⟨w.heap.size + 1, 0, none⟩ (.int .i64 ((p2 : Nat) : Int)) = w8 := ⟨_, rfl⟩
              have gS : w74.grownBy (w74.setCell ⟨w.heap.size + 1, 0, none⟩ (.int .i64 ((p2 : Nat) : Int))) (some (w.heap.size + 1)) := gset (B := w.heap.size + 1) ⟨rfl, rfl, rfl, Nat.le_refl _, fun _ _ _ => rfl⟩ 0 _
              have hA8 : Blk _ (w.heap.size + 1) 3 .i64 [p2] := hHeld.2.2.1.set 0 p2
              rw [hW8] at gS hA8
              have ov8 := row_kept x14 gS (fun k hk q => by have := Option.some.inj hk; have := (row_block x14 _ q).1; omega)
              have oq8 := row_kept o14 gS (fun k hk q => by have := Option.some.inj hk; have := (row_block o14 _ q).1; omega)
              have hT8 := hHeld.2.1.grown gS (fun e => by have := Option.some.inj e; omega)
              have hr8 := rdb_grownM hHeld.2.2.2.1 gS (fun x hx h0 e => by have := Option.some.inj e; have := hlow x hx h0; omega)
              have bb8 := gbelow hHeld.2.2.2.2 gS (by omega)
              clear hHeld gS
              go_wp2_with fail
              go_step3
              refine ⟨rfl, ⟨i + 1, p2, l ++ [(H, p)], v73, v74, _, _, _, _, _, _, _, _, _, _, _, _, _, _, _, _, _, _, _, _, _, _, _, rfl, ?_, ?_, ?_, hT8, hA8, hr8, bb8⟩, ?_⟩
              · rw [HP2.out, HN.out]; exact HL.out.step HSZ.out h41
              · rw [List.map_append]; exact ov8
              · rw [List.map_append]; exact oq8
              · show lb - atOf (w.heap.size + 1) w8 < lb - atOf (w.heap.size + 1) W
                rw [atOf_eq hA8, HAT.out]
                have := HP2.out
                omega
  · intro hweak
    have bB := xnew w (.cells #[.slice b lb cb] 25)
    have bA := xnew (w.alloc (.cells #[.slice b lb cb] 25)) (.cells #[.int .i64 0] 3)
    have hT0 := (Ae.TV.new w (.slice b lb cb)).below bA
    have hA0 : Blk ((w.alloc (.cells #[.slice b lb cb] 25)).alloc (.cells #[.int .i64 0] 3)) (w.heap.size + 1) 3 .i64 [0] := blk_new2 w _ 3 .i64 [0] _ rfl
    have hr0 := (hr.below bB).below bA
    have bb0 := xtrans bB bA
    go_wp2_with fail
    go_step3
    rename_i hK
    refine hK _ _ (hweak _ _ ?_)
    exact ⟨0, 0, [], .slice none 0 0, .slice none 0 0, _, _, _, _, _, _, _, _, _, _, _, _, _, _, _, _, _, _, _, _, _, _, _, rfl, ScanL.start bs, row_nil _ _ _ _, row_nil _ _ _ _, hT0, hA0, hr0, bb0⟩
end Go.Proofs.Ytpcppnoomogloaa.Fr
