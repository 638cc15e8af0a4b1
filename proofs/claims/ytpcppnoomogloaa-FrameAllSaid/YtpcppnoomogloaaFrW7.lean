/- The walk of frame.Open. -/
import Derived.Test.YtpcppnoomogloaaFrW6
import Derived.Test.YtpcppnoomogloaaAeWs
set_option maxRecDepth 4000
namespace Go.Proofs.Ytpcppnoomogloaa.Fr
set_option linter.unusedSimpArgs false
set_option linter.unusedVariables false
open Go.RowKit

theorem results_head3 {fn : Func} {p u v : Tmp} (h : fn.results = #[.cell p 23, .tmp u, .tmp v]) (tmps : Array Value) (w : World) (B : Nat) (h0 : Hd) (hp : tmps.getD p undef = .pointer (some ⟨B, 0, none⟩)) (hB : HBlk w B h0) (x y : Value) (hu : tmps.getD u undef = x) (hv : tmps.getD v undef = y) :
    (results fn tmps).run Try.prog w = .ok (.tuple #[h0.v, x, y]) w := by
  have e : (results fn tmps).run Try.prog w = ((asAddr (tmps.getD p undef)).run Try.prog w).andThen fun a w₁ => ((loadVar 23 a).run Try.prog w₁).andThen fun z w₂ => .ok (.tuple #[z, tmps.getD u undef, tmps.getD v undef]) w₂ := by
    simp only [results, h]
    simp [Sem.run_bind, Result.andThen]
  rw [e, hp, hu, hv]
  simp [asAddr, run_load_head hB, Result.andThen]
def OpenFOK (w : World) (key bs : List Nat) (e : Ending) (w' : World) : Prop := ∃ ad n cp, e = .returned (.tuple #[(openG key bs).1.v, .slice ad n cp, .int .i64 (((openG key bs).2.2 : Nat) : Int)]) ∧ (openG key bs).2.1.length = n ∧ Own w' w.heap.size (.slice ad n cp) (openG key bs).2.1 ∧ Below w.heap.size w w'
theorem openG_no {key b : List Nat} (h : ¬ (readB b = true ∧ (b.length : Int) = sizeF (readN b).len)) : openG key b = (hd0, [], 110) := by unfold openG; rw [if_neg h]
theorem openG_err {key b : List Nat} (h : readB b = true ∧ (b.length : Int) = sizeF (readN b).len) (ho : Ae.openE key (nonceB (readN b)) (b.drop 24) (b.take 24) ≠ 0) : openG key b = (hd0, [], 70) ∧ Ae.openE key (nonceB (readN b)) (b.drop 24) (b.take 24) = 70 := by
  unfold openG Ae.openE at *
  rw [if_pos h]
  cases hq : Ae.openA key (nonceB (readN b)) (b.drop 24) (b.take 24) with
  | none => exact ⟨rfl, rfl⟩
  | some p => rw [hq] at ho; exact absurd rfl ho
theorem openG_ok {key b : List Nat} (h : readB b = true ∧ (b.length : Int) = sizeF (readN b).len) (ho : Ae.openE key (nonceB (readN b)) (b.drop 24) (b.take 24) = 0) : openG key b = (readN b, Ae.openB key (nonceB (readN b)) (b.drop 24) (b.take 24), 0) := by
  unfold openG
  unfold Ae.openE at ho
  unfold Ae.openB
  rw [if_pos h]
  cases hq : Ae.openA key (nonceB (readN b)) (b.drop 24) (b.take 24) with
  | none => rw [hq] at ho; cases ho
  | some p => rfl
set_option maxRecDepth 100000 in
set_option maxHeartbeats 8000000 in
theorem Open_any (w : World) (key : List Nat) (b : Option Addr) (lb cb : Nat) (bs : List Nat) (hk : key.length = 32) (hkb : ∀ x ∈ key, x < 256) (hr : RdB w b lb cb bs) (hlb : lb ≤ 1000000) : Calls Try.prog 23 #[.agg (bv key).toArray, .slice b lb cb] w (OpenFOK w key bs) := by
  have hbl : bs.length = lb := hr.2.1
  have hbc : (24 : Int) ≤ (cb : Int) ∨ lb < 24 := by have := hr.2.2.1; omega
  have hcm : cb ≤ 9223372036854775807 := hr.2.2.2.1
  have hbb := hr.2.2.2.2.1
  have HK3 := Lib.hid (show (Try.prog.info? 35).map (·.size) = some (nv .u8 key).length by rw [nv_length, hk]; kernel_rfl)
  have u32 := Try.underlying35
  have us := Try.underlying25
  cases hRB : readB bs with
  | false =>
    have hG := Lib.hid (openG_no (key := key) (b := bs) (fun h => by rw [hRB] at h; cases h.1))
    have cR := Lib.hid (fun (W : World) (h : RdB W b lb cb bs) => Read_any W b lb cb bs h)
    unfold ReadOK at cR
    rw [(read_not hRB).1, (read_not hRB).2, show ((110 : Nat) : Int) = 110 from rfl] at cR
    clear hRB hbl hk
    show Calls Try.prog 23 #[.agg (nv .u8 key).toArray, .slice b lb cb] w _
    go_enter Try.func23, Try.ntmps23
    have s0 : LW w [(w.heap.size, 35, .u8, key)] [(b, lb, cb, bs)] ((w.alloc (.cells (nv .u8 key).toArray 35)).alloc (.cells #[.int .i64 0, .int .i64 0, .int .i64 0, .int .i64 0, .int .i64 0] 23)) := (((LW.nil (xrefl w)).addR hr).new 35 .u8 key).alloc _
    have h40 : HBlk ((w.alloc (.cells (nv .u8 key).toArray 35)).alloc (.cells #[.int .i64 0, .int .i64 0, .int .i64 0, .int .i64 0, .int .i64 0] 23)) (w.heap.size + 1) hd0 := by
      have := HBlk.new (w.alloc (.cells (nv .u8 key).toArray 35)) hd0
      rwa [World.size_alloc] at this
    clear hr
    go_upto_region 1 with fail
    generalize (w.alloc (.cells (nv .u8 key).toArray 35)).alloc (.cells #[.int .i64 0, .int .i64 0, .int .i64 0, .int .i64 0, .int .i64 0] 23) = W0 at s0 h40 ⊢
    go_wp2_with (first
      | (go_at_call 14; refine (cR.out _ (s0.rd 0 rfl)).mono ?_; rintro e2 w2 ⟨rfl, b2⟩; have s2 := s0.below b2; have h42 := h40.below b2; clear s0 h40 b2)
      | (refine wp_store_head rfl (.tmp 7) (.tmp 13) rfl w2.heap.size rfl (h1 := hd0) (HBlk.new w2 hd0) rfl ?_; intro w3 hX g3; have s3 := (s2.alloc (.cells #[.int .i64 0, .int .i64 0, .int .i64 0, .int .i64 0, .int .i64 0] 23)).grown g3 s2.bel.size (fun e he => Nat.ne_of_lt (s2.lt e he)) (fun e he x hx h0 => Nat.ne_of_lt (lw_low s2 e he x hx h0)); have hX4 := h42.lt; have h43 := (h42.alloc (.cells #[.int .i64 0, .int .i64 0, .int .i64 0, .int .i64 0, .int .i64 0] 23)).grown g3 (fun e => by have := Option.some.inj e; omega); have hXs := s2.bel.size; clear s2 h42 g3; generalize w2.heap.size = X at hX hX4 hXs ⊢)
      | (refine wp_store_head rfl (.tmp 4) (.tmp 25) rfl (w.heap.size + 1) rfl (h1 := hd0) h43 rfl ?_; intro w9 hB9 g9; have bb9 := gbelow s3.bel g9 (by omega))
      | fail)
    exact bodyPost_ret (results_head3 rfl _ _ (w.heap.size + 1) hd0 rfl hB9 _ _ rfl rfl) rfl ⟨none, 0, 0, by rw [hG.out]; rfl, by rw [hG.out]; rfl, by rw [hG.out]; exact Own.nil _ _, bb9⟩
  | true =>
    obtain ⟨h24, hok, _⟩ := (readB_iff bs).1 hRB
    rw [hbl] at h24
    have cR := Lib.hid (fun (W : World) (h : RdB W b lb cb bs) => Read_any W b lb cb bs h)
    unfold ReadOK at cR
    rw [(read_yes rfl hRB).1, (read_yes rfl hRB).2, show ((0 : Nat) : Int) = 0 from rfl] at cR
    have cZ := Lib.hid (fun W => Size_any W (readN bs).len)
    have hbc24 : (24 : Int) ≤ (cb : Int) := by omega
    have hlb24 : (24 : Int) ≤ (lb : Int) := by omega
    clear hbc
    by_cases hsz : (lb : Int) = sizeF (readN bs).len
    · have hcond : readB bs = true ∧ (bs.length : Int) = sizeF (readN bs).len := ⟨hRB, by rw [hbl]; exact hsz⟩
      have cN := Lib.hid (fun W => nonce_any W (readN bs) hok)
      have hnl := nonceB_length (readN bs)
      have hnb := nonceB_lt (readN bs)
      have d1 : ((lb : Int) != sizeF (readN bs).len) = false := by rw [hsz]; simp
      have hxl := Ae.openB_length key (nonceB (readN bs)) (bs.drop 24) (bs.take 24)
      have hxl2 : (Ae.openB key (nonceB (readN bs)) (bs.drop 24) (bs.take 24)).length ≤ 1000000 := by rw [List.length_drop] at hxl; omega
      have hG0 := fun h => openG_ok (key := key) hcond h
      have hG1 := fun h => openG_err (key := key) hcond h
      have cO := Lib.hid (fun (W : World) (h1 : RdB W (cutA b cb 24) (lb - 24) (cb - 24) (bs.drop 24)) (h2 : RdB W b 24 cb (bs.take 24)) => Ae.Open_any W key (nonceB (readN bs)) (cutA b cb 24) (lb - 24) (cb - 24) (bs.drop 24) b 24 cb (bs.take 24) hk hkb hnl hnb h1 h2 (by omega) (by decide))
      generalize Ae.openB key (nonceB (readN bs)) (bs.drop 24) (bs.take 24) = xs at cO hG0 hG1 hxl2
      generalize Ae.openE key (nonceB (readN bs)) (bs.drop 24) (bs.take 24) = c at cO hG0 hG1
      generalize nonceB (readN bs) = nc at cN cO
      have HG0 := Lib.hid hG0
      have HG1 := Lib.hid hG1
      obtain ⟨i0, hi0⟩ := info8f
      have HI := Lib.hid hi0
      generalize sizeF (readN bs).len = z at cZ d1
      generalize readN bs = H at cR cN cZ HG0 HG1
      have HX2 := Lib.hid hxl2
      clear hG0 hG1 hcond hnl hnb hxl hsz hok hRB hbl hk hi0 hxl2
      show Calls Try.prog 23 #[.agg (nv .u8 key).toArray, .slice b lb cb] w _
      go_enter Try.func23, Try.ntmps23
      have s0 : LW w [(w.heap.size, 35, .u8, key)] [(b, lb, cb, bs)] ((w.alloc (.cells (nv .u8 key).toArray 35)).alloc (.cells #[.int .i64 0, .int .i64 0, .int .i64 0, .int .i64 0, .int .i64 0] 23)) := (((LW.nil (xrefl w)).addR hr).new 35 .u8 key).alloc _
      have h40 : HBlk ((w.alloc (.cells (nv .u8 key).toArray 35)).alloc (.cells #[.int .i64 0, .int .i64 0, .int .i64 0, .int .i64 0, .int .i64 0] 23)) (w.heap.size + 1) hd0 := by
        have := HBlk.new (w.alloc (.cells (nv .u8 key).toArray 35)) hd0
        rwa [World.size_alloc] at this
      clear hr
      go_upto_region 1 with fail
      generalize (w.alloc (.cells (nv .u8 key).toArray 35)).alloc (.cells #[.int .i64 0, .int .i64 0, .int .i64 0, .int .i64 0, .int .i64 0] 23) = W0 at s0 h40 ⊢
      go_upto_region 2 with (first
        | (go_at_call 14; refine (cR.out _ (s0.rd 0 rfl)).mono ?_; rintro e2 w2 ⟨rfl, b2⟩; have s2 := s0.below b2; have h42 := h40.below b2; clear s0 h40 b2)
        | (refine wp_store_head rfl (.tmp 7) (.tmp 13) rfl w2.heap.size rfl (h1 := H) (HBlk.new w2 hd0) rfl ?_; intro w3 hX g3; have s3 := (s2.alloc (.cells #[.int .i64 0, .int .i64 0, .int .i64 0, .int .i64 0, .int .i64 0] 23)).grown g3 s2.bel.size (fun e he => Nat.ne_of_lt (s2.lt e he)) (fun e he x hx h0 => Nat.ne_of_lt (lw_low s2 e he x hx h0)); have hX4 := h42.lt; have h43 := (h42.alloc (.cells #[.int .i64 0, .int .i64 0, .int .i64 0, .int .i64 0, .int .i64 0] 23)).grown g3 (fun e => by have := Option.some.inj e; omega); have hXs := s2.bel.size; clear s2 h42 g3; generalize w2.heap.size = X at hX hX4 hXs ⊢)
        | fail)
      obtain ⟨_, _, q2, _, _⟩ := hX.cells
      go_wp2_with (first
        | (go_at_call 20; refine (cZ.out _).mono ?_; rintro e4 w4 ⟨rfl, rfl⟩)
        | fail)
      refine wp_region_held_drew (S := fun W => HBlk W X H ∧ LW w [(w.heap.size, 35, .u8, key)] [(b, lb, cb, bs)] W) (by kernel_rfl) (⟨hX.drew, s3.drew⟩) (fun hHeld => ?_)
      have h44 := h43.drew
      generalize World.drew _ = wv at hHeld h44 ⊢
      clear hX s3 h43 q2
      refine takeL (i := 0) (v := .agg (nv .u8 key).toArray) rfl rfl (by kernel_rfl) (by kernel_rfl) (by kernel_rfl) (fun _ _ _ h => h) (yieldsIf_load_mid (by rfl) 35 (.tmp 2) rfl w.heap.size 0 (by rfl) (nv .u8 key) _ (fun _ h => blk_range (h.2.blk 0 rfl)) u32 rfl HK3.out) (by assumption) ?_
      try simp only [Act.put, List.setIfInBounds_toArray, List.set_cons_zero, List.set_cons_succ]
      refine takeL (i := 1) (v := H.v) rfl rfl (by kernel_rfl) (by kernel_rfl) (by kernel_rfl) (fun _ _ _ h => h) (yieldsHead (.tmp 7) (by rfl) rfl X (by rfl) (fun _ h => h.1)) (by assumption) ?_
      try simp only [Act.put, List.setIfInBounds_toArray, List.set_cons_zero, List.set_cons_succ]
      refine takeL (i := 3) (v := ?_) rfl rfl (by kernel_rfl) (by kernel_rfl) (by kernel_rfl) (fun _ _ _ h => h) (Or.inl ⟨by rfl, ?_⟩) (by assumption) ?_
      rotate_left
      · (intro w' hSw; go_simp; try with_reducible rfl)
      try simp only [Act.put, List.setIfInBounds_toArray, List.set_cons_zero, List.set_cons_succ]
      refine takeL (i := 4) (v := .slice (cutA b cb 24) (lb - 24) (cb - 24)) rfl rfl (by kernel_rfl) (by kernel_rfl) (by kernel_rfl) (fun _ _ _ h => h) (yieldsSliceFrom (by rfl) rfl (by rfl) (by rfl) us HI.out.1 HI.out.2 (show 24 ≤ lb by omega)) (by assumption) ?_
      try simp only [Act.put, List.setIfInBounds_toArray, List.set_cons_zero, List.set_cons_succ]
      refine takeL (i := 5) (v := ?_) rfl rfl (by kernel_rfl) (by kernel_rfl) (by kernel_rfl) (fun _ _ _ h => h) (Or.inl ⟨by rfl, ?_⟩) (by assumption) ?_
      rotate_left
      · (intro w' hSw; go_simp; try with_reducible rfl)
      try simp only [Act.put, List.setIfInBounds_toArray, List.set_cons_zero, List.set_cons_succ]
      refine takeL (i := 6) (v := ?_) rfl rfl (by kernel_rfl) (by kernel_rfl) (by kernel_rfl) (fun _ _ _ h => h) (Or.inl ⟨by rfl, ?_⟩) (by assumption) ?_
      rotate_left
      · (intro w' hSw; go_simp; try with_reducible rfl)
      try simp only [Act.put, List.setIfInBounds_toArray, List.set_cons_zero, List.set_cons_succ]
      refine wpAnyH_ready (rs := [2]) (by kernel_rfl) (by simp) ?_
      refine consL rfl (fun K hK => ?_) AllReadyH.nil
      · rw [if_pos (by rfl)]
        go_simp
        refine (cN.out _).mono ?_
        rintro e5 w5 ⟨rfl, b5⟩
        have h45 := h44.below b5
        refine hK.out _ _ (⟨hHeld.1.below b5, hHeld.2.below b5⟩) (fun hHeld => ?_)
        clear hK K
        try simp only [Act.put, List.setIfInBounds_toArray, List.set_cons_zero, List.set_cons_succ]
        refine wpAnyH_ready (rs := [7]) (by kernel_rfl) (by simp) ?_
        refine consL rfl (fun K hK => ?_) AllReadyH.nil
        · rw [if_pos (by rfl)]
          go_simp
          refine (cO.out _ ((hHeld.2.rd 0 rfl).cut 24 (by omega)) (rdb_take (hHeld.2.rd 0 rfl) 24 (by omega))).mono ?_
          rintro e6 w6 ⟨ad6, n6, cp6, rfl, l6, p6, b6⟩
          have o6 := p6.mono hHeld.2.bel.size
          have hw5 := h45.lt
          have h46 := h45.below b6
          refine hK.out _ _ (⟨hHeld.1.below b6, hHeld.2.below b6⟩) (fun hHeld => ?_)
          clear hK K
          try simp only [Act.put, List.setIfInBounds_toArray, List.set_cons_zero, List.set_cons_succ]
          refine takeL (i := 8) (v := ?_) rfl rfl (by kernel_rfl) (by kernel_rfl) (by kernel_rfl) (fun _ _ _ h => h) (Or.inl ⟨by rfl, ?_⟩) (by assumption) ?_
          rotate_left
          · (intro w' hSw; go_simp; try with_reducible rfl)
          try simp only [Act.put, List.setIfInBounds_toArray, List.set_cons_zero, List.set_cons_succ]
          refine takeL (i := 9) (v := ?_) rfl rfl (by kernel_rfl) (by kernel_rfl) (by kernel_rfl) (fun _ _ _ h => h) (Or.inl ⟨by rfl, ?_⟩) (by assumption) ?_
          rotate_left
          · (intro w' hSw; go_simp; try with_reducible rfl)
          try simp only [Act.put, List.setIfInBounds_toArray, List.set_cons_zero, List.set_cons_succ]
          refine takeL (i := 10) (v := ?_) rfl rfl (by kernel_rfl) (by kernel_rfl) (by kernel_rfl) (fun _ _ _ h => h) (Or.inl ⟨by rfl, ?_⟩) (by assumption) ?_
          rotate_left
          · (intro w' hSw; go_simp; try with_reducible rfl)
          try simp only [Act.put, List.setIfInBounds_toArray, List.set_cons_zero, List.set_cons_succ]
          refine takeL (i := 11) (v := ?_) rfl rfl (by kernel_rfl) (by kernel_rfl) (by kernel_rfl) (fun _ _ _ h => h) (Or.inl ⟨by rfl, ?_⟩) (by assumption) ?_
          rotate_left
          · (intro w' hSw; go_simp; try with_reducible rfl)
          try simp only [Act.put, List.setIfInBounds_toArray, List.set_cons_zero, List.set_cons_succ]
          refine takeL (i := 12) (v := ?_) rfl rfl (by kernel_rfl) (by kernel_rfl) (by kernel_rfl) (fun _ _ _ h => h) (Or.inl ⟨by rfl, ?_⟩) (by assumption) ?_
          rotate_left
          · (intro w' hSw; go_simp; try with_reducible rfl)
          try simp only [Act.put, List.setIfInBounds_toArray, List.set_cons_zero, List.set_cons_succ]
          refine wpAnyH_done (by kernel_rfl) ?_ _
          have hX6 := hHeld.1
          have bb6 := hHeld.2.bel
          have p6b := fun k q => p6.block k q
          clear hHeld p6
          by_cases hc : c = 0
          · have hG := Lib.hid (HG0.out hc)
            subst hc
            rw [show ((0 : Nat) : Int) = 0 from rfl]
            go_wp2_with (first
              | (refine wp_load_head rfl (.tmp 7) rfl X rfl hX6 ?_)
              | (refine wp_store_head rfl (.tmp 4) (.tmp 41) rfl (w.heap.size + 1) rfl (h1 := H) h46 rfl ?_; intro w9 hB9 g9; have bb9 := gbelow bb6 g9 (by omega))
              | fail)
            exact bodyPost_ret (results_head3 rfl _ _ (w.heap.size + 1) H rfl hB9 _ _ rfl rfl) rfl ⟨ad6, n6, cp6, by rw [hG.out]; rfl, by rw [hG.out]; exact l6, by rw [hG.out]; exact o6.kept g9 (fun k hk q => by have h1 := Option.some.inj hk; have h2 := (p6b k q).1; omega), bb9⟩
          · have hG := Lib.hid (HG1.out hc)
            obtain rfl : c = 70 := hG.out.2
            rw [show ((70 : Nat) : Int) = 70 from rfl]
            clear hc
            go_wp2_with (first
              | (refine wp_store_head rfl (.tmp 4) (.tmp 39) rfl (w.heap.size + 1) rfl (h1 := hd0) h46 rfl ?_; intro w9 hB9 g9; have bb9 := gbelow bb6 g9 (by omega))
              | fail)
            exact bodyPost_ret (results_head3 rfl _ _ (w.heap.size + 1) hd0 rfl hB9 _ _ rfl rfl) rfl ⟨none, 0, 0, by rw [hG.out.1]; rfl, by rw [hG.out.1]; rfl, by rw [hG.out.1]; exact Own.nil _ _, bb9⟩
    · have hG := Lib.hid (openG_no (key := key) (b := bs) (fun h => by rw [hbl] at h; exact hsz h.2))
      have d1 : ((lb : Int) != sizeF (readN bs).len) = true := by rw [bne_iff_ne]; exact hsz
      generalize sizeF (readN bs).len = z at cZ d1
      generalize readN bs = H at cR cZ
      clear hsz hok hRB hbl hk
      show Calls Try.prog 23 #[.agg (nv .u8 key).toArray, .slice b lb cb] w _
      go_enter Try.func23, Try.ntmps23
      have s0 : LW w [(w.heap.size, 35, .u8, key)] [(b, lb, cb, bs)] ((w.alloc (.cells (nv .u8 key).toArray 35)).alloc (.cells #[.int .i64 0, .int .i64 0, .int .i64 0, .int .i64 0, .int .i64 0] 23)) := (((LW.nil (xrefl w)).addR hr).new 35 .u8 key).alloc _
      have h40 : HBlk ((w.alloc (.cells (nv .u8 key).toArray 35)).alloc (.cells #[.int .i64 0, .int .i64 0, .int .i64 0, .int .i64 0, .int .i64 0] 23)) (w.heap.size + 1) hd0 := by
        have := HBlk.new (w.alloc (.cells (nv .u8 key).toArray 35)) hd0
        rwa [World.size_alloc] at this
      clear hr
      go_upto_region 1 with fail
      generalize (w.alloc (.cells (nv .u8 key).toArray 35)).alloc (.cells #[.int .i64 0, .int .i64 0, .int .i64 0, .int .i64 0, .int .i64 0] 23) = W0 at s0 h40 ⊢
      go_upto_region 2 with (first
        | (go_at_call 14; refine (cR.out _ (s0.rd 0 rfl)).mono ?_; rintro e2 w2 ⟨rfl, b2⟩; have s2 := s0.below b2; have h42 := h40.below b2; clear s0 h40 b2)
        | (refine wp_store_head rfl (.tmp 7) (.tmp 13) rfl w2.heap.size rfl (h1 := H) (HBlk.new w2 hd0) rfl ?_; intro w3 hX g3; have s3 := (s2.alloc (.cells #[.int .i64 0, .int .i64 0, .int .i64 0, .int .i64 0, .int .i64 0] 23)).grown g3 s2.bel.size (fun e he => Nat.ne_of_lt (s2.lt e he)) (fun e he x hx h0 => Nat.ne_of_lt (lw_low s2 e he x hx h0)); have hX4 := h42.lt; have h43 := (h42.alloc (.cells #[.int .i64 0, .int .i64 0, .int .i64 0, .int .i64 0, .int .i64 0] 23)).grown g3 (fun e => by have := Option.some.inj e; omega); have hXs := s2.bel.size; clear s2 h42 g3; generalize w2.heap.size = X at hX hX4 hXs ⊢)
        | fail)
      obtain ⟨_, _, q2, _, _⟩ := hX.cells
      go_wp2_with (first
        | (go_at_call 20; refine (cZ.out _).mono ?_; rintro e4 w4 ⟨rfl, rfl⟩)
        | (refine wp_store_head rfl (.tmp 4) (.tmp 25) rfl (w.heap.size + 1) rfl (h1 := hd0) h43 rfl ?_; intro w9 hB9 g9; have bb9 := gbelow s3.bel g9 (by omega))
        | fail)
      exact bodyPost_ret (results_head3 rfl _ _ (w.heap.size + 1) hd0 rfl hB9 _ _ rfl rfl) rfl ⟨none, 0, 0, by rw [hG.out]; rfl, by rw [hG.out]; rfl, by rw [hG.out]; exact Own.nil _ _, bb9⟩
end Go.Proofs.Ytpcppnoomogloaa.Fr
