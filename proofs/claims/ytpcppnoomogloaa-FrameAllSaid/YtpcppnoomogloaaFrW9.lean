/- The walks of Scan and of its closure. -/
import Derived.Test.YtpcppnoomogloaaFrW8
set_option maxRecDepth 4000
namespace Go.Proofs.Ytpcppnoomogloaa.Fr
set_option linter.unusedSimpArgs false
set_option linter.unusedVariables false
open Go.RowKit

def nextS (bs : List Nat) (p : Nat) : Int := if readB (bs.drop p) = true ∧ sizeF (readN (bs.drop p)).len ≤ (bs.length : Int) - (p : Int) then sizeF (readN (bs.drop p)).len else 0
theorem blk_one {w : World} {A n : Nat} (h : Blk w A 3 .i64 [n]) : w.cell? ⟨A, 0, none⟩ = some (.int .i64 (n : Int)) := h.cell 0 (by simp)

set_option maxRecDepth 100000 in
set_option maxHeartbeats 4000000 in
theorem next_any (w : World) (B A : Nat) (b : Option Addr) (lb cb p : Nat) (bs : List Nat) (hT : Ae.TV w B (.slice b lb cb)) (hA : Blk w A 3 .i64 [p]) (hr : RdB w b lb cb bs) (hp : p ≤ lb) :
    Calls Try.prog 44 #[.pointer (some ⟨B, 0, none⟩), .pointer (some ⟨A, 0, none⟩)] w fun e w' => ∃ h : Hd, e = .returned (.tuple #[h.v, .int .i64 (nextS bs p)]) ∧ (nextS bs p ≠ 0 → h = readN (bs.drop p)) ∧ Below w.heap.size w w' := by
  have hbl : bs.length = lb := hr.2.1
  have hlb9 : lb ≤ 1000000000 := hr.1
  have us := Try.underlying25
  obtain ⟨i0, hi0⟩ := info8f
  have HI := Lib.hid hi0
  obtain ⟨rest, hrest⟩ : ∃ rest : Nat, rest = lb - p := ⟨_, rfl⟩
  have hsub : (lb : Int) - (p : Int) = (rest : Int) := by omega
  have hrw : IntKind.i64.wrap (rest : Int) = (rest : Int) := by rw [IntKind.wrap_i64]; omega
  have cR := Lib.hid (fun (W : World) (h : RdB W (cutA b cb p) (lb - p) (cb - p) (bs.drop p)) => Read_any W (cutA b cb p) (lb - p) (cb - p) (bs.drop p) h)
  unfold ReadOK at cR
  cases hRB : readB (bs.drop p) with
  | false =>
    have HS : Hid (nextS bs p = 0) := Lib.hid (by unfold nextS; rw [hRB]; simp)
    rw [(read_not hRB).1, (read_not hRB).2, show ((110 : Nat) : Int) = 110 from rfl] at cR
    obtain ⟨H, hH⟩ : ∃ H, H = hd0 := ⟨_, rfl⟩
    rw [← hH] at cR
    clear hRB hbl hi0 hrest hH
    have bb0 := xnew w (.cells #[.int .i64 0, .int .i64 0, .int .i64 0, .int .i64 0, .int .i64 0] 23)
    have h20 : HBlk (w.alloc (.cells #[.int .i64 0, .int .i64 0, .int .i64 0, .int .i64 0, .int .i64 0] 23)) w.heap.size hd0 := HBlk.new w hd0
    have hT0 := hT.below bb0
    have hA0 := hA.below bb0
    have hr0 := hr.below bb0
    have hBl := hT.lt
    have hAl := hA.lt
    clear hT hA hr
    go_enter Try.func44, Try.ntmps44
    go_upto_region 1 with fail
    generalize w.alloc (.cells #[.int .i64 0, .int .i64 0, .int .i64 0, .int .i64 0, .int .i64 0] 23) = W0 at h20 bb0 hT0 hA0 hr0 ⊢
    have hc1 := hT0.cell
    have hc2 := blk_one hA0
    go_upto_region 2 with (first
      | (refine wp_slice_from rfl (.tmp 6) (.tmp 7) rfl rfl rfl us HI.out.1 HI.out.2 hp ?_)
      | (go_at_call 14; refine (cR.out _ (hr0.cut p hp)).mono ?_; rintro e2 w2 ⟨rfl, b2⟩; have h22 := h20.below b2; have hT2 := hT0.below b2; have hA2 := hA0.below b2; have bb2 := xtrans bb0 b2; clear hc1 hc2 h20 hT0 hA0 hr0 bb0 b2)
      | (refine wp_store_head rfl (.tmp 2) (.tmp 10) rfl w.heap.size rfl (h1 := H) h22 rfl ?_; intro w3 h23 g3; have hT3 := hT2.grown g3 (fun e => by have := Option.some.inj e; omega); have hA3 := hA2.grown g3 (fun e => by have := Option.some.inj e; omega); have bb3 := gbelow bb2 g3 (Nat.le_refl _); clear h22 hT2 hA2 bb2 g3)
      | fail)
    refine wp_region_held_drew (S := fun W => HBlk W w.heap.size H ∧ Ae.TV W B (.slice b lb cb) ∧ Blk W A 3 .i64 [p] ∧ Below w.heap.size w W) (by kernel_rfl) (⟨h23.drew, hT3, hA3.drewN 1, below_drewN bb3 1⟩) (fun hHeld => ?_)
    generalize World.drew _ = w4 at hHeld ⊢
    refine takeL (i := 0) (v := ?_) rfl rfl (by kernel_rfl) (by kernel_rfl) (by kernel_rfl) (fun _ _ _ h => h) (Or.inl ⟨by rfl, ?_⟩) (by assumption) ?_
    rotate_left
    · (intro w' hSw; go_simp; try with_reducible rfl)
    try simp only [Act.put, List.setIfInBounds_toArray, List.set_cons_zero, List.set_cons_succ]
    refine takeL (i := 1) (v := ?_) rfl rfl (by kernel_rfl) (by kernel_rfl) (by kernel_rfl) (fun _ _ _ h => h) (Or.inl ⟨by rfl, ?_⟩) (by assumption) ?_
    rotate_left
    · (intro w' hSw; go_simp; try with_reducible rfl)
    try simp only [Act.put, List.setIfInBounds_toArray, List.set_cons_zero, List.set_cons_succ]
    refine takeL (i := 2) (v := ?_) rfl rfl (by kernel_rfl) (by kernel_rfl) (by kernel_rfl) (fun _ _ _ h => h) (Or.inl ⟨by rfl, ?_⟩) (by assumption) ?_
    rotate_left
    · (intro w' hSw; go_simp; try with_reducible rfl)
    try simp only [Act.put, List.setIfInBounds_toArray, List.set_cons_zero, List.set_cons_succ]
    refine takeL (i := 3) (v := undef) rfl rfl (by kernel_rfl) (by kernel_rfl) (by kernel_rfl) (fun _ _ _ h => h) (Or.inr ⟨by rfl, rfl⟩) (by assumption) ?_
    try simp only [Act.put, List.setIfInBounds_toArray, List.set_cons_zero, List.set_cons_succ]
    refine takeL (i := 4) (v := undef) rfl rfl (by kernel_rfl) (by kernel_rfl) (by kernel_rfl) (fun _ _ _ h => h) (Or.inr ⟨by rfl, rfl⟩) (by assumption) ?_
    try simp only [Act.put, List.setIfInBounds_toArray, List.set_cons_zero, List.set_cons_succ]
    refine takeL (i := 5) (v := undef) rfl rfl (by kernel_rfl) (by kernel_rfl) (by kernel_rfl) (fun _ _ _ h => h) (Or.inr ⟨by rfl, rfl⟩) (by assumption) ?_
    try simp only [Act.put, List.setIfInBounds_toArray, List.set_cons_zero, List.set_cons_succ]
    refine takeL (i := 6) (v := undef) rfl rfl (by kernel_rfl) (by kernel_rfl) (by kernel_rfl) (fun _ _ _ h => h) (Or.inr ⟨by rfl, rfl⟩) (by assumption) ?_
    try simp only [Act.put, List.setIfInBounds_toArray, List.set_cons_zero, List.set_cons_succ]
    refine takeL (i := 7) (v := undef) rfl rfl (by kernel_rfl) (by kernel_rfl) (by kernel_rfl) (fun _ _ _ h => h) (Or.inr ⟨by rfl, rfl⟩) (by assumption) ?_
    try simp only [Act.put, List.setIfInBounds_toArray, List.set_cons_zero, List.set_cons_succ]
    refine takeL (i := 8) (v := undef) rfl rfl (by kernel_rfl) (by kernel_rfl) (by kernel_rfl) (fun _ _ _ h => h) (Or.inr ⟨by rfl, rfl⟩) (by assumption) ?_
    try simp only [Act.put, List.setIfInBounds_toArray, List.set_cons_zero, List.set_cons_succ]
    refine takeL (i := 9) (v := undef) rfl rfl (by kernel_rfl) (by kernel_rfl) (by kernel_rfl) (fun _ _ _ h => h) (Or.inr ⟨by rfl, rfl⟩) (by assumption) ?_
    try simp only [Act.put, List.setIfInBounds_toArray, List.set_cons_zero, List.set_cons_succ]
    refine takeL (i := 10) (v := undef) rfl rfl (by kernel_rfl) (by kernel_rfl) (by kernel_rfl) (fun _ _ _ h => h) (Or.inr ⟨by rfl, rfl⟩) (by assumption) ?_
    try simp only [Act.put, List.setIfInBounds_toArray, List.set_cons_zero, List.set_cons_succ]
    refine takeL (i := 11) (v := ?_) rfl rfl (by kernel_rfl) (by kernel_rfl) (by kernel_rfl) (fun _ _ _ h => h) (Or.inl ⟨by rfl, ?_⟩) (by assumption) ?_
    rotate_left
    · (intro w' hSw; go_simp; try with_reducible rfl)
    try simp only [Act.put, List.setIfInBounds_toArray, List.set_cons_zero, List.set_cons_succ]
    refine wpAnyH_done (by kernel_rfl) ?_ _
    have hC := hHeld
    go_wp2_with (first
      | (refine wp_load_head rfl (.tmp 2) rfl w.heap.size rfl hC.1 ?_)
      | (refine wp_store_head rfl (.tmp 2) (.tmp 24) rfl w.heap.size rfl (h1 := H) hC.1 rfl ?_; intro w5 h25 g5; have bb5 := gbelow hC.2.2.2 g5 (Nat.le_refl _))
      | fail)
    exact bodyPost_ret (results_head rfl _ _ w.heap.size H rfl h25 _ rfl) rfl ⟨H, by rw [HS.out]; rfl, fun h => absurd HS.out h, bb5⟩
  | true =>
    rw [(read_yes rfl hRB).1, (read_yes rfl hRB).2, show ((0 : Nat) : Int) = 0 from rfl] at cR
    have cZ := Lib.hid (fun W => Size_any W (readN (bs.drop p)).len)
    have hn0 := (readB_size hRB).1
    by_cases hsz : sizeF (readN (bs.drop p)).len ≤ (bs.length : Int) - (p : Int)
    · have HS : Hid (nextS bs p = sizeF (readN (bs.drop p)).len) := Lib.hid (by unfold nextS; rw [if_pos ⟨hRB, hsz⟩])
      have dl : decide ((rest : Int) < sizeF (readN (bs.drop p)).len) = false := decide_eq_false (by rw [hbl] at hsz; omega)
      generalize sizeF (readN (bs.drop p)).len = z at cZ dl HS hn0
      obtain ⟨H, hH⟩ : ∃ H, H = readN (bs.drop p) := ⟨_, rfl⟩
      rw [← hH] at cR cZ
      have HHH := Lib.hid hH
      clear hRB hbl hi0 hrest hH hsz
      have bb0 := xnew w (.cells #[.int .i64 0, .int .i64 0, .int .i64 0, .int .i64 0, .int .i64 0] 23)
      have h20 : HBlk (w.alloc (.cells #[.int .i64 0, .int .i64 0, .int .i64 0, .int .i64 0, .int .i64 0] 23)) w.heap.size hd0 := HBlk.new w hd0
      have hT0 := hT.below bb0
      have hA0 := hA.below bb0
      have hr0 := hr.below bb0
      have hBl := hT.lt
      have hAl := hA.lt
      clear hT hA hr
      go_enter Try.func44, Try.ntmps44
      go_upto_region 1 with fail
      generalize w.alloc (.cells #[.int .i64 0, .int .i64 0, .int .i64 0, .int .i64 0, .int .i64 0] 23) = W0 at h20 bb0 hT0 hA0 hr0 ⊢
      have hc1 := hT0.cell
      have hc2 := blk_one hA0
      go_upto_region 2 with (first
        | (refine wp_slice_from rfl (.tmp 6) (.tmp 7) rfl rfl rfl us HI.out.1 HI.out.2 hp ?_)
        | (go_at_call 14; refine (cR.out _ (hr0.cut p hp)).mono ?_; rintro e2 w2 ⟨rfl, b2⟩; have h22 := h20.below b2; have hT2 := hT0.below b2; have hA2 := hA0.below b2; have bb2 := xtrans bb0 b2; clear hc1 hc2 h20 hT0 hA0 hr0 bb0 b2)
        | (refine wp_store_head rfl (.tmp 2) (.tmp 10) rfl w.heap.size rfl (h1 := H) h22 rfl ?_; intro w3 h23 g3; have hT3 := hT2.grown g3 (fun e => by have := Option.some.inj e; omega); have hA3 := hA2.grown g3 (fun e => by have := Option.some.inj e; omega); have bb3 := gbelow bb2 g3 (Nat.le_refl _); clear h22 hT2 hA2 bb2 g3)
        | fail)
      refine wp_region_class (fun W => HBlk W w.heap.size H ∧ Ae.TV W B (.slice b lb cb) ∧ Blk W A 3 .i64 [p] ∧ Below w.heap.size w W) (by kernel_rfl) (by kernel_rfl) (⟨h23.drew, hT3, hA3.drewN 1, below_drewN bb3 1⟩) ?_
      refine qY (v := ?_) rfl ?_ ?_
      rotate_left
      · (intro w' _; go_simp; try with_reducible rfl)
      rotate_left
      try simp only [Act.put, List.setIfInBounds_toArray, List.set_cons_zero, List.set_cons_succ]
      refine qY (v := ?_) rfl ?_ ?_
      rotate_left
      · (intro w' _; go_simp; try with_reducible rfl)
      rotate_left
      try simp only [Act.put, List.setIfInBounds_toArray, List.set_cons_zero, List.set_cons_succ]
      refine qY (v := ?_) rfl ?_ ?_
      rotate_left
      · (intro w' _; go_simp; try with_reducible rfl)
      rotate_left
      try simp only [Act.put, List.setIfInBounds_toArray, List.set_cons_zero, List.set_cons_succ]
      refine qY (v := .slice b lb cb) rfl ?_ ?_
      · (intro w' hC; have hh := hC.2.1.cell; go_simp; try with_reducible rfl)
      try simp only [Act.put, List.setIfInBounds_toArray, List.set_cons_zero, List.set_cons_succ]
      refine qY (v := ?_) rfl ?_ ?_
      rotate_left
      · (intro w' _; go_simp; try with_reducible rfl)
      rotate_left
      try simp only [Act.put, List.setIfInBounds_toArray, List.set_cons_zero, List.set_cons_succ]
      refine qY (v := .int .i64 (p : Int)) rfl ?_ ?_
      · (intro w' hC; have hh := blk_one hC.2.2.1; go_simp; try with_reducible rfl)
      try simp only [Act.put, List.setIfInBounds_toArray, List.set_cons_zero, List.set_cons_succ]
      refine qY (v := ?_) rfl ?_ ?_
      rotate_left
      · (intro w' _; go_simp; try with_reducible rfl)
      rotate_left
      try simp only [Act.put, List.setIfInBounds_toArray, List.set_cons_zero, List.set_cons_succ]
      refine qY (v := ?_) rfl ?_ ?_
      rotate_left
      · (intro w' _; go_simp; try with_reducible rfl)
      rotate_left
      try simp only [Act.put, List.setIfInBounds_toArray, List.set_cons_zero, List.set_cons_succ]
      refine qY (v := .int .i64 H.len) rfl ?_ ?_
      · (intro w' hC; have hh := hC.1.cells.2.2.1; go_simp; try with_reducible rfl)
      try simp only [Act.put, List.setIfInBounds_toArray, List.set_cons_zero, List.set_cons_succ]
      refine qC (f := 20) (args := #[.int .i64 H.len]) (v := .int .i64 z) rfl ?_ (fun W hW => (cZ.out W).mono fun e W2 h => ⟨h.1, h.2 ▸ hW⟩) ?_
      · (intro w' _; go_simp; try with_reducible rfl)
      try simp only [Act.put, List.setIfInBounds_toArray, List.set_cons_zero, List.set_cons_succ]
      refine qY (v := .bool false) rfl ?_ ?_
      · (intro w' hC; go_simp; try with_reducible rfl)
      try simp only [Act.put, List.setIfInBounds_toArray, List.set_cons_zero, List.set_cons_succ]
      refine qY (v := ?_) rfl ?_ ?_
      rotate_left
      · (intro w' _; go_simp; try with_reducible rfl)
      rotate_left
      try simp only [Act.put, List.setIfInBounds_toArray, List.set_cons_zero, List.set_cons_succ]
      refine wpQuiet_nil ?_
      intro w4 hC
      go_wp2_with fail
      refine wp_region_held_drew (S := fun W => HBlk W w.heap.size H ∧ Ae.TV W B (.slice b lb cb) ∧ Blk W A 3 .i64 [p] ∧ Below w.heap.size w W) (by kernel_rfl) (⟨hC.1.drew, hC.2.1, hC.2.2.1.drewN 1, below_drewN hC.2.2.2 1⟩) (fun hHeld => ?_)
      generalize World.drew _ = wv at hHeld ⊢
      clear hC
      refine takeL (i := 0) (v := H.v) rfl rfl (by kernel_rfl) (by kernel_rfl) (by kernel_rfl) (fun _ _ _ h => h) (yieldsHead (.tmp 2) (by rfl) rfl w.heap.size (by rfl) (fun _ h => h.1)) (by assumption) ?_
      try simp only [Act.put, List.setIfInBounds_toArray, List.set_cons_zero, List.set_cons_succ]
      refine takeL (i := 1) (v := ?_) rfl rfl (by kernel_rfl) (by kernel_rfl) (by kernel_rfl) (fun _ _ _ h => h) (Or.inl ⟨by rfl, ?_⟩) (by assumption) ?_
      rotate_left
      · (intro w' hSw; go_simp; try with_reducible rfl)
      try simp only [Act.put, List.setIfInBounds_toArray, List.set_cons_zero, List.set_cons_succ]
      refine takeL (i := 2) (v := .int .i64 H.len) rfl rfl (by kernel_rfl) (by kernel_rfl) (by kernel_rfl) (fun _ _ _ h => h) (Or.inl ⟨by rfl, ?_⟩) (by assumption) ?_
      · (intro w' hSw; have hh := hSw.1.cells.2.2.1; go_simp; try with_reducible rfl)
      try simp only [Act.put, List.setIfInBounds_toArray, List.set_cons_zero, List.set_cons_succ]
      refine wpAnyH_ready (rs := [3]) (by kernel_rfl) (by simp) ?_
      refine consL rfl (fun K hK => ?_) AllReadyH.nil
      · rw [if_pos (by rfl)]
        go_simp
        refine (cZ.out _).mono ?_
        rintro e4 w4 ⟨rfl, rfl⟩
        refine hK.out _ _ (hHeld) (fun hHeld => ?_)
        clear hK K
        try simp only [Act.put, List.setIfInBounds_toArray, List.set_cons_zero, List.set_cons_succ]
        refine wpAnyH_ready (rs := [4]) (by kernel_rfl) (by simp) ?_
        refine consL rfl (fun K hK => ?_) AllReadyH.nil
        · rw [if_pos (by rfl)]
          refine wpo_store_head (.tmp 2) (.tmp 25) rfl w.heap.size rfl (h1 := H) hHeld.1 rfl ?_
          intro w5 h25 g5
          refine hK.out _ _ (⟨h25, hHeld.2.1.grown g5 (fun e => by have := Option.some.inj e; omega), hHeld.2.2.1.grown g5 (fun e => by have := Option.some.inj e; omega), gbelow hHeld.2.2.2 g5 (Nat.le_refl _)⟩) (fun hHeld => ?_)
          clear hK K
          try simp only [Act.put, List.setIfInBounds_toArray, List.set_cons_zero, List.set_cons_succ]
          refine takeL (i := 5) (v := ?_) rfl rfl (by kernel_rfl) (by kernel_rfl) (by kernel_rfl) (fun _ _ _ h => h) (Or.inl ⟨by rfl, ?_⟩) (by assumption) ?_
          rotate_left
          · (intro w' hSw; go_simp; try with_reducible rfl)
          try simp only [Act.put, List.setIfInBounds_toArray, List.set_cons_zero, List.set_cons_succ]
          refine wpAnyH_done (by kernel_rfl) ?_ _
          go_wp2_with fail
          exact bodyPost_ret (results_head rfl _ _ w.heap.size H rfl hHeld.1 _ rfl) rfl ⟨H, by rw [HS.out]; rfl, fun _ => HHH.out, hHeld.2.2.2⟩
    · have HS : Hid (nextS bs p = 0) := Lib.hid (by unfold nextS; rw [if_neg (fun h => hsz h.2)])
      have dl : decide ((rest : Int) < sizeF (readN (bs.drop p)).len) = true := decide_eq_true (by rw [hbl] at hsz; omega)
      generalize sizeF (readN (bs.drop p)).len = z at cZ dl hn0
      obtain ⟨H, hH⟩ : ∃ H, H = readN (bs.drop p) := ⟨_, rfl⟩
      rw [← hH] at cR cZ
      clear hRB hbl hi0 hrest hH hsz
      have bb0 := xnew w (.cells #[.int .i64 0, .int .i64 0, .int .i64 0, .int .i64 0, .int .i64 0] 23)
      have h20 : HBlk (w.alloc (.cells #[.int .i64 0, .int .i64 0, .int .i64 0, .int .i64 0, .int .i64 0] 23)) w.heap.size hd0 := HBlk.new w hd0
      have hT0 := hT.below bb0
      have hA0 := hA.below bb0
      have hr0 := hr.below bb0
      have hBl := hT.lt
      have hAl := hA.lt
      clear hT hA hr
      go_enter Try.func44, Try.ntmps44
      go_upto_region 1 with fail
      generalize w.alloc (.cells #[.int .i64 0, .int .i64 0, .int .i64 0, .int .i64 0, .int .i64 0] 23) = W0 at h20 bb0 hT0 hA0 hr0 ⊢
      have hc1 := hT0.cell
      have hc2 := blk_one hA0
      go_upto_region 2 with (first
        | (refine wp_slice_from rfl (.tmp 6) (.tmp 7) rfl rfl rfl us HI.out.1 HI.out.2 hp ?_)
        | (go_at_call 14; refine (cR.out _ (hr0.cut p hp)).mono ?_; rintro e2 w2 ⟨rfl, b2⟩; have h22 := h20.below b2; have hT2 := hT0.below b2; have hA2 := hA0.below b2; have bb2 := xtrans bb0 b2; clear hc1 hc2 h20 hT0 hA0 hr0 bb0 b2)
        | (refine wp_store_head rfl (.tmp 2) (.tmp 10) rfl w.heap.size rfl (h1 := H) h22 rfl ?_; intro w3 h23 g3; have hT3 := hT2.grown g3 (fun e => by have := Option.some.inj e; omega); have hA3 := hA2.grown g3 (fun e => by have := Option.some.inj e; omega); have bb3 := gbelow bb2 g3 (Nat.le_refl _); clear h22 hT2 hA2 bb2 g3)
        | fail)
      refine wp_region_class (fun W => HBlk W w.heap.size H ∧ Ae.TV W B (.slice b lb cb) ∧ Blk W A 3 .i64 [p] ∧ Below w.heap.size w W) (by kernel_rfl) (by kernel_rfl) (⟨h23.drew, hT3, hA3.drewN 1, below_drewN bb3 1⟩) ?_
      refine qY (v := ?_) rfl ?_ ?_
      rotate_left
      · (intro w' _; go_simp; try with_reducible rfl)
      rotate_left
      try simp only [Act.put, List.setIfInBounds_toArray, List.set_cons_zero, List.set_cons_succ]
      refine qY (v := ?_) rfl ?_ ?_
      rotate_left
      · (intro w' _; go_simp; try with_reducible rfl)
      rotate_left
      try simp only [Act.put, List.setIfInBounds_toArray, List.set_cons_zero, List.set_cons_succ]
      refine qY (v := ?_) rfl ?_ ?_
      rotate_left
      · (intro w' _; go_simp; try with_reducible rfl)
      rotate_left
      try simp only [Act.put, List.setIfInBounds_toArray, List.set_cons_zero, List.set_cons_succ]
      refine qY (v := .slice b lb cb) rfl ?_ ?_
      · (intro w' hC; have hh := hC.2.1.cell; go_simp; try with_reducible rfl)
      try simp only [Act.put, List.setIfInBounds_toArray, List.set_cons_zero, List.set_cons_succ]
      refine qY (v := ?_) rfl ?_ ?_
      rotate_left
      · (intro w' _; go_simp; try with_reducible rfl)
      rotate_left
      try simp only [Act.put, List.setIfInBounds_toArray, List.set_cons_zero, List.set_cons_succ]
      refine qY (v := .int .i64 (p : Int)) rfl ?_ ?_
      · (intro w' hC; have hh := blk_one hC.2.2.1; go_simp; try with_reducible rfl)
      try simp only [Act.put, List.setIfInBounds_toArray, List.set_cons_zero, List.set_cons_succ]
      refine qY (v := ?_) rfl ?_ ?_
      rotate_left
      · (intro w' _; go_simp; try with_reducible rfl)
      rotate_left
      try simp only [Act.put, List.setIfInBounds_toArray, List.set_cons_zero, List.set_cons_succ]
      refine qY (v := ?_) rfl ?_ ?_
      rotate_left
      · (intro w' _; go_simp; try with_reducible rfl)
      rotate_left
      try simp only [Act.put, List.setIfInBounds_toArray, List.set_cons_zero, List.set_cons_succ]
      refine qY (v := .int .i64 H.len) rfl ?_ ?_
      · (intro w' hC; have hh := hC.1.cells.2.2.1; go_simp; try with_reducible rfl)
      try simp only [Act.put, List.setIfInBounds_toArray, List.set_cons_zero, List.set_cons_succ]
      refine qC (f := 20) (args := #[.int .i64 H.len]) (v := .int .i64 z) rfl ?_ (fun W hW => (cZ.out W).mono fun e W2 h => ⟨h.1, h.2 ▸ hW⟩) ?_
      · (intro w' _; go_simp; try with_reducible rfl)
      try simp only [Act.put, List.setIfInBounds_toArray, List.set_cons_zero, List.set_cons_succ]
      refine qY (v := .bool true) rfl ?_ ?_
      · (intro w' hC; go_simp; try with_reducible rfl)
      try simp only [Act.put, List.setIfInBounds_toArray, List.set_cons_zero, List.set_cons_succ]
      refine qY (v := ?_) rfl ?_ ?_
      rotate_left
      · (intro w' _; go_simp; try with_reducible rfl)
      rotate_left
      try simp only [Act.put, List.setIfInBounds_toArray, List.set_cons_zero, List.set_cons_succ]
      refine wpQuiet_nil ?_
      intro w4 hC
      go_wp2_with (first
        | (refine wp_load_head rfl (.tmp 2) rfl w.heap.size rfl hC.1 ?_)
        | (refine wp_store_head rfl (.tmp 2) (.tmp 24) rfl w.heap.size rfl (h1 := H) hC.1 rfl ?_; intro w5 h25 g5; have bb5 := gbelow hC.2.2.2 g5 (Nat.le_refl _))
        | fail)
      exact bodyPost_ret (results_head rfl _ _ w.heap.size H rfl h25 _ rfl) rfl ⟨H, by rw [HS.out]; rfl, fun h => absurd HS.out h, bb5⟩
end Go.Proofs.Ytpcppnoomogloaa.Fr
