/- The walk of 'awake' of chapter 11. -/
import Derived.Test.YtpcppnoomogloaaFrY0
set_option maxRecDepth 4000
namespace Go.Proofs.Ytpcppnoomogloaa.Fr
set_option linter.unusedSimpArgs false
set_option linter.unusedVariables false
open Go.RowKit

def h0 : Hd := ⟨1, 3, 64, 9, 2⟩
def k0 : List Nat := 1 :: List.replicate 31 0
def z64 : List Nat := List.replicate 64 0
theorem k0_lt : ∀ x ∈ k0, x < 256 := by decide
theorem z64_lt : ∀ x ∈ z64, x < 256 := by decide
theorem h0_ok : okH h0 = true := rfl
theorem h0_seal : sealB h0 z64 = true := by decide
theorem seal0_length : (sealF h0 k0 z64).length = 104 := (sealF_length h0_seal).2
theorem seal0_eq : sealF h0 k0 z64 = headB h0 ++ Ae.sealA k0 (nonceB h0) z64 (headB h0) := (sealF_ok h0_seal).1
theorem seal0_lt : ∀ x ∈ sealF h0 k0 z64, x < 256 := by
  rw [seal0_eq]
  intro x hx
  rcases List.mem_append.1 hx with hx | hx
  · exact headB_lt _ x hx
  · exact Ae.sealA_lt z64_lt x hx
theorem seal0_get (i v : Nat) (hi : i < 24) (h : (headB h0).getD i 0 = v) : (sealF h0 k0 z64).getD i 0 = v := by
  rw [seal0_eq, List.getD_eq_getElem?_getD, List.getElem?_append_left (by rw [headB_length]; exact hi), ← List.getD_eq_getElem?_getD, h]
theorem scan0 : scanF (sealF h0 k0 z64 ++ sealF h0 k0 z64) = [(h0, 0), (h0, 104)] := by
  have h := scan_frames k0 [(h0, z64), (h0, z64)] (by simp [h0_seal]) [] [] ((sealF h0 k0 z64 ++ sealF h0 k0 z64).length + 1) (by simp [seal0_length])
  simp only [frames, places, List.append_nil, List.nil_append, List.length_nil, Nat.zero_add, seal0_length] at h
  unfold scanF
  rw [h, scan_empty]
  rfl
theorem read81 : readH [81] = hd0 ∧ readE [81] = 110 := read_not (readB_no (fun h => by have := h.1; simp at this))
set_option maxRecDepth 100000 in
set_option maxHeartbeats 8000000 in
theorem awake_any (w : World) : Calls Try.prog 11 #[] w fun e w' => e = .returned (.bool true) ∧ Below w.heap.size w w' := by
  have kc := fun (w : World) (C : Array Value) (n c : Nat) => Lib.run_convert_bytes_const (P := Try.prog) w 25 5 C n c Try.underlying25 Try.underlying5
  have HZ1 := Lib.hid (show (Try.prog.info? 35).map (·.size) = some (nv .u8 k0).toArray.size by kernel_rfl)
  have HK := Lib.hid (show (Try.prog.info? 35).map (·.size) = some k0.length by kernel_rfl)
  have HK3 := Lib.hid (show (Try.prog.info? 35).map (·.size) = some (nv .u8 k0).length by kernel_rfl)
  have u32 := Try.underlying35
  have u8 := Try.underlying5
  have us := Try.underlying25
  have ut := Try.underlying9
  have cS := Lib.hid (fun (W : World) (b : Option Addr) (c : Nat) (h : RdB W b 64 c z64) => Seal_good W h0 k0 b 64 c z64 rfl k0_lt h rfl h0_ok)
  rw [← seal0_eq] at cS
  have cO := Lib.hid (fun (W : World) (b : Option Addr) (c : Nat) (h : RdB W b 104 c (sealF h0 k0 z64)) => Open_any W k0 b 104 c _ rfl k0_lt h (by decide))
  unfold OpenFOK at cO
  rw [openG_seal h0_seal] at cO
  have cL := Lib.hid (fun (W : World) => Seal_len W h0 k0 none 0 0 [] rfl k0_lt (rd_nil W) (by decide))
  have cN := Lib.hid (fun (W : World) (b : Option Addr) (c : Nat) (h : RdB W b 208 c (sealF h0 k0 z64 ++ sealF h0 k0 z64)) => Scan_any W b 208 c _ h (by decide))
  unfold ScanOK at cN
  rw [scan0] at cN
  have cR := Lib.hid (fun (W : World) (b : Option Addr) (c : Nat) (h : RdB W b 1 c [81]) => Read_any W b 1 c [81] h)
  unfold ReadOK at cR
  rw [read81.1, read81.2] at cR
  have hsl := seal0_length
  have hsb := seal0_lt
  have hg0 := seal0_get 0 81 (by decide) rfl
  have hg1 := seal0_get 1 1 (by decide) rfl
  generalize sealF h0 k0 z64 = sb at cS cO cN hsl hsb hg0 hg1
  have HSL := Lib.hid hsl
  have HG0 := Lib.hid hg0
  have HG1 := Lib.hid hg1
  clear hsl hg0 hg1
  go_enter Try.func11, Try.ntmps11
  have hb0 : HBlk (w.alloc (.cells #[.int .i64 1, .int .i64 3, .int .i64 64, .int .i64 9, .int .i64 2] 23)) w.heap.size h0 := HBlk.new w h0
  have bb0 := xnew w (.cells #[.int .i64 1, .int .i64 3, .int .i64 64, .int .i64 9, .int .i64 2] 23)
  go_upto_region 2 with fail
  generalize w.alloc (.cells #[.int .i64 1, .int .i64 3, .int .i64 64, .int .i64 9, .int .i64 2] 23) = W0 at hb0 bb0 ⊢
  go_upto_region 3 with (first
    | (refine wp_build rfl 35 _ rfl (.agg (nv .u8 k0).toArray) (by kernel_rfl) ?_)
    | (refine wp_store_new rfl 35 (.tmp 2) (.tmp 15) rfl rfl _ (nv .u8 k0).toArray rfl HZ1.out (by kernel_rfl) (nv_one _ _) ?_; have s0 : HW w [(w.heap.size, h0)] [] [] W0 := ⟨by simp; exact hb0, LW.nil bb0⟩; have s1 := s0.new 35 .u8 k0; clear s0; generalize W0.heap.size = N at s1 ⊢; generalize W0.alloc (.cells (nv .u8 k0).toArray 35) = W1 at s1 ⊢; clear hb0 bb0)
    | fail)
  refine wp_region_held_drew (S := HW w [(w.heap.size, h0)] [(N, 35, .u8, k0)] []) (by kernel_rfl) (s1.drew) (fun hHeld => ?_)
  generalize World.drew _ = wv at hHeld ⊢
  clear s1
  refine takeL (i := 0) (v := h0.v) rfl rfl (by kernel_rfl) (by kernel_rfl) (by kernel_rfl) (fun _ _ _ h => h) (yieldsHead (.tmp 1) (by rfl) rfl w.heap.size (by rfl) (fun _ h => h.hd 0 rfl)) (by assumption) ?_
  try simp only [Act.put, List.setIfInBounds_toArray, List.set_cons_zero, List.set_cons_succ]
  refine takeL (i := 1) (v := .agg (nv .u8 k0).toArray) rfl rfl (by kernel_rfl) (by kernel_rfl) (by kernel_rfl) (fun _ _ _ h => h) (yieldsIf_load_mid (by rfl) 35 (.tmp 2) rfl N 0 (by rfl) (nv .u8 k0) _ (fun _ h => blk_range (h.2.blk 0 rfl)) u32 rfl HK3.out) (by assumption) ?_
  try simp only [Act.put, List.setIfInBounds_toArray, List.set_cons_zero, List.set_cons_succ]
  refine wpAnyH_ready (rs := [2]) (by kernel_rfl) (by simp) ?_
  refine consL rfl (fun K hK => ?_) AllReadyH.nil
  · rw [if_pos (by rfl)]
    refine wpo_make (.const (.int .i64 64)) (.const (.int .i64 64)) rfl .i64 .i64 64 rfl rfl (by decide) ?_
    intro w2 o2 b2
    refine hK.out _ _ (hHeld.below b2) (fun hHeld => ?_)
    clear hK K
    try simp only [Act.put, List.setIfInBounds_toArray, List.set_cons_zero, List.set_cons_succ]
    refine wpAnyH_ready (rs := [3]) (by kernel_rfl) (by simp) ?_
    refine consL rfl (fun K hK => ?_) AllReadyH.nil
    · rw [if_pos (by rfl)]
      go_simp
      refine (cS.out _ _ _ (o2.rdb rfl (by decide))).mono ?_
      rintro e3 w3 ⟨a3, c3, rfl, p3, b3⟩
      obtain ⟨g3, rfl⟩ := own_cell p3 HSL.out (by decide)
      have p3b := (p3.block g3 rfl).2
      refine hK.out _ _ (hHeld.below b3) (fun hHeld => ?_)
      clear hK K
      try simp only [Act.put, List.setIfInBounds_toArray, List.set_cons_zero, List.set_cons_succ]
      refine takeL (i := 4) (v := ?_) rfl rfl (by kernel_rfl) (by kernel_rfl) (by kernel_rfl) (fun _ _ _ h => h) (Or.inl ⟨by rfl, ?_⟩) (by assumption) ?_
      rotate_left
      · (intro w' hSw; go_simp; try with_reducible rfl)
      try simp only [Act.put, List.setIfInBounds_toArray, List.set_cons_zero, List.set_cons_succ]
      refine takeL (i := 5) (v := ?_) rfl rfl (by kernel_rfl) (by kernel_rfl) (by kernel_rfl) (fun _ _ _ h => h) (Or.inl ⟨by rfl, ?_⟩) (by assumption) ?_
      rotate_left
      · (intro w' hSw; go_simp; try with_reducible rfl)
      try simp only [Act.put, List.setIfInBounds_toArray, List.set_cons_zero, List.set_cons_succ]
      refine takeL (i := 6) (v := ?_) rfl rfl (by kernel_rfl) (by kernel_rfl) (by kernel_rfl) (fun _ _ _ h => h) (Or.inl ⟨by rfl, ?_⟩) (by assumption) ?_
      rotate_left
      · (intro w' hSw; go_simp; try with_reducible rfl)
      try simp only [Act.put, List.setIfInBounds_toArray, List.set_cons_zero, List.set_cons_succ]
      refine takeL (i := 7) (v := ?_) rfl rfl (by kernel_rfl) (by kernel_rfl) (by kernel_rfl) (fun _ _ _ h => h) (Or.inl ⟨by rfl, ?_⟩) (by assumption) ?_
      rotate_left
      · (intro w' hSw; go_simp; try with_reducible rfl)
      try simp only [Act.put, List.setIfInBounds_toArray, List.set_cons_zero, List.set_cons_succ]
      refine takeL (i := 8) (v := ?_) rfl rfl (by kernel_rfl) (by kernel_rfl) (by kernel_rfl) (fun _ _ _ h => h) (Or.inl ⟨by rfl, ?_⟩) (by assumption) ?_
      rotate_left
      · (intro w' hSw; go_simp; try with_reducible rfl)
      try simp only [Act.put, List.setIfInBounds_toArray, List.set_cons_zero, List.set_cons_succ]
      refine wpAnyH_done (by kernel_rfl) ?_ _
      have s3 := hHeld.addR (p3.rdb HSL.out (by decide))
      clear hHeld o2 p3 b3 b2
      go_wp2_with (first
        | (refine wp_load_arr rfl 35 (.tmp 2) rfl N rfl (s3.2.blk 0 rfl) 32 5 Try.underlying35 HK.out ?_)
        | (go_at_call 23; refine (cO.out _ _ _ (s3.2.rd 0 rfl)).mono ?_; rintro e4 w4 ⟨a4, n4, c4, rfl, l4, p4, b4⟩; obtain rfl : n4 = 64 := l4.symm; have s4 := (s3.below b4).addR (p4.rdb l4 (by decide)); clear s3 p4 b4 l4; rw [show ((0 : Nat) : Int) = 0 from rfl])
        | (refine wp_store_head rfl (.tmp 5) (.tmp 27) rfl w4.heap.size rfl (h1 := h0) (HBlk.new w4 hd0) rfl ?_; intro W5 hX g; have t5 := s4.store hX g; clear s4 hX g; generalize w4.heap.size = X5 at t5 ⊢)
        | (go_at_call 14; refine (cR.out _ _ _ (rd_new _ _ _ _ _ _ rfl rfl (by decide) (by decide))).mono ?_; rintro e6 w6 ⟨rfl, b6⟩; have s6 := (t5.alloc _).below b6; clear t5 b6; rw [show ((110 : Nat) : Int) = 110 from rfl])
        | (refine wp_store_head rfl (.tmp 8) (.tmp 34) rfl w6.heap.size rfl (h1 := hd0) (HBlk.new w6 hd0) rfl ?_; intro W7 hX g; have t7 := s6.store hX g; clear s6 hX g; generalize w6.heap.size = X7 at t7 ⊢)
        | (refine wp_load_head rfl (.tmp 1) rfl w.heap.size rfl (t7.hd 2 rfl) ?_)
        | (refine wp_load_arr rfl 35 (.tmp 2) rfl N rfl (t7.2.blk 0 rfl) 32 5 Try.underlying35 HK.out ?_)
        | (go_at_call 15; refine (cL.out _).mono ?_; rintro e8 w8 ⟨rfl, b8⟩; have s8 := t7.below b8; clear t7 b8)
        | (at_builtin; have o9 := Own.lit w8 #[] 0 [] rfl rfl (by decide) (by simp); have s9 := s8.alloc (.cells #[] 5); have hl9 := s8.low; have hz9 := s8.2.bel.size; clear s8; generalize w8.heap.size = R at o9 hl9 hz9 ⊢; generalize w8.alloc (.cells #[] 5) = w9 at o9 s9 ⊢; refine wpList_of_wp rfl (wpo_append_at (.tmp 43) (.tmp 44) rfl R (.slice (some ⟨R, 0, none⟩) 0 0) [] rfl o9 _ 104 c3 sb rfl (s9.2.rd 1 rfl) (by rw [HSL.out]; decide) (Nat.le_of_lt (o9.block R rfl).2) ?_); intro v10 w10 o10 g10 _; rw [List.nil_append] at o10; have s10 := s9.top o9 hz9 g10 (by simp) hl9; have hz10 := Nat.le_trans (Nat.le_of_lt (o9.block R rfl).2) g10.size; obtain ⟨a10, c10, rfl, _, _⟩ := o10.rd (by rw [HSL.out]; decide); rw [HSL.out] at o10 ⊢; clear s9 o9 g10)
        | (at_builtin; refine wpList_of_wp rfl (wpo_append_at (.tmp 45) (.tmp 46) rfl R (.slice a10 104 c10) sb rfl o10 _ 104 c3 sb rfl (s10.2.rd 1 rfl) (by rw [HSL.out]; decide) hz10 ?_); intro v11 w11 o11 g11 _; have s11 := s10.top o10 hz9 g11 (by simp) hl9; obtain ⟨a11, c11, rfl, _, _⟩ := o11.rd (by rw [List.length_append, HSL.out]; decide); rw [List.length_append, HSL.out, show 104 + 104 = 208 from rfl] at o11 ⊢; clear s10 o10 g11)
        | (go_at_call 25; refine (cN.out _ _ _ (o11.rdb (by rw [List.length_append, HSL.out]) (by decide))).mono ?_; rintro e12 w12 ⟨v12, q12, n12, rfl, l12, _, ov, oq, b12⟩; obtain rfl : n12 = 2 := l12.symm; obtain ⟨av, cv, rfl, rv⟩ := rdH_row ov rfl (by decide); obtain ⟨aq, cq, rfl, rq⟩ := rdI_row oq rfl (by decide); have s12 := s11.below b12; clear s11 o11 b12 ov oq rv)
        | fail)
      refine wp_region_held_drew (S := fun W => HW w [(X7, hd0), (X5, h0), (w.heap.size, h0)] [(N, 35, .u8, k0)] [(a4, 64, c4, z64), (some ⟨g3, 0, none⟩, 104, c3, sb)] W ∧ RdI W aq 2 cq [0, 104]) (by kernel_rfl) (⟨s12.drew, rq⟩) (fun hHeld => ?_)
      generalize World.drew _ = w18 at hHeld ⊢
      clear s12 rq
      refine wpAnyH_ready (rs := [0]) (by kernel_rfl) (by simp) ?_
      refine consL rfl (fun K hK => ?_) AllReadyH.nil
      · rw [if_pos (by rfl)]
        go_simp
        refine (Size_any _ 64).mono ?_
        rintro e18 w18 ⟨rfl, rfl⟩
        rw [show sizeF 64 = 104 from rfl]
        refine hK.out _ _ (hHeld) (fun hHeld => ?_)
        clear hK K
        try simp only [Act.put, List.setIfInBounds_toArray, List.set_cons_zero, List.set_cons_succ]
        refine takeL (i := 1) (v := ?_) rfl rfl (by kernel_rfl) (by kernel_rfl) (by kernel_rfl) (fun _ _ _ h => h) (Or.inl ⟨by rfl, ?_⟩) (by assumption) ?_
        rotate_left
        · (intro w' hSw; go_simp; try with_reducible rfl)
        try simp only [Act.put, List.setIfInBounds_toArray, List.set_cons_zero, List.set_cons_succ]
        refine takeL (i := 2) (v := ?_) rfl rfl (by kernel_rfl) (by kernel_rfl) (by kernel_rfl) (fun _ _ _ h => h) (Or.inl ⟨by rfl, ?_⟩) (by assumption) ?_
        rotate_left
        · (intro w' hSw; go_simp; try with_reducible rfl)
        try simp only [Act.put, List.setIfInBounds_toArray, List.set_cons_zero, List.set_cons_succ]
        refine wpAnyH_ready (rs := [3]) (by kernel_rfl) (by simp) ?_
        refine consL rfl (fun K hK => ?_) AllReadyH.nil
        · rw [if_pos (by rfl)]
          go_simp
          refine (Size_any _ 0).mono ?_
          rintro e19 w19 ⟨rfl, rfl⟩
          rw [show sizeF 0 = 0 from rfl]
          refine hK.out _ _ (hHeld) (fun hHeld => ?_)
          clear hK K
          try simp only [Act.put, List.setIfInBounds_toArray, List.set_cons_zero, List.set_cons_succ]
          refine takeL (i := 4) (v := ?_) rfl rfl (by kernel_rfl) (by kernel_rfl) (by kernel_rfl) (fun _ _ _ h => h) (Or.inl ⟨by rfl, ?_⟩) (by assumption) ?_
          rotate_left
          · (intro w' hSw; go_simp; try with_reducible rfl)
          try simp only [Act.put, List.setIfInBounds_toArray, List.set_cons_zero, List.set_cons_succ]
          refine takeL (i := 5) (v := ?_) rfl rfl (by kernel_rfl) (by kernel_rfl) (by kernel_rfl) (fun _ _ _ h => h) (Or.inl ⟨by rfl, ?_⟩) (by assumption) ?_
          rotate_left
          · (intro w' hSw; go_simp; try with_reducible rfl)
          try simp only [Act.put, List.setIfInBounds_toArray, List.set_cons_zero, List.set_cons_succ]
          refine takeL (i := 6) (v := ?_) rfl rfl (by kernel_rfl) (by kernel_rfl) (by kernel_rfl) (fun _ _ _ h => h) (Or.inl ⟨by rfl, ?_⟩) (by assumption) ?_
          rotate_left
          · (intro w' hSw; go_simp; try with_reducible rfl)
          try simp only [Act.put, List.setIfInBounds_toArray, List.set_cons_zero, List.set_cons_succ]
          refine takeL (i := 7) (v := ?_) rfl rfl (by kernel_rfl) (by kernel_rfl) (by kernel_rfl) (fun _ _ _ h => h) (Or.inl ⟨by rfl, ?_⟩) (by assumption) ?_
          rotate_left
          · (intro w' hSw; go_simp; try with_reducible rfl)
          try simp only [Act.put, List.setIfInBounds_toArray, List.set_cons_zero, List.set_cons_succ]
          refine takeL (i := 8) (v := ?_) rfl rfl (by kernel_rfl) (by kernel_rfl) (by kernel_rfl) (fun _ _ _ h => h) (Or.inl ⟨by rfl, ?_⟩) (by assumption) ?_
          rotate_left
          · (intro w' hSw; go_simp; try with_reducible rfl)
          try simp only [Act.put, List.setIfInBounds_toArray, List.set_cons_zero, List.set_cons_succ]
          refine takeL (i := 9) (v := ?_) rfl rfl (by kernel_rfl) (by kernel_rfl) (by kernel_rfl) (fun _ _ _ h => h) (Or.inl ⟨by rfl, ?_⟩) (by assumption) ?_
          rotate_left
          · (intro w' hSw; go_simp; try with_reducible rfl)
          try simp only [Act.put, List.setIfInBounds_toArray, List.set_cons_zero, List.set_cons_succ]
          refine takeL (i := 10) (v := ?_) rfl rfl (by kernel_rfl) (by kernel_rfl) (by kernel_rfl) (fun _ _ _ h => h) (Or.inl ⟨by rfl, ?_⟩) (by assumption) ?_
          rotate_left
          · (intro w' hSw; go_simp; try with_reducible rfl)
          try simp only [Act.put, List.setIfInBounds_toArray, List.set_cons_zero, List.set_cons_succ]
          refine takeL (i := 11) (v := h0.v) rfl rfl (by kernel_rfl) (by kernel_rfl) (by kernel_rfl) (fun _ _ _ h => h) (yieldsHead (.tmp 5) (by rfl) rfl X5 (by rfl) (fun _ h => h.1.hd 1 rfl)) (by assumption) ?_
          try simp only [Act.put, List.setIfInBounds_toArray, List.set_cons_zero, List.set_cons_succ]
          refine takeL (i := 12) (v := h0.v) rfl rfl (by kernel_rfl) (by kernel_rfl) (by kernel_rfl) (fun _ _ _ h => h) (yieldsHead (.tmp 1) (by rfl) rfl w.heap.size (by rfl) (fun _ h => h.1.hd 2 rfl)) (by assumption) ?_
          try simp only [Act.put, List.setIfInBounds_toArray, List.set_cons_zero, List.set_cons_succ]
          refine takeL (i := 13) (v := .bool true) rfl rfl (by kernel_rfl) (by kernel_rfl) (by kernel_rfl) (fun _ _ _ h => h) (Hd.same_self h0 ▸ yieldsEqlH (by rfl) rfl (by rfl) (by rfl)) (by assumption) ?_
          try simp only [Act.put, List.setIfInBounds_toArray, List.set_cons_zero, List.set_cons_succ]
          refine takeL (i := 14) (v := ?_) rfl rfl (by kernel_rfl) (by kernel_rfl) (by kernel_rfl) (fun _ _ _ h => h) (Or.inl ⟨by rfl, ?_⟩) (by assumption) ?_
          rotate_left
          · (intro w' hSw; go_simp; try with_reducible rfl)
          try simp only [Act.put, List.setIfInBounds_toArray, List.set_cons_zero, List.set_cons_succ]
          refine takeL (i := 15) (v := ?_) rfl rfl (by kernel_rfl) (by kernel_rfl) (by kernel_rfl) (fun _ _ _ h => h) (Or.inl ⟨by rfl, ?_⟩) (by assumption) ?_
          rotate_left
          · (intro w' hSw; go_simp; try with_reducible rfl)
          try simp only [Act.put, List.setIfInBounds_toArray, List.set_cons_zero, List.set_cons_succ]
          refine takeL (i := 16) (v := ?_) rfl rfl (by kernel_rfl) (by kernel_rfl) (by kernel_rfl) (fun _ _ _ h => h) (Or.inl ⟨by rfl, ?_⟩) (by assumption) ?_
          rotate_left
          · (intro w' hSw; go_simp; try with_reducible rfl)
          try simp only [Act.put, List.setIfInBounds_toArray, List.set_cons_zero, List.set_cons_succ]
          refine takeL (i := 17) (v := .string (strB z64)) rfl rfl (by kernel_rfl) (by kernel_rfl) (by kernel_rfl) (fun _ _ _ h => h) (yieldsStr (by rfl) (x := .tmp 70) rfl (by rfl) us u8 ut (fun W h => (h.1.2.rd 0 rfl).2)) (by assumption) ?_
          try simp only [Act.put, List.setIfInBounds_toArray, List.set_cons_zero, List.set_cons_succ]
          refine wpAnyH_ready (rs := [18]) (by kernel_rfl) (by simp) ?_
          refine consL rfl (fun K hK => ?_) AllReadyH.nil
          · rw [if_pos (by rfl)]
            refine wpo_make (.const (.int .i64 64)) (.const (.int .i64 64)) rfl .i64 .i64 64 rfl rfl (by decide) ?_
            intro w20 o20 b20
            refine hK.out _ _ (⟨hHeld.1.below b20, hHeld.2.below b20⟩) (fun hHeld => ?_)
            clear hK K
            try simp only [Act.put, List.setIfInBounds_toArray, List.set_cons_zero, List.set_cons_succ]
            refine wpAnyH_ready (rs := [19]) (by kernel_rfl) (by simp) ?_
            refine consL rfl (fun K hK => ?_) AllReadyH.nil
            · rw [if_pos (by rfl)]
              refine wpo_str (x := .tmp 72) rfl rfl us u8 ut (o20.rdb rfl (by decide)).2 ?_
              refine hK.out _ _ (hHeld) (fun hHeld => ?_)
              clear hK K
              try simp only [Act.put, List.setIfInBounds_toArray, List.set_cons_zero, List.set_cons_succ]
              refine takeL (i := 20) (v := .bool true) rfl rfl (by kernel_rfl) (by kernel_rfl) (by kernel_rfl) (fun _ _ _ h => h) (yieldsEqS (by rfl) rfl (by rfl) (by rfl) (beq_self_eq_true _)) (by assumption) ?_
              try simp only [Act.put, List.setIfInBounds_toArray, List.set_cons_zero, List.set_cons_succ]
              refine takeL (i := 21) (v := ?_) rfl rfl (by kernel_rfl) (by kernel_rfl) (by kernel_rfl) (fun _ _ _ h => h) (Or.inl ⟨by rfl, ?_⟩) (by assumption) ?_
              rotate_left
              · (intro w' hSw; go_simp; try with_reducible rfl)
              try simp only [Act.put, List.setIfInBounds_toArray, List.set_cons_zero, List.set_cons_succ]
              refine takeL (i := 22) (v := ?_) rfl rfl (by kernel_rfl) (by kernel_rfl) (by kernel_rfl) (fun _ _ _ h => h) (Or.inl ⟨by rfl, ?_⟩) (by assumption) ?_
              rotate_left
              · (intro w' hSw; go_simp; try with_reducible rfl)
              try simp only [Act.put, List.setIfInBounds_toArray, List.set_cons_zero, List.set_cons_succ]
              refine takeL (i := 23) (v := ?_) rfl rfl (by kernel_rfl) (by kernel_rfl) (by kernel_rfl) (fun _ _ _ h => h) (Or.inl ⟨by rfl, ?_⟩) (by assumption) ?_
              rotate_left
              · (intro w' hSw; go_simp; try with_reducible rfl)
              try simp only [Act.put, List.setIfInBounds_toArray, List.set_cons_zero, List.set_cons_succ]
              refine takeL (i := 24) (v := ?_) rfl rfl (by kernel_rfl) (by kernel_rfl) (by kernel_rfl) (fun _ _ _ h => h) (Or.inl ⟨by rfl, ?_⟩) (by assumption) ?_
              rotate_left
              · (intro w' hSw; go_simp; try with_reducible rfl)
              try simp only [Act.put, List.setIfInBounds_toArray, List.set_cons_zero, List.set_cons_succ]
              refine takeL (i := 25) (v := ?_) rfl rfl (by kernel_rfl) (by kernel_rfl) (by kernel_rfl) (fun _ _ _ h => h) (Or.inl ⟨by rfl, ?_⟩) (by assumption) ?_
              rotate_left
              · (intro w' hSw; go_simp; try with_reducible rfl)
              try simp only [Act.put, List.setIfInBounds_toArray, List.set_cons_zero, List.set_cons_succ]
              refine takeL (i := 26) (v := ?_) rfl rfl (by kernel_rfl) (by kernel_rfl) (by kernel_rfl) (fun _ _ _ h => h) (Or.inl ⟨by rfl, ?_⟩) (by assumption) ?_
              rotate_left
              · (intro w' hSw; go_simp; try with_reducible rfl)
              try simp only [Act.put, List.setIfInBounds_toArray, List.set_cons_zero, List.set_cons_succ]
              refine takeL (i := 27) (v := ?_) rfl rfl (by kernel_rfl) (by kernel_rfl) (by kernel_rfl) (fun _ _ _ h => h) (Or.inl ⟨by rfl, ?_⟩) (by assumption) ?_
              rotate_left
              · (intro w' hSw; go_simp; try with_reducible rfl)
              try simp only [Act.put, List.setIfInBounds_toArray, List.set_cons_zero, List.set_cons_succ]
              refine takeL (i := 28) (v := ?_) rfl rfl (by kernel_rfl) (by kernel_rfl) (by kernel_rfl) (fun _ _ _ h => h) (Or.inl ⟨by rfl, ?_⟩) (by assumption) ?_
              rotate_left
              · (intro w' hSw; go_simp; try with_reducible rfl)
              try simp only [Act.put, List.setIfInBounds_toArray, List.set_cons_zero, List.set_cons_succ]
              refine takeL (i := 29) (v := ?_) rfl rfl (by kernel_rfl) (by kernel_rfl) (by kernel_rfl) (fun _ _ _ h => h) (Or.inl ⟨by rfl, ?_⟩) (by assumption) ?_
              rotate_left
              · (intro w' hSw; go_simp; try with_reducible rfl)
              try simp only [Act.put, List.setIfInBounds_toArray, List.set_cons_zero, List.set_cons_succ]
              refine takeL (i := 30) (v := ?_) rfl rfl (by kernel_rfl) (by kernel_rfl) (by kernel_rfl) (fun _ _ _ h => h) (Or.inl ⟨by rfl, ?_⟩) (by assumption) ?_
              rotate_left
              · (intro w' hSw; go_simp; try with_reducible rfl)
              try simp only [Act.put, List.setIfInBounds_toArray, List.set_cons_zero, List.set_cons_succ]
              refine takeL (i := 31) (v := ?_) rfl rfl (by kernel_rfl) (by kernel_rfl) (by kernel_rfl) (fun _ _ _ h => h) (Or.inl ⟨by rfl, ?_⟩) (by assumption) ?_
              rotate_left
              · (intro w' hSw; go_simp; try with_reducible rfl)
              try simp only [Act.put, List.setIfInBounds_toArray, List.set_cons_zero, List.set_cons_succ]
              refine takeL (i := 32) (v := ?_) rfl rfl (by kernel_rfl) (by kernel_rfl) (by kernel_rfl) (fun _ _ _ h => h) (Or.inl ⟨by rfl, ?_⟩) (by assumption) ?_
              rotate_left
              · (intro w' hSw; go_simp; try with_reducible rfl)
              try simp only [Act.put, List.setIfInBounds_toArray, List.set_cons_zero, List.set_cons_succ]
              refine takeL (i := 33) (v := ?_) rfl rfl (by kernel_rfl) (by kernel_rfl) (by kernel_rfl) (fun _ _ _ h => h) (Or.inl ⟨by rfl, ?_⟩) (by assumption) ?_
              rotate_left
              · (intro w' hSw; go_simp; try with_reducible rfl)
              try simp only [Act.put, List.setIfInBounds_toArray, List.set_cons_zero, List.set_cons_succ]
              refine takeL (i := 34) (v := ?_) rfl rfl (by kernel_rfl) (by kernel_rfl) (by kernel_rfl) (fun _ _ _ h => h) (Or.inl ⟨by rfl, ?_⟩) (by assumption) ?_
              rotate_left
              · (intro w' hSw; go_simp; try with_reducible rfl)
              try simp only [Act.put, List.setIfInBounds_toArray, List.set_cons_zero, List.set_cons_succ]
              refine takeL (i := 35) (v := ?_) rfl rfl (by kernel_rfl) (by kernel_rfl) (by kernel_rfl) (fun _ _ _ h => h) (Or.inl ⟨by rfl, ?_⟩) (by assumption) ?_
              rotate_left
              · (intro w' hSw; go_simp; try with_reducible rfl)
              try simp only [Act.put, List.setIfInBounds_toArray, List.set_cons_zero, List.set_cons_succ]
              refine takeL (i := 36) (v := ?_) rfl rfl (by kernel_rfl) (by kernel_rfl) (by kernel_rfl) (fun _ _ _ h => h) (Or.inl ⟨by rfl, ?_⟩) (by assumption) ?_
              rotate_left
              · (intro w' hSw; go_simp; try with_reducible rfl)
              try simp only [Act.put, List.setIfInBounds_toArray, List.set_cons_zero, List.set_cons_succ]
              refine takeL (i := 37) (v := ?_) rfl rfl (by kernel_rfl) (by kernel_rfl) (by kernel_rfl) (fun _ _ _ h => h) (Or.inl ⟨by rfl, ?_⟩) (by assumption) ?_
              rotate_left
              · (intro w' hSw; go_simp; try with_reducible rfl)
              try simp only [Act.put, List.setIfInBounds_toArray, List.set_cons_zero, List.set_cons_succ]
              refine takeL (i := 38) (v := ?_) rfl rfl (by kernel_rfl) (by kernel_rfl) (by kernel_rfl) (fun _ _ _ h => h) (Or.inl ⟨by rfl, ?_⟩) (by assumption) ?_
              rotate_left
              · (intro w' hSw; go_simp; try with_reducible rfl)
              try simp only [Act.put, List.setIfInBounds_toArray, List.set_cons_zero, List.set_cons_succ]
              refine takeL (i := 39) (v := ?_) rfl rfl (by kernel_rfl) (by kernel_rfl) (by kernel_rfl) (fun _ _ _ h => h) (Or.inl ⟨by rfl, ?_⟩) (by assumption) ?_
              rotate_left
              · (intro w' hSw; go_simp; try with_reducible rfl)
              try simp only [Act.put, List.setIfInBounds_toArray, List.set_cons_zero, List.set_cons_succ]
              refine takeL (i := 40) (v := ?_) rfl rfl (by kernel_rfl) (by kernel_rfl) (by kernel_rfl) (fun _ _ _ h => h) (Or.inl ⟨by rfl, ?_⟩) (by assumption) ?_
              rotate_left
              · (intro w' hSw; go_simp; try with_reducible rfl)
              try simp only [Act.put, List.setIfInBounds_toArray, List.set_cons_zero, List.set_cons_succ]
              refine wpAnyH_ready (rs := [41]) (by kernel_rfl) (by simp) ?_
              refine consL rfl (fun K hK => ?_) AllReadyH.nil
              · rw [if_pos (by rfl)]
                go_simp
                have hq2 : RdI (w20.alloc (.cells (nv .i64 [0, 104]).toArray 3)) (some ⟨w20.heap.size, 0, none⟩) 2 2 [0, 104] := rdI_lit w20 [0, 104] 2 _ rfl rfl (by decide)
                have bq2 : Below w20.heap.size w20 (w20.alloc (.cells (nv .i64 [0, 104]).toArray 3)) := xnew w20 _
                have hl2 := And.intro (hHeld.1.below bq2) (hHeld.2.below bq2)
                change K _ (w20.alloc (.cells (nv .i64 [0, 104]).toArray 3))
                generalize w20.heap.size = R2 at hq2 ⊢
                clear bq2
                generalize w20.alloc (.cells (nv .i64 [0, 104]).toArray 3) = w21 at hq2 hl2 ⊢
                refine hK.out _ _ (hl2) (fun hHeld => ?_)
                clear hK K
                try simp only [Act.put, List.setIfInBounds_toArray, List.set_cons_zero, List.set_cons_succ]
                refine wpAnyH_ready (rs := [42]) (by kernel_rfl) (by simp) ?_
                refine consL rfl (fun K hK => ?_) AllReadyH.nil
                · rw [if_pos (by rfl)]
                  go_simp
                  refine (Numbers_any _ aq 2 cq [0, 104] _ 2 2 [0, 104] hHeld.2 hq2).mono ?_
                  rintro e22 w22 ⟨rfl, b22⟩
                  rw [decide_eq_true rfl]
                  refine hK.out _ _ (⟨hHeld.1.below b22, hHeld.2.below b22⟩) (fun hHeld => ?_)
                  clear hK K
                  try simp only [Act.put, List.setIfInBounds_toArray, List.set_cons_zero, List.set_cons_succ]
                  refine takeL (i := 43) (v := ?_) rfl rfl (by kernel_rfl) (by kernel_rfl) (by kernel_rfl) (fun _ _ _ h => h) (Or.inl ⟨by rfl, ?_⟩) (by assumption) ?_
                  rotate_left
                  · (intro w' hSw; go_simp; try with_reducible rfl)
                  try simp only [Act.put, List.setIfInBounds_toArray, List.set_cons_zero, List.set_cons_succ]
                  refine takeL (i := 44) (v := ?_) rfl rfl (by kernel_rfl) (by kernel_rfl) (by kernel_rfl) (fun _ _ _ h => h) (Or.inl ⟨by rfl, ?_⟩) (by assumption) ?_
                  rotate_left
                  · (intro w' hSw; go_simp; try with_reducible rfl)
                  try simp only [Act.put, List.setIfInBounds_toArray, List.set_cons_zero, List.set_cons_succ]
                  refine takeL (i := 45) (v := ?_) rfl rfl (by kernel_rfl) (by kernel_rfl) (by kernel_rfl) (fun _ _ _ h => h) (Or.inl ⟨by rfl, ?_⟩) (by assumption) ?_
                  rotate_left
                  · (intro w' hSw; go_simp; try with_reducible rfl)
                  try simp only [Act.put, List.setIfInBounds_toArray, List.set_cons_zero, List.set_cons_succ]
                  refine takeL (i := 46) (v := ?_) rfl rfl (by kernel_rfl) (by kernel_rfl) (by kernel_rfl) (fun _ _ _ h => h) (Or.inl ⟨by rfl, ?_⟩) (by assumption) ?_
                  rotate_left
                  · (intro w' hSw; go_simp; try with_reducible rfl)
                  try simp only [Act.put, List.setIfInBounds_toArray, List.set_cons_zero, List.set_cons_succ]
                  refine takeL (i := 47) (v := .int .u8 81) rfl rfl (by kernel_rfl) (by kernel_rfl) (by kernel_rfl) (fun _ _ _ h => h) (Or.inl ⟨by rfl, ?_⟩) (by assumption) ?_
                  · (intro w' hSw; have hh := rd_cell (hSw.1.2.rd 1 rfl) 0 (by decide); rw [HG0.out, show ((81 : Nat) : Int) = 81 from rfl] at hh; go_simp; try with_reducible rfl)
                  try simp only [Act.put, List.setIfInBounds_toArray, List.set_cons_zero, List.set_cons_succ]
                  refine takeL (i := 48) (v := ?_) rfl rfl (by kernel_rfl) (by kernel_rfl) (by kernel_rfl) (fun _ _ _ h => h) (Or.inl ⟨by rfl, ?_⟩) (by assumption) ?_
                  rotate_left
                  · (intro w' hSw; go_simp; try with_reducible rfl)
                  try simp only [Act.put, List.setIfInBounds_toArray, List.set_cons_zero, List.set_cons_succ]
                  refine takeL (i := 49) (v := ?_) rfl rfl (by kernel_rfl) (by kernel_rfl) (by kernel_rfl) (fun _ _ _ h => h) (Or.inl ⟨by rfl, ?_⟩) (by assumption) ?_
                  rotate_left
                  · (intro w' hSw; go_simp; try with_reducible rfl)
                  try simp only [Act.put, List.setIfInBounds_toArray, List.set_cons_zero, List.set_cons_succ]
                  refine takeL (i := 50) (v := ?_) rfl rfl (by kernel_rfl) (by kernel_rfl) (by kernel_rfl) (fun _ _ _ h => h) (Or.inl ⟨by rfl, ?_⟩) (by assumption) ?_
                  rotate_left
                  · (intro w' hSw; go_simp; try with_reducible rfl)
                  try simp only [Act.put, List.setIfInBounds_toArray, List.set_cons_zero, List.set_cons_succ]
                  refine takeL (i := 51) (v := ?_) rfl rfl (by kernel_rfl) (by kernel_rfl) (by kernel_rfl) (fun _ _ _ h => h) (Or.inl ⟨by rfl, ?_⟩) (by assumption) ?_
                  rotate_left
                  · (intro w' hSw; go_simp; try with_reducible rfl)
                  try simp only [Act.put, List.setIfInBounds_toArray, List.set_cons_zero, List.set_cons_succ]
                  refine takeL (i := 52) (v := ?_) rfl rfl (by kernel_rfl) (by kernel_rfl) (by kernel_rfl) (fun _ _ _ h => h) (Or.inl ⟨by rfl, ?_⟩) (by assumption) ?_
                  rotate_left
                  · (intro w' hSw; go_simp; try with_reducible rfl)
                  try simp only [Act.put, List.setIfInBounds_toArray, List.set_cons_zero, List.set_cons_succ]
                  refine takeL (i := 53) (v := .int .u8 1) rfl rfl (by kernel_rfl) (by kernel_rfl) (by kernel_rfl) (fun _ _ _ h => h) (Or.inl ⟨by rfl, ?_⟩) (by assumption) ?_
                  · (intro w' hSw; have hh := rd_cell (hSw.1.2.rd 1 rfl) 1 (by decide); rw [HG1.out, show ((1 : Nat) : Int) = 1 from rfl] at hh; go_simp; try with_reducible rfl)
                  try simp only [Act.put, List.setIfInBounds_toArray, List.set_cons_zero, List.set_cons_succ]
                  refine takeL (i := 54) (v := ?_) rfl rfl (by kernel_rfl) (by kernel_rfl) (by kernel_rfl) (fun _ _ _ h => h) (Or.inl ⟨by rfl, ?_⟩) (by assumption) ?_
                  rotate_left
                  · (intro w' hSw; go_simp; try with_reducible rfl)
                  try simp only [Act.put, List.setIfInBounds_toArray, List.set_cons_zero, List.set_cons_succ]
                  refine takeL (i := 55) (v := ?_) rfl rfl (by kernel_rfl) (by kernel_rfl) (by kernel_rfl) (fun _ _ _ h => h) (Or.inl ⟨by rfl, ?_⟩) (by assumption) ?_
                  rotate_left
                  · (intro w' hSw; go_simp; try with_reducible rfl)
                  try simp only [Act.put, List.setIfInBounds_toArray, List.set_cons_zero, List.set_cons_succ]
                  refine takeL (i := 56) (v := ?_) rfl rfl (by kernel_rfl) (by kernel_rfl) (by kernel_rfl) (fun _ _ _ h => h) (Or.inl ⟨by rfl, ?_⟩) (by assumption) ?_
                  rotate_left
                  · (intro w' hSw; go_simp; try with_reducible rfl)
                  try simp only [Act.put, List.setIfInBounds_toArray, List.set_cons_zero, List.set_cons_succ]
                  refine takeL (i := 57) (v := h0.v) rfl rfl (by kernel_rfl) (by kernel_rfl) (by kernel_rfl) (fun _ _ _ h => h) (yieldsHead (.tmp 1) (by rfl) rfl w.heap.size (by rfl) (fun _ h => h.1.hd 2 rfl)) (by assumption) ?_
                  try simp only [Act.put, List.setIfInBounds_toArray, List.set_cons_zero, List.set_cons_succ]
                  refine wpAnyH_ready (rs := [58]) (by kernel_rfl) (by simp) ?_
                  refine consL rfl (fun K hK => ?_) AllReadyH.nil
                  · rw [if_pos (by rfl)]
                    go_simp
                    refine (Check_any _ h0).mono ?_
                    rintro e23 w23 ⟨rfl, b23⟩
                    rw [okE_ok h0_ok, show ((0 : Nat) : Int) = 0 from rfl]
                    refine hK.out _ _ (⟨hHeld.1.below b23, hHeld.2.below b23⟩) (fun hHeld => ?_)
                    clear hK K
                    try simp only [Act.put, List.setIfInBounds_toArray, List.set_cons_zero, List.set_cons_succ]
                    refine takeL (i := 59) (v := ?_) rfl rfl (by kernel_rfl) (by kernel_rfl) (by kernel_rfl) (fun _ _ _ h => h) (Or.inl ⟨by rfl, ?_⟩) (by assumption) ?_
                    rotate_left
                    · (intro w' hSw; go_simp; try with_reducible rfl)
                    try simp only [Act.put, List.setIfInBounds_toArray, List.set_cons_zero, List.set_cons_succ]
                    refine takeL (i := 60) (v := ?_) rfl rfl (by kernel_rfl) (by kernel_rfl) (by kernel_rfl) (fun _ _ _ h => h) (Or.inl ⟨by rfl, ?_⟩) (by assumption) ?_
                    rotate_left
                    · (intro w' hSw; go_simp; try with_reducible rfl)
                    try simp only [Act.put, List.setIfInBounds_toArray, List.set_cons_zero, List.set_cons_succ]
                    refine takeL (i := 61) (v := ?_) rfl rfl (by kernel_rfl) (by kernel_rfl) (by kernel_rfl) (fun _ _ _ h => h) (Or.inl ⟨by rfl, ?_⟩) (by assumption) ?_
                    rotate_left
                    · (intro w' hSw; go_simp; try with_reducible rfl)
                    try simp only [Act.put, List.setIfInBounds_toArray, List.set_cons_zero, List.set_cons_succ]
                    refine wpAnyH_done (by kernel_rfl) ?_ _
                    have bb := hHeld.1.2.bel
                    clear hHeld
                    go_wp2_with fail
                    go_ret
                    exact ⟨rfl, bb⟩
end Go.Proofs.Ytpcppnoomogloaa.Fr
