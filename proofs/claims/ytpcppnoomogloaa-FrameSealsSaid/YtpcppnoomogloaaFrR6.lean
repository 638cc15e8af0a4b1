/- The walks of the document's Seal. -/
import Derived.Test.YtpcppnoomogloaaFrW5
import Derived.Test.YtpcppnoomogloaaFrR5
import Derived.Test.YtpcppnoomogloaaFrW6
import Derived.Test.YtpcppnoomogloaaAeRs
set_option maxRecDepth 4000
namespace Go.Proofs.Ytpcppnoomogloaa.Fr
set_option linter.unusedSimpArgs false
set_option linter.unusedVariables false
open Go.RowKit

theorem rSeal_len (w : World) (h : Hd) (key : List Nat) (b : Option Addr) (lb cb : Nat) (body : List Nat) (hk : key.length = 32) (hkb : ∀ x ∈ key, x < 256) (hr : RdB w b lb cb body) (hl : ¬ h.len = (lb : Int)) : Calls Try.prog 22 #[h.v, .agg (bv key).toArray, .slice b lb cb] w fun e w' => e = .returned (.tuple #[.slice none 0 0, .int .i64 110]) ∧ Below w.heap.size w w' := by
  have d1 := lenNe hl
  clear hl
  show Calls Try.prog 22 #[.agg #[.int .i64 h.kind, .int .i64 h.lba, .int .i64 h.len, .int .i64 h.seq, .int .i64 h.epoch], .agg (nv .u8 key).toArray, .slice b lb cb] w _
  go_enter Try.func22, Try.ntmps22
  have hb0 : HBlk ((w.alloc (.cells #[.int .i64 h.kind, .int .i64 h.lba, .int .i64 h.len, .int .i64 h.seq, .int .i64 h.epoch] 23)).alloc (.cells (nv .u8 key).toArray 35)) w.heap.size h := (HBlk.new w h).alloc _
  have s0 : LW w [(w.heap.size + 1, 35, .u8, key)] [(b, lb, cb, body)] ((w.alloc (.cells #[.int .i64 h.kind, .int .i64 h.lba, .int .i64 h.len, .int .i64 h.seq, .int .i64 h.epoch] 23)).alloc (.cells (nv .u8 key).toArray 35)) := by
    have := (((LW.nil (xrefl w)).addR hr).alloc (.cells #[.int .i64 h.kind, .int .i64 h.lba, .int .i64 h.len, .int .i64 h.seq, .int .i64 h.epoch] 23)).new 35 .u8 key
    rw [World.size_alloc] at this
    exact this
  clear hr
  go_upto_region 1 with fail
  generalize (w.alloc (.cells #[.int .i64 h.kind, .int .i64 h.lba, .int .i64 h.len, .int .i64 h.seq, .int .i64 h.epoch] 23)).alloc (.cells (nv .u8 key).toArray 35) = W0 at hb0 s0 ⊢
  obtain ⟨q0, q1, q2, q3, q4⟩ := hb0.cells
  go_wp2_with fail
  go_ret2
  exact ⟨rfl, s0.bel⟩
theorem rSeal_bad (w : World) (h : Hd) (key : List Nat) (b : Option Addr) (lb cb : Nat) (body : List Nat) (hk : key.length = 32) (hkb : ∀ x ∈ key, x < 256) (hr : RdB w b lb cb body) (hl : h.len = (lb : Int)) (ho : okH h = false) : Calls Try.prog 22 #[h.v, .agg (bv key).toArray, .slice b lb cb] w fun e w' => e = .returned (.tuple #[.slice none 0 0, .int .i64 110]) ∧ Below w.heap.size w w' := by
  have cC := Lib.hid (fun W => rCheck_any W h)
  rw [okE_no ho, show ((110 : Nat) : Int) = 110 from rfl] at cC
  have d1 : (h.len != (lb : Int)) = false := by rw [hl]; simp
  clear hl ho
  show Calls Try.prog 22 #[.agg #[.int .i64 h.kind, .int .i64 h.lba, .int .i64 h.len, .int .i64 h.seq, .int .i64 h.epoch], .agg (nv .u8 key).toArray, .slice b lb cb] w _
  go_enter Try.func22, Try.ntmps22
  have hb0 : HBlk ((w.alloc (.cells #[.int .i64 h.kind, .int .i64 h.lba, .int .i64 h.len, .int .i64 h.seq, .int .i64 h.epoch] 23)).alloc (.cells (nv .u8 key).toArray 35)) w.heap.size h := (HBlk.new w h).alloc _
  have s0 : LW w [(w.heap.size + 1, 35, .u8, key)] [(b, lb, cb, body)] ((w.alloc (.cells #[.int .i64 h.kind, .int .i64 h.lba, .int .i64 h.len, .int .i64 h.seq, .int .i64 h.epoch] 23)).alloc (.cells (nv .u8 key).toArray 35)) := by
    have := (((LW.nil (xrefl w)).addR hr).alloc (.cells #[.int .i64 h.kind, .int .i64 h.lba, .int .i64 h.len, .int .i64 h.seq, .int .i64 h.epoch] 23)).new 35 .u8 key
    rw [World.size_alloc] at this
    exact this
  clear hr
  go_upto_region 1 with fail
  generalize (w.alloc (.cells #[.int .i64 h.kind, .int .i64 h.lba, .int .i64 h.len, .int .i64 h.seq, .int .i64 h.epoch] 23)).alloc (.cells (nv .u8 key).toArray 35) = W0 at hb0 s0 ⊢
  obtain ⟨q0, q1, q2, q3, q4⟩ := hb0.cells
  go_wp2_with (first
    | (refine wp_load_head rfl (.tmp 3) rfl w.heap.size rfl hb0 ?_)
    | (go_at_call 19; refine (cC.out _).mono ?_; rintro e7 w7 ⟨rfl, b7⟩; have bb7 := xtrans s0.bel b7; clear q0 q1 q2 q3 q4 s0 hb0 b7)
    | fail)
  go_ret2
  exact ⟨rfl, bb7⟩
set_option maxRecDepth 100000 in
set_option maxHeartbeats 8000000 in
theorem rSeal_good (w : World) (h : Hd) (key : List Nat) (b : Option Addr) (lb cb : Nat) (body : List Nat) (hk : key.length = 32) (hkb : ∀ x ∈ key, x < 256) (hr : RdB w b lb cb body) (hl : h.len = (lb : Int)) (ho : okH h = true) : Calls Try.prog 22 #[h.v, .agg (bv key).toArray, .slice b lb cb] w fun e w' => ∃ ad cp, e = .returned (.tuple #[.slice ad (lb + 40) cp, .int .i64 0]) ∧ Own w' w.heap.size (.slice ad (lb + 40) cp) (headB h ++ Ae.sealA key (nonceB h) body (headB h)) ∧ Below w.heap.size w w' := by
  have cC := Lib.hid (fun W => rCheck_any W h)
  rw [okE_ok ho, show ((0 : Nat) : Int) = 0 from rfl] at cC
  have cW := Lib.hid (fun W => rbytes_ok W h ho)
  have cN := Lib.hid (fun W => rnonce_any W h ho)
  have hl5 : lb ≤ 4096 := by have := (okH_iff h).1 ho; omega
  have hbl : body.length = lb := hr.2.1
  have d1 : (h.len != (lb : Int)) = false := by rw [hl]; simp
  have hhl := headB_length h
  have hhb := headB_lt h
  have hnl := nonceB_length h
  have hnb := nonceB_lt h
  generalize headB h = hd at cW hhl hhb ⊢
  generalize nonceB h = nc at cN hnl hnb ⊢
  have hsl : (Ae.sealA key nc body hd).length = lb + 16 := by rw [Ae.sealA_length, hbl]
  have cS := Lib.hid (fun (W : World) (aw : Option Addr) (cw : Nat) (h1 : RdB W b lb cb body) (h2 : RdB W aw 24 cw hd) => Ae.rSeal_any W key nc b lb cb body aw 24 cw hd hk hkb hnl hnb h1 h2 (by omega) (by decide))
  generalize Ae.sealA key nc body hd = sl at cS hsl ⊢
  have HHL := Lib.hid hhl
  have HSL := Lib.hid hsl
  have HK := Lib.hid (show (Try.prog.info? 35).map (·.size) = some key.length by rw [hk]; kernel_rfl)
  have HK3 := Lib.hid (show (Try.prog.info? 35).map (·.size) = some (nv .u8 key).length by rw [nv_length, hk]; kernel_rfl)
  have u32 := Try.underlying35
  have HKL := Lib.hid hk
  clear hl ho hbl hhl hnl hsl hk
  show Calls Try.prog 22 #[.agg #[.int .i64 h.kind, .int .i64 h.lba, .int .i64 h.len, .int .i64 h.seq, .int .i64 h.epoch], .agg (nv .u8 key).toArray, .slice b lb cb] w _
  go_enter Try.func22, Try.ntmps22
  have hb0 : HBlk ((w.alloc (.cells #[.int .i64 h.kind, .int .i64 h.lba, .int .i64 h.len, .int .i64 h.seq, .int .i64 h.epoch] 23)).alloc (.cells (nv .u8 key).toArray 35)) w.heap.size h := (HBlk.new w h).alloc _
  have s0 : LW w [(w.heap.size + 1, 35, .u8, key)] [(b, lb, cb, body)] ((w.alloc (.cells #[.int .i64 h.kind, .int .i64 h.lba, .int .i64 h.len, .int .i64 h.seq, .int .i64 h.epoch] 23)).alloc (.cells (nv .u8 key).toArray 35)) := by
    have := (((LW.nil (xrefl w)).addR hr).alloc (.cells #[.int .i64 h.kind, .int .i64 h.lba, .int .i64 h.len, .int .i64 h.seq, .int .i64 h.epoch] 23)).new 35 .u8 key
    rw [World.size_alloc] at this
    exact this
  clear hr
  go_upto_region 1 with fail
  generalize (w.alloc (.cells #[.int .i64 h.kind, .int .i64 h.lba, .int .i64 h.len, .int .i64 h.seq, .int .i64 h.epoch] 23)).alloc (.cells (nv .u8 key).toArray 35) = W0 at hb0 s0 ⊢
  obtain ⟨q0, q1, q2, q3, q4⟩ := hb0.cells
  go_wp2_with (first
    | (refine wp_load_head rfl (.tmp 3) rfl w.heap.size rfl hb0 ?_)
    | (go_at_call 19; refine (cC.out _).mono ?_; rintro e6 w6 ⟨rfl, b6⟩; have hB6 := hb0.below b6; have s6 := s0.below b6; clear q0 q1 q2 q3 q4 s0 hb0 b6)
    | (refine wp_load_head rfl (.tmp 3) rfl w.heap.size rfl hB6 ?_)
    | (go_at_call 37; refine (cW.out _).mono ?_; rintro e7 w7 ⟨a7, c7, rfl, p7, b7⟩; have hB7 := hB6.below b7; have s7 := (s6.below b7).addR ((p7.mono s6.bel.size).rdb HHL.out (by decide)); clear s6 hB6 b7 p7)
    | fail)
  refine wp_region_held_drew (S := fun W => HBlk W w.heap.size h ∧ LW w [(w.heap.size + 1, 35, .u8, key)] [(a7, 24, c7, hd), (b, lb, cb, body)] W) (by kernel_rfl) (⟨hB7.drew, s7.drew⟩) (fun hHeld => ?_)
  generalize World.drew _ = wv at hHeld ⊢
  clear hB7 s7
  refine takeL (i := 1) (v := ?_) rfl rfl (by kernel_rfl) (by kernel_rfl) (by kernel_rfl) (fun _ _ _ h => h) (Or.inl ⟨by rfl, ?_⟩) (by assumption) ?_
  rotate_left
  · (intro w' hSw; go_simp; try with_reducible rfl)
  try simp only [Act.put, List.setIfInBounds_toArray, List.set_cons_zero, List.set_cons_succ]
  refine takeL (i := 3) (v := .agg (nv .u8 key).toArray) rfl rfl (by kernel_rfl) (by kernel_rfl) (by kernel_rfl) (fun _ _ _ h => h) (yieldsIf_load_mid (by rfl) 35 (.tmp 4) rfl (w.heap.size + 1) 0 (by rfl) (nv .u8 key) _ (fun _ h => blk_range (h.2.blk 0 rfl)) u32 rfl HK3.out) (by assumption) ?_
  try simp only [Act.put, List.setIfInBounds_toArray, List.set_cons_zero, List.set_cons_succ]
  refine takeL (i := 4) (v := h.v) rfl rfl (by kernel_rfl) (by kernel_rfl) (by kernel_rfl) (fun _ _ _ h => h) (yieldsHead (.tmp 3) (by rfl) rfl w.heap.size (by rfl) (fun _ h => h.1)) (by assumption) ?_
  try simp only [Act.put, List.setIfInBounds_toArray, List.set_cons_zero, List.set_cons_succ]
  refine takeL (i := 6) (v := ?_) rfl rfl (by kernel_rfl) (by kernel_rfl) (by kernel_rfl) (fun _ _ _ h => h) (Or.inl ⟨by rfl, ?_⟩) (by assumption) ?_
  rotate_left
  · (intro w' hSw; go_simp; try with_reducible rfl)
  try simp only [Act.put, List.setIfInBounds_toArray, List.set_cons_zero, List.set_cons_succ]
  refine takeL (i := 7) (v := ?_) rfl rfl (by kernel_rfl) (by kernel_rfl) (by kernel_rfl) (fun _ _ _ h => h) (Or.inl ⟨by rfl, ?_⟩) (by assumption) ?_
  rotate_left
  · (intro w' hSw; go_simp; try with_reducible rfl)
  try simp only [Act.put, List.setIfInBounds_toArray, List.set_cons_zero, List.set_cons_succ]
  refine wpAnyH_ready (rs := [0]) (by kernel_rfl) (by simp) ?_
  refine consL rfl (fun K hK => ?_) AllReadyH.nil
  · rw [if_pos (by rfl)]
    go_simp
    have hO21 := Own.lit wv #[] 0 [] rfl rfl (by decide) (by simp)
    have hl21 := And.intro (hHeld.1.alloc (.cells #[] 5)) (hHeld.2.alloc (.cells #[] 5))
    have hbe21 := hHeld.2.bel.size
    have hrl21 := lw_low hHeld.2
    have hwl21 := hHeld.1.lt
    have hkl21 := hHeld.2.lt
    generalize wv.heap.size = R at hO21 hbe21 hrl21 hwl21 hkl21 ⊢
    generalize wv.alloc (.cells #[] 5) = w21 at hO21 hl21 ⊢
    refine hK.out _ _ (hl21) (fun hHeld => ?_)
    clear hK K
    try simp only [Act.put, List.setIfInBounds_toArray, List.set_cons_zero, List.set_cons_succ]
    refine wpAnyH_ready (rs := [2]) (by kernel_rfl) (by simp) ?_
    refine consL rfl (fun K hK => ?_) AllReadyH.nil
    · rw [if_pos (by rfl)]
      refine wpo_append_at (.tmp 21) (.tmp 22) rfl R (.slice (some ⟨R, 0, none⟩) 0 0) [] rfl hO21 a7 24 c7 hd rfl (hHeld.2.rd 0 rfl) (by rw [HHL.out]; decide) ?_ ?_
      · have := hO21.block R rfl; omega
      intro v22 w22 o22 g22 _
      rw [List.nil_append] at o22
      obtain ⟨ad22, cp22, rfl, r22, _⟩ := o22.rd (by rw [HHL.out]; decide)
      rw [HHL.out] at o22 ⊢
      clear r22
      refine hK.out _ _ (⟨hHeld.1.grown g22 (fun q => by have := (hO21.block _ q.symm).1; omega), lw_top hHeld.2 hO21 hbe21 g22 (by simp) hrl21⟩) (fun hHeld => ?_)
      clear hK K
      try simp only [Act.put, List.setIfInBounds_toArray, List.set_cons_zero, List.set_cons_succ]
      refine wpAnyH_ready (rs := [5]) (by kernel_rfl) (by simp) ?_
      refine consL rfl (fun K hK => ?_) AllReadyH.nil
      · rw [if_pos (by rfl)]
        go_simp
        refine (cN.out _).mono ?_
        rintro e23 w23 ⟨rfl, b23⟩
        have o23 := o22.below b23
        refine hK.out _ _ (⟨hHeld.1.below b23, hHeld.2.below b23⟩) (fun hHeld => ?_)
        clear hK K
        try simp only [Act.put, List.setIfInBounds_toArray, List.set_cons_zero, List.set_cons_succ]
        refine wpAnyH_ready (rs := [8]) (by kernel_rfl) (by simp) ?_
        refine consL rfl (fun K hK => ?_) AllReadyH.nil
        · rw [if_pos (by rfl)]
          go_simp
          have hob24 := fun x hx => (o23.block x hx).2
          refine (cS.out _ _ _ (hHeld.2.rd 1 rfl) (hHeld.2.rd 0 rfl)).mono ?_
          rintro e24 w24 ⟨aS, cS2, rfl, q24, b24⟩
          have o24 := o23.below b24
          refine hK.out _ _ (⟨hHeld.1.below b24, hHeld.2.below b24⟩) (fun hHeld => ?_)
          clear hK K
          try simp only [Act.put, List.setIfInBounds_toArray, List.set_cons_zero, List.set_cons_succ]
          refine wpAnyH_ready (rs := [9]) (by kernel_rfl) (by simp) ?_
          refine consL rfl (fun K hK => ?_) AllReadyH.nil
          · rw [if_pos (by rfl)]
            refine wpo_append_at (.tmp 23) (.tmp 29) rfl R (.slice ad22 24 cp22) hd rfl o24 aS (lb + 16) cS2 sl rfl (q24.rdb HSL.out (by omega)) (by rw [HHL.out, HSL.out]; omega) ?_ ?_
            · exact Nat.le_of_lt (Nat.lt_of_le_of_lt (Nat.le_refl R) (by have h1 := o24.shape; rcases h1 with ⟨h2, _⟩ | ⟨g, _, _, h3, h4, _⟩; (have h5 := HHL.out; simp_all); omega))
            intro v25 w25 o25 g25 _
            obtain ⟨ad25, cp25, rfl, r25, _⟩ := o25.rd (by rw [List.length_append, HHL.out, HSL.out]; omega)
            rw [List.length_append, HHL.out, HSL.out, show 24 + (lb + 16) = lb + 40 by omega] at o25 ⊢
            clear r25
            refine hK.out _ _ (⟨hHeld.1.grown g25 (fun q => by have := (o24.block _ q.symm).1; omega), lw_top hHeld.2 o24 hbe21 g25 (by simp) hrl21⟩) (fun hHeld => ?_)
            clear hK K
            try simp only [Act.put, List.setIfInBounds_toArray, List.set_cons_zero, List.set_cons_succ]
            refine takeL (i := 10) (v := ?_) rfl rfl (by kernel_rfl) (by kernel_rfl) (by kernel_rfl) (fun _ _ _ h => h) (Or.inl ⟨by rfl, ?_⟩) (by assumption) ?_
            rotate_left
            · (intro w' hSw; go_simp; try with_reducible rfl)
            try simp only [Act.put, List.setIfInBounds_toArray, List.set_cons_zero, List.set_cons_succ]
            refine takeL (i := 11) (v := ?_) rfl rfl (by kernel_rfl) (by kernel_rfl) (by kernel_rfl) (fun _ _ _ h => h) (Or.inl ⟨by rfl, ?_⟩) (by assumption) ?_
            rotate_left
            · (intro w' hSw; go_simp; try with_reducible rfl)
            try simp only [Act.put, List.setIfInBounds_toArray, List.set_cons_zero, List.set_cons_succ]
            refine wpAnyH_done (by kernel_rfl) ?_ _
            have bb9 := hHeld.2.bel
            go_wp2_with fail
            go_ret2
            exact ⟨ad25, cp25, rfl, o25.mono hbe21, bb9⟩
theorem rSeal_any (w : World) (h : Hd) (key : List Nat) (b : Option Addr) (lb cb : Nat) (body : List Nat) (hk : key.length = 32) (hkb : ∀ x ∈ key, x < 256) (hr : RdB w b lb cb body) : Calls Try.prog 22 #[h.v, .agg (bv key).toArray, .slice b lb cb] w (SealOK w h key body) := by
  have hbl : body.length = lb := hr.2.1
  by_cases hl : h.len = (lb : Int)
  · cases ho : okH h with
    | true =>
      have hs : sealB h body = true := by unfold sealB; rw [ho, hbl, decide_eq_true hl]; rfl
      have hy := seal_yes key hs
      refine (rSeal_good w h key b lb cb body hk hkb hr hl ho).mono ?_
      rintro e w' ⟨ad, cp, rfl, hO, hb⟩
      exact ⟨ad, lb + 40, cp, by rw [hy.1]; rfl, by rw [hy.2, List.length_append, headB_length, Ae.sealA_length, hbl]; omega, by rw [hy.2]; exact hO, hb⟩
    | false =>
      have hs : sealB h body = false := by unfold sealB; rw [ho, Bool.and_false]
      have hy := seal_no key hs
      refine (rSeal_bad w h key b lb cb body hk hkb hr hl ho).mono ?_
      rintro e w' ⟨rfl, hb⟩
      exact ⟨none, 0, 0, by rw [hy.1]; rfl, by rw [hy.2]; rfl, by rw [hy.2]; exact Own.nil _ _, hb⟩
  · have hs : sealB h body = false := by unfold sealB; rw [hbl, decide_eq_false hl]; rfl
    have hy := seal_no key hs
    refine (rSeal_len w h key b lb cb body hk hkb hr hl).mono ?_
    rintro e w' ⟨rfl, hb⟩
    exact ⟨none, 0, 0, by rw [hy.1]; rfl, by rw [hy.2]; rfl, by rw [hy.2]; exact Own.nil _ _, hb⟩
end Go.Proofs.Ytpcppnoomogloaa.Fr
