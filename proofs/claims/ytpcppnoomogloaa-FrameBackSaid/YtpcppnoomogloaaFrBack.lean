/- The walk of the statement FrameBack. -/
import Derived.Test.YtpcppnoomogloaaFrA
import Derived.Test.YtpcppnoomogloaaFrY1
set_option maxRecDepth 4000
namespace Go.Proofs.Ytpcppnoomogloaa.Fr
set_option linter.unusedSimpArgs false
set_option linter.unusedVariables false
open Go.RowKit

theorem rdb_head {w w' : World} {R X : Nat} {h : Hd} {n c : Nat} {bs : List Nat} (hr : RdB w (some ⟨R, 0, none⟩) n c bs) (hX : HBlk w X h) (g : w.grownBy w' (some X)) : RdB w' (some ⟨R, 0, none⟩) n c bs :=
  rdb_grownM hr g (fun x hx h0 q => by
    cases hx
    have q' : X = R := Option.some.inj q
    subst q'
    have h1 := (rd_cell hr 0 h0).symm.trans hX.cells.1
    simp at h1)

set_option maxRecDepth 100000 in
set_option maxHeartbeats 8000000 in
theorem back_walk (h : Hd) (key : List Nat) (a : Option Addr) (la ca : Nat) (xa : List Nat) (b : Option Addr) (lb cb : Nat) (xb : List Nat) (w : World) (hk : key.length = 32) (hkb : ∀ x ∈ key, x < 256) (hra : Row8 w a la ca xa) (hrb : Row8 w b lb cb xb) : Calls Try.prog 9 #[h.v, .agg (bv key).toArray, .slice a la ca, .slice b lb cb] w fun e w' => e = .returned (.bool true) ∧ Below w.heap.size w w' := by
  have hlea : la ≤ 9223372036854775807 := by have := hra.2.1; have := hra.2.2.1; omega
  have hleb : lb ≤ 9223372036854775807 := by have := hrb.2.1; have := hrb.2.2.1; omega
  have u8 := Try.underlying5
  have us := Try.underlying25
  have ut := Try.underlying9
  have HK := Lib.hid (show (Try.prog.info? 35).map (·.size) = some key.length by rw [hk]; kernel_rfl)
  have HK3 := Lib.hid (show (Try.prog.info? 35).map (·.size) = some (nv .u8 key).length by rw [nv_length, hk]; kernel_rfl)
  have u32 := Try.underlying35
  show Calls Try.prog 9 #[.agg #[.int .i64 h.kind, .int .i64 h.lba, .int .i64 h.len, .int .i64 h.seq, .int .i64 h.epoch], .agg (nv .u8 key).toArray, .slice a la ca, .slice b lb cb] w _
  by_cases hall : la ≤ 300 ∧ lb ≤ 300
  · obtain ⟨ha3, hb3⟩ := hall
    have hRa : RdB w a la ca xa := ⟨by omega, hra⟩
    have hRb : RdB w b lb cb xb := ⟨by omega, hrb⟩
    have d1 : decide ((la : Int) > 300) = false := decide_eq_false (by omega)
    have d2 : decide ((lb : Int) > 300) = false := decide_eq_false (by omega)
    have hal : xa.length = la := hra.1
    have hbl : xb.length = lb := hrb.1
    by_cases hl : h.len = (la : Int)
    · have dl : (h.len != (la : Int)) = false := by rw [hl]; simp
      cases ho : okH h with
      | true =>
        have hs : sealB h xa = true := by unfold sealB; rw [ho, hal, decide_eq_true hl]; rfl
        have hse := (sealF_ok (key := key) hs).1
        have hsl := sealF_length (key := key) hs
        rw [hal] at hsl
        obtain ⟨ls, hls⟩ : ∃ ls, ls = la + 40 := ⟨_, rfl⟩
        rw [← hls] at hsl
        have hsz : sizeF (la : Int) = (ls : Int) := by rw [← hl, ← hsl.1, hsl.2]
        have hlsl : ls ≤ 340 := by omega
        have cS := Lib.hid (fun (W : World) (hr : RdB W a la ca xa) => Seal_good W h key a la ca xa hk hkb hr hl ho)
        rw [← hse, ← hls] at cS
        have cO := Lib.hid (fun (W : World) (ad : Option Addr) (cp : Nat) (hr : RdB W ad ls cp (sealF h key xa)) => Open_any W key ad ls cp (sealF h key xa) hk hkb hr (by omega))
        unfold OpenFOK at cO
        rw [openG_seal hs] at cO
        have hre : readH (sealF h key xa ++ xb) = h ∧ readE (sealF h key xa ++ xb) = 0 := by rw [hse, List.append_assoc]; exact readH_head h ho _
        have cR := Lib.hid (fun (W : World) (ad : Option Addr) (cp : Nat) (hr : RdB W ad (ls + lb) cp (sealF h key xa ++ xb)) => Read_any W ad (ls + lb) cp (sealF h key xa ++ xb) hr)
        unfold ReadOK at cR
        rw [hre.1, hre.2, show ((0 : Nat) : Int) = 0 from rfl] at cR
        have cL := Lib.hid (fun (W : World) (ad : Option Addr) (cp : Nat) (hr : RdB W ad (ls + 1) cp (sealF h key xa ++ [0])) => Open_any W key ad (ls + 1) cp (sealF h key xa ++ [0]) hk hkb hr (by omega))
        unfold OpenFOK at cL
        rw [openG_long hs [0] (by simp)] at cL
        have cZ := Lib.hid (fun W => Size_any W (la : Int))
        rw [hsz] at cZ
        generalize sealF h key xa = xs at cS cO cR cL hsl
        have HXS := Lib.hid hsl.2
        have HAL := Lib.hid hal
        have HBL := Lib.hid hbl
        have hlse : (ls : Int) ≤ 340 := by omega
        clear hs hse hsl hsz hre hal hbl hl ho hls
        go_enter Try.func9, Try.ntmps9
        have s0 : HW w [(w.heap.size, h)] [(w.heap.size + 1, 35, .u8, key)] [(a, la, ca, xa), (b, lb, cb, xb)] ((w.alloc (.cells #[.int .i64 h.kind, .int .i64 h.lba, .int .i64 h.len, .int .i64 h.seq, .int .i64 h.epoch] 23)).alloc (.cells (nv .u8 key).toArray 35)) := by
          have h1 := (((LW.nil (xrefl w)).addR hRb).addR hRa).alloc (.cells #[.int .i64 h.kind, .int .i64 h.lba, .int .i64 h.len, .int .i64 h.seq, .int .i64 h.epoch] 23)
          have h2 : HW w [(w.heap.size, h)] [] _ _ := ⟨by simp; exact HBlk.new w h, h1⟩
          have h3 := h2.new 35 .u8 key
          rw [World.size_alloc] at h3
          exact h3
        clear hra hrb hRa hRb
        go_upto_region 9 with (first
          | (go_at_call 11; refine (awake_any _).mono ?_; rintro e1 w1 ⟨rfl, b1⟩; have s1 := s0.below b1; clear s0 b1)
          | (refine wp_load_head rfl (.tmp 4) rfl (w.heap.size) rfl (s1.hd 0 rfl) ?_)
          | (refine wp_load_arr rfl 35 (.tmp 5) rfl (w.heap.size + 1) rfl (s1.2.blk 0 rfl) 32 5 Try.underlying35 HK.out ?_)
          | (go_at_call 15; refine (cS.out _ (s1.2.rd 0 rfl)).mono ?_; rintro e2 w2 ⟨a2, c2, rfl, p2, b2⟩; have s2 := (s1.below b2).addR (p2.rdb HXS.out (by omega)); clear s1 p2 b2)
          | (refine wp_load_arr rfl 35 (.tmp 5) rfl (w.heap.size + 1) rfl (s2.2.blk 0 rfl) 32 5 Try.underlying35 HK.out ?_)
          | (go_at_call 23; refine (cO.out _ _ _ (s2.2.rd 0 rfl)).mono ?_; rintro e4 w4 ⟨a4, n4, c4, rfl, l4, p4, b4⟩; obtain rfl : n4 = la := l4.symm.trans HAL.out; have s4 := (s2.below b4).addR (p4.rdb l4 (by omega)); clear s2 p4 b4 l4; rw [show ((0 : Nat) : Int) = 0 from rfl])
          | (refine wp_store_head rfl (.tmp 12) (.tmp 65) rfl w4.heap.size rfl (h1 := h) (HBlk.new w4 hd0) rfl ?_; intro W4 hX g; have t4 := s4.store hX g; clear s4 hX g; generalize w4.heap.size = X4 at t4 ⊢)
          | (at_builtin; have o9 := Own.lit W4 #[] 0 [] rfl rfl (by decide) (by simp); have s9 := t4.alloc (.cells #[] 5); have hl9 := t4.low; have hz9 := t4.2.bel.size; clear t4; generalize W4.heap.size = R at o9 hl9 hz9 ⊢; generalize W4.alloc (.cells #[] 5) = w9 at o9 s9 ⊢; refine wpList_of_wp rfl (wpo_append_at (.tmp 69) (.tmp 70) rfl R (.slice (some ⟨R, 0, none⟩) 0 0) [] rfl o9 _ ls c2 xs rfl (s9.2.rd 1 rfl) (by rw [HXS.out]; simp only [List.length_nil]; omega) (Nat.le_of_lt (o9.block R rfl).2) ?_); intro v10 w10 o10 g10 _; rw [List.nil_append] at o10; have s10 := s9.top o9 hz9 g10 (by simp) hl9; have hz10 := Nat.le_trans (Nat.le_of_lt (o9.block R rfl).2) g10.size; obtain ⟨a10, c10, rfl, _, _⟩ := o10.rd (by rw [HXS.out]; omega); rw [HXS.out] at o10 ⊢; clear s9 o9 g10)
          | (at_builtin; refine wpList_of_wp rfl (wpo_append_at (.tmp 71) (.tmp 72) rfl R (.slice a10 ls c10) xs rfl o10 _ lb cb xb rfl (s10.2.rd 3 rfl) (by rw [HXS.out, HBL.out]; omega) hz10 ?_); intro v11 w11 o11 g11 _; have s11 := s10.top o10 hz9 g11 (by simp) hl9; obtain ⟨a11, c11, rfl, _, _⟩ := o11.rd (by rw [List.length_append, HXS.out, HBL.out]; omega); rw [List.length_append, HXS.out, HBL.out] at o11 ⊢; clear s10 o10 g11)
          | (go_at_call 14; refine (cR.out _ _ _ (o11.rdb (by rw [List.length_append, HXS.out, HBL.out]) (by omega))).mono ?_; rintro e8 w8 ⟨rfl, b8⟩; have s8 := s11.below b8; clear s11 o11 b8 hz9 hl9 hz10)
          | (refine wp_store_head rfl (.tmp 15) (.tmp 75) rfl w8.heap.size rfl (h1 := h) (HBlk.new w8 hd0) rfl ?_; intro W8 hX g; have t8 := s8.store hX g; clear s8 hX g; generalize w8.heap.size = X8 at t8 ⊢)
          | fail)
        go_cut [17, 18, 19] from 77 to 87 (fun x y z wx => z = .int .i64 110 ∧ HW w [(X8, h), (X4, h), (w.heap.size, h)] [(w.heap.size + 1, 35, .u8, key)] [(a4, n4, c4, xa), (a2, ls, c2, xs), (a, n4, ca, xa), (b, lb, cb, xb)] wx)
        case first =>
          go_wp2_with fail
          refine wp_region_held_drew (S := HW w [(X8, h), (X4, h), (w.heap.size, h)] [(w.heap.size + 1, 35, .u8, key)] [(a4, n4, c4, xa), (a2, ls, c2, xs), (a, n4, ca, xa), (b, lb, cb, xb)]) (by kernel_rfl) (t8.drew) (fun hHeld => ?_)
          generalize World.drew _ = wv at hHeld ⊢
          clear t8
          refine takeL (i := 0) (v := .agg (nv .u8 key).toArray) rfl rfl (by kernel_rfl) (by kernel_rfl) (by kernel_rfl) (fun _ _ _ h => h) (yieldsIf_load_mid (by rfl) 35 (.tmp 5) rfl (w.heap.size + 1) 0 (by rfl) (nv .u8 key) _ (fun _ h => blk_range (h.2.blk 0 rfl)) u32 rfl HK3.out) (by assumption) ?_
          try simp only [Act.put, List.setIfInBounds_toArray, List.set_cons_zero, List.set_cons_succ]
          refine takeL (i := 2) (v := ?_) rfl rfl (by kernel_rfl) (by kernel_rfl) (by kernel_rfl) (fun _ _ _ h => h) (Or.inl ⟨by rfl, ?_⟩) (by assumption) ?_
          rotate_left
          · (intro w' hSw; go_simp; try with_reducible rfl)
          try simp only [Act.put, List.setIfInBounds_toArray, List.set_cons_zero, List.set_cons_succ]
          refine wpAnyH_ready (rs := [1, 4, 11]) (by kernel_rfl) (by simp) ?_
          refine consL rfl (fun K hK => ?_) (consL rfl (fun K hK => ?_) (consL rfl (fun K hK => ?_) AllReadyH.nil))
          · rw [if_pos (by rfl)]
            go_simp
            have oN31 := Own.lit wv #[] 0 [] rfl rfl (by decide) (by simp)
            have bl31 := xnew wv (.cells #[] 5)
            have hl31 := hHeld.alloc (.cells #[] 5)
            have lo31 := hHeld.low
            have bz31 := hHeld.2.bel.size
            clear bl31
            generalize wv.heap.size = R9 at oN31 lo31 bz31 ⊢
            generalize wv.alloc (.cells #[] 5) = y31 at oN31 hl31  ⊢
            refine hK.out _ _ (hl31) (fun hHeld => ?_)
            clear hK K
            try simp only [Act.put, List.setIfInBounds_toArray, List.set_cons_zero, List.set_cons_succ]
            refine wpAnyH_ready (rs := [3, 4, 11]) (by kernel_rfl) (by simp) ?_
            refine consL rfl (fun K hK => ?_) (consL rfl (fun K hK => ?_) (consL rfl (fun K hK => ?_) AllReadyH.nil))
            · rw [if_pos (by rfl)]
              have rlo32 := trivial
              refine wpo_append_at (.tmp 79) (.tmp 80) rfl R9 (.slice (some ⟨R9, 0, none⟩) 0 0) [] rfl oN31 a2 ls c2 xs rfl (hHeld.2.rd 1 rfl) (by rw [HXS.out]; simp only [List.length_nil]; omega) ?_ ?_
              · exact Nat.le_of_lt (oN31.block R9 rfl).2
              intro v32 y32 o32 g32 at32
              rw [List.nil_append] at o32
              have hzz32 := Nat.le_trans (Nat.le_of_lt (Nat.lt_of_le_of_lt (Nat.le_refl R9) (by have h1 := (oN31.block R9 rfl).2; exact h1))) g32.size
              obtain ⟨ad32, cp32, rfl, _, _⟩ := o32.rd (by rw [HXS.out]; first | omega | (simp only [List.length_cons, List.length_nil]; omega))
              rw [HXS.out] at o32 ⊢
              refine hK.out _ _ (hHeld.top oN31 bz31 g32 (by simp) lo31) (fun hHeld => ?_)
              clear hK K
              try simp only [Act.put, List.setIfInBounds_toArray, List.set_cons_zero, List.set_cons_succ]
              refine wpAnyH_ready (rs := [4, 11]) (by kernel_rfl) (by simp) ?_
              refine consL rfl (fun K hK => ?_) (consL rfl (fun K hK => ?_) AllReadyH.nil)
              · rw [if_pos (by rfl)]
                go_simp
                have rN33 : RdB (y32.alloc (.cells #[.int .u8 0] 5)) (some ⟨y32.heap.size, 0, none⟩) 1 1 [0] := rd_new y32 [0] _ _ _ 1 rfl rfl (by decide) (by decide)
                have bl33 := xnew y32 (.cells #[.int .u8 0] 5)
                have hl33 := hHeld.alloc (.cells #[.int .u8 0] 5)
                have nb33 := fun x hx => (o32.block x hx).2
                have o_33 := o32.below bl33
                have hz_33 : R9 ≤ _ := Nat.le_trans hzz32 bl33.size
                clear bl33
                generalize y32.heap.size = R1 at rN33 nb33 ⊢
                generalize y32.alloc (.cells #[.int .u8 0] 5) = y33 at rN33 hl33 o_33 hz_33 ⊢
                have ne33 : ∀ x, ((.slice ad32 ls cp32) : Value).ownBlock = some x → x ≠ R1 := fun x hx => Nat.ne_of_lt (nb33 x hx)
                refine hK.out _ _ (hl33) (fun hHeld => ?_)
                clear hK K
                try simp only [Act.put, List.setIfInBounds_toArray, List.set_cons_zero, List.set_cons_succ]
                refine wpAnyH_ready (rs := [5, 11]) (by kernel_rfl) (by simp) ?_
                refine consL rfl (fun K hK => ?_) (consL rfl (fun K hK => ?_) AllReadyH.nil)
                · rw [if_pos (by rfl)]
                  refine wpo_append_at (.tmp 81) (.tmp 82) rfl R9 (.slice ad32 ls cp32) xs rfl o_33 (some ⟨R1, 0, none⟩) 1 1 [0] rfl rN33 (by rw [HXS.out]; simp only [List.length_cons, List.length_nil]; omega) ?_ ?_
                  · exact hz_33
                  intro v34 y34 o34 g34 at34
                  obtain ⟨ad34, cp34, rfl, _, _⟩ := o34.rd (by rw [List.length_append, HXS.out]; first | omega | (simp only [List.length_cons, List.length_nil]; omega))
                  rw [List.length_append, HXS.out, show [0].length = 1 from rfl] at o34 ⊢
                  refine hK.out _ _ (hHeld.top o_33 bz31 g34 (by simp) lo31) (fun hHeld => ?_)
                  clear hK K
                  try simp only [Act.put, List.setIfInBounds_toArray, List.set_cons_zero, List.set_cons_succ]
                  refine wpAnyH_ready (rs := [6, 11]) (by kernel_rfl) (by simp) ?_
                  refine consL rfl (fun K hK => ?_) (consL rfl (fun K hK => ?_) AllReadyH.nil)
                  · rw [if_pos (by rfl)]
                    go_simp
                    refine (cL.out _ _ _ (o34.rdb (by rw [List.length_append, HXS.out]; rfl) (by omega))).mono ?_
                    rintro e35 y35 ⟨ao, no, co, rfl, lo_, po, b35⟩
                    rw [show ((110 : Nat) : Int) = 110 from rfl]
                    refine hK.out _ _ (hHeld.below b35) (fun hHeld => ?_)
                    clear hK K
                    try simp only [Act.put, List.setIfInBounds_toArray, List.set_cons_zero, List.set_cons_succ]
                    refine takeL (i := 7) (v := ?_) rfl rfl (by kernel_rfl) (by kernel_rfl) (by kernel_rfl) (fun _ _ _ h => h) (Or.inl ⟨by rfl, ?_⟩) (by assumption) ?_
                    rotate_left
                    · (intro w' hSw; go_simp; try with_reducible rfl)
                    try simp only [Act.put, List.setIfInBounds_toArray, List.set_cons_zero, List.set_cons_succ]
                    refine takeL (i := 8) (v := ?_) rfl rfl (by kernel_rfl) (by kernel_rfl) (by kernel_rfl) (fun _ _ _ h => h) (Or.inl ⟨by rfl, ?_⟩) (by assumption) ?_
                    rotate_left
                    · (intro w' hSw; go_simp; try with_reducible rfl)
                    try simp only [Act.put, List.setIfInBounds_toArray, List.set_cons_zero, List.set_cons_succ]
                    refine takeL (i := 9) (v := ?_) rfl rfl (by kernel_rfl) (by kernel_rfl) (by kernel_rfl) (fun _ _ _ h => h) (Or.inl ⟨by rfl, ?_⟩) (by assumption) ?_
                    rotate_left
                    · (intro w' hSw; go_simp; try with_reducible rfl)
                    try simp only [Act.put, List.setIfInBounds_toArray, List.set_cons_zero, List.set_cons_succ]
                    refine takeL (i := 10) (v := ?_) rfl rfl (by kernel_rfl) (by kernel_rfl) (by kernel_rfl) (fun _ _ _ h => h) (Or.inl ⟨by rfl, ?_⟩) (by assumption) ?_
                    rotate_left
                    · (intro w' hSw; go_simp; try with_reducible rfl)
                    try simp only [Act.put, List.setIfInBounds_toArray, List.set_cons_zero, List.set_cons_succ]
                    refine wpAnyH_ready (rs := [11]) (by kernel_rfl) (by simp) ?_
                    refine consL rfl (fun K hK => ?_) AllReadyH.nil
                    · rw [if_pos (by rfl)]
                      go_simp
                      have xN36 : HBlk (y35.alloc (.cells #[.int .i64 0, .int .i64 0, .int .i64 0, .int .i64 0, .int .i64 0] 23)) y35.heap.size hd0 := HBlk.new y35 hd0
                      have bl36 := xnew y35 (.cells #[.int .i64 0, .int .i64 0, .int .i64 0, .int .i64 0, .int .i64 0] 23)
                      have hl36 := hHeld.alloc (.cells #[.int .i64 0, .int .i64 0, .int .i64 0, .int .i64 0, .int .i64 0] 23)
                      have xh36 := fun e he => (hHeld.1 e he).lt
                      have xl36 := hHeld.2.lt
                      have xr36 := hHeld.low
                      have xz36 := hHeld.2.bel.size
                      clear bl36
                      generalize y35.heap.size = X9 at xN36 xh36 xl36 xr36 xz36 ⊢
                      generalize y35.alloc (.cells #[.int .i64 0, .int .i64 0, .int .i64 0, .int .i64 0, .int .i64 0] 23) = y36 at xN36 hl36  ⊢
                      refine hK.out _ _ (hl36) (fun hHeld => ?_)
                      clear hK K
                      try simp only [Act.put, List.setIfInBounds_toArray, List.set_cons_zero, List.set_cons_succ]
                      refine wpAnyH_ready (rs := [12]) (by kernel_rfl) (by simp) ?_
                      refine consL rfl (fun K hK => ?_) AllReadyH.nil
                      · rw [if_pos (by rfl)]
                        refine wpo_store_head (.tmp 17) (.tmp 85) rfl X9 rfl (h1 := hd0) xN36 rfl ?_
                        intro y37 hX_37 g37
                        refine hK.out _ _ (⟨fun e he => (hHeld.1 e he).grown g37 (fun q => by have := Option.some.inj q; have := xh36 e he; omega), hHeld.2.grown g37 xz36 (fun e he => Nat.ne_of_lt (xl36 e he)) (fun e he x hx h0 => Nat.ne_of_lt (xr36 e he x hx h0))⟩) (fun hHeld => ?_)
                        clear hK K
                        try simp only [Act.put, List.setIfInBounds_toArray, List.set_cons_zero, List.set_cons_succ]
                        refine takeL (i := 13) (v := ?_) rfl rfl (by kernel_rfl) (by kernel_rfl) (by kernel_rfl) (fun _ _ _ h => h) (Or.inl ⟨by rfl, ?_⟩) (by assumption) ?_
                        rotate_left
                        · (intro w' hSw; go_simp; try with_reducible rfl)
                        try simp only [Act.put, List.setIfInBounds_toArray, List.set_cons_zero, List.set_cons_succ]
                        refine takeL (i := 14) (v := ?_) rfl rfl (by kernel_rfl) (by kernel_rfl) (by kernel_rfl) (fun _ _ _ h => h) (Or.inl ⟨by rfl, ?_⟩) (by assumption) ?_
                        rotate_left
                        · (intro w' hSw; go_simp; try with_reducible rfl)
                        try simp only [Act.put, List.setIfInBounds_toArray, List.set_cons_zero, List.set_cons_succ]
                        refine wpAnyH_done (by kernel_rfl) ?_ _
                        go_wp2_with fail
                        go_meet
                        case rel => exact ⟨rfl, hHeld⟩
                  · rw [if_pos (by rfl)]
                    go_simp
                    have xN35 : HBlk (y34.alloc (.cells #[.int .i64 0, .int .i64 0, .int .i64 0, .int .i64 0, .int .i64 0] 23)) y34.heap.size hd0 := HBlk.new y34 hd0
                    have bl35 := xnew y34 (.cells #[.int .i64 0, .int .i64 0, .int .i64 0, .int .i64 0, .int .i64 0] 23)
                    have hl35 := hHeld.alloc (.cells #[.int .i64 0, .int .i64 0, .int .i64 0, .int .i64 0, .int .i64 0] 23)
                    have xh35 := fun e he => (hHeld.1 e he).lt
                    have xl35 := hHeld.2.lt
                    have xr35 := hHeld.low
                    have xz35 := hHeld.2.bel.size
                    have o_35 := o34.below bl35
                    clear bl35
                    generalize y34.heap.size = X9 at xN35 xh35 xl35 xr35 xz35 ⊢
                    generalize y34.alloc (.cells #[.int .i64 0, .int .i64 0, .int .i64 0, .int .i64 0, .int .i64 0] 23) = y35 at xN35 hl35 o_35 ⊢
                    refine hK.out _ _ (hl35) (fun hHeld => ?_)
                    clear hK K
                    try simp only [Act.put, List.setIfInBounds_toArray, List.set_cons_zero, List.set_cons_succ]
                    refine wpAnyH_ready (rs := [6]) (by kernel_rfl) (by simp) ?_
                    refine consL rfl (fun K hK => ?_) AllReadyH.nil
                    · rw [if_pos (by rfl)]
                      go_simp
                      refine (cL.out _ _ _ (o_35.rdb (by rw [List.length_append, HXS.out]; rfl) (by omega))).mono ?_
                      rintro e36 y36 ⟨ao, no, co, rfl, lo_, po, b36⟩
                      rw [show ((110 : Nat) : Int) = 110 from rfl]
                      have hX_36 := xN35.below b36
                      refine hK.out _ _ (hHeld.below b36) (fun hHeld => ?_)
                      clear hK K
                      try simp only [Act.put, List.setIfInBounds_toArray, List.set_cons_zero, List.set_cons_succ]
                      refine takeL (i := 7) (v := ?_) rfl rfl (by kernel_rfl) (by kernel_rfl) (by kernel_rfl) (fun _ _ _ h => h) (Or.inl ⟨by rfl, ?_⟩) (by assumption) ?_
                      rotate_left
                      · (intro w' hSw; go_simp; try with_reducible rfl)
                      try simp only [Act.put, List.setIfInBounds_toArray, List.set_cons_zero, List.set_cons_succ]
                      refine takeL (i := 8) (v := ?_) rfl rfl (by kernel_rfl) (by kernel_rfl) (by kernel_rfl) (fun _ _ _ h => h) (Or.inl ⟨by rfl, ?_⟩) (by assumption) ?_
                      rotate_left
                      · (intro w' hSw; go_simp; try with_reducible rfl)
                      try simp only [Act.put, List.setIfInBounds_toArray, List.set_cons_zero, List.set_cons_succ]
                      refine takeL (i := 9) (v := ?_) rfl rfl (by kernel_rfl) (by kernel_rfl) (by kernel_rfl) (fun _ _ _ h => h) (Or.inl ⟨by rfl, ?_⟩) (by assumption) ?_
                      rotate_left
                      · (intro w' hSw; go_simp; try with_reducible rfl)
                      try simp only [Act.put, List.setIfInBounds_toArray, List.set_cons_zero, List.set_cons_succ]
                      refine takeL (i := 10) (v := ?_) rfl rfl (by kernel_rfl) (by kernel_rfl) (by kernel_rfl) (fun _ _ _ h => h) (Or.inl ⟨by rfl, ?_⟩) (by assumption) ?_
                      rotate_left
                      · (intro w' hSw; go_simp; try with_reducible rfl)
                      try simp only [Act.put, List.setIfInBounds_toArray, List.set_cons_zero, List.set_cons_succ]
                      refine wpAnyH_ready (rs := [12]) (by kernel_rfl) (by simp) ?_
                      refine consL rfl (fun K hK => ?_) AllReadyH.nil
                      · rw [if_pos (by rfl)]
                        refine wpo_store_head (.tmp 17) (.tmp 85) rfl X9 rfl (h1 := hd0) hX_36 rfl ?_
                        intro y37 hX_37 g37
                        refine hK.out _ _ (⟨fun e he => (hHeld.1 e he).grown g37 (fun q => by have := Option.some.inj q; have := xh35 e he; omega), hHeld.2.grown g37 xz35 (fun e he => Nat.ne_of_lt (xl35 e he)) (fun e he x hx h0 => Nat.ne_of_lt (xr35 e he x hx h0))⟩) (fun hHeld => ?_)
                        clear hK K
                        try simp only [Act.put, List.setIfInBounds_toArray, List.set_cons_zero, List.set_cons_succ]
                        refine takeL (i := 13) (v := ?_) rfl rfl (by kernel_rfl) (by kernel_rfl) (by kernel_rfl) (fun _ _ _ h => h) (Or.inl ⟨by rfl, ?_⟩) (by assumption) ?_
                        rotate_left
                        · (intro w' hSw; go_simp; try with_reducible rfl)
                        try simp only [Act.put, List.setIfInBounds_toArray, List.set_cons_zero, List.set_cons_succ]
                        refine takeL (i := 14) (v := ?_) rfl rfl (by kernel_rfl) (by kernel_rfl) (by kernel_rfl) (fun _ _ _ h => h) (Or.inl ⟨by rfl, ?_⟩) (by assumption) ?_
                        rotate_left
                        · (intro w' hSw; go_simp; try with_reducible rfl)
                        try simp only [Act.put, List.setIfInBounds_toArray, List.set_cons_zero, List.set_cons_succ]
                        refine wpAnyH_done (by kernel_rfl) ?_ _
                        go_wp2_with fail
                        go_meet
                        case rel => exact ⟨rfl, hHeld⟩
                · rw [if_pos (by rfl)]
                  go_simp
                  have xN34 : HBlk (y33.alloc (.cells #[.int .i64 0, .int .i64 0, .int .i64 0, .int .i64 0, .int .i64 0] 23)) y33.heap.size hd0 := HBlk.new y33 hd0
                  have bl34 := xnew y33 (.cells #[.int .i64 0, .int .i64 0, .int .i64 0, .int .i64 0, .int .i64 0] 23)
                  have hl34 := hHeld.alloc (.cells #[.int .i64 0, .int .i64 0, .int .i64 0, .int .i64 0, .int .i64 0] 23)
                  have xh34 := fun e he => (hHeld.1 e he).lt
                  have xl34 := hHeld.2.lt
                  have xr34 := hHeld.low
                  have xz34 := hHeld.2.bel.size
                  have o_34 := o_33.below bl34
                  have r1_34 := rN33.below bl34
                  have hz_34 : R9 ≤ _ := Nat.le_trans hz_33 bl34.size
                  clear bl34
                  generalize y33.heap.size = X9 at xN34 xh34 xl34 xr34 xz34 ⊢
                  generalize y33.alloc (.cells #[.int .i64 0, .int .i64 0, .int .i64 0, .int .i64 0, .int .i64 0] 23) = y34 at xN34 hl34 o_34 r1_34 hz_34 ⊢
                  refine hK.out _ _ (hl34) (fun hHeld => ?_)
                  clear hK K
                  try simp only [Act.put, List.setIfInBounds_toArray, List.set_cons_zero, List.set_cons_succ]
                  refine wpAnyH_ready (rs := [5]) (by kernel_rfl) (by simp) ?_
                  refine consL rfl (fun K hK => ?_) AllReadyH.nil
                  · rw [if_pos (by rfl)]
                    refine wpo_append_at (.tmp 81) (.tmp 82) rfl R9 (.slice ad32 ls cp32) xs rfl o_34 (some ⟨R1, 0, none⟩) 1 1 [0] rfl r1_34 (by rw [HXS.out]; simp only [List.length_cons, List.length_nil]; omega) ?_ ?_
                    · exact hz_34
                    intro v35 y35 o35 g35 at35
                    have hX_35 := xN34.grown g35 (own_ne o_34 xN34 (cells_ne (by decide)))
                    obtain ⟨ad35, cp35, rfl, _, _⟩ := o35.rd (by rw [List.length_append, HXS.out]; first | omega | (simp only [List.length_cons, List.length_nil]; omega))
                    rw [List.length_append, HXS.out, show [0].length = 1 from rfl] at o35 ⊢
                    refine hK.out _ _ (hHeld.top o_34 bz31 g35 (by simp) lo31) (fun hHeld => ?_)
                    clear hK K
                    try simp only [Act.put, List.setIfInBounds_toArray, List.set_cons_zero, List.set_cons_succ]
                    refine wpAnyH_ready (rs := [6]) (by kernel_rfl) (by simp) ?_
                    refine consL rfl (fun K hK => ?_) AllReadyH.nil
                    · rw [if_pos (by rfl)]
                      go_simp
                      refine (cL.out _ _ _ (o35.rdb (by rw [List.length_append, HXS.out]; rfl) (by omega))).mono ?_
                      rintro e36 y36 ⟨ao, no, co, rfl, lo_, po, b36⟩
                      rw [show ((110 : Nat) : Int) = 110 from rfl]
                      have hX_36 := hX_35.below b36
                      refine hK.out _ _ (hHeld.below b36) (fun hHeld => ?_)
                      clear hK K
                      try simp only [Act.put, List.setIfInBounds_toArray, List.set_cons_zero, List.set_cons_succ]
                      refine takeL (i := 7) (v := ?_) rfl rfl (by kernel_rfl) (by kernel_rfl) (by kernel_rfl) (fun _ _ _ h => h) (Or.inl ⟨by rfl, ?_⟩) (by assumption) ?_
                      rotate_left
                      · (intro w' hSw; go_simp; try with_reducible rfl)
                      try simp only [Act.put, List.setIfInBounds_toArray, List.set_cons_zero, List.set_cons_succ]
                      refine takeL (i := 8) (v := ?_) rfl rfl (by kernel_rfl) (by kernel_rfl) (by kernel_rfl) (fun _ _ _ h => h) (Or.inl ⟨by rfl, ?_⟩) (by assumption) ?_
                      rotate_left
                      · (intro w' hSw; go_simp; try with_reducible rfl)
                      try simp only [Act.put, List.setIfInBounds_toArray, List.set_cons_zero, List.set_cons_succ]
                      refine takeL (i := 9) (v := ?_) rfl rfl (by kernel_rfl) (by kernel_rfl) (by kernel_rfl) (fun _ _ _ h => h) (Or.inl ⟨by rfl, ?_⟩) (by assumption) ?_
                      rotate_left
                      · (intro w' hSw; go_simp; try with_reducible rfl)
                      try simp only [Act.put, List.setIfInBounds_toArray, List.set_cons_zero, List.set_cons_succ]
                      refine takeL (i := 10) (v := ?_) rfl rfl (by kernel_rfl) (by kernel_rfl) (by kernel_rfl) (fun _ _ _ h => h) (Or.inl ⟨by rfl, ?_⟩) (by assumption) ?_
                      rotate_left
                      · (intro w' hSw; go_simp; try with_reducible rfl)
                      try simp only [Act.put, List.setIfInBounds_toArray, List.set_cons_zero, List.set_cons_succ]
                      refine wpAnyH_ready (rs := [12]) (by kernel_rfl) (by simp) ?_
                      refine consL rfl (fun K hK => ?_) AllReadyH.nil
                      · rw [if_pos (by rfl)]
                        refine wpo_store_head (.tmp 17) (.tmp 85) rfl X9 rfl (h1 := hd0) hX_36 rfl ?_
                        intro y37 hX_37 g37
                        refine hK.out _ _ (⟨fun e he => (hHeld.1 e he).grown g37 (fun q => by have := Option.some.inj q; have := xh34 e he; omega), hHeld.2.grown g37 xz34 (fun e he => Nat.ne_of_lt (xl34 e he)) (fun e he x hx h0 => Nat.ne_of_lt (xr34 e he x hx h0))⟩) (fun hHeld => ?_)
                        clear hK K
                        try simp only [Act.put, List.setIfInBounds_toArray, List.set_cons_zero, List.set_cons_succ]
                        refine takeL (i := 13) (v := ?_) rfl rfl (by kernel_rfl) (by kernel_rfl) (by kernel_rfl) (fun _ _ _ h => h) (Or.inl ⟨by rfl, ?_⟩) (by assumption) ?_
                        rotate_left
                        · (intro w' hSw; go_simp; try with_reducible rfl)
                        try simp only [Act.put, List.setIfInBounds_toArray, List.set_cons_zero, List.set_cons_succ]
                        refine takeL (i := 14) (v := ?_) rfl rfl (by kernel_rfl) (by kernel_rfl) (by kernel_rfl) (fun _ _ _ h => h) (Or.inl ⟨by rfl, ?_⟩) (by assumption) ?_
                        rotate_left
                        · (intro w' hSw; go_simp; try with_reducible rfl)
                        try simp only [Act.put, List.setIfInBounds_toArray, List.set_cons_zero, List.set_cons_succ]
                        refine wpAnyH_done (by kernel_rfl) ?_ _
                        go_wp2_with fail
                        go_meet
                        case rel => exact ⟨rfl, hHeld⟩
              · rw [if_pos (by rfl)]
                go_simp
                have xN33 : HBlk (y32.alloc (.cells #[.int .i64 0, .int .i64 0, .int .i64 0, .int .i64 0, .int .i64 0] 23)) y32.heap.size hd0 := HBlk.new y32 hd0
                have bl33 := xnew y32 (.cells #[.int .i64 0, .int .i64 0, .int .i64 0, .int .i64 0, .int .i64 0] 23)
                have hl33 := hHeld.alloc (.cells #[.int .i64 0, .int .i64 0, .int .i64 0, .int .i64 0, .int .i64 0] 23)
                have xh33 := fun e he => (hHeld.1 e he).lt
                have xl33 := hHeld.2.lt
                have xr33 := hHeld.low
                have xz33 := hHeld.2.bel.size
                have o_33 := o32.below bl33
                have hz_33 : R9 ≤ _ := Nat.le_trans hzz32 bl33.size
                clear bl33
                generalize y32.heap.size = X9 at xN33 xh33 xl33 xr33 xz33 ⊢
                generalize y32.alloc (.cells #[.int .i64 0, .int .i64 0, .int .i64 0, .int .i64 0, .int .i64 0] 23) = y33 at xN33 hl33 o_33 hz_33 ⊢
                refine hK.out _ _ (hl33) (fun hHeld => ?_)
                clear hK K
                try simp only [Act.put, List.setIfInBounds_toArray, List.set_cons_zero, List.set_cons_succ]
                refine wpAnyH_ready (rs := [4]) (by kernel_rfl) (by simp) ?_
                refine consL rfl (fun K hK => ?_) AllReadyH.nil
                · rw [if_pos (by rfl)]
                  go_simp
                  have rN34 : RdB (y33.alloc (.cells #[.int .u8 0] 5)) (some ⟨y33.heap.size, 0, none⟩) 1 1 [0] := rd_new y33 [0] _ _ _ 1 rfl rfl (by decide) (by decide)
                  have bl34 := xnew y33 (.cells #[.int .u8 0] 5)
                  have hl34 := hHeld.alloc (.cells #[.int .u8 0] 5)
                  have nb34 := fun x hx => (o_33.block x hx).2
                  have o_34 := o_33.below bl34
                  have hX_34 := xN33.below bl34
                  have hz_34 : R9 ≤ _ := Nat.le_trans hz_33 bl34.size
                  clear bl34
                  generalize y33.heap.size = R1 at rN34 nb34 ⊢
                  generalize y33.alloc (.cells #[.int .u8 0] 5) = y34 at rN34 hl34 o_34 hX_34 hz_34 ⊢
                  have ne34 : ∀ x, ((.slice ad32 ls cp32) : Value).ownBlock = some x → x ≠ R1 := fun x hx => Nat.ne_of_lt (nb34 x hx)
                  refine hK.out _ _ (hl34) (fun hHeld => ?_)
                  clear hK K
                  try simp only [Act.put, List.setIfInBounds_toArray, List.set_cons_zero, List.set_cons_succ]
                  refine wpAnyH_ready (rs := [5]) (by kernel_rfl) (by simp) ?_
                  refine consL rfl (fun K hK => ?_) AllReadyH.nil
                  · rw [if_pos (by rfl)]
                    refine wpo_append_at (.tmp 81) (.tmp 82) rfl R9 (.slice ad32 ls cp32) xs rfl o_34 (some ⟨R1, 0, none⟩) 1 1 [0] rfl rN34 (by rw [HXS.out]; simp only [List.length_cons, List.length_nil]; omega) ?_ ?_
                    · exact hz_34
                    intro v35 y35 o35 g35 at35
                    have hX_35 := hX_34.grown g35 (own_ne o_34 hX_34 (cells_ne (by decide)))
                    obtain ⟨ad35, cp35, rfl, _, _⟩ := o35.rd (by rw [List.length_append, HXS.out]; first | omega | (simp only [List.length_cons, List.length_nil]; omega))
                    rw [List.length_append, HXS.out, show [0].length = 1 from rfl] at o35 ⊢
                    refine hK.out _ _ (hHeld.top o_34 bz31 g35 (by simp) lo31) (fun hHeld => ?_)
                    clear hK K
                    try simp only [Act.put, List.setIfInBounds_toArray, List.set_cons_zero, List.set_cons_succ]
                    refine wpAnyH_ready (rs := [6]) (by kernel_rfl) (by simp) ?_
                    refine consL rfl (fun K hK => ?_) AllReadyH.nil
                    · rw [if_pos (by rfl)]
                      go_simp
                      refine (cL.out _ _ _ (o35.rdb (by rw [List.length_append, HXS.out]; rfl) (by omega))).mono ?_
                      rintro e36 y36 ⟨ao, no, co, rfl, lo_, po, b36⟩
                      rw [show ((110 : Nat) : Int) = 110 from rfl]
                      have hX_36 := hX_35.below b36
                      refine hK.out _ _ (hHeld.below b36) (fun hHeld => ?_)
                      clear hK K
                      try simp only [Act.put, List.setIfInBounds_toArray, List.set_cons_zero, List.set_cons_succ]
                      refine takeL (i := 7) (v := ?_) rfl rfl (by kernel_rfl) (by kernel_rfl) (by kernel_rfl) (fun _ _ _ h => h) (Or.inl ⟨by rfl, ?_⟩) (by assumption) ?_
                      rotate_left
                      · (intro w' hSw; go_simp; try with_reducible rfl)
                      try simp only [Act.put, List.setIfInBounds_toArray, List.set_cons_zero, List.set_cons_succ]
                      refine takeL (i := 8) (v := ?_) rfl rfl (by kernel_rfl) (by kernel_rfl) (by kernel_rfl) (fun _ _ _ h => h) (Or.inl ⟨by rfl, ?_⟩) (by assumption) ?_
                      rotate_left
                      · (intro w' hSw; go_simp; try with_reducible rfl)
                      try simp only [Act.put, List.setIfInBounds_toArray, List.set_cons_zero, List.set_cons_succ]
                      refine takeL (i := 9) (v := ?_) rfl rfl (by kernel_rfl) (by kernel_rfl) (by kernel_rfl) (fun _ _ _ h => h) (Or.inl ⟨by rfl, ?_⟩) (by assumption) ?_
                      rotate_left
                      · (intro w' hSw; go_simp; try with_reducible rfl)
                      try simp only [Act.put, List.setIfInBounds_toArray, List.set_cons_zero, List.set_cons_succ]
                      refine takeL (i := 10) (v := ?_) rfl rfl (by kernel_rfl) (by kernel_rfl) (by kernel_rfl) (fun _ _ _ h => h) (Or.inl ⟨by rfl, ?_⟩) (by assumption) ?_
                      rotate_left
                      · (intro w' hSw; go_simp; try with_reducible rfl)
                      try simp only [Act.put, List.setIfInBounds_toArray, List.set_cons_zero, List.set_cons_succ]
                      refine wpAnyH_ready (rs := [12]) (by kernel_rfl) (by simp) ?_
                      refine consL rfl (fun K hK => ?_) AllReadyH.nil
                      · rw [if_pos (by rfl)]
                        refine wpo_store_head (.tmp 17) (.tmp 85) rfl X9 rfl (h1 := hd0) hX_36 rfl ?_
                        intro y37 hX_37 g37
                        refine hK.out _ _ (⟨fun e he => (hHeld.1 e he).grown g37 (fun q => by have := Option.some.inj q; have := xh33 e he; omega), hHeld.2.grown g37 xz33 (fun e he => Nat.ne_of_lt (xl33 e he)) (fun e he x hx h0 => Nat.ne_of_lt (xr33 e he x hx h0))⟩) (fun hHeld => ?_)
                        clear hK K
                        try simp only [Act.put, List.setIfInBounds_toArray, List.set_cons_zero, List.set_cons_succ]
                        refine takeL (i := 13) (v := ?_) rfl rfl (by kernel_rfl) (by kernel_rfl) (by kernel_rfl) (fun _ _ _ h => h) (Or.inl ⟨by rfl, ?_⟩) (by assumption) ?_
                        rotate_left
                        · (intro w' hSw; go_simp; try with_reducible rfl)
                        try simp only [Act.put, List.setIfInBounds_toArray, List.set_cons_zero, List.set_cons_succ]
                        refine takeL (i := 14) (v := ?_) rfl rfl (by kernel_rfl) (by kernel_rfl) (by kernel_rfl) (fun _ _ _ h => h) (Or.inl ⟨by rfl, ?_⟩) (by assumption) ?_
                        rotate_left
                        · (intro w' hSw; go_simp; try with_reducible rfl)
                        try simp only [Act.put, List.setIfInBounds_toArray, List.set_cons_zero, List.set_cons_succ]
                        refine wpAnyH_done (by kernel_rfl) ?_ _
                        go_wp2_with fail
                        go_meet
                        case rel => exact ⟨rfl, hHeld⟩
            · rw [if_pos (by rfl)]
              go_simp
              have rN32 : RdB (y31.alloc (.cells #[.int .u8 0] 5)) (some ⟨y31.heap.size, 0, none⟩) 1 1 [0] := rd_new y31 [0] _ _ _ 1 rfl rfl (by decide) (by decide)
              have bl32 := xnew y31 (.cells #[.int .u8 0] 5)
              have hl32 := hHeld.alloc (.cells #[.int .u8 0] 5)
              have nb32 := fun x hx => (oN31.block x hx).2
              have o_32 := oN31.below bl32
              clear bl32
              generalize y31.heap.size = R1 at rN32 nb32 ⊢
              generalize y31.alloc (.cells #[.int .u8 0] 5) = y32 at rN32 hl32 o_32 ⊢
              have ne32 : ∀ x, ((.slice (some ⟨R9, 0, none⟩) 0 0) : Value).ownBlock = some x → x ≠ R1 := fun x hx => Nat.ne_of_lt (nb32 x hx)
              refine hK.out _ _ (hl32) (fun hHeld => ?_)
              clear hK K
              try simp only [Act.put, List.setIfInBounds_toArray, List.set_cons_zero, List.set_cons_succ]
              refine wpAnyH_ready (rs := [3, 11]) (by kernel_rfl) (by simp) ?_
              refine consL rfl (fun K hK => ?_) (consL rfl (fun K hK => ?_) AllReadyH.nil)
              · rw [if_pos (by rfl)]
                have rlo33 := rdb_low rN32 _ rfl (by decide)
                refine wpo_append_at (.tmp 79) (.tmp 80) rfl R9 (.slice (some ⟨R9, 0, none⟩) 0 0) [] rfl o_32 a2 ls c2 xs rfl (hHeld.2.rd 1 rfl) (by rw [HXS.out]; simp only [List.length_nil]; omega) ?_ ?_
                · exact Nat.le_of_lt (o_32.block R9 rfl).2
                intro v33 y33 o33 g33 at33
                rw [List.nil_append] at o33
                have r1_33 := rdb_grownM rN32 g33 (fun x hx h0 q => by cases hx; exact ne32 _ q rfl)
                have ne33 : ∀ x, v33.ownBlock = some x → x ≠ R1 := fun x hx => (by rcases at33 with q | q; (exact ne32 x (q ▸ hx)); (have h9 := Option.some.inj (hx.symm.trans q); have h8 : R1 < _ := rlo33; omega))
                have hzz33 := Nat.le_trans (Nat.le_of_lt (Nat.lt_of_le_of_lt (Nat.le_refl R9) (by have h1 := (o_32.block R9 rfl).2; exact h1))) g33.size
                obtain ⟨ad33, cp33, rfl, _, _⟩ := o33.rd (by rw [HXS.out]; first | omega | (simp only [List.length_cons, List.length_nil]; omega))
                rw [HXS.out] at o33 ⊢
                rw [HXS.out] at ne33
                refine hK.out _ _ (hHeld.top o_32 bz31 g33 (by simp) lo31) (fun hHeld => ?_)
                clear hK K
                try simp only [Act.put, List.setIfInBounds_toArray, List.set_cons_zero, List.set_cons_succ]
                refine wpAnyH_ready (rs := [5, 11]) (by kernel_rfl) (by simp) ?_
                refine consL rfl (fun K hK => ?_) (consL rfl (fun K hK => ?_) AllReadyH.nil)
                · rw [if_pos (by rfl)]
                  refine wpo_append_at (.tmp 81) (.tmp 82) rfl R9 (.slice ad33 ls cp33) xs rfl o33 (some ⟨R1, 0, none⟩) 1 1 [0] rfl r1_33 (by rw [HXS.out]; simp only [List.length_cons, List.length_nil]; omega) ?_ ?_
                  · exact hzz33
                  intro v34 y34 o34 g34 at34
                  obtain ⟨ad34, cp34, rfl, _, _⟩ := o34.rd (by rw [List.length_append, HXS.out]; first | omega | (simp only [List.length_cons, List.length_nil]; omega))
                  rw [List.length_append, HXS.out, show [0].length = 1 from rfl] at o34 ⊢
                  refine hK.out _ _ (hHeld.top o33 bz31 g34 (by simp) lo31) (fun hHeld => ?_)
                  clear hK K
                  try simp only [Act.put, List.setIfInBounds_toArray, List.set_cons_zero, List.set_cons_succ]
                  refine wpAnyH_ready (rs := [6, 11]) (by kernel_rfl) (by simp) ?_
                  refine consL rfl (fun K hK => ?_) (consL rfl (fun K hK => ?_) AllReadyH.nil)
                  · rw [if_pos (by rfl)]
                    go_simp
                    refine (cL.out _ _ _ (o34.rdb (by rw [List.length_append, HXS.out]; rfl) (by omega))).mono ?_
                    rintro e35 y35 ⟨ao, no, co, rfl, lo_, po, b35⟩
                    rw [show ((110 : Nat) : Int) = 110 from rfl]
                    refine hK.out _ _ (hHeld.below b35) (fun hHeld => ?_)
                    clear hK K
                    try simp only [Act.put, List.setIfInBounds_toArray, List.set_cons_zero, List.set_cons_succ]
                    refine takeL (i := 7) (v := ?_) rfl rfl (by kernel_rfl) (by kernel_rfl) (by kernel_rfl) (fun _ _ _ h => h) (Or.inl ⟨by rfl, ?_⟩) (by assumption) ?_
                    rotate_left
                    · (intro w' hSw; go_simp; try with_reducible rfl)
                    try simp only [Act.put, List.setIfInBounds_toArray, List.set_cons_zero, List.set_cons_succ]
                    refine takeL (i := 8) (v := ?_) rfl rfl (by kernel_rfl) (by kernel_rfl) (by kernel_rfl) (fun _ _ _ h => h) (Or.inl ⟨by rfl, ?_⟩) (by assumption) ?_
                    rotate_left
                    · (intro w' hSw; go_simp; try with_reducible rfl)
                    try simp only [Act.put, List.setIfInBounds_toArray, List.set_cons_zero, List.set_cons_succ]
                    refine takeL (i := 9) (v := ?_) rfl rfl (by kernel_rfl) (by kernel_rfl) (by kernel_rfl) (fun _ _ _ h => h) (Or.inl ⟨by rfl, ?_⟩) (by assumption) ?_
                    rotate_left
                    · (intro w' hSw; go_simp; try with_reducible rfl)
                    try simp only [Act.put, List.setIfInBounds_toArray, List.set_cons_zero, List.set_cons_succ]
                    refine takeL (i := 10) (v := ?_) rfl rfl (by kernel_rfl) (by kernel_rfl) (by kernel_rfl) (fun _ _ _ h => h) (Or.inl ⟨by rfl, ?_⟩) (by assumption) ?_
                    rotate_left
                    · (intro w' hSw; go_simp; try with_reducible rfl)
                    try simp only [Act.put, List.setIfInBounds_toArray, List.set_cons_zero, List.set_cons_succ]
                    refine wpAnyH_ready (rs := [11]) (by kernel_rfl) (by simp) ?_
                    refine consL rfl (fun K hK => ?_) AllReadyH.nil
                    · rw [if_pos (by rfl)]
                      go_simp
                      have xN36 : HBlk (y35.alloc (.cells #[.int .i64 0, .int .i64 0, .int .i64 0, .int .i64 0, .int .i64 0] 23)) y35.heap.size hd0 := HBlk.new y35 hd0
                      have bl36 := xnew y35 (.cells #[.int .i64 0, .int .i64 0, .int .i64 0, .int .i64 0, .int .i64 0] 23)
                      have hl36 := hHeld.alloc (.cells #[.int .i64 0, .int .i64 0, .int .i64 0, .int .i64 0, .int .i64 0] 23)
                      have xh36 := fun e he => (hHeld.1 e he).lt
                      have xl36 := hHeld.2.lt
                      have xr36 := hHeld.low
                      have xz36 := hHeld.2.bel.size
                      clear bl36
                      generalize y35.heap.size = X9 at xN36 xh36 xl36 xr36 xz36 ⊢
                      generalize y35.alloc (.cells #[.int .i64 0, .int .i64 0, .int .i64 0, .int .i64 0, .int .i64 0] 23) = y36 at xN36 hl36  ⊢
                      refine hK.out _ _ (hl36) (fun hHeld => ?_)
                      clear hK K
                      try simp only [Act.put, List.setIfInBounds_toArray, List.set_cons_zero, List.set_cons_succ]
                      refine wpAnyH_ready (rs := [12]) (by kernel_rfl) (by simp) ?_
                      refine consL rfl (fun K hK => ?_) AllReadyH.nil
                      · rw [if_pos (by rfl)]
                        refine wpo_store_head (.tmp 17) (.tmp 85) rfl X9 rfl (h1 := hd0) xN36 rfl ?_
                        intro y37 hX_37 g37
                        refine hK.out _ _ (⟨fun e he => (hHeld.1 e he).grown g37 (fun q => by have := Option.some.inj q; have := xh36 e he; omega), hHeld.2.grown g37 xz36 (fun e he => Nat.ne_of_lt (xl36 e he)) (fun e he x hx h0 => Nat.ne_of_lt (xr36 e he x hx h0))⟩) (fun hHeld => ?_)
                        clear hK K
                        try simp only [Act.put, List.setIfInBounds_toArray, List.set_cons_zero, List.set_cons_succ]
                        refine takeL (i := 13) (v := ?_) rfl rfl (by kernel_rfl) (by kernel_rfl) (by kernel_rfl) (fun _ _ _ h => h) (Or.inl ⟨by rfl, ?_⟩) (by assumption) ?_
                        rotate_left
                        · (intro w' hSw; go_simp; try with_reducible rfl)
                        try simp only [Act.put, List.setIfInBounds_toArray, List.set_cons_zero, List.set_cons_succ]
                        refine takeL (i := 14) (v := ?_) rfl rfl (by kernel_rfl) (by kernel_rfl) (by kernel_rfl) (fun _ _ _ h => h) (Or.inl ⟨by rfl, ?_⟩) (by assumption) ?_
                        rotate_left
                        · (intro w' hSw; go_simp; try with_reducible rfl)
                        try simp only [Act.put, List.setIfInBounds_toArray, List.set_cons_zero, List.set_cons_succ]
                        refine wpAnyH_done (by kernel_rfl) ?_ _
                        go_wp2_with fail
                        go_meet
                        case rel => exact ⟨rfl, hHeld⟩
                  · rw [if_pos (by rfl)]
                    go_simp
                    have xN35 : HBlk (y34.alloc (.cells #[.int .i64 0, .int .i64 0, .int .i64 0, .int .i64 0, .int .i64 0] 23)) y34.heap.size hd0 := HBlk.new y34 hd0
                    have bl35 := xnew y34 (.cells #[.int .i64 0, .int .i64 0, .int .i64 0, .int .i64 0, .int .i64 0] 23)
                    have hl35 := hHeld.alloc (.cells #[.int .i64 0, .int .i64 0, .int .i64 0, .int .i64 0, .int .i64 0] 23)
                    have xh35 := fun e he => (hHeld.1 e he).lt
                    have xl35 := hHeld.2.lt
                    have xr35 := hHeld.low
                    have xz35 := hHeld.2.bel.size
                    have o_35 := o34.below bl35
                    clear bl35
                    generalize y34.heap.size = X9 at xN35 xh35 xl35 xr35 xz35 ⊢
                    generalize y34.alloc (.cells #[.int .i64 0, .int .i64 0, .int .i64 0, .int .i64 0, .int .i64 0] 23) = y35 at xN35 hl35 o_35 ⊢
                    refine hK.out _ _ (hl35) (fun hHeld => ?_)
                    clear hK K
                    try simp only [Act.put, List.setIfInBounds_toArray, List.set_cons_zero, List.set_cons_succ]
                    refine wpAnyH_ready (rs := [6]) (by kernel_rfl) (by simp) ?_
                    refine consL rfl (fun K hK => ?_) AllReadyH.nil
                    · rw [if_pos (by rfl)]
                      go_simp
                      refine (cL.out _ _ _ (o_35.rdb (by rw [List.length_append, HXS.out]; rfl) (by omega))).mono ?_
                      rintro e36 y36 ⟨ao, no, co, rfl, lo_, po, b36⟩
                      rw [show ((110 : Nat) : Int) = 110 from rfl]
                      have hX_36 := xN35.below b36
                      refine hK.out _ _ (hHeld.below b36) (fun hHeld => ?_)
                      clear hK K
                      try simp only [Act.put, List.setIfInBounds_toArray, List.set_cons_zero, List.set_cons_succ]
                      refine takeL (i := 7) (v := ?_) rfl rfl (by kernel_rfl) (by kernel_rfl) (by kernel_rfl) (fun _ _ _ h => h) (Or.inl ⟨by rfl, ?_⟩) (by assumption) ?_
                      rotate_left
                      · (intro w' hSw; go_simp; try with_reducible rfl)
                      try simp only [Act.put, List.setIfInBounds_toArray, List.set_cons_zero, List.set_cons_succ]
                      refine takeL (i := 8) (v := ?_) rfl rfl (by kernel_rfl) (by kernel_rfl) (by kernel_rfl) (fun _ _ _ h => h) (Or.inl ⟨by rfl, ?_⟩) (by assumption) ?_
                      rotate_left
                      · (intro w' hSw; go_simp; try with_reducible rfl)
                      try simp only [Act.put, List.setIfInBounds_toArray, List.set_cons_zero, List.set_cons_succ]
                      refine takeL (i := 9) (v := ?_) rfl rfl (by kernel_rfl) (by kernel_rfl) (by kernel_rfl) (fun _ _ _ h => h) (Or.inl ⟨by rfl, ?_⟩) (by assumption) ?_
                      rotate_left
                      · (intro w' hSw; go_simp; try with_reducible rfl)
                      try simp only [Act.put, List.setIfInBounds_toArray, List.set_cons_zero, List.set_cons_succ]
                      refine takeL (i := 10) (v := ?_) rfl rfl (by kernel_rfl) (by kernel_rfl) (by kernel_rfl) (fun _ _ _ h => h) (Or.inl ⟨by rfl, ?_⟩) (by assumption) ?_
                      rotate_left
                      · (intro w' hSw; go_simp; try with_reducible rfl)
                      try simp only [Act.put, List.setIfInBounds_toArray, List.set_cons_zero, List.set_cons_succ]
                      refine wpAnyH_ready (rs := [12]) (by kernel_rfl) (by simp) ?_
                      refine consL rfl (fun K hK => ?_) AllReadyH.nil
                      · rw [if_pos (by rfl)]
                        refine wpo_store_head (.tmp 17) (.tmp 85) rfl X9 rfl (h1 := hd0) hX_36 rfl ?_
                        intro y37 hX_37 g37
                        refine hK.out _ _ (⟨fun e he => (hHeld.1 e he).grown g37 (fun q => by have := Option.some.inj q; have := xh35 e he; omega), hHeld.2.grown g37 xz35 (fun e he => Nat.ne_of_lt (xl35 e he)) (fun e he x hx h0 => Nat.ne_of_lt (xr35 e he x hx h0))⟩) (fun hHeld => ?_)
                        clear hK K
                        try simp only [Act.put, List.setIfInBounds_toArray, List.set_cons_zero, List.set_cons_succ]
                        refine takeL (i := 13) (v := ?_) rfl rfl (by kernel_rfl) (by kernel_rfl) (by kernel_rfl) (fun _ _ _ h => h) (Or.inl ⟨by rfl, ?_⟩) (by assumption) ?_
                        rotate_left
                        · (intro w' hSw; go_simp; try with_reducible rfl)
                        try simp only [Act.put, List.setIfInBounds_toArray, List.set_cons_zero, List.set_cons_succ]
                        refine takeL (i := 14) (v := ?_) rfl rfl (by kernel_rfl) (by kernel_rfl) (by kernel_rfl) (fun _ _ _ h => h) (Or.inl ⟨by rfl, ?_⟩) (by assumption) ?_
                        rotate_left
                        · (intro w' hSw; go_simp; try with_reducible rfl)
                        try simp only [Act.put, List.setIfInBounds_toArray, List.set_cons_zero, List.set_cons_succ]
                        refine wpAnyH_done (by kernel_rfl) ?_ _
                        go_wp2_with fail
                        go_meet
                        case rel => exact ⟨rfl, hHeld⟩
                · rw [if_pos (by rfl)]
                  go_simp
                  have xN34 : HBlk (y33.alloc (.cells #[.int .i64 0, .int .i64 0, .int .i64 0, .int .i64 0, .int .i64 0] 23)) y33.heap.size hd0 := HBlk.new y33 hd0
                  have bl34 := xnew y33 (.cells #[.int .i64 0, .int .i64 0, .int .i64 0, .int .i64 0, .int .i64 0] 23)
                  have hl34 := hHeld.alloc (.cells #[.int .i64 0, .int .i64 0, .int .i64 0, .int .i64 0, .int .i64 0] 23)
                  have xh34 := fun e he => (hHeld.1 e he).lt
                  have xl34 := hHeld.2.lt
                  have xr34 := hHeld.low
                  have xz34 := hHeld.2.bel.size
                  have o_34 := o33.below bl34
                  have r1_34 := r1_33.below bl34
                  have hz_34 : R9 ≤ _ := Nat.le_trans hzz33 bl34.size
                  clear bl34
                  generalize y33.heap.size = X9 at xN34 xh34 xl34 xr34 xz34 ⊢
                  generalize y33.alloc (.cells #[.int .i64 0, .int .i64 0, .int .i64 0, .int .i64 0, .int .i64 0] 23) = y34 at xN34 hl34 o_34 r1_34 hz_34 ⊢
                  refine hK.out _ _ (hl34) (fun hHeld => ?_)
                  clear hK K
                  try simp only [Act.put, List.setIfInBounds_toArray, List.set_cons_zero, List.set_cons_succ]
                  refine wpAnyH_ready (rs := [5]) (by kernel_rfl) (by simp) ?_
                  refine consL rfl (fun K hK => ?_) AllReadyH.nil
                  · rw [if_pos (by rfl)]
                    refine wpo_append_at (.tmp 81) (.tmp 82) rfl R9 (.slice ad33 ls cp33) xs rfl o_34 (some ⟨R1, 0, none⟩) 1 1 [0] rfl r1_34 (by rw [HXS.out]; simp only [List.length_cons, List.length_nil]; omega) ?_ ?_
                    · exact hz_34
                    intro v35 y35 o35 g35 at35
                    have hX_35 := xN34.grown g35 (own_ne o_34 xN34 (cells_ne (by decide)))
                    obtain ⟨ad35, cp35, rfl, _, _⟩ := o35.rd (by rw [List.length_append, HXS.out]; first | omega | (simp only [List.length_cons, List.length_nil]; omega))
                    rw [List.length_append, HXS.out, show [0].length = 1 from rfl] at o35 ⊢
                    refine hK.out _ _ (hHeld.top o_34 bz31 g35 (by simp) lo31) (fun hHeld => ?_)
                    clear hK K
                    try simp only [Act.put, List.setIfInBounds_toArray, List.set_cons_zero, List.set_cons_succ]
                    refine wpAnyH_ready (rs := [6]) (by kernel_rfl) (by simp) ?_
                    refine consL rfl (fun K hK => ?_) AllReadyH.nil
                    · rw [if_pos (by rfl)]
                      go_simp
                      refine (cL.out _ _ _ (o35.rdb (by rw [List.length_append, HXS.out]; rfl) (by omega))).mono ?_
                      rintro e36 y36 ⟨ao, no, co, rfl, lo_, po, b36⟩
                      rw [show ((110 : Nat) : Int) = 110 from rfl]
                      have hX_36 := hX_35.below b36
                      refine hK.out _ _ (hHeld.below b36) (fun hHeld => ?_)
                      clear hK K
                      try simp only [Act.put, List.setIfInBounds_toArray, List.set_cons_zero, List.set_cons_succ]
                      refine takeL (i := 7) (v := ?_) rfl rfl (by kernel_rfl) (by kernel_rfl) (by kernel_rfl) (fun _ _ _ h => h) (Or.inl ⟨by rfl, ?_⟩) (by assumption) ?_
                      rotate_left
                      · (intro w' hSw; go_simp; try with_reducible rfl)
                      try simp only [Act.put, List.setIfInBounds_toArray, List.set_cons_zero, List.set_cons_succ]
                      refine takeL (i := 8) (v := ?_) rfl rfl (by kernel_rfl) (by kernel_rfl) (by kernel_rfl) (fun _ _ _ h => h) (Or.inl ⟨by rfl, ?_⟩) (by assumption) ?_
                      rotate_left
                      · (intro w' hSw; go_simp; try with_reducible rfl)
                      try simp only [Act.put, List.setIfInBounds_toArray, List.set_cons_zero, List.set_cons_succ]
                      refine takeL (i := 9) (v := ?_) rfl rfl (by kernel_rfl) (by kernel_rfl) (by kernel_rfl) (fun _ _ _ h => h) (Or.inl ⟨by rfl, ?_⟩) (by assumption) ?_
                      rotate_left
                      · (intro w' hSw; go_simp; try with_reducible rfl)
                      try simp only [Act.put, List.setIfInBounds_toArray, List.set_cons_zero, List.set_cons_succ]
                      refine takeL (i := 10) (v := ?_) rfl rfl (by kernel_rfl) (by kernel_rfl) (by kernel_rfl) (fun _ _ _ h => h) (Or.inl ⟨by rfl, ?_⟩) (by assumption) ?_
                      rotate_left
                      · (intro w' hSw; go_simp; try with_reducible rfl)
                      try simp only [Act.put, List.setIfInBounds_toArray, List.set_cons_zero, List.set_cons_succ]
                      refine wpAnyH_ready (rs := [12]) (by kernel_rfl) (by simp) ?_
                      refine consL rfl (fun K hK => ?_) AllReadyH.nil
                      · rw [if_pos (by rfl)]
                        refine wpo_store_head (.tmp 17) (.tmp 85) rfl X9 rfl (h1 := hd0) hX_36 rfl ?_
                        intro y37 hX_37 g37
                        refine hK.out _ _ (⟨fun e he => (hHeld.1 e he).grown g37 (fun q => by have := Option.some.inj q; have := xh34 e he; omega), hHeld.2.grown g37 xz34 (fun e he => Nat.ne_of_lt (xl34 e he)) (fun e he x hx h0 => Nat.ne_of_lt (xr34 e he x hx h0))⟩) (fun hHeld => ?_)
                        clear hK K
                        try simp only [Act.put, List.setIfInBounds_toArray, List.set_cons_zero, List.set_cons_succ]
                        refine takeL (i := 13) (v := ?_) rfl rfl (by kernel_rfl) (by kernel_rfl) (by kernel_rfl) (fun _ _ _ h => h) (Or.inl ⟨by rfl, ?_⟩) (by assumption) ?_
                        rotate_left
                        · (intro w' hSw; go_simp; try with_reducible rfl)
                        try simp only [Act.put, List.setIfInBounds_toArray, List.set_cons_zero, List.set_cons_succ]
                        refine takeL (i := 14) (v := ?_) rfl rfl (by kernel_rfl) (by kernel_rfl) (by kernel_rfl) (fun _ _ _ h => h) (Or.inl ⟨by rfl, ?_⟩) (by assumption) ?_
                        rotate_left
                        · (intro w' hSw; go_simp; try with_reducible rfl)
                        try simp only [Act.put, List.setIfInBounds_toArray, List.set_cons_zero, List.set_cons_succ]
                        refine wpAnyH_done (by kernel_rfl) ?_ _
                        go_wp2_with fail
                        go_meet
                        case rel => exact ⟨rfl, hHeld⟩
              · rw [if_pos (by rfl)]
                go_simp
                have xN33 : HBlk (y32.alloc (.cells #[.int .i64 0, .int .i64 0, .int .i64 0, .int .i64 0, .int .i64 0] 23)) y32.heap.size hd0 := HBlk.new y32 hd0
                have bl33 := xnew y32 (.cells #[.int .i64 0, .int .i64 0, .int .i64 0, .int .i64 0, .int .i64 0] 23)
                have hl33 := hHeld.alloc (.cells #[.int .i64 0, .int .i64 0, .int .i64 0, .int .i64 0, .int .i64 0] 23)
                have xh33 := fun e he => (hHeld.1 e he).lt
                have xl33 := hHeld.2.lt
                have xr33 := hHeld.low
                have xz33 := hHeld.2.bel.size
                have o_33 := o_32.below bl33
                have r1_33 := rN32.below bl33
                clear bl33
                generalize y32.heap.size = X9 at xN33 xh33 xl33 xr33 xz33 ⊢
                generalize y32.alloc (.cells #[.int .i64 0, .int .i64 0, .int .i64 0, .int .i64 0, .int .i64 0] 23) = y33 at xN33 hl33 o_33 r1_33 ⊢
                refine hK.out _ _ (hl33) (fun hHeld => ?_)
                clear hK K
                try simp only [Act.put, List.setIfInBounds_toArray, List.set_cons_zero, List.set_cons_succ]
                refine wpAnyH_ready (rs := [3]) (by kernel_rfl) (by simp) ?_
                refine consL rfl (fun K hK => ?_) AllReadyH.nil
                · rw [if_pos (by rfl)]
                  have rlo34 := rdb_low r1_33 _ rfl (by decide)
                  refine wpo_append_at (.tmp 79) (.tmp 80) rfl R9 (.slice (some ⟨R9, 0, none⟩) 0 0) [] rfl o_33 a2 ls c2 xs rfl (hHeld.2.rd 1 rfl) (by rw [HXS.out]; simp only [List.length_nil]; omega) ?_ ?_
                  · exact Nat.le_of_lt (o_33.block R9 rfl).2
                  intro v34 y34 o34 g34 at34
                  rw [List.nil_append] at o34
                  have hX_34 := xN33.grown g34 (own_ne o_33 xN33 (cells_ne (by decide)))
                  have r1_34 := rdb_grownM r1_33 g34 (fun x hx h0 q => by cases hx; exact ne32 _ q rfl)
                  have ne34 : ∀ x, v34.ownBlock = some x → x ≠ R1 := fun x hx => (by rcases at34 with q | q; (exact ne32 x (q ▸ hx)); (have h9 := Option.some.inj (hx.symm.trans q); have h8 : R1 < _ := rlo34; omega))
                  have hzz34 := Nat.le_trans (Nat.le_of_lt (Nat.lt_of_le_of_lt (Nat.le_refl R9) (by have h1 := (o_33.block R9 rfl).2; exact h1))) g34.size
                  obtain ⟨ad34, cp34, rfl, _, _⟩ := o34.rd (by rw [HXS.out]; first | omega | (simp only [List.length_cons, List.length_nil]; omega))
                  rw [HXS.out] at o34 ⊢
                  rw [HXS.out] at ne34
                  refine hK.out _ _ (hHeld.top o_33 bz31 g34 (by simp) lo31) (fun hHeld => ?_)
                  clear hK K
                  try simp only [Act.put, List.setIfInBounds_toArray, List.set_cons_zero, List.set_cons_succ]
                  refine wpAnyH_ready (rs := [5]) (by kernel_rfl) (by simp) ?_
                  refine consL rfl (fun K hK => ?_) AllReadyH.nil
                  · rw [if_pos (by rfl)]
                    refine wpo_append_at (.tmp 81) (.tmp 82) rfl R9 (.slice ad34 ls cp34) xs rfl o34 (some ⟨R1, 0, none⟩) 1 1 [0] rfl r1_34 (by rw [HXS.out]; simp only [List.length_cons, List.length_nil]; omega) ?_ ?_
                    · exact hzz34
                    intro v35 y35 o35 g35 at35
                    have hX_35 := hX_34.grown g35 (own_ne o34 hX_34 (cells_ne (by decide)))
                    obtain ⟨ad35, cp35, rfl, _, _⟩ := o35.rd (by rw [List.length_append, HXS.out]; first | omega | (simp only [List.length_cons, List.length_nil]; omega))
                    rw [List.length_append, HXS.out, show [0].length = 1 from rfl] at o35 ⊢
                    refine hK.out _ _ (hHeld.top o34 bz31 g35 (by simp) lo31) (fun hHeld => ?_)
                    clear hK K
                    try simp only [Act.put, List.setIfInBounds_toArray, List.set_cons_zero, List.set_cons_succ]
                    refine wpAnyH_ready (rs := [6]) (by kernel_rfl) (by simp) ?_
                    refine consL rfl (fun K hK => ?_) AllReadyH.nil
                    · rw [if_pos (by rfl)]
                      go_simp
                      refine (cL.out _ _ _ (o35.rdb (by rw [List.length_append, HXS.out]; rfl) (by omega))).mono ?_
                      rintro e36 y36 ⟨ao, no, co, rfl, lo_, po, b36⟩
                      rw [show ((110 : Nat) : Int) = 110 from rfl]
                      have hX_36 := hX_35.below b36
                      refine hK.out _ _ (hHeld.below b36) (fun hHeld => ?_)
                      clear hK K
                      try simp only [Act.put, List.setIfInBounds_toArray, List.set_cons_zero, List.set_cons_succ]
                      refine takeL (i := 7) (v := ?_) rfl rfl (by kernel_rfl) (by kernel_rfl) (by kernel_rfl) (fun _ _ _ h => h) (Or.inl ⟨by rfl, ?_⟩) (by assumption) ?_
                      rotate_left
                      · (intro w' hSw; go_simp; try with_reducible rfl)
                      try simp only [Act.put, List.setIfInBounds_toArray, List.set_cons_zero, List.set_cons_succ]
                      refine takeL (i := 8) (v := ?_) rfl rfl (by kernel_rfl) (by kernel_rfl) (by kernel_rfl) (fun _ _ _ h => h) (Or.inl ⟨by rfl, ?_⟩) (by assumption) ?_
                      rotate_left
                      · (intro w' hSw; go_simp; try with_reducible rfl)
                      try simp only [Act.put, List.setIfInBounds_toArray, List.set_cons_zero, List.set_cons_succ]
                      refine takeL (i := 9) (v := ?_) rfl rfl (by kernel_rfl) (by kernel_rfl) (by kernel_rfl) (fun _ _ _ h => h) (Or.inl ⟨by rfl, ?_⟩) (by assumption) ?_
                      rotate_left
                      · (intro w' hSw; go_simp; try with_reducible rfl)
                      try simp only [Act.put, List.setIfInBounds_toArray, List.set_cons_zero, List.set_cons_succ]
                      refine takeL (i := 10) (v := ?_) rfl rfl (by kernel_rfl) (by kernel_rfl) (by kernel_rfl) (fun _ _ _ h => h) (Or.inl ⟨by rfl, ?_⟩) (by assumption) ?_
                      rotate_left
                      · (intro w' hSw; go_simp; try with_reducible rfl)
                      try simp only [Act.put, List.setIfInBounds_toArray, List.set_cons_zero, List.set_cons_succ]
                      refine wpAnyH_ready (rs := [12]) (by kernel_rfl) (by simp) ?_
                      refine consL rfl (fun K hK => ?_) AllReadyH.nil
                      · rw [if_pos (by rfl)]
                        refine wpo_store_head (.tmp 17) (.tmp 85) rfl X9 rfl (h1 := hd0) hX_36 rfl ?_
                        intro y37 hX_37 g37
                        refine hK.out _ _ (⟨fun e he => (hHeld.1 e he).grown g37 (fun q => by have := Option.some.inj q; have := xh33 e he; omega), hHeld.2.grown g37 xz33 (fun e he => Nat.ne_of_lt (xl33 e he)) (fun e he x hx h0 => Nat.ne_of_lt (xr33 e he x hx h0))⟩) (fun hHeld => ?_)
                        clear hK K
                        try simp only [Act.put, List.setIfInBounds_toArray, List.set_cons_zero, List.set_cons_succ]
                        refine takeL (i := 13) (v := ?_) rfl rfl (by kernel_rfl) (by kernel_rfl) (by kernel_rfl) (fun _ _ _ h => h) (Or.inl ⟨by rfl, ?_⟩) (by assumption) ?_
                        rotate_left
                        · (intro w' hSw; go_simp; try with_reducible rfl)
                        try simp only [Act.put, List.setIfInBounds_toArray, List.set_cons_zero, List.set_cons_succ]
                        refine takeL (i := 14) (v := ?_) rfl rfl (by kernel_rfl) (by kernel_rfl) (by kernel_rfl) (fun _ _ _ h => h) (Or.inl ⟨by rfl, ?_⟩) (by assumption) ?_
                        rotate_left
                        · (intro w' hSw; go_simp; try with_reducible rfl)
                        try simp only [Act.put, List.setIfInBounds_toArray, List.set_cons_zero, List.set_cons_succ]
                        refine wpAnyH_done (by kernel_rfl) ?_ _
                        go_wp2_with fail
                        go_meet
                        case rel => exact ⟨rfl, hHeld⟩
            · rw [if_pos (by rfl)]
              go_simp
              have xN32 : HBlk (y31.alloc (.cells #[.int .i64 0, .int .i64 0, .int .i64 0, .int .i64 0, .int .i64 0] 23)) y31.heap.size hd0 := HBlk.new y31 hd0
              have bl32 := xnew y31 (.cells #[.int .i64 0, .int .i64 0, .int .i64 0, .int .i64 0, .int .i64 0] 23)
              have hl32 := hHeld.alloc (.cells #[.int .i64 0, .int .i64 0, .int .i64 0, .int .i64 0, .int .i64 0] 23)
              have xh32 := fun e he => (hHeld.1 e he).lt
              have xl32 := hHeld.2.lt
              have xr32 := hHeld.low
              have xz32 := hHeld.2.bel.size
              have o_32 := oN31.below bl32
              clear bl32
              generalize y31.heap.size = X9 at xN32 xh32 xl32 xr32 xz32 ⊢
              generalize y31.alloc (.cells #[.int .i64 0, .int .i64 0, .int .i64 0, .int .i64 0, .int .i64 0] 23) = y32 at xN32 hl32 o_32 ⊢
              refine hK.out _ _ (hl32) (fun hHeld => ?_)
              clear hK K
              try simp only [Act.put, List.setIfInBounds_toArray, List.set_cons_zero, List.set_cons_succ]
              refine wpAnyH_ready (rs := [3, 4]) (by kernel_rfl) (by simp) ?_
              refine consL rfl (fun K hK => ?_) (consL rfl (fun K hK => ?_) AllReadyH.nil)
              · rw [if_pos (by rfl)]
                have rlo33 := trivial
                refine wpo_append_at (.tmp 79) (.tmp 80) rfl R9 (.slice (some ⟨R9, 0, none⟩) 0 0) [] rfl o_32 a2 ls c2 xs rfl (hHeld.2.rd 1 rfl) (by rw [HXS.out]; simp only [List.length_nil]; omega) ?_ ?_
                · exact Nat.le_of_lt (o_32.block R9 rfl).2
                intro v33 y33 o33 g33 at33
                rw [List.nil_append] at o33
                have hX_33 := xN32.grown g33 (own_ne o_32 xN32 (cells_ne (by decide)))
                have hzz33 := Nat.le_trans (Nat.le_of_lt (Nat.lt_of_le_of_lt (Nat.le_refl R9) (by have h1 := (o_32.block R9 rfl).2; exact h1))) g33.size
                obtain ⟨ad33, cp33, rfl, _, _⟩ := o33.rd (by rw [HXS.out]; first | omega | (simp only [List.length_cons, List.length_nil]; omega))
                rw [HXS.out] at o33 ⊢
                refine hK.out _ _ (hHeld.top o_32 bz31 g33 (by simp) lo31) (fun hHeld => ?_)
                clear hK K
                try simp only [Act.put, List.setIfInBounds_toArray, List.set_cons_zero, List.set_cons_succ]
                refine wpAnyH_ready (rs := [4]) (by kernel_rfl) (by simp) ?_
                refine consL rfl (fun K hK => ?_) AllReadyH.nil
                · rw [if_pos (by rfl)]
                  go_simp
                  have rN34 : RdB (y33.alloc (.cells #[.int .u8 0] 5)) (some ⟨y33.heap.size, 0, none⟩) 1 1 [0] := rd_new y33 [0] _ _ _ 1 rfl rfl (by decide) (by decide)
                  have bl34 := xnew y33 (.cells #[.int .u8 0] 5)
                  have hl34 := hHeld.alloc (.cells #[.int .u8 0] 5)
                  have nb34 := fun x hx => (o33.block x hx).2
                  have o_34 := o33.below bl34
                  have hX_34 := hX_33.below bl34
                  have hz_34 : R9 ≤ _ := Nat.le_trans hzz33 bl34.size
                  clear bl34
                  generalize y33.heap.size = R1 at rN34 nb34 ⊢
                  generalize y33.alloc (.cells #[.int .u8 0] 5) = y34 at rN34 hl34 o_34 hX_34 hz_34 ⊢
                  have ne34 : ∀ x, ((.slice ad33 ls cp33) : Value).ownBlock = some x → x ≠ R1 := fun x hx => Nat.ne_of_lt (nb34 x hx)
                  refine hK.out _ _ (hl34) (fun hHeld => ?_)
                  clear hK K
                  try simp only [Act.put, List.setIfInBounds_toArray, List.set_cons_zero, List.set_cons_succ]
                  refine wpAnyH_ready (rs := [5]) (by kernel_rfl) (by simp) ?_
                  refine consL rfl (fun K hK => ?_) AllReadyH.nil
                  · rw [if_pos (by rfl)]
                    refine wpo_append_at (.tmp 81) (.tmp 82) rfl R9 (.slice ad33 ls cp33) xs rfl o_34 (some ⟨R1, 0, none⟩) 1 1 [0] rfl rN34 (by rw [HXS.out]; simp only [List.length_cons, List.length_nil]; omega) ?_ ?_
                    · exact hz_34
                    intro v35 y35 o35 g35 at35
                    have hX_35 := hX_34.grown g35 (own_ne o_34 hX_34 (cells_ne (by decide)))
                    obtain ⟨ad35, cp35, rfl, _, _⟩ := o35.rd (by rw [List.length_append, HXS.out]; first | omega | (simp only [List.length_cons, List.length_nil]; omega))
                    rw [List.length_append, HXS.out, show [0].length = 1 from rfl] at o35 ⊢
                    refine hK.out _ _ (hHeld.top o_34 bz31 g35 (by simp) lo31) (fun hHeld => ?_)
                    clear hK K
                    try simp only [Act.put, List.setIfInBounds_toArray, List.set_cons_zero, List.set_cons_succ]
                    refine wpAnyH_ready (rs := [6]) (by kernel_rfl) (by simp) ?_
                    refine consL rfl (fun K hK => ?_) AllReadyH.nil
                    · rw [if_pos (by rfl)]
                      go_simp
                      refine (cL.out _ _ _ (o35.rdb (by rw [List.length_append, HXS.out]; rfl) (by omega))).mono ?_
                      rintro e36 y36 ⟨ao, no, co, rfl, lo_, po, b36⟩
                      rw [show ((110 : Nat) : Int) = 110 from rfl]
                      have hX_36 := hX_35.below b36
                      refine hK.out _ _ (hHeld.below b36) (fun hHeld => ?_)
                      clear hK K
                      try simp only [Act.put, List.setIfInBounds_toArray, List.set_cons_zero, List.set_cons_succ]
                      refine takeL (i := 7) (v := ?_) rfl rfl (by kernel_rfl) (by kernel_rfl) (by kernel_rfl) (fun _ _ _ h => h) (Or.inl ⟨by rfl, ?_⟩) (by assumption) ?_
                      rotate_left
                      · (intro w' hSw; go_simp; try with_reducible rfl)
                      try simp only [Act.put, List.setIfInBounds_toArray, List.set_cons_zero, List.set_cons_succ]
                      refine takeL (i := 8) (v := ?_) rfl rfl (by kernel_rfl) (by kernel_rfl) (by kernel_rfl) (fun _ _ _ h => h) (Or.inl ⟨by rfl, ?_⟩) (by assumption) ?_
                      rotate_left
                      · (intro w' hSw; go_simp; try with_reducible rfl)
                      try simp only [Act.put, List.setIfInBounds_toArray, List.set_cons_zero, List.set_cons_succ]
                      refine takeL (i := 9) (v := ?_) rfl rfl (by kernel_rfl) (by kernel_rfl) (by kernel_rfl) (fun _ _ _ h => h) (Or.inl ⟨by rfl, ?_⟩) (by assumption) ?_
                      rotate_left
                      · (intro w' hSw; go_simp; try with_reducible rfl)
                      try simp only [Act.put, List.setIfInBounds_toArray, List.set_cons_zero, List.set_cons_succ]
                      refine takeL (i := 10) (v := ?_) rfl rfl (by kernel_rfl) (by kernel_rfl) (by kernel_rfl) (fun _ _ _ h => h) (Or.inl ⟨by rfl, ?_⟩) (by assumption) ?_
                      rotate_left
                      · (intro w' hSw; go_simp; try with_reducible rfl)
                      try simp only [Act.put, List.setIfInBounds_toArray, List.set_cons_zero, List.set_cons_succ]
                      refine wpAnyH_ready (rs := [12]) (by kernel_rfl) (by simp) ?_
                      refine consL rfl (fun K hK => ?_) AllReadyH.nil
                      · rw [if_pos (by rfl)]
                        refine wpo_store_head (.tmp 17) (.tmp 85) rfl X9 rfl (h1 := hd0) hX_36 rfl ?_
                        intro y37 hX_37 g37
                        refine hK.out _ _ (⟨fun e he => (hHeld.1 e he).grown g37 (fun q => by have := Option.some.inj q; have := xh32 e he; omega), hHeld.2.grown g37 xz32 (fun e he => Nat.ne_of_lt (xl32 e he)) (fun e he x hx h0 => Nat.ne_of_lt (xr32 e he x hx h0))⟩) (fun hHeld => ?_)
                        clear hK K
                        try simp only [Act.put, List.setIfInBounds_toArray, List.set_cons_zero, List.set_cons_succ]
                        refine takeL (i := 13) (v := ?_) rfl rfl (by kernel_rfl) (by kernel_rfl) (by kernel_rfl) (fun _ _ _ h => h) (Or.inl ⟨by rfl, ?_⟩) (by assumption) ?_
                        rotate_left
                        · (intro w' hSw; go_simp; try with_reducible rfl)
                        try simp only [Act.put, List.setIfInBounds_toArray, List.set_cons_zero, List.set_cons_succ]
                        refine takeL (i := 14) (v := ?_) rfl rfl (by kernel_rfl) (by kernel_rfl) (by kernel_rfl) (fun _ _ _ h => h) (Or.inl ⟨by rfl, ?_⟩) (by assumption) ?_
                        rotate_left
                        · (intro w' hSw; go_simp; try with_reducible rfl)
                        try simp only [Act.put, List.setIfInBounds_toArray, List.set_cons_zero, List.set_cons_succ]
                        refine wpAnyH_done (by kernel_rfl) ?_ _
                        go_wp2_with fail
                        go_meet
                        case rel => exact ⟨rfl, hHeld⟩
              · rw [if_pos (by rfl)]
                go_simp
                have rN33 : RdB (y32.alloc (.cells #[.int .u8 0] 5)) (some ⟨y32.heap.size, 0, none⟩) 1 1 [0] := rd_new y32 [0] _ _ _ 1 rfl rfl (by decide) (by decide)
                have bl33 := xnew y32 (.cells #[.int .u8 0] 5)
                have hl33 := hHeld.alloc (.cells #[.int .u8 0] 5)
                have nb33 := fun x hx => (o_32.block x hx).2
                have o_33 := o_32.below bl33
                have hX_33 := xN32.below bl33
                clear bl33
                generalize y32.heap.size = R1 at rN33 nb33 ⊢
                generalize y32.alloc (.cells #[.int .u8 0] 5) = y33 at rN33 hl33 o_33 hX_33 ⊢
                have ne33 : ∀ x, ((.slice (some ⟨R9, 0, none⟩) 0 0) : Value).ownBlock = some x → x ≠ R1 := fun x hx => Nat.ne_of_lt (nb33 x hx)
                refine hK.out _ _ (hl33) (fun hHeld => ?_)
                clear hK K
                try simp only [Act.put, List.setIfInBounds_toArray, List.set_cons_zero, List.set_cons_succ]
                refine wpAnyH_ready (rs := [3]) (by kernel_rfl) (by simp) ?_
                refine consL rfl (fun K hK => ?_) AllReadyH.nil
                · rw [if_pos (by rfl)]
                  have rlo34 := rdb_low rN33 _ rfl (by decide)
                  refine wpo_append_at (.tmp 79) (.tmp 80) rfl R9 (.slice (some ⟨R9, 0, none⟩) 0 0) [] rfl o_33 a2 ls c2 xs rfl (hHeld.2.rd 1 rfl) (by rw [HXS.out]; simp only [List.length_nil]; omega) ?_ ?_
                  · exact Nat.le_of_lt (o_33.block R9 rfl).2
                  intro v34 y34 o34 g34 at34
                  rw [List.nil_append] at o34
                  have hX_34 := hX_33.grown g34 (own_ne o_33 hX_33 (cells_ne (by decide)))
                  have r1_34 := rdb_grownM rN33 g34 (fun x hx h0 q => by cases hx; exact ne33 _ q rfl)
                  have ne34 : ∀ x, v34.ownBlock = some x → x ≠ R1 := fun x hx => (by rcases at34 with q | q; (exact ne33 x (q ▸ hx)); (have h9 := Option.some.inj (hx.symm.trans q); have h8 : R1 < _ := rlo34; omega))
                  have hzz34 := Nat.le_trans (Nat.le_of_lt (Nat.lt_of_le_of_lt (Nat.le_refl R9) (by have h1 := (o_33.block R9 rfl).2; exact h1))) g34.size
                  obtain ⟨ad34, cp34, rfl, _, _⟩ := o34.rd (by rw [HXS.out]; first | omega | (simp only [List.length_cons, List.length_nil]; omega))
                  rw [HXS.out] at o34 ⊢
                  rw [HXS.out] at ne34
                  refine hK.out _ _ (hHeld.top o_33 bz31 g34 (by simp) lo31) (fun hHeld => ?_)
                  clear hK K
                  try simp only [Act.put, List.setIfInBounds_toArray, List.set_cons_zero, List.set_cons_succ]
                  refine wpAnyH_ready (rs := [5]) (by kernel_rfl) (by simp) ?_
                  refine consL rfl (fun K hK => ?_) AllReadyH.nil
                  · rw [if_pos (by rfl)]
                    refine wpo_append_at (.tmp 81) (.tmp 82) rfl R9 (.slice ad34 ls cp34) xs rfl o34 (some ⟨R1, 0, none⟩) 1 1 [0] rfl r1_34 (by rw [HXS.out]; simp only [List.length_cons, List.length_nil]; omega) ?_ ?_
                    · exact hzz34
                    intro v35 y35 o35 g35 at35
                    have hX_35 := hX_34.grown g35 (own_ne o34 hX_34 (cells_ne (by decide)))
                    obtain ⟨ad35, cp35, rfl, _, _⟩ := o35.rd (by rw [List.length_append, HXS.out]; first | omega | (simp only [List.length_cons, List.length_nil]; omega))
                    rw [List.length_append, HXS.out, show [0].length = 1 from rfl] at o35 ⊢
                    refine hK.out _ _ (hHeld.top o34 bz31 g35 (by simp) lo31) (fun hHeld => ?_)
                    clear hK K
                    try simp only [Act.put, List.setIfInBounds_toArray, List.set_cons_zero, List.set_cons_succ]
                    refine wpAnyH_ready (rs := [6]) (by kernel_rfl) (by simp) ?_
                    refine consL rfl (fun K hK => ?_) AllReadyH.nil
                    · rw [if_pos (by rfl)]
                      go_simp
                      refine (cL.out _ _ _ (o35.rdb (by rw [List.length_append, HXS.out]; rfl) (by omega))).mono ?_
                      rintro e36 y36 ⟨ao, no, co, rfl, lo_, po, b36⟩
                      rw [show ((110 : Nat) : Int) = 110 from rfl]
                      have hX_36 := hX_35.below b36
                      refine hK.out _ _ (hHeld.below b36) (fun hHeld => ?_)
                      clear hK K
                      try simp only [Act.put, List.setIfInBounds_toArray, List.set_cons_zero, List.set_cons_succ]
                      refine takeL (i := 7) (v := ?_) rfl rfl (by kernel_rfl) (by kernel_rfl) (by kernel_rfl) (fun _ _ _ h => h) (Or.inl ⟨by rfl, ?_⟩) (by assumption) ?_
                      rotate_left
                      · (intro w' hSw; go_simp; try with_reducible rfl)
                      try simp only [Act.put, List.setIfInBounds_toArray, List.set_cons_zero, List.set_cons_succ]
                      refine takeL (i := 8) (v := ?_) rfl rfl (by kernel_rfl) (by kernel_rfl) (by kernel_rfl) (fun _ _ _ h => h) (Or.inl ⟨by rfl, ?_⟩) (by assumption) ?_
                      rotate_left
                      · (intro w' hSw; go_simp; try with_reducible rfl)
                      try simp only [Act.put, List.setIfInBounds_toArray, List.set_cons_zero, List.set_cons_succ]
                      refine takeL (i := 9) (v := ?_) rfl rfl (by kernel_rfl) (by kernel_rfl) (by kernel_rfl) (fun _ _ _ h => h) (Or.inl ⟨by rfl, ?_⟩) (by assumption) ?_
                      rotate_left
                      · (intro w' hSw; go_simp; try with_reducible rfl)
                      try simp only [Act.put, List.setIfInBounds_toArray, List.set_cons_zero, List.set_cons_succ]
                      refine takeL (i := 10) (v := ?_) rfl rfl (by kernel_rfl) (by kernel_rfl) (by kernel_rfl) (fun _ _ _ h => h) (Or.inl ⟨by rfl, ?_⟩) (by assumption) ?_
                      rotate_left
                      · (intro w' hSw; go_simp; try with_reducible rfl)
                      try simp only [Act.put, List.setIfInBounds_toArray, List.set_cons_zero, List.set_cons_succ]
                      refine wpAnyH_ready (rs := [12]) (by kernel_rfl) (by simp) ?_
                      refine consL rfl (fun K hK => ?_) AllReadyH.nil
                      · rw [if_pos (by rfl)]
                        refine wpo_store_head (.tmp 17) (.tmp 85) rfl X9 rfl (h1 := hd0) hX_36 rfl ?_
                        intro y37 hX_37 g37
                        refine hK.out _ _ (⟨fun e he => (hHeld.1 e he).grown g37 (fun q => by have := Option.some.inj q; have := xh32 e he; omega), hHeld.2.grown g37 xz32 (fun e he => Nat.ne_of_lt (xl32 e he)) (fun e he x hx h0 => Nat.ne_of_lt (xr32 e he x hx h0))⟩) (fun hHeld => ?_)
                        clear hK K
                        try simp only [Act.put, List.setIfInBounds_toArray, List.set_cons_zero, List.set_cons_succ]
                        refine takeL (i := 13) (v := ?_) rfl rfl (by kernel_rfl) (by kernel_rfl) (by kernel_rfl) (fun _ _ _ h => h) (Or.inl ⟨by rfl, ?_⟩) (by assumption) ?_
                        rotate_left
                        · (intro w' hSw; go_simp; try with_reducible rfl)
                        try simp only [Act.put, List.setIfInBounds_toArray, List.set_cons_zero, List.set_cons_succ]
                        refine takeL (i := 14) (v := ?_) rfl rfl (by kernel_rfl) (by kernel_rfl) (by kernel_rfl) (fun _ _ _ h => h) (Or.inl ⟨by rfl, ?_⟩) (by assumption) ?_
                        rotate_left
                        · (intro w' hSw; go_simp; try with_reducible rfl)
                        try simp only [Act.put, List.setIfInBounds_toArray, List.set_cons_zero, List.set_cons_succ]
                        refine wpAnyH_done (by kernel_rfl) ?_ _
                        go_wp2_with fail
                        go_meet
                        case rel => exact ⟨rfl, hHeld⟩
          · rw [if_pos (by rfl)]
            go_simp
            have rN31 : RdB (wv.alloc (.cells #[.int .u8 0] 5)) (some ⟨wv.heap.size, 0, none⟩) 1 1 [0] := rd_new wv [0] _ _ _ 1 rfl rfl (by decide) (by decide)
            have bl31 := xnew wv (.cells #[.int .u8 0] 5)
            have hl31 := hHeld.alloc (.cells #[.int .u8 0] 5)
            clear bl31
            generalize wv.heap.size = R1 at rN31 ⊢
            generalize wv.alloc (.cells #[.int .u8 0] 5) = y31 at rN31 hl31  ⊢
            refine hK.out _ _ (hl31) (fun hHeld => ?_)
            clear hK K
            try simp only [Act.put, List.setIfInBounds_toArray, List.set_cons_zero, List.set_cons_succ]
            refine wpAnyH_ready (rs := [1, 11]) (by kernel_rfl) (by simp) ?_
            refine consL rfl (fun K hK => ?_) (consL rfl (fun K hK => ?_) AllReadyH.nil)
            · rw [if_pos (by rfl)]
              go_simp
              have oN32 := Own.lit y31 #[] 0 [] rfl rfl (by decide) (by simp)
              have bl32 := xnew y31 (.cells #[] 5)
              have hl32 := hHeld.alloc (.cells #[] 5)
              have lo32 := hHeld.low
              have bz32 := hHeld.2.bel.size
              have r1_32 := rN31.below bl32
              have rl32 := rdb_low rN31 _ rfl (by decide)
              clear bl32
              generalize y31.heap.size = R9 at oN32 lo32 bz32 rl32 ⊢
              generalize y31.alloc (.cells #[] 5) = y32 at oN32 hl32 r1_32 ⊢
              have ne32 : ∀ x, (Value.slice (some ⟨R9, 0, none⟩) 0 0).ownBlock = some x → x ≠ R1 := fun x hx => (by have h9 : R9 = x := (by simpa [Value.ownBlock] using hx); have h8 : R1 < R9 := rl32; omega)
              refine hK.out _ _ (hl32) (fun hHeld => ?_)
              clear hK K
              try simp only [Act.put, List.setIfInBounds_toArray, List.set_cons_zero, List.set_cons_succ]
              refine wpAnyH_ready (rs := [3, 11]) (by kernel_rfl) (by simp) ?_
              refine consL rfl (fun K hK => ?_) (consL rfl (fun K hK => ?_) AllReadyH.nil)
              · rw [if_pos (by rfl)]
                have rlo33 := rdb_low r1_32 _ rfl (by decide)
                refine wpo_append_at (.tmp 79) (.tmp 80) rfl R9 (.slice (some ⟨R9, 0, none⟩) 0 0) [] rfl oN32 a2 ls c2 xs rfl (hHeld.2.rd 1 rfl) (by rw [HXS.out]; simp only [List.length_nil]; omega) ?_ ?_
                · exact Nat.le_of_lt (oN32.block R9 rfl).2
                intro v33 y33 o33 g33 at33
                rw [List.nil_append] at o33
                have r1_33 := rdb_grownM r1_32 g33 (fun x hx h0 q => by cases hx; exact ne32 _ q rfl)
                have ne33 : ∀ x, v33.ownBlock = some x → x ≠ R1 := fun x hx => (by rcases at33 with q | q; (exact ne32 x (q ▸ hx)); (have h9 := Option.some.inj (hx.symm.trans q); have h8 : R1 < _ := rlo33; omega))
                have hzz33 := Nat.le_trans (Nat.le_of_lt (Nat.lt_of_le_of_lt (Nat.le_refl R9) (by have h1 := (oN32.block R9 rfl).2; exact h1))) g33.size
                obtain ⟨ad33, cp33, rfl, _, _⟩ := o33.rd (by rw [HXS.out]; first | omega | (simp only [List.length_cons, List.length_nil]; omega))
                rw [HXS.out] at o33 ⊢
                rw [HXS.out] at ne33
                refine hK.out _ _ (hHeld.top oN32 bz32 g33 (by simp) lo32) (fun hHeld => ?_)
                clear hK K
                try simp only [Act.put, List.setIfInBounds_toArray, List.set_cons_zero, List.set_cons_succ]
                refine wpAnyH_ready (rs := [5, 11]) (by kernel_rfl) (by simp) ?_
                refine consL rfl (fun K hK => ?_) (consL rfl (fun K hK => ?_) AllReadyH.nil)
                · rw [if_pos (by rfl)]
                  refine wpo_append_at (.tmp 81) (.tmp 82) rfl R9 (.slice ad33 ls cp33) xs rfl o33 (some ⟨R1, 0, none⟩) 1 1 [0] rfl r1_33 (by rw [HXS.out]; simp only [List.length_cons, List.length_nil]; omega) ?_ ?_
                  · exact hzz33
                  intro v34 y34 o34 g34 at34
                  obtain ⟨ad34, cp34, rfl, _, _⟩ := o34.rd (by rw [List.length_append, HXS.out]; first | omega | (simp only [List.length_cons, List.length_nil]; omega))
                  rw [List.length_append, HXS.out, show [0].length = 1 from rfl] at o34 ⊢
                  refine hK.out _ _ (hHeld.top o33 bz32 g34 (by simp) lo32) (fun hHeld => ?_)
                  clear hK K
                  try simp only [Act.put, List.setIfInBounds_toArray, List.set_cons_zero, List.set_cons_succ]
                  refine wpAnyH_ready (rs := [6, 11]) (by kernel_rfl) (by simp) ?_
                  refine consL rfl (fun K hK => ?_) (consL rfl (fun K hK => ?_) AllReadyH.nil)
                  · rw [if_pos (by rfl)]
                    go_simp
                    refine (cL.out _ _ _ (o34.rdb (by rw [List.length_append, HXS.out]; rfl) (by omega))).mono ?_
                    rintro e35 y35 ⟨ao, no, co, rfl, lo_, po, b35⟩
                    rw [show ((110 : Nat) : Int) = 110 from rfl]
                    refine hK.out _ _ (hHeld.below b35) (fun hHeld => ?_)
                    clear hK K
                    try simp only [Act.put, List.setIfInBounds_toArray, List.set_cons_zero, List.set_cons_succ]
                    refine takeL (i := 7) (v := ?_) rfl rfl (by kernel_rfl) (by kernel_rfl) (by kernel_rfl) (fun _ _ _ h => h) (Or.inl ⟨by rfl, ?_⟩) (by assumption) ?_
                    rotate_left
                    · (intro w' hSw; go_simp; try with_reducible rfl)
                    try simp only [Act.put, List.setIfInBounds_toArray, List.set_cons_zero, List.set_cons_succ]
                    refine takeL (i := 8) (v := ?_) rfl rfl (by kernel_rfl) (by kernel_rfl) (by kernel_rfl) (fun _ _ _ h => h) (Or.inl ⟨by rfl, ?_⟩) (by assumption) ?_
                    rotate_left
                    · (intro w' hSw; go_simp; try with_reducible rfl)
                    try simp only [Act.put, List.setIfInBounds_toArray, List.set_cons_zero, List.set_cons_succ]
                    refine takeL (i := 9) (v := ?_) rfl rfl (by kernel_rfl) (by kernel_rfl) (by kernel_rfl) (fun _ _ _ h => h) (Or.inl ⟨by rfl, ?_⟩) (by assumption) ?_
                    rotate_left
                    · (intro w' hSw; go_simp; try with_reducible rfl)
                    try simp only [Act.put, List.setIfInBounds_toArray, List.set_cons_zero, List.set_cons_succ]
                    refine takeL (i := 10) (v := ?_) rfl rfl (by kernel_rfl) (by kernel_rfl) (by kernel_rfl) (fun _ _ _ h => h) (Or.inl ⟨by rfl, ?_⟩) (by assumption) ?_
                    rotate_left
                    · (intro w' hSw; go_simp; try with_reducible rfl)
                    try simp only [Act.put, List.setIfInBounds_toArray, List.set_cons_zero, List.set_cons_succ]
                    refine wpAnyH_ready (rs := [11]) (by kernel_rfl) (by simp) ?_
                    refine consL rfl (fun K hK => ?_) AllReadyH.nil
                    · rw [if_pos (by rfl)]
                      go_simp
                      have xN36 : HBlk (y35.alloc (.cells #[.int .i64 0, .int .i64 0, .int .i64 0, .int .i64 0, .int .i64 0] 23)) y35.heap.size hd0 := HBlk.new y35 hd0
                      have bl36 := xnew y35 (.cells #[.int .i64 0, .int .i64 0, .int .i64 0, .int .i64 0, .int .i64 0] 23)
                      have hl36 := hHeld.alloc (.cells #[.int .i64 0, .int .i64 0, .int .i64 0, .int .i64 0, .int .i64 0] 23)
                      have xh36 := fun e he => (hHeld.1 e he).lt
                      have xl36 := hHeld.2.lt
                      have xr36 := hHeld.low
                      have xz36 := hHeld.2.bel.size
                      clear bl36
                      generalize y35.heap.size = X9 at xN36 xh36 xl36 xr36 xz36 ⊢
                      generalize y35.alloc (.cells #[.int .i64 0, .int .i64 0, .int .i64 0, .int .i64 0, .int .i64 0] 23) = y36 at xN36 hl36  ⊢
                      refine hK.out _ _ (hl36) (fun hHeld => ?_)
                      clear hK K
                      try simp only [Act.put, List.setIfInBounds_toArray, List.set_cons_zero, List.set_cons_succ]
                      refine wpAnyH_ready (rs := [12]) (by kernel_rfl) (by simp) ?_
                      refine consL rfl (fun K hK => ?_) AllReadyH.nil
                      · rw [if_pos (by rfl)]
                        refine wpo_store_head (.tmp 17) (.tmp 85) rfl X9 rfl (h1 := hd0) xN36 rfl ?_
                        intro y37 hX_37 g37
                        refine hK.out _ _ (⟨fun e he => (hHeld.1 e he).grown g37 (fun q => by have := Option.some.inj q; have := xh36 e he; omega), hHeld.2.grown g37 xz36 (fun e he => Nat.ne_of_lt (xl36 e he)) (fun e he x hx h0 => Nat.ne_of_lt (xr36 e he x hx h0))⟩) (fun hHeld => ?_)
                        clear hK K
                        try simp only [Act.put, List.setIfInBounds_toArray, List.set_cons_zero, List.set_cons_succ]
                        refine takeL (i := 13) (v := ?_) rfl rfl (by kernel_rfl) (by kernel_rfl) (by kernel_rfl) (fun _ _ _ h => h) (Or.inl ⟨by rfl, ?_⟩) (by assumption) ?_
                        rotate_left
                        · (intro w' hSw; go_simp; try with_reducible rfl)
                        try simp only [Act.put, List.setIfInBounds_toArray, List.set_cons_zero, List.set_cons_succ]
                        refine takeL (i := 14) (v := ?_) rfl rfl (by kernel_rfl) (by kernel_rfl) (by kernel_rfl) (fun _ _ _ h => h) (Or.inl ⟨by rfl, ?_⟩) (by assumption) ?_
                        rotate_left
                        · (intro w' hSw; go_simp; try with_reducible rfl)
                        try simp only [Act.put, List.setIfInBounds_toArray, List.set_cons_zero, List.set_cons_succ]
                        refine wpAnyH_done (by kernel_rfl) ?_ _
                        go_wp2_with fail
                        go_meet
                        case rel => exact ⟨rfl, hHeld⟩
                  · rw [if_pos (by rfl)]
                    go_simp
                    have xN35 : HBlk (y34.alloc (.cells #[.int .i64 0, .int .i64 0, .int .i64 0, .int .i64 0, .int .i64 0] 23)) y34.heap.size hd0 := HBlk.new y34 hd0
                    have bl35 := xnew y34 (.cells #[.int .i64 0, .int .i64 0, .int .i64 0, .int .i64 0, .int .i64 0] 23)
                    have hl35 := hHeld.alloc (.cells #[.int .i64 0, .int .i64 0, .int .i64 0, .int .i64 0, .int .i64 0] 23)
                    have xh35 := fun e he => (hHeld.1 e he).lt
                    have xl35 := hHeld.2.lt
                    have xr35 := hHeld.low
                    have xz35 := hHeld.2.bel.size
                    have o_35 := o34.below bl35
                    clear bl35
                    generalize y34.heap.size = X9 at xN35 xh35 xl35 xr35 xz35 ⊢
                    generalize y34.alloc (.cells #[.int .i64 0, .int .i64 0, .int .i64 0, .int .i64 0, .int .i64 0] 23) = y35 at xN35 hl35 o_35 ⊢
                    refine hK.out _ _ (hl35) (fun hHeld => ?_)
                    clear hK K
                    try simp only [Act.put, List.setIfInBounds_toArray, List.set_cons_zero, List.set_cons_succ]
                    refine wpAnyH_ready (rs := [6]) (by kernel_rfl) (by simp) ?_
                    refine consL rfl (fun K hK => ?_) AllReadyH.nil
                    · rw [if_pos (by rfl)]
                      go_simp
                      refine (cL.out _ _ _ (o_35.rdb (by rw [List.length_append, HXS.out]; rfl) (by omega))).mono ?_
                      rintro e36 y36 ⟨ao, no, co, rfl, lo_, po, b36⟩
                      rw [show ((110 : Nat) : Int) = 110 from rfl]
                      have hX_36 := xN35.below b36
                      refine hK.out _ _ (hHeld.below b36) (fun hHeld => ?_)
                      clear hK K
                      try simp only [Act.put, List.setIfInBounds_toArray, List.set_cons_zero, List.set_cons_succ]
                      refine takeL (i := 7) (v := ?_) rfl rfl (by kernel_rfl) (by kernel_rfl) (by kernel_rfl) (fun _ _ _ h => h) (Or.inl ⟨by rfl, ?_⟩) (by assumption) ?_
                      rotate_left
                      · (intro w' hSw; go_simp; try with_reducible rfl)
                      try simp only [Act.put, List.setIfInBounds_toArray, List.set_cons_zero, List.set_cons_succ]
                      refine takeL (i := 8) (v := ?_) rfl rfl (by kernel_rfl) (by kernel_rfl) (by kernel_rfl) (fun _ _ _ h => h) (Or.inl ⟨by rfl, ?_⟩) (by assumption) ?_
                      rotate_left
                      · (intro w' hSw; go_simp; try with_reducible rfl)
                      try simp only [Act.put, List.setIfInBounds_toArray, List.set_cons_zero, List.set_cons_succ]
                      refine takeL (i := 9) (v := ?_) rfl rfl (by kernel_rfl) (by kernel_rfl) (by kernel_rfl) (fun _ _ _ h => h) (Or.inl ⟨by rfl, ?_⟩) (by assumption) ?_
                      rotate_left
                      · (intro w' hSw; go_simp; try with_reducible rfl)
                      try simp only [Act.put, List.setIfInBounds_toArray, List.set_cons_zero, List.set_cons_succ]
                      refine takeL (i := 10) (v := ?_) rfl rfl (by kernel_rfl) (by kernel_rfl) (by kernel_rfl) (fun _ _ _ h => h) (Or.inl ⟨by rfl, ?_⟩) (by assumption) ?_
                      rotate_left
                      · (intro w' hSw; go_simp; try with_reducible rfl)
                      try simp only [Act.put, List.setIfInBounds_toArray, List.set_cons_zero, List.set_cons_succ]
                      refine wpAnyH_ready (rs := [12]) (by kernel_rfl) (by simp) ?_
                      refine consL rfl (fun K hK => ?_) AllReadyH.nil
                      · rw [if_pos (by rfl)]
                        refine wpo_store_head (.tmp 17) (.tmp 85) rfl X9 rfl (h1 := hd0) hX_36 rfl ?_
                        intro y37 hX_37 g37
                        refine hK.out _ _ (⟨fun e he => (hHeld.1 e he).grown g37 (fun q => by have := Option.some.inj q; have := xh35 e he; omega), hHeld.2.grown g37 xz35 (fun e he => Nat.ne_of_lt (xl35 e he)) (fun e he x hx h0 => Nat.ne_of_lt (xr35 e he x hx h0))⟩) (fun hHeld => ?_)
                        clear hK K
                        try simp only [Act.put, List.setIfInBounds_toArray, List.set_cons_zero, List.set_cons_succ]
                        refine takeL (i := 13) (v := ?_) rfl rfl (by kernel_rfl) (by kernel_rfl) (by kernel_rfl) (fun _ _ _ h => h) (Or.inl ⟨by rfl, ?_⟩) (by assumption) ?_
                        rotate_left
                        · (intro w' hSw; go_simp; try with_reducible rfl)
                        try simp only [Act.put, List.setIfInBounds_toArray, List.set_cons_zero, List.set_cons_succ]
                        refine takeL (i := 14) (v := ?_) rfl rfl (by kernel_rfl) (by kernel_rfl) (by kernel_rfl) (fun _ _ _ h => h) (Or.inl ⟨by rfl, ?_⟩) (by assumption) ?_
                        rotate_left
                        · (intro w' hSw; go_simp; try with_reducible rfl)
                        try simp only [Act.put, List.setIfInBounds_toArray, List.set_cons_zero, List.set_cons_succ]
                        refine wpAnyH_done (by kernel_rfl) ?_ _
                        go_wp2_with fail
                        go_meet
                        case rel => exact ⟨rfl, hHeld⟩
                · rw [if_pos (by rfl)]
                  go_simp
                  have xN34 : HBlk (y33.alloc (.cells #[.int .i64 0, .int .i64 0, .int .i64 0, .int .i64 0, .int .i64 0] 23)) y33.heap.size hd0 := HBlk.new y33 hd0
                  have bl34 := xnew y33 (.cells #[.int .i64 0, .int .i64 0, .int .i64 0, .int .i64 0, .int .i64 0] 23)
                  have hl34 := hHeld.alloc (.cells #[.int .i64 0, .int .i64 0, .int .i64 0, .int .i64 0, .int .i64 0] 23)
                  have xh34 := fun e he => (hHeld.1 e he).lt
                  have xl34 := hHeld.2.lt
                  have xr34 := hHeld.low
                  have xz34 := hHeld.2.bel.size
                  have o_34 := o33.below bl34
                  have r1_34 := r1_33.below bl34
                  have hz_34 : R9 ≤ _ := Nat.le_trans hzz33 bl34.size
                  clear bl34
                  generalize y33.heap.size = X9 at xN34 xh34 xl34 xr34 xz34 ⊢
                  generalize y33.alloc (.cells #[.int .i64 0, .int .i64 0, .int .i64 0, .int .i64 0, .int .i64 0] 23) = y34 at xN34 hl34 o_34 r1_34 hz_34 ⊢
                  refine hK.out _ _ (hl34) (fun hHeld => ?_)
                  clear hK K
                  try simp only [Act.put, List.setIfInBounds_toArray, List.set_cons_zero, List.set_cons_succ]
                  refine wpAnyH_ready (rs := [5]) (by kernel_rfl) (by simp) ?_
                  refine consL rfl (fun K hK => ?_) AllReadyH.nil
                  · rw [if_pos (by rfl)]
                    refine wpo_append_at (.tmp 81) (.tmp 82) rfl R9 (.slice ad33 ls cp33) xs rfl o_34 (some ⟨R1, 0, none⟩) 1 1 [0] rfl r1_34 (by rw [HXS.out]; simp only [List.length_cons, List.length_nil]; omega) ?_ ?_
                    · exact hz_34
                    intro v35 y35 o35 g35 at35
                    have hX_35 := xN34.grown g35 (own_ne o_34 xN34 (cells_ne (by decide)))
                    obtain ⟨ad35, cp35, rfl, _, _⟩ := o35.rd (by rw [List.length_append, HXS.out]; first | omega | (simp only [List.length_cons, List.length_nil]; omega))
                    rw [List.length_append, HXS.out, show [0].length = 1 from rfl] at o35 ⊢
                    refine hK.out _ _ (hHeld.top o_34 bz32 g35 (by simp) lo32) (fun hHeld => ?_)
                    clear hK K
                    try simp only [Act.put, List.setIfInBounds_toArray, List.set_cons_zero, List.set_cons_succ]
                    refine wpAnyH_ready (rs := [6]) (by kernel_rfl) (by simp) ?_
                    refine consL rfl (fun K hK => ?_) AllReadyH.nil
                    · rw [if_pos (by rfl)]
                      go_simp
                      refine (cL.out _ _ _ (o35.rdb (by rw [List.length_append, HXS.out]; rfl) (by omega))).mono ?_
                      rintro e36 y36 ⟨ao, no, co, rfl, lo_, po, b36⟩
                      rw [show ((110 : Nat) : Int) = 110 from rfl]
                      have hX_36 := hX_35.below b36
                      refine hK.out _ _ (hHeld.below b36) (fun hHeld => ?_)
                      clear hK K
                      try simp only [Act.put, List.setIfInBounds_toArray, List.set_cons_zero, List.set_cons_succ]
                      refine takeL (i := 7) (v := ?_) rfl rfl (by kernel_rfl) (by kernel_rfl) (by kernel_rfl) (fun _ _ _ h => h) (Or.inl ⟨by rfl, ?_⟩) (by assumption) ?_
                      rotate_left
                      · (intro w' hSw; go_simp; try with_reducible rfl)
                      try simp only [Act.put, List.setIfInBounds_toArray, List.set_cons_zero, List.set_cons_succ]
                      refine takeL (i := 8) (v := ?_) rfl rfl (by kernel_rfl) (by kernel_rfl) (by kernel_rfl) (fun _ _ _ h => h) (Or.inl ⟨by rfl, ?_⟩) (by assumption) ?_
                      rotate_left
                      · (intro w' hSw; go_simp; try with_reducible rfl)
                      try simp only [Act.put, List.setIfInBounds_toArray, List.set_cons_zero, List.set_cons_succ]
                      refine takeL (i := 9) (v := ?_) rfl rfl (by kernel_rfl) (by kernel_rfl) (by kernel_rfl) (fun _ _ _ h => h) (Or.inl ⟨by rfl, ?_⟩) (by assumption) ?_
                      rotate_left
                      · (intro w' hSw; go_simp; try with_reducible rfl)
                      try simp only [Act.put, List.setIfInBounds_toArray, List.set_cons_zero, List.set_cons_succ]
                      refine takeL (i := 10) (v := ?_) rfl rfl (by kernel_rfl) (by kernel_rfl) (by kernel_rfl) (fun _ _ _ h => h) (Or.inl ⟨by rfl, ?_⟩) (by assumption) ?_
                      rotate_left
                      · (intro w' hSw; go_simp; try with_reducible rfl)
                      try simp only [Act.put, List.setIfInBounds_toArray, List.set_cons_zero, List.set_cons_succ]
                      refine wpAnyH_ready (rs := [12]) (by kernel_rfl) (by simp) ?_
                      refine consL rfl (fun K hK => ?_) AllReadyH.nil
                      · rw [if_pos (by rfl)]
                        refine wpo_store_head (.tmp 17) (.tmp 85) rfl X9 rfl (h1 := hd0) hX_36 rfl ?_
                        intro y37 hX_37 g37
                        refine hK.out _ _ (⟨fun e he => (hHeld.1 e he).grown g37 (fun q => by have := Option.some.inj q; have := xh34 e he; omega), hHeld.2.grown g37 xz34 (fun e he => Nat.ne_of_lt (xl34 e he)) (fun e he x hx h0 => Nat.ne_of_lt (xr34 e he x hx h0))⟩) (fun hHeld => ?_)
                        clear hK K
                        try simp only [Act.put, List.setIfInBounds_toArray, List.set_cons_zero, List.set_cons_succ]
                        refine takeL (i := 13) (v := ?_) rfl rfl (by kernel_rfl) (by kernel_rfl) (by kernel_rfl) (fun _ _ _ h => h) (Or.inl ⟨by rfl, ?_⟩) (by assumption) ?_
                        rotate_left
                        · (intro w' hSw; go_simp; try with_reducible rfl)
                        try simp only [Act.put, List.setIfInBounds_toArray, List.set_cons_zero, List.set_cons_succ]
                        refine takeL (i := 14) (v := ?_) rfl rfl (by kernel_rfl) (by kernel_rfl) (by kernel_rfl) (fun _ _ _ h => h) (Or.inl ⟨by rfl, ?_⟩) (by assumption) ?_
                        rotate_left
                        · (intro w' hSw; go_simp; try with_reducible rfl)
                        try simp only [Act.put, List.setIfInBounds_toArray, List.set_cons_zero, List.set_cons_succ]
                        refine wpAnyH_done (by kernel_rfl) ?_ _
                        go_wp2_with fail
                        go_meet
                        case rel => exact ⟨rfl, hHeld⟩
              · rw [if_pos (by rfl)]
                go_simp
                have xN33 : HBlk (y32.alloc (.cells #[.int .i64 0, .int .i64 0, .int .i64 0, .int .i64 0, .int .i64 0] 23)) y32.heap.size hd0 := HBlk.new y32 hd0
                have bl33 := xnew y32 (.cells #[.int .i64 0, .int .i64 0, .int .i64 0, .int .i64 0, .int .i64 0] 23)
                have hl33 := hHeld.alloc (.cells #[.int .i64 0, .int .i64 0, .int .i64 0, .int .i64 0, .int .i64 0] 23)
                have xh33 := fun e he => (hHeld.1 e he).lt
                have xl33 := hHeld.2.lt
                have xr33 := hHeld.low
                have xz33 := hHeld.2.bel.size
                have o_33 := oN32.below bl33
                have r1_33 := r1_32.below bl33
                clear bl33
                generalize y32.heap.size = X9 at xN33 xh33 xl33 xr33 xz33 ⊢
                generalize y32.alloc (.cells #[.int .i64 0, .int .i64 0, .int .i64 0, .int .i64 0, .int .i64 0] 23) = y33 at xN33 hl33 o_33 r1_33 ⊢
                refine hK.out _ _ (hl33) (fun hHeld => ?_)
                clear hK K
                try simp only [Act.put, List.setIfInBounds_toArray, List.set_cons_zero, List.set_cons_succ]
                refine wpAnyH_ready (rs := [3]) (by kernel_rfl) (by simp) ?_
                refine consL rfl (fun K hK => ?_) AllReadyH.nil
                · rw [if_pos (by rfl)]
                  have rlo34 := rdb_low r1_33 _ rfl (by decide)
                  refine wpo_append_at (.tmp 79) (.tmp 80) rfl R9 (.slice (some ⟨R9, 0, none⟩) 0 0) [] rfl o_33 a2 ls c2 xs rfl (hHeld.2.rd 1 rfl) (by rw [HXS.out]; simp only [List.length_nil]; omega) ?_ ?_
                  · exact Nat.le_of_lt (o_33.block R9 rfl).2
                  intro v34 y34 o34 g34 at34
                  rw [List.nil_append] at o34
                  have hX_34 := xN33.grown g34 (own_ne o_33 xN33 (cells_ne (by decide)))
                  have r1_34 := rdb_grownM r1_33 g34 (fun x hx h0 q => by cases hx; exact ne32 _ q rfl)
                  have ne34 : ∀ x, v34.ownBlock = some x → x ≠ R1 := fun x hx => (by rcases at34 with q | q; (exact ne32 x (q ▸ hx)); (have h9 := Option.some.inj (hx.symm.trans q); have h8 : R1 < _ := rlo34; omega))
                  have hzz34 := Nat.le_trans (Nat.le_of_lt (Nat.lt_of_le_of_lt (Nat.le_refl R9) (by have h1 := (o_33.block R9 rfl).2; exact h1))) g34.size
                  obtain ⟨ad34, cp34, rfl, _, _⟩ := o34.rd (by rw [HXS.out]; first | omega | (simp only [List.length_cons, List.length_nil]; omega))
                  rw [HXS.out] at o34 ⊢
                  rw [HXS.out] at ne34
                  refine hK.out _ _ (hHeld.top o_33 bz32 g34 (by simp) lo32) (fun hHeld => ?_)
                  clear hK K
                  try simp only [Act.put, List.setIfInBounds_toArray, List.set_cons_zero, List.set_cons_succ]
                  refine wpAnyH_ready (rs := [5]) (by kernel_rfl) (by simp) ?_
                  refine consL rfl (fun K hK => ?_) AllReadyH.nil
                  · rw [if_pos (by rfl)]
                    refine wpo_append_at (.tmp 81) (.tmp 82) rfl R9 (.slice ad34 ls cp34) xs rfl o34 (some ⟨R1, 0, none⟩) 1 1 [0] rfl r1_34 (by rw [HXS.out]; simp only [List.length_cons, List.length_nil]; omega) ?_ ?_
                    · exact hzz34
                    intro v35 y35 o35 g35 at35
                    have hX_35 := hX_34.grown g35 (own_ne o34 hX_34 (cells_ne (by decide)))
                    obtain ⟨ad35, cp35, rfl, _, _⟩ := o35.rd (by rw [List.length_append, HXS.out]; first | omega | (simp only [List.length_cons, List.length_nil]; omega))
                    rw [List.length_append, HXS.out, show [0].length = 1 from rfl] at o35 ⊢
                    refine hK.out _ _ (hHeld.top o34 bz32 g35 (by simp) lo32) (fun hHeld => ?_)
                    clear hK K
                    try simp only [Act.put, List.setIfInBounds_toArray, List.set_cons_zero, List.set_cons_succ]
                    refine wpAnyH_ready (rs := [6]) (by kernel_rfl) (by simp) ?_
                    refine consL rfl (fun K hK => ?_) AllReadyH.nil
                    · rw [if_pos (by rfl)]
                      go_simp
                      refine (cL.out _ _ _ (o35.rdb (by rw [List.length_append, HXS.out]; rfl) (by omega))).mono ?_
                      rintro e36 y36 ⟨ao, no, co, rfl, lo_, po, b36⟩
                      rw [show ((110 : Nat) : Int) = 110 from rfl]
                      have hX_36 := hX_35.below b36
                      refine hK.out _ _ (hHeld.below b36) (fun hHeld => ?_)
                      clear hK K
                      try simp only [Act.put, List.setIfInBounds_toArray, List.set_cons_zero, List.set_cons_succ]
                      refine takeL (i := 7) (v := ?_) rfl rfl (by kernel_rfl) (by kernel_rfl) (by kernel_rfl) (fun _ _ _ h => h) (Or.inl ⟨by rfl, ?_⟩) (by assumption) ?_
                      rotate_left
                      · (intro w' hSw; go_simp; try with_reducible rfl)
                      try simp only [Act.put, List.setIfInBounds_toArray, List.set_cons_zero, List.set_cons_succ]
                      refine takeL (i := 8) (v := ?_) rfl rfl (by kernel_rfl) (by kernel_rfl) (by kernel_rfl) (fun _ _ _ h => h) (Or.inl ⟨by rfl, ?_⟩) (by assumption) ?_
                      rotate_left
                      · (intro w' hSw; go_simp; try with_reducible rfl)
                      try simp only [Act.put, List.setIfInBounds_toArray, List.set_cons_zero, List.set_cons_succ]
                      refine takeL (i := 9) (v := ?_) rfl rfl (by kernel_rfl) (by kernel_rfl) (by kernel_rfl) (fun _ _ _ h => h) (Or.inl ⟨by rfl, ?_⟩) (by assumption) ?_
                      rotate_left
                      · (intro w' hSw; go_simp; try with_reducible rfl)
                      try simp only [Act.put, List.setIfInBounds_toArray, List.set_cons_zero, List.set_cons_succ]
                      refine takeL (i := 10) (v := ?_) rfl rfl (by kernel_rfl) (by kernel_rfl) (by kernel_rfl) (fun _ _ _ h => h) (Or.inl ⟨by rfl, ?_⟩) (by assumption) ?_
                      rotate_left
                      · (intro w' hSw; go_simp; try with_reducible rfl)
                      try simp only [Act.put, List.setIfInBounds_toArray, List.set_cons_zero, List.set_cons_succ]
                      refine wpAnyH_ready (rs := [12]) (by kernel_rfl) (by simp) ?_
                      refine consL rfl (fun K hK => ?_) AllReadyH.nil
                      · rw [if_pos (by rfl)]
                        refine wpo_store_head (.tmp 17) (.tmp 85) rfl X9 rfl (h1 := hd0) hX_36 rfl ?_
                        intro y37 hX_37 g37
                        refine hK.out _ _ (⟨fun e he => (hHeld.1 e he).grown g37 (fun q => by have := Option.some.inj q; have := xh33 e he; omega), hHeld.2.grown g37 xz33 (fun e he => Nat.ne_of_lt (xl33 e he)) (fun e he x hx h0 => Nat.ne_of_lt (xr33 e he x hx h0))⟩) (fun hHeld => ?_)
                        clear hK K
                        try simp only [Act.put, List.setIfInBounds_toArray, List.set_cons_zero, List.set_cons_succ]
                        refine takeL (i := 13) (v := ?_) rfl rfl (by kernel_rfl) (by kernel_rfl) (by kernel_rfl) (fun _ _ _ h => h) (Or.inl ⟨by rfl, ?_⟩) (by assumption) ?_
                        rotate_left
                        · (intro w' hSw; go_simp; try with_reducible rfl)
                        try simp only [Act.put, List.setIfInBounds_toArray, List.set_cons_zero, List.set_cons_succ]
                        refine takeL (i := 14) (v := ?_) rfl rfl (by kernel_rfl) (by kernel_rfl) (by kernel_rfl) (fun _ _ _ h => h) (Or.inl ⟨by rfl, ?_⟩) (by assumption) ?_
                        rotate_left
                        · (intro w' hSw; go_simp; try with_reducible rfl)
                        try simp only [Act.put, List.setIfInBounds_toArray, List.set_cons_zero, List.set_cons_succ]
                        refine wpAnyH_done (by kernel_rfl) ?_ _
                        go_wp2_with fail
                        go_meet
                        case rel => exact ⟨rfl, hHeld⟩
            · rw [if_pos (by rfl)]
              go_simp
              have xN32 : HBlk (y31.alloc (.cells #[.int .i64 0, .int .i64 0, .int .i64 0, .int .i64 0, .int .i64 0] 23)) y31.heap.size hd0 := HBlk.new y31 hd0
              have bl32 := xnew y31 (.cells #[.int .i64 0, .int .i64 0, .int .i64 0, .int .i64 0, .int .i64 0] 23)
              have hl32 := hHeld.alloc (.cells #[.int .i64 0, .int .i64 0, .int .i64 0, .int .i64 0, .int .i64 0] 23)
              have xh32 := fun e he => (hHeld.1 e he).lt
              have xl32 := hHeld.2.lt
              have xr32 := hHeld.low
              have xz32 := hHeld.2.bel.size
              have r1_32 := rN31.below bl32
              clear bl32
              generalize y31.heap.size = X9 at xN32 xh32 xl32 xr32 xz32 ⊢
              generalize y31.alloc (.cells #[.int .i64 0, .int .i64 0, .int .i64 0, .int .i64 0, .int .i64 0] 23) = y32 at xN32 hl32 r1_32 ⊢
              refine hK.out _ _ (hl32) (fun hHeld => ?_)
              clear hK K
              try simp only [Act.put, List.setIfInBounds_toArray, List.set_cons_zero, List.set_cons_succ]
              refine wpAnyH_ready (rs := [1]) (by kernel_rfl) (by simp) ?_
              refine consL rfl (fun K hK => ?_) AllReadyH.nil
              · rw [if_pos (by rfl)]
                go_simp
                have oN33 := Own.lit y32 #[] 0 [] rfl rfl (by decide) (by simp)
                have bl33 := xnew y32 (.cells #[] 5)
                have hl33 := hHeld.alloc (.cells #[] 5)
                have lo33 := hHeld.low
                have bz33 := hHeld.2.bel.size
                have r1_33 := r1_32.below bl33
                have hX_33 := xN32.below bl33
                have rl33 := rdb_low r1_32 _ rfl (by decide)
                clear bl33
                generalize y32.heap.size = R9 at oN33 lo33 bz33 rl33 ⊢
                generalize y32.alloc (.cells #[] 5) = y33 at oN33 hl33 r1_33 hX_33 ⊢
                have ne33 : ∀ x, (Value.slice (some ⟨R9, 0, none⟩) 0 0).ownBlock = some x → x ≠ R1 := fun x hx => (by have h9 : R9 = x := (by simpa [Value.ownBlock] using hx); have h8 : R1 < R9 := rl33; omega)
                refine hK.out _ _ (hl33) (fun hHeld => ?_)
                clear hK K
                try simp only [Act.put, List.setIfInBounds_toArray, List.set_cons_zero, List.set_cons_succ]
                refine wpAnyH_ready (rs := [3]) (by kernel_rfl) (by simp) ?_
                refine consL rfl (fun K hK => ?_) AllReadyH.nil
                · rw [if_pos (by rfl)]
                  have rlo34 := rdb_low r1_33 _ rfl (by decide)
                  refine wpo_append_at (.tmp 79) (.tmp 80) rfl R9 (.slice (some ⟨R9, 0, none⟩) 0 0) [] rfl oN33 a2 ls c2 xs rfl (hHeld.2.rd 1 rfl) (by rw [HXS.out]; simp only [List.length_nil]; omega) ?_ ?_
                  · exact Nat.le_of_lt (oN33.block R9 rfl).2
                  intro v34 y34 o34 g34 at34
                  rw [List.nil_append] at o34
                  have hX_34 := hX_33.grown g34 (own_ne oN33 hX_33 (cells_ne (by decide)))
                  have r1_34 := rdb_grownM r1_33 g34 (fun x hx h0 q => by cases hx; exact ne33 _ q rfl)
                  have ne34 : ∀ x, v34.ownBlock = some x → x ≠ R1 := fun x hx => (by rcases at34 with q | q; (exact ne33 x (q ▸ hx)); (have h9 := Option.some.inj (hx.symm.trans q); have h8 : R1 < _ := rlo34; omega))
                  have hzz34 := Nat.le_trans (Nat.le_of_lt (Nat.lt_of_le_of_lt (Nat.le_refl R9) (by have h1 := (oN33.block R9 rfl).2; exact h1))) g34.size
                  obtain ⟨ad34, cp34, rfl, _, _⟩ := o34.rd (by rw [HXS.out]; first | omega | (simp only [List.length_cons, List.length_nil]; omega))
                  rw [HXS.out] at o34 ⊢
                  rw [HXS.out] at ne34
                  refine hK.out _ _ (hHeld.top oN33 bz33 g34 (by simp) lo33) (fun hHeld => ?_)
                  clear hK K
                  try simp only [Act.put, List.setIfInBounds_toArray, List.set_cons_zero, List.set_cons_succ]
                  refine wpAnyH_ready (rs := [5]) (by kernel_rfl) (by simp) ?_
                  refine consL rfl (fun K hK => ?_) AllReadyH.nil
                  · rw [if_pos (by rfl)]
                    refine wpo_append_at (.tmp 81) (.tmp 82) rfl R9 (.slice ad34 ls cp34) xs rfl o34 (some ⟨R1, 0, none⟩) 1 1 [0] rfl r1_34 (by rw [HXS.out]; simp only [List.length_cons, List.length_nil]; omega) ?_ ?_
                    · exact hzz34
                    intro v35 y35 o35 g35 at35
                    have hX_35 := hX_34.grown g35 (own_ne o34 hX_34 (cells_ne (by decide)))
                    obtain ⟨ad35, cp35, rfl, _, _⟩ := o35.rd (by rw [List.length_append, HXS.out]; first | omega | (simp only [List.length_cons, List.length_nil]; omega))
                    rw [List.length_append, HXS.out, show [0].length = 1 from rfl] at o35 ⊢
                    refine hK.out _ _ (hHeld.top o34 bz33 g35 (by simp) lo33) (fun hHeld => ?_)
                    clear hK K
                    try simp only [Act.put, List.setIfInBounds_toArray, List.set_cons_zero, List.set_cons_succ]
                    refine wpAnyH_ready (rs := [6]) (by kernel_rfl) (by simp) ?_
                    refine consL rfl (fun K hK => ?_) AllReadyH.nil
                    · rw [if_pos (by rfl)]
                      go_simp
                      refine (cL.out _ _ _ (o35.rdb (by rw [List.length_append, HXS.out]; rfl) (by omega))).mono ?_
                      rintro e36 y36 ⟨ao, no, co, rfl, lo_, po, b36⟩
                      rw [show ((110 : Nat) : Int) = 110 from rfl]
                      have hX_36 := hX_35.below b36
                      refine hK.out _ _ (hHeld.below b36) (fun hHeld => ?_)
                      clear hK K
                      try simp only [Act.put, List.setIfInBounds_toArray, List.set_cons_zero, List.set_cons_succ]
                      refine takeL (i := 7) (v := ?_) rfl rfl (by kernel_rfl) (by kernel_rfl) (by kernel_rfl) (fun _ _ _ h => h) (Or.inl ⟨by rfl, ?_⟩) (by assumption) ?_
                      rotate_left
                      · (intro w' hSw; go_simp; try with_reducible rfl)
                      try simp only [Act.put, List.setIfInBounds_toArray, List.set_cons_zero, List.set_cons_succ]
                      refine takeL (i := 8) (v := ?_) rfl rfl (by kernel_rfl) (by kernel_rfl) (by kernel_rfl) (fun _ _ _ h => h) (Or.inl ⟨by rfl, ?_⟩) (by assumption) ?_
                      rotate_left
                      · (intro w' hSw; go_simp; try with_reducible rfl)
                      try simp only [Act.put, List.setIfInBounds_toArray, List.set_cons_zero, List.set_cons_succ]
                      refine takeL (i := 9) (v := ?_) rfl rfl (by kernel_rfl) (by kernel_rfl) (by kernel_rfl) (fun _ _ _ h => h) (Or.inl ⟨by rfl, ?_⟩) (by assumption) ?_
                      rotate_left
                      · (intro w' hSw; go_simp; try with_reducible rfl)
                      try simp only [Act.put, List.setIfInBounds_toArray, List.set_cons_zero, List.set_cons_succ]
                      refine takeL (i := 10) (v := ?_) rfl rfl (by kernel_rfl) (by kernel_rfl) (by kernel_rfl) (fun _ _ _ h => h) (Or.inl ⟨by rfl, ?_⟩) (by assumption) ?_
                      rotate_left
                      · (intro w' hSw; go_simp; try with_reducible rfl)
                      try simp only [Act.put, List.setIfInBounds_toArray, List.set_cons_zero, List.set_cons_succ]
                      refine wpAnyH_ready (rs := [12]) (by kernel_rfl) (by simp) ?_
                      refine consL rfl (fun K hK => ?_) AllReadyH.nil
                      · rw [if_pos (by rfl)]
                        refine wpo_store_head (.tmp 17) (.tmp 85) rfl X9 rfl (h1 := hd0) hX_36 rfl ?_
                        intro y37 hX_37 g37
                        refine hK.out _ _ (⟨fun e he => (hHeld.1 e he).grown g37 (fun q => by have := Option.some.inj q; have := xh32 e he; omega), hHeld.2.grown g37 xz32 (fun e he => Nat.ne_of_lt (xl32 e he)) (fun e he x hx h0 => Nat.ne_of_lt (xr32 e he x hx h0))⟩) (fun hHeld => ?_)
                        clear hK K
                        try simp only [Act.put, List.setIfInBounds_toArray, List.set_cons_zero, List.set_cons_succ]
                        refine takeL (i := 13) (v := ?_) rfl rfl (by kernel_rfl) (by kernel_rfl) (by kernel_rfl) (fun _ _ _ h => h) (Or.inl ⟨by rfl, ?_⟩) (by assumption) ?_
                        rotate_left
                        · (intro w' hSw; go_simp; try with_reducible rfl)
                        try simp only [Act.put, List.setIfInBounds_toArray, List.set_cons_zero, List.set_cons_succ]
                        refine takeL (i := 14) (v := ?_) rfl rfl (by kernel_rfl) (by kernel_rfl) (by kernel_rfl) (fun _ _ _ h => h) (Or.inl ⟨by rfl, ?_⟩) (by assumption) ?_
                        rotate_left
                        · (intro w' hSw; go_simp; try with_reducible rfl)
                        try simp only [Act.put, List.setIfInBounds_toArray, List.set_cons_zero, List.set_cons_succ]
                        refine wpAnyH_done (by kernel_rfl) ?_ _
                        go_wp2_with fail
                        go_meet
                        case rel => exact ⟨rfl, hHeld⟩
          · rw [if_pos (by rfl)]
            go_simp
            have xN31 : HBlk (wv.alloc (.cells #[.int .i64 0, .int .i64 0, .int .i64 0, .int .i64 0, .int .i64 0] 23)) wv.heap.size hd0 := HBlk.new wv hd0
            have bl31 := xnew wv (.cells #[.int .i64 0, .int .i64 0, .int .i64 0, .int .i64 0, .int .i64 0] 23)
            have hl31 := hHeld.alloc (.cells #[.int .i64 0, .int .i64 0, .int .i64 0, .int .i64 0, .int .i64 0] 23)
            have xh31 := fun e he => (hHeld.1 e he).lt
            have xl31 := hHeld.2.lt
            have xr31 := hHeld.low
            have xz31 := hHeld.2.bel.size
            clear bl31
            generalize wv.heap.size = X9 at xN31 xh31 xl31 xr31 xz31 ⊢
            generalize wv.alloc (.cells #[.int .i64 0, .int .i64 0, .int .i64 0, .int .i64 0, .int .i64 0] 23) = y31 at xN31 hl31  ⊢
            refine hK.out _ _ (hl31) (fun hHeld => ?_)
            clear hK K
            try simp only [Act.put, List.setIfInBounds_toArray, List.set_cons_zero, List.set_cons_succ]
            refine wpAnyH_ready (rs := [1, 4]) (by kernel_rfl) (by simp) ?_
            refine consL rfl (fun K hK => ?_) (consL rfl (fun K hK => ?_) AllReadyH.nil)
            · rw [if_pos (by rfl)]
              go_simp
              have oN32 := Own.lit y31 #[] 0 [] rfl rfl (by decide) (by simp)
              have bl32 := xnew y31 (.cells #[] 5)
              have hl32 := hHeld.alloc (.cells #[] 5)
              have lo32 := hHeld.low
              have bz32 := hHeld.2.bel.size
              have hX_32 := xN31.below bl32
              clear bl32
              generalize y31.heap.size = R9 at oN32 lo32 bz32 ⊢
              generalize y31.alloc (.cells #[] 5) = y32 at oN32 hl32 hX_32 ⊢
              refine hK.out _ _ (hl32) (fun hHeld => ?_)
              clear hK K
              try simp only [Act.put, List.setIfInBounds_toArray, List.set_cons_zero, List.set_cons_succ]
              refine wpAnyH_ready (rs := [3, 4]) (by kernel_rfl) (by simp) ?_
              refine consL rfl (fun K hK => ?_) (consL rfl (fun K hK => ?_) AllReadyH.nil)
              · rw [if_pos (by rfl)]
                have rlo33 := trivial
                refine wpo_append_at (.tmp 79) (.tmp 80) rfl R9 (.slice (some ⟨R9, 0, none⟩) 0 0) [] rfl oN32 a2 ls c2 xs rfl (hHeld.2.rd 1 rfl) (by rw [HXS.out]; simp only [List.length_nil]; omega) ?_ ?_
                · exact Nat.le_of_lt (oN32.block R9 rfl).2
                intro v33 y33 o33 g33 at33
                rw [List.nil_append] at o33
                have hX_33 := hX_32.grown g33 (own_ne oN32 hX_32 (cells_ne (by decide)))
                have hzz33 := Nat.le_trans (Nat.le_of_lt (Nat.lt_of_le_of_lt (Nat.le_refl R9) (by have h1 := (oN32.block R9 rfl).2; exact h1))) g33.size
                obtain ⟨ad33, cp33, rfl, _, _⟩ := o33.rd (by rw [HXS.out]; first | omega | (simp only [List.length_cons, List.length_nil]; omega))
                rw [HXS.out] at o33 ⊢
                refine hK.out _ _ (hHeld.top oN32 bz32 g33 (by simp) lo32) (fun hHeld => ?_)
                clear hK K
                try simp only [Act.put, List.setIfInBounds_toArray, List.set_cons_zero, List.set_cons_succ]
                refine wpAnyH_ready (rs := [4]) (by kernel_rfl) (by simp) ?_
                refine consL rfl (fun K hK => ?_) AllReadyH.nil
                · rw [if_pos (by rfl)]
                  go_simp
                  have rN34 : RdB (y33.alloc (.cells #[.int .u8 0] 5)) (some ⟨y33.heap.size, 0, none⟩) 1 1 [0] := rd_new y33 [0] _ _ _ 1 rfl rfl (by decide) (by decide)
                  have bl34 := xnew y33 (.cells #[.int .u8 0] 5)
                  have hl34 := hHeld.alloc (.cells #[.int .u8 0] 5)
                  have nb34 := fun x hx => (o33.block x hx).2
                  have o_34 := o33.below bl34
                  have hX_34 := hX_33.below bl34
                  have hz_34 : R9 ≤ _ := Nat.le_trans hzz33 bl34.size
                  clear bl34
                  generalize y33.heap.size = R1 at rN34 nb34 ⊢
                  generalize y33.alloc (.cells #[.int .u8 0] 5) = y34 at rN34 hl34 o_34 hX_34 hz_34 ⊢
                  have ne34 : ∀ x, ((.slice ad33 ls cp33) : Value).ownBlock = some x → x ≠ R1 := fun x hx => Nat.ne_of_lt (nb34 x hx)
                  refine hK.out _ _ (hl34) (fun hHeld => ?_)
                  clear hK K
                  try simp only [Act.put, List.setIfInBounds_toArray, List.set_cons_zero, List.set_cons_succ]
                  refine wpAnyH_ready (rs := [5]) (by kernel_rfl) (by simp) ?_
                  refine consL rfl (fun K hK => ?_) AllReadyH.nil
                  · rw [if_pos (by rfl)]
                    refine wpo_append_at (.tmp 81) (.tmp 82) rfl R9 (.slice ad33 ls cp33) xs rfl o_34 (some ⟨R1, 0, none⟩) 1 1 [0] rfl rN34 (by rw [HXS.out]; simp only [List.length_cons, List.length_nil]; omega) ?_ ?_
                    · exact hz_34
                    intro v35 y35 o35 g35 at35
                    have hX_35 := hX_34.grown g35 (own_ne o_34 hX_34 (cells_ne (by decide)))
                    obtain ⟨ad35, cp35, rfl, _, _⟩ := o35.rd (by rw [List.length_append, HXS.out]; first | omega | (simp only [List.length_cons, List.length_nil]; omega))
                    rw [List.length_append, HXS.out, show [0].length = 1 from rfl] at o35 ⊢
                    refine hK.out _ _ (hHeld.top o_34 bz32 g35 (by simp) lo32) (fun hHeld => ?_)
                    clear hK K
                    try simp only [Act.put, List.setIfInBounds_toArray, List.set_cons_zero, List.set_cons_succ]
                    refine wpAnyH_ready (rs := [6]) (by kernel_rfl) (by simp) ?_
                    refine consL rfl (fun K hK => ?_) AllReadyH.nil
                    · rw [if_pos (by rfl)]
                      go_simp
                      refine (cL.out _ _ _ (o35.rdb (by rw [List.length_append, HXS.out]; rfl) (by omega))).mono ?_
                      rintro e36 y36 ⟨ao, no, co, rfl, lo_, po, b36⟩
                      rw [show ((110 : Nat) : Int) = 110 from rfl]
                      have hX_36 := hX_35.below b36
                      refine hK.out _ _ (hHeld.below b36) (fun hHeld => ?_)
                      clear hK K
                      try simp only [Act.put, List.setIfInBounds_toArray, List.set_cons_zero, List.set_cons_succ]
                      refine takeL (i := 7) (v := ?_) rfl rfl (by kernel_rfl) (by kernel_rfl) (by kernel_rfl) (fun _ _ _ h => h) (Or.inl ⟨by rfl, ?_⟩) (by assumption) ?_
                      rotate_left
                      · (intro w' hSw; go_simp; try with_reducible rfl)
                      try simp only [Act.put, List.setIfInBounds_toArray, List.set_cons_zero, List.set_cons_succ]
                      refine takeL (i := 8) (v := ?_) rfl rfl (by kernel_rfl) (by kernel_rfl) (by kernel_rfl) (fun _ _ _ h => h) (Or.inl ⟨by rfl, ?_⟩) (by assumption) ?_
                      rotate_left
                      · (intro w' hSw; go_simp; try with_reducible rfl)
                      try simp only [Act.put, List.setIfInBounds_toArray, List.set_cons_zero, List.set_cons_succ]
                      refine takeL (i := 9) (v := ?_) rfl rfl (by kernel_rfl) (by kernel_rfl) (by kernel_rfl) (fun _ _ _ h => h) (Or.inl ⟨by rfl, ?_⟩) (by assumption) ?_
                      rotate_left
                      · (intro w' hSw; go_simp; try with_reducible rfl)
                      try simp only [Act.put, List.setIfInBounds_toArray, List.set_cons_zero, List.set_cons_succ]
                      refine takeL (i := 10) (v := ?_) rfl rfl (by kernel_rfl) (by kernel_rfl) (by kernel_rfl) (fun _ _ _ h => h) (Or.inl ⟨by rfl, ?_⟩) (by assumption) ?_
                      rotate_left
                      · (intro w' hSw; go_simp; try with_reducible rfl)
                      try simp only [Act.put, List.setIfInBounds_toArray, List.set_cons_zero, List.set_cons_succ]
                      refine wpAnyH_ready (rs := [12]) (by kernel_rfl) (by simp) ?_
                      refine consL rfl (fun K hK => ?_) AllReadyH.nil
                      · rw [if_pos (by rfl)]
                        refine wpo_store_head (.tmp 17) (.tmp 85) rfl X9 rfl (h1 := hd0) hX_36 rfl ?_
                        intro y37 hX_37 g37
                        refine hK.out _ _ (⟨fun e he => (hHeld.1 e he).grown g37 (fun q => by have := Option.some.inj q; have := xh31 e he; omega), hHeld.2.grown g37 xz31 (fun e he => Nat.ne_of_lt (xl31 e he)) (fun e he x hx h0 => Nat.ne_of_lt (xr31 e he x hx h0))⟩) (fun hHeld => ?_)
                        clear hK K
                        try simp only [Act.put, List.setIfInBounds_toArray, List.set_cons_zero, List.set_cons_succ]
                        refine takeL (i := 13) (v := ?_) rfl rfl (by kernel_rfl) (by kernel_rfl) (by kernel_rfl) (fun _ _ _ h => h) (Or.inl ⟨by rfl, ?_⟩) (by assumption) ?_
                        rotate_left
                        · (intro w' hSw; go_simp; try with_reducible rfl)
                        try simp only [Act.put, List.setIfInBounds_toArray, List.set_cons_zero, List.set_cons_succ]
                        refine takeL (i := 14) (v := ?_) rfl rfl (by kernel_rfl) (by kernel_rfl) (by kernel_rfl) (fun _ _ _ h => h) (Or.inl ⟨by rfl, ?_⟩) (by assumption) ?_
                        rotate_left
                        · (intro w' hSw; go_simp; try with_reducible rfl)
                        try simp only [Act.put, List.setIfInBounds_toArray, List.set_cons_zero, List.set_cons_succ]
                        refine wpAnyH_done (by kernel_rfl) ?_ _
                        go_wp2_with fail
                        go_meet
                        case rel => exact ⟨rfl, hHeld⟩
              · rw [if_pos (by rfl)]
                go_simp
                have rN33 : RdB (y32.alloc (.cells #[.int .u8 0] 5)) (some ⟨y32.heap.size, 0, none⟩) 1 1 [0] := rd_new y32 [0] _ _ _ 1 rfl rfl (by decide) (by decide)
                have bl33 := xnew y32 (.cells #[.int .u8 0] 5)
                have hl33 := hHeld.alloc (.cells #[.int .u8 0] 5)
                have nb33 := fun x hx => (oN32.block x hx).2
                have o_33 := oN32.below bl33
                have hX_33 := hX_32.below bl33
                clear bl33
                generalize y32.heap.size = R1 at rN33 nb33 ⊢
                generalize y32.alloc (.cells #[.int .u8 0] 5) = y33 at rN33 hl33 o_33 hX_33 ⊢
                have ne33 : ∀ x, ((.slice (some ⟨R9, 0, none⟩) 0 0) : Value).ownBlock = some x → x ≠ R1 := fun x hx => Nat.ne_of_lt (nb33 x hx)
                refine hK.out _ _ (hl33) (fun hHeld => ?_)
                clear hK K
                try simp only [Act.put, List.setIfInBounds_toArray, List.set_cons_zero, List.set_cons_succ]
                refine wpAnyH_ready (rs := [3]) (by kernel_rfl) (by simp) ?_
                refine consL rfl (fun K hK => ?_) AllReadyH.nil
                · rw [if_pos (by rfl)]
                  have rlo34 := rdb_low rN33 _ rfl (by decide)
                  refine wpo_append_at (.tmp 79) (.tmp 80) rfl R9 (.slice (some ⟨R9, 0, none⟩) 0 0) [] rfl o_33 a2 ls c2 xs rfl (hHeld.2.rd 1 rfl) (by rw [HXS.out]; simp only [List.length_nil]; omega) ?_ ?_
                  · exact Nat.le_of_lt (o_33.block R9 rfl).2
                  intro v34 y34 o34 g34 at34
                  rw [List.nil_append] at o34
                  have hX_34 := hX_33.grown g34 (own_ne o_33 hX_33 (cells_ne (by decide)))
                  have r1_34 := rdb_grownM rN33 g34 (fun x hx h0 q => by cases hx; exact ne33 _ q rfl)
                  have ne34 : ∀ x, v34.ownBlock = some x → x ≠ R1 := fun x hx => (by rcases at34 with q | q; (exact ne33 x (q ▸ hx)); (have h9 := Option.some.inj (hx.symm.trans q); have h8 : R1 < _ := rlo34; omega))
                  have hzz34 := Nat.le_trans (Nat.le_of_lt (Nat.lt_of_le_of_lt (Nat.le_refl R9) (by have h1 := (o_33.block R9 rfl).2; exact h1))) g34.size
                  obtain ⟨ad34, cp34, rfl, _, _⟩ := o34.rd (by rw [HXS.out]; first | omega | (simp only [List.length_cons, List.length_nil]; omega))
                  rw [HXS.out] at o34 ⊢
                  rw [HXS.out] at ne34
                  refine hK.out _ _ (hHeld.top o_33 bz32 g34 (by simp) lo32) (fun hHeld => ?_)
                  clear hK K
                  try simp only [Act.put, List.setIfInBounds_toArray, List.set_cons_zero, List.set_cons_succ]
                  refine wpAnyH_ready (rs := [5]) (by kernel_rfl) (by simp) ?_
                  refine consL rfl (fun K hK => ?_) AllReadyH.nil
                  · rw [if_pos (by rfl)]
                    refine wpo_append_at (.tmp 81) (.tmp 82) rfl R9 (.slice ad34 ls cp34) xs rfl o34 (some ⟨R1, 0, none⟩) 1 1 [0] rfl r1_34 (by rw [HXS.out]; simp only [List.length_cons, List.length_nil]; omega) ?_ ?_
                    · exact hzz34
                    intro v35 y35 o35 g35 at35
                    have hX_35 := hX_34.grown g35 (own_ne o34 hX_34 (cells_ne (by decide)))
                    obtain ⟨ad35, cp35, rfl, _, _⟩ := o35.rd (by rw [List.length_append, HXS.out]; first | omega | (simp only [List.length_cons, List.length_nil]; omega))
                    rw [List.length_append, HXS.out, show [0].length = 1 from rfl] at o35 ⊢
                    refine hK.out _ _ (hHeld.top o34 bz32 g35 (by simp) lo32) (fun hHeld => ?_)
                    clear hK K
                    try simp only [Act.put, List.setIfInBounds_toArray, List.set_cons_zero, List.set_cons_succ]
                    refine wpAnyH_ready (rs := [6]) (by kernel_rfl) (by simp) ?_
                    refine consL rfl (fun K hK => ?_) AllReadyH.nil
                    · rw [if_pos (by rfl)]
                      go_simp
                      refine (cL.out _ _ _ (o35.rdb (by rw [List.length_append, HXS.out]; rfl) (by omega))).mono ?_
                      rintro e36 y36 ⟨ao, no, co, rfl, lo_, po, b36⟩
                      rw [show ((110 : Nat) : Int) = 110 from rfl]
                      have hX_36 := hX_35.below b36
                      refine hK.out _ _ (hHeld.below b36) (fun hHeld => ?_)
                      clear hK K
                      try simp only [Act.put, List.setIfInBounds_toArray, List.set_cons_zero, List.set_cons_succ]
                      refine takeL (i := 7) (v := ?_) rfl rfl (by kernel_rfl) (by kernel_rfl) (by kernel_rfl) (fun _ _ _ h => h) (Or.inl ⟨by rfl, ?_⟩) (by assumption) ?_
                      rotate_left
                      · (intro w' hSw; go_simp; try with_reducible rfl)
                      try simp only [Act.put, List.setIfInBounds_toArray, List.set_cons_zero, List.set_cons_succ]
                      refine takeL (i := 8) (v := ?_) rfl rfl (by kernel_rfl) (by kernel_rfl) (by kernel_rfl) (fun _ _ _ h => h) (Or.inl ⟨by rfl, ?_⟩) (by assumption) ?_
                      rotate_left
                      · (intro w' hSw; go_simp; try with_reducible rfl)
                      try simp only [Act.put, List.setIfInBounds_toArray, List.set_cons_zero, List.set_cons_succ]
                      refine takeL (i := 9) (v := ?_) rfl rfl (by kernel_rfl) (by kernel_rfl) (by kernel_rfl) (fun _ _ _ h => h) (Or.inl ⟨by rfl, ?_⟩) (by assumption) ?_
                      rotate_left
                      · (intro w' hSw; go_simp; try with_reducible rfl)
                      try simp only [Act.put, List.setIfInBounds_toArray, List.set_cons_zero, List.set_cons_succ]
                      refine takeL (i := 10) (v := ?_) rfl rfl (by kernel_rfl) (by kernel_rfl) (by kernel_rfl) (fun _ _ _ h => h) (Or.inl ⟨by rfl, ?_⟩) (by assumption) ?_
                      rotate_left
                      · (intro w' hSw; go_simp; try with_reducible rfl)
                      try simp only [Act.put, List.setIfInBounds_toArray, List.set_cons_zero, List.set_cons_succ]
                      refine wpAnyH_ready (rs := [12]) (by kernel_rfl) (by simp) ?_
                      refine consL rfl (fun K hK => ?_) AllReadyH.nil
                      · rw [if_pos (by rfl)]
                        refine wpo_store_head (.tmp 17) (.tmp 85) rfl X9 rfl (h1 := hd0) hX_36 rfl ?_
                        intro y37 hX_37 g37
                        refine hK.out _ _ (⟨fun e he => (hHeld.1 e he).grown g37 (fun q => by have := Option.some.inj q; have := xh31 e he; omega), hHeld.2.grown g37 xz31 (fun e he => Nat.ne_of_lt (xl31 e he)) (fun e he x hx h0 => Nat.ne_of_lt (xr31 e he x hx h0))⟩) (fun hHeld => ?_)
                        clear hK K
                        try simp only [Act.put, List.setIfInBounds_toArray, List.set_cons_zero, List.set_cons_succ]
                        refine takeL (i := 13) (v := ?_) rfl rfl (by kernel_rfl) (by kernel_rfl) (by kernel_rfl) (fun _ _ _ h => h) (Or.inl ⟨by rfl, ?_⟩) (by assumption) ?_
                        rotate_left
                        · (intro w' hSw; go_simp; try with_reducible rfl)
                        try simp only [Act.put, List.setIfInBounds_toArray, List.set_cons_zero, List.set_cons_succ]
                        refine takeL (i := 14) (v := ?_) rfl rfl (by kernel_rfl) (by kernel_rfl) (by kernel_rfl) (fun _ _ _ h => h) (Or.inl ⟨by rfl, ?_⟩) (by assumption) ?_
                        rotate_left
                        · (intro w' hSw; go_simp; try with_reducible rfl)
                        try simp only [Act.put, List.setIfInBounds_toArray, List.set_cons_zero, List.set_cons_succ]
                        refine wpAnyH_done (by kernel_rfl) ?_ _
                        go_wp2_with fail
                        go_meet
                        case rel => exact ⟨rfl, hHeld⟩
            · rw [if_pos (by rfl)]
              go_simp
              have rN32 : RdB (y31.alloc (.cells #[.int .u8 0] 5)) (some ⟨y31.heap.size, 0, none⟩) 1 1 [0] := rd_new y31 [0] _ _ _ 1 rfl rfl (by decide) (by decide)
              have bl32 := xnew y31 (.cells #[.int .u8 0] 5)
              have hl32 := hHeld.alloc (.cells #[.int .u8 0] 5)
              have hX_32 := xN31.below bl32
              clear bl32
              generalize y31.heap.size = R1 at rN32 ⊢
              generalize y31.alloc (.cells #[.int .u8 0] 5) = y32 at rN32 hl32 hX_32 ⊢
              refine hK.out _ _ (hl32) (fun hHeld => ?_)
              clear hK K
              try simp only [Act.put, List.setIfInBounds_toArray, List.set_cons_zero, List.set_cons_succ]
              refine wpAnyH_ready (rs := [1]) (by kernel_rfl) (by simp) ?_
              refine consL rfl (fun K hK => ?_) AllReadyH.nil
              · rw [if_pos (by rfl)]
                go_simp
                have oN33 := Own.lit y32 #[] 0 [] rfl rfl (by decide) (by simp)
                have bl33 := xnew y32 (.cells #[] 5)
                have hl33 := hHeld.alloc (.cells #[] 5)
                have lo33 := hHeld.low
                have bz33 := hHeld.2.bel.size
                have r1_33 := rN32.below bl33
                have hX_33 := hX_32.below bl33
                have rl33 := rdb_low rN32 _ rfl (by decide)
                clear bl33
                generalize y32.heap.size = R9 at oN33 lo33 bz33 rl33 ⊢
                generalize y32.alloc (.cells #[] 5) = y33 at oN33 hl33 r1_33 hX_33 ⊢
                have ne33 : ∀ x, (Value.slice (some ⟨R9, 0, none⟩) 0 0).ownBlock = some x → x ≠ R1 := fun x hx => (by have h9 : R9 = x := (by simpa [Value.ownBlock] using hx); have h8 : R1 < R9 := rl33; omega)
                refine hK.out _ _ (hl33) (fun hHeld => ?_)
                clear hK K
                try simp only [Act.put, List.setIfInBounds_toArray, List.set_cons_zero, List.set_cons_succ]
                refine wpAnyH_ready (rs := [3]) (by kernel_rfl) (by simp) ?_
                refine consL rfl (fun K hK => ?_) AllReadyH.nil
                · rw [if_pos (by rfl)]
                  have rlo34 := rdb_low r1_33 _ rfl (by decide)
                  refine wpo_append_at (.tmp 79) (.tmp 80) rfl R9 (.slice (some ⟨R9, 0, none⟩) 0 0) [] rfl oN33 a2 ls c2 xs rfl (hHeld.2.rd 1 rfl) (by rw [HXS.out]; simp only [List.length_nil]; omega) ?_ ?_
                  · exact Nat.le_of_lt (oN33.block R9 rfl).2
                  intro v34 y34 o34 g34 at34
                  rw [List.nil_append] at o34
                  have hX_34 := hX_33.grown g34 (own_ne oN33 hX_33 (cells_ne (by decide)))
                  have r1_34 := rdb_grownM r1_33 g34 (fun x hx h0 q => by cases hx; exact ne33 _ q rfl)
                  have ne34 : ∀ x, v34.ownBlock = some x → x ≠ R1 := fun x hx => (by rcases at34 with q | q; (exact ne33 x (q ▸ hx)); (have h9 := Option.some.inj (hx.symm.trans q); have h8 : R1 < _ := rlo34; omega))
                  have hzz34 := Nat.le_trans (Nat.le_of_lt (Nat.lt_of_le_of_lt (Nat.le_refl R9) (by have h1 := (oN33.block R9 rfl).2; exact h1))) g34.size
                  obtain ⟨ad34, cp34, rfl, _, _⟩ := o34.rd (by rw [HXS.out]; first | omega | (simp only [List.length_cons, List.length_nil]; omega))
                  rw [HXS.out] at o34 ⊢
                  rw [HXS.out] at ne34
                  refine hK.out _ _ (hHeld.top oN33 bz33 g34 (by simp) lo33) (fun hHeld => ?_)
                  clear hK K
                  try simp only [Act.put, List.setIfInBounds_toArray, List.set_cons_zero, List.set_cons_succ]
                  refine wpAnyH_ready (rs := [5]) (by kernel_rfl) (by simp) ?_
                  refine consL rfl (fun K hK => ?_) AllReadyH.nil
                  · rw [if_pos (by rfl)]
                    refine wpo_append_at (.tmp 81) (.tmp 82) rfl R9 (.slice ad34 ls cp34) xs rfl o34 (some ⟨R1, 0, none⟩) 1 1 [0] rfl r1_34 (by rw [HXS.out]; simp only [List.length_cons, List.length_nil]; omega) ?_ ?_
                    · exact hzz34
                    intro v35 y35 o35 g35 at35
                    have hX_35 := hX_34.grown g35 (own_ne o34 hX_34 (cells_ne (by decide)))
                    obtain ⟨ad35, cp35, rfl, _, _⟩ := o35.rd (by rw [List.length_append, HXS.out]; first | omega | (simp only [List.length_cons, List.length_nil]; omega))
                    rw [List.length_append, HXS.out, show [0].length = 1 from rfl] at o35 ⊢
                    refine hK.out _ _ (hHeld.top o34 bz33 g35 (by simp) lo33) (fun hHeld => ?_)
                    clear hK K
                    try simp only [Act.put, List.setIfInBounds_toArray, List.set_cons_zero, List.set_cons_succ]
                    refine wpAnyH_ready (rs := [6]) (by kernel_rfl) (by simp) ?_
                    refine consL rfl (fun K hK => ?_) AllReadyH.nil
                    · rw [if_pos (by rfl)]
                      go_simp
                      refine (cL.out _ _ _ (o35.rdb (by rw [List.length_append, HXS.out]; rfl) (by omega))).mono ?_
                      rintro e36 y36 ⟨ao, no, co, rfl, lo_, po, b36⟩
                      rw [show ((110 : Nat) : Int) = 110 from rfl]
                      have hX_36 := hX_35.below b36
                      refine hK.out _ _ (hHeld.below b36) (fun hHeld => ?_)
                      clear hK K
                      try simp only [Act.put, List.setIfInBounds_toArray, List.set_cons_zero, List.set_cons_succ]
                      refine takeL (i := 7) (v := ?_) rfl rfl (by kernel_rfl) (by kernel_rfl) (by kernel_rfl) (fun _ _ _ h => h) (Or.inl ⟨by rfl, ?_⟩) (by assumption) ?_
                      rotate_left
                      · (intro w' hSw; go_simp; try with_reducible rfl)
                      try simp only [Act.put, List.setIfInBounds_toArray, List.set_cons_zero, List.set_cons_succ]
                      refine takeL (i := 8) (v := ?_) rfl rfl (by kernel_rfl) (by kernel_rfl) (by kernel_rfl) (fun _ _ _ h => h) (Or.inl ⟨by rfl, ?_⟩) (by assumption) ?_
                      rotate_left
                      · (intro w' hSw; go_simp; try with_reducible rfl)
                      try simp only [Act.put, List.setIfInBounds_toArray, List.set_cons_zero, List.set_cons_succ]
                      refine takeL (i := 9) (v := ?_) rfl rfl (by kernel_rfl) (by kernel_rfl) (by kernel_rfl) (fun _ _ _ h => h) (Or.inl ⟨by rfl, ?_⟩) (by assumption) ?_
                      rotate_left
                      · (intro w' hSw; go_simp; try with_reducible rfl)
                      try simp only [Act.put, List.setIfInBounds_toArray, List.set_cons_zero, List.set_cons_succ]
                      refine takeL (i := 10) (v := ?_) rfl rfl (by kernel_rfl) (by kernel_rfl) (by kernel_rfl) (fun _ _ _ h => h) (Or.inl ⟨by rfl, ?_⟩) (by assumption) ?_
                      rotate_left
                      · (intro w' hSw; go_simp; try with_reducible rfl)
                      try simp only [Act.put, List.setIfInBounds_toArray, List.set_cons_zero, List.set_cons_succ]
                      refine wpAnyH_ready (rs := [12]) (by kernel_rfl) (by simp) ?_
                      refine consL rfl (fun K hK => ?_) AllReadyH.nil
                      · rw [if_pos (by rfl)]
                        refine wpo_store_head (.tmp 17) (.tmp 85) rfl X9 rfl (h1 := hd0) hX_36 rfl ?_
                        intro y37 hX_37 g37
                        refine hK.out _ _ (⟨fun e he => (hHeld.1 e he).grown g37 (fun q => by have := Option.some.inj q; have := xh31 e he; omega), hHeld.2.grown g37 xz31 (fun e he => Nat.ne_of_lt (xl31 e he)) (fun e he x hx h0 => Nat.ne_of_lt (xr31 e he x hx h0))⟩) (fun hHeld => ?_)
                        clear hK K
                        try simp only [Act.put, List.setIfInBounds_toArray, List.set_cons_zero, List.set_cons_succ]
                        refine takeL (i := 13) (v := ?_) rfl rfl (by kernel_rfl) (by kernel_rfl) (by kernel_rfl) (fun _ _ _ h => h) (Or.inl ⟨by rfl, ?_⟩) (by assumption) ?_
                        rotate_left
                        · (intro w' hSw; go_simp; try with_reducible rfl)
                        try simp only [Act.put, List.setIfInBounds_toArray, List.set_cons_zero, List.set_cons_succ]
                        refine takeL (i := 14) (v := ?_) rfl rfl (by kernel_rfl) (by kernel_rfl) (by kernel_rfl) (fun _ _ _ h => h) (Or.inl ⟨by rfl, ?_⟩) (by assumption) ?_
                        rotate_left
                        · (intro w' hSw; go_simp; try with_reducible rfl)
                        try simp only [Act.put, List.setIfInBounds_toArray, List.set_cons_zero, List.set_cons_succ]
                        refine wpAnyH_done (by kernel_rfl) ?_ _
                        go_wp2_with fail
                        go_meet
                        case rel => exact ⟨rfl, hHeld⟩
        case rest =>
          obtain ⟨rfl, hC⟩ := hcut
          have g1 := run_str us u8 ut (hC.2.rd 0 rfl).2
          have g2 := run_str us u8 ut (hC.2.rd 2 rfl).2
          go_wp2_with (first
            | (refine wp_load_head rfl (.tmp 12) rfl X4 rfl (hC.hd 1 rfl) ?_)
            | (refine wp_load_head rfl (.tmp 4) rfl w.heap.size rfl (hC.hd 2 rfl) ?_)
            | (refine wp_load_head rfl (.tmp 15) rfl X8 rfl (hC.hd 0 rfl) ?_)
            | (refine wp_eql_head rfl rfl rfl rfl ?_; rw [Hd.same_self])
            | (go_at_call 20; refine (cZ.out _).mono ?_; rintro e9 w9 ⟨rfl, rfl⟩)
            | fail)
          go_ret
          exact ⟨rfl, hC.2.bel⟩
      | false =>
        have cS := Lib.hid (fun (W : World) (hr : RdB W a la ca xa) => Seal_bad W h key a la ca xa hk hkb hr hl ho)
        have cC := Lib.hid (fun W => Check_any W h)
        rw [okE_no ho, show ((110 : Nat) : Int) = 110 from rfl] at cC
        clear hal hbl hl ho
        go_enter Try.func9, Try.ntmps9
        have s0 : HW w [(w.heap.size, h)] [(w.heap.size + 1, 35, .u8, key)] [(a, la, ca, xa), (b, lb, cb, xb)] ((w.alloc (.cells #[.int .i64 h.kind, .int .i64 h.lba, .int .i64 h.len, .int .i64 h.seq, .int .i64 h.epoch] 23)).alloc (.cells (nv .u8 key).toArray 35)) := by
          have h1 := (((LW.nil (xrefl w)).addR hRb).addR hRa).alloc (.cells #[.int .i64 h.kind, .int .i64 h.lba, .int .i64 h.len, .int .i64 h.seq, .int .i64 h.epoch] 23)
          have h2 : HW w [(w.heap.size, h)] [] _ _ := ⟨by simp; exact HBlk.new w h, h1⟩
          have h3 := h2.new 35 .u8 key
          rw [World.size_alloc] at h3
          exact h3
        clear hra hrb hRa hRb
        go_wp2_with (first
          | (go_at_call 11; refine (awake_any _).mono ?_; rintro e1 w1 ⟨rfl, b1⟩; have s1 := s0.below b1; clear s0 b1)
          | (refine wp_load_head rfl (.tmp 4) rfl (w.heap.size) rfl (s1.hd 0 rfl) ?_)
          | (refine wp_load_arr rfl 35 (.tmp 5) rfl (w.heap.size + 1) rfl (s1.2.blk 0 rfl) 32 5 Try.underlying35 HK.out ?_)
          | (go_at_call 15; refine (cS.out _ (s1.2.rd 0 rfl)).mono ?_; rintro e2 w2 ⟨rfl, b2⟩; have s2 := s1.below b2; have q2 := (s2.hd 0 rfl).cells.2.2.1; clear s1 b2)
          | (refine wp_load_head rfl (.tmp 4) rfl w.heap.size rfl (s2.hd 0 rfl) ?_)
          | (go_at_call 18; refine (cC.out _).mono ?_; rintro e3 w3 ⟨rfl, b3⟩; have bb3 := xtrans s2.2.bel b3)
          | fail)
        go_ret
        exact ⟨rfl, bb3⟩
    · have dl : (h.len != (la : Int)) = true := lenNe hl
      have cS := Lib.hid (fun (W : World) (hr : RdB W a la ca xa) => Seal_len W h key a la ca xa hk hkb hr hl)
      clear hal hbl hl
      go_enter Try.func9, Try.ntmps9
      have s0 : HW w [(w.heap.size, h)] [(w.heap.size + 1, 35, .u8, key)] [(a, la, ca, xa), (b, lb, cb, xb)] ((w.alloc (.cells #[.int .i64 h.kind, .int .i64 h.lba, .int .i64 h.len, .int .i64 h.seq, .int .i64 h.epoch] 23)).alloc (.cells (nv .u8 key).toArray 35)) := by
        have h1 := (((LW.nil (xrefl w)).addR hRb).addR hRa).alloc (.cells #[.int .i64 h.kind, .int .i64 h.lba, .int .i64 h.len, .int .i64 h.seq, .int .i64 h.epoch] 23)
        have h2 : HW w [(w.heap.size, h)] [] _ _ := ⟨by simp; exact HBlk.new w h, h1⟩
        have h3 := h2.new 35 .u8 key
        rw [World.size_alloc] at h3
        exact h3
      clear hra hrb hRa hRb
      go_wp2_with (first
        | (go_at_call 11; refine (awake_any _).mono ?_; rintro e1 w1 ⟨rfl, b1⟩; have s1 := s0.below b1; clear s0 b1)
        | (refine wp_load_head rfl (.tmp 4) rfl (w.heap.size) rfl (s1.hd 0 rfl) ?_)
        | (refine wp_load_arr rfl 35 (.tmp 5) rfl (w.heap.size + 1) rfl (s1.2.blk 0 rfl) 32 5 Try.underlying35 HK.out ?_)
        | (go_at_call 15; refine (cS.out _ (s1.2.rd 0 rfl)).mono ?_; rintro e2 w2 ⟨rfl, b2⟩; have s2 := s1.below b2; have q2 := (s2.hd 0 rfl).cells.2.2.1; clear s1 b2)
        | fail)
      go_ret
      exact ⟨rfl, s2.2.bel⟩
  · have hsplit : decide ((la : Int) > 300) = true ∨ (decide ((la : Int) > 300) = false ∧ decide ((lb : Int) > 300) = true) := by
      simp only [decide_eq_true_eq, decide_eq_false_iff_not]
      omega
    have box : Below w.heap.size w ((w.alloc (.cells #[.int .i64 h.kind, .int .i64 h.lba, .int .i64 h.len, .int .i64 h.seq, .int .i64 h.epoch] 23)).alloc (.cells (nv .u8 key).toArray 35)) := xalloc (xnew _ _) _
    clear hall
    rcases hsplit with d1 | ⟨d1, d2⟩
    all_goals
      go_enter Try.func9, Try.ntmps9
      go_wp2_with (first
        | (go_at_call 11; refine (awake_any _).mono ?_; rintro e1 w1 ⟨rfl, b1⟩)
        | fail)
      go_ret
      exact ⟨rfl, xtrans box b1⟩
end Go.Proofs.Ytpcppnoomogloaa.Fr
