/- The walk of the statement FrameAll. -/
import Derived.Test.YtpcppnoomogloaaFrA
import Derived.Test.YtpcppnoomogloaaFrY2
set_option maxRecDepth 4000
namespace Go.Proofs.Ytpcppnoomogloaa.Fr
set_option linter.unusedSimpArgs false
set_option linter.unusedVariables false
open Go.RowKit

set_option maxRecDepth 100000 in
set_option maxHeartbeats 8000000 in
theorem all_walk (a : Option Addr) (la ca : Nat) (hs : List Hd) (key : List Nat) (z : Int) (w : World) (hr : RowHd w a la ca hs) (hk : key.length = 32) (hkb : ∀ x ∈ key, x < 256) (hz : 0 ≤ z ∧ z ≤ 255) : Calls Try.prog 10 #[.slice a la ca, .agg (bv key).toArray, .int .u8 z] w fun e w' => e = .returned (.bool true) ∧ Below w.heap.size w w' := by
  have hlm : la ≤ 9223372036854775807 := by have := hr.2.1; have := hr.2.2.1; omega
  have HK := Lib.hid (show (Try.prog.info? 35).map (·.size) = some key.length by rw [hk]; kernel_rfl)
  have HK3 := Lib.hid (show (Try.prog.info? 35).map (·.size) = some (nv .u8 key).length by rw [nv_length, hk]; kernel_rfl)
  have tA32 := Try.underlying35
  have uH := Try.underlying23
  obtain ⟨z0, rfl⟩ := Int.eq_ofNat_of_zero_le hz.1
  show Calls Try.prog 10 #[.slice a la ca, .agg (nv .u8 key).toArray, .int .u8 (z0 : Int)] w _
  have bK := xnew w (.cells (nv .u8 key).toArray 35)
  by_cases h8 : la ≤ 8
  · have hd : decide ((la : Int) > 8) = false := decide_eq_false (by omega)
    have hK0 : Blk (w.alloc (.cells (nv .u8 key).toArray 35)) w.heap.size 35 .u8 key := Blk.new w 35 .u8 key _ rfl
    go_enter Try.func10, Try.ntmps10
    go_wp2_with (first
      | (go_at_call 11; refine (awake_any _).mono ?_; rintro e1 w1 ⟨rfl, b1⟩; have hK1 := hK0.below b1; have bw1 := xtrans bK b1; clear hK0 bK b1)
      | fail)
    go_loopw [8, 9, 10, 11, 12] (fun sv su sq sl si wr => ∃ (i m last : Nat) (es : List (Hd × List Nat)) (v u q : Value), i ≤ la ∧ v = sv ∧ u = su ∧ q = sq ∧ sl = .int .i64 last ∧ si = .int .i64 i ∧ AllL key es i m last ∧ Own wr w1.heap.size v (frames key es) ∧ wr.ownsRow w1.heap.size 23 5 u es.length (cellsH (es.map Prod.fst)) ∧ wr.ownsRow w1.heap.size 3 1 q es.length (nv .i64 ((places key 0 es).map Prod.snd)) ∧ Below w1.heap.size w1 wr) (fun _ _ _ _ si _ => la - (intOf si).toNat)
    case atStart => exact ⟨0, 0, 0, [], _, _, _, Nat.zero_le _, rfl, rfl, rfl, rfl, rfl, AllL.start key, Own.nil _ _, row_nil _ _ _ _, row_nil _ _ _ _, xrefl _⟩
    case round =>
      obtain ⟨i, m, last, es, v, u, q, hi, rfl, rfl, rfl, rfl, rfl, hL, ov, ou, oq, bb⟩ := hrel
      have hwb : Below w.heap.size w wr := xtrans bw1 bb
      have HL := Lib.hid hL
      have hml := hL.2.2.1
      have hm9 : m ≤ 1920 := by have := hL.2.2.2.1; omega
      have hes8 : es.length ≤ 8 := by have := hL.2.1; omega
      obtain ⟨fr, hfr⟩ : ∃ fr, frames key es = fr := ⟨_, rfl⟩
      rw [hfr] at ov hml
      have HFR := Lib.hid hfr
      have HML := Lib.hid hml
      obtain ⟨av, cv, rfl, hrv, _⟩ := ov.rd (by omega)
      rw [hml] at ov hrv
      rw [hml]
      clear hL hfr hml
      by_cases hlt : i < la
      · have e9 : decide ((i : Int) < (la : Int)) = true := decide_eq_true (by omega)
        have hil : (i : Int) < (la : Int) := by omega
        obtain ⟨g, off, rfl, hc⟩ := hr.at hwb (by omega)
        have hx := hc i hlt
        obtain ⟨x, hxe⟩ : ∃ x, x = hs.getD i hd0 := ⟨_, rfl⟩
        rw [← hxe] at hx
        clear hc hxe hrv
        have cC := Lib.hid (fun W => Check_any W x)
        have HLT := Lib.hid hlt
        by_cases hx2 : x.len > 200
        · have dl : decide (x.len > 200) = true := decide_eq_true hx2
          clear hx2 hlt
          go_upto_region 12 with (first
            | (refine wpList_load_mid rfl 23 (.tmp 35) rfl g (off + i * 5) rfl (cells5 x) _ hx uH rfl hszH ?_)
            | (refine wp_store_head rfl (.tmp 13) (.tmp 36) rfl wr.heap.size rfl (h1 := x) (HBlk.new wr hd0) rfl ?_; intro w4 h4 g4; have hvX := fun g hg => (ov.block g hg).2; have huX := fun g hg => (row_block ou g hg).2; have hqX := fun g hg => (row_block oq g hg).2; have ov4 := (ov.below (xnew wr (.cells #[.int .i64 0, .int .i64 0, .int .i64 0, .int .i64 0, .int .i64 0] 23))).kept g4 (fun k hk q => by have := Option.some.inj hk; have := hvX _ q; omega); have ou4 := row_kept (row_below ou (xnew wr (.cells #[.int .i64 0, .int .i64 0, .int .i64 0, .int .i64 0, .int .i64 0] 23))) g4 (fun k hk q => by have := Option.some.inj hk; have := huX _ q; omega); have oq4 := row_kept (row_below oq (xnew wr (.cells #[.int .i64 0, .int .i64 0, .int .i64 0, .int .i64 0, .int .i64 0] 23))) g4 (fun k hk q => by have := Option.some.inj hk; have := hqX _ q; omega); have bb4 := gbelow (xtrans bb (xnew wr (.cells #[.int .i64 0, .int .i64 0, .int .i64 0, .int .i64 0, .int .i64 0] 23))) g4 bb.size; clear ov ou oq bb g4 hx; generalize wr.heap.size = X at h4 hvX huX hqX ⊢)
            | fail)
          have hc4 := h4.cells.2.2.1
          go_wp2_with fail
          exact ⟨⟨i + 1, m, last, es, _, u, q, HLT.out, rfl, rfl, rfl, rfl, by go_num, HL.out.pass, by rw [HFR.out]; exact ov4, ou4, oq4, bb4⟩, by simp [intOf]; have := HLT.out; omega⟩
        · have dl : decide (x.len > 200) = false := decide_eq_false hx2
          cases ho : okH x with
          | false =>
            rw [okE_no ho, show ((110 : Nat) : Int) = 110 from rfl] at cC
            clear hx2 hlt ho
            go_upto_region 12 with (first
              | (refine wpList_load_mid rfl 23 (.tmp 35) rfl g (off + i * 5) rfl (cells5 x) _ hx uH rfl hszH ?_)
              | (refine wp_store_head rfl (.tmp 13) (.tmp 36) rfl wr.heap.size rfl (h1 := x) (HBlk.new wr hd0) rfl ?_; intro w4 h4 g4; have hvX := fun g hg => (ov.block g hg).2; have huX := fun g hg => (row_block ou g hg).2; have hqX := fun g hg => (row_block oq g hg).2; have ov4 := (ov.below (xnew wr (.cells #[.int .i64 0, .int .i64 0, .int .i64 0, .int .i64 0, .int .i64 0] 23))).kept g4 (fun k hk q => by have := Option.some.inj hk; have := hvX _ q; omega); have ou4 := row_kept (row_below ou (xnew wr (.cells #[.int .i64 0, .int .i64 0, .int .i64 0, .int .i64 0, .int .i64 0] 23))) g4 (fun k hk q => by have := Option.some.inj hk; have := huX _ q; omega); have oq4 := row_kept (row_below oq (xnew wr (.cells #[.int .i64 0, .int .i64 0, .int .i64 0, .int .i64 0, .int .i64 0] 23))) g4 (fun k hk q => by have := Option.some.inj hk; have := hqX _ q; omega); have bb4 := gbelow (xtrans bb (xnew wr (.cells #[.int .i64 0, .int .i64 0, .int .i64 0, .int .i64 0, .int .i64 0] 23))) g4 bb.size; clear ov ou oq bb g4 hx; generalize wr.heap.size = X at h4 hvX huX hqX ⊢)
              | fail)
            have hc4 := h4.cells.2.2.1
            go_wp2_with (first
              | (refine wp_load_head rfl (.tmp 13) rfl X rfl h4 ?_)
              | (go_at_call 18; refine (cC.out _).mono ?_; rintro e5 w5 ⟨rfl, b5⟩; have ov5 := ov4.below b5; have ou5 := row_below ou4 b5; have oq5 := row_below oq4 b5; have bb5 := xtrans bb4 b5; clear ov4 ou4 oq4 bb4 b5 h4)
              | fail)
            exact ⟨⟨i + 1, m, last, es, _, u, q, HLT.out, rfl, rfl, rfl, rfl, by go_num, HL.out.pass, by rw [HFR.out]; exact ov5, ou5, oq5, bb5⟩, by simp [intOf]; have := HLT.out; omega⟩
          | true =>
            rw [okE_ok ho, show ((0 : Nat) : Int) = 0 from rfl] at cC
            obtain ⟨n, hxl⟩ := Int.eq_ofNat_of_zero_le (show 0 ≤ x.len by have := (okH_iff x).1 ho; omega)
            have hn200 : n ≤ 200 := by omega
            obtain ⟨body, hbody⟩ : ∃ body, body = List.replicate n 0 := ⟨_, rfl⟩
            have hbl : body.length = n := by rw [hbody]; simp
            have hs1 : sealB x body = true := by unfold sealB; rw [ho, hbl, decide_eq_true hxl]; rfl
            have hse := (sealF_ok (key := key) hs1).1
            have hsl := (sealF_length (key := key) hs1).2
            have cS := Lib.hid (fun (W : World) (ad : Option Addr) (cp : Nat) (hr : RdB W ad n cp body) => Seal_good W x key ad n cp body hk hkb hr hxl ho)
            rw [← hse] at cS
            have HST := Lib.hid (HL.out.step hs1 hbl hn200)
            obtain ⟨ln, hln⟩ : ∃ ln, ln = n + 40 := ⟨_, rfl⟩
            rw [hbl, ← hln] at hsl
            rw [← hln] at cS HST
            obtain ⟨sf, hsf⟩ : ∃ sf, sealF x key body = sf := ⟨_, rfl⟩
            rw [hsf] at cS hsl
            have HSF := Lib.hid hsf
            have HSL := Lib.hid hsl
            have HBD := Lib.hid hbody
            have HXL := Lib.hid hxl
            have hln2 : ln ≤ 240 := by omega
            have dl2 : decide ((n : Int) > 200) = false := decide_eq_false (by omega)
            clear hx2 hlt ho hbl hs1 hse hsl hln hsf dl hbody
            go_upto_region 12 with (first
              | (refine wpList_load_mid rfl 23 (.tmp 35) rfl g (off + i * 5) rfl (cells5 x) _ hx uH rfl hszH ?_)
              | (refine wp_store_head rfl (.tmp 13) (.tmp 36) rfl wr.heap.size rfl (h1 := x) (HBlk.new wr hd0) rfl ?_; intro w4 h4 g4; have hvX := fun g hg => (ov.block g hg).2; have huX := fun g hg => (row_block ou g hg).2; have hqX := fun g hg => (row_block oq g hg).2; have ov4 := (ov.below (xnew wr (.cells #[.int .i64 0, .int .i64 0, .int .i64 0, .int .i64 0, .int .i64 0] 23))).kept g4 (fun k hk q => by have := Option.some.inj hk; have := hvX _ q; omega); have ou4 := row_kept (row_below ou (xnew wr (.cells #[.int .i64 0, .int .i64 0, .int .i64 0, .int .i64 0, .int .i64 0] 23))) g4 (fun k hk q => by have := Option.some.inj hk; have := huX _ q; omega); have oq4 := row_kept (row_below oq (xnew wr (.cells #[.int .i64 0, .int .i64 0, .int .i64 0, .int .i64 0, .int .i64 0] 23))) g4 (fun k hk q => by have := Option.some.inj hk; have := hqX _ q; omega); have bb4 := gbelow (xtrans bb (xnew wr (.cells #[.int .i64 0, .int .i64 0, .int .i64 0, .int .i64 0, .int .i64 0] 23))) g4 bb.size; clear ov ou oq bb g4 hx; generalize wr.heap.size = X at h4 hvX huX hqX ⊢)
              | fail)
            have hc4 := h4.cells.2.2.1
            rw [hxl] at hc4
            clear hxl
            go_upto_region 13 with (first
              | (refine wp_load_head rfl (.tmp 13) rfl X rfl h4 ?_)
              | (go_at_call 18; refine (cC.out _).mono ?_; rintro e5 w5 ⟨rfl, b5⟩; have ov5 := ov4.below b5; have ou5 := row_below ou4 b5; have oq5 := row_below oq4 b5; have bb5 := xtrans bb4 b5; have h5 := h4.below b5; have hK5 := hK1.below bb5; clear ov4 ou4 oq4 bb4 b5 h4 hc4)
              | fail)
            have ovD : Own w5.drew w1.heap.size (.slice av m cv) fr := ⟨World.ownsRow.drew ov5.1, ov5.2⟩
            have ouD := World.ownsRow.drew ou5
            have oqD := World.ownsRow.drew oq5
            refine wp_region_held_drew (S := fun W => HBlk W X x ∧ Blk W w.heap.size 35 .u8 key ∧ Below w1.heap.size w1 W) (by kernel_rfl) (⟨h5.drew, hK5.drewN 1, below_drewN bb5 1⟩) (fun hHeld => ?_)
            generalize World.drew _ = wv at hHeld ovD ouD oqD ⊢
            refine takeL (i := 0) (v := x.v) rfl rfl (by kernel_rfl) (by kernel_rfl) (by kernel_rfl) (fun _ _ _ h => h) (yieldsHead (.tmp 13) (by rfl) rfl X (by rfl) (fun _ h => h.1)) (by assumption) ?_
            try simp only [Act.put, List.setIfInBounds_toArray, List.set_cons_zero, List.set_cons_succ]
            refine takeL (i := 1) (v := .agg (nv .u8 key).toArray) rfl rfl (by kernel_rfl) (by kernel_rfl) (by kernel_rfl) (fun _ _ _ h => h) (yieldsIf_load_mid (by rfl) 35 (.tmp 4) rfl w.heap.size 0 (by rfl) (nv .u8 key) _ (fun _ h => blk_range h.2.1) tA32 rfl HK3.out) (by assumption) ?_
            try simp only [Act.put, List.setIfInBounds_toArray, List.set_cons_zero, List.set_cons_succ]
            refine takeL (i := 2) (v := ?_) rfl rfl (by kernel_rfl) (by kernel_rfl) (by kernel_rfl) (fun _ _ _ h => h) (Or.inl ⟨by rfl, ?_⟩) (by assumption) ?_
            rotate_left
            · (intro w' hSw; go_simp; try with_reducible rfl)
            try simp only [Act.put, List.setIfInBounds_toArray, List.set_cons_zero, List.set_cons_succ]
            refine takeL (i := 3) (v := .int .i64 (n : Int)) rfl rfl (by kernel_rfl) (by kernel_rfl) (by kernel_rfl) (fun _ _ _ h => h) (Or.inl ⟨by rfl, ?_⟩) (by assumption) ?_
            · (intro w' hSw; have hh := hSw.1.cells.2.2.1; rw [HXL.out] at hh; go_simp; try with_reducible rfl)
            try simp only [Act.put, List.setIfInBounds_toArray, List.set_cons_zero, List.set_cons_succ]
            refine wpAnyH_ready (rs := [4]) (by kernel_rfl) (by simp) ?_
            refine consL rfl (fun K hK => ?_) AllReadyH.nil
            · rw [if_pos (by rfl)]
              refine wpo_make (.tmp 49) (.tmp 49) rfl .i64 .i64 n rfl rfl (by omega) ?_
              intro y1 oN b9
              rw [← HBD.out] at oN
              have ov6 := ovD.below b9
              have ou6 := row_below ouD b9
              have oq6 := row_below oqD b9
              refine hK.out _ _ (⟨hHeld.1.below b9, hHeld.2.1.below b9, xtrans hHeld.2.2 b9⟩) (fun hHeld => ?_)
              clear hK K
              try simp only [Act.put, List.setIfInBounds_toArray, List.set_cons_zero, List.set_cons_succ]
              refine wpAnyH_ready (rs := [5]) (by kernel_rfl) (by simp) ?_
              refine consL rfl (fun K hK => ?_) AllReadyH.nil
              · rw [if_pos (by rfl)]
                go_simp
                refine (cS.out _ _ _ (oN.rdb (by rw [HBD.out]; simp) (by omega))).mono ?_
                rintro e6 y2 ⟨ad, cp, rfl, oB, b6⟩
                have ov7 := ov6.below b6
                have ou7 := row_below ou6 b6
                have oq7 := row_below oq6 b6
                refine hK.out _ _ (⟨hHeld.1.below b6, hHeld.2.1.below b6, xtrans hHeld.2.2 b6⟩) (fun hHeld => ?_)
                clear hK K
                try simp only [Act.put, List.setIfInBounds_toArray, List.set_cons_zero, List.set_cons_succ]
                refine takeL (i := 6) (v := ?_) rfl rfl (by kernel_rfl) (by kernel_rfl) (by kernel_rfl) (fun _ _ _ h => h) (Or.inl ⟨by rfl, ?_⟩) (by assumption) ?_
                rotate_left
                · (intro w' hSw; go_simp; try with_reducible rfl)
                try simp only [Act.put, List.setIfInBounds_toArray, List.set_cons_zero, List.set_cons_succ]
                refine takeL (i := 7) (v := ?_) rfl rfl (by kernel_rfl) (by kernel_rfl) (by kernel_rfl) (fun _ _ _ h => h) (Or.inl ⟨by rfl, ?_⟩) (by assumption) ?_
                rotate_left
                · (intro w' hSw; go_simp; try with_reducible rfl)
                try simp only [Act.put, List.setIfInBounds_toArray, List.set_cons_zero, List.set_cons_succ]
                refine takeL (i := 8) (v := ?_) rfl rfl (by kernel_rfl) (by kernel_rfl) (by kernel_rfl) (fun _ _ _ h => h) (Or.inl ⟨by rfl, ?_⟩) (by assumption) ?_
                rotate_left
                · (intro w' hSw; go_simp; try with_reducible rfl)
                try simp only [Act.put, List.setIfInBounds_toArray, List.set_cons_zero, List.set_cons_succ]
                refine takeL (i := 9) (v := ?_) rfl rfl (by kernel_rfl) (by kernel_rfl) (by kernel_rfl) (fun _ _ _ h => h) (Or.inl ⟨by rfl, ?_⟩) (by assumption) ?_
                rotate_left
                · (intro w' hSw; go_simp; try with_reducible rfl)
                try simp only [Act.put, List.setIfInBounds_toArray, List.set_cons_zero, List.set_cons_succ]
                refine takeL (i := 10) (v := ?_) rfl rfl (by kernel_rfl) (by kernel_rfl) (by kernel_rfl) (fun _ _ _ h => h) (Or.inl ⟨by rfl, ?_⟩) (by assumption) ?_
                rotate_left
                · (intro w' hSw; go_simp; try with_reducible rfl)
                try simp only [Act.put, List.setIfInBounds_toArray, List.set_cons_zero, List.set_cons_succ]
                refine wpAnyH_done (by kernel_rfl) ?_ _
                have h7 := hHeld.1
                have bb7 := hHeld.2.2
                clear hHeld ov6 ou6 oq6 ovD ouD oqD ov5 ou5 oq5 oN
                go_wp2_with (first
                  | (refine wp_load_head rfl (.tmp 13) rfl X rfl h7 ?_; unfold Hd.v)
                  | (at_builtin; have hl8 : HBlk (y2.alloc (.cells #[.int .i64 x.kind, .int .i64 x.lba, .int .i64 x.len, .int .i64 x.seq, .int .i64 x.epoch] 23)) y2.heap.size x := HBlk.new y2 x; have b8 := xnew y2 (.cells #[.int .i64 x.kind, .int .i64 x.lba, .int .i64 x.len, .int .i64 x.seq, .int .i64 x.epoch] 23); have ov8 := ov7.below b8; have ou8 := row_below ou7 b8; have oq8 := row_below oq7 b8; have oB8 := oB.below b8; have bb8 := xtrans bb7 b8; clear ov7 ou7 oq7 oB bb7 h7 b8; generalize y2.heap.size = RH at hl8 ⊢; generalize y2.alloc (.cells #[.int .i64 x.kind, .int .i64 x.lba, .int .i64 x.len, .int .i64 x.seq, .int .i64 x.epoch] 23) = w8 at hl8 ov8 ou8 oq8 oB8 bb8 ⊢; refine wpList_of_wp rfl (wpo_append_one rowH (.tmp 54) (.tmp 56) rfl w1.heap.size u es.length (cellsH (es.map Prod.fst)) rfl ou8 RH 1 (cells5 x) rfl rfl hl8.news (cells5_one x) (by omega) (by decide) bb8.size ?_); intro v9 w9 ou9 g9 _; rw [show cellsH (es.map Prod.fst) ++ cells5 x = _ from cellsH_snoc _ x] at ou9; have ov9 := ov8.kept g9 (fun k hk q => rows_ne ou8 ov8.1 (by decide) k hk q); have oq9 := row_kept oq8 g9 (fun k hk q => rows_ne ou8 oq8 (by decide) k hk q); have oB9 := oB8.kept g9 (fun k hk q => rows_ne ou8 oB8.1 (by decide) k hk q); have bb9 := bb8.grown g9 bb8.size (fun g hg => by have := (row_block ou8 g hg).1; omega); clear ov8 ou8 oq8 oB8 bb8 g9 hl8)
                  | (at_builtin; have hc10 := cell_new0 w9 (.int .i64 (m : Int)) 3 (0, 0); have b10 := xnew w9 (.cells #[.int .i64 (m : Int)] 3); have ov10 := ov9.below b10; have ou10 := row_below ou9 b10; have oq10 := row_below oq9 b10; have oB10 := oB9.below b10; have bb10 := xtrans bb9 b10; clear ov9 ou9 oq9 oB9 bb9 b10; generalize w9.heap.size = RI at hc10 ⊢; generalize w9.alloc (.cells #[.int .i64 (m : Int)] 3) = w10 at hc10 ov10 ou10 oq10 oB10 bb10 ⊢; refine wpList_of_wp rfl (wpo_append_one rowI (.tmp 58) (.tmp 61) rfl w1.heap.size q es.length (nv .i64 ((places key 0 es).map Prod.snd)) rfl oq10 RI 1 [.int .i64 (m : Int)] rfl rfl (news_one hc10) (one_int _ _) (by omega) (by decide) bb10.size ?_); intro v11 w11 oq11 g11 _; rw [nv_snoc] at oq11; have ov11 := ov10.kept g11 (fun k hk q => rows_ne oq10 ov10.1 (by decide) k hk q); have ou11 := row_kept ou10 g11 (fun k hk q => rows_ne oq10 ou10 (by decide) k hk q); have oB11 := oB10.kept g11 (fun k hk q => rows_ne oq10 oB10.1 (by decide) k hk q); have bb11 := bb10.grown g11 bb10.size (fun g hg => by have := (row_block oq10 g hg).1; omega); clear ov10 ou10 oq10 oB10 bb10 g11 hc10)
                  | (at_builtin; refine wpList_of_wp rfl (wpo_append_at (.tmp 65) (.tmp 66) rfl w1.heap.size (.slice av m cv) fr rfl ov11 ad ln cp sf rfl (oB11.rdb HSL.out (by omega)) (by rw [HML.out, HSL.out]; omega) bb11.size ?_); intro v12 w12 ov12 g12 _; have ou12 := row_kept ou11 g12 (fun k hk q => rows_ne ov11.1 ou11 (by decide) k hk q); have oq12 := row_kept oq11 g12 (fun k hk q => rows_ne ov11.1 oq11 (by decide) k hk q); have bb12 := bb11.grown g12 bb11.size (fun g hg => by have := (ov11.block g hg).1; omega); clear ov11 ou11 oq11 oB11 bb11 g12)
                  | fail)
                refine ⟨⟨i + 1, m + ln, ln, es ++ [(x, body)], v12, v9, v11, HLT.out, rfl, rfl, rfl, rfl, by go_num, HST.out, ?_, ?_, ?_, bb12⟩, by simp [intOf]; have := HLT.out; omega⟩
                · rw [frames_snoc, HFR.out, HSF.out]; exact ov12
                · rw [List.map_append, List.length_append]; exact ou12
                · rw [places_snoc, List.map_append, List.length_append, HFR.out, HML.out, Nat.zero_add]; exact oq12
      · have e9 : decide ((i : Int) < (la : Int)) = false := decide_eq_false (by omega)
        have e9n : decide (i < la) = false := decide_eq_false hlt
        have hilN : ¬ ((i : Int) < (la : Int)) := by omega
        clear hr hi
        obtain ⟨ah, ch, rfl, rHh⟩ := rdH_row ou (by simp) (by omega)
        obtain ⟨ap, dp, rfl, rIp⟩ := rdI_row oq (by rw [List.length_map, places_length]) (by omega)
        have hsc := HL.out.scan
        have cA := Lib.hid (fun (W : World) (h : RdB W av m cv fr) => Scan_any W av m cv fr h (by omega))
        unfold ScanOK at cA
        rw [← HFR.out, hsc, places_fst, places_length, HFR.out] at cA
        have cH := Lib.hid (fun (ys : List Hd) (W : World) a n c b m d (h1 : RdH W a n c ys) (h2 : RdH W b m d ys) => Heads_any W a n c ys b m d ys h1 h2)
        have cN := Lib.hid (fun (ys : List Nat) (W : World) a n c b m d (h1 : RdI W a n c ys) (h2 : RdI W b m d ys) => Numbers_any W a n c ys b m d ys h1 h2)
        simp only [decide_true] at cH cN
        have hb0 : Below w.heap.size w wr := hwb
        clear ou oq ov bb hK1 bw1
        by_cases hes : es = []
        · have hn0 : es.length = 0 := by rw [hes]; rfl
          generalize (places key 0 es).map Prod.snd = ps at cA rIp
          generalize es.map Prod.fst = xs at cA rHh
          generalize es.length = n at cA rHh rIp hn0 ⊢
          have hne : ((n : Int) == 0) = true := by rw [hn0]; rfl
          clear hn0
          have HXP := Lib.hid (And.intro rHh.1 rIp.1)
          clear HL hes hsc
          go_wp2_with (first
            | (go_at_call 25; go_loud (with_reducible refine (cA.out _ hrv).mono ?_; rintro e2 w2 ⟨v2, q2, n2, rfl, l2, m2, ov2, oq2, b2⟩; obtain rfl : n = n2 := l2; obtain ⟨a2, c2, rfl, rH2⟩ := rdH_row ov2 (by first | exact HXP.out.1 | (rw [List.length_take, HXP.out.1]; omega)) m2; obtain ⟨x2, d2, rfl, rI2⟩ := rdI_row oq2 (by first | exact HXP.out.2 | (rw [List.length_take, HXP.out.2]; omega)) m2; clear m2 ov2 oq2; have hrv2 := hrv.below b2; have rHh2 := rHh.below b2; have rIp2 := rIp.below b2; have bb2 := xtrans hb0 b2; clear hrv rHh rIp hb0 b2))
            | (go_at_call 27; with_reducible refine (cH.out _ _ _ _ _ _ _ _ rH2 rHh2).mono ?_; rintro e3 w3 ⟨rfl, b3⟩; have hrv3 := hrv2.below b3; have rHh3 := rHh2.below b3; have rIp3 := rIp2.below b3; have rI3 := rI2.below b3; have bb3 := xtrans bb2 b3; clear hrv2 rHh2 rIp2 rI2 rH2 bb2 b3)
            | (go_at_call 28; with_reducible refine (cN.out _ _ _ _ _ _ _ _ rI3 rIp3).mono ?_; rintro e4 w4 ⟨rfl, b4⟩; have hrv4 := hrv3.below b4; have rHh4 := rHh3.below b4; have rIp4 := rIp3.below b4; have bb4 := xtrans bb3 b4; clear hrv3 rHh3 rIp3 rI3 bb3 b4)
            | fail)
          go_ret
          exact ⟨rfl, bb4⟩
        · obtain ⟨h41, hlm2, hshort⟩ := HL.out.short (r := z0 % last) hes
          have hsh := hshort (Nat.mod_lt _ (by omega))
          have hn0 : 0 < es.length := List.length_pos_iff.2 hes
          have hrl : z0 % last < last := Nat.mod_lt _ (by omega)
          rw [HFR.out] at hsh
          have hemod : (z0 : Int) % (last : Int) = ((z0 % last : Nat) : Int) := by omega
          have htmod : Int.tmod (z0 : Int) (last : Int) = ((z0 % last : Nat) : Int) := by rw [Int.tmod_eq_emod_of_nonneg (by omega)]; exact hemod
          generalize z0 % last = r at hsh hemod htmod hrl
          obtain ⟨m1, hm1⟩ : ∃ m1, m1 = m - 1 := ⟨_, rfl⟩
          have hms : (m : Int) - 1 = (m1 : Int) := by omega
          obtain ⟨k, hkk⟩ : ∃ k, k = m - 1 - r := ⟨_, rfl⟩
          have hks : (m1 : Int) - (r : Int) = (k : Int) := by omega
          rw [← hkk] at hsh
          have cB := Lib.hid (fun (W : World) (a : Option Addr) (h : RdB W a k cv (fr.take k)) => Scan_any W a k cv (fr.take k) h (by omega))
          unfold ScanOK at cB
          rw [hsh.1, hsh.2] at cB
          have hlen2 : (scanF (fr.take k)).length = es.length - 1 := by
            have := congrArg List.length hsh.1
            rw [List.length_map, List.length_take, List.length_map] at this
            omega
          rw [hlen2] at cB
          generalize (places key 0 es).map Prod.snd = ps at cA cB rIp
          generalize es.map Prod.fst = xs at cA cB rHh
          generalize es.length = n at cA cB rHh rIp hn0 hes8 ⊢
          have HXP := Lib.hid (And.intro rHh.1 rIp.1)
          clear hshort hsh hlen2 HL hes hsc
          have hne : ((n : Int) == 0) = false := by rw [beq_eq_false_iff_ne]; omega
          have hL0 : ((last : Int) == 0) = false := by rw [beq_eq_false_iff_ne]; omega
          have hL1 : (last : Int) ≠ 0 := by omega
          obtain ⟨n1, hn1⟩ : ∃ n1, n1 = n - 1 := ⟨_, rfl⟩
          have hns : (n : Int) - 1 = (n1 : Int) := by omega
          rw [← hn1] at cB
          have hn1n : n1 ≤ n := by omega
          have hkm : k ≤ m := by omega
          obtain ⟨gv, fv, rfl, _, _⟩ := hrv.2.2.2.2.2.2.resolve_left (by omega)
          obtain ⟨gh, rfl, _, _⟩ := rHh.2.2.2.2.resolve_left (by omega)
          obtain ⟨gp, rfl, _, _⟩ := rIp.2.2.2.2.resolve_left (by omega)
          clear hn1 hkk hm1
          have hkc : k ≤ cv := by have := hrv.2.2.1; omega
          have hkci : (k : Int) ≤ (cv : Int) := by omega
          have hnc : (n1 : Int) ≤ (ch : Int) := by have := rHh.2.1; omega
          have hnd : (n1 : Int) ≤ (dp : Int) := by have := rIp.2.1; omega
          have hcv9 : cv ≤ 9223372036854775807 := hrv.2.2.2.1
          have hch9 : ch ≤ 9223372036854775807 := rHh.2.2.2.1
          have hdp9 : dp ≤ 9223372036854775807 := rIp.2.2.2.1
          have us := Try.underlying25
          go_wp2_with (first
            | (go_at_call 25; go_loud (with_reducible refine (cA.out _ hrv).mono ?_; rintro e2 w2 ⟨v2, q2, n2, rfl, l2, m2, ov2, oq2, b2⟩; obtain rfl : n = n2 := l2; obtain ⟨a2, c2, rfl, rH2⟩ := rdH_row ov2 (by first | exact HXP.out.1 | (rw [List.length_take, HXP.out.1]; omega)) m2; obtain ⟨x2, d2, rfl, rI2⟩ := rdI_row oq2 (by first | exact HXP.out.2 | (rw [List.length_take, HXP.out.2]; omega)) m2; clear m2 ov2 oq2; have hrv2 := hrv.below b2; have rHh2 := rHh.below b2; have rIp2 := rIp.below b2; have bb2 := xtrans hb0 b2; clear hrv rHh rIp hb0 b2))
            | (go_at_call 27; with_reducible refine (cH.out _ _ _ _ _ _ _ _ rH2 rHh2).mono ?_; rintro e3 w3 ⟨rfl, b3⟩; have hrv3 := hrv2.below b3; have rHh3 := rHh2.below b3; have rIp3 := rIp2.below b3; have rI3 := rI2.below b3; have bb3 := xtrans bb2 b3; clear hrv2 rHh2 rIp2 rI2 rH2 bb2 b3)
            | (go_at_call 28; with_reducible refine (cN.out _ _ _ _ _ _ _ _ rI3 rIp3).mono ?_; rintro e4 w4 ⟨rfl, b4⟩; have hrv4 := hrv3.below b4; have rHh4 := rHh3.below b4; have rIp4 := rIp3.below b4; have bb4 := xtrans bb3 b4; clear hrv3 rHh3 rIp3 rI3 bb3 b4)
            | (go_at_call 25; go_loud (with_reducible refine (cB.out _ _ (rdb_take hrv4 k (by omega))).mono ?_; rintro e5 w5 ⟨v5, q5, n5, rfl, l5, m5, ov5, oq5, b5⟩; obtain rfl : n1 = n5 := l5; obtain ⟨a5, c5, rfl, rH5⟩ := rdH_row ov5 (by first | exact HXP.out.1 | (rw [List.length_take, HXP.out.1]; omega)) m5; obtain ⟨x5, d5, rfl, rI5⟩ := rdI_row oq5 (by first | exact HXP.out.2 | (rw [List.length_take, HXP.out.2]; omega)) m5; clear m5 ov5 oq5; have rHt := (rdH_take rHh4 n1 (by omega)).below b5; have rIt := (rdI_take rIp4 n1 (by omega)).below b5; have bb5 := xtrans bb4 b5; clear hrv4 rHh4 rIp4 bb4 b5))
            | (go_at_call 27; with_reducible refine (cH.out _ _ _ _ _ _ _ _ rH5 rHt).mono ?_; rintro e6 w6 ⟨rfl, b6⟩; have rI6 := rI5.below b6; have rIt6 := rIt.below b6; have bb6 := xtrans bb5 b6; clear rI5 rIt bb5 b6 rH5)
            | (go_at_call 28; with_reducible refine (cN.out _ _ _ _ _ _ _ _ rI6 rIt6).mono ?_; rintro e7 w7 ⟨rfl, b7⟩; have bb7 := xtrans bb6 b7; clear rI6 rIt6 bb6 b7)
            | fail)
          go_ret
          exact ⟨rfl, bb7⟩
  · have hd : decide ((la : Int) > 8) = true := decide_eq_true (by omega)
    clear h8 hr
    go_enter Try.func10, Try.ntmps10
    go_wp2_with (first
      | (go_at_call 11; refine (awake_any _).mono ?_; rintro e1 w1 ⟨rfl, b1⟩)
      | fail)
    go_ret
    exact ⟨rfl, xtrans bK b1⟩
end Go.Proofs.Ytpcppnoomogloaa.Fr
