/- The walk of the document's Scan. -/
import Derived.Test.YtpcppnoomogloaaFrX1
import Derived.Test.YtpcppnoomogloaaFrR5
set_option maxRecDepth 4000
namespace Go.Proofs.Ytpcppnoomogloaa.Fr
set_option linter.unusedSimpArgs false
set_option linter.unusedVariables false
open Go.RowKit

set_option maxRecDepth 100000 in
set_option maxHeartbeats 8000000 in
theorem rScan_any (w : World) (b : Option Addr) (lb cb : Nat) (bs : List Nat) (hr : RdB w b lb cb bs) (hlb : lb ≤ 1000000) : Calls Try.prog 26 #[.slice b lb cb] w (ScanOK w bs) := by
  have hbl : bs.length = lb := hr.2.1
  have HBL := Lib.hid hbl
  have hlow := rdb_low hr
  have us := Try.underlying25
  obtain ⟨i0, hi0⟩ := info8f
  have HI := Lib.hid hi0
  clear hi0
  go_enter Try.func26, Try.ntmps26
  go_wp2_with fail
  go_loopw [4, 5, 6] (fun x y z wr => ∃ (i p : Nat) (l : List (Hd × Nat)) (v q : Value), v = x ∧ q = y ∧ z = .int .i64 p ∧ ScanL bs i p l ∧ wr.ownsRow w.heap.size 23 5 v i (cellsH (l.map Prod.fst)) ∧ wr.ownsRow w.heap.size 3 1 q i (nv .i64 (l.map Prod.snd)) ∧ RdB wr b lb cb bs ∧ Below w.heap.size w wr) (fun _ _ z _ => lb - (intOf z).toNat)
  case atStart => exact ⟨0, 0, [], _, _, rfl, rfl, rfl, ScanL.start bs, row_nil _ _ _ _, row_nil _ _ _ _, hr, xrefl _⟩
  case round =>
    clear hr
    obtain ⟨i, p, l, v, q, rfl, rfl, rfl, hL, ov, oq, hr', bb⟩ := hrel
    have hp : p ≤ lb := by have := hL.2.2.1; omega
    have hi41 : i ≤ 100000 := by have := hL.2.1; omega
    obtain ⟨rest, hrest⟩ : ∃ rest : Nat, rest = lb - p := ⟨_, rfl⟩
    have hlb9 : lb ≤ 1000000000 := by omega
    have hsub : (lb : Int) - (p : Int) = (rest : Int) := by omega
    have hrw : IntKind.i64.wrap (rest : Int) = (rest : Int) := by rw [IntKind.wrap_i64]; omega
    have cR := Lib.hid (fun (W : World) (h : RdB W (cutA b cb p) (lb - p) (cb - p) (bs.drop p)) => rRead_any W (cutA b cb p) (lb - p) (cb - p) (bs.drop p) h)
    unfold ReadOK at cR
    have HL := Lib.hid hL
    clear hL
    cases hRB : readB (bs.drop p) with
    | false =>
      have HZ : Hid (nextS bs p = 0) := Lib.hid (by unfold nextS; rw [hRB]; simp)
      rw [(read_not hRB).1, (read_not hRB).2, show ((110 : Nat) : Int) = 110 from rfl] at cR
      obtain ⟨H, hH⟩ : ∃ H, H = hd0 := ⟨_, rfl⟩
      rw [← hH] at cR
      clear hRB hbl hrest hH
      go_upto_region 5 with (first
        | (refine wp_slice_from rfl (.tmp 10) (.tmp 11) rfl rfl rfl us HI.out.1 HI.out.2 hp ?_)
        | (go_at_call 17; refine (cR.out _ (hr'.cut p hp)).mono ?_; rintro e2 w2 ⟨rfl, b2⟩; have ov2 := row_below ov b2; have oq2 := row_below oq b2; have hr2 := hr'.below b2; have bb2 := xtrans bb b2; have hvX := fun g hg => (row_block ov2 g hg).2; have hqX := fun g hg => (row_block oq2 g hg).2; clear ov oq hr' bb b2)
        | (refine wp_store_head rfl (.tmp 7) (.tmp 14) rfl w2.heap.size rfl (h1 := H) (HBlk.new w2 hd0) rfl ?_; intro w4 h4 g4; have ov4 := row_kept (row_below ov2 (xnew w2 (.cells #[.int .i64 0, .int .i64 0, .int .i64 0, .int .i64 0, .int .i64 0] 23))) g4 (fun k hk q => by have := Option.some.inj hk; have := hvX _ q; omega); have oq4 := row_kept (row_below oq2 (xnew w2 (.cells #[.int .i64 0, .int .i64 0, .int .i64 0, .int .i64 0, .int .i64 0] 23))) g4 (fun k hk q => by have := Option.some.inj hk; have := hqX _ q; omega); have hr4 := rdb_grownM (hr2.below (xnew w2 (.cells #[.int .i64 0, .int .i64 0, .int .i64 0, .int .i64 0, .int .i64 0] 23))) g4 (fun x hx h0 e => by have := Option.some.inj e; have := hlow x hx h0; have := bb2.size; omega); have bb4 := gbelow (xtrans bb2 (xnew w2 (.cells #[.int .i64 0, .int .i64 0, .int .i64 0, .int .i64 0, .int .i64 0] 23))) g4 bb2.size; clear ov2 oq2 hr2 bb2 g4; generalize w2.heap.size = X at h4 hvX hqX ⊢)
        | fail)
      have hc4 := h4.cells.2.2.1
      go_wp2_with fail
      go_ret2
      have he := HL.out.end HZ.out
      have hl := HL.out.1
      refine ⟨v, q, i, rfl, by rw [he]; exact hl, by omega, ?_, ?_, bb4⟩
      · rw [he]; exact ov4
      · rw [he]; exact oq4
    | true =>
      rw [(read_yes rfl hRB).1, (read_yes rfl hRB).2, show ((0 : Nat) : Int) = 0 from rfl] at cR
      have cZ := Lib.hid (fun W => rSizeF_any W (readN (bs.drop p)).len)
      have hn0 := readB_size hRB
      by_cases hsz : sizeF (readN (bs.drop p)).len ≤ (bs.length : Int) - (p : Int)
      · have HS : Hid (nextS bs p = sizeF (readN (bs.drop p)).len) := Lib.hid (by unfold nextS; rw [if_pos ⟨hRB, hsz⟩])
        obtain ⟨sz, hs⟩ := Int.eq_ofNat_of_zero_le (show 0 ≤ sizeF (readN (bs.drop p)).len by omega)
        rw [hs] at cZ HS hn0 hsz
        rw [hbl] at hsz
        have dl : decide ((rest : Int) < (sz : Int)) = false := decide_eq_false (by omega)
        obtain ⟨p2, hp2⟩ : ∃ p2, p2 = p + sz := ⟨_, rfl⟩
        have hadd : (p : Int) + (sz : Int) = (p2 : Int) := by omega
        have hp2l : p2 ≤ lb := by omega
        have hpp2 : p < p2 := by omega
        obtain ⟨H, hH⟩ : ∃ H, H = readN (bs.drop p) := ⟨_, rfl⟩
        rw [← hH] at cR cZ
        have HHH := Lib.hid hH
        have HP2 := Lib.hid hp2
        have HH41 := Lib.hid (show 41 ≤ sz by omega)
        clear hRB hbl hrest hH hsz hs hn0 hp2
        go_upto_region 5 with (first
          | (refine wp_slice_from rfl (.tmp 10) (.tmp 11) rfl rfl rfl us HI.out.1 HI.out.2 hp ?_)
          | (go_at_call 17; refine (cR.out _ (hr'.cut p hp)).mono ?_; rintro e2 w2 ⟨rfl, b2⟩; have ov2 := row_below ov b2; have oq2 := row_below oq b2; have hr2 := hr'.below b2; have bb2 := xtrans bb b2; have hvX := fun g hg => (row_block ov2 g hg).2; have hqX := fun g hg => (row_block oq2 g hg).2; clear ov oq hr' bb b2)
          | (refine wp_store_head rfl (.tmp 7) (.tmp 14) rfl w2.heap.size rfl (h1 := H) (HBlk.new w2 hd0) rfl ?_; intro w4 h4 g4; have ov4 := row_kept (row_below ov2 (xnew w2 (.cells #[.int .i64 0, .int .i64 0, .int .i64 0, .int .i64 0, .int .i64 0] 23))) g4 (fun k hk q => by have := Option.some.inj hk; have := hvX _ q; omega); have oq4 := row_kept (row_below oq2 (xnew w2 (.cells #[.int .i64 0, .int .i64 0, .int .i64 0, .int .i64 0, .int .i64 0] 23))) g4 (fun k hk q => by have := Option.some.inj hk; have := hqX _ q; omega); have hr4 := rdb_grownM (hr2.below (xnew w2 (.cells #[.int .i64 0, .int .i64 0, .int .i64 0, .int .i64 0, .int .i64 0] 23))) g4 (fun x hx h0 e => by have := Option.some.inj e; have := hlow x hx h0; have := bb2.size; omega); have bb4 := gbelow (xtrans bb2 (xnew w2 (.cells #[.int .i64 0, .int .i64 0, .int .i64 0, .int .i64 0, .int .i64 0] 23))) g4 bb2.size; clear ov2 oq2 hr2 bb2 g4; generalize w2.heap.size = X at h4 hvX hqX ⊢)
          | fail)
        have hc4 := h4.cells.2.2.1
        go_wp2_with (first
          | (go_at_call 21; refine (cZ.out _).mono ?_; rintro e5 w5 ⟨rfl, rfl⟩)
          | (refine wp_load_head rfl (.tmp 7) rfl X rfl h4 ?_; unfold Hd.v)
          | (at_builtin; have hl7 : HBlk (w4.alloc (.cells #[.int .i64 H.kind, .int .i64 H.lba, .int .i64 H.len, .int .i64 H.seq, .int .i64 H.epoch] 23)) w4.heap.size H := HBlk.new w4 H; have b7 := xnew w4 (.cells #[.int .i64 H.kind, .int .i64 H.lba, .int .i64 H.len, .int .i64 H.seq, .int .i64 H.epoch] 23); have ov7 := row_below ov4 b7; have oq7 := row_below oq4 b7; have h7 := h4.below b7; have r7 := hr4.below b7; have bb7 := xtrans bb4 b7; clear ov4 oq4 h4 hr4 bb4 b7 hc4; generalize w4.heap.size = RH at hl7 ⊢; generalize w4.alloc (.cells #[.int .i64 H.kind, .int .i64 H.lba, .int .i64 H.len, .int .i64 H.seq, .int .i64 H.epoch] 23) = w7 at hl7 ov7 oq7 h7 r7 bb7 ⊢; refine wpList_of_wp rfl (wpo_append_one rowH (.tmp 30) (.tmp 32) rfl w.heap.size v i (cellsH (l.map Prod.fst)) rfl ov7 RH 1 (cells5 H) rfl rfl hl7.news (cells5_one H) (by omega) (by decide) bb7.size ?_); intro v8 w8 o8 g8 _; rw [show cellsH (l.map Prod.fst) ++ cells5 H = _ from cellsH_snoc _ H] at o8; have oq8 := row_kept oq7 g8 (fun k hk q => rows_ne ov7 oq7 (by decide) k hk q); have h8 := h7.grown g8 (fun e => by have := hvX _ e.symm; omega); have r8 := rdb_grownM r7 g8 (fun x hx h0 e => by have := (row_block ov7 _ e).1; have := hlow x hx h0; omega); have bb8 := bb7.grown g8 bb7.size (fun g hg => by have := (row_block ov7 g hg).1; omega); clear ov7 oq7 h7 r7 bb7 g8 hl7)
          | (at_builtin; have hc9 := cell_new0 w8 (.int .i64 (p : Int)) 3 (0, 0); have b9 := xnew w8 (.cells #[.int .i64 (p : Int)] 3); have ov9 := row_below o8 b9; have oq9 := row_below oq8 b9; have h9 := h8.below b9; have r9 := r8.below b9; have bb9 := xtrans bb8 b9; clear o8 oq8 h8 r8 bb8 b9; generalize w8.heap.size = RI at hc9 ⊢; generalize w8.alloc (.cells #[.int .i64 (p : Int)] 3) = w9 at hc9 ov9 oq9 h9 r9 bb9 ⊢; refine wpList_of_wp rfl (wpo_append_one rowI (.tmp 34) (.tmp 36) rfl w.heap.size q i (nv .i64 (l.map Prod.snd)) rfl oq9 RI 1 [.int .i64 (p : Int)] rfl rfl (news_one hc9) (one_int _ _) (by omega) (by decide) bb9.size ?_); intro v10 w10 o10 g10 _; rw [nv_snoc] at o10; have ov10 := row_kept ov9 g10 (fun k hk q => rows_ne oq9 ov9 (by decide) k hk q); have h10 := h9.grown g10 (fun e => by have := hqX _ e.symm; omega); have r10 := rdb_grownM r9 g10 (fun x hx h0 e => by have := (row_block oq9 _ e).1; have := hlow x hx h0; omega); have bb10 := bb9.grown g10 bb9.size (fun g hg => by have := (row_block oq9 g hg).1; omega); clear ov9 oq9 h9 r9 bb9 g10 hc9; have hc10 := h10.cells.2.2.1)
          | fail)
        refine ⟨⟨i + 1, p2, l ++ [(H, p)], v8, v10, rfl, rfl, by go_num, ?_, ?_, ?_, r10, bb10⟩, by simp [intOf]; omega⟩
        · rw [HP2.out, HHH.out]; exact HL.out.step HS.out HH41.out
        · rw [List.map_append]; exact ov10
        · rw [List.map_append]; exact o10
      · have HZ : Hid (nextS bs p = 0) := Lib.hid (by unfold nextS; rw [if_neg (fun h => hsz h.2)])
        have dl : decide ((rest : Int) < sizeF (readN (bs.drop p)).len) = true := decide_eq_true (by rw [hbl] at hsz; omega)
        generalize sizeF (readN (bs.drop p)).len = z at cZ dl hn0
        obtain ⟨H, hH⟩ : ∃ H, H = readN (bs.drop p) := ⟨_, rfl⟩
        rw [← hH] at cR cZ
        clear hRB hbl hrest hH hsz
        go_upto_region 5 with (first
          | (refine wp_slice_from rfl (.tmp 10) (.tmp 11) rfl rfl rfl us HI.out.1 HI.out.2 hp ?_)
          | (go_at_call 17; refine (cR.out _ (hr'.cut p hp)).mono ?_; rintro e2 w2 ⟨rfl, b2⟩; have ov2 := row_below ov b2; have oq2 := row_below oq b2; have hr2 := hr'.below b2; have bb2 := xtrans bb b2; have hvX := fun g hg => (row_block ov2 g hg).2; have hqX := fun g hg => (row_block oq2 g hg).2; clear ov oq hr' bb b2)
          | (refine wp_store_head rfl (.tmp 7) (.tmp 14) rfl w2.heap.size rfl (h1 := H) (HBlk.new w2 hd0) rfl ?_; intro w4 h4 g4; have ov4 := row_kept (row_below ov2 (xnew w2 (.cells #[.int .i64 0, .int .i64 0, .int .i64 0, .int .i64 0, .int .i64 0] 23))) g4 (fun k hk q => by have := Option.some.inj hk; have := hvX _ q; omega); have oq4 := row_kept (row_below oq2 (xnew w2 (.cells #[.int .i64 0, .int .i64 0, .int .i64 0, .int .i64 0, .int .i64 0] 23))) g4 (fun k hk q => by have := Option.some.inj hk; have := hqX _ q; omega); have hr4 := rdb_grownM (hr2.below (xnew w2 (.cells #[.int .i64 0, .int .i64 0, .int .i64 0, .int .i64 0, .int .i64 0] 23))) g4 (fun x hx h0 e => by have := Option.some.inj e; have := hlow x hx h0; have := bb2.size; omega); have bb4 := gbelow (xtrans bb2 (xnew w2 (.cells #[.int .i64 0, .int .i64 0, .int .i64 0, .int .i64 0, .int .i64 0] 23))) g4 bb2.size; clear ov2 oq2 hr2 bb2 g4; generalize w2.heap.size = X at h4 hvX hqX ⊢)
          | fail)
        have hc4 := h4.cells.2.2.1
        go_wp2_with (first
          | (go_at_call 21; refine (cZ.out _).mono ?_; rintro e5 w5 ⟨rfl, rfl⟩)
          | fail)
        go_ret2
        have he := HL.out.end HZ.out
        have hl := HL.out.1
        refine ⟨v, q, i, rfl, by rw [he]; exact hl, by omega, ?_, ?_, bb4⟩
        · rw [he]; exact ov4
        · rw [he]; exact oq4
end Go.Proofs.Ytpcppnoomogloaa.Fr
