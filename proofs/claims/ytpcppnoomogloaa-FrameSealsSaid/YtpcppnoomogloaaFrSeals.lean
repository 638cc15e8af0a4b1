/- The walk of the statement FrameSeals. -/
import Derived.Test.YtpcppnoomogloaaFrA
import Derived.Test.YtpcppnoomogloaaFrY1
import Derived.Test.YtpcppnoomogloaaFrR6
import Derived.Test.YtpcppnoomogloaaFrR7
set_option maxRecDepth 4000
namespace Go.Proofs.Ytpcppnoomogloaa.Fr
set_option linter.unusedSimpArgs false
set_option linter.unusedVariables false
open Go.RowKit

set_option maxRecDepth 100000 in
set_option maxHeartbeats 4000000 in
theorem seals_walk (h : Hd) (key : List Nat) (a : Option Addr) (la ca : Nat) (xa : List Nat) (b : Option Addr) (lb cb : Nat) (xb : List Nat) (w : World) (hk : key.length = 32) (hkb : ∀ x ∈ key, x < 256) (hra : Row8 w a la ca xa) (hrb : Row8 w b lb cb xb) : Calls Try.prog 7 #[h.v, .agg (bv key).toArray, .slice a la ca, .slice b lb cb] w fun e w' => e = .returned (.bool true) ∧ Below w.heap.size w w' := by
  have hlea : la ≤ 9223372036854775807 := by have := hra.2.1; have := hra.2.2.1; omega
  have hleb : lb ≤ 9223372036854775807 := by have := hrb.2.1; have := hrb.2.2.1; omega
  have u8 := Try.underlying5
  have us := Try.underlying25
  have ut := Try.underlying9
  have HK := Lib.hid (show (Try.prog.info? 35).map (·.size) = some key.length by rw [hk]; kernel_rfl)
  have HK3 := Lib.hid (show (Try.prog.info? 35).map (·.size) = some (nv .u8 key).length by rw [nv_length, hk]; kernel_rfl)
  have u32 := Try.underlying35
  show Calls Try.prog 7 #[.agg #[.int .i64 h.kind, .int .i64 h.lba, .int .i64 h.len, .int .i64 h.seq, .int .i64 h.epoch], .agg (nv .u8 key).toArray, .slice a la ca, .slice b lb cb] w _
  by_cases hall : la ≤ 300 ∧ lb ≤ 400
  · obtain ⟨ha3, hb3⟩ := hall
    have hRa : RdB w a la ca xa := ⟨by omega, hra⟩
    have hRb : RdB w b lb cb xb := ⟨by omega, hrb⟩
    have d1 : decide ((la : Int) > 300) = false := decide_eq_false (by omega)
    have d2 : decide ((lb : Int) > 400) = false := decide_eq_false (by omega)
    have hal : xa.length = la := hra.1
    have hbl : xb.length = lb := hrb.1
    have cS := Lib.hid (fun (W : World) (hr : RdB W a la ca xa) => Seal_any W h key a la ca xa hk hkb hr)
    have cT := Lib.hid (fun (W : World) (hr : RdB W a la ca xa) => rSeal_any W h key a la ca xa hk hkb hr)
    have cO := Lib.hid (fun (W : World) (hr : RdB W b lb cb xb) => Open_any W key b lb cb xb hk hkb hr (by omega))
    have cP := Lib.hid (fun (W : World) (hr : RdB W b lb cb xb) => rOpen_any W key b lb cb xb hk hkb hr (by omega))
    unfold SealOK at cS cT
    unfold OpenFOK at cO cP
    have hsl : (sealF h key xa).length ≤ 1000 := by
      cases hs : sealB h xa with
      | true => have := (sealF_length (key := key) hs).2; omega
      | false => rw [(seal_no key hs).2]; simp
    have hol : (openG key xb).2.1.length ≤ 1000 := by
      unfold openG
      split
      · have h1 := Ae.openB_length key (nonceB (readN xb)) (xb.drop 24) (xb.take 24)
        unfold Ae.openB at h1
        split
        · rename_i p hp
          rw [hp] at h1
          rw [List.length_drop] at h1
          simp at h1 ⊢
          omega
        · simp
      · simp
    generalize sealF h key xa = xs at cS cT hsl
    generalize sealE h xa = c at cS cT
    generalize (openG key xb).2.1 = ys at cO cP hol
    generalize (openG key xb).1 = g at cO cP
    generalize (openG key xb).2.2 = d at cO cP
    have HS := Lib.hid (And.intro hsl hol)
    clear hsl hol hal hbl
    go_enter Try.func7, Try.ntmps7
    have s0 : HW w [(w.heap.size, h)] [(w.heap.size + 1, 35, .u8, key)] [(a, la, ca, xa), (b, lb, cb, xb)] ((w.alloc (.cells #[.int .i64 h.kind, .int .i64 h.lba, .int .i64 h.len, .int .i64 h.seq, .int .i64 h.epoch] 23)).alloc (.cells (nv .u8 key).toArray 35)) := by
      have h1 := (((LW.nil (xrefl w)).addR hRb).addR hRa).alloc (.cells #[.int .i64 h.kind, .int .i64 h.lba, .int .i64 h.len, .int .i64 h.seq, .int .i64 h.epoch] 23)
      have h2 : HW w [(w.heap.size, h)] [] _ _ := ⟨by simp; exact HBlk.new w h, h1⟩
      have h3 := h2.new 35 .u8 key
      rw [World.size_alloc] at h3
      exact h3
    clear hra hrb hRa hRb
    go_wp2_with (first
      | (go_at_call 11; refine (awake_any _).mono ?_; rintro e1 w1 ⟨rfl, b1⟩; have s1 := s0.below b1; clear s0 b1)
      | (refine wp_load_head rfl (.tmp 4) rfl (w.heap.size) rfl (s1.hd 0 rfl) ?_)
      | (refine wp_load_arr rfl 35 (.tmp 5) rfl (w.heap.size + 1) rfl (s1.2.blk 0 rfl) 32 5 Try.underlying35 HK.out ?_)
      | (go_at_call 15; refine (cS.out _ (s1.2.rd 0 rfl)).mono ?_; rintro e2 w2 ⟨a2, n2, c2, rfl, l2, p2, b2⟩; have s2 := (s1.below b2).addR (p2.rdb l2 (by have := HS.out; omega)); clear s1 p2 b2)
      | (refine wp_load_head rfl (.tmp 4) rfl (w.heap.size) rfl (s2.hd 0 rfl) ?_)
      | (refine wp_load_arr rfl 35 (.tmp 5) rfl (w.heap.size + 1) rfl (s2.2.blk 0 rfl) 32 5 Try.underlying35 HK.out ?_)
      | (go_at_call 22; refine (cT.out _ (s2.2.rd 1 rfl)).mono ?_; rintro e3 w3 ⟨a3, n3, c3, rfl, l3, p3, b3⟩; have s3 := (s2.below b3).addR (p3.rdb l3 (by have := HS.out; omega)); clear s2 p3 b3)
      | (refine wp_load_arr rfl 35 (.tmp 5) rfl (w.heap.size + 1) rfl (s3.2.blk 0 rfl) 32 5 Try.underlying35 HK.out ?_)
      | (go_at_call 23; refine (cO.out _ (s3.2.rd 3 rfl)).mono ?_; rintro e4 w4 ⟨a4, n4, c4, rfl, l4, p4, b4⟩; have s4 := (s3.below b4).addR (p4.rdb l4 (by have := HS.out; omega)); clear s3 p4 b4)
      | (refine wp_store_head rfl (.tmp 14) (.tmp 48) rfl w4.heap.size rfl (h1 := g) (HBlk.new w4 hd0) rfl ?_; intro W4 hX g; have t4 := s4.store hX g; clear s4 hX g; generalize w4.heap.size = X4 at t4 ⊢)
      | (refine wp_load_arr rfl 35 (.tmp 5) rfl (w.heap.size + 1) rfl (t4.2.blk 0 rfl) 32 5 Try.underlying35 HK.out ?_)
      | (go_at_call 24; refine (cP.out _ (t4.2.rd 4 rfl)).mono ?_; rintro e5 w5 ⟨a5, n5, c5, rfl, l5, p5, b5⟩; have s5 := (t4.below b5).addR (p5.rdb l5 (by have := HS.out; omega)); clear t4 p5 b5)
      | (refine wp_store_head rfl (.tmp 17) (.tmp 55) rfl w5.heap.size rfl (h1 := g) (HBlk.new w5 hd0) rfl ?_; intro W5 hX gX; have t5 := s5.store hX gX; clear s5 hX gX; generalize w5.heap.size = X5 at t5 ⊢; have g1 := run_str us u8 ut (t5.2.rd 2 rfl).2; have g2 := run_str us u8 ut (t5.2.rd 3 rfl).2; have g3 := run_str us u8 ut (t5.2.rd 0 rfl).2; have g4 := run_str us u8 ut (t5.2.rd 1 rfl).2)
      | (refine wp_load_head rfl (.tmp 14) rfl X4 rfl (t5.hd 1 rfl) ?_)
      | (refine wp_load_head rfl (.tmp 17) rfl X5 rfl (t5.hd 0 rfl) ?_)
      | (refine wp_eql_head rfl rfl rfl rfl ?_; rw [Hd.same_self])
      | fail)
    go_ret
    exact ⟨rfl, t5.2.bel⟩
  · have hsplit : decide ((la : Int) > 300) = true ∨ (decide ((la : Int) > 300) = false ∧ decide ((lb : Int) > 400) = true) := by
      simp only [decide_eq_true_eq, decide_eq_false_iff_not]
      omega
    have box : Below w.heap.size w ((w.alloc (.cells #[.int .i64 h.kind, .int .i64 h.lba, .int .i64 h.len, .int .i64 h.seq, .int .i64 h.epoch] 23)).alloc (.cells (nv .u8 key).toArray 35)) := xalloc (xnew _ _) _
    clear hall
    rcases hsplit with d1 | ⟨d1, d2⟩
    all_goals
      go_enter Try.func7, Try.ntmps7
      go_wp2_with (first
        | (go_at_call 11; refine (awake_any _).mono ?_; rintro e1 w1 ⟨rfl, b1⟩)
        | fail)
      go_ret
      exact ⟨rfl, xtrans box b1⟩
end Go.Proofs.Ytpcppnoomogloaa.Fr
