/- The walk of the statement AeadBack. -/
import Derived.Test.YtoajhlidbogbcaaAeA
import Derived.Test.YtoajhlidbogbcaaAeWs
namespace Go.Proofs.Ytoajhlidbogbcaa.Ae
set_option linter.unusedSimpArgs false
set_option linter.unusedVariables false
open Go.RowKit

theorem openB_seal (key nonce xa xb : List Nat) : openB key nonce (sealA key nonce xa xb) xb = xa := by unfold openB; rw [open_seal]; rfl
theorem openE_seal (key nonce xa xb : List Nat) : openE key nonce (sealA key nonce xa xb) xb = 0 := by unfold openE; rw [open_seal]; rfl

set_option maxRecDepth 100000 in
set_option maxHeartbeats 4000000 in
theorem back_walk (key nonce : List Nat) (a : Option Addr) (la ca : Nat) (xa : List Nat) (b : Option Addr) (lb cb : Nat) (xb : List Nat) (w : World) (hk : key.length = 32) (hkb : ∀ x ∈ key, x < 256) (hn : nonce.length = 12) (hnb : ∀ x ∈ nonce, x < 256) (hra : Row8 w a la ca xa) (hrb : Row8 w b lb cb xb) :
    Calls Try.prog 5 #[.agg (bv key).toArray, .agg (bv nonce).toArray, .slice a la ca, .slice b lb cb] w fun e w' => e = .returned (.bool true) ∧ Below w.heap.size w w' := by
  have hlea : la ≤ 9223372036854775807 := by have := hra.2.1; have := hra.2.2.1; omega
  have hleb : lb ≤ 9223372036854775807 := by have := hrb.2.1; have := hrb.2.2.1; omega
  have HK := Lib.hid (show (Try.prog.info? 22).map (·.size) = some key.length by rw [hk]; kernel_rfl)
  have HN := Lib.hid (show (Try.prog.info? 23).map (·.size) = some nonce.length by rw [hn]; kernel_rfl)
  have HK3 := Lib.hid (show (Try.prog.info? 22).map (·.size) = some (nv .u8 key).length by rw [nv_length, hk]; kernel_rfl)
  have HN3 := Lib.hid (show (Try.prog.info? 23).map (·.size) = some (nv .u8 nonce).length by rw [nv_length, hn]; kernel_rfl)
  have u32 := Try.underlying22
  have u12 := Try.underlying23
  have u8 := Try.underlying5
  have us := Try.underlying24
  have ut := Try.underlying9
  have HKL := Lib.hid hk
  have HNL := Lib.hid hn
  clear hk hn
  by_cases hall : la ≤ 200 ∧ lb ≤ 200
  · obtain ⟨ha2, hb2⟩ := hall
    have hRa : RdB w a la ca xa := ⟨by omega, hra⟩
    have hRb : RdB w b lb cb xb := ⟨by omega, hrb⟩
    have d1 : decide ((200 : Int) < (la : Int)) = false := decide_eq_false (by omega)
    have d2 : decide ((200 : Int) < (lb : Int)) = false := decide_eq_false (by omega)
    have ha3 : la ≤ 1000000 := by omega
    have hb3 : lb ≤ 1000000 := by omega
    have hal : xa.length = la := hra.1
    have hbl : xb.length = lb := hrb.1
    have hab := hra.2.2.2.1
    have hbb := hrb.2.2.2.1
    have hsl := sealA_length key nonce xa xb
    rw [hal] at hsl
    have hxl : (St.xorS key 1 nonce xa).length = la := by rw [St.xorS_length]; exact hal
    have hst := seal_take key nonce xa xb
    rw [hal] at hst
    have hf : St.fits 1 la := by unfold St.fits; omega
    obtain ⟨ls, hls⟩ : ∃ ls, ls = la + 16 := ⟨_, rfl⟩
    rw [← hls] at hsl
    have hl16 : (la : Int) + 16 = (ls : Int) := by omega
    have hls3 : ls ≤ 1000000 := by omega
    have HAL := Lib.hid hal
    have cO := Lib.hid (fun (W : World) (ad : Option Addr) (cp : Nat) (h1 : RdB W ad ls cp (sealA key nonce xa xb)) (h2 : RdB W b lb cb xb) => Open_any W key nonce ad ls cp (sealA key nonce xa xb) b lb cb xb HKL.out hkb HNL.out hnb h1 h2 hls3 hb3)
    rw [openB_seal, openE_seal] at cO
    have cS := Lib.hid (fun (W : World) (h1 : RdB W a la ca xa) (h2 : RdB W b lb cb xb) => Seal_any W key nonce a la ca xa b lb cb xb HKL.out hkb HNL.out hnb h1 h2 ha3 hb3)
    rw [← hls] at cS
    have cX := Lib.hid (fun (W : World) (h1 : RdB W a la ca xa) => St.Xor_any W key nonce 1 a la ca xa HKL.out hkb HNL.out hnb (by decide) h1 hf)
    generalize sealA key nonce xa xb = sl at cO cS hsl hst
    generalize St.xorS key 1 nonce xa = xs at cX hxl hst
    have HSL := Lib.hid hsl
    have HXL := Lib.hid hxl
    have HST := Lib.hid hst
    have hls4 : ls ≤ 1000000000 := by omega
    have hwas : ((strB xa).toList == (strB xa).toList) = true := beq_self_eq_true _
    clear hsl hxl hst hf hls hal hbl
    go_enter Try.func5, Try.ntmps5
    have s0 : LW w [(w.heap.size + 1, 23, .u8, nonce), (w.heap.size, 22, .u8, key)] [(a, la, ca, xa), (b, lb, cb, xb)] ((w.alloc (.cells (nv .u8 key).toArray 22)).alloc (.cells (nv .u8 nonce).toArray 23)) := by
      have := ((((LW.nil (xrefl w)).addR hRb).addR hRa).new 22 .u8 key).new 23 .u8 nonce
      rw [World.size_alloc] at this
      exact this
    clear hra hrb hRa hRb
    go_wp2_with (first
      | (go_at_call 8; refine (awake_any _).mono ?_; rintro e w1 ⟨rfl, hb1⟩; have s1 := s0.below hb1; clear s0 hb1; have st1 := run_str us u8 ut (s1.rd 0 rfl).2)
      | (refine wp_load_arr rfl 22 (.tmp 4) rfl w.heap.size rfl (s1.blk 1 rfl) 32 5 Try.underlying22 HK.out ?_)
      | (refine wp_load_arr rfl 23 (.tmp 5) rfl (w.heap.size + 1) rfl (s1.blk 0 rfl) 12 5 Try.underlying23 HN.out ?_)
      | fail)
    refine (cS.out _ (s1.rd 0 rfl) (s1.rd 1 rfl)).mono ?_
    rintro e w3 ⟨ad3, cp3, rfl, p3, b3⟩
    have s3 := (s1.below b3).addR (p3.rdb HSL.out hls4)
    clear s1 b3 p3 st1
    go_wp2_with (first
      | (refine wp_load_arr rfl 22 (.tmp 4) rfl w.heap.size rfl (s3.blk 1 rfl) 32 5 Try.underlying22 HK.out ?_)
      | (refine wp_load_arr rfl 23 (.tmp 5) rfl (w.heap.size + 1) rfl (s3.blk 0 rfl) 12 5 Try.underlying23 HN.out ?_)
      | fail)
    refine (cO.out _ _ _ (s3.rd 0 rfl) (s3.rd 2 rfl)).mono ?_
    rintro e w5 ⟨ad5, n5, cp5, rfl, l5, p5, b5⟩
    obtain rfl : n5 = la := l5.symm.trans HAL.out
    have s5 := (s3.below b5).addR (p5.rdb l5 (by omega))
    clear s3 b5 p5 l5
    go_wp2_with (first
      | (refine wp_load_arr rfl 22 (.tmp 4) rfl w.heap.size rfl (s5.blk 1 rfl) 32 5 Try.underlying22 HK.out ?_)
      | (refine wp_load_arr rfl 23 (.tmp 5) rfl (w.heap.size + 1) rfl (s5.blk 0 rfl) 12 5 Try.underlying23 HN.out ?_)
      | fail)
    refine (cX.out _ (s5.rd 2 rfl)).mono ?_
    intro e w7 h
    obtain ⟨ad7, cp7, rfl, p7, b7⟩ := St.XorOK.at (n := n5) h HXL.out
    have s7 := (s5.below b7).addR (p7.rdb HXL.out (by omega))
    clear s5 b7 p7 h
    have hcp3 : (n5 : Int) ≤ (cp3 : Int) := by have := (s7.rd 2 rfl).2.2.1; omega
    go_wp2_with fail
    refine wp_region_class (LW w [(w.heap.size + 1, 23, .u8, nonce), (w.heap.size, 22, .u8, key)] [(ad7, n5, cp7, xs), (ad5, n5, cp5, xa), (ad3, ls, cp3, sl), (a, n5, ca, xa), (b, lb, cb, xb)]) (by kernel_rfl) (by kernel_rfl) (s7.drew) ?_
    refine qY (v := ?_) rfl ?_ ?_
    rotate_left
    · (intro w' _; go_simp; try with_reducible rfl)
    rotate_left
    try simp only [Act.put, List.setIfInBounds_toArray, List.set_cons_zero, List.set_cons_succ]
    refine qY (v := ?_) rfl ?_ ?_
    rotate_left
    · (intro w' _; go_simp; try with_reducible rfl)
    rotate_left
    try simp only [Act.put, List.setIfInBounds_toArray, List.set_cons_zero, List.set_cons_succ]
    refine qY (v := ?_) rfl ?_ ?_
    rotate_left
    · (intro w' _; go_simp; try with_reducible rfl)
    rotate_left
    try simp only [Act.put, List.setIfInBounds_toArray, List.set_cons_zero, List.set_cons_succ]
    refine qY (v := ?_) rfl ?_ ?_
    rotate_left
    · (intro w' _; go_simp; try with_reducible rfl)
    rotate_left
    try simp only [Act.put, List.setIfInBounds_toArray, List.set_cons_zero, List.set_cons_succ]
    refine qY (v := ?_) rfl ?_ ?_
    rotate_left
    · (intro w' _; go_simp; try with_reducible rfl)
    rotate_left
    try simp only [Act.put, List.setIfInBounds_toArray, List.set_cons_zero, List.set_cons_succ]
    refine qY (v := ?_) rfl ?_ ?_
    rotate_left
    · (intro w' _; go_simp; try with_reducible rfl)
    rotate_left
    try simp only [Act.put, List.setIfInBounds_toArray, List.set_cons_zero, List.set_cons_succ]
    refine qY (v := ?_) rfl ?_ ?_
    rotate_left
    · (intro w' _; go_simp; try with_reducible rfl)
    rotate_left
    try simp only [Act.put, List.setIfInBounds_toArray, List.set_cons_zero, List.set_cons_succ]
    refine qY (v := ?_) rfl ?_ ?_
    rotate_left
    · (intro w' _; go_simp; try with_reducible rfl)
    rotate_left
    try simp only [Act.put, List.setIfInBounds_toArray, List.set_cons_zero, List.set_cons_succ]
    refine qY (v := ?_) rfl ?_ ?_
    rotate_left
    · (intro w' _; go_simp; try with_reducible rfl)
    rotate_left
    try simp only [Act.put, List.setIfInBounds_toArray, List.set_cons_zero, List.set_cons_succ]
    refine qY (v := ?_) rfl ?_ ?_
    rotate_left
    · (intro w' _; go_simp; try with_reducible rfl)
    rotate_left
    try simp only [Act.put, List.setIfInBounds_toArray, List.set_cons_zero, List.set_cons_succ]
    refine qY (v := ?_) rfl ?_ ?_
    rotate_left
    · (intro w' _; go_simp; try with_reducible rfl)
    rotate_left
    try simp only [Act.put, List.setIfInBounds_toArray, List.set_cons_zero, List.set_cons_succ]
    refine qY (v := ?_) rfl ?_ ?_
    rotate_left
    · (intro w' _; go_simp; try with_reducible rfl)
    rotate_left
    try simp only [Act.put, List.setIfInBounds_toArray, List.set_cons_zero, List.set_cons_succ]
    refine qY (v := ?_) rfl ?_ ?_
    rotate_left
    · (intro w' _; go_simp; try with_reducible rfl)
    rotate_left
    try simp only [Act.put, List.setIfInBounds_toArray, List.set_cons_zero, List.set_cons_succ]
    refine qY (v := ?_) rfl ?_ ?_
    rotate_left
    · (intro w' _; go_simp; try with_reducible rfl)
    rotate_left
    try simp only [Act.put, List.setIfInBounds_toArray, List.set_cons_zero, List.set_cons_succ]
    refine qY (v := ?_) rfl ?_ ?_
    rotate_left
    · (intro w' _; go_simp; try with_reducible rfl)
    rotate_left
    try simp only [Act.put, List.setIfInBounds_toArray, List.set_cons_zero, List.set_cons_succ]
    refine qI (v := .string (strB xa)) (yieldsStr (by rfl) (x := .tmp 72) rfl (by rfl) us u8 ut (fun W h => (h.rd 1 rfl).2)) ?_
    try simp only [Act.put, List.setIfInBounds_toArray, List.set_cons_zero, List.set_cons_succ]
    refine qY (v := ?_) rfl ?_ ?_
    rotate_left
    · (intro w' _; go_simp; try with_reducible rfl)
    rotate_left
    try simp only [Act.put, List.setIfInBounds_toArray, List.set_cons_zero, List.set_cons_succ]
    refine qI (v := .bool true) (yieldsEqS (by rfl) rfl (by rfl) (by rfl) hwas) ?_
    try simp only [Act.put, List.setIfInBounds_toArray, List.set_cons_zero, List.set_cons_succ]
    refine qY (v := ?_) rfl ?_ ?_
    rotate_left
    · (intro w' _; go_simp; try with_reducible rfl)
    rotate_left
    try simp only [Act.put, List.setIfInBounds_toArray, List.set_cons_zero, List.set_cons_succ]
    refine qY (v := ?_) rfl ?_ ?_
    rotate_left
    · (intro w' _; go_simp; try with_reducible rfl)
    rotate_left
    try simp only [Act.put, List.setIfInBounds_toArray, List.set_cons_zero, List.set_cons_succ]
    refine qY (v := ?_) rfl ?_ ?_
    rotate_left
    · (intro w' _; go_simp; try with_reducible rfl)
    rotate_left
    try simp only [Act.put, List.setIfInBounds_toArray, List.set_cons_zero, List.set_cons_succ]
    refine qI (v := .string (strB xa)) (yieldsStr (by rfl) (x := .tmp 78) rfl (by rfl) us u8 ut (fun W h => (h.rd 3 rfl).2)) ?_
    try simp only [Act.put, List.setIfInBounds_toArray, List.set_cons_zero, List.set_cons_succ]
    refine qY (v := ?_) rfl ?_ ?_
    rotate_left
    · (intro w' _; go_simp; try with_reducible rfl)
    rotate_left
    try simp only [Act.put, List.setIfInBounds_toArray, List.set_cons_zero, List.set_cons_succ]
    refine qI (v := .bool true) (yieldsEqS (by rfl) rfl (by rfl) (by rfl) hwas) ?_
    try simp only [Act.put, List.setIfInBounds_toArray, List.set_cons_zero, List.set_cons_succ]
    refine qY (v := ?_) rfl ?_ ?_
    rotate_left
    · (intro w' _; go_simp; try with_reducible rfl)
    rotate_left
    try simp only [Act.put, List.setIfInBounds_toArray, List.set_cons_zero, List.set_cons_succ]
    refine qY (v := ?_) rfl ?_ ?_
    rotate_left
    · (intro w' _; go_simp; try with_reducible rfl)
    rotate_left
    try simp only [Act.put, List.setIfInBounds_toArray, List.set_cons_zero, List.set_cons_succ]
    refine qY (v := ?_) rfl ?_ ?_
    rotate_left
    · (intro w' _; go_simp; try with_reducible rfl)
    rotate_left
    try simp only [Act.put, List.setIfInBounds_toArray, List.set_cons_zero, List.set_cons_succ]
    refine qY (v := ?_) rfl ?_ ?_
    rotate_left
    · (intro w' _; go_simp; try with_reducible rfl)
    rotate_left
    try simp only [Act.put, List.setIfInBounds_toArray, List.set_cons_zero, List.set_cons_succ]
    refine qY (v := ?_) rfl ?_ ?_
    rotate_left
    · (intro w' _; go_simp; try with_reducible rfl)
    rotate_left
    try simp only [Act.put, List.setIfInBounds_toArray, List.set_cons_zero, List.set_cons_succ]
    refine qY (v := ?_) rfl ?_ ?_
    rotate_left
    · (intro w' _; go_simp; try with_reducible rfl)
    rotate_left
    try simp only [Act.put, List.setIfInBounds_toArray, List.set_cons_zero, List.set_cons_succ]
    refine qI (v := .string (strB xs)) (yieldsStr (by rfl) (x := .tmp 87) rfl (by rfl) us u8 ut (fun W h => (HST.out ▸ (rdb_take (h.rd 2 rfl) n5 (by omega))).2)) ?_
    try simp only [Act.put, List.setIfInBounds_toArray, List.set_cons_zero, List.set_cons_succ]
    refine qY (v := ?_) rfl ?_ ?_
    rotate_left
    · (intro w' _; go_simp; try with_reducible rfl)
    rotate_left
    try simp only [Act.put, List.setIfInBounds_toArray, List.set_cons_zero, List.set_cons_succ]
    refine qI (v := .string (strB xs)) (yieldsStr (by rfl) (x := .tmp 89) rfl (by rfl) us u8 ut (fun W h => (h.rd 0 rfl).2)) ?_
    try simp only [Act.put, List.setIfInBounds_toArray, List.set_cons_zero, List.set_cons_succ]
    refine qI (v := .bool true) (yieldsEqS (by rfl) rfl (by rfl) (by rfl) (beq_self_eq_true _)) ?_
    try simp only [Act.put, List.setIfInBounds_toArray, List.set_cons_zero, List.set_cons_succ]
    refine qY (v := ?_) rfl ?_ ?_
    rotate_left
    · (intro w' _; go_simp; try with_reducible rfl)
    rotate_left
    try simp only [Act.put, List.setIfInBounds_toArray, List.set_cons_zero, List.set_cons_succ]
    refine qY (v := ?_) rfl ?_ ?_
    rotate_left
    · (intro w' _; go_simp; try with_reducible rfl)
    rotate_left
    try simp only [Act.put, List.setIfInBounds_toArray, List.set_cons_zero, List.set_cons_succ]
    refine wpQuiet_nil ?_
    intro wz sZ
    go_wp2_with fail
    go_ret
    exact ⟨rfl, sZ.bel⟩
  · have hsplit : decide ((200 : Int) < (la : Int)) = true ∨ (decide ((200 : Int) < (la : Int)) = false ∧ decide ((200 : Int) < (lb : Int)) = true) := by
      simp only [decide_eq_true_eq, decide_eq_false_iff_not]
      omega
    have box : Below w.heap.size w ((w.alloc (.cells (nv .u8 key).toArray 22)).alloc (.cells (nv .u8 nonce).toArray 23)) := xalloc (xnew _ _) _
    clear hall
    rcases hsplit with d1 | ⟨d1, d2⟩
    all_goals
      go_enter Try.func5, Try.ntmps5
      go_wp2_with (first
        | (go_at_call 8; refine (awake_any _).mono ?_; rintro e w1 ⟨rfl, hb1⟩)
        | fail)
      go_ret
      exact ⟨rfl, xtrans box hb1⟩
end Go.Proofs.Ytoajhlidbogbcaa.Ae
