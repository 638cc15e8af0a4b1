/- The walk of the statement FrameHeads. -/
import Derived.Test.YtpcppnoomogloaaFrA
import Derived.Test.YtpcppnoomogloaaFrR5
import Derived.Test.YtpcppnoomogloaaFrY1
set_option maxRecDepth 4000
namespace Go.Proofs.Ytpcppnoomogloaa.Fr
set_option linter.unusedSimpArgs false
set_option linter.unusedVariables false
open Go.RowKit

set_option maxRecDepth 100000 in
set_option maxHeartbeats 4000000 in
theorem heads_walk (h : Hd) (b : Option Addr) (lb cb : Nat) (bs : List Nat) (n : Int) (w : World) (hr : Row8 w b lb cb bs) (hn : -9223372036854775808 ≤ n ∧ n ≤ 9223372036854775807) : Calls Try.prog 6 #[h.v, .slice b lb cb, .int .i64 n] w fun e w' => e = .returned (.bool true) ∧ Below w.heap.size w w' := by
  have hlm : lb ≤ 9223372036854775807 := by have := hr.2.1; have := hr.2.2.1; omega
  have hb0 := HBlk.new w h
  have bb0 := xnew w (.cells #[.int .i64 h.kind, .int .i64 h.lba, .int .i64 h.len, .int .i64 h.seq, .int .i64 h.epoch] 23)
  have u8 := Try.underlying5
  have us := Try.underlying25
  have ut := Try.underlying9
  by_cases h3 : lb ≤ 300
  · have hd : decide ((lb : Int) > 300) = false := decide_eq_false (by omega)
    have hR : RdB w b lb cb bs := ⟨by omega, hr⟩
    have cW := Lib.hid (fun W => Write_any W h)
    have cV := Lib.hid (fun W => rWrite_any W h)
    have cC := Lib.hid (fun W => Check_any W h)
    have cD := Lib.hid (fun W => rCheck_any W h)
    have cR := Lib.hid (fun (W : World) (h : RdB W b lb cb bs) => Read_any W b lb cb bs h)
    have cQ := Lib.hid (fun (W : World) (h : RdB W b lb cb bs) => rRead_any W b lb cb bs h)
    have cZ := Lib.hid (fun W => Size_any W n)
    have cY := Lib.hid (fun W => rSizeF_any W n)
    unfold WriteOK at cW cV
    unfold ReadOK at cR cQ
    have hwl : (writeB h).length ≤ 24 := by unfold writeB; split <;> simp [headB_length]
    generalize writeB h = xs at cW cV hwl
    generalize okE h = c at cW cV cC cD
    generalize readH bs = g at cR cQ
    generalize readE bs = d at cR cQ
    generalize sizeF n = z at cZ cY
    have HWL := Lib.hid hwl
    clear hwl
    show Calls Try.prog 6 #[.agg #[.int .i64 h.kind, .int .i64 h.lba, .int .i64 h.len, .int .i64 h.seq, .int .i64 h.epoch], .slice b lb cb, .int .i64 n] w _
    go_enter Try.func6, Try.ntmps6
    have s0 : HW w [(w.heap.size, h)] [] [(b, lb, cb, bs)] (w.alloc (.cells #[.int .i64 h.kind, .int .i64 h.lba, .int .i64 h.len, .int .i64 h.seq, .int .i64 h.epoch] 23)) := ⟨by simp; exact hb0, (LW.nil bb0).addR (hR.below bb0)⟩
    clear hr hR hb0 bb0
    go_wp2_with (first
      | (go_at_call 11; refine (awake_any _).mono ?_; rintro e1 w1 ⟨rfl, b1⟩; have s1 := s0.below b1; clear s0 b1)
      | (refine wp_load_head rfl (.tmp 3) rfl (w.heap.size) rfl (s1.hd 0 rfl) ?_)
      | (go_at_call 12; refine (cW.out _).mono ?_; rintro e2 w2 ⟨a2, n2, c2, rfl, l2, p2, b2⟩; have s2 := (s1.below b2).addR (p2.rdb l2 (by have := HWL.out; omega)); clear s1 p2 b2)
      | (refine wp_load_head rfl (.tmp 3) rfl (w.heap.size) rfl (s2.hd 0 rfl) ?_)
      | (go_at_call 16; refine (cV.out _).mono ?_; rintro e3 w3 ⟨a3, n3, c3, rfl, l3, p3, b3⟩; have s3 := (s2.below b3).addR (p3.rdb l3 (by have := HWL.out; omega)); clear s2 p3 b3)
      | (go_at_call 14; refine (cR.out _ (s3.2.rd 2 rfl)).mono ?_; rintro e4 w4 ⟨rfl, b4⟩; have s4 := s3.below b4; clear s3 b4)
      | (refine wp_store_head rfl (.tmp 12) (.tmp 34) rfl w4.heap.size rfl (h1 := g) (HBlk.new w4 hd0) rfl ?_; intro W4 hX g; have t4 := s4.store hX g; clear s4 hX g; generalize w4.heap.size = X4 at t4 ⊢)
      | (go_at_call 17; refine (cQ.out _ (t4.2.rd 2 rfl)).mono ?_; rintro e5 w5 ⟨rfl, b5⟩; have s5 := t4.below b5; clear t4 b5)
      | (refine wp_store_head rfl (.tmp 14) (.tmp 39) rfl w5.heap.size rfl (h1 := g) (HBlk.new w5 hd0) rfl ?_; intro W5 hX g; have t5 := s5.store hX g; clear s5 hX g; generalize w5.heap.size = X5 at t5 ⊢)
      | fail)
    refine wp_region_class (HW w [(X5, g), (X4, g), (w.heap.size, h)] [] [(a3, n3, c3, xs), (a2, n2, c2, xs), (b, lb, cb, bs)]) (by kernel_rfl) (by kernel_rfl) (t5.drew) ?_
    refine qY (v := ?_) rfl ?_ ?_
    rotate_left
    · (intro w' _; go_simp; try with_reducible rfl)
    rotate_left
    try simp only [Act.put, List.setIfInBounds_toArray, List.set_cons_zero, List.set_cons_succ]
    refine qY (v := ?_) rfl ?_ ?_
    rotate_left
    · (intro w' _; go_simp; try with_reducible rfl)
    rotate_left
    try simp only [Act.put, List.setIfInBounds_toArray, List.set_cons_zero, List.set_cons_succ]
    refine qI (v := h.v) (yieldsHead (.tmp 3) (by rfl) rfl (w.heap.size) (by rfl) (fun _ h => h.hd 2 rfl)) ?_
    try simp only [Act.put, List.setIfInBounds_toArray, List.set_cons_zero, List.set_cons_succ]
    refine qC (f := 18) (args := #[h.v]) (v := .int .i64 (c : Int)) rfl ?_ (fun W hW => (cC.out W).mono fun e W2 q => ⟨q.1, hW.below q.2⟩) ?_
    · (intro w' _; go_simp; try with_reducible rfl)
    try simp only [Act.put, List.setIfInBounds_toArray, List.set_cons_zero, List.set_cons_succ]
    refine qI (v := h.v) (yieldsHead (.tmp 3) (by rfl) rfl (w.heap.size) (by rfl) (fun _ h => h.hd 2 rfl)) ?_
    try simp only [Act.put, List.setIfInBounds_toArray, List.set_cons_zero, List.set_cons_succ]
    refine qC (f := 19) (args := #[h.v]) (v := .int .i64 (c : Int)) rfl ?_ (fun W hW => (cD.out W).mono fun e W2 q => ⟨q.1, hW.below q.2⟩) ?_
    · (intro w' _; go_simp; try with_reducible rfl)
    try simp only [Act.put, List.setIfInBounds_toArray, List.set_cons_zero, List.set_cons_succ]
    refine qY (v := ?_) rfl ?_ ?_
    rotate_left
    · (intro w' _; go_simp; try with_reducible rfl)
    rotate_left
    try simp only [Act.put, List.setIfInBounds_toArray, List.set_cons_zero, List.set_cons_succ]
    refine qY (v := ?_) rfl ?_ ?_
    rotate_left
    · (intro w' _; go_simp; try with_reducible rfl)
    rotate_left
    try simp only [Act.put, List.setIfInBounds_toArray, List.set_cons_zero, List.set_cons_succ]
    refine qY (v := ?_) rfl ?_ ?_
    rotate_left
    · (intro w' _; go_simp; try with_reducible rfl)
    rotate_left
    try simp only [Act.put, List.setIfInBounds_toArray, List.set_cons_zero, List.set_cons_succ]
    refine qY (v := ?_) rfl ?_ ?_
    rotate_left
    · (intro w' _; go_simp; try with_reducible rfl)
    rotate_left
    try simp only [Act.put, List.setIfInBounds_toArray, List.set_cons_zero, List.set_cons_succ]
    refine qI (v := .string (strB xs)) (yieldsStr (by rfl) (x := .tmp 50) rfl (by rfl) us u8 ut (fun W h => (h.2.rd 1 rfl).2)) ?_
    try simp only [Act.put, List.setIfInBounds_toArray, List.set_cons_zero, List.set_cons_succ]
    refine qY (v := ?_) rfl ?_ ?_
    rotate_left
    · (intro w' _; go_simp; try with_reducible rfl)
    rotate_left
    try simp only [Act.put, List.setIfInBounds_toArray, List.set_cons_zero, List.set_cons_succ]
    refine qI (v := .string (strB xs)) (yieldsStr (by rfl) (x := .tmp 52) rfl (by rfl) us u8 ut (fun W h => (h.2.rd 0 rfl).2)) ?_
    try simp only [Act.put, List.setIfInBounds_toArray, List.set_cons_zero, List.set_cons_succ]
    refine qI (v := .bool true) (yieldsEqS (by rfl) rfl (by rfl) (by rfl) (beq_self_eq_true _)) ?_
    try simp only [Act.put, List.setIfInBounds_toArray, List.set_cons_zero, List.set_cons_succ]
    refine qY (v := ?_) rfl ?_ ?_
    rotate_left
    · (intro w' _; go_simp; try with_reducible rfl)
    rotate_left
    try simp only [Act.put, List.setIfInBounds_toArray, List.set_cons_zero, List.set_cons_succ]
    refine qY (v := ?_) rfl ?_ ?_
    rotate_left
    · (intro w' _; go_simp; try with_reducible rfl)
    rotate_left
    try simp only [Act.put, List.setIfInBounds_toArray, List.set_cons_zero, List.set_cons_succ]
    refine qY (v := ?_) rfl ?_ ?_
    rotate_left
    · (intro w' _; go_simp; try with_reducible rfl)
    rotate_left
    try simp only [Act.put, List.setIfInBounds_toArray, List.set_cons_zero, List.set_cons_succ]
    refine qY (v := ?_) rfl ?_ ?_
    rotate_left
    · (intro w' _; go_simp; try with_reducible rfl)
    rotate_left
    try simp only [Act.put, List.setIfInBounds_toArray, List.set_cons_zero, List.set_cons_succ]
    refine qY (v := ?_) rfl ?_ ?_
    rotate_left
    · (intro w' _; go_simp; try with_reducible rfl)
    rotate_left
    try simp only [Act.put, List.setIfInBounds_toArray, List.set_cons_zero, List.set_cons_succ]
    refine qY (v := ?_) rfl ?_ ?_
    rotate_left
    · (intro w' _; go_simp; try with_reducible rfl)
    rotate_left
    try simp only [Act.put, List.setIfInBounds_toArray, List.set_cons_zero, List.set_cons_succ]
    refine qY (v := ?_) rfl ?_ ?_
    rotate_left
    · (intro w' _; go_simp; try with_reducible rfl)
    rotate_left
    try simp only [Act.put, List.setIfInBounds_toArray, List.set_cons_zero, List.set_cons_succ]
    refine qI (v := g.v) (yieldsHead (.tmp 12) (by rfl) rfl (X4) (by rfl) (fun _ h => h.hd 1 rfl)) ?_
    try simp only [Act.put, List.setIfInBounds_toArray, List.set_cons_zero, List.set_cons_succ]
    refine qI (v := g.v) (yieldsHead (.tmp 14) (by rfl) rfl (X5) (by rfl) (fun _ h => h.hd 0 rfl)) ?_
    try simp only [Act.put, List.setIfInBounds_toArray, List.set_cons_zero, List.set_cons_succ]
    refine qI (v := .bool true) (yieldsEqHb (by rfl) rfl (by rfl) (by rfl) (Hd.same_self g)) ?_
    try simp only [Act.put, List.setIfInBounds_toArray, List.set_cons_zero, List.set_cons_succ]
    refine qY (v := ?_) rfl ?_ ?_
    rotate_left
    · (intro w' _; go_simp; try with_reducible rfl)
    rotate_left
    try simp only [Act.put, List.setIfInBounds_toArray, List.set_cons_zero, List.set_cons_succ]
    refine qY (v := ?_) rfl ?_ ?_
    rotate_left
    · (intro w' _; go_simp; try with_reducible rfl)
    rotate_left
    try simp only [Act.put, List.setIfInBounds_toArray, List.set_cons_zero, List.set_cons_succ]
    refine qY (v := ?_) rfl ?_ ?_
    rotate_left
    · (intro w' _; go_simp; try with_reducible rfl)
    rotate_left
    try simp only [Act.put, List.setIfInBounds_toArray, List.set_cons_zero, List.set_cons_succ]
    refine qY (v := ?_) rfl ?_ ?_
    rotate_left
    · (intro w' _; go_simp; try with_reducible rfl)
    rotate_left
    try simp only [Act.put, List.setIfInBounds_toArray, List.set_cons_zero, List.set_cons_succ]
    refine qY (v := ?_) rfl ?_ ?_
    rotate_left
    · (intro w' _; go_simp; try with_reducible rfl)
    rotate_left
    try simp only [Act.put, List.setIfInBounds_toArray, List.set_cons_zero, List.set_cons_succ]
    refine qY (v := ?_) rfl ?_ ?_
    rotate_left
    · (intro w' _; go_simp; try with_reducible rfl)
    rotate_left
    try simp only [Act.put, List.setIfInBounds_toArray, List.set_cons_zero, List.set_cons_succ]
    refine qY (v := ?_) rfl ?_ ?_
    rotate_left
    · (intro w' _; go_simp; try with_reducible rfl)
    rotate_left
    try simp only [Act.put, List.setIfInBounds_toArray, List.set_cons_zero, List.set_cons_succ]
    refine qY (v := ?_) rfl ?_ ?_
    rotate_left
    · (intro w' _; go_simp; try with_reducible rfl)
    rotate_left
    try simp only [Act.put, List.setIfInBounds_toArray, List.set_cons_zero, List.set_cons_succ]
    refine qC (f := 20) (args := #[.int .i64 n]) (v := .int .i64 z) rfl ?_ (fun W hW => (cZ.out W).mono fun e W2 q => ⟨q.1, q.2 ▸ hW⟩) ?_
    · (intro w' _; go_simp; try with_reducible rfl)
    try simp only [Act.put, List.setIfInBounds_toArray, List.set_cons_zero, List.set_cons_succ]
    refine qY (v := ?_) rfl ?_ ?_
    rotate_left
    · (intro w' _; go_simp; try with_reducible rfl)
    rotate_left
    try simp only [Act.put, List.setIfInBounds_toArray, List.set_cons_zero, List.set_cons_succ]
    refine qC (f := 21) (args := #[.int .i64 n]) (v := .int .i64 z) rfl ?_ (fun W hW => (cY.out W).mono fun e W2 q => ⟨q.1, q.2 ▸ hW⟩) ?_
    · (intro w' _; go_simp; try with_reducible rfl)
    try simp only [Act.put, List.setIfInBounds_toArray, List.set_cons_zero, List.set_cons_succ]
    refine qY (v := ?_) rfl ?_ ?_
    rotate_left
    · (intro w' _; go_simp; try with_reducible rfl)
    rotate_left
    try simp only [Act.put, List.setIfInBounds_toArray, List.set_cons_zero, List.set_cons_succ]
    refine qY (v := ?_) rfl ?_ ?_
    rotate_left
    · (intro w' _; go_simp; try with_reducible rfl)
    rotate_left
    try simp only [Act.put, List.setIfInBounds_toArray, List.set_cons_zero, List.set_cons_succ]
    refine qY (v := ?_) rfl ?_ ?_
    rotate_left
    · (intro w' _; go_simp; try with_reducible rfl)
    rotate_left
    try simp only [Act.put, List.setIfInBounds_toArray, List.set_cons_zero, List.set_cons_succ]
    refine wpQuiet_nil ?_
    intro wz sz
    go_wp2_with fail
    go_ret
    exact ⟨rfl, sz.2.bel⟩
  · have hd : decide ((lb : Int) > 300) = true := decide_eq_true (by omega)
    clear h3 hr
    show Calls Try.prog 6 #[.agg #[.int .i64 h.kind, .int .i64 h.lba, .int .i64 h.len, .int .i64 h.seq, .int .i64 h.epoch], .slice b lb cb, .int .i64 n] w _
    go_enter Try.func6, Try.ntmps6
    go_wp2_with (first
      | (go_at_call 11; refine (awake_any _).mono ?_; rintro e1 w1 ⟨rfl, b1⟩)
      | fail)
    go_ret
    exact ⟨rfl, xtrans bb0 b1⟩
end Go.Proofs.Ytpcppnoomogloaa.Fr
