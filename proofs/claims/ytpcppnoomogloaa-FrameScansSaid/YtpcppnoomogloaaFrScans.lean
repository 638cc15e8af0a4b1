/- The walk of the statement FrameScans. -/
import Derived.Test.YtpcppnoomogloaaFrA
import Derived.Test.YtpcppnoomogloaaFrR8
set_option maxRecDepth 4000
namespace Go.Proofs.Ytpcppnoomogloaa.Fr
set_option linter.unusedSimpArgs false
set_option linter.unusedVariables false
open Go.RowKit

set_option maxRecDepth 100000 in
set_option maxHeartbeats 4000000 in
theorem scans_walk (b : Option Addr) (lb cb : Nat) (bs : List Nat) (w : World) (hr : Row8 w b lb cb bs) : Calls Try.prog 8 #[.slice b lb cb] w fun e w' => e = .returned (.bool true) ∧ Below w.heap.size w w' := by
  have hlm : lb ≤ 9223372036854775807 := by have := hr.2.1; have := hr.2.2.1; omega
  by_cases h3 : lb ≤ 1000
  · have hd : decide ((lb : Int) > 1000) = false := decide_eq_false (by omega)
    have hR : RdB w b lb cb bs := ⟨by omega, hr⟩
    have cS := Lib.hid (fun (W : World) (h : RdB W b lb cb bs) => Scan_any W b lb cb bs h (by omega))
    have cT := Lib.hid (fun (W : World) (h : RdB W b lb cb bs) => rScan_any W b lb cb bs h (by omega))
    unfold ScanOK at cS cT
    have HN := Lib.hid (show ((scanF bs).map Prod.fst).length = (scanF bs).length ∧ ((scanF bs).map Prod.snd).length = (scanF bs).length from ⟨List.length_map _, List.length_map _⟩)
    generalize (scanF bs).map Prod.fst = xs at cS cT HN
    generalize (scanF bs).map Prod.snd = ys at cS cT HN
    generalize (scanF bs).length = nn at cS cT HN
    have cH := Lib.hid (fun (W : World) a n c b m d (h1 : RdH W a n c xs) (h2 : RdH W b m d xs) => Heads_any W a n c xs b m d xs h1 h2)
    have cN := Lib.hid (fun (W : World) a n c b m d (h1 : RdI W a n c ys) (h2 : RdI W b m d ys) => Numbers_any W a n c ys b m d ys h1 h2)
    simp only [sameHs, decide_true] at cH cN
    go_enter Try.func8, Try.ntmps8
    go_wp2_with (first
      | (go_at_call 11; refine (awake_any _).mono ?_; rintro e1 w1 ⟨rfl, b1⟩; have r1 := hR.below b1; clear hR hr)
      | (go_at_call 25; refine (cS.out _ r1).mono ?_; rintro e2 w2 ⟨v2, q2, n2, rfl, l2, m2, ov2, oq2, b2⟩; obtain ⟨a2, c2, rfl, rH2⟩ := rdH_row ov2 (by rw [HN.out.1]; exact l2) m2; obtain ⟨x2, d2, rfl, rI2⟩ := rdI_row oq2 (by rw [HN.out.2]; exact l2) m2; clear l2 m2 ov2 oq2; have r2 := r1.below b2; have bb2 := xtrans b1 b2; clear r1 b1 b2)
      | (go_at_call 26; refine (cT.out _ r2).mono ?_; rintro e3 w3 ⟨v3, q3, n3, rfl, l3, m3, ov3, oq3, b3⟩; obtain ⟨a3, c3, rfl, rH3⟩ := rdH_row ov3 (by rw [HN.out.1]; exact l3) m3; obtain ⟨x3, d3, rfl, rI3⟩ := rdI_row oq3 (by rw [HN.out.2]; exact l3) m3; clear l3 m3 ov3 oq3; have rH2' := rH2.below b3; have rI2' := rI2.below b3; have bb3 := xtrans bb2 b3; clear rH2 rI2 r2 bb2 b3)
      | (go_at_call 27; refine (cH.out _ _ _ _ _ _ _ rH2' rH3).mono ?_; rintro e4 w4 ⟨rfl, b4⟩; have rI2 := rI2'.below b4; have rI3' := rI3.below b4; have bb4 := xtrans bb3 b4; clear rI2' rI3 bb3 b4 rH2' rH3)
      | (go_at_call 28; refine (cN.out _ _ _ _ _ _ _ rI2 rI3').mono ?_; rintro e5 w5 ⟨rfl, b5⟩; have bb5 := xtrans bb4 b5)
      | fail)
    go_ret
    exact ⟨rfl, bb5⟩
  · have hd : decide ((lb : Int) > 1000) = true := decide_eq_true (by omega)
    clear h3 hr
    go_enter Try.func8, Try.ntmps8
    go_wp2_with (first
      | (go_at_call 11; refine (awake_any _).mono ?_; rintro e1 w1 ⟨rfl, b1⟩)
      | fail)
    go_ret
    exact ⟨rfl, b1⟩
end Go.Proofs.Ytpcppnoomogloaa.Fr
