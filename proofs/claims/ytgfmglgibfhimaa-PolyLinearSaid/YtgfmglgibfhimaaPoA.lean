/- The walk of chapter 6's 'awake' and of its key. -/
import Derived.Test.YtgfmglgibfhimaaPoW7
import Derived.Test.YtgfmglgibfhimaaQuiet
import Derived.Handy
import Derived.Lib.SlBytesConst
namespace Go.Proofs.Ytgfmglgibfhimaa.Po
set_option linter.unusedSimpArgs false
set_option linter.unusedVariables false
open Go.RowKit

def keyL : List Nat := [133, 214, 190, 120, 87, 85, 109, 51, 127, 68, 82, 254, 66, 213, 6, 168, 1, 3, 128, 138, 251, 13, 178, 253, 74, 191, 246, 175, 65, 73, 245, 27]
def textL : List Nat := [67, 114, 121, 112, 116, 111, 103, 114, 97, 112, 104, 105, 99, 32, 70, 111, 114, 117, 109, 32, 82, 101, 115, 101, 97, 114, 99, 104, 32, 71, 114, 111, 117, 112]
def tagL : List Nat := [168, 6, 29, 193, 48, 81, 54, 198, 194, 43, 139, 175, 12, 1, 39, 169]
def halfL0 : List Nat := [0, 0, 0, 255, 255, 255, 0, 0, 0, 0, 0, 0, 0, 0, 0, 0]
def clampL0 : List Nat := [0, 0, 0, 15, 252, 255, 0, 0, 0, 0, 0, 0, 0, 0, 0, 0]
theorem tag_key : tag keyL textL = tagL := by decide +kernel
theorem clamp_half : clamp halfL0 = clampL0 := by decide +kernel
theorem keyL_lt : ∀ x ∈ keyL, x < 256 := by decide +kernel
theorem textL_lt : ∀ x ∈ textL, x < 256 := by decide +kernel
theorem halfL0_lt : ∀ x ∈ halfL0, x < 256 := by decide +kernel
theorem info8a : ∃ i0, Try.prog.info? 5 = some i0 ∧ i0.size = 1 := ⟨_, rfl, by kernel_rfl⟩
set_option maxHeartbeats 1000000 in
theorem key_any (w : World) : Calls Try.prog 13 #[] w fun e w' => e = .returned (.agg (nv .u8 keyL).toArray) ∧ Below w.heap.size w w' := by
  have HZ := Lib.hid (show (Try.prog.info? 22).map (·.size) = some (nv .u8 keyL).toArray.size by kernel_rfl)
  go_enter Try.func13, Try.ntmps13
  go_wp2_with (first
    | (refine wp_build rfl 22 _ rfl (.agg (nv .u8 keyL).toArray) (by kernel_rfl) ?_)
    | (refine wp_store_new rfl 22 (.tmp 0) (.tmp 1) rfl rfl _ (nv .u8 keyL).toArray rfl HZ.out (by kernel_rfl) (nv_one _ _) ?_)
    | fail)
  exact bodyPost_ret (results_cell_row rfl _ _ w.heap.size 22 (nv .u8 keyL).toArray (0, 0) _ rfl (Blk.new w _ .u8 keyL _ rfl) Try.underlying22 rfl HZ.out) rfl ⟨rfl, xnew _ _⟩
-- theorem buildSlice_text (W : World) : (Instr.buildSlice 24 34 (Array.map (fun (p : Nat × Operand) => (p.1, (default : Act).eval p.2)) #[])).run Try.prog W = (Instr.buildSlice 24 34 #[]).run Try.prog W := rfl
set_option maxRecDepth 100000 in
set_option maxHeartbeats 2000000 in
theorem awake_any (w : World) : Calls Try.prog 8 #[] w fun e w' => e = .returned (.bool true) ∧ Below w.heap.size w w' := by
  have kc := fun (w : World) (C : Array Value) (n c : Nat) => Lib.run_convert_bytes_const (P := Try.prog) w 24 5 C n c Try.underlying24 Try.underlying5
  have c1 := Lib.hid (fun W a n c hr => by have := Sum_any W keyL a n c textL rfl keyL_lt hr; rw [tag_key] at this; exact this : ∀ W a n c, RdB W a n c textL → Calls Try.prog 9 #[.agg (bv keyL).toArray, .slice a n c] W fun e w' => e = .returned (.agg (bv tagL).toArray) ∧ Below W.heap.size W w')
  have c2 := Lib.hid (fun W => by have := Clamp_any W halfL0 rfl halfL0_lt; rw [clamp_half] at this; exact this : ∀ W, Calls Try.prog 11 #[.agg (bv halfL0).toArray] W fun e w' => e = .returned (.agg (bv clampL0).toArray) ∧ Below W.heap.size W w')
  have HZ1 := Lib.hid (show (Try.prog.info? 23).map (·.size) = some (nv .u8 tagL).toArray.size by kernel_rfl)
  have HZ2 := Lib.hid (show (Try.prog.info? 23).map (·.size) = some (nv .u8 clampL0).toArray.size by kernel_rfl)
  have HL1 := Lib.hid (show (Try.prog.info? 23).map (·.size) = some tagL.length by kernel_rfl)
  have HL2 := Lib.hid (show (Try.prog.info? 23).map (·.size) = some clampL0.length by kernel_rfl)
  obtain ⟨i0, hi0⟩ : ∃ i0, Try.prog.info? 5 = some i0 ∧ i0.size = 1 := info8a
  have e1 := Lib.hid (fun W => run_eql_arr (P := Try.prog) Try.underlying23 Try.underlying5 hi0.1 hi0.2 .u8 tagL tagL rfl rfl W)
  have e2 := Lib.hid (fun W => run_eql_arr (P := Try.prog) Try.underlying23 Try.underlying5 hi0.1 hi0.2 .u8 clampL0 clampL0 rfl rfl W)
  rw [decide_eq_true rfl] at e1 e2
  have g16 := Lib.hid (show Try.prog.eqGuardType Try.prog.depth 23 = false by kernel_rfl)
  clear hi0
  go_enter Try.func8, Try.ntmps8
  have tok0 : True := trivial
  go_wp2_with (first
    | (go_at_call 13; refine (key_any _).mono ?_; rintro e w1 ⟨rfl, hb1⟩)
    | (go_at_call 9; refine (c1.out _ _ _ _ (rd_new _ _ _ _ _ _ rfl rfl textL_lt (by decide))).mono ?_; rintro e w2 ⟨rfl, hb2⟩)
    | (have _t := tok0; refine wp_build rfl 23 _ rfl (.agg (nv .u8 halfL0).toArray) (by kernel_rfl) ?_; clear tok0 _t)
    | (go_at_call 11; refine (c2.out _).mono ?_; rintro e w3 ⟨rfl, hb3⟩)
    | (refine wp_store_new rfl 23 (.tmp 1) (.tmp 6) rfl rfl _ (nv .u8 tagL).toArray rfl HZ1.out (by kernel_rfl) (nv_one _ _) ?_; have hT := Blk.new w2 23 .u8 tagL _ rfl)
    | (refine wp_store_new rfl 23 (.tmp 2) (.tmp 8) rfl rfl _ (nv .u8 clampL0).toArray rfl HZ2.out (by kernel_rfl) (nv_one _ _) ?_; have hT1 := (hT.below hb3).alloc (.cells (nv .u8 clampL0).toArray 23); have hU1 := Blk.new w3 23 .u8 clampL0 _ rfl; clear hT)
    | (refine wp_load_arr rfl 23 (.tmp 1) rfl w2.heap.size rfl hT1 16 5 Try.underlying23 HL1.out ?_; have tok2 : True := trivial)
    | (have _t := tok2; refine wp_build rfl 23 _ rfl (.agg (nv .u8 tagL).toArray) (by kernel_rfl) ?_; clear tok2 _t; have tok3 : True := trivial)
    | (refine wp_eql rfl (x := .tmp 9) (y := .tmp 10) rfl rfl rfl g16.out e1.out ?_)
    | (refine wp_load_arr rfl 23 (.tmp 2) rfl w3.heap.size rfl hU1 16 5 Try.underlying23 HL2.out ?_)
    | (have _t := tok3; refine wp_build rfl 23 _ rfl (.agg (nv .u8 clampL0).toArray) (by kernel_rfl) ?_; clear tok3 _t)
    | (refine wp_eql rfl (x := .tmp 13) (y := .tmp 14) rfl rfl rfl g16.out e2.out ?_)
    | fail)
  go_ret
  exact ⟨rfl, xalloc (xtrans (xalloc (xtrans (xalloc hb1 _) hb2) _) hb3) _⟩
end Go.Proofs.Ytgfmglgibfhimaa.Po
