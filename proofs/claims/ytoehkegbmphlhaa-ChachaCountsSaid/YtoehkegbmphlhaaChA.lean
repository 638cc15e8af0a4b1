/- The walk of chapter 4's 'awake'. -/
import Derived.Test.YtoehkegbmphlhaaChW4
import Derived.Handy
import Derived.Deep.MidRow
import Derived.Deep.RegionHeld3
namespace Go.Proofs.Ytoehkegbmphlhaa.Ch
set_option linter.unusedSimpArgs false
set_option linter.unusedVariables false
open Go.RowKit

theorem zq : quarter ⟨286331153, 16909060, 2609737539, 19088743⟩ = ⟨3928658676, 3407673550, 1166100270, 1484899515⟩ := by kernel_rfl
theorem zb0 : (block (List.replicate 32 0) 0 (List.replicate 12 0)).getD 0 0 = 118 := by decide +kernel
theorem zb1 : (block (List.replicate 32 0) 0 (List.replicate 12 0)).getD 1 0 = 184 := by decide +kernel
theorem zb63 : (block (List.replicate 32 0) 0 (List.replicate 12 0)).getD 63 0 = 134 := by decide +kernel
theorem zeros_lt (n : Nat) : ∀ x ∈ List.replicate n 0, x < 256 := fun x hx => by rw [List.eq_of_mem_replicate hx]; decide

set_option maxHeartbeats 1000000 in
theorem awake_any (w : World) : Calls Try.prog 8 #[] w fun e w' => e = .returned (.bool true) ∧ Below w.heap.size w w' := by
  have c1 : Hid (∀ W, Calls Try.prog 9 #[.int .u32 286331153, .int .u32 16909060, .int .u32 2609737539, .int .u32 19088743] W fun e w' => e = .returned (.tuple #[.int .u32 3928658676, .int .u32 3407673550, .int .u32 1166100270, .int .u32 1484899515]) ∧ Below W.heap.size W w') :=
    Lib.hid (fun W => by have := Quarter_any 286331153 16909060 2609737539 19088743 W ⟨by decide, by decide, by decide, by decide⟩; rw [zq] at this; exact this)
  have c2 := Lib.hid (fun W => Block_any W (List.replicate 32 0) (List.replicate 12 0) 0 rfl (zeros_lt _) rfl (zeros_lt _) (by decide))
  have z0 := Lib.hid zb0
  have z1 := Lib.hid zb1
  have z63 := Lib.hid zb63
  have hl := Lib.hid (block_length (List.replicate 32 0) 0 (List.replicate 12 0))
  obtain ⟨bs, hbs⟩ : ∃ bs, bs = block (List.replicate 32 0) 0 (List.replicate 12 0) := ⟨_, rfl⟩
  rw [← hbs] at c2 z0 z1 z63 hl
  clear hbs
  have HZ := Lib.hid (show (Try.prog.info? 28).map (·.size) = some (nv .u8 bs).toArray.size by simp only [List.size_toArray, nv_length]; rw [hl.out]; kernel_rfl)
  have HS := Lib.hid (show 64 = (nv .u8 bs).toArray.size by simp only [List.size_toArray, nv_length]; rw [hl.out])
  go_enter Try.func8, Try.ntmps8
  go_wp2_with (first
    | (go_at_call 9; refine (c1.out _).mono ?_; rintro e w1 ⟨rfl, hb1⟩)
    | (go_at_call 11; refine (c2.out _).mono ?_; rintro e w2 ⟨rfl, hb2⟩)
    | (refine wp_store_new rfl 28 (.tmp 5) (.tmp 14) rfl rfl _ (nv .u8 bs).toArray rfl HZ.out HS.out (nv_one _ _) ?_; have hU := Blk.new w2 28 .u8 bs _ rfl; have h0 := hU.cell 0 (by rw [hl.out]; decide); have h1 := hU.cell 1 (by rw [hl.out]; decide); have h63 := hU.cell 63 (by rw [hl.out]; decide); rw [z0.out] at h0; rw [z1.out] at h1; rw [z63.out] at h63)
    | fail)
  go_ret
  exact ⟨rfl, xalloc (xtrans hb1 hb2) _⟩
end Go.Proofs.Ytoehkegbmphlhaa.Ch
