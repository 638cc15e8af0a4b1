/- The walk of the statement PolyClamps: what is clamped is clamped once, and bits that are let go do not matter. -/
import Derived.Test.YtgfmglgibfhimaaPoA
import Derived.Test.YtgfmglgibfhimaaPoLaws
import Derived.Test.YtgfmglgibfhimaaLw
import Derived.Deep.QuietTactic
import Derived.BigQuiet
namespace Go.Proofs.Ytgfmglgibfhimaa.Po
set_option linter.unusedSimpArgs false
set_option linter.unusedVariables false
open Go.RowKit

theorem half_of (key : List Nat) (hk : key.length = 32) : fl (fun j => key.getD j 0) (List.replicate 16 0) 16 = key.take 16 := halfL_end key hk
theorem and_u8 (x y z : Nat) (hx : x < 256) (hy : y < 256) (h : x &&& y = z) : bits .and .u8 (x : Int) (y : Int) = (z : Int) := by
  rw [bits_and .u8 rfl _ _ (by omega) (by show (x : Int) < 256; omega) (by omega) (by show (y : Int) < 256; omega), Int.toNat_natCast, Int.toNat_natCast, h]
theorem neqF (z : Nat) : ((z : Int) != (z : Int)) = false := by simp
set_option maxRecDepth 100000 in
set_option maxHeartbeats 2000000 in
theorem clamps_walk (key : List Nat) (a : Option Addr) (len cap : Nat) (bs : List Nat) (w : World) (hk : key.length = 32) (hkb : ∀ x ∈ key, x < 256) (hr : Row8 w a len cap bs) :
    Calls Try.prog 6 #[.agg (bv key).toArray, .slice a len cap] w fun e w' => e = .returned (.bool true) ∧ Below w.heap.size w w' := by
  have hle : len ≤ 9223372036854775807 := by have := hr.2.1; have := hr.2.2.1; omega
  by_cases h300 : len ≤ 300
  · have hR : RdB w a len cap bs := ⟨by omega, hr⟩
    have hpa : ∀ x, a = some x → 0 < len → x.block < w.heap.size := fun x hx h0 => by subst hx; exact hR.lt h0
    have hd : decide (300 < len) = false := decide_eq_false (by omega)
    have htl : (key.take 16).length = 16 := by rw [List.length_take, hk]; rfl
    have htb : ∀ x ∈ key.take 16, x < 256 := fun x hx => hkb x (List.mem_of_mem_take hx)
    have hcl := clamp_length (key.take 16)
    have hcb := clamp_lt (key.take 16) htb
    have hand := Lib.hid (fun i (hi : i < 16) => show (clamp (key.take 16)).getD i 0 &&& (key.take 16).getD i 0 = (clamp (key.take 16)).getD i 0 by rw [clamp_get _ i hi]; exact clampB_and i _ (getD_lt _ htb i))
    have hkl : (clamp (key.take 16) ++ key.drop 16).length = 32 := by simp [hk, hcl]
    have hkzb : ∀ x ∈ clamp (key.take 16) ++ key.drop 16, x < 256 := fun x hx => (List.mem_append.1 hx).elim (hcb x) (fun q => hkb x (List.mem_of_mem_drop q))
    have c0 := Lib.hid (fun W => Clamp_any W (key.take 16) htl htb)
    have c1 := Lib.hid (fun W => by have := Clamp_any W (clamp (key.take 16)) hcl hcb; rw [clamp_idem] at this; exact this : ∀ W, Calls Try.prog 11 #[.agg (bv (clamp (key.take 16))).toArray] W fun e w' => e = .returned (.agg (bv (clamp (key.take 16))).toArray) ∧ Below W.heap.size W w')
    have c2 := Lib.hid (fun W h => Sum_any W key a len cap bs hk hkb h)
    have c3 := Lib.hid (fun W h => by have := Sum_any W (clamp (key.take 16) ++ key.drop 16) a len cap bs hkl hkzb h; rw [tag_clamp key bs hk] at this; exact this : ∀ W, RdB W a len cap bs → Calls Try.prog 9 #[.agg (bv (clamp (key.take 16) ++ key.drop 16)).toArray, .slice a len cap] W fun e w' => e = .returned (.agg (bv (tag key bs)).toArray) ∧ Below W.heap.size W w')
    have htag := tag_length key bs
    have hZE := Lib.hid (cN_end key (clamp (key.take 16)) hcl)
    generalize tag key bs = tg at c2 c3 htag
    generalize clamp (key.take 16) = cl at c0 c1 c3 hcl hcb hand hkl hkzb hZE
    have HZK := Lib.hid (show (Try.prog.info? 22).map (·.size) = some key.length by rw [hk]; kernel_rfl)
    have HZK2 := Lib.hid (show (Try.prog.info? 22).map (·.size) = some (nv .u8 key).toArray.size by simp only [List.size_toArray, nv_length]; rw [hk]; kernel_rfl)
    have HSK := Lib.hid (show 32 = (nv .u8 key).toArray.size by simp [nv, hk])
    have HZC := Lib.hid (show (Try.prog.info? 23).map (·.size) = some (nv .u8 cl).toArray.size by simp only [List.size_toArray, nv_length]; rw [hcl]; kernel_rfl)
    have HSC := Lib.hid (show 16 = (nv .u8 cl).toArray.size by simp [nv, hcl])
    have HK := Lib.hid hk
    have HTL := Lib.hid htl
    have HCL := Lib.hid hcl
    have HKL := Lib.hid hkl
    have i1 : (Try.prog.info? 23).map (·.size) = some (nv .u8 cl).length := by rw [nv_length, hcl]; kernel_rfl
    have I1 := Lib.hid i1
    have g16 := Lib.hid (show Try.prog.eqGuardType Try.prog.depth 23 = false by kernel_rfl)
    obtain ⟨i0, hi0⟩ : ∃ i0, Try.prog.info? 5 = some i0 ∧ i0.size = 1 := info8a
    have e1 := Lib.hid (fun W => run_eql_arr (P := Try.prog) Try.underlying23 Try.underlying5 hi0.1 hi0.2 .u8 cl cl hcl hcl W)
    have e2 := Lib.hid (fun W => run_eql_arr (P := Try.prog) Try.underlying23 Try.underlying5 hi0.1 hi0.2 .u8 tg tg htag htag W)
    rw [decide_eq_true rfl] at e1 e2
    clear hk htl hcl hkl i1 hi0 htag
    go_enter Try.func6, Try.ntmps6
    have s0 : LW w [(w.heap.size, 22, .u8, key)] [(a, len, cap, bs)] (w.alloc (.cells (nv .u8 key).toArray 22)) := ((LW.nil (xrefl w)).addR hR).new 22 .u8 key
    clear hR hr
    go_wp2_with (first
      | (go_at_call 8; refine (awake_any _).mono ?_; rintro e w1 ⟨rfl, hb1⟩; have s1 := s0.below hb1; clear s0 hb1)
      | (refine wp_build rfl 23 _ rfl (.agg (nv .u8 (List.replicate 16 0)).toArray) (by kernel_rfl) ?_)
      | (refine wp_store_new rfl 23 (.tmp 6) (.tmp 16) rfl rfl _ (nv .u8 (List.replicate 16 0)).toArray rfl (by kernel_rfl) rfl (nv_one _ _) ?_; have hN1 := s1.lt _ List.mem_cons_self; have s2 := s1.new 23 .u8 (List.replicate 16 0); clear s1)
      | fail)
    generalize w1.heap.size = H at s2 hN1 ⊢
    replace hN1 : w.heap.size < H := hN1
    refine at_world (fun V => LW w [(H, 23, .u8, fl (fun j => key.getD j 0) (List.replicate 16 0) 0), (w.heap.size, 22, .u8, key)] [(a, len, cap, bs)] V) (by rw [fl_zero]; exact s2) ?_
    clear s2
    intro V sV
    go_loopw [7] (fun r wr => ∃ i : Nat, i ≤ 16 ∧ r = .int .i64 i ∧ LW w [(H, 23, .u8, fl (fun j => key.getD j 0) (List.replicate 16 0) i), (w.heap.size, 22, .u8, key)] [(a, len, cap, bs)] wr) (fun r _ => 16 - (intOf r).toNat)
    case atStart => exact ⟨0, by decide, rfl, sV⟩
    case round =>
      clear sV
      obtain ⟨i, hi, rfl, hS⟩ := hrel
      have hneR : ∀ Z, w.heap.size < Z → ∀ e ∈ [(a, len, cap, bs)], ∀ x, e.1 = some x → 0 < e.2.1 → x.block ≠ Z := by
        intro Z hZ e he x hx h0
        simp only [List.mem_cons, List.not_mem_nil, or_false] at he
        subst he
        have := hpa x hx h0
        omega
      by_cases hlt : i < 16
      · have hneL : ∀ e ∈ [(w.heap.size, 22, IntKind.u8, key)], e.1 ≠ H := by
          intro e he
          simp only [List.mem_cons, List.not_mem_nil, or_false] at he
          subst he
          show w.heap.size ≠ H; omega
        have hB := hS.blk 0 rfl
        have hl := fl_length (fun j => key.getD j 0) (List.replicate 16 0) i (by simp; omega)
        have hx := (hS.blk 1 rfl).cell i (by have := HK.out; omega)
        have hc := hB.cell i (by rw [hl]; simp; omega)
        have hf := hB.frozen i
        have hfin := hS.set1 (by omega) hneL (hneR H hN1) i (key.getD i 0)
        rw [fl_succ (fun j => key.getD j 0) _ i (by simp; omega)] at hfin
        have hv := getD_lt key hkb i
        generalize key.getD i 0 = v at hx hfin hv
        generalize (fl (fun j => key.getD j 0) (List.replicate 16 0) i).getD i 0 = z1 at hc
        clear hneL hneR hB hS hl
        have hid : decide ((i : Int) < 16) = true := decide_eq_true (by omega)
        go_wp2_with fail
        exact ⟨⟨i + 1, by omega, by go_num, hfin⟩, by simp [intOf]; omega⟩
      · obtain rfl : i = 16 := by omega
        rw [show ((16 : Nat) : Int) = 16 from rfl]
        rw [half_of key HK.out] at hS
        have HZH := Lib.hid (show (Try.prog.info? 23).map (·.size) = some (key.take 16).length by rw [HTL.out]; kernel_rfl)
        generalize key.take 16 = hf at hS c0 HTL HZH hand htb
        have k2 := hS.blk 0 rfl
        have k3 := hS.blk 1 rfl
        clear hneR
        go_wp2_with (first
          | (refine wp_load_arr rfl 23 (.tmp 6) rfl H rfl k2 16 5 Try.underlying23 HZH.out ?_)
          | (go_at_call 11; refine (c0.out _).mono ?_; rintro e w3 ⟨rfl, hb3⟩; have s3 := hS.below hb3; clear hS k2 k3 hb3 c0)
          | (refine wp_store_new rfl 23 (.tmp 8) (.tmp 27) rfl rfl _ (nv .u8 cl).toArray rfl HZC.out HSC.out (nv_one _ _) ?_; have hN3 := s3.lt _ List.mem_cons_self; have s4 := s3.new 23 .u8 cl; clear s3; generalize w3.heap.size = C at s4 hN3 ⊢; replace hN3 : H < C := hN3; have k4 := s4.blk 2 rfl)
          | (refine wp_load_arr rfl 22 (.tmp 2) rfl w.heap.size rfl k4 32 5 Try.underlying22 HZK.out ?_; clear k4; refine wpList_at (fun V => LW w [(C, 23, .u8, cl), (H, 23, .u8, hf), (w.heap.size, 22, .u8, key)] [(a, len, cap, bs)] V) s4 ?_; clear s4 w3; intro W4 s4)
          | (refine wp_store_new rfl 22 (.tmp 9) (.tmp 28) rfl rfl _ (nv .u8 key).toArray rfl HZK2.out HSK.out (nv_one _ _) ?_; have hN4 := s4.lt _ List.mem_cons_self; have s5 := s4.new 22 .u8 key; clear s4)
          | fail)
        generalize W4.heap.size = Z at s5 hN4 ⊢
        replace hN4 : C < Z := hN4
        refine at_world (fun V => LW w [(Z, 22, .u8, cN key cl 0), (C, 23, .u8, cl), (H, 23, .u8, hf), (w.heap.size, 22, .u8, key)] [(a, len, cap, bs)] V) (by rw [cN_zero]; exact s5) ?_
        clear s5 W4
        intro V2 sV2
        go_loopw [10] (fun r wr => ∃ i : Nat, i ≤ 16 ∧ r = .int .i64 i ∧ LW w [(Z, 22, .u8, cN key cl i), (C, 23, .u8, cl), (H, 23, .u8, hf), (w.heap.size, 22, .u8, key)] [(a, len, cap, bs)] wr) (fun r _ => 16 - (intOf r).toNat)
        case atStart => exact ⟨0, by decide, rfl, sV2⟩
        case round =>
          clear sV2
          obtain ⟨i, hi, rfl, hS⟩ := hrel
          by_cases hlt : i < 16
          · have hneL : ∀ e ∈ [(C, 23, IntKind.u8, cl), (H, 23, IntKind.u8, hf), (w.heap.size, 22, IntKind.u8, key)], e.1 ≠ Z := by
              intro e he
              simp only [List.mem_cons, List.not_mem_nil, or_false] at he
              rcases he with rfl | rfl | rfl
              · show C ≠ Z; omega
              · show H ≠ Z; omega
              · show w.heap.size ≠ Z; omega
            have hneR : ∀ e ∈ [(a, len, cap, bs)], ∀ x, e.1 = some x → 0 < e.2.1 → x.block ≠ Z := by
              intro e he x hx h0
              simp only [List.mem_cons, List.not_mem_nil, or_false] at he
              subst he
              have := hpa x hx h0
              omega
            have hB := hS.blk 0 rfl
            have hl := cN_length key cl i (by have := HK.out; omega)
            have hx := (hS.blk 1 rfl).cell i (by have := HCL.out; omega)
            have hy := (hS.blk 2 rfl).cell i (by have := HTL.out; omega)
            have hc := hB.cell i (by rw [hl]; have := HK.out; omega)
            have hf0 := hB.frozen i
            have hfin := hS.set1 (by omega) hneL hneR i (cl.getD i 0)
            rw [cN_succ key cl i (by have := HK.out; omega)] at hfin
            have hv := getD_lt cl hcb i
            have hu := getD_lt hf htb i
            have han := and_u8 _ _ _ hv hu (hand.out i hlt)
            generalize cl.getD i 0 = v at hx hfin hv han
            generalize hf.getD i 0 = u at hy hu han
            generalize (cN key cl i).getD i 0 = z1 at hc
            have hx2 : (wr.setCell ⟨Z, i, none⟩ (.int .u8 (v : Int))).cell? ⟨C, i, none⟩ = some (.int .u8 (v : Int)) := (hfin.blk 1 rfl).cell i (by have := HCL.out; omega) |>.trans (by rw [← hx]; exact ((hS.blk 1 rfl).cell i (by have := HCL.out; omega)).symm)
            clear hneL hneR hB hS hl
            have hid : decide ((i : Int) < 16) = true := decide_eq_true (by omega)
            have hi32 : (i : Int) < 32 := by omega
            have hnz := neqF v
            go_wp2_with fail
            go_quiet (fail)
            go_wp2_with fail
            exact ⟨⟨i + 1, by omega, by go_num, hfin.drewN _⟩, by simp [intOf]; omega⟩
          · obtain rfl : i = 16 := by omega
            rw [show ((16 : Nat) : Int) = 16 from rfl]
            rw [hZE.out] at hS
            have HZZ := Lib.hid (show (Try.prog.info? 22).map (·.size) = some (nv .u8 (cl ++ key.drop 16)).length by rw [nv_length, HKL.out]; kernel_rfl)
            have HZK3 := Lib.hid (show (Try.prog.info? 22).map (·.size) = some (nv .u8 key).length by rw [nv_length, HK.out]; kernel_rfl)
            have u1 := Try.underlying22
            have u2 := Try.underlying23
            generalize cl ++ key.drop 16 = zf at hS c3 HZZ HKL
            go_wp2_with fail
            refine wp_region_class (LW w [(Z, 22, .u8, zf), (C, 23, .u8, cl), (H, 23, .u8, hf), (w.heap.size, 22, .u8, key)] [(a, len, cap, bs)]) (by kernel_rfl) (by kernel_rfl) (hS.drew) ?_
            refine qY (v := ?_) rfl ?_ ?_
            rotate_left
            · (intro w' _; go_simp; try with_reducible rfl)
            rotate_left
            try simp only [Act.put, List.setIfInBounds_toArray, List.set_cons_zero, List.set_cons_succ]
            refine qY (v := ?_) rfl ?_ ?_
            rotate_left
            · (intro w' _; go_simp; try with_reducible rfl)
            rotate_left
            try simp only [Act.put, List.setIfInBounds_toArray, List.set_cons_zero, List.set_cons_succ]
            refine qI (v := .agg (nv .u8 cl).toArray) (yieldsIf_load_mid (by rfl) 23 (.tmp 8) rfl C 0 (by rfl) (nv .u8 cl) _ (fun _ h => blk_range (h.blk 1 rfl)) u2 rfl I1.out) ?_
            try simp only [Act.put, List.setIfInBounds_toArray, List.set_cons_zero, List.set_cons_succ]
            refine qC (f := 11) (args := #[.agg (nv .u8 cl).toArray]) (v := .agg (nv .u8 cl).toArray) rfl ?_ (fun W hW => (c1.out W).mono fun e W' h => ⟨h.1, hW.below h.2⟩) ?_
            · (intro w' _; go_simp; try with_reducible rfl)
            try simp only [Act.put, List.setIfInBounds_toArray, List.set_cons_zero, List.set_cons_succ]
            refine qI (v := .agg (nv .u8 cl).toArray) (yieldsIf_load_mid (by rfl) 23 (.tmp 8) rfl C 0 (by rfl) (nv .u8 cl) _ (fun _ h => blk_range (h.blk 1 rfl)) u2 rfl I1.out) ?_
            try simp only [Act.put, List.setIfInBounds_toArray, List.set_cons_zero, List.set_cons_succ]
            refine qI (v := .bool true) (yieldsEql (by rfl) rfl (by rfl) (by rfl) g16.out e1.out) ?_
            try simp only [Act.put, List.setIfInBounds_toArray, List.set_cons_zero, List.set_cons_succ]
            refine qY (v := ?_) rfl ?_ ?_
            rotate_left
            · (intro w' _; go_simp; try with_reducible rfl)
            rotate_left
            try simp only [Act.put, List.setIfInBounds_toArray, List.set_cons_zero, List.set_cons_succ]
            refine qY (v := ?_) rfl ?_ ?_
            rotate_left
            · (intro w' _; go_simp; try with_reducible rfl)
            rotate_left
            try simp only [Act.put, List.setIfInBounds_toArray, List.set_cons_zero, List.set_cons_succ]
            refine qI (v := .agg (nv .u8 zf).toArray) (yieldsIf_load_mid (by rfl) 22 (.tmp 9) rfl Z 0 (by rfl) (nv .u8 zf) _ (fun _ h => blk_range (h.blk 0 rfl)) u1 rfl HZZ.out) ?_
            try simp only [Act.put, List.setIfInBounds_toArray, List.set_cons_zero, List.set_cons_succ]
            refine qY (v := ?_) rfl ?_ ?_
            rotate_left
            · (intro w' _; go_simp; try with_reducible rfl)
            rotate_left
            try simp only [Act.put, List.setIfInBounds_toArray, List.set_cons_zero, List.set_cons_succ]
            refine qC (f := 9) (args := #[.agg (nv .u8 zf).toArray, .slice a len cap]) (v := .agg (nv .u8 tg).toArray) rfl ?_ (fun W hW => (c3.out W (hW.rd 0 rfl)).mono fun e W' h => ⟨h.1, hW.below h.2⟩) ?_
            · (intro w' _; go_simp; try with_reducible rfl)
            try simp only [Act.put, List.setIfInBounds_toArray, List.set_cons_zero, List.set_cons_succ]
            refine qI (v := .agg (nv .u8 key).toArray) (yieldsIf_load_mid (by rfl) 22 (.tmp 2) rfl w.heap.size 0 (by rfl) (nv .u8 key) _ (fun _ h => blk_range (h.blk 3 rfl)) u1 rfl HZK3.out) ?_
            try simp only [Act.put, List.setIfInBounds_toArray, List.set_cons_zero, List.set_cons_succ]
            refine qY (v := ?_) rfl ?_ ?_
            rotate_left
            · (intro w' _; go_simp; try with_reducible rfl)
            rotate_left
            try simp only [Act.put, List.setIfInBounds_toArray, List.set_cons_zero, List.set_cons_succ]
            refine qC (f := 9) (args := #[.agg (nv .u8 key).toArray, .slice a len cap]) (v := .agg (nv .u8 tg).toArray) rfl ?_ (fun W hW => (c2.out W (hW.rd 0 rfl)).mono fun e W' h => ⟨h.1, hW.below h.2⟩) ?_
            · (intro w' _; go_simp; try with_reducible rfl)
            try simp only [Act.put, List.setIfInBounds_toArray, List.set_cons_zero, List.set_cons_succ]
            refine qI (v := .bool true) (yieldsEql (by rfl) rfl (by rfl) (by rfl) g16.out e2.out) ?_
            try simp only [Act.put, List.setIfInBounds_toArray, List.set_cons_zero, List.set_cons_succ]
            refine qY (v := ?_) rfl ?_ ?_
            rotate_left
            · (intro w' _; go_simp; try with_reducible rfl)
            rotate_left
            try simp only [Act.put, List.setIfInBounds_toArray, List.set_cons_zero, List.set_cons_succ]
            refine qY (v := ?_) rfl ?_ ?_
            rotate_left
            · (intro w' _; go_simp; try with_reducible rfl)
            rotate_left
            try simp only [Act.put, List.setIfInBounds_toArray, List.set_cons_zero, List.set_cons_succ]
            refine wpQuiet_nil ?_
            intro w9 h9
            go_wp2_with fail
            go_ret
            exact ⟨rfl, h9.bel⟩
  · have hd : decide (300 < len) = true := decide_eq_true (by omega)
    go_enter Try.func6, Try.ntmps6
    go_wp2_with (first
      | (go_at_call 8; refine (awake_any _).mono ?_; rintro e w1 ⟨rfl, hb1⟩)
      | fail)
    go_ret
    exact ⟨rfl, xtrans (xnew _ _) hb1⟩
end Go.Proofs.Ytgfmglgibfhimaa.Po
