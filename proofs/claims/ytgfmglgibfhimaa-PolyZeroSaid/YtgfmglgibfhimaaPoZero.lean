/- The walk of the statement PolyZero: a key whose first half is clamped to 0. -/
import Derived.Test.YtgfmglgibfhimaaPoA
import Derived.Test.YtgfmglgibfhimaaPoLaws
import Derived.Test.YtgfmglgibfhimaaLw
namespace Go.Proofs.Ytgfmglgibfhimaa.Po
set_option linter.unusedSimpArgs false
set_option linter.unusedVariables false
open Go.RowKit

set_option maxRecDepth 100000 in
set_option maxHeartbeats 2000000 in
theorem zero_walk (key : List Nat) (a : Option Addr) (len cap : Nat) (bs : List Nat) (w : World) (hk : key.length = 32) (hkb : ∀ x ∈ key, x < 256) (hr : Row8 w a len cap bs) :
    Calls Try.prog 4 #[.agg (bv key).toArray, .slice a len cap] w fun e w' => e = .returned (.bool true) ∧ Below w.heap.size w w' := by
  have hle : len ≤ 9223372036854775807 := by have := hr.2.1; have := hr.2.2.1; omega
  by_cases h300 : len ≤ 300
  · have hR : RdB w a len cap bs := ⟨by omega, hr⟩
    have hpa : ∀ x, a = some x → 0 < len → x.block < w.heap.size := fun x hx h0 => by subst hx; exact hR.lt h0
    have hd : decide (300 < len) = false := decide_eq_false (by omega)
    have c0 := Lib.hid (fun W => by have := Sum_any W key none 0 0 [] hk hkb (rd_nil W); rw [tag_nil key hk hkb] at this; exact this : ∀ W, Calls Try.prog 9 #[.agg (bv key).toArray, .slice none 0 0] W fun e w' => e = .returned (.agg (bv (key.drop 16)).toArray) ∧ Below W.heap.size W w')
    have c1 := Lib.hid (fun W h => by have := Sum_any W (zF key) a len cap bs (zF_length key hk) (zF_lt key hk hkb) h; rw [tag_zF key bs hk hkb] at this; exact this : ∀ W, RdB W a len cap bs → Calls Try.prog 9 #[.agg (bv (zF key)).toArray, .slice a len cap] W fun e w' => e = .returned (.agg (bv (key.drop 16)).toArray) ∧ Below W.heap.size W w')
    have hsl0 : (key.drop 16).length = 16 := by rw [List.length_drop, hk]
    have hsb0 : ∀ x ∈ key.drop 16, x < 256 := fun x hx => hkb x (List.mem_of_mem_drop hx)
    obtain ⟨sd, hsd⟩ : ∃ sd, sd = key.drop 16 := ⟨_, rfl⟩
    have HSD := Lib.hid hsd
    have hsl := hsl0
    have hsb := hsb0
    rw [← hsd] at c0 c1 hsl hsb
    have hseq := Lib.hid (show ((strB sd).toList == (strB (key.drop 16)).toList) = true by rw [hsd]; exact beq_self_eq_true _)
    have u8 := Try.underlying5
    have us := Try.underlying24
    have ut := Try.underlying9
    have HZK := Lib.hid (show (Try.prog.info? 22).map (·.size) = some key.length by rw [hk]; kernel_rfl)
    have HZK2 := Lib.hid (show (Try.prog.info? 22).map (·.size) = some (nv .u8 key).toArray.size by simp only [List.size_toArray, nv_length]; rw [hk]; kernel_rfl)
    have HSK := Lib.hid (show 32 = (nv .u8 key).toArray.size by simp [nv, hk])
    have HZS := Lib.hid (show (Try.prog.info? 23).map (·.size) = some (nv .u8 sd).toArray.size by simp only [List.size_toArray, nv_length]; rw [hsl]; kernel_rfl)
    have HSS := Lib.hid (show 16 = (nv .u8 sd).toArray.size by simp [nv, hsl])
    have HK := Lib.hid hk
    have HSL := Lib.hid hsl
    clear hsd hsl0 hsb0 hsl
    go_enter Try.func4, Try.ntmps4
    have s0 : LW w [(w.heap.size, 22, .u8, key)] [(a, len, cap, bs)] (w.alloc (.cells (nv .u8 key).toArray 22)) := ((LW.nil (xrefl w)).addR hR).new 22 .u8 key
    clear hR hr
    go_wp2_with (first
      | (go_at_call 8; refine (awake_any _).mono ?_; rintro e w1 ⟨rfl, hb1⟩; have s1 := s0.below hb1; have k1 := s1.blk 0 rfl; clear s0 hb1)
      | (refine wp_load_arr rfl 22 (.tmp 2) rfl w.heap.size rfl k1 32 5 Try.underlying22 HZK.out ?_)
      | (go_at_call 9; refine (c0.out _).mono ?_; rintro e w2 ⟨rfl, hb2⟩; have s2 := s1.below hb2; clear s1 k1 hb2 c0)
      | (refine wp_store_new rfl 23 (.tmp 6) (.tmp 16) rfl rfl _ (nv .u8 sd).toArray rfl HZS.out HSS.out (nv_one _ _) ?_; have s3 := s2.new 23 .u8 sd; have k3 := s3.blk 1 rfl; have hN0 : w.heap.size < w2.heap.size := s2.lt _ List.mem_cons_self; clear s2)
      | (refine wp_load_arr rfl 22 (.tmp 2) rfl w.heap.size rfl k3 32 5 Try.underlying22 HZK.out ?_; have hlt := hN0; generalize w2.heap.size = N at s3 hlt ⊢; refine wpList_at (fun V => LW w [(N, 23, .u8, sd), (w.heap.size, 22, .u8, key)] [(a, len, cap, bs)] V ∧ w.heap.size < N ∧ N < V.heap.size) ⟨s3, hlt, s3.lt _ List.mem_cons_self⟩ ?_; clear s3 k3 hlt hN0; rintro W ⟨s3, hN0, hN1⟩)
      | (refine wp_store_new rfl 22 (.tmp 7) (.tmp 17) rfl rfl _ (nv .u8 key).toArray rfl HZK2.out HSK.out (nv_one _ _) ?_; have s4 := s3.new 22 .u8 key; clear s3)
      | fail)
    generalize W.heap.size = Z at s4 hN1 ⊢
    refine at_world (fun V => LW w [(Z, 22, .u8, zN key 0), (N, 23, .u8, sd), (w.heap.size, 22, .u8, key)] [(a, len, cap, bs)] V) (by rw [show zN key 0 = key from fl_zero _ _]; exact s4) ?_
    clear s4
    intro V sV
    go_loopw [8] (fun r wr => ∃ i : Nat, i ≤ 16 ∧ r = .int .i64 i ∧ LW w [(Z, 22, .u8, zN key i), (N, 23, .u8, sd), (w.heap.size, 22, .u8, key)] [(a, len, cap, bs)] wr) (fun r _ => 16 - (intOf r).toNat)
    case atStart => exact ⟨0, by decide, rfl, sV⟩
    case round =>
      clear sV
      obtain ⟨i, hi, rfl, hs⟩ := hrel
      have hzl := zN_length key i (by have := HK.out; omega)
      have hneL : ∀ e ∈ [(N, 23, IntKind.u8, sd), (w.heap.size, 22, IntKind.u8, key)], e.1 ≠ Z := by
        intro e he
        simp only [List.mem_cons, List.not_mem_nil, or_false] at he
        rcases he with rfl | rfl
        · show N ≠ Z; omega
        · show w.heap.size ≠ Z; omega
      have hneR : ∀ e ∈ [(a, len, cap, bs)], ∀ x, e.1 = some x → 0 < e.2.1 → x.block ≠ Z := by
        intro e he x hx h0
        simp only [List.mem_cons, List.not_mem_nil, or_false] at he
        subst he
        have := hpa x hx h0
        omega
      have hB := hs.blk 0 rfl
      by_cases hlt : i < 16
      · have hc := hB.cell i (by have := HK.out; omega)
        have hf := hB.frozen i
        have hfin := hs.set1 (by omega) hneL hneR i 0
        rw [zN_succ key i (by have := HK.out; omega)] at hfin
        generalize (zN key i).getD i 0 = z1 at hc
        clear hneL hneR hB hs hzl
        have hid : decide ((i : Int) < 16) = true := decide_eq_true (by omega)
        have hi32 : (i : Int) < 32 := by omega
        go_wp2_with fail
        exact ⟨⟨i + 1, by omega, by go_num, hfin⟩, by simp [intOf]; omega⟩
      · obtain rfl : i = 16 := by omega
        rw [show ((16 : Nat) : Int) = 16 from rfl]
        have hc3 := hB.cell 3 (by have := HK.out; omega)
        have hc4 := hB.cell 4 (by have := HK.out; omega)
        have hf3 := hB.frozen 3
        have hf4 := hB.frozen 4
        have s5 := (hs.set1 (by omega) hneL hneR 3 240).set1 (by omega) hneL hneR 4 3
        rw [show ((zN key 16).set 3 240).set 4 3 = zF key from rfl] at s5
        have hzl2 := zF_length key HK.out
        have HZZ := Lib.hid (show (Try.prog.info? 22).map (·.size) = some (zF key).length by rw [hzl2]; kernel_rfl)
        generalize (zN key 16).getD 3 0 = z3 at hc3
        generalize (zN key 16).getD 4 0 = z4 at hc4
        clear hneL hneR hB hs hzl
        generalize zF key = zf at s5 HZZ c1 hzl2
        have HZL := Lib.hid hzl2
        clear hzl2
        have k5 := s5.blk 0 rfl
        go_wp2_with (first
          | (refine wp_load_arr rfl 22 (.tmp 7) rfl Z rfl k5 32 5 Try.underlying22 HZZ.out ?_)
          | (go_at_call 9; refine (c1.out _ (s5.rd 0 rfl)).mono ?_; rintro e w6 ⟨rfl, hb6⟩; have s6 := s5.below hb6; have hZ6 := s6.lt _ List.mem_cons_self; clear s5 k5 hb6 c1)
          | (refine wp_store_new rfl 23 (.tmp 9) (.tmp 28) rfl rfl _ (nv .u8 sd).toArray rfl HZS.out HSS.out (nv_one _ _) ?_; have s7 := s6.new 23 .u8 sd; clear s6)
          | fail)
        have hZ1 : Z < w6.heap.size := hZ6
        generalize w6.heap.size = Tb at s7 ⊢
        generalize w6.alloc _ = W7 at s7 ⊢
        have hsl := HSL.out
        have hk := HK.out
        refine wp_region_class (LW w [(Tb, 23, .u8, sd), (Z, 22, .u8, zf), (N, 23, .u8, sd), (w.heap.size, 22, .u8, key)] [(a, len, cap, bs)]) (by kernel_rfl) (by kernel_rfl) (s7.drew) ?_
        refine qY (v := ?_) rfl ?_ ?_
        rotate_left
        · (intro w' _; go_simp; try with_reducible rfl)
        rotate_left
        try simp only [Act.put, List.setIfInBounds_toArray, List.set_cons_zero, List.set_cons_succ]
        refine qY (v := ?_) rfl ?_ ?_
        rotate_left
        · (intro w' _; go_simp; try with_reducible rfl)
        rotate_left
        try simp only [Act.put, List.setIfInBounds_toArray, List.set_cons_zero, List.set_cons_succ]
        refine qY (v := ?_) rfl ?_ ?_
        rotate_left
        · (intro w' _; go_simp; try with_reducible rfl)
        rotate_left
        try simp only [Act.put, List.setIfInBounds_toArray, List.set_cons_zero, List.set_cons_succ]
        refine qI (v := .string (strB sd)) (yieldsStr (by rfl) (x := .tmp 31) rfl (by rfl) us u8 ut (fun W h => ((h.blk 2 rfl).rd 16 hsl hsb (by decide)).2)) ?_
        try simp only [Act.put, List.setIfInBounds_toArray, List.set_cons_zero, List.set_cons_succ]
        refine qY (v := ?_) rfl ?_ ?_
        rotate_left
        · (intro w' _; go_simp; try with_reducible rfl)
        rotate_left
        try simp only [Act.put, List.setIfInBounds_toArray, List.set_cons_zero, List.set_cons_succ]
        refine qI (v := .string (strB (key.drop 16))) (yieldsStr (by rfl) (x := .tmp 33) rfl (by rfl) us u8 ut (fun W h => (((h.blk 3 rfl).rd 32 hk hkb (by decide)).cut 16 (by decide)).2)) ?_
        try simp only [Act.put, List.setIfInBounds_toArray, List.set_cons_zero, List.set_cons_succ]
        refine qI (v := .bool true) (yieldsEqS (by rfl) rfl (by rfl) (by rfl) hseq.out) ?_
        try simp only [Act.put, List.setIfInBounds_toArray, List.set_cons_zero, List.set_cons_succ]
        refine qY (v := ?_) rfl ?_ ?_
        rotate_left
        · (intro w' _; go_simp; try with_reducible rfl)
        rotate_left
        try simp only [Act.put, List.setIfInBounds_toArray, List.set_cons_zero, List.set_cons_succ]
        refine qY (v := ?_) rfl ?_ ?_
        rotate_left
        · (intro w' _; go_simp; try with_reducible rfl)
        rotate_left
        try simp only [Act.put, List.setIfInBounds_toArray, List.set_cons_zero, List.set_cons_succ]
        refine qY (v := ?_) rfl ?_ ?_
        rotate_left
        · (intro w' _; go_simp; try with_reducible rfl)
        rotate_left
        try simp only [Act.put, List.setIfInBounds_toArray, List.set_cons_zero, List.set_cons_succ]
        refine qI (v := .string (strB sd)) (yieldsStr (by rfl) (x := .tmp 38) rfl (by rfl) us u8 ut (fun W h => ((h.blk 0 rfl).rd 16 hsl hsb (by decide)).2)) ?_
        try simp only [Act.put, List.setIfInBounds_toArray, List.set_cons_zero, List.set_cons_succ]
        refine qY (v := ?_) rfl ?_ ?_
        rotate_left
        · (intro w' _; go_simp; try with_reducible rfl)
        rotate_left
        try simp only [Act.put, List.setIfInBounds_toArray, List.set_cons_zero, List.set_cons_succ]
        refine qI (v := .string (strB (key.drop 16))) (yieldsStr (by rfl) (x := .tmp 40) rfl (by rfl) us u8 ut (fun W h => (((h.blk 3 rfl).rd 32 hk hkb (by decide)).cut 16 (by decide)).2)) ?_
        try simp only [Act.put, List.setIfInBounds_toArray, List.set_cons_zero, List.set_cons_succ]
        refine qI (v := .bool true) (yieldsEqS (by rfl) rfl (by rfl) (by rfl) hseq.out) ?_
        try simp only [Act.put, List.setIfInBounds_toArray, List.set_cons_zero, List.set_cons_succ]
        refine qY (v := ?_) rfl ?_ ?_
        rotate_left
        · (intro w' _; go_simp; try with_reducible rfl)
        rotate_left
        try simp only [Act.put, List.setIfInBounds_toArray, List.set_cons_zero, List.set_cons_succ]
        refine qY (v := ?_) rfl ?_ ?_
        rotate_left
        · (intro w' _; go_simp; try with_reducible rfl)
        rotate_left
        try simp only [Act.put, List.setIfInBounds_toArray, List.set_cons_zero, List.set_cons_succ]
        refine wpQuiet_nil ?_
        intro w9 h9
        go_wp2_with fail
        go_ret
        exact ⟨rfl, h9.bel⟩
  · have hd : decide (300 < len) = true := decide_eq_true (by omega)
    go_enter Try.func4, Try.ntmps4
    go_wp2_with (first
      | (go_at_call 8; refine (awake_any _).mono ?_; rintro e w1 ⟨rfl, hb1⟩)
      | fail)
    go_ret
    exact ⟨rfl, xtrans (xnew _ _) hb1⟩
end Go.Proofs.Ytgfmglgibfhimaa.Po
