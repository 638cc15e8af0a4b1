/- Walks of the document's numbers of twenty digits: subtracting, adding. -/
import Derived.Test.YtgfmglgibfhimaaPrW1
namespace Go.Proofs.Ytgfmglgibfhimaa.Po
open Go.RowKit

theorem two_blocks {w : World} {t : TypeId} {k : IntKind} (a b c : List Nat) : (fun W => Blk W w.heap.size t k a ∧ Blk W (w.heap.size + 1) t k b ∧ Blk W (w.heap.size + 1 + 1) t k c ∧ Below w.heap.size w W)
    (((w.alloc (.cells (nv k a).toArray t)).alloc (.cells (nv k b).toArray t)).alloc (.cells (nv k c).toArray t)) := by
  refine ⟨((Blk.new w _ _ a _ rfl).alloc _).alloc _, ?_, ?_, xalloc (xalloc (xnew _ _) _) _⟩
  · have := (Blk.new (w.alloc (.cells (nv k a).toArray t)) t k b _ rfl).alloc (.cells (nv k c).toArray t)
    rw [World.size_alloc] at this
    exact this
  · have := Blk.new ((w.alloc (.cells (nv k a).toArray t)).alloc (.cells (nv k b).toArray t)) t k c _ rfl
    rw [World.size_alloc, World.size_alloc] at this
    exact this

set_option maxHeartbeats 1000000 in
theorem less_any (w : World) (a b : List Nat) (ha : dg a) (hb : dg b) (hle : le b ≤ le a) :
    Calls Try.prog 24 #[.agg (nv .i64 a).toArray, .agg (nv .i64 b).toArray] w fun e w' => e = .returned (.agg (nv .i64 (by_ 20 (le a - le b))).toArray) ∧ Below w.heap.size w w' := by
  have HE := Lib.hid (subN_end ha hb hle)
  clear hle
  go_enter Try.func24, Try.ntmps24
  go_wp2_with fail
  refine at_world (fun W => Blk W w.heap.size 42 .i64 a ∧ Blk W (w.heap.size + 1) 42 .i64 b ∧ Blk W (w.heap.size + 1 + 1) 42 .i64 (List.replicate 20 0) ∧ Below w.heap.size w W) (two_blocks a b (List.replicate 20 0)) ?_
  rintro W ⟨hA, hC, hO, hB⟩
  rw [← subN_zero a b] at hA
  go_loopw [5, 6] (fun c r wr => ∃ i : Nat, i ≤ 20 ∧ r = .int .i64 i ∧ c = .int .i64 ((bor a b i : Nat) : Int) ∧ Blk wr w.heap.size 42 .i64 (subN a b i) ∧ Blk wr (w.heap.size + 1) 42 .i64 b ∧ Blk wr (w.heap.size + 1 + 1) 42 .i64 (List.replicate 20 0) ∧ Below w.heap.size w wr) (fun _ r _ => 20 - (intOf r).toNat)
  case atStart => exact ⟨0, by decide, rfl, rfl, hA, hC, hO, hB⟩
  case round =>
    clear hA hC hO hB
    obtain ⟨i, hi, rfl, rfl, hA, hC, hO, hB⟩ := hrel
    by_cases hlt : i < 20
    · have hx := hA.cell i (by rw [subN_length a b i (by rw [ha.1]; exact hi), ha.1]; exact hlt)
      rw [subN_get a b i (by rw [ha.1]; exact hlt)] at hx
      have hy := hC.cell i (by rw [hb.1]; exact hlt)
      have hset := subN_succ a b i (by rw [ha.1]; exact hlt)
      have hxl := getD_lt a ha.2 i
      have hyl := getD_lt b hb.2 i
      have hcl := bor_le a b i
      have hbs := bor_succ a b i
      have hsd : subD a b i = (a.getD i 0 + 256 - b.getD i 0 - bor a b i) % 256 := rfl
      obtain ⟨x, hx0⟩ : ∃ x, x = a.getD i 0 := ⟨_, rfl⟩
      obtain ⟨y, hy0⟩ : ∃ y, y = b.getD i 0 := ⟨_, rfl⟩
      obtain ⟨c, hc0⟩ : ∃ c, c = bor a b i := ⟨_, rfl⟩
      obtain ⟨d, hd0⟩ : ∃ d, d = subD a b i := ⟨_, rfl⟩
      rw [← hx0] at hx hxl hbs hsd
      rw [← hy0] at hy hyl hbs hsd
      rw [← hc0] at hcl hbs hsd
      rw [← hd0] at hset hsd
      rw [← hc0]
      have HSET := Lib.hid hset
      clear hx0 hy0 hc0 hd0 hset
      by_cases h : x < y + c
      · rw [if_pos h] at hbs
        have HBS := Lib.hid hbs
        have e1 : (x : Int) - (y : Int) - (c : Int) + 256 = (d : Int) := by omega
        have e2 : (x : Int) - (y : Int) - (c : Int) < 0 := by omega
        clear hbs hsd
        go_wp2_with fail
        go_quiet (fail)
        have hA2 := hA.drewN nq
        have hf := hA2.frozen i
        have hcell := hA2.cell i (by rw [subN_length a b i (by rw [ha.1]; exact hi), ha.1]; exact hlt)
        have hfin := hA2.set i d
        rw [HSET.out] at hfin
        generalize (subN a b i).getD i 0 = z at hcell
        clear hx hy
        go_wp2_with fail
        exact ⟨⟨i + 1, by omega, by go_num, by rw [HBS.out]; rfl, hfin, (hC.drewN nq).other _ _ (by show w.heap.size + 1 ≠ w.heap.size; omega), (hO.drewN nq).other _ _ (by show w.heap.size + 1 + 1 ≠ w.heap.size; omega), xset (below_drewN hB nq) (Nat.le_refl _) _⟩, by simp [intOf]; omega⟩
      · rw [if_neg h] at hbs
        have HBS := Lib.hid hbs
        have e1 : (x : Int) - (y : Int) - (c : Int) = (d : Int) := by omega
        clear hbs hsd
        go_wp2_with fail
        go_quiet (fail)
        have hA2 := hA.drewN nq
        have hf := hA2.frozen i
        have hcell := hA2.cell i (by rw [subN_length a b i (by rw [ha.1]; exact hi), ha.1]; exact hlt)
        have hfin := hA2.set i d
        rw [HSET.out] at hfin
        generalize (subN a b i).getD i 0 = z at hcell
        clear hx hy
        try rw [e1]
        have hd0 : ¬ (d : Int) < 0 := by omega
        go_wp2_with fail
        exact ⟨⟨i + 1, by omega, by go_num, by rw [HBS.out]; rfl, hfin, (hC.drewN nq).other _ _ (by show w.heap.size + 1 ≠ w.heap.size; omega), (hO.drewN nq).other _ _ (by show w.heap.size + 1 + 1 ≠ w.heap.size; omega), xset (below_drewN hB nq) (Nat.le_refl _) _⟩, by simp [intOf]; omega⟩
    · obtain rfl : i = 20 := by omega
      have hd := dg_subN ha b 20 (Nat.le_refl _)
      rw [HE.out] at hA hd
      obtain ⟨ps, hps⟩ : ∃ ps, ps = by_ 20 (le a - le b) := ⟨_, rfl⟩
      rw [← hps] at hA hd
      have HPS := Lib.hid hps
      have HZ1 := Lib.hid (show (Try.prog.info? 42).map (·.size) = some ps.length by rw [hd.1]; kernel_rfl)
      have HZ2 := Lib.hid (show (Try.prog.info? 42).map (·.size) = some (nv .i64 ps).toArray.size by simp only [List.size_toArray, nv_length]; rw [hd.1]; kernel_rfl)
      have HZ3 := Lib.hid (show (List.replicate 20 0).length = ps.length by rw [hd.1]; rfl)
      clear hps hd
      rw [show ((20 : Nat) : Int) = 20 from rfl]
      go_wp2_with (first
        | (refine wp_load_arr rfl 42 (.tmp 2) rfl w.heap.size rfl hA 20 3 Try.underlying42 HZ1.out ?_)
        | (refine wp_store_arr rfl 42 (.tmp 4) (.tmp 28) rfl (w.heap.size + 1 + 1) rfl hO rfl HZ1.out HZ3.out ?_; intro W9 hO9 hg9)
        | fail)
      exact bodyPost_ret (results_cell_row rfl _ _ (w.heap.size + 1 + 1) 42 (nv .i64 ps).toArray (0, 0) _ rfl hO9 Try.underlying42 rfl HZ2.out) rfl ⟨by rw [HPS.out], gbelow hB hg9 (by omega)⟩

set_option maxHeartbeats 1500000 in
theorem add_any (w : World) (a b : List Nat) (ha : dg a) (hb : dg b) (hla : le a < PP) (hlb : le b < PP) :
    Calls Try.prog 20 #[.agg (nv .i64 a).toArray, .agg (nv .i64 b).toArray] w fun e w' => e = .returned (.agg (nv .i64 (by_ 20 ((le a + le b) % PP))).toArray) ∧ Below w.heap.size w w' := by
  have hdn := dg_addN ha b 20 (Nat.le_refl _)
  have HF1 := fun h => Lib.hid (add_fin ha hb hla hlb h)
  have HF2 := fun h => Lib.hid (add_fin2 ha hb hla hlb h)
  clear hla hlb
  have cA := Lib.hid (fun W => above_any W (addN a b 20) (by_ 20 PP) hdn (dg_by _))
  rw [le_by20 _ PP_small] at cA
  have cL := fun h => Lib.hid (fun W => less_any W (addN a b 20) (by_ 20 PP) hdn (dg_by _) (by rw [le_by20 _ PP_small]; exact h))
  rw [le_by20 _ PP_small] at cL
  have cP := Lib.hid prime_any
  have hpd := dg_by PP
  obtain ⟨pp, hpp⟩ : ∃ pp, pp = by_ 20 PP := ⟨_, rfl⟩
  rw [← hpp] at cA cL cP hpd
  obtain ⟨PX, hPX⟩ : ∃ PX, PX = PP := ⟨_, rfl⟩
  rw [← hPX] at cA cL HF1 HF2
  have HPX := Lib.hid hPX
  clear hpp hPX
  go_enter Try.func20, Try.ntmps20
  go_wp2_with fail
  refine at_world (fun W => Blk W w.heap.size 42 .i64 a ∧ Blk W (w.heap.size + 1) 42 .i64 b ∧ Blk W (w.heap.size + 1 + 1) 42 .i64 (List.replicate 20 0) ∧ Below w.heap.size w W) (two_blocks a b (List.replicate 20 0)) ?_
  rintro W ⟨hA, hC, hO, hB⟩
  rw [← addN_zero a b] at hA
  go_loopw [5, 6] (fun c r wr => ∃ i : Nat, i ≤ 20 ∧ r = .int .i64 i ∧ c = .int .i64 ((car a b i : Nat) : Int) ∧ Blk wr w.heap.size 42 .i64 (addN a b i) ∧ Blk wr (w.heap.size + 1) 42 .i64 b ∧ Blk wr (w.heap.size + 1 + 1) 42 .i64 (List.replicate 20 0) ∧ Below w.heap.size w wr) (fun _ r _ => 20 - (intOf r).toNat)
  case atStart => exact ⟨0, by decide, rfl, rfl, hA, hC, hO, hB⟩
  case round =>
    clear hA hC hO hB
    obtain ⟨i, hi, rfl, rfl, hA, hC, hO, hB⟩ := hrel
    by_cases hlt : i < 20
    · clear cA cL cP HF1 HF2
      have hx := hA.cell i (by rw [addN_length a b i (by rw [ha.1]; exact hi), ha.1]; exact hlt)
      rw [addN_get a b i (by rw [ha.1]; exact hlt)] at hx
      have hy := hC.cell i (by rw [hb.1]; exact hlt)
      have hset := addN_succ a b i (by rw [ha.1]; exact hlt)
      have hxl := getD_lt a ha.2 i
      have hyl := getD_lt b hb.2 i
      have hcl := car_lt ha.2 hb.2 i
      have hbs := car_succ a b i
      have hsd : addD a b i = (a.getD i 0 + b.getD i 0 + car a b i) % 256 := rfl
      obtain ⟨x, hx0⟩ : ∃ x, x = a.getD i 0 := ⟨_, rfl⟩
      obtain ⟨y, hy0⟩ : ∃ y, y = b.getD i 0 := ⟨_, rfl⟩
      obtain ⟨c, hc0⟩ : ∃ c, c = car a b i := ⟨_, rfl⟩
      obtain ⟨d, hd0⟩ : ∃ d, d = addD a b i := ⟨_, rfl⟩
      obtain ⟨n, hn0⟩ : ∃ n, n = x + y + c := ⟨_, rfl⟩
      rw [← hx0] at hx hxl hbs hsd
      rw [← hy0] at hy hyl hbs hsd
      rw [← hc0] at hcl hbs hsd
      rw [← hd0] at hset hsd
      rw [← hn0] at hbs hsd
      rw [← hc0]
      have HSET := Lib.hid hset
      have HBS := Lib.hid hbs
      have e1 : (x : Int) + (y : Int) + (c : Int) = (n : Int) := by omega
      have e2 : (n : Int) % 256 = (d : Int) := by omega
      have hnl : n < 1000 := by omega
      clear hx0 hy0 hc0 hd0 hn0 hset hbs hsd
      go_wp2_with fail
      go_quiet (fail)
      have hA2 := hA.drewN nq
      have hf := hA2.frozen i
      have hcell := hA2.cell i (by rw [addN_length a b i (by rw [ha.1]; exact hi), ha.1]; exact hlt)
      have hfin := hA2.set i d
      rw [HSET.out] at hfin
      generalize (addN a b i).getD i 0 = z at hcell
      clear hx hy
      try rw [e1]
      go_wp2_with fail
      exact ⟨⟨i + 1, by omega, by go_num, by rw [HBS.out]; rfl, hfin, (hC.drewN nq).other _ _ (by show w.heap.size + 1 ≠ w.heap.size; omega), (hO.drewN nq).other _ _ (by show w.heap.size + 1 + 1 ≠ w.heap.size; omega), xset (below_drewN hB nq) (Nat.le_refl _) _⟩, by simp [intOf]; omega⟩
    · obtain rfl : i = 20 := by omega
      obtain ⟨s, hs⟩ : ∃ s, s = addN a b 20 := ⟨_, rfl⟩
      rw [← hs] at hA hdn cA cL HF1 HF2
      have HZS := Lib.hid (show (Try.prog.info? 42).map (·.size) = some s.length by rw [hdn.1]; kernel_rfl)
      have HZP := Lib.hid (show (Try.prog.info? 42).map (·.size) = some pp.length by rw [hpd.1]; kernel_rfl)
      have HZP2 := Lib.hid (show (Try.prog.info? 42).map (·.size) = some (nv .i64 pp).toArray.size by simp only [List.size_toArray, nv_length]; rw [hpd.1]; kernel_rfl)
      have HSP := Lib.hid (show 20 = (nv .i64 pp).toArray.size by simp [nv, hpd.1])
      have HZ3 := Lib.hid (show (List.replicate 20 0).length = s.length by rw [hdn.1]; rfl)
      rw [show ((20 : Nat) : Int) = 20 from rfl]
      clear hs
      by_cases hle : PX ≤ le s
      · have c1 := cL hle
        have f1 := HF1 hle
        rw [decide_eq_true hle] at cA
        obtain ⟨r, hr⟩ : ∃ r, r = by_ 20 (le s - PX) := ⟨_, rfl⟩
        have hrd : dg r := hr ▸ dg_by _
        rw [← hr] at c1 f1
        have HZR := Lib.hid (show (Try.prog.info? 42).map (·.size) = some r.length by rw [hrd.1]; kernel_rfl)
        have HZR2 := Lib.hid (show (Try.prog.info? 42).map (·.size) = some (nv .i64 r).toArray.size by simp only [List.size_toArray, nv_length]; rw [hrd.1]; kernel_rfl)
        have HZR3 := Lib.hid (show (List.replicate 20 0).length = r.length by rw [hrd.1]; rfl)
        clear hr cL HF1 HF2 hle hrd hdn hpd
        go_wp2_with (first
          | (go_at_call 22; refine (cP.out _).mono ?_; rintro e w1 ⟨rfl, hb1⟩)
          | (refine wp_store_new rfl 42 (.tmp 8) (.tmp 28) rfl rfl _ (nv .i64 pp).toArray rfl HZP2.out HSP.out (nv_one _ _) ?_; have hPb := Blk.new w1 42 .i64 pp _ rfl; have hA1 := (hA.below hb1).alloc (.cells (nv .i64 pp).toArray 42); have hO1 := (hO.below hb1).alloc (.cells (nv .i64 pp).toArray 42); have hB1 := xalloc (xtrans hB hb1) (.cells (nv .i64 pp).toArray 42))
          | (refine wp_load_arr rfl 42 (.tmp 2) rfl w.heap.size rfl hA1 20 3 Try.underlying42 HZS.out ?_)
          | (refine wp_load_arr rfl 42 (.tmp 8) rfl w1.heap.size rfl hPb 20 3 Try.underlying42 HZP.out ?_)
          | (go_at_call 23; refine (cA.out _).mono ?_; rintro e w2 ⟨rfl, hb2⟩; have hA2 := hA1.below hb2; have hP2 := hPb.below hb2; have hO2 := hO1.below hb2; have hB2 := xtrans hB1 hb2)
          | (refine wp_load_arr rfl 42 (.tmp 2) rfl w.heap.size rfl hA2 20 3 Try.underlying42 HZS.out ?_)
          | (refine wp_load_arr rfl 42 (.tmp 8) rfl w1.heap.size rfl hP2 20 3 Try.underlying42 HZP.out ?_)
          | (go_at_call 24; refine (c1.out _).mono ?_; rintro e w3 ⟨rfl, hb3⟩; have hO3 := hO2.below hb3; have hB3 := xtrans hB2 hb3)
          | (refine wp_store_arr rfl 42 (.tmp 4) (.tmp 34) rfl (w.heap.size + 1 + 1) rfl hO3 rfl HZR.out HZR3.out ?_; intro W9 hO9 hg9)
          | fail)
        exact bodyPost_ret (results_cell_row rfl _ _ (w.heap.size + 1 + 1) 42 (nv .i64 r).toArray (0, 0) _ rfl hO9 Try.underlying42 rfl HZR2.out) rfl ⟨by rw [f1.out, HPX.out], gbelow hB3 hg9 (by omega)⟩
      · have f2 := HF2 hle
        rw [decide_eq_false hle] at cA
        have HZS2 := Lib.hid (show (Try.prog.info? 42).map (·.size) = some (nv .i64 s).toArray.size by simp only [List.size_toArray, nv_length]; rw [hdn.1]; kernel_rfl)
        clear cL HF1 HF2 hle hdn hpd
        go_wp2_with (first
          | (go_at_call 22; refine (cP.out _).mono ?_; rintro e w1 ⟨rfl, hb1⟩)
          | (refine wp_store_new rfl 42 (.tmp 8) (.tmp 28) rfl rfl _ (nv .i64 pp).toArray rfl HZP2.out HSP.out (nv_one _ _) ?_; have hPb := Blk.new w1 42 .i64 pp _ rfl; have hA1 := (hA.below hb1).alloc (.cells (nv .i64 pp).toArray 42); have hO1 := (hO.below hb1).alloc (.cells (nv .i64 pp).toArray 42); have hB1 := xalloc (xtrans hB hb1) (.cells (nv .i64 pp).toArray 42))
          | (refine wp_load_arr rfl 42 (.tmp 2) rfl w.heap.size rfl hA1 20 3 Try.underlying42 HZS.out ?_)
          | (refine wp_load_arr rfl 42 (.tmp 8) rfl w1.heap.size rfl hPb 20 3 Try.underlying42 HZP.out ?_)
          | (go_at_call 23; refine (cA.out _).mono ?_; rintro e w2 ⟨rfl, hb2⟩; have hA2 := hA1.below hb2; have hO2 := hO1.below hb2; have hB2 := xtrans hB1 hb2)
          | (refine wp_load_arr rfl 42 (.tmp 2) rfl w.heap.size rfl hA2 20 3 Try.underlying42 HZS.out ?_)
          | (refine wp_store_arr rfl 42 (.tmp 4) (.tmp 35) rfl (w.heap.size + 1 + 1) rfl hO2 rfl HZS.out HZ3.out ?_; intro W9 hO9 hg9)
          | fail)
        exact bodyPost_ret (results_cell_row rfl _ _ (w.heap.size + 1 + 1) 42 (nv .i64 s).toArray (0, 0) _ rfl hO9 Try.underlying42 rfl HZS2.out) rfl ⟨by rw [f2.out, HPX.out], gbelow hB2 hg9 (by omega)⟩
end Go.Proofs.Ytgfmglgibfhimaa.Po
