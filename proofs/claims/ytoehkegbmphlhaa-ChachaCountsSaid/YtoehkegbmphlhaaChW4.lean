/- The walk of 'Block'. -/
import Derived.Test.YtoehkegbmphlhaaChW2
import Derived.Test.YtoehkegbmphlhaaChW3
import Derived.Deep.RegionWith
import Derived.Test.YtoehkegbmphlhaaRegion
namespace Go.Proofs.Ytoehkegbmphlhaa.Ch
set_option linter.unusedSimpArgs false
set_option linter.unusedVariables false
open Go.RowKit

theorem info32 : ∃ i0, Try.prog.info? 22 = some i0 ∧ i0.size = 1 := ⟨_, rfl, by kernel_rfl⟩

set_option maxRecDepth 100000 in
set_option maxHeartbeats 1500000 in
theorem Block_any (w : World) (key nonce : List Nat) (counter : Nat) (hk : key.length = 32) (hkb : ∀ x ∈ key, x < 256) (hn : nonce.length = 12) (hnb : ∀ x ∈ nonce, x < 256) (hc : counter < 4294967296) :
    Calls Try.prog 11 #[.agg (bv key).toArray, .int .u32 (counter : Int), .agg (bv nonce).toArray] w fun e w' => e = .returned (.agg (bv (block key counter nonce)).toArray) ∧ Below w.heap.size w w' := by
  obtain ⟨s0, hs0⟩ : ∃ s0, s0 = start key counter nonce := ⟨_, rfl⟩
  have hst : okS s0 := hs0 ▸ start_ok key counter nonce hkb hc hnb
  have hblk : block key counter nonce = outBytes s0 (rounds10 s0 10) := by rw [hs0]; exact block_eq _ _ _
  rw [hblk]
  have HS0 := Lib.hid hs0
  clear hblk hs0
  go_enter Try.func11, Try.ntmps11
  go_wp2_with fail
  refine at_world (fun W => Blk W w.heap.size 23 .u8 key ∧ Blk W (w.heap.size + 1) 24 .u8 nonce ∧ Blk W (w.heap.size + 1 + 1) 28 .u8 (List.replicate 64 0) ∧
      Blk W (w.heap.size + 1 + 1 + 1) 35 .u32 ([1634760805, 857760878, 2036477234, 1797285236] ++ List.replicate 8 0 ++ [counter, 0, 0, 0]) ∧ Below w.heap.size w W ∧ W.heap.size = w.heap.size + 1 + 1 + 1 + 1) ?_ ?_
  · refine ⟨(((Blk.new w _ _ key _ rfl).alloc _).alloc _).alloc _, ?_, ?_, ?_, xalloc (xalloc (xalloc (xnew _ _) _) _) _, by simp⟩
    · have := (((Blk.new (w.alloc (.cells (bv key).toArray 23)) 24 .u8 nonce _ rfl).alloc (.cells (nv .u8 (List.replicate 64 0)).toArray 28)).alloc (.cells (nv .u32 ([1634760805, 857760878, 2036477234, 1797285236] ++ List.replicate 8 0 ++ [counter, 0, 0, 0])).toArray 35))
      rw [World.size_alloc] at this
      exact this
    · have := (Blk.new ((w.alloc (.cells (bv key).toArray 23)).alloc (.cells (bv nonce).toArray 24)) 28 .u8 (List.replicate 64 0) _ rfl).alloc (.cells (nv .u32 ([1634760805, 857760878, 2036477234, 1797285236] ++ List.replicate 8 0 ++ [counter, 0, 0, 0])).toArray 35)
      rw [World.size_alloc, World.size_alloc] at this
      exact this
    · have := (Blk.new (((w.alloc (.cells (bv key).toArray 23)).alloc (.cells (bv nonce).toArray 24)).alloc (.cells (nv .u8 (List.replicate 64 0)).toArray 28)) 35 .u32 ([1634760805, 857760878, 2036477234, 1797285236] ++ List.replicate 8 0 ++ [counter, 0, 0, 0]) _ rfl)
      rw [World.size_alloc, World.size_alloc, World.size_alloc] at this
      exact this
  rintro W ⟨hKey, hNon, hOut, hWas, hB, hsz⟩
  have c1 := Lib.hid (fun W' (h1 : Blk W' (w.heap.size + 1 + 1 + 1) 35 .u32 ([1634760805, 857760878, 2036477234, 1797285236] ++ List.replicate 8 0 ++ [counter, 0, 0, 0])) (h2 : Blk W' w.heap.size 23 .u8 key) =>
    numbers_any W' 35 (w.heap.size + 1 + 1 + 1) 8 12 [1634760805, 857760878, 2036477234, 1797285236] [counter, 0, 0, 0] w.heap.size 0 32 32 key h1 (by omega) (h2.rd 32 hk hkb (by decide)) rfl (by decide) (by decide))
  go_region_with (go_at_call 15; refine (c1.out _ (hWas.drewN 1) (hKey.drewN 1)).mono ?_; rintro e W1 ⟨rfl, hWas1, hg1⟩)
  have hS1 := hg1.size
  have hB1 : Below w.heap.size w W1 := gbelow (below_drewN hB 1) hg1 (by omega)
  have hsz1 : w.heap.size + 1 + 1 + 1 + 1 ≤ W1.heap.size := by have : (W.drewN 1).heap.size = W.heap.size := rfl; omega
  have hKey1 : Blk W1 w.heap.size 23 .u8 key := (hKey.drewN 1).grown hg1 (ne_some (by omega))
  have hNon1 : Blk W1 (w.heap.size + 1) 24 .u8 nonce := (hNon.drewN 1).grown hg1 (ne_some (by omega))
  have hOut1 : Blk W1 (w.heap.size + 1 + 1) 28 .u8 (List.replicate 64 0) := (hOut.drewN 1).grown hg1 (ne_some (by omega))
  have hWas1' : Blk W1 (w.heap.size + 1 + 1 + 1) 35 .u32 (([1634760805, 857760878, 2036477234, 1797285236] ++ nums key 8 ++ [counter]) ++ List.replicate 3 0 ++ []) := by
    have e : ([1634760805, 857760878, 2036477234, 1797285236] ++ nums key 8 ++ [counter]) ++ List.replicate 3 0 ++ [] = [1634760805, 857760878, 2036477234, 1797285236] ++ nums key 8 ++ [counter, 0, 0, 0] := by simp [List.replicate]
    rw [e]; exact hWas1
  have c2 := Lib.hid (fun W' (h1 : Blk W' (w.heap.size + 1 + 1 + 1) 35 .u32 (([1634760805, 857760878, 2036477234, 1797285236] ++ nums key 8 ++ [counter]) ++ List.replicate 3 0 ++ [])) (h2 : Blk W' (w.heap.size + 1) 24 .u8 nonce) =>
    numbers_any W' 35 (w.heap.size + 1 + 1 + 1) 3 3 ([1634760805, 857760878, 2036477234, 1797285236] ++ nums key 8 ++ [counter]) [] (w.heap.size + 1) 0 12 12 nonce h1 (by omega) (h2.rd 12 hn hnb (by decide)) rfl (by decide) (by decide))
  clear hKey hNon hOut hWas hB hsz hg1 hWas1 c1 hS1
  go_wp2_with fail
  go_region_with (go_at_call 15; refine (c2.out _ (hWas1'.drewN 1) (hNon1.drewN 1)).mono ?_; rintro e W2 ⟨rfl, hWas2, hg2⟩)
  have hB2 : Below w.heap.size w W2 := gbelow (below_drewN hB1 1) hg2 (by omega)
  have hsz2 : w.heap.size + 1 + 1 + 1 + 1 ≤ W2.heap.size := by have := hg2.size; have : (W1.drewN 1).heap.size = W1.heap.size := rfl; omega
  have hOut2 : Blk W2 (w.heap.size + 1 + 1) 28 .u8 (List.replicate 64 0) := (hOut1.drewN 1).grown hg2 (ne_some (by omega))
  have hWas3 : Blk W2 (w.heap.size + 1 + 1 + 1) 35 .u32 (start key counter nonce) := by
    have e : start key counter nonce = ([1634760805, 857760878, 2036477234, 1797285236] ++ nums key 8 ++ [counter]) ++ nums nonce 3 ++ [] := by unfold start; simp
    rw [e]; exact hWas2
  rw [← HS0.out] at hWas3
  clear hKey1 hNon1 hOut1 hWas1' hB1 hsz1 hg2 hWas2 c2 HS0
  have HZ2 : Hid ((nv .u32 s0).toArray.size = 16) := Lib.hid (by simp [nv, hst.1])
  have HZ1 : Hid ((Try.prog.info? 35).map (·.size) = some (nv .u32 s0).toArray.size) := Lib.hid (by rw [HZ2.out]; kernel_rfl)
  go_wp2_with (first
    | (refine wp_load_arr rfl 35 (.tmp 7) rfl (w.heap.size + 1 + 1 + 1) rfl hWas3 16 22 Try.underlying35 (by rw [hst.1]; kernel_rfl) ?_)
    | (refine wp_store_new rfl 35 (.tmp 8) (.tmp 25) rfl rfl _ (nv .u32 s0).toArray rfl HZ1.out HZ2.out.symm (nv_one _ _) ?_)
    | fail)
  obtain ⟨Bs, hBs⟩ : ∃ Bs, Bs = W2.heap.size := ⟨_, rfl⟩
  refine at_world (fun W => Blk W Bs 35 .u32 s0 ∧ Blk W (w.heap.size + 1 + 1) 28 .u8 (List.replicate 64 0) ∧ Blk W (w.heap.size + 1 + 1 + 1) 35 .u32 s0 ∧ Below w.heap.size w W) ⟨hBs ▸ Blk.new W2 _ _ s0 _ rfl, hOut2.alloc _, hWas3.alloc _, xalloc hB2 _⟩ ?_
  rintro W3 ⟨hS, hO, hW, hB3⟩
  have hBs' : w.heap.size + 1 + 1 + 1 < Bs := by omega
  rw [← hBs]
  clear hOut2 hWas3 hB2 hsz2 hBs
  go_loopw [26] (fun r wr => ∃ n : Nat, n ≤ 10 ∧ r = .int .i64 n ∧ Blk wr Bs 35 .u32 (rounds10 s0 n) ∧ Blk wr (w.heap.size + 1 + 1) 28 .u8 (List.replicate 64 0) ∧ Blk wr (w.heap.size + 1 + 1 + 1) 35 .u32 s0 ∧ Below w.heap.size w wr) (fun r _ => 10 - (intOf r).toNat)
  case atStart => exact ⟨0, by decide, rfl, by rw [rounds10_zero]; exact hS, hO, hW, hB3⟩
  case round =>
    clear hS hO hW hB3
    obtain ⟨n, hn10, rfl, hS, hO, hW, hB3⟩ := hrel
    by_cases hlt : n < 10
    · go_wp2_with fail
      obtain ⟨wo, hwo⟩ : ∃ wo : World, wo = wr := ⟨_, rfl⟩
      rw [← hwo] at hS hO hW hB3 ⊢
      clear hwo
      have hsr := rounds10_ok hst n
      have HS2 := Lib.hid (rounds10_succ s0 n)
      generalize rounds10 s0 n = sr at hS hsr HS2
      go_loopw [28] (fun r wr => ∃ t : Nat, t ≤ 2 ∧ r = .int .i64 t ∧ Blk wr Bs 35 .u32 (turns2 sr t) ∧ Blk wr (w.heap.size + 1 + 1) 28 .u8 (List.replicate 64 0) ∧ Blk wr (w.heap.size + 1 + 1 + 1) 35 .u32 s0 ∧ Below w.heap.size w wr) (fun r _ => 2 - (intOf r).toNat)
      case atStart => exact ⟨0, by decide, rfl, by rw [turns2_zero]; exact hS, hO, hW, hB3⟩
      case round =>
        clear hS hO hW hB3
        obtain ⟨t, ht2, rfl, hS, hO, hW, hB3⟩ := hrel
        by_cases hltt : t < 2
        · go_wp2_with fail
          obtain ⟨wo3, hwo⟩ : ∃ wo : World, wo = wr := ⟨_, rfl⟩
          rw [← hwo] at hS hO hW hB3 ⊢
          clear hwo
          have hst2 := turns2_ok hsr t
          have HT2 := Lib.hid (turns2_succ sr t)
          generalize turns2 sr t = st at hS hst2 HT2
          go_loopw [31] (fun r wr => ∃ i : Nat, i ≤ 4 ∧ r = .int .i64 i ∧ Blk wr Bs 35 .u32 (steps4 st t i) ∧ Blk wr (w.heap.size + 1 + 1) 28 .u8 (List.replicate 64 0) ∧ Blk wr (w.heap.size + 1 + 1 + 1) 35 .u32 s0 ∧ Below w.heap.size w wr) (fun r _ => 4 - (intOf r).toNat)
          case atStart => exact ⟨0, by decide, rfl, by rw [steps4_zero]; exact hS, hO, hW, hB3⟩
          case round =>
            clear hS hO hW hB3
            obtain ⟨i, hi4, rfl, hS, hO, hW, hB3⟩ := hrel
            by_cases hlti : i < 4
            · have hsi := steps4_ok hst2 t i
              have HI2 := Lib.hid (steps4_succ st t i)
              generalize steps4 st t i = si at hS hsi HI2
              obtain ⟨b, hb⟩ : ∃ b, b = 4 + (i + t) % 4 := ⟨_, rfl⟩
              obtain ⟨c, hcc⟩ : ∃ c, c = 8 + (i + 2 * t) % 4 := ⟨_, rfl⟩
              obtain ⟨d, hd⟩ : ∃ d, d = 12 + (i + 3 * t) % 4 := ⟨_, rfl⟩
              have eb : (4 : Int) + ((i : Int) + (t : Int)) % 4 = (b : Int) := by omega
              have ec : (8 : Int) + ((i : Int) + 2 * (t : Int)) % 4 = (c : Int) := by omega
              have ed : (12 : Int) + ((i : Int) + 3 * (t : Int)) % 4 = (d : Int) := by omega
              have b1 : b < 16 := by omega
              have c1 : c < 16 := by omega
              have d1 : d < 16 := by omega
              rw [step_eq, ← hb, ← hcc, ← hd] at HI2
              clear hb hcc hd
              obtain ⟨q, hq⟩ : ∃ q, q = quarter ⟨si.getD i 0, si.getD b 0, si.getD c 0, si.getD d 0⟩ := ⟨_, rfl⟩
              have HQ := Lib.hid (qs_eq si i b c d q hq)
              have h1 := okS_get hsi i
              have h2 := okS_get hsi b
              have h3 := okS_get hsi c
              have h4 := okS_get hsi d
              have hqok := quarter_ok (x := ⟨si.getD i 0, si.getD b 0, si.getD c 0, si.getD d 0⟩) ⟨h1, h2, h3, h4⟩
              rw [← hq] at hqok
              have cq := Lib.hid (fun W => Quarter_any (si.getD i 0) (si.getD b 0) (si.getD c 0) (si.getD d 0) W ⟨h1, h2, h3, h4⟩)
              rw [← hq] at cq
              have l0 := hS.cell i (by rw [hsi.1]; omega)
              have l1 := hS.cell b (by rw [hsi.1]; omega)
              have l2 := hS.cell c (by rw [hsi.1]; omega)
              have l3 := hS.cell d (by rw [hsi.1]; omega)
              clear hq h1 h2 h3 h4
              go_wp2_with fail
              obtain ⟨i0, hi0⟩ := info32
              refine wp_region_any (by kernel_rfl) ?_
              change wpAny _ _ _ _ _ _ _ (World.drew _)
              refine wpAny_step (i := 0) (d := 52) (v := .int .i64 (i : Int)) rfl rfl (by kernel_rfl) (by kernel_rfl) (by kernel_rfl) (fun _ _ _ h => h) (yields_move rfl rfl (by kernel_rfl)) ?_
              refine wpAny_step (i := 1) (d := 53) (v := .int .i64 (b : Int)) rfl rfl (by kernel_rfl) (by kernel_rfl) (by kernel_rfl) (fun _ _ _ h => h) (yields_move rfl rfl (by kernel_rfl)) ?_
              refine wpAny_step (i := 2) (d := 54) (v := .int .i64 (c : Int)) rfl rfl (by kernel_rfl) (by kernel_rfl) (by kernel_rfl) (fun _ _ _ h => h) (yields_move rfl rfl (by kernel_rfl)) ?_
              refine wpAny_step (i := 3) (d := 55) (v := .int .i64 (d : Int)) rfl rfl (by kernel_rfl) (by kernel_rfl) (by kernel_rfl) (fun _ _ _ h => h) (yields_move rfl rfl (by kernel_rfl)) ?_
              refine wpAny_step (i := 4) (d := 56) (v := .int .i64 (i : Int)) rfl rfl (by kernel_rfl) (by kernel_rfl) (by kernel_rfl) (fun _ _ _ h => h) (yields_move rfl rfl (by kernel_rfl)) ?_
              refine wpAny_step (i := 5) (d := 57) (v := .pointer (some ⟨Bs, i, none⟩)) rfl rfl (by kernel_rfl) (by kernel_rfl) (by kernel_rfl) (fun _ _ _ h => h) (yields_indexAddr (x := .tmp 8) rfl rfl (by kernel_rfl) (by kernel_rfl) Try.underlying35 hi0.1 hi0.2 (by omega)) ?_
              refine wpAny_step (i := 7) (d := 59) (v := .int .i64 (b : Int)) rfl rfl (by kernel_rfl) (by kernel_rfl) (by kernel_rfl) (fun _ _ _ h => h) (yields_move rfl rfl (by kernel_rfl)) ?_
              refine wpAny_step (i := 8) (d := 60) (v := .pointer (some ⟨Bs, b, none⟩)) rfl rfl (by kernel_rfl) (by kernel_rfl) (by kernel_rfl) (fun _ _ _ h => h) (yields_indexAddr (x := .tmp 8) rfl rfl (by kernel_rfl) (by kernel_rfl) Try.underlying35 hi0.1 hi0.2 (by omega)) ?_
              refine wpAny_step (i := 10) (d := 62) (v := .int .i64 (c : Int)) rfl rfl (by kernel_rfl) (by kernel_rfl) (by kernel_rfl) (fun _ _ _ h => h) (yields_move rfl rfl (by kernel_rfl)) ?_
              refine wpAny_step (i := 11) (d := 63) (v := .pointer (some ⟨Bs, c, none⟩)) rfl rfl (by kernel_rfl) (by kernel_rfl) (by kernel_rfl) (fun _ _ _ h => h) (yields_indexAddr (x := .tmp 8) rfl rfl (by kernel_rfl) (by kernel_rfl) Try.underlying35 hi0.1 hi0.2 (by omega)) ?_
              refine wpAny_step (i := 13) (d := 65) (v := .int .i64 (d : Int)) rfl rfl (by kernel_rfl) (by kernel_rfl) (by kernel_rfl) (fun _ _ _ h => h) (yields_move rfl rfl (by kernel_rfl)) ?_
              refine wpAny_step (i := 14) (d := 66) (v := .pointer (some ⟨Bs, d, none⟩)) rfl rfl (by kernel_rfl) (by kernel_rfl) (by kernel_rfl) (fun _ _ _ h => h) (yields_indexAddr (x := .tmp 8) rfl rfl (by kernel_rfl) (by kernel_rfl) Try.underlying35 hi0.1 hi0.2 (by omega)) ?_
              refine wpAny_step4 (by kernel_rfl) 6 9 12 15 58 61 64 67 (.int .u32 ((si.getD i 0 : Nat) : Int)) (.int .u32 ((si.getD b 0 : Nat) : Int)) (.int .u32 ((si.getD c 0 : Nat) : Int)) (.int .u32 ((si.getD d 0 : Nat) : Int)) (by decide) (by kernel_rfl) (by kernel_rfl) rfl rfl rfl rfl rfl rfl rfl rfl (at_load rfl rfl (by kernel_rfl) Try.underlying22 l0) (at_load rfl rfl (by kernel_rfl) Try.underlying22 l1) (at_load rfl rfl (by kernel_rfl) Try.underlying22 l2) (at_load rfl rfl (by kernel_rfl) Try.underlying22 l3) ?_
              refine wpAny_call (i := 16) (d := some 68) (by kernel_rfl) rfl rfl rfl (by kernel_rfl) (cq.out _) (fun wq hbq => ?_)
              have hS0 := (hS.drewN 1).below hbq
              refine wpAny_step (i := 17) (d := 51) (v := tup q) rfl rfl (by kernel_rfl) (by kernel_rfl) (by kernel_rfl) (fun _ _ _ h => h) (yields_move rfl rfl (by kernel_rfl)) ?_
              refine wpAny_step (i := 18) (d := 69) (v := .int .u32 ((q.a : Nat) : Int)) rfl rfl (by kernel_rfl) (by kernel_rfl) (by kernel_rfl) (fun _ _ _ h => h) (yields_extract (vs := #[.int .u32 (q.a : Int), .int .u32 (q.b : Int), .int .u32 (q.c : Int), .int .u32 (q.d : Int)]) rfl rfl (by kernel_rfl) rfl) ?_
              refine wpAny_step (i := 19) (d := 70) (v := .int .u32 ((q.b : Nat) : Int)) rfl rfl (by kernel_rfl) (by kernel_rfl) (by kernel_rfl) (fun _ _ _ h => h) (yields_extract (vs := #[.int .u32 (q.a : Int), .int .u32 (q.b : Int), .int .u32 (q.c : Int), .int .u32 (q.d : Int)]) rfl rfl (by kernel_rfl) rfl) ?_
              refine wpAny_step (i := 20) (d := 71) (v := .int .u32 ((q.c : Nat) : Int)) rfl rfl (by kernel_rfl) (by kernel_rfl) (by kernel_rfl) (fun _ _ _ h => h) (yields_extract (vs := #[.int .u32 (q.a : Int), .int .u32 (q.b : Int), .int .u32 (q.c : Int), .int .u32 (q.d : Int)]) rfl rfl (by kernel_rfl) rfl) ?_
              refine wpAny_step (i := 21) (d := 72) (v := .int .u32 ((q.d : Nat) : Int)) rfl rfl (by kernel_rfl) (by kernel_rfl) (by kernel_rfl) (fun _ _ _ h => h) (yields_extract (vs := #[.int .u32 (q.a : Int), .int .u32 (q.b : Int), .int .u32 (q.c : Int), .int .u32 (q.d : Int)]) rfl rfl (by kernel_rfl) rfl) ?_
              refine wpAny_step (i := 22) (d := 73) (v := .pointer (some ⟨Bs, i, none⟩)) rfl rfl (by kernel_rfl) (by kernel_rfl) (by kernel_rfl) (fun _ _ _ h => h) (yields_indexAddr (x := .tmp 8) rfl rfl (by kernel_rfl) (by kernel_rfl) Try.underlying35 hi0.1 hi0.2 (by omega)) ?_
              have m0 := hS0.cell i (by simp [hsi.1]; omega)
              refine wpAny_store (i := 23) (ad := ⟨Bs, i, none⟩) (k := .u32) (n := (q.a : Nat)) (by kernel_rfl) rfl rfl rfl rfl (by kernel_rfl) (by kernel_rfl) hi0.1 hi0.2 (m0) (hS0.frozen i) ?_
              have hS1 := hS0.set i q.a
              refine wpAny_step (i := 24) (d := 74) (v := .pointer (some ⟨Bs, b, none⟩)) rfl rfl (by kernel_rfl) (by kernel_rfl) (by kernel_rfl) (fun _ _ _ h => h) (yields_indexAddr (x := .tmp 8) rfl rfl (by kernel_rfl) (by kernel_rfl) Try.underlying35 hi0.1 hi0.2 (by omega)) ?_
              have m1 := hS1.cell b (by simp [hsi.1]; omega)
              refine wpAny_store (i := 25) (ad := ⟨Bs, b, none⟩) (k := .u32) (n := (q.b : Nat)) (by kernel_rfl) rfl rfl rfl rfl (by kernel_rfl) (by kernel_rfl) hi0.1 hi0.2 (m1) (hS1.frozen b) ?_
              have hS2 := hS1.set b q.b
              refine wpAny_step (i := 26) (d := 75) (v := .pointer (some ⟨Bs, c, none⟩)) rfl rfl (by kernel_rfl) (by kernel_rfl) (by kernel_rfl) (fun _ _ _ h => h) (yields_indexAddr (x := .tmp 8) rfl rfl (by kernel_rfl) (by kernel_rfl) Try.underlying35 hi0.1 hi0.2 (by omega)) ?_
              have m2 := hS2.cell c (by simp [hsi.1]; omega)
              refine wpAny_store (i := 27) (ad := ⟨Bs, c, none⟩) (k := .u32) (n := (q.c : Nat)) (by kernel_rfl) rfl rfl rfl rfl (by kernel_rfl) (by kernel_rfl) hi0.1 hi0.2 (m2) (hS2.frozen c) ?_
              have hS3 := hS2.set c q.c
              refine wpAny_step (i := 28) (d := 76) (v := .pointer (some ⟨Bs, d, none⟩)) rfl rfl (by kernel_rfl) (by kernel_rfl) (by kernel_rfl) (fun _ _ _ h => h) (yields_indexAddr (x := .tmp 8) rfl rfl (by kernel_rfl) (by kernel_rfl) Try.underlying35 hi0.1 hi0.2 (by omega)) ?_
              have m3 := hS3.cell d (by simp [hsi.1]; omega)
              refine wpAny_store (i := 29) (ad := ⟨Bs, d, none⟩) (k := .u32) (n := (q.d : Nat)) (by kernel_rfl) rfl rfl rfl rfl (by kernel_rfl) (by kernel_rfl) hi0.1 hi0.2 (m3) (hS3.frozen d) ?_
              have hS4 := hS3.set d q.d
              refine wpAny_done (by kernel_rfl) ?_ _
              go_frame
              rw [← HQ.out, ← HI2.out] at hS4
              have nO : w.heap.size + 1 + 1 ≠ Bs := by omega
              have nW : w.heap.size + 1 + 1 + 1 ≠ Bs := by omega
              have nB : w.heap.size ≤ Bs := by omega
              have hO4 := (((((hO.drewN 1).below hbq).other ⟨Bs, i, none⟩ (.int .u32 (q.a : Nat)) nO).other ⟨Bs, b, none⟩ (.int .u32 (q.b : Nat)) nO).other ⟨Bs, c, none⟩ (.int .u32 (q.c : Nat)) nO).other ⟨Bs, d, none⟩ (.int .u32 (q.d : Nat)) nO
              have hW4 := (((((hW.drewN 1).below hbq).other ⟨Bs, i, none⟩ (.int .u32 (q.a : Nat)) nW).other ⟨Bs, b, none⟩ (.int .u32 (q.b : Nat)) nW).other ⟨Bs, c, none⟩ (.int .u32 (q.c : Nat)) nW).other ⟨Bs, d, none⟩ (.int .u32 (q.d : Nat)) nW
              have hB4 := xset (xset (xset (xset (xtrans (below_drewN hB3 1) hbq) (p := ⟨Bs, i, none⟩) nB (.int .u32 (q.a : Nat))) (p := ⟨Bs, b, none⟩) nB (.int .u32 (q.b : Nat))) (p := ⟨Bs, c, none⟩) nB (.int .u32 (q.c : Nat))) (p := ⟨Bs, d, none⟩) nB (.int .u32 (q.d : Nat))
              clear hS hO hW hB3 hS0 hS1 hS2 hS3 m0 m1 m2 m3 l0 l1 l2 l3 cq HQ HI2
              revert hS4 hO4 hW4 hB4
              generalize (((wq.setCell ⟨Bs, i, none⟩ (.int .u32 (q.a : Nat))).setCell ⟨Bs, b, none⟩ (.int .u32 (q.b : Nat))).setCell ⟨Bs, c, none⟩ (.int .u32 (q.c : Nat))).setCell ⟨Bs, d, none⟩ (.int .u32 (q.d : Nat)) = WW
              intro hS hO hW hB3
              clear hbq
              go_wp2_with fail
              exact ⟨⟨i + 1, by omega, by go_num, hS, hO, hW, hB3⟩, by simp [intOf]; omega⟩
            · obtain rfl : i = 4 := by omega
              rw [← HT2.out] at hS
              go_wp2_with fail
              exact ⟨⟨t + 1, by omega, by go_num, hS, hO, hW, hB3⟩, by simp [intOf]; omega⟩
        · obtain rfl : t = 2 := by omega
          rw [← HS2.out] at hS
          go_wp2_with fail
          exact ⟨⟨n + 1, by omega, by go_num, hS, hO, hW, hB3⟩, by simp [intOf]; omega⟩
    · obtain rfl : n = 10 := by omega
      have hso := rounds10_ok hst 10
      obtain ⟨s1, hs1⟩ : ∃ s1, s1 = rounds10 s0 10 := ⟨_, rfl⟩
      rw [← hs1] at hS hso
      have HS1 := Lib.hid hs1
      clear hs1
      obtain ⟨i0, hi0⟩ : ∃ i0, Try.prog.info? 22 = some i0 ∧ i0.size = 1 := info32
      have hix := fun (i : Nat) (h : i < 16) (W : World) => run_index_arr (P := Try.prog) (ty := 35) (el := 22) (n := 16) (q := .u32) Try.underlying35 Try.underlying22 hi0.1 hi0.2 .u32 s1 hso.1 i h W
      have HIX := Lib.hid hix
      clear hix hi0 hlt hn10
      rw [← outsAt_start s0 s1] at hO
      go_wp2_with (first
        | (refine wp_load_arr rfl 35 (.tmp 8) rfl Bs rfl hS 16 22 Try.underlying35 (by rw [hso.1]; kernel_rfl) ?_)
        | fail)
      obtain ⟨wo, hwo⟩ : ∃ wo : World, wo = wr := ⟨_, rfl⟩
      rw [← hwo] at hO hW hB3 ⊢
      clear hS hwo
      go_loopw [81] (fun r wr => ∃ i : Nat, i ≤ 16 ∧ r = .int .i64 i ∧ Blk wr (w.heap.size + 1 + 1) 28 .u8 (outsAt s0 s1 (4 * i)) ∧ Blk wr (w.heap.size + 1 + 1 + 1) 35 .u32 s0 ∧ Below w.heap.size w wr) (fun r _ => 16 - (intOf r).toNat)
      case atStart => exact ⟨0, by decide, rfl, hO, hW, hB3⟩
      case round =>
        clear hO hW hB3
        obtain ⟨i, hi16, rfl, hO, hW, hB3⟩ := hrel
        by_cases hlt : i < 16
        · have hx := HIX.out i hlt
          have hwc := hW.cell i (by rw [hst.1]; exact hlt)
          obtain ⟨v, hv⟩ : ∃ v, v = add (s1.getD i 0) (s0.getD i 0) := ⟨_, rfl⟩
          have hadd := addI _ _ v hv
          have hvl : v < 4294967296 := hv ▸ add_lt _ _
          have HV := Lib.hid hv
          obtain ⟨p, hp⟩ : ∃ p, p = s1.getD i 0 := ⟨_, rfl⟩
          obtain ⟨q, hq⟩ : ∃ q, q = s0.getD i 0 := ⟨_, rfl⟩
          have hpl : p < 4294967296 := hp ▸ okS_get hso i
          have hql : q < 4294967296 := hq ▸ okS_get hst i
          rw [← hp] at hx hadd
          rw [← hq] at hwc hadd
          clear hp hq hv
          go_wp2_with fail
          obtain ⟨wo2, hwo⟩ : ∃ wo : World, wo = wr := ⟨_, rfl⟩
          rw [← hwo] at hO hW hB3 ⊢
          have HA := Lib.hid hadd
          clear hwo hx hwc hadd
          go_loopw [90] (fun r wr => ∃ k : Nat, k ≤ 4 ∧ r = .int .i64 k ∧ Blk wr (w.heap.size + 1 + 1) 28 .u8 (outsAt s0 s1 (4 * i + k)) ∧ Blk wr (w.heap.size + 1 + 1 + 1) 35 .u32 s0 ∧ Below w.heap.size w wr) (fun r _ => 4 - (intOf r).toNat)
          case atStart => exact ⟨0, by decide, rfl, hO, hW, hB3⟩
          case round =>
            clear hO hW hB3
            obtain ⟨k, hk4, rfl, hO, hW, hB3⟩ := hrel
            by_cases hkt : k < 4
            · have hoc := hO.cell (4 * i + k) (by rw [outsAt_length _ _ _ (by omega)]; omega)
              have hof := hO.frozen (4 * i + k)
              have hob := outByte_at s0 s1 i k hkt
              rw [← HV.out] at hob
              have HB := Lib.hid hob
              clear hob
              generalize (outsAt s0 s1 (4 * i + k)).getD (4 * i + k) 0 = z at hoc
              rcases (show k = 0 ∨ k = 1 ∨ k = 2 ∨ k = 3 from by omega) with rfl | rfl | rfl | rfl
              · have ev : ((v / 256 ^ 0 % 256 : Nat) : Int) = ((p : Int) + (q : Int)) % 256 := by
                  have := HA.out
                  simp only [Nat.reducePow]
                  omega
                have hs := hO.set (4 * i + 0) (v / 256 ^ 0 % 256)
                rw [ev, outsAt_set s0 s1 _ _ (by omega) HB.out.symm] at hs
                simp only [Nat.add_zero] at hoc hof hs
                clear ev
                go_wp2_with fail
                exact ⟨⟨1, by decide, rfl, hs, hW.other _ _ (by show w.heap.size + 1 + 1 + 1 ≠ w.heap.size + 1 + 1; omega), xset hB3 (by show w.heap.size ≤ w.heap.size + 1 + 1; omega) _⟩, by simp [intOf]⟩
              · have ev : ((v / 256 ^ 1 % 256 : Nat) : Int) = ((p : Int) + (q : Int)) % 4294967296 / 256 % 256 := by
                  have := HA.out
                  simp only [Nat.reducePow]
                  omega
                have hs := hO.set (4 * i + 1) (v / 256 ^ 1 % 256)
                rw [ev, outsAt_set s0 s1 _ _ (by omega) HB.out.symm] at hs
                skip
                clear ev
                go_wp2_with fail
                exact ⟨⟨2, by decide, rfl, hs, hW.other _ _ (by show w.heap.size + 1 + 1 + 1 ≠ w.heap.size + 1 + 1; omega), xset hB3 (by show w.heap.size ≤ w.heap.size + 1 + 1; omega) _⟩, by simp [intOf]⟩
              · have ev : ((v / 256 ^ 2 % 256 : Nat) : Int) = ((p : Int) + (q : Int)) % 4294967296 / 65536 % 256 := by
                  have := HA.out
                  simp only [Nat.reducePow]
                  omega
                have hs := hO.set (4 * i + 2) (v / 256 ^ 2 % 256)
                rw [ev, outsAt_set s0 s1 _ _ (by omega) HB.out.symm] at hs
                skip
                clear ev
                go_wp2_with fail
                exact ⟨⟨3, by decide, rfl, hs, hW.other _ _ (by show w.heap.size + 1 + 1 + 1 ≠ w.heap.size + 1 + 1; omega), xset hB3 (by show w.heap.size ≤ w.heap.size + 1 + 1; omega) _⟩, by simp [intOf]⟩
              · have ev : ((v / 256 ^ 3 % 256 : Nat) : Int) = ((p : Int) + (q : Int)) % 4294967296 / 16777216 := by
                  have := HA.out
                  simp only [Nat.reducePow]
                  omega
                have hs := hO.set (4 * i + 3) (v / 256 ^ 3 % 256)
                rw [ev, outsAt_set s0 s1 _ _ (by omega) HB.out.symm] at hs
                skip
                clear ev
                go_wp2_with fail
                exact ⟨⟨4, by decide, rfl, hs, hW.other _ _ (by show w.heap.size + 1 + 1 + 1 ≠ w.heap.size + 1 + 1; omega), xset hB3 (by show w.heap.size ≤ w.heap.size + 1 + 1; omega) _⟩, by simp [intOf]⟩
            · obtain rfl : k = 4 := by omega
              go_wp2_with fail
              exact ⟨⟨i + 1, by omega, by go_num, hO, hW, hB3⟩, by simp [intOf]; omega⟩
        · obtain rfl : i = 16 := by omega
          rw [show 4 * 16 = 64 from rfl, outsAt_end] at hO
          go_wp2_with (first
            | (refine wp_load_arr rfl 28 (.tmp 6) rfl (w.heap.size + 1 + 1) rfl hO 64 5 Try.underlying28 (by rw [outBytes_length]; kernel_rfl) ?_)
            | (refine wp_store_arr rfl 28 (.tmp 6) (.tmp 105) rfl (w.heap.size + 1 + 1) rfl hO rfl (by rw [outBytes_length]; kernel_rfl) rfl ?_; intro W9 hO9 hg9)
            | fail)
          have HZ3 : (nv .u8 (outBytes s0 s1)).toArray.size = 64 := by simp [nv, outBytes_length]
          have HZ4 : Hid ((Try.prog.info? 28).map (·.size) = some (nv .u8 (outBytes s0 s1)).toArray.size) := Lib.hid (by rw [HZ3]; kernel_rfl)
          exact bodyPost_ret (results_cell_row rfl _ _ (w.heap.size + 1 + 1) 28 (nv .u8 (outBytes s0 s1)).toArray (0, 0) _ rfl hO9 Try.underlying28 rfl HZ4.out) rfl ⟨by rw [← HS1.out]; rfl, gbelow hB3 hg9 (by omega)⟩
end Go.Proofs.Ytoehkegbmphlhaa.Ch
