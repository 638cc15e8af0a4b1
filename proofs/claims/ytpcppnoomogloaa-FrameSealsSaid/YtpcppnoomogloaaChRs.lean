/- The walks of the document's block. -/
import Derived.Test.YtpcppnoomogloaaFnd
import Derived.Test.YtpcppnoomogloaaPla
import Derived.Deep.QuietTactic
import Derived.BigQuiet
import Derived.WalkSmall
import Derived.Test.YtpcppnoomogloaaChWs
import Derived.Deep.RegionWith
set_option maxRecDepth 4000
namespace Go.Proofs.Ytpcppnoomogloaa.Ch
set_option linter.unusedSimpArgs false
set_option linter.unusedVariables false
open Go.RowKit

set_option maxHeartbeats 1000000 in
theorem RefNumber_any (w : World) (b off cap x0 x1 x2 x3 : Nat) (h0 : w.cell? ⟨b, off, none⟩ = some (.int .u8 (x0 : Int))) (h1 : w.cell? ⟨b, off + 1, none⟩ = some (.int .u8 (x1 : Int))) (h2 : w.cell? ⟨b, off + 2, none⟩ = some (.int .u8 (x2 : Int))) (h3 : w.cell? ⟨b, off + 3, none⟩ = some (.int .u8 (x3 : Int)))
    (l0 : x0 < 256) (l1 : x1 < 256) (l2 : x2 < 256) (l3 : x3 < 256) :
    Calls Try.prog 77 #[.slice (some ⟨b, off, none⟩) 4 cap] w fun e w' => e = .returned (.int .u32 ((x0 + 256 * x1 + 65536 * x2 + 16777216 * x3 : Nat) : Int)) ∧ Below w.heap.size w w' := by
  rw [show ((x0 + 256 * x1 + 65536 * x2 + 16777216 * x3 : Nat) : Int) = (x0 : Int) + 256 * (x1 : Int) + 65536 * (x2 : Int) + 16777216 * (x3 : Int) from by omega]
  go_enter Try.func77, Try.ntmps77
  go_wp2_with fail
  have h0 : w.drew.cell? ⟨b, off, none⟩ = some (.int .u8 (x0 : Int)) := h0
  have h1 : w.drew.cell? ⟨b, off + 1, none⟩ = some (.int .u8 (x1 : Int)) := h1
  have h2 : w.drew.cell? ⟨b, off + 2, none⟩ = some (.int .u8 (x2 : Int)) := h2
  have h3 : w.drew.cell? ⟨b, off + 3, none⟩ = some (.int .u8 (x3 : Int)) := h3
  go_quiet (fail)
  go_wp2_with fail
  go_ret
  exact ⟨rfl, below_drewN (xrefl _) _⟩
end Go.Proofs.Ytpcppnoomogloaa.Ch

namespace Go.Proofs.Ytpcppnoomogloaa.Ch
set_option linter.unusedSimpArgs false
set_option linter.unusedVariables false
open Go.RowKit

theorem info32r : ∃ i0, Try.prog.info? 29 = some i0 ∧ i0.size = 1 := ⟨_, rfl, by kernel_rfl⟩
theorem infoInt : ∃ i0, Try.prog.info? 3 = some i0 ∧ i0.size = 1 := ⟨_, rfl, by kernel_rfl⟩
def was1 (key : List Nat) (i : Nat) : List Nat := [1634760805, 857760878, 2036477234, 1797285236] ++ (nums key i ++ List.replicate (8 - i) 0) ++ [0, 0, 0, 0]
def was2 (key : List Nat) (counter : Nat) (nonce : List Nat) (i : Nat) : List Nat := ([1634760805, 857760878, 2036477234, 1797285236] ++ nums key 8 ++ [counter]) ++ (nums nonce i ++ List.replicate (3 - i) 0) ++ []
theorem was1_length (key : List Nat) (i : Nat) (h : i ≤ 8) : (was1 key i).length = 16 := by simp [was1, nums_length]; omega
theorem was2_length (key : List Nat) (counter : Nat) (nonce : List Nat) (i : Nat) (h : i ≤ 3) : (was2 key counter nonce i).length = 16 := by simp [was2, nums_length]; omega
theorem nums_set (pre post bs : List Nat) (n i : Nat) (h : i < n) : (pre ++ (nums bs i ++ List.replicate (n - i) 0) ++ post).set (pre.length + i) (num bs i) = pre ++ (nums bs (i + 1) ++ List.replicate (n - (i + 1)) 0) ++ post := by
  obtain ⟨j, hj⟩ : ∃ j, n - i = j + 1 := ⟨n - i - 1, by omega⟩
  have hj' : n - (i + 1) = j := by omega
  rw [mid_set _ _ _ _ _ (by simp [nums_length]; omega), hj, hj', List.set_append_right _ _ (by rw [nums_length]; exact Nat.le_refl _), nums_length, Nat.sub_self, nums_succ, List.replicate_succ, List.set_cons_zero]
  simp
theorem was1_set (key : List Nat) (i : Nat) (h : i < 8) : (was1 key i).set (4 + i) (num key i) = was1 key (i + 1) := nums_set [1634760805, 857760878, 2036477234, 1797285236] [0, 0, 0, 0] key 8 i h
theorem was2_set (key : List Nat) (counter : Nat) (nonce : List Nat) (i : Nat) (h : i < 3) : (was2 key counter nonce i).set (13 + i) (num nonce i) = was2 key counter nonce (i + 1) :=
  nums_set ([1634760805, 857760878, 2036477234, 1797285236] ++ nums key 8 ++ [counter]) [] nonce 3 i h
theorem was1_end (key : List Nat) (counter : Nat) (nonce : List Nat) : (was1 key 8).set 12 counter = was2 key counter nonce 0 := rfl
theorem was2_end (key : List Nat) (counter : Nat) (nonce : List Nat) : was2 key counter nonce 3 = start key counter nonce := by simp [was2, start]

set_option maxRecDepth 100000 in
set_option maxHeartbeats 1500000 in
theorem RefBlock_any (w : World) (key nonce : List Nat) (counter : Nat) (hk : key.length = 32) (hkb : ∀ x ∈ key, x < 256) (hn : nonce.length = 12) (hnb : ∀ x ∈ nonce, x < 256) (hc : counter < 4294967296) :
    Calls Try.prog 64 #[.agg (bv key).toArray, .int .u32 (counter : Int), .agg (bv nonce).toArray] w fun e w' => e = .returned (.agg (bv (block key counter nonce)).toArray) ∧ Below w.heap.size w w' := by
  obtain ⟨s0, hs0⟩ : ∃ s0, s0 = start key counter nonce := ⟨_, rfl⟩
  have hst : okS s0 := hs0 ▸ start_ok key counter nonce hkb hc hnb
  have hblk : block key counter nonce = outBytes s0 (stepN s0 80) := by rw [stepN_80, hs0]; exact block_eq _ _ _
  rw [hblk]
  have HS0 := Lib.hid (hs0.trans (was2_end key counter nonce).symm)
  clear hblk hs0
  go_enter Try.func64, Try.ntmps64
  go_wp2_with fail
  refine at_world (fun W => Blk W w.heap.size 35 .u8 key ∧ Blk W (w.heap.size + 1) 62 .u8 nonce ∧ Blk W (w.heap.size + 1 + 1) 83 .u8 (List.replicate 64 0) ∧
      Blk W (w.heap.size + 1 + 1 + 1) 91 .u32 ([1634760805, 857760878, 2036477234, 1797285236] ++ List.replicate 12 0) ∧ Below w.heap.size w W ∧ w.heap.size + 1 + 1 + 1 + 1 ≤ W.heap.size) ?_ ?_
  · refine ⟨(((Blk.new w _ _ key _ rfl).alloc _).alloc _).alloc _, ?_, ?_, ?_, xalloc (xalloc (xalloc (xnew _ _) _) _) _, by simp⟩
    · have := (((Blk.new (w.alloc (.cells (bv key).toArray 35)) 62 .u8 nonce _ rfl).alloc (.cells (nv .u8 (List.replicate 64 0)).toArray 83)).alloc (.cells (nv .u32 ([1634760805, 857760878, 2036477234, 1797285236] ++ List.replicate 12 0)).toArray 91))
      rw [World.size_alloc] at this
      exact this
    · have := (Blk.new ((w.alloc (.cells (bv key).toArray 35)).alloc (.cells (bv nonce).toArray 62)) 83 .u8 (List.replicate 64 0) _ rfl).alloc (.cells (nv .u32 ([1634760805, 857760878, 2036477234, 1797285236] ++ List.replicate 12 0)).toArray 91)
      rw [World.size_alloc, World.size_alloc] at this
      exact this
    · have := (Blk.new (((w.alloc (.cells (bv key).toArray 35)).alloc (.cells (bv nonce).toArray 62)).alloc (.cells (nv .u8 (List.replicate 64 0)).toArray 83)) 91 .u32 ([1634760805, 857760878, 2036477234, 1797285236] ++ List.replicate 12 0) _ rfl)
      rw [World.size_alloc, World.size_alloc, World.size_alloc] at this
      exact this
  rintro W ⟨hKey, hNon, hOut, hWas, hB, hsz⟩
  rw [show [1634760805, 857760878, 2036477234, 1797285236] ++ List.replicate 12 0 = was1 key 0 from rfl] at hWas
  go_loopw [8] (fun r wr => ∃ i : Nat, i ≤ 8 ∧ r = .int .i64 i ∧ Blk wr w.heap.size 35 .u8 key ∧ Blk wr (w.heap.size + 1) 62 .u8 nonce ∧ Blk wr (w.heap.size + 1 + 1) 83 .u8 (List.replicate 64 0) ∧ Blk wr (w.heap.size + 1 + 1 + 1) 91 .u32 (was1 key i) ∧ Below w.heap.size w wr) (fun r _ => 8 - (intOf r).toNat)
  case atStart => exact ⟨0, by decide, rfl, hKey, hNon, hOut, hWas, hB⟩
  case round =>
    clear hKey hNon hOut hWas hB hsz
    obtain ⟨i, hi8, rfl, hKey, hNon, hOut, hWas, hB⟩ := hrel
    by_cases hlt : i < 8
    · obtain ⟨b, hb⟩ : ∃ b, b = 4 + i := ⟨_, rfl⟩
      obtain ⟨c, hcc⟩ : ∃ c, c = 4 * i := ⟨_, rfl⟩
      have eb : (4 : Int) + (i : Int) = (b : Int) := by omega
      have ec : (4 : Int) * (i : Int) = (c : Int) := by omega
      have b1 : b < 16 := by omega
      have c1 : (c : Int) + 4 ≤ 32 := by omega
      have c2 : (c : Int) ≤ (c : Int) + 4 := by omega
      have c3 : ((c : Int) + 4).toNat = c + 4 := by omega
      have hset := was1_set key i hlt
      have hnum : num key i = key.getD c 0 + 256 * key.getD (c + 1) 0 + 65536 * key.getD (c + 2) 0 + 16777216 * key.getD (c + 3) 0 := by rw [hcc]; rfl
      rw [← hb] at hset
      have HSET := Lib.hid hset
      have hnl := num_lt key hkb i
      obtain ⟨v, hv⟩ : ∃ v, v = num key i := ⟨_, rfl⟩
      rw [← hv] at HSET hnum hnl
      have cn := Lib.hid (fun cap => hnum ▸ RefNumber_any wr w.heap.size c cap _ _ _ _ (hKey.cell c (by omega)) (hKey.cell (c + 1) (by omega)) (hKey.cell (c + 2) (by omega)) (hKey.cell (c + 3) (by omega)) (getD_b key hkb _) (getD_b key hkb _) (getD_b key hkb _) (getD_b key hkb _))
      have hwl := was1_length key i (by omega)
      clear hset hnum hv hb hcc
      go_wp2_with (first
        | (go_at_call 77; refine (cn.out _).mono ?_; rintro e W1 ⟨rfl, hb1⟩; have hm := (hWas.below hb1).cell b (by rw [hwl]; exact b1); have hf := (hWas.below hb1).frozen b)
        | fail)
      have hW2 := (hWas.below hb1).set b v
      rw [HSET.out] at hW2
      exact ⟨⟨i + 1, by omega, by go_num, (hKey.below hb1).other _ _ (by show w.heap.size ≠ w.heap.size + 1 + 1 + 1; omega), (hNon.below hb1).other _ _ (by show w.heap.size + 1 ≠ w.heap.size + 1 + 1 + 1; omega), (hOut.below hb1).other _ _ (by show w.heap.size + 1 + 1 ≠ w.heap.size + 1 + 1 + 1; omega), hW2, xset (xtrans hB hb1) (by show w.heap.size ≤ w.heap.size + 1 + 1 + 1; omega) _⟩, by simp [intOf]; omega⟩
    · obtain rfl : i = 8 := by omega
      have hm := hWas.cell 12 (by rw [was1_length _ _ (Nat.le_refl _)]; decide)
      have hf := hWas.frozen 12
      have hWas0 := hWas.set 12 counter
      rw [was1_end key counter nonce] at hWas0
      rw [show ((8 : Nat) : Int) = 8 from rfl]
      go_wp2_with fail
      have hO0 : Blk (wr.setCell ⟨w.heap.size + 1 + 1 + 1, 12, none⟩ (.int .u32 (counter : Int))) (w.heap.size + 1 + 1) 83 .u8 (List.replicate 64 0) := hOut.other _ _ (by show w.heap.size + 1 + 1 ≠ w.heap.size + 1 + 1 + 1; omega)
      have hN0 : Blk (wr.setCell ⟨w.heap.size + 1 + 1 + 1, 12, none⟩ (.int .u32 (counter : Int))) (w.heap.size + 1) 62 .u8 nonce := hNon.other _ _ (by show w.heap.size + 1 ≠ w.heap.size + 1 + 1 + 1; omega)
      have hB0 : Below w.heap.size w (wr.setCell ⟨w.heap.size + 1 + 1 + 1, 12, none⟩ (.int .u32 (counter : Int))) := xset hB (by show w.heap.size ≤ w.heap.size + 1 + 1 + 1; omega) _
      clear hm hf
      clear hKey hNon hOut hWas hB
      generalize wr.setCell ⟨w.heap.size + 1 + 1 + 1, 12, none⟩ (.int .u32 (counter : Int)) = WW at *
      go_loopw [9] (fun r wr => ∃ i : Nat, i ≤ 3 ∧ r = .int .i64 i ∧ Blk wr (w.heap.size + 1) 62 .u8 nonce ∧ Blk wr (w.heap.size + 1 + 1) 83 .u8 (List.replicate 64 0) ∧ Blk wr (w.heap.size + 1 + 1 + 1) 91 .u32 (was2 key counter nonce i) ∧ Below w.heap.size w wr) (fun r _ => 3 - (intOf r).toNat)
      case atStart => exact ⟨0, by decide, rfl, hN0, hO0, hWas0, hB0⟩
      case round =>
        clear hN0 hO0 hWas0 hB0
        obtain ⟨i, hi3, rfl, hNon, hOut, hWas, hB⟩ := hrel
        by_cases hlt : i < 3
        · obtain ⟨b, hb⟩ : ∃ b, b = 13 + i := ⟨_, rfl⟩
          obtain ⟨c, hcc⟩ : ∃ c, c = 4 * i := ⟨_, rfl⟩
          have eb : (13 : Int) + (i : Int) = (b : Int) := by omega
          have ec : (4 : Int) * (i : Int) = (c : Int) := by omega
          have b1 : b < 16 := by omega
          have c1 : (c : Int) + 4 ≤ 12 := by omega
          have c2 : (c : Int) ≤ (c : Int) + 4 := by omega
          have c3 : ((c : Int) + 4).toNat = c + 4 := by omega
          have hset := was2_set key counter nonce i hlt
          have hnum : num nonce i = nonce.getD c 0 + 256 * nonce.getD (c + 1) 0 + 65536 * nonce.getD (c + 2) 0 + 16777216 * nonce.getD (c + 3) 0 := by rw [hcc]; rfl
          rw [← hb] at hset
          have HSET := Lib.hid hset
          have hnl := num_lt nonce hnb i
          obtain ⟨v, hv⟩ : ∃ v, v = num nonce i := ⟨_, rfl⟩
          rw [← hv] at HSET hnum hnl
          have cn := Lib.hid (fun cap => hnum ▸ RefNumber_any wr (w.heap.size + 1) c cap _ _ _ _ (hNon.cell c (by omega)) (hNon.cell (c + 1) (by omega)) (hNon.cell (c + 2) (by omega)) (hNon.cell (c + 3) (by omega)) (getD_b nonce hnb _) (getD_b nonce hnb _) (getD_b nonce hnb _) (getD_b nonce hnb _))
          have hwl := was2_length key counter nonce i (by omega)
          clear hset hnum hv hb hcc
          go_wp2_with (first
            | (go_at_call 77; refine (cn.out _).mono ?_; rintro e W1 ⟨rfl, hb1⟩; have hm := (hWas.below hb1).cell b (by rw [hwl]; exact b1); have hf := (hWas.below hb1).frozen b)
            | fail)
          have hW2 := (hWas.below hb1).set b v
          rw [HSET.out] at hW2
          exact ⟨⟨i + 1, by omega, by go_num, (hNon.below hb1).other _ _ (by show w.heap.size + 1 ≠ w.heap.size + 1 + 1 + 1; omega), (hOut.below hb1).other _ _ (by show w.heap.size + 1 + 1 ≠ w.heap.size + 1 + 1 + 1; omega), hW2, xset (xtrans hB hb1) (by show w.heap.size ≤ w.heap.size + 1 + 1 + 1; omega) _⟩, by simp [intOf]; omega⟩
        · obtain rfl : i = 3 := by omega
          rw [← HS0.out] at hWas
          have HZ2 : Hid ((nv .u32 s0).toArray.size = 16) := Lib.hid (by simp [nv, hst.1])
          have HZ1 : Hid ((Try.prog.info? 91).map (·.size) = some (nv .u32 s0).toArray.size) := Lib.hid (by rw [HZ2.out]; kernel_rfl)
          have hsz : w.heap.size + 1 + 1 + 1 < wr.heap.size := hWas.lt
          rw [show ((3 : Nat) : Int) = 3 from rfl]
          have HZ5 : Hid ((Try.prog.info? 106).map (·.size) = some (nv .i64 places).toArray.size) := Lib.hid (by show (Try.prog.info? 106).map (·.size) = some 32; kernel_rfl)
          go_wp2_with (first
            | (refine wp_build rfl 106 _ rfl (.agg (nv .i64 places).toArray) (by kernel_rfl) ?_)
            | (refine wp_store_new rfl 106 (.tmp 10) (.tmp 60) rfl rfl _ (nv .i64 places).toArray rfl HZ5.out (by kernel_rfl) (nv_one _ _) ?_)
            | (refine wp_load_arr rfl 91 (.tmp 7) rfl (w.heap.size + 1 + 1 + 1) rfl (hWas.alloc _) 16 29 Try.underlying91 (by rw [hst.1]; kernel_rfl) ?_
               refine wpList_at (fun W => wr.heap.size < W.heap.size ∧ Blk W wr.heap.size 106 .i64 places ∧ Blk W (w.heap.size + 1 + 1) 83 .u8 (List.replicate 64 0) ∧ Blk W (w.heap.size + 1 + 1 + 1) 91 .u32 s0 ∧ Below w.heap.size w W) ⟨by rw [World.size_alloc]; exact Nat.lt_succ_self _, Blk.new wr _ _ places _ rfl, hOut.alloc _, hWas.alloc _, xalloc hB _⟩ ?_
               rintro WP ⟨hszP, hPl, hO, hW, hB3⟩)
            | (refine wp_store_new rfl 91 (.tmp 11) (.tmp 61) rfl rfl _ (nv .u32 s0).toArray rfl HZ1.out HZ2.out.symm (nv_one _ _) ?_)
            | fail)
          have hS3 := Blk.new WP 91 .u32 s0 _ rfl
          have hPl3 := hPl.alloc (.cells (nv .u32 s0).toArray 91)
          have hO3 := hO.alloc (.cells (nv .u32 s0).toArray 91)
          have hW3 := hW.alloc (.cells (nv .u32 s0).toArray 91)
          have hB4 := xalloc hB3 (.cells (nv .u32 s0).toArray 91)
          obtain ⟨Bp, hBp⟩ : ∃ Bp, Bp = wr.heap.size := ⟨_, rfl⟩
          obtain ⟨Bs, hBs⟩ : ∃ Bs, Bs = WP.heap.size := ⟨_, rfl⟩
          rw [← hBp] at hszP hsz hPl3 ⊢
          rw [← hBs] at hszP hS3 ⊢
          clear hPl hO hW hB3 hOut hWas hB hBp
          refine at_world (fun W => Blk W Bs 91 .u32 s0 ∧ Blk W Bp 106 .i64 places ∧ Blk W (w.heap.size + 1 + 1) 83 .u8 (List.replicate 64 0) ∧ Blk W (w.heap.size + 1 + 1 + 1) 91 .u32 s0 ∧ Below w.heap.size w W) ⟨hS3, hPl3, hO3, hW3, hB4⟩ ?_
          clear hS3 hPl3 hO3 hW3 hB4 hBs
          rintro W3 ⟨hS, hPl, hO, hW, hB3⟩
          rw [← stepN_zero s0] at hS
          go_loopw [12] (fun r wr => ∃ n : Nat, n ≤ 80 ∧ r = .int .i64 n ∧ Blk wr Bs 91 .u32 (stepN s0 n) ∧ Blk wr Bp 106 .i64 places ∧ Blk wr (w.heap.size + 1 + 1) 83 .u8 (List.replicate 64 0) ∧ Blk wr (w.heap.size + 1 + 1 + 1) 91 .u32 s0 ∧ Below w.heap.size w wr) (fun r _ => 80 - (intOf r).toNat)
          case atStart => exact ⟨0, by decide, rfl, hS, hPl, hO, hW, hB3⟩
          case round =>
            clear hS hPl hO hW hB3
            obtain ⟨n, hn80, rfl, hS, hPl, hO, hW, hB3⟩ := hrel
            by_cases hlt : n < 80
            · obtain ⟨m, hm⟩ : ∃ m, m = n % 8 := ⟨_, rfl⟩
              have em : (n : Int) % 8 = (m : Int) := by omega
              have hm8 : m < 8 := by omega
              obtain ⟨p0, p1, p2, p3, hp, l0, l1, l2, l3⟩ := pl_lt m hm8
              have HP := Lib.hid hp
              have hsn := stepN_places s0 n p0 p1 p2 p3 (hm ▸ hp)
              have hsi := stepN_ok hst n
              generalize stepN s0 n = si at hS hsn hsi
              have HSN := Lib.hid hsn
              clear hm hp hsn
              have HZ3 : Hid ((Try.prog.info? 105).map (·.size) = some (nv .i64 [p0, p1, p2, p3]).toArray.size) := Lib.hid (by show (Try.prog.info? 105).map (·.size) = some 4; kernel_rfl)
              have HZ4 : Hid ((Try.prog.info? 105).map (·.size) = some 4) := Lib.hid (by kernel_rfl)
              go_wp2_with (first
                | (refine wp_index_sub rfl 106 (.tmp 10) (.tmp 67) rfl Bp m rfl rfl 8 105 Try.underlying106 4 HZ4.out hm8 ?_)
                | (refine wp_load_sub rfl 105 (.tmp 68) rfl Bp (m * 4) rfl hPl 4 4 3 Try.underlying105 HZ4.out HP.out rfl ?_)
                | (refine wp_store_new rfl 105 (.tmp 13) (.tmp 69) rfl rfl _ (nv .i64 [p0, p1, p2, p3]).toArray rfl HZ3.out rfl (nv_one _ _) ?_)
                | fail)
              have hL0 := Blk.new wr 105 .i64 [p0, p1, p2, p3] _ rfl
              have hS1 := hS.alloc (.cells (nv .i64 [p0, p1, p2, p3]).toArray 105)
              have hPl1 := hPl.alloc (.cells (nv .i64 [p0, p1, p2, p3]).toArray 105)
              have hO1 := hO.alloc (.cells (nv .i64 [p0, p1, p2, p3]).toArray 105)
              have hW1 := hW.alloc (.cells (nv .i64 [p0, p1, p2, p3]).toArray 105)
              have hB1 := xalloc hB3 (.cells (nv .i64 [p0, p1, p2, p3]).toArray 105)
              have hsl := hS.lt
              obtain ⟨L, hL⟩ : ∃ L, L = wr.heap.size := ⟨_, rfl⟩
              rw [← hL] at hsl hL0 ⊢
              clear hS hPl hO hW hB3 hL
              refine at_world (fun W => Blk W L 105 .i64 [p0, p1, p2, p3] ∧ Blk W Bs 91 .u32 si ∧ Blk W Bp 106 .i64 places ∧ Blk W (w.heap.size + 1 + 1) 83 .u8 (List.replicate 64 0) ∧ Blk W (w.heap.size + 1 + 1 + 1) 91 .u32 s0 ∧ Below w.heap.size w W) ⟨hL0, hS1, hPl1, hO1, hW1, hB1⟩ ?_
              clear hL0 hS1 hPl1 hO1 hW1 hB1
              rintro W ⟨hL, hS, hPl, hO, hW, hB3⟩
              have nLB : L ≠ Bs := by omega
              have e0 : W.cell? ⟨L, 0, none⟩ = some (.int .i64 (p0 : Int)) := hL.cell 0 (by simp)
              have e1 : W.cell? ⟨L, 1, none⟩ = some (.int .i64 (p1 : Int)) := hL.cell 1 (by simp)
              have e2 : W.cell? ⟨L, 2, none⟩ = some (.int .i64 (p2 : Int)) := hL.cell 2 (by simp)
              have e3 : W.cell? ⟨L, 3, none⟩ = some (.int .i64 (p3 : Int)) := hL.cell 3 (by simp)
              have f0 := hS.cell p0 (by rw [hsi.1]; omega)
              have f1 := hS.cell p1 (by rw [hsi.1]; omega)
              have f2 := hS.cell p2 (by rw [hsi.1]; omega)
              have f3 := hS.cell p3 (by rw [hsi.1]; omega)
              obtain ⟨q, hq⟩ : ∃ q, q = quarter ⟨si.getD p0 0, si.getD p1 0, si.getD p2 0, si.getD p3 0⟩ := ⟨_, rfl⟩
              have HQ := Lib.hid (qs_eq si p0 p1 p2 p3 q hq)
              have h1 := okS_get hsi p0
              have h2 := okS_get hsi p1
              have h3 := okS_get hsi p2
              have h4 := okS_get hsi p3
              have hqok := quarter_ok (x := ⟨si.getD p0 0, si.getD p1 0, si.getD p2 0, si.getD p3 0⟩) ⟨h1, h2, h3, h4⟩
              rw [← hq] at hqok
              have cq := Lib.hid (fun W => RefQuarter_any (si.getD p0 0) (si.getD p1 0) (si.getD p2 0) (si.getD p3 0) W ⟨h1, h2, h3, h4⟩)
              rw [← hq] at cq
              clear hq h1 h2 h3 h4
              have l0i : (p0 : Int) < 16 := by omega
              have l1i : (p1 : Int) < 16 := by omega
              have l2i : (p2 : Int) < 16 := by omega
              have l3i : (p3 : Int) < 16 := by omega
              go_frame
              go_quiet ((go_at_call 78; exact Calls.quiet_of_same (v := .tuple #[.int .u32 (q.a : Int), .int .u32 (q.b : Int), .int .u32 (q.c : Int), .int .u32 (q.d : Int)]) ((cq.out _).mono fun _ _ h => ⟨h.1, h.2.symm⟩)))
              clear e0 e1 e2 e3 f0 f1 f2 f3
              replace hL := hL.drewN nq
              replace hS := hS.drewN nq
              replace hPl := hPl.drewN nq
              replace hO := hO.drewN nq
              replace hW := hW.drewN nq
              replace hB3 := below_drewN hB3 nq
              generalize W.drewN nq = V at *
              have e0 : V.cell? ⟨L, 0, none⟩ = some (.int .i64 (p0 : Int)) := hL.cell 0 (by simp)
              have f0 := hS.cell p0 (by simp [hsi.1]; omega)
              have g0 := hS.frozen p0
              replace hS := hS.set p0 q.a
              replace hL := hL.other ⟨Bs, p0, none⟩ (.int .u32 ((q.a : Nat) : Int)) nLB
              have e1 : (V.setCell ⟨Bs, p0, none⟩ (.int .u32 ((q.a : Nat) : Int))).cell? ⟨L, 1, none⟩ = some (.int .i64 (p1 : Int)) := hL.cell 1 (by simp)
              have f1 := hS.cell p1 (by simp [hsi.1]; omega)
              have g1 := hS.frozen p1
              replace hS := hS.set p1 q.b
              replace hL := hL.other ⟨Bs, p1, none⟩ (.int .u32 ((q.b : Nat) : Int)) nLB
              have e2 : ((V.setCell ⟨Bs, p0, none⟩ (.int .u32 ((q.a : Nat) : Int))).setCell ⟨Bs, p1, none⟩ (.int .u32 ((q.b : Nat) : Int))).cell? ⟨L, 2, none⟩ = some (.int .i64 (p2 : Int)) := hL.cell 2 (by simp)
              have f2 := hS.cell p2 (by simp [hsi.1]; omega)
              have g2 := hS.frozen p2
              replace hS := hS.set p2 q.c
              replace hL := hL.other ⟨Bs, p2, none⟩ (.int .u32 ((q.c : Nat) : Int)) nLB
              have e3 : (((V.setCell ⟨Bs, p0, none⟩ (.int .u32 ((q.a : Nat) : Int))).setCell ⟨Bs, p1, none⟩ (.int .u32 ((q.b : Nat) : Int))).setCell ⟨Bs, p2, none⟩ (.int .u32 ((q.c : Nat) : Int))).cell? ⟨L, 3, none⟩ = some (.int .i64 (p3 : Int)) := hL.cell 3 (by simp)
              have f3 := hS.cell p3 (by simp [hsi.1]; omega)
              have g3 := hS.frozen p3
              replace hS := hS.set p3 q.d
              replace hL := hL.other ⟨Bs, p3, none⟩ (.int .u32 ((q.d : Nat) : Int)) nLB
              rw [← HQ.out, ← HSN.out] at hS
              have nP : Bp ≠ Bs := by omega
              have nO : w.heap.size + 1 + 1 ≠ Bs := by omega
              have nW : w.heap.size + 1 + 1 + 1 ≠ Bs := by omega
              have nB : w.heap.size ≤ Bs := by omega
              have hPl4 := ((((hPl.other ⟨Bs, p0, none⟩ (.int .u32 ((q.a : Nat) : Int)) nP).other ⟨Bs, p1, none⟩ (.int .u32 ((q.b : Nat) : Int)) nP).other ⟨Bs, p2, none⟩ (.int .u32 ((q.c : Nat) : Int)) nP).other ⟨Bs, p3, none⟩ (.int .u32 ((q.d : Nat) : Int)) nP)
              have hO4 := ((((hO.other ⟨Bs, p0, none⟩ (.int .u32 ((q.a : Nat) : Int)) nO).other ⟨Bs, p1, none⟩ (.int .u32 ((q.b : Nat) : Int)) nO).other ⟨Bs, p2, none⟩ (.int .u32 ((q.c : Nat) : Int)) nO).other ⟨Bs, p3, none⟩ (.int .u32 ((q.d : Nat) : Int)) nO)
              have hW4 := ((((hW.other ⟨Bs, p0, none⟩ (.int .u32 ((q.a : Nat) : Int)) nW).other ⟨Bs, p1, none⟩ (.int .u32 ((q.b : Nat) : Int)) nW).other ⟨Bs, p2, none⟩ (.int .u32 ((q.c : Nat) : Int)) nW).other ⟨Bs, p3, none⟩ (.int .u32 ((q.d : Nat) : Int)) nW)
              have hB4 := (xset (xset (xset (xset hB3 (p := ⟨Bs, p0, none⟩) nB (.int .u32 ((q.a : Nat) : Int))) (p := ⟨Bs, p1, none⟩) nB (.int .u32 ((q.b : Nat) : Int))) (p := ⟨Bs, p2, none⟩) nB (.int .u32 ((q.c : Nat) : Int))) (p := ⟨Bs, p3, none⟩) nB (.int .u32 ((q.d : Nat) : Int)))
              clear hPl hO hW hB3 hL cq HQ HSN HP
              go_wp2_with fail
              exact ⟨⟨n + 1, by omega, by go_num, hS, hPl4, hO4, hW4, hB4⟩, by simp [intOf]; omega⟩
            · obtain rfl : n = 80 := by omega
              have hso := stepN_ok hst 80
              obtain ⟨s1, hs1⟩ : ∃ s1, s1 = stepN s0 80 := ⟨_, rfl⟩
              rw [← hs1] at hS hso
              have HS1 := Lib.hid hs1
              have hWlt := hW.lt
              have hBlt := hS.lt
              clear hs1 hPl hlt hn80
              rw [show ((80 : Nat) : Int) = 80 from rfl]
              have HZ6 : Hid ((Try.prog.info? 83).map (·.size) = some (nv .u8 (List.replicate 64 0)).toArray.size) := Lib.hid (by show (Try.prog.info? 83).map (·.size) = some 64; kernel_rfl)
              go_wp2_with (first
                | (refine wp_build rfl 83 _ rfl (.agg (nv .u8 (List.replicate 64 0)).toArray) (by kernel_rfl) ?_)
                | (refine wp_store_new rfl 83 (.tmp 18) (.tmp 108) rfl rfl _ (nv .u8 (List.replicate 64 0)).toArray rfl HZ6.out (by kernel_rfl) (nv_one _ _) ?_)
                | fail)
              have hU := Blk.new wr 83 .u8 (List.replicate 64 0) _ rfl
              have hS1 := hS.alloc (.cells (nv .u8 (List.replicate 64 0)).toArray 83)
              have hO1 := hO.alloc (.cells (nv .u8 (List.replicate 64 0)).toArray 83)
              have hW1 := hW.alloc (.cells (nv .u8 (List.replicate 64 0)).toArray 83)
              have hB1 := xalloc hB3 (.cells (nv .u8 (List.replicate 64 0)).toArray 83)
              obtain ⟨Bo, hBo⟩ : ∃ Bo, Bo = wr.heap.size := ⟨_, rfl⟩
              rw [← hBo] at hWlt hBlt hU ⊢
              clear hS hO hW hB3 hBo
              refine at_world (fun W => Blk W Bo 83 .u8 (List.replicate 64 0) ∧ Blk W Bs 91 .u32 s1 ∧ Blk W (w.heap.size + 1 + 1) 83 .u8 (List.replicate 64 0) ∧ Blk W (w.heap.size + 1 + 1 + 1) 91 .u32 s0 ∧ Below w.heap.size w W) ⟨hU, hS1, hO1, hW1, hB1⟩ ?_
              clear hU hS1 hO1 hW1 hB1
              rintro W9 ⟨hU, hS, hO, hW, hB3⟩
              rw [← outsAt_start s0 s1] at hU
              go_loopw [19] (fun r wr => ∃ i : Nat, i ≤ 64 ∧ r = .int .i64 i ∧ Blk wr Bo 83 .u8 (outsAt s0 s1 i) ∧ Blk wr Bs 91 .u32 s1 ∧ Blk wr (w.heap.size + 1 + 1) 83 .u8 (List.replicate 64 0) ∧ Blk wr (w.heap.size + 1 + 1 + 1) 91 .u32 s0 ∧ Below w.heap.size w wr) (fun r _ => 64 - (intOf r).toNat)
              case atStart => exact ⟨0, by decide, rfl, hU, hS, hO, hW, hB3⟩
              case round =>
                clear hU hS hO hW hB3
                obtain ⟨i, hi64, rfl, hU, hS, hO, hW, hB3⟩ := hrel
                by_cases hlt : i < 64
                · obtain ⟨j, hj⟩ : ∃ j, j = i / 4 := ⟨_, rfl⟩
                  have ej : (i : Int) / 4 = (j : Int) := by omega
                  have hj16 : (j : Int) < 16 := by omega
                  have hx := hS.cell j (by rw [hso.1]; omega)
                  have hy := hW.cell j (by rw [hst.1]; omega)
                  obtain ⟨v, hv⟩ : ∃ v, v = add (s1.getD j 0) (s0.getD j 0) := ⟨_, rfl⟩
                  have hadd := addI _ _ v hv
                  have hvl : v < 4294967296 := hv ▸ add_lt _ _
                  have HV := Lib.hid hv
                  obtain ⟨p, hp⟩ : ∃ p, p = s1.getD j 0 := ⟨_, rfl⟩
                  obtain ⟨q, hq⟩ : ∃ q, q = s0.getD j 0 := ⟨_, rfl⟩
                  have hpl : p < 4294967296 := hp ▸ okS_get hso j
                  have hql : q < 4294967296 := hq ▸ okS_get hst j
                  rw [← hp] at hx hadd
                  rw [← hq] at hy hadd
                  have hk : i % 4 < 4 := Nat.mod_lt _ (by decide)
                  have hob := outByte_at s0 s1 j (i % 4) hk
                  rw [show 4 * j + i % 4 = i from by omega, ← HV.out] at hob
                  clear hp hq hv HV
                  have hset := fun v hv => outsAt_set s0 s1 i v hlt hv
                  have HB := Lib.hid hob
                  have HSET := Lib.hid hset
                  obtain ⟨k, hkk⟩ : ∃ k, k = i % 4 := ⟨_, rfl⟩
                  rw [← hkk] at HB hk
                  have ek : (i : Int) % 4 = (k : Int) := by omega
                  clear hob hset hj hkk
                  go_wp2_with fail
                  go_quiet (fail)
                  rw [hadd]
                  clear hadd hx hy
                  replace hU := hU.drewN nq
                  replace hS := hS.drewN nq
                  replace hO := hO.drewN nq
                  replace hW := hW.drewN nq
                  replace hB3 := below_drewN hB3 nq
                  generalize wr.drewN nq = V at *
                  have hoc := hU.cell i (by rw [outsAt_length _ _ _ hi64]; omega)
                  have hof := hU.frozen i
                  generalize (outsAt s0 s1 i).getD i 0 = z at hoc
                  rcases (show k = 0 ∨ k = 1 ∨ k = 2 ∨ k = 3 from by omega) with rfl | rfl | rfl | rfl
                  · have ek : (i : Int) % 4 = 0 := ek
                    have ev : ((v / 256 ^ 0 % 256 : Nat) : Int) = (v : Int) % 256 := by
                      simp only [Nat.reducePow]
                      omega
                    have hs := hU.set i (v / 256 ^ 0 % 256)
                    rw [ev, HSET.out _ HB.out.symm] at hs
                    clear ev hU
                    go_wp2_with fail
                    exact ⟨⟨i + 1, by omega, by go_num, hs, hS.other _ _ (by show Bs ≠ Bo; omega), hO.other _ _ (by show w.heap.size + 1 + 1 ≠ Bo; omega), hW.other _ _ (by show w.heap.size + 1 + 1 + 1 ≠ Bo; omega), xset hB3 (by show w.heap.size ≤ Bo; omega) _⟩, by simp [intOf]; omega⟩
                  · have ek : (i : Int) % 4 = 1 := ek
                    have ev : ((v / 256 ^ 1 % 256 : Nat) : Int) = (v : Int) / 256 % 256 := by
                      simp only [Nat.reducePow]
                      omega
                    have hs := hU.set i (v / 256 ^ 1 % 256)
                    rw [ev, HSET.out _ HB.out.symm] at hs
                    clear ev hU
                    go_wp2_with fail
                    exact ⟨⟨i + 1, by omega, by go_num, hs, hS.other _ _ (by show Bs ≠ Bo; omega), hO.other _ _ (by show w.heap.size + 1 + 1 ≠ Bo; omega), hW.other _ _ (by show w.heap.size + 1 + 1 + 1 ≠ Bo; omega), xset hB3 (by show w.heap.size ≤ Bo; omega) _⟩, by simp [intOf]; omega⟩
                  · have ek : (i : Int) % 4 = 2 := ek
                    have ev : ((v / 256 ^ 2 % 256 : Nat) : Int) = (v : Int) / 65536 % 256 := by
                      simp only [Nat.reducePow]
                      omega
                    have hs := hU.set i (v / 256 ^ 2 % 256)
                    rw [ev, HSET.out _ HB.out.symm] at hs
                    clear ev hU
                    go_wp2_with fail
                    exact ⟨⟨i + 1, by omega, by go_num, hs, hS.other _ _ (by show Bs ≠ Bo; omega), hO.other _ _ (by show w.heap.size + 1 + 1 ≠ Bo; omega), hW.other _ _ (by show w.heap.size + 1 + 1 + 1 ≠ Bo; omega), xset hB3 (by show w.heap.size ≤ Bo; omega) _⟩, by simp [intOf]; omega⟩
                  · have ek : (i : Int) % 4 = 3 := ek
                    have ev : ((v / 256 ^ 3 % 256 : Nat) : Int) = (v : Int) / 16777216 := by
                      simp only [Nat.reducePow]
                      omega
                    have hs := hU.set i (v / 256 ^ 3 % 256)
                    rw [ev, HSET.out _ HB.out.symm] at hs
                    clear ev hU
                    go_wp2_with fail
                    exact ⟨⟨i + 1, by omega, by go_num, hs, hS.other _ _ (by show Bs ≠ Bo; omega), hO.other _ _ (by show w.heap.size + 1 + 1 ≠ Bo; omega), hW.other _ _ (by show w.heap.size + 1 + 1 + 1 ≠ Bo; omega), xset hB3 (by show w.heap.size ≤ Bo; omega) _⟩, by simp [intOf]; omega⟩
                · obtain rfl : i = 64 := by omega
                  rw [outsAt_end] at hU
                  rw [show ((64 : Nat) : Int) = 64 from rfl]
                  go_wp2_with (first
                    | (refine wp_load_arr rfl 83 (.tmp 18) rfl Bo rfl hU 64 5 Try.underlying83 (by rw [outBytes_length]; kernel_rfl) ?_)
                    | (refine wp_store_arr rfl 83 (.tmp 6) (.tmp 131) rfl (w.heap.size + 1 + 1) rfl hO rfl (by rw [outBytes_length]; kernel_rfl) (by rw [outBytes_length]; rfl) ?_; intro W9 hO9 hg9)
                    | fail)
                  have HZ3 : (nv .u8 (outBytes s0 s1)).toArray.size = 64 := by simp [nv, outBytes_length]
                  have HZ4 : Hid ((Try.prog.info? 83).map (·.size) = some (nv .u8 (outBytes s0 s1)).toArray.size) := Lib.hid (by rw [HZ3]; kernel_rfl)
                  exact bodyPost_ret (results_cell_row rfl _ _ (w.heap.size + 1 + 1) 83 (nv .u8 (outBytes s0 s1)).toArray (0, 0) _ rfl hO9 Try.underlying83 rfl HZ4.out) rfl ⟨by rw [← HS1.out]; rfl, gbelow hB3 hg9 (by omega)⟩
end Go.Proofs.Ytpcppnoomogloaa.Ch
