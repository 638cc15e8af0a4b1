/- Walks: products. -/
import Derived.Test.YtgfmglgibfhimaaPoW2
namespace Go.Proofs.Ytgfmglgibfhimaa.Po
set_option linter.unusedSimpArgs false
set_option linter.unusedVariables false
open Go.RowKit

theorem ok5_tstep {xs ys out : List Nat} (h : ok5 out) (i k : Nat) : ok5 (tstep xs ys out i k) := by
  unfold tstep
  split <;> exact ok5_set h _ _ (Nat.mod_lt _ (by decide))
theorem ok5_trow {xs ys out : List Nat} (h : ok5 out) (i : Nat) : ∀ k, ok5 (trow xs ys out i k)
  | 0 => h
  | k + 1 => ok5_tstep (ok5_trow h i k) _ _
theorem ok5_zero : ok5 [0, 0, 0, 0, 0] := ⟨rfl, by decide⟩
theorem ok5_tall (xs ys : List Nat) : ∀ i, ok5 (tall xs ys i)
  | 0 => ok5_zero
  | i + 1 => ok5_trow (ok5_tall xs ys i) _ _
theorem ok5_times (xs ys : List Nat) : ok5 (times xs ys) := ok5_carried (ok5_tall xs ys 5)
theorem times_eq (xs ys : List Nat) : times xs ys = carried (tall xs ys 5) := rfl
theorem tstep_lo (xs ys zs : List Nat) (i k s z : Nat) (hs : s = i + k) (h : s < 5) (hz : z = (zs.getD s 0 + xs.getD i 0 * ys.getD k 0 % 18446744073709551616) % 18446744073709551616) : tstep xs ys zs i k = zs.set s z := by
  subst hs hz; unfold tstep; rw [if_pos h]
theorem tstep_hi (xs ys zs : List Nat) (i k s b z : Nat) (hs : s = i + k) (hb : b = s - 5) (h : ¬ s < 5) (hz : z = (zs.getD b 0 + 5 * xs.getD i 0 % 18446744073709551616 * ys.getD k 0 % 18446744073709551616) % 18446744073709551616) : tstep xs ys zs i k = zs.set b z := by
  subst hs hb hz; unfold tstep; rw [if_neg h]
theorem wrapP (x y o z : Nat) (h : z = (o + x * y % 18446744073709551616) % 18446744073709551616) : IntKind.u64.wrap ((o : Int) + IntKind.u64.wrap ((x : Int) * (y : Int))) = (z : Int) := by
  rw [IntKind.wrap_u64, IntKind.wrap_u64, h, ← Int.natCast_mul]
  generalize x * y = m
  omega
theorem wrapQ (x y o z : Nat) (h : z = (o + 5 * x % 18446744073709551616 * y % 18446744073709551616) % 18446744073709551616) : IntKind.u64.wrap ((o : Int) + IntKind.u64.wrap (IntKind.u64.wrap (5 * (x : Int)) * (y : Int))) = (z : Int) := by
  rw [IntKind.wrap_u64, IntKind.wrap_u64, IntKind.wrap_u64, h, show 5 * (x : Int) % 18446744073709551616 = ((5 * x % 18446744073709551616 : Nat) : Int) from by omega, ← Int.natCast_mul]
  generalize 5 * x % 18446744073709551616 * y = m
  omega
theorem info64 : ∃ i0, Try.prog.info? 32 = some i0 ∧ i0.size = 1 := ⟨_, rfl, by kernel_rfl⟩
attribute [local irreducible] tall trow tstep

set_option maxHeartbeats 1000000 in
theorem times_any (w : World) (xs ys : List Nat) (hx : ok5 xs) (hy : ok5 ys) :
    Calls Try.prog 15 #[.agg (nv .u64 xs).toArray, .agg (nv .u64 ys).toArray] w fun e w' => e = .returned (.agg (nv .u64 (times xs ys)).toArray) ∧ Below w.heap.size w w' := by
  rw [times_eq]
  obtain ⟨i0, hi0⟩ : ∃ i0, Try.prog.info? 32 = some i0 ∧ i0.size = 1 := info64
  have HIX := Lib.hid (fun (i : Nat) (h : i < 5) (W : World) => run_index_arr (P := Try.prog) (ty := 34) (el := 32) (n := 5) (q := .u64) Try.underlying34 Try.underlying32 hi0.1 hi0.2 .u64 xs hx.1 i h W)
  have HIY := Lib.hid (fun (i : Nat) (h : i < 5) (W : World) => run_index_arr (P := Try.prog) (ty := 34) (el := 32) (n := 5) (q := .u64) Try.underlying34 Try.underlying32 hi0.1 hi0.2 .u64 ys hy.1 i h W)
  clear hi0
  go_enter Try.func15, Try.ntmps15
  have HZX : Hid ((Try.prog.info? 34).map (·.size) = some xs.length) := Lib.hid (by rw [hx.1]; kernel_rfl)
  have HZY : Hid ((Try.prog.info? 34).map (·.size) = some ys.length) := Lib.hid (by rw [hy.1]; kernel_rfl)
  have hN : Blk (((w.alloc (.cells (nv .u64 xs).toArray 34)).alloc (.cells (nv .u64 ys).toArray 34)).alloc (.cells (nv .u64 [0, 0, 0, 0, 0]).toArray 34)) w.heap.size 34 .u64 xs := ((Blk.new w _ _ xs _ rfl).alloc _).alloc _
  have hM : Blk (((w.alloc (.cells (nv .u64 xs).toArray 34)).alloc (.cells (nv .u64 ys).toArray 34)).alloc (.cells (nv .u64 [0, 0, 0, 0, 0]).toArray 34)) (w.heap.size + 1) 34 .u64 ys := by
    have := (Blk.new (w.alloc (.cells (nv .u64 xs).toArray 34)) 34 .u64 ys _ rfl).alloc (.cells (nv .u64 [0, 0, 0, 0, 0]).toArray 34)
    rw [World.size_alloc] at this
    exact this
  have hO : Blk (((w.alloc (.cells (nv .u64 xs).toArray 34)).alloc (.cells (nv .u64 ys).toArray 34)).alloc (.cells (nv .u64 [0, 0, 0, 0, 0]).toArray 34)) (w.heap.size + 1 + 1) 34 .u64 [0, 0, 0, 0, 0] := by
    have := Blk.new ((w.alloc (.cells (nv .u64 xs).toArray 34)).alloc (.cells (nv .u64 ys).toArray 34)) 34 .u64 [0, 0, 0, 0, 0] _ rfl
    rw [World.size_alloc, World.size_alloc] at this
    exact this
  go_wp2_with (first
    | (refine wp_load_arr rfl 34 (.tmp 2) rfl w.heap.size rfl hN 5 32 Try.underlying34 HZX.out ?_)
    | fail)
  refine at_world (fun W => Blk W w.heap.size 34 .u64 xs ∧ Blk W (w.heap.size + 1) 34 .u64 ys ∧ Blk W (w.heap.size + 1 + 1) 34 .u64 [0, 0, 0, 0, 0] ∧ Below w.heap.size w W) ⟨hN, hM, hO, xalloc (xalloc (xnew _ _) _) _⟩ ?_
  clear hN hM hO
  rintro W ⟨hN, hM, hO, hB⟩
  rw [← tall_zero xs ys] at hO
  go_loopw [10] (fun r wr => ∃ i : Nat, i ≤ 5 ∧ r = .int .i64 i ∧ Blk wr (w.heap.size + 1) 34 .u64 ys ∧ Blk wr (w.heap.size + 1 + 1) 34 .u64 (tall xs ys i) ∧ Below w.heap.size w wr) (fun r _ => 5 - (intOf r).toNat)
  case atStart => exact ⟨0, by decide, rfl, hM, hO, hB⟩
  case round =>
    clear hN hM hO hB
    obtain ⟨i, hi5, rfl, hM, hO, hB⟩ := hrel
    have hok := ok5_tall xs ys i
    by_cases hlt : i < 5
    · have HS := Lib.hid (tall_succ xs ys i)
      have hd : decide ((i : Int) < 5) = true := decide_eq_true (by omega)
      generalize tall xs ys i = ts at hO hok HS
      have hix := HIX.out i hlt
      have hxl := getD_le hx.2 (by decide) i
      obtain ⟨x, hxe⟩ : ∃ x, x = xs.getD i 0 := ⟨_, rfl⟩
      rw [← hxe] at hix hxl
      have HXE := Lib.hid hxe
      clear hxe
      go_wp2_with (first
        | (refine wp_load_arr rfl 34 (.tmp 3) rfl (w.heap.size + 1) rfl hM 5 32 Try.underlying34 HZY.out ?_)
        | fail)
      obtain ⟨wo, hwo⟩ : ∃ wo : World, wo = wr := ⟨_, rfl⟩
      rw [← hwo] at hM hO hB ⊢
      clear hwo hix
      rw [← trow_zero xs ys ts i] at hO
      go_loopw [15] (fun r wr => ∃ k : Nat, k ≤ 5 ∧ r = .int .i64 k ∧ Blk wr (w.heap.size + 1) 34 .u64 ys ∧ Blk wr (w.heap.size + 1 + 1) 34 .u64 (trow xs ys ts i k) ∧ Below w.heap.size w wr) (fun r _ => 5 - (intOf r).toNat)
      case atStart => exact ⟨0, by decide, rfl, hM, hO, hB⟩
      case round =>
        clear hM hO hB
        obtain ⟨k, hk5, rfl, hM, hO, hB⟩ := hrel
        have hok2 := ok5_trow (xs := xs) (ys := ys) hok i k
        by_cases hltk : k < 5
        · have HK := Lib.hid (trow_succ xs ys ts i k)
          generalize trow xs ys ts i k = zs at hO hok2 HK
          have hiy := HIY.out k hltk
          have hyl := getD_le hy.2 (by decide) k
          obtain ⟨y, hye⟩ : ∃ y, y = ys.getD k 0 := ⟨_, rfl⟩
          rw [← hye] at hiy hyl
          have HYE := Lib.hid hye
          obtain ⟨s, hs⟩ : ∃ s, s = i + k := ⟨_, rfl⟩
          have es : (i : Int) + (k : Int) = (s : Int) := by omega
          have HSS := Lib.hid hs
          by_cases hs5 : s < 5
          · have hoc := hO.cell s (by rw [hok2.1]; exact hs5)
            have hof := hO.frozen s
            have hol := getD_le hok2.2 (by decide) s
            clear hs hye
            obtain ⟨o, hoe⟩ : ∃ o, o = zs.getD s 0 := ⟨_, rfl⟩
            rw [← hoe] at hoc hol
            have HOE := Lib.hid hoe
            clear hoe
            have hs0 : (0 : Int) ≤ (s : Int) := by omega
            have hs5' : (s : Int) < 5 := by omega
            obtain ⟨z, hz⟩ : ∃ z, z = (o + x * y % 18446744073709551616) % 18446744073709551616 := ⟨_, rfl⟩
            have HEZ := Lib.hid (wrapP x y o z hz)
            have hfin := hO.set s z
            rw [← tstep_lo xs ys zs i k s z HSS.out hs5 (by rw [hz, HOE.out, HXE.out, HYE.out]), ← HK.out] at hfin
            clear hz
            go_wp2_with fail
            rw [HEZ.out]
            exact ⟨⟨k + 1, by omega, by go_num, hM.other _ _ (by show w.heap.size + 1 ≠ w.heap.size + 1 + 1; omega), hfin, xset hB (by show w.heap.size ≤ w.heap.size + 1 + 1; omega) _⟩, by simp [intOf]; omega⟩
          · obtain ⟨b, hb⟩ : ∃ b, b = s - 5 := ⟨_, rfl⟩
            have eb : (s : Int) - 5 = (b : Int) := by omega
            have hb5 : b < 5 := by omega
            have HBB := Lib.hid hb
            have hoc := hO.cell b (by rw [hok2.1]; exact hb5)
            have hof := hO.frozen b
            have hol := getD_le hok2.2 (by decide) b
            clear hs hye hb
            obtain ⟨o, hoe⟩ : ∃ o, o = zs.getD b 0 := ⟨_, rfl⟩
            rw [← hoe] at hoc hol
            have HOE := Lib.hid hoe
            clear hoe
            have hb0 : (0 : Int) ≤ (b : Int) := by omega
            have hb5' : (b : Int) < 5 := by omega
            obtain ⟨z, hz⟩ : ∃ z, z = (o + 5 * x % 18446744073709551616 * y % 18446744073709551616) % 18446744073709551616 := ⟨_, rfl⟩
            have HEZ := Lib.hid (wrapQ x y o z hz)
            have hfin := hO.set b z
            rw [← tstep_hi xs ys zs i k s b z HSS.out HBB.out hs5 (by rw [hz, HOE.out, HXE.out, HYE.out]), ← HK.out] at hfin
            clear hz
            go_wp2_with fail
            rw [HEZ.out]
            exact ⟨⟨k + 1, by omega, by go_num, hM.other _ _ (by show w.heap.size + 1 ≠ w.heap.size + 1 + 1; omega), hfin, xset hB (by show w.heap.size ≤ w.heap.size + 1 + 1; omega) _⟩, by simp [intOf]; omega⟩
        · obtain rfl : k = 5 := by omega
          rw [← HS.out] at hO
          go_wp2_with fail
          exact ⟨⟨i + 1, by omega, by go_num, hM, hO, hB⟩, by simp [intOf]; omega⟩
    · obtain rfl : i = 5 := by omega
      have c := Lib.hid (fun W => carried_any W (tall xs ys 5) hok)
      have hfok := ok5_carried hok
      have hT : (tall xs ys 5).length = 5 := hok.1
      obtain ⟨zs, hzs⟩ : ∃ zs, zs = carried (tall xs ys 5) := ⟨_, rfl⟩
      rw [← hzs] at c hfok
      have HYS := Lib.hid hzs
      clear hzs
      have HZ1 : Hid ((Try.prog.info? 34).map (·.size) = some zs.length) := Lib.hid (by rw [hfok.1]; kernel_rfl)
      have HZ2 : Hid ((Try.prog.info? 34).map (·.size) = some (tall xs ys 5).length) := Lib.hid (by rw [hT]; kernel_rfl)
      have HZ3 : Hid ((tall xs ys 5).length = zs.length) := Lib.hid (by rw [hT, hfok.1])
      clear hT
      go_wp2_with (first
        | (refine wp_load_arr rfl 34 (.tmp 4) rfl (w.heap.size + 1 + 1) rfl hO 5 32 Try.underlying34 HZ2.out ?_)
        | (go_at_call 21; refine (c.out _).mono ?_; rintro e W1 ⟨rfl, hb1⟩; have hO1 := hO.below hb1; have hB1 := xtrans hB hb1)
        | (refine wp_store_arr rfl 34 (.tmp 4) (.tmp 48) rfl (w.heap.size + 1 + 1) rfl hO1 rfl HZ1.out HZ3.out ?_; intro W9 hO9 hg9)
        | fail)
      have HZ4 : Hid ((Try.prog.info? 34).map (·.size) = some (nv .u64 zs).toArray.size) := Lib.hid (by rw [HZ1.out]; simp [nv])
      exact bodyPost_ret (results_cell_row rfl _ _ (w.heap.size + 1 + 1) 34 (nv .u64 zs).toArray (0, 0) _ rfl hO9 Try.underlying34 rfl HZ4.out) rfl ⟨by rw [← HYS.out], gbelow hB1 hg9 (by omega)⟩
end Go.Proofs.Ytgfmglgibfhimaa.Po
