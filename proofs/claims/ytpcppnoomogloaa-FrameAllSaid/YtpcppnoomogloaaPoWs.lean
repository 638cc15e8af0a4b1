/- The walks of poly's parts. -/
import Derived.Test.YtpcppnoomogloaaFnd
import Derived.Test.YtpcppnoomogloaaPla
import Derived.Handy
import Derived.BigRegion
import Derived.WalkSmall
import Derived.Laws.Externs
set_option maxRecDepth 4000
namespace Go.Proofs.Ytpcppnoomogloaa.Po
set_option linter.unusedSimpArgs false
set_option linter.unusedVariables false
open Go.RowKit

theorem and26 (x : Nat) (hx : x < 18446744073709551616) : bits .and .u64 (x : Int) 67108863 = ((x % 67108864 : Nat) : Int) := by
  rw [show (67108863 : Int) = ((67108863 : Nat) : Int) from rfl, bits_and .u64 rfl _ _ (by omega) (by show (x : Int) < 18446744073709551616; omega) (by omega) (by decide)]
  rw [Int.toNat_natCast, Int.toNat_natCast, show 67108863 = 2 ^ 26 - 1 from rfl, Nat.and_two_pow_sub_one_eq_mod]
theorem getD_le {xs : List Nat} {M : Nat} (h : ∀ x ∈ xs, x < M) (hM : 0 < M) (i : Nat) : xs.getD i 0 < M := by
  by_cases hi : i < xs.length
  · rw [List.getD_eq_getElem?_getD, List.getElem?_eq_getElem hi]; exact h _ (List.getElem_mem hi)
  · rw [List.getD_eq_getElem?_getD, List.getElem?_eq_none (by omega)]; exact hM

theorem wrapM (x y t z : Nat) (h : z = (y + x / 67108864 * t % 18446744073709551616) % 18446744073709551616) : IntKind.u64.wrap ((y : Int) + IntKind.u64.wrap ((x : Int) / 67108864 * (t : Int))) = (z : Int) := by
  rw [IntKind.wrap_u64, IntKind.wrap_u64, h]
  have e : (x : Int) / 67108864 * (t : Int) = ((x / 67108864 * t : Nat) : Int) := by rw [Int.natCast_mul]; rfl
  rw [e]
  generalize x / 67108864 * t = m
  omega
set_option maxHeartbeats 400000 in
theorem carryFn (w : World) (te : TypeId) (B : Nat) (xs : List Nat) (i to t : Nat) (hB : Blk w B te .u64 xs) (hl : xs.length = 5) (hx : ∀ x ∈ xs, x < 18446744073709551616) (hit : (i = 0 ∧ to = 1) ∨ (i = 1 ∧ to = 2) ∨ (i = 2 ∧ to = 3) ∨ (i = 3 ∧ to = 4) ∨ (i = 4 ∧ to = 0)) :
    Calls Try.prog 88 #[.int .i64 (i : Int), .int .i64 (to : Int), .int .u64 (t : Int), .pointer (some ⟨B, 0, none⟩)] w fun e w' => e = .returned (.tuple #[]) ∧ Blk w' B te .u64 (carry1 xs i to t) ∧ w.grownBy w' (some B) := by
  obtain ⟨hi, hto, hne⟩ : i < 5 ∧ to < 5 ∧ i ≠ to := by omega
  have h0 := hB.cell i (by omega)
  have f0 := hB.frozen i
  have b0 := getD_le hx (by decide) i
  have a0 := and26 _ b0
  have h1 := hB.cell to (by omega)
  have f1 := hB.frozen to
  have e1 : (xs.set i (xs.getD i 0 % 67108864)).getD to 0 = xs.getD to 0 := by simp [List.getD_eq_getElem?_getD, hne]
  obtain ⟨z, hz⟩ : ∃ z, z = (xs.getD to 0 + xs.getD i 0 / 67108864 * t % 18446744073709551616) % 18446744073709551616 := ⟨_, rfl⟩
  have HE : Hid (carry1 xs i to t = (xs.set i (xs.getD i 0 % 67108864)).set to z) := Lib.hid (by unfold carry1; simp only; rw [e1, hz])
  have hfin := ((hB.set i (xs.getD i 0 % 67108864)).set to z)
  rw [← HE.out] at hfin
  clear HE e1
  obtain ⟨x, hxi⟩ : ∃ x, x = xs.getD i 0 := ⟨_, rfl⟩
  obtain ⟨y, hy⟩ : ∃ y, y = xs.getD to 0 := ⟨_, rfl⟩
  rw [← hy] at h1 hz
  rw [← hxi] at h0 b0 a0 hz hfin
  have hez := Lib.hid (wrapM x y t z hz)
  clear hxi hy hx hl hi hto hne hz
  rcases hit with ⟨rfl, rfl⟩ | ⟨rfl, rfl⟩ | ⟨rfl, rfl⟩ | ⟨rfl, rfl⟩ | ⟨rfl, rfl⟩
  all_goals
    go_enter Try.func88, Try.ntmps88
    go_wp2
    rw [hez.out]
    go_end0
    exact ⟨rfl, hfin, gset (gset (World.grownBy.refl _ _) _ _) _ _⟩
end Go.Proofs.Ytpcppnoomogloaa.Po

namespace Go.Proofs.Ytpcppnoomogloaa.Po
set_option linter.unusedSimpArgs false
set_option linter.unusedVariables false
open Go.RowKit

set_option maxHeartbeats 1000000 in
theorem carried_any (w : World) (xs : List Nat) (hx : ok5 xs) :
    Calls Try.prog 83 #[.agg (nv .u64 xs).toArray] w fun e w' => e = .returned (.agg (nv .u64 (carried xs)).toArray) ∧ Below w.heap.size w w' := by
  rw [carried_eq]
  go_enter Try.func83, Try.ntmps83
  go_wp2_with fail
  refine at_world (fun W => Blk W w.heap.size 98 .u64 xs ∧ Blk W (w.heap.size + 1) 98 .u64 [0, 0, 0, 0, 0] ∧ Below w.heap.size w W) ?_ ?_
  · refine ⟨(Blk.new w _ _ xs _ rfl).alloc _, ?_, xalloc (xnew _ _) _⟩
    have := Blk.new (w.alloc (.cells (nv .u64 xs).toArray 98)) 98 .u64 [0, 0, 0, 0, 0] _ rfl
    rw [World.size_alloc] at this
    exact this
  rintro W ⟨hN, hO, hB⟩
  go_loopw [6] (fun r wr => ∃ n : Nat, n ≤ 2 ∧ r = .int .i64 n ∧ Blk wr w.heap.size 98 .u64 (rnd xs n) ∧ Blk wr (w.heap.size + 1) 98 .u64 [0, 0, 0, 0, 0] ∧ Below w.heap.size w wr) (fun r _ => 2 - (intOf r).toNat)
  case atStart => exact ⟨0, by decide, rfl, hN, hO, hB⟩
  case round =>
    clear hN hO hB
    obtain ⟨n, hn2, rfl, hN, hO, hB⟩ := hrel
    have hok := ok5_rnd hx n
    by_cases hlt : n < 2
    · have HS := Lib.hid (rnd_succ xs n)
      have hd : decide ((n : Int) < 2) = true := decide_eq_true (by omega)
      generalize rnd xs n = ys at hN hok HS
      go_wp2_with fail
      obtain ⟨wo, hwo⟩ : ∃ wo : World, wo = wr := ⟨_, rfl⟩
      rw [← hwo] at hN hO hB ⊢
      clear hwo
      go_loopw [8] (fun r wr => ∃ k : Nat, k ≤ 4 ∧ r = .int .i64 k ∧ Blk wr w.heap.size 98 .u64 (ups ys k) ∧ Blk wr (w.heap.size + 1) 98 .u64 [0, 0, 0, 0, 0] ∧ Below w.heap.size w wr) (fun r _ => 4 - (intOf r).toNat)
      case atStart => exact ⟨0, by decide, rfl, hN, hO, hB⟩
      case round =>
        clear hN hO hB
        obtain ⟨k, hk4, rfl, hN, hO, hB⟩ := hrel
        have hok2 := ok5_ups hok k
        by_cases hltk : k < 4
        · have HK := Lib.hid (ups_succ ys k)
          generalize ups ys k = zs at hN hok2 HK
          have c := Lib.hid (fun W (h : Blk W w.heap.size 98 .u64 zs) => carryFn W _ w.heap.size zs k (k + 1) 1 h hok2.1 hok2.2 (by omega))
          go_wp2_with (first | (go_at_call 88; refine (c.out _ hN).mono ?_; rintro e W1 ⟨rfl, hN1, hg1⟩) | fail)
          rw [← HK.out] at hN1
          exact ⟨⟨k + 1, by omega, by go_num, hN1, hO.grown hg1 (ne_some (by omega)), gbelow hB hg1 (by omega)⟩, by simp [intOf]; omega⟩
        · obtain rfl : k = 4 := by omega
          have c := Lib.hid (fun W (h : Blk W w.heap.size 98 .u64 (ups ys 4)) => carryFn W _ w.heap.size (ups ys 4) 4 0 5 h hok2.1 hok2.2 (by omega))
          go_wp2_with (first | (go_at_call 88; refine (c.out _ hN).mono ?_; rintro e W1 ⟨rfl, hN1, hg1⟩) | fail)
          rw [← HS.out] at hN1
          exact ⟨⟨n + 1, by omega, by go_num, hN1, hO.grown hg1 (ne_some (by omega)), gbelow hB hg1 (by omega)⟩, by simp [intOf]; omega⟩
    · obtain rfl : n = 2 := by omega
      have c := Lib.hid (fun W (h : Blk W w.heap.size 98 .u64 (rnd xs 2)) => carryFn W _ w.heap.size (rnd xs 2) 0 1 1 h hok.1 hok.2 (by omega))
      have hfok := ok5_carry hok 0 1 1
      obtain ⟨ys, hys⟩ : ∃ ys, ys = carry1 (rnd xs 2) 0 1 1 := ⟨_, rfl⟩
      rw [← hys] at c hfok
      have HYS := Lib.hid hys
      clear hys
      have HZ1 : Hid ((Try.prog.info? 98).map (·.size) = some ys.length) := Lib.hid (by rw [hfok.1]; kernel_rfl)
      have HZ2 : Hid (ys.length = 5) := Lib.hid hfok.1
      go_wp2_with (first
        | (go_at_call 88; refine (c.out _ hN).mono ?_; rintro e W1 ⟨rfl, hN1, hg1⟩; have hO1 := hO.grown hg1 (ne_some (by omega)); have hB1 := gbelow hB hg1 (Nat.le_refl _))
        | (refine wp_load_arr rfl 98 (.tmp 1) rfl w.heap.size rfl hN1 5 54 Try.underlying98 HZ1.out ?_)
        | (refine wp_store_arr rfl 98 (.tmp 2) (.tmp 22) rfl (w.heap.size + 1) rfl hO1 rfl HZ1.out HZ2.out.symm ?_; intro W9 hO9 hg9)
        | fail)
      have HZ4 : Hid ((Try.prog.info? 98).map (·.size) = some (nv .u64 ys).toArray.size) := Lib.hid (by rw [HZ1.out]; simp [nv])
      exact bodyPost_ret (results_cell_row rfl _ _ (w.heap.size + 1) 98 (nv .u64 ys).toArray (0, 0) _ rfl hO9 Try.underlying98 rfl HZ4.out) rfl ⟨by rw [← HYS.out], gbelow hB1 hg9 (by omega)⟩
end Go.Proofs.Ytpcppnoomogloaa.Po

namespace Go.Proofs.Ytpcppnoomogloaa.Po
set_option linter.unusedSimpArgs false
set_option linter.unusedVariables false
open Go.RowKit

theorem ok5_tstep {xs ys out : List Nat} (h : ok5 out) (i k : Nat) : ok5 (tstep xs ys out i k) := by
  unfold tstep
  split <;> exact ok5_set h _ _ (Nat.mod_lt _ (by decide))
theorem ok5_trow {xs ys out : List Nat} (h : ok5 out) (i : Nat) : ∀ k, ok5 (trow xs ys out i k)
  | 0 => h
  | k + 1 => ok5_tstep (ok5_trow h i k) _ _
theorem ok5_zero : ok5 [0, 0, 0, 0, 0] := ⟨rfl, by decide⟩
theorem ok5_tall (xs ys : List Nat) : ∀ i, ok5 (tall xs ys i)
  | 0 => ok5_zero
  | i + 1 => ok5_trow (ok5_tall xs ys i) _ _
theorem ok5_times (xs ys : List Nat) : ok5 (times xs ys) := ok5_carried (ok5_tall xs ys 5)
theorem times_eq (xs ys : List Nat) : times xs ys = carried (tall xs ys 5) := rfl
theorem tstep_lo (xs ys zs : List Nat) (i k s z : Nat) (hs : s = i + k) (h : s < 5) (hz : z = (zs.getD s 0 + xs.getD i 0 * ys.getD k 0 % 18446744073709551616) % 18446744073709551616) : tstep xs ys zs i k = zs.set s z := by
  subst hs hz; unfold tstep; rw [if_pos h]
theorem tstep_hi (xs ys zs : List Nat) (i k s b z : Nat) (hs : s = i + k) (hb : b = s - 5) (h : ¬ s < 5) (hz : z = (zs.getD b 0 + 5 * xs.getD i 0 % 18446744073709551616 * ys.getD k 0 % 18446744073709551616) % 18446744073709551616) : tstep xs ys zs i k = zs.set b z := by
  subst hs hb hz; unfold tstep; rw [if_neg h]
theorem wrapP (x y o z : Nat) (h : z = (o + x * y % 18446744073709551616) % 18446744073709551616) : IntKind.u64.wrap ((o : Int) + IntKind.u64.wrap ((x : Int) * (y : Int))) = (z : Int) := by
  rw [IntKind.wrap_u64, IntKind.wrap_u64, h, ← Int.natCast_mul]
  generalize x * y = m
  omega
theorem wrapQ (x y o z : Nat) (h : z = (o + 5 * x % 18446744073709551616 * y % 18446744073709551616) % 18446744073709551616) : IntKind.u64.wrap ((o : Int) + IntKind.u64.wrap (IntKind.u64.wrap (5 * (x : Int)) * (y : Int))) = (z : Int) := by
  rw [IntKind.wrap_u64, IntKind.wrap_u64, IntKind.wrap_u64, h, show 5 * (x : Int) % 18446744073709551616 = ((5 * x % 18446744073709551616 : Nat) : Int) from by omega, ← Int.natCast_mul]
  generalize 5 * x % 18446744073709551616 * y = m
  omega
theorem info64 : ∃ i0, Try.prog.info? 54 = some i0 ∧ i0.size = 1 := ⟨_, rfl, by kernel_rfl⟩
attribute [local irreducible] tall trow tstep

set_option maxHeartbeats 1000000 in
theorem times_any (w : World) (xs ys : List Nat) (hx : ok5 xs) (hy : ok5 ys) :
    Calls Try.prog 73 #[.agg (nv .u64 xs).toArray, .agg (nv .u64 ys).toArray] w fun e w' => e = .returned (.agg (nv .u64 (times xs ys)).toArray) ∧ Below w.heap.size w w' := by
  rw [times_eq]
  obtain ⟨i0, hi0⟩ : ∃ i0, Try.prog.info? 54 = some i0 ∧ i0.size = 1 := info64
  have HIX := Lib.hid (fun (i : Nat) (h : i < 5) (W : World) => run_index_arr (P := Try.prog) (ty := 98) (el := 54) (n := 5) (q := .u64) Try.underlying98 Try.underlying54 hi0.1 hi0.2 .u64 xs hx.1 i h W)
  have HIY := Lib.hid (fun (i : Nat) (h : i < 5) (W : World) => run_index_arr (P := Try.prog) (ty := 98) (el := 54) (n := 5) (q := .u64) Try.underlying98 Try.underlying54 hi0.1 hi0.2 .u64 ys hy.1 i h W)
  clear hi0
  go_enter Try.func73, Try.ntmps73
  have HZX : Hid ((Try.prog.info? 98).map (·.size) = some xs.length) := Lib.hid (by rw [hx.1]; kernel_rfl)
  have HZY : Hid ((Try.prog.info? 98).map (·.size) = some ys.length) := Lib.hid (by rw [hy.1]; kernel_rfl)
  have hN : Blk (((w.alloc (.cells (nv .u64 xs).toArray 98)).alloc (.cells (nv .u64 ys).toArray 98)).alloc (.cells (nv .u64 [0, 0, 0, 0, 0]).toArray 98)) w.heap.size 98 .u64 xs := ((Blk.new w _ _ xs _ rfl).alloc _).alloc _
  have hM : Blk (((w.alloc (.cells (nv .u64 xs).toArray 98)).alloc (.cells (nv .u64 ys).toArray 98)).alloc (.cells (nv .u64 [0, 0, 0, 0, 0]).toArray 98)) (w.heap.size + 1) 98 .u64 ys := by
    have := (Blk.new (w.alloc (.cells (nv .u64 xs).toArray 98)) 98 .u64 ys _ rfl).alloc (.cells (nv .u64 [0, 0, 0, 0, 0]).toArray 98)
    rw [World.size_alloc] at this
    exact this
  have hO : Blk (((w.alloc (.cells (nv .u64 xs).toArray 98)).alloc (.cells (nv .u64 ys).toArray 98)).alloc (.cells (nv .u64 [0, 0, 0, 0, 0]).toArray 98)) (w.heap.size + 1 + 1) 98 .u64 [0, 0, 0, 0, 0] := by
    have := Blk.new ((w.alloc (.cells (nv .u64 xs).toArray 98)).alloc (.cells (nv .u64 ys).toArray 98)) 98 .u64 [0, 0, 0, 0, 0] _ rfl
    rw [World.size_alloc, World.size_alloc] at this
    exact this
  go_wp2_with (first
    | (refine wp_load_arr rfl 98 (.tmp 2) rfl w.heap.size rfl hN 5 54 Try.underlying98 HZX.out ?_)
    | fail)
  refine at_world (fun W => Blk W w.heap.size 98 .u64 xs ∧ Blk W (w.heap.size + 1) 98 .u64 ys ∧ Blk W (w.heap.size + 1 + 1) 98 .u64 [0, 0, 0, 0, 0] ∧ Below w.heap.size w W) ⟨hN, hM, hO, xalloc (xalloc (xnew _ _) _) _⟩ ?_
  clear hN hM hO
  rintro W ⟨hN, hM, hO, hB⟩
  rw [← tall_zero xs ys] at hO
  go_loopw [10] (fun r wr => ∃ i : Nat, i ≤ 5 ∧ r = .int .i64 i ∧ Blk wr (w.heap.size + 1) 98 .u64 ys ∧ Blk wr (w.heap.size + 1 + 1) 98 .u64 (tall xs ys i) ∧ Below w.heap.size w wr) (fun r _ => 5 - (intOf r).toNat)
  case atStart => exact ⟨0, by decide, rfl, hM, hO, hB⟩
  case round =>
    clear hN hM hO hB
    obtain ⟨i, hi5, rfl, hM, hO, hB⟩ := hrel
    have hok := ok5_tall xs ys i
    by_cases hlt : i < 5
    · have HS := Lib.hid (tall_succ xs ys i)
      have hd : decide ((i : Int) < 5) = true := decide_eq_true (by omega)
      generalize tall xs ys i = ts at hO hok HS
      have hix := HIX.out i hlt
      have hxl := getD_le hx.2 (by decide) i
      obtain ⟨x, hxe⟩ : ∃ x, x = xs.getD i 0 := ⟨_, rfl⟩
      rw [← hxe] at hix hxl
      have HXE := Lib.hid hxe
      clear hxe
      go_wp2_with (first
        | (refine wp_load_arr rfl 98 (.tmp 3) rfl (w.heap.size + 1) rfl hM 5 54 Try.underlying98 HZY.out ?_)
        | fail)
      obtain ⟨wo, hwo⟩ : ∃ wo : World, wo = wr := ⟨_, rfl⟩
      rw [← hwo] at hM hO hB ⊢
      clear hwo hix
      rw [← trow_zero xs ys ts i] at hO
      go_loopw [15] (fun r wr => ∃ k : Nat, k ≤ 5 ∧ r = .int .i64 k ∧ Blk wr (w.heap.size + 1) 98 .u64 ys ∧ Blk wr (w.heap.size + 1 + 1) 98 .u64 (trow xs ys ts i k) ∧ Below w.heap.size w wr) (fun r _ => 5 - (intOf r).toNat)
      case atStart => exact ⟨0, by decide, rfl, hM, hO, hB⟩
      case round =>
        clear hM hO hB
        obtain ⟨k, hk5, rfl, hM, hO, hB⟩ := hrel
        have hok2 := ok5_trow (xs := xs) (ys := ys) hok i k
        by_cases hltk : k < 5
        · have HK := Lib.hid (trow_succ xs ys ts i k)
          generalize trow xs ys ts i k = zs at hO hok2 HK
          have hiy := HIY.out k hltk
          have hyl := getD_le hy.2 (by decide) k
          obtain ⟨y, hye⟩ : ∃ y, y = ys.getD k 0 := ⟨_, rfl⟩
          rw [← hye] at hiy hyl
          have HYE := Lib.hid hye
          obtain ⟨s, hs⟩ : ∃ s, s = i + k := ⟨_, rfl⟩
          have es : (i : Int) + (k : Int) = (s : Int) := by omega
          have HSS := Lib.hid hs
          by_cases hs5 : s < 5
          · have hoc := hO.cell s (by rw [hok2.1]; exact hs5)
            have hof := hO.frozen s
            have hol := getD_le hok2.2 (by decide) s
            clear hs hye
            obtain ⟨o, hoe⟩ : ∃ o, o = zs.getD s 0 := ⟨_, rfl⟩
            rw [← hoe] at hoc hol
            have HOE := Lib.hid hoe
            clear hoe
            have hs0 : (0 : Int) ≤ (s : Int) := by omega
            have hs5' : (s : Int) < 5 := by omega
            obtain ⟨z, hz⟩ : ∃ z, z = (o + x * y % 18446744073709551616) % 18446744073709551616 := ⟨_, rfl⟩
            have HEZ := Lib.hid (wrapP x y o z hz)
            have hfin := hO.set s z
            rw [← tstep_lo xs ys zs i k s z HSS.out hs5 (by rw [hz, HOE.out, HXE.out, HYE.out]), ← HK.out] at hfin
            clear hz
            go_wp2_with fail
            rw [HEZ.out]
            exact ⟨⟨k + 1, by omega, by go_num, hM.other _ _ (by show w.heap.size + 1 ≠ w.heap.size + 1 + 1; omega), hfin, xset hB (by show w.heap.size ≤ w.heap.size + 1 + 1; omega) _⟩, by simp [intOf]; omega⟩
          · obtain ⟨b, hb⟩ : ∃ b, b = s - 5 := ⟨_, rfl⟩
            have eb : (s : Int) - 5 = (b : Int) := by omega
            have hb5 : b < 5 := by omega
            have HBB := Lib.hid hb
            have hoc := hO.cell b (by rw [hok2.1]; exact hb5)
            have hof := hO.frozen b
            have hol := getD_le hok2.2 (by decide) b
            clear hs hye hb
            obtain ⟨o, hoe⟩ : ∃ o, o = zs.getD b 0 := ⟨_, rfl⟩
            rw [← hoe] at hoc hol
            have HOE := Lib.hid hoe
            clear hoe
            have hb0 : (0 : Int) ≤ (b : Int) := by omega
            have hb5' : (b : Int) < 5 := by omega
            obtain ⟨z, hz⟩ : ∃ z, z = (o + 5 * x % 18446744073709551616 * y % 18446744073709551616) % 18446744073709551616 := ⟨_, rfl⟩
            have HEZ := Lib.hid (wrapQ x y o z hz)
            have hfin := hO.set b z
            rw [← tstep_hi xs ys zs i k s b z HSS.out HBB.out hs5 (by rw [hz, HOE.out, HXE.out, HYE.out]), ← HK.out] at hfin
            clear hz
            go_wp2_with fail
            rw [HEZ.out]
            exact ⟨⟨k + 1, by omega, by go_num, hM.other _ _ (by show w.heap.size + 1 ≠ w.heap.size + 1 + 1; omega), hfin, xset hB (by show w.heap.size ≤ w.heap.size + 1 + 1; omega) _⟩, by simp [intOf]; omega⟩
        · obtain rfl : k = 5 := by omega
          rw [← HS.out] at hO
          go_wp2_with fail
          exact ⟨⟨i + 1, by omega, by go_num, hM, hO, hB⟩, by simp [intOf]; omega⟩
    · obtain rfl : i = 5 := by omega
      have c := Lib.hid (fun W => carried_any W (tall xs ys 5) hok)
      have hfok := ok5_carried hok
      have hT : (tall xs ys 5).length = 5 := hok.1
      obtain ⟨zs, hzs⟩ : ∃ zs, zs = carried (tall xs ys 5) := ⟨_, rfl⟩
      rw [← hzs] at c hfok
      have HYS := Lib.hid hzs
      clear hzs
      have HZ1 : Hid ((Try.prog.info? 98).map (·.size) = some zs.length) := Lib.hid (by rw [hfok.1]; kernel_rfl)
      have HZ2 : Hid ((Try.prog.info? 98).map (·.size) = some (tall xs ys 5).length) := Lib.hid (by rw [hT]; kernel_rfl)
      have HZ3 : Hid ((tall xs ys 5).length = zs.length) := Lib.hid (by rw [hT, hfok.1])
      clear hT
      go_wp2_with (first
        | (refine wp_load_arr rfl 98 (.tmp 4) rfl (w.heap.size + 1 + 1) rfl hO 5 54 Try.underlying98 HZ2.out ?_)
        | (go_at_call 83; refine (c.out _).mono ?_; rintro e W1 ⟨rfl, hb1⟩; have hO1 := hO.below hb1; have hB1 := xtrans hB hb1)
        | (refine wp_store_arr rfl 98 (.tmp 4) (.tmp 48) rfl (w.heap.size + 1 + 1) rfl hO1 rfl HZ1.out HZ3.out ?_; intro W9 hO9 hg9)
        | fail)
      have HZ4 : Hid ((Try.prog.info? 98).map (·.size) = some (nv .u64 zs).toArray.size) := Lib.hid (by rw [HZ1.out]; simp [nv])
      exact bodyPost_ret (results_cell_row rfl _ _ (w.heap.size + 1 + 1) 98 (nv .u64 zs).toArray (0, 0) _ rfl hO9 Try.underlying98 rfl HZ4.out) rfl ⟨by rw [← HYS.out], gbelow hB1 hg9 (by omega)⟩
end Go.Proofs.Ytpcppnoomogloaa.Po

namespace Go.Proofs.Ytpcppnoomogloaa.Po
set_option linter.unusedSimpArgs false
set_option linter.unusedVariables false
open Go.RowKit

theorem ok5_addc {xs : List Nat} (h : ok5 xs) (i : Nat) : ok5 (addc xs i) := by
  unfold addc
  exact ok5_set (ok5_set h _ _ (Nat.mod_lt _ (by decide))) _ _ (by omega)
theorem ok5_more {xs : List Nat} (h : ok5 xs) : ∀ k, ok5 (moreN xs k)
  | 0 => ok5_set h _ _ (Nat.mod_lt _ (by decide))
  | k + 1 => ok5_addc (ok5_more h k) _
theorem moreN_zero (xs : List Nat) : moreN xs 0 = more5 xs := rfl
theorem moreN_succ (xs : List Nat) (k : Nat) : moreN xs (k + 1) = addc (moreN xs k) k := rfl
theorem ok5_least {xs : List Nat} (h : ok5 xs) : ok5 (least xs) := by
  rw [least_of xs _ _ rfl rfl]
  have h1 := ok5_carried (ok5_carried h)
  have h2 := ok5_more h1 4
  split
  · exact h1
  · exact ok5_set h2 _ _ (by omega)
theorem more5_eq (n : List Nat) (n0 : Nat) (h : n0 = n.getD 0 0) : more5 n = n.set 0 ((n0 + 5) % 18446744073709551616) := by subst h; rfl
theorem addc_eq (ms : List Nat) (k x y z : Nat) (hx : x = ms.getD k 0) (hy : y = ms.getD (k + 1) 0) (hz : z = (y + x / 67108864) % 18446744073709551616) : addc ms k = (ms.set (k + 1) z).set k (x % 67108864) := by
  subst hx hy hz
  unfold addc
  simp only
  congr 2
  simp [List.getD_eq_getElem?_getD]
attribute [local irreducible] moreN addc more5 least carried

set_option maxHeartbeats 1000000 in
theorem least_any (w : World) (xs : List Nat) (hx : ok5 xs) :
    Calls Try.prog 74 #[.agg (nv .u64 xs).toArray] w fun e w' => e = .returned (.agg (nv .u64 (least xs)).toArray) ∧ Below w.heap.size w w' := by
  have hn := ok5_carried (ok5_carried hx)
  have c1 := Lib.hid (fun W => carried_any W xs hx)
  have c2 := Lib.hid (fun W => carried_any W (carried xs) (ok5_carried hx))
  have hle := least_of xs (carried (carried xs)) (moreN (carried (carried xs)) 4) rfl rfl
  obtain ⟨ys, hys⟩ : ∃ ys, ys = carried xs := ⟨_, rfl⟩
  rw [← hys] at c1 c2 hle hn
  obtain ⟨n, hnn⟩ : ∃ n, n = carried ys := ⟨_, rfl⟩
  rw [← hnn] at c2 hle hn
  have HL := Lib.hid hle
  have HZX := Lib.hid (show (Try.prog.info? 98).map (·.size) = some xs.length by rw [hx.1]; kernel_rfl)
  have HZN := Lib.hid (show (Try.prog.info? 98).map (·.size) = some n.length by rw [hn.1]; kernel_rfl)
  have HZN2 := Lib.hid (show (Try.prog.info? 98).map (·.size) = some (nv .u64 n).toArray.size by simp only [List.size_toArray, nv_length]; rw [hn.1]; kernel_rfl)
  have HN5 := Lib.hid hn.1
  have HS1 := Lib.hid (show xs.length = n.length by rw [hx.1, hn.1])
  have HS2 := Lib.hid (show 5 = (nv .u64 n).toArray.size by simp [nv, hn.1])
  obtain ⟨n0, hn0⟩ : ∃ n0, n0 = n.getD 0 0 := ⟨_, rfl⟩
  have hn0l : n0 < 18446744073709551616 := hn0 ▸ getD_le hn.2 (by decide) 0
  have H0 := Lib.hid hn0
  clear hys hnn hle hn0
  go_enter Try.func74, Try.ntmps74
  have hN : Blk ((w.alloc (.cells (nv .u64 xs).toArray 98)).alloc (.cells (nv .u64 [0, 0, 0, 0, 0]).toArray 98)) w.heap.size 98 .u64 xs := (Blk.new w _ _ xs _ rfl).alloc _
  have hO : Blk ((w.alloc (.cells (nv .u64 xs).toArray 98)).alloc (.cells (nv .u64 [0, 0, 0, 0, 0]).toArray 98)) (w.heap.size + 1) 98 .u64 [0, 0, 0, 0, 0] := by
    have := Blk.new (w.alloc (.cells (nv .u64 xs).toArray 98)) 98 .u64 [0, 0, 0, 0, 0] _ rfl
    rw [World.size_alloc] at this
    exact this
  have hB0 : Below w.heap.size w ((w.alloc (.cells (nv .u64 xs).toArray 98)).alloc (.cells (nv .u64 [0, 0, 0, 0, 0]).toArray 98)) := xalloc (xnew _ _) _
  go_wp2_with (first
    | (refine wp_load_arr rfl 98 (.tmp 1) rfl w.heap.size rfl hN 5 54 Try.underlying98 HZX.out ?_; have tok : True := trivial)
    | (go_at_call 83; refine (c1.out _).mono ?_; clear c1; rintro e w1 ⟨rfl, hb1⟩; have hN1 := hN.below hb1; have hO1 := hO.below hb1; have hB1 := xtrans hB0 hb1; clear hN hO hB0)
    | (go_at_call 83; refine (c2.out _).mono ?_; clear c2; rintro e w2 ⟨rfl, hb2⟩; have hN2 := hN1.below hb2; have hO2 := hO1.below hb2; have hB2 := xtrans hB1 hb2; clear hN1 hO1 hB1)
    | (refine wp_store_arr rfl 98 (.tmp 1) (.tmp 7) rfl w.heap.size rfl hN2 rfl HZN.out HS1.out ?_; intro w3 hN3 hg3; have hO3 := hO2.grown hg3 (ne_some (by omega)); have hB3 := gbelow hB2 hg3 (Nat.le_refl _); clear hN2 hO2 hB2)
    | (refine wp_load_arr rfl 98 (.tmp 1) rfl w.heap.size rfl hN3 5 54 Try.underlying98 HZN.out ?_)
    | (refine wp_store_new rfl 98 (.tmp 3) (.tmp 8) rfl rfl _ (nv .u64 n).toArray rfl HZN2.out HS2.out (nv_one _ _) ?_; have hM3 := Blk.new w3 98 .u64 n _ rfl; have m0 := hM3.cell 0 (by rw [hn.1]; decide); have f0 := hM3.frozen 0; rw [← H0.out] at m0)
    | fail)
  have hM4 : Blk (w3.alloc (.cells ((nv .u64 n).set 0 (.int .u64 (IntKind.u64.wrap ((n0 : Int) + 5)))).toArray 98)) w3.heap.size 98 .u64 (moreN n 0) := by
    refine Blk.new w3 _ _ _ _ ?_
    rw [moreN_zero, more5_eq n n0 H0.out, nv_set]
    congr 3
  have hN4 := hN3.alloc (.cells ((nv .u64 n).set 0 (.int .u64 (IntKind.u64.wrap ((n0 : Int) + 5)))).toArray 98)
  have hO4 := hO3.alloc (.cells ((nv .u64 n).set 0 (.int .u64 (IntKind.u64.wrap ((n0 : Int) + 5)))).toArray 98)
  have hB4 := xalloc hB3 (.cells ((nv .u64 n).set 0 (.int .u64 (IntKind.u64.wrap ((n0 : Int) + 5)))).toArray 98)
  have hMlt := hO3.lt
  obtain ⟨M, hM⟩ : ∃ M, M = w3.heap.size := ⟨_, rfl⟩
  rw [← hM] at hM4 hMlt ⊢
  clear hM hN3 hO3 hB3 hb1 hb2 hg3 hn0l H0 m0 f0 hM3
  refine at_world (fun W => Blk W M 98 .u64 (moreN n 0) ∧ Blk W w.heap.size 98 .u64 n ∧ Blk W (w.heap.size + 1) 98 .u64 [0, 0, 0, 0, 0] ∧ Below w.heap.size w W) ⟨hM4, hN4, hO4, hB4⟩ ?_
  clear hM4 hN4 hO4 hB4
  rintro W ⟨hM, hN, hO, hB⟩
  go_loopw [13] (fun r wr => ∃ k : Nat, k ≤ 4 ∧ r = .int .i64 k ∧ Blk wr M 98 .u64 (moreN n k) ∧ Blk wr w.heap.size 98 .u64 n ∧ Blk wr (w.heap.size + 1) 98 .u64 [0, 0, 0, 0, 0] ∧ Below w.heap.size w wr) (fun r _ => 4 - (intOf r).toNat)
  case atStart => exact ⟨0, by decide, rfl, hM, hN, hO, hB⟩
  case round =>
    clear hM hN hO hB
    obtain ⟨k, hk4, rfl, hM, hN, hO, hB⟩ := hrel
    have hok := ok5_more hn k
    by_cases hlt : k < 4
    · have HS := Lib.hid (moreN_succ n k)
      generalize moreN n k = ms at hM hok HS
      have b0 := getD_le hok.2 (by decide) k
      have b1 := getD_le hok.2 (by decide) (k + 1)
      have c0 := hM.cell k (by rw [hok.1]; omega)
      have f0 := hM.frozen k
      have c1 := hM.cell (k + 1) (by rw [hok.1]; omega)
      have f1 := hM.frozen (k + 1)
      have a0 := and26 _ b0
      obtain ⟨x, hx0⟩ : ∃ x, x = ms.getD k 0 := ⟨_, rfl⟩
      obtain ⟨y, hy0⟩ : ∃ y, y = ms.getD (k + 1) 0 := ⟨_, rfl⟩
      obtain ⟨z, hz⟩ : ∃ z, z = (y + x / 67108864) % 18446744073709551616 := ⟨_, rfl⟩
      have hfin := (hM.set (k + 1) z).set k (x % 67108864)
      rw [← addc_eq ms k x y z hx0 hy0 hz, ← HS.out] at hfin
      rw [← hx0] at c0 b0 a0
      rw [← hy0] at c1 b1
      have ez := Lib.hid (show IntKind.u64.wrap ((y : Int) + (x : Int) / 67108864) = (z : Int) by rw [IntKind.wrap_u64]; omega)
      clear hx0 hy0 hz hM
      rcases (show k = 0 ∨ k = 1 ∨ k = 2 ∨ k = 3 from by omega) with rfl | rfl | rfl | rfl
      all_goals
        go_wp2_with fail
        go_region
        all_goals
          go_wp2_with fail
          rw [ez.out]
          exact ⟨⟨_, by decide, rfl, hfin.drewN 1, ((hN.other _ _ (by show w.heap.size ≠ M; omega)).other _ _ (by show w.heap.size ≠ M; omega)).drewN 1, ((hO.other _ _ (by show w.heap.size + 1 ≠ M; omega)).other _ _ (by show w.heap.size + 1 ≠ M; omega)).drewN 1, below_drewN (xset (xset hB (by show w.heap.size ≤ M; omega) _) (by show w.heap.size ≤ M; omega) _) 1⟩, by simp [intOf]⟩
    · obtain rfl : k = 4 := by omega
      have hm4 := hM.cell 4 (by rw [hok.1]; decide)
      have f4 := hM.frozen 4
      have b4 := getD_le hok.2 (by decide) 4
      have a4 := and26 _ b4
      obtain ⟨u, hu⟩ : ∃ u, u = (moreN n 4).getD 4 0 := ⟨_, rfl⟩
      rw [← hu] at hm4 a4 b4
      have HL := HL.out
      rw [← hu] at HL
      by_cases h0 : u / 67108864 = 0
      · have hd : ((u : Int) / 67108864 == 0) = true := beq_iff_eq.2 (by omega)
        rw [if_pos h0] at HL
        have HL2 := Lib.hid HL
        clear HL hu
        go_wp2_with (first
          | (refine wp_load_arr rfl 98 (.tmp 1) rfl w.heap.size rfl hN 5 54 Try.underlying98 HZN.out ?_)
          | (refine wp_store_arr rfl 98 (.tmp 2) (.tmp 36) rfl (w.heap.size + 1) rfl hO rfl HZN.out HN5.out.symm ?_; intro W9 hO9 hg9)
          | fail)
        exact bodyPost_ret (results_cell_row rfl _ _ (w.heap.size + 1) 98 (nv .u64 n).toArray (0, 0) _ rfl hO9 Try.underlying98 rfl HZN2.out) rfl ⟨by rw [HL2.out], gbelow hB hg9 (by omega)⟩
      · have hd : ((u : Int) / 67108864 == 0) = false := beq_eq_false_iff_ne.2 (by omega)
        rw [if_neg h0] at HL
        have hfin := hM.set 4 (u % 67108864)
        rw [← HL] at hfin
        have hll := ok5_least hx
        have HZL := Lib.hid (show (Try.prog.info? 98).map (·.size) = some (least xs).length by rw [hll.1]; kernel_rfl)
        have HZL2 := Lib.hid (show (Try.prog.info? 98).map (·.size) = some (nv .u64 (least xs)).toArray.size by simp only [List.size_toArray, nv_length]; rw [hll.1]; kernel_rfl)
        have HL5 := Lib.hid hll.1
        have hO1 := hO.other ⟨M, 4, none⟩ (.int .u64 ((u % 67108864 : Nat) : Int)) (by show w.heap.size + 1 ≠ M; omega)
        have hB1 := xset hB (p := ⟨M, 4, none⟩) (by show w.heap.size ≤ M; omega) (.int .u64 ((u % 67108864 : Nat) : Int))
        clear HL hu hll hM hN hO hB
        go_wp2_with (first
          | (refine wp_load_arr rfl 98 (.tmp 3) rfl M rfl hfin 5 54 Try.underlying98 HZL.out ?_)
          | (refine wp_store_arr rfl 98 (.tmp 2) (.tmp 41) rfl (w.heap.size + 1) rfl hO1 rfl HZL.out HL5.out.symm ?_; intro W9 hO9 hg9)
          | fail)
        exact bodyPost_ret (results_cell_row rfl _ _ (w.heap.size + 1) 98 (nv .u64 (least xs)).toArray (0, 0) _ rfl hO9 Try.underlying98 rfl HZL2.out) rfl ⟨rfl, gbelow hB1 hg9 (by omega)⟩
end Go.Proofs.Ytpcppnoomogloaa.Po

namespace Go.Proofs.Ytpcppnoomogloaa.Po
set_option linter.unusedSimpArgs false
set_option linter.unusedVariables false
open Go.RowKit

theorem or64 (l m n : Nat) (hl : l < 2 ^ n) (hm : m % 2 ^ n = 0) (hs : l + m < 18446744073709551616) : bits .or .u64 (l : Int) (m : Int) = ((l + m : Nat) : Int) := by
  obtain ⟨c, rfl⟩ : ∃ c, m = c * 2 ^ n := ⟨m / 2 ^ n, (Nat.div_mul_cancel (Nat.dvd_of_mod_eq_zero hm)).symm⟩
  rw [bits_or .u64 rfl _ _ (by omega) (by show (l : Int) < 18446744073709551616; omega) (by omega) (by show ((c * 2 ^ n : Nat) : Int) < 18446744073709551616; omega), Int.toNat_natCast, Int.toNat_natCast, Nat.or_comm, or_add _ _ _ hl, Nat.add_comm]
theorem or64z (x q : Nat) (hx : x < 256) : bits .or .u64 0 ((x : Int) / (q : Int)) = ((x / q : Nat) : Int) := by
  have e : (x : Int) / (q : Int) = ((x / q : Nat) : Int) := rfl
  have h : x / q < 256 := Nat.lt_of_le_of_lt (Nat.div_le_self _ _) hx
  rw [e]
  generalize x / q = y at h
  rw [bits_or .u64 rfl _ _ (by omega) (by decide) (by omega) (by show (y : Int) < 18446744073709551616; omega)]
  simp

set_option maxHeartbeats 4000000 in
theorem of_any (w : World) (a : Option Addr) (len cap : Nat) (bs : List Nat) (hr : RdB w a len cap bs) (h17 : len ≤ 17) (hlast : 16 < len → bs.getD 16 0 < 4) :
    Calls Try.prog 72 #[.slice a len cap] w fun e w' => e = .returned (.agg (nv .u64 (limbs (le bs))).toArray) ∧ Below w.heap.size w w' := by
  obtain ⟨_, k1, k2, k3, hb, _, k6⟩ := hr
  rw [← leN_all bs, k1]
  go_enter Try.func72, Try.ntmps72
  go_wp2_with fail
  refine at_world (fun W => Blk W w.heap.size 98 .u64 (limbs (leN bs 0)) ∧ Below w.heap.size w W) ⟨by rw [leN_zero, limbs_def]; exact Blk.new w _ _ [0, 0, 0, 0, 0] _ rfl, xnew _ _⟩ ?_
  rintro W ⟨hB0, hBe0⟩
  go_loopw [9] (fun r wr => ∃ i : Nat, i ≤ len ∧ r = .int .i64 i ∧ Blk wr w.heap.size 98 .u64 (limbs (leN bs i)) ∧ Below w.heap.size w wr) (fun r _ => len - (intOf r).toNat)
  case atStart => exact ⟨0, by omega, rfl, hB0, hBe0⟩
  case round =>
    clear hB0 hBe0
    obtain ⟨i, hil, rfl, hB, hBe⟩ := hrel
    by_cases hlt : i < len
    · rcases k6 with k6 | ⟨b, off, rfl, hblt, hc⟩
      · omega
      have hci := (hBe.cell (p := ⟨b, off + i, none⟩) hblt).trans (hc i hlt)
      have hx := getD_u8 hb i
      obtain ⟨x, hx0⟩ : ∃ x, x = bs.getD i 0 := ⟨_, rfl⟩
      rw [← hx0] at hci hx
      clear hc
      rcases (show i = 0 ∨ i = 1 ∨ i = 2 ∨ i = 3 ∨ i = 4 ∨ i = 5 ∨ i = 6 ∨ i = 7 ∨ i = 8 ∨ i = 9 ∨ i = 10 ∨ i = 11 ∨ i = 12 ∨ i = 13 ∨ i = 14 ∨ i = 15 ∨ i = 16 from by omega) with rfl | rfl | rfl | rfl | rfl | rfl | rfl | rfl | rfl | rfl | rfl | rfl | rfl | rfl | rfl | rfl | rfl
      · rw [Nat.add_zero] at hci
        have ho := Lib.hid (leN_succ bs 0 (by omega))
        rw [← hx0] at ho
        have hn := leN_lt bs hb 0 (by omega)
        simp only [Nat.reducePow] at ho hn
        generalize leN bs 0 = n at ho hn hB
        have c0 := hB.cell 0 (by rw [limbs_length]; decide)
        have f0 := hB.frozen 0
        obtain ⟨h1, h2⟩ := lst0 n x hn hx
        have hov : x / 67108864 = 0 := by omega
        obtain ⟨l, hl⟩ : ∃ l, l = (limbs n).getD 0 0 := ⟨_, rfl⟩
        rw [← hl] at h1 h2 c0
        obtain ⟨v, hv⟩ : ∃ v, v = l + x * 1 % 67108864 := ⟨_, rfl⟩
        rw [← hv] at h1
        have a1 : bits .and .u64 ((x : Int)) 67108863 = ((x * 1 % 67108864 : Nat) : Int) := by have := and26 (x * 1) (by omega); simpa using this
        have a2 : bits .or .u64 (l : Int) ((x * 1 % 67108864 : Nat) : Int) = (v : Int) := by rw [hv]; exact or64 l _ 0 (by simpa using h2) (by simp only [Nat.reducePow]; omega) (by omega)
        obtain ⟨m, hm⟩ : ∃ m, m = x * 1 % 67108864 := ⟨_, rfl⟩
        rw [← hm] at a1 a2
        have hvb : v < 67108864 * 2 := by omega
        have gt : ¬ (0 : Int) < (x : Int) / 67108864 := by omega
        have hfin := hB.set 0 v
        rw [← h1, ← ho.out] at hfin
        clear hl hv hm h1 h2 ho hx0
        rw [show ((0 : Nat) : Int) = 0 from rfl]
        go_wp2_with fail
        go_region
        all_goals (go_wp2_with fail)
        all_goals exact ⟨⟨1, by omega, rfl, hfin.drewN 1, below_drewN (xset hBe (by show w.heap.size ≤ w.heap.size; omega) _) 1⟩, by simp [intOf]; omega⟩
      · have ho := Lib.hid (leN_succ bs 1 (by omega))
        rw [← hx0] at ho
        have hn := leN_lt bs hb 1 (by omega)
        simp only [Nat.reducePow] at ho hn
        generalize leN bs 1 = n at ho hn hB
        have c0 := hB.cell 0 (by rw [limbs_length]; decide)
        have f0 := hB.frozen 0
        obtain ⟨h1, h2⟩ := lst1 n x hn hx
        have hov : x / 262144 = 0 := by omega
        obtain ⟨l, hl⟩ : ∃ l, l = (limbs n).getD 0 0 := ⟨_, rfl⟩
        rw [← hl] at h1 h2 c0
        obtain ⟨v, hv⟩ : ∃ v, v = l + x * 256 % 67108864 := ⟨_, rfl⟩
        rw [← hv] at h1
        have a1 : bits .and .u64 ((x : Int) * 256) 67108863 = ((x * 256 % 67108864 : Nat) : Int) := by have := and26 (x * 256) (by omega); simpa using this
        have a2 : bits .or .u64 (l : Int) ((x * 256 % 67108864 : Nat) : Int) = (v : Int) := by rw [hv]; exact or64 l _ 8 (by simpa using h2) (by simp only [Nat.reducePow]; omega) (by omega)
        obtain ⟨m, hm⟩ : ∃ m, m = x * 256 % 67108864 := ⟨_, rfl⟩
        rw [← hm] at a1 a2
        have hvb : v < 67108864 * 2 := by omega
        have gt : ¬ (0 : Int) < (x : Int) / 262144 := by omega
        have hfin := hB.set 0 v
        rw [← h1, ← ho.out] at hfin
        clear hl hv hm h1 h2 ho hx0
        rw [show ((1 : Nat) : Int) = 1 from rfl]
        go_wp2_with fail
        go_region
        all_goals (go_wp2_with fail)
        all_goals exact ⟨⟨2, by omega, rfl, hfin.drewN 1, below_drewN (xset hBe (by show w.heap.size ≤ w.heap.size; omega) _) 1⟩, by simp [intOf]; omega⟩
      · have ho := Lib.hid (leN_succ bs 2 (by omega))
        rw [← hx0] at ho
        have hn := leN_lt bs hb 2 (by omega)
        simp only [Nat.reducePow] at ho hn
        generalize leN bs 2 = n at ho hn hB
        have c0 := hB.cell 0 (by rw [limbs_length]; decide)
        have f0 := hB.frozen 0
        obtain ⟨h1, h2⟩ := lst2 n x hn hx
        have hov : x / 1024 = 0 := by omega
        obtain ⟨l, hl⟩ : ∃ l, l = (limbs n).getD 0 0 := ⟨_, rfl⟩
        rw [← hl] at h1 h2 c0
        obtain ⟨v, hv⟩ : ∃ v, v = l + x * 65536 % 67108864 := ⟨_, rfl⟩
        rw [← hv] at h1
        have a1 : bits .and .u64 ((x : Int) * 65536) 67108863 = ((x * 65536 % 67108864 : Nat) : Int) := by have := and26 (x * 65536) (by omega); simpa using this
        have a2 : bits .or .u64 (l : Int) ((x * 65536 % 67108864 : Nat) : Int) = (v : Int) := by rw [hv]; exact or64 l _ 16 (by simpa using h2) (by simp only [Nat.reducePow]; omega) (by omega)
        obtain ⟨m, hm⟩ : ∃ m, m = x * 65536 % 67108864 := ⟨_, rfl⟩
        rw [← hm] at a1 a2
        have hvb : v < 67108864 * 2 := by omega
        have gt : ¬ (0 : Int) < (x : Int) / 1024 := by omega
        have hfin := hB.set 0 v
        rw [← h1, ← ho.out] at hfin
        clear hl hv hm h1 h2 ho hx0
        rw [show ((2 : Nat) : Int) = 2 from rfl]
        go_wp2_with fail
        go_region
        all_goals (go_wp2_with fail)
        all_goals exact ⟨⟨3, by omega, rfl, hfin.drewN 1, below_drewN (xset hBe (by show w.heap.size ≤ w.heap.size; omega) _) 1⟩, by simp [intOf]; omega⟩
      · have ho := Lib.hid (leN_succ bs 3 (by omega))
        rw [← hx0] at ho
        have hn := leN_lt bs hb 3 (by omega)
        simp only [Nat.reducePow] at ho hn
        generalize leN bs 3 = n at ho hn hB
        have c0 := hB.cell 0 (by rw [limbs_length]; decide)
        have f0 := hB.frozen 0
        by_cases hov : x / 4 = 0
        · obtain ⟨h1, h2⟩ := lst3 n x hn hx hov
          obtain ⟨l, hl⟩ : ∃ l, l = (limbs n).getD 0 0 := ⟨_, rfl⟩
          rw [← hl] at h1 h2 c0
          obtain ⟨v, hv⟩ : ∃ v, v = l + x * 16777216 % 67108864 := ⟨_, rfl⟩
          rw [← hv] at h1
          have a1 : bits .and .u64 ((x : Int) * 16777216) 67108863 = ((x * 16777216 % 67108864 : Nat) : Int) := by have := and26 (x * 16777216) (by omega); simpa using this
          have a2 : bits .or .u64 (l : Int) ((x * 16777216 % 67108864 : Nat) : Int) = (v : Int) := by rw [hv]; exact or64 l _ 24 (by simpa using h2) (by simp only [Nat.reducePow]; omega) (by omega)
          obtain ⟨m, hm⟩ : ∃ m, m = x * 16777216 % 67108864 := ⟨_, rfl⟩
          rw [← hm] at a1 a2
          have hvb : v < 67108864 * 2 := by omega
          have gt : ¬ (0 : Int) < (x : Int) / 4 := by omega
          have hfin := hB.set 0 v
          rw [← h1, ← ho.out] at hfin
          clear hl hv hm h1 h2 ho hx0
          rw [show ((3 : Nat) : Int) = 3 from rfl]
          go_wp2_with fail
          go_region
          all_goals (go_wp2_with fail)
          all_goals exact ⟨⟨4, by omega, rfl, hfin.drewN 1, below_drewN (xset hBe (by show w.heap.size ≤ w.heap.size; omega) _) 1⟩, by simp [intOf]; omega⟩
        · obtain ⟨h1, h2, h3⟩ := lst3_o n x hn hx
          obtain ⟨l, hl⟩ : ∃ l, l = (limbs n).getD 0 0 := ⟨_, rfl⟩
          rw [← hl] at h1 h2 c0
          obtain ⟨v, hv⟩ : ∃ v, v = l + x * 16777216 % 67108864 := ⟨_, rfl⟩
          rw [← hv] at h1
          have a1 : bits .and .u64 ((x : Int) * 16777216) 67108863 = ((x * 16777216 % 67108864 : Nat) : Int) := by have := and26 (x * 16777216) (by omega); simpa using this
          have a2 : bits .or .u64 (l : Int) ((x * 16777216 % 67108864 : Nat) : Int) = (v : Int) := by rw [hv]; exact or64 l _ 24 (by simpa using h2) (by simp only [Nat.reducePow]; omega) (by omega)
          obtain ⟨m, hm⟩ : ∃ m, m = x * 16777216 % 67108864 := ⟨_, rfl⟩
          rw [← hm] at a1 a2
          have hvb : v < 67108864 * 2 := by omega
          have gt : (0 : Int) < (x : Int) / 4 := by omega
          have c1 := hB.cell 1 (by rw [limbs_length]; decide)
          have f1 := hB.frozen 1
          rw [h3] at c1
          have a3 : bits .or .u64 0 ((x : Int) / 4) = ((x / 4 : Nat) : Int) := or64z x 4 (by omega)
          have hfin := (hB.set 0 v).set 1 (x / 4)
          rw [← h1, ← ho.out] at hfin
          clear hl hv hm h1 h2 ho hx0
          rw [show ((3 : Nat) : Int) = 3 from rfl]
          go_wp2_with fail
          go_region
          all_goals (go_wp2_with fail)
          all_goals exact ⟨⟨4, by omega, rfl, hfin.drewN 1, below_drewN (xset (xset hBe (by show w.heap.size ≤ w.heap.size; omega) _) (by show w.heap.size ≤ w.heap.size; omega) _) 1⟩, by simp [intOf]; omega⟩
      · have ho := Lib.hid (leN_succ bs 4 (by omega))
        rw [← hx0] at ho
        have hn := leN_lt bs hb 4 (by omega)
        simp only [Nat.reducePow] at ho hn
        generalize leN bs 4 = n at ho hn hB
        have c0 := hB.cell 1 (by rw [limbs_length]; decide)
        have f0 := hB.frozen 1
        obtain ⟨h1, h2⟩ := lst4 n x hn hx
        have hov : x / 1048576 = 0 := by omega
        obtain ⟨l, hl⟩ : ∃ l, l = (limbs n).getD 1 0 := ⟨_, rfl⟩
        rw [← hl] at h1 h2 c0
        obtain ⟨v, hv⟩ : ∃ v, v = l + x * 64 % 67108864 := ⟨_, rfl⟩
        rw [← hv] at h1
        have a1 : bits .and .u64 ((x : Int) * 64) 67108863 = ((x * 64 % 67108864 : Nat) : Int) := by have := and26 (x * 64) (by omega); simpa using this
        have a2 : bits .or .u64 (l : Int) ((x * 64 % 67108864 : Nat) : Int) = (v : Int) := by rw [hv]; exact or64 l _ 6 (by simpa using h2) (by simp only [Nat.reducePow]; omega) (by omega)
        obtain ⟨m, hm⟩ : ∃ m, m = x * 64 % 67108864 := ⟨_, rfl⟩
        rw [← hm] at a1 a2
        have hvb : v < 67108864 * 2 := by omega
        have gt : ¬ (0 : Int) < (x : Int) / 1048576 := by omega
        have hfin := hB.set 1 v
        rw [← h1, ← ho.out] at hfin
        clear hl hv hm h1 h2 ho hx0
        rw [show ((4 : Nat) : Int) = 4 from rfl]
        go_wp2_with fail
        go_region
        all_goals (go_wp2_with fail)
        all_goals exact ⟨⟨5, by omega, rfl, hfin.drewN 1, below_drewN (xset hBe (by show w.heap.size ≤ w.heap.size; omega) _) 1⟩, by simp [intOf]; omega⟩
      · have ho := Lib.hid (leN_succ bs 5 (by omega))
        rw [← hx0] at ho
        have hn := leN_lt bs hb 5 (by omega)
        simp only [Nat.reducePow] at ho hn
        generalize leN bs 5 = n at ho hn hB
        have c0 := hB.cell 1 (by rw [limbs_length]; decide)
        have f0 := hB.frozen 1
        obtain ⟨h1, h2⟩ := lst5 n x hn hx
        have hov : x / 4096 = 0 := by omega
        obtain ⟨l, hl⟩ : ∃ l, l = (limbs n).getD 1 0 := ⟨_, rfl⟩
        rw [← hl] at h1 h2 c0
        obtain ⟨v, hv⟩ : ∃ v, v = l + x * 16384 % 67108864 := ⟨_, rfl⟩
        rw [← hv] at h1
        have a1 : bits .and .u64 ((x : Int) * 16384) 67108863 = ((x * 16384 % 67108864 : Nat) : Int) := by have := and26 (x * 16384) (by omega); simpa using this
        have a2 : bits .or .u64 (l : Int) ((x * 16384 % 67108864 : Nat) : Int) = (v : Int) := by rw [hv]; exact or64 l _ 14 (by simpa using h2) (by simp only [Nat.reducePow]; omega) (by omega)
        obtain ⟨m, hm⟩ : ∃ m, m = x * 16384 % 67108864 := ⟨_, rfl⟩
        rw [← hm] at a1 a2
        have hvb : v < 67108864 * 2 := by omega
        have gt : ¬ (0 : Int) < (x : Int) / 4096 := by omega
        have hfin := hB.set 1 v
        rw [← h1, ← ho.out] at hfin
        clear hl hv hm h1 h2 ho hx0
        rw [show ((5 : Nat) : Int) = 5 from rfl]
        go_wp2_with fail
        go_region
        all_goals (go_wp2_with fail)
        all_goals exact ⟨⟨6, by omega, rfl, hfin.drewN 1, below_drewN (xset hBe (by show w.heap.size ≤ w.heap.size; omega) _) 1⟩, by simp [intOf]; omega⟩
      · have ho := Lib.hid (leN_succ bs 6 (by omega))
        rw [← hx0] at ho
        have hn := leN_lt bs hb 6 (by omega)
        simp only [Nat.reducePow] at ho hn
        generalize leN bs 6 = n at ho hn hB
        have c0 := hB.cell 1 (by rw [limbs_length]; decide)
        have f0 := hB.frozen 1
        by_cases hov : x / 16 = 0
        · obtain ⟨h1, h2⟩ := lst6 n x hn hx hov
          obtain ⟨l, hl⟩ : ∃ l, l = (limbs n).getD 1 0 := ⟨_, rfl⟩
          rw [← hl] at h1 h2 c0
          obtain ⟨v, hv⟩ : ∃ v, v = l + x * 4194304 % 67108864 := ⟨_, rfl⟩
          rw [← hv] at h1
          have a1 : bits .and .u64 ((x : Int) * 4194304) 67108863 = ((x * 4194304 % 67108864 : Nat) : Int) := by have := and26 (x * 4194304) (by omega); simpa using this
          have a2 : bits .or .u64 (l : Int) ((x * 4194304 % 67108864 : Nat) : Int) = (v : Int) := by rw [hv]; exact or64 l _ 22 (by simpa using h2) (by simp only [Nat.reducePow]; omega) (by omega)
          obtain ⟨m, hm⟩ : ∃ m, m = x * 4194304 % 67108864 := ⟨_, rfl⟩
          rw [← hm] at a1 a2
          have hvb : v < 67108864 * 2 := by omega
          have gt : ¬ (0 : Int) < (x : Int) / 16 := by omega
          have hfin := hB.set 1 v
          rw [← h1, ← ho.out] at hfin
          clear hl hv hm h1 h2 ho hx0
          rw [show ((6 : Nat) : Int) = 6 from rfl]
          go_wp2_with fail
          go_region
          all_goals (go_wp2_with fail)
          all_goals exact ⟨⟨7, by omega, rfl, hfin.drewN 1, below_drewN (xset hBe (by show w.heap.size ≤ w.heap.size; omega) _) 1⟩, by simp [intOf]; omega⟩
        · obtain ⟨h1, h2, h3⟩ := lst6_o n x hn hx
          obtain ⟨l, hl⟩ : ∃ l, l = (limbs n).getD 1 0 := ⟨_, rfl⟩
          rw [← hl] at h1 h2 c0
          obtain ⟨v, hv⟩ : ∃ v, v = l + x * 4194304 % 67108864 := ⟨_, rfl⟩
          rw [← hv] at h1
          have a1 : bits .and .u64 ((x : Int) * 4194304) 67108863 = ((x * 4194304 % 67108864 : Nat) : Int) := by have := and26 (x * 4194304) (by omega); simpa using this
          have a2 : bits .or .u64 (l : Int) ((x * 4194304 % 67108864 : Nat) : Int) = (v : Int) := by rw [hv]; exact or64 l _ 22 (by simpa using h2) (by simp only [Nat.reducePow]; omega) (by omega)
          obtain ⟨m, hm⟩ : ∃ m, m = x * 4194304 % 67108864 := ⟨_, rfl⟩
          rw [← hm] at a1 a2
          have hvb : v < 67108864 * 2 := by omega
          have gt : (0 : Int) < (x : Int) / 16 := by omega
          have c1 := hB.cell 2 (by rw [limbs_length]; decide)
          have f1 := hB.frozen 2
          rw [h3] at c1
          have a3 : bits .or .u64 0 ((x : Int) / 16) = ((x / 16 : Nat) : Int) := or64z x 16 (by omega)
          have hfin := (hB.set 1 v).set 2 (x / 16)
          rw [← h1, ← ho.out] at hfin
          clear hl hv hm h1 h2 ho hx0
          rw [show ((6 : Nat) : Int) = 6 from rfl]
          go_wp2_with fail
          go_region
          all_goals (go_wp2_with fail)
          all_goals exact ⟨⟨7, by omega, rfl, hfin.drewN 1, below_drewN (xset (xset hBe (by show w.heap.size ≤ w.heap.size; omega) _) (by show w.heap.size ≤ w.heap.size; omega) _) 1⟩, by simp [intOf]; omega⟩
      · have ho := Lib.hid (leN_succ bs 7 (by omega))
        rw [← hx0] at ho
        have hn := leN_lt bs hb 7 (by omega)
        simp only [Nat.reducePow] at ho hn
        generalize leN bs 7 = n at ho hn hB
        have c0 := hB.cell 2 (by rw [limbs_length]; decide)
        have f0 := hB.frozen 2
        obtain ⟨h1, h2⟩ := lst7 n x hn hx
        have hov : x / 4194304 = 0 := by omega
        obtain ⟨l, hl⟩ : ∃ l, l = (limbs n).getD 2 0 := ⟨_, rfl⟩
        rw [← hl] at h1 h2 c0
        obtain ⟨v, hv⟩ : ∃ v, v = l + x * 16 % 67108864 := ⟨_, rfl⟩
        rw [← hv] at h1
        have a1 : bits .and .u64 ((x : Int) * 16) 67108863 = ((x * 16 % 67108864 : Nat) : Int) := by have := and26 (x * 16) (by omega); simpa using this
        have a2 : bits .or .u64 (l : Int) ((x * 16 % 67108864 : Nat) : Int) = (v : Int) := by rw [hv]; exact or64 l _ 4 (by simpa using h2) (by simp only [Nat.reducePow]; omega) (by omega)
        obtain ⟨m, hm⟩ : ∃ m, m = x * 16 % 67108864 := ⟨_, rfl⟩
        rw [← hm] at a1 a2
        have hvb : v < 67108864 * 2 := by omega
        have gt : ¬ (0 : Int) < (x : Int) / 4194304 := by omega
        have hfin := hB.set 2 v
        rw [← h1, ← ho.out] at hfin
        clear hl hv hm h1 h2 ho hx0
        rw [show ((7 : Nat) : Int) = 7 from rfl]
        go_wp2_with fail
        go_region
        all_goals (go_wp2_with fail)
        all_goals exact ⟨⟨8, by omega, rfl, hfin.drewN 1, below_drewN (xset hBe (by show w.heap.size ≤ w.heap.size; omega) _) 1⟩, by simp [intOf]; omega⟩
      · have ho := Lib.hid (leN_succ bs 8 (by omega))
        rw [← hx0] at ho
        have hn := leN_lt bs hb 8 (by omega)
        simp only [Nat.reducePow] at ho hn
        generalize leN bs 8 = n at ho hn hB
        have c0 := hB.cell 2 (by rw [limbs_length]; decide)
        have f0 := hB.frozen 2
        obtain ⟨h1, h2⟩ := lst8 n x hn hx
        have hov : x / 16384 = 0 := by omega
        obtain ⟨l, hl⟩ : ∃ l, l = (limbs n).getD 2 0 := ⟨_, rfl⟩
        rw [← hl] at h1 h2 c0
        obtain ⟨v, hv⟩ : ∃ v, v = l + x * 4096 % 67108864 := ⟨_, rfl⟩
        rw [← hv] at h1
        have a1 : bits .and .u64 ((x : Int) * 4096) 67108863 = ((x * 4096 % 67108864 : Nat) : Int) := by have := and26 (x * 4096) (by omega); simpa using this
        have a2 : bits .or .u64 (l : Int) ((x * 4096 % 67108864 : Nat) : Int) = (v : Int) := by rw [hv]; exact or64 l _ 12 (by simpa using h2) (by simp only [Nat.reducePow]; omega) (by omega)
        obtain ⟨m, hm⟩ : ∃ m, m = x * 4096 % 67108864 := ⟨_, rfl⟩
        rw [← hm] at a1 a2
        have hvb : v < 67108864 * 2 := by omega
        have gt : ¬ (0 : Int) < (x : Int) / 16384 := by omega
        have hfin := hB.set 2 v
        rw [← h1, ← ho.out] at hfin
        clear hl hv hm h1 h2 ho hx0
        rw [show ((8 : Nat) : Int) = 8 from rfl]
        go_wp2_with fail
        go_region
        all_goals (go_wp2_with fail)
        all_goals exact ⟨⟨9, by omega, rfl, hfin.drewN 1, below_drewN (xset hBe (by show w.heap.size ≤ w.heap.size; omega) _) 1⟩, by simp [intOf]; omega⟩
      · have ho := Lib.hid (leN_succ bs 9 (by omega))
        rw [← hx0] at ho
        have hn := leN_lt bs hb 9 (by omega)
        simp only [Nat.reducePow] at ho hn
        generalize leN bs 9 = n at ho hn hB
        have c0 := hB.cell 2 (by rw [limbs_length]; decide)
        have f0 := hB.frozen 2
        by_cases hov : x / 64 = 0
        · obtain ⟨h1, h2⟩ := lst9 n x hn hx hov
          obtain ⟨l, hl⟩ : ∃ l, l = (limbs n).getD 2 0 := ⟨_, rfl⟩
          rw [← hl] at h1 h2 c0
          obtain ⟨v, hv⟩ : ∃ v, v = l + x * 1048576 % 67108864 := ⟨_, rfl⟩
          rw [← hv] at h1
          have a1 : bits .and .u64 ((x : Int) * 1048576) 67108863 = ((x * 1048576 % 67108864 : Nat) : Int) := by have := and26 (x * 1048576) (by omega); simpa using this
          have a2 : bits .or .u64 (l : Int) ((x * 1048576 % 67108864 : Nat) : Int) = (v : Int) := by rw [hv]; exact or64 l _ 20 (by simpa using h2) (by simp only [Nat.reducePow]; omega) (by omega)
          obtain ⟨m, hm⟩ : ∃ m, m = x * 1048576 % 67108864 := ⟨_, rfl⟩
          rw [← hm] at a1 a2
          have hvb : v < 67108864 * 2 := by omega
          have gt : ¬ (0 : Int) < (x : Int) / 64 := by omega
          have hfin := hB.set 2 v
          rw [← h1, ← ho.out] at hfin
          clear hl hv hm h1 h2 ho hx0
          rw [show ((9 : Nat) : Int) = 9 from rfl]
          go_wp2_with fail
          go_region
          all_goals (go_wp2_with fail)
          all_goals exact ⟨⟨10, by omega, rfl, hfin.drewN 1, below_drewN (xset hBe (by show w.heap.size ≤ w.heap.size; omega) _) 1⟩, by simp [intOf]; omega⟩
        · obtain ⟨h1, h2, h3⟩ := lst9_o n x hn hx
          obtain ⟨l, hl⟩ : ∃ l, l = (limbs n).getD 2 0 := ⟨_, rfl⟩
          rw [← hl] at h1 h2 c0
          obtain ⟨v, hv⟩ : ∃ v, v = l + x * 1048576 % 67108864 := ⟨_, rfl⟩
          rw [← hv] at h1
          have a1 : bits .and .u64 ((x : Int) * 1048576) 67108863 = ((x * 1048576 % 67108864 : Nat) : Int) := by have := and26 (x * 1048576) (by omega); simpa using this
          have a2 : bits .or .u64 (l : Int) ((x * 1048576 % 67108864 : Nat) : Int) = (v : Int) := by rw [hv]; exact or64 l _ 20 (by simpa using h2) (by simp only [Nat.reducePow]; omega) (by omega)
          obtain ⟨m, hm⟩ : ∃ m, m = x * 1048576 % 67108864 := ⟨_, rfl⟩
          rw [← hm] at a1 a2
          have hvb : v < 67108864 * 2 := by omega
          have gt : (0 : Int) < (x : Int) / 64 := by omega
          have c1 := hB.cell 3 (by rw [limbs_length]; decide)
          have f1 := hB.frozen 3
          rw [h3] at c1
          have a3 : bits .or .u64 0 ((x : Int) / 64) = ((x / 64 : Nat) : Int) := or64z x 64 (by omega)
          have hfin := (hB.set 2 v).set 3 (x / 64)
          rw [← h1, ← ho.out] at hfin
          clear hl hv hm h1 h2 ho hx0
          rw [show ((9 : Nat) : Int) = 9 from rfl]
          go_wp2_with fail
          go_region
          all_goals (go_wp2_with fail)
          all_goals exact ⟨⟨10, by omega, rfl, hfin.drewN 1, below_drewN (xset (xset hBe (by show w.heap.size ≤ w.heap.size; omega) _) (by show w.heap.size ≤ w.heap.size; omega) _) 1⟩, by simp [intOf]; omega⟩
      · have ho := Lib.hid (leN_succ bs 10 (by omega))
        rw [← hx0] at ho
        have hn := leN_lt bs hb 10 (by omega)
        simp only [Nat.reducePow] at ho hn
        generalize leN bs 10 = n at ho hn hB
        have c0 := hB.cell 3 (by rw [limbs_length]; decide)
        have f0 := hB.frozen 3
        obtain ⟨h1, h2⟩ := lst10 n x hn hx
        have hov : x / 16777216 = 0 := by omega
        obtain ⟨l, hl⟩ : ∃ l, l = (limbs n).getD 3 0 := ⟨_, rfl⟩
        rw [← hl] at h1 h2 c0
        obtain ⟨v, hv⟩ : ∃ v, v = l + x * 4 % 67108864 := ⟨_, rfl⟩
        rw [← hv] at h1
        have a1 : bits .and .u64 ((x : Int) * 4) 67108863 = ((x * 4 % 67108864 : Nat) : Int) := by have := and26 (x * 4) (by omega); simpa using this
        have a2 : bits .or .u64 (l : Int) ((x * 4 % 67108864 : Nat) : Int) = (v : Int) := by rw [hv]; exact or64 l _ 2 (by simpa using h2) (by simp only [Nat.reducePow]; omega) (by omega)
        obtain ⟨m, hm⟩ : ∃ m, m = x * 4 % 67108864 := ⟨_, rfl⟩
        rw [← hm] at a1 a2
        have hvb : v < 67108864 * 2 := by omega
        have gt : ¬ (0 : Int) < (x : Int) / 16777216 := by omega
        have hfin := hB.set 3 v
        rw [← h1, ← ho.out] at hfin
        clear hl hv hm h1 h2 ho hx0
        rw [show ((10 : Nat) : Int) = 10 from rfl]
        go_wp2_with fail
        go_region
        all_goals (go_wp2_with fail)
        all_goals exact ⟨⟨11, by omega, rfl, hfin.drewN 1, below_drewN (xset hBe (by show w.heap.size ≤ w.heap.size; omega) _) 1⟩, by simp [intOf]; omega⟩
      · have ho := Lib.hid (leN_succ bs 11 (by omega))
        rw [← hx0] at ho
        have hn := leN_lt bs hb 11 (by omega)
        simp only [Nat.reducePow] at ho hn
        generalize leN bs 11 = n at ho hn hB
        have c0 := hB.cell 3 (by rw [limbs_length]; decide)
        have f0 := hB.frozen 3
        obtain ⟨h1, h2⟩ := lst11 n x hn hx
        have hov : x / 65536 = 0 := by omega
        obtain ⟨l, hl⟩ : ∃ l, l = (limbs n).getD 3 0 := ⟨_, rfl⟩
        rw [← hl] at h1 h2 c0
        obtain ⟨v, hv⟩ : ∃ v, v = l + x * 1024 % 67108864 := ⟨_, rfl⟩
        rw [← hv] at h1
        have a1 : bits .and .u64 ((x : Int) * 1024) 67108863 = ((x * 1024 % 67108864 : Nat) : Int) := by have := and26 (x * 1024) (by omega); simpa using this
        have a2 : bits .or .u64 (l : Int) ((x * 1024 % 67108864 : Nat) : Int) = (v : Int) := by rw [hv]; exact or64 l _ 10 (by simpa using h2) (by simp only [Nat.reducePow]; omega) (by omega)
        obtain ⟨m, hm⟩ : ∃ m, m = x * 1024 % 67108864 := ⟨_, rfl⟩
        rw [← hm] at a1 a2
        have hvb : v < 67108864 * 2 := by omega
        have gt : ¬ (0 : Int) < (x : Int) / 65536 := by omega
        have hfin := hB.set 3 v
        rw [← h1, ← ho.out] at hfin
        clear hl hv hm h1 h2 ho hx0
        rw [show ((11 : Nat) : Int) = 11 from rfl]
        go_wp2_with fail
        go_region
        all_goals (go_wp2_with fail)
        all_goals exact ⟨⟨12, by omega, rfl, hfin.drewN 1, below_drewN (xset hBe (by show w.heap.size ≤ w.heap.size; omega) _) 1⟩, by simp [intOf]; omega⟩
      · have ho := Lib.hid (leN_succ bs 12 (by omega))
        rw [← hx0] at ho
        have hn := leN_lt bs hb 12 (by omega)
        simp only [Nat.reducePow] at ho hn
        generalize leN bs 12 = n at ho hn hB
        have c0 := hB.cell 3 (by rw [limbs_length]; decide)
        have f0 := hB.frozen 3
        obtain ⟨h1, h2⟩ := lst12 n x hn hx
        have hov : x / 256 = 0 := by omega
        obtain ⟨l, hl⟩ : ∃ l, l = (limbs n).getD 3 0 := ⟨_, rfl⟩
        rw [← hl] at h1 h2 c0
        obtain ⟨v, hv⟩ : ∃ v, v = l + x * 262144 % 67108864 := ⟨_, rfl⟩
        rw [← hv] at h1
        have a1 : bits .and .u64 ((x : Int) * 262144) 67108863 = ((x * 262144 % 67108864 : Nat) : Int) := by have := and26 (x * 262144) (by omega); simpa using this
        have a2 : bits .or .u64 (l : Int) ((x * 262144 % 67108864 : Nat) : Int) = (v : Int) := by rw [hv]; exact or64 l _ 18 (by simpa using h2) (by simp only [Nat.reducePow]; omega) (by omega)
        obtain ⟨m, hm⟩ : ∃ m, m = x * 262144 % 67108864 := ⟨_, rfl⟩
        rw [← hm] at a1 a2
        have hvb : v < 67108864 * 2 := by omega
        have gt : ¬ (0 : Int) < (x : Int) / 256 := by omega
        have hfin := hB.set 3 v
        rw [← h1, ← ho.out] at hfin
        clear hl hv hm h1 h2 ho hx0
        rw [show ((12 : Nat) : Int) = 12 from rfl]
        go_wp2_with fail
        go_region
        all_goals (go_wp2_with fail)
        all_goals exact ⟨⟨13, by omega, rfl, hfin.drewN 1, below_drewN (xset hBe (by show w.heap.size ≤ w.heap.size; omega) _) 1⟩, by simp [intOf]; omega⟩
      · have ho := Lib.hid (leN_succ bs 13 (by omega))
        rw [← hx0] at ho
        have hn := leN_lt bs hb 13 (by omega)
        simp only [Nat.reducePow] at ho hn
        generalize leN bs 13 = n at ho hn hB
        have c0 := hB.cell 4 (by rw [limbs_length]; decide)
        have f0 := hB.frozen 4
        obtain ⟨h1, h2⟩ := lst13 n x hn hx
        have hov : x / 67108864 = 0 := by omega
        obtain ⟨l, hl⟩ : ∃ l, l = (limbs n).getD 4 0 := ⟨_, rfl⟩
        rw [← hl] at h1 h2 c0
        obtain ⟨v, hv⟩ : ∃ v, v = l + x * 1 % 67108864 := ⟨_, rfl⟩
        rw [← hv] at h1
        have a1 : bits .and .u64 ((x : Int)) 67108863 = ((x * 1 % 67108864 : Nat) : Int) := by have := and26 (x * 1) (by omega); simpa using this
        have a2 : bits .or .u64 (l : Int) ((x * 1 % 67108864 : Nat) : Int) = (v : Int) := by rw [hv]; exact or64 l _ 0 (by simpa using h2) (by simp only [Nat.reducePow]; omega) (by omega)
        obtain ⟨m, hm⟩ : ∃ m, m = x * 1 % 67108864 := ⟨_, rfl⟩
        rw [← hm] at a1 a2
        have hvb : v < 67108864 * 2 := by omega
        have gt : ¬ (0 : Int) < (x : Int) / 67108864 := by omega
        have hfin := hB.set 4 v
        rw [← h1, ← ho.out] at hfin
        clear hl hv hm h1 h2 ho hx0
        rw [show ((13 : Nat) : Int) = 13 from rfl]
        go_wp2_with fail
        go_region
        all_goals (go_wp2_with fail)
        all_goals exact ⟨⟨14, by omega, rfl, hfin.drewN 1, below_drewN (xset hBe (by show w.heap.size ≤ w.heap.size; omega) _) 1⟩, by simp [intOf]; omega⟩
      · have ho := Lib.hid (leN_succ bs 14 (by omega))
        rw [← hx0] at ho
        have hn := leN_lt bs hb 14 (by omega)
        simp only [Nat.reducePow] at ho hn
        generalize leN bs 14 = n at ho hn hB
        have c0 := hB.cell 4 (by rw [limbs_length]; decide)
        have f0 := hB.frozen 4
        obtain ⟨h1, h2⟩ := lst14 n x hn hx
        have hov : x / 262144 = 0 := by omega
        obtain ⟨l, hl⟩ : ∃ l, l = (limbs n).getD 4 0 := ⟨_, rfl⟩
        rw [← hl] at h1 h2 c0
        obtain ⟨v, hv⟩ : ∃ v, v = l + x * 256 % 67108864 := ⟨_, rfl⟩
        rw [← hv] at h1
        have a1 : bits .and .u64 ((x : Int) * 256) 67108863 = ((x * 256 % 67108864 : Nat) : Int) := by have := and26 (x * 256) (by omega); simpa using this
        have a2 : bits .or .u64 (l : Int) ((x * 256 % 67108864 : Nat) : Int) = (v : Int) := by rw [hv]; exact or64 l _ 8 (by simpa using h2) (by simp only [Nat.reducePow]; omega) (by omega)
        obtain ⟨m, hm⟩ : ∃ m, m = x * 256 % 67108864 := ⟨_, rfl⟩
        rw [← hm] at a1 a2
        have hvb : v < 67108864 * 2 := by omega
        have gt : ¬ (0 : Int) < (x : Int) / 262144 := by omega
        have hfin := hB.set 4 v
        rw [← h1, ← ho.out] at hfin
        clear hl hv hm h1 h2 ho hx0
        rw [show ((14 : Nat) : Int) = 14 from rfl]
        go_wp2_with fail
        go_region
        all_goals (go_wp2_with fail)
        all_goals exact ⟨⟨15, by omega, rfl, hfin.drewN 1, below_drewN (xset hBe (by show w.heap.size ≤ w.heap.size; omega) _) 1⟩, by simp [intOf]; omega⟩
      · have ho := Lib.hid (leN_succ bs 15 (by omega))
        rw [← hx0] at ho
        have hn := leN_lt bs hb 15 (by omega)
        simp only [Nat.reducePow] at ho hn
        generalize leN bs 15 = n at ho hn hB
        have c0 := hB.cell 4 (by rw [limbs_length]; decide)
        have f0 := hB.frozen 4
        obtain ⟨h1, h2⟩ := lst15 n x hn hx
        have hov : x / 1024 = 0 := by omega
        obtain ⟨l, hl⟩ : ∃ l, l = (limbs n).getD 4 0 := ⟨_, rfl⟩
        rw [← hl] at h1 h2 c0
        obtain ⟨v, hv⟩ : ∃ v, v = l + x * 65536 % 67108864 := ⟨_, rfl⟩
        rw [← hv] at h1
        have a1 : bits .and .u64 ((x : Int) * 65536) 67108863 = ((x * 65536 % 67108864 : Nat) : Int) := by have := and26 (x * 65536) (by omega); simpa using this
        have a2 : bits .or .u64 (l : Int) ((x * 65536 % 67108864 : Nat) : Int) = (v : Int) := by rw [hv]; exact or64 l _ 16 (by simpa using h2) (by simp only [Nat.reducePow]; omega) (by omega)
        obtain ⟨m, hm⟩ : ∃ m, m = x * 65536 % 67108864 := ⟨_, rfl⟩
        rw [← hm] at a1 a2
        have hvb : v < 67108864 * 2 := by omega
        have gt : ¬ (0 : Int) < (x : Int) / 1024 := by omega
        have hfin := hB.set 4 v
        rw [← h1, ← ho.out] at hfin
        clear hl hv hm h1 h2 ho hx0
        rw [show ((15 : Nat) : Int) = 15 from rfl]
        go_wp2_with fail
        go_region
        all_goals (go_wp2_with fail)
        all_goals exact ⟨⟨16, by omega, rfl, hfin.drewN 1, below_drewN (xset hBe (by show w.heap.size ≤ w.heap.size; omega) _) 1⟩, by simp [intOf]; omega⟩
      · have ho := Lib.hid (leN_succ bs 16 (by omega))
        rw [← hx0] at ho
        have hn := leN_lt bs hb 16 (by omega)
        simp only [Nat.reducePow] at ho hn
        generalize leN bs 16 = n at ho hn hB
        have c0 := hB.cell 4 (by rw [limbs_length]; decide)
        have f0 := hB.frozen 4
        have hx4 : x < 4 := hx0 ▸ hlast (by omega)
        obtain ⟨h1, h2⟩ := lst16 n x hn hx4
        have hov : x / 4 = 0 := by omega
        obtain ⟨l, hl⟩ : ∃ l, l = (limbs n).getD 4 0 := ⟨_, rfl⟩
        rw [← hl] at h1 h2 c0
        obtain ⟨v, hv⟩ : ∃ v, v = l + x * 16777216 % 67108864 := ⟨_, rfl⟩
        rw [← hv] at h1
        have a1 : bits .and .u64 ((x : Int) * 16777216) 67108863 = ((x * 16777216 % 67108864 : Nat) : Int) := by have := and26 (x * 16777216) (by omega); simpa using this
        have a2 : bits .or .u64 (l : Int) ((x * 16777216 % 67108864 : Nat) : Int) = (v : Int) := by rw [hv]; exact or64 l _ 24 (by simpa using h2) (by simp only [Nat.reducePow]; omega) (by omega)
        obtain ⟨m, hm⟩ : ∃ m, m = x * 16777216 % 67108864 := ⟨_, rfl⟩
        rw [← hm] at a1 a2
        have hvb : v < 67108864 * 2 := by omega
        have gt : ¬ (0 : Int) < (x : Int) / 4 := by omega
        have hfin := hB.set 4 v
        rw [← h1, ← ho.out] at hfin
        clear hl hv hm h1 h2 ho hx0
        rw [show ((16 : Nat) : Int) = 16 from rfl]
        go_wp2_with fail
        go_region
        all_goals (go_wp2_with fail)
        all_goals exact ⟨⟨17, by omega, rfl, hfin.drewN 1, below_drewN (xset hBe (by show w.heap.size ≤ w.heap.size; omega) _) 1⟩, by simp [intOf]; omega⟩
    · obtain rfl : i = len := by omega
      have hl5 := limbs_length (leN bs i)
      have HZ := Lib.hid (show (Try.prog.info? 98).map (·.size) = some (limbs (leN bs i)).length by rw [hl5]; kernel_rfl)
      have HZ2 := Lib.hid (show (Try.prog.info? 98).map (·.size) = some (nv .u64 (limbs (leN bs i))).toArray.size by simp only [List.size_toArray, nv_length]; rw [hl5]; kernel_rfl)
      obtain ⟨ls, hls⟩ : ∃ ls, ls = limbs (leN bs i) := ⟨_, rfl⟩
      rw [← hls] at hB hl5 HZ HZ2
      have HLS := Lib.hid hls
      clear hls
      go_wp2_with (first
        | (refine wp_load_arr rfl 98 (.tmp 2) rfl w.heap.size rfl hB 5 54 Try.underlying98 HZ.out ?_)
        | (refine wp_store_arr rfl 98 (.tmp 2) (.tmp 45) rfl w.heap.size rfl hB rfl HZ.out rfl ?_; intro W9 hO9 hg9)
        | fail)
      exact bodyPost_ret (results_cell_row rfl _ _ w.heap.size 98 (nv .u64 ls).toArray (0, 0) _ rfl hO9 Try.underlying98 rfl HZ2.out) rfl ⟨by rw [HLS.out], gbelow hBe hg9 (Nat.le_refl _)⟩
end Go.Proofs.Ytpcppnoomogloaa.Po

namespace Go.Proofs.Ytpcppnoomogloaa.Po
set_option linter.unusedSimpArgs false
set_option linter.unusedVariables false
open Go.RowKit

theorem add64_run (x y c : Nat) (hc : c ≤ 1) (w : World) : (callFunc 75 #[.int .u64 (x : Int), .int .u64 (y : Int), .int .u64 (c : Int)]).run Try.prog w =
    .ok (.value (.tuple #[.int .u64 (((x : Int) + (y : Int) + (c : Int)) % 18446744073709551616), .int .u64 (((x : Int) + (y : Int) + (c : Int)) / 18446744073709551616)])) w := by
  rw [run_callFunc_extern (fn := Try.f75) (e := add64Entry) Try.func75 (by kernel_rfl) rfl (by kernel_rfl) (by rfl), run_add64 _ _ _ (by omega) (by omega) (by omega) (by omega)]
  rfl

set_option maxHeartbeats 1000000 in
theorem word_any (w : World) (b off len cap : Nat) (bs : List Nat) (hl8 : bs.length = 8) (hb : ∀ x ∈ bs, x < 256) (hlen : 8 ≤ len) (hcap : len ≤ cap) (hcm : cap ≤ 9223372036854775807) (hc : ∀ i, i < 8 → w.cell? ⟨b, off + i, none⟩ = some (.int .u8 ((bs.getD i 0 : Nat) : Int))) :
    Calls Try.prog 76 #[.slice (some ⟨b, off, none⟩) len cap] w fun e w' => e = .returned (.int .u64 ((le bs : Nat) : Int)) ∧ w = w' := by
  rw [← leN_all bs, hl8]
  have HC := Lib.hid hc
  clear hc
  have h8 : (8 : Int) ≤ (cap : Int) := by omega
  go_enter Try.func76, Try.ntmps76
  go_wp2_with fail
  go_loop [2, 8] (fun n r => ∃ i : Nat, i ≤ 8 ∧ r = .int .i64 i ∧ n = .int .u64 ((leN bs i : Nat) : Int)) (fun _ r => 8 - (intOf r).toNat)
  case atStart => exact ⟨0, by decide, rfl, by rw [leN_zero]; rfl⟩
  case round =>
    obtain ⟨i, hil, rfl, rfl⟩ := hrel
    by_cases hlt : i < 8
    · have hci := HC.out i hlt
      have hx := getD_u8 hb i
      obtain ⟨x, hx0⟩ : ∃ x, x = bs.getD i 0 := ⟨_, rfl⟩
      rw [← hx0] at hci hx
      rcases (show i = 0 ∨ i = 1 ∨ i = 2 ∨ i = 3 ∨ i = 4 ∨ i = 5 ∨ i = 6 ∨ i = 7 from by omega) with rfl | rfl | rfl | rfl | rfl | rfl | rfl | rfl
      · rw [Nat.add_zero] at hci
        have ho := leN_succ bs 0 (by omega)
        rw [← hx0] at ho
        have hn := leN_lt bs hb 0 (by omega)
        simp only [Nat.reducePow] at ho hn
        obtain ⟨n, hn0⟩ : ∃ n, n = leN bs 0 := ⟨_, rfl⟩
        obtain ⟨m, hm0⟩ : ∃ m, m = leN bs 1 := ⟨_, rfl⟩
        rw [← hn0] at ho hn
        rw [← hm0] at ho
        rw [← hn0]
        have a1 : bits .or .u64 (n : Int) ((x : Int)) = (m : Int) := by have := or64 n (x * 1) 0 (by simpa using hn) (by simp only [Nat.reducePow]; omega) (by omega); rw [show m = n + x * 1 from by omega, ← this]; simp
        have H := Lib.hid hm0
        clear ho hn0 hm0 hx0
        rw [show ((0 : Nat) : Int) = 0 from rfl]
        go_wp2_with fail
        exact ⟨⟨1, by omega, rfl, by rw [H.out]⟩, by simp [intOf]⟩
      · have ho := leN_succ bs 1 (by omega)
        rw [← hx0] at ho
        have hn := leN_lt bs hb 1 (by omega)
        simp only [Nat.reducePow] at ho hn
        obtain ⟨n, hn0⟩ : ∃ n, n = leN bs 1 := ⟨_, rfl⟩
        obtain ⟨m, hm0⟩ : ∃ m, m = leN bs 2 := ⟨_, rfl⟩
        rw [← hn0] at ho hn
        rw [← hm0] at ho
        rw [← hn0]
        have a1 : bits .or .u64 (n : Int) ((x : Int) * 256) = (m : Int) := by have := or64 n (x * 256) 8 (by simpa using hn) (by simp only [Nat.reducePow]; omega) (by omega); rw [show m = n + x * 256 from by omega, ← this]; simp
        have H := Lib.hid hm0
        clear ho hn0 hm0 hx0
        rw [show ((1 : Nat) : Int) = 1 from rfl]
        go_wp2_with fail
        exact ⟨⟨2, by omega, rfl, by rw [H.out]⟩, by simp [intOf]⟩
      · have ho := leN_succ bs 2 (by omega)
        rw [← hx0] at ho
        have hn := leN_lt bs hb 2 (by omega)
        simp only [Nat.reducePow] at ho hn
        obtain ⟨n, hn0⟩ : ∃ n, n = leN bs 2 := ⟨_, rfl⟩
        obtain ⟨m, hm0⟩ : ∃ m, m = leN bs 3 := ⟨_, rfl⟩
        rw [← hn0] at ho hn
        rw [← hm0] at ho
        rw [← hn0]
        have a1 : bits .or .u64 (n : Int) ((x : Int) * 65536) = (m : Int) := by have := or64 n (x * 65536) 16 (by simpa using hn) (by simp only [Nat.reducePow]; omega) (by omega); rw [show m = n + x * 65536 from by omega, ← this]; simp
        have H := Lib.hid hm0
        clear ho hn0 hm0 hx0
        rw [show ((2 : Nat) : Int) = 2 from rfl]
        go_wp2_with fail
        exact ⟨⟨3, by omega, rfl, by rw [H.out]⟩, by simp [intOf]⟩
      · have ho := leN_succ bs 3 (by omega)
        rw [← hx0] at ho
        have hn := leN_lt bs hb 3 (by omega)
        simp only [Nat.reducePow] at ho hn
        obtain ⟨n, hn0⟩ : ∃ n, n = leN bs 3 := ⟨_, rfl⟩
        obtain ⟨m, hm0⟩ : ∃ m, m = leN bs 4 := ⟨_, rfl⟩
        rw [← hn0] at ho hn
        rw [← hm0] at ho
        rw [← hn0]
        have a1 : bits .or .u64 (n : Int) ((x : Int) * 16777216) = (m : Int) := by have := or64 n (x * 16777216) 24 (by simpa using hn) (by simp only [Nat.reducePow]; omega) (by omega); rw [show m = n + x * 16777216 from by omega, ← this]; simp
        have H := Lib.hid hm0
        clear ho hn0 hm0 hx0
        rw [show ((3 : Nat) : Int) = 3 from rfl]
        go_wp2_with fail
        exact ⟨⟨4, by omega, rfl, by rw [H.out]⟩, by simp [intOf]⟩
      · have ho := leN_succ bs 4 (by omega)
        rw [← hx0] at ho
        have hn := leN_lt bs hb 4 (by omega)
        simp only [Nat.reducePow] at ho hn
        obtain ⟨n, hn0⟩ : ∃ n, n = leN bs 4 := ⟨_, rfl⟩
        obtain ⟨m, hm0⟩ : ∃ m, m = leN bs 5 := ⟨_, rfl⟩
        rw [← hn0] at ho hn
        rw [← hm0] at ho
        rw [← hn0]
        have a1 : bits .or .u64 (n : Int) ((x : Int) * 4294967296) = (m : Int) := by have := or64 n (x * 4294967296) 32 (by simpa using hn) (by simp only [Nat.reducePow]; omega) (by omega); rw [show m = n + x * 4294967296 from by omega, ← this]; simp
        have H := Lib.hid hm0
        clear ho hn0 hm0 hx0
        rw [show ((4 : Nat) : Int) = 4 from rfl]
        go_wp2_with fail
        exact ⟨⟨5, by omega, rfl, by rw [H.out]⟩, by simp [intOf]⟩
      · have ho := leN_succ bs 5 (by omega)
        rw [← hx0] at ho
        have hn := leN_lt bs hb 5 (by omega)
        simp only [Nat.reducePow] at ho hn
        obtain ⟨n, hn0⟩ : ∃ n, n = leN bs 5 := ⟨_, rfl⟩
        obtain ⟨m, hm0⟩ : ∃ m, m = leN bs 6 := ⟨_, rfl⟩
        rw [← hn0] at ho hn
        rw [← hm0] at ho
        rw [← hn0]
        have a1 : bits .or .u64 (n : Int) ((x : Int) * 1099511627776) = (m : Int) := by have := or64 n (x * 1099511627776) 40 (by simpa using hn) (by simp only [Nat.reducePow]; omega) (by omega); rw [show m = n + x * 1099511627776 from by omega, ← this]; simp
        have H := Lib.hid hm0
        clear ho hn0 hm0 hx0
        rw [show ((5 : Nat) : Int) = 5 from rfl]
        go_wp2_with fail
        exact ⟨⟨6, by omega, rfl, by rw [H.out]⟩, by simp [intOf]⟩
      · have ho := leN_succ bs 6 (by omega)
        rw [← hx0] at ho
        have hn := leN_lt bs hb 6 (by omega)
        simp only [Nat.reducePow] at ho hn
        obtain ⟨n, hn0⟩ : ∃ n, n = leN bs 6 := ⟨_, rfl⟩
        obtain ⟨m, hm0⟩ : ∃ m, m = leN bs 7 := ⟨_, rfl⟩
        rw [← hn0] at ho hn
        rw [← hm0] at ho
        rw [← hn0]
        have a1 : bits .or .u64 (n : Int) ((x : Int) * 281474976710656) = (m : Int) := by have := or64 n (x * 281474976710656) 48 (by simpa using hn) (by simp only [Nat.reducePow]; omega) (by omega); rw [show m = n + x * 281474976710656 from by omega, ← this]; simp
        have H := Lib.hid hm0
        clear ho hn0 hm0 hx0
        rw [show ((6 : Nat) : Int) = 6 from rfl]
        go_wp2_with fail
        exact ⟨⟨7, by omega, rfl, by rw [H.out]⟩, by simp [intOf]⟩
      · have ho := leN_succ bs 7 (by omega)
        rw [← hx0] at ho
        have hn := leN_lt bs hb 7 (by omega)
        simp only [Nat.reducePow] at ho hn
        obtain ⟨n, hn0⟩ : ∃ n, n = leN bs 7 := ⟨_, rfl⟩
        obtain ⟨m, hm0⟩ : ∃ m, m = leN bs 8 := ⟨_, rfl⟩
        rw [← hn0] at ho hn
        rw [← hm0] at ho
        rw [← hn0]
        have a1 : bits .or .u64 (n : Int) ((x : Int) * 72057594037927936) = (m : Int) := by have := or64 n (x * 72057594037927936) 56 (by simpa using hn) (by simp only [Nat.reducePow]; omega) (by omega); rw [show m = n + x * 72057594037927936 from by omega, ← this]; simp
        have H := Lib.hid hm0
        clear ho hn0 hm0 hx0
        rw [show ((7 : Nat) : Int) = 7 from rfl]
        go_wp2_with fail
        exact ⟨⟨8, by omega, rfl, by rw [H.out]⟩, by simp [intOf]⟩
    · obtain rfl : i = 8 := by omega
      rw [show ((8 : Nat) : Int) = 8 from rfl]
      go_wp2_with fail
      go_ret
      exact ⟨rfl, rfl⟩

/-! ### Clamps -/
def ca (h : List Nat) : Nat → List Nat
  | 0 => h
  | k + 1 => (ca h k).set (4 * k + 3) ((ca h k).getD (4 * k + 3) 0 % 16)
def cb (h : List Nat) : Nat → List Nat
  | 0 => h
  | k + 1 => (cb h k).set (4 * k + 4) ((cb h k).getD (4 * k + 4) 0 / 4 * 4)
theorem ca_zero (h : List Nat) : ca h 0 = h := rfl
theorem ca_succ (h : List Nat) (k : Nat) : ca h (k + 1) = (ca h k).set (4 * k + 3) ((ca h k).getD (4 * k + 3) 0 % 16) := rfl
theorem cb_zero (h : List Nat) : cb h 0 = h := rfl
theorem cb_succ (h : List Nat) (k : Nat) : cb h (k + 1) = (cb h k).set (4 * k + 4) ((cb h k).getD (4 * k + 4) 0 / 4 * 4) := rfl
theorem ca_length (h : List Nat) (k : Nat) : (ca h k).length = h.length := by
  induction k with
  | zero => rfl
  | succ k ih => rw [ca_succ, List.length_set, ih]
theorem cb_length (h : List Nat) (k : Nat) : (cb h k).length = h.length := by
  induction k with
  | zero => rfl
  | succ k ih => rw [cb_succ, List.length_set, ih]
theorem mem_set_lt {h : List Nat} (hb : ∀ x ∈ h, x < 256) (i v : Nat) (hv : v < 256) : ∀ x ∈ h.set i v, x < 256 := fun x hx => by
  rcases List.mem_or_eq_of_mem_set hx with hx | rfl
  · exact hb x hx
  · exact hv
theorem ca_lt {h : List Nat} (hb : ∀ x ∈ h, x < 256) : ∀ k, ∀ x ∈ ca h k, x < 256
  | 0 => hb
  | k + 1 => mem_set_lt (ca_lt hb k) _ _ (by omega)
theorem cb_lt {h : List Nat} (hb : ∀ x ∈ h, x < 256) : ∀ k, ∀ x ∈ cb h k, x < 256
  | 0 => hb
  | k + 1 => mem_set_lt (cb_lt hb k) _ _ (by have := getD_lt _ (cb_lt hb k) (4 * k + 4); omega)
theorem clamp_eq (h : List Nat) (hl : h.length = 16) : cb (ca h 4) 3 = clamp h := by
  refine List.ext_getElem (by rw [cb_length, ca_length, clamp_length, hl]) fun i h1 h2 => ?_
  rw [cb_length, ca_length, hl] at h1
  have e1 : (cb (ca h 4) 3)[i]'(by rw [cb_length, ca_length, hl]; exact h1) = (cb (ca h 4) 3).getD i 0 := by
    rw [List.getD_eq_getElem?_getD, List.getElem?_eq_getElem (by rw [cb_length, ca_length, hl]; exact h1)]; rfl
  have e2 : (clamp h)[i]'h2 = (clamp h).getD i 0 := by
    rw [List.getD_eq_getElem?_getD, List.getElem?_eq_getElem h2]; rfl
  rw [e1, e2, clamp_get h i h1]
  rcases h with _ | ⟨a0, _ | ⟨a1, _ | ⟨a2, _ | ⟨a3, _ | ⟨a4, _ | ⟨a5, _ | ⟨a6, _ | ⟨a7, _ | ⟨a8, _ | ⟨a9, _ | ⟨a10, _ | ⟨a11, _ | ⟨a12, _ | ⟨a13, _ | ⟨a14, _ | ⟨a15, _ | ⟨a16, h⟩⟩⟩⟩⟩⟩⟩⟩⟩⟩⟩⟩⟩⟩⟩⟩⟩ <;> simp at hl
  rcases (show i = 0 ∨ i = 1 ∨ i = 2 ∨ i = 3 ∨ i = 4 ∨ i = 5 ∨ i = 6 ∨ i = 7 ∨ i = 8 ∨ i = 9 ∨ i = 10 ∨ i = 11 ∨ i = 12 ∨ i = 13 ∨ i = 14 ∨ i = 15 from by omega) with rfl | rfl | rfl | rfl | rfl | rfl | rfl | rfl | rfl | rfl | rfl | rfl | rfl | rfl | rfl | rfl <;> rfl
theorem and15 (x : Nat) (hx : x < 256) : bits .and .u8 (x : Int) 15 = ((x % 16 : Nat) : Int) := by
  rw [show (15 : Int) = ((15 : Nat) : Int) from rfl, bits_and .u8 rfl _ _ (by omega) (by show (x : Int) < 256; omega) (by omega) (by decide)]
  rw [Int.toNat_natCast, Int.toNat_natCast, show 15 = 2 ^ 4 - 1 from rfl, Nat.and_two_pow_sub_one_eq_mod]
theorem n252 : ∀ x : Fin 256, x.1 &&& 252 = x.1 / 4 * 4 := by decide +kernel
theorem and252 (x : Nat) (hx : x < 256) : bits .and .u8 (x : Int) 252 = ((x / 4 * 4 : Nat) : Int) := by
  rw [show (252 : Int) = ((252 : Nat) : Int) from rfl, bits_and .u8 rfl _ _ (by omega) (by show (x : Int) < 256; omega) (by omega) (by decide)]
  rw [Int.toNat_natCast, Int.toNat_natCast, n252 ⟨x, hx⟩]
theorem jx4 (k : Nat) (h : k < 4) (w : World) : (Instr.index 105 (.agg #[.int .i64 3, .int .i64 7, .int .i64 11, .int .i64 15]) (.int .i64 (k : Int))).run Try.prog w = .ok (.int .i64 ((4 * k + 3 : Nat) : Int)) w := by
  rcases (show k = 0 ∨ k = 1 ∨ k = 2 ∨ k = 3 from by omega) with rfl | rfl | rfl | rfl <;> kernel_rfl
theorem jx3 (k : Nat) (h : k < 3) (w : World) : (Instr.index 111 (.agg #[.int .i64 4, .int .i64 8, .int .i64 12]) (.int .i64 (k : Int))).run Try.prog w = .ok (.int .i64 ((4 * k + 4 : Nat) : Int)) w := by
  rcases (show k = 0 ∨ k = 1 ∨ k = 2 from by omega) with rfl | rfl | rfl <;> kernel_rfl

set_option maxHeartbeats 1000000 in
theorem Clamp_any (w : World) (h : List Nat) (hl : h.length = 16) (hb : ∀ x ∈ h, x < 256) :
    Calls Try.prog 71 #[.agg (bv h).toArray] w fun e w' => e = .returned (.agg (bv (clamp h)).toArray) ∧ Below w.heap.size w w' := by
  rw [← clamp_eq h hl]
  go_enter Try.func71, Try.ntmps71
  go_wp2_with fail
  refine at_world (fun W => Blk W w.heap.size 76 .u8 (ca h 0) ∧ Blk W (w.heap.size + 1) 76 .u8 (List.replicate 16 0) ∧ Below w.heap.size w W) ?_ ?_
  · refine ⟨(Blk.new w _ _ h _ rfl).alloc _, ?_, xalloc (xnew _ _) _⟩
    have := Blk.new (w.alloc (.cells (nv .u8 h).toArray 76)) 76 .u8 (List.replicate 16 0) _ rfl
    rw [World.size_alloc] at this
    exact this
  rintro W ⟨hN, hO, hB⟩
  go_loopw [8] (fun r wr => ∃ k : Nat, k ≤ 4 ∧ r = .int .i64 k ∧ Blk wr w.heap.size 76 .u8 (ca h k) ∧ Blk wr (w.heap.size + 1) 76 .u8 (List.replicate 16 0) ∧ Below w.heap.size w wr) (fun r _ => 4 - (intOf r).toNat)
  case atStart => exact ⟨0, by decide, rfl, hN, hO, hB⟩
  case round =>
    clear hN hO hB
    obtain ⟨k, hk4, rfl, hN, hO, hB⟩ := hrel
    have hll := ca_length h k
    have hlb := ca_lt hb k
    by_cases hlt : k < 4
    · have HS := Lib.hid (ca_succ h k)
      generalize ca h k = hs at hN hll hlb HS
      obtain ⟨j, hj⟩ : ∃ j, j = 4 * k + 3 := ⟨_, rfl⟩
      have hix := fun W => jx4 k hlt W
      rw [← hj] at hix HS
      have hj16 : (j : Int) < 16 := by omega
      have hc := hN.cell j (by omega)
      have hf := hN.frozen j
      have hx := getD_lt hs hlb j
      have ha := and15 _ hx
      obtain ⟨x, hx0⟩ : ∃ x, x = hs.getD j 0 := ⟨_, rfl⟩
      rw [← hx0] at hc hx ha HS
      have hfin := hN.set j (x % 16)
      rw [← HS.out] at hfin
      clear hj hx0
      go_wp2_with fail
      exact ⟨⟨k + 1, by omega, by go_num, hfin, hO.other _ _ (by show w.heap.size + 1 ≠ w.heap.size; omega), xset hB (Nat.le_refl _) _⟩, by simp [intOf]; omega⟩
    · obtain rfl : k = 4 := by omega
      obtain ⟨g, hg⟩ : ∃ g, g = ca h 4 := ⟨_, rfl⟩
      rw [← hg] at hN hll hlb
      have HG := Lib.hid hg
      clear hg
      rw [show ((4 : Nat) : Int) = 4 from rfl]
      go_wp2_with fail
      obtain ⟨wo, hwo⟩ : ∃ wo : World, wo = wr := ⟨_, rfl⟩
      rw [← hwo] at hN hO hB ⊢
      clear hwo
      rw [← cb_zero g] at hN
      go_loopw [18] (fun r wr => ∃ k : Nat, k ≤ 3 ∧ r = .int .i64 k ∧ Blk wr w.heap.size 76 .u8 (cb g k) ∧ Blk wr (w.heap.size + 1) 76 .u8 (List.replicate 16 0) ∧ Below w.heap.size w wr) (fun r _ => 3 - (intOf r).toNat)
      case atStart => exact ⟨0, by decide, rfl, hN, hO, hB⟩
      case round =>
        clear hN hO hB
        obtain ⟨k, hk3, rfl, hN, hO, hB⟩ := hrel
        have hll2 := cb_length g k
        have hlb2 := cb_lt hlb k
        by_cases hltk : k < 3
        · have HS := Lib.hid (cb_succ g k)
          generalize cb g k = hs at hN hll2 hlb2 HS
          obtain ⟨j, hj⟩ : ∃ j, j = 4 * k + 4 := ⟨_, rfl⟩
          have hix := fun W => jx3 k hltk W
          rw [← hj] at hix HS
          have hj16 : (j : Int) < 16 := by omega
          have hc := hN.cell j (by omega)
          have hf := hN.frozen j
          have hx := getD_lt hs hlb2 j
          have ha := and252 _ hx
          obtain ⟨x, hx0⟩ : ∃ x, x = hs.getD j 0 := ⟨_, rfl⟩
          rw [← hx0] at hc hx ha HS
          have hfin := hN.set j (x / 4 * 4)
          rw [← HS.out] at hfin
          clear hj hx0
          obtain ⟨y, hy⟩ : ∃ y, y = x / 4 * 4 := ⟨_, rfl⟩
          rw [← hy] at ha hfin
          clear hy
          go_wp2_with fail
          exact ⟨⟨k + 1, by omega, by go_num, hfin, hO.other _ _ (by show w.heap.size + 1 ≠ w.heap.size; omega), xset hB (Nat.le_refl _) _⟩, by simp [intOf]; omega⟩
        · obtain rfl : k = 3 := by omega
          obtain ⟨f, hf⟩ : ∃ f, f = cb g 3 := ⟨_, rfl⟩
          rw [← hf] at hN hll2
          have HF := Lib.hid hf
          have hfl : f.length = 16 := by rw [hll2, hll, hl]
          have HZ := Lib.hid (show (Try.prog.info? 76).map (·.size) = some f.length by rw [hfl]; kernel_rfl)
          have HZ2 := Lib.hid (show (Try.prog.info? 76).map (·.size) = some (nv .u8 f).toArray.size by simp only [List.size_toArray, nv_length]; rw [hfl]; kernel_rfl)
          have HS2 := Lib.hid (show (List.replicate 16 0).length = f.length by rw [hfl]; rfl)
          clear hf hfl hll2
          rw [show ((3 : Nat) : Int) = 3 from rfl]
          go_wp2_with (first
            | (refine wp_load_arr rfl 76 (.tmp 1) rfl w.heap.size rfl hN 16 5 Try.underlying76 HZ.out ?_)
            | (refine wp_store_arr rfl 76 (.tmp 2) (.tmp 27) rfl (w.heap.size + 1) rfl hO rfl HZ.out HS2.out ?_; intro W9 hO9 hg9)
            | fail)
          exact bodyPost_ret (results_cell_row rfl _ _ (w.heap.size + 1) 76 (nv .u8 f).toArray (0, 0) _ rfl hO9 Try.underlying76 rfl HZ2.out) rfl ⟨by rw [HF.out, HG.out]; rfl, gbelow hB hg9 (by omega)⟩
end Go.Proofs.Ytpcppnoomogloaa.Po
