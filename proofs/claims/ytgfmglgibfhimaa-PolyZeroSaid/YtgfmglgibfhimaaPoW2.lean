/- Walks: limbs that are carried, all of them. -/
import Derived.Test.YtgfmglgibfhimaaPoW1
namespace Go.Proofs.Ytgfmglgibfhimaa.Po
set_option linter.unusedSimpArgs false
set_option linter.unusedVariables false
open Go.RowKit

set_option maxHeartbeats 1000000 in
theorem carried_any (w : World) (xs : List Nat) (hx : ok5 xs) :
    Calls Try.prog 21 #[.agg (nv .u64 xs).toArray] w fun e w' => e = .returned (.agg (nv .u64 (carried xs)).toArray) ∧ Below w.heap.size w w' := by
  rw [carried_eq]
  go_enter Try.func21, Try.ntmps21
  go_wp2_with fail
  refine at_world (fun W => Blk W w.heap.size 34 .u64 xs ∧ Blk W (w.heap.size + 1) 34 .u64 [0, 0, 0, 0, 0] ∧ Below w.heap.size w W) ?_ ?_
  · refine ⟨(Blk.new w _ _ xs _ rfl).alloc _, ?_, xalloc (xnew _ _) _⟩
    have := Blk.new (w.alloc (.cells (nv .u64 xs).toArray 34)) 34 .u64 [0, 0, 0, 0, 0] _ rfl
    rw [World.size_alloc] at this
    exact this
  rintro W ⟨hN, hO, hB⟩
  go_loopw [6] (fun r wr => ∃ n : Nat, n ≤ 2 ∧ r = .int .i64 n ∧ Blk wr w.heap.size 34 .u64 (rnd xs n) ∧ Blk wr (w.heap.size + 1) 34 .u64 [0, 0, 0, 0, 0] ∧ Below w.heap.size w wr) (fun r _ => 2 - (intOf r).toNat)
  case atStart => exact ⟨0, by decide, rfl, hN, hO, hB⟩
  case round =>
    clear hN hO hB
    obtain ⟨n, hn2, rfl, hN, hO, hB⟩ := hrel
    have hok := ok5_rnd hx n
    by_cases hlt : n < 2
    · have HS := Lib.hid (rnd_succ xs n)
      have hd : decide ((n : Int) < 2) = true := decide_eq_true (by omega)
      generalize rnd xs n = ys at hN hok HS
      go_wp2_with fail
      obtain ⟨wo, hwo⟩ : ∃ wo : World, wo = wr := ⟨_, rfl⟩
      rw [← hwo] at hN hO hB ⊢
      clear hwo
      go_loopw [8] (fun r wr => ∃ k : Nat, k ≤ 4 ∧ r = .int .i64 k ∧ Blk wr w.heap.size 34 .u64 (ups ys k) ∧ Blk wr (w.heap.size + 1) 34 .u64 [0, 0, 0, 0, 0] ∧ Below w.heap.size w wr) (fun r _ => 4 - (intOf r).toNat)
      case atStart => exact ⟨0, by decide, rfl, hN, hO, hB⟩
      case round =>
        clear hN hO hB
        obtain ⟨k, hk4, rfl, hN, hO, hB⟩ := hrel
        have hok2 := ok5_ups hok k
        by_cases hltk : k < 4
        · have HK := Lib.hid (ups_succ ys k)
          generalize ups ys k = zs at hN hok2 HK
          have c := Lib.hid (fun W (h : Blk W w.heap.size 34 .u64 zs) => carryFn W _ w.heap.size zs k (k + 1) 1 h hok2.1 hok2.2 (by omega))
          go_wp2_with (first | (go_at_call 25; refine (c.out _ hN).mono ?_; rintro e W1 ⟨rfl, hN1, hg1⟩) | fail)
          rw [← HK.out] at hN1
          exact ⟨⟨k + 1, by omega, by go_num, hN1, hO.grown hg1 (ne_some (by omega)), gbelow hB hg1 (by omega)⟩, by simp [intOf]; omega⟩
        · obtain rfl : k = 4 := by omega
          have c := Lib.hid (fun W (h : Blk W w.heap.size 34 .u64 (ups ys 4)) => carryFn W _ w.heap.size (ups ys 4) 4 0 5 h hok2.1 hok2.2 (by omega))
          go_wp2_with (first | (go_at_call 25; refine (c.out _ hN).mono ?_; rintro e W1 ⟨rfl, hN1, hg1⟩) | fail)
          rw [← HS.out] at hN1
          exact ⟨⟨n + 1, by omega, by go_num, hN1, hO.grown hg1 (ne_some (by omega)), gbelow hB hg1 (by omega)⟩, by simp [intOf]; omega⟩
    · obtain rfl : n = 2 := by omega
      have c := Lib.hid (fun W (h : Blk W w.heap.size 34 .u64 (rnd xs 2)) => carryFn W _ w.heap.size (rnd xs 2) 0 1 1 h hok.1 hok.2 (by omega))
      have hfok := ok5_carry hok 0 1 1
      obtain ⟨ys, hys⟩ : ∃ ys, ys = carry1 (rnd xs 2) 0 1 1 := ⟨_, rfl⟩
      rw [← hys] at c hfok
      have HYS := Lib.hid hys
      clear hys
      have HZ1 : Hid ((Try.prog.info? 34).map (·.size) = some ys.length) := Lib.hid (by rw [hfok.1]; kernel_rfl)
      have HZ2 : Hid (ys.length = 5) := Lib.hid hfok.1
      go_wp2_with (first
        | (go_at_call 25; refine (c.out _ hN).mono ?_; rintro e W1 ⟨rfl, hN1, hg1⟩; have hO1 := hO.grown hg1 (ne_some (by omega)); have hB1 := gbelow hB hg1 (Nat.le_refl _))
        | (refine wp_load_arr rfl 34 (.tmp 1) rfl w.heap.size rfl hN1 5 32 Try.underlying34 HZ1.out ?_)
        | (refine wp_store_arr rfl 34 (.tmp 2) (.tmp 22) rfl (w.heap.size + 1) rfl hO1 rfl HZ1.out HZ2.out.symm ?_; intro W9 hO9 hg9)
        | fail)
      have HZ4 : Hid ((Try.prog.info? 34).map (·.size) = some (nv .u64 ys).toArray.size) := Lib.hid (by rw [HZ1.out]; simp [nv])
      exact bodyPost_ret (results_cell_row rfl _ _ (w.heap.size + 1) 34 (nv .u64 ys).toArray (0, 0) _ rfl hO9 Try.underlying34 rfl HZ4.out) rfl ⟨by rw [← HYS.out], gbelow hB1 hg9 (by omega)⟩
end Go.Proofs.Ytgfmglgibfhimaa.Po
