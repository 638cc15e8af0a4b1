/- The walk of the statement AdlerTells: sums that go on, and sums together, are the document's. -/
import Derived.Test.YtjjmoefipkkihaaAdW2
namespace Go.Proofs.Ytjjmoefipkkihaa.Ad
open Go.RowKit

set_option maxHeartbeats 1000000 in
theorem tells_walk (s : Int) (a : Option Addr) (len cap : Nat) (bs : List Nat) (o n : Int) (w : World) (hs : 0 ≤ s ∧ s ≤ 4294967295) (hb : Row8 w a len cap bs) (ho : 0 ≤ o ∧ o ≤ 4294967295) (hn : -9223372036854775808 ≤ n ∧ n ≤ 9223372036854775807) :
    Calls Try.prog 3 #[.int .u32 s, .slice a len cap, .int .u32 o, .int .i64 n] w fun e w' => e = .returned (.bool true) ∧ Below w.heap.size w w' := by
  by_cases hl : len ≤ 300
  · go_enter Try.func3, Try.ntmps3
    go_wp2_with fail
    refine (awake_any _).mono ?_
    rintro e w1 ⟨rfl, hb1⟩
    have hr1 : RdB w1 a len cap bs := ⟨by omega, hb.below hb1⟩
    go_wp2_with fail
    refine (More_any _ _ _ _ _ _ hs.1 (by omega) hr1).mono ?_
    rintro e w2 ⟨rfl, hb2⟩
    have hr2 := hr1.below hb2
    go_wp2_with fail
    refine (RefMore_any _ _ _ _ _ _ hs.1 (by omega) hr2).mono ?_
    rintro e w' ⟨rfl, rfl⟩
    go_wp2_with fail
    refine (Sum_any _ _ _ _ _ hr2).mono ?_
    rintro e w3 ⟨rfl, hb3⟩
    have hr3 := hr2.below hb3
    go_wp2_with fail
    refine (RefMore_any 1 _ _ _ _ _ (by decide) (by decide) hr3).mono ?_
    rintro e w' ⟨rfl, rfl⟩
    rw [show (1 : Int).toNat = 1 from rfl]
    go_wp2_with fail
    refine (Join_any _ _ _ _ hs.1 (by omega) ho.1 (by omega) (by omega)).mono ?_
    rintro e w4 ⟨rfl, hb4⟩
    go_wp2_with fail
    refine (RefJoin_any _ _ _ _ hs.1 (by omega) ho.1 (by omega) (by omega)).mono ?_
    rintro e w' ⟨rfl, rfl⟩
    go_wp2_with fail
    go_ret
    exact ⟨rfl, xtrans (xtrans (xtrans hb1 hb2) hb3) hb4⟩
  · go_enter Try.func3, Try.ntmps3
    go_wp2_with fail
    refine (awake_any _).mono ?_
    rintro e w1 ⟨rfl, hb1⟩
    go_wp2_with fail
    go_ret
    exact ⟨rfl, hb1⟩
end Go.Proofs.Ytjjmoefipkkihaa.Ad
