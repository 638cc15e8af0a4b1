/- The walk of the statement AdlerGoes: it does not matter in which parts a text comes. -/
import Derived.Test.YtjjmoefipkkihaaAdW2
import Derived.Test.YtjjmoefipkkihaaOwn
namespace Go.Proofs.Ytjjmoefipkkihaa.Ad
open Go.RowKit

set_option maxHeartbeats 1000000 in
theorem goes_walk (s : Int) (a : Option Addr) (len cap : Nat) (bs : List Nat) (a2 : Option Addr) (len2 cap2 : Nat) (cs : List Nat) (w : World) (hs : 0 ≤ s ∧ s ≤ 4294967295) (hb : Row8 w a len cap bs) (hc : Row8 w a2 len2 cap2 cs) :
    Calls Try.prog 4 #[.int .u32 s, .slice a len cap, .slice a2 len2 cap2] w fun e w' => e = .returned (.bool true) ∧ Below w.heap.size w w' := by
  by_cases hl : len ≤ 300
  · by_cases hl2 : len2 ≤ 300
    · have hbl := hb.1
      have hcl := hc.1
      go_enter Try.func4, Try.ntmps4
      go_wp2_with fail
      refine (awake_any _).mono ?_
      rintro e w1 ⟨rfl, hb1⟩
      have hr1 : RdB w1 a len cap bs := ⟨by omega, hb.below hb1⟩
      have hq1 : RdB w1 a2 len2 cap2 cs := ⟨by omega, hc.below hb1⟩
      have hz1 := hb1.size
      go_wp2_with (first
        | (at_builtin; refine wp_append rfl (.tmp 19) (.tmp 20) rfl w1.heap.size _ [] rfl (Own.lit w1 #[] 0 [] rfl rfl (by decide) (by simp)) _ _ _ bs rfl (hr1.below (xnew _ _)) (by simp; omega) (by simp) ?_; intro v1 w2 hown1 hbel1 hg1)
        | (at_builtin; refine wp_append rfl (.tmp 21) (.tmp 22) rfl w1.heap.size _ _ rfl hown1 _ _ _ cs rfl (hq1.below ((xnew _ _).trans hbel1)) (by simp; omega) (by have := hbel1.size; simp at this; omega) ?_; intro v2 w3 hown2 hbel2 hg2; obtain ⟨a3, cap3, hv3, hr3, _⟩ := hown2.rd (by simp; omega); subst hv3)
        | fail)
      have hB3 : Below w.heap.size w w3 := hb1.trans (((xnew w1 (.cells #[] 5)).trans (hbel1.trans hbel2)).mono hz1)
      have hr : RdB w3 a len cap bs := ⟨by omega, hb.below hB3⟩
      have hq : RdB w3 a2 len2 cap2 cs := ⟨by omega, hc.below hB3⟩
      have hbo : RdB w3 a3 (len + len2) cap3 (bs ++ cs) := by simpa [hbl, hcl] using hr3
      have e1 := Lib.hid (more_more s.toNat bs cs)
      have e2 := Lib.hid (join_more 1 bs cs)
      clear hown1 hbel1 hg1 hown2 hbel2 hg2 hr3 hr1 hq1
      refine (More_any _ _ _ _ _ _ hs.1 (by omega) hr).mono ?_
      rintro e w4 ⟨rfl, hb4⟩
      have hm1 := more_lt s.toNat bs
      have hr4 := hr.below hb4
      have hq4 := hq.below hb4
      have hbo4 := hbo.below hb4
      go_wp2_with fail
      refine (More_any _ _ _ _ _ _ (by omega) (by omega) hq4).mono ?_
      rintro e w5 ⟨rfl, hb5⟩
      rw [Int.toNat_natCast, e1.out]
      have hr5 := hr4.below hb5
      have hq5 := hq4.below hb5
      have hbo5 := hbo4.below hb5
      go_wp2_with fail
      refine (More_any _ _ _ _ _ _ hs.1 (by omega) hbo5).mono ?_
      rintro e w6 ⟨rfl, hb6⟩
      have hr6 := hr5.below hb6
      have hq6 := hq5.below hb6
      have hbo6 := hbo5.below hb6
      go_wp2_with fail
      refine (Sum_any _ _ _ _ _ hr6).mono ?_
      rintro e w7 ⟨rfl, hb7⟩
      have hq7 := hq6.below hb7
      have hbo7 := hbo6.below hb7
      go_wp2_with fail
      refine (Sum_any _ _ _ _ _ hq7).mono ?_
      rintro e w8 ⟨rfl, hb8⟩
      have hq8 := hq7.below hb8
      have hbo8 := hbo7.below hb8
      have hm2 := more_lt 1 bs
      have hm3 := more_lt 1 cs
      go_wp2_with fail
      refine (Join_any _ _ _ _ (by omega) (by omega) (by omega) (by omega) (by omega)).mono ?_
      rintro e w9 ⟨rfl, hb9⟩
      have hq9 := hq8.below hb9
      have hbo9 := hbo8.below hb9
      rw [Int.toNat_natCast, Int.toNat_natCast, Int.toNat_natCast, ← hcl, e2.out]
      go_wp2_with fail
      refine (Sum_any _ _ _ _ _ hbo9).mono ?_
      rintro e w10 ⟨rfl, hb10⟩
      have hq10 := hq9.below hb10
      go_wp2_with fail
      refine (More_any 1 _ _ _ _ _ (by decide) (by decide) hq10).mono ?_
      rintro e w11 ⟨rfl, hb11⟩
      have hq11 := hq10.below hb11
      rw [show (1 : Int).toNat = 1 from rfl]
      go_wp2_with fail
      refine (Sum_any _ _ _ _ _ hq11).mono ?_
      rintro e w12 ⟨rfl, hb12⟩
      go_wp2_with fail
      go_ret
      exact ⟨rfl, xtrans (xtrans (xtrans (xtrans (xtrans (xtrans (xtrans (xtrans (xtrans hB3 hb4) hb5) hb6) hb7) hb8) hb9) hb10) hb11) hb12⟩
    · go_enter Try.func4, Try.ntmps4
      go_wp2_with fail
      refine (awake_any _).mono ?_
      rintro e w1 ⟨rfl, hb1⟩
      go_wp2_with fail
      go_ret
      exact ⟨rfl, hb1⟩
  · go_enter Try.func4, Try.ntmps4
    go_wp2_with fail
    refine (awake_any _).mono ?_
    rintro e w1 ⟨rfl, hb1⟩
    go_wp2_with fail
    go_ret
    exact ⟨rfl, hb1⟩
end Go.Proofs.Ytjjmoefipkkihaa.Ad
