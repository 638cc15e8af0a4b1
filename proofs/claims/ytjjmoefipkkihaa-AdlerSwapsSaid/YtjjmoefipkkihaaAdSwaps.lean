/- The walk of the statement AdlerSwaps: two unlike neighbours exchanged. -/
import Derived.Test.YtjjmoefipkkihaaAdW2
import Derived.Test.YtjjmoefipkkihaaOwn
import Derived.Deep.QuietTactic
import Derived.BigQuiet
namespace Go.Proofs.Ytjjmoefipkkihaa.Ad
open Go.RowKit

set_option maxHeartbeats 1000000 in
theorem swaps_walk (a : Option Addr) (len cap : Nat) (bs : List Nat) (t : Int) (w : World) (hb : Row8 w a len cap bs) (ht : 0 ≤ t ∧ t ≤ 65535) :
    Calls Try.prog 9 #[.slice a len cap, .int .u16 t] w fun e w' => e = .returned (.bool true) ∧ Below w.heap.size w w' := by
  by_cases h0 : len < 2
  · go_enter Try.func9, Try.ntmps9
    go_wp2_with fail
    refine (awake_any _).mono ?_
    rintro e w1 ⟨rfl, hb1⟩
    go_wp2_with fail
    go_ret
    exact ⟨rfl, hb1⟩
  · by_cases hl : len ≤ 300
    · have hbl := hb.1
      obtain ⟨t, rfl⟩ := Int.eq_ofNat_of_zero_le ht.1
      have hmod : (t : Int) % ((len : Int) - 1) = ((t % (len - 1) : Nat) : Int) := by rw [show (len : Int) - 1 = ((len - 1 : Nat) : Int) from by omega]; rfl
      have hk : t % (len - 1) < len - 1 := Nat.mod_lt _ (by omega)
      have hidx : ((t : Int) % ((len : Int) - 1)).toNat = t % (len - 1) := by rw [hmod]; omega
      have hidx2 : ((t : Int) % ((len : Int) - 1) + 1).toNat = t % (len - 1) + 1 := by rw [hmod]; omega
      have hk0 : 0 ≤ (t : Int) % ((len : Int) - 1) := by rw [hmod]; omega
      have hk1 : (t : Int) % ((len : Int) - 1) < (len : Int) - 1 := by rw [hmod]; omega
      clear hmod
      obtain ⟨x, hx⟩ : ∃ x, x = bs.getD (t % (len - 1)) 0 := ⟨_, rfl⟩
      obtain ⟨y, hy⟩ : ∃ y, y = bs.getD (t % (len - 1) + 1) 0 := ⟨_, rfl⟩
      have hx256 : x < 256 := hx ▸ getD_u8 hb.2.2.2.1 _
      have hy256 : y < 256 := hy ▸ getD_u8 hb.2.2.2.1 _
      have HX := Lib.hid hx
      have HY := Lib.hid hy
      clear hx hy
      obtain ⟨_, q2, q3, q4, q5, q6⟩ := hb
      rcases q6 with q6 | ⟨b, off, rfl, hblt, hc⟩
      · omega
      have hb : Row8 w (some ⟨b, off, none⟩) len cap bs := ⟨hbl, q2, q3, q4, q5, .inr ⟨b, off, rfl, hblt, hc⟩⟩
      go_enter Try.func9, Try.ntmps9
      go_wp2_with fail
      refine (awake_any _).mono ?_
      rintro e w1 ⟨rfl, hb1⟩
      have hz1 := hb1.size
      have hr1 : RdB w1 (some ⟨b, off, none⟩) len cap bs := ⟨by omega, hb.below hb1⟩
      go_wp2_with (first
        | (at_builtin; refine wp_append rfl (.tmp 26) (.tmp 27) rfl w1.heap.size _ [] rfl (Own.lit w1 #[] 0 [] rfl rfl (by decide) (by simp)) _ _ _ bs rfl (hr1.below (xnew _ _)) (by simp; omega) (by simp) ?_; intro v1 w2 hown1 hbel1 hg1; rw [List.nil_append] at hown1; rcases hown1.shape with ⟨_, hbad⟩ | ⟨g, cg, hv, hgb, hgl, _, _, hcl, hfr⟩; (exfalso; subst hbad; simp at hbl; omega); subst hv; have hf1 := hfr (t % (len - 1)); have hf2 := hfr (t % (len - 1) + 1); have hg1' := hcl (t % (len - 1)) (by omega); have hg2' := hcl (t % (len - 1) + 1) (by omega); have hg3' := (Below.heap_setCell w2 ⟨g, t % (len - 1), none⟩ (.int .u8 ((y : Nat) : Int)) b (by show b ≠ g; omega)); clear hcl hfr; have hB2 : Below w.heap.size w w2 := hb1.trans (((xnew w1 (.cells #[] 5)).trans hbel1).mono hz1); have hd1 := (hB2.cell (p := ⟨b, off + (t % (len - 1)), none⟩) hblt).trans (hc (t % (len - 1)) (by omega)); have hd2 := (hB2.cell (p := ⟨b, off + (t % (len - 1) + 1), none⟩) hblt).trans (hc (t % (len - 1) + 1) (by omega)); rw [← HX.out] at hd1; rw [← HY.out] at hd2; rw [← HX.out] at hg1'; rw [← HY.out] at hg2'; have hd3 : (w2.setCell ⟨g, t % (len - 1), none⟩ (.int .u8 ((y : Nat) : Int))).cell? ⟨b, off + t % (len - 1), none⟩ = some (.int .u8 ((x : Nat) : Int)) := (World.cell?_of_block hg3').trans hd1; clear hg3')
        | fail)
      have hB3 : Below w.heap.size w ((w2.setCell ⟨g, t % (len - 1), none⟩ (.int .u8 ((y : Nat) : Int))).setCell ⟨g, t % (len - 1) + 1, none⟩ (.int .u8 ((x : Nat) : Int))) :=
        xset (xset hB2 (by show w.heap.size ≤ g; omega) _) (by show w.heap.size ≤ g; omega) _
      have hown1' : Own w2 w1.heap.size (.slice (some ⟨g, 0, none⟩) bs.length cg) bs := hown1
      have hown2 := Own.set (Own.set hown1' (t % (len - 1)) y hy256) (t % (len - 1) + 1) x hx256
      have hrc := hown2.rdb rfl (by simp; omega)
      rw [List.length_set, List.length_set, hbl] at hrc
      have hsw := more_swap bs (t % (len - 1)) (by omega) q4
      rw [← HX.out, ← HY.out] at hsw
      have HS := Lib.hid hsw
      have hr2 : RdB _ (some ⟨b, off, none⟩) len cap bs := ⟨by omega, hb.below hB3⟩
      have hlo := Lib.hid (more_lo 1 bs)
      clear hown1 hown1' hown2 hbel1 hg1 hd1 hd2 hd3 hg1' hg2' hf1 hf2 hr1 hsw
      refine (Sum_any _ _ _ _ _ hr2).mono ?_
      rintro e w3 ⟨rfl, hb3⟩
      have hB4 := xtrans hB3 hb3
      have hrc3 := hrc.below hb3
      go_wp2_with fail
      refine (Sum_any _ _ _ _ _ hrc3).mono ?_
      rintro e w4 ⟨rfl, hb4⟩
      have hB5 := xtrans hB4 hb4
      have hd1 := (hB5.cell (p := ⟨b, off + t % (len - 1), none⟩) hblt).trans (hc (t % (len - 1)) (by omega))
      have hd2 := (hB5.cell (p := ⟨b, off + (t % (len - 1) + 1), none⟩) hblt).trans (hc (t % (len - 1) + 1) (by omega))
      rw [← HX.out] at hd1
      rw [← HY.out] at hd2
      generalize (bs.set (t % (len - 1)) y).set (t % (len - 1) + 1) x = cs at *
      obtain ⟨s, hs⟩ : ∃ s, s = more 1 bs := ⟨_, rfl⟩
      obtain ⟨s', hs'⟩ : ∃ s', s' = more 1 cs := ⟨_, rfl⟩
      rw [← hs, ← hs'] at HS
      rw [← hs] at hlo
      rw [← hs, ← hs']
      clear hs hs' hc hrc hrc3 hr2 hb
      have hmod : (s : Int) % 65536 = (s' : Int) % 65536 := by have := HS.out.2; omega
      have HM := Lib.hid hmod
      have hmt : ((s : Int) % 65536 == (s' : Int) % 65536) = true := by rw [HM.out]; simp
      clear hmod
      by_cases hxy : x = y
      · subst hxy
        have hss := HS.out.1.2 rfl
        subst hss
        have k1 : ((s : Int) == (s : Int)) = true := by simp
        go_wp2_with fail
        go_quiet (fail)
        go_wp2_with fail
        go_ret
        exact ⟨rfl, below_drewN hB5 _⟩
      · have hss : ¬ s = s' := fun h => hxy (HS.out.1.1 h)
        have k1 : ((s : Int) == (s' : Int)) = false := by simp; omega
        have k2 : ((x : Int) == (y : Int)) = false := by simp; omega
        go_wp2_with fail
        go_quiet (fail)
        go_wp2_with fail
        go_ret
        exact ⟨rfl, below_drewN hB5 _⟩
    · go_enter Try.func9, Try.ntmps9
      go_wp2_with fail
      refine (awake_any _).mono ?_
      rintro e w1 ⟨rfl, hb1⟩
      go_wp2_with fail
      go_ret
      exact ⟨rfl, hb1⟩
end Go.Proofs.Ytjjmoefipkkihaa.Ad
