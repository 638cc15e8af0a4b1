/- The walk of the statement AdlerNoughts: bytes 0 behind a text. -/
import Derived.Test.YtjjmoefipkkihaaAdW2
import Derived.Test.YtjjmoefipkkihaaOwn
namespace Go.Proofs.Ytjjmoefipkkihaa.Ad
open Go.RowKit

theorem noughts_int (m : Nat) (n : Nat) (s : Nat) (h : s = m % 65536 + 65536 * ((m / 65536 + n * (m % 65536) % 65521) % 65521)) :
    ((s : Nat) : Int) = (m : Int) % 65536 + 65536 * (((m : Int) / 65536 + (n : Int) * ((m : Int) % 65536) % 65521) % 65521) := by subst h; rfl
theorem noughts_mul (m n : Nat) (hn : n ≤ 255) : 0 ≤ (n : Int) * ((m : Int) % 65536) ∧ (n : Int) * ((m : Int) % 65536) ≤ 16711425 := by
  have h1 : n * (m % 65536) ≤ 255 * 65535 := Nat.mul_le_mul hn (by omega)
  have h2 : (n : Int) * ((m : Int) % 65536) = ((n * (m % 65536) : Nat) : Int) := rfl
  rw [h2]
  generalize n * (m % 65536) = q at *
  omega

set_option maxHeartbeats 1000000 in
theorem noughts_walk (a : Option Addr) (len cap : Nat) (bs : List Nat) (n : Int) (w : World) (hb : Row8 w a len cap bs) (hn : 0 ≤ n ∧ n ≤ 255) :
    Calls Try.prog 8 #[.slice a len cap, .int .u8 n] w fun e w' => e = .returned (.bool true) ∧ Below w.heap.size w w' := by
  by_cases hl : len ≤ 300
  · have hbl := hb.1
    obtain ⟨n, rfl⟩ := Int.eq_ofNat_of_zero_le hn.1
    go_enter Try.func8, Try.ntmps8
    go_wp2_with fail
    refine (awake_any _).mono ?_
    rintro e w1 ⟨rfl, hb1⟩
    have hr1 : RdB w1 a len cap bs := ⟨by omega, hb.below hb1⟩
    go_wp2_with (first
      | (at_make; refine wp_make rfl (.tmp 16) (.tmp 16) rfl .i64 .i64 n rfl rfl (by omega) ?_; intro w2 hown hb2 _)
      | fail)
    have hz := hown.rdb (by simp) (by omega)
    have hB2 := xtrans hb1 hb2
    refine (Sum_any _ _ _ _ _ (hr1.below hb2)).mono ?_
    rintro e w3 ⟨rfl, hb3⟩
    have hB3 := xtrans hB2 hb3
    have hz3 := hz.below hb3
    have hr3 : RdB w3 a len cap bs := ⟨by omega, hb.below hB3⟩
    have m1 := more_lt 1 bs
    have l2 : ((more 1 bs : Nat) : Int) / 65536 < 65521 := by have := more_hi 1 bs; omega
    have E1 := Lib.hid (more_noughts bs n)
    have E2 := Lib.hid (more_only_noughts n (by omega))
    obtain ⟨s, hs⟩ : ∃ s, s = more 1 bs := ⟨_, rfl⟩
    obtain ⟨p0, p1⟩ := noughts_mul s n (by omega)
    rw [← hs] at m1 l2 E1 ⊢
    clear hs
    go_wp2_with (first
      | (at_builtin; refine wp_append rfl (.tmp 33) (.tmp 34) rfl w3.heap.size _ [] rfl (Own.lit w3 #[] 0 [] rfl rfl (by decide) (by simp)) _ _ _ bs rfl (hr3.below (xnew _ _)) (by simp; omega) (by simp) ?_; intro v1 w4 hown1 hbel1 hg1)
      | (at_builtin; refine wp_append rfl (.tmp 35) (.tmp 36) rfl w3.heap.size _ _ rfl hown1 _ _ _ (List.replicate n 0) rfl (hz3.below ((xnew _ _).trans hbel1)) (by simp; omega) (by have := hbel1.size; simp at this; omega) ?_; intro v2 w5 hown2 hbel2 hg2; obtain ⟨a3, cap3, hv3, hr5, _⟩ := hown2.rd (by simp; omega); subst hv3)
      | fail)
    have hB5 : Below w3.heap.size w3 w5 := (xnew w3 (.cells #[] 5)).trans (hbel1.trans hbel2)
    have hz5 := hz3.below hB5
    rw [List.nil_append] at hr5
    have hr5' : RdB w5 a3 (len + n) cap3 (bs ++ List.replicate n 0) := by simpa [hbl] using hr5
    clear hown1 hbel1 hg1 hown2 hbel2 hg2 hr5
    refine (Sum_any _ _ _ _ _ hr5').mono ?_
    rintro e w6 ⟨rfl, hb6⟩
    have hz6 := hz5.below hb6
    have E3 := Lib.hid (noughts_int _ _ _ E1.out)
    rw [E3.out]
    go_wp2_with fail
    refine (Sum_any _ _ _ _ _ hz6).mono ?_
    rintro e w7 ⟨rfl, hb7⟩
    rw [E2.out]
    go_wp2_with fail
    go_ret
    exact ⟨rfl, xtrans (xtrans (xtrans hB3 hB5) hb6) hb7⟩
  · go_enter Try.func8, Try.ntmps8
    go_wp2_with fail
    refine (awake_any _).mono ?_
    rintro e w1 ⟨rfl, hb1⟩
    go_wp2_with fail
    go_ret
    exact ⟨rfl, hb1⟩
end Go.Proofs.Ytjjmoefipkkihaa.Ad
