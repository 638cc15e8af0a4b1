/- The walk of the statement AdlerTurns: a text of which a byte is another one has another sum. -/
import Derived.Test.YtjjmoefipkkihaaAdW2
import Derived.Test.YtjjmoefipkkihaaOwn
namespace Go.Proofs.Ytjjmoefipkkihaa.Ad
open Go.RowKit

set_option maxHeartbeats 1000000 in
theorem turns_walk (a : Option Addr) (len cap : Nat) (bs : List Nat) (t y : Int) (w : World) (hb : Row8 w a len cap bs) (ht : 0 ≤ t ∧ t ≤ 65535) (hy : 0 ≤ y ∧ y ≤ 255) :
    Calls Try.prog 5 #[.slice a len cap, .int .u16 t, .int .u8 y] w fun e w' => e = .returned (.bool true) ∧ Below w.heap.size w w' := by
  by_cases h0 : len = 0
  · subst h0
    go_enter Try.func5, Try.ntmps5
    go_wp2_with fail
    refine (awake_any _).mono ?_
    rintro e w1 ⟨rfl, hb1⟩
    go_wp2_with fail
    go_ret
    exact ⟨rfl, hb1⟩
  · by_cases hl : len ≤ 300
    · have hbl := hb.1
      have hne : ((len : Int) == 0) = false := by simp; omega
      have hpos : (1 : Int) ≤ (len : Int) := by omega
      obtain ⟨t, rfl⟩ := Int.eq_ofNat_of_zero_le ht.1
      obtain ⟨y, rfl⟩ := Int.eq_ofNat_of_zero_le hy.1
      have hidx : ((t : Int) % (len : Int)).toNat = t % len := by omega
      have hk : t % len < len := Nat.mod_lt _ (by omega)
      have hk0 : 0 ≤ (t : Int) % (len : Int) := by omega
      have hk1 : (t : Int) % (len : Int) < (len : Int) := by omega
      obtain ⟨x, hx⟩ : ∃ x, x = bs.getD (t % len) 0 := ⟨_, rfl⟩
      have hx256 : x < 256 := hx ▸ getD_u8 hb.2.2.2.1 _
      have hxor : bits .xor .u8 (x : Int) (y : Int) = ((x ^^^ y : Nat) : Int) := bits_xor .u8 rfl _ _ (by omega) (by show (x : Int) < 256; omega) (by omega) (by show (y : Int) < 256; omega)
      have hxy : x ^^^ y < 256 := Nat.xor_lt_two_pow (n := 8) hx256 (by omega)
      have HX := Lib.hid hx
      clear hx
      have hpos' : t % len < bs.length := by omega
      go_enter Try.func5, Try.ntmps5
      go_wp2_with fail
      refine (awake_any _).mono ?_
      rintro e w1 ⟨rfl, hb1⟩
      have hr1 : RdB w1 a len cap bs := ⟨by omega, hb.below hb1⟩
      go_wp2_with (first
        | (at_builtin; refine wp_append rfl (.tmp 21) (.tmp 22) rfl w1.heap.size _ [] rfl (Own.lit w1 #[] 0 [] rfl rfl (by decide) (by simp)) _ _ _ bs rfl (hr1.below (xnew _ _)) (by simp; omega) (by simp) ?_; intro v1 w2 hown1 hbel1 hg1; rw [List.nil_append] at hown1; rcases hown1.shape with ⟨_, hbad⟩ | ⟨g, cg, hv, hgb, hgl, _, _, hcl, hfr⟩; (exfalso; subst hbad; simp at hbl; omega); subst hv; have hcell := hcl (t % len) (by omega); have hfrz := hfr (t % len); rw [← HX.out] at hcell; clear hcl hfr)
        | fail)
      have hz1 := hb1.size
      have hB2 : Below w.heap.size w (w2.setCell ⟨g, t % len, none⟩ (.int .u8 ((x ^^^ y : Nat) : Int))) :=
        xset (hb1.trans (((xnew w1 (.cells #[] 5)).trans hbel1).mono hz1)) (by show w.heap.size ≤ g; omega) _
      have hr2 : RdB _ a len cap bs := ⟨by omega, hb.below hB2⟩
      have hown1' : Own w2 w1.heap.size (.slice (some ⟨g, 0, none⟩) bs.length cg) bs := hown1
      have hown2 := Own.set hown1' (t % len) (x ^^^ y) hxy
      obtain ⟨a3, cap3, hv3, hr3, _⟩ := hown2.rd (by simp; omega)
      simp only [Value.slice.injEq] at hv3
      obtain ⟨rfl, _, rfl⟩ := hv3
      rw [List.length_set, hbl] at hr3
      have hmore := Lib.hid (more_set bs (t % len) (x ^^^ y) (by omega) hb.2.2.2.1 hxy)
      have hlo := Lib.hid (more_lo 1 bs)
      have hhi := Lib.hid (more_hi 1 bs)
      clear hown1 hown1' hown2 hbel1 hg1 hcell hfrz hr1
      refine (Sum_any _ _ _ _ _ hr2).mono ?_
      rintro e w3 ⟨rfl, hb3⟩
      have hr4 := hr3.below hb3
      have l1 : ((more 1 bs : Nat) : Int) % 65536 < 65521 := by have := hlo.out; omega
      have l2 : ((more 1 bs : Nat) : Int) / 65536 < 65521 := by have := hhi.out; omega
      by_cases hy0 : y = 0
      · subst hy0
        have hsame := hmore.out.2 (by rw [Nat.xor_zero]; exact HX.out)
        go_wp2_with fail
        refine (Sum_any _ _ _ _ _ hr4).mono ?_
        rintro e w4 ⟨rfl, hb4⟩
        rw [hsame]
        go_wp2_with fail
        go_ret
        exact ⟨rfl, xtrans (xtrans hB2 hb3) hb4⟩
      · have hy1 : ((y : Int) == 0) = false := by simp; omega
        have hne2 : more 1 (bs.set (t % len) (x ^^^ y)) ≠ more 1 bs := fun h => hy0 (by
          have h1 := hmore.out.1 h
          rw [← HX.out] at h1
          have h2 := congrArg (x ^^^ ·) h1
          simpa [← Nat.xor_assoc] using h2)
        have hne3 : (((more 1 (bs.set (t % len) (x ^^^ y)) : Nat) : Int) == ((more 1 bs : Nat) : Int)) = false := by simpa using fun h => hne2 (by exact_mod_cast h)
        go_wp2_with fail
        refine (Sum_any _ _ _ _ _ hr4).mono ?_
        rintro e w4 ⟨rfl, hb4⟩
        go_wp2_with fail
        go_ret
        exact ⟨rfl, xtrans (xtrans hB2 hb3) hb4⟩
    · have hne : ((len : Int) == 0) = false := by simp; omega
      go_enter Try.func5, Try.ntmps5
      go_wp2_with fail
      refine (awake_any _).mono ?_
      rintro e w1 ⟨rfl, hb1⟩
      go_wp2_with fail
      go_ret
      exact ⟨rfl, hb1⟩
end Go.Proofs.Ytjjmoefipkkihaa.Ad
