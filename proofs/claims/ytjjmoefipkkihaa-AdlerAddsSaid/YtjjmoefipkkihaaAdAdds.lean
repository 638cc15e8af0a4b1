/- The walk of the statement AdlerAdds: a sum of a short text is told by its bytes. -/
import Derived.Test.YtjjmoefipkkihaaAdW2
namespace Go.Proofs.Ytjjmoefipkkihaa.Ad
open Go.RowKit

def Inv2 (bs : List Nat) (k lo hi : Nat) : Prop :=
  lo = 1 + S (bs.take k) ∧ hi = bs.length + W (bs.take k) + (bs.length - k) * S (bs.take k) ∧ lo ≤ 1 + 255 * k ∧ hi ≤ 16 + 4080 * k
theorem Inv2.start (bs : List Nat) (h : bs.length ≤ 16) : Inv2 bs 0 1 bs.length := ⟨by simp [S], by simp [S, W], by omega, by omega⟩
theorem mul_16 (p x : Nat) (hp : p ≤ 16) (hx : x < 256) : p * x ≤ 4080 := by
  have := Nat.mul_le_mul hp (show x ≤ 255 by omega)
  omega
theorem Inv2.step {bs : List Nat} {k lo hi : Nat} (h : Inv2 bs k lo hi) (hk : k < bs.length) (hl : bs.length ≤ 16) (hb : ∀ x ∈ bs, x < 256) :
    Inv2 bs (k + 1) (lo + bs.getD k 0) (hi + (bs.length - k) * bs.getD k 0) := by
  obtain ⟨h1, h2, h3, h4⟩ := h
  have hx := getD_lt bs hb k
  have hm := mul_16 (bs.length - k) (bs.getD k 0) (by omega) hx
  refine ⟨?_, ?_, by omega, by omega⟩
  · rw [S_take_succ _ _ hk, h1]; omega
  · rw [W_take_succ _ _ hk, S_take_succ _ _ hk, h2]
    obtain ⟨m, hm⟩ : ∃ m, bs.length - k = m + 1 := ⟨bs.length - k - 1, by omega⟩
    have hm' : bs.length - (k + 1) = m := by omega
    rw [hm, hm', Nat.mul_add, Nat.add_mul, Nat.add_mul]
    omega
theorem Inv2.done {bs : List Nat} {lo hi : Nat} (h : Inv2 bs bs.length lo hi) (hl : bs.length ≤ 16) (hb : ∀ x ∈ bs, x < 256) : more 1 bs = hi * 65536 + lo := by
  obtain ⟨h1, h2, h3, h4⟩ := h
  rw [List.take_of_length_le (Nat.le_refl _)] at h1 h2
  rw [more_short bs hl hb, h1, h2, Nat.sub_self, Nat.zero_mul]; rfl

set_option maxHeartbeats 1000000 in
theorem adds_walk (a : Option Addr) (len cap : Nat) (bs : List Nat) (w : World) (hb : Row8 w a len cap bs) :
    Calls Try.prog 7 #[.slice a len cap] w fun e w' => e = .returned (.bool true) ∧ Below w.heap.size w w' := by
  by_cases hl : len ≤ 16
  · go_enter Try.func7, Try.ntmps7
    go_wp2_with fail
    refine (awake_any _).mono ?_
    rintro e w1 ⟨rfl, hb1⟩
    have hr1 : RdB w1 a len cap bs := ⟨by omega, hb.below hb1⟩
    have hr2 := hr1
    obtain ⟨_, h1, h2, h3, h4, h5, h6⟩ := hr1
    subst h1
    have hI := Lib.hid (Inv2.start bs hl)
    go_wp2_with fail
    go_loop [4, 5, 6] (fun l h i => ∃ k lo hi : Nat, k ≤ bs.length ∧ i = .int .i64 k ∧ l = .int .u32 lo ∧ h = .int .u32 hi ∧ Hid (Inv2 bs k lo hi)) (fun _ _ i => bs.length - (intOf i).toNat)
    case atStart => exact ⟨0, 1, _, Nat.zero_le _, rfl, rfl, rfl, hI⟩
    case round =>
      obtain ⟨k, lo, hi, hk, rfl, rfl, rfl, hinv⟩ := hrel
      have hlo := hinv.out.2.2.1
      have hhi := hinv.out.2.2.2
      by_cases hlt : k < bs.length
      · rcases h6 with h6 | ⟨b, off, rfl, hbl, hc⟩
        · omega
        have hcell := hc k hlt
        obtain ⟨x, hx⟩ : ∃ x, x = bs.getD k 0 := ⟨_, rfl⟩
        have hx256 : x < 256 := hx ▸ getD_u8 h4 k
        have hnext := Lib.hid (hinv.out.step hlt hl h4)
        have hm := mul_16 (bs.length - k) x (by omega) hx256
        have hpp : ((bs.length : Int) - (k : Int)) * (x : Int) = (((bs.length - k) * x : Nat) : Int) := by
          rw [show (bs.length : Int) - (k : Int) = ((bs.length - k : Nat) : Int) from by omega]; rfl
        have hp1 : ((bs.length : Int) - (k : Int)) * (x : Int) ≤ 4080 := by omega
        have hp0 : 0 ≤ ((bs.length : Int) - (k : Int)) * (x : Int) := by omega
        have HP := Lib.hid hpp
        rw [← hx] at hcell hnext
        clear hx hc h4 hinv h5 hpp hm
        go_wp2_with fail
        exact ⟨⟨k + 1, _, _, by omega, by go_num, rfl, by rw [HP.out]; rfl, hnext⟩, by simp [intOf]; omega⟩
      · obtain rfl : k = bs.length := by omega
        have hfin := Lib.hid (hinv.out.done hl h4)
        go_wp2_with fail
        refine (Sum_any _ _ _ _ _ hr2).mono ?_
        rintro e w2 ⟨rfl, hb2⟩
        rw [hfin.out]
        go_wp2_with fail
        go_ret
        exact ⟨rfl, xtrans hb1 hb2⟩
  · go_enter Try.func7, Try.ntmps7
    go_wp2_with fail
    refine (awake_any _).mono ?_
    rintro e w1 ⟨rfl, hb1⟩
    go_wp2_with fail
    go_ret
    exact ⟨rfl, hb1⟩
end Go.Proofs.Ytjjmoefipkkihaa.Ad
