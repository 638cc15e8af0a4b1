/- Walks of the check sums' functions. -/
import Derived.Test.YtpcppnoomogloaaFnd
import Derived.Test.YtpcppnoomogloaaPla
set_option maxRecDepth 4000
namespace Go.Proofs.Ytpcppnoomogloaa.Ad
set_option linter.unusedSimpArgs false
set_option linter.unusedVariables false
open Go.RowKit

theorem and_mask (n : Int) (h0 : 0 ≤ n) (h1 : n < 4294967296) : bits .and .u32 n 65535 = n % 65536 := by
  rw [bits_and .u32 rfl n 65535 h0 h1 (by decide) (by decide)]
  have : (65535 : Int).toNat = 2 ^ 16 - 1 := rfl
  rw [this, Nat.and_two_pow_sub_one_eq_mod]
  omega
theorem or_join (a b : Int) (h0 : 0 ≤ a) (h1 : a < 65536) (h2 : 0 ≤ b) (h3 : b < 65536) : bits .or .u32 (a * 65536) b = a * 65536 + b := by
  have e : (2 : Int) ^ IntKind.u32.bits = 4294967296 := rfl
  rw [bits_or .u32 rfl (a * 65536) b (by omega) (by omega) h2 (by omega)]
  have e1 : (a * 65536).toNat = a.toNat * 2 ^ 16 := by omega
  rw [e1, or_add _ _ _ (by omega)]
  omega

set_option maxHeartbeats 400000 in
theorem half_any (n : Int) (w : World) (h0 : 0 ≤ n) (hn : n < 4294967296) :
    Calls Try.prog 59 #[.int .u32 n] w fun e w' => e = .returned (.int .u64 (n % 65521)) ∧ w = w' := by
  go_enter Try.func59, Try.ntmps59
  go_wp2
  go_ret
  exact ⟨rfl, rfl⟩

set_option maxHeartbeats 400000 in
theorem halves_any (n : Int) (w : World) (h0 : 0 ≤ n) (hn : n < 4294967296) :
    Calls Try.prog 46 #[.int .u32 n] w fun e w' =>
      e = .returned (.agg #[.int .u64 (n % 65536 % 65521), .int .u64 (n / 65536 % 65521)]) ∧ Below w.heap.size w w' := by
  have hm := and_mask n h0 hn
  go_enter Try.func46, Try.ntmps46
  go_wp2_with (go_at_call 59; refine (half_any _ _ (by omega) (by omega)).mono ?_; rintro e w' ⟨rfl, rfl⟩)
  exact bodyPost_ret (v := .agg #[.int .u64 (n % 65536 % 65521), .int .u64 (n / 65536 % 65521)]) (by simp [results, Try.results46, go_sem]) rfl ⟨rfl, (Below.refl _ _).alloc (Nat.le_refl _) _⟩

set_option maxHeartbeats 400000 in
theorem sum_any (a b : Int) (w : World) (ha0 : 0 ≤ a) (ha : a < 18446744073709551616) (hb0 : 0 ≤ b) (hb : b < 18446744073709551616) :
    Calls Try.prog 47 #[.agg #[.int .u64 a, .int .u64 b]] w fun e w' =>
      e = .returned (.int .u32 (b % 65521 * 65536 + a % 65521)) ∧ Below w.heap.size w w' := by
  have hm := or_join (b % 65521) (a % 65521) (by omega) (by omega) (by omega) (by omega)
  go_enter Try.func47, Try.ntmps47
  go_wp2_with fail
  go_ret
  exact ⟨rfl, (Below.refl _ _).alloc (Nat.le_refl _) _⟩

theorem bcell {W w1 : World} (hb : Below W.heap.size W w1) : (∀ b o, b < W.heap.size → w1.cell? ⟨b, o, none⟩ = W.cell? ⟨b, o, none⟩) ∧ (∀ b o, b < W.heap.size → w1.frozen? ⟨b, o, none⟩ = W.frozen? ⟨b, o, none⟩) :=
  ⟨fun b o h => hb.cell (p := ⟨b, o, none⟩) h, fun b o h => hb.frozen (p := ⟨b, o, none⟩) h⟩

set_option maxRecDepth 100000 in
set_option maxHeartbeats 400000 in
theorem More_any (s : Int) (a : Option Addr) (len cap : Nat) (bs : List Nat) (w : World) (h0 : 0 ≤ s) (hs : s < 4294967296) (hb : RdB w a len cap bs) :
    Calls Try.prog 32 #[.int .u32 s, .slice a len cap] w fun e w' => e = .returned (.int .u32 ((more s.toNat bs : Nat) : Int)) ∧ Below w.heap.size w w' := by
  obtain ⟨hlen, h1, h2, h3, h4, h5, h6⟩ := hb
  obtain ⟨s, rfl⟩ := Int.eq_ofNat_of_zero_le h0
  rw [Int.toNat_natCast]
  have hI := Lib.hid (Inv.start s bs)
  go_enter Try.func32, Try.ntmps32
  go_wp2_with fail
  refine (halves_any _ _ h0 hs).mono ?_
  rintro e w1 ⟨rfl, hb1⟩
  have hsz := hb1.size
  go_wp2_with fail
  go_loopw [12] (fun i wr => ∃ k lo hi : Nat, k ≤ len ∧ i = .int .i64 k ∧ wr = w1.alloc (.cells #[.int .u64 lo, .int .u64 hi] 70) ∧ Hid (Inv s bs k lo hi)) (fun i _ => len - (intOf i).toNat)
  case atStart => exact ⟨0, _, _, Nat.zero_le _, rfl, rfl, hI⟩
  case round =>
    obtain ⟨k, lo, hi, hk, rfl, rfl, hinv⟩ := hrel
    have hlo : lo < 65521 := by have := hinv.out.1; omega
    have hhi := hinv.out.2.2
    by_cases hlt : k < len
    · rcases h6 with h6 | ⟨b, off, rfl, hbl, hc⟩
      · omega
      have hcell := ((hb1.alloc hsz (.cells #[.int .u64 lo, .int .u64 hi] 70)).cell (p := ⟨b, off + k, none⟩) hbl).trans (hc k hlt)
      obtain ⟨x, hx⟩ : ∃ x, x = bs.getD k 0 := ⟨_, rfl⟩
      have hx256 : x < 256 := hx ▸ getD_u8 h4 k
      have hnext := Lib.hid (hinv.out.step (by omega))
      rw [← hx] at hcell hnext
      clear hx hc h4 hinv h5 h1
      go_wp2_with fail
      exact ⟨⟨k + 1, _, _, by omega, by go_num, rfl, hnext⟩, by simp [intOf]; omega⟩
    · obtain rfl : k = len := by omega
      subst h1
      have hfin := Lib.hid hinv.out.done
      go_wp2_with fail
      refine (sum_any _ _ _ (by omega) (by omega) (by omega) (by omega)).mono ?_
      rintro e w2 ⟨rfl, hb2⟩
      go_wp2_with fail
      go_ret
      refine ⟨?_, (hb1.alloc hsz _).trans (hb2.mono (by simp; omega))⟩
      rw [← hfin.out]; rfl
end Go.Proofs.Ytpcppnoomogloaa.Ad
