/- Walks: adler.Sum, and the document's More. -/
import Derived.Test.YtpcppnoomogloaaAdW1
set_option maxRecDepth 4000
namespace Go.Proofs.Ytpcppnoomogloaa.Ad
set_option linter.unusedSimpArgs false
set_option linter.unusedVariables false
open Go.RowKit

set_option maxHeartbeats 400000 in
theorem Sum_any (a : Option Addr) (len cap : Nat) (bs : List Nat) (w : World) (hb : RdB w a len cap bs) :
    Calls Try.prog 13 #[.slice a len cap] w fun e w' => e = .returned (.int .u32 ((more 1 bs : Nat) : Int)) ∧ Below w.heap.size w w' := by
  go_enter Try.func13, Try.ntmps13
  go_wp2_with fail
  refine (More_any _ _ _ _ _ _ (by decide) (by decide) hb).mono ?_
  rintro e w1 ⟨rfl, hb1⟩
  go_wp2_with fail
  go_ret
  exact ⟨rfl, hb1⟩

theorem ret_int {k : IntKind} {a b : Int} (h : a = b) : Ending.returned (.int k a) = .returned (.int k b) := by rw [h]
set_option maxHeartbeats 400000 in
theorem RefMore_any (s : Int) (a : Option Addr) (len cap : Nat) (bs : List Nat) (w : World) (h0 : 0 ≤ s) (hs : s < 4294967296) (hb : RdB w a len cap bs) :
    Calls Try.prog 54 #[.int .u32 s, .slice a len cap] w fun e w' => e = .returned (.int .u32 ((more s.toNat bs : Nat) : Int)) ∧ w = w' := by
  obtain ⟨hlen, h1, h2, h3, h4, h5, h6⟩ := hb
  obtain ⟨s, rfl⟩ := Int.eq_ofNat_of_zero_le h0
  rw [Int.toNat_natCast]
  have hI := Lib.hid (Inv.start s bs)
  go_enter Try.func54, Try.ntmps54
  go_wp2_with fail
  go_loop [5, 6, 7] (fun l h i => ∃ k lo hi : Nat, k ≤ len ∧ i = .int .i64 k ∧ l = .int .u32 lo ∧ h = .int .u32 ((hi % 65521 : Nat) : Int) ∧ Hid (Inv s bs k lo hi)) (fun _ _ i => len - (intOf i).toNat)
  case atStart => exact ⟨0, _, s / 65536 % 65521, Nat.zero_le _, rfl, rfl, by simp, hI⟩
  case round =>
    obtain ⟨k, lo, hi, hk, rfl, rfl, rfl, hinv⟩ := hrel
    have hlo : lo < 65521 := by have := hinv.out.1; omega
    by_cases hlt : k < len
    · rcases h6 with h6 | ⟨b, off, rfl, hbl, hc⟩
      · omega
      have hcell := hc k hlt
      obtain ⟨x, hx⟩ : ∃ x, x = bs.getD k 0 := ⟨_, rfl⟩
      have hx256 : x < 256 := hx ▸ getD_u8 h4 k
      have hnext := Lib.hid (hinv.out.step (by omega))
      rw [← hx] at hcell hnext
      clear hx hc h4 hinv h5 h1
      go_wp2_with fail
      exact ⟨⟨k + 1, _, _, by omega, by go_num, rfl, by congr 1; omega, hnext⟩, by simp [intOf]; omega⟩
    · obtain rfl : k = len := by omega
      subst h1
      have hfin := Lib.hid hinv.out.done
      go_wp2_with fail
      go_ret
      refine ⟨ret_int ?_, rfl⟩
      rw [← hfin.out]; omega

end Go.Proofs.Ytpcppnoomogloaa.Ad
