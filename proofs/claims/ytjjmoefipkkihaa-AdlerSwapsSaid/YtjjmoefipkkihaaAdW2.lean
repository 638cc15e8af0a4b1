/- Walks: Sum, Join, and the document's More and Join. -/
import Derived.Test.YtjjmoefipkkihaaAdW1
import Derived.Lib.SlBytesConst
namespace Go.Proofs.Ytjjmoefipkkihaa.Ad
open Go.RowKit

set_option maxHeartbeats 400000 in
theorem Sum_any (a : Option Addr) (len cap : Nat) (bs : List Nat) (w : World) (hb : RdB w a len cap bs) :
    Calls Try.prog 13 #[.slice a len cap] w fun e w' => e = .returned (.int .u32 ((more 1 bs : Nat) : Int)) ∧ Below w.heap.size w w' := by
  go_enter Try.func13, Try.ntmps13
  go_wp2_with fail
  refine (More_any _ _ _ _ _ _ (by decide) (by decide) hb).mono ?_
  rintro e w1 ⟨rfl, hb1⟩
  go_wp2_with fail
  go_ret
  exact ⟨rfl, hb1⟩

theorem mod_sum3 (x y p q : Nat) (h : p % 65521 = q % 65521) : (x % 65521 + y % 65521 + p) % 65521 = (x + y + q) % 65521 := by omega
theorem join_prog (a b n : Nat) :
    (a / 65536 % 65521 + b / 65536 % 65521 + n % 65521 * ((a % 65536 % 65521 + 65520) % 65521)) % 65521 * 65536 + (a % 65536 % 65521 + 65520 + b % 65536 % 65521) % 65521 = join a b n := by
  have e1 : n % 65521 * ((a % 65536 % 65521 + 65520) % 65521) % 65521 = n * (a % 65536 + 65520) % 65521 := by
    have : (a % 65536 % 65521 + 65520) % 65521 = (a % 65536 + 65520) % 65521 := by omega
    rw [this, ← Nat.mul_mod]
  have e2 : (a % 65536 % 65521 + 65520 + b % 65536 % 65521) % 65521 = (a % 65536 + 65520 + b % 65536) % 65521 := by omega
  unfold join
  rw [mod_sum3 _ _ _ _ e1, e2]
theorem fin1 (a b n : Nat) : (((a / 65536 % 65521 + b / 65536 % 65521 + n % 65521 * ((a % 65536 % 65521 + 65520) % 65521)) % 65521 * 65536 + (a % 65536 % 65521 + 65520 + b % 65536 % 65521) % 65521 : Nat) : Int) =
  ((a:Int)/65536 % 65521 + (b:Int)/65536 % 65521 + (n:Int) % 65521 * (((a:Int) % 65536 % 65521 + 65520) % 65521)) % 65521 * 65536 + ((a:Int) % 65536 % 65521 + 65520 + (b:Int) % 65536 % 65521) % 65521 := by rfl
theorem fin2 (a b n : Nat) : ((join a b n : Nat) : Int) =
  ((a:Int)/65536 % 65521 + (b:Int)/65536 % 65521 + (n:Int) % 65521 * (((a:Int) % 65536 % 65521 + 65521 - 1) % 65521)) % 65521 * 65536 + ((a:Int) % 65536 % 65521 + 65521 - 1 + (b:Int) % 65536) % 65521 := by
  rw [← join_prog, fin1]
  have e : ((a : Int) % 65536 % 65521 + 65521 - 1) = (a : Int) % 65536 % 65521 + 65520 := by omega
  rw [e]
  generalize (a:Int) % 65536 % 65521 + 65520 = q
  have e2 : (q + (b : Int) % 65536 % 65521) % 65521 = (q + (b : Int) % 65536) % 65521 := by omega
  rw [e2]
theorem ref_e3 (a b : Int) : (a % 65536 % 65521 + b % 65536 % 65521 + 65520) % 65521 = (a % 65536 % 65521 + 65521 - 1 + b % 65536) % 65521 := by omega
theorem ref_e4 (a : Int) : (a % 65536 + 65520) % 65521 = (a % 65536 % 65521 + 65521 - 1) % 65521 := by omega
theorem ret_int {k : IntKind} {a b : Int} (h : a = b) : Ending.returned (.int k a) = .returned (.int k b) := by rw [h]
theorem mul_small (p q : Int) (hp0 : 0 ≤ p) (hp : p < 65521) (hq0 : 0 ≤ q) (hq : q < 65521) : 0 ≤ p * q ∧ p * q ≤ 4292870400 := by
  refine ⟨Int.mul_nonneg hp0 hq0, ?_⟩
  have := Int.mul_le_mul (a := p) (b := q) (c := 65520) (d := 65520) (by omega) (by omega) hq0 (by decide)
  omega

set_option maxHeartbeats 1000000 in
theorem Join_pos (a b n : Nat) (w : World) (ha : (a : Int) < 4294967296) (hb : (b : Int) < 4294967296) (hn : (n : Int) < 9223372036854775808) :
    Calls Try.prog 14 #[.int .u32 a, .int .u32 b, .int .i64 n] w fun e w' => e = .returned (.int .u32 ((join a b n : Nat) : Int)) ∧ Below w.heap.size w w' := by
  have hfin := Lib.hid (join_prog a b n)
  obtain ⟨hm0, hm⟩ := mul_small ((n : Int) % 65521) (((a : Int) % 65536 % 65521 + 65521 - 1) % 65521) (by omega) (by omega) (by omega) (by omega)
  go_enter Try.func14, Try.ntmps14
  go_wp2_with fail
  refine (halves_any _ _ (by omega) ha).mono ?_
  rintro e w1 ⟨rfl, hb1⟩
  go_wp2_with fail
  refine (halves_any _ _ (by omega) hb).mono ?_
  rintro e w2 ⟨rfl, hb2⟩
  have hz1 := hb1.size
  have hz2 := hb2.size
  go_wp2_with fail
  refine (sum_any _ _ _ (by omega) (by omega) (by omega) (by omega)).mono ?_
  rintro e w3 ⟨rfl, hb3⟩
  go_wp2_with fail
  go_ret
  have hB := (((hb1.trans (hb2.mono hz1)).alloc (Nat.le_trans hz1 hz2) (.cells #[.int .u64 (a % 65536 % 65521), .int .u64 (a / 65536 % 65521)] 37)).alloc (by simp; omega) (.cells #[.int .u64 (b % 65536 % 65521), .int .u64 (b / 65536 % 65521)] 37)).trans (hb3.mono (by simp; omega))
  refine ⟨ret_int ?_, hB⟩
  rw [fin2]
theorem Join_neg (a b : Nat) (n : Int) (w : World) (ha : (a : Int) < 4294967296) (hb : (b : Int) < 4294967296) (hn : n < 0) :
    Calls Try.prog 14 #[.int .u32 a, .int .u32 b, .int .i64 n] w fun e w' => e = .returned (.int .u32 ((join a b 0 : Nat) : Int)) ∧ Below w.heap.size w w' := by
  have hfin := Lib.hid (join_prog a b 0)
  go_enter Try.func14, Try.ntmps14
  go_wp2_with fail
  refine (halves_any _ _ (by omega) ha).mono ?_
  rintro e w1 ⟨rfl, hb1⟩
  go_wp2_with fail
  refine (halves_any _ _ (by omega) hb).mono ?_
  rintro e w2 ⟨rfl, hb2⟩
  have hz1 := hb1.size
  have hz2 := hb2.size
  go_wp2_with fail
  refine (sum_any _ _ _ (by omega) (by omega) (by omega) (by omega)).mono ?_
  rintro e w3 ⟨rfl, hb3⟩
  go_wp2_with fail
  go_ret
  have hB := (((hb1.trans (hb2.mono hz1)).alloc (Nat.le_trans hz1 hz2) (.cells #[.int .u64 (a % 65536 % 65521), .int .u64 (a / 65536 % 65521)] 37)).alloc (by simp; omega) (.cells #[.int .u64 (b % 65536 % 65521), .int .u64 (b / 65536 % 65521)] 37)).trans (hb3.mono (by simp; omega))
  refine ⟨ret_int ?_, hB⟩
  rw [fin2, show ((0 : Nat) : Int) % 65521 = 0 from rfl, Int.zero_mul, Int.add_zero, Int.add_emod ((a : Int) / 65536)]
theorem Join_any (a b n : Int) (w : World) (ha0 : 0 ≤ a) (ha : a < 4294967296) (hb0 : 0 ≤ b) (hb : b < 4294967296) (hn : n < 9223372036854775808) :
    Calls Try.prog 14 #[.int .u32 a, .int .u32 b, .int .i64 n] w fun e w' => e = .returned (.int .u32 ((join a.toNat b.toNat n.toNat : Nat) : Int)) ∧ Below w.heap.size w w' := by
  obtain ⟨a, rfl⟩ := Int.eq_ofNat_of_zero_le ha0
  obtain ⟨b, rfl⟩ := Int.eq_ofNat_of_zero_le hb0
  by_cases h : 0 ≤ n
  · obtain ⟨n, rfl⟩ := Int.eq_ofNat_of_zero_le h
    exact Join_pos a b n w ha hb hn
  · rw [Int.toNat_of_nonpos (show n ≤ 0 by omega)]
    exact Join_neg a b n w ha hb (Int.not_le.1 h)

set_option maxHeartbeats 400000 in
theorem RefMore_any (s : Int) (a : Option Addr) (len cap : Nat) (bs : List Nat) (w : World) (h0 : 0 ≤ s) (hs : s < 4294967296) (hb : RdB w a len cap bs) :
    Calls Try.prog 12 #[.int .u32 s, .slice a len cap] w fun e w' => e = .returned (.int .u32 ((more s.toNat bs : Nat) : Int)) ∧ w = w' := by
  obtain ⟨hlen, h1, h2, h3, h4, h5, h6⟩ := hb
  obtain ⟨s, rfl⟩ := Int.eq_ofNat_of_zero_le h0
  rw [Int.toNat_natCast]
  have hI := Lib.hid (Inv.start s bs)
  go_enter Try.func12, Try.ntmps12
  go_wp2_with fail
  go_loop [5, 6, 7] (fun l h i => ∃ k lo hi : Nat, k ≤ len ∧ i = .int .i64 k ∧ l = .int .u32 lo ∧ h = .int .u32 ((hi % 65521 : Nat) : Int) ∧ Hid (Inv s bs k lo hi)) (fun _ _ i => len - (intOf i).toNat)
  case atStart => exact ⟨0, _, s / 65536 % 65521, Nat.zero_le _, rfl, rfl, by simp, hI⟩
  case round =>
    obtain ⟨k, lo, hi, hk, rfl, rfl, rfl, hinv⟩ := hrel
    have hlo : lo < 65521 := by have := hinv.out.1; omega
    by_cases hlt : k < len
    · rcases h6 with h6 | ⟨b, off, rfl, hbl, hc⟩
      · omega
      have hcell := hc k hlt
      obtain ⟨x, hx⟩ : ∃ x, x = bs.getD k 0 := ⟨_, rfl⟩
      have hx256 : x < 256 := hx ▸ getD_u8 h4 k
      have hnext := Lib.hid (hinv.out.step (by omega))
      rw [← hx] at hcell hnext
      clear hx hc h4 hinv h5 h1
      go_wp2_with fail
      exact ⟨⟨k + 1, _, _, by omega, by go_num, rfl, by congr 1; omega, hnext⟩, by simp [intOf]; omega⟩
    · obtain rfl : k = len := by omega
      subst h1
      have hfin := Lib.hid hinv.out.done
      go_wp2_with fail
      go_ret
      refine ⟨ret_int ?_, rfl⟩
      rw [← hfin.out]; omega

set_option maxHeartbeats 400000 in
theorem RefJoin_any (a b n : Int) (w : World) (ha0 : 0 ≤ a) (ha : a < 4294967296) (hb0 : 0 ≤ b) (hb : b < 4294967296) (hn : n < 9223372036854775808) :
    Calls Try.prog 15 #[.int .u32 a, .int .u32 b, .int .i64 n] w fun e w' => e = .returned (.int .u32 ((join a.toNat b.toNat n.toNat : Nat) : Int)) ∧ w = w' := by
  obtain ⟨a, rfl⟩ := Int.eq_ofNat_of_zero_le ha0
  obtain ⟨b, rfl⟩ := Int.eq_ofNat_of_zero_le hb0
  rw [Int.toNat_natCast, Int.toNat_natCast]
  by_cases h : 0 ≤ n
  · obtain ⟨n, rfl⟩ := Int.eq_ofNat_of_zero_le h
    obtain ⟨hm0, hm⟩ := mul_small ((n : Int) % 65521) (((a : Int) % 65536 + 65520) % 65521) (by omega) (by omega) (by omega) (by omega)
    go_enter Try.func15, Try.ntmps15
    go_wp2
    go_ret
    refine ⟨ret_int ?_, rfl⟩
    rw [Int.toNat_natCast, fin2, ref_e3, ref_e4]
  · rw [Int.toNat_of_nonpos (show n ≤ 0 by omega)]
    go_enter Try.func15, Try.ntmps15
    go_wp2
    go_ret
    refine ⟨ret_int ?_, rfl⟩
    rw [fin2, show ((0 : Nat) : Int) % 65521 = 0 from rfl, Int.zero_mul, Int.add_zero]
    rw [ref_e3, Int.add_emod ((a : Int) / 65536)]

set_option maxHeartbeats 1000000 in
theorem awake_any (w : World) : Calls Try.prog 10 #[] w fun e w' => e = .returned (.bool true) ∧ Below w.heap.size w w' := by
  have kc := fun (w : World) (C : Array Value) (n c : Nat) => Lib.run_convert_bytes_const (P := Try.prog) w 23 5 C n c Try.underlying23 Try.underlying5
  go_enter Try.func10, Try.ntmps10
  go_wp2_with fail
  refine (Sum_any _ _ _ [87, 105, 107, 105, 112, 101, 100, 105, 97] _ (rd_new _ _ _ _ _ _ rfl rfl (by decide) (by decide))).mono ?_
  rintro e w1 ⟨rfl, hb1⟩
  rw [show ((more 1 [87, 105, 107, 105, 112, 101, 100, 105, 97] : Nat) : Int) = 300286872 from rfl]
  go_wp2_with fail
  refine (Sum_any _ _ _ [87, 105, 107, 105] _ (rd_new _ _ _ _ _ _ rfl rfl (by decide) (by decide))).mono ?_
  rintro e w2 ⟨rfl, hb2⟩
  rw [show ((more 1 [87, 105, 107, 105] : Nat) : Int) = 64618901 from rfl]
  go_wp2_with fail
  refine (Sum_any _ _ _ [112, 101, 100, 105, 97] _ (rd_new _ _ _ _ _ _ rfl rfl (by decide) (by decide))).mono ?_
  rintro e w3 ⟨rfl, hb3⟩
  rw [show ((more 1 [112, 101, 100, 105, 97] : Nat) : Int) = 103285252 from rfl]
  go_wp2_with fail
  refine (Sum_any _ _ _ [] _ (rd_nil _)).mono ?_
  rintro e w4 ⟨rfl, hb4⟩
  rw [show ((more 1 [] : Nat) : Int) = 1 from rfl]
  go_wp2_with fail
  refine (More_any 64618901 _ _ _ [112, 101, 100, 105, 97] _ (by decide) (by decide) (rd_new _ _ _ _ _ _ rfl rfl (by decide) (by decide))).mono ?_
  rintro e w5 ⟨rfl, hb5⟩
  rw [show ((more (64618901 : Int).toNat [112, 101, 100, 105, 97] : Nat) : Int) = 300286872 from rfl]
  go_wp2_with fail
  refine (Join_any 64618901 103285252 5 _ (by decide) (by decide) (by decide) (by decide) (by decide)).mono ?_
  rintro e w6 ⟨rfl, hb6⟩
  rw [show ((join (64618901 : Int).toNat (103285252 : Int).toNat (5 : Int).toNat : Nat) : Int) = 300286872 from rfl]
  go_wp2_with fail
  go_ret
  exact ⟨rfl, xtrans (xtrans (xalloc (xtrans (xtrans (xalloc (xtrans (xalloc (xtrans (xnew _ _) hb1) _) hb2) _) hb3) hb4) _) hb5) hb6⟩
end Go.Proofs.Ytjjmoefipkkihaa.Ad
