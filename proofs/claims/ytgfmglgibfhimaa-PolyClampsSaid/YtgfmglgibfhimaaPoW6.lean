/- Walks: words of eight bytes; sums with a carry; clamps. -/
import Derived.Test.YtgfmglgibfhimaaPoW5
import Derived.Laws.Externs
namespace Go.Proofs.Ytgfmglgibfhimaa.Po
set_option linter.unusedSimpArgs false
set_option linter.unusedVariables false
open Go.RowKit

theorem add64_run (x y c : Nat) (hc : c ≤ 1) (w : World) : (callFunc 17 #[.int .u64 (x : Int), .int .u64 (y : Int), .int .u64 (c : Int)]).run Try.prog w =
    .ok (.value (.tuple #[.int .u64 (((x : Int) + (y : Int) + (c : Int)) % 18446744073709551616), .int .u64 (((x : Int) + (y : Int) + (c : Int)) / 18446744073709551616)])) w := by
  rw [run_callFunc_extern (fn := Try.f17) (e := add64Entry) Try.func17 (by kernel_rfl) rfl (by kernel_rfl) (by rfl), run_add64 _ _ _ (by omega) (by omega) (by omega) (by omega)]
  rfl

set_option maxHeartbeats 1000000 in
theorem word_any (w : World) (b off len cap : Nat) (bs : List Nat) (hl8 : bs.length = 8) (hb : ∀ x ∈ bs, x < 256) (hlen : 8 ≤ len) (hcap : len ≤ cap) (hcm : cap ≤ 9223372036854775807) (hc : ∀ i, i < 8 → w.cell? ⟨b, off + i, none⟩ = some (.int .u8 ((bs.getD i 0 : Nat) : Int))) :
    Calls Try.prog 18 #[.slice (some ⟨b, off, none⟩) len cap] w fun e w' => e = .returned (.int .u64 ((le bs : Nat) : Int)) ∧ w = w' := by
  rw [← leN_all bs, hl8]
  have HC := Lib.hid hc
  clear hc
  have h8 : (8 : Int) ≤ (cap : Int) := by omega
  go_enter Try.func18, Try.ntmps18
  go_wp2_with fail
  go_loop [2, 8] (fun n r => ∃ i : Nat, i ≤ 8 ∧ r = .int .i64 i ∧ n = .int .u64 ((leN bs i : Nat) : Int)) (fun _ r => 8 - (intOf r).toNat)
  case atStart => exact ⟨0, by decide, rfl, by rw [leN_zero]; rfl⟩
  case round =>
    obtain ⟨i, hil, rfl, rfl⟩ := hrel
    by_cases hlt : i < 8
    · have hci := HC.out i hlt
      have hx := getD_u8 hb i
      obtain ⟨x, hx0⟩ : ∃ x, x = bs.getD i 0 := ⟨_, rfl⟩
      rw [← hx0] at hci hx
      rcases (show i = 0 ∨ i = 1 ∨ i = 2 ∨ i = 3 ∨ i = 4 ∨ i = 5 ∨ i = 6 ∨ i = 7 from by omega) with rfl | rfl | rfl | rfl | rfl | rfl | rfl | rfl
      · rw [Nat.add_zero] at hci
        have ho := leN_succ bs 0 (by omega)
        rw [← hx0] at ho
        have hn := leN_lt bs hb 0 (by omega)
        simp only [Nat.reducePow] at ho hn
        obtain ⟨n, hn0⟩ : ∃ n, n = leN bs 0 := ⟨_, rfl⟩
        obtain ⟨m, hm0⟩ : ∃ m, m = leN bs 1 := ⟨_, rfl⟩
        rw [← hn0] at ho hn
        rw [← hm0] at ho
        rw [← hn0]
        have a1 : bits .or .u64 (n : Int) ((x : Int)) = (m : Int) := by have := or64 n (x * 1) 0 (by simpa using hn) (by simp only [Nat.reducePow]; omega) (by omega); rw [show m = n + x * 1 from by omega, ← this]; simp
        have H := Lib.hid hm0
        clear ho hn0 hm0 hx0
        rw [show ((0 : Nat) : Int) = 0 from rfl]
        go_wp2_with fail
        exact ⟨⟨1, by omega, rfl, by rw [H.out]⟩, by simp [intOf]⟩
      · have ho := leN_succ bs 1 (by omega)
        rw [← hx0] at ho
        have hn := leN_lt bs hb 1 (by omega)
        simp only [Nat.reducePow] at ho hn
        obtain ⟨n, hn0⟩ : ∃ n, n = leN bs 1 := ⟨_, rfl⟩
        obtain ⟨m, hm0⟩ : ∃ m, m = leN bs 2 := ⟨_, rfl⟩
        rw [← hn0] at ho hn
        rw [← hm0] at ho
        rw [← hn0]
        have a1 : bits .or .u64 (n : Int) ((x : Int) * 256) = (m : Int) := by have := or64 n (x * 256) 8 (by simpa using hn) (by simp only [Nat.reducePow]; omega) (by omega); rw [show m = n + x * 256 from by omega, ← this]; simp
        have H := Lib.hid hm0
        clear ho hn0 hm0 hx0
        rw [show ((1 : Nat) : Int) = 1 from rfl]
        go_wp2_with fail
        exact ⟨⟨2, by omega, rfl, by rw [H.out]⟩, by simp [intOf]⟩
      · have ho := leN_succ bs 2 (by omega)
        rw [← hx0] at ho
        have hn := leN_lt bs hb 2 (by omega)
        simp only [Nat.reducePow] at ho hn
        obtain ⟨n, hn0⟩ : ∃ n, n = leN bs 2 := ⟨_, rfl⟩
        obtain ⟨m, hm0⟩ : ∃ m, m = leN bs 3 := ⟨_, rfl⟩
        rw [← hn0] at ho hn
        rw [← hm0] at ho
        rw [← hn0]
        have a1 : bits .or .u64 (n : Int) ((x : Int) * 65536) = (m : Int) := by have := or64 n (x * 65536) 16 (by simpa using hn) (by simp only [Nat.reducePow]; omega) (by omega); rw [show m = n + x * 65536 from by omega, ← this]; simp
        have H := Lib.hid hm0
        clear ho hn0 hm0 hx0
        rw [show ((2 : Nat) : Int) = 2 from rfl]
        go_wp2_with fail
        exact ⟨⟨3, by omega, rfl, by rw [H.out]⟩, by simp [intOf]⟩
      · have ho := leN_succ bs 3 (by omega)
        rw [← hx0] at ho
        have hn := leN_lt bs hb 3 (by omega)
        simp only [Nat.reducePow] at ho hn
        obtain ⟨n, hn0⟩ : ∃ n, n = leN bs 3 := ⟨_, rfl⟩
        obtain ⟨m, hm0⟩ : ∃ m, m = leN bs 4 := ⟨_, rfl⟩
        rw [← hn0] at ho hn
        rw [← hm0] at ho
        rw [← hn0]
        have a1 : bits .or .u64 (n : Int) ((x : Int) * 16777216) = (m : Int) := by have := or64 n (x * 16777216) 24 (by simpa using hn) (by simp only [Nat.reducePow]; omega) (by omega); rw [show m = n + x * 16777216 from by omega, ← this]; simp
        have H := Lib.hid hm0
        clear ho hn0 hm0 hx0
        rw [show ((3 : Nat) : Int) = 3 from rfl]
        go_wp2_with fail
        exact ⟨⟨4, by omega, rfl, by rw [H.out]⟩, by simp [intOf]⟩
      · have ho := leN_succ bs 4 (by omega)
        rw [← hx0] at ho
        have hn := leN_lt bs hb 4 (by omega)
        simp only [Nat.reducePow] at ho hn
        obtain ⟨n, hn0⟩ : ∃ n, n = leN bs 4 := ⟨_, rfl⟩
        obtain ⟨m, hm0⟩ : ∃ m, m = leN bs 5 := ⟨_, rfl⟩
        rw [← hn0] at ho hn
        rw [← hm0] at ho
        rw [← hn0]
        have a1 : bits .or .u64 (n : Int) ((x : Int) * 4294967296) = (m : Int) := by have := or64 n (x * 4294967296) 32 (by simpa using hn) (by simp only [Nat.reducePow]; omega) (by omega); rw [show m = n + x * 4294967296 from by omega, ← this]; simp
        have H := Lib.hid hm0
        clear ho hn0 hm0 hx0
        rw [show ((4 : Nat) : Int) = 4 from rfl]
        go_wp2_with fail
        exact ⟨⟨5, by omega, rfl, by rw [H.out]⟩, by simp [intOf]⟩
      · have ho := leN_succ bs 5 (by omega)
        rw [← hx0] at ho
        have hn := leN_lt bs hb 5 (by omega)
        simp only [Nat.reducePow] at ho hn
        obtain ⟨n, hn0⟩ : ∃ n, n = leN bs 5 := ⟨_, rfl⟩
        obtain ⟨m, hm0⟩ : ∃ m, m = leN bs 6 := ⟨_, rfl⟩
        rw [← hn0] at ho hn
        rw [← hm0] at ho
        rw [← hn0]
        have a1 : bits .or .u64 (n : Int) ((x : Int) * 1099511627776) = (m : Int) := by have := or64 n (x * 1099511627776) 40 (by simpa using hn) (by simp only [Nat.reducePow]; omega) (by omega); rw [show m = n + x * 1099511627776 from by omega, ← this]; simp
        have H := Lib.hid hm0
        clear ho hn0 hm0 hx0
        rw [show ((5 : Nat) : Int) = 5 from rfl]
        go_wp2_with fail
        exact ⟨⟨6, by omega, rfl, by rw [H.out]⟩, by simp [intOf]⟩
      · have ho := leN_succ bs 6 (by omega)
        rw [← hx0] at ho
        have hn := leN_lt bs hb 6 (by omega)
        simp only [Nat.reducePow] at ho hn
        obtain ⟨n, hn0⟩ : ∃ n, n = leN bs 6 := ⟨_, rfl⟩
        obtain ⟨m, hm0⟩ : ∃ m, m = leN bs 7 := ⟨_, rfl⟩
        rw [← hn0] at ho hn
        rw [← hm0] at ho
        rw [← hn0]
        have a1 : bits .or .u64 (n : Int) ((x : Int) * 281474976710656) = (m : Int) := by have := or64 n (x * 281474976710656) 48 (by simpa using hn) (by simp only [Nat.reducePow]; omega) (by omega); rw [show m = n + x * 281474976710656 from by omega, ← this]; simp
        have H := Lib.hid hm0
        clear ho hn0 hm0 hx0
        rw [show ((6 : Nat) : Int) = 6 from rfl]
        go_wp2_with fail
        exact ⟨⟨7, by omega, rfl, by rw [H.out]⟩, by simp [intOf]⟩
      · have ho := leN_succ bs 7 (by omega)
        rw [← hx0] at ho
        have hn := leN_lt bs hb 7 (by omega)
        simp only [Nat.reducePow] at ho hn
        obtain ⟨n, hn0⟩ : ∃ n, n = leN bs 7 := ⟨_, rfl⟩
        obtain ⟨m, hm0⟩ : ∃ m, m = leN bs 8 := ⟨_, rfl⟩
        rw [← hn0] at ho hn
        rw [← hm0] at ho
        rw [← hn0]
        have a1 : bits .or .u64 (n : Int) ((x : Int) * 72057594037927936) = (m : Int) := by have := or64 n (x * 72057594037927936) 56 (by simpa using hn) (by simp only [Nat.reducePow]; omega) (by omega); rw [show m = n + x * 72057594037927936 from by omega, ← this]; simp
        have H := Lib.hid hm0
        clear ho hn0 hm0 hx0
        rw [show ((7 : Nat) : Int) = 7 from rfl]
        go_wp2_with fail
        exact ⟨⟨8, by omega, rfl, by rw [H.out]⟩, by simp [intOf]⟩
    · obtain rfl : i = 8 := by omega
      rw [show ((8 : Nat) : Int) = 8 from rfl]
      go_wp2_with fail
      go_ret
      exact ⟨rfl, rfl⟩

/-! ### Clamps -/
def ca (h : List Nat) : Nat → List Nat
  | 0 => h
  | k + 1 => (ca h k).set (4 * k + 3) ((ca h k).getD (4 * k + 3) 0 % 16)
def cb (h : List Nat) : Nat → List Nat
  | 0 => h
  | k + 1 => (cb h k).set (4 * k + 4) ((cb h k).getD (4 * k + 4) 0 / 4 * 4)
theorem ca_zero (h : List Nat) : ca h 0 = h := rfl
theorem ca_succ (h : List Nat) (k : Nat) : ca h (k + 1) = (ca h k).set (4 * k + 3) ((ca h k).getD (4 * k + 3) 0 % 16) := rfl
theorem cb_zero (h : List Nat) : cb h 0 = h := rfl
theorem cb_succ (h : List Nat) (k : Nat) : cb h (k + 1) = (cb h k).set (4 * k + 4) ((cb h k).getD (4 * k + 4) 0 / 4 * 4) := rfl
theorem ca_length (h : List Nat) (k : Nat) : (ca h k).length = h.length := by
  induction k with
  | zero => rfl
  | succ k ih => rw [ca_succ, List.length_set, ih]
theorem cb_length (h : List Nat) (k : Nat) : (cb h k).length = h.length := by
  induction k with
  | zero => rfl
  | succ k ih => rw [cb_succ, List.length_set, ih]
theorem mem_set_lt {h : List Nat} (hb : ∀ x ∈ h, x < 256) (i v : Nat) (hv : v < 256) : ∀ x ∈ h.set i v, x < 256 := fun x hx => by
  rcases List.mem_or_eq_of_mem_set hx with hx | rfl
  · exact hb x hx
  · exact hv
theorem ca_lt {h : List Nat} (hb : ∀ x ∈ h, x < 256) : ∀ k, ∀ x ∈ ca h k, x < 256
  | 0 => hb
  | k + 1 => mem_set_lt (ca_lt hb k) _ _ (by omega)
theorem cb_lt {h : List Nat} (hb : ∀ x ∈ h, x < 256) : ∀ k, ∀ x ∈ cb h k, x < 256
  | 0 => hb
  | k + 1 => mem_set_lt (cb_lt hb k) _ _ (by have := getD_lt _ (cb_lt hb k) (4 * k + 4); omega)
theorem clamp_eq (h : List Nat) (hl : h.length = 16) : cb (ca h 4) 3 = clamp h := by
  refine List.ext_getElem (by rw [cb_length, ca_length, clamp_length, hl]) fun i h1 h2 => ?_
  rw [cb_length, ca_length, hl] at h1
  have e1 : (cb (ca h 4) 3)[i]'(by rw [cb_length, ca_length, hl]; exact h1) = (cb (ca h 4) 3).getD i 0 := by
    rw [List.getD_eq_getElem?_getD, List.getElem?_eq_getElem (by rw [cb_length, ca_length, hl]; exact h1)]; rfl
  have e2 : (clamp h)[i]'h2 = (clamp h).getD i 0 := by
    rw [List.getD_eq_getElem?_getD, List.getElem?_eq_getElem h2]; rfl
  rw [e1, e2, clamp_get h i h1]
  rcases h with _ | ⟨a0, _ | ⟨a1, _ | ⟨a2, _ | ⟨a3, _ | ⟨a4, _ | ⟨a5, _ | ⟨a6, _ | ⟨a7, _ | ⟨a8, _ | ⟨a9, _ | ⟨a10, _ | ⟨a11, _ | ⟨a12, _ | ⟨a13, _ | ⟨a14, _ | ⟨a15, _ | ⟨a16, h⟩⟩⟩⟩⟩⟩⟩⟩⟩⟩⟩⟩⟩⟩⟩⟩⟩ <;> simp at hl
  rcases (show i = 0 ∨ i = 1 ∨ i = 2 ∨ i = 3 ∨ i = 4 ∨ i = 5 ∨ i = 6 ∨ i = 7 ∨ i = 8 ∨ i = 9 ∨ i = 10 ∨ i = 11 ∨ i = 12 ∨ i = 13 ∨ i = 14 ∨ i = 15 from by omega) with rfl | rfl | rfl | rfl | rfl | rfl | rfl | rfl | rfl | rfl | rfl | rfl | rfl | rfl | rfl | rfl <;> rfl
theorem and15 (x : Nat) (hx : x < 256) : bits .and .u8 (x : Int) 15 = ((x % 16 : Nat) : Int) := by
  rw [show (15 : Int) = ((15 : Nat) : Int) from rfl, bits_and .u8 rfl _ _ (by omega) (by show (x : Int) < 256; omega) (by omega) (by decide)]
  rw [Int.toNat_natCast, Int.toNat_natCast, show 15 = 2 ^ 4 - 1 from rfl, Nat.and_two_pow_sub_one_eq_mod]
theorem n252 : ∀ x : Fin 256, x.1 &&& 252 = x.1 / 4 * 4 := by decide +kernel
theorem and252 (x : Nat) (hx : x < 256) : bits .and .u8 (x : Int) 252 = ((x / 4 * 4 : Nat) : Int) := by
  rw [show (252 : Int) = ((252 : Nat) : Int) from rfl, bits_and .u8 rfl _ _ (by omega) (by show (x : Int) < 256; omega) (by omega) (by decide)]
  rw [Int.toNat_natCast, Int.toNat_natCast, n252 ⟨x, hx⟩]
theorem jx4 (k : Nat) (h : k < 4) (w : World) : (Instr.index 44 (.agg #[.int .i64 3, .int .i64 7, .int .i64 11, .int .i64 15]) (.int .i64 (k : Int))).run Try.prog w = .ok (.int .i64 ((4 * k + 3 : Nat) : Int)) w := by
  rcases (show k = 0 ∨ k = 1 ∨ k = 2 ∨ k = 3 from by omega) with rfl | rfl | rfl | rfl <;> kernel_rfl
theorem jx3 (k : Nat) (h : k < 3) (w : World) : (Instr.index 45 (.agg #[.int .i64 4, .int .i64 8, .int .i64 12]) (.int .i64 (k : Int))).run Try.prog w = .ok (.int .i64 ((4 * k + 4 : Nat) : Int)) w := by
  rcases (show k = 0 ∨ k = 1 ∨ k = 2 from by omega) with rfl | rfl | rfl <;> kernel_rfl

set_option maxHeartbeats 1000000 in
theorem Clamp_any (w : World) (h : List Nat) (hl : h.length = 16) (hb : ∀ x ∈ h, x < 256) :
    Calls Try.prog 11 #[.agg (bv h).toArray] w fun e w' => e = .returned (.agg (bv (clamp h)).toArray) ∧ Below w.heap.size w w' := by
  rw [← clamp_eq h hl]
  go_enter Try.func11, Try.ntmps11
  go_wp2_with fail
  refine at_world (fun W => Blk W w.heap.size 23 .u8 (ca h 0) ∧ Blk W (w.heap.size + 1) 23 .u8 (List.replicate 16 0) ∧ Below w.heap.size w W) ?_ ?_
  · refine ⟨(Blk.new w _ _ h _ rfl).alloc _, ?_, xalloc (xnew _ _) _⟩
    have := Blk.new (w.alloc (.cells (nv .u8 h).toArray 23)) 23 .u8 (List.replicate 16 0) _ rfl
    rw [World.size_alloc] at this
    exact this
  rintro W ⟨hN, hO, hB⟩
  go_loopw [8] (fun r wr => ∃ k : Nat, k ≤ 4 ∧ r = .int .i64 k ∧ Blk wr w.heap.size 23 .u8 (ca h k) ∧ Blk wr (w.heap.size + 1) 23 .u8 (List.replicate 16 0) ∧ Below w.heap.size w wr) (fun r _ => 4 - (intOf r).toNat)
  case atStart => exact ⟨0, by decide, rfl, hN, hO, hB⟩
  case round =>
    clear hN hO hB
    obtain ⟨k, hk4, rfl, hN, hO, hB⟩ := hrel
    have hll := ca_length h k
    have hlb := ca_lt hb k
    by_cases hlt : k < 4
    · have HS := Lib.hid (ca_succ h k)
      generalize ca h k = hs at hN hll hlb HS
      obtain ⟨j, hj⟩ : ∃ j, j = 4 * k + 3 := ⟨_, rfl⟩
      have hix := fun W => jx4 k hlt W
      rw [← hj] at hix HS
      have hj16 : (j : Int) < 16 := by omega
      have hc := hN.cell j (by omega)
      have hf := hN.frozen j
      have hx := getD_lt hs hlb j
      have ha := and15 _ hx
      obtain ⟨x, hx0⟩ : ∃ x, x = hs.getD j 0 := ⟨_, rfl⟩
      rw [← hx0] at hc hx ha HS
      have hfin := hN.set j (x % 16)
      rw [← HS.out] at hfin
      clear hj hx0
      go_wp2_with fail
      exact ⟨⟨k + 1, by omega, by go_num, hfin, hO.other _ _ (by show w.heap.size + 1 ≠ w.heap.size; omega), xset hB (Nat.le_refl _) _⟩, by simp [intOf]; omega⟩
    · obtain rfl : k = 4 := by omega
      obtain ⟨g, hg⟩ : ∃ g, g = ca h 4 := ⟨_, rfl⟩
      rw [← hg] at hN hll hlb
      have HG := Lib.hid hg
      clear hg
      rw [show ((4 : Nat) : Int) = 4 from rfl]
      go_wp2_with fail
      obtain ⟨wo, hwo⟩ : ∃ wo : World, wo = wr := ⟨_, rfl⟩
      rw [← hwo] at hN hO hB ⊢
      clear hwo
      rw [← cb_zero g] at hN
      go_loopw [18] (fun r wr => ∃ k : Nat, k ≤ 3 ∧ r = .int .i64 k ∧ Blk wr w.heap.size 23 .u8 (cb g k) ∧ Blk wr (w.heap.size + 1) 23 .u8 (List.replicate 16 0) ∧ Below w.heap.size w wr) (fun r _ => 3 - (intOf r).toNat)
      case atStart => exact ⟨0, by decide, rfl, hN, hO, hB⟩
      case round =>
        clear hN hO hB
        obtain ⟨k, hk3, rfl, hN, hO, hB⟩ := hrel
        have hll2 := cb_length g k
        have hlb2 := cb_lt hlb k
        by_cases hltk : k < 3
        · have HS := Lib.hid (cb_succ g k)
          generalize cb g k = hs at hN hll2 hlb2 HS
          obtain ⟨j, hj⟩ : ∃ j, j = 4 * k + 4 := ⟨_, rfl⟩
          have hix := fun W => jx3 k hltk W
          rw [← hj] at hix HS
          have hj16 : (j : Int) < 16 := by omega
          have hc := hN.cell j (by omega)
          have hf := hN.frozen j
          have hx := getD_lt hs hlb2 j
          have ha := and252 _ hx
          obtain ⟨x, hx0⟩ : ∃ x, x = hs.getD j 0 := ⟨_, rfl⟩
          rw [← hx0] at hc hx ha HS
          have hfin := hN.set j (x / 4 * 4)
          rw [← HS.out] at hfin
          clear hj hx0
          obtain ⟨y, hy⟩ : ∃ y, y = x / 4 * 4 := ⟨_, rfl⟩
          rw [← hy] at ha hfin
          clear hy
          go_wp2_with fail
          exact ⟨⟨k + 1, by omega, by go_num, hfin, hO.other _ _ (by show w.heap.size + 1 ≠ w.heap.size; omega), xset hB (Nat.le_refl _) _⟩, by simp [intOf]; omega⟩
        · obtain rfl : k = 3 := by omega
          obtain ⟨f, hf⟩ : ∃ f, f = cb g 3 := ⟨_, rfl⟩
          rw [← hf] at hN hll2
          have HF := Lib.hid hf
          have hfl : f.length = 16 := by rw [hll2, hll, hl]
          have HZ := Lib.hid (show (Try.prog.info? 23).map (·.size) = some f.length by rw [hfl]; kernel_rfl)
          have HZ2 := Lib.hid (show (Try.prog.info? 23).map (·.size) = some (nv .u8 f).toArray.size by simp only [List.size_toArray, nv_length]; rw [hfl]; kernel_rfl)
          have HS2 := Lib.hid (show (List.replicate 16 0).length = f.length by rw [hfl]; rfl)
          clear hf hfl hll2
          rw [show ((3 : Nat) : Int) = 3 from rfl]
          go_wp2_with (first
            | (refine wp_load_arr rfl 23 (.tmp 1) rfl w.heap.size rfl hN 16 5 Try.underlying23 HZ.out ?_)
            | (refine wp_store_arr rfl 23 (.tmp 2) (.tmp 27) rfl (w.heap.size + 1) rfl hO rfl HZ.out HS2.out ?_; intro W9 hO9 hg9)
            | fail)
          exact bodyPost_ret (results_cell_row rfl _ _ (w.heap.size + 1) 23 (nv .u8 f).toArray (0, 0) _ rfl hO9 Try.underlying23 rfl HZ2.out) rfl ⟨by rw [HF.out, HG.out]; rfl, gbelow hB hg9 (by omega)⟩
end Go.Proofs.Ytgfmglgibfhimaa.Po
