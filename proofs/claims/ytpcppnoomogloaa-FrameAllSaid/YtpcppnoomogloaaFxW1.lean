/- The walks of numbers in bytes: fix.may, Put, Get, and the document's Size, Put, Get. -/
import Derived.Test.YtpcppnoomogloaaFnd
import Derived.Test.YtpcppnoomogloaaFrPlain
set_option maxRecDepth 4000
namespace Go.Proofs.Ytpcppnoomogloaa.Fr
set_option linter.unusedSimpArgs false
set_option linter.unusedVariables false
open Go.RowKit

theorem may_any (w : World) (size : Nat) (hs : size = 1 ∨ size = 2 ∨ size = 4 ∨ size = 8) : Calls Try.prog 45 #[.int .i64 (size : Int)] w fun e w' => e = .returned (.bool true) ∧ w = w' := by
  rcases hs with rfl | rfl | rfl | rfl
  all_goals
    go_enter Try.func45, Try.ntmps45
    go_wp2_with fail
    go_ret
    exact ⟨rfl, rfl⟩
theorem rSize_any (w : World) (size : Nat) (hs : size = 1 ∨ size = 2 ∨ size = 4 ∨ size = 8) : Calls Try.prog 55 #[.int .i64 (size : Int)] w fun e w' => e = .returned (.bool true) ∧ w = w' := by
  rcases hs with rfl | rfl | rfl | rfl
  all_goals
    go_enter Try.func55, Try.ntmps55
    go_wp2_with fail
    go_ret
    exact ⟨rfl, rfl⟩
theorem byte_of (q : Nat) : IntKind.u8.wrap (q : Int) = ((q % 256 : Nat) : Int) := by rw [IntKind.wrap_u8]; omega
theorem pow_bits (i : Nat) : (256 : Nat) ^ i = 2 ^ (8 * i) := by rw [Nat.pow_mul]
theorem pow_le64 {i : Nat} (h : i ≤ 8) : (256 : Nat) ^ i ≤ 18446744073709551616 := Nat.le_trans (Nat.pow_le_pow_right (by decide) h) (by decide)
theorem Own.setN {w : World} {base g cap n : Nat} {bs : List Nat} (h : Own w base (.slice (some ⟨g, 0, none⟩) n cap) bs) (hn : bs.length = n) (k u : Nat) (hu : u < 256) :
    Own (w.setCell ⟨g, k, none⟩ (.int .u8 ((u : Nat) : Int))) base (.slice (some ⟨g, 0, none⟩) n cap) (bs.set k u) := by
  subst hn
  have := Own.set h k u hu
  rwa [List.length_set] at this
theorem Own.cells {w : World} {base g cap n : Nat} {bs : List Nat} (h : Own w base (.slice (some ⟨g, 0, none⟩) n cap) bs) (hn : bs.length = n) : base ≤ g ∧ g < w.heap.size ∧ (∀ i, i < n → w.cell? ⟨g, i, none⟩ = some (.int .u8 ((bs.getD i 0 : Nat) : Int))) ∧ (∀ i, w.frozen? ⟨g, i, none⟩ = false) := by
  subst hn
  rcases h.shape with ⟨h1, _⟩ | ⟨g', cap', h1, h2, h3, _, _, h4, h5⟩
  · cases h1
  · simp only [Value.slice.injEq, Option.some.injEq, Addr.mk.injEq] at h1
    obtain ⟨⟨rfl, _⟩, _⟩ := h1
    exact ⟨h2, h3, h4, h5⟩
def putS (n size i : Nat) : List Nat := le i n ++ List.replicate (size - i) 0
theorem putS_length (n size i : Nat) (h : i ≤ size) : (putS n size i).length = size := by simp [putS, le_length]; omega
theorem putS_zero (n size : Nat) : putS n size 0 = List.replicate size 0 := by simp [putS, le]
theorem putS_end (n size : Nat) : putS n size size = le size n := by simp [putS]
theorem putS_set (n size i : Nat) (h : i < size) : (putS n size i).set i (n / 256 ^ i % 256) = putS n size (i + 1) := by
  unfold putS
  rw [le_end, List.set_append_right _ _ (by rw [le_length]; exact Nat.le_refl _), le_length, Nat.sub_self, List.append_assoc]
  congr 1
  obtain ⟨m, hm⟩ : ∃ m, size - i = m + 1 := ⟨size - i - 1, by omega⟩
  rw [hm, List.replicate_succ, List.set_cons_zero, show size - (i + 1) = m by omega]
  rfl

set_option maxHeartbeats 2000000 in
theorem Put_any (w : World) (n size : Nat) (hs : size = 1 ∨ size = 2 ∨ size = 4 ∨ size = 8) (hn : n < 256 ^ size) :
    Calls Try.prog 31 #[.int .u64 (n : Int), .int .i64 (size : Int)] w fun e w' => ∃ ad cp, e = .returned (.tuple #[.slice ad size cp, .int .i64 0]) ∧ Own w' w.heap.size (.slice ad size cp) (le size n) ∧ Below w.heap.size w w' := by
  have cM := Lib.hid (fun W => may_any W size hs)
  have hs8 : size ≤ 8 := by omega
  have hn64 : n < 18446744073709551616 := Nat.lt_of_lt_of_le hn (pow_le64 hs8)
  have HN0 := Lib.hid hn
  have HS := Lib.hid hs
  clear hn hs
  obtain ⟨t8, ht8⟩ : ∃ t8, t8 = 8 * size := ⟨_, rfl⟩
  have x8 : 8 * (size : Int) = (t8 : Int) := by omega
  have x8b : IntKind.i64.wrap (t8 : Int) = (t8 : Int) := by rw [IntKind.wrap_i64]; omega
  have x8c : IntKind.u64.wrap (t8 : Int) = (t8 : Int) := by rw [IntKind.wrap_u64]; omega
  by_cases h8 : size < 8
  all_goals
    first
      | (have d8 : decide ((size : Int) < 8) = true := decide_eq_true (by omega)
         have t64 : (t8 : Int) < 64 := by omega
         have hz : (n : Int) / 2 ^ t8 = 0 := by
           have h1 : n / 2 ^ t8 = 0 := Nat.div_eq_of_lt (by rw [ht8, ← pow_bits]; exact HN0.out)
           exact_mod_cast h1)
      | have d8 : decide ((size : Int) < 8) = false := decide_eq_false (by omega)
    clear ht8 h8
    go_enter Try.func31, Try.ntmps31
    go_wp2_with (first
      | (go_at_call 45; refine (cM.out _).mono ?_; rintro e w1 ⟨rfl, rfl⟩)
      | (at_make; refine wp_make rfl (.tmp 22) (.tmp 22) rfl .i64 .i64 size rfl rfl (by omega) ?_; intro w1 o1 b1 hlt1)
      | fail)
    rw [← putS_zero n size] at o1
    clear d8 hlt1 x8 x8b x8c
    go_loopw [26] (fun r wr => ∃ i : Nat, i ≤ size ∧ r = .int .i64 i ∧ Own wr w.heap.size (.slice (some ⟨w.heap.size, 0, none⟩) size size) (putS n size i) ∧ Below w.heap.size w wr) (fun r _ => size - (intOf r).toNat)
    case atStart => exact ⟨0, Nat.zero_le _, rfl, o1, b1⟩
    case round =>
      clear o1 b1
      obtain ⟨i, hi8, rfl, oi, bi⟩ := hrel
      by_cases hlt : i < size
      · have e9 : decide ((i : Int) < (size : Int)) = true := decide_eq_true (by omega)
        obtain ⟨z, hz9⟩ : ∃ z, z = n / 256 ^ i % 256 := ⟨_, rfl⟩
        have hzl : z < 256 := hz9 ▸ Nat.mod_lt _ (by decide)
        obtain ⟨s8, hs8'⟩ : ∃ s8, s8 = 8 * i := ⟨_, rfl⟩
        have w8 : 8 * (i : Int) = (s8 : Int) := by omega
        have w8b : IntKind.i64.wrap (s8 : Int) = (s8 : Int) := by rw [IntKind.wrap_i64]; omega
        have w8c : IntKind.u64.wrap (s8 : Int) = (s8 : Int) := by rw [IntKind.wrap_u64]; omega
        have hs8l : (s8 : Int) < 64 := by omega
        obtain ⟨q, hq⟩ : ∃ q, q = n / 2 ^ s8 := ⟨_, rfl⟩
        have hqz0 : q % 256 = z := by rw [hz9, hq, hs8', pow_bits]
        have hqz : IntKind.u8.wrap (q : Int) = (z : Int) := by rw [byte_of, hqz0]
        have hqm : (q : Int) % 256 = (z : Int) := by omega
        have hq2 : (n : Int) / 2 ^ s8 = (q : Int) := by rw [hq]; norm_cast
        obtain ⟨_, hg, hcs, hfs⟩ := Own.cells oi (putS_length n size i hi8)
        have hc := hcs i hlt
        have hf := hfs i
        obtain ⟨w3, hw3⟩ : ∃ w3, wr.setCell ⟨w.heap.size, i, none⟩ (.int .u8 ((z : Nat) : Int)) = w3 := ⟨_, rfl⟩
        have o3 := Own.setN oi (putS_length n size i hi8) i z hzl
        have b3 := xset bi (p := ⟨w.heap.size, i, none⟩) (Nat.le_refl _) (.int .u8 ((z : Nat) : Int))
        rw [hw3, hz9, putS_set n size i hlt] at o3
        rw [hw3] at b3
        have HLT := Lib.hid hlt
        clear hs8' hq hz9 hqz0 hcs hfs oi bi hlt
        go_wp2_with fail
        exact ⟨⟨i + 1, HLT.out, by go_num, o3, b3⟩, by simp [intOf]; have := HLT.out; omega⟩
      · obtain rfl : i = size := by omega
        rw [putS_end] at oi
        go_wp2_with fail
        go_ret2
        exact ⟨some ⟨w.heap.size, 0, none⟩, i, rfl, oi, bi⟩

set_option maxHeartbeats 2000000 in
theorem rPut_any (w : World) (n size : Nat) (hs : size = 1 ∨ size = 2 ∨ size = 4 ∨ size = 8) (hn : n < 256 ^ size) :
    Calls Try.prog 53 #[.int .u64 (n : Int), .int .i64 (size : Int)] w fun e w' => ∃ ad cp, e = .returned (.tuple #[.slice ad size cp, .int .i64 0]) ∧ Own w' w.heap.size (.slice ad size cp) (le size n) ∧ Below w.heap.size w w' := by
  have cM := Lib.hid (fun W => rSize_any W size hs)
  have hs8 : size ≤ 8 := by omega
  have hn64 : n < 18446744073709551616 := Nat.lt_of_lt_of_le hn (pow_le64 hs8)
  have hend : n / 256 ^ size = 0 := Nat.div_eq_of_lt hn
  have HN0 := Lib.hid hend
  clear hn hs hend
  go_enter Try.func53, Try.ntmps53
  go_wp2_with (first
    | (go_at_call 55; refine (cM.out _).mono ?_; rintro e w1 ⟨rfl, rfl⟩)
    | fail)
  go_loopw [0, 7, 8] (fun x v r wr => ∃ i : Nat, i ≤ size ∧ r = .int .i64 i ∧ x = .int .u64 ((n / 256 ^ i : Nat) : Int) ∧ ∃ ad cp, v = .slice ad i cp ∧ Own wr w.heap.size (.slice ad i cp) (le i n) ∧ Below w.heap.size w wr) (fun x v r _ => size - (intOf r).toNat)
  case atStart => exact ⟨0, Nat.zero_le _, rfl, by rw [Nat.pow_zero, Nat.div_one], none, 0, rfl, Own.nil _ _, xrefl _⟩
  case round =>
    obtain ⟨i, hi8, rfl, rfl, ai, ci, rfl, oi, bi⟩ := hrel
    by_cases hlt : i < size
    · have e9 : decide ((i : Int) < (size : Int)) = true := decide_eq_true (by omega)
      obtain ⟨q, hq⟩ : ∃ q, q = n / 256 ^ i := ⟨_, rfl⟩
      have hql : q < 18446744073709551616 := by rw [hq]; exact Nat.lt_of_le_of_lt (Nat.div_le_self _ _) hn64
      obtain ⟨z, hz⟩ : ∃ z, z = q % 256 := ⟨_, rfl⟩
      have hzl : z < 256 := by omega
      have hzq : (q : Int) % 256 = (z : Int) := by omega
      obtain ⟨q2, hq2⟩ : ∃ q2, q2 = q / 256 := ⟨_, rfl⟩
      have hqq : (q : Int) / 256 = (q2 : Int) := by omega
      have hnext : q2 = n / 256 ^ (i + 1) := by rw [hq2, hq, Nat.div_div_eq_div_mul, Nat.pow_succ]
      have HE : Hid (le (i + 1) n = le i n ++ [z]) := Lib.hid (by rw [le_end, ← hq, hz])
      have HNX := Lib.hid hnext
      have HXL := Lib.hid (le_length i n)
      have HLT := Lib.hid hlt
      rw [← hq]
      clear hq hz hq2 hnext hlt
      go_wp2_with (first
        | (at_builtin; refine wp_append rfl (.tmp 18) (.tmp 22) rfl w.heap.size _ (le i n) rfl (oi.below (xnew _ _)) _ _ _ [z] rfl (rd_new _ _ _ _ _ _ rfl rfl (fun x hx => List.mem_singleton.1 hx ▸ hzl) (by simp)) (by rw [HXL.out]; show i + 1 ≤ 1000000000; omega) (Nat.le_trans bi.size (xnew wr (.cells #[.int .u8 (z : Int)] 5)).size) ?_; intro v2 w2 o2 b2 _; have bb2 : Below w.heap.size w w2 := (xalloc bi _).trans b2; obtain ⟨a2, c2, rfl, _, _⟩ := o2.rd (by rw [List.length_append, HXL.out]; show i + 1 ≤ 1000000000; omega); rw [List.length_append, HXL.out] at o2 ⊢)
        | fail)
      exact ⟨⟨i + 1, HLT.out, by go_num, by rw [HNX.out], a2, c2, rfl, by rw [HE.out]; exact o2, bb2⟩, by simp [intOf]; have := HLT.out; omega⟩
    · obtain rfl : i = size := by omega
      rw [HN0.out]
      rw [show ((0 : Nat) : Int) = 0 from rfl]
      go_wp2_with fail
      go_ret2
      exact ⟨ai, ci, rfl, oi, bi⟩

theorem num_take {bs : List Nat} {i : Nat} (h : i < bs.length) : num (bs.take (i + 1)) = num (bs.take i) + 256 ^ i * bs.getD i 0 := by
  have e : bs.take (i + 1) = bs.take i ++ [bs.getD i 0] := by
    rw [List.take_add_one, List.getElem?_eq_getElem h, List.getD_eq_getElem?_getD, List.getElem?_eq_getElem h]
    rfl
  rw [e, num_append, List.length_take, Nat.min_eq_left (Nat.le_of_lt h)]
  simp [num]
theorem num_drop {bs : List Nat} {i : Nat} (h : i < bs.length) : num (bs.drop i) = bs.getD i 0 + 256 * num (bs.drop (i + 1)) := by
  rw [List.drop_eq_getElem_cons h, num, List.getD_eq_getElem?_getD, List.getElem?_eq_getElem h]
  rfl
theorem num_take_lt {bs : List Nat} (hb : ∀ x ∈ bs, x < 256) {i : Nat} (h : i ≤ 8) : num (bs.take i) < 256 ^ i := Nat.lt_of_lt_of_le (num_lt _ (fun x hx => hb x (List.mem_of_mem_take hx))) (Nat.pow_le_pow_right (by decide) (by rw [List.length_take]; exact Nat.min_le_left _ _))
theorem num_drop_lt {bs : List Nat} (hb : ∀ x ∈ bs, x < 256) (i : Nat) (h : bs.length ≤ 8) : num (bs.drop i) < 18446744073709551616 := Nat.lt_of_lt_of_le (num_lt _ (fun x hx => hb x (List.mem_of_mem_drop hx))) (pow_le64 (by rw [List.length_drop]; omega))

set_option maxHeartbeats 2000000 in
theorem Get_any (w : World) (a : Option Addr) (len cap : Nat) (bs : List Nat) (hs : len = 1 ∨ len = 2 ∨ len = 4 ∨ len = 8) (hr : Row8 w a len cap bs) :
    Calls Try.prog 48 #[.slice a len cap] w fun e w' => e = .returned (.tuple #[.int .u64 ((num bs : Nat) : Int), .int .i64 0]) ∧ w = w' := by
  have cM := Lib.hid (fun W => may_any W len hs)
  have hs8 : len ≤ 8 := by omega
  have hs0 : 0 < len := by omega
  obtain ⟨h1, h2, h3, h4, h5, h6⟩ := hr
  obtain ⟨b, off, rfl, hbl, hcell⟩ : ∃ b off, a = some ⟨b, off, none⟩ ∧ b < w.heap.size ∧ ∀ i, i < len → w.cell? ⟨b, off + i, none⟩ = some (.int .u8 ((bs.getD i 0 : Nat) : Int)) := by
    rcases h6 with h6 | h6
    · omega
    · exact h6
  have HC := Lib.hid hcell
  have HL := Lib.hid h1
  clear hs h5 h6 hcell h1
  go_enter Try.func48, Try.ntmps48
  go_wp2_with (first
    | (go_at_call 45; refine (cM.out _).mono ?_; rintro e w1 ⟨rfl, rfl⟩)
    | fail)
  go_loop [2, 12] (fun x r => ∃ i : Nat, i ≤ len ∧ r = .int .i64 i ∧ x = .int .u64 ((num (bs.take i) : Nat) : Int)) (fun x r => len - (intOf r).toNat)
  case atStart => exact ⟨0, Nat.zero_le _, rfl, rfl⟩
  case round =>
    obtain ⟨i, hi8, rfl, rfl⟩ := hrel
    by_cases hlt : i < len
    · have e9 : decide ((i : Int) < (len : Int)) = true := decide_eq_true (by omega)
      have hc := HC.out i hlt
      obtain ⟨x, hx⟩ : ∃ x, x = bs.getD i 0 := ⟨_, rfl⟩
      have hxl : x < 256 := hx ▸ getD_u8 h4 i
      rw [← hx] at hc
      obtain ⟨m, hm⟩ : ∃ m, m = num (bs.take i) := ⟨_, rfl⟩
      have hml : m < 256 ^ i := hm ▸ num_take_lt h4 (by omega)
      have hml2 : m < 18446744073709551616 := Nat.lt_of_lt_of_le hml (pow_le64 (by omega))
      have hnx : num (bs.take (i + 1)) = m + 256 ^ i * x := by rw [num_take (by rw [HL.out]; exact hlt), ← hm, ← hx]
      obtain ⟨s8, hs8'⟩ : ∃ s8, s8 = 8 * i := ⟨_, rfl⟩
      have w8 : 8 * (i : Int) = (s8 : Int) := by omega
      have w8b : IntKind.i64.wrap (s8 : Int) = (s8 : Int) := by rw [IntKind.wrap_i64]; omega
      have w8c : IntKind.u64.wrap (s8 : Int) = (s8 : Int) := by rw [IntKind.wrap_u64]; omega
      have hs8l : (s8 : Int) < 64 := by omega
      obtain ⟨q, hq⟩ : ∃ q, q = x * 2 ^ s8 := ⟨_, rfl⟩
      have hqe : q = 256 ^ i * x := by rw [hq, hs8', ← pow_bits, Nat.mul_comm]
      have hql : q + m < 18446744073709551616 := by
        have h7 : num (bs.take (i + 1)) < 18446744073709551616 := Nat.lt_of_lt_of_le (num_take_lt h4 (show i + 1 ≤ 8 by omega)) (pow_le64 (by omega))
        omega
      have hq2 : (x : Int) * 2 ^ s8 = (q : Int) := by rw [hq]; norm_cast
      have hqw : IntKind.u64.wrap (q : Int) = (q : Int) := by rw [IntKind.wrap_u64]; omega
      have hor : bits .or .u64 (m : Int) (q : Int) = ((m + q : Nat) : Int) := by
        have e64 : (2 : Int) ^ IntKind.u64.bits = 18446744073709551616 := rfl
        rw [bits_or .u64 rfl (m : Int) (q : Int) (by omega) (by omega) (by omega) (by omega), Int.toNat_natCast, Int.toNat_natCast, Nat.or_comm, hq, or_add x m s8 (by rw [hs8', ← pow_bits]; exact hml), Nat.add_comm]
      have HNX : Hid (num (bs.take (i + 1)) = m + q) := Lib.hid (by rw [hnx, hqe])
      rw [← hm]
      have HLT := Lib.hid hlt
      clear hs8' hq hqe hm hx hnx hml hlt
      go_wp2_with fail
      exact ⟨⟨i + 1, HLT.out, by go_num, by rw [HNX.out, Int.natCast_add]⟩, by simp [intOf]; have := HLT.out; omega⟩
    · obtain rfl : i = len := by omega
      rw [List.take_of_length_le (by rw [HL.out]; exact Nat.le_refl _)]
      go_wp2_with fail
      go_ret2
      exact ⟨rfl, rfl⟩

set_option maxHeartbeats 2000000 in
theorem rGet_any (w : World) (a : Option Addr) (len cap : Nat) (bs : List Nat) (hs : len = 1 ∨ len = 2 ∨ len = 4 ∨ len = 8) (hr : Row8 w a len cap bs) :
    Calls Try.prog 56 #[.slice a len cap] w fun e w' => e = .returned (.tuple #[.int .u64 ((num bs : Nat) : Int), .int .i64 0]) ∧ w = w' := by
  have cM := Lib.hid (fun W => rSize_any W len hs)
  have hs8 : len ≤ 8 := by omega
  have hs0 : 0 < len := by omega
  obtain ⟨h1, h2, h3, h4, h5, h6⟩ := hr
  obtain ⟨b, off, rfl, hbl, hcell⟩ : ∃ b off, a = some ⟨b, off, none⟩ ∧ b < w.heap.size ∧ ∀ i, i < len → w.cell? ⟨b, off + i, none⟩ = some (.int .u8 ((bs.getD i 0 : Nat) : Int)) := by
    rcases h6 with h6 | h6
    · omega
    · exact h6
  have HC := Lib.hid hcell
  have HL := Lib.hid h1
  have HB := Lib.hid h4
  clear hs h5 h6 hcell h1 h4
  go_enter Try.func56, Try.ntmps56
  go_wp2_with (first
    | (go_at_call 55; refine (cM.out _).mono ?_; rintro e w1 ⟨rfl, rfl⟩)
    | fail)
  go_loop [5, 6] (fun x r => ∃ k : Nat, k ≤ len ∧ r = .int .i64 ((k : Int) - 1) ∧ x = .int .u64 ((num (bs.drop k) : Nat) : Int)) (fun x r => (intOf r + 1).toNat)
  case atStart => exact ⟨len, Nat.le_refl _, rfl, by rw [List.drop_of_length_le (by rw [HL.out]; exact Nat.le_refl _)]; rfl⟩
  case round =>
    obtain ⟨k, hk8, rfl, rfl⟩ := hrel
    by_cases hlt : 0 < k
    · obtain ⟨i, rfl⟩ : ∃ i, k = i + 1 := ⟨k - 1, by omega⟩
      have e0 : ((i + 1 : Nat) : Int) - 1 = (i : Int) := by omega
      rw [e0]
      have e9 : decide ((i : Int) ≥ 0) = true := decide_eq_true (by omega)
      have hc := HC.out i (by omega)
      obtain ⟨x, hx⟩ : ∃ x, x = bs.getD i 0 := ⟨_, rfl⟩
      have hxl : x < 256 := hx ▸ getD_u8 HB.out i
      rw [← hx] at hc
      obtain ⟨m, hm⟩ : ∃ m, m = num (bs.drop (i + 1)) := ⟨_, rfl⟩
      have hnx : num (bs.drop i) = x + 256 * m := by rw [num_drop (by rw [HL.out]; omega), ← hm, ← hx]
      have hlt2 : x + 256 * m < 18446744073709551616 := by rw [← hnx]; exact num_drop_lt HB.out i (by rw [HL.out]; exact hs8)
      have hsum : (256 : Int) * (m : Int) + (x : Int) = ((x + 256 * m : Nat) : Int) := by omega
      rw [← hm]
      have HNX := Lib.hid hnx
      have HI : Hid (i + 1 ≤ len) := Lib.hid hk8
      clear hx hm hnx hk8
      go_wp2_with fail
      exact ⟨⟨i, by have := HI.out; omega, by first | rfl | go_num, by first | (rw [HNX.out]; done) | (rw [HNX.out]; go_num)⟩, by simp [intOf]⟩
    · obtain rfl : k = 0 := by omega
      rw [List.drop_zero, show (((0 : Nat) : Int) - 1) = -1 from rfl]
      go_wp2_with fail
      go_ret2
      exact ⟨rfl, rfl⟩
end Go.Proofs.Ytpcppnoomogloaa.Fr
