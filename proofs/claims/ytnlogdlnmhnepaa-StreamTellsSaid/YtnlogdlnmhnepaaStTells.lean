/- The walk of the statement StreamTells. -/
import Derived.Test.YtnlogdlnmhnepaaStA
import Derived.Test.YtnlogdlnmhnepaaStW4
namespace Go.Proofs.Ytnlogdlnmhnepaa.St
set_option linter.unusedSimpArgs false
set_option linter.unusedVariables false
open Go.RowKit Go.Shelf Go.Proofs.Ytnlogdlnmhnepaa.Ch

set_option maxRecDepth 100000 in
set_option maxHeartbeats 4000000 in
theorem tells_walk (key : List Nat) (counter : Int) (nonce : List Nat) (a : Option Addr) (len cap : Nat) (bs : List Nat) (w : World) (hk : key.length = 32) (hkb : ∀ x ∈ key, x < 256) (hct : 0 ≤ counter ∧ counter ≤ 4294967295) (hn : nonce.length = 12) (hnb : ∀ x ∈ nonce, x < 256) (hr : Row8 w a len cap bs) :
    Calls Try.prog 3 #[.agg (bv key).toArray, .int .u32 counter, .agg (bv nonce).toArray, .slice a len cap] w fun e w' => e = .returned (.bool true) ∧ Below w.heap.size w w' := by
  obtain ⟨ct, rfl⟩ := Int.eq_ofNat_of_zero_le hct.1
  have hcl : ct < 4294967296 := by omega
  have hle : len ≤ 9223372036854775807 := by have := hr.2.1; have := hr.2.2.1; omega
  have HK := Lib.hid (show (Try.prog.info? 22).map (·.size) = some key.length by rw [hk]; kernel_rfl)
  have HN := Lib.hid (show (Try.prog.info? 24).map (·.size) = some nonce.length by rw [hn]; kernel_rfl)
  have HK3 := Lib.hid (show (Try.prog.info? 22).map (·.size) = some (nv .u8 key).length by rw [nv_length, hk]; kernel_rfl)
  have HN3 := Lib.hid (show (Try.prog.info? 24).map (·.size) = some (nv .u8 nonce).length by rw [nv_length, hn]; kernel_rfl)
  have u32 := Try.underlying22
  have u12 := Try.underlying24
  have u8 := Try.underlying5
  have us := Try.underlying25
  have ut := Try.underlying9
  have HKL := Lib.hid hk
  have HNL := Lib.hid hn
  clear hk hn
  by_cases h300 : len ≤ 300
  · have hR : RdB w a len cap bs := ⟨by omega, hr⟩
    have hbl : bs.length = len := hr.1
    have hxl : (xorS key ct nonce bs).length = len := by rw [xorS_length]; exact hbl
    have HXL := Lib.hid hxl
    have hd : decide (300 < len) = false := decide_eq_false (by omega)
    clear hbl hxl
    by_cases hf : fits ct len
    · go_enter Try.func3, Try.ntmps3
      have s0 : LW w [(w.heap.size + 1, 24, .u8, nonce), (w.heap.size, 22, .u8, key)] [(a, len, cap, bs)] ((w.alloc (.cells (nv .u8 key).toArray 22)).alloc (.cells (nv .u8 nonce).toArray 24)) := by
        have := (((LW.nil (xrefl w)).addR hR).new 22 .u8 key).new 24 .u8 nonce
        rw [World.size_alloc] at this
        exact this
      clear hr hR
      go_wp2_with (first
        | (go_at_call 9; refine (awake_any _).mono ?_; rintro e w1 ⟨rfl, hb1⟩; have s1 := s0.below hb1; clear s0 hb1)
        | (refine wp_load_arr rfl 22 (.tmp 4) rfl w.heap.size rfl (s1.blk 1 rfl) 32 5 Try.underlying22 HK.out ?_)
        | (refine wp_load_arr rfl 24 (.tmp 6) rfl (w.heap.size + 1) rfl (s1.blk 0 rfl) 12 5 Try.underlying24 HN.out ?_)
        | fail)
      refine (Xor_any _ key nonce ct a len cap bs HKL.out hkb HNL.out hnb hcl (s1.rd 0 rfl) hf).mono ?_
      intro e w3 h
      obtain ⟨ad3, cp3, rfl, p3, b3⟩ := XorOK.at (n := len) h HXL.out
      have s3 := (s1.below b3).addR (p3.rdb HXL.out (by omega))
      clear h s1 b3
      go_wp2_with (first
        | (refine wp_load_arr rfl 22 (.tmp 4) rfl w.heap.size rfl (s3.blk 1 rfl) 32 5 Try.underlying22 HK.out ?_)
        | (refine wp_load_arr rfl 24 (.tmp 6) rfl (w.heap.size + 1) rfl (s3.blk 0 rfl) 12 5 Try.underlying24 HN.out ?_)
        | fail)
      refine (rXor_any _ key nonce ct a len cap bs HKL.out hkb HNL.out hnb hcl (s3.rd 1 rfl) hf).mono ?_
      intro e w5 h
      obtain ⟨ad5, cp5, rfl, p5, b5⟩ := XorOK.at (n := len) h HXL.out
      have s5 := (s3.below b5).addR (p5.rdb HXL.out (by omega))
      clear h s3 b5
      have hs1 := run_str us u8 ut (s5.rd 1 rfl).2
      have hs2 := run_str us u8 ut (s5.rd 0 rfl).2
      generalize xorS key ct nonce bs = xs at hs1 hs2 s5
      go_wp2_with fail
      go_ret
      exact ⟨rfl, s5.bel⟩
    · go_enter Try.func3, Try.ntmps3
      have s0 : LW w [(w.heap.size + 1, 24, .u8, nonce), (w.heap.size, 22, .u8, key)] [(a, len, cap, bs)] ((w.alloc (.cells (nv .u8 key).toArray 22)).alloc (.cells (nv .u8 nonce).toArray 24)) := by
        have := (((LW.nil (xrefl w)).addR hR).new 22 .u8 key).new 24 .u8 nonce
        rw [World.size_alloc] at this
        exact this
      clear hr hR
      go_wp2_with (first
        | (go_at_call 9; refine (awake_any _).mono ?_; rintro e w1 ⟨rfl, hb1⟩; have s1 := s0.below hb1; clear s0 hb1)
        | (refine wp_load_arr rfl 22 (.tmp 4) rfl w.heap.size rfl (s1.blk 1 rfl) 32 5 Try.underlying22 HK.out ?_)
        | (refine wp_load_arr rfl 24 (.tmp 6) rfl (w.heap.size + 1) rfl (s1.blk 0 rfl) 12 5 Try.underlying24 HN.out ?_)
        | fail)
      refine (Xor_err _ key nonce ct a len cap bs hcl (s1.rd 0 rfl) hf).mono ?_
      rintro e w3 ⟨rfl, b3⟩
      have s3 := s1.below b3
      clear s1 b3
      go_wp2_with (first
        | (refine wp_load_arr rfl 22 (.tmp 4) rfl w.heap.size rfl (s3.blk 1 rfl) 32 5 Try.underlying22 HK.out ?_)
        | (refine wp_load_arr rfl 24 (.tmp 6) rfl (w.heap.size + 1) rfl (s3.blk 0 rfl) 12 5 Try.underlying24 HN.out ?_)
        | fail)
      refine (rXor_err _ key nonce ct a len cap bs hcl (s3.rd 0 rfl) hf).mono ?_
      rintro e w5 ⟨rfl, b5⟩
      have s5 := s3.below b5
      clear s3 b5
      have hs1 := run_str us u8 ut (rd_nil w5).2
      go_wp2_with fail
      go_ret
      exact ⟨rfl, s5.bel⟩
  · have hd : decide (300 < len) = true := decide_eq_true (by omega)
    go_enter Try.func3, Try.ntmps3
    go_wp2_with (first
      | (go_at_call 9; refine (awake_any _).mono ?_; rintro e w1 ⟨rfl, hb1⟩)
      | fail)
    go_ret
    exact ⟨rfl, xtrans (xalloc (xnew _ _) _) hb1⟩
end Go.Proofs.Ytnlogdlnmhnepaa.St
