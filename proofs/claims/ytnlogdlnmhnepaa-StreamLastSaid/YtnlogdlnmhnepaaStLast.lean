/- The walk of the statement StreamLast. -/
import Derived.Test.YtnlogdlnmhnepaaStA
namespace Go.Proofs.Ytnlogdlnmhnepaa.St
set_option linter.unusedSimpArgs false
set_option linter.unusedVariables false
open Go.RowKit Go.Shelf Go.Proofs.Ytnlogdlnmhnepaa.Ch

set_option maxRecDepth 100000 in
set_option maxHeartbeats 4000000 in
theorem last_walk (key nonce : List Nat) (a : Option Addr) (len cap : Nat) (bs : List Nat) (back : Int) (w : World) (hk : key.length = 32) (hkb : ∀ x ∈ key, x < 256) (hn : nonce.length = 12) (hnb : ∀ x ∈ nonce, x < 256) (hr : Row8 w a len cap bs) (hbk : 0 ≤ back ∧ back ≤ 255) :
    Calls Try.prog 6 #[.agg (bv key).toArray, .agg (bv nonce).toArray, .slice a len cap, .int .u8 back] w fun e w' => e = .returned (.bool true) ∧ Below w.heap.size w w' := by
  obtain ⟨bk, rfl⟩ := Int.eq_ofNat_of_zero_le hbk.1
  have hle : len ≤ 9223372036854775807 := by have := hr.2.1; have := hr.2.2.1; omega
  have HK := Lib.hid (show (Try.prog.info? 22).map (·.size) = some key.length by rw [hk]; kernel_rfl)
  have HN := Lib.hid (show (Try.prog.info? 24).map (·.size) = some nonce.length by rw [hn]; kernel_rfl)
  have HK3 := Lib.hid (show (Try.prog.info? 22).map (·.size) = some (nv .u8 key).length by rw [nv_length, hk]; kernel_rfl)
  have HN3 := Lib.hid (show (Try.prog.info? 24).map (·.size) = some (nv .u8 nonce).length by rw [nv_length, hn]; kernel_rfl)
  have u32 := Try.underlying22
  have u12 := Try.underlying24
  have u8 := Try.underlying5
  have us := Try.underlying25
  have ut := Try.underlying9
  have HKL := Lib.hid hk
  have HNL := Lib.hid hn
  clear hk hn
  by_cases h300 : len ≤ 300
  · have hR : RdB w a len cap bs := ⟨by omega, hr⟩
    have hbl : bs.length = len := hr.1
    have hxl : (xorS key 0 nonce bs).length = len := by rw [xorS_length]; exact hbl
    have HBL := Lib.hid hbl
    have hd : decide (300 < len) = false := decide_eq_false (by omega)
    obtain ⟨n, hn5⟩ : ∃ n : Nat, (bk : Int) % 5 = (n : Int) := ⟨bk % 5, by omega⟩
    have hn4 : n ≤ 4 := by omega
    obtain ⟨ct, hcs⟩ : ∃ ct : Nat, 4294967295 - (n : Int) = (ct : Int) := ⟨4294967295 - n, by omega⟩
    have hcl : ct < 4294967296 := by omega
    have hff : fits ct len ↔ len ≤ 64 * (n + 1) := by unfold fits; omega
    have hf0 : fits ct 0 := by unfold fits; omega
    clear hbl hxl
    by_cases hf : fits ct len
    · have h64x := hff.1 hf
      have h64 : decide ((len : Int) ≤ 64 * ((n : Int) + 1)) = true := decide_eq_true (by have := hff; omega)
      have HF := Lib.hid hff
      clear hff
      go_enter Try.func6, Try.ntmps6
      have s0 : LW w [(w.heap.size + 1, 24, .u8, nonce), (w.heap.size, 22, .u8, key)] [(a, len, cap, bs)] ((w.alloc (.cells (nv .u8 key).toArray 22)).alloc (.cells (nv .u8 nonce).toArray 24)) := by
        have := (((LW.nil (xrefl w)).addR hR).new 22 .u8 key).new 24 .u8 nonce
        rw [World.size_alloc] at this
        exact this
      clear hr hR
      go_wp2_with (first
        | (go_at_call 9; refine (awake_any _).mono ?_; rintro e w1 ⟨rfl, hb1⟩; have s1 := s0.below hb1; clear s0 hb1)
        | (refine wp_load_arr rfl 22 (.tmp 4) rfl w.heap.size rfl (s1.blk 1 rfl) 32 5 Try.underlying22 HK.out ?_)
        | (refine wp_load_arr rfl 24 (.tmp 5) rfl (w.heap.size + 1) rfl (s1.blk 0 rfl) 12 5 Try.underlying24 HN.out ?_)
        | fail)
      refine (Xor_any _ key nonce ct a len cap bs HKL.out hkb HNL.out hnb hcl (s1.rd 0 rfl) hf).mono ?_
      intro e w3 h
      obtain ⟨ad3, cp3, rfl, p3, b3⟩ := XorOK.at (n := len) h (by rw [xorS_length]; exact HBL.out)
      have s3 := (s1.below b3).addR (p3.rdb (by rw [xorS_length]; exact HBL.out) (by omega))
      clear h s1 b3
      go_wp2_with (first
        | (refine wp_load_arr rfl 22 (.tmp 4) rfl w.heap.size rfl (s3.blk 1 rfl) 32 5 Try.underlying22 HK.out ?_)
        | (refine wp_load_arr rfl 24 (.tmp 5) rfl (w.heap.size + 1) rfl (s3.blk 0 rfl) 12 5 Try.underlying24 HN.out ?_)
        | fail)
      refine (Xor_any _ key nonce ct none 0 0 [] HKL.out hkb HNL.out hnb hcl (rd_nil _) hf0).mono ?_
      intro e w5 h
      obtain ⟨ad5, cp5, rfl, p5, b5⟩ := XorOK.at (n := 0) h rfl
      have s5 := (s3.below b5).addR (p5.rdb rfl (by decide))
      clear h s3 b5
      go_wp2_with fail
      go_ret
      exact ⟨rfl, s5.bel⟩
    · have h64x := fun h => hf (hff.2 h)
      have h64y : ¬ ((len : Int) ≤ 64 * ((n : Int) + 1)) := fun h => h64x (by omega)
      clear h64x
      have h64 : decide ((len : Int) ≤ 64 * ((n : Int) + 1)) = false := decide_eq_false h64y
      have HF := Lib.hid hff
      clear hff
      go_enter Try.func6, Try.ntmps6
      have s0 : LW w [(w.heap.size + 1, 24, .u8, nonce), (w.heap.size, 22, .u8, key)] [(a, len, cap, bs)] ((w.alloc (.cells (nv .u8 key).toArray 22)).alloc (.cells (nv .u8 nonce).toArray 24)) := by
        have := (((LW.nil (xrefl w)).addR hR).new 22 .u8 key).new 24 .u8 nonce
        rw [World.size_alloc] at this
        exact this
      clear hr hR
      go_wp2_with (first
        | (go_at_call 9; refine (awake_any _).mono ?_; rintro e w1 ⟨rfl, hb1⟩; have s1 := s0.below hb1; clear s0 hb1)
        | (refine wp_load_arr rfl 22 (.tmp 4) rfl w.heap.size rfl (s1.blk 1 rfl) 32 5 Try.underlying22 HK.out ?_)
        | (refine wp_load_arr rfl 24 (.tmp 5) rfl (w.heap.size + 1) rfl (s1.blk 0 rfl) 12 5 Try.underlying24 HN.out ?_)
        | fail)
      refine (Xor_err _ key nonce ct a len cap bs hcl (s1.rd 0 rfl) hf).mono ?_
      rintro e w3 ⟨rfl, b3⟩
      have s3 := s1.below b3
      clear s1 b3
      go_wp2_with (first
        | (refine wp_load_arr rfl 22 (.tmp 4) rfl w.heap.size rfl (s3.blk 1 rfl) 32 5 Try.underlying22 HK.out ?_)
        | (refine wp_load_arr rfl 24 (.tmp 5) rfl (w.heap.size + 1) rfl (s3.blk 0 rfl) 12 5 Try.underlying24 HN.out ?_)
        | fail)
      refine (Xor_any _ key nonce ct none 0 0 [] HKL.out hkb HNL.out hnb hcl (rd_nil _) hf0).mono ?_
      intro e w5 h
      obtain ⟨ad5, cp5, rfl, p5, b5⟩ := XorOK.at (n := 0) h rfl
      have s5 := (s3.below b5).addR (p5.rdb rfl (by decide))
      clear h s3 b5
      go_wp2_with fail
      go_ret
      exact ⟨rfl, s5.bel⟩
  · have hd : decide (300 < len) = true := decide_eq_true (by omega)
    go_enter Try.func6, Try.ntmps6
    go_wp2_with (first
      | (go_at_call 9; refine (awake_any _).mono ?_; rintro e w1 ⟨rfl, hb1⟩)
      | fail)
    go_ret
    exact ⟨rfl, xtrans (xalloc (xnew _ _) _) hb1⟩
end Go.Proofs.Ytnlogdlnmhnepaa.St
