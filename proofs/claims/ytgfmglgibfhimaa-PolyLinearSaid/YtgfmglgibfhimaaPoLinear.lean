/- The walk of the statement PolyLinear: tags under keys of one r differ by what their s do. -/
import Derived.Test.YtgfmglgibfhimaaPoA
import Derived.Test.YtgfmglgibfhimaaPoLaws
import Derived.Test.YtgfmglgibfhimaaLw
import Derived.Deep.QuietTactic
import Derived.BigQuiet
namespace Go.Proofs.Ytgfmglgibfhimaa.Po
set_option linter.unusedSimpArgs false
set_option linter.unusedVariables false
open Go.RowKit

theorem wrap_nat (n : Nat) (h : n < 9223372036854775808) : IntKind.i64.wrap (n : Int) = (n : Int) := by rw [IntKind.wrap_i64]; omega
theorem wrap_nat2 (m k n : Nat) (e : n = m + k) (h : n < 9223372036854775808) : IntKind.i64.wrap ((m : Int) + (k : Int)) = (n : Int) := by subst e; rw [IntKind.wrap_i64]; omega
theorem wrap_16 (i n : Nat) (e : n = 16 + i) (h : n < 9223372036854775808) : IntKind.i64.wrap (16 + (i : Int)) = (n : Int) := by subst e; rw [IntKind.wrap_i64]; omega
theorem mod_neF (m n : Nat) (h : m % 256 = n % 256) : ((m : Int) % 256 != (n : Int) % 256) = false := by
  have : (m : Int) % 256 = (n : Int) % 256 := by omega
  rw [this]; simp
set_option maxRecDepth 100000 in
set_option maxHeartbeats 2000000 in
theorem linear_walk (key s : List Nat) (a : Option Addr) (len cap : Nat) (bs : List Nat) (w : World) (hk : key.length = 32) (hkb : ∀ x ∈ key, x < 256) (hs : s.length = 16) (hsb : ∀ x ∈ s, x < 256) (hr : Row8 w a len cap bs) :
    Calls Try.prog 7 #[.agg (bv key).toArray, .agg (bv s).toArray, .slice a len cap] w fun e w' => e = .returned (.bool true) ∧ Below w.heap.size w w' := by
  have hle : len ≤ 9223372036854775807 := by have := hr.2.1; have := hr.2.2.1; omega
  by_cases h300 : len ≤ 300
  · have hR : RdB w a len cap bs := ⟨by omega, hr⟩
    have hpa : ∀ x, a = some x → 0 < len → x.block < w.heap.size := fun x hx h0 => by subst hx; exact hR.lt h0
    have hd : decide (300 < len) = false := decide_eq_false (by omega)
    have hkl : (key.take 16 ++ s).length = 32 := by simp [hk, hs]
    have c0 := Lib.hid (fun W h => Sum_any W key a len cap bs hk hkb h)
    have c1 := Lib.hid (fun W h => Sum_any W (key.take 16 ++ s) a len cap bs hkl (kEnd_lt key s hkb hsb) h)
    have hlin := Lib.hid (linear key s bs hk hs)
    have hxl := tag_length key bs
    have hxb := tag_lt key bs
    have hyl := tag_length (key.take 16 ++ s) bs
    have hyb := tag_lt (key.take 16 ++ s) bs
    have hZE := Lib.hid (kN_end key s hk hs)
    generalize tag key bs = xs at c0 hlin hxl hxb
    generalize tag (key.take 16 ++ s) bs = ys at c1 hlin hyl hyb
    have hkd : ∀ x ∈ key.drop 16, x < 256 := fun x hx => hkb x (List.mem_of_mem_drop hx)
    have HZK := Lib.hid (show (Try.prog.info? 22).map (·.size) = some key.length by rw [hk]; kernel_rfl)
    have HZK2 := Lib.hid (show (Try.prog.info? 22).map (·.size) = some (nv .u8 key).toArray.size by simp only [List.size_toArray, nv_length]; rw [hk]; kernel_rfl)
    have HSK := Lib.hid (show 32 = (nv .u8 key).toArray.size by simp [nv, hk])
    have HZX := Lib.hid (show (Try.prog.info? 23).map (·.size) = some (nv .u8 xs).toArray.size by simp only [List.size_toArray, nv_length]; rw [hxl]; kernel_rfl)
    have HSX := Lib.hid (show 16 = (nv .u8 xs).toArray.size by simp [nv, hxl])
    have HZY := Lib.hid (show (Try.prog.info? 23).map (·.size) = some (nv .u8 ys).toArray.size by simp only [List.size_toArray, nv_length]; rw [hyl]; kernel_rfl)
    have HSY := Lib.hid (show 16 = (nv .u8 ys).toArray.size by simp [nv, hyl])
    have HK := Lib.hid hk
    have HS := Lib.hid hs
    have HXL := Lib.hid hxl
    have HYL := Lib.hid hyl
    have HKL := Lib.hid hkl
    clear hk hs hxl hyl hkl
    go_enter Try.func7, Try.ntmps7
    have s0 : LW w [(w.heap.size + 1, 23, .u8, s), (w.heap.size, 22, .u8, key)] [(a, len, cap, bs)] ((w.alloc (.cells (nv .u8 key).toArray 22)).alloc (.cells (nv .u8 s).toArray 23)) := by
      have := (((LW.nil (xrefl w)).addR hR).new 22 .u8 key).new 23 .u8 s
      rw [World.size_alloc] at this
      exact this
    clear hR hr
    go_wp2_with (first
      | (go_at_call 8; refine (awake_any _).mono ?_; rintro e w1 ⟨rfl, hb1⟩; have s1 := s0.below hb1; have k1 := s1.blk 1 rfl; clear s0 hb1)
      | (refine wp_load_arr rfl 22 (.tmp 3) rfl w.heap.size rfl k1 32 5 Try.underlying22 HZK.out ?_)
      | (refine wp_store_new rfl 22 (.tmp 8) (.tmp 20) rfl rfl _ (nv .u8 key).toArray rfl HZK2.out HSK.out (nv_one _ _) ?_; have s2 := s1.new 22 .u8 key; have hN1 : w.heap.size + 1 < w1.heap.size := s1.lt _ List.mem_cons_self; clear s1)
      | fail)
    clear k1
    generalize w1.heap.size = Z at s2 hN1 ⊢
    refine at_world (fun V => LW w [(Z, 22, .u8, kN key s 0), (w.heap.size + 1, 23, .u8, s), (w.heap.size, 22, .u8, key)] [(a, len, cap, bs)] V) (by rw [kN_zero]; exact s2) ?_
    clear s2
    intro V sV
    go_loopw [9] (fun r wr => ∃ i : Nat, i ≤ 16 ∧ r = .int .i64 i ∧ LW w [(Z, 22, .u8, kN key s i), (w.heap.size + 1, 23, .u8, s), (w.heap.size, 22, .u8, key)] [(a, len, cap, bs)] wr) (fun r _ => 16 - (intOf r).toNat)
    case atStart => exact ⟨0, by decide, rfl, sV⟩
    case round =>
      clear sV
      obtain ⟨i, hi, rfl, hS⟩ := hrel
      have hzl := kN_length key s i HK.out hi
      by_cases hlt : i < 16
      · have hneL : ∀ e ∈ [(w.heap.size + 1, 23, IntKind.u8, s), (w.heap.size, 22, IntKind.u8, key)], e.1 ≠ Z := by
          intro e he
          simp only [List.mem_cons, List.not_mem_nil, or_false] at he
          rcases he with rfl | rfl
          · show w.heap.size + 1 ≠ Z; omega
          · show w.heap.size ≠ Z; omega
        have hneR : ∀ e ∈ [(a, len, cap, bs)], ∀ x, e.1 = some x → 0 < e.2.1 → x.block ≠ Z := by
          intro e he x hx h0
          simp only [List.mem_cons, List.not_mem_nil, or_false] at he
          subst he
          have := hpa x hx h0
          omega
        have hB := hS.blk 0 rfl
        have hx := (hS.blk 1 rfl).cell i (by have := HS.out; omega)
        have hc := hB.cell (16 + i) (by omega)
        have hf := hB.frozen (16 + i)
        have hfin := hS.set1 (by omega) hneL hneR (16 + i) (s.getD i 0)
        rw [kN_succ key s i HK.out hlt] at hfin
        have hv := getD_lt s hsb i
        generalize s.getD i 0 = v at hx hfin hv
        generalize (kN key s i).getD (16 + i) 0 = z1 at hc
        clear hneL hneR hB hS hzl
        have hid : decide ((i : Int) < 16) = true := decide_eq_true (by omega)
        have hi32 : (16 : Int) + (i : Int) < 32 := by omega
        go_wp2_with fail
        exact ⟨⟨i + 1, by omega, by go_num, hfin⟩, by simp [intOf]; omega⟩
      · obtain rfl : i = 16 := by omega
        rw [show ((16 : Nat) : Int) = 16 from rfl]
        rw [hZE.out] at hS
        have HZZ := Lib.hid (show (Try.prog.info? 22).map (·.size) = some (key.take 16 ++ s).length by rw [HKL.out]; kernel_rfl)
        clear hzl
        generalize key.take 16 ++ s = zf at hS HZZ c1 HKL
        have k3 := hS.blk 2 rfl
        go_wp2_with (first
          | (refine wp_load_arr rfl 22 (.tmp 3) rfl w.heap.size rfl k3 32 5 Try.underlying22 HZK.out ?_; have tok : True := trivial)
          | (have _t := tok; go_at_call 9; refine (c0.out _ (hS.rd 0 rfl)).mono ?_; rintro e w3 ⟨rfl, hb3⟩; have s3 := hS.below hb3; clear hS k3 hb3 c0 tok _t)
          | (refine wp_store_new rfl 23 (.tmp 10) (.tmp 33) rfl rfl _ (nv .u8 xs).toArray rfl HZX.out HSX.out (nv_one _ _) ?_; have hN3 := s3.lt _ List.mem_cons_self; have s4 := s3.new 23 .u8 xs; clear s3; generalize w3.heap.size = X at s4 hN3 ⊢; have k4 := s4.blk 1 rfl)
          | (refine wp_load_arr rfl 22 (.tmp 8) rfl Z rfl k4 32 5 Try.underlying22 HZZ.out ?_)
          | (go_at_call 9; refine (c1.out _ (s4.rd 0 rfl)).mono ?_; rintro e w5 ⟨rfl, hb5⟩; have s5 := s4.below hb5; clear s4 k4 hb5 c1)
          | (refine wp_store_new rfl 23 (.tmp 11) (.tmp 36) rfl rfl _ (nv .u8 ys).toArray rfl HZY.out HSY.out (nv_one _ _) ?_; have s6 := s5.new 23 .u8 ys; clear s5)
          | fail)
        generalize w5.heap.size = Y at s6 ⊢
        refine at_world (fun V => LW w [(Y, 23, .u8, ys), (X, 23, .u8, xs), (Z, 22, .u8, zf), (w.heap.size + 1, 23, .u8, s), (w.heap.size, 22, .u8, key)] [(a, len, cap, bs)] V) s6 ?_
        clear s6 w5
        intro V2 sV2
        go_loopw [12, 13, 14] (fun r12 r13 r wr => ∃ i : Nat, i ≤ 16 ∧ r = .int .i64 i ∧ r12 = .int .i64 (cc (lF xs s) i) ∧ r13 = .int .i64 (cc (lF ys (key.drop 16)) i) ∧ LW w [(Y, 23, .u8, ys), (X, 23, .u8, xs), (Z, 22, .u8, zf), (w.heap.size + 1, 23, .u8, s), (w.heap.size, 22, .u8, key)] [(a, len, cap, bs)] wr) (fun _ _ r _ => 16 - (intOf r).toNat)
        case atStart => exact ⟨0, by decide, rfl, rfl, rfl, sV2⟩
        case round =>
          clear sV2
          obtain ⟨i, hi, rfl, rfl, rfl, hS⟩ := hrel
          by_cases hlt : i < 16
          · have hc1 := (hS.blk 1 rfl).cell i (by have := HXL.out; omega)
            have hc2 := (hS.blk 3 rfl).cell i (by have := HS.out; omega)
            have hc3 := (hS.blk 0 rfl).cell i (by have := HYL.out; omega)
            have hc4 := (hS.blk 4 rfl).cell (16 + i) (by have := HK.out; omega)
            have b1 := getD_lt xs hxb i
            have b2 := getD_lt s hsb i
            have b3 := getD_lt ys hyb i
            have b4 := getD_lt key hkb (16 + i)
            have q1 := cc_le (lF xs s) 2 (fun j => lF_le xs s hxb hsb j) (by decide) i
            have q2 := cc_le (lF ys (key.drop 16)) 2 (fun j => lF_le ys _ hyb hkd j) (by decide) i
            have hl := hlin.out i hlt
            have e1 := cc_succ (lF xs s) i
            have e2 := cc_succ (lF ys (key.drop 16)) i
            unfold cd at hl
            rw [show lF xs s i = xs.getD i 0 + s.getD i 0 from rfl] at hl e1
            rw [show lF ys (key.drop 16) i = ys.getD i 0 + key.getD (16 + i) 0 from by unfold lF; simp [List.getD_eq_getElem?_getD]] at hl e2
            have E1 := Lib.hid e1
            have E2 := Lib.hid e2
            clear e1 e2
            generalize xs.getD i 0 = x at hc1 b1 hl E1
            generalize s.getD i 0 = t at hc2 b2 hl E1
            generalize ys.getD i 0 = y at hc3 b3 hl E2
            generalize key.getD (16 + i) 0 = u at hc4 b4 hl E2
            generalize cc (lF xs s) i = p at q1 hl E1 ⊢
            generalize cc (lF ys (key.drop 16)) i = q at q2 hl E2 ⊢
            obtain ⟨p1, hp1⟩ : ∃ p1, p1 = p + x := ⟨_, rfl⟩
            obtain ⟨p2, hp2⟩ : ∃ p2, p2 = p1 + t := ⟨_, rfl⟩
            obtain ⟨r1, hr1⟩ : ∃ r1, r1 = q + y := ⟨_, rfl⟩
            obtain ⟨r2, hr2⟩ : ∃ r2, r2 = r1 + u := ⟨_, rfl⟩
            obtain ⟨j, hj⟩ : ∃ j, j = 16 + i := ⟨_, rfl⟩
            rw [← hj] at hc4
            have w0 := wrap_16 i j hj (by omega)
            have w1 := wrap_nat2 p x p1 hp1 (by omega)
            have w2 := wrap_nat2 p1 t p2 hp2 (by omega)
            have w3 := wrap_nat2 q y r1 hr1 (by omega)
            have w4 := wrap_nat2 r1 u r2 hr2 (by omega)
            have hj32 : (j : Int) < 32 := by omega
            have hne := mod_neF p2 r2 (by rw [hp2, hp1, hr2, hr1, Nat.add_assoc, Nat.add_assoc]; exact hl)
            have hp2b : (p2 : Int) ≤ 600 := by omega
            have hr2b : (r2 : Int) ≤ 600 := by omega
            have f1 : cc (lF xs s) (i + 1) = p2 / 256 := by rw [E1.out, hp2, hp1, Nat.add_assoc]
            have f2 : cc (lF ys (key.drop 16)) (i + 1) = r2 / 256 := by rw [E2.out, hr2, hr1, Nat.add_assoc]
            have F1 := Lib.hid f1
            have F2 := Lib.hid f2
            have HJ := Lib.hid hj
            have hid : decide ((i : Int) < 16) = true := decide_eq_true (by omega)
            clear f1 f2 hp1 hp2 hr1 hr2 hj E1 E2 hl
            go_wp2_with fail
            go_quiet (fail)
            go_wp2_with fail
            go_quiet (fail)
            go_wp2_with fail
            exact ⟨⟨i + 1, by omega, by go_num, by rw [F1.out]; exact congrArg (Value.int .i64) (by omega), by rw [F2.out]; exact congrArg (Value.int .i64) (by omega), by first | exact hS.drewN _ | exact (hS.drewN _).drewN _⟩, by simp [intOf]; omega⟩
          · obtain rfl : i = 16 := by omega
            rw [show ((16 : Nat) : Int) = 16 from rfl]
            go_wp2_with fail
            go_ret
            exact ⟨rfl, hS.bel⟩
  · have hd : decide (300 < len) = true := decide_eq_true (by omega)
    go_enter Try.func7, Try.ntmps7
    go_wp2_with (first
      | (go_at_call 8; refine (awake_any _).mono ?_; rintro e w1 ⟨rfl, hb1⟩)
      | fail)
    go_ret
    exact ⟨rfl, xtrans (xalloc (xnew _ _) _) hb1⟩
end Go.Proofs.Ytgfmglgibfhimaa.Po
