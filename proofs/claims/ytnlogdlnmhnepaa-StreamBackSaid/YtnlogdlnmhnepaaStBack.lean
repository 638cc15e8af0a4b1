/- The walk of the statement StreamBack. -/
import Derived.Test.YtnlogdlnmhnepaaStA
import Derived.Lib.MinMax
namespace Go.Proofs.Ytnlogdlnmhnepaa.St
set_option linter.unusedSimpArgs false
set_option linter.unusedVariables false
open Go.RowKit Go.Shelf Go.Proofs.Ytnlogdlnmhnepaa.Ch

set_option maxRecDepth 100000 in
set_option maxHeartbeats 4000000 in
theorem back_walk (key : List Nat) (counter : Int) (nonce : List Nat) (a : Option Addr) (len cap : Nat) (bs : List Nat) (cut : Int) (w : World) (hk : key.length = 32) (hkb : ∀ x ∈ key, x < 256) (hct : 0 ≤ counter ∧ counter ≤ 4294967295) (hn : nonce.length = 12) (hnb : ∀ x ∈ nonce, x < 256) (hr : Row8 w a len cap bs) (hcu : 0 ≤ cut ∧ cut ≤ 255) :
    Calls Try.prog 4 #[.agg (bv key).toArray, .int .u32 counter, .agg (bv nonce).toArray, .slice a len cap, .int .u8 cut] w fun e w' => e = .returned (.bool true) ∧ Below w.heap.size w w' := by
  obtain ⟨c0, rfl⟩ := Int.eq_ofNat_of_zero_le hct.1
  obtain ⟨cu, rfl⟩ := Int.eq_ofNat_of_zero_le hcu.1
  have hle : len ≤ 9223372036854775807 := by have := hr.2.1; have := hr.2.2.1; omega
  have HK := Lib.hid (show (Try.prog.info? 22).map (·.size) = some key.length by rw [hk]; kernel_rfl)
  have HN := Lib.hid (show (Try.prog.info? 24).map (·.size) = some nonce.length by rw [hn]; kernel_rfl)
  have HK3 := Lib.hid (show (Try.prog.info? 22).map (·.size) = some (nv .u8 key).length by rw [nv_length, hk]; kernel_rfl)
  have HN3 := Lib.hid (show (Try.prog.info? 24).map (·.size) = some (nv .u8 nonce).length by rw [nv_length, hn]; kernel_rfl)
  have u32 := Try.underlying22
  have u12 := Try.underlying24
  have u8 := Try.underlying5
  have us := Try.underlying25
  have ut := Try.underlying9
  have HKL := Lib.hid hk
  have HNL := Lib.hid hn
  clear hk hn
  by_cases h300 : len ≤ 300
  · have hR : RdB w a len cap bs := ⟨by omega, hr⟩
    have d1 : decide ((300 : Int) < (len : Int)) = false := decide_eq_false (by omega)
    obtain ⟨ct, hcm⟩ : ∃ ct : Nat, (c0 : Int) % 2147483648 = (ct : Int) := ⟨c0 % 2147483648, by omega⟩
    have hcl2 : ct < 2147483648 := by omega
    have hcl : ct < 4294967296 := by omega
    obtain ⟨p6, hp6⟩ : ∃ p6 : Nat, (cu : Int) % 6 = (p6 : Int) := ⟨cu % 6, by omega⟩
    obtain ⟨q6, hq6⟩ : ∃ q6 : Nat, (len : Int) / 64 = (q6 : Int) := ⟨len / 64, by omega⟩
    obtain ⟨k, hk⟩ : ∃ k : Nat, k = if q6 < p6 then q6 else p6 := ⟨_, rfl⟩
    have hmin : min (p6 : Int) (q6 : Int) = (k : Int) := by rw [Int.min_def, hk]; split <;> split <;> omega
    have hkq : k ≤ q6 := by rw [hk]; split <;> omega
    obtain ⟨m, hm⟩ : ∃ m : Nat, (64 : Int) * (k : Int) = (m : Int) := ⟨64 * k, by omega⟩
    have hme : m = 64 * k := by omega
    have hml : m ≤ len := by omega
    have hk6 : k ≤ 5 := by rw [hk]; split <;> omega
    have hmc : m ≤ cap := by have := hr.2.1; have := hr.2.2.1; omega
    have hcam : cap ≤ 9223372036854775807 := hr.2.2.1
    have hkw : IntKind.u32.wrap (k : Int) = (k : Int) := by rw [IntKind.wrap_u32]; omega
    obtain ⟨ck, hck⟩ : ∃ ck : Nat, ck = ct + k := ⟨_, rfl⟩
    have hcks : IntKind.u32.wrap ((ct : Int) + (k : Int)) = (ck : Int) := by rw [IntKind.wrap_u32]; omega
    have hckl : ck < 4294967296 := by omega
    have hmw : IntKind.i64.wrap (m : Int) = (m : Int) := by rw [IntKind.wrap_i64]; omega
    have fa : fits ct len := by unfold fits; omega
    have fm : fits ct m := by unfold fits; omega
    have fr : fits ck (len - m) := by unfold fits; omega
    have hbl : bs.length = len := hr.1
    have hbb := hr.2.2.2.1
    have hsum := xorS_append key ct nonce bs k (by rw [hbl]; omega)
    rw [← hme, ← hck] at hsum
    have HSUM := Lib.hid hsum
    have HBL := Lib.hid hbl
    have HF := Lib.hid (And.intro fa (And.intro fm fr))
    have HLE := Lib.hid (And.intro h300 hml)
    obtain ⟨iu, hiu1, hiu2⟩ : ∃ iu, Try.prog.info? 5 = some iu ∧ iu.size = 1 := ⟨_, rfl, by kernel_rfl⟩
    have HIU := Lib.hid (And.intro hiu1 hiu2)
    clear hbl fa fm fr hsum hk hme hck hiu1 hiu2
    go_enter Try.func4, Try.ntmps4
    have s0 : LW w [(w.heap.size + 1, 24, .u8, nonce), (w.heap.size, 22, .u8, key)] [(a, len, cap, bs)] ((w.alloc (.cells (nv .u8 key).toArray 22)).alloc (.cells (nv .u8 nonce).toArray 24)) := by
      have := (((LW.nil (xrefl w)).addR hR).new 22 .u8 key).new 24 .u8 nonce
      rw [World.size_alloc] at this
      exact this
    clear hr hR
    go_wp2_with (first
      | (go_at_call 9; refine (awake_any _).mono ?_; rintro e w1 ⟨rfl, hb1⟩; have s1 := s0.below hb1; clear s0 hb1; have st1 := run_str us u8 ut (s1.rd 0 rfl).2)
      | (refine wp_load_arr rfl 22 (.tmp 5) rfl w.heap.size rfl (s1.blk 1 rfl) 32 5 Try.underlying22 HK.out ?_)
      | (refine wp_load_arr rfl 24 (.tmp 7) rfl (w.heap.size + 1) rfl (s1.blk 0 rfl) 12 5 Try.underlying24 HN.out ?_)
      | fail)
    refine (Xor_any _ key nonce ct a len cap bs HKL.out hkb HNL.out hnb hcl (s1.rd 0 rfl) HF.out.1).mono ?_
    intro e w3 h
    obtain ⟨ad3, cp3, rfl, p3, b3⟩ := XorOK.at (n := len) h (by rw [xorS_length]; exact HBL.out)
    have s3 := (s1.below b3).addR (p3.rdb (by rw [xorS_length]; exact HBL.out) (by omega))
    clear h s1 b3
    go_wp2_with (first
      | (refine wp_load_arr rfl 22 (.tmp 5) rfl w.heap.size rfl (s3.blk 1 rfl) 32 5 Try.underlying22 HK.out ?_)
      | (refine wp_load_arr rfl 24 (.tmp 7) rfl (w.heap.size + 1) rfl (s3.blk 0 rfl) 12 5 Try.underlying24 HN.out ?_)
      | fail)
    refine (Xor_any _ key nonce ct ad3 len cp3 (xorS key ct nonce bs) HKL.out hkb HNL.out hnb hcl (s3.rd 0 rfl) HF.out.1).mono ?_
    intro e w4 h
    obtain ⟨ad4, cp4, rfl, p4, b4⟩ := XorOK.at (n := len) h (by rw [xorS_length, xorS_length]; exact HBL.out)
    have s4 := (s3.below b4).addR (p4.rdb (by rw [xorS_length, xorS_length]; exact HBL.out) (by omega))
    clear h s3 b4
    rw [xorS_twice] at s4
    go_wp2_with fail
    try simp only [hmin]
    refine wp_region_held_drew (S := LW w [(w.heap.size + 1, 24, .u8, nonce), (w.heap.size, 22, .u8, key)] [(ad4, len, cp4, bs), (ad3, len, cp3, xorS key ct nonce bs), (a, len, cap, bs)]) (by kernel_rfl) (s4.drew) (fun hHeld => ?_)
    generalize World.drew _ = wv at hHeld ⊢
    have hb5w := hHeld.bel.size
    have HLO := Lib.hid (And.intro (rdb_low (hHeld.rd 0 rfl)) (And.intro (rdb_low (hHeld.rd 1 rfl)) (rdb_low (hHeld.rd 2 rfl))))
    refine takeL (i := 0) (v := .agg (nv .u8 key).toArray) rfl rfl (by kernel_rfl) (by kernel_rfl) (by kernel_rfl) (fun _ _ _ h => h) (yieldsIf_load_mid (by rfl) 22 (.tmp 5) rfl w.heap.size 0 (by rfl) (nv .u8 key) _ (fun _ h => blk_range (h.blk 1 rfl)) u32 rfl HK3.out) (by assumption) ?_
    try simp only [Act.put, List.setIfInBounds_toArray, List.set_cons_zero, List.set_cons_succ]
    refine takeL (i := 1) (v := ?_) rfl rfl (by kernel_rfl) (by kernel_rfl) (by kernel_rfl) (fun _ _ _ h => h) (Or.inl ⟨by rfl, ?_⟩) (by assumption) ?_
    rotate_left
    · (intro w' hSw; go_simp; try with_reducible rfl)
    try simp only [Act.put, List.setIfInBounds_toArray, List.set_cons_zero, List.set_cons_succ]
    refine takeL (i := 2) (v := .agg (nv .u8 nonce).toArray) rfl rfl (by kernel_rfl) (by kernel_rfl) (by kernel_rfl) (fun _ _ _ h => h) (yieldsIf_load_mid (by rfl) 24 (.tmp 7) rfl (w.heap.size + 1) 0 (by rfl) (nv .u8 nonce) _ (fun _ h => blk_range (h.blk 0 rfl)) u12 rfl HN3.out) (by assumption) ?_
    try simp only [Act.put, List.setIfInBounds_toArray, List.set_cons_zero, List.set_cons_succ]
    refine takeL (i := 3) (v := ?_) rfl rfl (by kernel_rfl) (by kernel_rfl) (by kernel_rfl) (fun _ _ _ h => h) (Or.inl ⟨by rfl, ?_⟩) (by assumption) ?_
    rotate_left
    · (intro w' hSw; go_simp; try with_reducible rfl)
    try simp only [Act.put, List.setIfInBounds_toArray, List.set_cons_zero, List.set_cons_succ]
    refine takeL (i := 4) (v := ?_) rfl rfl (by kernel_rfl) (by kernel_rfl) (by kernel_rfl) (fun _ _ _ h => h) (Or.inl ⟨by rfl, ?_⟩) (by assumption) ?_
    rotate_left
    · (intro w' hSw; go_simp; try with_reducible rfl)
    try simp only [Act.put, List.setIfInBounds_toArray, List.set_cons_zero, List.set_cons_succ]
    refine takeL (i := 5) (v := ?_) rfl rfl (by kernel_rfl) (by kernel_rfl) (by kernel_rfl) (fun _ _ _ h => h) (Or.inl ⟨by rfl, ?_⟩) (by assumption) ?_
    rotate_left
    · (intro w' hSw; go_simp; try with_reducible rfl)
    try simp only [Act.put, List.setIfInBounds_toArray, List.set_cons_zero, List.set_cons_succ]
    refine takeL (i := 6) (v := ?_) rfl rfl (by kernel_rfl) (by kernel_rfl) (by kernel_rfl) (fun _ _ _ h => h) (Or.inl ⟨by rfl, ?_⟩) (by assumption) ?_
    rotate_left
    · (intro w' hSw; go_simp; try with_reducible rfl)
    try simp only [Act.put, List.setIfInBounds_toArray, List.set_cons_zero, List.set_cons_succ]
    refine wpAnyH_ready (rs := [7]) (by kernel_rfl) (by simp) ?_
    refine consL rfl (fun K hK => ?_) AllReadyH.nil
    · rw [if_pos (by rfl)]
      go_simp
      refine (Xor_any _ key nonce ct a m cap (bs.take m) HKL.out hkb HNL.out hnb hcl (rdb_take (hHeld.rd 2 rfl) m hml) HF.out.2.1).mono ?_
      intro e w5 h
      obtain ⟨ad5, cp5, rfl, p5, b5⟩ := XorOK.at (n := m) h (by rw [xorS_length, List.length_take]; have := HBL.out; omega)
      refine hK.out _ _ (hHeld.below b5) (fun hHeld => ?_)
      clear hK K
      try simp only [Act.put, List.setIfInBounds_toArray, List.set_cons_zero, List.set_cons_succ]
      refine takeL (i := 8) (v := ?_) rfl rfl (by kernel_rfl) (by kernel_rfl) (by kernel_rfl) (fun _ _ _ h => h) (Or.inl ⟨by rfl, ?_⟩) (by assumption) ?_
      rotate_left
      · (intro w' hSw; go_simp; try with_reducible rfl)
      try simp only [Act.put, List.setIfInBounds_toArray, List.set_cons_zero, List.set_cons_succ]
      refine takeL (i := 9) (v := ?_) rfl rfl (by kernel_rfl) (by kernel_rfl) (by kernel_rfl) (fun _ _ _ h => h) (Or.inl ⟨by rfl, ?_⟩) (by assumption) ?_
      rotate_left
      · (intro w' hSw; go_simp; try with_reducible rfl)
      try simp only [Act.put, List.setIfInBounds_toArray, List.set_cons_zero, List.set_cons_succ]
      refine takeL (i := 10) (v := ?_) rfl rfl (by kernel_rfl) (by kernel_rfl) (by kernel_rfl) (fun _ _ _ h => h) (Or.inl ⟨by rfl, ?_⟩) (by assumption) ?_
      rotate_left
      · (intro w' hSw; go_simp; try with_reducible rfl)
      try simp only [Act.put, List.setIfInBounds_toArray, List.set_cons_zero, List.set_cons_succ]
      refine takeL (i := 11) (v := ?_) rfl rfl (by kernel_rfl) (by kernel_rfl) (by kernel_rfl) (fun _ _ _ h => h) (Or.inl ⟨by rfl, ?_⟩) (by assumption) ?_
      rotate_left
      · (intro w' hSw; go_simp; try with_reducible rfl)
      try simp only [Act.put, List.setIfInBounds_toArray, List.set_cons_zero, List.set_cons_succ]
      refine takeL (i := 12) (v := ?_) rfl rfl (by kernel_rfl) (by kernel_rfl) (by kernel_rfl) (fun _ _ _ h => h) (Or.inl ⟨by rfl, ?_⟩) (by assumption) ?_
      rotate_left
      · (intro w' hSw; go_simp; try with_reducible rfl)
      try simp only [Act.put, List.setIfInBounds_toArray, List.set_cons_zero, List.set_cons_succ]
      refine wpAnyH_done (by kernel_rfl) ?_ _
      have s5 := hHeld
      have hb5s := b5.size
      have oP0 : Own w5.drew wv.heap.size (.slice ad5 m cp5) (xorS key ct nonce (bs.take m)) := p5.below (below_drewN (xrefl _) 1)
      have hbv2 : wv.heap.size ≤ w5.drew.heap.size := hb5s
      clear hHeld p5 b5 hb5s
      go_wp2_with fail
      refine wp_region_held_drew (S := LW w [(w.heap.size + 1, 24, .u8, nonce), (w.heap.size, 22, .u8, key)] [(ad4, len, cp4, bs), (ad3, len, cp3, xorS key ct nonce bs), (a, len, cap, bs)]) (by kernel_rfl) (s5.drew) (fun hHeld => ?_)
      have oP := oP0
      have hb2 := hbv2
      generalize World.drew _ = wv2 at hHeld oP hb2 ⊢
      clear oP0 hbv2
      refine takeL (i := 0) (v := .agg (nv .u8 key).toArray) rfl rfl (by kernel_rfl) (by kernel_rfl) (by kernel_rfl) (fun _ _ _ h => h) (yieldsIf_load_mid (by rfl) 22 (.tmp 5) rfl w.heap.size 0 (by rfl) (nv .u8 key) _ (fun _ h => blk_range (h.blk 1 rfl)) u32 rfl HK3.out) (by assumption) ?_
      try simp only [Act.put, List.setIfInBounds_toArray, List.set_cons_zero, List.set_cons_succ]
      refine takeL (i := 1) (v := ?_) rfl rfl (by kernel_rfl) (by kernel_rfl) (by kernel_rfl) (fun _ _ _ h => h) (Or.inl ⟨by rfl, ?_⟩) (by assumption) ?_
      rotate_left
      · (intro w' hSw; go_simp; try with_reducible rfl)
      try simp only [Act.put, List.setIfInBounds_toArray, List.set_cons_zero, List.set_cons_succ]
      refine takeL (i := 2) (v := ?_) rfl rfl (by kernel_rfl) (by kernel_rfl) (by kernel_rfl) (fun _ _ _ h => h) (Or.inl ⟨by rfl, ?_⟩) (by assumption) ?_
      rotate_left
      · (intro w' hSw; go_simp; try with_reducible rfl)
      try simp only [Act.put, List.setIfInBounds_toArray, List.set_cons_zero, List.set_cons_succ]
      refine takeL (i := 3) (v := ?_) rfl rfl (by kernel_rfl) (by kernel_rfl) (by kernel_rfl) (fun _ _ _ h => h) (Or.inl ⟨by rfl, ?_⟩) (by assumption) ?_
      rotate_left
      · (intro w' hSw; go_simp; try with_reducible rfl)
      try simp only [Act.put, List.setIfInBounds_toArray, List.set_cons_zero, List.set_cons_succ]
      refine takeL (i := 4) (v := ?_) rfl rfl (by kernel_rfl) (by kernel_rfl) (by kernel_rfl) (fun _ _ _ h => h) (Or.inl ⟨by rfl, ?_⟩) (by assumption) ?_
      rotate_left
      · (intro w' hSw; go_simp; try with_reducible rfl)
      try simp only [Act.put, List.setIfInBounds_toArray, List.set_cons_zero, List.set_cons_succ]
      refine takeL (i := 5) (v := .agg (nv .u8 nonce).toArray) rfl rfl (by kernel_rfl) (by kernel_rfl) (by kernel_rfl) (fun _ _ _ h => h) (yieldsIf_load_mid (by rfl) 24 (.tmp 7) rfl (w.heap.size + 1) 0 (by rfl) (nv .u8 nonce) _ (fun _ h => blk_range (h.blk 0 rfl)) u12 rfl HN3.out) (by assumption) ?_
      try simp only [Act.put, List.setIfInBounds_toArray, List.set_cons_zero, List.set_cons_succ]
      refine takeL (i := 6) (v := ?_) rfl rfl (by kernel_rfl) (by kernel_rfl) (by kernel_rfl) (fun _ _ _ h => h) (Or.inl ⟨by rfl, ?_⟩) (by assumption) ?_
      rotate_left
      · (intro w' hSw; go_simp; try with_reducible rfl)
      try simp only [Act.put, List.setIfInBounds_toArray, List.set_cons_zero, List.set_cons_succ]
      refine takeL (i := 7) (v := ?_) rfl rfl (by kernel_rfl) (by kernel_rfl) (by kernel_rfl) (fun _ _ _ h => h) (Or.inl ⟨by rfl, ?_⟩) (by assumption) ?_
      rotate_left
      · (intro w' hSw; go_simp; try with_reducible rfl)
      try simp only [Act.put, List.setIfInBounds_toArray, List.set_cons_zero, List.set_cons_succ]
      refine takeL (i := 8) (v := ?_) rfl rfl (by kernel_rfl) (by kernel_rfl) (by kernel_rfl) (fun _ _ _ h => h) (Or.inl ⟨by rfl, ?_⟩) (by assumption) ?_
      rotate_left
      · (intro w' hSw; go_simp; try with_reducible rfl)
      try simp only [Act.put, List.setIfInBounds_toArray, List.set_cons_zero, List.set_cons_succ]
      refine takeL (i := 9) (v := .slice (cutA a cap m) (len - m) (cap - m)) rfl rfl (by kernel_rfl) (by kernel_rfl) (by kernel_rfl) (fun _ _ _ h => h) (yieldsSliceFrom (by rfl) rfl (by rfl) (by rfl) us HIU.out.1 HIU.out.2 hml) (by assumption) ?_
      try simp only [Act.put, List.setIfInBounds_toArray, List.set_cons_zero, List.set_cons_succ]
      refine wpAnyH_ready (rs := [10]) (by kernel_rfl) (by simp) ?_
      refine consL rfl (fun K hK => ?_) AllReadyH.nil
      · rw [if_pos (by rfl)]
        go_simp
        refine (Xor_any _ key nonce ck (cutA a cap m) (len - m) (cap - m) (bs.drop m) HKL.out hkb HNL.out hnb hckl ((hHeld.rd 2 rfl).cut m hml) HF.out.2.2).mono ?_
        intro e w6 h
        obtain ⟨ad6, cp6, rfl, p6, b6⟩ := XorOK.at (n := (len - m)) h (by rw [xorS_length, List.length_drop]; have := HBL.out; omega)
        refine hK.out _ _ (hHeld.below b6) (fun hHeld => ?_)
        clear hK K
        try simp only [Act.put, List.setIfInBounds_toArray, List.set_cons_zero, List.set_cons_succ]
        refine takeL (i := 11) (v := ?_) rfl rfl (by kernel_rfl) (by kernel_rfl) (by kernel_rfl) (fun _ _ _ h => h) (Or.inl ⟨by rfl, ?_⟩) (by assumption) ?_
        rotate_left
        · (intro w' hSw; go_simp; try with_reducible rfl)
        try simp only [Act.put, List.setIfInBounds_toArray, List.set_cons_zero, List.set_cons_succ]
        refine takeL (i := 12) (v := ?_) rfl rfl (by kernel_rfl) (by kernel_rfl) (by kernel_rfl) (fun _ _ _ h => h) (Or.inl ⟨by rfl, ?_⟩) (by assumption) ?_
        rotate_left
        · (intro w' hSw; go_simp; try with_reducible rfl)
        try simp only [Act.put, List.setIfInBounds_toArray, List.set_cons_zero, List.set_cons_succ]
        refine takeL (i := 13) (v := ?_) rfl rfl (by kernel_rfl) (by kernel_rfl) (by kernel_rfl) (fun _ _ _ h => h) (Or.inl ⟨by rfl, ?_⟩) (by assumption) ?_
        rotate_left
        · (intro w' hSw; go_simp; try with_reducible rfl)
        try simp only [Act.put, List.setIfInBounds_toArray, List.set_cons_zero, List.set_cons_succ]
        refine takeL (i := 14) (v := ?_) rfl rfl (by kernel_rfl) (by kernel_rfl) (by kernel_rfl) (fun _ _ _ h => h) (Or.inl ⟨by rfl, ?_⟩) (by assumption) ?_
        rotate_left
        · (intro w' hSw; go_simp; try with_reducible rfl)
        try simp only [Act.put, List.setIfInBounds_toArray, List.set_cons_zero, List.set_cons_succ]
        refine takeL (i := 15) (v := ?_) rfl rfl (by kernel_rfl) (by kernel_rfl) (by kernel_rfl) (fun _ _ _ h => h) (Or.inl ⟨by rfl, ?_⟩) (by assumption) ?_
        rotate_left
        · (intro w' hSw; go_simp; try with_reducible rfl)
        try simp only [Act.put, List.setIfInBounds_toArray, List.set_cons_zero, List.set_cons_succ]
        refine wpAnyH_done (by kernel_rfl) ?_ _
        have s6 := hHeld.addR (p6.rdb (by rw [xorS_length, List.length_drop]; have := HBL.out; omega) (by omega))
        have oP6 : Own w6.drew wv.heap.size (.slice ad5 m cp5) (xorS key ct nonce (bs.take m)) := (oP.below b6).below (below_drewN (xrefl _) 1)
        have HNR11 : Hid (∀ e ∈ [(ad6, len - m, cp6, xorS key ck nonce (bs.drop m)), (ad4, len, cp4, bs), (ad3, len, cp3, xorS key ct nonce bs), (a, len, cap, bs)], ∀ x, e.1 = some x → 0 < e.2.1 → (Value.slice ad5 m cp5).ownBlock ≠ some x.block) := Lib.hid (by
          intro e he x hx h0 q
          have h2 := (oP.block _ q).1
          have h3 := (oP.block _ q).2
          simp only [List.mem_cons, List.not_mem_nil, or_false] at he
          rcases he with rfl | rfl | rfl | rfl
          · have h4 := own_low p6 x hx
            omega
          · have := HLO.out.1 x hx h0; omega
          · have := HLO.out.2.1 x hx h0; omega
          · have := HLO.out.2.2 x hx h0; omega)
        have hbase11 : wv.heap.size ≤ w6.drew.heap.size := by
          have h1 := b6.size
          have h2 : w6.drew.heap.size = w6.heap.size := rfl
          omega
        have HL11 : Hid ((xorS key ct nonce (bs.take m)).length + (xorS key ck nonce (bs.drop m)).length ≤ 1000000000) := Lib.hid (by rw [xorS_length, xorS_length, List.length_take, List.length_drop]; have := HBL.out; have := HLE.out.1; omega)
        clear hHeld p6 oP b6 HLO
        go_wp2_with fail
        refine wp_region_held_drew (S := LW w [(w.heap.size + 1, 24, .u8, nonce), (w.heap.size, 22, .u8, key)] [(ad6, len - m, cp6, xorS key ck nonce (bs.drop m)), (ad4, len, cp4, bs), (ad3, len, cp3, xorS key ct nonce bs), (a, len, cap, bs)]) (by kernel_rfl) (s6.drew) (fun hHeld => ?_)
        have oPd := oP6
        generalize World.drew _ = wv3 at hHeld oPd hbase11 ⊢
        clear oP6
        refine takeL (i := 0) (v := ?_) rfl rfl (by kernel_rfl) (by kernel_rfl) (by kernel_rfl) (fun _ _ _ h => h) (Or.inl ⟨by rfl, ?_⟩) (by assumption) ?_
        rotate_left
        · (intro w' hSw; go_simp; try with_reducible rfl)
        try simp only [Act.put, List.setIfInBounds_toArray, List.set_cons_zero, List.set_cons_succ]
        refine takeL (i := 1) (v := ?_) rfl rfl (by kernel_rfl) (by kernel_rfl) (by kernel_rfl) (fun _ _ _ h => h) (Or.inl ⟨by rfl, ?_⟩) (by assumption) ?_
        rotate_left
        · (intro w' hSw; go_simp; try with_reducible rfl)
        try simp only [Act.put, List.setIfInBounds_toArray, List.set_cons_zero, List.set_cons_succ]
        refine takeL (i := 2) (v := ?_) rfl rfl (by kernel_rfl) (by kernel_rfl) (by kernel_rfl) (fun _ _ _ h => h) (Or.inl ⟨by rfl, ?_⟩) (by assumption) ?_
        rotate_left
        · (intro w' hSw; go_simp; try with_reducible rfl)
        try simp only [Act.put, List.setIfInBounds_toArray, List.set_cons_zero, List.set_cons_succ]
        refine takeL (i := 3) (v := ?_) rfl rfl (by kernel_rfl) (by kernel_rfl) (by kernel_rfl) (fun _ _ _ h => h) (Or.inl ⟨by rfl, ?_⟩) (by assumption) ?_
        rotate_left
        · (intro w' hSw; go_simp; try with_reducible rfl)
        try simp only [Act.put, List.setIfInBounds_toArray, List.set_cons_zero, List.set_cons_succ]
        refine takeL (i := 4) (v := ?_) rfl rfl (by kernel_rfl) (by kernel_rfl) (by kernel_rfl) (fun _ _ _ h => h) (Or.inl ⟨by rfl, ?_⟩) (by assumption) ?_
        rotate_left
        · (intro w' hSw; go_simp; try with_reducible rfl)
        try simp only [Act.put, List.setIfInBounds_toArray, List.set_cons_zero, List.set_cons_succ]
        refine takeL (i := 5) (v := ?_) rfl rfl (by kernel_rfl) (by kernel_rfl) (by kernel_rfl) (fun _ _ _ h => h) (Or.inl ⟨by rfl, ?_⟩) (by assumption) ?_
        rotate_left
        · (intro w' hSw; go_simp; try with_reducible rfl)
        try simp only [Act.put, List.setIfInBounds_toArray, List.set_cons_zero, List.set_cons_succ]
        refine takeL (i := 6) (v := ?_) rfl rfl (by kernel_rfl) (by kernel_rfl) (by kernel_rfl) (fun _ _ _ h => h) (Or.inl ⟨by rfl, ?_⟩) (by assumption) ?_
        rotate_left
        · (intro w' hSw; go_simp; try with_reducible rfl)
        try simp only [Act.put, List.setIfInBounds_toArray, List.set_cons_zero, List.set_cons_succ]
        refine takeL (i := 7) (v := ?_) rfl rfl (by kernel_rfl) (by kernel_rfl) (by kernel_rfl) (fun _ _ _ h => h) (Or.inl ⟨by rfl, ?_⟩) (by assumption) ?_
        rotate_left
        · (intro w' hSw; go_simp; try with_reducible rfl)
        try simp only [Act.put, List.setIfInBounds_toArray, List.set_cons_zero, List.set_cons_succ]
        refine takeL (i := 8) (v := ?_) rfl rfl (by kernel_rfl) (by kernel_rfl) (by kernel_rfl) (fun _ _ _ h => h) (Or.inl ⟨by rfl, ?_⟩) (by assumption) ?_
        rotate_left
        · (intro w' hSw; go_simp; try with_reducible rfl)
        try simp only [Act.put, List.setIfInBounds_toArray, List.set_cons_zero, List.set_cons_succ]
        refine takeL (i := 9) (v := ?_) rfl rfl (by kernel_rfl) (by kernel_rfl) (by kernel_rfl) (fun _ _ _ h => h) (Or.inl ⟨by rfl, ?_⟩) (by assumption) ?_
        rotate_left
        · (intro w' hSw; go_simp; try with_reducible rfl)
        try simp only [Act.put, List.setIfInBounds_toArray, List.set_cons_zero, List.set_cons_succ]
        refine takeL (i := 10) (v := ?_) rfl rfl (by kernel_rfl) (by kernel_rfl) (by kernel_rfl) (fun _ _ _ h => h) (Or.inl ⟨by rfl, ?_⟩) (by assumption) ?_
        rotate_left
        · (intro w' hSw; go_simp; try with_reducible rfl)
        try simp only [Act.put, List.setIfInBounds_toArray, List.set_cons_zero, List.set_cons_succ]
        refine takeL (i := 11) (v := ?_) rfl rfl (by kernel_rfl) (by kernel_rfl) (by kernel_rfl) (fun _ _ _ h => h) (Or.inl ⟨by rfl, ?_⟩) (by assumption) ?_
        rotate_left
        · (intro w' hSw; go_simp; try with_reducible rfl)
        try simp only [Act.put, List.setIfInBounds_toArray, List.set_cons_zero, List.set_cons_succ]
        refine takeL (i := 12) (v := ?_) rfl rfl (by kernel_rfl) (by kernel_rfl) (by kernel_rfl) (fun _ _ _ h => h) (Or.inl ⟨by rfl, ?_⟩) (by assumption) ?_
        rotate_left
        · (intro w' hSw; go_simp; try with_reducible rfl)
        try simp only [Act.put, List.setIfInBounds_toArray, List.set_cons_zero, List.set_cons_succ]
        refine takeL (i := 13) (v := ?_) rfl rfl (by kernel_rfl) (by kernel_rfl) (by kernel_rfl) (fun _ _ _ h => h) (Or.inl ⟨by rfl, ?_⟩) (by assumption) ?_
        rotate_left
        · (intro w' hSw; go_simp; try with_reducible rfl)
        try simp only [Act.put, List.setIfInBounds_toArray, List.set_cons_zero, List.set_cons_succ]
        refine takeL (i := 14) (v := ?_) rfl rfl (by kernel_rfl) (by kernel_rfl) (by kernel_rfl) (fun _ _ _ h => h) (Or.inl ⟨by rfl, ?_⟩) (by assumption) ?_
        rotate_left
        · (intro w' hSw; go_simp; try with_reducible rfl)
        try simp only [Act.put, List.setIfInBounds_toArray, List.set_cons_zero, List.set_cons_succ]
        refine takeL (i := 15) (v := ?_) rfl rfl (by kernel_rfl) (by kernel_rfl) (by kernel_rfl) (fun _ _ _ h => h) (Or.inl ⟨by rfl, ?_⟩) (by assumption) ?_
        rotate_left
        · (intro w' hSw; go_simp; try with_reducible rfl)
        try simp only [Act.put, List.setIfInBounds_toArray, List.set_cons_zero, List.set_cons_succ]
        refine takeL (i := 16) (v := ?_) rfl rfl (by kernel_rfl) (by kernel_rfl) (by kernel_rfl) (fun _ _ _ h => h) (Or.inl ⟨by rfl, ?_⟩) (by assumption) ?_
        rotate_left
        · (intro w' hSw; go_simp; try with_reducible rfl)
        try simp only [Act.put, List.setIfInBounds_toArray, List.set_cons_zero, List.set_cons_succ]
        refine takeL (i := 17) (v := ?_) rfl rfl (by kernel_rfl) (by kernel_rfl) (by kernel_rfl) (fun _ _ _ h => h) (Or.inl ⟨by rfl, ?_⟩) (by assumption) ?_
        rotate_left
        · (intro w' hSw; go_simp; try with_reducible rfl)
        try simp only [Act.put, List.setIfInBounds_toArray, List.set_cons_zero, List.set_cons_succ]
        refine takeL (i := 18) (v := ?_) rfl rfl (by kernel_rfl) (by kernel_rfl) (by kernel_rfl) (fun _ _ _ h => h) (Or.inl ⟨by rfl, ?_⟩) (by assumption) ?_
        rotate_left
        · (intro w' hSw; go_simp; try with_reducible rfl)
        try simp only [Act.put, List.setIfInBounds_toArray, List.set_cons_zero, List.set_cons_succ]
        refine takeL (i := 19) (v := .string (strB bs)) rfl rfl (by kernel_rfl) (by kernel_rfl) (by kernel_rfl) (fun _ _ _ h => h) (yieldsStr (by rfl) (x := .tmp 98) rfl (by rfl) us u8 ut (fun W h => (h.rd 1 rfl).2)) (by assumption) ?_
        try simp only [Act.put, List.setIfInBounds_toArray, List.set_cons_zero, List.set_cons_succ]
        refine takeL (i := 20) (v := ?_) rfl rfl (by kernel_rfl) (by kernel_rfl) (by kernel_rfl) (fun _ _ _ h => h) (Or.inl ⟨by rfl, ?_⟩) (by assumption) ?_
        rotate_left
        · (intro w' hSw; go_simp; try with_reducible rfl)
        try simp only [Act.put, List.setIfInBounds_toArray, List.set_cons_zero, List.set_cons_succ]
        refine takeL (i := 21) (v := .bool true) rfl rfl (by kernel_rfl) (by kernel_rfl) (by kernel_rfl) (fun _ _ _ h => h) (yieldsEqS (by rfl) rfl (by rfl) (by rfl) (beq_self_eq_true _)) (by assumption) ?_
        try simp only [Act.put, List.setIfInBounds_toArray, List.set_cons_zero, List.set_cons_succ]
        refine takeL (i := 22) (v := ?_) rfl rfl (by kernel_rfl) (by kernel_rfl) (by kernel_rfl) (fun _ _ _ h => h) (Or.inl ⟨by rfl, ?_⟩) (by assumption) ?_
        rotate_left
        · (intro w' hSw; go_simp; try with_reducible rfl)
        try simp only [Act.put, List.setIfInBounds_toArray, List.set_cons_zero, List.set_cons_succ]
        refine takeL (i := 23) (v := ?_) rfl rfl (by kernel_rfl) (by kernel_rfl) (by kernel_rfl) (fun _ _ _ h => h) (Or.inl ⟨by rfl, ?_⟩) (by assumption) ?_
        rotate_left
        · (intro w' hSw; go_simp; try with_reducible rfl)
        try simp only [Act.put, List.setIfInBounds_toArray, List.set_cons_zero, List.set_cons_succ]
        refine takeL (i := 24) (v := ?_) rfl rfl (by kernel_rfl) (by kernel_rfl) (by kernel_rfl) (fun _ _ _ h => h) (Or.inl ⟨by rfl, ?_⟩) (by assumption) ?_
        rotate_left
        · (intro w' hSw; go_simp; try with_reducible rfl)
        try simp only [Act.put, List.setIfInBounds_toArray, List.set_cons_zero, List.set_cons_succ]
        refine takeL (i := 25) (v := .string (strB bs)) rfl rfl (by kernel_rfl) (by kernel_rfl) (by kernel_rfl) (fun _ _ _ h => h) (yieldsStr (by rfl) (x := .tmp 104) rfl (by rfl) us u8 ut (fun W h => (h.rd 3 rfl).2)) (by assumption) ?_
        try simp only [Act.put, List.setIfInBounds_toArray, List.set_cons_zero, List.set_cons_succ]
        refine takeL (i := 26) (v := ?_) rfl rfl (by kernel_rfl) (by kernel_rfl) (by kernel_rfl) (fun _ _ _ h => h) (Or.inl ⟨by rfl, ?_⟩) (by assumption) ?_
        rotate_left
        · (intro w' hSw; go_simp; try with_reducible rfl)
        try simp only [Act.put, List.setIfInBounds_toArray, List.set_cons_zero, List.set_cons_succ]
        refine takeL (i := 27) (v := .bool true) rfl rfl (by kernel_rfl) (by kernel_rfl) (by kernel_rfl) (fun _ _ _ h => h) (yieldsEqS (by rfl) rfl (by rfl) (by rfl) (beq_self_eq_true _)) (by assumption) ?_
        try simp only [Act.put, List.setIfInBounds_toArray, List.set_cons_zero, List.set_cons_succ]
        refine takeL (i := 28) (v := ?_) rfl rfl (by kernel_rfl) (by kernel_rfl) (by kernel_rfl) (fun _ _ _ h => h) (Or.inl ⟨by rfl, ?_⟩) (by assumption) ?_
        rotate_left
        · (intro w' hSw; go_simp; try with_reducible rfl)
        try simp only [Act.put, List.setIfInBounds_toArray, List.set_cons_zero, List.set_cons_succ]
        refine takeL (i := 29) (v := ?_) rfl rfl (by kernel_rfl) (by kernel_rfl) (by kernel_rfl) (fun _ _ _ h => h) (Or.inl ⟨by rfl, ?_⟩) (by assumption) ?_
        rotate_left
        · (intro w' hSw; go_simp; try with_reducible rfl)
        try simp only [Act.put, List.setIfInBounds_toArray, List.set_cons_zero, List.set_cons_succ]
        refine takeL (i := 30) (v := ?_) rfl rfl (by kernel_rfl) (by kernel_rfl) (by kernel_rfl) (fun _ _ _ h => h) (Or.inl ⟨by rfl, ?_⟩) (by assumption) ?_
        rotate_left
        · (intro w' hSw; go_simp; try with_reducible rfl)
        try simp only [Act.put, List.setIfInBounds_toArray, List.set_cons_zero, List.set_cons_succ]
        refine takeL (i := 31) (v := .string (strB (xorS key ct nonce bs))) rfl rfl (by kernel_rfl) (by kernel_rfl) (by kernel_rfl) (fun _ _ _ h => h) (yieldsStr (by rfl) (x := .tmp 110) rfl (by rfl) us u8 ut (fun W h => (h.rd 2 rfl).2)) (by assumption) ?_
        try simp only [Act.put, List.setIfInBounds_toArray, List.set_cons_zero, List.set_cons_succ]
        refine takeL (i := 32) (v := ?_) rfl rfl (by kernel_rfl) (by kernel_rfl) (by kernel_rfl) (fun _ _ _ h => h) (Or.inl ⟨by rfl, ?_⟩) (by assumption) ?_
        rotate_left
        · (intro w' hSw; go_simp; try with_reducible rfl)
        try simp only [Act.put, List.setIfInBounds_toArray, List.set_cons_zero, List.set_cons_succ]
        refine takeL (i := 33) (v := ?_) rfl rfl (by kernel_rfl) (by kernel_rfl) (by kernel_rfl) (fun _ _ _ h => h) (Or.inl ⟨by rfl, ?_⟩) (by assumption) ?_
        rotate_left
        · (intro w' hSw; go_simp; try with_reducible rfl)
        try simp only [Act.put, List.setIfInBounds_toArray, List.set_cons_zero, List.set_cons_succ]
        refine wpAnyH_ready (rs := [34]) (by kernel_rfl) (by simp) ?_
        refine consL rfl (fun K hK => ?_) AllReadyH.nil
        · rw [if_pos (by rfl)]
          refine wpo_append_at (.tmp 112) (.tmp 113) rfl wv.heap.size (.slice ad5 m cp5) (xorS key ct nonce (bs.take m)) rfl oPd ad6 (len - m) cp6 (xorS key ck nonce (bs.drop m)) rfl (hHeld.rd 0 rfl) HL11.out hbase11 ?_
          intro v9 w9 o9 g9 _
          rw [HSUM.out] at o9
          obtain ⟨ad9, cp9, rfl, r9, _⟩ := o9.rd (by rw [xorS_length]; have := HBL.out; omega)
          rw [xorS_length, HBL.out] at r9 ⊢
          rw [xorS_length, HBL.out] at o9
          refine hK.out _ _ (hHeld.grownRow oPd hb5w g9 (by simp) HNR11.out) (fun hHeld => ?_)
          clear hK K
          try simp only [Act.put, List.setIfInBounds_toArray, List.set_cons_zero, List.set_cons_succ]
          refine wpAnyH_ready (rs := [35]) (by kernel_rfl) (by simp) ?_
          refine consL rfl (fun K hK => ?_) AllReadyH.nil
          · rw [if_pos (by rfl)]
            refine wpo_str (x := .tmp 114) rfl rfl us u8 ut r9.2 ?_
            refine hK.out _ _ (hHeld) (fun hHeld => ?_)
            clear hK K
            try simp only [Act.put, List.setIfInBounds_toArray, List.set_cons_zero, List.set_cons_succ]
            refine takeL (i := 36) (v := .bool true) rfl rfl (by kernel_rfl) (by kernel_rfl) (by kernel_rfl) (fun _ _ _ h => h) (yieldsEqS (by rfl) rfl (by rfl) (by rfl) (beq_self_eq_true _)) (by assumption) ?_
            try simp only [Act.put, List.setIfInBounds_toArray, List.set_cons_zero, List.set_cons_succ]
            refine takeL (i := 37) (v := ?_) rfl rfl (by kernel_rfl) (by kernel_rfl) (by kernel_rfl) (fun _ _ _ h => h) (Or.inl ⟨by rfl, ?_⟩) (by assumption) ?_
            rotate_left
            · (intro w' hSw; go_simp; try with_reducible rfl)
            try simp only [Act.put, List.setIfInBounds_toArray, List.set_cons_zero, List.set_cons_succ]
            refine takeL (i := 38) (v := ?_) rfl rfl (by kernel_rfl) (by kernel_rfl) (by kernel_rfl) (fun _ _ _ h => h) (Or.inl ⟨by rfl, ?_⟩) (by assumption) ?_
            rotate_left
            · (intro w' hSw; go_simp; try with_reducible rfl)
            try simp only [Act.put, List.setIfInBounds_toArray, List.set_cons_zero, List.set_cons_succ]
            refine takeL (i := 39) (v := ?_) rfl rfl (by kernel_rfl) (by kernel_rfl) (by kernel_rfl) (fun _ _ _ h => h) (Or.inl ⟨by rfl, ?_⟩) (by assumption) ?_
            rotate_left
            · (intro w' hSw; go_simp; try with_reducible rfl)
            try simp only [Act.put, List.setIfInBounds_toArray, List.set_cons_zero, List.set_cons_succ]
            refine takeL (i := 40) (v := ?_) rfl rfl (by kernel_rfl) (by kernel_rfl) (by kernel_rfl) (fun _ _ _ h => h) (Or.inl ⟨by rfl, ?_⟩) (by assumption) ?_
            rotate_left
            · (intro w' hSw; go_simp; try with_reducible rfl)
            try simp only [Act.put, List.setIfInBounds_toArray, List.set_cons_zero, List.set_cons_succ]
            refine takeL (i := 41) (v := ?_) rfl rfl (by kernel_rfl) (by kernel_rfl) (by kernel_rfl) (fun _ _ _ h => h) (Or.inl ⟨by rfl, ?_⟩) (by assumption) ?_
            rotate_left
            · (intro w' hSw; go_simp; try with_reducible rfl)
            try simp only [Act.put, List.setIfInBounds_toArray, List.set_cons_zero, List.set_cons_succ]
            refine takeL (i := 42) (v := ?_) rfl rfl (by kernel_rfl) (by kernel_rfl) (by kernel_rfl) (fun _ _ _ h => h) (Or.inl ⟨by rfl, ?_⟩) (by assumption) ?_
            rotate_left
            · (intro w' hSw; go_simp; try with_reducible rfl)
            try simp only [Act.put, List.setIfInBounds_toArray, List.set_cons_zero, List.set_cons_succ]
            refine takeL (i := 43) (v := ?_) rfl rfl (by kernel_rfl) (by kernel_rfl) (by kernel_rfl) (fun _ _ _ h => h) (Or.inl ⟨by rfl, ?_⟩) (by assumption) ?_
            rotate_left
            · (intro w' hSw; go_simp; try with_reducible rfl)
            try simp only [Act.put, List.setIfInBounds_toArray, List.set_cons_zero, List.set_cons_succ]
            refine takeL (i := 44) (v := ?_) rfl rfl (by kernel_rfl) (by kernel_rfl) (by kernel_rfl) (fun _ _ _ h => h) (Or.inl ⟨by rfl, ?_⟩) (by assumption) ?_
            rotate_left
            · (intro w' hSw; go_simp; try with_reducible rfl)
            try simp only [Act.put, List.setIfInBounds_toArray, List.set_cons_zero, List.set_cons_succ]
            refine takeL (i := 45) (v := ?_) rfl rfl (by kernel_rfl) (by kernel_rfl) (by kernel_rfl) (fun _ _ _ h => h) (Or.inl ⟨by rfl, ?_⟩) (by assumption) ?_
            rotate_left
            · (intro w' hSw; go_simp; try with_reducible rfl)
            try simp only [Act.put, List.setIfInBounds_toArray, List.set_cons_zero, List.set_cons_succ]
            refine wpAnyH_done (by kernel_rfl) ?_ _
            go_wp2_with fail
            go_ret
            exact ⟨rfl, hHeld.bel⟩
  · have d1 : decide ((300 : Int) < (len : Int)) = true := decide_eq_true (by omega)
    go_enter Try.func4, Try.ntmps4
    go_wp2_with (first
      | (go_at_call 9; refine (awake_any _).mono ?_; rintro e w1 ⟨rfl, hb1⟩)
      | fail)
    go_ret
    exact ⟨rfl, xtrans (xalloc (xnew _ _) _) hb1⟩
end Go.Proofs.Ytnlogdlnmhnepaa.St
