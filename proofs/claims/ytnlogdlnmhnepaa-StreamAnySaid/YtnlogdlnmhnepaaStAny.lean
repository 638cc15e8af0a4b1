/- The walk of the statement StreamAny. -/
import Derived.Test.YtnlogdlnmhnepaaStA
namespace Go.Proofs.Ytnlogdlnmhnepaa.St
set_option linter.unusedSimpArgs false
set_option linter.unusedVariables false
open Go.RowKit Go.Shelf Go.Proofs.Ytnlogdlnmhnepaa.Ch

theorem xor_lt {a b : Nat} (ha : a < 256) (hb : b < 256) : a ^^^ b < 256 := Nat.xor_lt_two_pow (n := 8) ha hb
theorem set_lt {bs : List Nat} (h : ∀ x ∈ bs, x < 256) {v : Nat} (hv : v < 256) {k : Nat} : ∀ x ∈ bs.set k v, x < 256 := fun x hx => (List.mem_or_eq_of_mem_set hx).elim (h x) (fun e => e ▸ hv)
set_option maxRecDepth 100000 in
set_option maxHeartbeats 4000000 in
theorem any_walk (key : List Nat) (counter : Int) (nonce : List Nat) (a : Option Addr) (la cap : Nat) (bs : List Nat) (at_ by_ : Int) (w : World) (hk : key.length = 32) (hkb : ∀ x ∈ key, x < 256) (hct : 0 ≤ counter ∧ counter ≤ 4294967295) (hn : nonce.length = 12) (hnb : ∀ x ∈ nonce, x < 256) (hr : Row8 w a la cap bs) (hat : 0 ≤ at_ ∧ at_ ≤ 65535) (hby : 0 ≤ by_ ∧ by_ ≤ 255) :
    Calls Try.prog 7 #[.agg (bv key).toArray, .int .u32 counter, .agg (bv nonce).toArray, .slice a la cap, .int .u16 at_, .int .u8 by_] w fun e w' => e = .returned (.bool true) ∧ Below w.heap.size w w' := by
  obtain ⟨c0, rfl⟩ := Int.eq_ofNat_of_zero_le hct.1
  obtain ⟨tt, rfl⟩ := Int.eq_ofNat_of_zero_le hat.1
  obtain ⟨yb, rfl⟩ := Int.eq_ofNat_of_zero_le hby.1
  have hyb : yb < 256 := by omega
  have hle : la ≤ 9223372036854775807 := by have := hr.2.1; have := hr.2.2.1; omega
  have HK := Lib.hid (show (Try.prog.info? 22).map (·.size) = some key.length by rw [hk]; kernel_rfl)
  have HN := Lib.hid (show (Try.prog.info? 24).map (·.size) = some nonce.length by rw [hn]; kernel_rfl)
  have HK3 := Lib.hid (show (Try.prog.info? 22).map (·.size) = some (nv .u8 key).length by rw [nv_length, hk]; kernel_rfl)
  have HN3 := Lib.hid (show (Try.prog.info? 24).map (·.size) = some (nv .u8 nonce).length by rw [nv_length, hn]; kernel_rfl)
  have u32 := Try.underlying22
  have u12 := Try.underlying24
  have u8 := Try.underlying5
  have us := Try.underlying25
  have ut := Try.underlying9
  have HKL := Lib.hid hk
  have HNL := Lib.hid hn
  clear hk hn
  by_cases hall : 0 < la ∧ la ≤ 300
  · obtain ⟨h0, h300⟩ := hall
    have hR : RdB w a la cap bs := ⟨by omega, hr⟩
    have d0 : ((la : Int) == 0) = false := by rw [beq_eq_false_iff_ne]; omega
    have d01 : (la : Int) ≠ 0 := by omega
    have d02 : la ≠ 0 := by omega
    have d1 : decide ((300 : Int) < (la : Int)) = false := decide_eq_false (by omega)
    obtain ⟨ct, hcm⟩ : ∃ ct : Nat, (c0 : Int) % 2147483648 = (ct : Int) := ⟨c0 % 2147483648, by omega⟩
    have hcl2 : ct < 2147483648 := by omega
    have hcl : ct < 4294967296 := by omega
    obtain ⟨k, hkm⟩ : ∃ k : Nat, (tt : Int) % (la : Int) = (k : Int) := ⟨tt % la, by rw [Int.natCast_emod]⟩
    have hkl : k < la := by
      have h1 := Int.emod_lt_of_pos (tt : Int) (show 0 < (la : Int) by omega)
      omega
    have hkla : k ≤ la := by omega
    have hkca : k ≤ cap := by have := hr.2.1; have := hr.2.2.1; omega
    have hcam : cap ≤ 9223372036854775807 := hr.2.2.1
    have fa : fits ct la := by unfold fits; omega
    have fk : fits ct k := by unfold fits; omega
    have hbl : bs.length = la := hr.1
    have hbb := hr.2.2.2.1
    have hset := xorS_set key ct nonce bs k yb (by rw [hbl]; exact hkl)
    have hbkl := get_lt hbb k
    have hykl := get_lt (xorS_lt key ct nonce (bs.set k (bs.getD k 0 ^^^ yb)) (set_lt hbb (xor_lt hbkl hyb))) k
    have z1 := xor_u8 _ _ hbkl hyb
    have z2 := xor_u8 _ _ hykl hyb
    have z1l := xor_lt hbkl hyb
    have z2l := xor_lt hykl hyb
    have hcsl : (bs.set k (bs.getD k 0 ^^^ yb)).length = la := by rw [List.length_set]; exact hbl
    have HBK : Hid (∃ bk, bk = bs.getD k 0) := Lib.hid ⟨_, rfl⟩
    obtain ⟨bk, hbk⟩ := HBK.out
    rw [← hbk] at hset hbkl z1 z1l z2 z2l hykl hcsl
    obtain ⟨zz, hzz⟩ : ∃ zz, zz = bk ^^^ yb := ⟨_, rfl⟩
    rw [← hzz] at hset z1 z1l z2 z2l hykl hcsl
    obtain ⟨cs, hcs⟩ : ∃ cs, cs = bs.set k zz := ⟨_, rfl⟩
    rw [← hcs] at hset z2 z2l hykl hcsl
    obtain ⟨yk, hyk⟩ : ∃ yk, yk = (xorS key ct nonce cs).getD k 0 := ⟨_, rfl⟩
    rw [← hyk] at hset z2 z2l hykl
    obtain ⟨xk, hxk⟩ : ∃ xk, xk = yk ^^^ yb := ⟨_, rfl⟩
    rw [← hxk] at hset z2 z2l
    have HBL := Lib.hid hbl
    have HCL := Lib.hid hcsl
    have HF := Lib.hid (And.intro fa fk)
    have HLE := Lib.hid h300
    have HSET := Lib.hid hset
    have HBK1 := Lib.hid hbk
    have HCS := Lib.hid hcs
    have HYK := Lib.hid hyk
    have HZL := Lib.hid (And.intro z1l z2l)
    clear hbl fa fk hset hbk HBK hzz hcs hyk hxk hcsl z1l z2l hbkl hykl
    go_enter Try.func7, Try.ntmps7
    have s0 : LW w [(w.heap.size + 1, 24, .u8, nonce), (w.heap.size, 22, .u8, key)] [(a, la, cap, bs)] ((w.alloc (.cells (nv .u8 key).toArray 22)).alloc (.cells (nv .u8 nonce).toArray 24)) := by
      have := (((LW.nil (xrefl w)).addR hR).new 22 .u8 key).new 24 .u8 nonce
      rw [World.size_alloc] at this
      exact this
    clear hr hR
    go_wp2_with (first
      | (go_at_call 9; refine (awake_any _).mono ?_; rintro e w1 ⟨rfl, hb1⟩; have s1 := s0.below hb1; clear s0 hb1)
      | (at_builtin; refine wp_append rfl (.tmp 40) (.tmp 41) rfl w1.heap.size _ [] rfl (Own.lit w1 #[] 0 [] rfl rfl (by decide) (by simp)) _ _ _ bs rfl ((s1.rd 0 rfl).below (xnew _ _)) (by simp; have := HBL.out; omega) (by simp) ?_; intro v1 w2 hown1 hbel1 hg1; rw [List.nil_append] at hown1; rcases hown1.shape with ⟨_, hbad⟩ | ⟨g, cg, hv, hgb, hgl, hcg, hcm2, hcl2, hfr⟩; (exfalso; have := HBL.out; subst hbad; simp at this; omega); subst hv; have hf1 := hfr k; have hg1k := hcl2 k (by rw [HBL.out]; exact hkl); rw [← HBK1.out] at hg1k; clear hcl2 hfr; have hb12 : Below w1.heap.size w1 w2 := (xnew w1 (.cells #[] 5)).trans hbel1; have s3 := (s1.below hb12).set (Z := g) (Nat.le_trans s1.bel.size hgb) (fun e he => Nat.ne_of_lt (Nat.lt_of_lt_of_le (s1.lt e he) hgb)) (fun e he x hx h0 => Nat.ne_of_lt (Nat.lt_of_lt_of_le (rdb_low (s1.rds e he) x hx h0) hgb)) k (.int .u8 ((zz : Nat) : Int)); have o3 := Own.set hown1 k zz HZL.out.1; rw [← HCS.out, HCL.out] at o3; obtain ⟨w3, hW3⟩ : ∃ w3, w2.setCell ⟨g, k, none⟩ (.int .u8 ((zz : Nat) : Int)) = w3 := ⟨_, rfl⟩; rw [hW3] at s3 o3; rw [HBL.out]; rw [HBL.out] at hcg; have hcg2 := hcm2; unfold maxLen at hcg2; clear hown1 hbel1 hg1 hb12 s1 hcm2)
      | (refine wp_load_arr rfl 22 (.tmp 6) rfl w.heap.size rfl (s3.blk 1 rfl) 32 5 Try.underlying22 HK.out ?_)
      | (refine wp_load_arr rfl 24 (.tmp 8) rfl (w.heap.size + 1) rfl (s3.blk 0 rfl) 12 5 Try.underlying24 HN.out ?_)
      | fail)
    refine (Xor_any _ key nonce ct a la cap bs HKL.out hkb HNL.out hnb hcl (s3.rd 0 rfl) HF.out.1).mono ?_
    intro e w4 h
    obtain ⟨ad4, cp4, rfl, p4, b4⟩ := XorOK.at (n := la) h (by rw [xorS_length]; exact HBL.out)
    have s4 := (s3.below b4).addR (p4.rdb (by rw [xorS_length]; exact HBL.out) (by omega))
    have c4 := (o3.below b4).rdb HCL.out (by omega)
    clear h s3 b4 o3 hf1 hg1k hW3
    go_wp2_with (first
      | (refine wp_load_arr rfl 22 (.tmp 6) rfl w.heap.size rfl (s4.blk 1 rfl) 32 5 Try.underlying22 HK.out ?_)
      | (refine wp_load_arr rfl 24 (.tmp 8) rfl (w.heap.size + 1) rfl (s4.blk 0 rfl) 12 5 Try.underlying24 HN.out ?_)
      | fail)
    refine (Xor_any _ key nonce ct (some ⟨g, 0, none⟩) la cg cs HKL.out hkb HNL.out hnb hcl c4 HF.out.1).mono ?_
    intro e w5 h
    obtain ⟨ad5, cp5, rfl, p5, b5⟩ := XorOK.at (n := la) h (by rw [xorS_length]; exact HCL.out)
    have HLO := Lib.hid (And.intro (rdb_low (s4.rd 0 rfl)) (rdb_low (s4.rd 1 rfl)))
    have HKL4 := Lib.hid s4.lt
    have hw4 := s4.bel.size
    have s5 := s4.below b5
    have oY0 : Own w5.drew w4.heap.size (.slice ad5 la cp5) (xorS key ct nonce cs) := p5.below (below_drewN (xrefl _) 1)
    clear h s4 b5 c4 p5
    go_wp2_with fail
    refine wp_region_held_drew (S := LW w [(w.heap.size + 1, 24, .u8, nonce), (w.heap.size, 22, .u8, key)] [(ad4, la, cp4, xorS key ct nonce bs), (a, la, cap, bs)]) (by kernel_rfl) (s5.drew) (fun hHeld => ?_)
    have oYv := oY0
    generalize World.drew _ = wv at hHeld oYv ⊢
    clear oY0
    refine takeL (i := 0) (v := .agg (nv .u8 key).toArray) rfl rfl (by kernel_rfl) (by kernel_rfl) (by kernel_rfl) (fun _ _ _ h => h) (yieldsIf_load_mid (by rfl) 22 (.tmp 6) rfl w.heap.size 0 (by rfl) (nv .u8 key) _ (fun _ h => blk_range (h.blk 1 rfl)) u32 rfl HK3.out) (by assumption) ?_
    try simp only [Act.put, List.setIfInBounds_toArray, List.set_cons_zero, List.set_cons_succ]
    refine takeL (i := 1) (v := ?_) rfl rfl (by kernel_rfl) (by kernel_rfl) (by kernel_rfl) (fun _ _ _ h => h) (Or.inl ⟨by rfl, ?_⟩) (by assumption) ?_
    rotate_left
    · (intro w' hSw; go_simp; try with_reducible rfl)
    try simp only [Act.put, List.setIfInBounds_toArray, List.set_cons_zero, List.set_cons_succ]
    refine takeL (i := 2) (v := .agg (nv .u8 nonce).toArray) rfl rfl (by kernel_rfl) (by kernel_rfl) (by kernel_rfl) (fun _ _ _ h => h) (yieldsIf_load_mid (by rfl) 24 (.tmp 8) rfl (w.heap.size + 1) 0 (by rfl) (nv .u8 nonce) _ (fun _ h => blk_range (h.blk 0 rfl)) u12 rfl HN3.out) (by assumption) ?_
    try simp only [Act.put, List.setIfInBounds_toArray, List.set_cons_zero, List.set_cons_succ]
    refine takeL (i := 3) (v := ?_) rfl rfl (by kernel_rfl) (by kernel_rfl) (by kernel_rfl) (fun _ _ _ h => h) (Or.inl ⟨by rfl, ?_⟩) (by assumption) ?_
    rotate_left
    · (intro w' hSw; go_simp; try with_reducible rfl)
    try simp only [Act.put, List.setIfInBounds_toArray, List.set_cons_zero, List.set_cons_succ]
    refine takeL (i := 4) (v := ?_) rfl rfl (by kernel_rfl) (by kernel_rfl) (by kernel_rfl) (fun _ _ _ h => h) (Or.inl ⟨by rfl, ?_⟩) (by assumption) ?_
    rotate_left
    · (intro w' hSw; go_simp; try with_reducible rfl)
    try simp only [Act.put, List.setIfInBounds_toArray, List.set_cons_zero, List.set_cons_succ]
    refine takeL (i := 5) (v := ?_) rfl rfl (by kernel_rfl) (by kernel_rfl) (by kernel_rfl) (fun _ _ _ h => h) (Or.inl ⟨by rfl, ?_⟩) (by assumption) ?_
    rotate_left
    · (intro w' hSw; go_simp; try with_reducible rfl)
    try simp only [Act.put, List.setIfInBounds_toArray, List.set_cons_zero, List.set_cons_succ]
    refine wpAnyH_ready (rs := [6]) (by kernel_rfl) (by simp) ?_
    refine consL rfl (fun K hK => ?_) AllReadyH.nil
    · rw [if_pos (by rfl)]
      go_simp
      refine (Xor_any _ key nonce ct a k cap (bs.take k) HKL.out hkb HNL.out hnb hcl (rdb_take (hHeld.rd 1 rfl) k hkla) HF.out.2).mono ?_
      intro e w7 h
      obtain ⟨ad7, cp7, rfl, p7, b7⟩ := XorOK.at (n := k) h (by rw [xorS_length, List.length_take]; have := HBL.out; omega)
      refine hK.out _ _ (hHeld.below b7) (fun hHeld => ?_)
      clear hK K
      try simp only [Act.put, List.setIfInBounds_toArray, List.set_cons_zero, List.set_cons_succ]
      refine takeL (i := 7) (v := ?_) rfl rfl (by kernel_rfl) (by kernel_rfl) (by kernel_rfl) (fun _ _ _ h => h) (Or.inl ⟨by rfl, ?_⟩) (by assumption) ?_
      rotate_left
      · (intro w' hSw; go_simp; try with_reducible rfl)
      try simp only [Act.put, List.setIfInBounds_toArray, List.set_cons_zero, List.set_cons_succ]
      refine takeL (i := 8) (v := ?_) rfl rfl (by kernel_rfl) (by kernel_rfl) (by kernel_rfl) (fun _ _ _ h => h) (Or.inl ⟨by rfl, ?_⟩) (by assumption) ?_
      rotate_left
      · (intro w' hSw; go_simp; try with_reducible rfl)
      try simp only [Act.put, List.setIfInBounds_toArray, List.set_cons_zero, List.set_cons_succ]
      refine takeL (i := 9) (v := ?_) rfl rfl (by kernel_rfl) (by kernel_rfl) (by kernel_rfl) (fun _ _ _ h => h) (Or.inl ⟨by rfl, ?_⟩) (by assumption) ?_
      rotate_left
      · (intro w' hSw; go_simp; try with_reducible rfl)
      try simp only [Act.put, List.setIfInBounds_toArray, List.set_cons_zero, List.set_cons_succ]
      refine takeL (i := 10) (v := ?_) rfl rfl (by kernel_rfl) (by kernel_rfl) (by kernel_rfl) (fun _ _ _ h => h) (Or.inl ⟨by rfl, ?_⟩) (by assumption) ?_
      rotate_left
      · (intro w' hSw; go_simp; try with_reducible rfl)
      try simp only [Act.put, List.setIfInBounds_toArray, List.set_cons_zero, List.set_cons_succ]
      refine takeL (i := 11) (v := ?_) rfl rfl (by kernel_rfl) (by kernel_rfl) (by kernel_rfl) (fun _ _ _ h => h) (Or.inl ⟨by rfl, ?_⟩) (by assumption) ?_
      rotate_left
      · (intro w' hSw; go_simp; try with_reducible rfl)
      try simp only [Act.put, List.setIfInBounds_toArray, List.set_cons_zero, List.set_cons_succ]
      refine wpAnyH_done (by kernel_rfl) ?_ _
      have s7 := hHeld.addR (p7.rdb (by rw [xorS_length, List.length_take]; have := HBL.out; omega) (by omega))
      have oY := oYv.below b7
      have hlw := (own_low p7)
      have hyl := oYv.block
      clear hHeld p7 oYv b7
      rcases oY.shape with ⟨_, hbad⟩ | ⟨gy, cy, hv, hgb, hgl, hcy, hcy2, hcl3, hfr⟩
      · exfalso
        have h1 := HCL.out
        have h2 : cs.length = 0 := by rw [← xorS_length key ct nonce cs, hbad]; rfl
        omega
      · simp only [Value.slice.injEq] at hv
        obtain ⟨rfl, hll, rfl⟩ := hv
        have hf1 := hfr k
        have hg1k := hcl3 k (by rw [xorS_length, HCL.out]; exact hkl)
        rw [← HYK.out] at hg1k
        have hyl2 := hyl gy rfl
        have s8 := s7.set (Z := gy) (Nat.le_trans hw4 hgb) (fun e he => by have := HKL4.out e he; omega) (fun e he x hx h0 => by
          simp only [List.mem_cons, List.not_mem_nil, or_false] at he
          rcases he with rfl | rfl | rfl
          · have := hlw x hx; omega
          · have := HLO.out.1 x hx h0; omega
          · have := HLO.out.2 x hx h0; omega) k (.int .u8 ((xk : Nat) : Int))
        rw [hll] at oY
        have o8 : Own _ _ (.slice (some ⟨gy, 0, none⟩) _ cp5) _ := Own.set oY k xk HZL.out.2
        rw [HSET.out] at o8
        rw [xorS_length, HBL.out] at o8
        have s9 := s8.addR (o8.rdb (n := la) ((xorS_length key ct nonce bs).trans HBL.out) (by omega))
        clear hcl3 hfr hll hyl hlw hcy hcy2 s7 s8 o8 oY HLO HKL4
        go_wp2_with fail
        have hys : xorS key ct nonce (bs.take k) = (xorS key ct nonce bs).take k := (xorS_take key ct nonce bs k (by have := HBL.out; omega)).symm
        rw [hys] at s9
        have hk4 : k ≤ cp4 := by have := (s9.rd 2 rfl).2.2.1; omega
        have hcp4 : cp4 ≤ 9223372036854775807 := (s9.rd 2 rfl).2.2.2.1
        clear hys HSET
        generalize xorS key ct nonce bs = xs at s9
        refine wp_region_held_drew (S := LW w [(w.heap.size + 1, 24, .u8, nonce), (w.heap.size, 22, .u8, key)] [(some ⟨gy, 0, none⟩, la, cp5, xs), (ad7, k, cp7, xs.take k), (ad4, la, cp4, xs), (a, la, cap, bs)]) (by kernel_rfl) (s9.drew) (fun hHeld => ?_)
        refine takeL (i := 0) (v := ?_) rfl rfl (by kernel_rfl) (by kernel_rfl) (by kernel_rfl) (fun _ _ _ h => h) (Or.inl ⟨by rfl, ?_⟩) (by assumption) ?_
        rotate_left
        · (intro w' hSw; go_simp; try with_reducible rfl)
        try simp only [Act.put, List.setIfInBounds_toArray, List.set_cons_zero, List.set_cons_succ]
        refine takeL (i := 1) (v := ?_) rfl rfl (by kernel_rfl) (by kernel_rfl) (by kernel_rfl) (fun _ _ _ h => h) (Or.inl ⟨by rfl, ?_⟩) (by assumption) ?_
        rotate_left
        · (intro w' hSw; go_simp; try with_reducible rfl)
        try simp only [Act.put, List.setIfInBounds_toArray, List.set_cons_zero, List.set_cons_succ]
        refine takeL (i := 2) (v := ?_) rfl rfl (by kernel_rfl) (by kernel_rfl) (by kernel_rfl) (fun _ _ _ h => h) (Or.inl ⟨by rfl, ?_⟩) (by assumption) ?_
        rotate_left
        · (intro w' hSw; go_simp; try with_reducible rfl)
        try simp only [Act.put, List.setIfInBounds_toArray, List.set_cons_zero, List.set_cons_succ]
        refine takeL (i := 3) (v := .string (strB xs)) rfl rfl (by kernel_rfl) (by kernel_rfl) (by kernel_rfl) (fun _ _ _ h => h) (yieldsStr (by rfl) (x := .tmp 113) rfl (by rfl) us u8 ut (fun W h => (h.rd 2 rfl).2)) (by assumption) ?_
        try simp only [Act.put, List.setIfInBounds_toArray, List.set_cons_zero, List.set_cons_succ]
        refine takeL (i := 4) (v := ?_) rfl rfl (by kernel_rfl) (by kernel_rfl) (by kernel_rfl) (fun _ _ _ h => h) (Or.inl ⟨by rfl, ?_⟩) (by assumption) ?_
        rotate_left
        · (intro w' hSw; go_simp; try with_reducible rfl)
        try simp only [Act.put, List.setIfInBounds_toArray, List.set_cons_zero, List.set_cons_succ]
        refine takeL (i := 5) (v := .string (strB xs)) rfl rfl (by kernel_rfl) (by kernel_rfl) (by kernel_rfl) (fun _ _ _ h => h) (yieldsStr (by rfl) (x := .tmp 115) rfl (by rfl) us u8 ut (fun W h => (h.rd 0 rfl).2)) (by assumption) ?_
        try simp only [Act.put, List.setIfInBounds_toArray, List.set_cons_zero, List.set_cons_succ]
        refine takeL (i := 6) (v := .bool true) rfl rfl (by kernel_rfl) (by kernel_rfl) (by kernel_rfl) (fun _ _ _ h => h) (yieldsEqS (by rfl) rfl (by rfl) (by rfl) (beq_self_eq_true _)) (by assumption) ?_
        try simp only [Act.put, List.setIfInBounds_toArray, List.set_cons_zero, List.set_cons_succ]
        refine takeL (i := 7) (v := ?_) rfl rfl (by kernel_rfl) (by kernel_rfl) (by kernel_rfl) (fun _ _ _ h => h) (Or.inl ⟨by rfl, ?_⟩) (by assumption) ?_
        rotate_left
        · (intro w' hSw; go_simp; try with_reducible rfl)
        try simp only [Act.put, List.setIfInBounds_toArray, List.set_cons_zero, List.set_cons_succ]
        refine takeL (i := 8) (v := ?_) rfl rfl (by kernel_rfl) (by kernel_rfl) (by kernel_rfl) (fun _ _ _ h => h) (Or.inl ⟨by rfl, ?_⟩) (by assumption) ?_
        rotate_left
        · (intro w' hSw; go_simp; try with_reducible rfl)
        try simp only [Act.put, List.setIfInBounds_toArray, List.set_cons_zero, List.set_cons_succ]
        refine takeL (i := 9) (v := ?_) rfl rfl (by kernel_rfl) (by kernel_rfl) (by kernel_rfl) (fun _ _ _ h => h) (Or.inl ⟨by rfl, ?_⟩) (by assumption) ?_
        rotate_left
        · (intro w' hSw; go_simp; try with_reducible rfl)
        try simp only [Act.put, List.setIfInBounds_toArray, List.set_cons_zero, List.set_cons_succ]
        refine takeL (i := 10) (v := .string (strB (xs.take k))) rfl rfl (by kernel_rfl) (by kernel_rfl) (by kernel_rfl) (fun _ _ _ h => h) (yieldsStr (by rfl) (x := .tmp 120) rfl (by rfl) us u8 ut (fun W h => (h.rd 1 rfl).2)) (by assumption) ?_
        try simp only [Act.put, List.setIfInBounds_toArray, List.set_cons_zero, List.set_cons_succ]
        refine takeL (i := 11) (v := ?_) rfl rfl (by kernel_rfl) (by kernel_rfl) (by kernel_rfl) (fun _ _ _ h => h) (Or.inl ⟨by rfl, ?_⟩) (by assumption) ?_
        rotate_left
        · (intro w' hSw; go_simp; try with_reducible rfl)
        try simp only [Act.put, List.setIfInBounds_toArray, List.set_cons_zero, List.set_cons_succ]
        refine takeL (i := 12) (v := ?_) rfl rfl (by kernel_rfl) (by kernel_rfl) (by kernel_rfl) (fun _ _ _ h => h) (Or.inl ⟨by rfl, ?_⟩) (by assumption) ?_
        rotate_left
        · (intro w' hSw; go_simp; try with_reducible rfl)
        try simp only [Act.put, List.setIfInBounds_toArray, List.set_cons_zero, List.set_cons_succ]
        refine takeL (i := 13) (v := ?_) rfl rfl (by kernel_rfl) (by kernel_rfl) (by kernel_rfl) (fun _ _ _ h => h) (Or.inl ⟨by rfl, ?_⟩) (by assumption) ?_
        rotate_left
        · (intro w' hSw; go_simp; try with_reducible rfl)
        try simp only [Act.put, List.setIfInBounds_toArray, List.set_cons_zero, List.set_cons_succ]
        refine takeL (i := 14) (v := .string (strB (xs.take k))) rfl rfl (by kernel_rfl) (by kernel_rfl) (by kernel_rfl) (fun _ _ _ h => h) (yieldsStr (by rfl) (x := .tmp 124) rfl (by rfl) us u8 ut (fun W h => (rdb_take (h.rd 2 rfl) k hkla).2)) (by assumption) ?_
        try simp only [Act.put, List.setIfInBounds_toArray, List.set_cons_zero, List.set_cons_succ]
        refine takeL (i := 15) (v := .bool true) rfl rfl (by kernel_rfl) (by kernel_rfl) (by kernel_rfl) (fun _ _ _ h => h) (yieldsEqS (by rfl) rfl (by rfl) (by rfl) (beq_self_eq_true _)) (by assumption) ?_
        try simp only [Act.put, List.setIfInBounds_toArray, List.set_cons_zero, List.set_cons_succ]
        refine takeL (i := 16) (v := ?_) rfl rfl (by kernel_rfl) (by kernel_rfl) (by kernel_rfl) (fun _ _ _ h => h) (Or.inl ⟨by rfl, ?_⟩) (by assumption) ?_
        rotate_left
        · (intro w' hSw; go_simp; try with_reducible rfl)
        try simp only [Act.put, List.setIfInBounds_toArray, List.set_cons_zero, List.set_cons_succ]
        refine takeL (i := 17) (v := ?_) rfl rfl (by kernel_rfl) (by kernel_rfl) (by kernel_rfl) (fun _ _ _ h => h) (Or.inl ⟨by rfl, ?_⟩) (by assumption) ?_
        rotate_left
        · (intro w' hSw; go_simp; try with_reducible rfl)
        try simp only [Act.put, List.setIfInBounds_toArray, List.set_cons_zero, List.set_cons_succ]
        refine wpAnyH_done (by kernel_rfl) ?_ _
        go_wp2_with fail
        go_ret
        exact ⟨rfl, hHeld.bel⟩
  · have box : Below w.heap.size w ((w.alloc (.cells (nv .u8 key).toArray 22)).alloc (.cells (nv .u8 nonce).toArray 24)) := xalloc (xnew _ _) _
    have hsplit : la = 0 ∨ (((la : Int) == 0) = false ∧ decide ((300 : Int) < (la : Int)) = true) := by
      rw [beq_eq_false_iff_ne, decide_eq_true_eq]
      omega
    clear hall
    rcases hsplit with rfl | ⟨d0, d1⟩
    all_goals
      go_enter Try.func7, Try.ntmps7
      go_wp2_with (first
        | (go_at_call 9; refine (awake_any _).mono ?_; rintro e w1 ⟨rfl, hb1⟩)
        | fail)
      go_ret
      exact ⟨rfl, xtrans box hb1⟩
end Go.Proofs.Ytnlogdlnmhnepaa.St
