/- The walk of the statement AeadTags. -/
import Derived.Test.YtoajhlidbogbcaaAeA
import Derived.Test.YtoajhlidbogbcaaAeWs
namespace Go.Proofs.Ytoajhlidbogbcaa.Ae
set_option linter.unusedSimpArgs false
set_option linter.unusedVariables false
open Go.RowKit

theorem LW.low {w W : World} {l : List (Nat × TypeId × IntKind × List Nat)} {r : List (Option Addr × Nat × Nat × List Nat)} (h : LW w l r W) : ∀ e ∈ r, ∀ x, e.1 = some x → 0 < e.2.1 → x.block < W.heap.size := fun e he => rdb_low (h.rds e he)
/-- What is written lies from a base on, below which all slices lie. -/
theorem LW.grownTop {w W W' : World} {l : List (Nat × TypeId × IntKind × List Nat)} {r : List (Option Addr × Nat × Nat × List Nat)} {base : Nat} {v : Value} {xs : List Nat} (h : LW w l r W) (hO : Own W base v xs) (hb : w.heap.size ≤ base) (hg : W.grownBy W' v.ownBlock) (hl : ∀ e ∈ l, e.2.1 ≠ 5)
    (hr : ∀ e ∈ r, ∀ x, e.1 = some x → 0 < e.2.1 → x.block < base) : LW w l r W' :=
  h.grownRow hO hb hg hl (fun e he x hx h0 q => by have := (hO.block _ q).1; have := hr e he x hx h0; omega)
theorem openA_app (key nonce hid t xb : List Nat) (h : t.length = 16) : openA key nonce (hid ++ t) xb = if tagA key nonce hid xb = t then some (St.xorS key 1 nonce hid) else none := by
  have hl : (hid ++ t).length = hid.length + 16 := by rw [List.length_append, h]
  unfold openA
  rw [if_neg (by omega), hl, Nat.add_sub_cancel, List.take_left', List.drop_left'] <;> rfl
theorem set_same (xs : List Nat) (i v : Nat) (hi : i < xs.length) : xs.set i v = xs ↔ v = xs.getD i 0 := by
  constructor
  · intro h
    have := congrArg (fun l => l.getD i 0) h
    simp [List.getD_eq_getElem?_getD, hi] at this
    simpa [List.getD_eq_getElem?_getD, hi] using this
  · intro h
    refine List.ext_getElem (by simp) fun j h1 h2 => ?_
    rw [List.getElem_set]
    split
    · subst h; rename_i e; subst e; simp [List.getD_eq_getElem?_getD, hi]
    · rfl
theorem xor_zero_iff (x q : Nat) : x ^^^ q = x ↔ q = 0 := by
  constructor
  · intro h
    have := congrArg (fun z => x ^^^ z) h
    simpa [← Nat.xor_assoc] using this
  · intro h; subst h; simp
/-- What the statement says of lists alone. -/
theorem tags_plain (key nonce xa xb : List Nat) (n i q : Nat) (hn : xa.length = n + 16) (hi : i < 16) (hq : q < 256) (tg g1 : List Nat) (htg : tg = tagA key nonce (xa.take n) xb) (hg1 : g1 = tg.set i (tg.getD i 0 ^^^ q)) :
    (openE key nonce xa xb = 0 ∨ (openE key nonce xa xb = 70 ∧ (openB key nonce xa xb).length = 0)) ∧ openE key nonce (xa.take n ++ tg) xb = 0 ∧ (openB key nonce (xa.take n ++ tg) xb).length = n ∧
    (q = 0 → openE key nonce (xa.take n ++ g1) xb = 0 ∧ decide (xa.drop n = g1) = decide (openE key nonce xa xb = 0)) ∧ (q ≠ 0 → openE key nonce (xa.take n ++ g1) xb = 70 ∧ (openB key nonce (xa.take n ++ g1) xb).length = 0) ∧
    tg.length = 16 ∧ (∀ x ∈ tg, x < 256) ∧ g1.length = 16 ∧ (∀ x ∈ g1, x < 256) := by
  have hs : xa.length - 16 = n := by omega
  have hhl : (xa.take n).length = n := by rw [List.length_take]; omega
  have htl : tg.length = 16 := by rw [htg]; exact tagA_length _ _ _ _
  have htb : ∀ x ∈ tg, x < 256 := by rw [htg]; exact tagA_lt _ _ _ _
  have hgl : g1.length = 16 := by rw [hg1, List.length_set]; exact htl
  have hgb : ∀ x ∈ g1, x < 256 := by
    intro x hx
    rw [hg1] at hx
    rcases List.mem_or_eq_of_mem_set hx with hx | rfl
    · exact htb x hx
    · exact Nat.xor_lt_two_pow (n := 8) (getD_u8 htb i) hq
  have hgq : g1 = tg ↔ q = 0 := by rw [hg1, set_same _ _ _ (by omega), xor_zero_iff]
  have hxa : openA key nonce xa xb = if tg = xa.drop n then some (St.xorS key 1 nonce (xa.take n)) else none := by
    unfold openA
    rw [if_neg (by omega), hs, htg]
  have h1 : (openE key nonce xa xb = 0 ∨ (openE key nonce xa xb = 70 ∧ (openB key nonce xa xb).length = 0)) ∧ (openE key nonce xa xb = 0 ↔ tg = xa.drop n) := by
    unfold openE openB
    rw [hxa]
    by_cases h : tg = xa.drop n
    · rw [if_pos h]; simp [h]
    · rw [if_neg h]; simp [h]
  have h2 : ∀ t, t.length = 16 → openA key nonce (xa.take n ++ t) xb = if tg = t then some (St.xorS key 1 nonce (xa.take n)) else none := fun t ht => by rw [openA_app _ _ _ _ _ ht, htg]
  refine ⟨h1.1, ?_, ?_, ?_, ?_, htl, htb, hgl, hgb⟩
  · unfold openE; rw [h2 tg htl, if_pos rfl]; rfl
  · unfold openB; rw [h2 tg htl, if_pos rfl]; simp [St.xorS_length, hhl]
  · intro hq0
    have e := hgq.2 hq0
    rw [e]
    refine ⟨by unfold openE; rw [h2 tg htl, if_pos rfl]; rfl, ?_⟩
    rw [decide_eq_decide]
    exact ⟨fun h => h1.2.2 h.symm, fun h => (h1.2.1 h).symm⟩
  · intro hq0
    have e : ¬ tg = g1 := fun h => hq0 (hgq.1 h.symm)
    unfold openE openB
    rw [h2 g1 hgl, if_neg e]
    exact ⟨rfl, rfl⟩

set_option maxRecDepth 100000 in
set_option maxHeartbeats 8000000 in
theorem tags_walk (key nonce : List Nat) (a : Option Addr) (la ca : Nat) (xa : List Nat) (b : Option Addr) (lb cb : Nat) (xb : List Nat) (p q : Int) (w : World) (hk : key.length = 32) (hkb : ∀ x ∈ key, x < 256) (hn : nonce.length = 12) (hnb : ∀ x ∈ nonce, x < 256) (hra : Row8 w a la ca xa) (hrb : Row8 w b lb cb xb) (hp : 0 ≤ p ∧ p ≤ 255) (hq : 0 ≤ q ∧ q ≤ 255) :
    Calls Try.prog 6 #[.agg (bv key).toArray, .agg (bv nonce).toArray, .slice a la ca, .slice b lb cb, .int .u8 p, .int .u8 q] w fun e w' => e = .returned (.bool true) ∧ Below w.heap.size w w' := by
  have hlea : la ≤ 9223372036854775807 := by have := hra.2.1; have := hra.2.2.1; omega
  have hleb : lb ≤ 9223372036854775807 := by have := hrb.2.1; have := hrb.2.2.1; omega
  obtain ⟨p0, rfl⟩ := Int.eq_ofNat_of_zero_le hp.1
  obtain ⟨q0, rfl⟩ := Int.eq_ofNat_of_zero_le hq.1
  have HK := Lib.hid (show (Try.prog.info? 22).map (·.size) = some key.length by rw [hk]; kernel_rfl)
  have HN := Lib.hid (show (Try.prog.info? 23).map (·.size) = some nonce.length by rw [hn]; kernel_rfl)
  have HK3 := Lib.hid (show (Try.prog.info? 22).map (·.size) = some (nv .u8 key).length by rw [nv_length, hk]; kernel_rfl)
  have HN3 := Lib.hid (show (Try.prog.info? 23).map (·.size) = some (nv .u8 nonce).length by rw [nv_length, hn]; kernel_rfl)
  have u32 := Try.underlying22
  have u12 := Try.underlying23
  have u8 := Try.underlying5
  have us := Try.underlying24
  have ut := Try.underlying9
  have HKL := Lib.hid hk
  have HNL := Lib.hid hn
  clear hk hn
  by_cases hall : 16 ≤ la ∧ la ≤ 200 ∧ lb ≤ 200
  · obtain ⟨ha1, ha2, hb2⟩ := hall
    have d0 : decide ((la : Int) < 16) = false := decide_eq_false (by omega)
    have hRa : RdB w a la ca xa := ⟨by omega, hra⟩
    have hRb : RdB w b lb cb xb := ⟨by omega, hrb⟩
    have d1 : decide ((200 : Int) < (la : Int)) = false := decide_eq_false (by omega)
    have d2 : decide ((200 : Int) < (lb : Int)) = false := decide_eq_false (by omega)
    have ha3 : la ≤ 1000000 := by omega
    have hb3 : lb ≤ 1000000 := by omega
    have hal : xa.length = la := hra.1
    have hbl : xb.length = lb := hrb.1
    have hab := hra.2.2.2.1
    have hbb := hrb.2.2.2.1
    obtain ⟨n, hn16⟩ : ∃ n, la = n + 16 := ⟨la - 16, by omega⟩
    have hsub : (la : Int) - 16 = (n : Int) := by omega
    have hnl : n ≤ la := by omega
    have hnca : (n : Int) ≤ (ca : Int) := by have := hra.2.1; omega
    obtain ⟨i, hi⟩ : ∃ i : Nat, (p0 : Int) % 16 = (i : Int) := ⟨p0 % 16, by omega⟩
    have hi16 : i < 16 := by omega
    have hIn : ((i : Nat) : Int) < 16 := by omega
    have hhl : (xa.take n).length = n := by rw [List.length_take]; omega
    obtain ⟨tg, htg⟩ : ∃ tg, tg = tagA key nonce (xa.take n) xb := ⟨_, rfl⟩
    obtain ⟨g1, hg1⟩ : ∃ g1, g1 = tg.set i (tg.getD i 0 ^^^ q0) := ⟨_, rfl⟩
    obtain ⟨htell, hr1, hr2, hz, hnz, htl, htb, hgl, hgb⟩ := tags_plain key nonce xa xb n i q0 (by omega) hi16 (by omega) tg g1 htg hg1
    have hgi : tg.getD i 0 < 256 := getD_u8 htb i
    obtain ⟨x0, hx0⟩ : ∃ x0, x0 = tg.getD i 0 := ⟨_, rfl⟩
    obtain ⟨y0, hy0⟩ : ∃ y0, y0 = x0 ^^^ q0 := ⟨_, rfl⟩
    rw [← hx0] at hg1 hgi
    rw [← hy0] at hg1
    have hxor : bits .xor .u8 ((x0 : Nat) : Int) (q0 : Int) = ((y0 : Nat) : Int) := by
      have h8 : (2 : Int) ^ IntKind.u8.bits = 256 := rfl
      have := bits_xor .u8 rfl ((x0 : Nat) : Int) (q0 : Int) (by omega) (by omega) (by omega) (by omega)
      rw [hy0]
      simpa using this
    have HX0 := Lib.hid hx0
    have cT := Lib.hid (fun (W : World) (h1 : RdB W a n ca (xa.take n)) (h2 : RdB W b lb cb xb) => Tag_any W key nonce a n ca (xa.take n) b lb cb xb HKL.out hkb HNL.out hnb h1 h2 (by omega) (by omega))
    rw [← htg] at cT
    have cO := Lib.hid (fun (W : World) (h1 : RdB W a la ca xa) (h2 : RdB W b lb cb xb) => Open_any W key nonce a la ca xa b lb cb xb HKL.out hkb HNL.out hnb h1 h2 ha3 hb3)
    have cB := fun (t : List Nat) => Lib.hid (fun (W : World) (ad : Option Addr) (cp : Nat) (h1 : RdB W ad la cp (xa.take n ++ t)) (h2 : RdB W b lb cb xb) => Open_any W key nonce ad la cp (xa.take n ++ t) b lb cb xb HKL.out hkb HNL.out hnb h1 h2 ha3 hb3)
    have cR := cB tg
    have cG := cB g1
    rw [hr1] at cR
    generalize openB key nonce (xa.take n ++ tg) xb = x2 at cR hr2
    generalize openB key nonce xa xb = x1 at cO htell
    generalize openE key nonce xa xb = c1 at cO htell hz
    generalize openB key nonce (xa.take n ++ g1) xb = x3 at cG hnz
    generalize openE key nonce (xa.take n ++ g1) xb = c3 at cG hnz hz
    obtain ⟨rb, hrbd⟩ : ∃ rb, rb = decide (xa.drop n = g1) := ⟨_, rfl⟩
    rw [← hrbd] at hz
    have hdb : ∀ x ∈ xa.drop n, x < 256 := fun x hx => hab x (List.mem_of_mem_drop hx)
    have heqr : ((strB (xa.drop n)).toList == (strB g1).toList) = rb := by rw [strB_beq hdb hgb, hrbd]
    have HI := Lib.hid info8o.choose_spec
    have HEQR := Lib.hid heqr
    have HG1 := Lib.hid hg1
    have HTL := Lib.hid htl
    have HGL := Lib.hid hgl
    have HHL := Lib.hid hhl
    have HAL := Lib.hid hal
    have HR2 := Lib.hid hr2
    have HZ := Lib.hid hz
    have HNZ := Lib.hid hnz
    have HTE := Lib.hid htell
    have HN16 := Lib.hid hn16
    have hzo := Lib.hid (show (Try.prog.info? 30).map (·.size) = some tg.length by rw [htl]; kernel_rfl)
    have hso := Lib.hid (show (List.replicate 16 0).length = tg.length by rw [htl]; rfl)
    clear hx0 hy0 cB htg hg1 htell hr1 hr2 hz hnz htl hgl hhl hal hbl hrbd heqr hn16
    go_enter Try.func6, Try.ntmps6
    have s0 : LW w [(w.heap.size + 1, 23, .u8, nonce), (w.heap.size, 22, .u8, key)] [(a, la, ca, xa), (b, lb, cb, xb)] ((w.alloc (.cells (nv .u8 key).toArray 22)).alloc (.cells (nv .u8 nonce).toArray 23)) := by
      have := ((((LW.nil (xrefl w)).addR hRb).addR hRa).new 22 .u8 key).new 23 .u8 nonce
      rw [World.size_alloc] at this
      exact this
    clear hra hrb hRa hRb
    go_wp2_with (first
      | (go_at_call 8; refine (awake_any _).mono ?_; rintro e w1 ⟨rfl, hb1⟩; have s1 := s0.below hb1; clear s0 hb1)
      | fail)
    refine wp_region_held_drew (S := LW w [(w.heap.size + 1, 23, .u8, nonce), (w.heap.size, 22, .u8, key)] [(a, la, ca, xa), (b, lb, cb, xb)]) (by kernel_rfl) (s1.drew) (fun hHeld => ?_)
    generalize World.drew _ = wv at hHeld ⊢
    refine takeL (i := 0) (v := .agg (nv .u8 key).toArray) rfl rfl (by kernel_rfl) (by kernel_rfl) (by kernel_rfl) (fun _ _ _ h => h) (yieldsIf_load_mid (by rfl) 22 (.tmp 6) rfl w.heap.size 0 (by rfl) (nv .u8 key) _ (fun _ h => blk_range (h.blk 1 rfl)) u32 rfl HK3.out) (by assumption) ?_
    try simp only [Act.put, List.setIfInBounds_toArray, List.set_cons_zero, List.set_cons_succ]
    refine takeL (i := 1) (v := .agg (nv .u8 nonce).toArray) rfl rfl (by kernel_rfl) (by kernel_rfl) (by kernel_rfl) (fun _ _ _ h => h) (yieldsIf_load_mid (by rfl) 23 (.tmp 7) rfl (w.heap.size + 1) 0 (by rfl) (nv .u8 nonce) _ (fun _ h => blk_range (h.blk 0 rfl)) u12 rfl HN3.out) (by assumption) ?_
    try simp only [Act.put, List.setIfInBounds_toArray, List.set_cons_zero, List.set_cons_succ]
    refine takeL (i := 2) (v := ?_) rfl rfl (by kernel_rfl) (by kernel_rfl) (by kernel_rfl) (fun _ _ _ h => h) (Or.inl ⟨by rfl, ?_⟩) (by assumption) ?_
    rotate_left
    · (intro w' hSw; go_simp; try with_reducible rfl)
    try simp only [Act.put, List.setIfInBounds_toArray, List.set_cons_zero, List.set_cons_succ]
    refine takeL (i := 3) (v := ?_) rfl rfl (by kernel_rfl) (by kernel_rfl) (by kernel_rfl) (fun _ _ _ h => h) (Or.inl ⟨by rfl, ?_⟩) (by assumption) ?_
    rotate_left
    · (intro w' hSw; go_simp; try with_reducible rfl)
    try simp only [Act.put, List.setIfInBounds_toArray, List.set_cons_zero, List.set_cons_succ]
    refine takeL (i := 4) (v := ?_) rfl rfl (by kernel_rfl) (by kernel_rfl) (by kernel_rfl) (fun _ _ _ h => h) (Or.inl ⟨by rfl, ?_⟩) (by assumption) ?_
    rotate_left
    · (intro w' hSw; go_simp; try with_reducible rfl)
    try simp only [Act.put, List.setIfInBounds_toArray, List.set_cons_zero, List.set_cons_succ]
    refine takeL (i := 5) (v := ?_) rfl rfl (by kernel_rfl) (by kernel_rfl) (by kernel_rfl) (fun _ _ _ h => h) (Or.inl ⟨by rfl, ?_⟩) (by assumption) ?_
    rotate_left
    · (intro w' hSw; go_simp; try with_reducible rfl)
    try simp only [Act.put, List.setIfInBounds_toArray, List.set_cons_zero, List.set_cons_succ]
    refine wpAnyH_ready (rs := [6, 7]) (by kernel_rfl) (by simp) ?_
    refine consL rfl (fun K hK => ?_) (consL rfl (fun K hK => ?_) AllReadyH.nil)
    · rw [if_pos (by rfl)]
      go_simp
      refine (cT.out _ (rdb_take (hHeld.rd 0 rfl) n hnl) (hHeld.rd 1 rfl)).mono ?_
      rintro e w41 ⟨rfl, b41⟩
      refine hK.out _ _ (hHeld.below b41) (fun hHeld => ?_)
      clear hK K
      try simp only [Act.put, List.setIfInBounds_toArray, List.set_cons_zero, List.set_cons_succ]
      refine wpAnyH_ready (rs := [7]) (by kernel_rfl) (by simp) ?_
      refine consL rfl (fun K hK => ?_) AllReadyH.nil
      · rw [if_pos (by rfl)]
        go_simp
        have hB42 := Blk.new w41 30 .u8 (List.replicate 16 0) _ rfl
        have hl42 := hHeld.alloc (.cells (nv .u8 (List.replicate 16 0)).toArray 30)
        have hlo42 := hHeld.lt
        have hrl42 := LW.low hHeld
        have hbe42 := hHeld.bel.size
        generalize w41.heap.size = Bn at hB42 hlo42 hrl42 hbe42 ⊢
        change K _ (w41.alloc (.cells (nv .u8 (List.replicate 16 0)).toArray 30))
        generalize w41.alloc (.cells (nv .u8 (List.replicate 16 0)).toArray 30) = w42 at hB42 hl42 ⊢
        refine hK.out _ _ (hl42) (fun hHeld => ?_)
        clear hK K
        try simp only [Act.put, List.setIfInBounds_toArray, List.set_cons_zero, List.set_cons_succ]
        refine wpAnyH_ready (rs := [8]) (by kernel_rfl) (by simp) ?_
        refine consL rfl (fun K hK => ?_) AllReadyH.nil
        · rw [if_pos (by rfl)]
          refine wpo_store_arr 30 (.tmp 15) (.tmp 47) rfl Bn rfl hB42 rfl hzo.out hso.out ?_
          intro wS hOS gS
          refine hK.out _ _ (hHeld.grown gS hbe42 (fun e he => Nat.ne_of_lt (hlo42 e he)) (fun e he x hx h0 => Nat.ne_of_lt (hrl42 e he x hx h0))) (fun hHeld => ?_)
          clear hK K
          try simp only [Act.put, List.setIfInBounds_toArray, List.set_cons_zero, List.set_cons_succ]
          refine wpAnyH_done (by kernel_rfl) ?_ _
          have s5 := hHeld.addB hOS
          have hBe := hbe42
          have hBl := hlo42
          have hBr := hrl42
          clear hHeld
          go_wp2_with (first
            | (refine wp_load_arr rfl 22 (.tmp 6) rfl w.heap.size rfl (s5.blk 2 rfl) 32 5 Try.underlying22 HK.out ?_)
            | (refine wp_load_arr rfl 23 (.tmp 7) rfl (w.heap.size + 1) rfl (s5.blk 1 rfl) 12 5 Try.underlying23 HN.out ?_)
            | fail)
          refine (cO.out _ (s5.rd 0 rfl) (s5.rd 1 rfl)).mono ?_
          rintro e w6 ⟨ad6, n6, cp6, rfl, l6, p6, b6⟩
          have s6 := s5.below b6
          clear s5 b6 p6
          go_wp2_with fail
          refine wp_region_held_drew (S := LW w [(Bn, 30, .u8, tg), (w.heap.size + 1, 23, .u8, nonce), (w.heap.size, 22, .u8, key)] [(a, la, ca, xa), (b, lb, cb, xb)]) (by kernel_rfl) (s6.drew) (fun hHeld => ?_)
          generalize World.drew _ = wv at hHeld ⊢
          refine takeL (i := 0) (v := .agg (nv .u8 key).toArray) rfl rfl (by kernel_rfl) (by kernel_rfl) (by kernel_rfl) (fun _ _ _ h => h) (yieldsIf_load_mid (by rfl) 22 (.tmp 6) rfl w.heap.size 0 (by rfl) (nv .u8 key) _ (fun _ h => blk_range (h.blk 2 rfl)) u32 rfl HK3.out) (by assumption) ?_
          try simp only [Act.put, List.setIfInBounds_toArray, List.set_cons_zero, List.set_cons_succ]
          refine takeL (i := 1) (v := .agg (nv .u8 nonce).toArray) rfl rfl (by kernel_rfl) (by kernel_rfl) (by kernel_rfl) (fun _ _ _ h => h) (yieldsIf_load_mid (by rfl) 23 (.tmp 7) rfl (w.heap.size + 1) 0 (by rfl) (nv .u8 nonce) _ (fun _ h => blk_range (h.blk 1 rfl)) u12 rfl HN3.out) (by assumption) ?_
          try simp only [Act.put, List.setIfInBounds_toArray, List.set_cons_zero, List.set_cons_succ]
          refine takeL (i := 3) (v := ?_) rfl rfl (by kernel_rfl) (by kernel_rfl) (by kernel_rfl) (fun _ _ _ h => h) (Or.inl ⟨by rfl, ?_⟩) (by assumption) ?_
          rotate_left
          · (intro w' hSw; go_simp; try with_reducible rfl)
          try simp only [Act.put, List.setIfInBounds_toArray, List.set_cons_zero, List.set_cons_succ]
          refine takeL (i := 4) (v := ?_) rfl rfl (by kernel_rfl) (by kernel_rfl) (by kernel_rfl) (fun _ _ _ h => h) (Or.inl ⟨by rfl, ?_⟩) (by assumption) ?_
          rotate_left
          · (intro w' hSw; go_simp; try with_reducible rfl)
          try simp only [Act.put, List.setIfInBounds_toArray, List.set_cons_zero, List.set_cons_succ]
          refine takeL (i := 5) (v := ?_) rfl rfl (by kernel_rfl) (by kernel_rfl) (by kernel_rfl) (fun _ _ _ h => h) (Or.inl ⟨by rfl, ?_⟩) (by assumption) ?_
          rotate_left
          · (intro w' hSw; go_simp; try with_reducible rfl)
          try simp only [Act.put, List.setIfInBounds_toArray, List.set_cons_zero, List.set_cons_succ]
          refine takeL (i := 7) (v := ?_) rfl rfl (by kernel_rfl) (by kernel_rfl) (by kernel_rfl) (fun _ _ _ h => h) (Or.inl ⟨by rfl, ?_⟩) (by assumption) ?_
          rotate_left
          · (intro w' hSw; go_simp; try with_reducible rfl)
          try simp only [Act.put, List.setIfInBounds_toArray, List.set_cons_zero, List.set_cons_succ]
          refine takeL (i := 9) (v := ?_) rfl rfl (by kernel_rfl) (by kernel_rfl) (by kernel_rfl) (fun _ _ _ h => h) (Or.inl ⟨by rfl, ?_⟩) (by assumption) ?_
          rotate_left
          · (intro w' hSw; go_simp; try with_reducible rfl)
          try simp only [Act.put, List.setIfInBounds_toArray, List.set_cons_zero, List.set_cons_succ]
          refine wpAnyH_ready (rs := [2]) (by kernel_rfl) (by simp) ?_
          refine consL rfl (fun K hK => ?_) AllReadyH.nil
          · rw [if_pos (by rfl)]
            go_simp
            have hO20 := Own.lit wv #[] 0 [] rfl rfl (by decide) (by simp)
            have hl20 := hHeld.alloc (.cells #[] 5)
            have hbe20 := hHeld.bel.size
            have hrl20 := LW.low hHeld
            generalize wv.heap.size = R at hO20 hbe20 hrl20 ⊢
            generalize wv.alloc (.cells #[] 5) = w20 at hO20 hl20 ⊢
            refine hK.out _ _ (hl20) (fun hHeld => ?_)
            clear hK K
            try simp only [Act.put, List.setIfInBounds_toArray, List.set_cons_zero, List.set_cons_succ]
            refine wpAnyH_ready (rs := [6]) (by kernel_rfl) (by simp) ?_
            refine consL rfl (fun K hK => ?_) AllReadyH.nil
            · rw [if_pos (by rfl)]
              refine wpo_append_at (.tmp 59) (.tmp 62) rfl R (.slice (some ⟨R, 0, none⟩) 0 0) [] rfl hO20 a n ca (xa.take n) rfl (rdb_take (hHeld.rd 0 rfl) n hnl) (by rw [HHL.out]; simp only [List.length_nil]; omega) ?_ ?_
              · have := hO20.block R rfl; omega
              intro v21 w21 o21 g21 _
              rw [List.nil_append] at o21
              obtain ⟨ad21, cp21, rfl, r21, _⟩ := o21.rd (by rw [HHL.out]; omega)
              rw [HHL.out] at o21 ⊢
              clear r21
              refine hK.out _ _ (LW.grownTop hHeld hO20 hbe20 g21 (by simp) hrl20) (fun hHeld => ?_)
              clear hK K
              try simp only [Act.put, List.setIfInBounds_toArray, List.set_cons_zero, List.set_cons_succ]
              refine wpAnyH_ready (rs := [8]) (by kernel_rfl) (by simp) ?_
              refine consL rfl (fun K hK => ?_) AllReadyH.nil
              · rw [if_pos (by rfl)]
                refine wpo_append_at (.tmp 63) (.tmp 64) rfl R (.slice ad21 n cp21) (xa.take n) rfl o21 (some ⟨Bn, 0, none⟩) 16 16 tg rfl ((hHeld.blk 0 rfl).rd 16 HTL.out htb (by decide)) (by rw [HHL.out, HTL.out]; omega) ?_ ?_
                · exact Nat.le_trans (Nat.le_of_lt (hO20.block R rfl).2) g21.size
                intro v22 w22 o22 g22 _
                obtain ⟨ad22, cp22, rfl, r22, _⟩ := o22.rd (by rw [List.length_append, HHL.out, HTL.out]; omega)
                rw [List.length_append, HHL.out, HTL.out, ← HN16.out] at r22 o22 ⊢
                refine hK.out _ _ (LW.grownTop hHeld o21 hbe20 g22 (by simp) hrl20) (fun hHeld => ?_)
                clear hK K
                try simp only [Act.put, List.setIfInBounds_toArray, List.set_cons_zero, List.set_cons_succ]
                refine wpAnyH_ready (rs := [10]) (by kernel_rfl) (by simp) ?_
                refine consL rfl (fun K hK => ?_) AllReadyH.nil
                · rw [if_pos (by rfl)]
                  go_simp
                  refine (cR.out _ _ _ r22 (hHeld.rd 1 rfl)).mono ?_
                  rintro e w23 ⟨ad23, n23, cp23, rfl, l23, p23, b23⟩
                  refine hK.out _ _ (hHeld.below b23) (fun hHeld => ?_)
                  clear hK K
                  try simp only [Act.put, List.setIfInBounds_toArray, List.set_cons_zero, List.set_cons_succ]
                  refine takeL (i := 11) (v := ?_) rfl rfl (by kernel_rfl) (by kernel_rfl) (by kernel_rfl) (fun _ _ _ h => h) (Or.inl ⟨by rfl, ?_⟩) (by assumption) ?_
                  rotate_left
                  · (intro w' hSw; go_simp; try with_reducible rfl)
                  try simp only [Act.put, List.setIfInBounds_toArray, List.set_cons_zero, List.set_cons_succ]
                  refine takeL (i := 12) (v := ?_) rfl rfl (by kernel_rfl) (by kernel_rfl) (by kernel_rfl) (fun _ _ _ h => h) (Or.inl ⟨by rfl, ?_⟩) (by assumption) ?_
                  rotate_left
                  · (intro w' hSw; go_simp; try with_reducible rfl)
                  try simp only [Act.put, List.setIfInBounds_toArray, List.set_cons_zero, List.set_cons_succ]
                  refine takeL (i := 13) (v := ?_) rfl rfl (by kernel_rfl) (by kernel_rfl) (by kernel_rfl) (fun _ _ _ h => h) (Or.inl ⟨by rfl, ?_⟩) (by assumption) ?_
                  rotate_left
                  · (intro w' hSw; go_simp; try with_reducible rfl)
                  try simp only [Act.put, List.setIfInBounds_toArray, List.set_cons_zero, List.set_cons_succ]
                  refine takeL (i := 14) (v := ?_) rfl rfl (by kernel_rfl) (by kernel_rfl) (by kernel_rfl) (fun _ _ _ h => h) (Or.inl ⟨by rfl, ?_⟩) (by assumption) ?_
                  rotate_left
                  · (intro w' hSw; go_simp; try with_reducible rfl)
                  try simp only [Act.put, List.setIfInBounds_toArray, List.set_cons_zero, List.set_cons_succ]
                  refine takeL (i := 15) (v := ?_) rfl rfl (by kernel_rfl) (by kernel_rfl) (by kernel_rfl) (fun _ _ _ h => h) (Or.inl ⟨by rfl, ?_⟩) (by assumption) ?_
                  rotate_left
                  · (intro w' hSw; go_simp; try with_reducible rfl)
                  try simp only [Act.put, List.setIfInBounds_toArray, List.set_cons_zero, List.set_cons_succ]
                  refine wpAnyH_done (by kernel_rfl) ?_ _
                  have s7 := hHeld
                  clear hHeld
                  have hcell := (s7.blk 0 rfl).cell i (by have := HTL.out; omega)
                  have hfrz := (s7.blk 0 rfl).frozen i
                  rw [← HX0.out] at hcell
                  obtain ⟨w8, hw8⟩ : ∃ w8, w23.setCell ⟨Bn, i, none⟩ (.int .u8 ((y0 : Nat) : Int)) = w8 := ⟨_, rfl⟩
                  have s8 := LW.set1 s7 hBe (fun e he => Nat.ne_of_lt (hBl e he)) (fun e he x hx h0 => Nat.ne_of_lt (hBr e he x hx h0)) i y0
                  rw [hw8, ← HG1.out] at s8
                  go_wp2_with fail
                  refine wp_region_held_drew (S := LW w [(Bn, 30, .u8, g1), (w.heap.size + 1, 23, .u8, nonce), (w.heap.size, 22, .u8, key)] [(a, la, ca, xa), (b, lb, cb, xb)]) (by kernel_rfl) (s8.drew) (fun hHeld => ?_)
                  generalize World.drew _ = wv at hHeld ⊢
                  refine takeL (i := 0) (v := .agg (nv .u8 key).toArray) rfl rfl (by kernel_rfl) (by kernel_rfl) (by kernel_rfl) (fun _ _ _ h => h) (yieldsIf_load_mid (by rfl) 22 (.tmp 6) rfl w.heap.size 0 (by rfl) (nv .u8 key) _ (fun _ h => blk_range (h.blk 2 rfl)) u32 rfl HK3.out) (by assumption) ?_
                  try simp only [Act.put, List.setIfInBounds_toArray, List.set_cons_zero, List.set_cons_succ]
                  refine takeL (i := 1) (v := .agg (nv .u8 nonce).toArray) rfl rfl (by kernel_rfl) (by kernel_rfl) (by kernel_rfl) (fun _ _ _ h => h) (yieldsIf_load_mid (by rfl) 23 (.tmp 7) rfl (w.heap.size + 1) 0 (by rfl) (nv .u8 nonce) _ (fun _ h => blk_range (h.blk 1 rfl)) u12 rfl HN3.out) (by assumption) ?_
                  try simp only [Act.put, List.setIfInBounds_toArray, List.set_cons_zero, List.set_cons_succ]
                  refine takeL (i := 3) (v := ?_) rfl rfl (by kernel_rfl) (by kernel_rfl) (by kernel_rfl) (fun _ _ _ h => h) (Or.inl ⟨by rfl, ?_⟩) (by assumption) ?_
                  rotate_left
                  · (intro w' hSw; go_simp; try with_reducible rfl)
                  try simp only [Act.put, List.setIfInBounds_toArray, List.set_cons_zero, List.set_cons_succ]
                  refine takeL (i := 4) (v := ?_) rfl rfl (by kernel_rfl) (by kernel_rfl) (by kernel_rfl) (fun _ _ _ h => h) (Or.inl ⟨by rfl, ?_⟩) (by assumption) ?_
                  rotate_left
                  · (intro w' hSw; go_simp; try with_reducible rfl)
                  try simp only [Act.put, List.setIfInBounds_toArray, List.set_cons_zero, List.set_cons_succ]
                  refine takeL (i := 5) (v := ?_) rfl rfl (by kernel_rfl) (by kernel_rfl) (by kernel_rfl) (fun _ _ _ h => h) (Or.inl ⟨by rfl, ?_⟩) (by assumption) ?_
                  rotate_left
                  · (intro w' hSw; go_simp; try with_reducible rfl)
                  try simp only [Act.put, List.setIfInBounds_toArray, List.set_cons_zero, List.set_cons_succ]
                  refine takeL (i := 7) (v := ?_) rfl rfl (by kernel_rfl) (by kernel_rfl) (by kernel_rfl) (fun _ _ _ h => h) (Or.inl ⟨by rfl, ?_⟩) (by assumption) ?_
                  rotate_left
                  · (intro w' hSw; go_simp; try with_reducible rfl)
                  try simp only [Act.put, List.setIfInBounds_toArray, List.set_cons_zero, List.set_cons_succ]
                  refine takeL (i := 9) (v := ?_) rfl rfl (by kernel_rfl) (by kernel_rfl) (by kernel_rfl) (fun _ _ _ h => h) (Or.inl ⟨by rfl, ?_⟩) (by assumption) ?_
                  rotate_left
                  · (intro w' hSw; go_simp; try with_reducible rfl)
                  try simp only [Act.put, List.setIfInBounds_toArray, List.set_cons_zero, List.set_cons_succ]
                  refine wpAnyH_ready (rs := [2]) (by kernel_rfl) (by simp) ?_
                  refine consL rfl (fun K hK => ?_) AllReadyH.nil
                  · rw [if_pos (by rfl)]
                    go_simp
                    have hO30 := Own.lit wv #[] 0 [] rfl rfl (by decide) (by simp)
                    have hl30 := hHeld.alloc (.cells #[] 5)
                    have hbe30 := hHeld.bel.size
                    have hrl30 := LW.low hHeld
                    generalize wv.heap.size = R at hO30 hbe30 hrl30 ⊢
                    generalize wv.alloc (.cells #[] 5) = w30 at hO30 hl30 ⊢
                    refine hK.out _ _ (hl30) (fun hHeld => ?_)
                    clear hK K
                    try simp only [Act.put, List.setIfInBounds_toArray, List.set_cons_zero, List.set_cons_succ]
                    refine wpAnyH_ready (rs := [6]) (by kernel_rfl) (by simp) ?_
                    refine consL rfl (fun K hK => ?_) AllReadyH.nil
                    · rw [if_pos (by rfl)]
                      refine wpo_append_at (.tmp 82) (.tmp 85) rfl R (.slice (some ⟨R, 0, none⟩) 0 0) [] rfl hO30 a n ca (xa.take n) rfl (rdb_take (hHeld.rd 0 rfl) n hnl) (by rw [HHL.out]; simp only [List.length_nil]; omega) ?_ ?_
                      · have := hO30.block R rfl; omega
                      intro v31 w31 o31 g31 _
                      rw [List.nil_append] at o31
                      obtain ⟨ad31, cp31, rfl, r31, _⟩ := o31.rd (by rw [HHL.out]; omega)
                      rw [HHL.out] at o31 ⊢
                      clear r31
                      refine hK.out _ _ (LW.grownTop hHeld hO30 hbe30 g31 (by simp) hrl30) (fun hHeld => ?_)
                      clear hK K
                      try simp only [Act.put, List.setIfInBounds_toArray, List.set_cons_zero, List.set_cons_succ]
                      refine wpAnyH_ready (rs := [8]) (by kernel_rfl) (by simp) ?_
                      refine consL rfl (fun K hK => ?_) AllReadyH.nil
                      · rw [if_pos (by rfl)]
                        refine wpo_append_at (.tmp 86) (.tmp 87) rfl R (.slice ad31 n cp31) (xa.take n) rfl o31 (some ⟨Bn, 0, none⟩) 16 16 g1 rfl ((hHeld.blk 0 rfl).rd 16 HGL.out hgb (by decide)) (by rw [HHL.out, HGL.out]; omega) ?_ ?_
                        · exact Nat.le_trans (Nat.le_of_lt (hO30.block R rfl).2) g31.size
                        intro v32 w32 o32 g32 _
                        obtain ⟨ad32, cp32, rfl, r32, _⟩ := o32.rd (by rw [List.length_append, HHL.out, HGL.out]; omega)
                        rw [List.length_append, HHL.out, HGL.out, ← HN16.out] at r32 o32 ⊢
                        refine hK.out _ _ (LW.grownTop hHeld o31 hbe30 g32 (by simp) hrl30) (fun hHeld => ?_)
                        clear hK K
                        try simp only [Act.put, List.setIfInBounds_toArray, List.set_cons_zero, List.set_cons_succ]
                        refine wpAnyH_ready (rs := [10]) (by kernel_rfl) (by simp) ?_
                        refine consL rfl (fun K hK => ?_) AllReadyH.nil
                        · rw [if_pos (by rfl)]
                          go_simp
                          refine (cG.out _ _ _ r32 (hHeld.rd 1 rfl)).mono ?_
                          rintro e w33 ⟨ad33, n33, cp33, rfl, l33, p33, b33⟩
                          refine hK.out _ _ (hHeld.below b33) (fun hHeld => ?_)
                          clear hK K
                          try simp only [Act.put, List.setIfInBounds_toArray, List.set_cons_zero, List.set_cons_succ]
                          refine takeL (i := 11) (v := ?_) rfl rfl (by kernel_rfl) (by kernel_rfl) (by kernel_rfl) (fun _ _ _ h => h) (Or.inl ⟨by rfl, ?_⟩) (by assumption) ?_
                          rotate_left
                          · (intro w' hSw; go_simp; try with_reducible rfl)
                          try simp only [Act.put, List.setIfInBounds_toArray, List.set_cons_zero, List.set_cons_succ]
                          refine takeL (i := 12) (v := ?_) rfl rfl (by kernel_rfl) (by kernel_rfl) (by kernel_rfl) (fun _ _ _ h => h) (Or.inl ⟨by rfl, ?_⟩) (by assumption) ?_
                          rotate_left
                          · (intro w' hSw; go_simp; try with_reducible rfl)
                          try simp only [Act.put, List.setIfInBounds_toArray, List.set_cons_zero, List.set_cons_succ]
                          refine takeL (i := 13) (v := ?_) rfl rfl (by kernel_rfl) (by kernel_rfl) (by kernel_rfl) (fun _ _ _ h => h) (Or.inl ⟨by rfl, ?_⟩) (by assumption) ?_
                          rotate_left
                          · (intro w' hSw; go_simp; try with_reducible rfl)
                          try simp only [Act.put, List.setIfInBounds_toArray, List.set_cons_zero, List.set_cons_succ]
                          refine takeL (i := 14) (v := ?_) rfl rfl (by kernel_rfl) (by kernel_rfl) (by kernel_rfl) (fun _ _ _ h => h) (Or.inl ⟨by rfl, ?_⟩) (by assumption) ?_
                          rotate_left
                          · (intro w' hSw; go_simp; try with_reducible rfl)
                          try simp only [Act.put, List.setIfInBounds_toArray, List.set_cons_zero, List.set_cons_succ]
                          refine takeL (i := 15) (v := ?_) rfl rfl (by kernel_rfl) (by kernel_rfl) (by kernel_rfl) (fun _ _ _ h => h) (Or.inl ⟨by rfl, ?_⟩) (by assumption) ?_
                          rotate_left
                          · (intro w' hSw; go_simp; try with_reducible rfl)
                          try simp only [Act.put, List.setIfInBounds_toArray, List.set_cons_zero, List.set_cons_succ]
                          refine wpAnyH_done (by kernel_rfl) ?_ _
                          have s9 := hHeld
                          clear hHeld
                          go_wp2_with fail
                          refine wp_region_class (LW w [(Bn, 30, .u8, g1), (w.heap.size + 1, 23, .u8, nonce), (w.heap.size, 22, .u8, key)] [(a, la, ca, xa), (b, lb, cb, xb)]) (by kernel_rfl) (by kernel_rfl) (s9.drew) ?_
                          refine qY (v := ?_) rfl ?_ ?_
                          rotate_left
                          · (intro w' _; go_simp; try with_reducible rfl)
                          rotate_left
                          try simp only [Act.put, List.setIfInBounds_toArray, List.set_cons_zero, List.set_cons_succ]
                          refine qY (v := ?_) rfl ?_ ?_
                          rotate_left
                          · (intro w' _; go_simp; try with_reducible rfl)
                          rotate_left
                          try simp only [Act.put, List.setIfInBounds_toArray, List.set_cons_zero, List.set_cons_succ]
                          refine qI (v := .slice (cutA a ca n) (la - n) (ca - n)) (yieldsFrom (by rfl) rfl (by rfl) (by rfl) us HI.out.1 HI.out.2 hnl rfl) ?_
                          try simp only [Act.put, List.setIfInBounds_toArray, List.set_cons_zero, List.set_cons_succ]
                          refine qI (v := .string (strB (xa.drop n))) (yieldsStr (by rfl) (x := .tmp 95) rfl (by rfl) us u8 ut (fun W h => ((h.rd 0 rfl).cut n hnl).2)) ?_
                          try simp only [Act.put, List.setIfInBounds_toArray, List.set_cons_zero, List.set_cons_succ]
                          refine qY (v := ?_) rfl ?_ ?_
                          rotate_left
                          · (intro w' _; go_simp; try with_reducible rfl)
                          rotate_left
                          try simp only [Act.put, List.setIfInBounds_toArray, List.set_cons_zero, List.set_cons_succ]
                          refine qI (v := .string (strB g1)) (yieldsStr (by rfl) (x := .tmp 97) rfl (by rfl) us u8 ut (fun W h => ((h.blk 0 rfl).rd 16 HGL.out hgb (by decide)).2)) ?_
                          try simp only [Act.put, List.setIfInBounds_toArray, List.set_cons_zero, List.set_cons_succ]
                          refine qI (v := .bool rb) (yieldsEqS (by rfl) rfl (by rfl) (by rfl) HEQR.out) ?_
                          try simp only [Act.put, List.setIfInBounds_toArray, List.set_cons_zero, List.set_cons_succ]
                          refine qY (v := ?_) rfl ?_ ?_
                          rotate_left
                          · (intro w' _; go_simp; try with_reducible rfl)
                          rotate_left
                          try simp only [Act.put, List.setIfInBounds_toArray, List.set_cons_zero, List.set_cons_succ]
                          refine wpQuiet_nil ?_
                          intro wz sZ
                          have hfin := sZ.bel
                          clear sZ s9
                          have htell := HTE.out
                          have hz := HZ.out
                          have hnz := HNZ.out
                          rw [l33] at hnz
                          rw [l6] at htell
                          obtain rfl : n23 = n := l23.symm.trans HR2.out
                          clear HTE HZ HNZ HR2 HEQR cT cO cR cG HN16 l33 l6
                          by_cases hq0 : q0 = 0
                          · obtain ⟨hc3, hrb⟩ := hz hq0
                            subst hq0 hc3 hrb
                            clear hz hnz
                            rcases htell with rfl | ⟨rfl, rfl⟩
                            all_goals (try rw [show ((0 : Nat) : Int) = 0 from rfl])
                            all_goals (try rw [show ((70 : Nat) : Int) = 70 from rfl])
                            all_goals go_wp2_with fail
                            all_goals go_ret
                            all_goals exact ⟨rfl, hfin⟩
                          · obtain ⟨hc3, hn3⟩ := hnz hq0
                            subst hc3 hn3
                            have hq1 : decide ((q0 : Int) = 0) = false := decide_eq_false (by omega)
                            have hq2 : ((q0 : Int) == 0) = false := by rw [beq_eq_false_iff_ne]; omega
                            have hq3 : ((q0 : Int) != 0) = true := by rw [bne_iff_ne]; omega
                            clear hz hnz hq0
                            rcases htell with rfl | ⟨rfl, rfl⟩
                            all_goals (try rw [show ((0 : Nat) : Int) = 0 from rfl])
                            all_goals (try rw [show ((70 : Nat) : Int) = 70 from rfl])
                            all_goals go_wp2_with fail
                            all_goals go_ret
                            all_goals exact ⟨rfl, hfin⟩
    · rw [if_pos (by rfl)]
      go_simp
      have hB41 := Blk.new wv 30 .u8 (List.replicate 16 0) _ rfl
      have hl41 := hHeld.alloc (.cells (nv .u8 (List.replicate 16 0)).toArray 30)
      have hlo41 := hHeld.lt
      have hrl41 := LW.low hHeld
      have hbe41 := hHeld.bel.size
      generalize wv.heap.size = Bn at hB41 hlo41 hrl41 hbe41 ⊢
      change K _ (wv.alloc (.cells (nv .u8 (List.replicate 16 0)).toArray 30))
      generalize wv.alloc (.cells (nv .u8 (List.replicate 16 0)).toArray 30) = w41 at hB41 hl41 ⊢
      refine hK.out _ _ (hl41) (fun hHeld => ?_)
      clear hK K
      try simp only [Act.put, List.setIfInBounds_toArray, List.set_cons_zero, List.set_cons_succ]
      refine wpAnyH_ready (rs := [6]) (by kernel_rfl) (by simp) ?_
      refine consL rfl (fun K hK => ?_) AllReadyH.nil
      · rw [if_pos (by rfl)]
        go_simp
        refine (cT.out _ (rdb_take (hHeld.rd 0 rfl) n hnl) (hHeld.rd 1 rfl)).mono ?_
        rintro e w42 ⟨rfl, b42⟩
        have hB42 := hB41.below b42
        refine hK.out _ _ (hHeld.below b42) (fun hHeld => ?_)
        clear hK K
        try simp only [Act.put, List.setIfInBounds_toArray, List.set_cons_zero, List.set_cons_succ]
        refine wpAnyH_ready (rs := [8]) (by kernel_rfl) (by simp) ?_
        refine consL rfl (fun K hK => ?_) AllReadyH.nil
        · rw [if_pos (by rfl)]
          refine wpo_store_arr 30 (.tmp 15) (.tmp 47) rfl Bn rfl hB42 rfl hzo.out hso.out ?_
          intro wS hOS gS
          refine hK.out _ _ (hHeld.grown gS hbe41 (fun e he => Nat.ne_of_lt (hlo41 e he)) (fun e he x hx h0 => Nat.ne_of_lt (hrl41 e he x hx h0))) (fun hHeld => ?_)
          clear hK K
          try simp only [Act.put, List.setIfInBounds_toArray, List.set_cons_zero, List.set_cons_succ]
          refine wpAnyH_done (by kernel_rfl) ?_ _
          have s5 := hHeld.addB hOS
          have hBe := hbe41
          have hBl := hlo41
          have hBr := hrl41
          clear hHeld
          go_wp2_with (first
            | (refine wp_load_arr rfl 22 (.tmp 6) rfl w.heap.size rfl (s5.blk 2 rfl) 32 5 Try.underlying22 HK.out ?_)
            | (refine wp_load_arr rfl 23 (.tmp 7) rfl (w.heap.size + 1) rfl (s5.blk 1 rfl) 12 5 Try.underlying23 HN.out ?_)
            | fail)
          refine (cO.out _ (s5.rd 0 rfl) (s5.rd 1 rfl)).mono ?_
          rintro e w6 ⟨ad6, n6, cp6, rfl, l6, p6, b6⟩
          have s6 := s5.below b6
          clear s5 b6 p6
          go_wp2_with fail
          refine wp_region_held_drew (S := LW w [(Bn, 30, .u8, tg), (w.heap.size + 1, 23, .u8, nonce), (w.heap.size, 22, .u8, key)] [(a, la, ca, xa), (b, lb, cb, xb)]) (by kernel_rfl) (s6.drew) (fun hHeld => ?_)
          generalize World.drew _ = wv at hHeld ⊢
          refine takeL (i := 0) (v := .agg (nv .u8 key).toArray) rfl rfl (by kernel_rfl) (by kernel_rfl) (by kernel_rfl) (fun _ _ _ h => h) (yieldsIf_load_mid (by rfl) 22 (.tmp 6) rfl w.heap.size 0 (by rfl) (nv .u8 key) _ (fun _ h => blk_range (h.blk 2 rfl)) u32 rfl HK3.out) (by assumption) ?_
          try simp only [Act.put, List.setIfInBounds_toArray, List.set_cons_zero, List.set_cons_succ]
          refine takeL (i := 1) (v := .agg (nv .u8 nonce).toArray) rfl rfl (by kernel_rfl) (by kernel_rfl) (by kernel_rfl) (fun _ _ _ h => h) (yieldsIf_load_mid (by rfl) 23 (.tmp 7) rfl (w.heap.size + 1) 0 (by rfl) (nv .u8 nonce) _ (fun _ h => blk_range (h.blk 1 rfl)) u12 rfl HN3.out) (by assumption) ?_
          try simp only [Act.put, List.setIfInBounds_toArray, List.set_cons_zero, List.set_cons_succ]
          refine takeL (i := 3) (v := ?_) rfl rfl (by kernel_rfl) (by kernel_rfl) (by kernel_rfl) (fun _ _ _ h => h) (Or.inl ⟨by rfl, ?_⟩) (by assumption) ?_
          rotate_left
          · (intro w' hSw; go_simp; try with_reducible rfl)
          try simp only [Act.put, List.setIfInBounds_toArray, List.set_cons_zero, List.set_cons_succ]
          refine takeL (i := 4) (v := ?_) rfl rfl (by kernel_rfl) (by kernel_rfl) (by kernel_rfl) (fun _ _ _ h => h) (Or.inl ⟨by rfl, ?_⟩) (by assumption) ?_
          rotate_left
          · (intro w' hSw; go_simp; try with_reducible rfl)
          try simp only [Act.put, List.setIfInBounds_toArray, List.set_cons_zero, List.set_cons_succ]
          refine takeL (i := 5) (v := ?_) rfl rfl (by kernel_rfl) (by kernel_rfl) (by kernel_rfl) (fun _ _ _ h => h) (Or.inl ⟨by rfl, ?_⟩) (by assumption) ?_
          rotate_left
          · (intro w' hSw; go_simp; try with_reducible rfl)
          try simp only [Act.put, List.setIfInBounds_toArray, List.set_cons_zero, List.set_cons_succ]
          refine takeL (i := 7) (v := ?_) rfl rfl (by kernel_rfl) (by kernel_rfl) (by kernel_rfl) (fun _ _ _ h => h) (Or.inl ⟨by rfl, ?_⟩) (by assumption) ?_
          rotate_left
          · (intro w' hSw; go_simp; try with_reducible rfl)
          try simp only [Act.put, List.setIfInBounds_toArray, List.set_cons_zero, List.set_cons_succ]
          refine takeL (i := 9) (v := ?_) rfl rfl (by kernel_rfl) (by kernel_rfl) (by kernel_rfl) (fun _ _ _ h => h) (Or.inl ⟨by rfl, ?_⟩) (by assumption) ?_
          rotate_left
          · (intro w' hSw; go_simp; try with_reducible rfl)
          try simp only [Act.put, List.setIfInBounds_toArray, List.set_cons_zero, List.set_cons_succ]
          refine wpAnyH_ready (rs := [2]) (by kernel_rfl) (by simp) ?_
          refine consL rfl (fun K hK => ?_) AllReadyH.nil
          · rw [if_pos (by rfl)]
            go_simp
            have hO20 := Own.lit wv #[] 0 [] rfl rfl (by decide) (by simp)
            have hl20 := hHeld.alloc (.cells #[] 5)
            have hbe20 := hHeld.bel.size
            have hrl20 := LW.low hHeld
            generalize wv.heap.size = R at hO20 hbe20 hrl20 ⊢
            generalize wv.alloc (.cells #[] 5) = w20 at hO20 hl20 ⊢
            refine hK.out _ _ (hl20) (fun hHeld => ?_)
            clear hK K
            try simp only [Act.put, List.setIfInBounds_toArray, List.set_cons_zero, List.set_cons_succ]
            refine wpAnyH_ready (rs := [6]) (by kernel_rfl) (by simp) ?_
            refine consL rfl (fun K hK => ?_) AllReadyH.nil
            · rw [if_pos (by rfl)]
              refine wpo_append_at (.tmp 59) (.tmp 62) rfl R (.slice (some ⟨R, 0, none⟩) 0 0) [] rfl hO20 a n ca (xa.take n) rfl (rdb_take (hHeld.rd 0 rfl) n hnl) (by rw [HHL.out]; simp only [List.length_nil]; omega) ?_ ?_
              · have := hO20.block R rfl; omega
              intro v21 w21 o21 g21 _
              rw [List.nil_append] at o21
              obtain ⟨ad21, cp21, rfl, r21, _⟩ := o21.rd (by rw [HHL.out]; omega)
              rw [HHL.out] at o21 ⊢
              clear r21
              refine hK.out _ _ (LW.grownTop hHeld hO20 hbe20 g21 (by simp) hrl20) (fun hHeld => ?_)
              clear hK K
              try simp only [Act.put, List.setIfInBounds_toArray, List.set_cons_zero, List.set_cons_succ]
              refine wpAnyH_ready (rs := [8]) (by kernel_rfl) (by simp) ?_
              refine consL rfl (fun K hK => ?_) AllReadyH.nil
              · rw [if_pos (by rfl)]
                refine wpo_append_at (.tmp 63) (.tmp 64) rfl R (.slice ad21 n cp21) (xa.take n) rfl o21 (some ⟨Bn, 0, none⟩) 16 16 tg rfl ((hHeld.blk 0 rfl).rd 16 HTL.out htb (by decide)) (by rw [HHL.out, HTL.out]; omega) ?_ ?_
                · exact Nat.le_trans (Nat.le_of_lt (hO20.block R rfl).2) g21.size
                intro v22 w22 o22 g22 _
                obtain ⟨ad22, cp22, rfl, r22, _⟩ := o22.rd (by rw [List.length_append, HHL.out, HTL.out]; omega)
                rw [List.length_append, HHL.out, HTL.out, ← HN16.out] at r22 o22 ⊢
                refine hK.out _ _ (LW.grownTop hHeld o21 hbe20 g22 (by simp) hrl20) (fun hHeld => ?_)
                clear hK K
                try simp only [Act.put, List.setIfInBounds_toArray, List.set_cons_zero, List.set_cons_succ]
                refine wpAnyH_ready (rs := [10]) (by kernel_rfl) (by simp) ?_
                refine consL rfl (fun K hK => ?_) AllReadyH.nil
                · rw [if_pos (by rfl)]
                  go_simp
                  refine (cR.out _ _ _ r22 (hHeld.rd 1 rfl)).mono ?_
                  rintro e w23 ⟨ad23, n23, cp23, rfl, l23, p23, b23⟩
                  refine hK.out _ _ (hHeld.below b23) (fun hHeld => ?_)
                  clear hK K
                  try simp only [Act.put, List.setIfInBounds_toArray, List.set_cons_zero, List.set_cons_succ]
                  refine takeL (i := 11) (v := ?_) rfl rfl (by kernel_rfl) (by kernel_rfl) (by kernel_rfl) (fun _ _ _ h => h) (Or.inl ⟨by rfl, ?_⟩) (by assumption) ?_
                  rotate_left
                  · (intro w' hSw; go_simp; try with_reducible rfl)
                  try simp only [Act.put, List.setIfInBounds_toArray, List.set_cons_zero, List.set_cons_succ]
                  refine takeL (i := 12) (v := ?_) rfl rfl (by kernel_rfl) (by kernel_rfl) (by kernel_rfl) (fun _ _ _ h => h) (Or.inl ⟨by rfl, ?_⟩) (by assumption) ?_
                  rotate_left
                  · (intro w' hSw; go_simp; try with_reducible rfl)
                  try simp only [Act.put, List.setIfInBounds_toArray, List.set_cons_zero, List.set_cons_succ]
                  refine takeL (i := 13) (v := ?_) rfl rfl (by kernel_rfl) (by kernel_rfl) (by kernel_rfl) (fun _ _ _ h => h) (Or.inl ⟨by rfl, ?_⟩) (by assumption) ?_
                  rotate_left
                  · (intro w' hSw; go_simp; try with_reducible rfl)
                  try simp only [Act.put, List.setIfInBounds_toArray, List.set_cons_zero, List.set_cons_succ]
                  refine takeL (i := 14) (v := ?_) rfl rfl (by kernel_rfl) (by kernel_rfl) (by kernel_rfl) (fun _ _ _ h => h) (Or.inl ⟨by rfl, ?_⟩) (by assumption) ?_
                  rotate_left
                  · (intro w' hSw; go_simp; try with_reducible rfl)
                  try simp only [Act.put, List.setIfInBounds_toArray, List.set_cons_zero, List.set_cons_succ]
                  refine takeL (i := 15) (v := ?_) rfl rfl (by kernel_rfl) (by kernel_rfl) (by kernel_rfl) (fun _ _ _ h => h) (Or.inl ⟨by rfl, ?_⟩) (by assumption) ?_
                  rotate_left
                  · (intro w' hSw; go_simp; try with_reducible rfl)
                  try simp only [Act.put, List.setIfInBounds_toArray, List.set_cons_zero, List.set_cons_succ]
                  refine wpAnyH_done (by kernel_rfl) ?_ _
                  have s7 := hHeld
                  clear hHeld
                  have hcell := (s7.blk 0 rfl).cell i (by have := HTL.out; omega)
                  have hfrz := (s7.blk 0 rfl).frozen i
                  rw [← HX0.out] at hcell
                  obtain ⟨w8, hw8⟩ : ∃ w8, w23.setCell ⟨Bn, i, none⟩ (.int .u8 ((y0 : Nat) : Int)) = w8 := ⟨_, rfl⟩
                  have s8 := LW.set1 s7 hBe (fun e he => Nat.ne_of_lt (hBl e he)) (fun e he x hx h0 => Nat.ne_of_lt (hBr e he x hx h0)) i y0
                  rw [hw8, ← HG1.out] at s8
                  go_wp2_with fail
                  refine wp_region_held_drew (S := LW w [(Bn, 30, .u8, g1), (w.heap.size + 1, 23, .u8, nonce), (w.heap.size, 22, .u8, key)] [(a, la, ca, xa), (b, lb, cb, xb)]) (by kernel_rfl) (s8.drew) (fun hHeld => ?_)
                  generalize World.drew _ = wv at hHeld ⊢
                  refine takeL (i := 0) (v := .agg (nv .u8 key).toArray) rfl rfl (by kernel_rfl) (by kernel_rfl) (by kernel_rfl) (fun _ _ _ h => h) (yieldsIf_load_mid (by rfl) 22 (.tmp 6) rfl w.heap.size 0 (by rfl) (nv .u8 key) _ (fun _ h => blk_range (h.blk 2 rfl)) u32 rfl HK3.out) (by assumption) ?_
                  try simp only [Act.put, List.setIfInBounds_toArray, List.set_cons_zero, List.set_cons_succ]
                  refine takeL (i := 1) (v := .agg (nv .u8 nonce).toArray) rfl rfl (by kernel_rfl) (by kernel_rfl) (by kernel_rfl) (fun _ _ _ h => h) (yieldsIf_load_mid (by rfl) 23 (.tmp 7) rfl (w.heap.size + 1) 0 (by rfl) (nv .u8 nonce) _ (fun _ h => blk_range (h.blk 1 rfl)) u12 rfl HN3.out) (by assumption) ?_
                  try simp only [Act.put, List.setIfInBounds_toArray, List.set_cons_zero, List.set_cons_succ]
                  refine takeL (i := 3) (v := ?_) rfl rfl (by kernel_rfl) (by kernel_rfl) (by kernel_rfl) (fun _ _ _ h => h) (Or.inl ⟨by rfl, ?_⟩) (by assumption) ?_
                  rotate_left
                  · (intro w' hSw; go_simp; try with_reducible rfl)
                  try simp only [Act.put, List.setIfInBounds_toArray, List.set_cons_zero, List.set_cons_succ]
                  refine takeL (i := 4) (v := ?_) rfl rfl (by kernel_rfl) (by kernel_rfl) (by kernel_rfl) (fun _ _ _ h => h) (Or.inl ⟨by rfl, ?_⟩) (by assumption) ?_
                  rotate_left
                  · (intro w' hSw; go_simp; try with_reducible rfl)
                  try simp only [Act.put, List.setIfInBounds_toArray, List.set_cons_zero, List.set_cons_succ]
                  refine takeL (i := 5) (v := ?_) rfl rfl (by kernel_rfl) (by kernel_rfl) (by kernel_rfl) (fun _ _ _ h => h) (Or.inl ⟨by rfl, ?_⟩) (by assumption) ?_
                  rotate_left
                  · (intro w' hSw; go_simp; try with_reducible rfl)
                  try simp only [Act.put, List.setIfInBounds_toArray, List.set_cons_zero, List.set_cons_succ]
                  refine takeL (i := 7) (v := ?_) rfl rfl (by kernel_rfl) (by kernel_rfl) (by kernel_rfl) (fun _ _ _ h => h) (Or.inl ⟨by rfl, ?_⟩) (by assumption) ?_
                  rotate_left
                  · (intro w' hSw; go_simp; try with_reducible rfl)
                  try simp only [Act.put, List.setIfInBounds_toArray, List.set_cons_zero, List.set_cons_succ]
                  refine takeL (i := 9) (v := ?_) rfl rfl (by kernel_rfl) (by kernel_rfl) (by kernel_rfl) (fun _ _ _ h => h) (Or.inl ⟨by rfl, ?_⟩) (by assumption) ?_
                  rotate_left
                  · (intro w' hSw; go_simp; try with_reducible rfl)
                  try simp only [Act.put, List.setIfInBounds_toArray, List.set_cons_zero, List.set_cons_succ]
                  refine wpAnyH_ready (rs := [2]) (by kernel_rfl) (by simp) ?_
                  refine consL rfl (fun K hK => ?_) AllReadyH.nil
                  · rw [if_pos (by rfl)]
                    go_simp
                    have hO30 := Own.lit wv #[] 0 [] rfl rfl (by decide) (by simp)
                    have hl30 := hHeld.alloc (.cells #[] 5)
                    have hbe30 := hHeld.bel.size
                    have hrl30 := LW.low hHeld
                    generalize wv.heap.size = R at hO30 hbe30 hrl30 ⊢
                    generalize wv.alloc (.cells #[] 5) = w30 at hO30 hl30 ⊢
                    refine hK.out _ _ (hl30) (fun hHeld => ?_)
                    clear hK K
                    try simp only [Act.put, List.setIfInBounds_toArray, List.set_cons_zero, List.set_cons_succ]
                    refine wpAnyH_ready (rs := [6]) (by kernel_rfl) (by simp) ?_
                    refine consL rfl (fun K hK => ?_) AllReadyH.nil
                    · rw [if_pos (by rfl)]
                      refine wpo_append_at (.tmp 82) (.tmp 85) rfl R (.slice (some ⟨R, 0, none⟩) 0 0) [] rfl hO30 a n ca (xa.take n) rfl (rdb_take (hHeld.rd 0 rfl) n hnl) (by rw [HHL.out]; simp only [List.length_nil]; omega) ?_ ?_
                      · have := hO30.block R rfl; omega
                      intro v31 w31 o31 g31 _
                      rw [List.nil_append] at o31
                      obtain ⟨ad31, cp31, rfl, r31, _⟩ := o31.rd (by rw [HHL.out]; omega)
                      rw [HHL.out] at o31 ⊢
                      clear r31
                      refine hK.out _ _ (LW.grownTop hHeld hO30 hbe30 g31 (by simp) hrl30) (fun hHeld => ?_)
                      clear hK K
                      try simp only [Act.put, List.setIfInBounds_toArray, List.set_cons_zero, List.set_cons_succ]
                      refine wpAnyH_ready (rs := [8]) (by kernel_rfl) (by simp) ?_
                      refine consL rfl (fun K hK => ?_) AllReadyH.nil
                      · rw [if_pos (by rfl)]
                        refine wpo_append_at (.tmp 86) (.tmp 87) rfl R (.slice ad31 n cp31) (xa.take n) rfl o31 (some ⟨Bn, 0, none⟩) 16 16 g1 rfl ((hHeld.blk 0 rfl).rd 16 HGL.out hgb (by decide)) (by rw [HHL.out, HGL.out]; omega) ?_ ?_
                        · exact Nat.le_trans (Nat.le_of_lt (hO30.block R rfl).2) g31.size
                        intro v32 w32 o32 g32 _
                        obtain ⟨ad32, cp32, rfl, r32, _⟩ := o32.rd (by rw [List.length_append, HHL.out, HGL.out]; omega)
                        rw [List.length_append, HHL.out, HGL.out, ← HN16.out] at r32 o32 ⊢
                        refine hK.out _ _ (LW.grownTop hHeld o31 hbe30 g32 (by simp) hrl30) (fun hHeld => ?_)
                        clear hK K
                        try simp only [Act.put, List.setIfInBounds_toArray, List.set_cons_zero, List.set_cons_succ]
                        refine wpAnyH_ready (rs := [10]) (by kernel_rfl) (by simp) ?_
                        refine consL rfl (fun K hK => ?_) AllReadyH.nil
                        · rw [if_pos (by rfl)]
                          go_simp
                          refine (cG.out _ _ _ r32 (hHeld.rd 1 rfl)).mono ?_
                          rintro e w33 ⟨ad33, n33, cp33, rfl, l33, p33, b33⟩
                          refine hK.out _ _ (hHeld.below b33) (fun hHeld => ?_)
                          clear hK K
                          try simp only [Act.put, List.setIfInBounds_toArray, List.set_cons_zero, List.set_cons_succ]
                          refine takeL (i := 11) (v := ?_) rfl rfl (by kernel_rfl) (by kernel_rfl) (by kernel_rfl) (fun _ _ _ h => h) (Or.inl ⟨by rfl, ?_⟩) (by assumption) ?_
                          rotate_left
                          · (intro w' hSw; go_simp; try with_reducible rfl)
                          try simp only [Act.put, List.setIfInBounds_toArray, List.set_cons_zero, List.set_cons_succ]
                          refine takeL (i := 12) (v := ?_) rfl rfl (by kernel_rfl) (by kernel_rfl) (by kernel_rfl) (fun _ _ _ h => h) (Or.inl ⟨by rfl, ?_⟩) (by assumption) ?_
                          rotate_left
                          · (intro w' hSw; go_simp; try with_reducible rfl)
                          try simp only [Act.put, List.setIfInBounds_toArray, List.set_cons_zero, List.set_cons_succ]
                          refine takeL (i := 13) (v := ?_) rfl rfl (by kernel_rfl) (by kernel_rfl) (by kernel_rfl) (fun _ _ _ h => h) (Or.inl ⟨by rfl, ?_⟩) (by assumption) ?_
                          rotate_left
                          · (intro w' hSw; go_simp; try with_reducible rfl)
                          try simp only [Act.put, List.setIfInBounds_toArray, List.set_cons_zero, List.set_cons_succ]
                          refine takeL (i := 14) (v := ?_) rfl rfl (by kernel_rfl) (by kernel_rfl) (by kernel_rfl) (fun _ _ _ h => h) (Or.inl ⟨by rfl, ?_⟩) (by assumption) ?_
                          rotate_left
                          · (intro w' hSw; go_simp; try with_reducible rfl)
                          try simp only [Act.put, List.setIfInBounds_toArray, List.set_cons_zero, List.set_cons_succ]
                          refine takeL (i := 15) (v := ?_) rfl rfl (by kernel_rfl) (by kernel_rfl) (by kernel_rfl) (fun _ _ _ h => h) (Or.inl ⟨by rfl, ?_⟩) (by assumption) ?_
                          rotate_left
                          · (intro w' hSw; go_simp; try with_reducible rfl)
                          try simp only [Act.put, List.setIfInBounds_toArray, List.set_cons_zero, List.set_cons_succ]
                          refine wpAnyH_done (by kernel_rfl) ?_ _
                          have s9 := hHeld
                          clear hHeld
                          go_wp2_with fail
                          refine wp_region_class (LW w [(Bn, 30, .u8, g1), (w.heap.size + 1, 23, .u8, nonce), (w.heap.size, 22, .u8, key)] [(a, la, ca, xa), (b, lb, cb, xb)]) (by kernel_rfl) (by kernel_rfl) (s9.drew) ?_
                          refine qY (v := ?_) rfl ?_ ?_
                          rotate_left
                          · (intro w' _; go_simp; try with_reducible rfl)
                          rotate_left
                          try simp only [Act.put, List.setIfInBounds_toArray, List.set_cons_zero, List.set_cons_succ]
                          refine qY (v := ?_) rfl ?_ ?_
                          rotate_left
                          · (intro w' _; go_simp; try with_reducible rfl)
                          rotate_left
                          try simp only [Act.put, List.setIfInBounds_toArray, List.set_cons_zero, List.set_cons_succ]
                          refine qI (v := .slice (cutA a ca n) (la - n) (ca - n)) (yieldsFrom (by rfl) rfl (by rfl) (by rfl) us HI.out.1 HI.out.2 hnl rfl) ?_
                          try simp only [Act.put, List.setIfInBounds_toArray, List.set_cons_zero, List.set_cons_succ]
                          refine qI (v := .string (strB (xa.drop n))) (yieldsStr (by rfl) (x := .tmp 95) rfl (by rfl) us u8 ut (fun W h => ((h.rd 0 rfl).cut n hnl).2)) ?_
                          try simp only [Act.put, List.setIfInBounds_toArray, List.set_cons_zero, List.set_cons_succ]
                          refine qY (v := ?_) rfl ?_ ?_
                          rotate_left
                          · (intro w' _; go_simp; try with_reducible rfl)
                          rotate_left
                          try simp only [Act.put, List.setIfInBounds_toArray, List.set_cons_zero, List.set_cons_succ]
                          refine qI (v := .string (strB g1)) (yieldsStr (by rfl) (x := .tmp 97) rfl (by rfl) us u8 ut (fun W h => ((h.blk 0 rfl).rd 16 HGL.out hgb (by decide)).2)) ?_
                          try simp only [Act.put, List.setIfInBounds_toArray, List.set_cons_zero, List.set_cons_succ]
                          refine qI (v := .bool rb) (yieldsEqS (by rfl) rfl (by rfl) (by rfl) HEQR.out) ?_
                          try simp only [Act.put, List.setIfInBounds_toArray, List.set_cons_zero, List.set_cons_succ]
                          refine qY (v := ?_) rfl ?_ ?_
                          rotate_left
                          · (intro w' _; go_simp; try with_reducible rfl)
                          rotate_left
                          try simp only [Act.put, List.setIfInBounds_toArray, List.set_cons_zero, List.set_cons_succ]
                          refine wpQuiet_nil ?_
                          intro wz sZ
                          have hfin := sZ.bel
                          clear sZ s9
                          have htell := HTE.out
                          have hz := HZ.out
                          have hnz := HNZ.out
                          rw [l33] at hnz
                          rw [l6] at htell
                          obtain rfl : n23 = n := l23.symm.trans HR2.out
                          clear HTE HZ HNZ HR2 HEQR cT cO cR cG HN16 l33 l6
                          by_cases hq0 : q0 = 0
                          · obtain ⟨hc3, hrb⟩ := hz hq0
                            subst hq0 hc3 hrb
                            clear hz hnz
                            rcases htell with rfl | ⟨rfl, rfl⟩
                            all_goals (try rw [show ((0 : Nat) : Int) = 0 from rfl])
                            all_goals (try rw [show ((70 : Nat) : Int) = 70 from rfl])
                            all_goals go_wp2_with fail
                            all_goals go_ret
                            all_goals exact ⟨rfl, hfin⟩
                          · obtain ⟨hc3, hn3⟩ := hnz hq0
                            subst hc3 hn3
                            have hq1 : decide ((q0 : Int) = 0) = false := decide_eq_false (by omega)
                            have hq2 : ((q0 : Int) == 0) = false := by rw [beq_eq_false_iff_ne]; omega
                            have hq3 : ((q0 : Int) != 0) = true := by rw [bne_iff_ne]; omega
                            clear hz hnz hq0
                            rcases htell with rfl | ⟨rfl, rfl⟩
                            all_goals (try rw [show ((0 : Nat) : Int) = 0 from rfl])
                            all_goals (try rw [show ((70 : Nat) : Int) = 70 from rfl])
                            all_goals go_wp2_with fail
                            all_goals go_ret
                            all_goals exact ⟨rfl, hfin⟩
  · have hsplit : decide ((la : Int) < 16) = true ∨ (decide ((la : Int) < 16) = false ∧ (decide ((200 : Int) < (la : Int)) = true ∨ (decide ((200 : Int) < (la : Int)) = false ∧ decide ((200 : Int) < (lb : Int)) = true))) := by
      simp only [decide_eq_true_eq, decide_eq_false_iff_not]
      omega
    have box : Below w.heap.size w ((w.alloc (.cells (nv .u8 key).toArray 22)).alloc (.cells (nv .u8 nonce).toArray 23)) := xalloc (xnew _ _) _
    clear hall
    rcases hsplit with d0 | ⟨d0, d1 | ⟨d1, d2⟩⟩
    all_goals
      go_enter Try.func6, Try.ntmps6
      go_wp2_with (first
        | (go_at_call 8; refine (awake_any _).mono ?_; rintro e w1 ⟨rfl, hb1⟩)
        | fail)
      go_ret
      exact ⟨rfl, xtrans box hb1⟩
end Go.Proofs.Ytoajhlidbogbcaa.Ae
