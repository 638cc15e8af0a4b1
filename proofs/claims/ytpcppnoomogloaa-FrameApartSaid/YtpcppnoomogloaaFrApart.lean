/- The walk of the statement FrameApart. -/
import Derived.Test.YtpcppnoomogloaaFrA
import Derived.Test.YtpcppnoomogloaaFrY1
set_option maxRecDepth 4000
namespace Go.Proofs.Ytpcppnoomogloaa.Fr
set_option linter.unusedSimpArgs false
set_option linter.unusedVariables false
open Go.RowKit

theorem seal_get {h : Hd} {key xa : List Nat} (hs : sealB h xa = true) (i : Nat) (hi : i < xa.length) : (sealF h key xa).getD (24 + i) 0 = St.xb key 1 (nonceB h) xa i := by
  rw [(sealF_ok hs).1, List.getD_eq_getElem?_getD, List.getElem?_append_right (by rw [headB_length]; omega), headB_length, Nat.add_sub_cancel_left]
  unfold Ae.sealA
  rw [List.getElem?_append_left (by rw [St.xorS_length]; exact hi), ← List.getD_eq_getElem?_getD, St.xorS_get _ _ _ _ _ hi]
theorem xb_xor (key : List Nat) (ct : Nat) (nonce a b : List Nat) (i : Nat) : St.xb key ct nonce a i ^^^ St.xb key ct nonce b i = a.getD i 0 ^^^ b.getD i 0 := by
  unfold St.xb
  rw [Nat.xor_comm (b.getD i 0), Nat.xor_assoc, ← Nat.xor_assoc (St.strm key ct nonce i), Nat.xor_self, Nat.zero_xor]
theorem apart_heads (h g : Hd) : (okE h = 0 ∧ okE g = 0 ∧ ((strB (writeB h)).toList == (strB (writeB g)).toList) = h.same g) ∨ okE h = 110 ∨ (okE h = 0 ∧ okE g = 110) := by
  cases ho : okH h with
  | false => exact .inr (.inl (okE_no ho))
  | true =>
    cases hg : okH g with
    | false => exact .inr (.inr ⟨okE_ok ho, okE_no hg⟩)
    | true =>
      refine .inl ⟨okE_ok ho, okE_ok hg, ?_⟩
      unfold writeB
      rw [ho, hg, if_pos rfl, if_pos rfl, strB_beq (headB_lt h) (headB_lt g)]
      cases hs : h.same g with
      | true => rw [(Hd.same_iff h g).1 hs]; exact decide_eq_true rfl
      | false => exact decide_eq_false (fun e => by rw [headB_inj ho hg e, Hd.same_self] at hs; cases hs)
theorem apart_len (h : Hd) (key xa xb : List Nat) (hl : xa.length = xb.length) : sealE h xb = sealE h xa ∧ (sealF h key xb).length = (sealF h key xa).length ∧ (sealF h key xa).length ≤ xa.length + 40 := by
  have hb : sealB h xb = sealB h xa := by unfold sealB; rw [hl]
  cases hs : sealB h xa with
  | true =>
    rw [hs] at hb
    refine ⟨by rw [(seal_yes key hs).1, (seal_yes key hb).1], ?_⟩
    rw [(sealF_length (key := key) hs).2, (sealF_length (key := key) hb).2, hl]
    exact ⟨rfl, Nat.le_refl _⟩
  | false =>
    rw [hs] at hb
    rw [(seal_no key hs).1, (seal_no key hb).1, (seal_no key hs).2, (seal_no key hb).2]
    exact ⟨rfl, rfl, Nat.zero_le _⟩
theorem apart_body (h : Hd) (key xa xb : List Nat) (hl : xa.length = xb.length) : sealE h xa = 110 ∨ (sealE h xa = 0 ∧ 1 ≤ xa.length ∧ (sealF h key xa).length = xa.length + 40 ∧ ∀ i, i < xa.length → (sealF h key xa).getD (24 + i) 0 ^^^ (sealF h key xb).getD (24 + i) 0 = xa.getD i 0 ^^^ xb.getD i 0) := by
  cases hs : sealB h xa with
  | false => exact .inl (seal_no key hs).1
  | true =>
    have hb : sealB h xb = true := by rw [← hs]; unfold sealB; rw [hl]
    have h1 := sealF_ok (key := key) hs
    have h2 := (okH_iff h).1 h1.2.2
    refine .inr ⟨(seal_yes key hs).1, by omega, (sealF_length (key := key) hs).2, fun i hi => ?_⟩
    rw [seal_get hs i hi, seal_get hb i (by omega), xb_xor]

set_option maxRecDepth 100000 in
set_option maxHeartbeats 8000000 in
theorem apart_walk (h g : Hd) (key : List Nat) (a : Option Addr) (la ca : Nat) (xa : List Nat) (b : Option Addr) (lb cb : Nat) (xb : List Nat) (w : World) (hk : key.length = 32) (hkb : ∀ x ∈ key, x < 256) (hra : Row8 w a la ca xa) (hrb : Row8 w b lb cb xb) : Calls Try.prog 4 #[h.v, g.v, .agg (bv key).toArray, .slice a la ca, .slice b lb cb] w fun e w' => e = .returned (.bool true) ∧ Below w.heap.size w w' := by
  have hlea : la ≤ 9223372036854775807 := by have := hra.2.1; have := hra.2.2.1; omega
  have hleb : lb ≤ 9223372036854775807 := by have := hrb.2.1; have := hrb.2.2.1; omega
  have u8 := Try.underlying5
  have us := Try.underlying25
  have ut := Try.underlying9
  have HK := Lib.hid (show (Try.prog.info? 35).map (·.size) = some key.length by rw [hk]; kernel_rfl)
  have HK3 := Lib.hid (show (Try.prog.info? 35).map (·.size) = some (nv .u8 key).length by rw [nv_length, hk]; kernel_rfl)
  have u32 := Try.underlying35
  show Calls Try.prog 4 #[.agg #[.int .i64 h.kind, .int .i64 h.lba, .int .i64 h.len, .int .i64 h.seq, .int .i64 h.epoch], .agg #[.int .i64 g.kind, .int .i64 g.lba, .int .i64 g.len, .int .i64 g.seq, .int .i64 g.epoch], .agg (nv .u8 key).toArray, .slice a la ca, .slice b lb cb] w _
  by_cases hall : la ≤ 300 ∧ lb = la
  · obtain ⟨ha3, rfl⟩ := hall
    have hRa : RdB w a lb ca xa := ⟨by omega, hra⟩
    have hRb : RdB w b lb cb xb := ⟨by omega, hrb⟩
    obtain ⟨la, hla⟩ : ∃ la, la = lb := ⟨_, rfl⟩
    subst hla
    have d1 : decide ((la : Int) > 300) = false := decide_eq_false (by omega)
    have d2 : ((la : Int) != (la : Int)) = false := by simp
    have hal : xa.length = la := hra.1
    have hbl : xb.length = la := hrb.1
    have cW := Lib.hid (fun W => Write_any W h)
    have cV := Lib.hid (fun W => Write_any W g)
    unfold WriteOK at cW cV
    have hwl : (writeB h).length ≤ 24 := by unfold writeB; split <;> simp [headB_length]
    have hvl : (writeB g).length ≤ 24 := by unfold writeB; split <;> simp [headB_length]
    have hhg := apart_heads h g
    generalize writeB h = hh at cW hwl hhg
    generalize writeB g = hg at cV hvl hhg
    generalize okE h = eh at cW hhg
    generalize okE g = eg at cV hhg
    have HHG := Lib.hid hhg
    have HWL := Lib.hid (And.intro hwl hvl)
    clear hwl hvl hhg
    have cS := Lib.hid (fun (W : World) (hr : RdB W a la ca xa) => Seal_any W h key a la ca xa hk hkb hr)
    have cT := Lib.hid (fun (W : World) (hr : RdB W b la cb xb) => Seal_any W h key b la cb xb hk hkb hr)
    unfold SealOK at cS cT
    have hle := apart_len h key xa xb (by omega)
    have hbd := apart_body h key xa xb (by omega)
    rw [hle.1] at cT
    have hl2 := hle.2
    obtain ⟨xs, hxs⟩ : ∃ xs, xs = sealF h key xa := ⟨_, rfl⟩
    obtain ⟨ys, hys⟩ : ∃ ys, ys = sealF h key xb := ⟨_, rfl⟩
    rw [← hxs] at cS hl2 hbd
    rw [← hys] at cT hl2 hbd
    generalize sealE h xa = c at cS cT hbd
    obtain ⟨n, hn⟩ : ∃ n, xs.length = n := ⟨_, rfl⟩
    rw [hn, hal] at hl2
    rw [hn, hal] at hbd
    have hn1 : n ≤ 340 := by omega
    have HXL := Lib.hid hn
    have HYL := Lib.hid hl2.1
    have HBD := Lib.hid hbd
    have HXLT := Lib.hid (And.intro hra.2.2.2.1 hrb.2.2.2.1)
    have hcc : ((c : Int) != (c : Int)) = false := by simp
    have hnn : ((n : Int) != (n : Int)) = false := by simp
    clear hle hl2 hbd hxs hys hn hal hbl
    go_enter Try.func4, Try.ntmps4
    have s0 : HW w [(w.heap.size + 1, g), (w.heap.size, h)] [(w.heap.size + 1 + 1, 35, .u8, key)] [(a, la, ca, xa), (b, la, cb, xb)] (((w.alloc (.cells #[.int .i64 h.kind, .int .i64 h.lba, .int .i64 h.len, .int .i64 h.seq, .int .i64 h.epoch] 23)).alloc (.cells #[.int .i64 g.kind, .int .i64 g.lba, .int .i64 g.len, .int .i64 g.seq, .int .i64 g.epoch] 23)).alloc (.cells (nv .u8 key).toArray 35)) := by
      have h1 := (((LW.nil (xrefl w)).addR hRb).addR hRa).alloc (.cells #[.int .i64 h.kind, .int .i64 h.lba, .int .i64 h.len, .int .i64 h.seq, .int .i64 h.epoch] 23)
      have h2 : HW w [(w.heap.size, h)] [] _ _ := ⟨by simp; exact HBlk.new w h, h1⟩
      have h3 := (h2.alloc (.cells #[.int .i64 g.kind, .int .i64 g.lba, .int .i64 g.len, .int .i64 g.seq, .int .i64 g.epoch] 23)).addH (HBlk.new _ g)
      rw [World.size_alloc] at h3
      have h4 := h3.new 35 .u8 key
      rw [World.size_alloc, World.size_alloc] at h4
      exact h4
    clear hra hrb hRa hRb
    go_upto_region 6 with (first
      | (go_at_call 11; refine (awake_any _).mono ?_; rintro e1 w1 ⟨rfl, b1⟩; have s1 := s0.below b1; clear s0 b1)
      | (refine wp_load_head rfl (.tmp 5) rfl (w.heap.size) rfl (s1.hd 1 rfl) ?_)
      | (go_at_call 12; with_reducible refine (cW.out _).mono ?_; rintro e2 w2 ⟨a2, n2, c2, rfl, l2, p2, b2⟩; have s2 := (s1.below b2).addR (p2.rdb l2 (by have := HWL.out; omega)); clear s1 p2 b2)
      | (refine wp_load_head rfl (.tmp 6) rfl ((w.heap.size + 1)) rfl (s2.hd 0 rfl) ?_)
      | (go_at_call 12; with_reducible refine (cV.out _).mono ?_; rintro e3 w3 ⟨a3, n3, c3, rfl, l3, p3, b3⟩; have s3 := (s2.below b3).addR (p3.rdb l3 (by have := HWL.out; omega)); clear s2 p3 b3)
      | fail)
    go_cut [59] from 43 to 58 (fun z wx => z = .bool false ∧ HW w [(w.heap.size + 1, g), (w.heap.size, h)] [(w.heap.size + 1 + 1, 35, .u8, key)] [(a3, n3, c3, hg), (a2, n2, c2, hh), (a, la, ca, xa), (b, la, cb, xb)] wx)
    case first =>
      clear cS cT cW cV HBD HXLT HXL HYL
      rcases HHG.out with ⟨rfl, rfl, hss⟩ | rfl | ⟨rfl, rfl⟩
      · clear HHG
        obtain ⟨q, hq⟩ : ∃ q, h.same g = q := ⟨_, rfl⟩
        rw [hq] at hss
        have HSS := Lib.hid hss
        have HQ := Lib.hid hq
        clear hss hq
        go_wp2_with fail
        cases q with
        | true =>
          refine wp_region_class (HW w [(w.heap.size + 1, g), (w.heap.size, h)] [(w.heap.size + 1 + 1, 35, .u8, key)] [(a3, n3, c3, hg), (a2, n2, c2, hh), (a, la, ca, xa), (b, la, cb, xb)]) (by kernel_rfl) (by kernel_rfl) (s3.drew) ?_
          refine qY (v := ?_) rfl ?_ ?_
          rotate_left
          · (intro w' _; go_simp; try with_reducible rfl)
          rotate_left
          try simp only [Act.put, List.setIfInBounds_toArray, List.set_cons_zero, List.set_cons_succ]
          refine qY (v := ?_) rfl ?_ ?_
          rotate_left
          · (intro w' _; go_simp; try with_reducible rfl)
          rotate_left
          try simp only [Act.put, List.setIfInBounds_toArray, List.set_cons_zero, List.set_cons_succ]
          refine qY (v := ?_) rfl ?_ ?_
          rotate_left
          · (intro w' _; go_simp; try with_reducible rfl)
          rotate_left
          try simp only [Act.put, List.setIfInBounds_toArray, List.set_cons_zero, List.set_cons_succ]
          refine qY (v := ?_) rfl ?_ ?_
          rotate_left
          · (intro w' _; go_simp; try with_reducible rfl)
          rotate_left
          try simp only [Act.put, List.setIfInBounds_toArray, List.set_cons_zero, List.set_cons_succ]
          refine qY (v := ?_) rfl ?_ ?_
          rotate_left
          · (intro w' _; go_simp; try with_reducible rfl)
          rotate_left
          try simp only [Act.put, List.setIfInBounds_toArray, List.set_cons_zero, List.set_cons_succ]
          refine qY (v := ?_) rfl ?_ ?_
          rotate_left
          · (intro w' _; go_simp; try with_reducible rfl)
          rotate_left
          try simp only [Act.put, List.setIfInBounds_toArray, List.set_cons_zero, List.set_cons_succ]
          refine qY (v := ?_) rfl ?_ ?_
          rotate_left
          · (intro w' _; go_simp; try with_reducible rfl)
          rotate_left
          try simp only [Act.put, List.setIfInBounds_toArray, List.set_cons_zero, List.set_cons_succ]
          refine qY (v := ?_) rfl ?_ ?_
          rotate_left
          · (intro w' _; go_simp; try with_reducible rfl)
          rotate_left
          try simp only [Act.put, List.setIfInBounds_toArray, List.set_cons_zero, List.set_cons_succ]
          refine qI (v := .string (strB hh)) (yieldsStr (by rfl) (x := .tmp 50) rfl (by rfl) us u8 ut (fun W h => (h.2.rd 1 rfl).2)) ?_
          try simp only [Act.put, List.setIfInBounds_toArray, List.set_cons_zero, List.set_cons_succ]
          refine qY (v := ?_) rfl ?_ ?_
          rotate_left
          · (intro w' _; go_simp; try with_reducible rfl)
          rotate_left
          try simp only [Act.put, List.setIfInBounds_toArray, List.set_cons_zero, List.set_cons_succ]
          refine qI (v := .string (strB hg)) (yieldsStr (by rfl) (x := .tmp 52) rfl (by rfl) us u8 ut (fun W h => (h.2.rd 0 rfl).2)) ?_
          try simp only [Act.put, List.setIfInBounds_toArray, List.set_cons_zero, List.set_cons_succ]
          refine qI (v := .bool true) (yieldsEqS (by rfl) rfl (by rfl) (by rfl) HSS.out) ?_
          try simp only [Act.put, List.setIfInBounds_toArray, List.set_cons_zero, List.set_cons_succ]
          refine qI (v := h.v) (yieldsHead (.tmp 5) (by rfl) rfl (w.heap.size) (by rfl) (fun _ h => h.hd 1 rfl)) ?_
          try simp only [Act.put, List.setIfInBounds_toArray, List.set_cons_zero, List.set_cons_succ]
          refine qI (v := g.v) (yieldsHead (.tmp 6) (by rfl) rfl ((w.heap.size + 1)) (by rfl) (fun _ h => h.hd 0 rfl)) ?_
          try simp only [Act.put, List.setIfInBounds_toArray, List.set_cons_zero, List.set_cons_succ]
          refine qI (v := .bool true) (yieldsEqHb (by rfl) rfl (by rfl) (by rfl) HQ.out) ?_
          try simp only [Act.put, List.setIfInBounds_toArray, List.set_cons_zero, List.set_cons_succ]
          refine qY (v := .bool false) rfl ?_ ?_
          · (intro w' hC; go_simp; try with_reducible rfl)
          try simp only [Act.put, List.setIfInBounds_toArray, List.set_cons_zero, List.set_cons_succ]
          refine qY (v := ?_) rfl ?_ ?_
          rotate_left
          · (intro w' _; go_simp; try with_reducible rfl)
          rotate_left
          try simp only [Act.put, List.setIfInBounds_toArray, List.set_cons_zero, List.set_cons_succ]
          refine wpQuiet_nil ?_
          intro wz sz
          go_wp2_with fail
          go_meet
          case rel => exact ⟨rfl, sz⟩
        | false =>
          refine wp_region_class (HW w [(w.heap.size + 1, g), (w.heap.size, h)] [(w.heap.size + 1 + 1, 35, .u8, key)] [(a3, n3, c3, hg), (a2, n2, c2, hh), (a, la, ca, xa), (b, la, cb, xb)]) (by kernel_rfl) (by kernel_rfl) (s3.drew) ?_
          refine qY (v := ?_) rfl ?_ ?_
          rotate_left
          · (intro w' _; go_simp; try with_reducible rfl)
          rotate_left
          try simp only [Act.put, List.setIfInBounds_toArray, List.set_cons_zero, List.set_cons_succ]
          refine qY (v := ?_) rfl ?_ ?_
          rotate_left
          · (intro w' _; go_simp; try with_reducible rfl)
          rotate_left
          try simp only [Act.put, List.setIfInBounds_toArray, List.set_cons_zero, List.set_cons_succ]
          refine qY (v := ?_) rfl ?_ ?_
          rotate_left
          · (intro w' _; go_simp; try with_reducible rfl)
          rotate_left
          try simp only [Act.put, List.setIfInBounds_toArray, List.set_cons_zero, List.set_cons_succ]
          refine qY (v := ?_) rfl ?_ ?_
          rotate_left
          · (intro w' _; go_simp; try with_reducible rfl)
          rotate_left
          try simp only [Act.put, List.setIfInBounds_toArray, List.set_cons_zero, List.set_cons_succ]
          refine qY (v := ?_) rfl ?_ ?_
          rotate_left
          · (intro w' _; go_simp; try with_reducible rfl)
          rotate_left
          try simp only [Act.put, List.setIfInBounds_toArray, List.set_cons_zero, List.set_cons_succ]
          refine qY (v := ?_) rfl ?_ ?_
          rotate_left
          · (intro w' _; go_simp; try with_reducible rfl)
          rotate_left
          try simp only [Act.put, List.setIfInBounds_toArray, List.set_cons_zero, List.set_cons_succ]
          refine qY (v := ?_) rfl ?_ ?_
          rotate_left
          · (intro w' _; go_simp; try with_reducible rfl)
          rotate_left
          try simp only [Act.put, List.setIfInBounds_toArray, List.set_cons_zero, List.set_cons_succ]
          refine qY (v := ?_) rfl ?_ ?_
          rotate_left
          · (intro w' _; go_simp; try with_reducible rfl)
          rotate_left
          try simp only [Act.put, List.setIfInBounds_toArray, List.set_cons_zero, List.set_cons_succ]
          refine qI (v := .string (strB hh)) (yieldsStr (by rfl) (x := .tmp 50) rfl (by rfl) us u8 ut (fun W h => (h.2.rd 1 rfl).2)) ?_
          try simp only [Act.put, List.setIfInBounds_toArray, List.set_cons_zero, List.set_cons_succ]
          refine qY (v := ?_) rfl ?_ ?_
          rotate_left
          · (intro w' _; go_simp; try with_reducible rfl)
          rotate_left
          try simp only [Act.put, List.setIfInBounds_toArray, List.set_cons_zero, List.set_cons_succ]
          refine qI (v := .string (strB hg)) (yieldsStr (by rfl) (x := .tmp 52) rfl (by rfl) us u8 ut (fun W h => (h.2.rd 0 rfl).2)) ?_
          try simp only [Act.put, List.setIfInBounds_toArray, List.set_cons_zero, List.set_cons_succ]
          refine qI (v := .bool false) (yieldsEqS (by rfl) rfl (by rfl) (by rfl) HSS.out) ?_
          try simp only [Act.put, List.setIfInBounds_toArray, List.set_cons_zero, List.set_cons_succ]
          refine qI (v := h.v) (yieldsHead (.tmp 5) (by rfl) rfl (w.heap.size) (by rfl) (fun _ h => h.hd 1 rfl)) ?_
          try simp only [Act.put, List.setIfInBounds_toArray, List.set_cons_zero, List.set_cons_succ]
          refine qI (v := g.v) (yieldsHead (.tmp 6) (by rfl) rfl ((w.heap.size + 1)) (by rfl) (fun _ h => h.hd 0 rfl)) ?_
          try simp only [Act.put, List.setIfInBounds_toArray, List.set_cons_zero, List.set_cons_succ]
          refine qI (v := .bool false) (yieldsEqHb (by rfl) rfl (by rfl) (by rfl) HQ.out) ?_
          try simp only [Act.put, List.setIfInBounds_toArray, List.set_cons_zero, List.set_cons_succ]
          refine qY (v := .bool false) rfl ?_ ?_
          · (intro w' hC; go_simp; try with_reducible rfl)
          try simp only [Act.put, List.setIfInBounds_toArray, List.set_cons_zero, List.set_cons_succ]
          refine qY (v := ?_) rfl ?_ ?_
          rotate_left
          · (intro w' _; go_simp; try with_reducible rfl)
          rotate_left
          try simp only [Act.put, List.setIfInBounds_toArray, List.set_cons_zero, List.set_cons_succ]
          refine wpQuiet_nil ?_
          intro wz sz
          go_wp2_with fail
          go_meet
          case rel => exact ⟨rfl, sz⟩
      · go_wp2_with fail
        refine wp_region_held_drew (S := fun wx => HW w [(w.heap.size + 1, g), (w.heap.size, h)] [(w.heap.size + 1 + 1, 35, .u8, key)] [(a3, n3, c3, hg), (a2, n2, c2, hh), (a, la, ca, xa), (b, la, cb, xb)] wx) (by kernel_rfl) (s3.drew) (fun hHeld => ?_)
        refine takeL (i := 0) (v := ?_) rfl rfl (by kernel_rfl) (by kernel_rfl) (by kernel_rfl) (fun _ _ _ h => h) (Or.inl ⟨by rfl, ?_⟩) (by assumption) ?_
        rotate_left
        · (intro w' hSw; go_simp; try with_reducible rfl)
        try simp only [Act.put, List.setIfInBounds_toArray, List.set_cons_zero, List.set_cons_succ]
        refine takeL (i := 1) (v := ?_) rfl rfl (by kernel_rfl) (by kernel_rfl) (by kernel_rfl) (fun _ _ _ h => h) (Or.inl ⟨by rfl, ?_⟩) (by assumption) ?_
        rotate_left
        · (intro w' hSw; go_simp; try with_reducible rfl)
        try simp only [Act.put, List.setIfInBounds_toArray, List.set_cons_zero, List.set_cons_succ]
        refine takeL (i := 2) (v := ?_) rfl rfl (by kernel_rfl) (by kernel_rfl) (by kernel_rfl) (fun _ _ _ h => h) (Or.inl ⟨by rfl, ?_⟩) (by assumption) ?_
        rotate_left
        · (intro w' hSw; go_simp; try with_reducible rfl)
        try simp only [Act.put, List.setIfInBounds_toArray, List.set_cons_zero, List.set_cons_succ]
        refine takeL (i := 3) (v := undef) rfl rfl (by kernel_rfl) (by kernel_rfl) (by kernel_rfl) (fun _ _ _ h => h) (Or.inr ⟨by rfl, rfl⟩) (by assumption) ?_
        try simp only [Act.put, List.setIfInBounds_toArray, List.set_cons_zero, List.set_cons_succ]
        refine takeL (i := 4) (v := undef) rfl rfl (by kernel_rfl) (by kernel_rfl) (by kernel_rfl) (fun _ _ _ h => h) (Or.inr ⟨by rfl, rfl⟩) (by assumption) ?_
        try simp only [Act.put, List.setIfInBounds_toArray, List.set_cons_zero, List.set_cons_succ]
        refine takeL (i := 5) (v := ?_) rfl rfl (by kernel_rfl) (by kernel_rfl) (by kernel_rfl) (fun _ _ _ h => h) (Or.inl ⟨by rfl, ?_⟩) (by assumption) ?_
        rotate_left
        · (intro w' hSw; go_simp; try with_reducible rfl)
        try simp only [Act.put, List.setIfInBounds_toArray, List.set_cons_zero, List.set_cons_succ]
        refine takeL (i := 6) (v := ?_) rfl rfl (by kernel_rfl) (by kernel_rfl) (by kernel_rfl) (fun _ _ _ h => h) (Or.inl ⟨by rfl, ?_⟩) (by assumption) ?_
        rotate_left
        · (intro w' hSw; go_simp; try with_reducible rfl)
        try simp only [Act.put, List.setIfInBounds_toArray, List.set_cons_zero, List.set_cons_succ]
        refine takeL (i := 7) (v := undef) rfl rfl (by kernel_rfl) (by kernel_rfl) (by kernel_rfl) (fun _ _ _ h => h) (Or.inr ⟨by rfl, rfl⟩) (by assumption) ?_
        try simp only [Act.put, List.setIfInBounds_toArray, List.set_cons_zero, List.set_cons_succ]
        refine takeL (i := 8) (v := undef) rfl rfl (by kernel_rfl) (by kernel_rfl) (by kernel_rfl) (fun _ _ _ h => h) (Or.inr ⟨by rfl, rfl⟩) (by assumption) ?_
        try simp only [Act.put, List.setIfInBounds_toArray, List.set_cons_zero, List.set_cons_succ]
        refine takeL (i := 9) (v := undef) rfl rfl (by kernel_rfl) (by kernel_rfl) (by kernel_rfl) (fun _ _ _ h => h) (Or.inr ⟨by rfl, rfl⟩) (by assumption) ?_
        try simp only [Act.put, List.setIfInBounds_toArray, List.set_cons_zero, List.set_cons_succ]
        refine takeL (i := 10) (v := undef) rfl rfl (by kernel_rfl) (by kernel_rfl) (by kernel_rfl) (fun _ _ _ h => h) (Or.inr ⟨by rfl, rfl⟩) (by assumption) ?_
        try simp only [Act.put, List.setIfInBounds_toArray, List.set_cons_zero, List.set_cons_succ]
        refine takeL (i := 11) (v := undef) rfl rfl (by kernel_rfl) (by kernel_rfl) (by kernel_rfl) (fun _ _ _ h => h) (Or.inr ⟨by rfl, rfl⟩) (by assumption) ?_
        try simp only [Act.put, List.setIfInBounds_toArray, List.set_cons_zero, List.set_cons_succ]
        refine takeL (i := 12) (v := undef) rfl rfl (by kernel_rfl) (by kernel_rfl) (by kernel_rfl) (fun _ _ _ h => h) (Or.inr ⟨by rfl, rfl⟩) (by assumption) ?_
        try simp only [Act.put, List.setIfInBounds_toArray, List.set_cons_zero, List.set_cons_succ]
        refine takeL (i := 13) (v := undef) rfl rfl (by kernel_rfl) (by kernel_rfl) (by kernel_rfl) (fun _ _ _ h => h) (Or.inr ⟨by rfl, rfl⟩) (by assumption) ?_
        try simp only [Act.put, List.setIfInBounds_toArray, List.set_cons_zero, List.set_cons_succ]
        refine takeL (i := 14) (v := undef) rfl rfl (by kernel_rfl) (by kernel_rfl) (by kernel_rfl) (fun _ _ _ h => h) (Or.inr ⟨by rfl, rfl⟩) (by assumption) ?_
        try simp only [Act.put, List.setIfInBounds_toArray, List.set_cons_zero, List.set_cons_succ]
        refine takeL (i := 15) (v := undef) rfl rfl (by kernel_rfl) (by kernel_rfl) (by kernel_rfl) (fun _ _ _ h => h) (Or.inr ⟨by rfl, rfl⟩) (by assumption) ?_
        try simp only [Act.put, List.setIfInBounds_toArray, List.set_cons_zero, List.set_cons_succ]
        refine takeL (i := 16) (v := ?_) rfl rfl (by kernel_rfl) (by kernel_rfl) (by kernel_rfl) (fun _ _ _ h => h) (Or.inl ⟨by rfl, ?_⟩) (by assumption) ?_
        rotate_left
        · (intro w' hSw; go_simp; try with_reducible rfl)
        try simp only [Act.put, List.setIfInBounds_toArray, List.set_cons_zero, List.set_cons_succ]
        refine wpAnyH_done (by kernel_rfl) ?_ _
        go_wp2_with fail
        go_meet
        case rel => exact ⟨rfl, hHeld⟩
      · go_wp2_with fail
        refine wp_region_held_drew (S := fun wx => HW w [(w.heap.size + 1, g), (w.heap.size, h)] [(w.heap.size + 1 + 1, 35, .u8, key)] [(a3, n3, c3, hg), (a2, n2, c2, hh), (a, la, ca, xa), (b, la, cb, xb)] wx) (by kernel_rfl) (s3.drew) (fun hHeld => ?_)
        refine takeL (i := 0) (v := ?_) rfl rfl (by kernel_rfl) (by kernel_rfl) (by kernel_rfl) (fun _ _ _ h => h) (Or.inl ⟨by rfl, ?_⟩) (by assumption) ?_
        rotate_left
        · (intro w' hSw; go_simp; try with_reducible rfl)
        try simp only [Act.put, List.setIfInBounds_toArray, List.set_cons_zero, List.set_cons_succ]
        refine takeL (i := 1) (v := ?_) rfl rfl (by kernel_rfl) (by kernel_rfl) (by kernel_rfl) (fun _ _ _ h => h) (Or.inl ⟨by rfl, ?_⟩) (by assumption) ?_
        rotate_left
        · (intro w' hSw; go_simp; try with_reducible rfl)
        try simp only [Act.put, List.setIfInBounds_toArray, List.set_cons_zero, List.set_cons_succ]
        refine takeL (i := 2) (v := ?_) rfl rfl (by kernel_rfl) (by kernel_rfl) (by kernel_rfl) (fun _ _ _ h => h) (Or.inl ⟨by rfl, ?_⟩) (by assumption) ?_
        rotate_left
        · (intro w' hSw; go_simp; try with_reducible rfl)
        try simp only [Act.put, List.setIfInBounds_toArray, List.set_cons_zero, List.set_cons_succ]
        refine takeL (i := 3) (v := ?_) rfl rfl (by kernel_rfl) (by kernel_rfl) (by kernel_rfl) (fun _ _ _ h => h) (Or.inl ⟨by rfl, ?_⟩) (by assumption) ?_
        rotate_left
        · (intro w' hSw; go_simp; try with_reducible rfl)
        try simp only [Act.put, List.setIfInBounds_toArray, List.set_cons_zero, List.set_cons_succ]
        refine takeL (i := 4) (v := ?_) rfl rfl (by kernel_rfl) (by kernel_rfl) (by kernel_rfl) (fun _ _ _ h => h) (Or.inl ⟨by rfl, ?_⟩) (by assumption) ?_
        rotate_left
        · (intro w' hSw; go_simp; try with_reducible rfl)
        try simp only [Act.put, List.setIfInBounds_toArray, List.set_cons_zero, List.set_cons_succ]
        refine takeL (i := 5) (v := ?_) rfl rfl (by kernel_rfl) (by kernel_rfl) (by kernel_rfl) (fun _ _ _ h => h) (Or.inl ⟨by rfl, ?_⟩) (by assumption) ?_
        rotate_left
        · (intro w' hSw; go_simp; try with_reducible rfl)
        try simp only [Act.put, List.setIfInBounds_toArray, List.set_cons_zero, List.set_cons_succ]
        refine takeL (i := 6) (v := ?_) rfl rfl (by kernel_rfl) (by kernel_rfl) (by kernel_rfl) (fun _ _ _ h => h) (Or.inl ⟨by rfl, ?_⟩) (by assumption) ?_
        rotate_left
        · (intro w' hSw; go_simp; try with_reducible rfl)
        try simp only [Act.put, List.setIfInBounds_toArray, List.set_cons_zero, List.set_cons_succ]
        refine takeL (i := 7) (v := undef) rfl rfl (by kernel_rfl) (by kernel_rfl) (by kernel_rfl) (fun _ _ _ h => h) (Or.inr ⟨by rfl, rfl⟩) (by assumption) ?_
        try simp only [Act.put, List.setIfInBounds_toArray, List.set_cons_zero, List.set_cons_succ]
        refine takeL (i := 8) (v := undef) rfl rfl (by kernel_rfl) (by kernel_rfl) (by kernel_rfl) (fun _ _ _ h => h) (Or.inr ⟨by rfl, rfl⟩) (by assumption) ?_
        try simp only [Act.put, List.setIfInBounds_toArray, List.set_cons_zero, List.set_cons_succ]
        refine takeL (i := 9) (v := undef) rfl rfl (by kernel_rfl) (by kernel_rfl) (by kernel_rfl) (fun _ _ _ h => h) (Or.inr ⟨by rfl, rfl⟩) (by assumption) ?_
        try simp only [Act.put, List.setIfInBounds_toArray, List.set_cons_zero, List.set_cons_succ]
        refine takeL (i := 10) (v := undef) rfl rfl (by kernel_rfl) (by kernel_rfl) (by kernel_rfl) (fun _ _ _ h => h) (Or.inr ⟨by rfl, rfl⟩) (by assumption) ?_
        try simp only [Act.put, List.setIfInBounds_toArray, List.set_cons_zero, List.set_cons_succ]
        refine takeL (i := 11) (v := undef) rfl rfl (by kernel_rfl) (by kernel_rfl) (by kernel_rfl) (fun _ _ _ h => h) (Or.inr ⟨by rfl, rfl⟩) (by assumption) ?_
        try simp only [Act.put, List.setIfInBounds_toArray, List.set_cons_zero, List.set_cons_succ]
        refine takeL (i := 12) (v := undef) rfl rfl (by kernel_rfl) (by kernel_rfl) (by kernel_rfl) (fun _ _ _ h => h) (Or.inr ⟨by rfl, rfl⟩) (by assumption) ?_
        try simp only [Act.put, List.setIfInBounds_toArray, List.set_cons_zero, List.set_cons_succ]
        refine takeL (i := 13) (v := undef) rfl rfl (by kernel_rfl) (by kernel_rfl) (by kernel_rfl) (fun _ _ _ h => h) (Or.inr ⟨by rfl, rfl⟩) (by assumption) ?_
        try simp only [Act.put, List.setIfInBounds_toArray, List.set_cons_zero, List.set_cons_succ]
        refine takeL (i := 14) (v := undef) rfl rfl (by kernel_rfl) (by kernel_rfl) (by kernel_rfl) (fun _ _ _ h => h) (Or.inr ⟨by rfl, rfl⟩) (by assumption) ?_
        try simp only [Act.put, List.setIfInBounds_toArray, List.set_cons_zero, List.set_cons_succ]
        refine takeL (i := 15) (v := undef) rfl rfl (by kernel_rfl) (by kernel_rfl) (by kernel_rfl) (fun _ _ _ h => h) (Or.inr ⟨by rfl, rfl⟩) (by assumption) ?_
        try simp only [Act.put, List.setIfInBounds_toArray, List.set_cons_zero, List.set_cons_succ]
        refine takeL (i := 16) (v := ?_) rfl rfl (by kernel_rfl) (by kernel_rfl) (by kernel_rfl) (fun _ _ _ h => h) (Or.inl ⟨by rfl, ?_⟩) (by assumption) ?_
        rotate_left
        · (intro w' hSw; go_simp; try with_reducible rfl)
        try simp only [Act.put, List.setIfInBounds_toArray, List.set_cons_zero, List.set_cons_succ]
        refine wpAnyH_done (by kernel_rfl) ?_ _
        go_wp2_with fail
        go_meet
        case rel => exact ⟨rfl, hHeld⟩
    case rest =>
      obtain ⟨rfl, hC⟩ := hcut
      clear HHG cW cV
      go_wp2_with (first
        | (refine wp_load_head rfl (.tmp 5) rfl (w.heap.size) rfl (hC.hd 1 rfl) ?_)
        | (refine wp_load_arr rfl 35 (.tmp 7) rfl (w.heap.size + 1 + 1) rfl (hC.2.blk 0 rfl) 32 5 Try.underlying35 HK.out ?_)
        | (go_at_call 15; refine (cS.out _ (hC.2.rd 2 rfl)).mono ?_; rintro e4 w4 ⟨a4, n4, c4, rfl, l4, p4, b4⟩; obtain rfl : n = n4 := HXL.out.symm.trans l4; have s4 := (hC.below b4).addR (p4.rdb l4 (by omega)); clear hC p4 b4 l4)
        | (refine wp_load_head rfl (.tmp 5) rfl (w.heap.size) rfl (s4.hd 1 rfl) ?_)
        | (refine wp_load_arr rfl 35 (.tmp 7) rfl (w.heap.size + 1 + 1) rfl (s4.2.blk 0 rfl) 32 5 Try.underlying35 HK.out ?_)
        | (go_at_call 15; refine (cT.out _ (s4.2.rd 4 rfl)).mono ?_; rintro e5 w5 ⟨a5, n5, c5, rfl, l5, p5, b5⟩; obtain rfl : n = n5 := HYL.out.symm.trans l5; have s5 := (s4.below b5).addR (p5.rdb l5 (by omega)); clear s4 p5 b5 l5)
        | fail)
      rcases HBD.out with rfl | ⟨rfl, hla1, hn40, hxor⟩
      · rw [show ((110 : Nat) : Int) = 110 from rfl]
        have box5 := s5.2.bel
        clear HBD cS cT s5
        go_loopw [20] (fun r wr => r = .int .i64 0 ∧ Below w.heap.size w wr) (fun r _ => 0)
        case atStart => exact ⟨rfl, box5⟩
        case round =>
          obtain ⟨rfl, bb⟩ := hrel
          go_wp2_with fail
          go_ret
          exact ⟨rfl, bb⟩
      · rw [show ((0 : Nat) : Int) = 0 from rfl]
        have HXOR := Lib.hid hxor
        clear HBD cS cT hxor
        obtain ⟨b1, o1, rfl, _, _⟩ := (s5.2.rd 1 rfl).2.2.2.2.2.2.resolve_left (by omega)
        obtain ⟨b2, o2, rfl, _, _⟩ := (s5.2.rd 0 rfl).2.2.2.2.2.2.resolve_left (by omega)
        obtain ⟨b3, o3, rfl, _, _⟩ := (s5.2.rd 4 rfl).2.2.2.2.2.2.resolve_left (by omega)
        obtain ⟨b4, o4, rfl, _, _⟩ := (s5.2.rd 5 rfl).2.2.2.2.2.2.resolve_left (by omega)
        have HN40 := Lib.hid hn40
        clear hn40
        have HXYL := Lib.hid (And.intro (s5.2.rd 1 rfl).2.2.2.2.1 (s5.2.rd 0 rfl).2.2.2.2.1)
        go_loopw [20] (fun r wr => ∃ i : Nat, i ≤ la ∧ r = .int .i64 i ∧ HW w [(w.heap.size + 1, g), (w.heap.size, h)] [(w.heap.size + 1 + 1, 35, .u8, key)] [(some ⟨b2, o2, none⟩, n, c5, ys), (some ⟨b1, o1, none⟩, n, c4, xs), (a3, n3, c3, hg), (a2, n2, c2, hh), (some ⟨b3, o3, none⟩, la, ca, xa), (some ⟨b4, o4, none⟩, la, cb, xb)] wr) (fun r _ => la - (intOf r).toNat)
        case atStart => exact ⟨0, Nat.zero_le _, rfl, s5⟩
        case round =>
          clear s5
          obtain ⟨i, hi, rfl, hX⟩ := hrel
          by_cases hlt : i < la
          · have e9 : decide ((i : Int) < (la : Int)) = true := decide_eq_true (by omega)
            have hil : (i : Int) < (la : Int) := by omega
            obtain ⟨k, hk24⟩ : ∃ k, k = 24 + i := ⟨_, rfl⟩
            have hadd : (24 : Int) + (i : Int) = (k : Int) := by omega
            have hkn : (k : Int) < (n : Int) := by have := HN40.out; omega
            have hkN : k < n := by have := HN40.out; omega
            have hltN := hlt
            have hge : decide ((k : Int) ≥ (n : Int)) = false := decide_eq_false (by omega)
            have hge2 : decide ((n : Int) ≤ (k : Int)) = false := decide_eq_false (by omega)
            have hkw : IntKind.i64.wrap (k : Int) = (k : Int) := by rw [IntKind.wrap_i64]; omega
            have hz := HXOR.out i hlt
            rw [← hk24] at hz
            obtain ⟨u1, hu1⟩ : ∃ u, xs.getD k 0 = u := ⟨_, rfl⟩
            obtain ⟨u2, hu2⟩ : ∃ u, ys.getD k 0 = u := ⟨_, rfl⟩
            obtain ⟨v1, hv1⟩ : ∃ u, xa.getD i 0 = u := ⟨_, rfl⟩
            obtain ⟨v2, hv2⟩ : ∃ u, xb.getD i 0 = u := ⟨_, rfl⟩
            rw [hu1, hu2, hv1, hv2] at hz
            have hx1 := St.xor_u8 u1 u2 (by rw [← hu1]; exact St.get_lt HXYL.out.1 k) (by rw [← hu2]; exact St.get_lt HXYL.out.2 k)
            have hx2 := St.xor_u8 v1 v2 (by rw [← hv1]; exact St.get_lt HXLT.out.1 i) (by rw [← hv2]; exact St.get_lt HXLT.out.2 i)
            rw [hz] at hx1
            generalize v1 ^^^ v2 = z at hx1 hx2
            have hzz : ((z : Int) != (z : Int)) = false := by simp
            have HI := Lib.hid (And.intro hlt (show k < n by omega))
            have HU1 := Lib.hid hu1
            have HU2 := Lib.hid hu2
            have HV1 := Lib.hid hv1
            have HV2 := Lib.hid hv2
            clear hu1 hu2 hv1 hv2 hz hlt hk24
            go_wp2_with fail
            refine wp_region_class (HW w [(w.heap.size + 1, g), (w.heap.size, h)] [(w.heap.size + 1 + 1, 35, .u8, key)] [(some ⟨b2, o2, none⟩, n, c5, ys), (some ⟨b1, o1, none⟩, n, c4, xs), (a3, n3, c3, hg), (a2, n2, c2, hh), (some ⟨b3, o3, none⟩, la, ca, xa), (some ⟨b4, o4, none⟩, la, cb, xb)]) (by kernel_rfl) (by kernel_rfl) (hX.drew) ?_
            refine qY (v := ?_) rfl ?_ ?_
            rotate_left
            · (intro w' _; go_simp; try with_reducible rfl)
            rotate_left
            try simp only [Act.put, List.setIfInBounds_toArray, List.set_cons_zero, List.set_cons_succ]
            refine qY (v := ?_) rfl ?_ ?_
            rotate_left
            · (intro w' _; go_simp; try with_reducible rfl)
            rotate_left
            try simp only [Act.put, List.setIfInBounds_toArray, List.set_cons_zero, List.set_cons_succ]
            refine qY (v := ?_) rfl ?_ ?_
            rotate_left
            · (intro w' _; go_simp; try with_reducible rfl)
            rotate_left
            try simp only [Act.put, List.setIfInBounds_toArray, List.set_cons_zero, List.set_cons_succ]
            refine qY (v := ?_) rfl ?_ ?_
            rotate_left
            · (intro w' _; go_simp; try with_reducible rfl)
            rotate_left
            try simp only [Act.put, List.setIfInBounds_toArray, List.set_cons_zero, List.set_cons_succ]
            refine qY (v := .bool false) rfl ?_ ?_
            · (intro w' hC; go_simp; try with_reducible rfl)
            try simp only [Act.put, List.setIfInBounds_toArray, List.set_cons_zero, List.set_cons_succ]
            refine qY (v := ?_) rfl ?_ ?_
            rotate_left
            · (intro w' _; go_simp; try with_reducible rfl)
            rotate_left
            try simp only [Act.put, List.setIfInBounds_toArray, List.set_cons_zero, List.set_cons_succ]
            refine qY (v := ?_) rfl ?_ ?_
            rotate_left
            · (intro w' _; go_simp; try with_reducible rfl)
            rotate_left
            try simp only [Act.put, List.setIfInBounds_toArray, List.set_cons_zero, List.set_cons_succ]
            refine qY (v := ?_) rfl ?_ ?_
            rotate_left
            · (intro w' _; go_simp; try with_reducible rfl)
            rotate_left
            try simp only [Act.put, List.setIfInBounds_toArray, List.set_cons_zero, List.set_cons_succ]
            refine qY (v := ?_) rfl ?_ ?_
            rotate_left
            · (intro w' _; go_simp; try with_reducible rfl)
            rotate_left
            try simp only [Act.put, List.setIfInBounds_toArray, List.set_cons_zero, List.set_cons_succ]
            refine qY (v := ?_) rfl ?_ ?_
            rotate_left
            · (intro w' _; go_simp; try with_reducible rfl)
            rotate_left
            try simp only [Act.put, List.setIfInBounds_toArray, List.set_cons_zero, List.set_cons_succ]
            refine qY (v := .int .u8 (u1 : Int)) rfl ?_ ?_
            · (intro w' hC; have hh9 := St.rdb_at (hC.2.rd 1 rfl) k HI.out.2; rw [HU1.out] at hh9; go_simp; try with_reducible rfl)
            try simp only [Act.put, List.setIfInBounds_toArray, List.set_cons_zero, List.set_cons_succ]
            refine qY (v := ?_) rfl ?_ ?_
            rotate_left
            · (intro w' _; go_simp; try with_reducible rfl)
            rotate_left
            try simp only [Act.put, List.setIfInBounds_toArray, List.set_cons_zero, List.set_cons_succ]
            refine qY (v := ?_) rfl ?_ ?_
            rotate_left
            · (intro w' _; go_simp; try with_reducible rfl)
            rotate_left
            try simp only [Act.put, List.setIfInBounds_toArray, List.set_cons_zero, List.set_cons_succ]
            refine qY (v := ?_) rfl ?_ ?_
            rotate_left
            · (intro w' _; go_simp; try with_reducible rfl)
            rotate_left
            try simp only [Act.put, List.setIfInBounds_toArray, List.set_cons_zero, List.set_cons_succ]
            refine qY (v := ?_) rfl ?_ ?_
            rotate_left
            · (intro w' _; go_simp; try with_reducible rfl)
            rotate_left
            try simp only [Act.put, List.setIfInBounds_toArray, List.set_cons_zero, List.set_cons_succ]
            refine qY (v := .int .u8 (u2 : Int)) rfl ?_ ?_
            · (intro w' hC; have hh9 := St.rdb_at (hC.2.rd 0 rfl) k HI.out.2; rw [HU2.out] at hh9; go_simp; try with_reducible rfl)
            try simp only [Act.put, List.setIfInBounds_toArray, List.set_cons_zero, List.set_cons_succ]
            refine qY (v := ?_) rfl ?_ ?_
            rotate_left
            · (intro w' _; go_simp; try with_reducible rfl)
            rotate_left
            try simp only [Act.put, List.setIfInBounds_toArray, List.set_cons_zero, List.set_cons_succ]
            refine qY (v := ?_) rfl ?_ ?_
            rotate_left
            · (intro w' _; go_simp; try with_reducible rfl)
            rotate_left
            try simp only [Act.put, List.setIfInBounds_toArray, List.set_cons_zero, List.set_cons_succ]
            refine qY (v := ?_) rfl ?_ ?_
            rotate_left
            · (intro w' _; go_simp; try with_reducible rfl)
            rotate_left
            try simp only [Act.put, List.setIfInBounds_toArray, List.set_cons_zero, List.set_cons_succ]
            refine qY (v := ?_) rfl ?_ ?_
            rotate_left
            · (intro w' _; go_simp; try with_reducible rfl)
            rotate_left
            try simp only [Act.put, List.setIfInBounds_toArray, List.set_cons_zero, List.set_cons_succ]
            refine qY (v := .int .u8 (v1 : Int)) rfl ?_ ?_
            · (intro w' hC; have hh9 := St.rdb_at (hC.2.rd 4 rfl) i HI.out.1; rw [HV1.out] at hh9; go_simp; try with_reducible rfl)
            try simp only [Act.put, List.setIfInBounds_toArray, List.set_cons_zero, List.set_cons_succ]
            refine qY (v := ?_) rfl ?_ ?_
            rotate_left
            · (intro w' _; go_simp; try with_reducible rfl)
            rotate_left
            try simp only [Act.put, List.setIfInBounds_toArray, List.set_cons_zero, List.set_cons_succ]
            refine qY (v := ?_) rfl ?_ ?_
            rotate_left
            · (intro w' _; go_simp; try with_reducible rfl)
            rotate_left
            try simp only [Act.put, List.setIfInBounds_toArray, List.set_cons_zero, List.set_cons_succ]
            refine qY (v := ?_) rfl ?_ ?_
            rotate_left
            · (intro w' _; go_simp; try with_reducible rfl)
            rotate_left
            try simp only [Act.put, List.setIfInBounds_toArray, List.set_cons_zero, List.set_cons_succ]
            refine qY (v := .int .u8 (v2 : Int)) rfl ?_ ?_
            · (intro w' hC; have hh9 := St.rdb_at (hC.2.rd 5 rfl) i HI.out.1; rw [HV2.out] at hh9; go_simp; try with_reducible rfl)
            try simp only [Act.put, List.setIfInBounds_toArray, List.set_cons_zero, List.set_cons_succ]
            refine qY (v := ?_) rfl ?_ ?_
            rotate_left
            · (intro w' _; go_simp; try with_reducible rfl)
            rotate_left
            try simp only [Act.put, List.setIfInBounds_toArray, List.set_cons_zero, List.set_cons_succ]
            refine qY (v := .bool false) rfl ?_ ?_
            · (intro w' hC; go_simp; try with_reducible rfl)
            try simp only [Act.put, List.setIfInBounds_toArray, List.set_cons_zero, List.set_cons_succ]
            refine qY (v := ?_) rfl ?_ ?_
            rotate_left
            · (intro w' _; go_simp; try with_reducible rfl)
            rotate_left
            try simp only [Act.put, List.setIfInBounds_toArray, List.set_cons_zero, List.set_cons_succ]
            refine wpQuiet_nil ?_
            intro w9 hC
            go_wp2_with fail
            exact ⟨⟨i + 1, HI.out.1, by go_num, hC⟩, by simp [intOf]; have := HI.out.1; omega⟩
          · obtain rfl : la = i := by omega
            go_wp2_with fail
            go_ret
            exact ⟨rfl, hX.2.bel⟩
  · have hsplit : decide ((la : Int) > 300) = true ∨ (decide ((la : Int) > 300) = false ∧ ((lb : Int) != (la : Int)) = true) := by
      simp only [decide_eq_true_eq, decide_eq_false_iff_not, bne_iff_ne]
      omega
    have box : Below w.heap.size w (((w.alloc (.cells #[.int .i64 h.kind, .int .i64 h.lba, .int .i64 h.len, .int .i64 h.seq, .int .i64 h.epoch] 23)).alloc (.cells #[.int .i64 g.kind, .int .i64 g.lba, .int .i64 g.len, .int .i64 g.seq, .int .i64 g.epoch] 23)).alloc (.cells (nv .u8 key).toArray 35)) := xalloc (xalloc (xnew _ _) _) _
    clear hall
    rcases hsplit with d1 | ⟨d1, d2⟩
    all_goals
      go_enter Try.func4, Try.ntmps4
      go_wp2_with (first
        | (go_at_call 11; refine (awake_any _).mono ?_; rintro e1 w1 ⟨rfl, b1⟩)
        | fail)
      go_ret
      exact ⟨rfl, xtrans box b1⟩
end Go.Proofs.Ytpcppnoomogloaa.Fr
