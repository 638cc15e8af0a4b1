/- The walk of the statement FrameTurns. -/
import Derived.Test.YtpcppnoomogloaaFrA
set_option maxRecDepth 4000
namespace Go.Proofs.Ytpcppnoomogloaa.Fr
set_option linter.unusedSimpArgs false
set_option linter.unusedVariables false
open Go.RowKit

theorem le_get (k n i : Nat) (h : i < k) : (le k n).getD i 0 = n / 256 ^ i % 256 := by
  unfold le
  rw [List.getD_eq_getElem?_getD, List.getElem?_map, List.getElem?_range h]
  rfl
theorem head_sum (h : Hd) (j : Nat) (hj : j < 4) : (headB h).getD (20 + j) 0 = Ad.more 1 (body20 h) / 256 ^ j % 256 := by
  unfold headB
  rw [List.getD_eq_getElem?_getD, List.getElem?_append_right (by rw [body20_length]; omega), body20_length, Nat.add_sub_cancel_left, ← List.getD_eq_getElem?_getD, le_get _ _ _ hj]
theorem xor_ne (x q : Nat) : x ^^^ q = x ↔ q = 0 := by
  constructor
  · intro h
    have := congrArg (fun z => x ^^^ z) h
    simpa [← Nat.xor_assoc] using this
  · intro h; subst h; simp
theorem set_getD (xs : List Nat) (i : Nat) (h : i < xs.length) : xs.set i (xs.getD i 0) = xs := by
  rw [List.getD_eq_getElem?_getD, List.getElem?_eq_getElem h]
  simp
set_option maxRecDepth 100000 in
set_option maxHeartbeats 4000000 in
theorem turns_walk (h : Hd) (p q : Int) (w : World) (hp : 0 ≤ p ∧ p ≤ 255) (hq : 0 ≤ q ∧ q ≤ 255) : Calls Try.prog 3 #[h.v, .int .u8 p, .int .u8 q] w fun e w' => e = .returned (.bool true) ∧ Below w.heap.size w w' := by
  obtain ⟨p0, rfl⟩ := Int.eq_ofNat_of_zero_le hp.1
  obtain ⟨q0, rfl⟩ := Int.eq_ofNat_of_zero_le hq.1
  have hb0 := HBlk.new w h
  have bb0 := xnew w (.cells #[.int .i64 h.kind, .int .i64 h.lba, .int .i64 h.len, .int .i64 h.seq, .int .i64 h.epoch] 23)
  cases ho : okH h with
  | true =>
    have cW := Lib.hid (fun W => Write_ok W h ho)
    obtain ⟨i, hi⟩ : ∃ i : Nat, (p0 : Int) % 24 = (i : Int) := ⟨p0 % 24, by omega⟩
    have hi24 : i < 24 := by omega
    have hil : (i : Int) < 24 := by omega
    obtain ⟨hd, hhd⟩ : ∃ hd, hd = headB h := ⟨_, rfl⟩
    have hhl : hd.length = 24 := by rw [hhd]; exact headB_length h
    have hhb : ∀ x ∈ hd, x < 256 := by rw [hhd]; exact headB_lt h
    have ht20 : hd.take 20 = body20 h := by rw [hhd]; exact headB_take h
    obtain ⟨s, hs⟩ : ∃ s, s = Ad.more 1 (body20 h) := ⟨_, rfl⟩
    have hsl : s < 4294967296 := by rw [hs]; exact Ad.more_lt _ _
    have v0 : ((hd.getD 20 0 : Nat) : Int) = (s : Int) % 256 := by rw [hhd, head_sum h 0 (by decide), ← hs]; simp
    have v1 : ((hd.getD 21 0 : Nat) : Int) = (s : Int) / 256 % 256 := by rw [hhd, head_sum h 1 (by decide), ← hs]; simp
    have v2 : ((hd.getD 22 0 : Nat) : Int) = (s : Int) / 65536 % 256 := by rw [hhd, head_sum h 2 (by decide), ← hs]; simp
    have v3 : ((hd.getD 23 0 : Nat) : Int) = (s : Int) / 16777216 := by rw [hhd, head_sum h 3 (by decide), ← hs]; simp; omega
    obtain ⟨x0, hx0⟩ : ∃ x0, x0 = hd.getD i 0 := ⟨_, rfl⟩
    have hx0l : x0 < 256 := by rw [hx0]; exact getD_u8 hhb i
    obtain ⟨y0, hy0⟩ : ∃ y0, y0 = x0 ^^^ q0 := ⟨_, rfl⟩
    have hy0l : y0 < 256 := by rw [hy0]; exact Nat.xor_lt_two_pow (n := 8) hx0l (by omega)
    have hxor : bits .xor .u8 (x0 : Int) (q0 : Int) = (y0 : Int) := by
      have h8 : (2 : Int) ^ IntKind.u8.bits = 256 := rfl
      have := bits_xor .u8 rfl (x0 : Int) (q0 : Int) (by omega) (by omega) (by omega) (by omega)
      rw [hy0]
      simpa using this
    have hz : q0 = 0 → readH (hd.set i y0) = h ∧ readE (hd.set i y0) = 0 := fun e => by
      have : y0 = x0 := by rw [hy0]; exact (xor_ne x0 q0).2 e
      rw [this, hx0, set_getD _ _ (by omega), hhd]
      have := readH_head h ho []
      rwa [List.append_nil] at this
    have hnz : q0 ≠ 0 → readH (hd.set i y0) = hd0 ∧ readE (hd.set i y0) = 110 := fun e => by
      refine read_not ?_
      rw [hhd]
      refine head_turned ho i y0 hi24 hy0l (fun h' => e ((xor_ne x0 q0).1 ?_))
      rw [← hy0, h', hx0, hhd]
    have cA := Lib.hid (fun (W : World) (a : Option Addr) (c : Nat) (h : RdB W a 20 c (hd.take 20)) => Ad.Sum_any a 20 c (hd.take 20) W h)
    rw [ht20, ← hs] at cA
    have hT20 := Lib.hid ht20
    obtain ⟨bs, hbs⟩ : ∃ bs, bs = hd.set i y0 := ⟨_, rfl⟩
    rw [← hbs] at hz hnz
    rw [← hhd] at cW
    have HBS := Lib.hid hbs
    have HX0 := Lib.hid hx0
    have HHL := Lib.hid hhl
    have hbl : bs.length = 24 := by rw [hbs, List.length_set]; exact hhl
    have HBL := Lib.hid hbl
    have cR := Lib.hid (fun (W : World) (a : Option Addr) (c : Nat) (h : RdB W a 24 c bs) => Read_any W a 24 c bs h)
    unfold ReadOK at cR
    obtain ⟨g, hg⟩ : ∃ g, g = readH bs := ⟨_, rfl⟩
    obtain ⟨c, hc⟩ : ∃ c, c = readE bs := ⟨_, rfl⟩
    rw [← hg, ← hc] at cR hz hnz
    have HZ := Lib.hid hz
    have HNZ := Lib.hid hnz
    have HV := Lib.hid (And.intro v0 (And.intro v1 (And.intro v2 v3)))
    clear hz hnz hg hc hbl hbs hx0 hy0 hhl ht20 hs hhd v0 v1 v2 v3 ho
    show Calls Try.prog 3 #[.agg #[.int .i64 h.kind, .int .i64 h.lba, .int .i64 h.len, .int .i64 h.seq, .int .i64 h.epoch], .int .u8 (p0 : Int), .int .u8 (q0 : Int)] w _
    go_enter Try.func3, Try.ntmps3
    go_upto_region 5 with (first
      | (go_at_call 11; refine (awake_any _).mono ?_; rintro e1 w1 ⟨rfl, b1⟩; have hb1 := hb0.below b1; have bb1 := xtrans bb0 b1; clear hb0 bb0 b1)
      | (refine wp_load_head rfl (.tmp 3) rfl w.heap.size rfl hb1 ?_)
      | (go_at_call 12; refine (cW.out _).mono ?_; rintro e2 w2 ⟨a2, c2, rfl, p2, b2⟩; have o2 := p2.mono bb1.size; have bb2 := xtrans bb1 b2; clear hb1 bb1 b2 p2)
      | fail)
    obtain ⟨g2, rfl⟩ := own_cell o2 HHL.out (by decide)
    have r2 := o2.rdb HHL.out (by decide)
    have hcap : (20 : Int) ≤ (c2 : Int) := by have := r2.2.2.1; omega
    have hcm : c2 ≤ 9223372036854775807 := r2.2.2.2.1
    have z20 := rd_cell r2 20 (by decide)
    have z21 := rd_cell r2 21 (by decide)
    have z22 := rd_cell r2 22 (by decide)
    have z23 := rd_cell r2 23 (by decide)
    have zi := rd_cell r2 i hi24
    rw [HV.out.1] at z20
    rw [HV.out.2.1] at z21
    rw [HV.out.2.2.1] at z22
    rw [HV.out.2.2.2] at z23
    rw [← HX0.out] at zi
    have hG := Own.cells o2 HHL.out
    go_upto_region 8 with (first
      | (go_at_call 13; refine (cA.out _ _ _ (by rw [← hT20.out]; exact rdb_take r2 20 (by decide))).mono ?_; rintro e3 w3 ⟨rfl, b3⟩; have o3 := o2.below b3; have bb3 := xtrans bb2 b3; have y20 := (b3.cell (p := ⟨g2, 20, none⟩) hG.2.1).trans z20; have y21 := (b3.cell (p := ⟨g2, 21, none⟩) hG.2.1).trans z21; have y22 := (b3.cell (p := ⟨g2, 22, none⟩) hG.2.1).trans z22; have y23 := (b3.cell (p := ⟨g2, 23, none⟩) hG.2.1).trans z23; have yi := (b3.cell (p := ⟨g2, i, none⟩) hG.2.1).trans zi; clear z20 z21 z22 z23 zi r2 o2 bb2 b3)
      | fail)
    have hfz := (Own.cells o3 HHL.out).2.2.2 i
    obtain ⟨w4, hw4⟩ : ∃ w4, w3.setCell ⟨g2, i, none⟩ (.int .u8 ((y0 : Nat) : Int)) = w4 := ⟨_, rfl⟩
    have o4 := Own.setN o3 HHL.out i y0 hy0l
    have bb4 := xset bb3 (p := ⟨g2, i, none⟩) hG.1 (.int .u8 ((y0 : Nat) : Int))
    rw [hw4, ← HBS.out] at o4
    rw [hw4] at bb4
    clear o3 bb3 hG
    go_wp2_with (first
      | (go_at_call 14; refine (cR.out _ _ _ (o4.rdb HBL.out (by decide))).mono ?_; rintro e5 w5 ⟨rfl, b5⟩; have bb5 := xtrans bb4 b5; clear y20 y21 y22 y23 yi o4 bb4 b5)
      | (refine wp_store_head rfl (.tmp 12) (.tmp 76) rfl w5.heap.size rfl (h1 := g) (HBlk.new w5 hd0) rfl ?_; intro w6 hX g6; have bb6 := (xalloc bb5 (.cells #[.int .i64 0, .int .i64 0, .int .i64 0, .int .i64 0, .int .i64 0] 23)).grown g6 (xalloc bb5 (.cells #[.int .i64 0, .int .i64 0, .int .i64 0, .int .i64 0, .int .i64 0] 23)).size (fun k hk => by have := Option.some.inj hk; have := bb5.size; omega))
      | fail)
    have hfin : (((c : Int) == 0) == ((q0 : Int) == 0)) = true := by
      by_cases hq0 : q0 = 0
      · rw [(HZ.out hq0).2, hq0]; rfl
      · rw [(HNZ.out hq0).2, show ((q0 : Int) == 0) = false by rw [beq_eq_false_iff_ne]; omega]; rfl
    go_ret
    exact ⟨by rw [← hfin]; rfl, bb6⟩
  | false =>
    have cW := Lib.hid (fun W => Write_no W h ho)
    clear ho
    show Calls Try.prog 3 #[.agg #[.int .i64 h.kind, .int .i64 h.lba, .int .i64 h.len, .int .i64 h.seq, .int .i64 h.epoch], .int .u8 (p0 : Int), .int .u8 (q0 : Int)] w _
    go_enter Try.func3, Try.ntmps3
    go_wp2_with (first
      | (go_at_call 11; refine (awake_any _).mono ?_; rintro e1 w1 ⟨rfl, b1⟩; have hb1 := hb0.below b1; have bb1 := xtrans bb0 b1; clear hb0 bb0 b1)
      | (refine wp_load_head rfl (.tmp 3) rfl w.heap.size rfl hb1 ?_)
      | (go_at_call 12; refine (cW.out _).mono ?_; rintro e2 w2 ⟨rfl, b2⟩; have bb2 := xtrans bb1 b2; clear hb1 bb1 b2)
      | fail)
    go_ret
    exact ⟨rfl, bb2⟩
end Go.Proofs.Ytpcppnoomogloaa.Fr
