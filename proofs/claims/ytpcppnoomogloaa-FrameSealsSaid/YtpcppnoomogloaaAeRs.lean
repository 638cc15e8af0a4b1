/- The walks of the document's Tag, Seal, Open. -/
import Derived.Test.YtpcppnoomogloaaAeWs
import Derived.Test.YtpcppnoomogloaaChRs
import Derived.Test.YtpcppnoomogloaaPrW5
import Derived.Test.YtpcppnoomogloaaStW4
set_option maxRecDepth 4000
namespace Go.Proofs.Ytpcppnoomogloaa.Ae
set_option linter.unusedSimpArgs false
set_option linter.unusedVariables false
open Go.RowKit

def lenV : Value → Nat
  | .slice _ n _ => n
  | _ => 0
set_option maxHeartbeats 2000000 in
theorem rfilled_any (w : World) (a : Option Addr) (len cap : Nat) (bs : List Nat) (hr : RdB w a len cap bs) (hs : len ≤ 10000000) :
    Calls Try.prog 65 #[.slice a len cap] w fun e w' => ∃ ad cp, e = .returned (.slice ad (fillZ bs).length cp) ∧ Own w' w.heap.size (.slice ad (fillZ bs).length cp) (fillZ bs) ∧ Below w.heap.size w w' := by
  have hbl : bs.length = len := hr.2.1
  have HBL := Lib.hid hbl
  obtain ⟨k, hk⟩ : ∃ k, k = (16 - len % 16) % 16 := ⟨_, rfl⟩
  have hk15 : k ≤ 15 := by omega
  have hfl : (fillZ bs).length = len + k := by rw [fillZ_length, hbl, hk]
  have hfz : fillZ bs = bs ++ List.replicate k 0 := by unfold fillZ; rw [hbl, hk]
  have HK := Lib.hid hk
  have HFZ := Lib.hid hfz
  rw [hfl]
  clear hbl hk hfl hfz
  go_enter Try.func65, Try.ntmps65
  go_wp2_with (first
    | (at_builtin; refine wp_append rfl (.tmp 4) (.tmp 5) rfl w.heap.size _ [] rfl (Own.lit w #[] 0 [] rfl rfl (by decide) (by simp)) _ _ _ bs rfl (hr.below (xnew _ _)) (by simp; have := HBL.out; omega) (by simp) ?_; intro v1 w1 o1 b1 _; rw [List.nil_append] at o1; have bb1 : Below w.heap.size w w1 := (xnew w (.cells #[] 5)).trans b1; obtain ⟨a1, c1, rfl, _, _⟩ := o1.rd (by rw [HBL.out]; omega); rw [HBL.out] at o1 ⊢)
    | fail)
  clear b1
  go_loopw [3] (fun r wr => ∃ j n : Nat, ∃ ad cp, j ≤ k ∧ n = len + j ∧ r = .slice ad n cp ∧ Own wr w.heap.size (.slice ad n cp) (bs ++ List.replicate j 0) ∧ Below w.heap.size w wr) (fun r _ => len + k - lenV r)
  case atStart => exact ⟨0, len, a1, c1, Nat.zero_le _, rfl, rfl, by rw [List.replicate_zero, List.append_nil]; exact o1, bb1⟩
  case round =>
    clear o1 bb1
    obtain ⟨j, n, aj, cj, hj, hn, rfl, oj, bj⟩ := hrel
    obtain ⟨md, hmd⟩ : ∃ md : Nat, md = n % 16 := ⟨_, rfl⟩
    have hmi : (n : Int) % 16 = (md : Int) := by omega
    by_cases h0 : md = 0
    · have hjk : j = k := by have := HK.out; omega
      have ht : ((md : Int) != 0) = false := by rw [h0]; rfl
      have hn2 : n = len + k := by omega
      subst hjk
      have HN := Lib.hid hn2
      clear hmd h0 hn hn2
      go_wp2_with fail
      go_ret
      rw [← HN.out, HFZ.out]
      exact ⟨aj, cj, rfl, oj, bj⟩
    · have hjk : j < k := by have := HK.out; omega
      have ht : ((md : Int) != 0) = true := by rw [bne_iff_ne]; omega
      have HN := Lib.hid hn
      have HMD := Lib.hid (And.intro hmd h0)
      have hnl : n ≤ 10000100 := by omega
      have hxl : (bs ++ List.replicate j 0).length = n := by rw [List.length_append, HBL.out, List.length_replicate, HN.out]
      have HXL := Lib.hid hxl
      clear hmd h0 hn hxl
      go_wp2_with (first
        | (at_builtin; refine wp_append rfl (.tmp 11) (.tmp 12) rfl w.heap.size _ (bs ++ List.replicate j 0) rfl (oj.below (xnew _ _)) _ _ _ [0] rfl (rd_new _ _ _ _ _ _ rfl rfl (by decide) (by decide)) (by rw [HXL.out]; show n + 1 ≤ 1000000000; omega) (Nat.le_trans bj.size (xnew wr (.cells #[.int .u8 0] 5)).size) ?_; intro v2 w2 o2 b2 _; have bb2 : Below w.heap.size w w2 := (xalloc bj _).trans b2; obtain ⟨a2, c2, rfl, _, _⟩ := o2.rd (by rw [List.length_append, HXL.out]; show n + 1 ≤ 1000000000; omega); rw [List.length_append, HXL.out] at o2 ⊢)
        | fail)
      refine ⟨⟨j + 1, n + 1, a2, c2, by omega, by have := HN.out; omega, rfl, ?_, bb2⟩, ?_⟩
      · rw [List.replicate_succ', ← List.append_assoc]; exact o2
      · have := HN.out
        show len + k - (n + 1) < len + k - n
        omega
set_option maxHeartbeats 2000000 in
theorem reight_any (w : World) (m : Nat) (hm : m ≤ 1000000000) :
    Calls Try.prog 66 #[.int .i64 (m : Int)] w fun e w' => ∃ ad cp, e = .returned (.slice ad 8 cp) ∧ Own w' w.heap.size (.slice ad 8 cp) (e8 m) ∧ Below w.heap.size w w' := by
  go_enter Try.func66, Try.ntmps66
  go_wp2_with fail
  go_loopw [3, 4] (fun v r wr => ∃ i : Nat, i ≤ 8 ∧ r = .int .i64 i ∧ ∃ ad cp, v = .slice ad i cp ∧ Own wr w.heap.size (.slice ad i cp) ((e8 m).take i) ∧ Below w.heap.size w wr) (fun v r _ => 8 - (intOf r).toNat)
  case atStart => exact ⟨0, by decide, rfl, none, 0, rfl, Own.nil _ _, xrefl _⟩
  case round =>
    obtain ⟨i, hi8, rfl, ai, ci, rfl, oi, bi⟩ := hrel
    by_cases hlt : i < 8
    · have e9 : decide ((i : Int) < 8) = true := decide_eq_true (by omega)
      obtain ⟨z, hz⟩ : ∃ z, z = m / 256 ^ i % 256 := ⟨_, rfl⟩
      have hzl : z < 256 := hz ▸ Nat.mod_lt _ (by decide)
      have he := e8_take m i hlt
      rw [← hz] at he
      have HE := Lib.hid he
      obtain ⟨s8, hs8⟩ : ∃ s8, s8 = 8 * i := ⟨_, rfl⟩
      have w8 : 8 * (i : Int) = (s8 : Int) := by omega
      have w8b : IntKind.i64.wrap (s8 : Int) = (s8 : Int) := by rw [IntKind.wrap_i64]; omega
      have w8c : IntKind.u64.wrap (s8 : Int) = (s8 : Int) := by rw [IntKind.wrap_u64]; omega
      have hs8l : (s8 : Int) < 64 := by omega
      obtain ⟨q, hq⟩ : ∃ q, q = m / 2 ^ s8 := ⟨_, rfl⟩
      have hqz0 : q % 256 = z := by rw [hz, hq, hs8, pow_8]
      have hqz : IntKind.u8.wrap (q : Int) = (z : Int) := by rw [byte_at, hqz0]
      have hqm : (q : Int) % 256 = (z : Int) := by omega
      have hq2 : (m : Int) / 2 ^ s8 = (q : Int) := by rw [hq]; norm_cast
      have hxl : ((e8 m).take i).length = i := by rw [List.length_take, e8_length]; omega
      have HXL := Lib.hid hxl
      have HLT := Lib.hid hlt
      clear hs8 hq hz he hqz0 hxl
      go_wp2_with (first
        | (at_builtin; refine wp_append rfl (.tmp 9) (.tmp 16) rfl w.heap.size _ ((e8 m).take i) rfl (oi.below (xnew _ _)) _ _ _ [z] rfl (rd_new _ _ _ _ _ _ rfl rfl (fun x hx => List.mem_singleton.1 hx ▸ hzl) (by simp)) (by rw [HXL.out]; show i + 1 ≤ 1000000000; omega) (Nat.le_trans bi.size (xnew wr (.cells #[.int .u8 (z : Int)] 5)).size) ?_; intro v2 w2 o2 b2 _; have bb2 : Below w.heap.size w w2 := (xalloc bi _).trans b2; obtain ⟨a2, c2, rfl, _, _⟩ := o2.rd (by rw [List.length_append, HXL.out]; show i + 1 ≤ 1000000000; omega); rw [List.length_append, HXL.out] at o2 ⊢)
        | fail)
      exact ⟨⟨i + 1, by omega, by go_num, a2, c2, rfl, by rw [HE.out]; exact o2, bb2⟩, by simp [intOf]; omega⟩
    · obtain rfl : i = 8 := by omega
      rw [List.take_of_length_le (by rw [e8_length]; exact Nat.le_refl _)] at oi
      go_wp2_with fail
      go_ret
      exact ⟨ai, ci, rfl, oi, bi⟩
end Go.Proofs.Ytpcppnoomogloaa.Ae

namespace Go.Proofs.Ytpcppnoomogloaa.Ae
set_option linter.unusedSimpArgs false
set_option linter.unusedVariables false
open Go.RowKit

def kS (once : List Nat) (i : Nat) : List Nat := once.take i ++ List.replicate (32 - i) 0
theorem kS_length (once : List Nat) (i : Nat) (h : i ≤ 32) (ho : once.length = 64) : (kS once i).length = 32 := by simp [kS]; omega
theorem kS_set (once : List Nat) (i : Nat) (h : i < 32) (ho : once.length = 64) : (kS once i).set i (once.getD i 0) = kS once (i + 1) := by
  unfold kS
  obtain ⟨m, hm⟩ : ∃ m, 32 - i = m + 1 := ⟨31 - i, by omega⟩
  rw [hm, show 32 - (i + 1) = m by omega, List.replicate_succ, List.set_append_right _ _ (by rw [List.length_take]; omega), List.length_take, show i - min i once.length = 0 by omega, List.set_cons_zero, List.take_add_one, List.append_assoc]
  congr 1
  rw [List.getElem?_eq_getElem (by omega), List.getD_eq_getElem?_getD, List.getElem?_eq_getElem (by omega)]
  rfl
theorem kS_end (once : List Nat) : kS once 32 = once.take 32 := by simp [kS]

set_option maxRecDepth 100000 in
set_option maxHeartbeats 2000000 in
theorem rTag_any (w : World) (key nonce : List Nat) (ha : Option Addr) (lh ch : Nat) (hid : List Nat) (ba : Option Addr) (lb cb : Nat) (bes : List Nat) (hk : key.length = 32) (hkb : ∀ x ∈ key, x < 256) (hn : nonce.length = 12) (hnb : ∀ x ∈ nonce, x < 256)
    (hrh : RdB w ha lh ch hid) (hrb : RdB w ba lb cb bes) (hs1 : lh ≤ 1000000) (hs2 : lb ≤ 1000000) :
    Calls Try.prog 58 #[.agg (bv key).toArray, .agg (bv nonce).toArray, .slice ha lh ch, .slice ba lb cb] w fun e w' => e = .returned (.agg (bv (tagA key nonce hid bes)).toArray) ∧ Below w.heap.size w w' := by
  have HK := Lib.hid (show (Try.prog.info? 35).map (·.size) = some key.length by rw [hk]; kernel_rfl)
  have HN := Lib.hid (show (Try.prog.info? 62).map (·.size) = some nonce.length by rw [hn]; kernel_rfl)
  have cB := Lib.hid (fun W => Ch.RefBlock_any W key nonce 0 hk hkb hn hnb (by decide))
  have hol := Ch.block_length key 0 nonce
  have hob := Ch.block_lt key 0 nonce
  have htag : tagA key nonce hid bes = Po.tag ((Ch.block key 0 nonce).take 32) (fillZ bes ++ fillZ hid ++ e8 lb ++ e8 lh) := by
    unfold tagA text
    rw [show bes.length = lb from hrb.2.1, show hid.length = lh from hrh.2.1]
  generalize Ch.block key 0 nonce = once at cB hol hob htag
  have HTG : Hid (tagA key nonce hid bes = Po.tag (once.take 32) (fillZ bes ++ fillZ hid ++ e8 lb ++ e8 lh)) := Lib.hid htag
  have htl := tagA_length key nonce hid bes
  rw [htag] at htl
  have hZB := Lib.hid (show (Try.prog.info? 83).map (·.size) = some (nv .u8 once).toArray.size by simp only [List.size_toArray, nv_length]; rw [hol]; kernel_rfl)
  have hSB := Lib.hid (show 64 = (nv .u8 once).toArray.size by simp [nv, hol])
  have HOL := Lib.hid hol
  have HTL := Lib.hid htl
  have HHL := Lib.hid (show hid.length = lh from hrh.2.1)
  have HBL := Lib.hid (show bes.length = lb from hrb.2.1)
  have HFB := Lib.hid (fillZ_le bes)
  have HFH := Lib.hid (fillZ_le hid)
  have ho32 : (once.take 32).length = 32 := by rw [List.length_take, hol]; rfl
  have HO32 := Lib.hid ho32
  have hk32 := Lib.hid (show (Try.prog.info? 35).map (·.size) = some (once.take 32).length by rw [ho32]; kernel_rfl)
  have HOB := Lib.hid hob
  clear hk hn hol htag htl ho32 hob
  go_enter Try.func58, Try.ntmps58
  have s0 : LW w [(w.heap.size + 1 + 1, 76, .u8, List.replicate 16 0), (w.heap.size + 1, 62, .u8, nonce), (w.heap.size, 35, .u8, key)] [(ha, lh, ch, hid), (ba, lb, cb, bes)] (((w.alloc (.cells (nv .u8 key).toArray 35)).alloc (.cells (nv .u8 nonce).toArray 62)).alloc (.cells (nv .u8 (List.replicate 16 0)).toArray 76)) := by
    have := (((((LW.nil (xrefl w)).addR hrb).addR hrh).new 35 .u8 key).new 62 .u8 nonce).new 76 .u8 (List.replicate 16 0)
    rw [World.size_alloc, World.size_alloc] at this
    exact this
  have HLO := Lib.hid (And.intro (rdb_low hrh) (rdb_low hrb))
  have HZ0 := Lib.hid (show (Try.prog.info? 35).map (·.size) = some (nv .u8 (List.replicate 32 0)).toArray.size by kernel_rfl)
  have HS0 := Lib.hid (show 32 = (nv .u8 (List.replicate 32 0)).toArray.size by kernel_rfl)
  clear hrh hrb
  go_wp2_with (first
    | (refine wp_load_arr rfl 35 (.tmp 4) rfl w.heap.size rfl (s0.blk 2 rfl) 32 5 Try.underlying35 HK.out ?_)
    | (refine wp_load_arr rfl 62 (.tmp 5) rfl (w.heap.size + 1) rfl (s0.blk 1 rfl) 12 5 Try.underlying62 HN.out ?_)
    | (go_at_call 64; refine (cB.out _).mono ?_; rintro e w2 ⟨rfl, b2⟩; have s2 := s0.below b2; clear s0 b2)
    | (refine wp_store_new rfl 83 (.tmp 9) (.tmp 15) rfl rfl _ (nv .u8 once).toArray rfl hZB.out hSB.out (nv_one _ _) ?_; have hX0 := s2.lt _ (List.mem_cons_self); have s3 := s2.new 83 .u8 once; generalize w2.heap.size = X at s3 hX0 ⊢; replace hX0 : w.heap.size + 1 + 1 < X := hX0; refine wpList_at (fun V => LW w [(X, 83, .u8, once), (w.heap.size + 1 + 1, 76, .u8, List.replicate 16 0), (w.heap.size + 1, 62, .u8, nonce), (w.heap.size, 35, .u8, key)] [(ha, lh, ch, hid), (ba, lb, cb, bes)] V) s3 ?_; clear s3 s2 w2; intro W3 s3)
    | (refine wp_build rfl 35 _ rfl (.agg (nv .u8 (List.replicate 32 0)).toArray) (by kernel_rfl) ?_)
    | (refine wp_store_new rfl 35 (.tmp 10) (.tmp 16) rfl rfl _ (nv .u8 (List.replicate 32 0)).toArray rfl HZ0.out HS0.out (nv_one _ _) ?_; have hXB : X < W3.heap.size := s3.lt _ (List.mem_cons_self); have s4 := s3.new 35 .u8 (List.replicate 32 0); generalize W3.heap.size = Y at s4 hXB ⊢; refine wpList_at (fun V => LW w [(Y, 35, .u8, List.replicate 32 0), (X, 83, .u8, once), (w.heap.size + 1 + 1, 76, .u8, List.replicate 16 0), (w.heap.size + 1, 62, .u8, nonce), (w.heap.size, 35, .u8, key)] [(ha, lh, ch, hid), (ba, lb, cb, bes)] V) s4 ?_; clear s4 s3 W3; intro W4 s4)
    | fail)
  have hlY : ∀ e ∈ [(X, 83, IntKind.u8, once), (w.heap.size + 1 + 1, 76, IntKind.u8, List.replicate 16 0), (w.heap.size + 1, 62, IntKind.u8, nonce), (w.heap.size, 35, IntKind.u8, key)], e.1 ≠ Y := fun e he => by
    simp only [List.mem_cons, List.not_mem_nil, or_false] at he
    rcases he with rfl | rfl | rfl | rfl
    all_goals (dsimp only; omega)
  have hrY : ∀ e ∈ [(ha, lh, ch, hid), (ba, lb, cb, bes)], ∀ x, e.1 = some x → 0 < e.2.1 → x.block ≠ Y := fun e he x hx h0 => by
    simp only [List.mem_cons, List.not_mem_nil, or_false] at he
    rcases he with rfl | rfl
    · have := HLO.out.1 x hx h0; omega
    · have := HLO.out.2 x hx h0; omega
  have HLY := Lib.hid hlY
  have HRY := Lib.hid hrY
  clear hlY hrY
  go_loopw [11] (fun r wr => ∃ i : Nat, i ≤ 32 ∧ r = .int .i64 i ∧ LW w [(Y, 35, .u8, kS once i), (X, 83, .u8, once), (w.heap.size + 1 + 1, 76, .u8, List.replicate 16 0), (w.heap.size + 1, 62, .u8, nonce), (w.heap.size, 35, .u8, key)] [(ha, lh, ch, hid), (ba, lb, cb, bes)] wr) (fun r _ => 32 - (intOf r).toNat)
  case atStart => exact ⟨0, by decide, rfl, s4⟩
  case round =>
    clear s4
    obtain ⟨i, hi, rfl, hS⟩ := hrel
    by_cases hlt : i < 32
    · have e9 : decide ((i : Int) < 32) = true := decide_eq_true (by omega)
      have hset := kS_set once i hlt HOL.out
      obtain ⟨z, hz⟩ : ∃ z, z = once.getD i 0 := ⟨_, rfl⟩
      have hc1 := (hS.blk 1 rfl).cell i (by rw [HOL.out]; omega)
      rw [← hz] at hset hc1
      have hc2 := (hS.blk 0 rfl).cell i (by rw [kS_length once i hi HOL.out]; exact hlt)
      have hf2 := (hS.blk 0 rfl).frozen i
      obtain ⟨w5, hW5⟩ : ∃ w5, wr.setCell ⟨Y, i, none⟩ (.int .u8 ((z : Nat) : Int)) = w5 := ⟨_, rfl⟩
      have s5 := hS.set1 (by omega) HLY.out HRY.out i z
      rw [hW5, hset] at s5
      clear hset hz hS
      go_wp2_with fail
      exact ⟨⟨i + 1, by omega, by go_num, s5⟩, by simp [intOf]; omega⟩
    · obtain rfl : i = 32 := by omega
      rw [kS_end] at hS
      have HLT := Lib.hid hS.lt
      have hbS := hS.bel.size
      have hrt : ∀ e ∈ [(ha, lh, ch, hid), (ba, lb, cb, bes)], ∀ x, e.1 = some x → 0 < e.2.1 → x.block < wr.heap.size := fun e he x hx h0 => by
        simp only [List.mem_cons, List.not_mem_nil, or_false] at he
        rcases he with rfl | rfl
        · have := HLO.out.1 x hx h0; omega
        · have := HLO.out.2 x hx h0; omega
      have HRT := Lib.hid hrt
      clear hrt
      obtain ⟨nb, hnb'⟩ : ∃ nb, nb = (fillZ bes).length := ⟨_, rfl⟩
      obtain ⟨nh, hnh'⟩ : ∃ nh, nh = (fillZ hid).length := ⟨_, rfl⟩
      have hnbl : nb ≤ 1000015 := by have := HFB.out; have := HBL.out; omega
      have hnhl : nh ≤ 1000015 := by have := HFH.out; have := HHL.out; omega
      have HNB := Lib.hid hnb'
      have HNH := Lib.hid hnh'
      clear hnb' hnh'
      go_wp2_with fail
      refine (rfilled_any _ ba lb cb bes (hS.rd 1 rfl) (by omega)).mono ?_
      rintro e w6 ⟨a6, c6, rfl, o6, b6⟩
      have s6 := hS.below b6
      have z6 := b6.size
      rw [← HNB.out] at o6 ⊢
      clear hS b6
      go_wp2_with fail
      refine (rfilled_any _ ha lh ch hid (s6.rd 0 rfl) (by omega)).mono ?_
      rintro e w7 ⟨a7, c7, rfl, o7, b7⟩
      have s7 := s6.below b7
      have q7 := o6.below b7
      have z7 := Nat.le_trans z6 b7.size
      rw [← HNH.out] at o7 ⊢
      clear s6 b7 o6
      go_wp2_with (first
        | (at_builtin; refine wpList_of_wp rfl (wpo_append_at (.tmp 27) (.tmp 29) rfl wr.heap.size (.slice a6 nb c6) (fillZ bes) rfl q7 a7 nh c7 (fillZ hid) rfl (o7.rdb HNH.out.symm (by omega)) (by rw [← HNB.out, ← HNH.out]; omega) z7 ?_); intro v8 w8 o8 g8 _; have s8 := LW.belowB s7 (grown_below g8 z7 (fun k hk => (q7.block k hk).1)) hbS HLT.out HRT.out; have z8 := Nat.le_trans z7 g8.size; obtain ⟨a8, c8, rfl, _, _⟩ := o8.rd (by rw [List.length_append, ← HNB.out, ← HNH.out]; omega); rw [List.length_append, ← HNB.out, ← HNH.out] at o8 ⊢; clear s7 q7 o7)
        | fail)
      refine (reight_any _ lb (by omega)).mono ?_
      rintro e w9 ⟨a9, c9, rfl, o9, b9⟩
      have s9 := s8.below b9
      have q9 := o8.below b9
      have z9 := Nat.le_trans z8 b9.size
      clear s8 b9 o8
      go_wp2_with (first
        | (at_builtin; refine wpList_of_wp rfl (wpo_append_at (.tmp 31) (.tmp 34) rfl wr.heap.size (.slice a8 (nb + nh) c8) (fillZ bes ++ fillZ hid) rfl q9 a9 8 c9 (e8 lb) rfl (o9.rdb (e8_length _) (by decide)) (by rw [List.length_append, ← HNB.out, ← HNH.out, e8_length]; omega) z9 ?_); intro v10 w10 o10 g10 _; have s10 := LW.belowB s9 (grown_below g10 z9 (fun k hk => (q9.block k hk).1)) hbS HLT.out HRT.out; have z10 := Nat.le_trans z9 g10.size; obtain ⟨a10, c10, rfl, _, _⟩ := o10.rd (by rw [List.length_append, List.length_append, ← HNB.out, ← HNH.out, e8_length]; omega); rw [List.length_append, List.length_append, ← HNB.out, ← HNH.out, e8_length] at o10 ⊢; clear s9 q9 o9)
        | fail)
      refine (reight_any _ lh (by omega)).mono ?_
      rintro e w11 ⟨a11, c11, rfl, o11, b11⟩
      have s11 := s10.below b11
      have q11 := o10.below b11
      have z11 := Nat.le_trans z10 b11.size
      clear s10 b11 o10
      go_wp2_with (first
        | (at_builtin; refine wpList_of_wp rfl (wpo_append_at (.tmp 35) (.tmp 38) rfl wr.heap.size (.slice a10 (nb + nh + 8) c10) (fillZ bes ++ fillZ hid ++ e8 lb) rfl q11 a11 8 c11 (e8 lh) rfl (o11.rdb (e8_length _) (by decide)) (by rw [List.length_append, List.length_append, ← HNB.out, ← HNH.out, e8_length, e8_length]; omega) z11 ?_); intro v12 w12 o12 g12 _; have s12 := LW.belowB s11 (grown_below g12 z11 (fun k hk => (q11.block k hk).1)) hbS HLT.out HRT.out; obtain ⟨a12, c12, rfl, r12, _⟩ := o12.rd (by rw [List.length_append, List.length_append, List.length_append, ← HNB.out, ← HNH.out, e8_length, e8_length]; omega); rw [List.length_append, List.length_append, List.length_append, ← HNB.out, ← HNH.out, e8_length, e8_length] at r12 ⊢; clear s11 q11 o11 o12)
        | (refine wp_load_arr rfl 35 (.tmp 10) rfl Y rfl (s12.blk 0 rfl) 32 5 Try.underlying35 hk32.out ?_)
        | fail)
      refine (Po.rSum_any _ (once.take 32) a12 _ c12 _ HO32.out (fun x hx => HOB.out x (List.mem_of_mem_take hx)) r12).mono ?_
      rintro e w13 ⟨rfl, b13⟩
      have s13 := s12.below b13
      have hzo := Lib.hid (show (Try.prog.info? 76).map (·.size) = some (Po.tag (once.take 32) (fillZ bes ++ fillZ hid ++ e8 lb ++ e8 lh)).length by rw [HTL.out]; kernel_rfl)
      have hso := Lib.hid (show (List.replicate 16 0).length = (Po.tag (once.take 32) (fillZ bes ++ fillZ hid ++ e8 lb ++ e8 lh)).length by rw [HTL.out]; rfl)
      have hz3 := Lib.hid (show (Try.prog.info? 76).map (·.size) = some (nv .u8 (Po.tag (once.take 32) (fillZ bes ++ fillZ hid ++ e8 lb ++ e8 lh))).toArray.size by simp only [List.size_toArray, nv_length]; rw [HTL.out]; kernel_rfl)
      generalize Po.tag (once.take 32) (fillZ bes ++ fillZ hid ++ e8 lb ++ e8 lh) = tg at HTG hzo hso hz3
      clear s12 r12
      go_wp2_with (first
        | (refine wp_store_arr rfl 76 (.tmp 8) (.tmp 42) rfl (w.heap.size + 1 + 1) rfl (s13.blk 2 rfl) rfl hzo.out hso.out ?_; intro w14 hO14 g14)
        | fail)
      exact bodyPost_ret (results_cell_row rfl _ _ (w.heap.size + 1 + 1) 76 (nv .u8 tg).toArray (0, 0) _ rfl hO14 Try.underlying76 rfl hz3.out) rfl ⟨by rw [HTG.out]; rfl, gbelow s13.bel g14 (by omega)⟩
end Go.Proofs.Ytpcppnoomogloaa.Ae

namespace Go.Proofs.Ytpcppnoomogloaa.Ae
set_option linter.unusedSimpArgs false
set_option linter.unusedVariables false
open Go.RowKit

set_option maxRecDepth 100000 in
set_option maxHeartbeats 2000000 in
theorem rSeal_any (w : World) (key nonce : List Nat) (pa : Option Addr) (lp cp : Nat) (plain : List Nat) (ba : Option Addr) (lb cb : Nat) (bes : List Nat) (hk : key.length = 32) (hkb : ∀ x ∈ key, x < 256) (hn : nonce.length = 12) (hnb : ∀ x ∈ nonce, x < 256) (hrp : RdB w pa lp cp plain) (hrb : RdB w ba lb cb bes) (hs1 : lp ≤ 1000000) (hs2 : lb ≤ 1000000) :
    Calls Try.prog 40 #[.agg (bv key).toArray, .agg (bv nonce).toArray, .slice pa lp cp, .slice ba lb cb] w fun e w' => ∃ ad cp', e = .returned (.slice ad (lp + 16) cp') ∧ Own w' w.heap.size (.slice ad (lp + 16) cp') (sealA key nonce plain bes) ∧ Below w.heap.size w w' := by
  have hbl : plain.length = lp := hrp.2.1
  have HBL := Lib.hid hbl
  have hf : St.fits 1 lp := by unfold St.fits; omega
  have HF := Lib.hid hf
  have hxl : (St.xorS key 1 nonce plain).length = lp := by rw [St.xorS_length]; exact hbl
  have HXL := Lib.hid hxl
  have htl := tagA_length key nonce (St.xorS key 1 nonce plain) bes
  have htb := tagA_lt key nonce (St.xorS key 1 nonce plain) bes
  have hsl : sealA key nonce plain bes = St.xorS key 1 nonce plain ++ tagA key nonce (St.xorS key 1 nonce plain) bes := rfl
  have HSL := Lib.hid hsl
  have cT := Lib.hid (fun (W : World) (ha : Option Addr) (ch : Nat) (hr1 : RdB W ha lp ch (St.xorS key 1 nonce plain)) (hr2 : RdB W ba lb cb bes) => rTag_any W key nonce ha lp ch _ ba lb cb bes hk hkb hn hnb hr1 hr2 (by omega) (by omega))
  generalize tagA key nonce (St.xorS key 1 nonce plain) bes = tg at htl htb HSL cT
  have HTL := Lib.hid htl
  have HZ := Lib.hid (show (Try.prog.info? 76).map (·.size) = some (nv .u8 tg).toArray.size by simp only [List.size_toArray, nv_length]; rw [htl]; kernel_rfl)
  have HS := Lib.hid (show 16 = (nv .u8 tg).toArray.size by simp [nv, htl])
  clear hbl hf hxl hsl htl
  have HK := Lib.hid (show (Try.prog.info? 35).map (·.size) = some key.length by rw [hk]; kernel_rfl)
  have HN := Lib.hid (show (Try.prog.info? 62).map (·.size) = some nonce.length by rw [hn]; kernel_rfl)
  have HKL := Lib.hid hk
  have HNL := Lib.hid hn
  clear hk hn
  go_enter Try.func40, Try.ntmps40
  have s0 : LW w [(w.heap.size + 1, 62, .u8, nonce), (w.heap.size, 35, .u8, key)] [(pa, lp, cp, plain), (ba, lb, cb, bes)] ((w.alloc (.cells (nv .u8 key).toArray 35)).alloc (.cells (nv .u8 nonce).toArray 62)) := by
    have := ((((LW.nil (xrefl w)).addR hrb).addR hrp).new 35 .u8 key).new 62 .u8 nonce
    rw [World.size_alloc] at this
    exact this
  clear hrp hrb
  go_wp2_with (first
    | (refine wp_load_arr rfl 35 (.tmp 4) rfl w.heap.size rfl (s0.blk 1 rfl) 32 5 Try.underlying35 HK.out ?_)
    | (refine wp_load_arr rfl 62 (.tmp 5) rfl (w.heap.size + 1) rfl (s0.blk 0 rfl) 12 5 Try.underlying62 HN.out ?_)
    | fail)
  refine (St.rXor_any _ key nonce 1 pa lp cp plain HKL.out hkb HNL.out hnb (by decide) (s0.rd 0 rfl) HF.out).mono ?_
  intro e w3 h
  obtain ⟨ad3, cp3, rfl, p3, b3⟩ := St.XorOK.at (n := lp) h HXL.out
  have s3 := (s0.below b3).addR (p3.rdb HXL.out (by omega))
  have p3m : Own w3 w.heap.size (.slice ad3 lp cp3) (St.xorS key 1 nonce plain) := p3.mono s0.bel.size
  clear h s0 b3 p3
  go_wp2_with (first
    | (refine wp_load_arr rfl 35 (.tmp 4) rfl w.heap.size rfl (s3.blk 1 rfl) 32 5 Try.underlying35 HK.out ?_)
    | (refine wp_load_arr rfl 62 (.tmp 5) rfl (w.heap.size + 1) rfl (s3.blk 0 rfl) 12 5 Try.underlying62 HN.out ?_)
    | (go_at_call 58; refine (cT.out _ _ _ (s3.rd 0 rfl) (s3.rd 2 rfl)).mono ?_; rintro e w5 ⟨rfl, b5⟩; have s5 := s3.below b5; have p5 := p3m.below b5; clear s3 p3m b5)
    | (refine wp_store_new rfl 76 (.tmp 11) (.tmp 23) rfl rfl _ (nv .u8 tg).toArray rfl HZ.out HS.out (nv_one _ _) ?_; have hY := Blk.new w5 76 .u8 tg _ rfl; have s6 := s5.alloc (.cells (nv .u8 tg).toArray 76); have p6 := p5.below (xnew w5 (.cells (nv .u8 tg).toArray 76)); have hb6 := s6.bel.size; generalize w5.heap.size = Y at hY ⊢; refine wpList_at (fun V => LW w [(w.heap.size + 1, 62, .u8, nonce), (w.heap.size, 35, .u8, key)] [(ad3, lp, cp3, St.xorS key 1 nonce plain), (pa, lp, cp, plain), (ba, lb, cb, bes)] V ∧ Own V w.heap.size (.slice ad3 lp cp3) (St.xorS key 1 nonce plain) ∧ Blk V Y 76 .u8 tg) ⟨s6, p6, hY⟩ ?_; clear s6 p6 hY s5 p5 hb6 w5; rintro W6 ⟨s6, p6, hY⟩)
    | (at_builtin; refine wpList_of_wp rfl (wpo_append_at (.tmp 24) (.tmp 25) rfl w.heap.size (.slice ad3 lp cp3) (St.xorS key 1 nonce plain) rfl p6 _ _ _ tg rfl (hY.rd 16 HTL.out htb (by decide)) (by rw [HXL.out, HTL.out]; omega) s6.bel.size ?_); intro v7 w7 o7 g7 _; have b7 := s6.bel.trans (grown_below g7 s6.bel.size (fun k hk => (p6.block k hk).1)); rw [← HSL.out] at o7; obtain ⟨a7, c7, rfl, _, _⟩ := o7.rd (by rw [HSL.out, List.length_append, HXL.out, HTL.out]; omega); rw [HSL.out, List.length_append, HXL.out, HTL.out] at o7 ⊢)
    | fail)
  go_ret
  exact ⟨a7, c7, rfl, by rw [HSL.out]; exact o7, b7⟩
end Go.Proofs.Ytpcppnoomogloaa.Ae

namespace Go.Proofs.Ytpcppnoomogloaa.Ae
set_option linter.unusedSimpArgs false
set_option linter.unusedVariables false
open Go.RowKit

theorem yieldsNeS {P : Program} {ops : Array Oper} {C : World → Prop} {o : Oper} {a : Act} {t rt : TypeId} {x y : Operand} {s u : ByteArray} {b : Bool} (hw : Region.wanted o (yielded ops a.tmps) = true) (ho : o.op = .binOp .neq t x y rt) (hx : a.eval x = .string s) (hy : a.eval y = .string u) (hb : (s.toList != u.toList) = b) : YieldsIf P ops C o (.bool b) a :=
  .inl ⟨hw, fun w _ => by
    have h1 : eqGuard .neq t x y (.string s) (.string u) = pure () := rfl
    have hb2 : (!(s.toList == u.toList)) = b := hb
    simp only [execOp, ho, hx, hy, h1, binOp_string_neq, hb2, Sem.run_bind, Sem.run_pure, Sem.run_map, Result.andThen_ok]⟩

set_option maxRecDepth 100000 in
set_option maxHeartbeats 2000000 in
theorem rOpen_short (w : World) (key nonce : List Nat) (a : Option Addr) (lb cb : Nat) (bs : List Nat) (ba : Option Addr) (ls cs : Nat) (bes : List Nat) (hk : key.length = 32) (hkb : ∀ x ∈ key, x < 256) (hn : nonce.length = 12) (hnb : ∀ x ∈ nonce, x < 256) (hr : RdB w a lb cb bs) (hrb : RdB w ba ls cs bes) (hs1 : lb ≤ 1000000) (hs2 : ls ≤ 1000000) (h16 : lb < 16) :
    Calls Try.prog 43 #[.agg (bv key).toArray, .agg (bv nonce).toArray, .slice a lb cb, .slice ba ls cs] w fun e w' => e = .returned (.tuple #[.slice none 0 0, .int .i64 70]) ∧ Below w.heap.size w w' := by
  have d0 : decide ((lb : Int) < 16) = true := decide_eq_true (by omega)
  have HK := Lib.hid (show (Try.prog.info? 35).map (·.size) = some key.length by rw [hk]; kernel_rfl)
  have HN := Lib.hid (show (Try.prog.info? 62).map (·.size) = some nonce.length by rw [hn]; kernel_rfl)
  have HKL := Lib.hid hk
  have HNL := Lib.hid hn
  clear hk hn
  go_enter Try.func43, Try.ntmps43
  have s0 : LW w [(w.heap.size + 1, 62, .u8, nonce), (w.heap.size, 35, .u8, key)] [(a, lb, cb, bs), (ba, ls, cs, bes)] ((w.alloc (.cells (nv .u8 key).toArray 35)).alloc (.cells (nv .u8 nonce).toArray 62)) := by
    have := ((((LW.nil (xrefl w)).addR hrb).addR hr).new 35 .u8 key).new 62 .u8 nonce
    rw [World.size_alloc] at this
    exact this
  clear hr hrb
  go_wp2_with fail
  go_ret2
  exact ⟨rfl, s0.bel⟩

set_option maxRecDepth 100000 in
set_option maxHeartbeats 2000000 in
theorem rOpen_wrong (w : World) (key nonce : List Nat) (a : Option Addr) (lb cb : Nat) (bs : List Nat) (ba : Option Addr) (ls cs : Nat) (bes : List Nat) (hk : key.length = 32) (hkb : ∀ x ∈ key, x < 256) (hn : nonce.length = 12) (hnb : ∀ x ∈ nonce, x < 256) (hr : RdB w a lb cb bs) (hrb : RdB w ba ls cs bes) (hs1 : lb ≤ 1000000) (hs2 : ls ≤ 1000000) (h16 : 16 ≤ lb) (ht : tagA key nonce (bs.take (bs.length - 16)) bes ≠ bs.drop (bs.length - 16)) :
    Calls Try.prog 43 #[.agg (bv key).toArray, .agg (bv nonce).toArray, .slice a lb cb, .slice ba ls cs] w fun e w' => e = .returned (.tuple #[.slice none 0 0, .int .i64 70]) ∧ Below w.heap.size w w' := by
  have HK3 := Lib.hid (show (Try.prog.info? 35).map (·.size) = some (nv .u8 key).length by rw [nv_length, hk]; kernel_rfl)
  have HN3 := Lib.hid (show (Try.prog.info? 62).map (·.size) = some (nv .u8 nonce).length by rw [nv_length, hn]; kernel_rfl)
  have u32 := Try.underlying35
  have u12 := Try.underlying62
  have us := Try.underlying25
  obtain ⟨n, hn16⟩ : ∃ n, n = lb - 16 := ⟨_, rfl⟩
  have hnl : n ≤ lb := by omega
  have hnc : n ≤ cb := by have := hr.2.2.1; omega
  have hcm : cb ≤ 9223372036854775807 := hr.2.2.2.1
  have hsub : (lb : Int) - 16 = (n : Int) := by omega
  have hd0 : decide ((lb : Int) < 16) = false := decide_eq_false (by omega)
  have hbl : bs.length = lb := hr.2.1
  have hdl : (bs.drop n).length = 16 := by rw [List.length_drop]; omega
  have hdb : ∀ x ∈ bs.drop n, x < 256 := fun x hx => hr.2.2.2.2.1 x (List.mem_of_mem_drop hx)
  have cT := Lib.hid (fun (W : World) (hr1 : RdB W a n cb (bs.take n)) (hr2 : RdB W ba ls cs bes) => rTag_any W key nonce a n cb (bs.take n) ba ls cs bes hk hkb hn hnb hr1 hr2 (by omega) (by omega))
  have htl := tagA_length key nonce (bs.take n) bes
  have htb := tagA_lt key nonce (bs.take n) bes
  rw [hbl, ← hn16] at ht
  have hneq : ((strB (tagA key nonce (bs.take n) bes)).toList != (strB (bs.drop n)).toList) = true := by
    show (!((strB (tagA key nonce (bs.take n) bes)).toList == (strB (bs.drop n)).toList)) = true
    rw [strB_beq htb hdb, decide_eq_false ht]; rfl
  have HNEQ := Lib.hid hneq
  obtain ⟨i0, hi0, hi1⟩ := info8o
  have HI := Lib.hid (And.intro hi0 hi1)
  have u16 := Try.underlying76
  have u8 := Try.underlying5
  have ut := Try.underlying9
  generalize tagA key nonce (bs.take n) bes = tg at cT htl htb HNEQ
  have hzo := Lib.hid (show (Try.prog.info? 76).map (·.size) = some tg.length by rw [htl]; kernel_rfl)
  have hso := Lib.hid (show (List.replicate 16 0).length = tg.length by rw [htl]; rfl)
  have HTL := Lib.hid htl
  clear ht htl hneq hdl hbl hn16 hi0 hi1
  have HK := Lib.hid (show (Try.prog.info? 35).map (·.size) = some key.length by rw [hk]; kernel_rfl)
  have HN := Lib.hid (show (Try.prog.info? 62).map (·.size) = some nonce.length by rw [hn]; kernel_rfl)
  have HKL := Lib.hid hk
  have HNL := Lib.hid hn
  clear hk hn
  go_enter Try.func43, Try.ntmps43
  have s0 : LW w [(w.heap.size + 1, 62, .u8, nonce), (w.heap.size, 35, .u8, key)] [(a, lb, cb, bs), (ba, ls, cs, bes)] ((w.alloc (.cells (nv .u8 key).toArray 35)).alloc (.cells (nv .u8 nonce).toArray 62)) := by
    have := ((((LW.nil (xrefl w)).addR hrb).addR hr).new 35 .u8 key).new 62 .u8 nonce
    rw [World.size_alloc] at this
    exact this
  have HLO := Lib.hid (And.intro (rdb_low hr) (rdb_low hrb))
  clear hr hrb
  go_wp2_with fail
  refine wp_region_held_drew (S := LW w [(w.heap.size + 1, 62, .u8, nonce), (w.heap.size, 35, .u8, key)] [(a, lb, cb, bs), (ba, ls, cs, bes)]) (by kernel_rfl) (s0.drew) (fun hHeld => ?_)
  generalize World.drew _ = wv at hHeld ⊢
  refine takeL (i := 0) (v := .agg (nv .u8 key).toArray) rfl rfl (by kernel_rfl) (by kernel_rfl) (by kernel_rfl) (fun _ _ _ h => h) (yieldsIf_load_mid (by rfl) 35 (.tmp 4) rfl w.heap.size 0 (by rfl) (nv .u8 key) _ (fun _ h => blk_range (h.blk 1 rfl)) u32 rfl HK3.out) (by assumption) ?_
  try simp only [Act.put, List.setIfInBounds_toArray, List.set_cons_zero, List.set_cons_succ]
  refine takeL (i := 1) (v := .agg (nv .u8 nonce).toArray) rfl rfl (by kernel_rfl) (by kernel_rfl) (by kernel_rfl) (fun _ _ _ h => h) (yieldsIf_load_mid (by rfl) 62 (.tmp 5) rfl (w.heap.size + 1) 0 (by rfl) (nv .u8 nonce) _ (fun _ h => blk_range (h.blk 0 rfl)) u12 rfl HN3.out) (by assumption) ?_
  try simp only [Act.put, List.setIfInBounds_toArray, List.set_cons_zero, List.set_cons_succ]
  refine takeL (i := 2) (v := ?_) rfl rfl (by kernel_rfl) (by kernel_rfl) (by kernel_rfl) (fun _ _ _ h => h) (Or.inl ⟨by rfl, ?_⟩) (by assumption) ?_
  rotate_left
  · (intro w' hSw; go_simp; try with_reducible rfl)
  try simp only [Act.put, List.setIfInBounds_toArray, List.set_cons_zero, List.set_cons_succ]
  refine takeL (i := 3) (v := ?_) rfl rfl (by kernel_rfl) (by kernel_rfl) (by kernel_rfl) (fun _ _ _ h => h) (Or.inl ⟨by rfl, ?_⟩) (by assumption) ?_
  rotate_left
  · (intro w' hSw; go_simp; try with_reducible rfl)
  try simp only [Act.put, List.setIfInBounds_toArray, List.set_cons_zero, List.set_cons_succ]
  refine takeL (i := 4) (v := ?_) rfl rfl (by kernel_rfl) (by kernel_rfl) (by kernel_rfl) (fun _ _ _ h => h) (Or.inl ⟨by rfl, ?_⟩) (by assumption) ?_
  rotate_left
  · (intro w' hSw; go_simp; try with_reducible rfl)
  try simp only [Act.put, List.setIfInBounds_toArray, List.set_cons_zero, List.set_cons_succ]
  refine takeL (i := 5) (v := ?_) rfl rfl (by kernel_rfl) (by kernel_rfl) (by kernel_rfl) (fun _ _ _ h => h) (Or.inl ⟨by rfl, ?_⟩) (by assumption) ?_
  rotate_left
  · (intro w' hSw; go_simp; try with_reducible rfl)
  try simp only [Act.put, List.setIfInBounds_toArray, List.set_cons_zero, List.set_cons_succ]
  refine wpAnyH_ready (rs := [6, 7]) (by kernel_rfl) (by simp) ?_
  refine consL rfl (fun K hK => ?_) (consL rfl (fun K hK => ?_) AllReadyH.nil)
  · rw [if_pos (by rfl)]
    go_simp
    refine (cT.out _ (rdb_take (hHeld.rd 0 rfl) n hnl) (hHeld.rd 1 rfl)).mono ?_
    rintro e w21 ⟨rfl, b21⟩
    refine hK.out _ _ (hHeld.below b21) (fun hHeld => ?_)
    clear hK K
    try simp only [Act.put, List.setIfInBounds_toArray, List.set_cons_zero, List.set_cons_succ]
    refine wpAnyH_ready (rs := [7]) (by kernel_rfl) (by simp) ?_
    refine consL rfl (fun K hK => ?_) AllReadyH.nil
    · rw [if_pos (by rfl)]
      go_simp
      have hB22 := Blk.new w21 76 .u8 (List.replicate 16 0) _ rfl
      have hl22 := hHeld.alloc (.cells (nv .u8 (List.replicate 16 0)).toArray 76)
      have hlo22 := hHeld.lt
      have hbe22 := hHeld.bel.size
      generalize w21.heap.size = Bn at hB22 hlo22 hbe22 ⊢
      change K _ (w21.alloc (.cells (nv .u8 (List.replicate 16 0)).toArray 76))
      generalize w21.alloc (.cells (nv .u8 (List.replicate 16 0)).toArray 76) = w22 at hB22 hl22 ⊢
      refine hK.out _ _ (hl22) (fun hHeld => ?_)
      clear hK K
      try simp only [Act.put, List.setIfInBounds_toArray, List.set_cons_zero, List.set_cons_succ]
      refine wpAnyH_ready (rs := [8]) (by kernel_rfl) (by simp) ?_
      refine consL rfl (fun K hK => ?_) AllReadyH.nil
      · rw [if_pos (by rfl)]
        refine wpo_store_arr 76 (.tmp 11) (.tmp 24) rfl Bn rfl hB22 rfl hzo.out hso.out ?_
        intro wS hOS gS
        refine hK.out _ _ (hHeld.grown gS hbe22 (fun e he => Nat.ne_of_lt (hlo22 e he)) (fun e he x hx h0 => by simp only [List.mem_cons, List.not_mem_nil, or_false] at he; rcases he with rfl | rfl; (have := HLO.out.1 x hx h0; omega); (have := HLO.out.2 x hx h0; omega))) (fun hHeld => ?_)
        clear hK K
        try simp only [Act.put, List.setIfInBounds_toArray, List.set_cons_zero, List.set_cons_succ]
        refine wpAnyH_done (by kernel_rfl) ?_ _
        have sB := hHeld.addB hOS
        go_wp2_with fail
        refine wp_region_class (LW w [(Bn, 76, .u8, tg), (w.heap.size + 1, 62, .u8, nonce), (w.heap.size, 35, .u8, key)] [(a, lb, cb, bs), (ba, ls, cs, bes)]) (by kernel_rfl) (by kernel_rfl) (sB.drew) ?_
        refine qY (v := ?_) rfl ?_ ?_
        rotate_left
        · (intro w' _; go_simp; try with_reducible rfl)
        rotate_left
        try simp only [Act.put, List.setIfInBounds_toArray, List.set_cons_zero, List.set_cons_succ]
        refine qI (v := .string (strB tg)) (yieldsStr (by rfl) (x := .tmp 25) rfl (by rfl) us u8 ut (fun W h => ((h.blk 0 rfl).rd 16 HTL.out htb (by decide)).2)) ?_
        try simp only [Act.put, List.setIfInBounds_toArray, List.set_cons_zero, List.set_cons_succ]
        refine qY (v := ?_) rfl ?_ ?_
        rotate_left
        · (intro w' _; go_simp; try with_reducible rfl)
        rotate_left
        try simp only [Act.put, List.setIfInBounds_toArray, List.set_cons_zero, List.set_cons_succ]
        refine qY (v := ?_) rfl ?_ ?_
        rotate_left
        · (intro w' _; go_simp; try with_reducible rfl)
        rotate_left
        try simp only [Act.put, List.setIfInBounds_toArray, List.set_cons_zero, List.set_cons_succ]
        refine qI (v := .slice (cutA a cb n) (lb - n) (cb - n)) (yieldsFrom (by rfl) rfl (by rfl) (by rfl) us HI.out.1 HI.out.2 hnl rfl) ?_
        try simp only [Act.put, List.setIfInBounds_toArray, List.set_cons_zero, List.set_cons_succ]
        refine qI (v := .string (strB (bs.drop n))) (yieldsStr (by rfl) (x := .tmp 29) rfl (by rfl) us u8 ut (fun W h => ((h.rd 0 rfl).cut n hnl).2)) ?_
        try simp only [Act.put, List.setIfInBounds_toArray, List.set_cons_zero, List.set_cons_succ]
        refine qI (v := .bool true) (yieldsNeS (by rfl) rfl (by rfl) (by rfl) HNEQ.out) ?_
        try simp only [Act.put, List.setIfInBounds_toArray, List.set_cons_zero, List.set_cons_succ]
        refine wpQuiet_nil ?_
        intro wz sZ
        go_wp2_with fail
        go_ret2
        exact ⟨rfl, sZ.bel⟩
  · rw [if_pos (by rfl)]
    go_simp
    have hB21 := Blk.new wv 76 .u8 (List.replicate 16 0) _ rfl
    have hl21 := hHeld.alloc (.cells (nv .u8 (List.replicate 16 0)).toArray 76)
    have hlo21 := hHeld.lt
    have hbe21 := hHeld.bel.size
    generalize wv.heap.size = Bn at hB21 hlo21 hbe21 ⊢
    change K _ (wv.alloc (.cells (nv .u8 (List.replicate 16 0)).toArray 76))
    generalize wv.alloc (.cells (nv .u8 (List.replicate 16 0)).toArray 76) = w21 at hB21 hl21 ⊢
    refine hK.out _ _ (hl21) (fun hHeld => ?_)
    clear hK K
    try simp only [Act.put, List.setIfInBounds_toArray, List.set_cons_zero, List.set_cons_succ]
    refine wpAnyH_ready (rs := [6]) (by kernel_rfl) (by simp) ?_
    refine consL rfl (fun K hK => ?_) AllReadyH.nil
    · rw [if_pos (by rfl)]
      go_simp
      refine (cT.out _ (rdb_take (hHeld.rd 0 rfl) n hnl) (hHeld.rd 1 rfl)).mono ?_
      rintro e w22 ⟨rfl, b22⟩
      have hB22 := hB21.below b22
      refine hK.out _ _ (hHeld.below b22) (fun hHeld => ?_)
      clear hK K
      try simp only [Act.put, List.setIfInBounds_toArray, List.set_cons_zero, List.set_cons_succ]
      refine wpAnyH_ready (rs := [8]) (by kernel_rfl) (by simp) ?_
      refine consL rfl (fun K hK => ?_) AllReadyH.nil
      · rw [if_pos (by rfl)]
        refine wpo_store_arr 76 (.tmp 11) (.tmp 24) rfl Bn rfl hB22 rfl hzo.out hso.out ?_
        intro wS hOS gS
        refine hK.out _ _ (hHeld.grown gS hbe21 (fun e he => Nat.ne_of_lt (hlo21 e he)) (fun e he x hx h0 => by simp only [List.mem_cons, List.not_mem_nil, or_false] at he; rcases he with rfl | rfl; (have := HLO.out.1 x hx h0; omega); (have := HLO.out.2 x hx h0; omega))) (fun hHeld => ?_)
        clear hK K
        try simp only [Act.put, List.setIfInBounds_toArray, List.set_cons_zero, List.set_cons_succ]
        refine wpAnyH_done (by kernel_rfl) ?_ _
        have sB := hHeld.addB hOS
        go_wp2_with fail
        refine wp_region_class (LW w [(Bn, 76, .u8, tg), (w.heap.size + 1, 62, .u8, nonce), (w.heap.size, 35, .u8, key)] [(a, lb, cb, bs), (ba, ls, cs, bes)]) (by kernel_rfl) (by kernel_rfl) (sB.drew) ?_
        refine qY (v := ?_) rfl ?_ ?_
        rotate_left
        · (intro w' _; go_simp; try with_reducible rfl)
        rotate_left
        try simp only [Act.put, List.setIfInBounds_toArray, List.set_cons_zero, List.set_cons_succ]
        refine qI (v := .string (strB tg)) (yieldsStr (by rfl) (x := .tmp 25) rfl (by rfl) us u8 ut (fun W h => ((h.blk 0 rfl).rd 16 HTL.out htb (by decide)).2)) ?_
        try simp only [Act.put, List.setIfInBounds_toArray, List.set_cons_zero, List.set_cons_succ]
        refine qY (v := ?_) rfl ?_ ?_
        rotate_left
        · (intro w' _; go_simp; try with_reducible rfl)
        rotate_left
        try simp only [Act.put, List.setIfInBounds_toArray, List.set_cons_zero, List.set_cons_succ]
        refine qY (v := ?_) rfl ?_ ?_
        rotate_left
        · (intro w' _; go_simp; try with_reducible rfl)
        rotate_left
        try simp only [Act.put, List.setIfInBounds_toArray, List.set_cons_zero, List.set_cons_succ]
        refine qI (v := .slice (cutA a cb n) (lb - n) (cb - n)) (yieldsFrom (by rfl) rfl (by rfl) (by rfl) us HI.out.1 HI.out.2 hnl rfl) ?_
        try simp only [Act.put, List.setIfInBounds_toArray, List.set_cons_zero, List.set_cons_succ]
        refine qI (v := .string (strB (bs.drop n))) (yieldsStr (by rfl) (x := .tmp 29) rfl (by rfl) us u8 ut (fun W h => ((h.rd 0 rfl).cut n hnl).2)) ?_
        try simp only [Act.put, List.setIfInBounds_toArray, List.set_cons_zero, List.set_cons_succ]
        refine qI (v := .bool true) (yieldsNeS (by rfl) rfl (by rfl) (by rfl) HNEQ.out) ?_
        try simp only [Act.put, List.setIfInBounds_toArray, List.set_cons_zero, List.set_cons_succ]
        refine wpQuiet_nil ?_
        intro wz sZ
        go_wp2_with fail
        go_ret2
        exact ⟨rfl, sZ.bel⟩

set_option maxRecDepth 100000 in
set_option maxHeartbeats 2000000 in
theorem rOpen_right (w : World) (key nonce : List Nat) (a : Option Addr) (lb cb : Nat) (bs : List Nat) (ba : Option Addr) (ls cs : Nat) (bes : List Nat) (hk : key.length = 32) (hkb : ∀ x ∈ key, x < 256) (hn : nonce.length = 12) (hnb : ∀ x ∈ nonce, x < 256) (hr : RdB w a lb cb bs) (hrb : RdB w ba ls cs bes) (hs1 : lb ≤ 1000000) (hs2 : ls ≤ 1000000) (h16 : 16 ≤ lb) (ht : tagA key nonce (bs.take (bs.length - 16)) bes = bs.drop (bs.length - 16)) :
    Calls Try.prog 43 #[.agg (bv key).toArray, .agg (bv nonce).toArray, .slice a lb cb, .slice ba ls cs] w fun e w' => ∃ ad cp, e = .returned (.tuple #[.slice ad (lb - 16) cp, .int .i64 0]) ∧ Own w' w.heap.size (.slice ad (lb - 16) cp) (St.xorS key 1 nonce (bs.take (lb - 16))) ∧ Below w.heap.size w w' := by
  have HK3 := Lib.hid (show (Try.prog.info? 35).map (·.size) = some (nv .u8 key).length by rw [nv_length, hk]; kernel_rfl)
  have HN3 := Lib.hid (show (Try.prog.info? 62).map (·.size) = some (nv .u8 nonce).length by rw [nv_length, hn]; kernel_rfl)
  have u32 := Try.underlying35
  have u12 := Try.underlying62
  have us := Try.underlying25
  obtain ⟨n, hn16⟩ : ∃ n, n = lb - 16 := ⟨_, rfl⟩
  have hnl : n ≤ lb := by omega
  have hnc : n ≤ cb := by have := hr.2.2.1; omega
  have hcm : cb ≤ 9223372036854775807 := hr.2.2.2.1
  have hsub : (lb : Int) - 16 = (n : Int) := by omega
  have hd0 : decide ((lb : Int) < 16) = false := decide_eq_false (by omega)
  have hbl : bs.length = lb := hr.2.1
  have hdl : (bs.drop n).length = 16 := by rw [List.length_drop]; omega
  have hdb : ∀ x ∈ bs.drop n, x < 256 := fun x hx => hr.2.2.2.2.1 x (List.mem_of_mem_drop hx)
  have cT := Lib.hid (fun (W : World) (hr1 : RdB W a n cb (bs.take n)) (hr2 : RdB W ba ls cs bes) => rTag_any W key nonce a n cb (bs.take n) ba ls cs bes hk hkb hn hnb hr1 hr2 (by omega) (by omega))
  have htl := tagA_length key nonce (bs.take n) bes
  have htb := tagA_lt key nonce (bs.take n) bes
  rw [hbl, ← hn16] at ht
  have hneq : ((strB (tagA key nonce (bs.take n) bes)).toList != (strB (bs.drop n)).toList) = false := by
    show (!((strB (tagA key nonce (bs.take n) bes)).toList == (strB (bs.drop n)).toList)) = false
    rw [strB_beq htb hdb, decide_eq_true ht]; rfl
  have HNEQ := Lib.hid hneq
  obtain ⟨i0, hi0, hi1⟩ := info8o
  have HI := Lib.hid (And.intro hi0 hi1)
  have u16 := Try.underlying76
  have u8 := Try.underlying5
  have ut := Try.underlying9
  generalize tagA key nonce (bs.take n) bes = tg at cT htl htb HNEQ
  have hzo := Lib.hid (show (Try.prog.info? 76).map (·.size) = some tg.length by rw [htl]; kernel_rfl)
  have hso := Lib.hid (show (List.replicate 16 0).length = tg.length by rw [htl]; rfl)
  have HTL := Lib.hid htl
  rw [← hn16]
  have hxl : (St.xorS key 1 nonce (bs.take n)).length = n := by rw [St.xorS_length, List.length_take]; omega
  have HXL := Lib.hid hxl
  have hf : St.fits 1 n := by unfold St.fits; omega
  have HF := Lib.hid hf
  clear hxl hf
  clear ht htl hneq hdl hbl hn16 hi0 hi1
  have HK := Lib.hid (show (Try.prog.info? 35).map (·.size) = some key.length by rw [hk]; kernel_rfl)
  have HN := Lib.hid (show (Try.prog.info? 62).map (·.size) = some nonce.length by rw [hn]; kernel_rfl)
  have HKL := Lib.hid hk
  have HNL := Lib.hid hn
  clear hk hn
  go_enter Try.func43, Try.ntmps43
  have s0 : LW w [(w.heap.size + 1, 62, .u8, nonce), (w.heap.size, 35, .u8, key)] [(a, lb, cb, bs), (ba, ls, cs, bes)] ((w.alloc (.cells (nv .u8 key).toArray 35)).alloc (.cells (nv .u8 nonce).toArray 62)) := by
    have := ((((LW.nil (xrefl w)).addR hrb).addR hr).new 35 .u8 key).new 62 .u8 nonce
    rw [World.size_alloc] at this
    exact this
  have HLO := Lib.hid (And.intro (rdb_low hr) (rdb_low hrb))
  clear hr hrb
  go_wp2_with fail
  refine wp_region_held_drew (S := LW w [(w.heap.size + 1, 62, .u8, nonce), (w.heap.size, 35, .u8, key)] [(a, lb, cb, bs), (ba, ls, cs, bes)]) (by kernel_rfl) (s0.drew) (fun hHeld => ?_)
  generalize World.drew _ = wv at hHeld ⊢
  refine takeL (i := 0) (v := .agg (nv .u8 key).toArray) rfl rfl (by kernel_rfl) (by kernel_rfl) (by kernel_rfl) (fun _ _ _ h => h) (yieldsIf_load_mid (by rfl) 35 (.tmp 4) rfl w.heap.size 0 (by rfl) (nv .u8 key) _ (fun _ h => blk_range (h.blk 1 rfl)) u32 rfl HK3.out) (by assumption) ?_
  try simp only [Act.put, List.setIfInBounds_toArray, List.set_cons_zero, List.set_cons_succ]
  refine takeL (i := 1) (v := .agg (nv .u8 nonce).toArray) rfl rfl (by kernel_rfl) (by kernel_rfl) (by kernel_rfl) (fun _ _ _ h => h) (yieldsIf_load_mid (by rfl) 62 (.tmp 5) rfl (w.heap.size + 1) 0 (by rfl) (nv .u8 nonce) _ (fun _ h => blk_range (h.blk 0 rfl)) u12 rfl HN3.out) (by assumption) ?_
  try simp only [Act.put, List.setIfInBounds_toArray, List.set_cons_zero, List.set_cons_succ]
  refine takeL (i := 2) (v := ?_) rfl rfl (by kernel_rfl) (by kernel_rfl) (by kernel_rfl) (fun _ _ _ h => h) (Or.inl ⟨by rfl, ?_⟩) (by assumption) ?_
  rotate_left
  · (intro w' hSw; go_simp; try with_reducible rfl)
  try simp only [Act.put, List.setIfInBounds_toArray, List.set_cons_zero, List.set_cons_succ]
  refine takeL (i := 3) (v := ?_) rfl rfl (by kernel_rfl) (by kernel_rfl) (by kernel_rfl) (fun _ _ _ h => h) (Or.inl ⟨by rfl, ?_⟩) (by assumption) ?_
  rotate_left
  · (intro w' hSw; go_simp; try with_reducible rfl)
  try simp only [Act.put, List.setIfInBounds_toArray, List.set_cons_zero, List.set_cons_succ]
  refine takeL (i := 4) (v := ?_) rfl rfl (by kernel_rfl) (by kernel_rfl) (by kernel_rfl) (fun _ _ _ h => h) (Or.inl ⟨by rfl, ?_⟩) (by assumption) ?_
  rotate_left
  · (intro w' hSw; go_simp; try with_reducible rfl)
  try simp only [Act.put, List.setIfInBounds_toArray, List.set_cons_zero, List.set_cons_succ]
  refine takeL (i := 5) (v := ?_) rfl rfl (by kernel_rfl) (by kernel_rfl) (by kernel_rfl) (fun _ _ _ h => h) (Or.inl ⟨by rfl, ?_⟩) (by assumption) ?_
  rotate_left
  · (intro w' hSw; go_simp; try with_reducible rfl)
  try simp only [Act.put, List.setIfInBounds_toArray, List.set_cons_zero, List.set_cons_succ]
  refine wpAnyH_ready (rs := [6, 7]) (by kernel_rfl) (by simp) ?_
  refine consL rfl (fun K hK => ?_) (consL rfl (fun K hK => ?_) AllReadyH.nil)
  · rw [if_pos (by rfl)]
    go_simp
    refine (cT.out _ (rdb_take (hHeld.rd 0 rfl) n hnl) (hHeld.rd 1 rfl)).mono ?_
    rintro e w21 ⟨rfl, b21⟩
    refine hK.out _ _ (hHeld.below b21) (fun hHeld => ?_)
    clear hK K
    try simp only [Act.put, List.setIfInBounds_toArray, List.set_cons_zero, List.set_cons_succ]
    refine wpAnyH_ready (rs := [7]) (by kernel_rfl) (by simp) ?_
    refine consL rfl (fun K hK => ?_) AllReadyH.nil
    · rw [if_pos (by rfl)]
      go_simp
      have hB22 := Blk.new w21 76 .u8 (List.replicate 16 0) _ rfl
      have hl22 := hHeld.alloc (.cells (nv .u8 (List.replicate 16 0)).toArray 76)
      have hlo22 := hHeld.lt
      have hbe22 := hHeld.bel.size
      generalize w21.heap.size = Bn at hB22 hlo22 hbe22 ⊢
      change K _ (w21.alloc (.cells (nv .u8 (List.replicate 16 0)).toArray 76))
      generalize w21.alloc (.cells (nv .u8 (List.replicate 16 0)).toArray 76) = w22 at hB22 hl22 ⊢
      refine hK.out _ _ (hl22) (fun hHeld => ?_)
      clear hK K
      try simp only [Act.put, List.setIfInBounds_toArray, List.set_cons_zero, List.set_cons_succ]
      refine wpAnyH_ready (rs := [8]) (by kernel_rfl) (by simp) ?_
      refine consL rfl (fun K hK => ?_) AllReadyH.nil
      · rw [if_pos (by rfl)]
        refine wpo_store_arr 76 (.tmp 11) (.tmp 24) rfl Bn rfl hB22 rfl hzo.out hso.out ?_
        intro wS hOS gS
        refine hK.out _ _ (hHeld.grown gS hbe22 (fun e he => Nat.ne_of_lt (hlo22 e he)) (fun e he x hx h0 => by simp only [List.mem_cons, List.not_mem_nil, or_false] at he; rcases he with rfl | rfl; (have := HLO.out.1 x hx h0; omega); (have := HLO.out.2 x hx h0; omega))) (fun hHeld => ?_)
        clear hK K
        try simp only [Act.put, List.setIfInBounds_toArray, List.set_cons_zero, List.set_cons_succ]
        refine wpAnyH_done (by kernel_rfl) ?_ _
        have sB := hHeld.addB hOS
        go_wp2_with fail
        refine wp_region_class (LW w [(Bn, 76, .u8, tg), (w.heap.size + 1, 62, .u8, nonce), (w.heap.size, 35, .u8, key)] [(a, lb, cb, bs), (ba, ls, cs, bes)]) (by kernel_rfl) (by kernel_rfl) (sB.drew) ?_
        refine qY (v := ?_) rfl ?_ ?_
        rotate_left
        · (intro w' _; go_simp; try with_reducible rfl)
        rotate_left
        try simp only [Act.put, List.setIfInBounds_toArray, List.set_cons_zero, List.set_cons_succ]
        refine qI (v := .string (strB tg)) (yieldsStr (by rfl) (x := .tmp 25) rfl (by rfl) us u8 ut (fun W h => ((h.blk 0 rfl).rd 16 HTL.out htb (by decide)).2)) ?_
        try simp only [Act.put, List.setIfInBounds_toArray, List.set_cons_zero, List.set_cons_succ]
        refine qY (v := ?_) rfl ?_ ?_
        rotate_left
        · (intro w' _; go_simp; try with_reducible rfl)
        rotate_left
        try simp only [Act.put, List.setIfInBounds_toArray, List.set_cons_zero, List.set_cons_succ]
        refine qY (v := ?_) rfl ?_ ?_
        rotate_left
        · (intro w' _; go_simp; try with_reducible rfl)
        rotate_left
        try simp only [Act.put, List.setIfInBounds_toArray, List.set_cons_zero, List.set_cons_succ]
        refine qI (v := .slice (cutA a cb n) (lb - n) (cb - n)) (yieldsFrom (by rfl) rfl (by rfl) (by rfl) us HI.out.1 HI.out.2 hnl rfl) ?_
        try simp only [Act.put, List.setIfInBounds_toArray, List.set_cons_zero, List.set_cons_succ]
        refine qI (v := .string (strB (bs.drop n))) (yieldsStr (by rfl) (x := .tmp 29) rfl (by rfl) us u8 ut (fun W h => ((h.rd 0 rfl).cut n hnl).2)) ?_
        try simp only [Act.put, List.setIfInBounds_toArray, List.set_cons_zero, List.set_cons_succ]
        refine qI (v := .bool false) (yieldsNeS (by rfl) rfl (by rfl) (by rfl) HNEQ.out) ?_
        try simp only [Act.put, List.setIfInBounds_toArray, List.set_cons_zero, List.set_cons_succ]
        refine wpQuiet_nil ?_
        intro wz sZ
        go_wp2_with fail
        refine wp_region_held_drew (S := LW w [(Bn, 76, .u8, tg), (w.heap.size + 1, 62, .u8, nonce), (w.heap.size, 35, .u8, key)] [(a, lb, cb, bs), (ba, ls, cs, bes)]) (by kernel_rfl) (sZ.drew) (fun hHeld => ?_)
        generalize World.drew _ = wv7 at hHeld ⊢
        refine takeL (i := 0) (v := .agg (nv .u8 key).toArray) rfl rfl (by kernel_rfl) (by kernel_rfl) (by kernel_rfl) (fun _ _ _ h => h) (yieldsIf_load_mid (by rfl) 35 (.tmp 4) rfl w.heap.size 0 (by rfl) (nv .u8 key) _ (fun _ h => blk_range (h.blk 2 rfl)) u32 rfl HK3.out) (by assumption) ?_
        try simp only [Act.put, List.setIfInBounds_toArray, List.set_cons_zero, List.set_cons_succ]
        refine takeL (i := 1) (v := .agg (nv .u8 nonce).toArray) rfl rfl (by kernel_rfl) (by kernel_rfl) (by kernel_rfl) (fun _ _ _ h => h) (yieldsIf_load_mid (by rfl) 62 (.tmp 5) rfl (w.heap.size + 1) 0 (by rfl) (nv .u8 nonce) _ (fun _ h => blk_range (h.blk 1 rfl)) u12 rfl HN3.out) (by assumption) ?_
        try simp only [Act.put, List.setIfInBounds_toArray, List.set_cons_zero, List.set_cons_succ]
        refine takeL (i := 2) (v := ?_) rfl rfl (by kernel_rfl) (by kernel_rfl) (by kernel_rfl) (fun _ _ _ h => h) (Or.inl ⟨by rfl, ?_⟩) (by assumption) ?_
        rotate_left
        · (intro w' hSw; go_simp; try with_reducible rfl)
        try simp only [Act.put, List.setIfInBounds_toArray, List.set_cons_zero, List.set_cons_succ]
        refine takeL (i := 3) (v := ?_) rfl rfl (by kernel_rfl) (by kernel_rfl) (by kernel_rfl) (fun _ _ _ h => h) (Or.inl ⟨by rfl, ?_⟩) (by assumption) ?_
        rotate_left
        · (intro w' hSw; go_simp; try with_reducible rfl)
        try simp only [Act.put, List.setIfInBounds_toArray, List.set_cons_zero, List.set_cons_succ]
        refine takeL (i := 4) (v := ?_) rfl rfl (by kernel_rfl) (by kernel_rfl) (by kernel_rfl) (fun _ _ _ h => h) (Or.inl ⟨by rfl, ?_⟩) (by assumption) ?_
        rotate_left
        · (intro w' hSw; go_simp; try with_reducible rfl)
        try simp only [Act.put, List.setIfInBounds_toArray, List.set_cons_zero, List.set_cons_succ]
        refine wpAnyH_ready (rs := [5]) (by kernel_rfl) (by simp) ?_
        refine consL rfl (fun K hK => ?_) AllReadyH.nil
        · rw [if_pos (by rfl)]
          go_simp
          refine (St.rXor_any _ key nonce 1 a n cb (bs.take n) HKL.out hkb HNL.out hnb (by decide) (rdb_take (hHeld.rd 0 rfl) n hnl) HF.out).mono ?_
          intro e w60 h
          obtain ⟨ad6, cp6, rfl, p6, b60⟩ := St.XorOK.at (n := n) h HXL.out
          have p6m := p6.mono hHeld.bel.size
          refine hK.out _ _ (hHeld.below b60) (fun hHeld => ?_)
          clear hK K
          try simp only [Act.put, List.setIfInBounds_toArray, List.set_cons_zero, List.set_cons_succ]
          refine takeL (i := 6) (v := ?_) rfl rfl (by kernel_rfl) (by kernel_rfl) (by kernel_rfl) (fun _ _ _ h => h) (Or.inl ⟨by rfl, ?_⟩) (by assumption) ?_
          rotate_left
          · (intro w' hSw; go_simp; try with_reducible rfl)
          try simp only [Act.put, List.setIfInBounds_toArray, List.set_cons_zero, List.set_cons_succ]
          refine takeL (i := 7) (v := ?_) rfl rfl (by kernel_rfl) (by kernel_rfl) (by kernel_rfl) (fun _ _ _ h => h) (Or.inl ⟨by rfl, ?_⟩) (by assumption) ?_
          rotate_left
          · (intro w' hSw; go_simp; try with_reducible rfl)
          try simp only [Act.put, List.setIfInBounds_toArray, List.set_cons_zero, List.set_cons_succ]
          refine takeL (i := 8) (v := ?_) rfl rfl (by kernel_rfl) (by kernel_rfl) (by kernel_rfl) (fun _ _ _ h => h) (Or.inl ⟨by rfl, ?_⟩) (by assumption) ?_
          rotate_left
          · (intro w' hSw; go_simp; try with_reducible rfl)
          try simp only [Act.put, List.setIfInBounds_toArray, List.set_cons_zero, List.set_cons_succ]
          refine takeL (i := 9) (v := ?_) rfl rfl (by kernel_rfl) (by kernel_rfl) (by kernel_rfl) (fun _ _ _ h => h) (Or.inl ⟨by rfl, ?_⟩) (by assumption) ?_
          rotate_left
          · (intro w' hSw; go_simp; try with_reducible rfl)
          try simp only [Act.put, List.setIfInBounds_toArray, List.set_cons_zero, List.set_cons_succ]
          refine wpAnyH_done (by kernel_rfl) ?_ _
          go_wp2_with fail
          go_ret2
          exact ⟨ad6, cp6, rfl, p6m, hHeld.bel⟩
  · rw [if_pos (by rfl)]
    go_simp
    have hB21 := Blk.new wv 76 .u8 (List.replicate 16 0) _ rfl
    have hl21 := hHeld.alloc (.cells (nv .u8 (List.replicate 16 0)).toArray 76)
    have hlo21 := hHeld.lt
    have hbe21 := hHeld.bel.size
    generalize wv.heap.size = Bn at hB21 hlo21 hbe21 ⊢
    change K _ (wv.alloc (.cells (nv .u8 (List.replicate 16 0)).toArray 76))
    generalize wv.alloc (.cells (nv .u8 (List.replicate 16 0)).toArray 76) = w21 at hB21 hl21 ⊢
    refine hK.out _ _ (hl21) (fun hHeld => ?_)
    clear hK K
    try simp only [Act.put, List.setIfInBounds_toArray, List.set_cons_zero, List.set_cons_succ]
    refine wpAnyH_ready (rs := [6]) (by kernel_rfl) (by simp) ?_
    refine consL rfl (fun K hK => ?_) AllReadyH.nil
    · rw [if_pos (by rfl)]
      go_simp
      refine (cT.out _ (rdb_take (hHeld.rd 0 rfl) n hnl) (hHeld.rd 1 rfl)).mono ?_
      rintro e w22 ⟨rfl, b22⟩
      have hB22 := hB21.below b22
      refine hK.out _ _ (hHeld.below b22) (fun hHeld => ?_)
      clear hK K
      try simp only [Act.put, List.setIfInBounds_toArray, List.set_cons_zero, List.set_cons_succ]
      refine wpAnyH_ready (rs := [8]) (by kernel_rfl) (by simp) ?_
      refine consL rfl (fun K hK => ?_) AllReadyH.nil
      · rw [if_pos (by rfl)]
        refine wpo_store_arr 76 (.tmp 11) (.tmp 24) rfl Bn rfl hB22 rfl hzo.out hso.out ?_
        intro wS hOS gS
        refine hK.out _ _ (hHeld.grown gS hbe21 (fun e he => Nat.ne_of_lt (hlo21 e he)) (fun e he x hx h0 => by simp only [List.mem_cons, List.not_mem_nil, or_false] at he; rcases he with rfl | rfl; (have := HLO.out.1 x hx h0; omega); (have := HLO.out.2 x hx h0; omega))) (fun hHeld => ?_)
        clear hK K
        try simp only [Act.put, List.setIfInBounds_toArray, List.set_cons_zero, List.set_cons_succ]
        refine wpAnyH_done (by kernel_rfl) ?_ _
        have sB := hHeld.addB hOS
        go_wp2_with fail
        refine wp_region_class (LW w [(Bn, 76, .u8, tg), (w.heap.size + 1, 62, .u8, nonce), (w.heap.size, 35, .u8, key)] [(a, lb, cb, bs), (ba, ls, cs, bes)]) (by kernel_rfl) (by kernel_rfl) (sB.drew) ?_
        refine qY (v := ?_) rfl ?_ ?_
        rotate_left
        · (intro w' _; go_simp; try with_reducible rfl)
        rotate_left
        try simp only [Act.put, List.setIfInBounds_toArray, List.set_cons_zero, List.set_cons_succ]
        refine qI (v := .string (strB tg)) (yieldsStr (by rfl) (x := .tmp 25) rfl (by rfl) us u8 ut (fun W h => ((h.blk 0 rfl).rd 16 HTL.out htb (by decide)).2)) ?_
        try simp only [Act.put, List.setIfInBounds_toArray, List.set_cons_zero, List.set_cons_succ]
        refine qY (v := ?_) rfl ?_ ?_
        rotate_left
        · (intro w' _; go_simp; try with_reducible rfl)
        rotate_left
        try simp only [Act.put, List.setIfInBounds_toArray, List.set_cons_zero, List.set_cons_succ]
        refine qY (v := ?_) rfl ?_ ?_
        rotate_left
        · (intro w' _; go_simp; try with_reducible rfl)
        rotate_left
        try simp only [Act.put, List.setIfInBounds_toArray, List.set_cons_zero, List.set_cons_succ]
        refine qI (v := .slice (cutA a cb n) (lb - n) (cb - n)) (yieldsFrom (by rfl) rfl (by rfl) (by rfl) us HI.out.1 HI.out.2 hnl rfl) ?_
        try simp only [Act.put, List.setIfInBounds_toArray, List.set_cons_zero, List.set_cons_succ]
        refine qI (v := .string (strB (bs.drop n))) (yieldsStr (by rfl) (x := .tmp 29) rfl (by rfl) us u8 ut (fun W h => ((h.rd 0 rfl).cut n hnl).2)) ?_
        try simp only [Act.put, List.setIfInBounds_toArray, List.set_cons_zero, List.set_cons_succ]
        refine qI (v := .bool false) (yieldsNeS (by rfl) rfl (by rfl) (by rfl) HNEQ.out) ?_
        try simp only [Act.put, List.setIfInBounds_toArray, List.set_cons_zero, List.set_cons_succ]
        refine wpQuiet_nil ?_
        intro wz sZ
        go_wp2_with fail
        refine wp_region_held_drew (S := LW w [(Bn, 76, .u8, tg), (w.heap.size + 1, 62, .u8, nonce), (w.heap.size, 35, .u8, key)] [(a, lb, cb, bs), (ba, ls, cs, bes)]) (by kernel_rfl) (sZ.drew) (fun hHeld => ?_)
        generalize World.drew _ = wv7 at hHeld ⊢
        refine takeL (i := 0) (v := .agg (nv .u8 key).toArray) rfl rfl (by kernel_rfl) (by kernel_rfl) (by kernel_rfl) (fun _ _ _ h => h) (yieldsIf_load_mid (by rfl) 35 (.tmp 4) rfl w.heap.size 0 (by rfl) (nv .u8 key) _ (fun _ h => blk_range (h.blk 2 rfl)) u32 rfl HK3.out) (by assumption) ?_
        try simp only [Act.put, List.setIfInBounds_toArray, List.set_cons_zero, List.set_cons_succ]
        refine takeL (i := 1) (v := .agg (nv .u8 nonce).toArray) rfl rfl (by kernel_rfl) (by kernel_rfl) (by kernel_rfl) (fun _ _ _ h => h) (yieldsIf_load_mid (by rfl) 62 (.tmp 5) rfl (w.heap.size + 1) 0 (by rfl) (nv .u8 nonce) _ (fun _ h => blk_range (h.blk 1 rfl)) u12 rfl HN3.out) (by assumption) ?_
        try simp only [Act.put, List.setIfInBounds_toArray, List.set_cons_zero, List.set_cons_succ]
        refine takeL (i := 2) (v := ?_) rfl rfl (by kernel_rfl) (by kernel_rfl) (by kernel_rfl) (fun _ _ _ h => h) (Or.inl ⟨by rfl, ?_⟩) (by assumption) ?_
        rotate_left
        · (intro w' hSw; go_simp; try with_reducible rfl)
        try simp only [Act.put, List.setIfInBounds_toArray, List.set_cons_zero, List.set_cons_succ]
        refine takeL (i := 3) (v := ?_) rfl rfl (by kernel_rfl) (by kernel_rfl) (by kernel_rfl) (fun _ _ _ h => h) (Or.inl ⟨by rfl, ?_⟩) (by assumption) ?_
        rotate_left
        · (intro w' hSw; go_simp; try with_reducible rfl)
        try simp only [Act.put, List.setIfInBounds_toArray, List.set_cons_zero, List.set_cons_succ]
        refine takeL (i := 4) (v := ?_) rfl rfl (by kernel_rfl) (by kernel_rfl) (by kernel_rfl) (fun _ _ _ h => h) (Or.inl ⟨by rfl, ?_⟩) (by assumption) ?_
        rotate_left
        · (intro w' hSw; go_simp; try with_reducible rfl)
        try simp only [Act.put, List.setIfInBounds_toArray, List.set_cons_zero, List.set_cons_succ]
        refine wpAnyH_ready (rs := [5]) (by kernel_rfl) (by simp) ?_
        refine consL rfl (fun K hK => ?_) AllReadyH.nil
        · rw [if_pos (by rfl)]
          go_simp
          refine (St.rXor_any _ key nonce 1 a n cb (bs.take n) HKL.out hkb HNL.out hnb (by decide) (rdb_take (hHeld.rd 0 rfl) n hnl) HF.out).mono ?_
          intro e w60 h
          obtain ⟨ad6, cp6, rfl, p6, b60⟩ := St.XorOK.at (n := n) h HXL.out
          have p6m := p6.mono hHeld.bel.size
          refine hK.out _ _ (hHeld.below b60) (fun hHeld => ?_)
          clear hK K
          try simp only [Act.put, List.setIfInBounds_toArray, List.set_cons_zero, List.set_cons_succ]
          refine takeL (i := 6) (v := ?_) rfl rfl (by kernel_rfl) (by kernel_rfl) (by kernel_rfl) (fun _ _ _ h => h) (Or.inl ⟨by rfl, ?_⟩) (by assumption) ?_
          rotate_left
          · (intro w' hSw; go_simp; try with_reducible rfl)
          try simp only [Act.put, List.setIfInBounds_toArray, List.set_cons_zero, List.set_cons_succ]
          refine takeL (i := 7) (v := ?_) rfl rfl (by kernel_rfl) (by kernel_rfl) (by kernel_rfl) (fun _ _ _ h => h) (Or.inl ⟨by rfl, ?_⟩) (by assumption) ?_
          rotate_left
          · (intro w' hSw; go_simp; try with_reducible rfl)
          try simp only [Act.put, List.setIfInBounds_toArray, List.set_cons_zero, List.set_cons_succ]
          refine takeL (i := 8) (v := ?_) rfl rfl (by kernel_rfl) (by kernel_rfl) (by kernel_rfl) (fun _ _ _ h => h) (Or.inl ⟨by rfl, ?_⟩) (by assumption) ?_
          rotate_left
          · (intro w' hSw; go_simp; try with_reducible rfl)
          try simp only [Act.put, List.setIfInBounds_toArray, List.set_cons_zero, List.set_cons_succ]
          refine takeL (i := 9) (v := ?_) rfl rfl (by kernel_rfl) (by kernel_rfl) (by kernel_rfl) (fun _ _ _ h => h) (Or.inl ⟨by rfl, ?_⟩) (by assumption) ?_
          rotate_left
          · (intro w' hSw; go_simp; try with_reducible rfl)
          try simp only [Act.put, List.setIfInBounds_toArray, List.set_cons_zero, List.set_cons_succ]
          refine wpAnyH_done (by kernel_rfl) ?_ _
          go_wp2_with fail
          go_ret2
          exact ⟨ad6, cp6, rfl, p6m, hHeld.bel⟩
end Go.Proofs.Ytpcppnoomogloaa.Ae

namespace Go.Proofs.Ytpcppnoomogloaa.Ae
set_option linter.unusedSimpArgs false
set_option linter.unusedVariables false
open Go.RowKit

theorem rOpen_any (w : World) (key nonce : List Nat) (a : Option Addr) (lb cb : Nat) (bs : List Nat) (ba : Option Addr) (ls cs : Nat) (bes : List Nat) (hk : key.length = 32) (hkb : ∀ x ∈ key, x < 256) (hn : nonce.length = 12) (hnb : ∀ x ∈ nonce, x < 256) (hr : RdB w a lb cb bs) (hrb : RdB w ba ls cs bes) (hs1 : lb ≤ 1000000) (hs2 : ls ≤ 1000000) :
    Calls Try.prog 43 #[.agg (bv key).toArray, .agg (bv nonce).toArray, .slice a lb cb, .slice ba ls cs] w (OpenOK w (openB key nonce bs bes) (openE key nonce bs bes)) := by
  have hl : bs.length = lb := hr.2.1
  by_cases h16 : lb < 16
  · have h0 : openA key nonce bs bes = none := openA_short (by omega)
    refine (rOpen_short w key nonce a lb cb bs ba ls cs bes hk hkb hn hnb hr hrb hs1 hs2 h16).mono ?_
    rintro e w' ⟨rfl, hb⟩
    refine ⟨none, 0, 0, ?_, ?_, ?_, hb⟩
    · unfold openE; rw [h0]; rfl
    · unfold openB; rw [h0]; rfl
    · unfold openB; rw [h0]; exact Own.nil _ _
  · by_cases ht : tagA key nonce (bs.take (bs.length - 16)) bes = bs.drop (bs.length - 16)
    · have h0 := openA_right (show 16 ≤ bs.length by omega) ht
      refine (rOpen_right w key nonce a lb cb bs ba ls cs bes hk hkb hn hnb hr hrb hs1 hs2 (by omega) ht).mono ?_
      rintro e w' ⟨ad, cp, rfl, hO, hb⟩
      refine ⟨ad, lb - 16, cp, ?_, ?_, ?_, hb⟩
      · unfold openE; rw [h0]; rfl
      · unfold openB; rw [h0, Option.getD_some, St.xorS_length, List.length_take]; omega
      · unfold openB; rw [h0, Option.getD_some, hl]; exact hO
    · have h0 := openA_wrong (show 16 ≤ bs.length by omega) ht
      refine (rOpen_wrong w key nonce a lb cb bs ba ls cs bes hk hkb hn hnb hr hrb hs1 hs2 (by omega) ht).mono ?_
      rintro e w' ⟨rfl, hb⟩
      refine ⟨none, 0, 0, ?_, ?_, ?_, hb⟩
      · unfold openE; rw [h0]; rfl
      · unfold openB; rw [h0]; rfl
      · unfold openB; rw [h0]; exact Own.nil _ _
end Go.Proofs.Ytpcppnoomogloaa.Ae
