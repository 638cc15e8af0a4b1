/- The walk of 'awake' of chapter 7. -/
import Derived.Test.YtoajhlidbogbcaaAeWs
import Derived.Test.YtoajhlidbogbcaaFnd
import Derived.Lib.SlBytesConst
namespace Go.Proofs.Ytoajhlidbogbcaa.Ae
set_option linter.unusedSimpArgs false
set_option linter.unusedVariables false
open Go.RowKit

def kL : List Nat := [1, 2, 3] ++ List.replicate 29 0
def nL : List Nat := [4, 5] ++ List.replicate 10 0
def tL : List Nat := [116, 101, 120, 116]
def bL : List Nat := [98, 101, 115, 105, 100, 101]
theorem kL_lt : ∀ x ∈ kL, x < 256 := by decide
theorem nL_lt : ∀ x ∈ nL, x < 256 := by decide
theorem tL_lt : ∀ x ∈ tL, x < 256 := by decide
theorem bL_lt : ∀ x ∈ bL, x < 256 := by decide
theorem rd_new2 (w : World) (o : Obj) (bs : List Nat) (cs : Array Value) (e : TypeId) (fr : Nat × Nat) (n : Nat) (hn : bs.length = n) (hcs : cs = (bv bs).toArray) (hb : ∀ x ∈ bs, x < 256) (hl : n ≤ 1000000000) :
    RdB ((w.alloc o).alloc (.cells cs e fr)) (some ⟨w.heap.size + 1, 0, none⟩) n n bs := by
  have := rd_new (w.alloc o) bs cs e fr n hn hcs hb hl
  rwa [World.size_alloc] at this
set_option maxRecDepth 100000 in
set_option maxHeartbeats 8000000 in
theorem awake_any (w : World) : Calls Try.prog 8 #[] w fun e w' => e = .returned (.bool true) ∧ Below w.heap.size w w' := by
  have kc := fun (w : World) (C : Array Value) (n c : Nat) => Lib.run_convert_bytes_const (P := Try.prog) w 24 5 C n c Try.underlying24 Try.underlying5
  have kc2 := fun (w : World) (o : Obj) (C : Array Value) (n c : Nat) => (by have h := kc (w.alloc o) C n c; rwa [World.size_alloc] at h : (convert 24 24 (.slice (some ⟨w.heap.size + 1, 0, none⟩) n c)).run Try.prog ((w.alloc o).alloc (.cells C 5)) = .ok (.slice (some ⟨w.heap.size + 1, 0, none⟩) n c) ((w.alloc o).alloc (.cells C 5 (C.size, C.size + 1))))
  have HZ1 := Lib.hid (show (Try.prog.info? 22).map (·.size) = some (nv .u8 kL).toArray.size by kernel_rfl)
  have HZ2 := Lib.hid (show (Try.prog.info? 23).map (·.size) = some (nv .u8 nL).toArray.size by kernel_rfl)
  have HK := Lib.hid (show (Try.prog.info? 22).map (·.size) = some kL.length by kernel_rfl)
  have HN := Lib.hid (show (Try.prog.info? 23).map (·.size) = some nL.length by kernel_rfl)
  have hright : tagA kL nL ((sealA kL nL tL bL).take ((sealA kL nL tL bL).length - 16)) bL = (sealA kL nL tL bL).drop ((sealA kL nL tL bL).length - 16) := by
    rw [sealA_length, Nat.add_sub_cancel, seal_take, seal_drop]
  go_enter Try.func8, Try.ntmps8
  have tok0 : True := trivial
  go_wp2_with (first
    | (have _t := tok0; refine wp_build rfl 22 _ rfl (.agg (nv .u8 kL).toArray) (by kernel_rfl) ?_; clear tok0 _t)
    | (refine wp_store_new rfl 22 (.tmp 1) (.tmp 10) rfl rfl _ (nv .u8 kL).toArray rfl HZ1.out (by kernel_rfl) (nv_one _ _) ?_; have s1 := (LW.nil (xrefl w)).new 22 .u8 kL; refine wpList_at (fun V => LW w [(w.heap.size, 22, .u8, kL)] [] V) s1 ?_; clear s1; intro W1 s1; have tok1 : True := trivial)
    | (have _t := tok1; refine wp_build rfl 23 _ rfl (.agg (nv .u8 nL).toArray) (by kernel_rfl) ?_; clear tok1 _t)
    | (refine wp_store_new rfl 23 (.tmp 2) (.tmp 11) rfl rfl _ (nv .u8 nL).toArray rfl HZ2.out (by kernel_rfl) (nv_one _ _) ?_; have s2 := s1.new 23 .u8 nL; have hN0 := s1.lt _ (List.mem_cons_self); generalize W1.heap.size = N at s2 hN0 ⊢; replace hN0 : w.heap.size < N := hN0; refine wpList_at (fun V => LW w [(N, 23, .u8, nL), (w.heap.size, 22, .u8, kL)] [] V) s2 ?_; clear s2 s1 W1; intro W2 s2)
    | (refine wp_load_arr rfl 22 (.tmp 1) rfl w.heap.size rfl (s2.blk 1 rfl) 32 5 Try.underlying22 HK.out ?_)
    | (refine wp_load_arr rfl 23 (.tmp 2) rfl N rfl (s2.blk 0 rfl) 12 5 Try.underlying23 HN.out ?_)
    | (go_at_call 9; refine (Seal_any _ kL nL _ 4 4 tL _ 6 6 bL rfl kL_lt rfl nL_lt ((rd_new _ _ _ _ _ _ rfl rfl tL_lt (by decide)).below (xnew _ _)) (rd_new2 _ _ _ _ _ _ _ rfl rfl bL_lt (by decide)) (by decide) (by decide)).mono ?_; rintro e w3 ⟨a3, c3, rfl, o3, b3⟩; have s3 := ((s2.alloc _).alloc _).below b3; have hb3 := ((s2.alloc (.cells #[] 5)).bel.size); clear hb3 s2 b3)
    | (refine wp_load_arr rfl 22 (.tmp 1) rfl w.heap.size rfl (s3.blk 1 rfl) 32 5 Try.underlying22 HK.out ?_)
    | (refine wp_load_arr rfl 23 (.tmp 2) rfl N rfl (s3.blk 0 rfl) 12 5 Try.underlying23 HN.out ?_)
    | (go_at_call 13; refine (Open_right _ kL nL a3 20 c3 (sealA kL nL tL bL) _ 6 6 bL rfl kL_lt rfl nL_lt ((o3.rdb (sealA_length _ _ _ _) (by decide)).below (xnew _ _)) (rd_new _ _ _ _ _ _ rfl rfl bL_lt (by decide)) (by decide) (by decide) (by decide) hright).mono ?_; rintro e w4 ⟨a4, c4, rfl, o4, b4⟩; have s4 := ((s3.addR (o3.rdb (sealA_length _ _ _ _) (by decide))).alloc _).below b4; clear s3 o3 b4)
    | (refine wp_load_arr rfl 22 (.tmp 1) rfl w.heap.size rfl (s4.blk 1 rfl) 32 5 Try.underlying22 HK.out ?_)
    | (refine wp_load_arr rfl 23 (.tmp 2) rfl N rfl (s4.blk 0 rfl) 12 5 Try.underlying23 HN.out ?_)
    | (go_at_call 13; refine (Open_short _ kL nL none 0 0 [] none 0 0 [] rfl kL_lt rfl nL_lt (rd_nil _) (rd_nil _) (by decide) (by decide) (by decide)).mono ?_; rintro e w5 ⟨rfl, b5⟩; have s5 := (s4.addR (o4.rdb (by rw [St.xorS_length, List.length_take, sealA_length]; rfl) (by decide))).below b5; clear s4 o4 b5)
    | fail)
  have hx4 : St.xorS kL 1 nL ((sealA kL nL tL bL).take (20 - 16)) = tL := by
    rw [show 20 - 16 = tL.length from rfl, seal_take, St.xorS_twice]
  rw [hx4] at s5
  have hc3 : (4 : Int) ≤ (c3 : Int) := by have := (s5.rd 1 rfl).2.2.1; omega
  have hc3m : c3 ≤ 9223372036854775807 := (s5.rd 1 rfl).2.2.2.1
  have htk : (sealA kL nL tL bL).take 4 = St.xorS kL 1 nL tL := by rw [show 4 = tL.length from rfl, seal_take]
  have cT := Lib.hid (fun (W : World) (R : Nat) (h1 : RdB W a3 4 c3 (St.xorS kL 1 nL tL)) (h2 : RdB W (some ⟨R, 0, none⟩) 6 6 bL) => Tag_any W kL nL a3 4 c3 (St.xorS kL 1 nL tL) _ 6 6 bL rfl kL_lt rfl nL_lt h1 h2 (by decide) (by decide))
  have hdr : (sealA kL nL tL bL).drop 4 = tagA kL nL (St.xorS kL 1 nL tL) bL := by rw [show 4 = tL.length from rfl, seal_drop]
  have htl := tagA_length kL nL (St.xorS kL 1 nL tL) bL
  have htb := tagA_lt kL nL (St.xorS kL 1 nL tL) bL
  generalize tagA kL nL (St.xorS kL 1 nL tL) bL = tg at cT hdr htl htb
  have u32 := Try.underlying22
  have u12 := Try.underlying23
  have hk3 := Lib.hid (show (Try.prog.info? 22).map (·.size) = some (nv .u8 kL).length by kernel_rfl)
  have hn3 := Lib.hid (show (Try.prog.info? 23).map (·.size) = some (nv .u8 nL).length by kernel_rfl)
  have hzo := Lib.hid (show (Try.prog.info? 30).map (·.size) = some tg.length by rw [htl]; kernel_rfl)
  have hso := Lib.hid (show (List.replicate 16 0).length = tg.length by rw [htl]; rfl)
  have HTK := Lib.hid htk
  have HDR := Lib.hid hdr
  have HTL := Lib.hid htl
  have HHL := Lib.hid (show bL.length = 6 from rfl)
  clear htk hdr htl hx4 hright kc kc2
  refine wp_region_held_drew (S := LW w [(N, 23, .u8, nL), (w.heap.size, 22, .u8, kL)] [(a4, 4, c4, tL), (a3, 20, c3, sealA kL nL tL bL)]) (by kernel_rfl) (s5.drew) (fun hHeld => ?_)
  generalize World.drew _ = wv at hHeld ⊢
  refine takeL (i := 0) (v := .agg (nv .u8 kL).toArray) rfl rfl (by kernel_rfl) (by kernel_rfl) (by kernel_rfl) (fun _ _ _ h => h) (yieldsIf_load_mid (by rfl) 22 (.tmp 1) rfl w.heap.size 0 (by rfl) (nv .u8 kL) _ (fun _ h => blk_range (h.blk 1 rfl)) u32 rfl hk3.out) (by assumption) ?_
  try simp only [Act.put, List.setIfInBounds_toArray, List.set_cons_zero, List.set_cons_succ]
  refine takeL (i := 1) (v := .agg (nv .u8 nL).toArray) rfl rfl (by kernel_rfl) (by kernel_rfl) (by kernel_rfl) (fun _ _ _ h => h) (yieldsIf_load_mid (by rfl) 23 (.tmp 2) rfl N 0 (by rfl) (nv .u8 nL) _ (fun _ h => blk_range (h.blk 0 rfl)) u12 rfl hn3.out) (by assumption) ?_
  try simp only [Act.put, List.setIfInBounds_toArray, List.set_cons_zero, List.set_cons_succ]
  refine takeL (i := 2) (v := ?_) rfl rfl (by kernel_rfl) (by kernel_rfl) (by kernel_rfl) (fun _ _ _ h => h) (Or.inl ⟨by rfl, ?_⟩) (by assumption) ?_
  rotate_left
  · (intro w' hSw; go_simp; try with_reducible rfl)
  try simp only [Act.put, List.setIfInBounds_toArray, List.set_cons_zero, List.set_cons_succ]
  refine takeL (i := 3) (v := ?_) rfl rfl (by kernel_rfl) (by kernel_rfl) (by kernel_rfl) (fun _ _ _ h => h) (Or.inl ⟨by rfl, ?_⟩) (by assumption) ?_
  rotate_left
  · (intro w' hSw; go_simp; try with_reducible rfl)
  try simp only [Act.put, List.setIfInBounds_toArray, List.set_cons_zero, List.set_cons_succ]
  refine wpAnyH_ready (rs := [4, 7]) (by kernel_rfl) (by simp) ?_
  refine consL rfl (fun K hK => ?_) (consL rfl (fun K hK => ?_) AllReadyH.nil)
  · rw [if_pos (by rfl)]
    go_simp
    have hc31 : (wv.alloc (.cells #[.int .u8 98, .int .u8 101, .int .u8 115, .int .u8 105, .int .u8 100, .int .u8 101] 5)).heap[wv.heap.size]? = some (.cells (bv bL).toArray 5 (0, 0)) := Blk.new wv 5 .u8 bL _ rfl
    have hl31 := hHeld.alloc (.cells #[.int .u8 98, .int .u8 101, .int .u8 115, .int .u8 105, .int .u8 100, .int .u8 101] 5)
    have hz31 := hHeld.bel.size
    have hlo31 := hHeld.lt
    have hrl31 := fun e he => rdb_low (hHeld.rds e he)
    generalize wv.heap.size = R at hc31 hz31 hlo31 hrl31 ⊢
    generalize wv.alloc (.cells #[.int .u8 98, .int .u8 101, .int .u8 115, .int .u8 105, .int .u8 100, .int .u8 101] 5) = w31 at hc31 hl31 ⊢
    refine hK.out _ _ (hl31) (fun hHeld => ?_)
    clear hK K
    try simp only [Act.put, List.setIfInBounds_toArray, List.set_cons_zero, List.set_cons_succ]
    refine wpAnyH_ready (rs := [5, 7]) (by kernel_rfl) (by simp) ?_
    refine consL rfl (fun K hK => ?_) (consL rfl (fun K hK => ?_) AllReadyH.nil)
    · rw [if_pos (by rfl)]
      refine wpo_conv rfl rfl hc31 ?_
      intro w32 fr32 g32 hc32
      refine hK.out _ _ (hHeld.grown g32 hz31 (fun e he => Nat.ne_of_lt (hlo31 e he)) (fun e he x hx h0 => Nat.ne_of_lt (hrl31 e he x hx h0))) (fun hHeld => ?_)
      clear hK K
      try simp only [Act.put, List.setIfInBounds_toArray, List.set_cons_zero, List.set_cons_succ]
      refine wpAnyH_ready (rs := [6, 7]) (by kernel_rfl) (by simp) ?_
      refine consL rfl (fun K hK => ?_) (consL rfl (fun K hK => ?_) AllReadyH.nil)
      · rw [if_pos (by rfl)]
        go_simp
        refine (cT.out _ R (by rw [← HTK.out]; exact rdb_take (hHeld.rd 1 rfl) 4 (by decide)) (rd_row hc32 rfl rfl bL_lt (by decide))).mono ?_
        rintro e w33 ⟨rfl, b33⟩
        refine hK.out _ _ (hHeld.below b33) (fun hHeld => ?_)
        clear hK K
        try simp only [Act.put, List.setIfInBounds_toArray, List.set_cons_zero, List.set_cons_succ]
        refine wpAnyH_ready (rs := [7]) (by kernel_rfl) (by simp) ?_
        refine consL rfl (fun K hK => ?_) AllReadyH.nil
        · rw [if_pos (by rfl)]
          go_simp
          have hB34 := Blk.new w33 30 .u8 (List.replicate 16 0) _ rfl
          have hl34 := hHeld.alloc (.cells (nv .u8 (List.replicate 16 0)).toArray 30)
          have hBl34 := hHeld.lt
          have hBr34 := fun e he => rdb_low (hHeld.rds e he)
          have hBz34 := hHeld.bel.size
          generalize w33.heap.size = Bn at hB34 hBl34 hBr34 hBz34 ⊢
          change K _ (w33.alloc (.cells (nv .u8 (List.replicate 16 0)).toArray 30))
          generalize w33.alloc (.cells (nv .u8 (List.replicate 16 0)).toArray 30) = w34 at hB34 hl34 ⊢
          refine hK.out _ _ (hl34) (fun hHeld => ?_)
          clear hK K
          try simp only [Act.put, List.setIfInBounds_toArray, List.set_cons_zero, List.set_cons_succ]
          refine wpAnyH_ready (rs := [8]) (by kernel_rfl) (by simp) ?_
          refine consL rfl (fun K hK => ?_) AllReadyH.nil
          · rw [if_pos (by rfl)]
            refine wpo_store_arr 30 (.tmp 9) (.tmp 46) rfl Bn rfl hB34 rfl hzo.out hso.out ?_
            intro wS hOS gS
            refine hK.out _ _ (hHeld.grown gS hBz34 (fun e he => Nat.ne_of_lt (hBl34 e he)) (fun e he x hx h0 => Nat.ne_of_lt (hBr34 e he x hx h0))) (fun hHeld => ?_)
            clear hK K
            try simp only [Act.put, List.setIfInBounds_toArray, List.set_cons_zero, List.set_cons_succ]
            refine wpAnyH_done (by kernel_rfl) ?_ _
            have sB := hHeld.addB hOS
            go_wp2_with fail
            have us := Try.underlying24
            have u8 := Try.underlying5
            have ut := Try.underlying9
            obtain ⟨iu, hiu⟩ := info8o
            have heqt : ((strB tL).toList == ({ data := #[116, 101, 120, 116] } : ByteArray).toList) = true := by rw [strB_list, ByteArray.toList_eq]; decide
            refine wp_region_class (LW w [(Bn, 30, .u8, tg), (N, 23, .u8, nL), (w.heap.size, 22, .u8, kL)] [(a4, 4, c4, tL), (a3, 20, c3, sealA kL nL tL bL)]) (by kernel_rfl) (by kernel_rfl) (sB.drew) ?_
            refine qY (v := ?_) rfl ?_ ?_
            rotate_left
            · (intro w' _; go_simp; try with_reducible rfl)
            rotate_left
            try simp only [Act.put, List.setIfInBounds_toArray, List.set_cons_zero, List.set_cons_succ]
            refine qY (v := ?_) rfl ?_ ?_
            rotate_left
            · (intro w' _; go_simp; try with_reducible rfl)
            rotate_left
            try simp only [Act.put, List.setIfInBounds_toArray, List.set_cons_zero, List.set_cons_succ]
            refine qY (v := ?_) rfl ?_ ?_
            rotate_left
            · (intro w' _; go_simp; try with_reducible rfl)
            rotate_left
            try simp only [Act.put, List.setIfInBounds_toArray, List.set_cons_zero, List.set_cons_succ]
            refine qY (v := ?_) rfl ?_ ?_
            rotate_left
            · (intro w' _; go_simp; try with_reducible rfl)
            rotate_left
            try simp only [Act.put, List.setIfInBounds_toArray, List.set_cons_zero, List.set_cons_succ]
            refine qI (v := .string (strB tL)) (yieldsStr (by rfl) (x := .tmp 50) rfl (by rfl) us u8 ut (fun W h => (h.rd 0 rfl).2)) ?_
            try simp only [Act.put, List.setIfInBounds_toArray, List.set_cons_zero, List.set_cons_succ]
            refine qI (v := .bool true) (yieldsEqS (by rfl) rfl (by rfl) (by rfl) heqt) ?_
            try simp only [Act.put, List.setIfInBounds_toArray, List.set_cons_zero, List.set_cons_succ]
            refine qY (v := ?_) rfl ?_ ?_
            rotate_left
            · (intro w' _; go_simp; try with_reducible rfl)
            rotate_left
            try simp only [Act.put, List.setIfInBounds_toArray, List.set_cons_zero, List.set_cons_succ]
            refine qY (v := ?_) rfl ?_ ?_
            rotate_left
            · (intro w' _; go_simp; try with_reducible rfl)
            rotate_left
            try simp only [Act.put, List.setIfInBounds_toArray, List.set_cons_zero, List.set_cons_succ]
            refine qY (v := ?_) rfl ?_ ?_
            rotate_left
            · (intro w' _; go_simp; try with_reducible rfl)
            rotate_left
            try simp only [Act.put, List.setIfInBounds_toArray, List.set_cons_zero, List.set_cons_succ]
            refine qY (v := ?_) rfl ?_ ?_
            rotate_left
            · (intro w' _; go_simp; try with_reducible rfl)
            rotate_left
            try simp only [Act.put, List.setIfInBounds_toArray, List.set_cons_zero, List.set_cons_succ]
            refine qY (v := ?_) rfl ?_ ?_
            rotate_left
            · (intro w' _; go_simp; try with_reducible rfl)
            rotate_left
            try simp only [Act.put, List.setIfInBounds_toArray, List.set_cons_zero, List.set_cons_succ]
            refine qY (v := ?_) rfl ?_ ?_
            rotate_left
            · (intro w' _; go_simp; try with_reducible rfl)
            rotate_left
            try simp only [Act.put, List.setIfInBounds_toArray, List.set_cons_zero, List.set_cons_succ]
            refine qY (v := ?_) rfl ?_ ?_
            rotate_left
            · (intro w' _; go_simp; try with_reducible rfl)
            rotate_left
            try simp only [Act.put, List.setIfInBounds_toArray, List.set_cons_zero, List.set_cons_succ]
            refine qY (v := ?_) rfl ?_ ?_
            rotate_left
            · (intro w' _; go_simp; try with_reducible rfl)
            rotate_left
            try simp only [Act.put, List.setIfInBounds_toArray, List.set_cons_zero, List.set_cons_succ]
            refine qY (v := ?_) rfl ?_ ?_
            rotate_left
            · (intro w' _; go_simp; try with_reducible rfl)
            rotate_left
            try simp only [Act.put, List.setIfInBounds_toArray, List.set_cons_zero, List.set_cons_succ]
            refine qY (v := ?_) rfl ?_ ?_
            rotate_left
            · (intro w' _; go_simp; try with_reducible rfl)
            rotate_left
            try simp only [Act.put, List.setIfInBounds_toArray, List.set_cons_zero, List.set_cons_succ]
            refine qY (v := ?_) rfl ?_ ?_
            rotate_left
            · (intro w' _; go_simp; try with_reducible rfl)
            rotate_left
            try simp only [Act.put, List.setIfInBounds_toArray, List.set_cons_zero, List.set_cons_succ]
            refine qI (v := .string (strB tg)) (yieldsStr (by rfl) (x := .tmp 63) rfl (by rfl) us u8 ut (fun W h => ((h.blk 0 rfl).rd 16 HTL.out htb (by decide)).2)) ?_
            try simp only [Act.put, List.setIfInBounds_toArray, List.set_cons_zero, List.set_cons_succ]
            refine qY (v := ?_) rfl ?_ ?_
            rotate_left
            · (intro w' _; go_simp; try with_reducible rfl)
            rotate_left
            try simp only [Act.put, List.setIfInBounds_toArray, List.set_cons_zero, List.set_cons_succ]
            refine qI (v := .slice (cutA a3 c3 4) (20 - 4) (c3 - 4)) (yieldsFrom (by rfl) rfl (by rfl) (by rfl) us hiu.1 hiu.2 (show 4 ≤ 20 by decide) rfl) ?_
            try simp only [Act.put, List.setIfInBounds_toArray, List.set_cons_zero, List.set_cons_succ]
            refine qI (v := .string (strB tg)) (yieldsStr (by rfl) (x := .tmp 66) rfl (by rfl) us u8 ut (fun W h => (HDR.out ▸ ((h.rd 1 rfl).cut 4 (by decide))).2)) ?_
            try simp only [Act.put, List.setIfInBounds_toArray, List.set_cons_zero, List.set_cons_succ]
            refine qI (v := .bool true) (yieldsEqS (by rfl) rfl (by rfl) (by rfl) (beq_self_eq_true _)) ?_
            try simp only [Act.put, List.setIfInBounds_toArray, List.set_cons_zero, List.set_cons_succ]
            refine qY (v := ?_) rfl ?_ ?_
            rotate_left
            · (intro w' _; go_simp; try with_reducible rfl)
            rotate_left
            try simp only [Act.put, List.setIfInBounds_toArray, List.set_cons_zero, List.set_cons_succ]
            refine qY (v := ?_) rfl ?_ ?_
            rotate_left
            · (intro w' _; go_simp; try with_reducible rfl)
            rotate_left
            try simp only [Act.put, List.setIfInBounds_toArray, List.set_cons_zero, List.set_cons_succ]
            refine qY (v := ?_) rfl ?_ ?_
            rotate_left
            · (intro w' _; go_simp; try with_reducible rfl)
            rotate_left
            try simp only [Act.put, List.setIfInBounds_toArray, List.set_cons_zero, List.set_cons_succ]
            refine qY (v := ?_) rfl ?_ ?_
            rotate_left
            · (intro w' _; go_simp; try with_reducible rfl)
            rotate_left
            try simp only [Act.put, List.setIfInBounds_toArray, List.set_cons_zero, List.set_cons_succ]
            refine wpQuiet_nil ?_
            intro wz sZ
            go_wp2_with fail
            go_ret
            exact ⟨rfl, sZ.bel⟩
      · rw [if_pos (by rfl)]
        go_simp
        have hB33 := Blk.new w32 30 .u8 (List.replicate 16 0) _ rfl
        have hl33 := hHeld.alloc (.cells (nv .u8 (List.replicate 16 0)).toArray 30)
        have hBl33 := hHeld.lt
        have hBr33 := fun e he => rdb_low (hHeld.rds e he)
        have hBz33 := hHeld.bel.size
        have hRc33 : (w32.alloc (.cells (nv .u8 (List.replicate 16 0)).toArray 30)).heap[R]? = _ := (heap_alloc_old w32 _ (Array.getElem?_eq_some_iff.1 hc32).1).trans hc32
        have hRB33 := (Array.getElem?_eq_some_iff.1 hc32).1
        generalize w32.heap.size = Bn at hB33 hBl33 hBr33 hBz33 hRB33 ⊢
        change K _ (w32.alloc (.cells (nv .u8 (List.replicate 16 0)).toArray 30))
        generalize w32.alloc (.cells (nv .u8 (List.replicate 16 0)).toArray 30) = w33 at hB33 hl33 hRc33 ⊢
        refine hK.out _ _ (hl33) (fun hHeld => ?_)
        clear hK K
        try simp only [Act.put, List.setIfInBounds_toArray, List.set_cons_zero, List.set_cons_succ]
        refine wpAnyH_ready (rs := [6]) (by kernel_rfl) (by simp) ?_
        refine consL rfl (fun K hK => ?_) AllReadyH.nil
        · rw [if_pos (by rfl)]
          go_simp
          refine (cT.out _ R (by rw [← HTK.out]; exact rdb_take (hHeld.rd 1 rfl) 4 (by decide)) (rd_row hRc33 rfl rfl bL_lt (by decide))).mono ?_
          rintro e w34 ⟨rfl, b34⟩
          have hB34 := hB33.below b34
          refine hK.out _ _ (hHeld.below b34) (fun hHeld => ?_)
          clear hK K
          try simp only [Act.put, List.setIfInBounds_toArray, List.set_cons_zero, List.set_cons_succ]
          refine wpAnyH_ready (rs := [8]) (by kernel_rfl) (by simp) ?_
          refine consL rfl (fun K hK => ?_) AllReadyH.nil
          · rw [if_pos (by rfl)]
            refine wpo_store_arr 30 (.tmp 9) (.tmp 46) rfl Bn rfl hB34 rfl hzo.out hso.out ?_
            intro wS hOS gS
            refine hK.out _ _ (hHeld.grown gS hBz33 (fun e he => Nat.ne_of_lt (hBl33 e he)) (fun e he x hx h0 => Nat.ne_of_lt (hBr33 e he x hx h0))) (fun hHeld => ?_)
            clear hK K
            try simp only [Act.put, List.setIfInBounds_toArray, List.set_cons_zero, List.set_cons_succ]
            refine wpAnyH_done (by kernel_rfl) ?_ _
            have sB := hHeld.addB hOS
            go_wp2_with fail
            have us := Try.underlying24
            have u8 := Try.underlying5
            have ut := Try.underlying9
            obtain ⟨iu, hiu⟩ := info8o
            have heqt : ((strB tL).toList == ({ data := #[116, 101, 120, 116] } : ByteArray).toList) = true := by rw [strB_list, ByteArray.toList_eq]; decide
            refine wp_region_class (LW w [(Bn, 30, .u8, tg), (N, 23, .u8, nL), (w.heap.size, 22, .u8, kL)] [(a4, 4, c4, tL), (a3, 20, c3, sealA kL nL tL bL)]) (by kernel_rfl) (by kernel_rfl) (sB.drew) ?_
            refine qY (v := ?_) rfl ?_ ?_
            rotate_left
            · (intro w' _; go_simp; try with_reducible rfl)
            rotate_left
            try simp only [Act.put, List.setIfInBounds_toArray, List.set_cons_zero, List.set_cons_succ]
            refine qY (v := ?_) rfl ?_ ?_
            rotate_left
            · (intro w' _; go_simp; try with_reducible rfl)
            rotate_left
            try simp only [Act.put, List.setIfInBounds_toArray, List.set_cons_zero, List.set_cons_succ]
            refine qY (v := ?_) rfl ?_ ?_
            rotate_left
            · (intro w' _; go_simp; try with_reducible rfl)
            rotate_left
            try simp only [Act.put, List.setIfInBounds_toArray, List.set_cons_zero, List.set_cons_succ]
            refine qY (v := ?_) rfl ?_ ?_
            rotate_left
            · (intro w' _; go_simp; try with_reducible rfl)
            rotate_left
            try simp only [Act.put, List.setIfInBounds_toArray, List.set_cons_zero, List.set_cons_succ]
            refine qI (v := .string (strB tL)) (yieldsStr (by rfl) (x := .tmp 50) rfl (by rfl) us u8 ut (fun W h => (h.rd 0 rfl).2)) ?_
            try simp only [Act.put, List.setIfInBounds_toArray, List.set_cons_zero, List.set_cons_succ]
            refine qI (v := .bool true) (yieldsEqS (by rfl) rfl (by rfl) (by rfl) heqt) ?_
            try simp only [Act.put, List.setIfInBounds_toArray, List.set_cons_zero, List.set_cons_succ]
            refine qY (v := ?_) rfl ?_ ?_
            rotate_left
            · (intro w' _; go_simp; try with_reducible rfl)
            rotate_left
            try simp only [Act.put, List.setIfInBounds_toArray, List.set_cons_zero, List.set_cons_succ]
            refine qY (v := ?_) rfl ?_ ?_
            rotate_left
            · (intro w' _; go_simp; try with_reducible rfl)
            rotate_left
            try simp only [Act.put, List.setIfInBounds_toArray, List.set_cons_zero, List.set_cons_succ]
            refine qY (v := ?_) rfl ?_ ?_
            rotate_left
            · (intro w' _; go_simp; try with_reducible rfl)
            rotate_left
            try simp only [Act.put, List.setIfInBounds_toArray, List.set_cons_zero, List.set_cons_succ]
            refine qY (v := ?_) rfl ?_ ?_
            rotate_left
            · (intro w' _; go_simp; try with_reducible rfl)
            rotate_left
            try simp only [Act.put, List.setIfInBounds_toArray, List.set_cons_zero, List.set_cons_succ]
            refine qY (v := ?_) rfl ?_ ?_
            rotate_left
            · (intro w' _; go_simp; try with_reducible rfl)
            rotate_left
            try simp only [Act.put, List.setIfInBounds_toArray, List.set_cons_zero, List.set_cons_succ]
            refine qY (v := ?_) rfl ?_ ?_
            rotate_left
            · (intro w' _; go_simp; try with_reducible rfl)
            rotate_left
            try simp only [Act.put, List.setIfInBounds_toArray, List.set_cons_zero, List.set_cons_succ]
            refine qY (v := ?_) rfl ?_ ?_
            rotate_left
            · (intro w' _; go_simp; try with_reducible rfl)
            rotate_left
            try simp only [Act.put, List.setIfInBounds_toArray, List.set_cons_zero, List.set_cons_succ]
            refine qY (v := ?_) rfl ?_ ?_
            rotate_left
            · (intro w' _; go_simp; try with_reducible rfl)
            rotate_left
            try simp only [Act.put, List.setIfInBounds_toArray, List.set_cons_zero, List.set_cons_succ]
            refine qY (v := ?_) rfl ?_ ?_
            rotate_left
            · (intro w' _; go_simp; try with_reducible rfl)
            rotate_left
            try simp only [Act.put, List.setIfInBounds_toArray, List.set_cons_zero, List.set_cons_succ]
            refine qY (v := ?_) rfl ?_ ?_
            rotate_left
            · (intro w' _; go_simp; try with_reducible rfl)
            rotate_left
            try simp only [Act.put, List.setIfInBounds_toArray, List.set_cons_zero, List.set_cons_succ]
            refine qY (v := ?_) rfl ?_ ?_
            rotate_left
            · (intro w' _; go_simp; try with_reducible rfl)
            rotate_left
            try simp only [Act.put, List.setIfInBounds_toArray, List.set_cons_zero, List.set_cons_succ]
            refine qI (v := .string (strB tg)) (yieldsStr (by rfl) (x := .tmp 63) rfl (by rfl) us u8 ut (fun W h => ((h.blk 0 rfl).rd 16 HTL.out htb (by decide)).2)) ?_
            try simp only [Act.put, List.setIfInBounds_toArray, List.set_cons_zero, List.set_cons_succ]
            refine qY (v := ?_) rfl ?_ ?_
            rotate_left
            · (intro w' _; go_simp; try with_reducible rfl)
            rotate_left
            try simp only [Act.put, List.setIfInBounds_toArray, List.set_cons_zero, List.set_cons_succ]
            refine qI (v := .slice (cutA a3 c3 4) (20 - 4) (c3 - 4)) (yieldsFrom (by rfl) rfl (by rfl) (by rfl) us hiu.1 hiu.2 (show 4 ≤ 20 by decide) rfl) ?_
            try simp only [Act.put, List.setIfInBounds_toArray, List.set_cons_zero, List.set_cons_succ]
            refine qI (v := .string (strB tg)) (yieldsStr (by rfl) (x := .tmp 66) rfl (by rfl) us u8 ut (fun W h => (HDR.out ▸ ((h.rd 1 rfl).cut 4 (by decide))).2)) ?_
            try simp only [Act.put, List.setIfInBounds_toArray, List.set_cons_zero, List.set_cons_succ]
            refine qI (v := .bool true) (yieldsEqS (by rfl) rfl (by rfl) (by rfl) (beq_self_eq_true _)) ?_
            try simp only [Act.put, List.setIfInBounds_toArray, List.set_cons_zero, List.set_cons_succ]
            refine qY (v := ?_) rfl ?_ ?_
            rotate_left
            · (intro w' _; go_simp; try with_reducible rfl)
            rotate_left
            try simp only [Act.put, List.setIfInBounds_toArray, List.set_cons_zero, List.set_cons_succ]
            refine qY (v := ?_) rfl ?_ ?_
            rotate_left
            · (intro w' _; go_simp; try with_reducible rfl)
            rotate_left
            try simp only [Act.put, List.setIfInBounds_toArray, List.set_cons_zero, List.set_cons_succ]
            refine qY (v := ?_) rfl ?_ ?_
            rotate_left
            · (intro w' _; go_simp; try with_reducible rfl)
            rotate_left
            try simp only [Act.put, List.setIfInBounds_toArray, List.set_cons_zero, List.set_cons_succ]
            refine qY (v := ?_) rfl ?_ ?_
            rotate_left
            · (intro w' _; go_simp; try with_reducible rfl)
            rotate_left
            try simp only [Act.put, List.setIfInBounds_toArray, List.set_cons_zero, List.set_cons_succ]
            refine wpQuiet_nil ?_
            intro wz sZ
            go_wp2_with fail
            go_ret
            exact ⟨rfl, sZ.bel⟩
    · rw [if_pos (by rfl)]
      go_simp
      have hB32 := Blk.new w31 30 .u8 (List.replicate 16 0) _ rfl
      have hl32 := hHeld.alloc (.cells (nv .u8 (List.replicate 16 0)).toArray 30)
      have hBl32 := hHeld.lt
      have hBr32 := fun e he => rdb_low (hHeld.rds e he)
      have hBz32 := hHeld.bel.size
      have hRc32 : (w31.alloc (.cells (nv .u8 (List.replicate 16 0)).toArray 30)).heap[R]? = _ := (heap_alloc_old w31 _ (Array.getElem?_eq_some_iff.1 hc31).1).trans hc31
      have hRB32 := (Array.getElem?_eq_some_iff.1 hc31).1
      generalize w31.heap.size = Bn at hB32 hBl32 hBr32 hBz32 hRB32 ⊢
      change K _ (w31.alloc (.cells (nv .u8 (List.replicate 16 0)).toArray 30))
      generalize w31.alloc (.cells (nv .u8 (List.replicate 16 0)).toArray 30) = w32 at hB32 hl32 hRc32 ⊢
      refine hK.out _ _ (hl32) (fun hHeld => ?_)
      clear hK K
      try simp only [Act.put, List.setIfInBounds_toArray, List.set_cons_zero, List.set_cons_succ]
      refine wpAnyH_ready (rs := [5]) (by kernel_rfl) (by simp) ?_
      refine consL rfl (fun K hK => ?_) AllReadyH.nil
      · rw [if_pos (by rfl)]
        refine wpo_conv rfl rfl hRc32 ?_
        intro w33 fr33 g33 hc33
        have hB33 := hB32.grown g33 (ne_some (Nat.ne_of_gt hRB32))
        refine hK.out _ _ (hHeld.grown g33 hz31 (fun e he => Nat.ne_of_lt (hlo31 e he)) (fun e he x hx h0 => Nat.ne_of_lt (hrl31 e he x hx h0))) (fun hHeld => ?_)
        clear hK K
        try simp only [Act.put, List.setIfInBounds_toArray, List.set_cons_zero, List.set_cons_succ]
        refine wpAnyH_ready (rs := [6]) (by kernel_rfl) (by simp) ?_
        refine consL rfl (fun K hK => ?_) AllReadyH.nil
        · rw [if_pos (by rfl)]
          go_simp
          refine (cT.out _ R (by rw [← HTK.out]; exact rdb_take (hHeld.rd 1 rfl) 4 (by decide)) (rd_row hc33 rfl rfl bL_lt (by decide))).mono ?_
          rintro e w34 ⟨rfl, b34⟩
          have hB34 := hB33.below b34
          refine hK.out _ _ (hHeld.below b34) (fun hHeld => ?_)
          clear hK K
          try simp only [Act.put, List.setIfInBounds_toArray, List.set_cons_zero, List.set_cons_succ]
          refine wpAnyH_ready (rs := [8]) (by kernel_rfl) (by simp) ?_
          refine consL rfl (fun K hK => ?_) AllReadyH.nil
          · rw [if_pos (by rfl)]
            refine wpo_store_arr 30 (.tmp 9) (.tmp 46) rfl Bn rfl hB34 rfl hzo.out hso.out ?_
            intro wS hOS gS
            refine hK.out _ _ (hHeld.grown gS hBz32 (fun e he => Nat.ne_of_lt (hBl32 e he)) (fun e he x hx h0 => Nat.ne_of_lt (hBr32 e he x hx h0))) (fun hHeld => ?_)
            clear hK K
            try simp only [Act.put, List.setIfInBounds_toArray, List.set_cons_zero, List.set_cons_succ]
            refine wpAnyH_done (by kernel_rfl) ?_ _
            have sB := hHeld.addB hOS
            go_wp2_with fail
            have us := Try.underlying24
            have u8 := Try.underlying5
            have ut := Try.underlying9
            obtain ⟨iu, hiu⟩ := info8o
            have heqt : ((strB tL).toList == ({ data := #[116, 101, 120, 116] } : ByteArray).toList) = true := by rw [strB_list, ByteArray.toList_eq]; decide
            refine wp_region_class (LW w [(Bn, 30, .u8, tg), (N, 23, .u8, nL), (w.heap.size, 22, .u8, kL)] [(a4, 4, c4, tL), (a3, 20, c3, sealA kL nL tL bL)]) (by kernel_rfl) (by kernel_rfl) (sB.drew) ?_
            refine qY (v := ?_) rfl ?_ ?_
            rotate_left
            · (intro w' _; go_simp; try with_reducible rfl)
            rotate_left
            try simp only [Act.put, List.setIfInBounds_toArray, List.set_cons_zero, List.set_cons_succ]
            refine qY (v := ?_) rfl ?_ ?_
            rotate_left
            · (intro w' _; go_simp; try with_reducible rfl)
            rotate_left
            try simp only [Act.put, List.setIfInBounds_toArray, List.set_cons_zero, List.set_cons_succ]
            refine qY (v := ?_) rfl ?_ ?_
            rotate_left
            · (intro w' _; go_simp; try with_reducible rfl)
            rotate_left
            try simp only [Act.put, List.setIfInBounds_toArray, List.set_cons_zero, List.set_cons_succ]
            refine qY (v := ?_) rfl ?_ ?_
            rotate_left
            · (intro w' _; go_simp; try with_reducible rfl)
            rotate_left
            try simp only [Act.put, List.setIfInBounds_toArray, List.set_cons_zero, List.set_cons_succ]
            refine qI (v := .string (strB tL)) (yieldsStr (by rfl) (x := .tmp 50) rfl (by rfl) us u8 ut (fun W h => (h.rd 0 rfl).2)) ?_
            try simp only [Act.put, List.setIfInBounds_toArray, List.set_cons_zero, List.set_cons_succ]
            refine qI (v := .bool true) (yieldsEqS (by rfl) rfl (by rfl) (by rfl) heqt) ?_
            try simp only [Act.put, List.setIfInBounds_toArray, List.set_cons_zero, List.set_cons_succ]
            refine qY (v := ?_) rfl ?_ ?_
            rotate_left
            · (intro w' _; go_simp; try with_reducible rfl)
            rotate_left
            try simp only [Act.put, List.setIfInBounds_toArray, List.set_cons_zero, List.set_cons_succ]
            refine qY (v := ?_) rfl ?_ ?_
            rotate_left
            · (intro w' _; go_simp; try with_reducible rfl)
            rotate_left
            try simp only [Act.put, List.setIfInBounds_toArray, List.set_cons_zero, List.set_cons_succ]
            refine qY (v := ?_) rfl ?_ ?_
            rotate_left
            · (intro w' _; go_simp; try with_reducible rfl)
            rotate_left
            try simp only [Act.put, List.setIfInBounds_toArray, List.set_cons_zero, List.set_cons_succ]
            refine qY (v := ?_) rfl ?_ ?_
            rotate_left
            · (intro w' _; go_simp; try with_reducible rfl)
            rotate_left
            try simp only [Act.put, List.setIfInBounds_toArray, List.set_cons_zero, List.set_cons_succ]
            refine qY (v := ?_) rfl ?_ ?_
            rotate_left
            · (intro w' _; go_simp; try with_reducible rfl)
            rotate_left
            try simp only [Act.put, List.setIfInBounds_toArray, List.set_cons_zero, List.set_cons_succ]
            refine qY (v := ?_) rfl ?_ ?_
            rotate_left
            · (intro w' _; go_simp; try with_reducible rfl)
            rotate_left
            try simp only [Act.put, List.setIfInBounds_toArray, List.set_cons_zero, List.set_cons_succ]
            refine qY (v := ?_) rfl ?_ ?_
            rotate_left
            · (intro w' _; go_simp; try with_reducible rfl)
            rotate_left
            try simp only [Act.put, List.setIfInBounds_toArray, List.set_cons_zero, List.set_cons_succ]
            refine qY (v := ?_) rfl ?_ ?_
            rotate_left
            · (intro w' _; go_simp; try with_reducible rfl)
            rotate_left
            try simp only [Act.put, List.setIfInBounds_toArray, List.set_cons_zero, List.set_cons_succ]
            refine qY (v := ?_) rfl ?_ ?_
            rotate_left
            · (intro w' _; go_simp; try with_reducible rfl)
            rotate_left
            try simp only [Act.put, List.setIfInBounds_toArray, List.set_cons_zero, List.set_cons_succ]
            refine qY (v := ?_) rfl ?_ ?_
            rotate_left
            · (intro w' _; go_simp; try with_reducible rfl)
            rotate_left
            try simp only [Act.put, List.setIfInBounds_toArray, List.set_cons_zero, List.set_cons_succ]
            refine qY (v := ?_) rfl ?_ ?_
            rotate_left
            · (intro w' _; go_simp; try with_reducible rfl)
            rotate_left
            try simp only [Act.put, List.setIfInBounds_toArray, List.set_cons_zero, List.set_cons_succ]
            refine qI (v := .string (strB tg)) (yieldsStr (by rfl) (x := .tmp 63) rfl (by rfl) us u8 ut (fun W h => ((h.blk 0 rfl).rd 16 HTL.out htb (by decide)).2)) ?_
            try simp only [Act.put, List.setIfInBounds_toArray, List.set_cons_zero, List.set_cons_succ]
            refine qY (v := ?_) rfl ?_ ?_
            rotate_left
            · (intro w' _; go_simp; try with_reducible rfl)
            rotate_left
            try simp only [Act.put, List.setIfInBounds_toArray, List.set_cons_zero, List.set_cons_succ]
            refine qI (v := .slice (cutA a3 c3 4) (20 - 4) (c3 - 4)) (yieldsFrom (by rfl) rfl (by rfl) (by rfl) us hiu.1 hiu.2 (show 4 ≤ 20 by decide) rfl) ?_
            try simp only [Act.put, List.setIfInBounds_toArray, List.set_cons_zero, List.set_cons_succ]
            refine qI (v := .string (strB tg)) (yieldsStr (by rfl) (x := .tmp 66) rfl (by rfl) us u8 ut (fun W h => (HDR.out ▸ ((h.rd 1 rfl).cut 4 (by decide))).2)) ?_
            try simp only [Act.put, List.setIfInBounds_toArray, List.set_cons_zero, List.set_cons_succ]
            refine qI (v := .bool true) (yieldsEqS (by rfl) rfl (by rfl) (by rfl) (beq_self_eq_true _)) ?_
            try simp only [Act.put, List.setIfInBounds_toArray, List.set_cons_zero, List.set_cons_succ]
            refine qY (v := ?_) rfl ?_ ?_
            rotate_left
            · (intro w' _; go_simp; try with_reducible rfl)
            rotate_left
            try simp only [Act.put, List.setIfInBounds_toArray, List.set_cons_zero, List.set_cons_succ]
            refine qY (v := ?_) rfl ?_ ?_
            rotate_left
            · (intro w' _; go_simp; try with_reducible rfl)
            rotate_left
            try simp only [Act.put, List.setIfInBounds_toArray, List.set_cons_zero, List.set_cons_succ]
            refine qY (v := ?_) rfl ?_ ?_
            rotate_left
            · (intro w' _; go_simp; try with_reducible rfl)
            rotate_left
            try simp only [Act.put, List.setIfInBounds_toArray, List.set_cons_zero, List.set_cons_succ]
            refine qY (v := ?_) rfl ?_ ?_
            rotate_left
            · (intro w' _; go_simp; try with_reducible rfl)
            rotate_left
            try simp only [Act.put, List.setIfInBounds_toArray, List.set_cons_zero, List.set_cons_succ]
            refine wpQuiet_nil ?_
            intro wz sZ
            go_wp2_with fail
            go_ret
            exact ⟨rfl, sZ.bel⟩
  · rw [if_pos (by rfl)]
    go_simp
    have hB31 := Blk.new wv 30 .u8 (List.replicate 16 0) _ rfl
    have hl31 := hHeld.alloc (.cells (nv .u8 (List.replicate 16 0)).toArray 30)
    have hBl31 := hHeld.lt
    have hBr31 := fun e he => rdb_low (hHeld.rds e he)
    have hBz31 := hHeld.bel.size
    generalize wv.heap.size = Bn at hB31 hBl31 hBr31 hBz31 ⊢
    change K _ (wv.alloc (.cells (nv .u8 (List.replicate 16 0)).toArray 30))
    generalize wv.alloc (.cells (nv .u8 (List.replicate 16 0)).toArray 30) = w31 at hB31 hl31 ⊢
    refine hK.out _ _ (hl31) (fun hHeld => ?_)
    clear hK K
    try simp only [Act.put, List.setIfInBounds_toArray, List.set_cons_zero, List.set_cons_succ]
    refine wpAnyH_ready (rs := [4]) (by kernel_rfl) (by simp) ?_
    refine consL rfl (fun K hK => ?_) AllReadyH.nil
    · rw [if_pos (by rfl)]
      go_simp
      have hc32 : (w31.alloc (.cells #[.int .u8 98, .int .u8 101, .int .u8 115, .int .u8 105, .int .u8 100, .int .u8 101] 5)).heap[w31.heap.size]? = some (.cells (bv bL).toArray 5 (0, 0)) := Blk.new w31 5 .u8 bL _ rfl
      have hl32 := hHeld.alloc (.cells #[.int .u8 98, .int .u8 101, .int .u8 115, .int .u8 105, .int .u8 100, .int .u8 101] 5)
      have hz32 := hHeld.bel.size
      have hlo32 := hHeld.lt
      have hrl32 := fun e he => rdb_low (hHeld.rds e he)
      have hB32 := hB31.alloc (.cells #[.int .u8 98, .int .u8 101, .int .u8 115, .int .u8 105, .int .u8 100, .int .u8 101] 5)
      have hBR32 := hB31.lt
      generalize w31.heap.size = R at hc32 hz32 hlo32 hrl32 hBR32 ⊢
      generalize w31.alloc (.cells #[.int .u8 98, .int .u8 101, .int .u8 115, .int .u8 105, .int .u8 100, .int .u8 101] 5) = w32 at hc32 hl32 hB32 ⊢
      refine hK.out _ _ (hl32) (fun hHeld => ?_)
      clear hK K
      try simp only [Act.put, List.setIfInBounds_toArray, List.set_cons_zero, List.set_cons_succ]
      refine wpAnyH_ready (rs := [5]) (by kernel_rfl) (by simp) ?_
      refine consL rfl (fun K hK => ?_) AllReadyH.nil
      · rw [if_pos (by rfl)]
        refine wpo_conv rfl rfl hc32 ?_
        intro w33 fr33 g33 hc33
        have hB33 := hB32.grown g33 (ne_some (Nat.ne_of_lt hBR32))
        refine hK.out _ _ (hHeld.grown g33 hz32 (fun e he => Nat.ne_of_lt (hlo32 e he)) (fun e he x hx h0 => Nat.ne_of_lt (hrl32 e he x hx h0))) (fun hHeld => ?_)
        clear hK K
        try simp only [Act.put, List.setIfInBounds_toArray, List.set_cons_zero, List.set_cons_succ]
        refine wpAnyH_ready (rs := [6]) (by kernel_rfl) (by simp) ?_
        refine consL rfl (fun K hK => ?_) AllReadyH.nil
        · rw [if_pos (by rfl)]
          go_simp
          refine (cT.out _ R (by rw [← HTK.out]; exact rdb_take (hHeld.rd 1 rfl) 4 (by decide)) (rd_row hc33 rfl rfl bL_lt (by decide))).mono ?_
          rintro e w34 ⟨rfl, b34⟩
          have hB34 := hB33.below b34
          refine hK.out _ _ (hHeld.below b34) (fun hHeld => ?_)
          clear hK K
          try simp only [Act.put, List.setIfInBounds_toArray, List.set_cons_zero, List.set_cons_succ]
          refine wpAnyH_ready (rs := [8]) (by kernel_rfl) (by simp) ?_
          refine consL rfl (fun K hK => ?_) AllReadyH.nil
          · rw [if_pos (by rfl)]
            refine wpo_store_arr 30 (.tmp 9) (.tmp 46) rfl Bn rfl hB34 rfl hzo.out hso.out ?_
            intro wS hOS gS
            refine hK.out _ _ (hHeld.grown gS hBz31 (fun e he => Nat.ne_of_lt (hBl31 e he)) (fun e he x hx h0 => Nat.ne_of_lt (hBr31 e he x hx h0))) (fun hHeld => ?_)
            clear hK K
            try simp only [Act.put, List.setIfInBounds_toArray, List.set_cons_zero, List.set_cons_succ]
            refine wpAnyH_done (by kernel_rfl) ?_ _
            have sB := hHeld.addB hOS
            go_wp2_with fail
            have us := Try.underlying24
            have u8 := Try.underlying5
            have ut := Try.underlying9
            obtain ⟨iu, hiu⟩ := info8o
            have heqt : ((strB tL).toList == ({ data := #[116, 101, 120, 116] } : ByteArray).toList) = true := by rw [strB_list, ByteArray.toList_eq]; decide
            refine wp_region_class (LW w [(Bn, 30, .u8, tg), (N, 23, .u8, nL), (w.heap.size, 22, .u8, kL)] [(a4, 4, c4, tL), (a3, 20, c3, sealA kL nL tL bL)]) (by kernel_rfl) (by kernel_rfl) (sB.drew) ?_
            refine qY (v := ?_) rfl ?_ ?_
            rotate_left
            · (intro w' _; go_simp; try with_reducible rfl)
            rotate_left
            try simp only [Act.put, List.setIfInBounds_toArray, List.set_cons_zero, List.set_cons_succ]
            refine qY (v := ?_) rfl ?_ ?_
            rotate_left
            · (intro w' _; go_simp; try with_reducible rfl)
            rotate_left
            try simp only [Act.put, List.setIfInBounds_toArray, List.set_cons_zero, List.set_cons_succ]
            refine qY (v := ?_) rfl ?_ ?_
            rotate_left
            · (intro w' _; go_simp; try with_reducible rfl)
            rotate_left
            try simp only [Act.put, List.setIfInBounds_toArray, List.set_cons_zero, List.set_cons_succ]
            refine qY (v := ?_) rfl ?_ ?_
            rotate_left
            · (intro w' _; go_simp; try with_reducible rfl)
            rotate_left
            try simp only [Act.put, List.setIfInBounds_toArray, List.set_cons_zero, List.set_cons_succ]
            refine qI (v := .string (strB tL)) (yieldsStr (by rfl) (x := .tmp 50) rfl (by rfl) us u8 ut (fun W h => (h.rd 0 rfl).2)) ?_
            try simp only [Act.put, List.setIfInBounds_toArray, List.set_cons_zero, List.set_cons_succ]
            refine qI (v := .bool true) (yieldsEqS (by rfl) rfl (by rfl) (by rfl) heqt) ?_
            try simp only [Act.put, List.setIfInBounds_toArray, List.set_cons_zero, List.set_cons_succ]
            refine qY (v := ?_) rfl ?_ ?_
            rotate_left
            · (intro w' _; go_simp; try with_reducible rfl)
            rotate_left
            try simp only [Act.put, List.setIfInBounds_toArray, List.set_cons_zero, List.set_cons_succ]
            refine qY (v := ?_) rfl ?_ ?_
            rotate_left
            · (intro w' _; go_simp; try with_reducible rfl)
            rotate_left
            try simp only [Act.put, List.setIfInBounds_toArray, List.set_cons_zero, List.set_cons_succ]
            refine qY (v := ?_) rfl ?_ ?_
            rotate_left
            · (intro w' _; go_simp; try with_reducible rfl)
            rotate_left
            try simp only [Act.put, List.setIfInBounds_toArray, List.set_cons_zero, List.set_cons_succ]
            refine qY (v := ?_) rfl ?_ ?_
            rotate_left
            · (intro w' _; go_simp; try with_reducible rfl)
            rotate_left
            try simp only [Act.put, List.setIfInBounds_toArray, List.set_cons_zero, List.set_cons_succ]
            refine qY (v := ?_) rfl ?_ ?_
            rotate_left
            · (intro w' _; go_simp; try with_reducible rfl)
            rotate_left
            try simp only [Act.put, List.setIfInBounds_toArray, List.set_cons_zero, List.set_cons_succ]
            refine qY (v := ?_) rfl ?_ ?_
            rotate_left
            · (intro w' _; go_simp; try with_reducible rfl)
            rotate_left
            try simp only [Act.put, List.setIfInBounds_toArray, List.set_cons_zero, List.set_cons_succ]
            refine qY (v := ?_) rfl ?_ ?_
            rotate_left
            · (intro w' _; go_simp; try with_reducible rfl)
            rotate_left
            try simp only [Act.put, List.setIfInBounds_toArray, List.set_cons_zero, List.set_cons_succ]
            refine qY (v := ?_) rfl ?_ ?_
            rotate_left
            · (intro w' _; go_simp; try with_reducible rfl)
            rotate_left
            try simp only [Act.put, List.setIfInBounds_toArray, List.set_cons_zero, List.set_cons_succ]
            refine qY (v := ?_) rfl ?_ ?_
            rotate_left
            · (intro w' _; go_simp; try with_reducible rfl)
            rotate_left
            try simp only [Act.put, List.setIfInBounds_toArray, List.set_cons_zero, List.set_cons_succ]
            refine qY (v := ?_) rfl ?_ ?_
            rotate_left
            · (intro w' _; go_simp; try with_reducible rfl)
            rotate_left
            try simp only [Act.put, List.setIfInBounds_toArray, List.set_cons_zero, List.set_cons_succ]
            refine qY (v := ?_) rfl ?_ ?_
            rotate_left
            · (intro w' _; go_simp; try with_reducible rfl)
            rotate_left
            try simp only [Act.put, List.setIfInBounds_toArray, List.set_cons_zero, List.set_cons_succ]
            refine qI (v := .string (strB tg)) (yieldsStr (by rfl) (x := .tmp 63) rfl (by rfl) us u8 ut (fun W h => ((h.blk 0 rfl).rd 16 HTL.out htb (by decide)).2)) ?_
            try simp only [Act.put, List.setIfInBounds_toArray, List.set_cons_zero, List.set_cons_succ]
            refine qY (v := ?_) rfl ?_ ?_
            rotate_left
            · (intro w' _; go_simp; try with_reducible rfl)
            rotate_left
            try simp only [Act.put, List.setIfInBounds_toArray, List.set_cons_zero, List.set_cons_succ]
            refine qI (v := .slice (cutA a3 c3 4) (20 - 4) (c3 - 4)) (yieldsFrom (by rfl) rfl (by rfl) (by rfl) us hiu.1 hiu.2 (show 4 ≤ 20 by decide) rfl) ?_
            try simp only [Act.put, List.setIfInBounds_toArray, List.set_cons_zero, List.set_cons_succ]
            refine qI (v := .string (strB tg)) (yieldsStr (by rfl) (x := .tmp 66) rfl (by rfl) us u8 ut (fun W h => (HDR.out ▸ ((h.rd 1 rfl).cut 4 (by decide))).2)) ?_
            try simp only [Act.put, List.setIfInBounds_toArray, List.set_cons_zero, List.set_cons_succ]
            refine qI (v := .bool true) (yieldsEqS (by rfl) rfl (by rfl) (by rfl) (beq_self_eq_true _)) ?_
            try simp only [Act.put, List.setIfInBounds_toArray, List.set_cons_zero, List.set_cons_succ]
            refine qY (v := ?_) rfl ?_ ?_
            rotate_left
            · (intro w' _; go_simp; try with_reducible rfl)
            rotate_left
            try simp only [Act.put, List.setIfInBounds_toArray, List.set_cons_zero, List.set_cons_succ]
            refine qY (v := ?_) rfl ?_ ?_
            rotate_left
            · (intro w' _; go_simp; try with_reducible rfl)
            rotate_left
            try simp only [Act.put, List.setIfInBounds_toArray, List.set_cons_zero, List.set_cons_succ]
            refine qY (v := ?_) rfl ?_ ?_
            rotate_left
            · (intro w' _; go_simp; try with_reducible rfl)
            rotate_left
            try simp only [Act.put, List.setIfInBounds_toArray, List.set_cons_zero, List.set_cons_succ]
            refine qY (v := ?_) rfl ?_ ?_
            rotate_left
            · (intro w' _; go_simp; try with_reducible rfl)
            rotate_left
            try simp only [Act.put, List.setIfInBounds_toArray, List.set_cons_zero, List.set_cons_succ]
            refine wpQuiet_nil ?_
            intro wz sZ
            go_wp2_with fail
            go_ret
            exact ⟨rfl, sZ.bel⟩
end Go.Proofs.Ytoajhlidbogbcaa.Ae
