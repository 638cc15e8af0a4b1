/- Walks: the document's changing of bytes. -/
import Derived.Test.YtpcppnoomogloaaStWs
import Derived.Test.YtpcppnoomogloaaChRs
set_option maxRecDepth 4000
namespace Go.Proofs.Ytpcppnoomogloaa.St
set_option linter.unusedSimpArgs false
set_option linter.unusedVariables false
open Go.RowKit Go.Shelf Go.Proofs.Ytpcppnoomogloaa.Ch

set_option maxRecDepth 100000 in
set_option maxHeartbeats 2000000 in
theorem rXor_loop (w : World) (key nonce : List Nat) (ct : Nat) (a : Option Addr) (len cap : Nat) (bs : List Nat) (hk : key.length = 32) (hkb : ∀ x ∈ key, x < 256) (hn : nonce.length = 12) (hnb : ∀ x ∈ nonce, x < 256) (hct : ct < 4294967296) (hr : RdB w a len cap bs) (h0 : 0 < len) (hf : fits ct len) :
    Calls Try.prog 57 #[.agg (nv .u8 key).toArray, .int .u32 (ct : Int), .agg (nv .u8 nonce).toArray, .slice a len cap] w (XorOK w (xorS key ct nonce bs)) := by
  have hle : len ≤ 1000000000 := hr.1
  have hbl : bs.length = len := hr.2.1
  have hbb := hr.2.2.2.2.1
  have hpa : ∀ x, a = some x → 0 < len → x.block < w.heap.size := fun x hx h0 => by subst hx; exact hr.lt h0
  unfold fits at hf
  have HK := Lib.hid (show (Try.prog.info? 35).map (·.size) = some key.length by rw [hk]; kernel_rfl)
  have HN := Lib.hid (show (Try.prog.info? 62).map (·.size) = some nonce.length by rw [hn]; kernel_rfl)
  have cB := Lib.hid (fun W c h => RefBlock_any W key nonce c hk hkb hn hnb h)
  have HBL := Lib.hid hbl
  clear hk hn hbl
  obtain ⟨b0, off, ha, _, _⟩ : ∃ b off, a = some ⟨b, off, none⟩ ∧ b < w.heap.size ∧ ∀ i, i < len → w.cell? ⟨b, off + i, none⟩ = some (.int .u8 ((bs.getD i 0 : Nat) : Int)) := by
    have h6 := hr.2.2.2.2.2.2
    rcases h6 with h6 | h6
    · omega
    · exact h6
  subst ha
  have d1 : decide (0 < ((len : Int) + 63) / 64) = true := decide_eq_true (by omega)
  have d2 : decide (4294967296 ≤ (ct : Int) + ((len : Int) + 63) / 64 - 1) = false := decide_eq_false (by omega)
  go_enter Try.func57, Try.ntmps57
  have s0 : LW w [(w.heap.size + 1, 62, .u8, nonce), (w.heap.size, 35, .u8, key)] [(some ⟨b0, off, none⟩, len, cap, bs)] ((w.alloc (.cells (nv .u8 key).toArray 35)).alloc (.cells (nv .u8 nonce).toArray 62)) := by
    have := (((LW.nil (xrefl w)).addR hr).new 35 .u8 key).new 62 .u8 nonce
    rw [World.size_alloc] at this
    exact this
  have s1 := s0.new 83 .u8 (List.replicate 64 0)
  rw [World.size_alloc, World.size_alloc] at s1
  go_wp2_with (first
    | (refine wp_build rfl 83 _ rfl (.agg (nv .u8 (List.replicate 64 0)).toArray) (by kernel_rfl) ?_)
    | (refine wp_store_arr rfl 83 (.tmp 12) (.tmp 29) rfl (w.heap.size + 1 + 1) rfl (s1.blk 0 rfl) rfl (by kernel_rfl) rfl ?_; intro wn hN gN)
    | fail)
  have xR : LW w [(w.heap.size + 1, 62, .u8, nonce), (w.heap.size, 35, .u8, key)] [(some ⟨b0, off, none⟩, len, cap, bs)] wn := LW.grown (s0.alloc _) gN (by omega) (by simp; omega) (by
    intro e he x hx h0
    simp only [List.mem_cons, List.not_mem_nil, or_false] at he
    subst he
    have := hpa x hx h0
    omega)
  replace s1 := xR.addB hN
  clear s0 hr xR hN gN
  obtain ⟨Cb, hCb⟩ : ∃ Cb, Cb = w.heap.size + 1 + 1 := ⟨_, rfl⟩
  rw [← hCb] at s1 ⊢
  have hCl : w.heap.size + 1 < Cb := by omega
  clear hCb
  go_loopw [11, 13] (fun v r wr => ∃ (i : Nat) (ad : Option Addr) (cp : Nat) (cur : List Nat), i ≤ len ∧ r = .int .i64 i ∧ v = .slice ad i cp ∧ Own wr w.heap.size (.slice ad i cp) (xorN key ct nonce bs i) ∧ LW w [(Cb, 83, .u8, cur), (w.heap.size + 1, 62, .u8, nonce), (w.heap.size, 35, .u8, key)] [(some ⟨b0, off, none⟩, len, cap, bs)] wr ∧ cur.length = 64 ∧ (∀ x ∈ cur, x < 256) ∧ (i % 64 = 0 ∨ cur = block key (ct + i / 64) nonce)) (fun _ r _ => len - (intOf r).toNat)
  case atStart => exact ⟨0, none, 0, List.replicate 64 0, Nat.zero_le _, rfl, rfl, Own.nil _ _, s1, rfl, fun x hx => by rw [List.eq_of_mem_replicate hx]; decide, .inl rfl⟩
  case round =>
    clear s1
    obtain ⟨i, ad, cp, cur, hi, rfl, rfl, oO, hX, hcl, hcb, hcu⟩ := hrel
    have hneL : ∀ e ∈ [(w.heap.size + 1, 62, IntKind.u8, nonce), (w.heap.size, 35, IntKind.u8, key)], e.1 ≠ Cb := by
      intro e he
      simp only [List.mem_cons, List.not_mem_nil, or_false] at he
      rcases he with rfl | rfl
      · show w.heap.size + 1 ≠ Cb; omega
      · show w.heap.size ≠ Cb; omega
    have hneR : ∀ e ∈ [((some ⟨b0, off, none⟩ : Option Addr), len, cap, bs)], ∀ x, e.1 = some x → 0 < e.2.1 → x.block < w.heap.size := by
      intro e he x hx h0
      simp only [List.mem_cons, List.not_mem_nil, or_false] at he
      subst he
      exact hpa x hx h0
    by_cases hlt : i < len
    · have hid : decide ((i : Int) < (len : Int)) = true := decide_eq_true (by omega)
      by_cases hm : i % 64 = 0
      · have ht : ((i : Int) % 64 == 0) = true := beq_iff_eq.2 (by omega)
        have hcw : IntKind.u32.wrap ((i : Int) / 64) = ((i / 64 : Nat) : Int) := by rw [IntKind.wrap_u32]; omega
        have hcc : ct + i / 64 < 4294967296 := by omega
        have hcs : IntKind.u32.wrap ((ct : Int) + ((i / 64 : Nat) : Int)) = ((ct + i / 64 : Nat) : Int) := by rw [IntKind.wrap_u32]; omega
        have hbl := block_length key (ct + i / 64) nonce
        have hbb2 := block_lt key (ct + i / 64) nonce
        have hS0 : (block key (ct + i / 64) nonce).getD (i % 64) 0 = strm key ct nonce i := rfl
        obtain ⟨c, hc⟩ : ∃ c, c = ct + i / 64 := ⟨_, rfl⟩
        have hBK := cB.out
        rw [← hc] at hcs hcc hbl hbb2 hS0
        obtain ⟨q, hq⟩ : ∃ q, q = i / 64 := ⟨_, rfl⟩
        rw [← hq] at hcw hcs
        have HC := Lib.hid hc
        have hB := Lib.hid (fun W => cB.out W c hcc)
        obtain ⟨blk, hblk⟩ : ∃ blk, blk = block key c nonce := ⟨_, rfl⟩
        rw [← hblk] at hB hbl hbb2 hS0
        have HZB := Lib.hid (show (Try.prog.info? 83).map (·.size) = some blk.length by rw [hbl]; kernel_rfl)
        have HSB := Lib.hid (show cur.length = blk.length by rw [hbl, hcl])
        have HBK := Lib.hid hblk
        have HS0 := Lib.hid hS0
        have HM := Lib.hid hm
        have k1 := hX.blk 2 rfl
        have k2 := hX.blk 1 rfl
        clear hBK hc hq hblk hS0 hm hcu hcl
        go_wp2_with (first
          | (refine wp_load_arr rfl 35 (.tmp 4) rfl w.heap.size rfl k1 32 5 Try.underlying35 HK.out ?_)
          | (refine wp_load_arr rfl 62 (.tmp 6) rfl (w.heap.size + 1) rfl k2 12 5 Try.underlying62 HN.out ?_)
          | (go_at_call 64; refine (hB.out _).mono ?_; rintro e w1 ⟨rfl, hb1⟩; have x1 := hX.below hb1; have o1 := oO.below hb1; have kc := x1.blk 0 rfl; clear hX oO k1 k2)
          | (refine wp_store_arr rfl 83 (.tmp 12) (.tmp 46) rfl Cb rfl kc rfl HZB.out HSB.out ?_; intro wn hN gN)
          | fail)
        have xR : LW w [(w.heap.size + 1, 62, .u8, nonce), (w.heap.size, 35, .u8, key)] [(some ⟨b0, off, none⟩, len, cap, bs)] wn := LW.grown ⟨fun e he => x1.has e (List.mem_cons_of_mem _ he), x1.rds, x1.bel⟩ gN (by omega) hneL (fun e he x hx h0 => by have := hneR e he x hx h0; omega)
        have hX : LW w [(Cb, 83, .u8, blk), (w.heap.size + 1, 62, .u8, nonce), (w.heap.size, 35, .u8, key)] [(some ⟨b0, off, none⟩, len, cap, bs)] wn := xR.addB hN
        have oO : Own wn w.heap.size (.slice ad i cp) (xorN key ct nonce bs i) := o1.kept gN (fun k hk => by cases hk; exact (own_ne o1 kc (cells_ne (by decide))).symm)
        clear xR x1 o1 kc gN hN hb1 w1 hneL
        have hcur : (i + 1) % 64 = 0 ∨ blk = block key (ct + (i + 1) / 64) nonce := by
          have h1 := HM.out
          have h2 := HC.out
          refine .inr ?_
          rw [HBK.out, h2]
          congr 1
          omega
        have hx0 : ∀ W, RdB W (some ⟨b0, off, none⟩) len cap bs → W.cell? ⟨b0, off + i, none⟩ = some (.int .u8 ((bs.getD i 0 : Nat) : Int)) := fun W h => rdb_at (h) i hlt
        have hxl := get_lt hbb i
        have hyl := strm_lt key ct nonce i
        have hy0 : ∀ W, Blk W Cb 83 .u8 blk → W.cell? ⟨Cb, i % 64, none⟩ = some (.int .u8 ((strm key ct nonce i : Nat) : Int)) := fun W h => by rw [← HS0.out]; exact h.cell (i % 64) (by omega)
        obtain ⟨z, hz⟩ : ∃ z, z = xb key ct nonce bs i := ⟨_, rfl⟩
        have hxr := xor_u8 _ _ hxl hyl
        rw [show bs.getD i 0 ^^^ strm key ct nonce i = z from hz.symm] at hxr
        have hzl : z < 256 := by rw [hz]; exact xb_lt _ _ _ _ hbb _
        have HX0 := Lib.hid hx0
        have HY0 := Lib.hid hy0
        clear hx0 hy0
        generalize bs.getD i 0 = x at HX0 hxl hxr
        generalize strm key ct nonce i = y at HY0 hyl hxr
        have HZ := Lib.hid hz
        have HCUR := Lib.hid hcur
        clear hz hcur
        obtain ⟨j, hj⟩ : ∃ j, j = i % 64 := ⟨_, rfl⟩
        rw [← hj] at HY0
        have htm : (i : Int).tmod 64 = (j : Int) := by rw [Int.tmod_eq_emod_of_nonneg (by omega)]; omega
        have hj64 : (j : Int) < 64 := by omega
        clear hj
        refine wp_region_held_drew (S := fun W' => Blk W' Cb 83 .u8 blk ∧ RdB W' (some ⟨b0, off, none⟩) len cap bs) (by kernel_rfl) ⟨(hX.blk 0 rfl).drewN 1, (hX.rd 0 rfl).drewN 1⟩ (fun hHeld => ?_)
        have hXv := hX.drewN 1
        have oOv : Own (wn.drewN 1) w.heap.size (.slice ad i cp) (xorN key ct nonce bs i) := oO
        rw [show wn.drew = wn.drewN 1 from rfl] at hHeld ⊢
        generalize wn.drewN 1 = wv at hHeld hXv oOv ⊢
        clear hX oO
        refine takeL (i := 0) (v := ?_) rfl rfl (by kernel_rfl) (by kernel_rfl) (by kernel_rfl) (fun _ _ _ h => h) (Or.inl ⟨by rfl, ?_⟩) (by assumption) ?_
        rotate_left
        · (intro w' hSw; go_simp; try with_reducible rfl)
        try simp only [Act.put, List.setIfInBounds_toArray, List.set_cons_zero, List.set_cons_succ]
        refine takeL (i := 1) (v := ?_) rfl rfl (by kernel_rfl) (by kernel_rfl) (by kernel_rfl) (fun _ _ _ h => h) (Or.inl ⟨by rfl, ?_⟩) (by assumption) ?_
        rotate_left
        · (intro w' hSw; go_simp; try with_reducible rfl)
        try simp only [Act.put, List.setIfInBounds_toArray, List.set_cons_zero, List.set_cons_succ]
        refine takeL (i := 2) (v := ?_) rfl rfl (by kernel_rfl) (by kernel_rfl) (by kernel_rfl) (fun _ _ _ h => h) (Or.inl ⟨by rfl, ?_⟩) (by assumption) ?_
        rotate_left
        · (intro w' hSw; go_simp; try with_reducible rfl)
        try simp only [Act.put, List.setIfInBounds_toArray, List.set_cons_zero, List.set_cons_succ]
        refine takeL (i := 3) (v := ?_) rfl rfl (by kernel_rfl) (by kernel_rfl) (by kernel_rfl) (fun _ _ _ h => h) (Or.inl ⟨by rfl, ?_⟩) (by assumption) ?_
        rotate_left
        · (intro w' hSw; go_simp; try with_reducible rfl)
        try simp only [Act.put, List.setIfInBounds_toArray, List.set_cons_zero, List.set_cons_succ]
        refine takeL (i := 4) (v := ?_) rfl rfl (by kernel_rfl) (by kernel_rfl) (by kernel_rfl) (fun _ _ _ h => h) (Or.inl ⟨by rfl, ?_⟩) (by assumption) ?_
        rotate_left
        · (intro w' hSw; have hca := HX0.out _ (hSw.2); go_simp; try with_reducible rfl)
        try simp only [Act.put, List.setIfInBounds_toArray, List.set_cons_zero, List.set_cons_succ]
        refine takeL (i := 5) (v := ?_) rfl rfl (by kernel_rfl) (by kernel_rfl) (by kernel_rfl) (fun _ _ _ h => h) (Or.inl ⟨by rfl, ?_⟩) (by assumption) ?_
        rotate_left
        · (intro w' hSw; go_simp; try with_reducible rfl)
        try simp only [Act.put, List.setIfInBounds_toArray, List.set_cons_zero, List.set_cons_succ]
        refine takeL (i := 6) (v := ?_) rfl rfl (by kernel_rfl) (by kernel_rfl) (by kernel_rfl) (fun _ _ _ h => h) (Or.inl ⟨by rfl, ?_⟩) (by assumption) ?_
        rotate_left
        · (intro w' hSw; go_simp; try with_reducible rfl)
        try simp only [Act.put, List.setIfInBounds_toArray, List.set_cons_zero, List.set_cons_succ]
        refine takeL (i := 7) (v := ?_) rfl rfl (by kernel_rfl) (by kernel_rfl) (by kernel_rfl) (fun _ _ _ h => h) (Or.inl ⟨by rfl, ?_⟩) (by assumption) ?_
        rotate_left
        · (intro w' hSw; go_simp; try with_reducible rfl)
        try simp only [Act.put, List.setIfInBounds_toArray, List.set_cons_zero, List.set_cons_succ]
        refine takeL (i := 8) (v := ?_) rfl rfl (by kernel_rfl) (by kernel_rfl) (by kernel_rfl) (fun _ _ _ h => h) (Or.inl ⟨by rfl, ?_⟩) (by assumption) ?_
        rotate_left
        · (intro w' hSw; have hcb := HY0.out _ hSw.1; go_simp; try with_reducible rfl)
        try simp only [Act.put, List.setIfInBounds_toArray, List.set_cons_zero, List.set_cons_succ]
        refine takeL (i := 9) (v := ?_) rfl rfl (by kernel_rfl) (by kernel_rfl) (by kernel_rfl) (fun _ _ _ h => h) (Or.inl ⟨by rfl, ?_⟩) (by assumption) ?_
        rotate_left
        · (intro w' hSw; go_simp; try with_reducible rfl)
        try simp only [Act.put, List.setIfInBounds_toArray, List.set_cons_zero, List.set_cons_succ]
        refine wpAnyH_ready (rs := [10]) (by kernel_rfl) (by simp) ?_
        refine consL rfl (fun K hK => ?_) AllReadyH.nil
        · rw [if_pos (by rfl)]
          go_simp
          have xA := hXv.alloc (.cells #[.int .u8 (z : Int)] 5)
          have oA := oOv.below (xnew wv (.cells #[.int .u8 (z : Int)] 5))
          have hrz := rd_new wv [z] #[.int .u8 (z : Int)] 5 (0, 0) 1 rfl rfl (by simpa using hzl) (by decide)
          refine hK.out _ _ ⟨xA.blk 0 rfl, xA.rd 0 rfl⟩ (fun hHeld => ?_)
          clear hK K
          try simp only [Act.put, List.setIfInBounds_toArray, List.set_cons_zero, List.set_cons_succ]
          refine wpAnyH_ready (rs := [11]) (by kernel_rfl) (by simp) ?_
          refine consL rfl (fun K hK => ?_) AllReadyH.nil
          · rw [if_pos (by rfl)]
            refine wpo_append_at (.tmp 47) (.tmp 57) rfl w.heap.size (.slice ad i cp) (xorN key ct nonce bs i) rfl oA (some ⟨wv.heap.size, 0, none⟩) 1 1 [z] rfl hrz (by rw [xorN_length]; simp; omega) xA.bel.size ?_
            rintro v7 w7 o7 g7 _
            have x7 := xA.grownOwn oA g7 (by simp) hneR
            rw [HZ.out, ← xorN_succ] at o7
            obtain ⟨ad7, cp7, rfl, _, _⟩ := o7.rd (by rw [xorN_length]; omega)
            rw [xorN_length] at o7 ⊢
            refine hK.out _ _ ⟨x7.blk 0 rfl, x7.rd 0 rfl⟩ (fun hHeld => ?_)
            clear hK K
            try simp only [Act.put, List.setIfInBounds_toArray, List.set_cons_zero, List.set_cons_succ]
            refine takeL (i := 12) (v := ?_) rfl rfl (by kernel_rfl) (by kernel_rfl) (by kernel_rfl) (fun _ _ _ h => h) (Or.inl ⟨by rfl, ?_⟩) (by assumption) ?_
            rotate_left
            · (intro w' hSw; go_simp; try with_reducible rfl)
            try simp only [Act.put, List.setIfInBounds_toArray, List.set_cons_zero, List.set_cons_succ]
            refine wpAnyH_done (by kernel_rfl) ?_ _
            go_wp2_with fail
            exact ⟨⟨i + 1, ad7, cp7, blk, by omega, by go_num, rfl, o7, x7, hbl, hbb2, HCUR.out⟩, by simp [intOf]; omega⟩
      · have ht : ((i : Int) % 64 == 0) = false := beq_eq_false_iff_ne.2 (by omega)
        have hcu : cur = block key (ct + i / 64) nonce := by rcases hcu with h | h; exact absurd h hm; exact h
        have hS0 : cur.getD (i % 64) 0 = strm key ct nonce i := by rw [hcu]; rfl
        have hcur : (i + 1) % 64 = 0 ∨ cur = block key (ct + (i + 1) / 64) nonce := by
          by_cases h : (i + 1) % 64 = 0
          · exact .inl h
          · refine .inr ?_
            rw [hcu]
            congr 1
            omega
        have hbl := hcl
        have hbb2 := hcb
        have HS0 := Lib.hid hS0
        have HCU0 := Lib.hid hcur
        clear hS0 hcu hcl hcur
        go_wp2_with fail
        have hcur := HCU0.out
        obtain ⟨wn, hwn⟩ : ∃ wn, wn = wr := ⟨_, rfl⟩
        rw [← hwn] at hX oO ⊢
        clear hwn
        have hx0 : ∀ W, RdB W (some ⟨b0, off, none⟩) len cap bs → W.cell? ⟨b0, off + i, none⟩ = some (.int .u8 ((bs.getD i 0 : Nat) : Int)) := fun W h => rdb_at (h) i hlt
        have hxl := get_lt hbb i
        have hyl := strm_lt key ct nonce i
        have hy0 : ∀ W, Blk W Cb 83 .u8 cur → W.cell? ⟨Cb, i % 64, none⟩ = some (.int .u8 ((strm key ct nonce i : Nat) : Int)) := fun W h => by rw [← HS0.out]; exact h.cell (i % 64) (by omega)
        obtain ⟨z, hz⟩ : ∃ z, z = xb key ct nonce bs i := ⟨_, rfl⟩
        have hxr := xor_u8 _ _ hxl hyl
        rw [show bs.getD i 0 ^^^ strm key ct nonce i = z from hz.symm] at hxr
        have hzl : z < 256 := by rw [hz]; exact xb_lt _ _ _ _ hbb _
        have HX0 := Lib.hid hx0
        have HY0 := Lib.hid hy0
        clear hx0 hy0
        generalize bs.getD i 0 = x at HX0 hxl hxr
        generalize strm key ct nonce i = y at HY0 hyl hxr
        have HZ := Lib.hid hz
        have HCUR := Lib.hid hcur
        clear hz hcur
        obtain ⟨j, hj⟩ : ∃ j, j = i % 64 := ⟨_, rfl⟩
        rw [← hj] at HY0
        have htm : (i : Int).tmod 64 = (j : Int) := by rw [Int.tmod_eq_emod_of_nonneg (by omega)]; omega
        have hj64 : (j : Int) < 64 := by omega
        clear hj
        refine wp_region_held_drew (S := fun W' => Blk W' Cb 83 .u8 cur ∧ RdB W' (some ⟨b0, off, none⟩) len cap bs) (by kernel_rfl) ⟨(hX.blk 0 rfl).drewN 1, (hX.rd 0 rfl).drewN 1⟩ (fun hHeld => ?_)
        have hXv := hX.drewN 1
        have oOv : Own (wn.drewN 1) w.heap.size (.slice ad i cp) (xorN key ct nonce bs i) := oO
        rw [show wn.drew = wn.drewN 1 from rfl] at hHeld ⊢
        generalize wn.drewN 1 = wv at hHeld hXv oOv ⊢
        clear hX oO
        refine takeL (i := 0) (v := ?_) rfl rfl (by kernel_rfl) (by kernel_rfl) (by kernel_rfl) (fun _ _ _ h => h) (Or.inl ⟨by rfl, ?_⟩) (by assumption) ?_
        rotate_left
        · (intro w' hSw; go_simp; try with_reducible rfl)
        try simp only [Act.put, List.setIfInBounds_toArray, List.set_cons_zero, List.set_cons_succ]
        refine takeL (i := 1) (v := ?_) rfl rfl (by kernel_rfl) (by kernel_rfl) (by kernel_rfl) (fun _ _ _ h => h) (Or.inl ⟨by rfl, ?_⟩) (by assumption) ?_
        rotate_left
        · (intro w' hSw; go_simp; try with_reducible rfl)
        try simp only [Act.put, List.setIfInBounds_toArray, List.set_cons_zero, List.set_cons_succ]
        refine takeL (i := 2) (v := ?_) rfl rfl (by kernel_rfl) (by kernel_rfl) (by kernel_rfl) (fun _ _ _ h => h) (Or.inl ⟨by rfl, ?_⟩) (by assumption) ?_
        rotate_left
        · (intro w' hSw; go_simp; try with_reducible rfl)
        try simp only [Act.put, List.setIfInBounds_toArray, List.set_cons_zero, List.set_cons_succ]
        refine takeL (i := 3) (v := ?_) rfl rfl (by kernel_rfl) (by kernel_rfl) (by kernel_rfl) (fun _ _ _ h => h) (Or.inl ⟨by rfl, ?_⟩) (by assumption) ?_
        rotate_left
        · (intro w' hSw; go_simp; try with_reducible rfl)
        try simp only [Act.put, List.setIfInBounds_toArray, List.set_cons_zero, List.set_cons_succ]
        refine takeL (i := 4) (v := ?_) rfl rfl (by kernel_rfl) (by kernel_rfl) (by kernel_rfl) (fun _ _ _ h => h) (Or.inl ⟨by rfl, ?_⟩) (by assumption) ?_
        rotate_left
        · (intro w' hSw; have hca := HX0.out _ (hSw.2); go_simp; try with_reducible rfl)
        try simp only [Act.put, List.setIfInBounds_toArray, List.set_cons_zero, List.set_cons_succ]
        refine takeL (i := 5) (v := ?_) rfl rfl (by kernel_rfl) (by kernel_rfl) (by kernel_rfl) (fun _ _ _ h => h) (Or.inl ⟨by rfl, ?_⟩) (by assumption) ?_
        rotate_left
        · (intro w' hSw; go_simp; try with_reducible rfl)
        try simp only [Act.put, List.setIfInBounds_toArray, List.set_cons_zero, List.set_cons_succ]
        refine takeL (i := 6) (v := ?_) rfl rfl (by kernel_rfl) (by kernel_rfl) (by kernel_rfl) (fun _ _ _ h => h) (Or.inl ⟨by rfl, ?_⟩) (by assumption) ?_
        rotate_left
        · (intro w' hSw; go_simp; try with_reducible rfl)
        try simp only [Act.put, List.setIfInBounds_toArray, List.set_cons_zero, List.set_cons_succ]
        refine takeL (i := 7) (v := ?_) rfl rfl (by kernel_rfl) (by kernel_rfl) (by kernel_rfl) (fun _ _ _ h => h) (Or.inl ⟨by rfl, ?_⟩) (by assumption) ?_
        rotate_left
        · (intro w' hSw; go_simp; try with_reducible rfl)
        try simp only [Act.put, List.setIfInBounds_toArray, List.set_cons_zero, List.set_cons_succ]
        refine takeL (i := 8) (v := ?_) rfl rfl (by kernel_rfl) (by kernel_rfl) (by kernel_rfl) (fun _ _ _ h => h) (Or.inl ⟨by rfl, ?_⟩) (by assumption) ?_
        rotate_left
        · (intro w' hSw; have hcb := HY0.out _ hSw.1; go_simp; try with_reducible rfl)
        try simp only [Act.put, List.setIfInBounds_toArray, List.set_cons_zero, List.set_cons_succ]
        refine takeL (i := 9) (v := ?_) rfl rfl (by kernel_rfl) (by kernel_rfl) (by kernel_rfl) (fun _ _ _ h => h) (Or.inl ⟨by rfl, ?_⟩) (by assumption) ?_
        rotate_left
        · (intro w' hSw; go_simp; try with_reducible rfl)
        try simp only [Act.put, List.setIfInBounds_toArray, List.set_cons_zero, List.set_cons_succ]
        refine wpAnyH_ready (rs := [10]) (by kernel_rfl) (by simp) ?_
        refine consL rfl (fun K hK => ?_) AllReadyH.nil
        · rw [if_pos (by rfl)]
          go_simp
          have xA := hXv.alloc (.cells #[.int .u8 (z : Int)] 5)
          have oA := oOv.below (xnew wv (.cells #[.int .u8 (z : Int)] 5))
          have hrz := rd_new wv [z] #[.int .u8 (z : Int)] 5 (0, 0) 1 rfl rfl (by simpa using hzl) (by decide)
          refine hK.out _ _ ⟨xA.blk 0 rfl, xA.rd 0 rfl⟩ (fun hHeld => ?_)
          clear hK K
          try simp only [Act.put, List.setIfInBounds_toArray, List.set_cons_zero, List.set_cons_succ]
          refine wpAnyH_ready (rs := [11]) (by kernel_rfl) (by simp) ?_
          refine consL rfl (fun K hK => ?_) AllReadyH.nil
          · rw [if_pos (by rfl)]
            refine wpo_append_at (.tmp 47) (.tmp 57) rfl w.heap.size (.slice ad i cp) (xorN key ct nonce bs i) rfl oA (some ⟨wv.heap.size, 0, none⟩) 1 1 [z] rfl hrz (by rw [xorN_length]; simp; omega) xA.bel.size ?_
            rintro v7 w7 o7 g7 _
            have x7 := xA.grownOwn oA g7 (by simp) hneR
            rw [HZ.out, ← xorN_succ] at o7
            obtain ⟨ad7, cp7, rfl, _, _⟩ := o7.rd (by rw [xorN_length]; omega)
            rw [xorN_length] at o7 ⊢
            refine hK.out _ _ ⟨x7.blk 0 rfl, x7.rd 0 rfl⟩ (fun hHeld => ?_)
            clear hK K
            try simp only [Act.put, List.setIfInBounds_toArray, List.set_cons_zero, List.set_cons_succ]
            refine takeL (i := 12) (v := ?_) rfl rfl (by kernel_rfl) (by kernel_rfl) (by kernel_rfl) (fun _ _ _ h => h) (Or.inl ⟨by rfl, ?_⟩) (by assumption) ?_
            rotate_left
            · (intro w' hSw; go_simp; try with_reducible rfl)
            try simp only [Act.put, List.setIfInBounds_toArray, List.set_cons_zero, List.set_cons_succ]
            refine wpAnyH_done (by kernel_rfl) ?_ _
            go_wp2_with fail
            exact ⟨⟨i + 1, ad7, cp7, cur, by omega, by go_num, rfl, o7, x7, hbl, hbb2, HCUR.out⟩, by simp [intOf]; omega⟩
    · obtain rfl : i = len := by omega
      have hid : decide ((i : Int) < (i : Int)) = false := decide_eq_false (by omega)
      go_wp2_with fail
      go_ret2
      have hxl : (xorS key ct nonce bs).length = i := by rw [xorS_length]; exact HBL.out
      refine ⟨ad, cp, ?_, ?_, hX.bel⟩
      · rw [hxl]; rfl
      · rw [hxl]; unfold xorS; rw [HBL.out]; exact oO

set_option maxRecDepth 100000 in
set_option maxHeartbeats 1000000 in
theorem rXor_none (w : World) (key nonce : List Nat) (ct : Nat) (a : Option Addr) (cap : Nat) (hct : ct < 4294967296) :
    Calls Try.prog 57 #[.agg (nv .u8 key).toArray, .int .u32 (ct : Int), .agg (nv .u8 nonce).toArray, .slice a 0 cap] w (XorOK w []) := by
  have s1 := (((LW.nil (xrefl w)).new 35 .u8 key).new 62 .u8 nonce).new 83 .u8 (List.replicate 64 0)
  rw [World.size_alloc, World.size_alloc] at s1
  go_enter Try.func57, Try.ntmps57
  go_wp2_with (first
    | (refine wp_build rfl 83 _ rfl (.agg (nv .u8 (List.replicate 64 0)).toArray) (by kernel_rfl) ?_)
    | (refine wp_store_arr rfl 83 (.tmp 12) (.tmp 29) rfl (w.heap.size + 1 + 1) rfl (s1.blk 0 rfl) rfl (by kernel_rfl) rfl ?_; intro wn hN gN; have hB := gbelow s1.bel gN (by omega))
    | fail)
  go_loopw [11, 13] (fun v r wr => v = .slice none 0 0 ∧ r = .int .i64 0 ∧ Below w.heap.size w wr) (fun _ r _ => 0)
  case atStart => exact ⟨rfl, rfl, hB⟩
  case round =>
    clear hB
    obtain ⟨rfl, rfl, hB⟩ := hrel
    go_wp2_with fail
    go_ret2
    exact ⟨none, 0, rfl, Own.nil _ _, hB⟩
set_option maxRecDepth 100000 in
set_option maxHeartbeats 1000000 in
theorem rXor_err (w : World) (key nonce : List Nat) (ct : Nat) (a : Option Addr) (len cap : Nat) (bs : List Nat) (hct : ct < 4294967296) (hr : RdB w a len cap bs) (hf : ¬ fits ct len) :
    Calls Try.prog 57 #[.agg (nv .u8 key).toArray, .int .u32 (ct : Int), .agg (nv .u8 nonce).toArray, .slice a len cap] w fun e w' => e = .returned (.tuple #[.slice none 0 0, .int .i64 1]) ∧ Below w.heap.size w w' := by
  have hle : len ≤ 1000000000 := hr.1
  unfold fits at hf
  have d1 : decide (0 < ((len : Int) + 63) / 64) = true := decide_eq_true (by omega)
  have d2 : decide (4294967296 ≤ (ct : Int) + ((len : Int) + 63) / 64 - 1) = true := decide_eq_true (by omega)
  go_enter Try.func57, Try.ntmps57
  go_wp2_with fail
  go_ret2
  exact ⟨rfl, xalloc (xnew _ _) _⟩
theorem rXor_any (w : World) (key nonce : List Nat) (ct : Nat) (a : Option Addr) (len cap : Nat) (bs : List Nat) (hk : key.length = 32) (hkb : ∀ x ∈ key, x < 256) (hn : nonce.length = 12) (hnb : ∀ x ∈ nonce, x < 256) (hct : ct < 4294967296) (hr : RdB w a len cap bs) (hf : fits ct len) :
    Calls Try.prog 57 #[.agg (nv .u8 key).toArray, .int .u32 (ct : Int), .agg (nv .u8 nonce).toArray, .slice a len cap] w (XorOK w (xorS key ct nonce bs)) := by
  rcases Nat.eq_zero_or_pos len with rfl | h
  · obtain rfl : bs = [] := List.eq_nil_of_length_eq_zero hr.2.1
    exact rXor_none w key nonce ct a cap hct
  · exact rXor_loop w key nonce ct a len cap bs hk hkb hn hnb hct hr h hf
end Go.Proofs.Ytpcppnoomogloaa.St
