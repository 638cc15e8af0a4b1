/- The walks of nonce, and of the document's. -/
import Derived.Test.YtpcppnoomogloaaFrW3
set_option maxRecDepth 4000
namespace Go.Proofs.Ytpcppnoomogloaa.Fr
set_option linter.unusedSimpArgs false
set_option linter.unusedVariables false
open Go.RowKit

/-- copy(x[:], y): all of an array. -/
theorem wpo_copy {o : Oper} {a : Act} {w : World} {K : Act → World → Prop} {Q : Exit → Act → World → Prop} (d x : Operand) (ho : o.op = .call { callee := .builtin .copy, args := #[d, x], argTypes := #[25, 25] })
    (g n : Nat) (hd : a.eval d = .slice (some ⟨g, 0, none⟩) n n) {e : TypeId} {xs ys : List Nat} (hB : Blk w g e .u8 xs) (ad : Option Addr) (c : Nat) (hx : a.eval x = .slice ad n c) (hr : RdB w ad n c ys) (hn : xs.length = n) (h0 : 0 < n)
    (h : ∀ w', Blk w' g e .u8 ys → w.grownBy w' (some g) → K (a.put o.dst (goInt n)) w') : o.wp Try.prog a w K Q := by
  obtain ⟨b, off, rfl, _, hc⟩ : ∃ b off, ad = some ⟨b, off, none⟩ ∧ b < w.heap.size ∧ ∀ i, i < n → w.cell? ⟨b, off + i, none⟩ = some (.int .u8 ((ys.getD i 0 : Nat) : Int)) := by
    rcases hr.2.2.2.2.2.2 with h6 | h6
    · omega
    · exact h6
  have hyl : ys.length = n := hr.2.1
  have hrun := run_copy_row (P := Try.prog) w 25 25 o.type 5 g 0 n n ⟨b, off, none⟩ n c (nv .u8 xs).toArray e (nv .u8 ys) Try.underlying25 (by kernel_rfl) hB (by rw [nv_length, hyl]; exact (Nat.min_self n).symm)
    (fun j v hj => by
      have hj' : j < ys.length := by
        have := (List.getElem?_eq_some_iff.1 hj).1
        rwa [nv_length] at this
      rw [Addr.add_off, hc j (by omega), ← hj, nv_get .u8 ys j hj'])
    (by simp [nv, hyl, hn]) (by have := nv_one .u8 ys; rw [List.all_toArray, List.all_eq_true] at this; exact this)
  have e1 : ((nv .u8 xs).toArray.toList.take 0 ++ nv .u8 ys ++ (nv .u8 xs).toArray.toList.drop (0 + (nv .u8 ys).length)).toArray = (nv .u8 ys).toArray := by
    rw [nv_length, List.drop_of_length_le (by simp [nv, hyl, hn]), List.take_zero, List.nil_append, List.append_nil]
  rw [e1, nv_length, hyl] at hrun
  unfold Oper.wp execOp
  simp only [ho, resolve, invoke, builtin, Sem.run_bind, Sem.run_pure, Result.andThen_ok, List.map_toArray, List.map_cons, List.map_nil, hd, hx, hrun]
  refine h _ ?_ ?_
  · unfold Blk World.setRow
    simp only [Array.getElem?_modify, if_true]
    rw [show w.heap[g]? = _ from hB]
    rfl
  · refine ⟨rfl, rfl, rfl, by simp [World.setRow], fun j hj hne => ?_⟩
    unfold World.setRow
    simp only [Array.getElem?_modify]
    rw [if_neg (fun e => hne (by rw [e]))]
def nS (bs : List Nat) (i : Nat) : List Nat := bs.take i ++ List.replicate (12 - i) 0
theorem nS_length (bs : List Nat) (i : Nat) (h : i ≤ 12) (hb : bs.length = 12) : (nS bs i).length = 12 := by simp [nS]; omega
theorem nS_set (bs : List Nat) (i : Nat) (h : i < 12) (hb : bs.length = 12) : (nS bs i).set i (bs.getD i 0) = nS bs (i + 1) := by
  unfold nS
  rw [take_snoc (by omega), List.set_append_right _ _ (by rw [List.length_take]; omega), List.length_take, show i - min i bs.length = 0 by omega, List.append_assoc]
  congr 1
  obtain ⟨m, hm⟩ : ∃ m, 12 - i = m + 1 := ⟨12 - i - 1, by omega⟩
  rw [hm, List.replicate_succ, List.set_cons_zero, show 12 - (i + 1) = m by omega]
  rfl
theorem nS_zero (bs : List Nat) : nS bs 0 = List.replicate 12 0 := by simp [nS]
theorem nS_end (bs : List Nat) (hb : bs.length = 12) : nS bs 12 = bs := by simp [nS, List.take_of_length_le, hb]

set_option maxRecDepth 100000 in
set_option maxHeartbeats 4000000 in
theorem nonce_any (w : World) (h : Hd) (ho : okH h = true) : Calls Try.prog 36 #[h.v] w fun e w' => e = .returned (.agg (bv (nonceB h)).toArray) ∧ Below w.heap.size w w' := by
  obtain ⟨k, l, n, s, e, rfl, hk, hl, hn, hs, he⟩ := ok_nat ho
  have hu4 := u64_of s (by omega)
  have hu5 := u64_of e (by omega)
  have hsm := nums2_small (s := s) (e := e) (by omega) (by omega)
  have cF := Lib.hid (fun (W : World) (B C : Nat) (hB : Blk W B 3 .i64 [4, 8]) (hC : Blk W C 54 .u64 [e, s]) => Fields_any W B C 2 [4, 8] [e, s] hB hC rfl rfl sizes2_ok hsm (by decide))
  have hfl := nonceB_length ⟨(k : Int), (l : Int), (n : Int), (s : Int), (e : Int)⟩
  have hfb := nonceB_lt ⟨(k : Int), (l : Int), (n : Int), (s : Int), (e : Int)⟩
  have hnn := nonceB_nat k l n s e
  generalize nonceB ⟨(k : Int), (l : Int), (n : Int), (s : Int), (e : Int)⟩ = ys at hfl hfb hnn ⊢
  rw [← hnn] at cF
  have HFL := Lib.hid hfl
  have HZ := Lib.hid (show (Try.prog.info? 62).map (·.size) = some (nv .u8 ys).toArray.size by simp only [List.size_toArray, nv_length]; rw [hfl]; kernel_rfl)
  have HZ2 := Lib.hid (show (Try.prog.info? 62).map (·.size) = some ys.length by rw [hfl]; kernel_rfl)
  have HS2 := Lib.hid (show (List.replicate 12 0).length = ys.length by rw [hfl]; rfl)
  clear hnn hsm hfl ho
  show Calls Try.prog 36 #[.agg #[.int .i64 (k : Int), .int .i64 (l : Int), .int .i64 (n : Int), .int .i64 (s : Int), .int .i64 (e : Int)]] w _
  go_enter Try.func36, Try.ntmps36
  have hb0 : HBlk (w.alloc (.cells #[.int .i64 (k : Int), .int .i64 (l : Int), .int .i64 (n : Int), .int .i64 (s : Int), .int .i64 (e : Int)] 23)) w.heap.size ⟨(k : Int), (l : Int), (n : Int), (s : Int), (e : Int)⟩ := HBlk.new w ⟨(k : Int), (l : Int), (n : Int), (s : Int), (e : Int)⟩
  have bb0 := xnew w (.cells #[.int .i64 (k : Int), .int .i64 (l : Int), .int .i64 (n : Int), .int .i64 (s : Int), .int .i64 (e : Int)] 23)
  have z0 : (w.alloc (.cells #[.int .i64 (k : Int), .int .i64 (l : Int), .int .i64 (n : Int), .int .i64 (s : Int), .int .i64 (e : Int)] 23)).heap.size = w.heap.size + 1 := World.size_alloc _ _
  go_upto_region 1 with fail
  generalize w.alloc (.cells #[.int .i64 (k : Int), .int .i64 (l : Int), .int .i64 (n : Int), .int .i64 (s : Int), .int .i64 (e : Int)] 23) = W0 at hb0 bb0 z0 ⊢
  have hA : Blk (W0.alloc (.cells (nv .u8 (List.replicate 12 0)).toArray 62)) (w.heap.size + 1) 62 .u8 (List.replicate 12 0) := z0 ▸ Blk.new W0 62 .u8 _ _ rfl
  have hb1 := hb0.alloc (.cells (nv .u8 (List.replicate 12 0)).toArray 62)
  have bb1 := xalloc bb0 (.cells (nv .u8 (List.replicate 12 0)).toArray 62)
  change Code.wp _ _ _ _ (W0.alloc (.cells (nv .u8 (List.replicate 12 0)).toArray 62))
  generalize W0.alloc (.cells (nv .u8 (List.replicate 12 0)).toArray 62) = W1 at hA hb1 bb1 ⊢
  clear hb0 bb0 z0
  have hbs := hb1.alloc (.cells #[.int .i64 4, .int .i64 8] 3)
  obtain ⟨q0, q1, q2, q3, q4⟩ := hbs.cells
  dsimp only at q0 q1 q2 q3 q4
  go_wp2_with (first
    | (go_at_call 29; refine (cF.out _ _ _ ((Blk.new W1 3 .i64 [4, 8] _ rfl).alloc _) (blk_new2 W1 _ 54 .u64 [e, s] _ rfl)).mono ?_; rintro e5 w5 ⟨a5, m5, c5, rfl, l5, p5, b5⟩; obtain rfl : m5 = 12 := l5.symm.trans HFL.out; have hA5 := ((hA.alloc (.cells (nv .i64 [4, 8]).toArray 3)).alloc (.cells (nv .u64 [e, s]).toArray 54)).below b5; have bb5 := xtrans (xalloc (xalloc bb1 (.cells (nv .i64 [4, 8]).toArray 3)) (.cells (nv .u64 [e, s]).toArray 54)) b5; clear q0 q1 q2 q3 q4 hbs hb1 bb1 b5 l5 hA)
    | (refine wpList_of_wp rfl (wpo_copy (.tmp 17) (.tmp 18) rfl (w.heap.size + 1) 12 rfl hA5 a5 c5 rfl (p5.rdb HFL.out (by decide)) rfl (by decide) ?_); intro w6 hA6 g6; have bb6 := gbelow bb5 g6 (by omega); clear hA5 bb5 g6)
    | (refine wp_load_arr rfl 62 (.tmp 2) rfl (w.heap.size + 1) rfl hA6 12 5 Try.underlying62 HZ2.out ?_)
    | (refine wp_store_arr rfl 62 (.tmp 2) (.tmp 20) rfl (w.heap.size + 1) rfl hA6 rfl HZ2.out rfl ?_; intro w8 hA8 g8; have bb8 := gbelow bb6 g8 (by omega))
    | fail)
  exact bodyPost_ret (results_cell_row rfl _ _ (w.heap.size + 1) 62 (nv .u8 ys).toArray (0, 0) _ rfl hA8 Try.underlying62 rfl HZ.out) rfl ⟨rfl, bb8⟩

set_option maxRecDepth 100000 in
set_option maxHeartbeats 4000000 in
theorem rnonce_any (w : World) (h : Hd) (ho : okH h = true) : Calls Try.prog 41 #[h.v] w fun e w' => e = .returned (.agg (bv (nonceB h)).toArray) ∧ Below w.heap.size w w' := by
  obtain ⟨k, l, n, s, e, rfl, hk, hl, hn, hs, he⟩ := ok_nat ho
  have hu4 := u64_of s (by omega)
  have hu5 := u64_of e (by omega)
  have hsm := nums2_small (s := s) (e := e) (by omega) (by omega)
  have cF := Lib.hid (fun (W : World) (B C : Nat) (hB : Blk W B 3 .i64 [4, 8]) (hC : Blk W C 54 .u64 [e, s]) => rFields_any W B C 2 [4, 8] [e, s] hB hC rfl rfl sizes2_ok hsm (by decide))
  have hfl := nonceB_length ⟨(k : Int), (l : Int), (n : Int), (s : Int), (e : Int)⟩
  have hfb := nonceB_lt ⟨(k : Int), (l : Int), (n : Int), (s : Int), (e : Int)⟩
  have hnn := nonceB_nat k l n s e
  generalize nonceB ⟨(k : Int), (l : Int), (n : Int), (s : Int), (e : Int)⟩ = ys at hfl hfb hnn ⊢
  rw [← hnn] at cF
  have HFL := Lib.hid hfl
  have HZ := Lib.hid (show (Try.prog.info? 62).map (·.size) = some (nv .u8 ys).toArray.size by simp only [List.size_toArray, nv_length]; rw [hfl]; kernel_rfl)
  have HZ2 := Lib.hid (show (Try.prog.info? 62).map (·.size) = some ys.length by rw [hfl]; kernel_rfl)
  have HS2 := Lib.hid (show (List.replicate 12 0).length = ys.length by rw [hfl]; rfl)
  clear hnn hsm hfl ho
  show Calls Try.prog 41 #[.agg #[.int .i64 (k : Int), .int .i64 (l : Int), .int .i64 (n : Int), .int .i64 (s : Int), .int .i64 (e : Int)]] w _
  go_enter Try.func41, Try.ntmps41
  have hb0 : HBlk (w.alloc (.cells #[.int .i64 (k : Int), .int .i64 (l : Int), .int .i64 (n : Int), .int .i64 (s : Int), .int .i64 (e : Int)] 23)) w.heap.size ⟨(k : Int), (l : Int), (n : Int), (s : Int), (e : Int)⟩ := HBlk.new w ⟨(k : Int), (l : Int), (n : Int), (s : Int), (e : Int)⟩
  have bb0 := xnew w (.cells #[.int .i64 (k : Int), .int .i64 (l : Int), .int .i64 (n : Int), .int .i64 (s : Int), .int .i64 (e : Int)] 23)
  have z0 : (w.alloc (.cells #[.int .i64 (k : Int), .int .i64 (l : Int), .int .i64 (n : Int), .int .i64 (s : Int), .int .i64 (e : Int)] 23)).heap.size = w.heap.size + 1 := World.size_alloc _ _
  go_upto_region 1 with fail
  generalize w.alloc (.cells #[.int .i64 (k : Int), .int .i64 (l : Int), .int .i64 (n : Int), .int .i64 (s : Int), .int .i64 (e : Int)] 23) = W0 at hb0 bb0 z0 ⊢
  have hA : Blk (W0.alloc (.cells (nv .u8 (List.replicate 12 0)).toArray 62)) (w.heap.size + 1) 62 .u8 (List.replicate 12 0) := z0 ▸ Blk.new W0 62 .u8 _ _ rfl
  have hb1 := hb0.alloc (.cells (nv .u8 (List.replicate 12 0)).toArray 62)
  have bb1 := xalloc bb0 (.cells (nv .u8 (List.replicate 12 0)).toArray 62)
  change Code.wp _ _ _ _ (W0.alloc (.cells (nv .u8 (List.replicate 12 0)).toArray 62))
  generalize W0.alloc (.cells (nv .u8 (List.replicate 12 0)).toArray 62) = W1 at hA hb1 bb1 ⊢
  clear hb0 bb0 z0
  have hbs := hb1.alloc (.cells #[.int .i64 4, .int .i64 8] 3)
  obtain ⟨q0, q1, q2, q3, q4⟩ := hbs.cells
  dsimp only at q0 q1 q2 q3 q4
  have HZ0 := Lib.hid (show (Try.prog.info? 62).map (·.size) = some (nv .u8 (List.replicate 12 0)).toArray.size by kernel_rfl)
  have HZ3 := Lib.hid (show (Try.prog.info? 62).map (·.size) = some (List.replicate 12 0).length by kernel_rfl)
  go_wp2_with (first
    | (go_at_call 52; refine (cF.out _ _ _ ((Blk.new W1 3 .i64 [4, 8] _ rfl).alloc _) (blk_new2 W1 _ 54 .u64 [e, s] _ rfl)).mono ?_; rintro e5 w5 ⟨a5, m5, c5, rfl, l5, p5, b5⟩; obtain rfl : m5 = 12 := l5.symm.trans HFL.out; have hA5 := ((hA.alloc (.cells (nv .i64 [4, 8]).toArray 3)).alloc (.cells (nv .u64 [e, s]).toArray 54)).below b5; have bb5 := xtrans (xalloc (xalloc bb1 (.cells (nv .i64 [4, 8]).toArray 3)) (.cells (nv .u64 [e, s]).toArray 54)) b5; obtain ⟨g5, rfl⟩ := own_cell p5 HFL.out (by decide); have o5 := p5.mono (xalloc (xalloc bb1 (.cells (nv .i64 [4, 8]).toArray 3)) (.cells (nv .u64 [e, s]).toArray 54)).size; clear p5; clear q0 q1 q2 q3 q4 hbs hb1 bb1 b5 l5 hA)
    | (refine wp_build rfl 62 _ rfl (.agg (nv .u8 (List.replicate 12 0)).toArray) (by kernel_rfl) ?_)
    | (refine wp_store_new rfl 62 (.tmp 5) (.tmp 19) rfl rfl _ (nv .u8 (List.replicate 12 0)).toArray rfl HZ0.out (by kernel_rfl) (nv_one _ _) ?_; have hY := Blk.new w5 62 .u8 (List.replicate 12 0) _ rfl; have hA6 := hA5.alloc (.cells (nv .u8 (List.replicate 12 0)).toArray 62); have o6 := o5.below (xnew w5 (.cells (nv .u8 (List.replicate 12 0)).toArray 62)); have bb6 := xalloc bb5 (.cells (nv .u8 (List.replicate 12 0)).toArray 62); have hYA := hA5.lt; have hYo := (o5.block g5 rfl).2; clear hA5 o5 bb5; generalize w5.heap.size = Y at hY hYA hYo ⊢; generalize w5.alloc (.cells (nv .u8 (List.replicate 12 0)).toArray 62) = w6 at hY hA6 o6 bb6 ⊢)
    | fail)
  have hYne : ∀ j, some Y = some j → (Value.slice (some ⟨g5, 0, none⟩) 12 c5).ownBlock ≠ some j := fun j hj hq => by
    have h1 := Option.some.inj hj
    have h2 : g5 = j := by simpa [Value.ownBlock] using hq
    omega
  rw [← nS_zero ys] at hY
  have HYN := Lib.hid hYne
  clear hYne hYo
  go_loopw [6] (fun r wr => ∃ i : Nat, i ≤ 12 ∧ r = .int .i64 i ∧ Blk wr Y 62 .u8 (nS ys i) ∧ Blk wr (w.heap.size + 1) 62 .u8 (List.replicate 12 0) ∧ Own wr w.heap.size (.slice (some ⟨g5, 0, none⟩) 12 c5) ys ∧ Below w.heap.size w wr) (fun r _ => 12 - (intOf r).toNat)
  case atStart => exact ⟨0, by decide, rfl, hY, hA6, o6, bb6⟩
  case round =>
    clear hY hA6 o6 bb6
    obtain ⟨i, hi, rfl, hY, hA6, o6, bb6⟩ := hrel
    by_cases hlt : i < 12
    · have e9 : decide ((i : Int) < 12) = true := decide_eq_true (by omega)
      have hil : (i : Int) < 12 := by omega
      have hset := nS_set ys i hlt HFL.out
      obtain ⟨z, hz⟩ : ∃ z, z = ys.getD i 0 := ⟨_, rfl⟩
      have hc1 := (Own.cells o6 HFL.out).2.2.1 i hlt
      rw [← hz] at hset hc1
      have hc2 := hY.cell i (by rw [nS_length ys i hi HFL.out]; exact hlt)
      have hf2 := hY.frozen i
      obtain ⟨w7, hW7⟩ : ∃ w7, wr.setCell ⟨Y, i, none⟩ (.int .u8 ((z : Nat) : Int)) = w7 := ⟨_, rfl⟩
      have hY7 := hY.set i z
      have hA7 := hA6.other ⟨Y, i, none⟩ (.int .u8 ((z : Nat) : Int)) (show w.heap.size + 1 ≠ Y by omega)
      have o7 := o6.kept (gset (B := Y) ⟨rfl, rfl, rfl, Nat.le_refl _, fun _ _ _ => rfl⟩ i (.int .u8 ((z : Nat) : Int))) HYN.out
      have bb7 := xset bb6 (p := ⟨Y, i, none⟩) (show w.heap.size ≤ Y by omega) (.int .u8 ((z : Nat) : Int))
      rw [hW7] at hY7 hA7 o7 bb7
      rw [hset] at hY7
      have HLT := Lib.hid hlt
      clear hset hz hY hA6 o6 bb6 hlt
      go_wp2_with fail
      exact ⟨⟨i + 1, HLT.out, by go_num, hY7, hA7, o7, bb7⟩, by simp [intOf]; have := HLT.out; omega⟩
    · obtain rfl : i = 12 := by omega
      rw [nS_end ys HFL.out] at hY
      go_wp2_with (first
        | (refine wp_load_arr rfl 62 (.tmp 5) rfl Y rfl hY 12 5 Try.underlying62 HZ2.out ?_)
        | (refine wp_store_arr rfl 62 (.tmp 2) (.tmp 30) rfl (w.heap.size + 1) rfl hA6 rfl HZ2.out HS2.out ?_; intro w8 hA8 g8; have bb8 := gbelow bb6 g8 (by omega))
        | fail)
      exact bodyPost_ret (results_cell_row rfl _ _ (w.heap.size + 1) 62 (nv .u8 ys).toArray (0, 0) _ rfl hA8 Try.underlying62 rfl HZ.out) rfl ⟨rfl, bb8⟩
end Go.Proofs.Ytpcppnoomogloaa.Fr
