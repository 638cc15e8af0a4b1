/- The walks of frame.Write and nonce, and of the document's. -/
import Derived.Test.YtpcppnoomogloaaFrW2
import Derived.Laws.CopyRow
set_option maxRecDepth 4000
namespace Go.Proofs.Ytpcppnoomogloaa.Fr
set_option linter.unusedSimpArgs false
set_option linter.unusedVariables false
open Go.RowKit

/-- Block B is a head. -/
def HBlk (w : World) (B : Nat) (h : Hd) : Prop := w.heap[B]? = some (.cells #[.int .i64 h.kind, .int .i64 h.lba, .int .i64 h.len, .int .i64 h.seq, .int .i64 h.epoch] 23 (0, 0))
section
variable {w w' : World} {B : Nat} {h : Hd}
theorem HBlk.lt (hb : HBlk w B h) : B < w.heap.size := (Array.getElem?_eq_some_iff.1 hb).1
theorem HBlk.below (hb : HBlk w B h) (hw : Below w.heap.size w w') : HBlk w' B h := by
  unfold HBlk
  rw [hw.block B hb.lt]
  exact hb
theorem HBlk.grown (hb : HBlk w B h) {row : Option Nat} (hg : w.grownBy w' row) (hne : some B ≠ row) : HBlk w' B h := by
  unfold HBlk
  rw [hg.block B hb.lt hne]
  exact hb
theorem HBlk.belowB {C : Nat} (hb : HBlk w B h) (hw : Below C w w') (hlt : B < C) : HBlk w' B h := by
  unfold HBlk
  rw [hw.block B hlt]
  exact hb
theorem HBlk.alloc (hb : HBlk w B h) (o : Obj) : HBlk (w.alloc o) B h := hb.below (xnew _ _)
theorem HBlk.drew (hb : HBlk w B h) : HBlk w.drew B h := hb
theorem HBlk.new (w : World) (h : Hd) : HBlk (w.alloc (.cells #[.int .i64 h.kind, .int .i64 h.lba, .int .i64 h.len, .int .i64 h.seq, .int .i64 h.epoch] 23)) w.heap.size h := by
  unfold HBlk
  show (w.heap.push _)[w.heap.size]? = _
  simp
theorem HBlk.cells (hb : HBlk w B h) : w.cell? ⟨B, 0, none⟩ = some (.int .i64 h.kind) ∧ w.cell? ⟨B, 1, none⟩ = some (.int .i64 h.lba) ∧ w.cell? ⟨B, 2, none⟩ = some (.int .i64 h.len) ∧ w.cell? ⟨B, 3, none⟩ = some (.int .i64 h.seq) ∧ w.cell? ⟨B, 4, none⟩ = some (.int .i64 h.epoch) := by
  have hb' : w.heap[B]? = _ := hb
  refine ⟨?_, ?_, ?_, ?_, ?_⟩ <;> (unfold World.cell?; dsimp only; rw [hb']; rfl)
theorem HBlk.frozen (hb : HBlk w B h) (i : Nat) : w.frozen? ⟨B, i, none⟩ = false := by
  unfold World.frozen?
  rw [show w.heap[(⟨B, i, none⟩ : Addr).block]? = _ from hb]
  simp
end
theorem hszH : (Try.prog.info? 23).map (·.size) = some 5 := by kernel_rfl
theorem sizes6_ok : ∀ i, i < 6 → sizes6.getD i 0 = 1 ∨ sizes6.getD i 0 = 2 ∨ sizes6.getD i 0 = 4 ∨ sizes6.getD i 0 = 8 := by decide
theorem sizes2_ok : ∀ i, i < 2 → [4, 8].getD i 0 = 1 ∨ [4, 8].getD i 0 = 2 ∨ [4, 8].getD i 0 = 4 ∨ [4, 8].getD i 0 = 8 := by decide
theorem nums_small {k n l s e : Nat} (h1 : k < 256) (h2 : n < 65536) (h3 : l < 4294967296) (h4 : s < 18446744073709551616) (h5 : e < 4294967296) : ∀ i, i < 6 → [81, k, n, l, s, e].getD i 0 < 256 ^ sizes6.getD i 0 := by
  intro i hi
  match i, hi with
  | 0, _ => show 81 < 256 ^ 1; decide
  | 1, _ => show k < 256 ^ 1; omega
  | 2, _ => show n < 256 ^ 2; omega
  | 3, _ => show l < 256 ^ 4; omega
  | 4, _ => show s < 256 ^ 8; omega
  | 5, _ => show e < 256 ^ 4; omega
theorem nums2_small {s e : Nat} (h4 : s < 18446744073709551616) (h5 : e < 4294967296) : ∀ i, i < 2 → [e, s].getD i 0 < 256 ^ [4, 8].getD i 0 := by
  intro i hi
  match i, hi with
  | 0, _ => show e < 256 ^ 4; omega
  | 1, _ => show s < 256 ^ 8; omega
theorem u64_of (n : Nat) (h : n < 18446744073709551616) : IntKind.u64.wrap (n : Int) = (n : Int) := by rw [IntKind.wrap_u64]; omega
theorem blk_new2 (w : World) (o : Obj) (e : TypeId) (k : IntKind) (xs : List Nat) (cs : Array Value) (h : cs = (nv k xs).toArray) : Blk ((w.alloc o).alloc (.cells cs e)) (w.heap.size + 1) e k xs := by
  have := Blk.new (w.alloc o) e k xs cs h
  rwa [World.size_alloc] at this
/-- A head whose numbers are natural. -/
theorem ok_nat {h : Hd} (ho : okH h = true) : ∃ k l n s e : Nat, h = ⟨(k : Int), (l : Int), (n : Int), (s : Int), (e : Int)⟩ ∧ k ≤ 3 ∧ l ≤ 63 ∧ n ≤ 4096 ∧ s ≤ 4611686018427387903 ∧ e ≤ 4294967295 := by
  obtain ⟨k, l, n, s, e⟩ := h
  obtain ⟨h1, h2, h3, h4, _, h5, h6, _, h7, h8, h9, h10⟩ := (okH_iff _).1 ho
  dsimp only at h1 h2 h3 h4 h5 h6 h7 h8 h9 h10
  obtain ⟨k, rfl⟩ := Int.eq_ofNat_of_zero_le (show 0 ≤ k by omega)
  obtain ⟨l, rfl⟩ := Int.eq_ofNat_of_zero_le h3
  obtain ⟨n, rfl⟩ := Int.eq_ofNat_of_zero_le (show 0 ≤ n by omega)
  obtain ⟨s, rfl⟩ := Int.eq_ofNat_of_zero_le h7
  obtain ⟨e, rfl⟩ := Int.eq_ofNat_of_zero_le h9
  exact ⟨k, l, n, s, e, rfl, by omega, by omega, by omega, by omega, by omega⟩
theorem body20_nat (k l n s e : Nat) : body20 ⟨(k : Int), (l : Int), (n : Int), (s : Int), (e : Int)⟩ = flat sizes6 [81, k, n, l, s, e] := by
  unfold body20 nums
  simp only [Int.toNat_natCast]
theorem nonceB_nat (k l n s e : Nat) : nonceB ⟨(k : Int), (l : Int), (n : Int), (s : Int), (e : Int)⟩ = flat [4, 8] [e, s] := by
  unfold nonceB
  simp only [Int.toNat_natCast]
theorem own_cell {w : World} {base n cap : Nat} {a : Option Addr} {bs : List Nat} (h : Own w base (.slice a n cap) bs) (hn : bs.length = n) (h0 : 0 < n) : ∃ g, a = some ⟨g, 0, none⟩ := by
  subst hn
  rcases h.shape with ⟨h1, _⟩ | ⟨g', cap', h1, _⟩
  · simp only [Value.slice.injEq] at h1
    omega
  · simp only [Value.slice.injEq] at h1
    exact ⟨g', h1.1⟩
/-- Writing, whatever head. -/
def WriteOK (w : World) (h : Hd) (e : Ending) (w' : World) : Prop := ∃ ad n cp, e = .returned (.tuple #[.slice ad n cp, .int .i64 ((okE h : Nat) : Int)]) ∧ (writeB h).length = n ∧ Own w' w.heap.size (.slice ad n cp) (writeB h) ∧ Below w.heap.size w w'

set_option maxHeartbeats 4000000 in
theorem Write_ok (w : World) (h : Hd) (ho : okH h = true) : Calls Try.prog 12 #[h.v] w fun e w' => ∃ ad cp, e = .returned (.tuple #[.slice ad 24 cp, .int .i64 0]) ∧ Own w' w.heap.size (.slice ad 24 cp) (headB h) ∧ Below w.heap.size w w' := by
  have cC := Lib.hid (fun W => Check_any W h)
  rw [okE_ok ho, show ((0 : Nat) : Int) = 0 from rfl] at cC
  obtain ⟨k, l, n, s, e, rfl, hk, hl, hn, hs, he⟩ := ok_nat ho
  have hu1 := u64_of k (by omega)
  have hu2 := u64_of n (by omega)
  have hu3 := u64_of l (by omega)
  have hu4 := u64_of s (by omega)
  have hu5 := u64_of e (by omega)
  have hsm := nums_small (k := k) (n := n) (l := l) (s := s) (e := e) (by omega) (by omega) (by omega) (by omega) (by omega)
  have HSM := Lib.hid hsm
  have hfl := flat_length6 81 k n l s e
  have hfb := flat_lt sizes6 [81, k, n, l, s, e]
  have hhB : headB ⟨(k : Int), (l : Int), (n : Int), (s : Int), (e : Int)⟩ = flat sizes6 [81, k, n, l, s, e] ++ le 4 (Ad.more 1 (flat sizes6 [81, k, n, l, s, e])) := by unfold headB; rw [body20_nat]
  rw [hhB]
  clear hsm hhB
  have cF := Lib.hid (fun (W : World) (B C : Nat) (hB : Blk W B 3 .i64 sizes6) (hC : Blk W C 54 .u64 [81, k, n, l, s, e]) => Fields_any W B C 6 sizes6 [81, k, n, l, s, e] hB hC rfl rfl sizes6_ok HSM.out (by decide))
  obtain ⟨ys, hys⟩ : ∃ ys, ys = flat sizes6 [81, k, n, l, s, e] := ⟨_, rfl⟩
  rw [← hys] at hfl hfb cF ⊢
  obtain ⟨q, hq⟩ : ∃ q, q = Ad.more 1 ys := ⟨_, rfl⟩
  have hql : q < 256 ^ 4 := by rw [hq]; exact Nat.lt_of_lt_of_le (Ad.more_lt 1 ys) (by decide)
  have hq4 : q < 4294967296 := hql
  rw [← hq]
  have HQ := Lib.hid hq
  have HFL := Lib.hid hfl
  have HQL := Lib.hid hql
  have cP := Lib.hid (fun W => Put_any W q 4 (by decide) HQL.out)
  clear hys hq hfl hql
  show Calls Try.prog 12 #[.agg #[.int .i64 (k : Int), .int .i64 (l : Int), .int .i64 (n : Int), .int .i64 (s : Int), .int .i64 (e : Int)]] w _
  go_enter Try.func12, Try.ntmps12
  have hb0 := HBlk.new w ⟨(k : Int), (l : Int), (n : Int), (s : Int), (e : Int)⟩
  have bb0 := xnew w (.cells #[.int .i64 (k : Int), .int .i64 (l : Int), .int .i64 (n : Int), .int .i64 (s : Int), .int .i64 (e : Int)] 23)
  go_wp2_with (first
    | (go_at_call 18; refine (cC.out _).mono ?_; rintro e1 w1 ⟨rfl, b1⟩; have hb1 := hb0.below b1; have bb1 := xtrans bb0 b1; clear hb0 bb0 b1)
    | fail)
  refine wp_region_held_drew (S := fun W => HBlk W w.heap.size ⟨(k : Int), (l : Int), (n : Int), (s : Int), (e : Int)⟩ ∧ Below w.heap.size w W) (by kernel_rfl) (⟨hb1.drew, below_drewN bb1 1⟩) (fun hHeld => ?_)
  generalize World.drew _ = wv at hHeld ⊢
  clear hb1 bb1
  refine takeL (i := 1) (v := ?_) rfl rfl (by kernel_rfl) (by kernel_rfl) (by kernel_rfl) (fun _ _ _ h => h) (Or.inl ⟨by rfl, ?_⟩) (by assumption) ?_
  rotate_left
  · (intro w' hSw; go_simp; try with_reducible rfl)
  try simp only [Act.put, List.setIfInBounds_toArray, List.set_cons_zero, List.set_cons_succ]
  refine takeL (i := 2) (v := .int .i64 (k : Int)) rfl rfl (by kernel_rfl) (by kernel_rfl) (by kernel_rfl) (fun _ _ _ h => h) (Or.inl ⟨by rfl, ?_⟩) (by assumption) ?_
  · (intro w' hSw; have hq := hSw.1.cells.1; go_simp; try with_reducible rfl)
  try simp only [Act.put, List.setIfInBounds_toArray, List.set_cons_zero, List.set_cons_succ]
  refine takeL (i := 3) (v := ?_) rfl rfl (by kernel_rfl) (by kernel_rfl) (by kernel_rfl) (fun _ _ _ h => h) (Or.inl ⟨by rfl, ?_⟩) (by assumption) ?_
  rotate_left
  · (intro w' hSw; go_simp; try with_reducible rfl)
  try simp only [Act.put, List.setIfInBounds_toArray, List.set_cons_zero, List.set_cons_succ]
  refine takeL (i := 4) (v := ?_) rfl rfl (by kernel_rfl) (by kernel_rfl) (by kernel_rfl) (fun _ _ _ h => h) (Or.inl ⟨by rfl, ?_⟩) (by assumption) ?_
  rotate_left
  · (intro w' hSw; go_simp; try with_reducible rfl)
  try simp only [Act.put, List.setIfInBounds_toArray, List.set_cons_zero, List.set_cons_succ]
  refine takeL (i := 5) (v := .int .i64 (n : Int)) rfl rfl (by kernel_rfl) (by kernel_rfl) (by kernel_rfl) (fun _ _ _ h => h) (Or.inl ⟨by rfl, ?_⟩) (by assumption) ?_
  · (intro w' hSw; have hq := hSw.1.cells.2.2.1; go_simp; try with_reducible rfl)
  try simp only [Act.put, List.setIfInBounds_toArray, List.set_cons_zero, List.set_cons_succ]
  refine takeL (i := 6) (v := ?_) rfl rfl (by kernel_rfl) (by kernel_rfl) (by kernel_rfl) (fun _ _ _ h => h) (Or.inl ⟨by rfl, ?_⟩) (by assumption) ?_
  rotate_left
  · (intro w' hSw; go_simp; try with_reducible rfl)
  try simp only [Act.put, List.setIfInBounds_toArray, List.set_cons_zero, List.set_cons_succ]
  refine takeL (i := 7) (v := ?_) rfl rfl (by kernel_rfl) (by kernel_rfl) (by kernel_rfl) (fun _ _ _ h => h) (Or.inl ⟨by rfl, ?_⟩) (by assumption) ?_
  rotate_left
  · (intro w' hSw; go_simp; try with_reducible rfl)
  try simp only [Act.put, List.setIfInBounds_toArray, List.set_cons_zero, List.set_cons_succ]
  refine takeL (i := 8) (v := .int .i64 (l : Int)) rfl rfl (by kernel_rfl) (by kernel_rfl) (by kernel_rfl) (fun _ _ _ h => h) (Or.inl ⟨by rfl, ?_⟩) (by assumption) ?_
  · (intro w' hSw; have hq := hSw.1.cells.2.1; go_simp; try with_reducible rfl)
  try simp only [Act.put, List.setIfInBounds_toArray, List.set_cons_zero, List.set_cons_succ]
  refine takeL (i := 9) (v := ?_) rfl rfl (by kernel_rfl) (by kernel_rfl) (by kernel_rfl) (fun _ _ _ h => h) (Or.inl ⟨by rfl, ?_⟩) (by assumption) ?_
  rotate_left
  · (intro w' hSw; go_simp; try with_reducible rfl)
  try simp only [Act.put, List.setIfInBounds_toArray, List.set_cons_zero, List.set_cons_succ]
  refine takeL (i := 10) (v := ?_) rfl rfl (by kernel_rfl) (by kernel_rfl) (by kernel_rfl) (fun _ _ _ h => h) (Or.inl ⟨by rfl, ?_⟩) (by assumption) ?_
  rotate_left
  · (intro w' hSw; go_simp; try with_reducible rfl)
  try simp only [Act.put, List.setIfInBounds_toArray, List.set_cons_zero, List.set_cons_succ]
  refine takeL (i := 11) (v := .int .i64 (s : Int)) rfl rfl (by kernel_rfl) (by kernel_rfl) (by kernel_rfl) (fun _ _ _ h => h) (Or.inl ⟨by rfl, ?_⟩) (by assumption) ?_
  · (intro w' hSw; have hq := hSw.1.cells.2.2.2.1; go_simp; try with_reducible rfl)
  try simp only [Act.put, List.setIfInBounds_toArray, List.set_cons_zero, List.set_cons_succ]
  refine takeL (i := 12) (v := ?_) rfl rfl (by kernel_rfl) (by kernel_rfl) (by kernel_rfl) (fun _ _ _ h => h) (Or.inl ⟨by rfl, ?_⟩) (by assumption) ?_
  rotate_left
  · (intro w' hSw; go_simp; try with_reducible rfl)
  try simp only [Act.put, List.setIfInBounds_toArray, List.set_cons_zero, List.set_cons_succ]
  refine takeL (i := 13) (v := ?_) rfl rfl (by kernel_rfl) (by kernel_rfl) (by kernel_rfl) (fun _ _ _ h => h) (Or.inl ⟨by rfl, ?_⟩) (by assumption) ?_
  rotate_left
  · (intro w' hSw; go_simp; try with_reducible rfl)
  try simp only [Act.put, List.setIfInBounds_toArray, List.set_cons_zero, List.set_cons_succ]
  refine takeL (i := 14) (v := .int .i64 (e : Int)) rfl rfl (by kernel_rfl) (by kernel_rfl) (by kernel_rfl) (fun _ _ _ h => h) (Or.inl ⟨by rfl, ?_⟩) (by assumption) ?_
  · (intro w' hSw; have hq := hSw.1.cells.2.2.2.2; go_simp; try with_reducible rfl)
  try simp only [Act.put, List.setIfInBounds_toArray, List.set_cons_zero, List.set_cons_succ]
  refine takeL (i := 15) (v := ?_) rfl rfl (by kernel_rfl) (by kernel_rfl) (by kernel_rfl) (fun _ _ _ h => h) (Or.inl ⟨by rfl, ?_⟩) (by assumption) ?_
  rotate_left
  · (intro w' hSw; go_simp; try with_reducible rfl)
  try simp only [Act.put, List.setIfInBounds_toArray, List.set_cons_zero, List.set_cons_succ]
  refine wpAnyH_ready (rs := [0, 16]) (by kernel_rfl) (by simp) ?_
  refine consL rfl (fun K hK => ?_) (consL rfl (fun K hK => ?_) AllReadyH.nil)
  · rw [if_pos (by rfl)]
    go_simp
    refine (sizes_any _).mono ?_
    rintro e11 w11 ⟨rfl, hS11, b11⟩
    refine hK.out _ _ (⟨hHeld.1.below b11, xtrans hHeld.2 b11⟩) (fun hHeld => ?_)
    clear hK K
    try simp only [Act.put, List.setIfInBounds_toArray, List.set_cons_zero, List.set_cons_succ]
    refine wpAnyH_ready (rs := [16]) (by kernel_rfl) (by simp) ?_
    refine consL rfl (fun K hK => ?_) AllReadyH.nil
    · rw [if_pos (by rfl)]
      go_simp
      have hN12 : Blk (w11.alloc (.cells #[.int .u64 81, .int .u64 (k : Int), .int .u64 (n : Int), .int .u64 (l : Int), .int .u64 (s : Int), .int .u64 (e : Int)] 54)) w11.heap.size 54 .u64 [81, k, n, l, s, e] := Blk.new w11 _ .u64 _ _ rfl
      have bN12 := xnew w11 (.cells #[.int .u64 81, .int .u64 (k : Int), .int .u64 (n : Int), .int .u64 (l : Int), .int .u64 (s : Int), .int .u64 (e : Int)] 54)
      have hS12 := hS11.below bN12
      have hH12 := And.intro (hHeld.1.below bN12) (xtrans hHeld.2 bN12)
      change K _ (w11.alloc (.cells #[.int .u64 81, .int .u64 (k : Int), .int .u64 (n : Int), .int .u64 (l : Int), .int .u64 (s : Int), .int .u64 (e : Int)] 54))
      generalize w11.alloc (.cells #[.int .u64 81, .int .u64 (k : Int), .int .u64 (n : Int), .int .u64 (l : Int), .int .u64 (s : Int), .int .u64 (e : Int)] 54) = w12 at hN12 bN12 hH12 hS12 ⊢
      refine hK.out _ _ (hH12) (fun hHeld => ?_)
      clear hK K
      try simp only [Act.put, List.setIfInBounds_toArray, List.set_cons_zero, List.set_cons_succ]
      refine wpAnyH_ready (rs := [17]) (by kernel_rfl) (by simp) ?_
      refine consL rfl (fun K hK => ?_) AllReadyH.nil
      · rw [if_pos (by rfl)]
        go_simp
        refine (cF.out _ _ _ hS12 hN12).mono ?_
        rintro e5 w5 ⟨a5, m5, c5, rfl, l5, p5, b5⟩
        obtain rfl : m5 = 20 := l5.symm.trans HFL.out
        have o5 := p5.mono hHeld.2.size
        refine hK.out _ _ (⟨hHeld.1.below b5, xtrans hHeld.2 b5⟩) (fun hHeld => ?_)
        clear hK K
        try simp only [Act.put, List.setIfInBounds_toArray, List.set_cons_zero, List.set_cons_succ]
        refine takeL (i := 18) (v := ?_) rfl rfl (by kernel_rfl) (by kernel_rfl) (by kernel_rfl) (fun _ _ _ h => h) (Or.inl ⟨by rfl, ?_⟩) (by assumption) ?_
        rotate_left
        · (intro w' hSw; go_simp; try with_reducible rfl)
        try simp only [Act.put, List.setIfInBounds_toArray, List.set_cons_zero, List.set_cons_succ]
        refine takeL (i := 19) (v := ?_) rfl rfl (by kernel_rfl) (by kernel_rfl) (by kernel_rfl) (fun _ _ _ h => h) (Or.inl ⟨by rfl, ?_⟩) (by assumption) ?_
        rotate_left
        · (intro w' hSw; go_simp; try with_reducible rfl)
        try simp only [Act.put, List.setIfInBounds_toArray, List.set_cons_zero, List.set_cons_succ]
        refine takeL (i := 20) (v := ?_) rfl rfl (by kernel_rfl) (by kernel_rfl) (by kernel_rfl) (fun _ _ _ h => h) (Or.inl ⟨by rfl, ?_⟩) (by assumption) ?_
        rotate_left
        · (intro w' hSw; go_simp; try with_reducible rfl)
        try simp only [Act.put, List.setIfInBounds_toArray, List.set_cons_zero, List.set_cons_succ]
        refine takeL (i := 21) (v := ?_) rfl rfl (by kernel_rfl) (by kernel_rfl) (by kernel_rfl) (fun _ _ _ h => h) (Or.inl ⟨by rfl, ?_⟩) (by assumption) ?_
        rotate_left
        · (intro w' hSw; go_simp; try with_reducible rfl)
        try simp only [Act.put, List.setIfInBounds_toArray, List.set_cons_zero, List.set_cons_succ]
        refine takeL (i := 22) (v := ?_) rfl rfl (by kernel_rfl) (by kernel_rfl) (by kernel_rfl) (fun _ _ _ h => h) (Or.inl ⟨by rfl, ?_⟩) (by assumption) ?_
        rotate_left
        · (intro w' hSw; go_simp; try with_reducible rfl)
        try simp only [Act.put, List.setIfInBounds_toArray, List.set_cons_zero, List.set_cons_succ]
        refine wpAnyH_done (by kernel_rfl) ?_ _
        have bb5 := hHeld.2
        clear hHeld p5 l5
        go_wp2_with (first
          | (go_at_call 13; refine (Ad.Sum_any _ _ _ ys _ (o5.rdb HFL.out (by decide))).mono ?_; rintro e6 w6 ⟨rfl, b6⟩; rw [← HQ.out])
          | (go_at_call 31; refine (cP.out _).mono ?_; rintro e7 w7 ⟨a7, c7, rfl, o7, b7⟩; have b67 := xtrans b6 b7)
          | (at_builtin; refine wp_append rfl (.tmp 43) (.tmp 44) rfl w.heap.size _ ys rfl (o5.below b67) _ _ _ (le 4 q) rfl (o7.rdb (le_length _ _) (by decide)) (by rw [HFL.out, le_length]; decide) (Nat.le_trans bb5.size b67.size) ?_; intro v8 w8 o8 b8 _; obtain ⟨a8, c8, rfl, _, _⟩ := o8.rd (by rw [List.length_append, HFL.out, le_length]; decide); rw [List.length_append, HFL.out, le_length] at o8 ⊢)
          | fail)
        go_ret2
        exact ⟨a8, c8, rfl, o8, (xtrans bb5 b67).trans b8⟩
  · rw [if_pos (by rfl)]
    go_simp
    have hN11 : Blk (wv.alloc (.cells #[.int .u64 81, .int .u64 (k : Int), .int .u64 (n : Int), .int .u64 (l : Int), .int .u64 (s : Int), .int .u64 (e : Int)] 54)) wv.heap.size 54 .u64 [81, k, n, l, s, e] := Blk.new wv _ .u64 _ _ rfl
    have bN11 := xnew wv (.cells #[.int .u64 81, .int .u64 (k : Int), .int .u64 (n : Int), .int .u64 (l : Int), .int .u64 (s : Int), .int .u64 (e : Int)] 54)
    have hH11 := And.intro (hHeld.1.below bN11) (xtrans hHeld.2 bN11)
    change K _ (wv.alloc (.cells #[.int .u64 81, .int .u64 (k : Int), .int .u64 (n : Int), .int .u64 (l : Int), .int .u64 (s : Int), .int .u64 (e : Int)] 54))
    generalize wv.alloc (.cells #[.int .u64 81, .int .u64 (k : Int), .int .u64 (n : Int), .int .u64 (l : Int), .int .u64 (s : Int), .int .u64 (e : Int)] 54) = w11 at hN11 bN11 hH11 ⊢
    refine hK.out _ _ (hH11) (fun hHeld => ?_)
    clear hK K
    try simp only [Act.put, List.setIfInBounds_toArray, List.set_cons_zero, List.set_cons_succ]
    refine wpAnyH_ready (rs := [0]) (by kernel_rfl) (by simp) ?_
    refine consL rfl (fun K hK => ?_) AllReadyH.nil
    · rw [if_pos (by rfl)]
      go_simp
      refine (sizes_any _).mono ?_
      rintro e12 w12 ⟨rfl, hS12, b12⟩
      have hN12 := hN11.below b12
      refine hK.out _ _ (⟨hHeld.1.below b12, xtrans hHeld.2 b12⟩) (fun hHeld => ?_)
      clear hK K
      try simp only [Act.put, List.setIfInBounds_toArray, List.set_cons_zero, List.set_cons_succ]
      refine wpAnyH_ready (rs := [17]) (by kernel_rfl) (by simp) ?_
      refine consL rfl (fun K hK => ?_) AllReadyH.nil
      · rw [if_pos (by rfl)]
        go_simp
        refine (cF.out _ _ _ hS12 hN12).mono ?_
        rintro e5 w5 ⟨a5, m5, c5, rfl, l5, p5, b5⟩
        obtain rfl : m5 = 20 := l5.symm.trans HFL.out
        have o5 := p5.mono hHeld.2.size
        refine hK.out _ _ (⟨hHeld.1.below b5, xtrans hHeld.2 b5⟩) (fun hHeld => ?_)
        clear hK K
        try simp only [Act.put, List.setIfInBounds_toArray, List.set_cons_zero, List.set_cons_succ]
        refine takeL (i := 18) (v := ?_) rfl rfl (by kernel_rfl) (by kernel_rfl) (by kernel_rfl) (fun _ _ _ h => h) (Or.inl ⟨by rfl, ?_⟩) (by assumption) ?_
        rotate_left
        · (intro w' hSw; go_simp; try with_reducible rfl)
        try simp only [Act.put, List.setIfInBounds_toArray, List.set_cons_zero, List.set_cons_succ]
        refine takeL (i := 19) (v := ?_) rfl rfl (by kernel_rfl) (by kernel_rfl) (by kernel_rfl) (fun _ _ _ h => h) (Or.inl ⟨by rfl, ?_⟩) (by assumption) ?_
        rotate_left
        · (intro w' hSw; go_simp; try with_reducible rfl)
        try simp only [Act.put, List.setIfInBounds_toArray, List.set_cons_zero, List.set_cons_succ]
        refine takeL (i := 20) (v := ?_) rfl rfl (by kernel_rfl) (by kernel_rfl) (by kernel_rfl) (fun _ _ _ h => h) (Or.inl ⟨by rfl, ?_⟩) (by assumption) ?_
        rotate_left
        · (intro w' hSw; go_simp; try with_reducible rfl)
        try simp only [Act.put, List.setIfInBounds_toArray, List.set_cons_zero, List.set_cons_succ]
        refine takeL (i := 21) (v := ?_) rfl rfl (by kernel_rfl) (by kernel_rfl) (by kernel_rfl) (fun _ _ _ h => h) (Or.inl ⟨by rfl, ?_⟩) (by assumption) ?_
        rotate_left
        · (intro w' hSw; go_simp; try with_reducible rfl)
        try simp only [Act.put, List.setIfInBounds_toArray, List.set_cons_zero, List.set_cons_succ]
        refine takeL (i := 22) (v := ?_) rfl rfl (by kernel_rfl) (by kernel_rfl) (by kernel_rfl) (fun _ _ _ h => h) (Or.inl ⟨by rfl, ?_⟩) (by assumption) ?_
        rotate_left
        · (intro w' hSw; go_simp; try with_reducible rfl)
        try simp only [Act.put, List.setIfInBounds_toArray, List.set_cons_zero, List.set_cons_succ]
        refine wpAnyH_done (by kernel_rfl) ?_ _
        have bb5 := hHeld.2
        clear hHeld p5 l5
        go_wp2_with (first
          | (go_at_call 13; refine (Ad.Sum_any _ _ _ ys _ (o5.rdb HFL.out (by decide))).mono ?_; rintro e6 w6 ⟨rfl, b6⟩; rw [← HQ.out])
          | (go_at_call 31; refine (cP.out _).mono ?_; rintro e7 w7 ⟨a7, c7, rfl, o7, b7⟩; have b67 := xtrans b6 b7)
          | (at_builtin; refine wp_append rfl (.tmp 43) (.tmp 44) rfl w.heap.size _ ys rfl (o5.below b67) _ _ _ (le 4 q) rfl (o7.rdb (le_length _ _) (by decide)) (by rw [HFL.out, le_length]; decide) (Nat.le_trans bb5.size b67.size) ?_; intro v8 w8 o8 b8 _; obtain ⟨a8, c8, rfl, _, _⟩ := o8.rd (by rw [List.length_append, HFL.out, le_length]; decide); rw [List.length_append, HFL.out, le_length] at o8 ⊢)
          | fail)
        go_ret2
        exact ⟨a8, c8, rfl, o8, (xtrans bb5 b67).trans b8⟩
theorem Write_no (w : World) (h : Hd) (ho : okH h = false) : Calls Try.prog 12 #[h.v] w fun e w' => e = .returned (.tuple #[.slice none 0 0, .int .i64 110]) ∧ Below w.heap.size w w' := by
  have cC := Lib.hid (fun W => Check_any W h)
  rw [okE_no ho, show ((110 : Nat) : Int) = 110 from rfl] at cC
  clear ho
  show Calls Try.prog 12 #[.agg #[.int .i64 h.kind, .int .i64 h.lba, .int .i64 h.len, .int .i64 h.seq, .int .i64 h.epoch]] w _
  go_enter Try.func12, Try.ntmps12
  have bb0 := xnew w (.cells #[.int .i64 h.kind, .int .i64 h.lba, .int .i64 h.len, .int .i64 h.seq, .int .i64 h.epoch] 23)
  go_wp2_with (first
    | (go_at_call 18; refine (cC.out _).mono ?_; rintro e1 w1 ⟨rfl, b1⟩; have bb1 := xtrans bb0 b1; clear bb0 b1)
    | fail)
  go_ret2
  exact ⟨rfl, bb1⟩
theorem Write_any (w : World) (h : Hd) : Calls Try.prog 12 #[h.v] w (WriteOK w h) := by
  cases ho : okH h with
  | true =>
    refine (Write_ok w h ho).mono ?_
    rintro e w' ⟨ad, cp, rfl, hO, hb⟩
    exact ⟨ad, 24, cp, by rw [okE_ok ho]; rfl, by unfold writeB; rw [ho]; exact headB_length h, by unfold writeB; rw [ho]; exact hO, hb⟩
  | false =>
    refine (Write_no w h ho).mono ?_
    rintro e w' ⟨rfl, hb⟩
    exact ⟨none, 0, 0, by rw [okE_no ho]; rfl, by unfold writeB; rw [ho]; rfl, by unfold writeB; rw [ho]; exact Own.nil _ _, hb⟩

set_option maxHeartbeats 4000000 in
theorem rbytes_ok (w : World) (h : Hd) (ho : okH h = true) : Calls Try.prog 37 #[h.v] w fun e w' => ∃ ad cp, e = .returned (.slice ad 24 cp) ∧ Own w' w.heap.size (.slice ad 24 cp) (headB h) ∧ Below w.heap.size w w' := by
  obtain ⟨k, l, n, s, e, rfl, hk, hl, hn, hs, he⟩ := ok_nat ho
  have hu1 := u64_of k (by omega)
  have hu2 := u64_of n (by omega)
  have hu3 := u64_of l (by omega)
  have hu4 := u64_of s (by omega)
  have hu5 := u64_of e (by omega)
  have hsm := nums_small (k := k) (n := n) (l := l) (s := s) (e := e) (by omega) (by omega) (by omega) (by omega) (by omega)
  have HSM := Lib.hid hsm
  have hfl := flat_length6 81 k n l s e
  have hfb := flat_lt sizes6 [81, k, n, l, s, e]
  have hhB : headB ⟨(k : Int), (l : Int), (n : Int), (s : Int), (e : Int)⟩ = flat sizes6 [81, k, n, l, s, e] ++ le 4 (Ad.more 1 (flat sizes6 [81, k, n, l, s, e])) := by unfold headB; rw [body20_nat]
  rw [hhB]
  clear hsm hhB
  have cF := Lib.hid (fun (W : World) (B C : Nat) (hB : Blk W B 3 .i64 sizes6) (hC : Blk W C 54 .u64 [81, k, n, l, s, e]) => rFields_any W B C 6 sizes6 [81, k, n, l, s, e] hB hC rfl rfl sizes6_ok HSM.out (by decide))
  obtain ⟨ys, hys⟩ : ∃ ys, ys = flat sizes6 [81, k, n, l, s, e] := ⟨_, rfl⟩
  rw [← hys] at hfl hfb cF ⊢
  obtain ⟨q, hq⟩ : ∃ q, q = Ad.more 1 ys := ⟨_, rfl⟩
  have hql : q < 256 ^ 4 := by rw [hq]; exact Nat.lt_of_lt_of_le (Ad.more_lt 1 ys) (by decide)
  have hq4 : q < 4294967296 := hql
  rw [← hq]
  have HQ := Lib.hid hq
  have HFL := Lib.hid hfl
  have HQL := Lib.hid hql
  have cP := Lib.hid (fun W => rPut_any W q 4 (by decide) HQL.out)
  clear hys hq hfl hql
  show Calls Try.prog 37 #[.agg #[.int .i64 (k : Int), .int .i64 (l : Int), .int .i64 (n : Int), .int .i64 (s : Int), .int .i64 (e : Int)]] w _
  go_enter Try.func37, Try.ntmps37
  have hb0 : HBlk (w.alloc (.cells #[.int .i64 (k : Int), .int .i64 (l : Int), .int .i64 (n : Int), .int .i64 (s : Int), .int .i64 (e : Int)] 23)) w.heap.size ⟨(k : Int), (l : Int), (n : Int), (s : Int), (e : Int)⟩ := HBlk.new w ⟨(k : Int), (l : Int), (n : Int), (s : Int), (e : Int)⟩
  have bb0 := xnew w (.cells #[.int .i64 (k : Int), .int .i64 (l : Int), .int .i64 (n : Int), .int .i64 (s : Int), .int .i64 (e : Int)] 23)
  go_upto_region 1 with fail
  generalize w.alloc (.cells #[.int .i64 (k : Int), .int .i64 (l : Int), .int .i64 (n : Int), .int .i64 (s : Int), .int .i64 (e : Int)] 23) = W0 at hb0 bb0 ⊢
  have hbs := hb0.alloc (.cells #[.int .i64 1, .int .i64 1, .int .i64 2, .int .i64 4, .int .i64 8, .int .i64 4] 3)
  obtain ⟨q0, q1, q2, q3, q4⟩ := hbs.cells
  dsimp only at q0 q1 q2 q3 q4
  go_wp2_with (first
    | (go_at_call 52; refine (cF.out _ _ _ ((Blk.new W0 3 .i64 sizes6 _ rfl).alloc _) (blk_new2 W0 _ 54 .u64 [81, k, n, l, s, e] _ rfl)).mono ?_; rintro e5 w5 ⟨a5, m5, c5, rfl, l5, p5, b5⟩; obtain rfl : m5 = 20 := l5.symm.trans HFL.out; have bb1 := xalloc (xalloc bb0 (.cells (nv .i64 sizes6).toArray 3)) (.cells (nv .u64 [81, k, n, l, s, e]).toArray 54); have o5 := p5.mono bb1.size; have bb5 := xtrans bb1 b5; clear q0 q1 q2 q3 q4 hbs hb0 bb0 bb1 p5 b5)
    | (go_at_call 54; refine (Ad.RefMore_any 1 a5 20 c5 ys w5 (by decide) (by decide) (o5.rdb HFL.out (by decide))).mono ?_; rintro e6 w6 ⟨rfl, rfl⟩; rw [show (1 : Int).toNat = 1 from rfl, ← HQ.out])
    | (go_at_call 53; refine (cP.out _).mono ?_; rintro e7 w7 ⟨a7, c7, rfl, o7, b7⟩)
    | (at_builtin; refine wp_append rfl (.tmp 35) (.tmp 36) rfl w.heap.size _ ys rfl (o5.below b7) _ _ _ (le 4 q) rfl (o7.rdb (le_length _ _) (by decide)) (by rw [HFL.out, le_length]; decide) (Nat.le_trans bb5.size b7.size) ?_; intro v8 w8 o8 b8 _; obtain ⟨a8, c8, rfl, _, _⟩ := o8.rd (by rw [List.length_append, HFL.out, le_length]; decide); rw [List.length_append, HFL.out, le_length] at o8 ⊢)
    | fail)
  go_ret
  exact ⟨a8, c8, rfl, o8, (xtrans bb5 b7).trans b8⟩
theorem rWrite_ok (w : World) (h : Hd) (ho : okH h = true) : Calls Try.prog 16 #[h.v] w fun e w' => ∃ ad cp, e = .returned (.tuple #[.slice ad 24 cp, .int .i64 0]) ∧ Own w' w.heap.size (.slice ad 24 cp) (headB h) ∧ Below w.heap.size w w' := by
  have cC := Lib.hid (fun W => rCheck_any W h)
  rw [okE_ok ho, show ((0 : Nat) : Int) = 0 from rfl] at cC
  have cB := Lib.hid (fun W => rbytes_ok W h ho)
  have uH := Try.underlying23
  clear ho
  show Calls Try.prog 16 #[.agg #[.int .i64 h.kind, .int .i64 h.lba, .int .i64 h.len, .int .i64 h.seq, .int .i64 h.epoch]] w _
  go_enter Try.func16, Try.ntmps16
  have hb0 := HBlk.new w h
  have bb0 := xnew w (.cells #[.int .i64 h.kind, .int .i64 h.lba, .int .i64 h.len, .int .i64 h.seq, .int .i64 h.epoch] 23)
  go_wp2_with (first
    | (go_at_call 19; refine (cC.out _).mono ?_; rintro e1 w1 ⟨rfl, b1⟩; have hb1 := hb0.below b1; have bb1 := xtrans bb0 b1; clear hb0 bb0 b1)
    | (refine wpList_of_wp rfl (wp_load_row 23 (.tmp 1) rfl w.heap.size rfl _ _ _ _ hb1 uH rfl hszH ?_))
    | (go_at_call 37; refine (cB.out _).mono ?_; rintro e2 w2 ⟨a2, c2, rfl, o2, b2⟩)
    | fail)
  go_ret2
  exact ⟨a2, c2, rfl, o2.mono bb1.size, xtrans bb1 b2⟩
theorem rWrite_no (w : World) (h : Hd) (ho : okH h = false) : Calls Try.prog 16 #[h.v] w fun e w' => e = .returned (.tuple #[.slice none 0 0, .int .i64 110]) ∧ Below w.heap.size w w' := by
  have cC := Lib.hid (fun W => rCheck_any W h)
  rw [okE_no ho, show ((110 : Nat) : Int) = 110 from rfl] at cC
  clear ho
  show Calls Try.prog 16 #[.agg #[.int .i64 h.kind, .int .i64 h.lba, .int .i64 h.len, .int .i64 h.seq, .int .i64 h.epoch]] w _
  go_enter Try.func16, Try.ntmps16
  have bb0 := xnew w (.cells #[.int .i64 h.kind, .int .i64 h.lba, .int .i64 h.len, .int .i64 h.seq, .int .i64 h.epoch] 23)
  go_wp2_with (first
    | (go_at_call 19; refine (cC.out _).mono ?_; rintro e1 w1 ⟨rfl, b1⟩; have bb1 := xtrans bb0 b1; clear bb0 b1)
    | fail)
  go_ret2
  exact ⟨rfl, bb1⟩
theorem rWrite_any (w : World) (h : Hd) : Calls Try.prog 16 #[h.v] w (WriteOK w h) := by
  cases ho : okH h with
  | true =>
    refine (rWrite_ok w h ho).mono ?_
    rintro e w' ⟨ad, cp, rfl, hO, hb⟩
    exact ⟨ad, 24, cp, by rw [okE_ok ho]; rfl, by unfold writeB; rw [ho]; exact headB_length h, by unfold writeB; rw [ho]; exact hO, hb⟩
  | false =>
    refine (rWrite_no w h ho).mono ?_
    rintro e w' ⟨rfl, hb⟩
    exact ⟨none, 0, 0, by rw [okE_no ho]; rfl, by unfold writeB; rw [ho]; rfl, by unfold writeB; rw [ho]; exact Own.nil _ _, hb⟩
end Go.Proofs.Ytpcppnoomogloaa.Fr
