/- The walks of Read, and of the document's. -/
import Derived.Test.YtpcppnoomogloaaFrW4
import Derived.Laws.ResultCell
set_option maxRecDepth 4000
namespace Go.Proofs.Ytpcppnoomogloaa.Fr
set_option linter.unusedSimpArgs false
set_option linter.unusedVariables false
open Go.RowKit

/-- A head into a variable: the operation alone. -/
theorem wpo_store_head {o : Oper} {a : Act} {w : World} {K : Act → World → Prop} {Q : Exit → Act → World → Prop} (x y : Operand) (ho : o.op = .store 23 x y) (B : Nat) (hx : a.eval x = .pointer (some ⟨B, 0, none⟩)) {h0 h1 : Hd} (hB : HBlk w B h0) (hy : a.eval y = h1.v)
    (h : ∀ w', HBlk w' B h1 → w.grownBy w' (some B) → K (a.put o.dst undef) w') : o.wp Try.prog a w K Q := by
  have hrun := run_storeVar_row (P := Try.prog) w B 23 23 _ #[.int .i64 h1.kind, .int .i64 h1.lba, .int .i64 h1.len, .int .i64 h1.seq, .int .i64 h1.epoch] hB hszH rfl (by simp [Value.oneCell'])
  have hrun2 : (Instr.storeAt 23 (.pointer (some ⟨B, 0, none⟩)) h1.v).run Try.prog w = .ok () (w.setRow B #[.int .i64 h1.kind, .int .i64 h1.lba, .int .i64 h1.len, .int .i64 h1.seq, .int .i64 h1.epoch]) := by
    simp only [Instr.storeAt, Instr.sureAddr, Sem.run_bind, Sem.run_pure, Result.andThen]
    exact hrun
  unfold Oper.wp
  simp [execOp, ho, hx, hy, hrun2, Result.andThen]
  refine h _ ?_ ?_
  · unfold HBlk World.setRow
    simp only [Array.getElem?_modify, if_true]
    rw [show w.heap[B]? = _ from hB]
    rfl
  · refine ⟨rfl, rfl, rfl, by simp [World.setRow], fun j hj hne => ?_⟩
    unfold World.setRow
    simp only [Array.getElem?_modify]
    rw [if_neg (fun e => hne (by rw [e]))]
theorem wp_store_head {ops : Array Oper} {rest : List Oper} {o : Oper} {a : Act} {w : World} {Q : Exit → Act → World → Prop} (hw : Region.wanted o (yielded ops a.tmps) = true) (x y : Operand) (ho : o.op = .store 23 x y) (B : Nat) (hx : a.eval x = .pointer (some ⟨B, 0, none⟩)) {h0 h1 : Hd} (hB : HBlk w B h0) (hy : a.eval y = h1.v)
    (h : ∀ w', HBlk w' B h1 → w.grownBy w' (some B) → wpList Try.prog ops Q rest (a.put o.dst undef) w') : wpList Try.prog ops Q (o :: rest) a w := wpList_of_wp hw (wpo_store_head x y ho B hx hB hy h)
theorem wp_load_head {ops : Array Oper} {rest : List Oper} {o : Oper} {a : Act} {w : World} {Q : Exit → Act → World → Prop} (hw : Region.wanted o (yielded ops a.tmps) = true) (x : Operand) (ho : o.op = .load 23 x) (B : Nat) (hx : a.eval x = .pointer (some ⟨B, 0, none⟩)) {h0 : Hd} (hB : HBlk w B h0)
    (h : wpList Try.prog ops Q rest (a.put o.dst h0.v) w) : wpList Try.prog ops Q (o :: rest) a w := wpList_of_wp hw (wp_load_row 23 x ho B hx _ _ _ _ hB Try.underlying23 rfl hszH h)
theorem run_load_head {w : World} {B : Nat} {h0 : Hd} (hB : HBlk w B h0) : (loadVar 23 ⟨B, 0, none⟩).run Try.prog w = .ok h0.v w := run_loadVar_row w B 23 23 _ (0, 0) _ hB Try.underlying23 rfl hszH
/-- A head out of its variable, in a region whose class tells it. -/
theorem yieldsHead {ops : Array Oper} {C : World → Prop} {o : Oper} {a : Act} (x : Operand) (hw : Region.wanted o (yielded ops a.tmps) = true) (ho : o.op = .load 23 x) (B : Nat) (hx : a.eval x = .pointer (some ⟨B, 0, none⟩)) {h0 : Hd} (hB : ∀ w, C w → HBlk w B h0) : YieldsIf Try.prog ops C o h0.v a :=
  .inl ⟨hw, fun w hC => by
    unfold execOp
    simp only [ho, hx, Instr.loadAt, Instr.sureAddr, Sem.run_bind, Sem.run_pure, Result.andThen_ok, run_load_head (hB w hC)]⟩
theorem results_head {fn : Func} {p u : Tmp} (h : fn.results = #[.cell p 23, .tmp u]) (tmps : Array Value) (w : World) (B : Nat) (h0 : Hd) (hp : tmps.getD p undef = .pointer (some ⟨B, 0, none⟩)) (hB : HBlk w B h0) (x : Value) (hu : tmps.getD u undef = x) :
    (results fn tmps).run Try.prog w = .ok (.tuple #[h0.v, x]) w := by
  rw [results_cell_tmp h, hp, hu]
  simp [asAddr, run_load_head hB, Result.andThen]

/-- Block g begins with the numbers ns. -/
def UC (w : World) (g : Nat) (ns : List Nat) : Prop := g < w.heap.size ∧ ∀ i, i < ns.length → w.cell? ⟨g, i, none⟩ = some (.int .u64 ((ns.getD i 0 : Nat) : Int))
theorem UC.below {w w' : World} {g : Nat} {ns : List Nat} (h : UC w g ns) (hb : Below w.heap.size w w') : UC w' g ns := ⟨Nat.lt_of_lt_of_le h.1 hb.size, fun i hi => (hb.cell (p := ⟨g, i, none⟩) h.1).trans (h.2 i hi)⟩
theorem UC.grown {w w' : World} {g : Nat} {ns : List Nat} (h : UC w g ns) {B : Nat} (hg : w.grownBy w' (some B)) (hne : g ≠ B) : UC w' g ns := ⟨Nat.lt_of_lt_of_le h.1 hg.size, fun i hi => hg.cell (h.2 i hi) (fun e => hne (Option.some.inj e))⟩
theorem uc_of_row {w : World} {base n : Nat} {v : Value} {ns : List Nat} (h : w.ownsRow base 54 1 v n (nv .u64 ns)) (hl : ns.length = n) (h0 : 0 < n) : ∃ g c, v = .slice (some ⟨g, 0, none⟩) n c ∧ base ≤ g ∧ UC w g ns := by
  rcases row_shape h with ⟨_, h1⟩ | ⟨g, c, hv, hb, hlt, _, _, hc, _⟩
  · omega
  · exact ⟨g, c, hv, hb, hlt, fun i hi => by rw [hc i (by omega)]; exact nv_get .u64 ns i hi⟩
theorem split6_eq (bs : List Nat) : splitN sizes6 bs = [num (bs.take 1), num ((bs.drop 1).take 1), num (((bs.drop 1).drop 1).take 2), num ((((bs.drop 1).drop 1).drop 2).take 4), num (((((bs.drop 1).drop 1).drop 2).drop 4).take 8), num ((((((bs.drop 1).drop 1).drop 2).drop 4).drop 8).take 4)] := rfl
theorem num_part {bs xs : List Nat} (hb : ∀ x ∈ bs, x < 256) (hs : ∀ x ∈ xs, x ∈ bs) (k : Nat) : num (xs.take k) < 256 ^ k := Nat.lt_of_lt_of_le (num_lt _ (fun x hx => hb x (hs x (List.mem_of_mem_take hx)))) (Nat.pow_le_pow_right (by decide) (by rw [List.length_take]; exact Nat.min_le_left _ _))
/-- The six numbers that the first bytes are. -/
theorem split6_of (bs : List Nat) (hb : ∀ x ∈ bs, x < 256) : ∃ m k n l s e : Nat, splitN sizes6 bs = [m, k, n, l, s, e] ∧ m < 256 ∧ k < 256 ∧ n < 65536 ∧ l < 4294967296 ∧ s < 18446744073709551616 ∧ e < 4294967296 := by
  refine ⟨_, _, _, _, _, _, split6_eq bs, ?_, ?_, ?_, ?_, ?_, ?_⟩
  · exact num_part hb (fun x hx => hx) 1
  · exact num_part hb (fun x hx => List.mem_of_mem_drop hx) 1
  · exact num_part hb (fun x hx => List.mem_of_mem_drop (List.mem_of_mem_drop hx)) 2
  · exact num_part hb (fun x hx => List.mem_of_mem_drop (List.mem_of_mem_drop (List.mem_of_mem_drop hx))) 4
  · exact num_part hb (fun x hx => List.mem_of_mem_drop (List.mem_of_mem_drop (List.mem_of_mem_drop (List.mem_of_mem_drop hx)))) 8
  · exact num_part hb (fun x hx => List.mem_of_mem_drop (List.mem_of_mem_drop (List.mem_of_mem_drop (List.mem_of_mem_drop (List.mem_of_mem_drop hx))))) 4
theorem read_yes {bs : List Nat} {h : Hd} (hN : readN bs = h) (hb : readB bs = true) : readH bs = h ∧ readE bs = 0 := by unfold readH readE; rw [hb, hN]; exact ⟨rfl, rfl⟩
theorem read_not {bs : List Nat} (hb : readB bs = false) : readH bs = hd0 ∧ readE bs = 110 := by unfold readH readE; rw [hb]; exact ⟨rfl, rfl⟩
theorem readB_no {bs : List Nat} (h : ¬ (24 ≤ bs.length ∧ okH (readN bs) = true ∧ headB (readN bs) = bs.take 24)) : readB bs = false := by
  cases hb : readB bs with
  | false => rfl
  | true => exact absurd ((readB_iff bs).1 hb) h
theorem i64_of (n : Nat) (h : n < 9223372036854775808) : IntKind.i64.wrap (n : Int) = (n : Int) := by rw [IntKind.wrap_i64]; omega
def ReadOK (w : World) (bs : List Nat) (e : Ending) (w' : World) : Prop := e = .returned (.tuple #[(readH bs).v, .int .i64 ((readE bs : Nat) : Int)]) ∧ Below w.heap.size w w'

set_option maxRecDepth 100000 in
set_option maxHeartbeats 8000000 in
theorem Read_any (w : World) (a : Option Addr) (len cap : Nat) (bs : List Nat) (hr : RdB w a len cap bs) : Calls Try.prog 14 #[.slice a len cap] w (ReadOK w bs) := by
  have hbl : bs.length = len := hr.2.1
  have hlc : len ≤ cap := hr.2.2.1
  have hcm : cap ≤ 9223372036854775807 := hr.2.2.2.1
  have hlm : len ≤ 1000000000 := hr.1
  have hb0 : HBlk (w.alloc (.cells #[.int .i64 0, .int .i64 0, .int .i64 0, .int .i64 0, .int .i64 0] 23)) w.heap.size hd0 := HBlk.new w hd0
  have bb0 := xnew w (.cells #[.int .i64 0, .int .i64 0, .int .i64 0, .int .i64 0, .int .i64 0] 23)
  by_cases h24 : 24 ≤ len
  · have d24 : decide ((len : Int) < 24) = false := decide_eq_false (by omega)
    have hcap20 : (20 : Int) ≤ (cap : Int) := by omega
    have hcap24 : (24 : Int) ≤ (cap : Int) := by omega
    have h20 : 20 ≤ len := by omega
    obtain ⟨m, k, n, l, s, e, hsp, hm, hk, hn, hl, hs, he⟩ := split6_of (bs.take 20) (fun x hx => hr.2.2.2.2.1 x (List.mem_of_mem_take hx))
    have hN : readN bs = ⟨(k : Int), (l : Int), (n : Int), (s : Int), (e : Int)⟩ := by unfold readN headOf; rw [hsp]; rfl
    have cS := Lib.hid (fun (W : World) (B : Nat) (hB : Blk W B 3 .i64 sizes6) (hr : RdB W a 20 cap (bs.take 20)) => Split_any W B 6 sizes6 a 20 cap (bs.take 20) hB rfl hr sizes6_ok rfl (by decide))
    rw [hsp] at cS
    have HN := Lib.hid hN
    have HBL := Lib.hid hbl
    have hr0 := hr.below bb0
    have HLOW := Lib.hid (rdb_low hr)
    clear hsp hN hbl hr
    have ku := i64_of k (by omega)
    have nu := i64_of n (by omega)
    have lu := i64_of l (by omega)
    have eu := i64_of e (by omega)
    go_enter Try.func14, Try.ntmps14
    go_wp2_with fail
    refine wp_region_held_drew (S := fun W => HBlk W w.heap.size hd0 ∧ RdB W a len cap bs ∧ Below w.heap.size w W) (by kernel_rfl) (⟨hb0.drew, hr0, below_drewN bb0 1⟩) (fun hHeld => ?_)
    generalize World.drew _ = wv at hHeld ⊢
    clear hb0 hr0 bb0
    refine takeL (i := 1) (v := ?_) rfl rfl (by kernel_rfl) (by kernel_rfl) (by kernel_rfl) (fun _ _ _ h => h) (Or.inl ⟨by rfl, ?_⟩) (by assumption) ?_
    rotate_left
    · (intro w' hSw; go_simp; try with_reducible rfl)
    try simp only [Act.put, List.setIfInBounds_toArray, List.set_cons_zero, List.set_cons_succ]
    refine takeL (i := 2) (v := ?_) rfl rfl (by kernel_rfl) (by kernel_rfl) (by kernel_rfl) (fun _ _ _ h => h) (Or.inl ⟨by rfl, ?_⟩) (by assumption) ?_
    rotate_left
    · (intro w' hSw; go_simp; try with_reducible rfl)
    try simp only [Act.put, List.setIfInBounds_toArray, List.set_cons_zero, List.set_cons_succ]
    refine wpAnyH_ready (rs := [0]) (by kernel_rfl) (by simp) ?_
    refine consL rfl (fun K hK => ?_) AllReadyH.nil
    · rw [if_pos (by rfl)]
      go_simp
      refine (sizes_any _).mono ?_
      rintro e2 w2 ⟨rfl, hS2, b2⟩
      refine hK.out _ _ (⟨hHeld.1.below b2, hHeld.2.1.below b2, xtrans hHeld.2.2 b2⟩) (fun hHeld => ?_)
      clear hK K
      try simp only [Act.put, List.setIfInBounds_toArray, List.set_cons_zero, List.set_cons_succ]
      refine wpAnyH_ready (rs := [3]) (by kernel_rfl) (by simp) ?_
      refine consL rfl (fun K hK => ?_) AllReadyH.nil
      · rw [if_pos (by rfl)]
        go_simp
        refine (cS.out _ _ hS2 (rdb_take hHeld.2.1 20 h20)).mono ?_
        rintro e3 w3 ⟨v3, rfl, o3, b3⟩
        obtain ⟨g, c3, rfl, hgb, u3⟩ := uc_of_row o3 rfl (by decide)
        have hgne : g ≠ w.heap.size := by have := hHeld.1.lt; omega
        have hrne : ∀ x, a = some x → some w.heap.size ≠ some x.block := fun x hx e => by have := HLOW.out x hx (by omega); have := Option.some.inj e; omega
        refine hK.out _ _ (⟨hHeld.1.below b3, hHeld.2.1.below b3, xtrans hHeld.2.2 b3⟩) (fun hHeld => ?_)
        clear hK K
        try simp only [Act.put, List.setIfInBounds_toArray, List.set_cons_zero, List.set_cons_succ]
        refine takeL (i := 4) (v := ?_) rfl rfl (by kernel_rfl) (by kernel_rfl) (by kernel_rfl) (fun _ _ _ h => h) (Or.inl ⟨by rfl, ?_⟩) (by assumption) ?_
        rotate_left
        · (intro w' hSw; go_simp; try with_reducible rfl)
        try simp only [Act.put, List.setIfInBounds_toArray, List.set_cons_zero, List.set_cons_succ]
        refine takeL (i := 5) (v := ?_) rfl rfl (by kernel_rfl) (by kernel_rfl) (by kernel_rfl) (fun _ _ _ h => h) (Or.inl ⟨by rfl, ?_⟩) (by assumption) ?_
        rotate_left
        · (intro w' hSw; go_simp; try with_reducible rfl)
        try simp only [Act.put, List.setIfInBounds_toArray, List.set_cons_zero, List.set_cons_succ]
        refine takeL (i := 6) (v := ?_) rfl rfl (by kernel_rfl) (by kernel_rfl) (by kernel_rfl) (fun _ _ _ h => h) (Or.inl ⟨by rfl, ?_⟩) (by assumption) ?_
        rotate_left
        · (intro w' hSw; go_simp; try with_reducible rfl)
        try simp only [Act.put, List.setIfInBounds_toArray, List.set_cons_zero, List.set_cons_succ]
        refine takeL (i := 7) (v := ?_) rfl rfl (by kernel_rfl) (by kernel_rfl) (by kernel_rfl) (fun _ _ _ h => h) (Or.inl ⟨by rfl, ?_⟩) (by assumption) ?_
        rotate_left
        · (intro w' hSw; go_simp; try with_reducible rfl)
        try simp only [Act.put, List.setIfInBounds_toArray, List.set_cons_zero, List.set_cons_succ]
        refine takeL (i := 8) (v := ?_) rfl rfl (by kernel_rfl) (by kernel_rfl) (by kernel_rfl) (fun _ _ _ h => h) (Or.inl ⟨by rfl, ?_⟩) (by assumption) ?_
        rotate_left
        · (intro w' hSw; go_simp; try with_reducible rfl)
        try simp only [Act.put, List.setIfInBounds_toArray, List.set_cons_zero, List.set_cons_succ]
        refine wpAnyH_done (by kernel_rfl) ?_ _
        have hb3 := hHeld.1
        have r3 := hHeld.2.1
        have bb3 := hHeld.2.2
        have hi6 : (4 : Int) < 6 := by decide
        clear hHeld o3 b3 hS2
        by_cases hbig : s ≤ 4611686018427387903
        · have dbig : decide ((s : Int) > 4611686018427387903) = false := decide_eq_false (by omega)
          have dbig2 : decide ((s : Int) ≥ 4611686018427387904) = false := decide_eq_false (by omega)
          have su := i64_of s (by omega)
          have q4 : w3.cell? ⟨g, 4, none⟩ = some (.int .u64 (s : Int)) := u3.2 4 (show 4 < 6 by decide)
          go_wp2_with fail
          clear q4
          refine wp_region_held_drew (S := fun W => RdB W a len cap bs ∧ UC W g [m, k, n, l, s, e] ∧ Below w.heap.size w W) (by kernel_rfl) (⟨r3, u3, below_drewN bb3 1⟩) (fun hHeld => ?_)
          have hX0 := hb3.drew
          generalize World.drew _ = wv at hHeld hX0 ⊢
          clear hb3 r3 bb3 u3
          refine takeL (i := 0) (v := ?_) rfl rfl (by kernel_rfl) (by kernel_rfl) (by kernel_rfl) (fun _ _ _ h => h) (Or.inl ⟨by rfl, ?_⟩) (by assumption) ?_
          rotate_left
          · (intro w' hSw; go_simp; try with_reducible rfl)
          try simp only [Act.put, List.setIfInBounds_toArray, List.set_cons_zero, List.set_cons_succ]
          refine takeL (i := 1) (v := ?_) rfl rfl (by kernel_rfl) (by kernel_rfl) (by kernel_rfl) (fun _ _ _ h => h) (Or.inl ⟨by rfl, ?_⟩) (by assumption) ?_
          rotate_left
          · (intro w' hSw; go_simp; try with_reducible rfl)
          try simp only [Act.put, List.setIfInBounds_toArray, List.set_cons_zero, List.set_cons_succ]
          refine takeL (i := 2) (v := .int .u64 (k : Int)) rfl rfl (by kernel_rfl) (by kernel_rfl) (by kernel_rfl) (fun _ _ _ h => h) (Or.inl ⟨by rfl, ?_⟩) (by assumption) ?_
          · (intro w' hSw; have hq := hSw.2.1.2 1 (show 1 < 6 by decide); go_simp; try with_reducible rfl)
          try simp only [Act.put, List.setIfInBounds_toArray, List.set_cons_zero, List.set_cons_succ]
          refine takeL (i := 3) (v := ?_) rfl rfl (by kernel_rfl) (by kernel_rfl) (by kernel_rfl) (fun _ _ _ h => h) (Or.inl ⟨by rfl, ?_⟩) (by assumption) ?_
          rotate_left
          · (intro w' hSw; go_simp; try with_reducible rfl)
          try simp only [Act.put, List.setIfInBounds_toArray, List.set_cons_zero, List.set_cons_succ]
          refine takeL (i := 4) (v := ?_) rfl rfl (by kernel_rfl) (by kernel_rfl) (by kernel_rfl) (fun _ _ _ h => h) (Or.inl ⟨by rfl, ?_⟩) (by assumption) ?_
          rotate_left
          · (intro w' hSw; go_simp; try with_reducible rfl)
          try simp only [Act.put, List.setIfInBounds_toArray, List.set_cons_zero, List.set_cons_succ]
          refine takeL (i := 5) (v := ?_) rfl rfl (by kernel_rfl) (by kernel_rfl) (by kernel_rfl) (fun _ _ _ h => h) (Or.inl ⟨by rfl, ?_⟩) (by assumption) ?_
          rotate_left
          · (intro w' hSw; go_simp; try with_reducible rfl)
          try simp only [Act.put, List.setIfInBounds_toArray, List.set_cons_zero, List.set_cons_succ]
          refine takeL (i := 6) (v := .int .u64 (n : Int)) rfl rfl (by kernel_rfl) (by kernel_rfl) (by kernel_rfl) (fun _ _ _ h => h) (Or.inl ⟨by rfl, ?_⟩) (by assumption) ?_
          · (intro w' hSw; have hq := hSw.2.1.2 2 (show 2 < 6 by decide); go_simp; try with_reducible rfl)
          try simp only [Act.put, List.setIfInBounds_toArray, List.set_cons_zero, List.set_cons_succ]
          refine takeL (i := 7) (v := ?_) rfl rfl (by kernel_rfl) (by kernel_rfl) (by kernel_rfl) (fun _ _ _ h => h) (Or.inl ⟨by rfl, ?_⟩) (by assumption) ?_
          rotate_left
          · (intro w' hSw; go_simp; try with_reducible rfl)
          try simp only [Act.put, List.setIfInBounds_toArray, List.set_cons_zero, List.set_cons_succ]
          refine takeL (i := 8) (v := ?_) rfl rfl (by kernel_rfl) (by kernel_rfl) (by kernel_rfl) (fun _ _ _ h => h) (Or.inl ⟨by rfl, ?_⟩) (by assumption) ?_
          rotate_left
          · (intro w' hSw; go_simp; try with_reducible rfl)
          try simp only [Act.put, List.setIfInBounds_toArray, List.set_cons_zero, List.set_cons_succ]
          refine takeL (i := 9) (v := ?_) rfl rfl (by kernel_rfl) (by kernel_rfl) (by kernel_rfl) (fun _ _ _ h => h) (Or.inl ⟨by rfl, ?_⟩) (by assumption) ?_
          rotate_left
          · (intro w' hSw; go_simp; try with_reducible rfl)
          try simp only [Act.put, List.setIfInBounds_toArray, List.set_cons_zero, List.set_cons_succ]
          refine takeL (i := 10) (v := .int .u64 (l : Int)) rfl rfl (by kernel_rfl) (by kernel_rfl) (by kernel_rfl) (fun _ _ _ h => h) (Or.inl ⟨by rfl, ?_⟩) (by assumption) ?_
          · (intro w' hSw; have hq := hSw.2.1.2 3 (show 3 < 6 by decide); go_simp; try with_reducible rfl)
          try simp only [Act.put, List.setIfInBounds_toArray, List.set_cons_zero, List.set_cons_succ]
          refine takeL (i := 11) (v := ?_) rfl rfl (by kernel_rfl) (by kernel_rfl) (by kernel_rfl) (fun _ _ _ h => h) (Or.inl ⟨by rfl, ?_⟩) (by assumption) ?_
          rotate_left
          · (intro w' hSw; go_simp; try with_reducible rfl)
          try simp only [Act.put, List.setIfInBounds_toArray, List.set_cons_zero, List.set_cons_succ]
          refine takeL (i := 12) (v := ?_) rfl rfl (by kernel_rfl) (by kernel_rfl) (by kernel_rfl) (fun _ _ _ h => h) (Or.inl ⟨by rfl, ?_⟩) (by assumption) ?_
          rotate_left
          · (intro w' hSw; go_simp; try with_reducible rfl)
          try simp only [Act.put, List.setIfInBounds_toArray, List.set_cons_zero, List.set_cons_succ]
          refine takeL (i := 13) (v := ?_) rfl rfl (by kernel_rfl) (by kernel_rfl) (by kernel_rfl) (fun _ _ _ h => h) (Or.inl ⟨by rfl, ?_⟩) (by assumption) ?_
          rotate_left
          · (intro w' hSw; go_simp; try with_reducible rfl)
          try simp only [Act.put, List.setIfInBounds_toArray, List.set_cons_zero, List.set_cons_succ]
          refine takeL (i := 14) (v := .int .u64 (s : Int)) rfl rfl (by kernel_rfl) (by kernel_rfl) (by kernel_rfl) (fun _ _ _ h => h) (Or.inl ⟨by rfl, ?_⟩) (by assumption) ?_
          · (intro w' hSw; have hq := hSw.2.1.2 4 (show 4 < 6 by decide); go_simp; try with_reducible rfl)
          try simp only [Act.put, List.setIfInBounds_toArray, List.set_cons_zero, List.set_cons_succ]
          refine takeL (i := 15) (v := ?_) rfl rfl (by kernel_rfl) (by kernel_rfl) (by kernel_rfl) (fun _ _ _ h => h) (Or.inl ⟨by rfl, ?_⟩) (by assumption) ?_
          rotate_left
          · (intro w' hSw; go_simp; try with_reducible rfl)
          try simp only [Act.put, List.setIfInBounds_toArray, List.set_cons_zero, List.set_cons_succ]
          refine takeL (i := 16) (v := ?_) rfl rfl (by kernel_rfl) (by kernel_rfl) (by kernel_rfl) (fun _ _ _ h => h) (Or.inl ⟨by rfl, ?_⟩) (by assumption) ?_
          rotate_left
          · (intro w' hSw; go_simp; try with_reducible rfl)
          try simp only [Act.put, List.setIfInBounds_toArray, List.set_cons_zero, List.set_cons_succ]
          refine takeL (i := 17) (v := ?_) rfl rfl (by kernel_rfl) (by kernel_rfl) (by kernel_rfl) (fun _ _ _ h => h) (Or.inl ⟨by rfl, ?_⟩) (by assumption) ?_
          rotate_left
          · (intro w' hSw; go_simp; try with_reducible rfl)
          try simp only [Act.put, List.setIfInBounds_toArray, List.set_cons_zero, List.set_cons_succ]
          refine takeL (i := 18) (v := .int .u64 (e : Int)) rfl rfl (by kernel_rfl) (by kernel_rfl) (by kernel_rfl) (fun _ _ _ h => h) (Or.inl ⟨by rfl, ?_⟩) (by assumption) ?_
          · (intro w' hSw; have hq := hSw.2.1.2 5 (show 5 < 6 by decide); go_simp; try with_reducible rfl)
          try simp only [Act.put, List.setIfInBounds_toArray, List.set_cons_zero, List.set_cons_succ]
          refine takeL (i := 19) (v := ?_) rfl rfl (by kernel_rfl) (by kernel_rfl) (by kernel_rfl) (fun _ _ _ h => h) (Or.inl ⟨by rfl, ?_⟩) (by assumption) ?_
          rotate_left
          · (intro w' hSw; go_simp; try with_reducible rfl)
          try simp only [Act.put, List.setIfInBounds_toArray, List.set_cons_zero, List.set_cons_succ]
          refine takeL (i := 20) (v := .agg #[.int .i64 (k : Int), .int .i64 (l : Int), .int .i64 (n : Int), .int .i64 (s : Int), .int .i64 (e : Int)]) rfl rfl (by kernel_rfl) (by kernel_rfl) (by kernel_rfl) (fun _ _ _ h => h) (Or.inl ⟨by rfl, ?_⟩) (by assumption) ?_
          · (intro w' hSw; go_simp; try with_reducible rfl)
          try simp only [Act.put, List.setIfInBounds_toArray, List.set_cons_zero, List.set_cons_succ]
          refine wpAnyH_ready (rs := [21]) (by kernel_rfl) (by simp) ?_
          refine consL rfl (fun K hK => ?_) AllReadyH.nil
          · rw [if_pos (by rfl)]
            have hS0 := hHeld.1
            refine wpo_store_head (.tmp 2) (.tmp 47) rfl w.heap.size rfl (h1 := ⟨(k : Int), (l : Int), (n : Int), (s : Int), (e : Int)⟩) hX0 rfl ?_
            intro w6 hB6 g6
            have r6 := hHeld.1.grown g6 hrne
            have bb6 := gbelow hHeld.2.2 g6 (Nat.le_refl _)
            refine hK.out _ _ (⟨r6, hHeld.2.1.grown g6 hgne, bb6⟩) (fun hHeld => ?_)
            clear hK K
            try simp only [Act.put, List.setIfInBounds_toArray, List.set_cons_zero, List.set_cons_succ]
            refine wpAnyH_done (by kernel_rfl) ?_ _
            clear hHeld
            cases hok : okH ⟨(k : Int), (l : Int), (n : Int), (s : Int), (e : Int)⟩ with
            | true =>
              have cW := Lib.hid (fun W => Write_ok W ⟨(k : Int), (l : Int), (n : Int), (s : Int), (e : Int)⟩ hok)
              obtain ⟨pf, hpf⟩ : ∃ pf : Bool, pf = decide (bs.take 24 = headB ⟨(k : Int), (l : Int), (n : Int), (s : Int), (e : Int)⟩) := ⟨_, rfl⟩
              have HPF := Lib.hid hpf
              have cH := Lib.hid (fun (W : World) (b : Option Addr) (c : Nat) (h1 : RdB W a len cap bs) (h2 : RdB W b 24 c (headB ⟨(k : Int), (l : Int), (n : Int), (s : Int), (e : Int)⟩)) => HasPrefix_any W a len cap bs b 24 c _ h1 h2 h24)
              cases pf with
              | true =>
                have HRV := Lib.hid (read_yes HN.out ((readB_iff bs).2 ⟨by rw [HBL.out]; exact h24, by rw [HN.out]; exact hok, by rw [HN.out]; exact (of_decide_eq_true hpf.symm).symm⟩))
                clear hpf hok
                go_wp2_with (first
                  | (refine wp_load_head rfl (.tmp 2) rfl w.heap.size rfl hB6 ?_)
                  | (go_at_call 12; refine (cW.out _).mono ?_; rintro e7 w7 ⟨a7, c7, rfl, o7, b7⟩; have hB7 := hB6.below b7; have r7 := r6.below b7; have bb7 := xtrans bb6 b7; clear hB6 r6 bb6 b7)
                  | (go_at_call 34; refine (cH.out _ _ _ r7 (o7.rdb (headB_length _) (by decide))).mono ?_; rintro e8 w8 ⟨rfl, rfl⟩; rw [← HPF.out])
                  | (refine wp_load_head rfl (.tmp 2) rfl w.heap.size rfl hB7 ?_)
                  | (refine wp_store_head rfl (.tmp 2) (.tmp 62) rfl w.heap.size rfl (h1 := ⟨(k : Int), (l : Int), (n : Int), (s : Int), (e : Int)⟩) hB7 rfl ?_; intro w9 hB9 g9; have bb9 := gbelow bb7 g9 (Nat.le_refl _))
                  | fail)
                exact bodyPost_ret (results_head rfl _ _ w.heap.size ⟨(k : Int), (l : Int), (n : Int), (s : Int), (e : Int)⟩ rfl hB9 _ rfl) rfl ⟨by rw [HRV.out.1, HRV.out.2]; rfl, bb9⟩
              | false =>
                have HRV := Lib.hid (read_not (readB_no (bs := bs) (fun h => by rw [HN.out] at h; exact of_decide_eq_false hpf.symm h.2.2.symm)))
                clear hpf hok
                go_wp2_with (first
                  | (refine wp_load_head rfl (.tmp 2) rfl w.heap.size rfl hB6 ?_)
                  | (go_at_call 12; refine (cW.out _).mono ?_; rintro e7 w7 ⟨a7, c7, rfl, o7, b7⟩; have hB7 := hB6.below b7; have r7 := r6.below b7; have bb7 := xtrans bb6 b7; clear hB6 r6 bb6 b7)
                  | (go_at_call 34; refine (cH.out _ _ _ r7 (o7.rdb (headB_length _) (by decide))).mono ?_; rintro e8 w8 ⟨rfl, rfl⟩; rw [← HPF.out])
                  | (refine wp_store_head rfl (.tmp 2) (.tmp 61) rfl w.heap.size rfl (h1 := hd0) hB7 rfl ?_; intro w9 hB9 g9; have bb9 := gbelow bb7 g9 (Nat.le_refl _))
                  | fail)
                exact bodyPost_ret (results_head rfl _ _ w.heap.size hd0 rfl hB9 _ rfl) rfl ⟨by rw [HRV.out.1, HRV.out.2]; rfl, bb9⟩
            | false =>
                have cW := Lib.hid (fun W => Write_no W ⟨(k : Int), (l : Int), (n : Int), (s : Int), (e : Int)⟩ hok)
                have HRV := Lib.hid (read_not (readB_no (bs := bs) (fun h => by rw [HN.out, hok] at h; cases h.2.1)))
                clear hok
                go_wp2_with (first
                  | (refine wp_load_head rfl (.tmp 2) rfl w.heap.size rfl hB6 ?_)
                  | (go_at_call 12; refine (cW.out _).mono ?_; rintro e7 w7 ⟨rfl, b7⟩; have hB7 := hB6.below b7; have bb7 := xtrans bb6 b7; clear hB6 r6 bb6 b7)
                  | (refine wp_store_head rfl (.tmp 2) (.tmp 61) rfl w.heap.size rfl (h1 := hd0) hB7 rfl ?_; intro w9 hB9 g9; have bb9 := gbelow bb7 g9 (Nat.le_refl _))
                  | fail)
                exact bodyPost_ret (results_head rfl _ _ w.heap.size hd0 rfl hB9 _ rfl) rfl ⟨by rw [HRV.out.1, HRV.out.2]; rfl, bb9⟩
        · have dbig : decide ((s : Int) > 4611686018427387903) = true := decide_eq_true (by omega)
          have dbig2 : decide ((s : Int) ≥ 4611686018427387904) = true := decide_eq_true (by omega)
          have q4 : w3.cell? ⟨g, 4, none⟩ = some (.int .u64 (s : Int)) := u3.2 4 (show 4 < 6 by decide)
          have HRV := Lib.hid (read_not (readB_no (bs := bs) (fun h => by
            have h1 := (okH_iff _).1 h.2.1
            rw [HN.out] at h1
            dsimp only at h1
            omega)))
          go_wp2_with (first
            | (refine wp_load_head rfl (.tmp 2) rfl w.heap.size rfl hb3 ?_)
            | (refine wp_store_head rfl (.tmp 2) (.tmp 26) rfl w.heap.size rfl (h1 := hd0) hb3 rfl ?_; intro w9 hB9 g9; have bb9 := gbelow bb3 g9 (Nat.le_refl _))
            | fail)
          exact bodyPost_ret (results_head rfl _ _ w.heap.size hd0 rfl hB9 _ rfl) rfl ⟨by rw [HRV.out.1, HRV.out.2]; rfl, bb9⟩
  · have d24 : decide ((len : Int) < 24) = true := decide_eq_true (by omega)
    have HRV := Lib.hid (read_not (readB_no (bs := bs) (fun h => by have := h.1; omega)))
    clear hbl h24 hr
    go_enter Try.func14, Try.ntmps14
    go_upto_region 2 with fail
    generalize w.alloc (.cells #[.int .i64 0, .int .i64 0, .int .i64 0, .int .i64 0, .int .i64 0] 23) = W0 at hb0 bb0 ⊢
    go_wp2_with (first
      | (refine wp_load_head rfl (.tmp 2) rfl w.heap.size rfl hb0 ?_)
      | (refine wp_store_head rfl (.tmp 2) (.tmp 10) rfl w.heap.size rfl (h1 := hd0) hb0 rfl ?_; intro w9 hB9 g9; have bb9 := gbelow bb0 g9 (Nat.le_refl _))
      | fail)
    exact bodyPost_ret (results_head rfl _ _ w.heap.size hd0 rfl hB9 _ rfl) rfl ⟨by rw [HRV.out.1, HRV.out.2]; rfl, bb9⟩
end Go.Proofs.Ytpcppnoomogloaa.Fr
