/- The walk of the document's Read. -/
import Derived.Test.YtpcppnoomogloaaFrW5
set_option maxRecDepth 4000
namespace Go.Proofs.Ytpcppnoomogloaa.Fr
set_option linter.unusedSimpArgs false
set_option linter.unusedVariables false
open Go.RowKit

theorem neS {P : Program} {ops : Array Oper} {C : World → Prop} {o : Oper} {a : Act} {t rt : TypeId} {x y : Operand} {s u : ByteArray} {b : Bool} (hw : Region.wanted o (yielded ops a.tmps) = true) (ho : o.op = .binOp .neq t x y rt) (hx : a.eval x = .string s) (hy : a.eval y = .string u) (hb : (s.toList != u.toList) = b) : YieldsIf P ops C o (.bool b) a :=
  .inl ⟨hw, fun w _ => by
    have h1 : eqGuard .neq t x y (.string s) (.string u) = pure () := rfl
    have hb2 : (!(s.toList == u.toList)) = b := hb
    simp only [execOp, ho, hx, hy, h1, binOp_string_neq, hb2, Sem.run_bind, Sem.run_pure, Sem.run_map, Result.andThen_ok]⟩

set_option maxRecDepth 100000 in
set_option maxHeartbeats 8000000 in
theorem rRead_any (w : World) (a : Option Addr) (len cap : Nat) (bs : List Nat) (hr : RdB w a len cap bs) : Calls Try.prog 17 #[.slice a len cap] w (ReadOK w bs) := by
  have hbl : bs.length = len := hr.2.1
  have hlc : len ≤ cap := hr.2.2.1
  have hcm : cap ≤ 9223372036854775807 := hr.2.2.2.1
  have hlm : len ≤ 1000000000 := hr.1
  have hb0 : HBlk (w.alloc (.cells #[.int .i64 0, .int .i64 0, .int .i64 0, .int .i64 0, .int .i64 0] 23)) w.heap.size hd0 := HBlk.new w hd0
  have bb0 := xnew w (.cells #[.int .i64 0, .int .i64 0, .int .i64 0, .int .i64 0, .int .i64 0] 23)
  by_cases h24 : 24 ≤ len
  · have d24 : decide ((len : Int) < 24) = false := decide_eq_false (by omega)
    have hcap20 : (20 : Int) ≤ (cap : Int) := by omega
    have hcap24 : (24 : Int) ≤ (cap : Int) := by omega
    have h20 : 20 ≤ len := by omega
    obtain ⟨m, k, n, l, s, e, hsp, hm, hk, hn, hl, hs, he⟩ := split6_of (bs.take 20) (fun x hx => hr.2.2.2.2.1 x (List.mem_of_mem_take hx))
    have hN : readN bs = ⟨(k : Int), (l : Int), (n : Int), (s : Int), (e : Int)⟩ := by unfold readN headOf; rw [hsp]; rfl
    have cS := Lib.hid (fun (W : World) (B : Nat) (hB : Blk W B 3 .i64 sizes6) (hr : RdB W a 20 cap (bs.take 20)) => rSplit_any W B 6 sizes6 a 20 cap (bs.take 20) hB rfl hr sizes6_ok rfl (by decide))
    rw [hsp] at cS
    have HN := Lib.hid hN
    have HBL := Lib.hid hbl
    have hr0 := hr.below bb0
    have u8 := Try.underlying5
    have us := Try.underlying25
    have ut := Try.underlying9
    clear hsp hN hbl hr
    have ku := i64_of k (by omega)
    have nu := i64_of n (by omega)
    have lu := i64_of l (by omega)
    have eu := i64_of e (by omega)
    go_enter Try.func17, Try.ntmps17
    go_upto_region 3 with fail
    generalize w.alloc (.cells #[.int .i64 0, .int .i64 0, .int .i64 0, .int .i64 0, .int .i64 0] 23) = W0 at hb0 hr0 bb0 ⊢
    go_upto_region 4 with (first
      | (go_at_call 38; refine (cS.out _ _ (Blk.new W0 3 .i64 sizes6 _ rfl) (rdb_take (hr0.below (xnew _ _)) 20 h20)).mono ?_; rintro e3 w3 ⟨v3, rfl, o3, b3⟩; obtain ⟨g, c3, rfl, hgb, u3⟩ := uc_of_row o3 rfl (by decide); have hb3 := (hb0.alloc (.cells (nv .i64 sizes6).toArray 3)).below b3; have r3 := (hr0.below (xnew W0 (.cells (nv .i64 sizes6).toArray 3))).below b3; have bb3 := xtrans (xalloc bb0 (.cells (nv .i64 sizes6).toArray 3)) b3; clear hb0 hr0 bb0 o3 b3)
      | fail)
    by_cases hbig : s ≤ 4611686018427387903
    · have dbig : decide ((s : Int) > 4611686018427387903) = false := decide_eq_false (by omega)
      have dbig2 : decide ((s : Int) ≥ 4611686018427387904) = false := decide_eq_false (by omega)
      have su := i64_of s (by omega)
      have q4 : w3.cell? ⟨g, 4, none⟩ = some (.int .u64 (s : Int)) := u3.2 4 (show 4 < 6 by decide)
      go_wp2_with fail
      clear q4
      refine wp_region_held_drew (S := fun W => HBlk W w.heap.size hd0 ∧ RdB W a len cap bs ∧ UC W g [m, k, n, l, s, e] ∧ Below w.heap.size w W) (by kernel_rfl) (⟨hb3.drew, r3, u3, below_drewN bb3 1⟩) (fun hHeld => ?_)
      generalize World.drew _ = wv at hHeld ⊢
      clear hb3 r3 bb3 u3
      refine takeL (i := 0) (v := ?_) rfl rfl (by kernel_rfl) (by kernel_rfl) (by kernel_rfl) (fun _ _ _ h => h) (Or.inl ⟨by rfl, ?_⟩) (by assumption) ?_
      rotate_left
      · (intro w' hSw; go_simp; try with_reducible rfl)
      try simp only [Act.put, List.setIfInBounds_toArray, List.set_cons_zero, List.set_cons_succ]
      refine takeL (i := 1) (v := ?_) rfl rfl (by kernel_rfl) (by kernel_rfl) (by kernel_rfl) (fun _ _ _ h => h) (Or.inl ⟨by rfl, ?_⟩) (by assumption) ?_
      rotate_left
      · (intro w' hSw; go_simp; try with_reducible rfl)
      try simp only [Act.put, List.setIfInBounds_toArray, List.set_cons_zero, List.set_cons_succ]
      refine takeL (i := 2) (v := .int .u64 (k : Int)) rfl rfl (by kernel_rfl) (by kernel_rfl) (by kernel_rfl) (fun _ _ _ h => h) (Or.inl ⟨by rfl, ?_⟩) (by assumption) ?_
      · (intro w' hSw; have hq := hSw.2.2.1.2 1 (show 1 < 6 by decide); go_simp; try with_reducible rfl)
      try simp only [Act.put, List.setIfInBounds_toArray, List.set_cons_zero, List.set_cons_succ]
      refine takeL (i := 3) (v := ?_) rfl rfl (by kernel_rfl) (by kernel_rfl) (by kernel_rfl) (fun _ _ _ h => h) (Or.inl ⟨by rfl, ?_⟩) (by assumption) ?_
      rotate_left
      · (intro w' hSw; go_simp; try with_reducible rfl)
      try simp only [Act.put, List.setIfInBounds_toArray, List.set_cons_zero, List.set_cons_succ]
      refine takeL (i := 4) (v := ?_) rfl rfl (by kernel_rfl) (by kernel_rfl) (by kernel_rfl) (fun _ _ _ h => h) (Or.inl ⟨by rfl, ?_⟩) (by assumption) ?_
      rotate_left
      · (intro w' hSw; go_simp; try with_reducible rfl)
      try simp only [Act.put, List.setIfInBounds_toArray, List.set_cons_zero, List.set_cons_succ]
      refine takeL (i := 5) (v := ?_) rfl rfl (by kernel_rfl) (by kernel_rfl) (by kernel_rfl) (fun _ _ _ h => h) (Or.inl ⟨by rfl, ?_⟩) (by assumption) ?_
      rotate_left
      · (intro w' hSw; go_simp; try with_reducible rfl)
      try simp only [Act.put, List.setIfInBounds_toArray, List.set_cons_zero, List.set_cons_succ]
      refine takeL (i := 6) (v := .int .u64 (n : Int)) rfl rfl (by kernel_rfl) (by kernel_rfl) (by kernel_rfl) (fun _ _ _ h => h) (Or.inl ⟨by rfl, ?_⟩) (by assumption) ?_
      · (intro w' hSw; have hq := hSw.2.2.1.2 2 (show 2 < 6 by decide); go_simp; try with_reducible rfl)
      try simp only [Act.put, List.setIfInBounds_toArray, List.set_cons_zero, List.set_cons_succ]
      refine takeL (i := 7) (v := ?_) rfl rfl (by kernel_rfl) (by kernel_rfl) (by kernel_rfl) (fun _ _ _ h => h) (Or.inl ⟨by rfl, ?_⟩) (by assumption) ?_
      rotate_left
      · (intro w' hSw; go_simp; try with_reducible rfl)
      try simp only [Act.put, List.setIfInBounds_toArray, List.set_cons_zero, List.set_cons_succ]
      refine takeL (i := 8) (v := ?_) rfl rfl (by kernel_rfl) (by kernel_rfl) (by kernel_rfl) (fun _ _ _ h => h) (Or.inl ⟨by rfl, ?_⟩) (by assumption) ?_
      rotate_left
      · (intro w' hSw; go_simp; try with_reducible rfl)
      try simp only [Act.put, List.setIfInBounds_toArray, List.set_cons_zero, List.set_cons_succ]
      refine takeL (i := 9) (v := ?_) rfl rfl (by kernel_rfl) (by kernel_rfl) (by kernel_rfl) (fun _ _ _ h => h) (Or.inl ⟨by rfl, ?_⟩) (by assumption) ?_
      rotate_left
      · (intro w' hSw; go_simp; try with_reducible rfl)
      try simp only [Act.put, List.setIfInBounds_toArray, List.set_cons_zero, List.set_cons_succ]
      refine takeL (i := 10) (v := .int .u64 (l : Int)) rfl rfl (by kernel_rfl) (by kernel_rfl) (by kernel_rfl) (fun _ _ _ h => h) (Or.inl ⟨by rfl, ?_⟩) (by assumption) ?_
      · (intro w' hSw; have hq := hSw.2.2.1.2 3 (show 3 < 6 by decide); go_simp; try with_reducible rfl)
      try simp only [Act.put, List.setIfInBounds_toArray, List.set_cons_zero, List.set_cons_succ]
      refine takeL (i := 11) (v := ?_) rfl rfl (by kernel_rfl) (by kernel_rfl) (by kernel_rfl) (fun _ _ _ h => h) (Or.inl ⟨by rfl, ?_⟩) (by assumption) ?_
      rotate_left
      · (intro w' hSw; go_simp; try with_reducible rfl)
      try simp only [Act.put, List.setIfInBounds_toArray, List.set_cons_zero, List.set_cons_succ]
      refine takeL (i := 12) (v := ?_) rfl rfl (by kernel_rfl) (by kernel_rfl) (by kernel_rfl) (fun _ _ _ h => h) (Or.inl ⟨by rfl, ?_⟩) (by assumption) ?_
      rotate_left
      · (intro w' hSw; go_simp; try with_reducible rfl)
      try simp only [Act.put, List.setIfInBounds_toArray, List.set_cons_zero, List.set_cons_succ]
      refine takeL (i := 13) (v := ?_) rfl rfl (by kernel_rfl) (by kernel_rfl) (by kernel_rfl) (fun _ _ _ h => h) (Or.inl ⟨by rfl, ?_⟩) (by assumption) ?_
      rotate_left
      · (intro w' hSw; go_simp; try with_reducible rfl)
      try simp only [Act.put, List.setIfInBounds_toArray, List.set_cons_zero, List.set_cons_succ]
      refine takeL (i := 14) (v := .int .u64 (s : Int)) rfl rfl (by kernel_rfl) (by kernel_rfl) (by kernel_rfl) (fun _ _ _ h => h) (Or.inl ⟨by rfl, ?_⟩) (by assumption) ?_
      · (intro w' hSw; have hq := hSw.2.2.1.2 4 (show 4 < 6 by decide); go_simp; try with_reducible rfl)
      try simp only [Act.put, List.setIfInBounds_toArray, List.set_cons_zero, List.set_cons_succ]
      refine takeL (i := 15) (v := ?_) rfl rfl (by kernel_rfl) (by kernel_rfl) (by kernel_rfl) (fun _ _ _ h => h) (Or.inl ⟨by rfl, ?_⟩) (by assumption) ?_
      rotate_left
      · (intro w' hSw; go_simp; try with_reducible rfl)
      try simp only [Act.put, List.setIfInBounds_toArray, List.set_cons_zero, List.set_cons_succ]
      refine takeL (i := 16) (v := ?_) rfl rfl (by kernel_rfl) (by kernel_rfl) (by kernel_rfl) (fun _ _ _ h => h) (Or.inl ⟨by rfl, ?_⟩) (by assumption) ?_
      rotate_left
      · (intro w' hSw; go_simp; try with_reducible rfl)
      try simp only [Act.put, List.setIfInBounds_toArray, List.set_cons_zero, List.set_cons_succ]
      refine takeL (i := 17) (v := ?_) rfl rfl (by kernel_rfl) (by kernel_rfl) (by kernel_rfl) (fun _ _ _ h => h) (Or.inl ⟨by rfl, ?_⟩) (by assumption) ?_
      rotate_left
      · (intro w' hSw; go_simp; try with_reducible rfl)
      try simp only [Act.put, List.setIfInBounds_toArray, List.set_cons_zero, List.set_cons_succ]
      refine takeL (i := 18) (v := .int .u64 (e : Int)) rfl rfl (by kernel_rfl) (by kernel_rfl) (by kernel_rfl) (fun _ _ _ h => h) (Or.inl ⟨by rfl, ?_⟩) (by assumption) ?_
      · (intro w' hSw; have hq := hSw.2.2.1.2 5 (show 5 < 6 by decide); go_simp; try with_reducible rfl)
      try simp only [Act.put, List.setIfInBounds_toArray, List.set_cons_zero, List.set_cons_succ]
      refine takeL (i := 19) (v := ?_) rfl rfl (by kernel_rfl) (by kernel_rfl) (by kernel_rfl) (fun _ _ _ h => h) (Or.inl ⟨by rfl, ?_⟩) (by assumption) ?_
      rotate_left
      · (intro w' hSw; go_simp; try with_reducible rfl)
      try simp only [Act.put, List.setIfInBounds_toArray, List.set_cons_zero, List.set_cons_succ]
      refine takeL (i := 20) (v := .agg #[.int .i64 (k : Int), .int .i64 (l : Int), .int .i64 (n : Int), .int .i64 (s : Int), .int .i64 (e : Int)]) rfl rfl (by kernel_rfl) (by kernel_rfl) (by kernel_rfl) (fun _ _ _ h => h) (Or.inl ⟨by rfl, ?_⟩) (by assumption) ?_
      · (intro w' hSw; go_simp; try with_reducible rfl)
      try simp only [Act.put, List.setIfInBounds_toArray, List.set_cons_zero, List.set_cons_succ]
      refine wpAnyH_ready (rs := [21]) (by kernel_rfl) (by simp) ?_
      refine consL rfl (fun K hK => ?_) AllReadyH.nil
      · rw [if_pos (by rfl)]
        go_simp
        have hV61 : HBlk (wv.alloc (.cells #[.int .i64 0, .int .i64 0, .int .i64 0, .int .i64 0, .int .i64 0] 23)) wv.heap.size hd0 := HBlk.new wv hd0
        have bV61 := xnew wv (.cells #[.int .i64 0, .int .i64 0, .int .i64 0, .int .i64 0, .int .i64 0] 23)
        have hlt61 := hHeld.1.lt
        have hgl61 := hHeld.2.2.1.1
        have hrl61 := rdb_low hHeld.2.1
        have hHx := And.intro (hHeld.1.below bV61) (And.intro (hHeld.2.1.below bV61) (And.intro (hHeld.2.2.1.below bV61) (xtrans hHeld.2.2.2 bV61)))
        have hvs := hHeld.2.2.2.size
        generalize wv.heap.size = V at hV61 hlt61 hgl61 hrl61 hvs ⊢
        change K _ (wv.alloc (.cells #[.int .i64 0, .int .i64 0, .int .i64 0, .int .i64 0, .int .i64 0] 23))
        generalize wv.alloc (.cells #[.int .i64 0, .int .i64 0, .int .i64 0, .int .i64 0, .int .i64 0] 23) = w5 at hV61 hHx ⊢
        refine hK.out _ _ (hHx) (fun hHeld => ?_)
        clear hK K
        try simp only [Act.put, List.setIfInBounds_toArray, List.set_cons_zero, List.set_cons_succ]
        refine wpAnyH_ready (rs := [22]) (by kernel_rfl) (by simp) ?_
        refine consL rfl (fun K hK => ?_) AllReadyH.nil
        · rw [if_pos (by rfl)]
          refine wpo_store_head (.tmp 6) (.tmp 45) rfl V rfl (h1 := ⟨(k : Int), (l : Int), (n : Int), (s : Int), (e : Int)⟩) hV61 rfl ?_
          intro w6 hB6 g6
          have h26 := hHeld.1.grown g6 (fun e => by have := Option.some.inj e; omega)
          have r6 := hHeld.2.1.grown g6 (fun x hx e => by have := hrl61 x hx (by omega); have := Option.some.inj e; omega)
          have bb6 := gbelow hHeld.2.2.2 g6 (by omega)
          refine hK.out _ _ (⟨h26, r6, hHeld.2.2.1.grown g6 (by omega), bb6⟩) (fun hHeld => ?_)
          clear hK K
          try simp only [Act.put, List.setIfInBounds_toArray, List.set_cons_zero, List.set_cons_succ]
          refine wpAnyH_done (by kernel_rfl) ?_ _
          clear hHeld
          cases hok : okH ⟨(k : Int), (l : Int), (n : Int), (s : Int), (e : Int)⟩ with
          | true =>
            have cW := Lib.hid (fun W => rWrite_ok W ⟨(k : Int), (l : Int), (n : Int), (s : Int), (e : Int)⟩ hok)
            obtain ⟨pf, hpf⟩ : ∃ pf : Bool, pf = decide (bs.take 24 = headB ⟨(k : Int), (l : Int), (n : Int), (s : Int), (e : Int)⟩) := ⟨_, rfl⟩
            have HPF := Lib.hid hpf
            have hneq : ((strB (headB ⟨(k : Int), (l : Int), (n : Int), (s : Int), (e : Int)⟩)).toList != (strB (bs.take 24)).toList) = !pf := by
              show (!((strB (headB ⟨(k : Int), (l : Int), (n : Int), (s : Int), (e : Int)⟩)).toList == (strB (bs.take 24)).toList)) = !pf
              rw [strB_beq (headB_lt _) (fun x hx => r6.2.2.2.2.1 x (List.mem_of_mem_take hx)), hpf]
              congr 1
              rw [decide_eq_decide]
              exact eq_comm
            have HNEQ := Lib.hid hneq
            clear hneq
            cases pf with
            | true =>
              have HRV := Lib.hid (read_yes HN.out ((readB_iff bs).2 ⟨by rw [HBL.out]; exact h24, by rw [HN.out]; exact hok, by rw [HN.out]; exact (of_decide_eq_true hpf.symm).symm⟩))
              clear hpf hok
              go_wp2_with (first
                | (refine wp_load_head rfl (.tmp 6) rfl V rfl hB6 ?_)
                | (go_at_call 16; refine (cW.out _).mono ?_; rintro e7 w7 ⟨a7, c7, rfl, o7, b7⟩; have hB7 := hB6.below b7; have r7 := r6.below b7; have bb7 := xtrans bb6 b7; have h27 := h26.below b7; clear hB6 r6 bb6 b7)
                | fail)
              have r8 := o7.rdb (headB_length _) (by decide)
              clear o7
              refine wp_region_class (fun W => HBlk W V ⟨(k : Int), (l : Int), (n : Int), (s : Int), (e : Int)⟩ ∧ HBlk W w.heap.size hd0 ∧ RdB W a len cap bs ∧ RdB W a7 24 c7 (headB ⟨(k : Int), (l : Int), (n : Int), (s : Int), (e : Int)⟩) ∧ Below w.heap.size w W) (by kernel_rfl) (by kernel_rfl) (⟨hB7.drew, h27.drew, r7, r8, below_drewN bb7 1⟩) ?_
              refine qY (v := ?_) rfl ?_ ?_
              rotate_left
              · (intro w' _; go_simp; try with_reducible rfl)
              rotate_left
              try simp only [Act.put, List.setIfInBounds_toArray, List.set_cons_zero, List.set_cons_succ]
              refine qY (v := ?_) rfl ?_ ?_
              rotate_left
              · (intro w' _; go_simp; try with_reducible rfl)
              rotate_left
              try simp only [Act.put, List.setIfInBounds_toArray, List.set_cons_zero, List.set_cons_succ]
              refine qY (v := ?_) rfl ?_ ?_
              rotate_left
              · (intro w' _; go_simp; try with_reducible rfl)
              rotate_left
              try simp only [Act.put, List.setIfInBounds_toArray, List.set_cons_zero, List.set_cons_succ]
              refine qY (v := ?_) rfl ?_ ?_
              rotate_left
              · (intro w' _; go_simp; try with_reducible rfl)
              rotate_left
              try simp only [Act.put, List.setIfInBounds_toArray, List.set_cons_zero, List.set_cons_succ]
              refine qI (v := .string (strB (headB ⟨(k : Int), (l : Int), (n : Int), (s : Int), (e : Int)⟩))) (yieldsStr (by rfl) (x := .tmp 54) rfl (by rfl) us u8 ut (fun W h => h.2.2.2.1.2)) ?_
              try simp only [Act.put, List.setIfInBounds_toArray, List.set_cons_zero, List.set_cons_succ]
              refine qY (v := ?_) rfl ?_ ?_
              rotate_left
              · (intro w' _; go_simp; try with_reducible rfl)
              rotate_left
              try simp only [Act.put, List.setIfInBounds_toArray, List.set_cons_zero, List.set_cons_succ]
              refine qY (v := ?_) rfl ?_ ?_
              rotate_left
              · (intro w' _; go_simp; try with_reducible rfl)
              rotate_left
              try simp only [Act.put, List.setIfInBounds_toArray, List.set_cons_zero, List.set_cons_succ]
              refine qI (v := .string (strB (bs.take 24))) (yieldsStr (by rfl) (x := .tmp 57) rfl (by rfl) us u8 ut (fun W h => (rdb_take h.2.2.1 24 h24).2)) ?_
              try simp only [Act.put, List.setIfInBounds_toArray, List.set_cons_zero, List.set_cons_succ]
              refine qI (v := .bool false) (neS (by rfl) rfl (by rfl) (by rfl) HNEQ.out) ?_
              try simp only [Act.put, List.setIfInBounds_toArray, List.set_cons_zero, List.set_cons_succ]
              refine qY (v := ?_) rfl ?_ ?_
              rotate_left
              · (intro w' _; go_simp; try with_reducible rfl)
              rotate_left
              try simp only [Act.put, List.setIfInBounds_toArray, List.set_cons_zero, List.set_cons_succ]
              refine wpQuiet_nil ?_
              intro w8 hC
              go_wp2_with (first
                | (refine wp_load_head rfl (.tmp 6) rfl V rfl hC.1 ?_)
                | (refine wp_store_head rfl (.tmp 2) (.tmp 62) rfl w.heap.size rfl (h1 := ⟨(k : Int), (l : Int), (n : Int), (s : Int), (e : Int)⟩) hC.2.1 rfl ?_; intro w9 hB9 g9; have bb9 := gbelow hC.2.2.2.2 g9 (Nat.le_refl _))
                | fail)
              exact bodyPost_ret (results_head rfl _ _ w.heap.size ⟨(k : Int), (l : Int), (n : Int), (s : Int), (e : Int)⟩ rfl hB9 _ rfl) rfl ⟨by rw [HRV.out.1, HRV.out.2]; rfl, bb9⟩
            | false =>
              have HRV := Lib.hid (read_not (readB_no (bs := bs) (fun h => by rw [HN.out] at h; exact of_decide_eq_false hpf.symm h.2.2.symm)))
              clear hpf hok
              go_wp2_with (first
                | (refine wp_load_head rfl (.tmp 6) rfl V rfl hB6 ?_)
                | (go_at_call 16; refine (cW.out _).mono ?_; rintro e7 w7 ⟨a7, c7, rfl, o7, b7⟩; have hB7 := hB6.below b7; have r7 := r6.below b7; have bb7 := xtrans bb6 b7; have h27 := h26.below b7; clear hB6 r6 bb6 b7)
                | fail)
              have r8 := o7.rdb (headB_length _) (by decide)
              clear o7
              refine wp_region_class (fun W => HBlk W V ⟨(k : Int), (l : Int), (n : Int), (s : Int), (e : Int)⟩ ∧ HBlk W w.heap.size hd0 ∧ RdB W a len cap bs ∧ RdB W a7 24 c7 (headB ⟨(k : Int), (l : Int), (n : Int), (s : Int), (e : Int)⟩) ∧ Below w.heap.size w W) (by kernel_rfl) (by kernel_rfl) (⟨hB7.drew, h27.drew, r7, r8, below_drewN bb7 1⟩) ?_
              refine qY (v := ?_) rfl ?_ ?_
              rotate_left
              · (intro w' _; go_simp; try with_reducible rfl)
              rotate_left
              try simp only [Act.put, List.setIfInBounds_toArray, List.set_cons_zero, List.set_cons_succ]
              refine qY (v := ?_) rfl ?_ ?_
              rotate_left
              · (intro w' _; go_simp; try with_reducible rfl)
              rotate_left
              try simp only [Act.put, List.setIfInBounds_toArray, List.set_cons_zero, List.set_cons_succ]
              refine qY (v := ?_) rfl ?_ ?_
              rotate_left
              · (intro w' _; go_simp; try with_reducible rfl)
              rotate_left
              try simp only [Act.put, List.setIfInBounds_toArray, List.set_cons_zero, List.set_cons_succ]
              refine qY (v := ?_) rfl ?_ ?_
              rotate_left
              · (intro w' _; go_simp; try with_reducible rfl)
              rotate_left
              try simp only [Act.put, List.setIfInBounds_toArray, List.set_cons_zero, List.set_cons_succ]
              refine qI (v := .string (strB (headB ⟨(k : Int), (l : Int), (n : Int), (s : Int), (e : Int)⟩))) (yieldsStr (by rfl) (x := .tmp 54) rfl (by rfl) us u8 ut (fun W h => h.2.2.2.1.2)) ?_
              try simp only [Act.put, List.setIfInBounds_toArray, List.set_cons_zero, List.set_cons_succ]
              refine qY (v := ?_) rfl ?_ ?_
              rotate_left
              · (intro w' _; go_simp; try with_reducible rfl)
              rotate_left
              try simp only [Act.put, List.setIfInBounds_toArray, List.set_cons_zero, List.set_cons_succ]
              refine qY (v := ?_) rfl ?_ ?_
              rotate_left
              · (intro w' _; go_simp; try with_reducible rfl)
              rotate_left
              try simp only [Act.put, List.setIfInBounds_toArray, List.set_cons_zero, List.set_cons_succ]
              refine qI (v := .string (strB (bs.take 24))) (yieldsStr (by rfl) (x := .tmp 57) rfl (by rfl) us u8 ut (fun W h => (rdb_take h.2.2.1 24 h24).2)) ?_
              try simp only [Act.put, List.setIfInBounds_toArray, List.set_cons_zero, List.set_cons_succ]
              refine qI (v := .bool true) (neS (by rfl) rfl (by rfl) (by rfl) HNEQ.out) ?_
              try simp only [Act.put, List.setIfInBounds_toArray, List.set_cons_zero, List.set_cons_succ]
              refine qY (v := ?_) rfl ?_ ?_
              rotate_left
              · (intro w' _; go_simp; try with_reducible rfl)
              rotate_left
              try simp only [Act.put, List.setIfInBounds_toArray, List.set_cons_zero, List.set_cons_succ]
              refine wpQuiet_nil ?_
              intro w8 hC
              go_wp2_with (first
                | (refine wp_store_head rfl (.tmp 2) (.tmp 61) rfl w.heap.size rfl (h1 := hd0) hC.2.1 rfl ?_; intro w9 hB9 g9; have bb9 := gbelow hC.2.2.2.2 g9 (Nat.le_refl _))
                | fail)
              exact bodyPost_ret (results_head rfl _ _ w.heap.size hd0 rfl hB9 _ rfl) rfl ⟨by rw [HRV.out.1, HRV.out.2]; rfl, bb9⟩
          | false =>
              have cW := Lib.hid (fun W => rWrite_no W ⟨(k : Int), (l : Int), (n : Int), (s : Int), (e : Int)⟩ hok)
              have HRV := Lib.hid (read_not (readB_no (bs := bs) (fun h => by rw [HN.out, hok] at h; cases h.2.1)))
              clear hok
              go_wp2_with (first
                | (refine wp_load_head rfl (.tmp 6) rfl V rfl hB6 ?_)
                | (go_at_call 16; refine (cW.out _).mono ?_; rintro e7 w7 ⟨rfl, b7⟩; have hB7 := hB6.below b7; have bb7 := xtrans bb6 b7; have h27 := h26.below b7; clear hB6 r6 bb6 b7)
                | fail)
              have hC := And.intro hB7 (And.intro h27 bb7)
              clear hB7 h27 bb7
              refine wp_region_class (fun W => HBlk W w.heap.size hd0 ∧ Below w.heap.size w W) (by kernel_rfl) (by kernel_rfl) (⟨hC.2.1.drew, below_drewN hC.2.2 1⟩) ?_
              refine qY (v := ?_) rfl ?_ ?_
              rotate_left
              · (intro w' _; go_simp; try with_reducible rfl)
              rotate_left
              try simp only [Act.put, List.setIfInBounds_toArray, List.set_cons_zero, List.set_cons_succ]
              refine qY (v := ?_) rfl ?_ ?_
              rotate_left
              · (intro w' _; go_simp; try with_reducible rfl)
              rotate_left
              try simp only [Act.put, List.setIfInBounds_toArray, List.set_cons_zero, List.set_cons_succ]
              refine qY (v := ?_) rfl ?_ ?_
              rotate_left
              · (intro w' _; go_simp; try with_reducible rfl)
              rotate_left
              try simp only [Act.put, List.setIfInBounds_toArray, List.set_cons_zero, List.set_cons_succ]
              refine qS (by rfl) ?_
              try simp only [Act.put, List.setIfInBounds_toArray, List.set_cons_zero, List.set_cons_succ]
              refine qS (by rfl) ?_
              try simp only [Act.put, List.setIfInBounds_toArray, List.set_cons_zero, List.set_cons_succ]
              refine qS (by rfl) ?_
              try simp only [Act.put, List.setIfInBounds_toArray, List.set_cons_zero, List.set_cons_succ]
              refine qS (by rfl) ?_
              try simp only [Act.put, List.setIfInBounds_toArray, List.set_cons_zero, List.set_cons_succ]
              refine qS (by rfl) ?_
              try simp only [Act.put, List.setIfInBounds_toArray, List.set_cons_zero, List.set_cons_succ]
              refine qS (by rfl) ?_
              try simp only [Act.put, List.setIfInBounds_toArray, List.set_cons_zero, List.set_cons_succ]
              refine qY (v := ?_) rfl ?_ ?_
              rotate_left
              · (intro w' _; go_simp; try with_reducible rfl)
              rotate_left
              try simp only [Act.put, List.setIfInBounds_toArray, List.set_cons_zero, List.set_cons_succ]
              refine wpQuiet_nil ?_
              intro w8 hD
              go_wp2_with (first
                | (refine wp_store_head rfl (.tmp 2) (.tmp 61) rfl w.heap.size rfl (h1 := hd0) hD.1 rfl ?_; intro w9 hB9 g9; have bb9 := gbelow hD.2 g9 (Nat.le_refl _))
                | fail)
              exact bodyPost_ret (results_head rfl _ _ w.heap.size hd0 rfl hB9 _ rfl) rfl ⟨by rw [HRV.out.1, HRV.out.2]; rfl, bb9⟩
    · have dbig : decide ((s : Int) > 4611686018427387903) = true := decide_eq_true (by omega)
      have dbig2 : decide ((s : Int) ≥ 4611686018427387904) = true := decide_eq_true (by omega)
      have q4 : w3.cell? ⟨g, 4, none⟩ = some (.int .u64 (s : Int)) := u3.2 4 (show 4 < 6 by decide)
      have HRV := Lib.hid (read_not (readB_no (bs := bs) (fun h => by
        have h1 := (okH_iff _).1 h.2.1
        rw [HN.out] at h1
        dsimp only at h1
        omega)))
      go_wp2_with (first
        | (refine wp_load_head rfl (.tmp 2) rfl w.heap.size rfl hb3 ?_)
        | (refine wp_store_head rfl (.tmp 2) (.tmp 24) rfl w.heap.size rfl (h1 := hd0) hb3 rfl ?_; intro w9 hB9 g9; have bb9 := gbelow bb3 g9 (Nat.le_refl _))
        | fail)
      exact bodyPost_ret (results_head rfl _ _ w.heap.size hd0 rfl hB9 _ rfl) rfl ⟨by rw [HRV.out.1, HRV.out.2]; rfl, bb9⟩
  · have d24 : decide ((len : Int) < 24) = true := decide_eq_true (by omega)
    have HRV := Lib.hid (read_not (readB_no (bs := bs) (fun h => by have := h.1; omega)))
    clear hbl h24 hr
    go_enter Try.func17, Try.ntmps17
    go_upto_region 2 with fail
    generalize w.alloc (.cells #[.int .i64 0, .int .i64 0, .int .i64 0, .int .i64 0, .int .i64 0] 23) = W0 at hb0 bb0 ⊢
    go_wp2_with (first
      | (refine wp_load_head rfl (.tmp 2) rfl w.heap.size rfl hb0 ?_)
      | (refine wp_store_head rfl (.tmp 2) (.tmp 12) rfl w.heap.size rfl (h1 := hd0) hb0 rfl ?_; intro w9 hB9 g9; have bb9 := gbelow bb0 g9 (Nat.le_refl _))
      | fail)
    exact bodyPost_ret (results_head rfl _ _ w.heap.size hd0 rfl hB9 _ rfl) rfl ⟨by rw [HRV.out.1, HRV.out.2]; rfl, bb9⟩
end Go.Proofs.Ytpcppnoomogloaa.Fr
