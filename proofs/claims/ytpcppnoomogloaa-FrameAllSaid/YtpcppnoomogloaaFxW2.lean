/- The walks of fields: fix.Fields, Split, and the document's. -/
import Derived.Test.YtpcppnoomogloaaFrMem
set_option maxRecDepth 4000
namespace Go.Proofs.Ytpcppnoomogloaa.Fr
set_option linter.unusedSimpArgs false
set_option linter.unusedVariables false
open Go.RowKit

theorem drop_cons {ss : List Nat} {i : Nat} (h : i < ss.length) : ss.drop i = ss.getD i 0 :: ss.drop (i + 1) := by
  rw [List.drop_eq_getElem_cons h, List.getD_eq_getElem?_getD, List.getElem?_eq_getElem h]
  rfl
theorem take_snoc {ss : List Nat} {i : Nat} (h : i < ss.length) : ss.take (i + 1) = ss.take i ++ [ss.getD i 0] := by
  rw [List.take_add_one, List.getElem?_eq_getElem h, List.getD_eq_getElem?_getD, List.getElem?_eq_getElem h]
  rfl
theorem flat_snoc (ss ns : List Nat) (s n : Nat) (h : ss.length = ns.length) : flat (ss ++ [s]) (ns ++ [n]) = flat ss ns ++ le s n := by
  induction ss generalizing ns with
  | nil =>
    cases ns with
    | nil => simp [flat]
    | cons _ _ => simp at h
  | cons a ss ih =>
    cases ns with
    | nil => simp at h
    | cons b ns =>
      simp only [List.cons_append, flat, List.append_assoc]
      rw [ih ns (by simpa using h)]
def flatI (ss ns : List Nat) (i : Nat) : List Nat := flat (ss.take i) (ns.take i)
theorem flatI_succ {ss ns : List Nat} {i : Nat} (hl : ss.length = ns.length) (h : i < ns.length) : flatI ss ns (i + 1) = flatI ss ns i ++ le (ss.getD i 0) (ns.getD i 0) := by
  unfold flatI
  rw [take_snoc (by omega), take_snoc h, flat_snoc _ _ _ _ (by rw [List.length_take, List.length_take, hl])]
theorem flatI_end {ss ns : List Nat} (hl : ss.length = ns.length) : flatI ss ns ns.length = flat ss ns := by
  unfold flatI
  rw [List.take_of_length_le (by omega), List.take_of_length_le (Nat.le_refl _)]

set_option maxHeartbeats 2000000 in
theorem Fields_any (w : World) (B C : Nat) (n : Nat) (ss ns : List Nat) (hB : Blk w B 3 .i64 ss) (hC : Blk w C 54 .u64 ns) (hl : ss.length = n) (hln : ns.length = n) (hs : ∀ i, i < n → ss.getD i 0 = 1 ∨ ss.getD i 0 = 2 ∨ ss.getD i 0 = 4 ∨ ss.getD i 0 = 8) (hn : ∀ i, i < n → ns.getD i 0 < 256 ^ ss.getD i 0) (h100 : n ≤ 100) :
    Calls Try.prog 29 #[.slice (some ⟨B, 0, none⟩) n n, .slice (some ⟨C, 0, none⟩) n n] w fun e w' => ∃ ad m cp, e = .returned (.tuple #[.slice ad m cp, .int .i64 0]) ∧ (flat ss ns).length = m ∧ Own w' w.heap.size (.slice ad m cp) (flat ss ns) ∧ Below w.heap.size w w' := by
  have HB := Lib.hid (fun (W : World) (hb : Below w.heap.size w W) => hB.below hb)
  have HC := Lib.hid (fun (W : World) (hb : Below w.heap.size w W) => hC.below hb)
  have HS := Lib.hid hs
  have HN := Lib.hid hn
  have HL := Lib.hid hl
  have HLN := Lib.hid hln
  have hBl := hB.lt
  have hCl := hC.lt
  have h100i : (n : Int) ≤ 100 := by omega
  clear hs hn hl hln hB hC
  go_enter Try.func29, Try.ntmps29
  go_wp2_with fail
  go_loopw [4, 17] (fun v r wr => ∃ i m : Nat, i ≤ n ∧ r = .int .i64 i ∧ ∃ ad cp, v = .slice ad m cp ∧ (flatI ss ns i).length = m ∧ m ≤ 8 * i ∧ Own wr w.heap.size (.slice ad m cp) (flatI ss ns i) ∧ Below w.heap.size w wr) (fun v r _ => n - (intOf r).toNat)
  case atStart => exact ⟨0, 0, Nat.zero_le _, rfl, none, 0, rfl, rfl, by omega, Own.nil _ _, xrefl _⟩
  case round =>
    obtain ⟨i, m, hi8, rfl, ad, cp, rfl, hml, hm8, oi, bi⟩ := hrel
    by_cases hlt : i < n
    · have e9 : decide ((i : Int) < (n : Int)) = true := decide_eq_true (by omega)
      have hil : (i : Int) < (n : Int) := by omega
      have hcB : wr.cell? ⟨B, i, none⟩ = some (.int .i64 ((ss.getD i 0 : Nat) : Int)) := (HB.out wr bi).cell i (by rw [HL.out]; exact hlt)
      have hcC : wr.cell? ⟨C, i, none⟩ = some (.int .u64 ((ns.getD i 0 : Nat) : Int)) := (HC.out wr bi).cell i (by rw [HLN.out]; exact hlt)
      have hsi := HS.out i hlt
      have hni := HN.out i hlt
      have hsucc := flatI_succ (ss := ss) (ns := ns) (i := i) (by rw [HL.out, HLN.out]) (by rw [HLN.out]; exact hlt)
      obtain ⟨si, hsi0⟩ : ∃ si, si = ss.getD i 0 := ⟨_, rfl⟩
      obtain ⟨ni, hni0⟩ : ∃ ni, ni = ns.getD i 0 := ⟨_, rfl⟩
      rw [← hsi0] at hcB hsi hni hsucc
      rw [← hni0] at hcC hni hsucc
      have hsi8 : si ≤ 8 := by omega
      have cP := Lib.hid (fun W => Put_any W ni si hsi hni)
      have HSU := Lib.hid hsucc
      have HML := Lib.hid hml
      have HLT := Lib.hid hlt
      have hmi : m + si ≤ 100000 := by omega
      have hm8' : m + si ≤ 8 * (i + 1) := by omega
      clear hsi hni hsucc hsi0 hni0 hml hlt
      go_wp2_with (first
        | (go_at_call 31; refine (cP.out _).mono ?_; rintro e w2 ⟨a2, c2, rfl, o2, b2⟩)
        | (at_builtin; refine wp_append rfl (.tmp 34) (.tmp 35) rfl w.heap.size _ (flatI ss ns i) rfl (oi.below b2) _ _ _ (le si ni) rfl (o2.rdb (le_length _ _) (by omega)) (by rw [HML.out, le_length]; omega) (Nat.le_trans bi.size b2.size) ?_; intro v3 w3 o3 b3' _; have b3 : Below w.heap.size w w3 := (xtrans bi b2).trans b3'; obtain ⟨a3, c3, rfl, _, _⟩ := o3.rd (by rw [List.length_append, HML.out, le_length]; omega); rw [List.length_append, HML.out, le_length] at o3 ⊢)
        | fail)
      exact ⟨⟨i + 1, m + si, HLT.out, by go_num, a3, c3, rfl, by rw [HSU.out, List.length_append, HML.out, le_length], hm8', by rw [HSU.out]; exact o3, b3⟩, by simp [intOf]; have := HLT.out; omega⟩
    · obtain rfl : i = n := by omega
      have hend := flatI_end (ss := ss) (ns := ns) (by rw [HL.out, HLN.out])
      rw [HLN.out] at hend
      rw [hend] at hml oi
      go_wp2_with fail
      go_ret2
      exact ⟨ad, m, cp, rfl, hml, oi, bi⟩

set_option maxHeartbeats 2000000 in
theorem rFields_any (w : World) (B C : Nat) (n : Nat) (ss ns : List Nat) (hB : Blk w B 3 .i64 ss) (hC : Blk w C 54 .u64 ns) (hl : ss.length = n) (hln : ns.length = n) (hs : ∀ i, i < n → ss.getD i 0 = 1 ∨ ss.getD i 0 = 2 ∨ ss.getD i 0 = 4 ∨ ss.getD i 0 = 8) (hn : ∀ i, i < n → ns.getD i 0 < 256 ^ ss.getD i 0) (h100 : n ≤ 100) :
    Calls Try.prog 52 #[.slice (some ⟨B, 0, none⟩) n n, .slice (some ⟨C, 0, none⟩) n n] w fun e w' => ∃ ad m cp, e = .returned (.tuple #[.slice ad m cp, .int .i64 0]) ∧ (flat ss ns).length = m ∧ Own w' w.heap.size (.slice ad m cp) (flat ss ns) ∧ Below w.heap.size w w' := by
  have HB := Lib.hid (fun (W : World) (hb : Below w.heap.size w W) => hB.below hb)
  have HC := Lib.hid (fun (W : World) (hb : Below w.heap.size w W) => hC.below hb)
  have HS := Lib.hid hs
  have HN := Lib.hid hn
  have HL := Lib.hid hl
  have HLN := Lib.hid hln
  have hBl := hB.lt
  have hCl := hC.lt
  have h100i : (n : Int) ≤ 100 := by omega
  clear hs hn hl hln hB hC
  go_enter Try.func52, Try.ntmps52
  go_wp2_with fail
  go_loopw [6, 7] (fun v r wr => ∃ i m : Nat, i ≤ n ∧ r = .int .i64 i ∧ ∃ ad cp, v = .slice ad m cp ∧ (flatI ss ns i).length = m ∧ m ≤ 8 * i ∧ Own wr w.heap.size (.slice ad m cp) (flatI ss ns i) ∧ Below w.heap.size w wr) (fun v r _ => n - (intOf r).toNat)
  case atStart => exact ⟨0, 0, Nat.zero_le _, rfl, none, 0, rfl, rfl, by omega, Own.nil _ _, xrefl _⟩
  case round =>
    obtain ⟨i, m, hi8, rfl, ad, cp, rfl, hml, hm8, oi, bi⟩ := hrel
    by_cases hlt : i < n
    · have e9 : decide ((i : Int) < (n : Int)) = true := decide_eq_true (by omega)
      have hil : (i : Int) < (n : Int) := by omega
      have hcB : wr.cell? ⟨B, i, none⟩ = some (.int .i64 ((ss.getD i 0 : Nat) : Int)) := (HB.out wr bi).cell i (by rw [HL.out]; exact hlt)
      have hcC : wr.cell? ⟨C, i, none⟩ = some (.int .u64 ((ns.getD i 0 : Nat) : Int)) := (HC.out wr bi).cell i (by rw [HLN.out]; exact hlt)
      have hsi := HS.out i hlt
      have hni := HN.out i hlt
      have hsucc := flatI_succ (ss := ss) (ns := ns) (i := i) (by rw [HL.out, HLN.out]) (by rw [HLN.out]; exact hlt)
      obtain ⟨si, hsi0⟩ : ∃ si, si = ss.getD i 0 := ⟨_, rfl⟩
      obtain ⟨ni, hni0⟩ : ∃ ni, ni = ns.getD i 0 := ⟨_, rfl⟩
      rw [← hsi0] at hcB hsi hni hsucc
      rw [← hni0] at hcC hni hsucc
      have hsi8 : si ≤ 8 := by omega
      have cP := Lib.hid (fun W => rPut_any W ni si hsi hni)
      have HSU := Lib.hid hsucc
      have HML := Lib.hid hml
      have HLT := Lib.hid hlt
      have hmi : m + si ≤ 100000 := by omega
      have hm8' : m + si ≤ 8 * (i + 1) := by omega
      clear hsi hni hsucc hsi0 hni0 hml hlt
      go_wp2_with fail
      refine wp_region_held_drew (S := fun W => W.cell? ⟨B, i, none⟩ = some (.int .i64 (si : Int)) ∧ W.cell? ⟨C, i, none⟩ = some (.int .u64 (ni : Int)) ∧ Own W w.heap.size (.slice ad m cp) (flatI ss ns i) ∧ Below w.heap.size w W) (by kernel_rfl) (⟨hcB, hcC, oi, below_drewN bi 1⟩) (fun hHeld => ?_)
      generalize World.drew _ = wv at hHeld ⊢
      clear oi bi hcB hcC
      refine takeL (i := 0) (v := ?_) rfl rfl (by kernel_rfl) (by kernel_rfl) (by kernel_rfl) (fun _ _ _ h => h) (Or.inl ⟨by rfl, ?_⟩) (by assumption) ?_
      rotate_left
      · (intro w' hSw; go_simp; try with_reducible rfl)
      try simp only [Act.put, List.setIfInBounds_toArray, List.set_cons_zero, List.set_cons_succ]
      refine takeL (i := 1) (v := ?_) rfl rfl (by kernel_rfl) (by kernel_rfl) (by kernel_rfl) (fun _ _ _ h => h) (Or.inl ⟨by rfl, ?_⟩) (by assumption) ?_
      rotate_left
      · (intro w' hSw; go_simp; try with_reducible rfl)
      try simp only [Act.put, List.setIfInBounds_toArray, List.set_cons_zero, List.set_cons_succ]
      refine takeL (i := 2) (v := ?_) rfl rfl (by kernel_rfl) (by kernel_rfl) (by kernel_rfl) (fun _ _ _ h => h) (Or.inl ⟨by rfl, ?_⟩) (by assumption) ?_
      rotate_left
      · (intro w' hSw; go_simp; try with_reducible rfl)
      try simp only [Act.put, List.setIfInBounds_toArray, List.set_cons_zero, List.set_cons_succ]
      refine takeL (i := 3) (v := .int .u64 (ni : Int)) rfl rfl (by kernel_rfl) (by kernel_rfl) (by kernel_rfl) (fun _ _ _ h => h) (Or.inl ⟨by rfl, ?_⟩) (by assumption) ?_
      · (intro w' hSw; have hq := hSw.2.1; go_simp; try with_reducible rfl)
      try simp only [Act.put, List.setIfInBounds_toArray, List.set_cons_zero, List.set_cons_succ]
      refine takeL (i := 4) (v := ?_) rfl rfl (by kernel_rfl) (by kernel_rfl) (by kernel_rfl) (fun _ _ _ h => h) (Or.inl ⟨by rfl, ?_⟩) (by assumption) ?_
      rotate_left
      · (intro w' hSw; go_simp; try with_reducible rfl)
      try simp only [Act.put, List.setIfInBounds_toArray, List.set_cons_zero, List.set_cons_succ]
      refine takeL (i := 5) (v := ?_) rfl rfl (by kernel_rfl) (by kernel_rfl) (by kernel_rfl) (fun _ _ _ h => h) (Or.inl ⟨by rfl, ?_⟩) (by assumption) ?_
      rotate_left
      · (intro w' hSw; go_simp; try with_reducible rfl)
      try simp only [Act.put, List.setIfInBounds_toArray, List.set_cons_zero, List.set_cons_succ]
      refine takeL (i := 6) (v := ?_) rfl rfl (by kernel_rfl) (by kernel_rfl) (by kernel_rfl) (fun _ _ _ h => h) (Or.inl ⟨by rfl, ?_⟩) (by assumption) ?_
      rotate_left
      · (intro w' hSw; go_simp; try with_reducible rfl)
      try simp only [Act.put, List.setIfInBounds_toArray, List.set_cons_zero, List.set_cons_succ]
      refine takeL (i := 7) (v := .int .i64 (si : Int)) rfl rfl (by kernel_rfl) (by kernel_rfl) (by kernel_rfl) (fun _ _ _ h => h) (Or.inl ⟨by rfl, ?_⟩) (by assumption) ?_
      · (intro w' hSw; have hq := hSw.1; go_simp; try with_reducible rfl)
      try simp only [Act.put, List.setIfInBounds_toArray, List.set_cons_zero, List.set_cons_succ]
      refine wpAnyH_ready (rs := [8]) (by kernel_rfl) (by simp) ?_
      refine consL rfl (fun K hK => ?_) AllReadyH.nil
      · rw [if_pos (by rfl)]
        go_simp
        refine (cP.out _).mono ?_
        rintro e w2 ⟨a2, c2, rfl, o2, b2⟩
        refine hK.out _ _ (⟨((b2.cell (p := ⟨B, i, none⟩) (Nat.lt_of_lt_of_le hBl hHeld.2.2.2.size)).trans hHeld.1), ((b2.cell (p := ⟨C, i, none⟩) (Nat.lt_of_lt_of_le hCl hHeld.2.2.2.size)).trans hHeld.2.1), hHeld.2.2.1.below b2, xtrans hHeld.2.2.2 b2⟩) (fun hHeld => ?_)
        clear hK K
        try simp only [Act.put, List.setIfInBounds_toArray, List.set_cons_zero, List.set_cons_succ]
        refine takeL (i := 9) (v := ?_) rfl rfl (by kernel_rfl) (by kernel_rfl) (by kernel_rfl) (fun _ _ _ h => h) (Or.inl ⟨by rfl, ?_⟩) (by assumption) ?_
        rotate_left
        · (intro w' hSw; go_simp; try with_reducible rfl)
        try simp only [Act.put, List.setIfInBounds_toArray, List.set_cons_zero, List.set_cons_succ]
        refine takeL (i := 10) (v := ?_) rfl rfl (by kernel_rfl) (by kernel_rfl) (by kernel_rfl) (fun _ _ _ h => h) (Or.inl ⟨by rfl, ?_⟩) (by assumption) ?_
        rotate_left
        · (intro w' hSw; go_simp; try with_reducible rfl)
        try simp only [Act.put, List.setIfInBounds_toArray, List.set_cons_zero, List.set_cons_succ]
        refine takeL (i := 11) (v := ?_) rfl rfl (by kernel_rfl) (by kernel_rfl) (by kernel_rfl) (fun _ _ _ h => h) (Or.inl ⟨by rfl, ?_⟩) (by assumption) ?_
        rotate_left
        · (intro w' hSw; go_simp; try with_reducible rfl)
        try simp only [Act.put, List.setIfInBounds_toArray, List.set_cons_zero, List.set_cons_succ]
        refine takeL (i := 12) (v := ?_) rfl rfl (by kernel_rfl) (by kernel_rfl) (by kernel_rfl) (fun _ _ _ h => h) (Or.inl ⟨by rfl, ?_⟩) (by assumption) ?_
        rotate_left
        · (intro w' hSw; go_simp; try with_reducible rfl)
        try simp only [Act.put, List.setIfInBounds_toArray, List.set_cons_zero, List.set_cons_succ]
        refine takeL (i := 13) (v := ?_) rfl rfl (by kernel_rfl) (by kernel_rfl) (by kernel_rfl) (fun _ _ _ h => h) (Or.inl ⟨by rfl, ?_⟩) (by assumption) ?_
        rotate_left
        · (intro w' hSw; go_simp; try with_reducible rfl)
        try simp only [Act.put, List.setIfInBounds_toArray, List.set_cons_zero, List.set_cons_succ]
        refine wpAnyH_done (by kernel_rfl) ?_ _
        have oi2 := hHeld.2.2.1
        have bi2 := hHeld.2.2.2
        clear hHeld
        go_wp2_with (first
          | (at_builtin; refine wp_append rfl (.tmp 36) (.tmp 37) rfl w.heap.size _ (flatI ss ns i) rfl oi2 _ _ _ (le si ni) rfl (o2.rdb (le_length _ _) (by omega)) (by rw [HML.out, le_length]; omega) bi2.size ?_; intro v3 w3 o3 b3' _; have b3 : Below w.heap.size w w3 := bi2.trans b3'; obtain ⟨a3, c3, rfl, _, _⟩ := o3.rd (by rw [List.length_append, HML.out, le_length]; omega); rw [List.length_append, HML.out, le_length] at o3 ⊢)
          | fail)
        exact ⟨⟨i + 1, m + si, HLT.out, by go_num, a3, c3, rfl, by rw [HSU.out, List.length_append, HML.out, le_length], hm8', by rw [HSU.out]; exact o3, b3⟩, by simp [intOf]; have := HLT.out; omega⟩
    · obtain rfl : i = n := by omega
      have hend := flatI_end (ss := ss) (ns := ns) (by rw [HL.out, HLN.out])
      rw [HLN.out] at hend
      rw [hend] at hml oi
      go_wp2_with fail
      go_ret2
      exact ⟨ad, m, cp, rfl, hml, oi, bi⟩

def splitI (ss bs : List Nat) (i : Nat) : List Nat := splitN (ss.take i) bs
theorem splitN_take (ss bs : List Nat) (k : Nat) (h : (ss.sum) ≤ k) : splitN ss (bs.take k) = splitN ss bs := by
  induction ss generalizing bs k with
  | nil => rfl
  | cons s ss ih =>
    simp only [List.sum_cons] at h
    simp only [splitN]
    rw [List.take_take, Nat.min_eq_left (by omega), List.drop_take, ih _ _ (by omega)]

set_option maxHeartbeats 4000000 in
theorem Split_any (w : World) (B : Nat) (n : Nat) (ss : List Nat) (a : Option Addr) (len cap : Nat) (bs : List Nat) (hB : Blk w B 3 .i64 ss) (hl : ss.length = n) (hr : RdB w a len cap bs) (hs : ∀ i, i < n → ss.getD i 0 = 1 ∨ ss.getD i 0 = 2 ∨ ss.getD i 0 = 4 ∨ ss.getD i 0 = 8) (hsum : ss.sum = len) (h100 : n ≤ 100) :
    Calls Try.prog 33 #[.slice (some ⟨B, 0, none⟩) n n, .slice a len cap] w fun e w' => ∃ v, e = .returned (.tuple #[v, .int .i64 0]) ∧ w'.ownsRow w.heap.size 54 1 v n (nv .u64 (splitN ss bs)) ∧ Below w.heap.size w w' := by
  have HB := Lib.hid (fun (W : World) (hb : Below w.heap.size w W) => hB.below hb)
  have HS := Lib.hid hs
  have HL := Lib.hid hl
  have hBl := hB.lt
  have h100i : (n : Int) ≤ 100 := by omega
  have us := Try.underlying25
  obtain ⟨i0, hi0⟩ := info8f
  have HI := Lib.hid hi0
  have hbl := hr.2.1
  have hr0 := hr
  clear hs hl hB hi0
  go_enter Try.func33, Try.ntmps33
  go_wp2_with fail
  go_loopw [1, 4, 12] (fun x v r wr => ∃ (i : Nat) (a' : Option Addr) (l' c' : Nat) (bs' : List Nat) (outs : List Nat) (vo : Value), i ≤ n ∧ r = .int .i64 i ∧ vo = v ∧ x = .slice a' l' c' ∧ RdB wr a' l' c' bs' ∧ (ss.drop i).sum = l' ∧ outs.length = i ∧ outs ++ splitN (ss.drop i) bs' = splitN ss bs ∧ wr.ownsRow w.heap.size 54 1 vo i (nv .u64 outs) ∧ Below w.heap.size w wr ∧ (∀ y, a' = some y → 0 < l' → y.block < w.heap.size)) (fun x v r _ => n - (intOf r).toNat)
  case atStart => exact ⟨0, a, len, cap, bs, [], .slice none 0 0, Nat.zero_le _, rfl, rfl, rfl, hr, by rw [List.drop_zero]; exact hsum, rfl, by rw [List.nil_append, List.drop_zero], row_nil _ _ _ _, xrefl _, rdb_low hr⟩
  case round =>
    clear hr hr0
    obtain ⟨i, a', l', c', bs', outs, vo, hi8, rfl, rfl, rfl, hr, hsm, hol, hsp, oi, bi, hlow⟩ := hrel
    by_cases hlt : i < n
    · have e9 : decide ((i : Int) < (n : Int)) = true := decide_eq_true (by omega)
      have hil : (i : Int) < (n : Int) := by omega
      have hcB : wr.cell? ⟨B, i, none⟩ = some (.int .i64 ((ss.getD i 0 : Nat) : Int)) := (HB.out wr bi).cell i (by rw [HL.out]; exact hlt)
      have hsi := HS.out i hlt
      rw [drop_cons (by rw [HL.out]; exact hlt)] at hsm hsp
      simp only [List.sum_cons, splitN] at hsm hsp
      obtain ⟨si, hsi0⟩ : ∃ si, si = ss.getD i 0 := ⟨_, rfl⟩
      rw [← hsi0] at hcB hsi hsm hsp
      have hsl : si ≤ l' := by omega
      have hs0 : 0 < si := by omega
      have hsc : (si : Int) ≤ (c' : Int) := by have := hr.2.2.1; omega
      have hgt : decide ((si : Int) > (l' : Int)) = false := decide_eq_false (by omega)
      have hcm : c' ≤ 9223372036854775807 := hr.2.2.2.1
      have cM := Lib.hid (fun W => may_any W si hsi)
      have cG := Lib.hid (fun (W : World) (h : RdB W a' l' c' bs') => Get_any W a' si si (bs'.take si) hsi (row8_cut h si hsl hs0))
      have hnum : num (bs'.take si) < 18446744073709551616 := Nat.lt_of_lt_of_le (num_lt _ (fun x hx => hr.2.2.2.2.1 x (List.mem_of_mem_take hx))) (pow_le64 (by rw [List.length_take]; omega))
      obtain ⟨q, hq⟩ : ∃ q, q = num (bs'.take si) := ⟨_, rfl⟩
      rw [← hq] at cG hnum hsp
      have hsp2 : (outs ++ [q]) ++ splitN (ss.drop (i + 1)) (bs'.drop si) = splitN ss bs := by rw [List.append_assoc]; exact hsp
      have hsm2 : (ss.drop (i + 1)).sum = l' - si := by omega
      have HSP := Lib.hid hsp2
      have HSM := Lib.hid hsm2
      have HOL := Lib.hid hol
      have HLT := Lib.hid hlt
      have hix : i ≤ 100 := by omega
      clear hsp hsp2 hsm hsm2 hol hlt hsi hsi0 hq
      go_wp2_with (first
        | (go_at_call 45; refine (cM.out _).mono ?_; rintro e w1 ⟨rfl, rfl⟩)
        | (go_at_call 48; refine (cG.out _ hr).mono ?_; rintro e w1 ⟨rfl, rfl⟩)
        | fail)
      refine wp_region_held_drew (S := fun W => RdB W a' l' c' bs' ∧ Below w.heap.size w W) (by kernel_rfl) (⟨hr, below_drewN bi 1⟩) (fun hHeld => ?_)
      have oi2 := World.ownsRow.drew oi
      generalize World.drew _ = wv at hHeld oi2 ⊢
      clear oi bi hr hcB
      refine takeL (i := 0) (v := ?_) rfl rfl (by kernel_rfl) (by kernel_rfl) (by kernel_rfl) (fun _ _ _ h => h) (Or.inl ⟨by rfl, ?_⟩) (by assumption) ?_
      rotate_left
      · (intro w' hSw; go_simp; try with_reducible rfl)
      try simp only [Act.put, List.setIfInBounds_toArray, List.set_cons_zero, List.set_cons_succ]
      refine takeL (i := 1) (v := ?_) rfl rfl (by kernel_rfl) (by kernel_rfl) (by kernel_rfl) (fun _ _ _ h => h) (Or.inl ⟨by rfl, ?_⟩) (by assumption) ?_
      rotate_left
      · (intro w' hSw; go_simp; try with_reducible rfl)
      try simp only [Act.put, List.setIfInBounds_toArray, List.set_cons_zero, List.set_cons_succ]
      refine takeL (i := 4) (v := ?_) rfl rfl (by kernel_rfl) (by kernel_rfl) (by kernel_rfl) (fun _ _ _ h => h) (Or.inl ⟨by rfl, ?_⟩) (by assumption) ?_
      rotate_left
      · (intro w' hSw; go_simp; try with_reducible rfl)
      try simp only [Act.put, List.setIfInBounds_toArray, List.set_cons_zero, List.set_cons_succ]
      refine takeL (i := 5) (v := ?_) rfl rfl (by kernel_rfl) (by kernel_rfl) (by kernel_rfl) (fun _ _ _ h => h) (Or.inl ⟨by rfl, ?_⟩) (by assumption) ?_
      rotate_left
      · (intro w' hSw; go_simp; try with_reducible rfl)
      try simp only [Act.put, List.setIfInBounds_toArray, List.set_cons_zero, List.set_cons_succ]
      refine takeL (i := 6) (v := .slice (cutA a' c' si) (l' - si) (c' - si)) rfl rfl (by kernel_rfl) (by kernel_rfl) (by kernel_rfl) (fun _ _ _ h => h) (yieldsSliceFrom (by rfl) rfl (by rfl) (by rfl) us HI.out.1 HI.out.2 hsl) (by assumption) ?_
      try simp only [Act.put, List.setIfInBounds_toArray, List.set_cons_zero, List.set_cons_succ]
      refine wpAnyH_ready (rs := [2]) (by kernel_rfl) (by simp) ?_
      refine consL rfl (fun K hK => ?_) AllReadyH.nil
      · rw [if_pos (by rfl)]
        go_simp
        have o1 := row_below oi2 (xnew wv (.cells #[.int .u64 (q : Int)] 54))
        have hc1 := cell_new0 wv (.int .u64 (q : Int)) 54 (0, 0)
        have hb1 := hHeld.2.size
        have hl1 := hHeld.1.below (xnew wv (.cells #[.int .u64 (q : Int)] 54))
        have bb1 := xalloc hHeld.2 (.cells #[.int .u64 (q : Int)] 54)
        generalize wv.heap.size = R at hc1 hb1 ⊢
        generalize wv.alloc (.cells #[.int .u64 (q : Int)] 54) = w2 at o1 hc1 hl1 bb1 ⊢
        refine hK.out _ _ (⟨hl1, bb1⟩) (fun hHeld => ?_)
        clear hK K
        try simp only [Act.put, List.setIfInBounds_toArray, List.set_cons_zero, List.set_cons_succ]
        refine wpAnyH_ready (rs := [3]) (by kernel_rfl) (by simp) ?_
        refine consL rfl (fun K hK => ?_) AllReadyH.nil
        · rw [if_pos (by rfl)]
          refine wpo_append_one rowU (.tmp 36) (.tmp 38) rfl w.heap.size _ i (nv .u64 outs) rfl o1 R 1 [.int .u64 (q : Int)] rfl rfl (news_one hc1) (one_int _ _) (by omega) (by decide) hHeld.2.size ?_
          intro v3 w3 o3 g3 _
          rw [nv_snoc] at o3
          have hne3 : ∀ x, a' = some x → 0 < l' → vo.ownBlock ≠ some x.block := fun x hx h0 e => by have := (row_block o1 _ e).1; have := hlow x hx h0; omega
          refine hK.out _ _ (⟨rdb_grownM hHeld.1 g3 hne3, hHeld.2.grown g3 hHeld.2.size (fun g hg => (row_block o1 g hg).1)⟩) (fun hHeld => ?_)
          clear hK K
          try simp only [Act.put, List.setIfInBounds_toArray, List.set_cons_zero, List.set_cons_succ]
          refine takeL (i := 7) (v := ?_) rfl rfl (by kernel_rfl) (by kernel_rfl) (by kernel_rfl) (fun _ _ _ h => h) (Or.inl ⟨by rfl, ?_⟩) (by assumption) ?_
          rotate_left
          · (intro w' hSw; go_simp; try with_reducible rfl)
          try simp only [Act.put, List.setIfInBounds_toArray, List.set_cons_zero, List.set_cons_succ]
          refine takeL (i := 8) (v := ?_) rfl rfl (by kernel_rfl) (by kernel_rfl) (by kernel_rfl) (fun _ _ _ h => h) (Or.inl ⟨by rfl, ?_⟩) (by assumption) ?_
          rotate_left
          · (intro w' hSw; go_simp; try with_reducible rfl)
          try simp only [Act.put, List.setIfInBounds_toArray, List.set_cons_zero, List.set_cons_succ]
          refine wpAnyH_done (by kernel_rfl) ?_ _
          go_wp2_with fail
          have hcutlow : ∀ y, cutA a' c' si = some y → 0 < l' - si → y.block < w.heap.size := fun y hy h0 => cutA_lt (fun x hx => hlow x hx (by omega)) y hy
          exact ⟨⟨i + 1, cutA a' c' si, l' - si, c' - si, bs'.drop si, outs ++ [q], v3, HLT.out, by go_num, rfl, rfl, hHeld.1.cut si hsl, HSM.out, by rw [List.length_append, HOL.out]; rfl, HSP.out, o3, hHeld.2, hcutlow⟩, by simp [intOf]; have := HLT.out; omega⟩
    · obtain rfl : i = n := by omega
      have hd0 : ss.drop i = [] := List.drop_of_length_le (by rw [HL.out]; exact Nat.le_refl _)
      rw [hd0] at hsm hsp
      simp only [List.sum_nil, splitN, List.append_nil] at hsm hsp
      subst hsm
      rw [hsp] at oi
      go_wp2_with fail
      go_ret2
      exact ⟨_, rfl, oi, bi⟩

theorem sum_take {ss : List Nat} {i : Nat} (h : i < ss.length) : (ss.take (i + 1)).sum = (ss.take i).sum + ss.getD i 0 := by
  rw [take_snoc h, List.sum_append]
  simp
theorem sum_small (ss : List Nat) (h : ∀ i, i < ss.length → ss.getD i 0 ≤ 8) (i : Nat) (hi : i ≤ ss.length) : (ss.take i).sum ≤ 8 * i := by
  induction i with
  | zero => simp
  | succ i ih =>
    rw [sum_take (by omega)]
    have := ih (by omega)
    have := h i (by omega)
    omega

set_option maxHeartbeats 4000000 in
theorem rSplit_any (w : World) (B : Nat) (n : Nat) (ss : List Nat) (a : Option Addr) (len cap : Nat) (bs : List Nat) (hB : Blk w B 3 .i64 ss) (hl : ss.length = n) (hr : RdB w a len cap bs) (hs : ∀ i, i < n → ss.getD i 0 = 1 ∨ ss.getD i 0 = 2 ∨ ss.getD i 0 = 4 ∨ ss.getD i 0 = 8) (hsum : ss.sum = len) (h100 : n ≤ 100) :
    Calls Try.prog 38 #[.slice (some ⟨B, 0, none⟩) n n, .slice a len cap] w fun e w' => ∃ v, e = .returned (.tuple #[v, .int .i64 0]) ∧ w'.ownsRow w.heap.size 54 1 v n (nv .u64 (splitN ss bs)) ∧ Below w.heap.size w w' := by
  have HB := Lib.hid (fun (W : World) (hb : Below w.heap.size w W) => hB.below hb)
  have HB0 := Lib.hid hB
  have HR := Lib.hid (fun (W : World) (hb : Below w.heap.size w W) => hr.below hb)
  have HS := Lib.hid hs
  have HL := Lib.hid hl
  have hBl := hB.lt
  have h100i : (n : Int) ≤ 100 := by omega
  have us := Try.underlying25
  obtain ⟨i0, hi0⟩ := info8f
  have HI := Lib.hid hi0
  have HSM := Lib.hid hsum
  have HSS := Lib.hid (sum_small ss (fun i hi => by have := hs i (by omega); omega))
  have hle : len ≤ cap := hr.2.2.1
  have hcm : cap ≤ 9223372036854775807 := hr.2.2.2.1
  have HBL := Lib.hid hr.2.1
  have HBB := Lib.hid hr.2.2.2.2.1
  clear hs hl hB hi0 hsum hr
  go_enter Try.func38, Try.ntmps38
  go_wp2_with fail
  go_loop [6, 7] (fun x r => ∃ i m : Nat, i ≤ n ∧ r = .int .i64 i ∧ x = .int .i64 (m : Int) ∧ (ss.take i).sum = m ∧ m ≤ 8 * i) (fun x r => n - (intOf r).toNat)
  case atStart => exact ⟨0, 0, Nat.zero_le _, rfl, rfl, rfl, by omega⟩
  case round =>
    obtain ⟨i, m, hi8, rfl, rfl, hm, hm8⟩ := hrel
    by_cases hlt : i < n
    · have e9 : decide ((i : Int) < (n : Int)) = true := decide_eq_true (by omega)
      have hil : (i : Int) < (n : Int) := by omega
      have hcB : w.cell? ⟨B, i, none⟩ = some (.int .i64 ((ss.getD i 0 : Nat) : Int)) := HB0.out.cell i (by rw [HL.out]; exact hlt)
      have hsi := HS.out i hlt
      have hst := sum_take (ss := ss) (i := i) (by rw [HL.out]; exact hlt)
      obtain ⟨si, hsi0⟩ : ∃ si, si = ss.getD i 0 := ⟨_, rfl⟩
      rw [← hsi0] at hcB hsi hst
      rw [hm] at hst
      obtain ⟨m2, hm2⟩ : ∃ m2, m2 = m + si := ⟨_, rfl⟩
      have hadd : (m : Int) + (si : Int) = (m2 : Int) := by omega
      have hm28 : m2 ≤ 8 * (i + 1) := by omega
      have cM := Lib.hid (fun W => rSize_any W si hsi)
      have HST : Hid ((ss.take (i + 1)).sum = m2) := Lib.hid (by rw [hst, hm2])
      have HLT := Lib.hid hlt
      clear hst hsi hsi0 hm hm2 hlt
      go_wp2_with (first
        | (go_at_call 55; refine (cM.out _).mono ?_; rintro e w1 ⟨rfl, rfl⟩)
        | fail)
      exact ⟨⟨i + 1, m2, HLT.out, by go_num, rfl, HST.out, hm28⟩, by simp [intOf]; have := HLT.out; omega⟩
    · obtain rfl : i = n := by omega
      rw [List.take_of_length_le (by rw [HL.out]; exact Nat.le_refl _), HSM.out] at hm
      subst hm
      have hne : ((len : Int) != (len : Int)) = false := by simp
      go_wp2_with fail
      go_loopw [9, 10, 11] (fun v x r wr => ∃ (j m : Nat) (outs : List Nat) (vo : Value), j ≤ i ∧ r = .int .i64 j ∧ x = .int .i64 (m : Int) ∧ vo = v ∧ (ss.take j).sum = m ∧ m + (ss.drop j).sum = len ∧ outs.length = j ∧ outs ++ splitN (ss.drop j) (bs.drop m) = splitN ss bs ∧ wr.ownsRow w.heap.size 54 1 vo j (nv .u64 outs) ∧ Below w.heap.size w wr) (fun v x r _ => i - (intOf r).toNat)
      case atStart => exact ⟨0, 0, [], .slice none 0 0, Nat.zero_le _, rfl, rfl, rfl, rfl, by rw [List.drop_zero, Nat.zero_add]; exact HSM.out, rfl, by rw [List.nil_append, List.drop_zero, List.drop_zero], row_nil _ _ _ _, xrefl _⟩
      case round =>
        obtain ⟨j, m, outs, vo, hj8, rfl, rfl, rfl, hm, hms, hol, hsp, oi, bi⟩ := hrel
        by_cases hlt : j < i
        · have e9 : decide ((j : Int) < (i : Int)) = true := decide_eq_true (by omega)
          have hil : (j : Int) < (i : Int) := by omega
          have hcB : wr.cell? ⟨B, j, none⟩ = some (.int .i64 ((ss.getD j 0 : Nat) : Int)) := (HB.out wr bi).cell j (by rw [HL.out]; exact hlt)
          have hsi := HS.out j hlt
          have hst := sum_take (ss := ss) (i := j) (by rw [HL.out]; exact hlt)
          rw [drop_cons (by rw [HL.out]; exact hlt)] at hms hsp
          simp only [List.sum_cons, splitN] at hms hsp
          obtain ⟨si, hsi0⟩ : ∃ si, si = ss.getD j 0 := ⟨_, rfl⟩
          rw [← hsi0] at hcB hsi hst hms hsp
          rw [hm] at hst
          obtain ⟨m2, hm2⟩ : ∃ m2, m2 = m + si := ⟨_, rfl⟩
          have hadd : (m : Int) + (si : Int) = (m2 : Int) := by omega
          have hm2l : m2 ≤ len := by omega
          have hmm : m2 - m = si := by omega
          have hml : m ≤ len := by omega
          have hsl : si ≤ len - m := by omega
          have hm28 : m2 ≤ 1000 := by have := HSS.out j (by rw [HL.out]; omega); omega
          have hr := (HR.out wr bi).cut m hml
          have cG := Lib.hid (fun (W : World) (h : RdB W (cutA a cap m) (len - m) (cap - m) (bs.drop m)) => rGet_any W (cutA a cap m) si (cap - m) ((bs.drop m).take si) hsi (rdb_take h si hsl).2)
          have hnum : num ((bs.drop m).take si) < 18446744073709551616 := Nat.lt_of_lt_of_le (num_lt _ (fun x hx => HBB.out x (List.mem_of_mem_drop (List.mem_of_mem_take hx)))) (pow_le64 (by rw [List.length_take]; omega))
          obtain ⟨q, hq⟩ : ∃ q, q = num ((bs.drop m).take si) := ⟨_, rfl⟩
          rw [← hq] at cG hnum hsp
          have hsp2 : (outs ++ [q]) ++ splitN (ss.drop (j + 1)) (bs.drop m2) = splitN ss bs := by rw [List.append_assoc, hm2]; rw [List.drop_drop] at hsp; exact hsp
          have HSP := Lib.hid hsp2
          have HST : Hid ((ss.take (j + 1)).sum = m2) := Lib.hid (by rw [hst, hm2])
          have HMS : Hid (m2 + (ss.drop (j + 1)).sum = len) := Lib.hid (by omega)
          have HOL := Lib.hid hol
          have HLT := Lib.hid hlt
          have hix : j ≤ 100 := by omega
          have HSI := Lib.hid hsi0
          clear hsp hsp2 hm hms hst hol hlt hsi hsi0 hq hm2
          go_wp2_with (first
            | (refine wp_slice_mid rfl (.tmp 44) (.tmp 45) (.tmp 51) rfl rfl rfl rfl us HI.out.1 HI.out.2 (show m ≤ m2 by omega) (show m2 ≤ cap by omega) ?_; rw [hmm])
            | (go_at_call 56; refine (cG.out _ hr).mono ?_; rintro e w1 ⟨rfl, rfl⟩)
            | (at_builtin; have o1 := row_below oi (xnew wr (.cells #[.int .u64 (q : Int)] 54)); refine wpList_of_wp rfl (wpo_append_one rowU (.tmp 56) (.tmp 58) rfl w.heap.size _ j (nv .u64 outs) rfl o1 wr.heap.size 1 [.int .u64 (q : Int)] rfl rfl (news_one (cell_new0 _ _ _ _)) (one_int _ _) (by omega) (by decide) (Nat.le_trans bi.size (xnew wr _).size) ?_); intro v3 w3 o3 g3 _; rw [nv_snoc] at o3; have b3 := (xalloc bi (.cells #[.int .u64 (q : Int)] 54)).grown g3 (Nat.le_trans bi.size (xnew wr _).size) (fun g hg => (row_block o1 g hg).1); have hcB3 := (HB.out w3 b3).cell j (by rw [HL.out]; exact HLT.out); rw [← HSI.out] at hcB3; clear o1 g3)
            | fail)
          exact ⟨⟨j + 1, m2, outs ++ [q], v3, HLT.out, by go_num, rfl, rfl, HST.out, HMS.out, by rw [List.length_append, HOL.out]; rfl, HSP.out, o3, b3⟩, by simp [intOf]; have := HLT.out; omega⟩
        · obtain rfl : j = i := by omega
          have hd0 : ss.drop j = [] := List.drop_of_length_le (by rw [HL.out]; exact Nat.le_refl _)
          rw [hd0] at hsp
          simp only [splitN, List.append_nil] at hsp
          rw [hsp] at oi
          go_wp2_with fail
          go_ret2
          exact ⟨_, rfl, oi, bi⟩
end Go.Proofs.Ytpcppnoomogloaa.Fr
