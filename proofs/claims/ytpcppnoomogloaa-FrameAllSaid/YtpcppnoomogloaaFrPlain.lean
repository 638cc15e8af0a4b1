/- The plain law of layers 1 and 11: numbers in bytes, heads, frames. -/
import Derived.Test.YtpcppnoomogloaaPla
namespace Go.Proofs.Ytpcppnoomogloaa.Fr
set_option linter.unusedSimpArgs false
set_option linter.unusedVariables false
open Go.Proofs.Ytpcppnoomogloaa.Ad (more more_lt more_set S S_set getD_lt)
open Go.Proofs.Ytpcppnoomogloaa.St (xorS xorS_length xorS_twice xorS_lt)
open Go.Proofs.Ytpcppnoomogloaa.Ae (sealA openA sealA_length sealA_lt tagA)

/-! ### Numbers in bytes -/
def le (k n : Nat) : List Nat := (List.range k).map fun i => n / 256 ^ i % 256
def num : List Nat → Nat
  | [] => 0
  | x :: xs => x + 256 * num xs
theorem le_length (k n : Nat) : (le k n).length = k := by simp [le]
theorem le_lt (k n : Nat) : ∀ x ∈ le k n, x < 256 := by
  intro x hx
  simp only [le, List.mem_map] at hx
  obtain ⟨i, _, rfl⟩ := hx
  exact Nat.mod_lt _ (by decide)
theorem le_succ (k n : Nat) : le (k + 1) n = n % 256 :: le k (n / 256) := by
  unfold le
  rw [List.range_succ_eq_map, List.map_cons, List.map_map]
  congr 1
  · simp
  · refine List.map_congr_left fun i _ => ?_
    simp only [Function.comp]
    rw [Nat.div_div_eq_div_mul, ← Nat.pow_succ']
theorem le_end (k n : Nat) : le (k + 1) n = le k n ++ [n / 256 ^ k % 256] := by
  unfold le
  rw [List.range_succ, List.map_append]
  rfl
theorem num_lt (bs : List Nat) (h : ∀ x ∈ bs, x < 256) : num bs < 256 ^ bs.length := by
  induction bs with
  | nil => decide
  | cons x bs ih =>
    have h1 := h x List.mem_cons_self
    have h2 := ih (fun y hy => h y (List.mem_cons_of_mem _ hy))
    simp only [num, List.length_cons, Nat.pow_succ]
    omega
theorem num_le (k n : Nat) : num (le k n) = n % 256 ^ k := by
  induction k generalizing n with
  | zero => simp [le, num, Nat.mod_one]
  | succ k ih =>
    rw [le_succ, num, ih, Nat.pow_succ', Nat.mod_mul]
theorem le_num (bs : List Nat) (h : ∀ x ∈ bs, x < 256) : le bs.length (num bs) = bs := by
  induction bs with
  | nil => rfl
  | cons x bs ih =>
    have h1 := h x List.mem_cons_self
    have h2 := ih (fun y hy => h y (List.mem_cons_of_mem _ hy))
    rw [List.length_cons, le_succ, num]
    have e1 : (x + 256 * num bs) % 256 = x := by omega
    have e2 : (x + 256 * num bs) / 256 = num bs := by omega
    rw [e1, e2, h2]
theorem num_append (a b : List Nat) : num (a ++ b) = num a + 256 ^ a.length * num b := by
  induction a with
  | nil => simp [num]
  | cons x a ih =>
    rw [List.cons_append, num, num, ih, List.length_cons, Nat.pow_succ', Nat.mul_add, Nat.mul_assoc, Nat.add_assoc]
def flat : List Nat → List Nat → List Nat
  | s :: ss, n :: ns => le s n ++ flat ss ns
  | _, _ => []
def splitN : List Nat → List Nat → List Nat
  | [], _ => []
  | s :: ss, bs => num (bs.take s) :: splitN ss (bs.drop s)
theorem flat_lt (ss ns : List Nat) : ∀ x ∈ flat ss ns, x < 256 := by
  induction ss generalizing ns with
  | nil => simp [flat]
  | cons s ss ih =>
    cases ns with
    | nil => simp [flat]
    | cons n ns =>
      intro x hx
      rcases List.mem_append.1 hx with hx | hx
      · exact le_lt _ _ x hx
      · exact ih ns x hx
theorem split_flat (ss ns : List Nat) (rest : List Nat) (hl : ss.length = ns.length) (h : ∀ i, i < ns.length → ns.getD i 0 < 256 ^ ss.getD i 0) : splitN ss (flat ss ns ++ rest) = ns := by
  induction ss generalizing ns with
  | nil =>
    cases ns with
    | nil => rfl
    | cons n ns => simp at hl
  | cons s ss ih =>
    cases ns with
    | nil => simp at hl
    | cons n ns =>
      have h0 := h 0 (by simp)
      simp at h0
      simp only [flat, splitN, List.append_assoc]
      rw [List.take_left' (le_length s n), List.drop_left' (le_length s n), num_le, Nat.mod_eq_of_lt h0, ih ns (by simpa using hl) (fun i hi => by have := h (i + 1) (by simpa using hi); simpa using this)]

/-! ### Heads -/
structure Hd where
  kind : Int
  lba : Int
  len : Int
  seq : Int
  epoch : Int
theorem Hd.ext' {a b : Hd} (h1 : a.kind = b.kind) (h2 : a.lba = b.lba) (h3 : a.len = b.len) (h4 : a.seq = b.seq) (h5 : a.epoch = b.epoch) : a = b := by
  cases a; cases b
  simp_all
def Hd.same (a b : Hd) : Bool := decide (a.kind = b.kind ∧ a.lba = b.lba ∧ a.len = b.len ∧ a.seq = b.seq ∧ a.epoch = b.epoch)
theorem Hd.same_iff (a b : Hd) : a.same b = true ↔ a = b := by
  unfold Hd.same
  rw [decide_eq_true_eq]
  exact ⟨fun h => Hd.ext' h.1 h.2.1 h.2.2.1 h.2.2.2.1 h.2.2.2.2, fun h => by subst h; exact ⟨rfl, rfl, rfl, rfl, rfl⟩⟩
theorem Hd.same_self (a : Hd) : a.same a = true := (Hd.same_iff a a).2 rfl
def hd0 : Hd := ⟨0, 0, 0, 0, 0⟩
def okH (h : Hd) : Bool := decide (1 ≤ h.kind ∧ h.kind ≤ 3 ∧ 0 ≤ h.lba ∧ h.lba ≤ 63 ∧ (h.kind = 1 ∨ h.lba = 0) ∧ 1 ≤ h.len ∧ h.len ≤ 4096 ∧ (h.kind ≠ 1 ∨ h.len = 64) ∧ 0 ≤ h.seq ∧ h.seq ≤ 4611686018427387903 ∧ 0 ≤ h.epoch ∧ h.epoch ≤ 4294967295)
def sizes6 : List Nat := [1, 1, 2, 4, 8, 4]
def nums (h : Hd) : List Nat := [81, h.kind.toNat, h.len.toNat, h.lba.toNat, h.seq.toNat, h.epoch.toNat]
def body20 (h : Hd) : List Nat := flat sizes6 (nums h)
def headB (h : Hd) : List Nat := body20 h ++ le 4 (more 1 (body20 h))
def nonceB (h : Hd) : List Nat := flat [4, 8] [h.epoch.toNat, h.seq.toNat]
def headOf (ns : List Nat) : Hd := ⟨(ns.getD 1 0 : Nat), (ns.getD 3 0 : Nat), (ns.getD 2 0 : Nat), (ns.getD 4 0 : Nat), (ns.getD 5 0 : Nat)⟩
def readN (bs : List Nat) : Hd := headOf (splitN sizes6 (bs.take 20))
def readB (bs : List Nat) : Bool := decide (24 ≤ bs.length) && (okH (readN bs) && decide (headB (readN bs) = bs.take 24))
def readH (bs : List Nat) : Hd := if readB bs = true then readN bs else hd0
def readE (bs : List Nat) : Nat := if readB bs = true then 0 else 110
def sizeF (n : Int) : Int := if 1 ≤ n ∧ n ≤ 4096 then n + 40 else 0
def writeB (h : Hd) : List Nat := if okH h = true then headB h else []
def okE (h : Hd) : Nat := if okH h = true then 0 else 110
theorem flat_length6 (a b c d e f : Nat) : (flat sizes6 [a, b, c, d, e, f]).length = 20 := by simp [flat, sizes6, le_length]
theorem body20_length (h : Hd) : (body20 h).length = 20 := flat_length6 _ _ _ _ _ _
theorem headB_length (h : Hd) : (headB h).length = 24 := by rw [headB, List.length_append, body20_length, le_length]
theorem headB_lt (h : Hd) : ∀ x ∈ headB h, x < 256 := by
  intro x hx
  rcases List.mem_append.1 hx with hx | hx
  · exact flat_lt _ _ x hx
  · exact le_lt _ _ x hx
theorem nonceB_length (h : Hd) : (nonceB h).length = 12 := by simp [nonceB, flat, le_length]
theorem nonceB_lt (h : Hd) : ∀ x ∈ nonceB h, x < 256 := flat_lt _ _
theorem headB_take (h : Hd) : (headB h).take 20 = body20 h := List.take_left' (body20_length h)
theorem headB_drop (h : Hd) : (headB h).drop 20 = le 4 (more 1 (body20 h)) := List.drop_left' (body20_length h)
theorem okH_iff (h : Hd) : okH h = true ↔ (1 ≤ h.kind ∧ h.kind ≤ 3 ∧ 0 ≤ h.lba ∧ h.lba ≤ 63 ∧ (h.kind = 1 ∨ h.lba = 0) ∧ 1 ≤ h.len ∧ h.len ≤ 4096 ∧ (h.kind ≠ 1 ∨ h.len = 64) ∧ 0 ≤ h.seq ∧ h.seq ≤ 4611686018427387903 ∧ 0 ≤ h.epoch ∧ h.epoch ≤ 4294967295) := by
  unfold okH
  rw [decide_eq_true_eq]
/-- A head that may be is told by its bytes. -/
theorem readN_head (h : Hd) (ho : okH h = true) (rest : List Nat) : readN (headB h ++ rest) = h := by
  obtain ⟨h1, h2, h3, h4, _, h5, h6, _, h7, h8, h9, h10⟩ := (okH_iff h).1 ho
  unfold readN
  have e : (headB h ++ rest).take 20 = body20 h ++ [] := by
    rw [List.take_append_of_le_length (by rw [headB_length]; decide), headB_take, List.append_nil]
  rw [e]
  unfold body20
  rw [split_flat sizes6 (nums h) [] rfl ?_]
  · refine Hd.ext' ?_ ?_ ?_ ?_ ?_ <;> simp only [headOf, nums, List.getD_eq_getElem?_getD, List.getElem?_cons_zero, List.getElem?_cons_succ, Option.getD_some] <;> omega
  · intro i hi
    have hi : i < 6 := hi
    match i, hi with
    | 0, _ => show 81 < 256 ^ 1; decide
    | 1, _ => show h.kind.toNat < 256 ^ 1; omega
    | 2, _ => show h.len.toNat < 256 ^ 2; omega
    | 3, _ => show h.lba.toNat < 256 ^ 4; omega
    | 4, _ => show h.seq.toNat < 256 ^ 8; omega
    | 5, _ => show h.epoch.toNat < 256 ^ 4; omega
theorem readB_head (h : Hd) (ho : okH h = true) (rest : List Nat) : readB (headB h ++ rest) = true := by
  unfold readB
  rw [readN_head h ho, ho]
  have e : (headB h ++ rest).take 24 = headB h := List.take_left' (headB_length h)
  rw [e]
  simp [headB_length]
theorem readH_head (h : Hd) (ho : okH h = true) (rest : List Nat) : readH (headB h ++ rest) = h ∧ readE (headB h ++ rest) = 0 := by
  unfold readH readE
  rw [readB_head h ho, readN_head h ho]
  exact ⟨rfl, rfl⟩
theorem headB_inj {h g : Hd} (ho : okH h = true) (go : okH g = true) (e : headB h = headB g) : h = g := by
  have h1 := readN_head h ho []
  have h2 := readN_head g go []
  rw [e] at h1
  exact h1.symm.trans h2
theorem readB_iff (bs : List Nat) : readB bs = true ↔ 24 ≤ bs.length ∧ okH (readN bs) = true ∧ headB (readN bs) = bs.take 24 := by
  unfold readB
  rw [Bool.and_eq_true, Bool.and_eq_true, decide_eq_true_eq, decide_eq_true_eq]

/-! ### Frames -/
def sealB (h : Hd) (body : List Nat) : Bool := decide (h.len = (body.length : Int)) && okH h
def sealF (h : Hd) (key body : List Nat) : List Nat := if sealB h body = true then headB h ++ sealA key (nonceB h) body (headB h) else []
def sealE (h : Hd) (body : List Nat) : Nat := if sealB h body = true then 0 else 110
def openG (key b : List Nat) : Hd × List Nat × Nat :=
  if readB b = true ∧ (b.length : Int) = sizeF (readN b).len then
    match openA key (nonceB (readN b)) (b.drop 24) (b.take 24) with
    | some p => (readN b, p, 0)
    | none => (hd0, [], 70)
  else (hd0, [], 110)
theorem sizeF_ok {h : Hd} (ho : okH h = true) : sizeF h.len = h.len + 40 := by
  obtain ⟨_, _, _, _, _, h5, h6, _⟩ := (okH_iff h).1 ho
  unfold sizeF
  rw [if_pos ⟨h5, h6⟩]
theorem sealF_ok {h : Hd} {key body : List Nat} (hs : sealB h body = true) : sealF h key body = headB h ++ sealA key (nonceB h) body (headB h) ∧ h.len = (body.length : Int) ∧ okH h = true := by
  refine ⟨by unfold sealF; rw [if_pos hs], ?_, ?_⟩
  · unfold sealB at hs
    rw [Bool.and_eq_true, decide_eq_true_eq] at hs
    exact hs.1
  · unfold sealB at hs
    rw [Bool.and_eq_true] at hs
    exact hs.2
theorem sealF_length {h : Hd} {key body : List Nat} (hs : sealB h body = true) : ((sealF h key body).length : Int) = sizeF h.len ∧ (sealF h key body).length = body.length + 40 := by
  obtain ⟨e, hl, ho⟩ := sealF_ok (key := key) hs
  rw [sizeF_ok ho, hl, e, List.length_append, headB_length, sealA_length]
  omega
theorem openG_seal {h : Hd} {key body : List Nat} (hs : sealB h body = true) : openG key (sealF h key body) = (h, body, 0) := by
  obtain ⟨e, hl, ho⟩ := sealF_ok (key := key) hs
  have h1 := sealF_length (key := key) hs
  have hN : readN (sealF h key body) = h := by rw [e]; exact readN_head h ho _
  have hB : readB (sealF h key body) = true := by rw [e]; exact readB_head h ho _
  unfold openG
  rw [hN, if_pos ⟨hB, h1.1⟩, e, List.take_left' (headB_length h), List.drop_left' (headB_length h), Ae.open_seal]
theorem openG_long {h : Hd} {key body : List Nat} (hs : sealB h body = true) (rest : List Nat) (hr : rest ≠ []) : openG key (sealF h key body ++ rest) = (hd0, [], 110) := by
  obtain ⟨e, hl, ho⟩ := sealF_ok (key := key) hs
  have h1 := sealF_length (key := key) hs
  have hN : readN (sealF h key body ++ rest) = h := by rw [e, List.append_assoc]; exact readN_head h ho _
  unfold openG
  rw [hN, if_neg]
  rintro ⟨_, h2⟩
  rw [List.length_append, ← h1.1] at h2
  have : rest.length ≠ 0 := fun h => hr (List.eq_nil_of_length_eq_zero h)
  omega

/-! ### Frames one behind the other -/
def scanG : Nat → List Nat → Nat → List (Hd × Nat)
  | 0, _, _ => []
  | f + 1, bs, at' => if readB (bs.drop at') = true ∧ sizeF (readN (bs.drop at')).len ≤ (bs.length : Int) - (at' : Int) then (readN (bs.drop at'), at') :: scanG f bs (at' + (sizeF (readN (bs.drop at')).len).toNat) else []
def scanF (bs : List Nat) : List (Hd × Nat) := scanG (bs.length + 1) bs 0
theorem readB_size {bs : List Nat} (h : readB bs = true) : 41 ≤ sizeF (readN bs).len ∧ sizeF (readN bs).len ≤ 4136 := by
  have ho := ((readB_iff bs).1 h).2.1
  have h1 := (okH_iff _).1 ho
  rw [sizeF_ok ho]
  omega
/-- More rounds than are needed tell the same. -/
theorem scanG_more (f g : Nat) (bs : List Nat) (at' : Nat) (hf : bs.length < f + at') (hg : bs.length < g + at') (h : at' ≤ bs.length) : scanG f bs at' = scanG g bs at' := by
  induction f generalizing g at' with
  | zero => omega
  | succ f ih =>
    cases g with
    | zero => omega
    | succ g =>
      unfold scanG
      by_cases hc : readB (bs.drop at') = true ∧ sizeF (readN (bs.drop at')).len ≤ (bs.length : Int) - (at' : Int)
      · rw [if_pos hc, if_pos hc]
        have hs := readB_size hc.1
        rw [ih g _ (by omega) (by omega) (by omega)]
      · rw [if_neg hc, if_neg hc]
/-- A frame ahead of what follows. -/
theorem scanG_frame {h : Hd} {key body : List Nat} (hs : sealB h body = true) (f : Nat) (pre rest : List Nat) :
    scanG (f + 1) (pre ++ (sealF h key body ++ rest)) pre.length = (h, pre.length) :: scanG f ((pre ++ sealF h key body) ++ rest) (pre ++ sealF h key body).length := by
  obtain ⟨e, hl, ho⟩ := sealF_ok (key := key) hs
  have h1 := sealF_length (key := key) hs
  have hd : (pre ++ (sealF h key body ++ rest)).drop pre.length = sealF h key body ++ rest := List.drop_left' rfl
  have hN : readN (sealF h key body ++ rest) = h := by rw [e, List.append_assoc]; exact readN_head h ho _
  have hB : readB (sealF h key body ++ rest) = true := by rw [e, List.append_assoc]; exact readB_head h ho _
  have hl2 : (pre ++ (sealF h key body ++ rest)).length = pre.length + ((sealF h key body).length + rest.length) := by rw [List.length_append, List.length_append]
  rw [scanG, hd, hN, if_pos ⟨hB, by rw [hl2, ← h1.1]; omega⟩, List.append_assoc, List.length_append, ← h1.1, Int.toNat_natCast]
theorem scanG_short {h : Hd} {key body : List Nat} (hs : sealB h body = true) (f : Nat) (pre : List Nat) (n : Nat) (hn : n < (sealF h key body).length) : scanG f (pre ++ (sealF h key body).take n) pre.length = [] := by
  obtain ⟨e, hl, ho⟩ := sealF_ok (key := key) hs
  have h1 := sealF_length (key := key) hs
  cases f with
  | zero => rfl
  | succ f =>
    have hd : (pre ++ (sealF h key body).take n).drop pre.length = (sealF h key body).take n := List.drop_left' rfl
    rw [scanG, hd, if_neg]
    rintro ⟨h2, h3⟩
    have h4 := (readB_iff _).1 h2
    have hl2 : ((sealF h key body).take n).length = n := by rw [List.length_take]; omega
    have h24 : 24 ≤ n := by have := h4.1; omega
    have hN : readN ((sealF h key body).take n) = h := by
      have : (sealF h key body).take n = headB h ++ (sealA key (nonceB h) body (headB h)).take (n - 24) := by
        rw [e, List.take_append, headB_length, List.take_of_length_le (by rw [headB_length]; exact h24)]
      rw [this]
      exact readN_head h ho _
    rw [hN, ← h1.1, List.length_append, hl2] at h3
    omega

/-! ### A byte of a head is another one -/
theorem le_inj {k a b : Nat} (ha : a < 256 ^ k) (hb : b < 256 ^ k) (h : le k a = le k b) : a = b := by
  have := congrArg num h
  rwa [num_le, num_le, Nat.mod_eq_of_lt ha, Nat.mod_eq_of_lt hb] at this
theorem head_turned {h : Hd} (ho : okH h = true) (i v : Nat) (hi : i < 24) (hv : v < 256) (hne : v ≠ (headB h).getD i 0) : readB ((headB h).set i v) = false := by
  cases hB : readB ((headB h).set i v) with
  | false => rfl
  | true =>
    exfalso
    obtain ⟨_, h2, h3⟩ := (readB_iff _).1 hB
    rw [List.take_of_length_le (by rw [List.length_set, headB_length]; exact Nat.le_refl _)] at h3
    obtain ⟨g, hg⟩ : ∃ g, g = readN ((headB h).set i v) := ⟨_, rfl⟩
    rw [← hg] at h2 h3
    by_cases h20 : i < 20
    · -- the bytes ahead of the sum
      have e1 : body20 g = (body20 h).set i v := by
        have := congrArg (List.take 20) h3
        rw [headB_take, List.take_set, headB_take] at this
        exact this
      have e2 : le 4 (more 1 (body20 g)) = le 4 (more 1 (body20 h)) := by
        have := congrArg (List.drop 20) h3
        rw [headB_drop, List.drop_set, if_pos h20, headB_drop] at this
        exact this
      have e3 := le_inj (more_lt _ _) (more_lt _ _) e2
      rw [e1] at e3
      have e4 : (headB h).getD i 0 = (body20 h).getD i 0 := by
        unfold headB
        rw [List.getD_eq_getElem?_getD, List.getD_eq_getElem?_getD, List.getElem?_append_left (by rw [body20_length]; exact h20)]
      rw [e4] at hne
      exact hne ((more_set (body20 h) i v (by rw [body20_length]; exact h20) (flat_lt _ _) hv).1 e3)
    · -- the sum's own
      have e1 : body20 g = body20 h := by
        have := congrArg (List.take 20) h3
        rw [headB_take, List.take_set, List.set_eq_of_length_le (by rw [headB_take, body20_length]; omega), headB_take] at this
        exact this
      have e2 : headB g = headB h := by unfold headB; rw [e1]
      rw [e2] at h3
      have := congrArg (fun l => l.getD i 0) h3
      simp only [List.getD_eq_getElem?_getD, List.getElem?_set_self (show i < (headB h).length by rw [headB_length]; exact hi), Option.getD_some] at this
      rw [List.getD_eq_getElem?_getD] at hne
      exact hne this.symm
end Go.Proofs.Ytpcppnoomogloaa.Fr
