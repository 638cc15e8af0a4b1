/- The walk of chapter 5's 'awake'. -/
import Derived.Test.YtnlogdlnmhnepaaStW3
namespace Go.Proofs.Ytnlogdlnmhnepaa.St
set_option linter.unusedSimpArgs false
set_option linter.unusedVariables false
open Go.RowKit Go.Shelf Go.Proofs.Ytnlogdlnmhnepaa.Ch

def zeros (n : Nat) : List Nat := List.replicate n 0
def asL : List Nat := [118, 184, 224, 173]
theorem zeros_len (n : Nat) : (zeros n).length = n := List.length_replicate
theorem zeros_lt (n : Nat) : ∀ x ∈ zeros n, x < 256 := fun x hx => by rw [List.eq_of_mem_replicate hx]; decide
theorem xz1 : xorS (zeros 32) 0 (zeros 12) (zeros 4) = asL := by decide +kernel
theorem xz2 : xorS (zeros 32) 0 (zeros 12) asL = zeros 4 := by decide +kernel
set_option maxRecDepth 100000 in
set_option maxHeartbeats 4000000 in
theorem awake_any (w : World) : Calls Try.prog 9 #[] w fun e w' => e = .returned (.bool true) ∧ Below w.heap.size w w' := by
  have u8 := Try.underlying5
  have us := Try.underlying25
  have ut := Try.underlying9
  go_enter Try.func9, Try.ntmps9
  go_wp2_with (first
    | (refine wp_build rfl 22 _ rfl (.agg (nv .u8 (zeros 32)).toArray) (by kernel_rfl) ?_)
    | (refine wp_build rfl 24 _ rfl (.agg (nv .u8 (zeros 12)).toArray) (by kernel_rfl) ?_)
    | (refine wp_make rfl (.const (.int .i64 4)) (.const (.int .i64 4)) rfl .i64 .i64 4 rfl rfl (by decide) ?_; intro w1 o1 b1 _)
    | fail)
  refine (Xor_any _ (zeros 32) (zeros 12) 0 _ 4 4 (zeros 4) rfl (zeros_lt _) rfl (zeros_lt _) (by decide) (o1.rdb rfl (by decide)) (by decide)).mono ?_
  intro e w2 h
  rw [xz1] at h
  obtain ⟨ad1, cp1, rfl, p1, b2⟩ := XorOK.at (n := 4) h rfl
  have r1 : RdB w2 ad1 4 cp1 asL := p1.rdb rfl (by decide)
  clear h o1 p1
  go_wp2_with (first
    | (refine wp_build rfl 22 _ rfl (.agg (nv .u8 (zeros 32)).toArray) (by kernel_rfl) ?_)
    | (refine wp_build rfl 24 _ rfl (.agg (nv .u8 (zeros 12)).toArray) (by kernel_rfl) ?_)
    | fail)
  refine (Xor_any _ (zeros 32) (zeros 12) 0 _ 4 _ asL rfl (zeros_lt _) rfl (zeros_lt _) (by decide) r1 (by decide)).mono ?_
  intro e w3 h
  rw [xz2] at h
  obtain ⟨ad2, cp2, rfl, p2, b3⟩ := XorOK.at (n := 4) h rfl
  have r2 : RdB w3 ad2 4 cp2 (zeros 4) := p2.rdb rfl (by decide)
  have s1 : LW w [] [(ad2, 4, cp2, zeros 4), (ad1, 4, cp1, asL)] w3 := ((LW.nil (xtrans (xtrans b1 b2) b3)).addR (r1.below b3)).addR r2
  clear h p2 r1 r2 b1 b2 b3
  go_wp2_with (first
    | (refine wp_build rfl 22 _ rfl (.agg (nv .u8 (zeros 32)).toArray) (by kernel_rfl) ?_)
    | (refine wp_build rfl 24 _ rfl (.agg (nv .u8 (zeros 12)).toArray) (by kernel_rfl) ?_)
    | (refine wp_make rfl (.const (.int .i64 65)) (.const (.int .i64 65)) rfl .i64 .i64 65 rfl rfl (by decide) ?_; intro w4 o4 b4 _; have s2 := s1.below b4; clear s1)
    | fail)
  refine (Xor_err _ (zeros 32) (zeros 12) 4294967295 _ 65 65 (zeros 65) (by decide) (o4.rdb rfl (by decide)) (by decide)).mono ?_
  rintro e w5 ⟨rfl, b5⟩
  have s3 := s2.below b5
  clear s2 o4
  go_wp2_with (first
    | (refine wp_build rfl 22 _ rfl (.agg (nv .u8 (zeros 32)).toArray) (by kernel_rfl) ?_)
    | (refine wp_build rfl 24 _ rfl (.agg (nv .u8 (zeros 12)).toArray) (by kernel_rfl) ?_)
    | (refine wp_make rfl (.const (.int .i64 64)) (.const (.int .i64 64)) rfl .i64 .i64 64 rfl rfl (by decide) ?_; intro w6 o6 b6 _; have s3b := s3.below b6; clear s3)
    | fail)
  refine (Xor_any _ (zeros 32) (zeros 12) 4294967295 _ 64 64 (zeros 64) rfl (zeros_lt _) rfl (zeros_lt _) (by decide) (o6.rdb rfl (by decide)) (by decide)).mono ?_
  intro e w8 h
  obtain ⟨ad3, cp3, rfl, _, b8⟩ := XorOK.at (n := 64) h (by rw [xorS_length]; rfl)
  have s4 := s3b.below b8
  clear h s3b o6
  go_wp2_with fail
  refine wp_region_held_drew (S := LW w [] [(ad2, 4, cp2, zeros 4), (ad1, 4, cp1, asL)]) (by kernel_rfl) (s4.drew) (fun hHeld => ?_)
  generalize World.drew _ = wv at hHeld ⊢
  refine takeL (i := 0) (v := ?_) rfl rfl (by kernel_rfl) (by kernel_rfl) (by kernel_rfl) (fun _ _ _ h => h) (Or.inl ⟨by rfl, ?_⟩) (by assumption) ?_
  rotate_left
  · (intro w' hSw; go_simp; try with_reducible rfl)
  try simp only [Act.put, List.setIfInBounds_toArray, List.set_cons_zero, List.set_cons_succ]
  refine takeL (i := 1) (v := .string (strB asL)) rfl rfl (by kernel_rfl) (by kernel_rfl) (by kernel_rfl) (fun _ _ _ h => h) (yieldsStr (by rfl) (x := .tmp 37) rfl (by rfl) us u8 ut (fun W h => (h.rd 1 rfl).2)) (by assumption) ?_
  try simp only [Act.put, List.setIfInBounds_toArray, List.set_cons_zero, List.set_cons_succ]
  refine wpAnyH_ready (rs := [2]) (by kernel_rfl) (by simp) ?_
  refine consL rfl (fun K hK => ?_) AllReadyH.nil
  · rw [if_pos (by rfl)]
    go_simp
    refine hK.out _ _ (hHeld.alloc _) (fun hHeld => ?_)
    clear hK K
    try simp only [Act.put, List.setIfInBounds_toArray, List.set_cons_zero, List.set_cons_succ]
    refine wpAnyH_ready (rs := [3]) (by kernel_rfl) (by simp) ?_
    refine consL rfl (fun K hK => ?_) AllReadyH.nil
    · rw [if_pos (by rfl)]
      refine wpo_str (x := .tmp 39) rfl rfl us u8 ut (rd_new wv asL _ _ _ 4 rfl rfl (by decide) (by decide)).2 ?_
      refine hK.out _ _ (hHeld) (fun hHeld => ?_)
      clear hK K
      try simp only [Act.put, List.setIfInBounds_toArray, List.set_cons_zero, List.set_cons_succ]
      refine takeL (i := 4) (v := .bool true) rfl rfl (by kernel_rfl) (by kernel_rfl) (by kernel_rfl) (fun _ _ _ h => h) (yieldsEqS (by rfl) rfl (by rfl) (by rfl) (beq_self_eq_true _)) (by assumption) ?_
      try simp only [Act.put, List.setIfInBounds_toArray, List.set_cons_zero, List.set_cons_succ]
      refine takeL (i := 5) (v := ?_) rfl rfl (by kernel_rfl) (by kernel_rfl) (by kernel_rfl) (fun _ _ _ h => h) (Or.inl ⟨by rfl, ?_⟩) (by assumption) ?_
      rotate_left
      · (intro w' hSw; go_simp; try with_reducible rfl)
      try simp only [Act.put, List.setIfInBounds_toArray, List.set_cons_zero, List.set_cons_succ]
      refine takeL (i := 6) (v := ?_) rfl rfl (by kernel_rfl) (by kernel_rfl) (by kernel_rfl) (fun _ _ _ h => h) (Or.inl ⟨by rfl, ?_⟩) (by assumption) ?_
      rotate_left
      · (intro w' hSw; go_simp; try with_reducible rfl)
      try simp only [Act.put, List.setIfInBounds_toArray, List.set_cons_zero, List.set_cons_succ]
      refine takeL (i := 7) (v := ?_) rfl rfl (by kernel_rfl) (by kernel_rfl) (by kernel_rfl) (fun _ _ _ h => h) (Or.inl ⟨by rfl, ?_⟩) (by assumption) ?_
      rotate_left
      · (intro w' hSw; go_simp; try with_reducible rfl)
      try simp only [Act.put, List.setIfInBounds_toArray, List.set_cons_zero, List.set_cons_succ]
      refine takeL (i := 8) (v := ?_) rfl rfl (by kernel_rfl) (by kernel_rfl) (by kernel_rfl) (fun _ _ _ h => h) (Or.inl ⟨by rfl, ?_⟩) (by assumption) ?_
      rotate_left
      · (intro w' hSw; go_simp; try with_reducible rfl)
      try simp only [Act.put, List.setIfInBounds_toArray, List.set_cons_zero, List.set_cons_succ]
      refine takeL (i := 9) (v := ?_) rfl rfl (by kernel_rfl) (by kernel_rfl) (by kernel_rfl) (fun _ _ _ h => h) (Or.inl ⟨by rfl, ?_⟩) (by assumption) ?_
      rotate_left
      · (intro w' hSw; go_simp; try with_reducible rfl)
      try simp only [Act.put, List.setIfInBounds_toArray, List.set_cons_zero, List.set_cons_succ]
      refine takeL (i := 10) (v := ?_) rfl rfl (by kernel_rfl) (by kernel_rfl) (by kernel_rfl) (fun _ _ _ h => h) (Or.inl ⟨by rfl, ?_⟩) (by assumption) ?_
      rotate_left
      · (intro w' hSw; go_simp; try with_reducible rfl)
      try simp only [Act.put, List.setIfInBounds_toArray, List.set_cons_zero, List.set_cons_succ]
      refine takeL (i := 11) (v := .string (strB (zeros 4))) rfl rfl (by kernel_rfl) (by kernel_rfl) (by kernel_rfl) (fun _ _ _ h => h) (yieldsStr (by rfl) (x := .tmp 47) rfl (by rfl) us u8 ut (fun W h => (h.rd 0 rfl).2)) (by assumption) ?_
      try simp only [Act.put, List.setIfInBounds_toArray, List.set_cons_zero, List.set_cons_succ]
      refine wpAnyH_ready (rs := [12]) (by kernel_rfl) (by simp) ?_
      refine consL rfl (fun K hK => ?_) AllReadyH.nil
      · rw [if_pos (by rfl)]
        refine wpo_make (.const (.int .i64 4)) (.const (.int .i64 4)) rfl .i64 .i64 4 rfl rfl (by decide) ?_
        intro w7 o7 b7
        refine hK.out _ _ (hHeld.below b7) (fun hHeld => ?_)
        clear hK K
        try simp only [Act.put, List.setIfInBounds_toArray, List.set_cons_zero, List.set_cons_succ]
        refine wpAnyH_ready (rs := [13]) (by kernel_rfl) (by simp) ?_
        refine consL rfl (fun K hK => ?_) AllReadyH.nil
        · rw [if_pos (by rfl)]
          refine wpo_str (x := .tmp 49) rfl rfl us u8 ut (o7.rdb rfl (by decide)).2 ?_
          refine hK.out _ _ (hHeld) (fun hHeld => ?_)
          clear hK K
          try simp only [Act.put, List.setIfInBounds_toArray, List.set_cons_zero, List.set_cons_succ]
          refine takeL (i := 14) (v := .bool true) rfl rfl (by kernel_rfl) (by kernel_rfl) (by kernel_rfl) (fun _ _ _ h => h) (yieldsEqS (by rfl) rfl (by rfl) (by rfl) (beq_self_eq_true _)) (by assumption) ?_
          try simp only [Act.put, List.setIfInBounds_toArray, List.set_cons_zero, List.set_cons_succ]
          refine takeL (i := 15) (v := ?_) rfl rfl (by kernel_rfl) (by kernel_rfl) (by kernel_rfl) (fun _ _ _ h => h) (Or.inl ⟨by rfl, ?_⟩) (by assumption) ?_
          rotate_left
          · (intro w' hSw; go_simp; try with_reducible rfl)
          try simp only [Act.put, List.setIfInBounds_toArray, List.set_cons_zero, List.set_cons_succ]
          refine takeL (i := 16) (v := ?_) rfl rfl (by kernel_rfl) (by kernel_rfl) (by kernel_rfl) (fun _ _ _ h => h) (Or.inl ⟨by rfl, ?_⟩) (by assumption) ?_
          rotate_left
          · (intro w' hSw; go_simp; try with_reducible rfl)
          try simp only [Act.put, List.setIfInBounds_toArray, List.set_cons_zero, List.set_cons_succ]
          refine takeL (i := 17) (v := ?_) rfl rfl (by kernel_rfl) (by kernel_rfl) (by kernel_rfl) (fun _ _ _ h => h) (Or.inl ⟨by rfl, ?_⟩) (by assumption) ?_
          rotate_left
          · (intro w' hSw; go_simp; try with_reducible rfl)
          try simp only [Act.put, List.setIfInBounds_toArray, List.set_cons_zero, List.set_cons_succ]
          refine takeL (i := 18) (v := ?_) rfl rfl (by kernel_rfl) (by kernel_rfl) (by kernel_rfl) (fun _ _ _ h => h) (Or.inl ⟨by rfl, ?_⟩) (by assumption) ?_
          rotate_left
          · (intro w' hSw; go_simp; try with_reducible rfl)
          try simp only [Act.put, List.setIfInBounds_toArray, List.set_cons_zero, List.set_cons_succ]
          refine takeL (i := 19) (v := ?_) rfl rfl (by kernel_rfl) (by kernel_rfl) (by kernel_rfl) (fun _ _ _ h => h) (Or.inl ⟨by rfl, ?_⟩) (by assumption) ?_
          rotate_left
          · (intro w' hSw; go_simp; try with_reducible rfl)
          try simp only [Act.put, List.setIfInBounds_toArray, List.set_cons_zero, List.set_cons_succ]
          refine takeL (i := 20) (v := ?_) rfl rfl (by kernel_rfl) (by kernel_rfl) (by kernel_rfl) (fun _ _ _ h => h) (Or.inl ⟨by rfl, ?_⟩) (by assumption) ?_
          rotate_left
          · (intro w' hSw; go_simp; try with_reducible rfl)
          try simp only [Act.put, List.setIfInBounds_toArray, List.set_cons_zero, List.set_cons_succ]
          refine takeL (i := 21) (v := ?_) rfl rfl (by kernel_rfl) (by kernel_rfl) (by kernel_rfl) (fun _ _ _ h => h) (Or.inl ⟨by rfl, ?_⟩) (by assumption) ?_
          rotate_left
          · (intro w' hSw; go_simp; try with_reducible rfl)
          try simp only [Act.put, List.setIfInBounds_toArray, List.set_cons_zero, List.set_cons_succ]
          refine takeL (i := 22) (v := ?_) rfl rfl (by kernel_rfl) (by kernel_rfl) (by kernel_rfl) (fun _ _ _ h => h) (Or.inl ⟨by rfl, ?_⟩) (by assumption) ?_
          rotate_left
          · (intro w' hSw; go_simp; try with_reducible rfl)
          try simp only [Act.put, List.setIfInBounds_toArray, List.set_cons_zero, List.set_cons_succ]
          refine takeL (i := 23) (v := ?_) rfl rfl (by kernel_rfl) (by kernel_rfl) (by kernel_rfl) (fun _ _ _ h => h) (Or.inl ⟨by rfl, ?_⟩) (by assumption) ?_
          rotate_left
          · (intro w' hSw; go_simp; try with_reducible rfl)
          try simp only [Act.put, List.setIfInBounds_toArray, List.set_cons_zero, List.set_cons_succ]
          refine takeL (i := 24) (v := ?_) rfl rfl (by kernel_rfl) (by kernel_rfl) (by kernel_rfl) (fun _ _ _ h => h) (Or.inl ⟨by rfl, ?_⟩) (by assumption) ?_
          rotate_left
          · (intro w' hSw; go_simp; try with_reducible rfl)
          try simp only [Act.put, List.setIfInBounds_toArray, List.set_cons_zero, List.set_cons_succ]
          refine takeL (i := 25) (v := ?_) rfl rfl (by kernel_rfl) (by kernel_rfl) (by kernel_rfl) (fun _ _ _ h => h) (Or.inl ⟨by rfl, ?_⟩) (by assumption) ?_
          rotate_left
          · (intro w' hSw; go_simp; try with_reducible rfl)
          try simp only [Act.put, List.setIfInBounds_toArray, List.set_cons_zero, List.set_cons_succ]
          refine takeL (i := 26) (v := ?_) rfl rfl (by kernel_rfl) (by kernel_rfl) (by kernel_rfl) (fun _ _ _ h => h) (Or.inl ⟨by rfl, ?_⟩) (by assumption) ?_
          rotate_left
          · (intro w' hSw; go_simp; try with_reducible rfl)
          try simp only [Act.put, List.setIfInBounds_toArray, List.set_cons_zero, List.set_cons_succ]
          refine takeL (i := 27) (v := ?_) rfl rfl (by kernel_rfl) (by kernel_rfl) (by kernel_rfl) (fun _ _ _ h => h) (Or.inl ⟨by rfl, ?_⟩) (by assumption) ?_
          rotate_left
          · (intro w' hSw; go_simp; try with_reducible rfl)
          try simp only [Act.put, List.setIfInBounds_toArray, List.set_cons_zero, List.set_cons_succ]
          refine takeL (i := 28) (v := ?_) rfl rfl (by kernel_rfl) (by kernel_rfl) (by kernel_rfl) (fun _ _ _ h => h) (Or.inl ⟨by rfl, ?_⟩) (by assumption) ?_
          rotate_left
          · (intro w' hSw; go_simp; try with_reducible rfl)
          try simp only [Act.put, List.setIfInBounds_toArray, List.set_cons_zero, List.set_cons_succ]
          refine wpAnyH_done (by kernel_rfl) ?_ _
          go_wp2_with fail
          go_ret
          exact ⟨rfl, hHeld.bel⟩
end Go.Proofs.Ytnlogdlnmhnepaa.St
