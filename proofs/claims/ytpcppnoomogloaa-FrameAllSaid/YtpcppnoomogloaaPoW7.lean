/- The walk of 'Sum': a text's tag. -/
import Derived.Test.YtpcppnoomogloaaPoWs
import Derived.Test.YtpcppnoomogloaaPla
import Derived.Test.YtpcppnoomogloaaFnd
import Derived.Deep.QuietTactic
import Derived.BigQuiet
import Derived.Laws.Cover3
set_option maxRecDepth 4000
namespace Go.Proofs.Ytpcppnoomogloaa.Po
set_option linter.unusedSimpArgs false
set_option linter.unusedVariables false
open Go.RowKit

def lenOf (v : Value) : Nat := match v with
  | .slice _ n _ => n
  | _ => 0
/-- What a world holds between two parts of a text: key, result, r, h, and what is left of the text. -/
def SM (w : World) (B0 Rb : Nat) (key r h : List Nat) (a : Option Addr) (m cap : Nat) (xs : List Nat) (W : World) : Prop :=
  B0 ≤ W.heap.size ∧ Blk W w.heap.size 35 .u8 key ∧ Blk W (w.heap.size + 1) 76 .u8 (List.replicate 16 0) ∧ Blk W Rb 98 .u64 r ∧ Blk W (Rb + 1) 98 .u64 h ∧ RdB W a m cap xs ∧ Below w.heap.size w W
def SP (w : World) (B0 Rb : Nat) (a : Option Addr) : Prop := w.heap.size + 1 < Rb ∧ Rb + 1 < B0 ∧ ∀ x, a = some x → x.block < w.heap.size
section
variable {w : World} {B0 Rb : Nat} {key r h : List Nat} {a : Option Addr} {m cap : Nat} {xs : List Nat} {W W' : World}
theorem SM.size (hs : SM w B0 Rb key r h a m cap xs W) : B0 ≤ W.heap.size := hs.1
theorem SM.drew (hs : SM w B0 Rb key r h a m cap xs W) : SM w B0 Rb key r h a m cap xs W.drew := ⟨hs.1, hs.2.1, hs.2.2.1, hs.2.2.2.1, hs.2.2.2.2.1, hs.2.2.2.2.2.1, below_drewN hs.2.2.2.2.2.2 1⟩
theorem SM.step (hp : SP w B0 Rb a) (hs : SM w B0 Rb key r h a m cap xs W) (hb : Below B0 W W') : SM w B0 Rb key r h a m cap xs W' := by
  obtain ⟨p1, p2, p3⟩ := hp
  obtain ⟨h1, h2, h3, h4, h5, h6, h7⟩ := hs
  exact ⟨Nat.le_trans h1 hb.size, h2.belowB hb (by omega), h3.belowB hb (by omega), h4.belowB hb (by omega), h5.belowB hb p2, h6.belowB hb (fun x hx => by have := p3 x hx; omega), h7.trans (hb.mono (by omega))⟩
theorem SM.src (_hp : SP w B0 Rb a) (hs : SM w B0 Rb key r h a m cap xs W) {k : Nat} (hk : k ≤ m) : RdB W a k cap (xs.take k) := by
  obtain ⟨h0, h1, h2, h3, h4, h5, h6⟩ := hs.2.2.2.2.2.1
  refine ⟨by omega, by rw [List.length_take]; omega, by omega, h3, fun x hx => h4 x (List.mem_of_mem_take hx), h5, ?_⟩
  rcases h6 with h6 | ⟨b, off, rfl, hl, hc⟩
  · exact .inl (by omega)
  · refine .inr ⟨b, off, rfl, hl, fun i hi => ?_⟩
    rw [hc i (by omega)]
    simp [List.getD_eq_getElem?_getD, hi]
end

def addU (h ls : List Nat) (i : Nat) : List Nat := (List.range i).map (fun j => (h.getD j 0 + ls.getD j 0) % 18446744073709551616) ++ h.drop i
theorem addU_zero (h ls : List Nat) : addU h ls 0 = h := by simp [addU]
theorem addU_length (h ls : List Nat) (i : Nat) (hl : h.length = 5) (hi : i ≤ 5) : (addU h ls i).length = 5 := by simp [addU, hl]; omega
theorem addU_get (h ls : List Nat) (i : Nat) (hl : h.length = 5) (hi : i < 5) : (addU h ls i).getD i 0 = h.getD i 0 := mapN_get _ h i (by omega)
theorem addU_succ (h ls : List Nat) (i : Nat) (hl : h.length = 5) (hi : i < 5) : (addU h ls i).set i ((h.getD i 0 + ls.getD i 0) % 18446744073709551616) = addU h ls (i + 1) := mapN_set (fun j => (h.getD j 0 + ls.getD j 0) % 18446744073709551616) h i (by omega)
theorem addU_end (h ls : List Nat) (hl : h.length = 5) : addU h ls 5 = addL h ls := by
  unfold addU
  rw [List.drop_eq_nil_of_le (by omega), List.append_nil]; rfl
theorem limbs_get_lt (n j : Nat) : (limbs n).getD j 0 < 67108864 := by
  rw [limbs_def]
  rcases j with _ | _ | _ | _ | _ | j <;> simp <;> omega
theorem okH_get_lt {h : List Nat} {v : Nat} (hh : okH h v) (j : Nat) : h.getD j 0 < 67108865 := by
  obtain ⟨⟨a, b, c, d, e, rfl, h1, h2, h3, h4, h5⟩, _⟩ := hh
  rcases j with _ | _ | _ | _ | _ | j <;> simp <;> omega
theorem ok5_addL (h ls : List Nat) : ok5 (addL h ls) := ⟨rfl, by intro x hx; simp only [addL, List.mem_cons, List.not_mem_nil, or_false] at hx; rcases hx with rfl | rfl | rfl | rfl | rfl <;> exact Nat.mod_lt _ (by decide)⟩
theorem ok5_limbs (n : Nat) : ok5 (limbs n) := by
  refine ⟨limbs_length n, ?_⟩
  rw [limbs_def]
  intro x hx
  simp only [List.mem_cons, List.not_mem_nil, or_false] at hx
  rcases hx with rfl | rfl | rfl | rfl | rfl <;> omega
theorem lowOf_lt (n : Nat) : lowOf n < 18446744073709551616 := Nat.mod_lt _ (by decide)
theorem highOf_lt (n : Nat) : highOf n < 18446744073709551616 := Nat.mod_lt _ (by decide)
theorem part_drop (bs : List Nat) (i k : Nat) (xs : List Nat) (hx : xs = bs.drop (16 * i)) (hk : k = min 16 xs.length) : xs.drop k = bs.drop (16 * (i + 1)) := by
  subst hx
  rw [List.drop_drop]
  rw [List.length_drop] at hk
  by_cases h : 16 ≤ bs.length - 16 * i
  · rw [hk, Nat.min_eq_left h, show 16 * i + 16 = 16 * (i + 1) from by omega]
  · rw [List.drop_eq_nil_of_le (by omega), List.drop_eq_nil_of_le (by omega)]
theorem part_eq (bs : List Nat) (i m k : Nat) (hm : (bs.drop (16 * i)).length = m) (hk : k = min 16 m) : (bs.drop (16 * i)).take k ++ [1] = part bs i := by
  unfold part
  rw [hk, ← hm]
  by_cases h16 : 16 ≤ (bs.drop (16 * i)).length
  · rw [Nat.min_eq_left h16]
  · rw [Nat.min_eq_right (by omega), List.take_length, List.take_of_length_le (by omega)]
theorem part_len (xs : List Nat) (k : Nat) (hk : k ≤ xs.length) : (xs.take k ++ [1]).length = k + 1 := by rw [List.length_append, List.length_take, Nat.min_eq_left hk]; rfl
theorem part_last (xs : List Nat) (k : Nat) (hk : k ≤ xs.length) (h16 : k ≤ 16) (n : Nat) (hn : (xs.take k ++ [1]).length = n) : n ≤ 17 ∧ (16 < n → (xs.take k ++ [1]).getD 16 0 < 4) := by
  rw [List.length_append, List.length_take, Nat.min_eq_left hk, List.length_singleton] at hn
  refine ⟨by omega, fun h => ?_⟩
  rw [List.getD_eq_getElem?_getD, List.getElem?_append_right (by rw [List.length_take]; omega), List.length_take, show 16 - min k xs.length = 0 from by omega]
  decide
set_option maxRecDepth 100000 in
set_option maxHeartbeats 9000000 in
theorem Sum_any (w : World) (key : List Nat) (a : Option Addr) (len cap : Nat) (bs : List Nat) (hk : key.length = 32) (hkb : ∀ x ∈ key, x < 256) (hr : RdB w a len cap bs) :
    Calls Try.prog 63 #[.agg (bv key).toArray, .slice a len cap] w fun e w' => e = .returned (.agg (bv (tag key bs)).toArray) ∧ Below w.heap.size w w' := by
  have hk16 : (key.take 16).length = 16 := by rw [List.length_take, hk]; rfl
  have cC := Lib.hid (fun W => Clamp_any W (key.take 16) hk16 (fun x hx => hkb x (List.mem_of_mem_take hx)))
  obtain ⟨half, hhalf⟩ : ∃ half, half = clamp (key.take 16) := ⟨_, rfl⟩
  have hhl : half.length = 16 := hhalf ▸ clamp_length _
  have hhb : ∀ x ∈ half, x < 256 := hhalf ▸ clamp_lt _ (fun x hx => hkb x (List.mem_of_mem_take hx))
  have hrO : rOf key = le half := by rw [hhalf]; rfl
  rw [← hhalf] at cC
  have HR := Lib.hid hrO
  clear hhalf hrO
  have cO := Lib.hid (fun W b (h : Blk W b 76 .u8 half) => of_any W (some ⟨b, 0, none⟩) 16 16 half (h.rd 16 hhl hhb (by decide)) (by decide) (by omega))
  have HZH := Lib.hid (show (Try.prog.info? 76).map (·.size) = some (nv .u8 half).toArray.size by simp only [List.size_toArray, nv_length]; rw [hhl]; kernel_rfl)
  have HSH := Lib.hid (show 16 = (nv .u8 half).toArray.size by simp [nv, hhl])
  have hrl := limbs_length (le half)
  have HZR := Lib.hid (show (Try.prog.info? 98).map (·.size) = some (nv .u64 (limbs (le half))).toArray.size by simp only [List.size_toArray, nv_length]; rw [hrl]; kernel_rfl)
  have HSR := Lib.hid (show 5 = (nv .u64 (limbs (le half))).toArray.size by simp [nv, hrl])
  have HK16 := Lib.hid hk16
  have hK0 : Blk ((w.alloc (.cells (nv .u8 key).toArray 35)).alloc (.cells (nv .u8 (List.replicate 16 0)).toArray 76)) w.heap.size 35 .u8 key := (Blk.new w _ _ key _ rfl).alloc _
  have hO0 : Blk ((w.alloc (.cells (nv .u8 key).toArray 35)).alloc (.cells (nv .u8 (List.replicate 16 0)).toArray 76)) (w.heap.size + 1) 76 .u8 (List.replicate 16 0) := by
    have := Blk.new (w.alloc (.cells (nv .u8 key).toArray 35)) 76 .u8 (List.replicate 16 0) _ rfl
    rw [World.size_alloc] at this
    exact this
  clear hk16
  have har := fun W => run_arrayAt (P := Try.prog) (w := W) 76 5 16 (some ⟨w.heap.size, 0, none⟩) 16 32 Try.underlying76 (Nat.le_refl _)
  go_enter Try.func63, Try.ntmps63
  go_wp2_with (first
    | (refine wp_load_sub rfl 76 (.tmp 16) rfl w.heap.size 0 rfl hK0 16 16 5 Try.underlying76 (by kernel_rfl) rfl HK16.out ?_)
    | (go_at_call 71; refine (cC.out _).mono ?_; rintro e w1 ⟨rfl, hb1⟩)
    | (refine wp_store_new rfl 76 (.tmp 5) (.tmp 18) rfl rfl _ (nv .u8 half).toArray rfl HZH.out HSH.out (nv_one _ _) ?_; have hH1 := Blk.new w1 76 .u8 half _ rfl)
    | (go_at_call 72; refine (cO.out _ _ hH1).mono ?_; rintro e w2 ⟨rfl, hb2⟩)
    | (refine wp_store_new rfl 98 (.tmp 6) (.tmp 20) rfl rfl _ (nv .u64 (limbs (le half))).toArray rfl HZR.out HSR.out (nv_one _ _) ?_; have hR1 := Blk.new w2 98 .u64 (limbs (le half)) _ rfl)
    | fail)
  -- LOOP
  have hW0 : (fun W => Blk W w.heap.size 35 .u8 key ∧ Blk W (w.heap.size + 1) 76 .u8 (List.replicate 16 0) ∧ Blk W w2.heap.size 98 .u64 (limbs (le half)) ∧ Blk W (w2.heap.size + 1) 98 .u64 [0, 0, 0, 0, 0] ∧ RdB W a len cap bs ∧ Below w.heap.size w W)
      ((w2.alloc (.cells (nv .u64 (limbs (le half))).toArray 98)).alloc (.cells #[.int .u64 0, .int .u64 0, .int .u64 0, .int .u64 0, .int .u64 0] 98)) := by
    have g1 := xalloc (xtrans (xalloc (xnew w (.cells (nv .u8 key).toArray 35)) (.cells (nv .u8 (List.replicate 16 0)).toArray 76)) hb1) (.cells (nv .u8 half).toArray 76)
    have g2 := xalloc (xalloc (xtrans g1 hb2) (.cells (nv .u64 (limbs (le half))).toArray 98)) (.cells #[.int .u64 0, .int .u64 0, .int .u64 0, .int .u64 0, .int .u64 0] 98)
    have g3 := Blk.new (w2.alloc (.cells (nv .u64 (limbs (le half))).toArray 98)) 98 .u64 [0, 0, 0, 0, 0] _ rfl
    rw [World.size_alloc] at g3
    exact ⟨((((hK0.below hb1).alloc _).below hb2).alloc _).alloc _, ((((hO0.below hb1).alloc _).below hb2).alloc _).alloc _, hR1.alloc _, g3, hr.below g2, g2⟩
  have hRb : w.heap.size + 1 < w2.heap.size := by have h1 := (hO0.below hb1).lt; have h3 := hb2.size; rw [World.size_alloc] at h3; omega
  obtain ⟨Rb, hRbe⟩ : ∃ Rb, Rb = w2.heap.size := ⟨_, rfl⟩
  rw [← hRbe] at hW0 hRb ⊢
  refine at_world (fun W => Blk W w.heap.size 35 .u8 key ∧ Blk W (w.heap.size + 1) 76 .u8 (List.replicate 16 0) ∧ Blk W Rb 98 .u64 (limbs (le half)) ∧ Blk W (Rb + 1) 98 .u64 [0, 0, 0, 0, 0] ∧ RdB W a len cap bs ∧ Below w.heap.size w W) hW0 ?_
  have hpa : ∀ x, a = some x → 0 < len → x.block < w.heap.size := fun x hx h0 => by subst hx; exact hr.lt h0
  clear hW0 hK0 hO0 hb1 hb2 hR1 hH1 cC cO HZH HSH HZR HSR HK16 har hRbe
  rintro W ⟨hK, hO, hRr, hH, hr0, hB⟩
  obtain ⟨rl, hre⟩ : ∃ rl, rl = limbs (le half) := ⟨_, rfl⟩
  rw [← hre] at hRr
  have HRE := Lib.hid hre
  clear hre
  go_loopw [1] (fun v wr => ∃ (i m : Nat) (a' : Option Addr) (cap' : Nat) (h : List Nat), i ≤ parts len ∧ Hid (m = len - 16 * i) ∧ v = .slice a' m cap' ∧ (∀ x, a' = some x → 0 < m → x.block < w.heap.size) ∧ Hid (okH h (accN (rOf key) bs i)) ∧ ok5 h ∧ RdB wr a' m cap' (bs.drop (16 * i)) ∧ Blk wr (Rb + 1) 98 .u64 h ∧
      Blk wr w.heap.size 35 .u8 key ∧ Blk wr (w.heap.size + 1) 76 .u8 (List.replicate 16 0) ∧ Blk wr Rb 98 .u64 rl ∧ Below w.heap.size w wr) (fun v _ => lenOf v)
  case atStart => exact ⟨0, len, a, cap, [0, 0, 0, 0, 0], Nat.zero_le _, Lib.hid (by omega), rfl, hpa, Lib.hid (by rw [accN_zero]; exact okH_zero), ok5_zero, by rw [Nat.mul_zero, List.drop_zero]; exact hr0, hH, hK, hO, hRr, hB⟩
  case round =>
    clear hK hO hRr hH hr0 hB hpa
    obtain ⟨i, m, a', cap', h, hip, HM, rfl, hpa, HOK, hok, hrd, hH, hK, hO, hRr, hB⟩ := hrel
    by_cases hm0 : 0 < m
    · have hip2 : i < parts len := by rw [parts_lt]; have := HM.out; omega
      obtain ⟨k, hkk⟩ : ∃ k, k = min 16 m := ⟨_, rfl⟩
      have hk1 : k ≤ m := by omega
      have hk2 : (k : Int) ≤ 16 := by omega
      have hk3 : 0 < k := by omega
      have hk4 : (k : Int) ≤ (cap' : Int) := by have := hrd.2.2.1; omega
      have HKK := Lib.hid hkk
      have hmin := Lib.hid (show (if (m : Int) < 16 then (m : Int) else 16) = (k : Int) by split <;> omega)
      clear hkk
      go_wp2_with (first
        | (refine wp_min rfl (.const (.int .i64 16)) (.tmp 25) _ rfl 16 (m : Int) (k : Int) rfl rfl hmin.out ?_)
        | fail)
      obtain ⟨B0, hB0⟩ : ∃ B0, B0 = wr.heap.size := ⟨_, rfl⟩
      have hp : SP w B0 Rb a' := ⟨hRb, by rw [hB0]; exact hH.lt, fun x hx => hpa x hx hm0⟩
      obtain ⟨xs, hxs⟩ : ∃ xs, xs = bs.drop (16 * i) := ⟨_, rfl⟩
      rw [← hxs] at hrd
      have hxl : xs.length = m := hrd.2.1
      have ept := part_eq bs i m k (by rw [← hxs]; exact hxl) HKK.out
      rw [← hxs] at ept
      have hlast : ∀ n, (xs.take k ++ [1]).length = n → n ≤ 17 ∧ (16 < n → (xs.take k ++ [1]).getD 16 0 < 4) := part_last xs k (by rw [hxl]; exact hk1) (by omega)
      have HPL := Lib.hid (part_len xs k (by rw [hxl]; exact hk1))
      have cOf := Lib.hid (fun W' a1 n1 c1 (hr1 : RdB W' a1 n1 c1 (xs.take k ++ [1])) => of_any W' a1 n1 c1 _ hr1 (hlast _ hr1.2.1).1 (hlast _ hr1.2.1).2)
      have hll := limbs_length (le (xs.take k ++ [1]))
      have HZP := Lib.hid (show (Try.prog.info? 98).map (·.size) = some (limbs (le (xs.take k ++ [1]))).length by rw [hll]; kernel_rfl)
      have HSP := Lib.hid (show [0, 0, 0, 0, 0].length = (limbs (le (xs.take k ++ [1]))).length by rw [hll]; rfl)
      have HXS := Lib.hid hxs
      have HEP := Lib.hid ept
      have hk : k ≤ m := hk1
      have hSM : SM w B0 Rb key rl h a' m cap' xs wr := ⟨Nat.le_of_eq hB0, hK, hO, hRr, hH, hrd, hB⟩
      clear hxs ept hB0 hxl hK hO hRr hH hB hlast hll hrd hpa
      refine region_cut (fun a0 a1 w1 => ∃ v27 v28 v29 v30 v31 v32 v33 v34 N, SM w B0 Rb key rl h a' m cap' xs w1 ∧ Blk w1 N 98 .u64 (limbs (le (xs.take k ++ [1]))) ∧ B0 ≤ N ∧
        a1 = (((((((((a0.put (some 27) v27).put (some 28) v28).put (some 29) v29).put (some 30) v30).put (some 31) v31).put (some 32) v32).put (some 33) v33).put (some 34) v34).put (some 9) (.pointer (some ⟨N, 0, none⟩)))) ?_ ?_
      · skip
        refine wp_region_held_drew (S := SM w B0 Rb key rl h a' m cap' xs) (by kernel_rfl) (SM.drew hSM) (fun hHeld => ?_)
        generalize wr.drew = wv at hHeld ⊢
        refine takeL (i := 1) (v := ?_) rfl rfl (by kernel_rfl) (by kernel_rfl) (by kernel_rfl) (fun _ _ _ h => nomatch h.1) (Or.inl ⟨by rfl, ?_⟩) (by assumption) ?_
        rotate_left
        · (intro w' _; go_simp; try with_reducible rfl)
        simp only [Act.put, List.setIfInBounds_toArray, List.set_cons_zero, List.set_cons_succ]
        refine takeL (i := 2) (v := ?_) rfl rfl (by kernel_rfl) (by kernel_rfl) (by kernel_rfl) (fun _ _ _ h => nomatch h.1) (Or.inl ⟨by rfl, ?_⟩) (by assumption) ?_
        rotate_left
        · (intro w' _; go_simp; try with_reducible rfl)
        simp only [Act.put, List.setIfInBounds_toArray, List.set_cons_zero, List.set_cons_succ]
        refine takeL (i := 3) (v := ?_) rfl rfl (by kernel_rfl) (by kernel_rfl) (by kernel_rfl) (fun _ _ _ h => nomatch h.1) (Or.inl ⟨by rfl, ?_⟩) (by assumption) ?_
        rotate_left
        · (intro w' _; go_simp; try with_reducible rfl)
        simp only [Act.put, List.setIfInBounds_toArray, List.set_cons_zero, List.set_cons_succ]
        refine wpAnyH_ready (rs := [0, 5, 8]) (by kernel_rfl) (by simp) ?_
        refine consL rfl (fun K hK => ?_) (consL rfl (fun K hK => ?_) (consL rfl (fun K hK => ?_) AllReadyH.nil))
        · rw [if_pos (by rfl)]
          refine wpo_make0 (.const (.int .i64 0)) (.const (.int .i64 17)) rfl 17 rfl rfl (by decide) B0 (SM.size hHeld) ?_
          intro w1 C1 hg1
          refine hK.out _ _ (SM.step hp hHeld (grown_below hg1 (SM.size hHeld) (by simp))) (fun hHeld => ?_)
          clear hK K
          try simp only [Act.put, List.setIfInBounds_toArray, List.set_cons_zero, List.set_cons_succ]
          refine wpAnyH_ready (rs := [4, 5, 8]) (by kernel_rfl) (by simp) ?_
          refine consL rfl (fun K hK => ?_) (consL rfl (fun K hK => ?_) (consL rfl (fun K hK => ?_) AllReadyH.nil))
          · rw [if_pos (by rfl)]
            refine wpo_append_at (.tmp 27) (.tmp 30) rfl B0 _ _ rfl C1 _ _ _ (xs.take k) rfl (SM.src hp hHeld hk) (by simp; omega) (SM.size hHeld) ?_
            intro v2 w2 C2 hg2 hat2
            rw [List.nil_append] at C2
            refine hK.out _ _ (SM.step hp hHeld (grown_below hg2 (SM.size hHeld) (fun k hk => (C1.block k hk).1))) (fun hHeld => ?_)
            clear hK K
            try simp only [Act.put, List.setIfInBounds_toArray, List.set_cons_zero, List.set_cons_succ]
            refine wpAnyH_ready (rs := [5, 8]) (by kernel_rfl) (by simp) ?_
            refine consL rfl (fun K hK => ?_) (consL rfl (fun K hK => ?_) AllReadyH.nil)
            · rw [if_pos (by rfl)]
              go_simp
              have hg3 := alloc_grown w2 (.cells #[.int .u8 1] 5)
              have C3 := C2.kept hg3 (by simp)
              have hS3 : RdB (w2.alloc (.cells #[.int .u8 1] 5)) (some ⟨w2.heap.size, 0, none⟩) 1 1 [1] := rd_new _ _ _ _ _ _ rfl rfl (by decide) (by decide)
              have hvs3 := fun e => Nat.lt_irrefl _ (C2.block w2.heap.size e).2
              generalize hw3 : w2.alloc (.cells #[.int .u8 1] 5) = w3 at hg3 C3 hS3 ⊢
              clear hw3
              refine hK.out _ _ (SM.step hp hHeld (grown_below hg3 (SM.size hHeld) (by simp))) (fun hHeld => ?_)
              clear hK K
              try simp only [Act.put, List.setIfInBounds_toArray, List.set_cons_zero, List.set_cons_succ]
              refine wpAnyH_ready (rs := [6, 8]) (by kernel_rfl) (by simp) ?_
              refine consL rfl (fun K hK => ?_) (consL rfl (fun K hK => ?_) AllReadyH.nil)
              · rw [if_pos (by rfl)]
                refine wpo_append_at (.tmp 31) (.tmp 32) rfl B0 _ _ rfl C3 _ _ _ [1] rfl hS3 (by simp; omega) (SM.size hHeld) ?_
                intro v4 w4 C4 hg4 hat4
                have hS4 := hS3.grown hg4 (fun x hx => by cases hx; exact hvs3)
                have hvs4 : v4.ownBlock ≠ some w2.heap.size := fun e => by rcases hat4 with h | h; exact hvs3 (h.symm.trans e); exact Nat.ne_of_gt (hS3.lt (by decide)) (Option.some.inj (h.symm.trans e))
                refine hK.out _ _ (SM.step hp hHeld (grown_below hg4 (SM.size hHeld) (fun k hk => (C3.block k hk).1))) (fun hHeld => ?_)
                clear hK K
                try simp only [Act.put, List.setIfInBounds_toArray, List.set_cons_zero, List.set_cons_succ]
                refine wpAnyH_ready (rs := [7, 8]) (by kernel_rfl) (by simp) ?_
                refine consL rfl (fun K hK => ?_) (consL rfl (fun K hK => ?_) AllReadyH.nil)
                · rw [if_pos (by rfl)]
                  obtain ⟨a5, c5, hv5, hr5, _⟩ := C4.rd (by rw [HPL.out]; omega)
                  rw [HPL.out] at hv5 hr5
                  subst hv5
                  go_simp
                  go_at_call 72
                  refine (cOf.out _ _ _ _ hr5).mono ?_
                  rintro e w5 ⟨rfl, hb5⟩
                  have hg5 := below_grown hb5
                  refine hK.out _ _ (SM.step hp hHeld (grown_below hg5 (SM.size hHeld) (by simp))) (fun hHeld => ?_)
                  clear hK K
                  try simp only [Act.put, List.setIfInBounds_toArray, List.set_cons_zero, List.set_cons_succ]
                  refine wpAnyH_ready (rs := [8]) (by kernel_rfl) (by simp) ?_
                  refine consL rfl (fun K hK => ?_) AllReadyH.nil
                  · rw [if_pos (by rfl)]
                    go_simp
                    have hg6 := alloc_grown w5 (.cells #[.int .u64 0, .int .u64 0, .int .u64 0, .int .u64 0, .int .u64 0] 98)
                    have hN6 : Blk (w5.alloc (.cells #[.int .u64 0, .int .u64 0, .int .u64 0, .int .u64 0, .int .u64 0] 98)) w5.heap.size 98 .u64 [0, 0, 0, 0, 0] := Blk.new _ _ _ _ _ rfl
                    have hnl6 := SM.size hHeld
                    generalize hw6 : w5.alloc (.cells #[.int .u64 0, .int .u64 0, .int .u64 0, .int .u64 0, .int .u64 0] 98) = w6 at hg6 hN6 ⊢
                    clear hw6
                    refine hK.out _ _ (SM.step hp hHeld (grown_below hg6 (SM.size hHeld) (by simp))) (fun hHeld => ?_)
                    clear hK K
                    try simp only [Act.put, List.setIfInBounds_toArray, List.set_cons_zero, List.set_cons_succ]
                    refine wpAnyH_ready (rs := [9]) (by kernel_rfl) (by simp) ?_
                    refine consL rfl (fun K hK => ?_) AllReadyH.nil
                    · rw [if_pos (by rfl)]
                      refine wpo_store_arr 98 (.tmp 9) (.tmp 34) rfl _ rfl hN6 rfl HZP.out HSP.out ?_
                      intro w7 hN7 hg7
                      refine hK.out _ _ (SM.step hp hHeld (grown_below hg7 (SM.size hHeld) (fun k hk => (Option.some.inj hk) ▸ hnl6))) (fun hHeld => ?_)
                      clear hK K
                      try simp only [Act.put, List.setIfInBounds_toArray, List.set_cons_zero, List.set_cons_succ]
                      refine wpAnyH_done (by kernel_rfl) ?_ _
                      refine ⟨rfl, ?_⟩
                      repeat apply Exists.intro
                      refine ⟨hHeld, hN7, hnl6, ?_⟩
                      try simp only [Act.put, List.setIfInBounds_toArray, List.set_cons_zero, List.set_cons_succ]
                      rfl
                · rw [if_pos (by rfl)]
                  go_simp
                  have hg8 := alloc_grown w4 (.cells #[.int .u64 0, .int .u64 0, .int .u64 0, .int .u64 0, .int .u64 0] 98)
                  have C8 := C4.kept hg8 (by simp)
                  have hN8 : Blk (w4.alloc (.cells #[.int .u64 0, .int .u64 0, .int .u64 0, .int .u64 0, .int .u64 0] 98)) w4.heap.size 98 .u64 [0, 0, 0, 0, 0] := Blk.new _ _ _ _ _ rfl
                  have hnl8 := SM.size hHeld
                  have hvn8 := fun e => Nat.lt_irrefl _ (C4.block w4.heap.size e).2
                  have hS8 := hS4.grown hg8 (fun _ _ => by simp)
                  generalize hw8 : w4.alloc (.cells #[.int .u64 0, .int .u64 0, .int .u64 0, .int .u64 0, .int .u64 0] 98) = w8 at hg8 C8 hS8 hN8 ⊢
                  clear hw8
                  refine hK.out _ _ (SM.step hp hHeld (grown_below hg8 (SM.size hHeld) (by simp))) (fun hHeld => ?_)
                  clear hK K
                  try simp only [Act.put, List.setIfInBounds_toArray, List.set_cons_zero, List.set_cons_succ]
                  refine wpAnyH_ready (rs := [7]) (by kernel_rfl) (by simp) ?_
                  refine consL rfl (fun K hK => ?_) AllReadyH.nil
                  · rw [if_pos (by rfl)]
                    obtain ⟨a9, c9, hv9, hr9, _⟩ := C8.rd (by rw [HPL.out]; omega)
                    rw [HPL.out] at hv9 hr9
                    subst hv9
                    go_simp
                    go_at_call 72
                    refine (cOf.out _ _ _ _ hr9).mono ?_
                    rintro e w9 ⟨rfl, hb9⟩
                    have hg9 := below_grown hb9
                    have hN9 := hN8.grown hg9 (by simp)
                    refine hK.out _ _ (SM.step hp hHeld (grown_below hg9 (SM.size hHeld) (by simp))) (fun hHeld => ?_)
                    clear hK K
                    try simp only [Act.put, List.setIfInBounds_toArray, List.set_cons_zero, List.set_cons_succ]
                    refine wpAnyH_ready (rs := [9]) (by kernel_rfl) (by simp) ?_
                    refine consL rfl (fun K hK => ?_) AllReadyH.nil
                    · rw [if_pos (by rfl)]
                      refine wpo_store_arr 98 (.tmp 9) (.tmp 34) rfl _ rfl hN9 rfl HZP.out HSP.out ?_
                      intro w10 hN10 hg10
                      refine hK.out _ _ (SM.step hp hHeld (grown_below hg10 (SM.size hHeld) (fun k hk => (Option.some.inj hk) ▸ hnl8))) (fun hHeld => ?_)
                      clear hK K
                      try simp only [Act.put, List.setIfInBounds_toArray, List.set_cons_zero, List.set_cons_succ]
                      refine wpAnyH_done (by kernel_rfl) ?_ _
                      refine ⟨rfl, ?_⟩
                      repeat apply Exists.intro
                      refine ⟨hHeld, hN10, hnl8, ?_⟩
                      try simp only [Act.put, List.setIfInBounds_toArray, List.set_cons_zero, List.set_cons_succ]
                      rfl
              · rw [if_pos (by rfl)]
                go_simp
                have hg11 := alloc_grown w3 (.cells #[.int .u64 0, .int .u64 0, .int .u64 0, .int .u64 0, .int .u64 0] 98)
                have C11 := C3.kept hg11 (by simp)
                have hN11 : Blk (w3.alloc (.cells #[.int .u64 0, .int .u64 0, .int .u64 0, .int .u64 0, .int .u64 0] 98)) w3.heap.size 98 .u64 [0, 0, 0, 0, 0] := Blk.new _ _ _ _ _ rfl
                have hnl11 := SM.size hHeld
                have hvn11 := fun e => Nat.lt_irrefl _ (C3.block w3.heap.size e).2
                have hS11 := hS3.grown hg11 (fun _ _ => by simp)
                generalize hw11 : w3.alloc (.cells #[.int .u64 0, .int .u64 0, .int .u64 0, .int .u64 0, .int .u64 0] 98) = w11 at hg11 C11 hS11 hN11 ⊢
                clear hw11
                refine hK.out _ _ (SM.step hp hHeld (grown_below hg11 (SM.size hHeld) (by simp))) (fun hHeld => ?_)
                clear hK K
                try simp only [Act.put, List.setIfInBounds_toArray, List.set_cons_zero, List.set_cons_succ]
                refine wpAnyH_ready (rs := [6]) (by kernel_rfl) (by simp) ?_
                refine consL rfl (fun K hK => ?_) AllReadyH.nil
                · rw [if_pos (by rfl)]
                  refine wpo_append_at (.tmp 31) (.tmp 32) rfl B0 _ _ rfl C11 _ _ _ [1] rfl hS11 (by simp; omega) (SM.size hHeld) ?_
                  intro v12 w12 C12 hg12 hat12
                  have hS12 := hS11.grown hg12 (fun x hx => by cases hx; exact hvs3)
                  have hvs12 : v12.ownBlock ≠ some w2.heap.size := fun e => by rcases hat12 with h | h; exact hvs3 (h.symm.trans e); exact Nat.ne_of_gt (hS11.lt (by decide)) (Option.some.inj (h.symm.trans e))
                  have hN12 := hN11.grown hg12 (fun e => hvn11 e.symm)
                  have hvn12 : v12.ownBlock ≠ some w3.heap.size := fun e => by rcases hat12 with h | h; exact hvn11 (h.symm.trans e); exact Nat.ne_of_gt hN11.lt (Option.some.inj (h.symm.trans e))
                  refine hK.out _ _ (SM.step hp hHeld (grown_below hg12 (SM.size hHeld) (fun k hk => (C11.block k hk).1))) (fun hHeld => ?_)
                  clear hK K
                  try simp only [Act.put, List.setIfInBounds_toArray, List.set_cons_zero, List.set_cons_succ]
                  refine wpAnyH_ready (rs := [7]) (by kernel_rfl) (by simp) ?_
                  refine consL rfl (fun K hK => ?_) AllReadyH.nil
                  · rw [if_pos (by rfl)]
                    obtain ⟨a13, c13, hv13, hr13, _⟩ := C12.rd (by rw [HPL.out]; omega)
                    rw [HPL.out] at hv13 hr13
                    subst hv13
                    go_simp
                    go_at_call 72
                    refine (cOf.out _ _ _ _ hr13).mono ?_
                    rintro e w13 ⟨rfl, hb13⟩
                    have hg13 := below_grown hb13
                    have hN13 := hN12.grown hg13 (by simp)
                    refine hK.out _ _ (SM.step hp hHeld (grown_below hg13 (SM.size hHeld) (by simp))) (fun hHeld => ?_)
                    clear hK K
                    try simp only [Act.put, List.setIfInBounds_toArray, List.set_cons_zero, List.set_cons_succ]
                    refine wpAnyH_ready (rs := [9]) (by kernel_rfl) (by simp) ?_
                    refine consL rfl (fun K hK => ?_) AllReadyH.nil
                    · rw [if_pos (by rfl)]
                      refine wpo_store_arr 98 (.tmp 9) (.tmp 34) rfl _ rfl hN13 rfl HZP.out HSP.out ?_
                      intro w14 hN14 hg14
                      refine hK.out _ _ (SM.step hp hHeld (grown_below hg14 (SM.size hHeld) (fun k hk => (Option.some.inj hk) ▸ hnl11))) (fun hHeld => ?_)
                      clear hK K
                      try simp only [Act.put, List.setIfInBounds_toArray, List.set_cons_zero, List.set_cons_succ]
                      refine wpAnyH_done (by kernel_rfl) ?_ _
                      refine ⟨rfl, ?_⟩
                      repeat apply Exists.intro
                      refine ⟨hHeld, hN14, hnl11, ?_⟩
                      try simp only [Act.put, List.setIfInBounds_toArray, List.set_cons_zero, List.set_cons_succ]
                      rfl
            · rw [if_pos (by rfl)]
              go_simp
              have hg15 := alloc_grown w2 (.cells #[.int .u64 0, .int .u64 0, .int .u64 0, .int .u64 0, .int .u64 0] 98)
              have C15 := C2.kept hg15 (by simp)
              have hN15 : Blk (w2.alloc (.cells #[.int .u64 0, .int .u64 0, .int .u64 0, .int .u64 0, .int .u64 0] 98)) w2.heap.size 98 .u64 [0, 0, 0, 0, 0] := Blk.new _ _ _ _ _ rfl
              have hnl15 := SM.size hHeld
              have hvn15 := fun e => Nat.lt_irrefl _ (C2.block w2.heap.size e).2
              generalize hw15 : w2.alloc (.cells #[.int .u64 0, .int .u64 0, .int .u64 0, .int .u64 0, .int .u64 0] 98) = w15 at hg15 C15 hN15 ⊢
              clear hw15
              refine hK.out _ _ (SM.step hp hHeld (grown_below hg15 (SM.size hHeld) (by simp))) (fun hHeld => ?_)
              clear hK K
              try simp only [Act.put, List.setIfInBounds_toArray, List.set_cons_zero, List.set_cons_succ]
              refine wpAnyH_ready (rs := [5]) (by kernel_rfl) (by simp) ?_
              refine consL rfl (fun K hK => ?_) AllReadyH.nil
              · rw [if_pos (by rfl)]
                go_simp
                have hg16 := alloc_grown w15 (.cells #[.int .u8 1] 5)
                have C16 := C15.kept hg16 (by simp)
                have hS16 : RdB (w15.alloc (.cells #[.int .u8 1] 5)) (some ⟨w15.heap.size, 0, none⟩) 1 1 [1] := rd_new _ _ _ _ _ _ rfl rfl (by decide) (by decide)
                have hvs16 := fun e => Nat.lt_irrefl _ (C15.block w15.heap.size e).2
                have hN16 := hN15.grown hg16 (by simp)
                generalize hw16 : w15.alloc (.cells #[.int .u8 1] 5) = w16 at hg16 C16 hS16 hN16 ⊢
                clear hw16
                refine hK.out _ _ (SM.step hp hHeld (grown_below hg16 (SM.size hHeld) (by simp))) (fun hHeld => ?_)
                clear hK K
                try simp only [Act.put, List.setIfInBounds_toArray, List.set_cons_zero, List.set_cons_succ]
                refine wpAnyH_ready (rs := [6]) (by kernel_rfl) (by simp) ?_
                refine consL rfl (fun K hK => ?_) AllReadyH.nil
                · rw [if_pos (by rfl)]
                  refine wpo_append_at (.tmp 31) (.tmp 32) rfl B0 _ _ rfl C16 _ _ _ [1] rfl hS16 (by simp; omega) (SM.size hHeld) ?_
                  intro v17 w17 C17 hg17 hat17
                  have hS17 := hS16.grown hg17 (fun x hx => by cases hx; exact hvs16)
                  have hvs17 : v17.ownBlock ≠ some w15.heap.size := fun e => by rcases hat17 with h | h; exact hvs16 (h.symm.trans e); exact Nat.ne_of_gt (hS16.lt (by decide)) (Option.some.inj (h.symm.trans e))
                  have hN17 := hN16.grown hg17 (fun e => hvn15 e.symm)
                  have hvn17 : v17.ownBlock ≠ some w2.heap.size := fun e => by rcases hat17 with h | h; exact hvn15 (h.symm.trans e); exact Nat.ne_of_gt hN16.lt (Option.some.inj (h.symm.trans e))
                  refine hK.out _ _ (SM.step hp hHeld (grown_below hg17 (SM.size hHeld) (fun k hk => (C16.block k hk).1))) (fun hHeld => ?_)
                  clear hK K
                  try simp only [Act.put, List.setIfInBounds_toArray, List.set_cons_zero, List.set_cons_succ]
                  refine wpAnyH_ready (rs := [7]) (by kernel_rfl) (by simp) ?_
                  refine consL rfl (fun K hK => ?_) AllReadyH.nil
                  · rw [if_pos (by rfl)]
                    obtain ⟨a18, c18, hv18, hr18, _⟩ := C17.rd (by rw [HPL.out]; omega)
                    rw [HPL.out] at hv18 hr18
                    subst hv18
                    go_simp
                    go_at_call 72
                    refine (cOf.out _ _ _ _ hr18).mono ?_
                    rintro e w18 ⟨rfl, hb18⟩
                    have hg18 := below_grown hb18
                    have hN18 := hN17.grown hg18 (by simp)
                    refine hK.out _ _ (SM.step hp hHeld (grown_below hg18 (SM.size hHeld) (by simp))) (fun hHeld => ?_)
                    clear hK K
                    try simp only [Act.put, List.setIfInBounds_toArray, List.set_cons_zero, List.set_cons_succ]
                    refine wpAnyH_ready (rs := [9]) (by kernel_rfl) (by simp) ?_
                    refine consL rfl (fun K hK => ?_) AllReadyH.nil
                    · rw [if_pos (by rfl)]
                      refine wpo_store_arr 98 (.tmp 9) (.tmp 34) rfl _ rfl hN18 rfl HZP.out HSP.out ?_
                      intro w19 hN19 hg19
                      refine hK.out _ _ (SM.step hp hHeld (grown_below hg19 (SM.size hHeld) (fun k hk => (Option.some.inj hk) ▸ hnl15))) (fun hHeld => ?_)
                      clear hK K
                      try simp only [Act.put, List.setIfInBounds_toArray, List.set_cons_zero, List.set_cons_succ]
                      refine wpAnyH_done (by kernel_rfl) ?_ _
                      refine ⟨rfl, ?_⟩
                      repeat apply Exists.intro
                      refine ⟨hHeld, hN19, hnl15, ?_⟩
                      try simp only [Act.put, List.setIfInBounds_toArray, List.set_cons_zero, List.set_cons_succ]
                      rfl
          · rw [if_pos (by rfl)]
            go_simp
            have hg20 := alloc_grown w1 (.cells #[.int .u8 1] 5)
            have C20 := C1.kept hg20 (by simp)
            have hS20 : RdB (w1.alloc (.cells #[.int .u8 1] 5)) (some ⟨w1.heap.size, 0, none⟩) 1 1 [1] := rd_new _ _ _ _ _ _ rfl rfl (by decide) (by decide)
            have hvs20 := fun e => Nat.lt_irrefl _ (C1.block w1.heap.size e).2
            generalize hw20 : w1.alloc (.cells #[.int .u8 1] 5) = w20 at hg20 C20 hS20 ⊢
            clear hw20
            refine hK.out _ _ (SM.step hp hHeld (grown_below hg20 (SM.size hHeld) (by simp))) (fun hHeld => ?_)
            clear hK K
            try simp only [Act.put, List.setIfInBounds_toArray, List.set_cons_zero, List.set_cons_succ]
            refine wpAnyH_ready (rs := [4, 8]) (by kernel_rfl) (by simp) ?_
            refine consL rfl (fun K hK => ?_) (consL rfl (fun K hK => ?_) AllReadyH.nil)
            · rw [if_pos (by rfl)]
              refine wpo_append_at (.tmp 27) (.tmp 30) rfl B0 _ _ rfl C20 _ _ _ (xs.take k) rfl (SM.src hp hHeld hk) (by simp; omega) (SM.size hHeld) ?_
              intro v21 w21 C21 hg21 hat21
              rw [List.nil_append] at C21
              have hS21 := hS20.grown hg21 (fun x hx => by cases hx; exact hvs20)
              have hvs21 : v21.ownBlock ≠ some w1.heap.size := fun e => by rcases hat21 with h | h; exact hvs20 (h.symm.trans e); exact Nat.ne_of_gt (hS20.lt (by decide)) (Option.some.inj (h.symm.trans e))
              refine hK.out _ _ (SM.step hp hHeld (grown_below hg21 (SM.size hHeld) (fun k hk => (C20.block k hk).1))) (fun hHeld => ?_)
              clear hK K
              try simp only [Act.put, List.setIfInBounds_toArray, List.set_cons_zero, List.set_cons_succ]
              refine wpAnyH_ready (rs := [6, 8]) (by kernel_rfl) (by simp) ?_
              refine consL rfl (fun K hK => ?_) (consL rfl (fun K hK => ?_) AllReadyH.nil)
              · rw [if_pos (by rfl)]
                refine wpo_append_at (.tmp 31) (.tmp 32) rfl B0 _ _ rfl C21 _ _ _ [1] rfl hS21 (by simp; omega) (SM.size hHeld) ?_
                intro v22 w22 C22 hg22 hat22
                have hS22 := hS21.grown hg22 (fun x hx => by cases hx; exact hvs21)
                have hvs22 : v22.ownBlock ≠ some w1.heap.size := fun e => by rcases hat22 with h | h; exact hvs21 (h.symm.trans e); exact Nat.ne_of_gt (hS21.lt (by decide)) (Option.some.inj (h.symm.trans e))
                refine hK.out _ _ (SM.step hp hHeld (grown_below hg22 (SM.size hHeld) (fun k hk => (C21.block k hk).1))) (fun hHeld => ?_)
                clear hK K
                try simp only [Act.put, List.setIfInBounds_toArray, List.set_cons_zero, List.set_cons_succ]
                refine wpAnyH_ready (rs := [7, 8]) (by kernel_rfl) (by simp) ?_
                refine consL rfl (fun K hK => ?_) (consL rfl (fun K hK => ?_) AllReadyH.nil)
                · rw [if_pos (by rfl)]
                  obtain ⟨a23, c23, hv23, hr23, _⟩ := C22.rd (by rw [HPL.out]; omega)
                  rw [HPL.out] at hv23 hr23
                  subst hv23
                  go_simp
                  go_at_call 72
                  refine (cOf.out _ _ _ _ hr23).mono ?_
                  rintro e w23 ⟨rfl, hb23⟩
                  have hg23 := below_grown hb23
                  refine hK.out _ _ (SM.step hp hHeld (grown_below hg23 (SM.size hHeld) (by simp))) (fun hHeld => ?_)
                  clear hK K
                  try simp only [Act.put, List.setIfInBounds_toArray, List.set_cons_zero, List.set_cons_succ]
                  refine wpAnyH_ready (rs := [8]) (by kernel_rfl) (by simp) ?_
                  refine consL rfl (fun K hK => ?_) AllReadyH.nil
                  · rw [if_pos (by rfl)]
                    go_simp
                    have hg24 := alloc_grown w23 (.cells #[.int .u64 0, .int .u64 0, .int .u64 0, .int .u64 0, .int .u64 0] 98)
                    have hN24 : Blk (w23.alloc (.cells #[.int .u64 0, .int .u64 0, .int .u64 0, .int .u64 0, .int .u64 0] 98)) w23.heap.size 98 .u64 [0, 0, 0, 0, 0] := Blk.new _ _ _ _ _ rfl
                    have hnl24 := SM.size hHeld
                    generalize hw24 : w23.alloc (.cells #[.int .u64 0, .int .u64 0, .int .u64 0, .int .u64 0, .int .u64 0] 98) = w24 at hg24 hN24 ⊢
                    clear hw24
                    refine hK.out _ _ (SM.step hp hHeld (grown_below hg24 (SM.size hHeld) (by simp))) (fun hHeld => ?_)
                    clear hK K
                    try simp only [Act.put, List.setIfInBounds_toArray, List.set_cons_zero, List.set_cons_succ]
                    refine wpAnyH_ready (rs := [9]) (by kernel_rfl) (by simp) ?_
                    refine consL rfl (fun K hK => ?_) AllReadyH.nil
                    · rw [if_pos (by rfl)]
                      refine wpo_store_arr 98 (.tmp 9) (.tmp 34) rfl _ rfl hN24 rfl HZP.out HSP.out ?_
                      intro w25 hN25 hg25
                      refine hK.out _ _ (SM.step hp hHeld (grown_below hg25 (SM.size hHeld) (fun k hk => (Option.some.inj hk) ▸ hnl24))) (fun hHeld => ?_)
                      clear hK K
                      try simp only [Act.put, List.setIfInBounds_toArray, List.set_cons_zero, List.set_cons_succ]
                      refine wpAnyH_done (by kernel_rfl) ?_ _
                      refine ⟨rfl, ?_⟩
                      repeat apply Exists.intro
                      refine ⟨hHeld, hN25, hnl24, ?_⟩
                      try simp only [Act.put, List.setIfInBounds_toArray, List.set_cons_zero, List.set_cons_succ]
                      rfl
                · rw [if_pos (by rfl)]
                  go_simp
                  have hg26 := alloc_grown w22 (.cells #[.int .u64 0, .int .u64 0, .int .u64 0, .int .u64 0, .int .u64 0] 98)
                  have C26 := C22.kept hg26 (by simp)
                  have hN26 : Blk (w22.alloc (.cells #[.int .u64 0, .int .u64 0, .int .u64 0, .int .u64 0, .int .u64 0] 98)) w22.heap.size 98 .u64 [0, 0, 0, 0, 0] := Blk.new _ _ _ _ _ rfl
                  have hnl26 := SM.size hHeld
                  have hvn26 := fun e => Nat.lt_irrefl _ (C22.block w22.heap.size e).2
                  have hS26 := hS22.grown hg26 (fun _ _ => by simp)
                  generalize hw26 : w22.alloc (.cells #[.int .u64 0, .int .u64 0, .int .u64 0, .int .u64 0, .int .u64 0] 98) = w26 at hg26 C26 hS26 hN26 ⊢
                  clear hw26
                  refine hK.out _ _ (SM.step hp hHeld (grown_below hg26 (SM.size hHeld) (by simp))) (fun hHeld => ?_)
                  clear hK K
                  try simp only [Act.put, List.setIfInBounds_toArray, List.set_cons_zero, List.set_cons_succ]
                  refine wpAnyH_ready (rs := [7]) (by kernel_rfl) (by simp) ?_
                  refine consL rfl (fun K hK => ?_) AllReadyH.nil
                  · rw [if_pos (by rfl)]
                    obtain ⟨a27, c27, hv27, hr27, _⟩ := C26.rd (by rw [HPL.out]; omega)
                    rw [HPL.out] at hv27 hr27
                    subst hv27
                    go_simp
                    go_at_call 72
                    refine (cOf.out _ _ _ _ hr27).mono ?_
                    rintro e w27 ⟨rfl, hb27⟩
                    have hg27 := below_grown hb27
                    have hN27 := hN26.grown hg27 (by simp)
                    refine hK.out _ _ (SM.step hp hHeld (grown_below hg27 (SM.size hHeld) (by simp))) (fun hHeld => ?_)
                    clear hK K
                    try simp only [Act.put, List.setIfInBounds_toArray, List.set_cons_zero, List.set_cons_succ]
                    refine wpAnyH_ready (rs := [9]) (by kernel_rfl) (by simp) ?_
                    refine consL rfl (fun K hK => ?_) AllReadyH.nil
                    · rw [if_pos (by rfl)]
                      refine wpo_store_arr 98 (.tmp 9) (.tmp 34) rfl _ rfl hN27 rfl HZP.out HSP.out ?_
                      intro w28 hN28 hg28
                      refine hK.out _ _ (SM.step hp hHeld (grown_below hg28 (SM.size hHeld) (fun k hk => (Option.some.inj hk) ▸ hnl26))) (fun hHeld => ?_)
                      clear hK K
                      try simp only [Act.put, List.setIfInBounds_toArray, List.set_cons_zero, List.set_cons_succ]
                      refine wpAnyH_done (by kernel_rfl) ?_ _
                      refine ⟨rfl, ?_⟩
                      repeat apply Exists.intro
                      refine ⟨hHeld, hN28, hnl26, ?_⟩
                      try simp only [Act.put, List.setIfInBounds_toArray, List.set_cons_zero, List.set_cons_succ]
                      rfl
              · rw [if_pos (by rfl)]
                go_simp
                have hg29 := alloc_grown w21 (.cells #[.int .u64 0, .int .u64 0, .int .u64 0, .int .u64 0, .int .u64 0] 98)
                have C29 := C21.kept hg29 (by simp)
                have hN29 : Blk (w21.alloc (.cells #[.int .u64 0, .int .u64 0, .int .u64 0, .int .u64 0, .int .u64 0] 98)) w21.heap.size 98 .u64 [0, 0, 0, 0, 0] := Blk.new _ _ _ _ _ rfl
                have hnl29 := SM.size hHeld
                have hvn29 := fun e => Nat.lt_irrefl _ (C21.block w21.heap.size e).2
                have hS29 := hS21.grown hg29 (fun _ _ => by simp)
                generalize hw29 : w21.alloc (.cells #[.int .u64 0, .int .u64 0, .int .u64 0, .int .u64 0, .int .u64 0] 98) = w29 at hg29 C29 hS29 hN29 ⊢
                clear hw29
                refine hK.out _ _ (SM.step hp hHeld (grown_below hg29 (SM.size hHeld) (by simp))) (fun hHeld => ?_)
                clear hK K
                try simp only [Act.put, List.setIfInBounds_toArray, List.set_cons_zero, List.set_cons_succ]
                refine wpAnyH_ready (rs := [6]) (by kernel_rfl) (by simp) ?_
                refine consL rfl (fun K hK => ?_) AllReadyH.nil
                · rw [if_pos (by rfl)]
                  refine wpo_append_at (.tmp 31) (.tmp 32) rfl B0 _ _ rfl C29 _ _ _ [1] rfl hS29 (by simp; omega) (SM.size hHeld) ?_
                  intro v30 w30 C30 hg30 hat30
                  have hS30 := hS29.grown hg30 (fun x hx => by cases hx; exact hvs21)
                  have hvs30 : v30.ownBlock ≠ some w1.heap.size := fun e => by rcases hat30 with h | h; exact hvs21 (h.symm.trans e); exact Nat.ne_of_gt (hS29.lt (by decide)) (Option.some.inj (h.symm.trans e))
                  have hN30 := hN29.grown hg30 (fun e => hvn29 e.symm)
                  have hvn30 : v30.ownBlock ≠ some w21.heap.size := fun e => by rcases hat30 with h | h; exact hvn29 (h.symm.trans e); exact Nat.ne_of_gt hN29.lt (Option.some.inj (h.symm.trans e))
                  refine hK.out _ _ (SM.step hp hHeld (grown_below hg30 (SM.size hHeld) (fun k hk => (C29.block k hk).1))) (fun hHeld => ?_)
                  clear hK K
                  try simp only [Act.put, List.setIfInBounds_toArray, List.set_cons_zero, List.set_cons_succ]
                  refine wpAnyH_ready (rs := [7]) (by kernel_rfl) (by simp) ?_
                  refine consL rfl (fun K hK => ?_) AllReadyH.nil
                  · rw [if_pos (by rfl)]
                    obtain ⟨a31, c31, hv31, hr31, _⟩ := C30.rd (by rw [HPL.out]; omega)
                    rw [HPL.out] at hv31 hr31
                    subst hv31
                    go_simp
                    go_at_call 72
                    refine (cOf.out _ _ _ _ hr31).mono ?_
                    rintro e w31 ⟨rfl, hb31⟩
                    have hg31 := below_grown hb31
                    have hN31 := hN30.grown hg31 (by simp)
                    refine hK.out _ _ (SM.step hp hHeld (grown_below hg31 (SM.size hHeld) (by simp))) (fun hHeld => ?_)
                    clear hK K
                    try simp only [Act.put, List.setIfInBounds_toArray, List.set_cons_zero, List.set_cons_succ]
                    refine wpAnyH_ready (rs := [9]) (by kernel_rfl) (by simp) ?_
                    refine consL rfl (fun K hK => ?_) AllReadyH.nil
                    · rw [if_pos (by rfl)]
                      refine wpo_store_arr 98 (.tmp 9) (.tmp 34) rfl _ rfl hN31 rfl HZP.out HSP.out ?_
                      intro w32 hN32 hg32
                      refine hK.out _ _ (SM.step hp hHeld (grown_below hg32 (SM.size hHeld) (fun k hk => (Option.some.inj hk) ▸ hnl29))) (fun hHeld => ?_)
                      clear hK K
                      try simp only [Act.put, List.setIfInBounds_toArray, List.set_cons_zero, List.set_cons_succ]
                      refine wpAnyH_done (by kernel_rfl) ?_ _
                      refine ⟨rfl, ?_⟩
                      repeat apply Exists.intro
                      refine ⟨hHeld, hN32, hnl29, ?_⟩
                      try simp only [Act.put, List.setIfInBounds_toArray, List.set_cons_zero, List.set_cons_succ]
                      rfl
            · rw [if_pos (by rfl)]
              go_simp
              have hg33 := alloc_grown w20 (.cells #[.int .u64 0, .int .u64 0, .int .u64 0, .int .u64 0, .int .u64 0] 98)
              have C33 := C20.kept hg33 (by simp)
              have hN33 : Blk (w20.alloc (.cells #[.int .u64 0, .int .u64 0, .int .u64 0, .int .u64 0, .int .u64 0] 98)) w20.heap.size 98 .u64 [0, 0, 0, 0, 0] := Blk.new _ _ _ _ _ rfl
              have hnl33 := SM.size hHeld
              have hvn33 := fun e => Nat.lt_irrefl _ (C20.block w20.heap.size e).2
              have hS33 := hS20.grown hg33 (fun _ _ => by simp)
              generalize hw33 : w20.alloc (.cells #[.int .u64 0, .int .u64 0, .int .u64 0, .int .u64 0, .int .u64 0] 98) = w33 at hg33 C33 hS33 hN33 ⊢
              clear hw33
              refine hK.out _ _ (SM.step hp hHeld (grown_below hg33 (SM.size hHeld) (by simp))) (fun hHeld => ?_)
              clear hK K
              try simp only [Act.put, List.setIfInBounds_toArray, List.set_cons_zero, List.set_cons_succ]
              refine wpAnyH_ready (rs := [4]) (by kernel_rfl) (by simp) ?_
              refine consL rfl (fun K hK => ?_) AllReadyH.nil
              · rw [if_pos (by rfl)]
                refine wpo_append_at (.tmp 27) (.tmp 30) rfl B0 _ _ rfl C33 _ _ _ (xs.take k) rfl (SM.src hp hHeld hk) (by simp; omega) (SM.size hHeld) ?_
                intro v34 w34 C34 hg34 hat34
                rw [List.nil_append] at C34
                have hS34 := hS33.grown hg34 (fun x hx => by cases hx; exact hvs20)
                have hvs34 : v34.ownBlock ≠ some w1.heap.size := fun e => by rcases hat34 with h | h; exact hvs20 (h.symm.trans e); exact Nat.ne_of_gt (hS33.lt (by decide)) (Option.some.inj (h.symm.trans e))
                have hN34 := hN33.grown hg34 (fun e => hvn33 e.symm)
                have hvn34 : v34.ownBlock ≠ some w20.heap.size := fun e => by rcases hat34 with h | h; exact hvn33 (h.symm.trans e); exact Nat.ne_of_gt hN33.lt (Option.some.inj (h.symm.trans e))
                refine hK.out _ _ (SM.step hp hHeld (grown_below hg34 (SM.size hHeld) (fun k hk => (C33.block k hk).1))) (fun hHeld => ?_)
                clear hK K
                try simp only [Act.put, List.setIfInBounds_toArray, List.set_cons_zero, List.set_cons_succ]
                refine wpAnyH_ready (rs := [6]) (by kernel_rfl) (by simp) ?_
                refine consL rfl (fun K hK => ?_) AllReadyH.nil
                · rw [if_pos (by rfl)]
                  refine wpo_append_at (.tmp 31) (.tmp 32) rfl B0 _ _ rfl C34 _ _ _ [1] rfl hS34 (by simp; omega) (SM.size hHeld) ?_
                  intro v35 w35 C35 hg35 hat35
                  have hS35 := hS34.grown hg35 (fun x hx => by cases hx; exact hvs34)
                  have hvs35 : v35.ownBlock ≠ some w1.heap.size := fun e => by rcases hat35 with h | h; exact hvs34 (h.symm.trans e); exact Nat.ne_of_gt (hS34.lt (by decide)) (Option.some.inj (h.symm.trans e))
                  have hN35 := hN34.grown hg35 (fun e => hvn34 e.symm)
                  have hvn35 : v35.ownBlock ≠ some w20.heap.size := fun e => by rcases hat35 with h | h; exact hvn34 (h.symm.trans e); exact Nat.ne_of_gt hN34.lt (Option.some.inj (h.symm.trans e))
                  refine hK.out _ _ (SM.step hp hHeld (grown_below hg35 (SM.size hHeld) (fun k hk => (C34.block k hk).1))) (fun hHeld => ?_)
                  clear hK K
                  try simp only [Act.put, List.setIfInBounds_toArray, List.set_cons_zero, List.set_cons_succ]
                  refine wpAnyH_ready (rs := [7]) (by kernel_rfl) (by simp) ?_
                  refine consL rfl (fun K hK => ?_) AllReadyH.nil
                  · rw [if_pos (by rfl)]
                    obtain ⟨a36, c36, hv36, hr36, _⟩ := C35.rd (by rw [HPL.out]; omega)
                    rw [HPL.out] at hv36 hr36
                    subst hv36
                    go_simp
                    go_at_call 72
                    refine (cOf.out _ _ _ _ hr36).mono ?_
                    rintro e w36 ⟨rfl, hb36⟩
                    have hg36 := below_grown hb36
                    have hN36 := hN35.grown hg36 (by simp)
                    refine hK.out _ _ (SM.step hp hHeld (grown_below hg36 (SM.size hHeld) (by simp))) (fun hHeld => ?_)
                    clear hK K
                    try simp only [Act.put, List.setIfInBounds_toArray, List.set_cons_zero, List.set_cons_succ]
                    refine wpAnyH_ready (rs := [9]) (by kernel_rfl) (by simp) ?_
                    refine consL rfl (fun K hK => ?_) AllReadyH.nil
                    · rw [if_pos (by rfl)]
                      refine wpo_store_arr 98 (.tmp 9) (.tmp 34) rfl _ rfl hN36 rfl HZP.out HSP.out ?_
                      intro w37 hN37 hg37
                      refine hK.out _ _ (SM.step hp hHeld (grown_below hg37 (SM.size hHeld) (fun k hk => (Option.some.inj hk) ▸ hnl33))) (fun hHeld => ?_)
                      clear hK K
                      try simp only [Act.put, List.setIfInBounds_toArray, List.set_cons_zero, List.set_cons_succ]
                      refine wpAnyH_done (by kernel_rfl) ?_ _
                      refine ⟨rfl, ?_⟩
                      repeat apply Exists.intro
                      refine ⟨hHeld, hN37, hnl33, ?_⟩
                      try simp only [Act.put, List.setIfInBounds_toArray, List.set_cons_zero, List.set_cons_succ]
                      rfl
          · rw [if_pos (by rfl)]
            go_simp
            have hg38 := alloc_grown w1 (.cells #[.int .u64 0, .int .u64 0, .int .u64 0, .int .u64 0, .int .u64 0] 98)
            have C38 := C1.kept hg38 (by simp)
            have hN38 : Blk (w1.alloc (.cells #[.int .u64 0, .int .u64 0, .int .u64 0, .int .u64 0, .int .u64 0] 98)) w1.heap.size 98 .u64 [0, 0, 0, 0, 0] := Blk.new _ _ _ _ _ rfl
            have hnl38 := SM.size hHeld
            have hvn38 := fun e => Nat.lt_irrefl _ (C1.block w1.heap.size e).2
            generalize hw38 : w1.alloc (.cells #[.int .u64 0, .int .u64 0, .int .u64 0, .int .u64 0, .int .u64 0] 98) = w38 at hg38 C38 hN38 ⊢
            clear hw38
            refine hK.out _ _ (SM.step hp hHeld (grown_below hg38 (SM.size hHeld) (by simp))) (fun hHeld => ?_)
            clear hK K
            try simp only [Act.put, List.setIfInBounds_toArray, List.set_cons_zero, List.set_cons_succ]
            refine wpAnyH_ready (rs := [4, 5]) (by kernel_rfl) (by simp) ?_
            refine consL rfl (fun K hK => ?_) (consL rfl (fun K hK => ?_) AllReadyH.nil)
            · rw [if_pos (by rfl)]
              refine wpo_append_at (.tmp 27) (.tmp 30) rfl B0 _ _ rfl C38 _ _ _ (xs.take k) rfl (SM.src hp hHeld hk) (by simp; omega) (SM.size hHeld) ?_
              intro v39 w39 C39 hg39 hat39
              rw [List.nil_append] at C39
              have hN39 := hN38.grown hg39 (fun e => hvn38 e.symm)
              have hvn39 : v39.ownBlock ≠ some w1.heap.size := fun e => by rcases hat39 with h | h; exact hvn38 (h.symm.trans e); exact Nat.ne_of_gt hN38.lt (Option.some.inj (h.symm.trans e))
              refine hK.out _ _ (SM.step hp hHeld (grown_below hg39 (SM.size hHeld) (fun k hk => (C38.block k hk).1))) (fun hHeld => ?_)
              clear hK K
              try simp only [Act.put, List.setIfInBounds_toArray, List.set_cons_zero, List.set_cons_succ]
              refine wpAnyH_ready (rs := [5]) (by kernel_rfl) (by simp) ?_
              refine consL rfl (fun K hK => ?_) AllReadyH.nil
              · rw [if_pos (by rfl)]
                go_simp
                have hg40 := alloc_grown w39 (.cells #[.int .u8 1] 5)
                have C40 := C39.kept hg40 (by simp)
                have hS40 : RdB (w39.alloc (.cells #[.int .u8 1] 5)) (some ⟨w39.heap.size, 0, none⟩) 1 1 [1] := rd_new _ _ _ _ _ _ rfl rfl (by decide) (by decide)
                have hvs40 := fun e => Nat.lt_irrefl _ (C39.block w39.heap.size e).2
                have hN40 := hN39.grown hg40 (by simp)
                generalize hw40 : w39.alloc (.cells #[.int .u8 1] 5) = w40 at hg40 C40 hS40 hN40 ⊢
                clear hw40
                refine hK.out _ _ (SM.step hp hHeld (grown_below hg40 (SM.size hHeld) (by simp))) (fun hHeld => ?_)
                clear hK K
                try simp only [Act.put, List.setIfInBounds_toArray, List.set_cons_zero, List.set_cons_succ]
                refine wpAnyH_ready (rs := [6]) (by kernel_rfl) (by simp) ?_
                refine consL rfl (fun K hK => ?_) AllReadyH.nil
                · rw [if_pos (by rfl)]
                  refine wpo_append_at (.tmp 31) (.tmp 32) rfl B0 _ _ rfl C40 _ _ _ [1] rfl hS40 (by simp; omega) (SM.size hHeld) ?_
                  intro v41 w41 C41 hg41 hat41
                  have hS41 := hS40.grown hg41 (fun x hx => by cases hx; exact hvs40)
                  have hvs41 : v41.ownBlock ≠ some w39.heap.size := fun e => by rcases hat41 with h | h; exact hvs40 (h.symm.trans e); exact Nat.ne_of_gt (hS40.lt (by decide)) (Option.some.inj (h.symm.trans e))
                  have hN41 := hN40.grown hg41 (fun e => hvn39 e.symm)
                  have hvn41 : v41.ownBlock ≠ some w1.heap.size := fun e => by rcases hat41 with h | h; exact hvn39 (h.symm.trans e); exact Nat.ne_of_gt hN40.lt (Option.some.inj (h.symm.trans e))
                  refine hK.out _ _ (SM.step hp hHeld (grown_below hg41 (SM.size hHeld) (fun k hk => (C40.block k hk).1))) (fun hHeld => ?_)
                  clear hK K
                  try simp only [Act.put, List.setIfInBounds_toArray, List.set_cons_zero, List.set_cons_succ]
                  refine wpAnyH_ready (rs := [7]) (by kernel_rfl) (by simp) ?_
                  refine consL rfl (fun K hK => ?_) AllReadyH.nil
                  · rw [if_pos (by rfl)]
                    obtain ⟨a42, c42, hv42, hr42, _⟩ := C41.rd (by rw [HPL.out]; omega)
                    rw [HPL.out] at hv42 hr42
                    subst hv42
                    go_simp
                    go_at_call 72
                    refine (cOf.out _ _ _ _ hr42).mono ?_
                    rintro e w42 ⟨rfl, hb42⟩
                    have hg42 := below_grown hb42
                    have hN42 := hN41.grown hg42 (by simp)
                    refine hK.out _ _ (SM.step hp hHeld (grown_below hg42 (SM.size hHeld) (by simp))) (fun hHeld => ?_)
                    clear hK K
                    try simp only [Act.put, List.setIfInBounds_toArray, List.set_cons_zero, List.set_cons_succ]
                    refine wpAnyH_ready (rs := [9]) (by kernel_rfl) (by simp) ?_
                    refine consL rfl (fun K hK => ?_) AllReadyH.nil
                    · rw [if_pos (by rfl)]
                      refine wpo_store_arr 98 (.tmp 9) (.tmp 34) rfl _ rfl hN42 rfl HZP.out HSP.out ?_
                      intro w43 hN43 hg43
                      refine hK.out _ _ (SM.step hp hHeld (grown_below hg43 (SM.size hHeld) (fun k hk => (Option.some.inj hk) ▸ hnl38))) (fun hHeld => ?_)
                      clear hK K
                      try simp only [Act.put, List.setIfInBounds_toArray, List.set_cons_zero, List.set_cons_succ]
                      refine wpAnyH_done (by kernel_rfl) ?_ _
                      refine ⟨rfl, ?_⟩
                      repeat apply Exists.intro
                      refine ⟨hHeld, hN43, hnl38, ?_⟩
                      try simp only [Act.put, List.setIfInBounds_toArray, List.set_cons_zero, List.set_cons_succ]
                      rfl
            · rw [if_pos (by rfl)]
              go_simp
              have hg44 := alloc_grown w38 (.cells #[.int .u8 1] 5)
              have C44 := C38.kept hg44 (by simp)
              have hS44 : RdB (w38.alloc (.cells #[.int .u8 1] 5)) (some ⟨w38.heap.size, 0, none⟩) 1 1 [1] := rd_new _ _ _ _ _ _ rfl rfl (by decide) (by decide)
              have hvs44 := fun e => Nat.lt_irrefl _ (C38.block w38.heap.size e).2
              have hN44 := hN38.grown hg44 (by simp)
              generalize hw44 : w38.alloc (.cells #[.int .u8 1] 5) = w44 at hg44 C44 hS44 hN44 ⊢
              clear hw44
              refine hK.out _ _ (SM.step hp hHeld (grown_below hg44 (SM.size hHeld) (by simp))) (fun hHeld => ?_)
              clear hK K
              try simp only [Act.put, List.setIfInBounds_toArray, List.set_cons_zero, List.set_cons_succ]
              refine wpAnyH_ready (rs := [4]) (by kernel_rfl) (by simp) ?_
              refine consL rfl (fun K hK => ?_) AllReadyH.nil
              · rw [if_pos (by rfl)]
                refine wpo_append_at (.tmp 27) (.tmp 30) rfl B0 _ _ rfl C44 _ _ _ (xs.take k) rfl (SM.src hp hHeld hk) (by simp; omega) (SM.size hHeld) ?_
                intro v45 w45 C45 hg45 hat45
                rw [List.nil_append] at C45
                have hS45 := hS44.grown hg45 (fun x hx => by cases hx; exact hvs44)
                have hvs45 : v45.ownBlock ≠ some w38.heap.size := fun e => by rcases hat45 with h | h; exact hvs44 (h.symm.trans e); exact Nat.ne_of_gt (hS44.lt (by decide)) (Option.some.inj (h.symm.trans e))
                have hN45 := hN44.grown hg45 (fun e => hvn38 e.symm)
                have hvn45 : v45.ownBlock ≠ some w1.heap.size := fun e => by rcases hat45 with h | h; exact hvn38 (h.symm.trans e); exact Nat.ne_of_gt hN44.lt (Option.some.inj (h.symm.trans e))
                refine hK.out _ _ (SM.step hp hHeld (grown_below hg45 (SM.size hHeld) (fun k hk => (C44.block k hk).1))) (fun hHeld => ?_)
                clear hK K
                try simp only [Act.put, List.setIfInBounds_toArray, List.set_cons_zero, List.set_cons_succ]
                refine wpAnyH_ready (rs := [6]) (by kernel_rfl) (by simp) ?_
                refine consL rfl (fun K hK => ?_) AllReadyH.nil
                · rw [if_pos (by rfl)]
                  refine wpo_append_at (.tmp 31) (.tmp 32) rfl B0 _ _ rfl C45 _ _ _ [1] rfl hS45 (by simp; omega) (SM.size hHeld) ?_
                  intro v46 w46 C46 hg46 hat46
                  have hS46 := hS45.grown hg46 (fun x hx => by cases hx; exact hvs45)
                  have hvs46 : v46.ownBlock ≠ some w38.heap.size := fun e => by rcases hat46 with h | h; exact hvs45 (h.symm.trans e); exact Nat.ne_of_gt (hS45.lt (by decide)) (Option.some.inj (h.symm.trans e))
                  have hN46 := hN45.grown hg46 (fun e => hvn45 e.symm)
                  have hvn46 : v46.ownBlock ≠ some w1.heap.size := fun e => by rcases hat46 with h | h; exact hvn45 (h.symm.trans e); exact Nat.ne_of_gt hN45.lt (Option.some.inj (h.symm.trans e))
                  refine hK.out _ _ (SM.step hp hHeld (grown_below hg46 (SM.size hHeld) (fun k hk => (C45.block k hk).1))) (fun hHeld => ?_)
                  clear hK K
                  try simp only [Act.put, List.setIfInBounds_toArray, List.set_cons_zero, List.set_cons_succ]
                  refine wpAnyH_ready (rs := [7]) (by kernel_rfl) (by simp) ?_
                  refine consL rfl (fun K hK => ?_) AllReadyH.nil
                  · rw [if_pos (by rfl)]
                    obtain ⟨a47, c47, hv47, hr47, _⟩ := C46.rd (by rw [HPL.out]; omega)
                    rw [HPL.out] at hv47 hr47
                    subst hv47
                    go_simp
                    go_at_call 72
                    refine (cOf.out _ _ _ _ hr47).mono ?_
                    rintro e w47 ⟨rfl, hb47⟩
                    have hg47 := below_grown hb47
                    have hN47 := hN46.grown hg47 (by simp)
                    refine hK.out _ _ (SM.step hp hHeld (grown_below hg47 (SM.size hHeld) (by simp))) (fun hHeld => ?_)
                    clear hK K
                    try simp only [Act.put, List.setIfInBounds_toArray, List.set_cons_zero, List.set_cons_succ]
                    refine wpAnyH_ready (rs := [9]) (by kernel_rfl) (by simp) ?_
                    refine consL rfl (fun K hK => ?_) AllReadyH.nil
                    · rw [if_pos (by rfl)]
                      refine wpo_store_arr 98 (.tmp 9) (.tmp 34) rfl _ rfl hN47 rfl HZP.out HSP.out ?_
                      intro w48 hN48 hg48
                      refine hK.out _ _ (SM.step hp hHeld (grown_below hg48 (SM.size hHeld) (fun k hk => (Option.some.inj hk) ▸ hnl38))) (fun hHeld => ?_)
                      clear hK K
                      try simp only [Act.put, List.setIfInBounds_toArray, List.set_cons_zero, List.set_cons_succ]
                      refine wpAnyH_done (by kernel_rfl) ?_ _
                      refine ⟨rfl, ?_⟩
                      repeat apply Exists.intro
                      refine ⟨hHeld, hN48, hnl38, ?_⟩
                      try simp only [Act.put, List.setIfInBounds_toArray, List.set_cons_zero, List.set_cons_succ]
                      rfl
        · rw [if_pos (by rfl)]
          go_simp
          have hg49 := alloc_grown wv (.cells #[.int .u8 1] 5)
          have hS49 : RdB (wv.alloc (.cells #[.int .u8 1] 5)) (some ⟨wv.heap.size, 0, none⟩) 1 1 [1] := rd_new _ _ _ _ _ _ rfl rfl (by decide) (by decide)
          generalize hw49 : wv.alloc (.cells #[.int .u8 1] 5) = w49 at hg49 hS49 ⊢
          clear hw49
          refine hK.out _ _ (SM.step hp hHeld (grown_below hg49 (SM.size hHeld) (by simp))) (fun hHeld => ?_)
          clear hK K
          try simp only [Act.put, List.setIfInBounds_toArray, List.set_cons_zero, List.set_cons_succ]
          refine wpAnyH_ready (rs := [0, 8]) (by kernel_rfl) (by simp) ?_
          refine consL rfl (fun K hK => ?_) (consL rfl (fun K hK => ?_) AllReadyH.nil)
          · rw [if_pos (by rfl)]
            refine wpo_make0 (.const (.int .i64 0)) (.const (.int .i64 17)) rfl 17 rfl rfl (by decide) B0 (SM.size hHeld) ?_
            intro w50 C50 hg50
            have hS50 := hS49.grown hg50 (fun _ _ => by simp)
            have hvs50 : (Value.slice (some ⟨w49.heap.size, 0, none⟩) 0 17).ownBlock ≠ some wv.heap.size := fun e => Nat.ne_of_gt (hS49.lt (by decide)) (Option.some.inj e)
            refine hK.out _ _ (SM.step hp hHeld (grown_below hg50 (SM.size hHeld) (by simp))) (fun hHeld => ?_)
            clear hK K
            try simp only [Act.put, List.setIfInBounds_toArray, List.set_cons_zero, List.set_cons_succ]
            refine wpAnyH_ready (rs := [4, 8]) (by kernel_rfl) (by simp) ?_
            refine consL rfl (fun K hK => ?_) (consL rfl (fun K hK => ?_) AllReadyH.nil)
            · rw [if_pos (by rfl)]
              refine wpo_append_at (.tmp 27) (.tmp 30) rfl B0 _ _ rfl C50 _ _ _ (xs.take k) rfl (SM.src hp hHeld hk) (by simp; omega) (SM.size hHeld) ?_
              intro v51 w51 C51 hg51 hat51
              rw [List.nil_append] at C51
              have hS51 := hS50.grown hg51 (fun x hx => by cases hx; exact hvs50)
              have hvs51 : v51.ownBlock ≠ some wv.heap.size := fun e => by rcases hat51 with h | h; exact hvs50 (h.symm.trans e); exact Nat.ne_of_gt (hS50.lt (by decide)) (Option.some.inj (h.symm.trans e))
              refine hK.out _ _ (SM.step hp hHeld (grown_below hg51 (SM.size hHeld) (fun k hk => (C50.block k hk).1))) (fun hHeld => ?_)
              clear hK K
              try simp only [Act.put, List.setIfInBounds_toArray, List.set_cons_zero, List.set_cons_succ]
              refine wpAnyH_ready (rs := [6, 8]) (by kernel_rfl) (by simp) ?_
              refine consL rfl (fun K hK => ?_) (consL rfl (fun K hK => ?_) AllReadyH.nil)
              · rw [if_pos (by rfl)]
                refine wpo_append_at (.tmp 31) (.tmp 32) rfl B0 _ _ rfl C51 _ _ _ [1] rfl hS51 (by simp; omega) (SM.size hHeld) ?_
                intro v52 w52 C52 hg52 hat52
                have hS52 := hS51.grown hg52 (fun x hx => by cases hx; exact hvs51)
                have hvs52 : v52.ownBlock ≠ some wv.heap.size := fun e => by rcases hat52 with h | h; exact hvs51 (h.symm.trans e); exact Nat.ne_of_gt (hS51.lt (by decide)) (Option.some.inj (h.symm.trans e))
                refine hK.out _ _ (SM.step hp hHeld (grown_below hg52 (SM.size hHeld) (fun k hk => (C51.block k hk).1))) (fun hHeld => ?_)
                clear hK K
                try simp only [Act.put, List.setIfInBounds_toArray, List.set_cons_zero, List.set_cons_succ]
                refine wpAnyH_ready (rs := [7, 8]) (by kernel_rfl) (by simp) ?_
                refine consL rfl (fun K hK => ?_) (consL rfl (fun K hK => ?_) AllReadyH.nil)
                · rw [if_pos (by rfl)]
                  obtain ⟨a53, c53, hv53, hr53, _⟩ := C52.rd (by rw [HPL.out]; omega)
                  rw [HPL.out] at hv53 hr53
                  subst hv53
                  go_simp
                  go_at_call 72
                  refine (cOf.out _ _ _ _ hr53).mono ?_
                  rintro e w53 ⟨rfl, hb53⟩
                  have hg53 := below_grown hb53
                  refine hK.out _ _ (SM.step hp hHeld (grown_below hg53 (SM.size hHeld) (by simp))) (fun hHeld => ?_)
                  clear hK K
                  try simp only [Act.put, List.setIfInBounds_toArray, List.set_cons_zero, List.set_cons_succ]
                  refine wpAnyH_ready (rs := [8]) (by kernel_rfl) (by simp) ?_
                  refine consL rfl (fun K hK => ?_) AllReadyH.nil
                  · rw [if_pos (by rfl)]
                    go_simp
                    have hg54 := alloc_grown w53 (.cells #[.int .u64 0, .int .u64 0, .int .u64 0, .int .u64 0, .int .u64 0] 98)
                    have hN54 : Blk (w53.alloc (.cells #[.int .u64 0, .int .u64 0, .int .u64 0, .int .u64 0, .int .u64 0] 98)) w53.heap.size 98 .u64 [0, 0, 0, 0, 0] := Blk.new _ _ _ _ _ rfl
                    have hnl54 := SM.size hHeld
                    generalize hw54 : w53.alloc (.cells #[.int .u64 0, .int .u64 0, .int .u64 0, .int .u64 0, .int .u64 0] 98) = w54 at hg54 hN54 ⊢
                    clear hw54
                    refine hK.out _ _ (SM.step hp hHeld (grown_below hg54 (SM.size hHeld) (by simp))) (fun hHeld => ?_)
                    clear hK K
                    try simp only [Act.put, List.setIfInBounds_toArray, List.set_cons_zero, List.set_cons_succ]
                    refine wpAnyH_ready (rs := [9]) (by kernel_rfl) (by simp) ?_
                    refine consL rfl (fun K hK => ?_) AllReadyH.nil
                    · rw [if_pos (by rfl)]
                      refine wpo_store_arr 98 (.tmp 9) (.tmp 34) rfl _ rfl hN54 rfl HZP.out HSP.out ?_
                      intro w55 hN55 hg55
                      refine hK.out _ _ (SM.step hp hHeld (grown_below hg55 (SM.size hHeld) (fun k hk => (Option.some.inj hk) ▸ hnl54))) (fun hHeld => ?_)
                      clear hK K
                      try simp only [Act.put, List.setIfInBounds_toArray, List.set_cons_zero, List.set_cons_succ]
                      refine wpAnyH_done (by kernel_rfl) ?_ _
                      refine ⟨rfl, ?_⟩
                      repeat apply Exists.intro
                      refine ⟨hHeld, hN55, hnl54, ?_⟩
                      try simp only [Act.put, List.setIfInBounds_toArray, List.set_cons_zero, List.set_cons_succ]
                      rfl
                · rw [if_pos (by rfl)]
                  go_simp
                  have hg56 := alloc_grown w52 (.cells #[.int .u64 0, .int .u64 0, .int .u64 0, .int .u64 0, .int .u64 0] 98)
                  have C56 := C52.kept hg56 (by simp)
                  have hN56 : Blk (w52.alloc (.cells #[.int .u64 0, .int .u64 0, .int .u64 0, .int .u64 0, .int .u64 0] 98)) w52.heap.size 98 .u64 [0, 0, 0, 0, 0] := Blk.new _ _ _ _ _ rfl
                  have hnl56 := SM.size hHeld
                  have hvn56 := fun e => Nat.lt_irrefl _ (C52.block w52.heap.size e).2
                  have hS56 := hS52.grown hg56 (fun _ _ => by simp)
                  generalize hw56 : w52.alloc (.cells #[.int .u64 0, .int .u64 0, .int .u64 0, .int .u64 0, .int .u64 0] 98) = w56 at hg56 C56 hS56 hN56 ⊢
                  clear hw56
                  refine hK.out _ _ (SM.step hp hHeld (grown_below hg56 (SM.size hHeld) (by simp))) (fun hHeld => ?_)
                  clear hK K
                  try simp only [Act.put, List.setIfInBounds_toArray, List.set_cons_zero, List.set_cons_succ]
                  refine wpAnyH_ready (rs := [7]) (by kernel_rfl) (by simp) ?_
                  refine consL rfl (fun K hK => ?_) AllReadyH.nil
                  · rw [if_pos (by rfl)]
                    obtain ⟨a57, c57, hv57, hr57, _⟩ := C56.rd (by rw [HPL.out]; omega)
                    rw [HPL.out] at hv57 hr57
                    subst hv57
                    go_simp
                    go_at_call 72
                    refine (cOf.out _ _ _ _ hr57).mono ?_
                    rintro e w57 ⟨rfl, hb57⟩
                    have hg57 := below_grown hb57
                    have hN57 := hN56.grown hg57 (by simp)
                    refine hK.out _ _ (SM.step hp hHeld (grown_below hg57 (SM.size hHeld) (by simp))) (fun hHeld => ?_)
                    clear hK K
                    try simp only [Act.put, List.setIfInBounds_toArray, List.set_cons_zero, List.set_cons_succ]
                    refine wpAnyH_ready (rs := [9]) (by kernel_rfl) (by simp) ?_
                    refine consL rfl (fun K hK => ?_) AllReadyH.nil
                    · rw [if_pos (by rfl)]
                      refine wpo_store_arr 98 (.tmp 9) (.tmp 34) rfl _ rfl hN57 rfl HZP.out HSP.out ?_
                      intro w58 hN58 hg58
                      refine hK.out _ _ (SM.step hp hHeld (grown_below hg58 (SM.size hHeld) (fun k hk => (Option.some.inj hk) ▸ hnl56))) (fun hHeld => ?_)
                      clear hK K
                      try simp only [Act.put, List.setIfInBounds_toArray, List.set_cons_zero, List.set_cons_succ]
                      refine wpAnyH_done (by kernel_rfl) ?_ _
                      refine ⟨rfl, ?_⟩
                      repeat apply Exists.intro
                      refine ⟨hHeld, hN58, hnl56, ?_⟩
                      try simp only [Act.put, List.setIfInBounds_toArray, List.set_cons_zero, List.set_cons_succ]
                      rfl
              · rw [if_pos (by rfl)]
                go_simp
                have hg59 := alloc_grown w51 (.cells #[.int .u64 0, .int .u64 0, .int .u64 0, .int .u64 0, .int .u64 0] 98)
                have C59 := C51.kept hg59 (by simp)
                have hN59 : Blk (w51.alloc (.cells #[.int .u64 0, .int .u64 0, .int .u64 0, .int .u64 0, .int .u64 0] 98)) w51.heap.size 98 .u64 [0, 0, 0, 0, 0] := Blk.new _ _ _ _ _ rfl
                have hnl59 := SM.size hHeld
                have hvn59 := fun e => Nat.lt_irrefl _ (C51.block w51.heap.size e).2
                have hS59 := hS51.grown hg59 (fun _ _ => by simp)
                generalize hw59 : w51.alloc (.cells #[.int .u64 0, .int .u64 0, .int .u64 0, .int .u64 0, .int .u64 0] 98) = w59 at hg59 C59 hS59 hN59 ⊢
                clear hw59
                refine hK.out _ _ (SM.step hp hHeld (grown_below hg59 (SM.size hHeld) (by simp))) (fun hHeld => ?_)
                clear hK K
                try simp only [Act.put, List.setIfInBounds_toArray, List.set_cons_zero, List.set_cons_succ]
                refine wpAnyH_ready (rs := [6]) (by kernel_rfl) (by simp) ?_
                refine consL rfl (fun K hK => ?_) AllReadyH.nil
                · rw [if_pos (by rfl)]
                  refine wpo_append_at (.tmp 31) (.tmp 32) rfl B0 _ _ rfl C59 _ _ _ [1] rfl hS59 (by simp; omega) (SM.size hHeld) ?_
                  intro v60 w60 C60 hg60 hat60
                  have hS60 := hS59.grown hg60 (fun x hx => by cases hx; exact hvs51)
                  have hvs60 : v60.ownBlock ≠ some wv.heap.size := fun e => by rcases hat60 with h | h; exact hvs51 (h.symm.trans e); exact Nat.ne_of_gt (hS59.lt (by decide)) (Option.some.inj (h.symm.trans e))
                  have hN60 := hN59.grown hg60 (fun e => hvn59 e.symm)
                  have hvn60 : v60.ownBlock ≠ some w51.heap.size := fun e => by rcases hat60 with h | h; exact hvn59 (h.symm.trans e); exact Nat.ne_of_gt hN59.lt (Option.some.inj (h.symm.trans e))
                  refine hK.out _ _ (SM.step hp hHeld (grown_below hg60 (SM.size hHeld) (fun k hk => (C59.block k hk).1))) (fun hHeld => ?_)
                  clear hK K
                  try simp only [Act.put, List.setIfInBounds_toArray, List.set_cons_zero, List.set_cons_succ]
                  refine wpAnyH_ready (rs := [7]) (by kernel_rfl) (by simp) ?_
                  refine consL rfl (fun K hK => ?_) AllReadyH.nil
                  · rw [if_pos (by rfl)]
                    obtain ⟨a61, c61, hv61, hr61, _⟩ := C60.rd (by rw [HPL.out]; omega)
                    rw [HPL.out] at hv61 hr61
                    subst hv61
                    go_simp
                    go_at_call 72
                    refine (cOf.out _ _ _ _ hr61).mono ?_
                    rintro e w61 ⟨rfl, hb61⟩
                    have hg61 := below_grown hb61
                    have hN61 := hN60.grown hg61 (by simp)
                    refine hK.out _ _ (SM.step hp hHeld (grown_below hg61 (SM.size hHeld) (by simp))) (fun hHeld => ?_)
                    clear hK K
                    try simp only [Act.put, List.setIfInBounds_toArray, List.set_cons_zero, List.set_cons_succ]
                    refine wpAnyH_ready (rs := [9]) (by kernel_rfl) (by simp) ?_
                    refine consL rfl (fun K hK => ?_) AllReadyH.nil
                    · rw [if_pos (by rfl)]
                      refine wpo_store_arr 98 (.tmp 9) (.tmp 34) rfl _ rfl hN61 rfl HZP.out HSP.out ?_
                      intro w62 hN62 hg62
                      refine hK.out _ _ (SM.step hp hHeld (grown_below hg62 (SM.size hHeld) (fun k hk => (Option.some.inj hk) ▸ hnl59))) (fun hHeld => ?_)
                      clear hK K
                      try simp only [Act.put, List.setIfInBounds_toArray, List.set_cons_zero, List.set_cons_succ]
                      refine wpAnyH_done (by kernel_rfl) ?_ _
                      refine ⟨rfl, ?_⟩
                      repeat apply Exists.intro
                      refine ⟨hHeld, hN62, hnl59, ?_⟩
                      try simp only [Act.put, List.setIfInBounds_toArray, List.set_cons_zero, List.set_cons_succ]
                      rfl
            · rw [if_pos (by rfl)]
              go_simp
              have hg63 := alloc_grown w50 (.cells #[.int .u64 0, .int .u64 0, .int .u64 0, .int .u64 0, .int .u64 0] 98)
              have C63 := C50.kept hg63 (by simp)
              have hN63 : Blk (w50.alloc (.cells #[.int .u64 0, .int .u64 0, .int .u64 0, .int .u64 0, .int .u64 0] 98)) w50.heap.size 98 .u64 [0, 0, 0, 0, 0] := Blk.new _ _ _ _ _ rfl
              have hnl63 := SM.size hHeld
              have hvn63 := fun e => Nat.lt_irrefl _ (C50.block w50.heap.size e).2
              have hS63 := hS50.grown hg63 (fun _ _ => by simp)
              generalize hw63 : w50.alloc (.cells #[.int .u64 0, .int .u64 0, .int .u64 0, .int .u64 0, .int .u64 0] 98) = w63 at hg63 C63 hS63 hN63 ⊢
              clear hw63
              refine hK.out _ _ (SM.step hp hHeld (grown_below hg63 (SM.size hHeld) (by simp))) (fun hHeld => ?_)
              clear hK K
              try simp only [Act.put, List.setIfInBounds_toArray, List.set_cons_zero, List.set_cons_succ]
              refine wpAnyH_ready (rs := [4]) (by kernel_rfl) (by simp) ?_
              refine consL rfl (fun K hK => ?_) AllReadyH.nil
              · rw [if_pos (by rfl)]
                refine wpo_append_at (.tmp 27) (.tmp 30) rfl B0 _ _ rfl C63 _ _ _ (xs.take k) rfl (SM.src hp hHeld hk) (by simp; omega) (SM.size hHeld) ?_
                intro v64 w64 C64 hg64 hat64
                rw [List.nil_append] at C64
                have hS64 := hS63.grown hg64 (fun x hx => by cases hx; exact hvs50)
                have hvs64 : v64.ownBlock ≠ some wv.heap.size := fun e => by rcases hat64 with h | h; exact hvs50 (h.symm.trans e); exact Nat.ne_of_gt (hS63.lt (by decide)) (Option.some.inj (h.symm.trans e))
                have hN64 := hN63.grown hg64 (fun e => hvn63 e.symm)
                have hvn64 : v64.ownBlock ≠ some w50.heap.size := fun e => by rcases hat64 with h | h; exact hvn63 (h.symm.trans e); exact Nat.ne_of_gt hN63.lt (Option.some.inj (h.symm.trans e))
                refine hK.out _ _ (SM.step hp hHeld (grown_below hg64 (SM.size hHeld) (fun k hk => (C63.block k hk).1))) (fun hHeld => ?_)
                clear hK K
                try simp only [Act.put, List.setIfInBounds_toArray, List.set_cons_zero, List.set_cons_succ]
                refine wpAnyH_ready (rs := [6]) (by kernel_rfl) (by simp) ?_
                refine consL rfl (fun K hK => ?_) AllReadyH.nil
                · rw [if_pos (by rfl)]
                  refine wpo_append_at (.tmp 31) (.tmp 32) rfl B0 _ _ rfl C64 _ _ _ [1] rfl hS64 (by simp; omega) (SM.size hHeld) ?_
                  intro v65 w65 C65 hg65 hat65
                  have hS65 := hS64.grown hg65 (fun x hx => by cases hx; exact hvs64)
                  have hvs65 : v65.ownBlock ≠ some wv.heap.size := fun e => by rcases hat65 with h | h; exact hvs64 (h.symm.trans e); exact Nat.ne_of_gt (hS64.lt (by decide)) (Option.some.inj (h.symm.trans e))
                  have hN65 := hN64.grown hg65 (fun e => hvn64 e.symm)
                  have hvn65 : v65.ownBlock ≠ some w50.heap.size := fun e => by rcases hat65 with h | h; exact hvn64 (h.symm.trans e); exact Nat.ne_of_gt hN64.lt (Option.some.inj (h.symm.trans e))
                  refine hK.out _ _ (SM.step hp hHeld (grown_below hg65 (SM.size hHeld) (fun k hk => (C64.block k hk).1))) (fun hHeld => ?_)
                  clear hK K
                  try simp only [Act.put, List.setIfInBounds_toArray, List.set_cons_zero, List.set_cons_succ]
                  refine wpAnyH_ready (rs := [7]) (by kernel_rfl) (by simp) ?_
                  refine consL rfl (fun K hK => ?_) AllReadyH.nil
                  · rw [if_pos (by rfl)]
                    obtain ⟨a66, c66, hv66, hr66, _⟩ := C65.rd (by rw [HPL.out]; omega)
                    rw [HPL.out] at hv66 hr66
                    subst hv66
                    go_simp
                    go_at_call 72
                    refine (cOf.out _ _ _ _ hr66).mono ?_
                    rintro e w66 ⟨rfl, hb66⟩
                    have hg66 := below_grown hb66
                    have hN66 := hN65.grown hg66 (by simp)
                    refine hK.out _ _ (SM.step hp hHeld (grown_below hg66 (SM.size hHeld) (by simp))) (fun hHeld => ?_)
                    clear hK K
                    try simp only [Act.put, List.setIfInBounds_toArray, List.set_cons_zero, List.set_cons_succ]
                    refine wpAnyH_ready (rs := [9]) (by kernel_rfl) (by simp) ?_
                    refine consL rfl (fun K hK => ?_) AllReadyH.nil
                    · rw [if_pos (by rfl)]
                      refine wpo_store_arr 98 (.tmp 9) (.tmp 34) rfl _ rfl hN66 rfl HZP.out HSP.out ?_
                      intro w67 hN67 hg67
                      refine hK.out _ _ (SM.step hp hHeld (grown_below hg67 (SM.size hHeld) (fun k hk => (Option.some.inj hk) ▸ hnl63))) (fun hHeld => ?_)
                      clear hK K
                      try simp only [Act.put, List.setIfInBounds_toArray, List.set_cons_zero, List.set_cons_succ]
                      refine wpAnyH_done (by kernel_rfl) ?_ _
                      refine ⟨rfl, ?_⟩
                      repeat apply Exists.intro
                      refine ⟨hHeld, hN67, hnl63, ?_⟩
                      try simp only [Act.put, List.setIfInBounds_toArray, List.set_cons_zero, List.set_cons_succ]
                      rfl
          · rw [if_pos (by rfl)]
            go_simp
            have hg68 := alloc_grown w49 (.cells #[.int .u64 0, .int .u64 0, .int .u64 0, .int .u64 0, .int .u64 0] 98)
            have hN68 : Blk (w49.alloc (.cells #[.int .u64 0, .int .u64 0, .int .u64 0, .int .u64 0, .int .u64 0] 98)) w49.heap.size 98 .u64 [0, 0, 0, 0, 0] := Blk.new _ _ _ _ _ rfl
            have hnl68 := SM.size hHeld
            have hS68 := hS49.grown hg68 (fun _ _ => by simp)
            generalize hw68 : w49.alloc (.cells #[.int .u64 0, .int .u64 0, .int .u64 0, .int .u64 0, .int .u64 0] 98) = w68 at hg68 hS68 hN68 ⊢
            clear hw68
            refine hK.out _ _ (SM.step hp hHeld (grown_below hg68 (SM.size hHeld) (by simp))) (fun hHeld => ?_)
            clear hK K
            try simp only [Act.put, List.setIfInBounds_toArray, List.set_cons_zero, List.set_cons_succ]
            refine wpAnyH_ready (rs := [0]) (by kernel_rfl) (by simp) ?_
            refine consL rfl (fun K hK => ?_) AllReadyH.nil
            · rw [if_pos (by rfl)]
              refine wpo_make0 (.const (.int .i64 0)) (.const (.int .i64 17)) rfl 17 rfl rfl (by decide) B0 (SM.size hHeld) ?_
              intro w69 C69 hg69
              have hS69 := hS68.grown hg69 (fun _ _ => by simp)
              have hvs69 : (Value.slice (some ⟨w68.heap.size, 0, none⟩) 0 17).ownBlock ≠ some wv.heap.size := fun e => Nat.ne_of_gt (hS68.lt (by decide)) (Option.some.inj e)
              have hN69 := hN68.grown hg69 (by simp)
              have hvn69 : (Value.slice (some ⟨w68.heap.size, 0, none⟩) 0 17).ownBlock ≠ some w49.heap.size := fun e => Nat.ne_of_gt hN68.lt (Option.some.inj e)
              refine hK.out _ _ (SM.step hp hHeld (grown_below hg69 (SM.size hHeld) (by simp))) (fun hHeld => ?_)
              clear hK K
              try simp only [Act.put, List.setIfInBounds_toArray, List.set_cons_zero, List.set_cons_succ]
              refine wpAnyH_ready (rs := [4]) (by kernel_rfl) (by simp) ?_
              refine consL rfl (fun K hK => ?_) AllReadyH.nil
              · rw [if_pos (by rfl)]
                refine wpo_append_at (.tmp 27) (.tmp 30) rfl B0 _ _ rfl C69 _ _ _ (xs.take k) rfl (SM.src hp hHeld hk) (by simp; omega) (SM.size hHeld) ?_
                intro v70 w70 C70 hg70 hat70
                rw [List.nil_append] at C70
                have hS70 := hS69.grown hg70 (fun x hx => by cases hx; exact hvs69)
                have hvs70 : v70.ownBlock ≠ some wv.heap.size := fun e => by rcases hat70 with h | h; exact hvs69 (h.symm.trans e); exact Nat.ne_of_gt (hS69.lt (by decide)) (Option.some.inj (h.symm.trans e))
                have hN70 := hN69.grown hg70 (fun e => hvn69 e.symm)
                have hvn70 : v70.ownBlock ≠ some w49.heap.size := fun e => by rcases hat70 with h | h; exact hvn69 (h.symm.trans e); exact Nat.ne_of_gt hN69.lt (Option.some.inj (h.symm.trans e))
                refine hK.out _ _ (SM.step hp hHeld (grown_below hg70 (SM.size hHeld) (fun k hk => (C69.block k hk).1))) (fun hHeld => ?_)
                clear hK K
                try simp only [Act.put, List.setIfInBounds_toArray, List.set_cons_zero, List.set_cons_succ]
                refine wpAnyH_ready (rs := [6]) (by kernel_rfl) (by simp) ?_
                refine consL rfl (fun K hK => ?_) AllReadyH.nil
                · rw [if_pos (by rfl)]
                  refine wpo_append_at (.tmp 31) (.tmp 32) rfl B0 _ _ rfl C70 _ _ _ [1] rfl hS70 (by simp; omega) (SM.size hHeld) ?_
                  intro v71 w71 C71 hg71 hat71
                  have hS71 := hS70.grown hg71 (fun x hx => by cases hx; exact hvs70)
                  have hvs71 : v71.ownBlock ≠ some wv.heap.size := fun e => by rcases hat71 with h | h; exact hvs70 (h.symm.trans e); exact Nat.ne_of_gt (hS70.lt (by decide)) (Option.some.inj (h.symm.trans e))
                  have hN71 := hN70.grown hg71 (fun e => hvn70 e.symm)
                  have hvn71 : v71.ownBlock ≠ some w49.heap.size := fun e => by rcases hat71 with h | h; exact hvn70 (h.symm.trans e); exact Nat.ne_of_gt hN70.lt (Option.some.inj (h.symm.trans e))
                  refine hK.out _ _ (SM.step hp hHeld (grown_below hg71 (SM.size hHeld) (fun k hk => (C70.block k hk).1))) (fun hHeld => ?_)
                  clear hK K
                  try simp only [Act.put, List.setIfInBounds_toArray, List.set_cons_zero, List.set_cons_succ]
                  refine wpAnyH_ready (rs := [7]) (by kernel_rfl) (by simp) ?_
                  refine consL rfl (fun K hK => ?_) AllReadyH.nil
                  · rw [if_pos (by rfl)]
                    obtain ⟨a72, c72, hv72, hr72, _⟩ := C71.rd (by rw [HPL.out]; omega)
                    rw [HPL.out] at hv72 hr72
                    subst hv72
                    go_simp
                    go_at_call 72
                    refine (cOf.out _ _ _ _ hr72).mono ?_
                    rintro e w72 ⟨rfl, hb72⟩
                    have hg72 := below_grown hb72
                    have hN72 := hN71.grown hg72 (by simp)
                    refine hK.out _ _ (SM.step hp hHeld (grown_below hg72 (SM.size hHeld) (by simp))) (fun hHeld => ?_)
                    clear hK K
                    try simp only [Act.put, List.setIfInBounds_toArray, List.set_cons_zero, List.set_cons_succ]
                    refine wpAnyH_ready (rs := [9]) (by kernel_rfl) (by simp) ?_
                    refine consL rfl (fun K hK => ?_) AllReadyH.nil
                    · rw [if_pos (by rfl)]
                      refine wpo_store_arr 98 (.tmp 9) (.tmp 34) rfl _ rfl hN72 rfl HZP.out HSP.out ?_
                      intro w73 hN73 hg73
                      refine hK.out _ _ (SM.step hp hHeld (grown_below hg73 (SM.size hHeld) (fun k hk => (Option.some.inj hk) ▸ hnl68))) (fun hHeld => ?_)
                      clear hK K
                      try simp only [Act.put, List.setIfInBounds_toArray, List.set_cons_zero, List.set_cons_succ]
                      refine wpAnyH_done (by kernel_rfl) ?_ _
                      refine ⟨rfl, ?_⟩
                      repeat apply Exists.intro
                      refine ⟨hHeld, hN73, hnl68, ?_⟩
                      try simp only [Act.put, List.setIfInBounds_toArray, List.set_cons_zero, List.set_cons_succ]
                      rfl
        · rw [if_pos (by rfl)]
          go_simp
          have hg74 := alloc_grown wv (.cells #[.int .u64 0, .int .u64 0, .int .u64 0, .int .u64 0, .int .u64 0] 98)
          have hN74 : Blk (wv.alloc (.cells #[.int .u64 0, .int .u64 0, .int .u64 0, .int .u64 0, .int .u64 0] 98)) wv.heap.size 98 .u64 [0, 0, 0, 0, 0] := Blk.new _ _ _ _ _ rfl
          have hnl74 := SM.size hHeld
          generalize hw74 : wv.alloc (.cells #[.int .u64 0, .int .u64 0, .int .u64 0, .int .u64 0, .int .u64 0] 98) = w74 at hg74 hN74 ⊢
          clear hw74
          refine hK.out _ _ (SM.step hp hHeld (grown_below hg74 (SM.size hHeld) (by simp))) (fun hHeld => ?_)
          clear hK K
          try simp only [Act.put, List.setIfInBounds_toArray, List.set_cons_zero, List.set_cons_succ]
          refine wpAnyH_ready (rs := [0, 5]) (by kernel_rfl) (by simp) ?_
          refine consL rfl (fun K hK => ?_) (consL rfl (fun K hK => ?_) AllReadyH.nil)
          · rw [if_pos (by rfl)]
            refine wpo_make0 (.const (.int .i64 0)) (.const (.int .i64 17)) rfl 17 rfl rfl (by decide) B0 (SM.size hHeld) ?_
            intro w75 C75 hg75
            have hN75 := hN74.grown hg75 (by simp)
            have hvn75 : (Value.slice (some ⟨w74.heap.size, 0, none⟩) 0 17).ownBlock ≠ some wv.heap.size := fun e => Nat.ne_of_gt hN74.lt (Option.some.inj e)
            refine hK.out _ _ (SM.step hp hHeld (grown_below hg75 (SM.size hHeld) (by simp))) (fun hHeld => ?_)
            clear hK K
            try simp only [Act.put, List.setIfInBounds_toArray, List.set_cons_zero, List.set_cons_succ]
            refine wpAnyH_ready (rs := [4, 5]) (by kernel_rfl) (by simp) ?_
            refine consL rfl (fun K hK => ?_) (consL rfl (fun K hK => ?_) AllReadyH.nil)
            · rw [if_pos (by rfl)]
              refine wpo_append_at (.tmp 27) (.tmp 30) rfl B0 _ _ rfl C75 _ _ _ (xs.take k) rfl (SM.src hp hHeld hk) (by simp; omega) (SM.size hHeld) ?_
              intro v76 w76 C76 hg76 hat76
              rw [List.nil_append] at C76
              have hN76 := hN75.grown hg76 (fun e => hvn75 e.symm)
              have hvn76 : v76.ownBlock ≠ some wv.heap.size := fun e => by rcases hat76 with h | h; exact hvn75 (h.symm.trans e); exact Nat.ne_of_gt hN75.lt (Option.some.inj (h.symm.trans e))
              refine hK.out _ _ (SM.step hp hHeld (grown_below hg76 (SM.size hHeld) (fun k hk => (C75.block k hk).1))) (fun hHeld => ?_)
              clear hK K
              try simp only [Act.put, List.setIfInBounds_toArray, List.set_cons_zero, List.set_cons_succ]
              refine wpAnyH_ready (rs := [5]) (by kernel_rfl) (by simp) ?_
              refine consL rfl (fun K hK => ?_) AllReadyH.nil
              · rw [if_pos (by rfl)]
                go_simp
                have hg77 := alloc_grown w76 (.cells #[.int .u8 1] 5)
                have C77 := C76.kept hg77 (by simp)
                have hS77 : RdB (w76.alloc (.cells #[.int .u8 1] 5)) (some ⟨w76.heap.size, 0, none⟩) 1 1 [1] := rd_new _ _ _ _ _ _ rfl rfl (by decide) (by decide)
                have hvs77 := fun e => Nat.lt_irrefl _ (C76.block w76.heap.size e).2
                have hN77 := hN76.grown hg77 (by simp)
                generalize hw77 : w76.alloc (.cells #[.int .u8 1] 5) = w77 at hg77 C77 hS77 hN77 ⊢
                clear hw77
                refine hK.out _ _ (SM.step hp hHeld (grown_below hg77 (SM.size hHeld) (by simp))) (fun hHeld => ?_)
                clear hK K
                try simp only [Act.put, List.setIfInBounds_toArray, List.set_cons_zero, List.set_cons_succ]
                refine wpAnyH_ready (rs := [6]) (by kernel_rfl) (by simp) ?_
                refine consL rfl (fun K hK => ?_) AllReadyH.nil
                · rw [if_pos (by rfl)]
                  refine wpo_append_at (.tmp 31) (.tmp 32) rfl B0 _ _ rfl C77 _ _ _ [1] rfl hS77 (by simp; omega) (SM.size hHeld) ?_
                  intro v78 w78 C78 hg78 hat78
                  have hS78 := hS77.grown hg78 (fun x hx => by cases hx; exact hvs77)
                  have hvs78 : v78.ownBlock ≠ some w76.heap.size := fun e => by rcases hat78 with h | h; exact hvs77 (h.symm.trans e); exact Nat.ne_of_gt (hS77.lt (by decide)) (Option.some.inj (h.symm.trans e))
                  have hN78 := hN77.grown hg78 (fun e => hvn76 e.symm)
                  have hvn78 : v78.ownBlock ≠ some wv.heap.size := fun e => by rcases hat78 with h | h; exact hvn76 (h.symm.trans e); exact Nat.ne_of_gt hN77.lt (Option.some.inj (h.symm.trans e))
                  refine hK.out _ _ (SM.step hp hHeld (grown_below hg78 (SM.size hHeld) (fun k hk => (C77.block k hk).1))) (fun hHeld => ?_)
                  clear hK K
                  try simp only [Act.put, List.setIfInBounds_toArray, List.set_cons_zero, List.set_cons_succ]
                  refine wpAnyH_ready (rs := [7]) (by kernel_rfl) (by simp) ?_
                  refine consL rfl (fun K hK => ?_) AllReadyH.nil
                  · rw [if_pos (by rfl)]
                    obtain ⟨a79, c79, hv79, hr79, _⟩ := C78.rd (by rw [HPL.out]; omega)
                    rw [HPL.out] at hv79 hr79
                    subst hv79
                    go_simp
                    go_at_call 72
                    refine (cOf.out _ _ _ _ hr79).mono ?_
                    rintro e w79 ⟨rfl, hb79⟩
                    have hg79 := below_grown hb79
                    have hN79 := hN78.grown hg79 (by simp)
                    refine hK.out _ _ (SM.step hp hHeld (grown_below hg79 (SM.size hHeld) (by simp))) (fun hHeld => ?_)
                    clear hK K
                    try simp only [Act.put, List.setIfInBounds_toArray, List.set_cons_zero, List.set_cons_succ]
                    refine wpAnyH_ready (rs := [9]) (by kernel_rfl) (by simp) ?_
                    refine consL rfl (fun K hK => ?_) AllReadyH.nil
                    · rw [if_pos (by rfl)]
                      refine wpo_store_arr 98 (.tmp 9) (.tmp 34) rfl _ rfl hN79 rfl HZP.out HSP.out ?_
                      intro w80 hN80 hg80
                      refine hK.out _ _ (SM.step hp hHeld (grown_below hg80 (SM.size hHeld) (fun k hk => (Option.some.inj hk) ▸ hnl74))) (fun hHeld => ?_)
                      clear hK K
                      try simp only [Act.put, List.setIfInBounds_toArray, List.set_cons_zero, List.set_cons_succ]
                      refine wpAnyH_done (by kernel_rfl) ?_ _
                      refine ⟨rfl, ?_⟩
                      repeat apply Exists.intro
                      refine ⟨hHeld, hN80, hnl74, ?_⟩
                      try simp only [Act.put, List.setIfInBounds_toArray, List.set_cons_zero, List.set_cons_succ]
                      rfl
            · rw [if_pos (by rfl)]
              go_simp
              have hg81 := alloc_grown w75 (.cells #[.int .u8 1] 5)
              have C81 := C75.kept hg81 (by simp)
              have hS81 : RdB (w75.alloc (.cells #[.int .u8 1] 5)) (some ⟨w75.heap.size, 0, none⟩) 1 1 [1] := rd_new _ _ _ _ _ _ rfl rfl (by decide) (by decide)
              have hvs81 := fun e => Nat.lt_irrefl _ (C75.block w75.heap.size e).2
              have hN81 := hN75.grown hg81 (by simp)
              generalize hw81 : w75.alloc (.cells #[.int .u8 1] 5) = w81 at hg81 C81 hS81 hN81 ⊢
              clear hw81
              refine hK.out _ _ (SM.step hp hHeld (grown_below hg81 (SM.size hHeld) (by simp))) (fun hHeld => ?_)
              clear hK K
              try simp only [Act.put, List.setIfInBounds_toArray, List.set_cons_zero, List.set_cons_succ]
              refine wpAnyH_ready (rs := [4]) (by kernel_rfl) (by simp) ?_
              refine consL rfl (fun K hK => ?_) AllReadyH.nil
              · rw [if_pos (by rfl)]
                refine wpo_append_at (.tmp 27) (.tmp 30) rfl B0 _ _ rfl C81 _ _ _ (xs.take k) rfl (SM.src hp hHeld hk) (by simp; omega) (SM.size hHeld) ?_
                intro v82 w82 C82 hg82 hat82
                rw [List.nil_append] at C82
                have hS82 := hS81.grown hg82 (fun x hx => by cases hx; exact hvs81)
                have hvs82 : v82.ownBlock ≠ some w75.heap.size := fun e => by rcases hat82 with h | h; exact hvs81 (h.symm.trans e); exact Nat.ne_of_gt (hS81.lt (by decide)) (Option.some.inj (h.symm.trans e))
                have hN82 := hN81.grown hg82 (fun e => hvn75 e.symm)
                have hvn82 : v82.ownBlock ≠ some wv.heap.size := fun e => by rcases hat82 with h | h; exact hvn75 (h.symm.trans e); exact Nat.ne_of_gt hN81.lt (Option.some.inj (h.symm.trans e))
                refine hK.out _ _ (SM.step hp hHeld (grown_below hg82 (SM.size hHeld) (fun k hk => (C81.block k hk).1))) (fun hHeld => ?_)
                clear hK K
                try simp only [Act.put, List.setIfInBounds_toArray, List.set_cons_zero, List.set_cons_succ]
                refine wpAnyH_ready (rs := [6]) (by kernel_rfl) (by simp) ?_
                refine consL rfl (fun K hK => ?_) AllReadyH.nil
                · rw [if_pos (by rfl)]
                  refine wpo_append_at (.tmp 31) (.tmp 32) rfl B0 _ _ rfl C82 _ _ _ [1] rfl hS82 (by simp; omega) (SM.size hHeld) ?_
                  intro v83 w83 C83 hg83 hat83
                  have hS83 := hS82.grown hg83 (fun x hx => by cases hx; exact hvs82)
                  have hvs83 : v83.ownBlock ≠ some w75.heap.size := fun e => by rcases hat83 with h | h; exact hvs82 (h.symm.trans e); exact Nat.ne_of_gt (hS82.lt (by decide)) (Option.some.inj (h.symm.trans e))
                  have hN83 := hN82.grown hg83 (fun e => hvn82 e.symm)
                  have hvn83 : v83.ownBlock ≠ some wv.heap.size := fun e => by rcases hat83 with h | h; exact hvn82 (h.symm.trans e); exact Nat.ne_of_gt hN82.lt (Option.some.inj (h.symm.trans e))
                  refine hK.out _ _ (SM.step hp hHeld (grown_below hg83 (SM.size hHeld) (fun k hk => (C82.block k hk).1))) (fun hHeld => ?_)
                  clear hK K
                  try simp only [Act.put, List.setIfInBounds_toArray, List.set_cons_zero, List.set_cons_succ]
                  refine wpAnyH_ready (rs := [7]) (by kernel_rfl) (by simp) ?_
                  refine consL rfl (fun K hK => ?_) AllReadyH.nil
                  · rw [if_pos (by rfl)]
                    obtain ⟨a84, c84, hv84, hr84, _⟩ := C83.rd (by rw [HPL.out]; omega)
                    rw [HPL.out] at hv84 hr84
                    subst hv84
                    go_simp
                    go_at_call 72
                    refine (cOf.out _ _ _ _ hr84).mono ?_
                    rintro e w84 ⟨rfl, hb84⟩
                    have hg84 := below_grown hb84
                    have hN84 := hN83.grown hg84 (by simp)
                    refine hK.out _ _ (SM.step hp hHeld (grown_below hg84 (SM.size hHeld) (by simp))) (fun hHeld => ?_)
                    clear hK K
                    try simp only [Act.put, List.setIfInBounds_toArray, List.set_cons_zero, List.set_cons_succ]
                    refine wpAnyH_ready (rs := [9]) (by kernel_rfl) (by simp) ?_
                    refine consL rfl (fun K hK => ?_) AllReadyH.nil
                    · rw [if_pos (by rfl)]
                      refine wpo_store_arr 98 (.tmp 9) (.tmp 34) rfl _ rfl hN84 rfl HZP.out HSP.out ?_
                      intro w85 hN85 hg85
                      refine hK.out _ _ (SM.step hp hHeld (grown_below hg85 (SM.size hHeld) (fun k hk => (Option.some.inj hk) ▸ hnl74))) (fun hHeld => ?_)
                      clear hK K
                      try simp only [Act.put, List.setIfInBounds_toArray, List.set_cons_zero, List.set_cons_succ]
                      refine wpAnyH_done (by kernel_rfl) ?_ _
                      refine ⟨rfl, ?_⟩
                      repeat apply Exists.intro
                      refine ⟨hHeld, hN85, hnl74, ?_⟩
                      try simp only [Act.put, List.setIfInBounds_toArray, List.set_cons_zero, List.set_cons_succ]
                      rfl
          · rw [if_pos (by rfl)]
            go_simp
            have hg86 := alloc_grown w74 (.cells #[.int .u8 1] 5)
            have hS86 : RdB (w74.alloc (.cells #[.int .u8 1] 5)) (some ⟨w74.heap.size, 0, none⟩) 1 1 [1] := rd_new _ _ _ _ _ _ rfl rfl (by decide) (by decide)
            have hN86 := hN74.grown hg86 (by simp)
            generalize hw86 : w74.alloc (.cells #[.int .u8 1] 5) = w86 at hg86 hS86 hN86 ⊢
            clear hw86
            refine hK.out _ _ (SM.step hp hHeld (grown_below hg86 (SM.size hHeld) (by simp))) (fun hHeld => ?_)
            clear hK K
            try simp only [Act.put, List.setIfInBounds_toArray, List.set_cons_zero, List.set_cons_succ]
            refine wpAnyH_ready (rs := [0]) (by kernel_rfl) (by simp) ?_
            refine consL rfl (fun K hK => ?_) AllReadyH.nil
            · rw [if_pos (by rfl)]
              refine wpo_make0 (.const (.int .i64 0)) (.const (.int .i64 17)) rfl 17 rfl rfl (by decide) B0 (SM.size hHeld) ?_
              intro w87 C87 hg87
              have hS87 := hS86.grown hg87 (fun _ _ => by simp)
              have hvs87 : (Value.slice (some ⟨w86.heap.size, 0, none⟩) 0 17).ownBlock ≠ some w74.heap.size := fun e => Nat.ne_of_gt (hS86.lt (by decide)) (Option.some.inj e)
              have hN87 := hN86.grown hg87 (by simp)
              have hvn87 : (Value.slice (some ⟨w86.heap.size, 0, none⟩) 0 17).ownBlock ≠ some wv.heap.size := fun e => Nat.ne_of_gt hN86.lt (Option.some.inj e)
              refine hK.out _ _ (SM.step hp hHeld (grown_below hg87 (SM.size hHeld) (by simp))) (fun hHeld => ?_)
              clear hK K
              try simp only [Act.put, List.setIfInBounds_toArray, List.set_cons_zero, List.set_cons_succ]
              refine wpAnyH_ready (rs := [4]) (by kernel_rfl) (by simp) ?_
              refine consL rfl (fun K hK => ?_) AllReadyH.nil
              · rw [if_pos (by rfl)]
                refine wpo_append_at (.tmp 27) (.tmp 30) rfl B0 _ _ rfl C87 _ _ _ (xs.take k) rfl (SM.src hp hHeld hk) (by simp; omega) (SM.size hHeld) ?_
                intro v88 w88 C88 hg88 hat88
                rw [List.nil_append] at C88
                have hS88 := hS87.grown hg88 (fun x hx => by cases hx; exact hvs87)
                have hvs88 : v88.ownBlock ≠ some w74.heap.size := fun e => by rcases hat88 with h | h; exact hvs87 (h.symm.trans e); exact Nat.ne_of_gt (hS87.lt (by decide)) (Option.some.inj (h.symm.trans e))
                have hN88 := hN87.grown hg88 (fun e => hvn87 e.symm)
                have hvn88 : v88.ownBlock ≠ some wv.heap.size := fun e => by rcases hat88 with h | h; exact hvn87 (h.symm.trans e); exact Nat.ne_of_gt hN87.lt (Option.some.inj (h.symm.trans e))
                refine hK.out _ _ (SM.step hp hHeld (grown_below hg88 (SM.size hHeld) (fun k hk => (C87.block k hk).1))) (fun hHeld => ?_)
                clear hK K
                try simp only [Act.put, List.setIfInBounds_toArray, List.set_cons_zero, List.set_cons_succ]
                refine wpAnyH_ready (rs := [6]) (by kernel_rfl) (by simp) ?_
                refine consL rfl (fun K hK => ?_) AllReadyH.nil
                · rw [if_pos (by rfl)]
                  refine wpo_append_at (.tmp 31) (.tmp 32) rfl B0 _ _ rfl C88 _ _ _ [1] rfl hS88 (by simp; omega) (SM.size hHeld) ?_
                  intro v89 w89 C89 hg89 hat89
                  have hS89 := hS88.grown hg89 (fun x hx => by cases hx; exact hvs88)
                  have hvs89 : v89.ownBlock ≠ some w74.heap.size := fun e => by rcases hat89 with h | h; exact hvs88 (h.symm.trans e); exact Nat.ne_of_gt (hS88.lt (by decide)) (Option.some.inj (h.symm.trans e))
                  have hN89 := hN88.grown hg89 (fun e => hvn88 e.symm)
                  have hvn89 : v89.ownBlock ≠ some wv.heap.size := fun e => by rcases hat89 with h | h; exact hvn88 (h.symm.trans e); exact Nat.ne_of_gt hN88.lt (Option.some.inj (h.symm.trans e))
                  refine hK.out _ _ (SM.step hp hHeld (grown_below hg89 (SM.size hHeld) (fun k hk => (C88.block k hk).1))) (fun hHeld => ?_)
                  clear hK K
                  try simp only [Act.put, List.setIfInBounds_toArray, List.set_cons_zero, List.set_cons_succ]
                  refine wpAnyH_ready (rs := [7]) (by kernel_rfl) (by simp) ?_
                  refine consL rfl (fun K hK => ?_) AllReadyH.nil
                  · rw [if_pos (by rfl)]
                    obtain ⟨a90, c90, hv90, hr90, _⟩ := C89.rd (by rw [HPL.out]; omega)
                    rw [HPL.out] at hv90 hr90
                    subst hv90
                    go_simp
                    go_at_call 72
                    refine (cOf.out _ _ _ _ hr90).mono ?_
                    rintro e w90 ⟨rfl, hb90⟩
                    have hg90 := below_grown hb90
                    have hN90 := hN89.grown hg90 (by simp)
                    refine hK.out _ _ (SM.step hp hHeld (grown_below hg90 (SM.size hHeld) (by simp))) (fun hHeld => ?_)
                    clear hK K
                    try simp only [Act.put, List.setIfInBounds_toArray, List.set_cons_zero, List.set_cons_succ]
                    refine wpAnyH_ready (rs := [9]) (by kernel_rfl) (by simp) ?_
                    refine consL rfl (fun K hK => ?_) AllReadyH.nil
                    · rw [if_pos (by rfl)]
                      refine wpo_store_arr 98 (.tmp 9) (.tmp 34) rfl _ rfl hN90 rfl HZP.out HSP.out ?_
                      intro w91 hN91 hg91
                      refine hK.out _ _ (SM.step hp hHeld (grown_below hg91 (SM.size hHeld) (fun k hk => (Option.some.inj hk) ▸ hnl74))) (fun hHeld => ?_)
                      clear hK K
                      try simp only [Act.put, List.setIfInBounds_toArray, List.set_cons_zero, List.set_cons_succ]
                      refine wpAnyH_done (by kernel_rfl) ?_ _
                      refine ⟨rfl, ?_⟩
                      repeat apply Exists.intro
                      refine ⟨hHeld, hN91, hnl74, ?_⟩
                      try simp only [Act.put, List.setIfInBounds_toArray, List.set_cons_zero, List.set_cons_succ]
                      rfl
      · rintro a1 w3 ⟨v27, v28, v29, v30, v31, v32, v33, v34, N, hSM3, hN, hNlo, rfl⟩
        go_frame
        obtain ⟨_, hK, hO, hRr, hH, hrd, hB⟩ := hSM3
        have hNH : Rb + 1 < N := Nat.lt_of_lt_of_le hp.2.1 hNlo
        obtain ⟨ls, hls⟩ : ∃ ls, ls = limbs (le (xs.take k ++ [1])) := ⟨_, rfl⟩
        rw [← hls] at hN
        have hll : ls.length = 5 := hls ▸ limbs_length _
        have hlb : ∀ j, ls.getD j 0 < 67108864 := hls ▸ limbs_get_lt _
        have HLS := Lib.hid hls
        have hhb : ∀ j, h.getD j 0 < 67108865 := okH_get_lt HOK.out
        have hpx := hp.2.2
        have hpr : ∀ x, a' = some x → x.block ≠ Rb + 1 := fun x hx => by have := hp.2.2 x hx; have := hp.1; omega
        clear hp hSM cOf HZP HSP hls hNlo
        rw [← addU_zero h ls] at hH
        go_wp2_with fail
        obtain ⟨wo, hwo⟩ : ∃ wo : World, wo = w3 := ⟨_, rfl⟩
        rw [← hwo] at hK hO hRr hH hrd hB hN ⊢
        clear hwo
        go_loopw [35] (fun r wr => ∃ j : Nat, j ≤ 5 ∧ r = .int .i64 j ∧ RdB wr a' m cap' xs ∧ Blk wr N 98 .u64 ls ∧ Blk wr (Rb + 1) 98 .u64 (addU h ls j) ∧ Blk wr w.heap.size 35 .u8 key ∧ Blk wr (w.heap.size + 1) 76 .u8 (List.replicate 16 0) ∧ Blk wr Rb 98 .u64 rl ∧ Below w.heap.size w wr) (fun r _ => 5 - (intOf r).toNat)
        case atStart => exact ⟨0, by decide, rfl, hrd, hN, hH, hK, hO, hRr, hB⟩
        case round =>
          clear hrd hN hH hK hO hRr hB
          obtain ⟨j, hj5, rfl, hrd, hN, hH, hK, hO, hRr, hB⟩ := hrel
          by_cases hlt : j < 5
          · have hx := hH.cell j (by rw [addU_length h ls j hok.1 hj5]; exact hlt)
            rw [addU_get h ls j hok.1 hlt] at hx
            have hf := hH.frozen j
            have hy := hN.cell j (by rw [hll]; exact hlt)
            have hset := addU_succ h ls j hok.1 hlt
            have hxl := hhb j
            have hyl := hlb j
            obtain ⟨x, hx0⟩ : ∃ x, x = h.getD j 0 := ⟨_, rfl⟩
            obtain ⟨y, hy0⟩ : ∃ y, y = ls.getD j 0 := ⟨_, rfl⟩
            obtain ⟨z, hz⟩ : ∃ z, z = (x + y) % 18446744073709551616 := ⟨_, rfl⟩
            rw [← hx0, ← hy0, ← hz] at hset
            rw [← hx0] at hx hxl
            rw [← hy0] at hy hyl
            have hs := hH.set j z
            rw [hset] at hs
            have ez : (x : Int) + (y : Int) = (z : Int) := by omega
            clear hx0 hy0 hz hset hlb hhb
            have hd5 : decide ((j : Int) < 5) = true := decide_eq_true (by omega)
            go_wp2_with fail
            go_region
            all_goals (go_wp2_with fail)
            all_goals exact ⟨⟨j + 1, by omega, by go_num, (hrd.setN hpr j _).drewN 1, (hN.drewN 1).other _ _ (by show N ≠ Rb + 1; omega), hs.drewN 1, (hK.drewN 1).other _ _ (by show w.heap.size ≠ Rb + 1; omega), (hO.drewN 1).other _ _ (by show w.heap.size + 1 ≠ Rb + 1; omega), (hRr.drewN 1).other _ _ (by show Rb ≠ Rb + 1; omega), below_drewN (xset hB (by show w.heap.size ≤ Rb + 1; omega) _) 1⟩, by simp [intOf]; omega⟩
          · obtain rfl : j = 5 := by omega
            rw [addU_end h ls hok.1] at hH
            obtain ⟨hh, hhh⟩ : ∃ hh, hh = addL h ls := ⟨_, rfl⟩
            have hok2 : ok5 hh := hhh ▸ ok5_addL h ls
            have hokr : ok5 rl := HRE.out ▸ ok5_limbs _
            rw [← hhh] at hH
            have HHH := Lib.hid hhh
            have cT := Lib.hid (fun W => times_any W hh rl hok2 hokr)
            have hok3 := ok5_times hh rl
            obtain ⟨h2, hh2⟩ : ∃ h2, h2 = times hh rl := ⟨_, rfl⟩
            rw [← hh2] at cT hok3
            have HH2 := Lib.hid hh2
            have uN := Try.underlying98
            have iH : (Try.prog.info? 98).map (·.size) = some (nv .u64 hh).toArray.size := by simp only [List.size_toArray, nv_length]; rw [hok2.1]; kernel_rfl
            have iR : (Try.prog.info? 98).map (·.size) = some (nv .u64 rl).toArray.size := by simp only [List.size_toArray, nv_length]; rw [hokr.1]; kernel_rfl
            have HZ2 := Lib.hid (show (Try.prog.info? 98).map (·.size) = some h2.length by rw [hok3.1]; kernel_rfl)
            have HL2 := Lib.hid (show hh.length = h2.length by rw [hok2.1, hok3.1])
            have hl1 : (k : Int) ≤ (m : Int) := by omega
            have hl2 : m ≤ cap' := hrd.2.2.1
            obtain ⟨i0, hi8⟩ : ∃ i0, Try.prog.info? 5 = some i0 ∧ i0.size = 1 := ⟨_, rfl, by kernel_rfl⟩
            have HM2 : Hid (m - k = len - 16 * (i + 1)) := Lib.hid (by have := HM.out; have := HKK.out; omega)
            have HXD := Lib.hid (part_drop bs i k xs HXS.out (by rw [hrd.2.1]; exact HKK.out))
            have HOK2 : Hid (okH h2 (accN (rOf key) bs (i + 1))) := Lib.hid (by rw [HH2.out, HHH.out, HLS.out, HEP.out, HRE.out, ← HR.out, accN_succ]; exact okH_step _ _ _ _ HOK.out (part_le bs hr.2.2.2.2.1 i) (rOf_lt key hkb))
            clear hhh hh2 hN hok2 hokr hlb hhb
            replace hH := hH.drewN 1
            replace hRr := hRr.drewN 1
            replace hK := hK.drewN 1
            replace hO := hO.drewN 1
            replace hrd := hrd.drewN 1
            replace hB := below_drewN hB 1
            have hd5 : decide (((5 : Nat) : Int) < 5) = false := rfl
            rw [show ((5 : Nat) : Int) = 5 from rfl]
            go_wp2_with fail
            change Blk wr.drew _ _ _ _ at hH
            change Blk wr.drew _ _ _ _ at hRr
            refine wp_region_held_drew (S := fun _ => True) (by kernel_rfl) trivial (fun hHeld => ?_)
            refine takeL (i := 3) (v := ?_) rfl rfl (by kernel_rfl) (by kernel_rfl) (by kernel_rfl) (fun _ _ _ h => h) (Or.inl ⟨by rfl, ?_⟩) (by assumption) ?_
            rotate_left
            · (intro w' _; go_simp; try with_reducible rfl)
            simp only [Act.put, List.setIfInBounds_toArray, List.set_cons_zero, List.set_cons_succ]
            refine takeL (i := 4) (v := ?_) rfl rfl (by kernel_rfl) (by kernel_rfl) (by kernel_rfl) (fun _ _ _ h => h) (Or.inl ⟨by rfl, ?_⟩) (by assumption) ?_
            rotate_left
            · (intro w' _; go_simp; try with_reducible rfl)
            simp only [Act.put, List.setIfInBounds_toArray, List.set_cons_zero, List.set_cons_succ]
            refine takeL (i := 5) (v := (.slice (cutA a' cap' k) (m - k) (cap' - k))) rfl rfl (by kernel_rfl) (by kernel_rfl) (by kernel_rfl) (fun _ _ _ h => h) (yieldsSliceFrom (by rfl) rfl rfl rfl Try.underlying25 hi8.1 hi8.2 hk) (by assumption) ?_
            simp only [Act.put, List.setIfInBounds_toArray, List.set_cons_zero, List.set_cons_succ]
            refine wpAnyH_ready (rs := [0, 1]) (by kernel_rfl) (by simp) ?_
            refine consL rfl (fun K hK => ?_) (consL rfl (fun K hK => ?_) AllReadyH.nil)
            · rw [if_pos (by rfl)]
              refine wp_load_row 98 (.tmp 7) rfl (Rb + 1) rfl 98 (nv .u64 hh).toArray (0, 0) _ hH uN rfl iH ?_
              refine hK.out _ _ trivial (fun hHeld => ?_)
              clear hK K
              try simp only [Act.put, List.setIfInBounds_toArray, List.set_cons_zero, List.set_cons_succ]
              refine wpAnyH_ready (rs := [1]) (by kernel_rfl) (by simp) ?_
              refine consL rfl (fun K hK => ?_) AllReadyH.nil
              rw [if_pos (by rfl)]
              refine wp_load_row 98 (.tmp 6) rfl Rb rfl 98 (nv .u64 rl).toArray (0, 0) _ hRr uN rfl iR ?_
              refine hK.out _ _ trivial (fun hHeld => ?_)
              clear hK K
              try simp only [Act.put, List.setIfInBounds_toArray, List.set_cons_zero, List.set_cons_succ]
              refine wpAnyH_ready (rs := [2]) (by kernel_rfl) (by simp) ?_
              refine consL rfl (fun K hK => ?_) AllReadyH.nil
              rw [if_pos (by rfl)]
              go_simp
              go_at_call 73
              refine (cT.out _).mono ?_
              rintro e w5 ⟨rfl, hb5⟩
              refine hK.out _ _ trivial (fun hHeld => ?_)
              clear hK K
              try simp only [Act.put, List.setIfInBounds_toArray, List.set_cons_zero, List.set_cons_succ]
              refine wpAnyH_ready (rs := [6]) (by kernel_rfl) (by simp) ?_
              refine consL rfl (fun K hK => ?_) AllReadyH.nil
              rw [if_pos (by rfl)]
              refine wpo_store_arr 98 (.tmp 7) (.tmp 49) rfl (Rb + 1) rfl (hH.below hb5) rfl HZ2.out HL2.out ?_
              intro w6 hH6 hg6
              refine hK.out _ _ trivial (fun hHeld => ?_)
              clear hK K
              try simp only [Act.put, List.setIfInBounds_toArray, List.set_cons_zero, List.set_cons_succ]
              refine takeL (i := 7) (v := ?_) rfl rfl (by kernel_rfl) (by kernel_rfl) (by kernel_rfl) (fun _ _ _ h => h) (Or.inl ⟨by rfl, ?_⟩) (by assumption) ?_
              rotate_left
              · (intro w' _; go_simp; try with_reducible rfl)
              simp only [Act.put, List.setIfInBounds_toArray, List.set_cons_zero, List.set_cons_succ]
              refine wpAnyH_done (by kernel_rfl) ?_ _
              go_wp2_with fail
              exact ⟨⟨i + 1, m - k, cutA a' cap' k, cap' - k, h2, hip2, HM2, rfl, fun x hx _ => cutA_lt hpx x hx, HOK2, hok3, by rw [← HXD.out]; exact ((hrd.below hb5).grown hg6 (fun x hx e => hpr x hx (Option.some.inj e).symm)).cut k hk, hH6, (hK.below hb5).grown hg6 (ne_some (by omega)), (hO.below hb5).grown hg6 (ne_some (by omega)), (hRr.below hb5).grown hg6 (ne_some (by omega)), gbelow (xtrans hB hb5) hg6 (by omega)⟩, by show m - k < m; omega⟩
            · rw [if_pos (by rfl)]
              refine wp_load_row 98 (.tmp 6) rfl Rb rfl 98 (nv .u64 rl).toArray (0, 0) _ hRr uN rfl iR ?_
              refine hK.out _ _ trivial (fun hHeld => ?_)
              clear hK K
              try simp only [Act.put, List.setIfInBounds_toArray, List.set_cons_zero, List.set_cons_succ]
              refine wpAnyH_ready (rs := [0]) (by kernel_rfl) (by simp) ?_
              refine consL rfl (fun K hK => ?_) AllReadyH.nil
              rw [if_pos (by rfl)]
              refine wp_load_row 98 (.tmp 7) rfl (Rb + 1) rfl 98 (nv .u64 hh).toArray (0, 0) _ hH uN rfl iH ?_
              refine hK.out _ _ trivial (fun hHeld => ?_)
              clear hK K
              try simp only [Act.put, List.setIfInBounds_toArray, List.set_cons_zero, List.set_cons_succ]
              refine wpAnyH_ready (rs := [2]) (by kernel_rfl) (by simp) ?_
              refine consL rfl (fun K hK => ?_) AllReadyH.nil
              rw [if_pos (by rfl)]
              go_simp
              go_at_call 73
              refine (cT.out _).mono ?_
              rintro e w5 ⟨rfl, hb5⟩
              refine hK.out _ _ trivial (fun hHeld => ?_)
              clear hK K
              try simp only [Act.put, List.setIfInBounds_toArray, List.set_cons_zero, List.set_cons_succ]
              refine wpAnyH_ready (rs := [6]) (by kernel_rfl) (by simp) ?_
              refine consL rfl (fun K hK => ?_) AllReadyH.nil
              rw [if_pos (by rfl)]
              refine wpo_store_arr 98 (.tmp 7) (.tmp 49) rfl (Rb + 1) rfl (hH.below hb5) rfl HZ2.out HL2.out ?_
              intro w6 hH6 hg6
              refine hK.out _ _ trivial (fun hHeld => ?_)
              clear hK K
              try simp only [Act.put, List.setIfInBounds_toArray, List.set_cons_zero, List.set_cons_succ]
              refine takeL (i := 7) (v := ?_) rfl rfl (by kernel_rfl) (by kernel_rfl) (by kernel_rfl) (fun _ _ _ h => h) (Or.inl ⟨by rfl, ?_⟩) (by assumption) ?_
              rotate_left
              · (intro w' _; go_simp; try with_reducible rfl)
              simp only [Act.put, List.setIfInBounds_toArray, List.set_cons_zero, List.set_cons_succ]
              refine wpAnyH_done (by kernel_rfl) ?_ _
              go_wp2_with fail
              exact ⟨⟨i + 1, m - k, cutA a' cap' k, cap' - k, h2, hip2, HM2, rfl, fun x hx _ => cutA_lt hpx x hx, HOK2, hok3, by rw [← HXD.out]; exact ((hrd.below hb5).grown hg6 (fun x hx e => hpr x hx (Option.some.inj e).symm)).cut k hk, hH6, (hK.below hb5).grown hg6 (ne_some (by omega)), (hO.below hb5).grown hg6 (ne_some (by omega)), (hRr.below hb5).grown hg6 (ne_some (by omega)), gbelow (xtrans hB hb5) hg6 (by omega)⟩, by show m - k < m; omega⟩
    · obtain rfl : m = 0 := by omega
      have hi : i = parts len := by have := HM.out; unfold parts at *; omega
      have HI := Lib.hid hi
      have hlv := least_val h HOK.out.1
      rw [HOK.out.2, Nat.mod_eq_of_lt (accN_lt _ _ _)] at hlv
      obtain ⟨⟨f0, f1, f2, f3, f4, hf, l0, l1, l2, l3, l4⟩, hv⟩ := hlv
      have cL := Lib.hid (fun W => least_any W h hok)
      rw [hf] at hv cL
      obtain ⟨v, hvv⟩ : ∃ v, v = accN (rOf key) bs i := ⟨_, rfl⟩
      rw [← hvv] at hv
      obtain ⟨wl, wh⟩ := words_of f0 f1 f2 f3 f4 l0 l1 l2 l3
      rw [hv] at wl wh
      obtain ⟨s, hs⟩ : ∃ s, s = sOf key := ⟨_, rfl⟩
      have hk16 : (key.drop 16).length = 16 := by rw [List.length_drop, hk]
      have hkb16 : ∀ x ∈ key.drop 16, x < 256 := fun x hx => hkb x (List.mem_of_mem_drop hx)
      obtain ⟨sl, sh⟩ := low_le (key.drop 16) hk16 hkb16
      rw [show le (key.drop 16) = s from hs.symm] at sl sh
      rw [List.drop_drop] at sh
      obtain ⟨fs1, fs2⟩ := fin_sum v s
      obtain ⟨L1, hL1⟩ : ∃ L1, L1 = lowOf v := ⟨_, rfl⟩
      obtain ⟨H1, hH1⟩ : ∃ H1, H1 = highOf v := ⟨_, rfl⟩
      obtain ⟨L2, hL2⟩ : ∃ L2, L2 = lowOf s := ⟨_, rfl⟩
      obtain ⟨H2, hH2⟩ : ∃ H2, H2 = highOf s := ⟨_, rfl⟩
      obtain ⟨A, hA⟩ : ∃ A, A = lowOf (v + s) := ⟨_, rfl⟩
      obtain ⟨Bv, hBv⟩ : ∃ Bv, Bv = highOf (v + s) := ⟨_, rfl⟩
      obtain ⟨c, hc⟩ : ∃ c, c = (L1 + L2) / 18446744073709551616 := ⟨_, rfl⟩
      have bL1 : L1 < 18446744073709551616 := hL1 ▸ lowOf_lt v
      have bL2 : L2 < 18446744073709551616 := hL2 ▸ lowOf_lt s
      have bA : A < 18446744073709551616 := hA ▸ lowOf_lt _
      have bBv : Bv < 18446744073709551616 := hBv ▸ highOf_lt _
      rw [← hL1] at wl fs1 fs2
      rw [← hH1] at wh fs2
      rw [← hL2] at sl fs1 fs2
      rw [← hH2] at sh fs2
      rw [← hA] at fs1
      rw [← hBv, ← hc] at fs2
      have ad1 : ∀ W, (callFunc 75 #[.int .u64 (L1 : Int), .int .u64 (L2 : Int), .int .u64 0]).run Try.prog W = .ok (.value (.tuple #[.int .u64 (A : Int), .int .u64 (c : Int)])) W := fun W => by
        have := add64_run L1 L2 0 (by decide) W
        rw [show ((L1 : Int) + (L2 : Int) + ((0 : Nat) : Int)) % 18446744073709551616 = (A : Int) from by omega, show ((L1 : Int) + (L2 : Int) + ((0 : Nat) : Int)) / 18446744073709551616 = (c : Int) from by omega] at this
        exact this
      have ad2 : ∃ c2 : Int, ∀ W, (callFunc 75 #[.int .u64 (H1 : Int), .int .u64 (H2 : Int), .int .u64 (c : Int)]).run Try.prog W = .ok (.value (.tuple #[.int .u64 (Bv : Int), .int .u64 c2])) W := ⟨_, fun W => by
        have := add64_run H1 H2 c (by omega) W
        rw [show ((H1 : Int) + (H2 : Int) + (c : Int)) % 18446744073709551616 = (Bv : Int) from by omega] at this
        exact this⟩
      obtain ⟨c2, ad2⟩ := ad2
      have HTAG : Hid (tag key bs = outP A Bv 8) := Lib.hid (by rw [hA, hBv, outP_end]; unfold tag; rw [hvv, hs, hi]; unfold acc; rw [hr.2.1])
      have HZL := Lib.hid (show (Try.prog.info? 98).map (·.size) = some [f0, f1, f2, f3, f4].length by kernel_rfl)
      have HZH2 := Lib.hid (show (Try.prog.info? 98).map (·.size) = some h.length by rw [hok.1]; kernel_rfl)
      have HLL := Lib.hid (show h.length = [f0, f1, f2, f3, f4].length by rw [hok.1]; rfl)
      have cW1 := Lib.hid (fun W (hK : Blk W w.heap.size 35 .u8 key) => word_any W w.heap.size 16 16 16 ((key.drop 16).take 8) (by rw [List.length_take, hk16]; rfl) (fun x hx => hkb16 x (List.mem_of_mem_take hx)) (by decide) (by decide) (by decide) (fun i hi => by rw [hK.cell (16 + i) (by omega)]; simp [List.getD_eq_getElem?_getD, List.getElem?_take, hi]))
      have cW2 := Lib.hid (fun W (hK : Blk W w.heap.size 35 .u8 key) => word_any W w.heap.size 24 8 8 (key.drop 24) (by rw [List.length_drop, hk]) (fun x hx => hkb x (List.mem_of_mem_drop hx)) (by decide) (by decide) (by decide) (fun i hi => by rw [hK.cell (24 + i) (by omega)]; simp [List.getD_eq_getElem?_getD]))
      rw [← sl] at cW1
      rw [← sh] at cW2
      have or1 : bits .or .u64 (f0 : Int) ((f1 : Int) * 67108864) = ((f0 + f1 * 67108864 : Nat) : Int) := by
        have := or64 f0 (f1 * 67108864) 26 (by simp only [Nat.reducePow]; omega) (by simp only [Nat.reducePow]; omega) (by omega)
        rw [← this]; rfl
      have or2 : bits .or .u64 ((f0 + f1 * 67108864 : Nat) : Int) ((f2 : Int) * 4503599627370496 % 18446744073709551616) = (L1 : Int) := by
        have := or64 (f0 + f1 * 67108864) (f2 % 4096 * 4503599627370496) 52 (by simp only [Nat.reducePow]; omega) (by simp only [Nat.reducePow]; omega) (by omega)
        rw [show (f2 : Int) * 4503599627370496 % 18446744073709551616 = ((f2 % 4096 * 4503599627370496 : Nat) : Int) from by omega, this, wl]
      have or3 : bits .or .u64 ((f2 : Int) / 4096) ((f3 : Int) * 16384) = ((f2 / 4096 + f3 * 16384 : Nat) : Int) := by
        have := or64 (f2 / 4096) (f3 * 16384) 14 (by simp only [Nat.reducePow]; omega) (by simp only [Nat.reducePow]; omega) (by omega)
        rw [← this]; rfl
      have or4 : bits .or .u64 ((f2 / 4096 + f3 * 16384 : Nat) : Int) ((f4 : Int) * 1099511627776 % 18446744073709551616) = (H1 : Int) := by
        have := or64 (f2 / 4096 + f3 * 16384) (f4 % 16777216 * 1099511627776) 40 (by simp only [Nat.reducePow]; omega) (by simp only [Nat.reducePow]; omega) (by omega)
        rw [show (f4 : Int) * 1099511627776 % 18446744073709551616 = ((f4 % 16777216 * 1099511627776 : Nat) : Int) from by omega, this, wh]
      obtain ⟨q1, hq1⟩ : ∃ q1, q1 = f0 + f1 * 67108864 := ⟨_, rfl⟩
      obtain ⟨q2, hq2⟩ : ∃ q2, q2 = f2 / 4096 + f3 * 16384 := ⟨_, rfl⟩
      rw [← hq1] at or1 or2
      rw [← hq2] at or3 or4
      clear hi hf hv hvv wl wh hs hk16 hkb16 sl sh fs1 fs2 hL1 hH1 hL2 hH2 hA hBv hc hq1 hq2 hrd hRr hpa
      go_wp2_with (first
        | (refine wp_load_arr rfl 98 (.tmp 7) rfl (Rb + 1) rfl hH 5 54 Try.underlying98 HZH2.out ?_)
        | (go_at_call 74; refine (cL.out _).mono ?_; rintro e w5 ⟨rfl, hb5⟩; have hH5 := hH.below hb5; have hK5 := hK.below hb5; have hO5 := hO.below hb5; have hB5 := xtrans hB hb5)
        | (refine wp_store_arr rfl 98 (.tmp 7) (.tmp 54) rfl (Rb + 1) rfl hH5 rfl HZL.out HLL.out ?_; intro w6 hH6 hg6; have hK6 := hK5.grown hg6 (ne_some (by omega)); have hO6 := hO5.grown hg6 (ne_some (by omega)); have hB6 := gbelow hB5 hg6 (by omega))
        | fail)
      clear hH hK hO hB hb5 hH5 hK5 hO5 hB5 hg6
      have c0 : w6.cell? ⟨Rb + 1, 0, none⟩ = some (.int .u64 (f0 : Int)) := hH6.cell 0 (by simp)
      have c1 : w6.cell? ⟨Rb + 1, 1, none⟩ = some (.int .u64 (f1 : Int)) := hH6.cell 1 (by simp)
      have c2' : w6.cell? ⟨Rb + 1, 2, none⟩ = some (.int .u64 (f2 : Int)) := hH6.cell 2 (by simp)
      have c3 : w6.cell? ⟨Rb + 1, 3, none⟩ = some (.int .u64 (f3 : Int)) := hH6.cell 3 (by simp)
      have c4 : w6.cell? ⟨Rb + 1, 4, none⟩ = some (.int .u64 (f4 : Int)) := hH6.cell 4 (by simp)
      go_quiet (fail)
      rw [show IntKind.u64.wrap ((f1 : Int) * 67108864) = (f1 : Int) * 67108864 from by show (f1 : Int) * 67108864 % 18446744073709551616 = _; omega, or1, show IntKind.u64.wrap ((f2 : Int) * 4503599627370496) = (f2 : Int) * 4503599627370496 % 18446744073709551616 from rfl, or2,
        show IntKind.u64.wrap ((f3 : Int) * 16384) = (f3 : Int) * 16384 from by show (f3 : Int) * 16384 % 18446744073709551616 = _; omega, or3, show IntKind.u64.wrap ((f4 : Int) * 1099511627776) = (f4 : Int) * 1099511627776 % 18446744073709551616 from rfl, or4]
      clear or1 or2 or3 or4 c0 c1 c2' c3 c4 l0 l1 l2 l3 l4 HZL HZH2 HLL cL
      replace hK6 := hK6.drewN nq
      replace hO6 := hO6.drewN nq
      replace hB6 := below_drewN hB6 nq
      obtain ⟨w7, hw7⟩ : ∃ w7, w7 = w6.drewN nq := ⟨_, rfl⟩
      rw [← hw7] at hK6 hO6 hB6 ⊢
      clear hw7 hH6 w6
      go_wp2_with (first
        | (go_at_call 76; first | (with_reducible refine (cW1.out _ hK6).mono ?_; rintro e w8 ⟨rfl, rfl⟩; dsimp only) | (with_reducible refine (cW2.out _ hK6).mono ?_; rintro e w8 ⟨rfl, rfl⟩; dsimp only))
        | (rw [ad1])
        | (rw [ad2])
        | fail)
      clear ad1 ad2 cW1 cW2 HM hm0 hip hok HOK HI HRE
      rw [← outP_zero A Bv] at hO6
      go_loopw [91] (fun r wr => ∃ j : Nat, j ≤ 8 ∧ r = .int .i64 j ∧ Blk wr (w.heap.size + 1) 76 .u8 (outP A Bv j) ∧ Below w.heap.size w wr) (fun r _ => 8 - (intOf r).toNat)
      case atStart => exact ⟨0, by decide, rfl, hO6, hB6⟩
      case round =>
        clear hO6 hB6 hK6
        obtain ⟨j, hj, rfl, hO, hB⟩ := hrel
        by_cases hlt : j < 8
        · match j, hlt with
          | 0, _ =>
              have ea : ((A / 256 ^ 0 % 256 : Nat) : Int) = (A : Int) % 256 := by simp only [Nat.reducePow]; omega
              have eb : ((Bv / 256 ^ 0 % 256 : Nat) : Int) = (Bv : Int) % 256 := by simp only [Nat.reducePow]; omega
              have c0 := hO.cell 0 (by rw [outP_length]; decide)
              have c1 := hO.cell (8 + 0) (by rw [outP_length]; decide)
              have f0 := hO.frozen 0
              have f1 := hO.frozen (8 + 0)
              have hs := (hO.set 0 (A / 256 ^ 0 % 256)).set (8 + 0) (Bv / 256 ^ 0 % 256)
              rw [ea, eb, outP_step A Bv 0 _ _ (by decide) rfl rfl] at hs
              simp only [Nat.reduceAdd] at c1 f1 hs
              generalize (outP A Bv 0).getD 0 0 = z0 at c0
              generalize (outP A Bv 0).getD 8 0 = z1 at c1
              clear ea eb hO
              rw [show ((0 : Nat) : Int) = 0 from rfl]
              go_wp2_with fail
              go_region
              all_goals (go_wp2_with fail)
              all_goals exact ⟨⟨1, by omega, rfl, hs.drewN 1, below_drewN (xset (xset hB (by show w.heap.size ≤ w.heap.size + 1; omega) _) (by show w.heap.size ≤ w.heap.size + 1; omega) _) 1⟩, by simp [intOf]⟩
          | 1, _ =>
              have ea : ((A / 256 ^ 1 % 256 : Nat) : Int) = (A : Int) / 256 % 256 := by simp only [Nat.reducePow]; omega
              have eb : ((Bv / 256 ^ 1 % 256 : Nat) : Int) = (Bv : Int) / 256 % 256 := by simp only [Nat.reducePow]; omega
              have c0 := hO.cell 1 (by rw [outP_length]; decide)
              have c1 := hO.cell (8 + 1) (by rw [outP_length]; decide)
              have f0 := hO.frozen 1
              have f1 := hO.frozen (8 + 1)
              have hs := (hO.set 1 (A / 256 ^ 1 % 256)).set (8 + 1) (Bv / 256 ^ 1 % 256)
              rw [ea, eb, outP_step A Bv 1 _ _ (by decide) rfl rfl] at hs
              simp only [Nat.reduceAdd] at c1 f1 hs
              generalize (outP A Bv 1).getD 1 0 = z0 at c0
              generalize (outP A Bv 1).getD 9 0 = z1 at c1
              clear ea eb hO
              rw [show ((1 : Nat) : Int) = 1 from rfl]
              go_wp2_with fail
              go_region
              all_goals (go_wp2_with fail)
              all_goals exact ⟨⟨2, by omega, rfl, hs.drewN 1, below_drewN (xset (xset hB (by show w.heap.size ≤ w.heap.size + 1; omega) _) (by show w.heap.size ≤ w.heap.size + 1; omega) _) 1⟩, by simp [intOf]⟩
          | 2, _ =>
              have ea : ((A / 256 ^ 2 % 256 : Nat) : Int) = (A : Int) / 65536 % 256 := by simp only [Nat.reducePow]; omega
              have eb : ((Bv / 256 ^ 2 % 256 : Nat) : Int) = (Bv : Int) / 65536 % 256 := by simp only [Nat.reducePow]; omega
              have c0 := hO.cell 2 (by rw [outP_length]; decide)
              have c1 := hO.cell (8 + 2) (by rw [outP_length]; decide)
              have f0 := hO.frozen 2
              have f1 := hO.frozen (8 + 2)
              have hs := (hO.set 2 (A / 256 ^ 2 % 256)).set (8 + 2) (Bv / 256 ^ 2 % 256)
              rw [ea, eb, outP_step A Bv 2 _ _ (by decide) rfl rfl] at hs
              simp only [Nat.reduceAdd] at c1 f1 hs
              generalize (outP A Bv 2).getD 2 0 = z0 at c0
              generalize (outP A Bv 2).getD 10 0 = z1 at c1
              clear ea eb hO
              rw [show ((2 : Nat) : Int) = 2 from rfl]
              go_wp2_with fail
              go_region
              all_goals (go_wp2_with fail)
              all_goals exact ⟨⟨3, by omega, rfl, hs.drewN 1, below_drewN (xset (xset hB (by show w.heap.size ≤ w.heap.size + 1; omega) _) (by show w.heap.size ≤ w.heap.size + 1; omega) _) 1⟩, by simp [intOf]⟩
          | 3, _ =>
              have ea : ((A / 256 ^ 3 % 256 : Nat) : Int) = (A : Int) / 16777216 % 256 := by simp only [Nat.reducePow]; omega
              have eb : ((Bv / 256 ^ 3 % 256 : Nat) : Int) = (Bv : Int) / 16777216 % 256 := by simp only [Nat.reducePow]; omega
              have c0 := hO.cell 3 (by rw [outP_length]; decide)
              have c1 := hO.cell (8 + 3) (by rw [outP_length]; decide)
              have f0 := hO.frozen 3
              have f1 := hO.frozen (8 + 3)
              have hs := (hO.set 3 (A / 256 ^ 3 % 256)).set (8 + 3) (Bv / 256 ^ 3 % 256)
              rw [ea, eb, outP_step A Bv 3 _ _ (by decide) rfl rfl] at hs
              simp only [Nat.reduceAdd] at c1 f1 hs
              generalize (outP A Bv 3).getD 3 0 = z0 at c0
              generalize (outP A Bv 3).getD 11 0 = z1 at c1
              clear ea eb hO
              rw [show ((3 : Nat) : Int) = 3 from rfl]
              go_wp2_with fail
              go_region
              all_goals (go_wp2_with fail)
              all_goals exact ⟨⟨4, by omega, rfl, hs.drewN 1, below_drewN (xset (xset hB (by show w.heap.size ≤ w.heap.size + 1; omega) _) (by show w.heap.size ≤ w.heap.size + 1; omega) _) 1⟩, by simp [intOf]⟩
          | 4, _ =>
              have ea : ((A / 256 ^ 4 % 256 : Nat) : Int) = (A : Int) / 4294967296 % 256 := by simp only [Nat.reducePow]; omega
              have eb : ((Bv / 256 ^ 4 % 256 : Nat) : Int) = (Bv : Int) / 4294967296 % 256 := by simp only [Nat.reducePow]; omega
              have c0 := hO.cell 4 (by rw [outP_length]; decide)
              have c1 := hO.cell (8 + 4) (by rw [outP_length]; decide)
              have f0 := hO.frozen 4
              have f1 := hO.frozen (8 + 4)
              have hs := (hO.set 4 (A / 256 ^ 4 % 256)).set (8 + 4) (Bv / 256 ^ 4 % 256)
              rw [ea, eb, outP_step A Bv 4 _ _ (by decide) rfl rfl] at hs
              simp only [Nat.reduceAdd] at c1 f1 hs
              generalize (outP A Bv 4).getD 4 0 = z0 at c0
              generalize (outP A Bv 4).getD 12 0 = z1 at c1
              clear ea eb hO
              rw [show ((4 : Nat) : Int) = 4 from rfl]
              go_wp2_with fail
              go_region
              all_goals (go_wp2_with fail)
              all_goals exact ⟨⟨5, by omega, rfl, hs.drewN 1, below_drewN (xset (xset hB (by show w.heap.size ≤ w.heap.size + 1; omega) _) (by show w.heap.size ≤ w.heap.size + 1; omega) _) 1⟩, by simp [intOf]⟩
          | 5, _ =>
              have ea : ((A / 256 ^ 5 % 256 : Nat) : Int) = (A : Int) / 1099511627776 % 256 := by simp only [Nat.reducePow]; omega
              have eb : ((Bv / 256 ^ 5 % 256 : Nat) : Int) = (Bv : Int) / 1099511627776 % 256 := by simp only [Nat.reducePow]; omega
              have c0 := hO.cell 5 (by rw [outP_length]; decide)
              have c1 := hO.cell (8 + 5) (by rw [outP_length]; decide)
              have f0 := hO.frozen 5
              have f1 := hO.frozen (8 + 5)
              have hs := (hO.set 5 (A / 256 ^ 5 % 256)).set (8 + 5) (Bv / 256 ^ 5 % 256)
              rw [ea, eb, outP_step A Bv 5 _ _ (by decide) rfl rfl] at hs
              simp only [Nat.reduceAdd] at c1 f1 hs
              generalize (outP A Bv 5).getD 5 0 = z0 at c0
              generalize (outP A Bv 5).getD 13 0 = z1 at c1
              clear ea eb hO
              rw [show ((5 : Nat) : Int) = 5 from rfl]
              go_wp2_with fail
              go_region
              all_goals (go_wp2_with fail)
              all_goals exact ⟨⟨6, by omega, rfl, hs.drewN 1, below_drewN (xset (xset hB (by show w.heap.size ≤ w.heap.size + 1; omega) _) (by show w.heap.size ≤ w.heap.size + 1; omega) _) 1⟩, by simp [intOf]⟩
          | 6, _ =>
              have ea : ((A / 256 ^ 6 % 256 : Nat) : Int) = (A : Int) / 281474976710656 % 256 := by simp only [Nat.reducePow]; omega
              have eb : ((Bv / 256 ^ 6 % 256 : Nat) : Int) = (Bv : Int) / 281474976710656 % 256 := by simp only [Nat.reducePow]; omega
              have c0 := hO.cell 6 (by rw [outP_length]; decide)
              have c1 := hO.cell (8 + 6) (by rw [outP_length]; decide)
              have f0 := hO.frozen 6
              have f1 := hO.frozen (8 + 6)
              have hs := (hO.set 6 (A / 256 ^ 6 % 256)).set (8 + 6) (Bv / 256 ^ 6 % 256)
              rw [ea, eb, outP_step A Bv 6 _ _ (by decide) rfl rfl] at hs
              simp only [Nat.reduceAdd] at c1 f1 hs
              generalize (outP A Bv 6).getD 6 0 = z0 at c0
              generalize (outP A Bv 6).getD 14 0 = z1 at c1
              clear ea eb hO
              rw [show ((6 : Nat) : Int) = 6 from rfl]
              go_wp2_with fail
              go_region
              all_goals (go_wp2_with fail)
              all_goals exact ⟨⟨7, by omega, rfl, hs.drewN 1, below_drewN (xset (xset hB (by show w.heap.size ≤ w.heap.size + 1; omega) _) (by show w.heap.size ≤ w.heap.size + 1; omega) _) 1⟩, by simp [intOf]⟩
          | 7, _ =>
              have ea : ((A / 256 ^ 7 % 256 : Nat) : Int) = (A : Int) / 72057594037927936 := by simp only [Nat.reducePow]; omega
              have eb : ((Bv / 256 ^ 7 % 256 : Nat) : Int) = (Bv : Int) / 72057594037927936 := by simp only [Nat.reducePow]; omega
              have c0 := hO.cell 7 (by rw [outP_length]; decide)
              have c1 := hO.cell (8 + 7) (by rw [outP_length]; decide)
              have f0 := hO.frozen 7
              have f1 := hO.frozen (8 + 7)
              have hs := (hO.set 7 (A / 256 ^ 7 % 256)).set (8 + 7) (Bv / 256 ^ 7 % 256)
              rw [ea, eb, outP_step A Bv 7 _ _ (by decide) rfl rfl] at hs
              simp only [Nat.reduceAdd] at c1 f1 hs
              generalize (outP A Bv 7).getD 7 0 = z0 at c0
              generalize (outP A Bv 7).getD 15 0 = z1 at c1
              clear ea eb hO
              rw [show ((7 : Nat) : Int) = 7 from rfl]
              go_wp2_with fail
              go_region
              all_goals (go_wp2_with fail)
              all_goals exact ⟨⟨8, by omega, rfl, hs.drewN 1, below_drewN (xset (xset hB (by show w.heap.size ≤ w.heap.size + 1; omega) _) (by show w.heap.size ≤ w.heap.size + 1; omega) _) 1⟩, by simp [intOf]⟩

        · obtain rfl : j = 8 := by omega
          rw [show ((8 : Nat) : Int) = 8 from rfl]
          obtain ⟨o8, ho8⟩ : ∃ o8, o8 = outP A Bv 8 := ⟨_, rfl⟩
          rw [← ho8] at hO HTAG
          have HZO := Lib.hid (show (Try.prog.info? 76).map (·.size) = some o8.length by rw [ho8, outP_length]; kernel_rfl)
          clear ho8 hj hlt
          go_wp2_with (first
            | (refine wp_load_arr rfl 76 (.tmp 4) rfl (w.heap.size + 1) rfl hO 16 5 Try.underlying76 HZO.out ?_)
            | (refine wp_store_arr rfl 76 (.tmp 4) (.tmp 110) rfl (w.heap.size + 1) rfl hO rfl HZO.out rfl ?_; intro w8 hO8 hg8; have hB8 := gbelow hB hg8 (by show w.heap.size ≤ w.heap.size + 1; omega))
            | fail)
          have HZ3 : Hid ((Try.prog.info? 76).map (·.size) = some (nv .u8 o8).toArray.size) := Lib.hid (by rw [HZO.out]; simp [nv])
          exact bodyPost_ret (results_cell_row rfl _ _ (w.heap.size + 1) 76 (nv .u8 o8).toArray (0, 0) _ rfl hO8 Try.underlying76 rfl HZ3.out) rfl ⟨by rw [HTAG.out]; rfl, hB8⟩

end Go.Proofs.Ytpcppnoomogloaa.Po
