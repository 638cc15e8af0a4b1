/- The document's tag. -/
import Derived.Test.YtpcppnoomogloaaPrWs
import Derived.Test.YtpcppnoomogloaaPla
import Derived.Test.YtpcppnoomogloaaFnd
set_option maxRecDepth 4000
namespace Go.Proofs.Ytpcppnoomogloaa.Po
set_option linter.unusedSimpArgs false
set_option linter.unusedVariables false
open Go.RowKit

theorem at_call {P : Program} {f : FuncId} {args : Array Value} {w : World} {R : Ending → World → Prop} (F : World → Prop) (hF : F w) (h : ∀ W, F W → Calls P f args W R) : Calls P f args w R := h w hF
theorem half_start (key : List Nat) : halfL key 0 = List.replicate 16 0 := fl_zero _ _
theorem s_start (key : List Nat) : sL key 0 = List.replicate 20 0 := fl_zero _ _
theorem r_start (c : List Nat) : rL c 0 = List.replicate 20 0 := fl_zero _ _
theorem n_start (bs : List Nat) (a : Nat) : nL bs a 0 = List.replicate 20 0 := fl_zero _ _
theorem half_succ (key : List Nat) (i : Nat) (h : i < 16) : (halfL key i).set i (key.getD i 0) = halfL key (i + 1) := fl_succ _ _ i (by simpa using h)
theorem s_succ (key : List Nat) (i : Nat) (h : i < 16) : (sL key i).set i (key.getD (16 + i) 0) = sL key (i + 1) := fl_succ _ _ i (by simp; omega)
theorem r_succ (c : List Nat) (i : Nat) (h : i < 16) : (rL c i).set i (c.getD i 0) = rL c (i + 1) := fl_succ _ _ i (by simp; omega)
theorem r_len (c : List Nat) (i : Nat) (h : i ≤ 16) : (rL c i).length = 20 := by unfold rL; rw [fl_length _ _ _ (by simp; omega)]; rfl
theorem n_succ (bs : List Nat) (p k : Nat) (h : k < 16) : (nL bs p k).set k (bs.getD (p + k) 0) = nL bs p (k + 1) := fl_succ _ _ k (by simp; omega)
theorem n_len (bs : List Nat) (p k : Nat) (h : k ≤ 16) : (nL bs p k).length = 20 := by unfold nL; rw [fl_length _ _ _ (by simp; omega)]; rfl
theorem o_start (a b : List Nat) : oL a b 0 = List.replicate 16 0 := fl_zero _ _
theorem o_succ (a b : List Nat) (i : Nat) (h : i < 16) : (oL a b i).set i (addD a b i) = oL a b (i + 1) := fl_succ _ _ i (by simpa using h)
theorem o_len (a b : List Nat) (i : Nat) (h : i ≤ 16) : (oL a b i).length = 16 := by unfold oL; rw [fl_length _ _ _ (by simpa using h)]; rfl
theorem half_len (key : List Nat) (i : Nat) (h : i ≤ 16) : (halfL key i).length = 16 := by unfold halfL; rw [fl_length _ _ _ (by simpa using h)]; rfl
theorem s_len (key : List Nat) (i : Nat) (h : i ≤ 16) : (sL key i).length = 20 := by unfold sL; rw [fl_length _ _ _ (by simp; omega)]; rfl

theorem _root_.Go.Proofs.Ytpcppnoomogloaa.RdB.nought {w w' : World} {a : Option Addr} {c : Nat} {bs : List Nat} (h : RdB w a 0 c bs) : RdB w' a 0 c bs := ⟨h.1, h.2.1, h.2.2.1, h.2.2.2.1, h.2.2.2.2.1, h.2.2.2.2.2.1, .inl rfl⟩
theorem _root_.Go.Proofs.Ytpcppnoomogloaa.RdB.setM {w : World} {a : Option Addr} {n c : Nat} {bs : List Nat} (h : RdB w a n c bs) {B : Nat} (hne : ∀ x, a = some x → 0 < n → x.block ≠ B) (i : Nat) (u : Value) : RdB (w.setCell ⟨B, i, none⟩ u) a n c bs := by
  rcases Nat.eq_zero_or_pos n with rfl | hn
  · exact h.nought
  · exact h.setN (fun x hx => hne x hx hn) i u
theorem _root_.Go.Proofs.Ytpcppnoomogloaa.RdB.grownM {w w' : World} {a : Option Addr} {n c : Nat} {bs : List Nat} {row : Option Nat} (h : RdB w a n c bs) (hg : w.grownBy w' row) (hne : ∀ x, a = some x → 0 < n → row ≠ some x.block) : RdB w' a n c bs := by
  rcases Nat.eq_zero_or_pos n with rfl | hn
  · exact h.nought
  · exact h.grown hg (fun x hx => hne x hx hn)
theorem blocks2 {w : World} {t1 t2 : TypeId} {k1 k2 : IntKind} (a b : List Nat) :
    Blk ((w.alloc (.cells (nv k1 a).toArray t1)).alloc (.cells (nv k2 b).toArray t2)) w.heap.size t1 k1 a ∧ Blk ((w.alloc (.cells (nv k1 a).toArray t1)).alloc (.cells (nv k2 b).toArray t2)) (w.heap.size + 1) t2 k2 b ∧ Below w.heap.size w ((w.alloc (.cells (nv k1 a).toArray t1)).alloc (.cells (nv k2 b).toArray t2)) := by
  have h2 := Blk.new (w.alloc (.cells (nv k1 a).toArray t1)) t2 k2 b _ rfl
  rw [World.size_alloc] at h2
  exact ⟨(Blk.new w t1 k1 a _ rfl).alloc _, h2, xalloc (xnew _ _) _⟩
theorem blocks3 {w : World} {t1 t2 t3 : TypeId} {k1 k2 k3 : IntKind} (a b c : List Nat) :
    Blk (((w.alloc (.cells (nv k1 a).toArray t1)).alloc (.cells (nv k2 b).toArray t2)).alloc (.cells (nv k3 c).toArray t3)) w.heap.size t1 k1 a ∧ Blk (((w.alloc (.cells (nv k1 a).toArray t1)).alloc (.cells (nv k2 b).toArray t2)).alloc (.cells (nv k3 c).toArray t3)) (w.heap.size + 1) t2 k2 b ∧
      Blk (((w.alloc (.cells (nv k1 a).toArray t1)).alloc (.cells (nv k2 b).toArray t2)).alloc (.cells (nv k3 c).toArray t3)) (w.heap.size + 1 + 1) t3 k3 c ∧ Below w.heap.size w (((w.alloc (.cells (nv k1 a).toArray t1)).alloc (.cells (nv k2 b).toArray t2)).alloc (.cells (nv k3 c).toArray t3)) := by
  have h2 := Blk.new (w.alloc (.cells (nv k1 a).toArray t1)) t2 k2 b _ rfl
  rw [World.size_alloc] at h2
  have h3 := Blk.new ((w.alloc (.cells (nv k1 a).toArray t1)).alloc (.cells (nv k2 b).toArray t2)) t3 k3 c _ rfl
  rw [World.size_alloc, World.size_alloc] at h3
  exact ⟨((Blk.new w t1 k1 a _ rfl).alloc _).alloc _, h2.alloc _, h3, xalloc (xalloc (xnew _ _) _) _⟩

set_option maxHeartbeats 4000000 in
theorem rSum_any (w : World) (key : List Nat) (a : Option Addr) (len cap : Nat) (bs : List Nat) (hk : key.length = 32) (hkb : ∀ x ∈ key, x < 256) (hr : RdB w a len cap bs) :
    Calls Try.prog 67 #[.agg (bv key).toArray, .slice a len cap] w fun e w' => e = .returned (.agg (bv (tag key bs)).toArray) ∧ Below w.heap.size w w' := by
  have hbb := hr.2.2.2.2.1
  have HBL := Lib.hid (show bs.length = len from hr.2.1)
  have HR1 := Lib.hid (rL_le key)
  have HS1 := Lib.hid (sL_le key hk)
  have hsd := sL_dg key hkb 16 (by decide)
  have hcb := clamp_lt (key.take 16) (fun x hx => hkb x (List.mem_of_mem_take hx))
  have cC := Lib.hid (fun W => rClamp_any W (key.take 16) (by simp [hk]) (fun x hx => hkb x (List.mem_of_mem_take hx)))
  have hhe := halfL_end key hk
  have hcl := clamp_length (key.take 16)
  obtain ⟨c, hc⟩ : ∃ c, c = clamp (key.take 16) := ⟨_, rfl⟩
  rw [← hc] at cC hcb HR1 hcl
  rw [← hhe] at cC
  clear hc hhe
  go_enter Try.func67, Try.ntmps67
  have HZ16 := Lib.hid (show (Try.prog.info? 76).map (·.size) = some (nv .u8 (List.replicate 16 0)).toArray.size by kernel_rfl)
  have HZ20 := Lib.hid (show (Try.prog.info? 107).map (·.size) = some (nv .i64 (List.replicate 20 0)).toArray.size by kernel_rfl)
  obtain ⟨hK0, hO0, hH0, hB0⟩ := blocks3 (w := w) (t1 := 35) (t2 := 76) (t3 := 76) (k1 := .u8) (k2 := .u8) (k3 := .u8) key (List.replicate 16 0) (List.replicate 16 0)
  go_wp2_with (first
    | (refine wp_build rfl 76 _ rfl (.agg (nv .u8 (List.replicate 16 0)).toArray) (by kernel_rfl) ?_)
    | (refine wp_build rfl 107 _ rfl (.agg (nv .i64 (List.replicate 20 0)).toArray) (by kernel_rfl) ?_)
    | (refine wp_store_arr rfl 76 (.tmp 5) (.tmp 19) rfl (w.heap.size + 1 + 1) rfl hH0 rfl (by kernel_rfl) rfl ?_; intro W hH hg; have hK := hK0.grown hg (ne_some (by omega)); have hO := hO0.grown hg (ne_some (by omega)); have hB := gbelow hB0 hg (by omega); clear hK0 hH0 hO0 hB0 hg)
    | (refine wp_store_new rfl 107 (.tmp 6) (.tmp 20) rfl rfl _ (nv .i64 (List.replicate 20 0)).toArray rfl HZ20.out (by kernel_rfl) (nv_one _ _) ?_)
    | fail)
  -- LOOPS
  obtain ⟨Sb, hSb⟩ : ∃ Sb, Sb = W.heap.size := ⟨_, rfl⟩
  have hL : w.heap.size + 1 + 1 < Sb := by have := hH.lt; omega
  have hS0 := Blk.new W 107 .i64 (List.replicate 20 0) _ rfl
  rw [← hSb] at hS0 ⊢
  refine at_world (fun V => Blk V w.heap.size 35 .u8 key ∧ Blk V (w.heap.size + 1) 76 .u8 (List.replicate 16 0) ∧ Blk V (w.heap.size + 1 + 1) 76 .u8 (halfL key 0) ∧ Blk V Sb 107 .i64 (sL key 0) ∧ RdB V a len cap bs ∧ Below w.heap.size w V)
    ⟨hK.alloc _, hO.alloc _, by rw [half_start]; exact hH.alloc _, by rw [s_start]; exact hS0, hr.below (xalloc hB _), xalloc hB _⟩ ?_
  have hpa : ∀ x, a = some x → 0 < len → x.block < w.heap.size := fun x hx h0 => by subst hx; exact hr.lt h0
  clear hK hO hH hS0 hB hSb W
  rintro W ⟨hK, hO, hH, hS, hrd, hB⟩
  go_loopw [7] (fun r wr => ∃ i : Nat, i ≤ 16 ∧ r = .int .i64 i ∧ Blk wr w.heap.size 35 .u8 key ∧ Blk wr (w.heap.size + 1) 76 .u8 (List.replicate 16 0) ∧ Blk wr (w.heap.size + 1 + 1) 76 .u8 (halfL key i) ∧ Blk wr Sb 107 .i64 (sL key i) ∧ RdB wr a len cap bs ∧ Below w.heap.size w wr) (fun r _ => 16 - (intOf r).toNat)
  case atStart => exact ⟨0, by decide, rfl, hK, hO, hH, hS, hrd, hB⟩
  case round =>
    clear hK hO hH hS hrd hB
    obtain ⟨i, hi, rfl, hK, hO, hH, hS, hrd, hB⟩ := hrel
    by_cases hlt : i < 16
    · have hx := hK.cell i (by omega)
      have hy := hK.cell (16 + i) (by omega)
      have hxl := getD_lt key hkb i
      have hyl := getD_lt key hkb (16 + i)
      have hs1 := half_succ key i hlt
      have hs2 := s_succ key i hlt
      have hl1 := half_len key i hi
      have hl2 := s_len key i hi
      have hc1 := hH.cell i (by omega)
      have hf1 := hH.frozen i
      have hc2 := hS.cell i (by omega)
      have hf2 := hS.frozen i
      obtain ⟨x, hx0⟩ : ∃ x, x = key.getD i 0 := ⟨_, rfl⟩
      obtain ⟨y, hy0⟩ : ∃ y, y = key.getD (16 + i) 0 := ⟨_, rfl⟩
      rw [← hx0] at hx hxl hs1
      rw [← hy0] at hy hyl hs2
      generalize (halfL key i).getD i 0 = z1 at hc1
      generalize (sL key i).getD i 0 = z2 at hc2
      have g1 := (hH.set i x).other ⟨Sb, i, none⟩ (.int .i64 (y : Int)) (by show w.heap.size + 1 + 1 ≠ Sb; omega)
      have g2 := (hS.other ⟨w.heap.size + 1 + 1, i, none⟩ (.int .u8 (x : Int)) (by show Sb ≠ w.heap.size + 1 + 1; omega)).set i y
      rw [hs1] at g1
      rw [hs2] at g2
      clear hx0 hy0 hs1 hs2 hl1 hl2
      have hi32 : (16 : Int) + (i : Int) < 32 := by omega
      have hid : decide ((i : Int) < 16) = true := decide_eq_true (by omega)
      go_wp2_with fail
      exact ⟨⟨i + 1, by omega, by go_num, (hK.other _ _ (by show w.heap.size ≠ w.heap.size + 1 + 1; omega)).other _ _ (by show w.heap.size ≠ Sb; omega), (hO.other _ _ (by show w.heap.size + 1 ≠ w.heap.size + 1 + 1; omega)).other _ _ (by show w.heap.size + 1 ≠ Sb; omega), g1, g2,
        (hrd.setM (fun x hx h0 => by have := hpa x hx h0; omega) i _).setM (fun x hx h0 => by have := hpa x hx h0; omega) i _, xset (xset hB (by show w.heap.size ≤ w.heap.size + 1 + 1; omega) _) (by show w.heap.size ≤ Sb; omega) _⟩, by simp [intOf]; omega⟩
    · obtain rfl : i = 16 := by omega
      rw [show ((16 : Nat) : Int) = 16 from rfl]
      have hl1 := half_len key 16 (by decide)
      obtain ⟨hl, hhl⟩ : ∃ hl, hl = halfL key 16 := ⟨_, rfl⟩
      rw [← hhl] at hH hl1 cC
      obtain ⟨sd, hsdd⟩ : ∃ sd, sd = sL key 16 := ⟨_, rfl⟩
      rw [← hsdd] at hS hsd HS1
      have HZH := Lib.hid (show (Try.prog.info? 76).map (·.size) = some hl.length by rw [hl1]; kernel_rfl)
      have HZC := Lib.hid (show (Try.prog.info? 76).map (·.size) = some (nv .u8 c).toArray.size by simp only [List.size_toArray, nv_length]; rw [hcl]; kernel_rfl)
      have HSC := Lib.hid (show 16 = (nv .u8 c).toArray.size by simp [nv, hcl])
      clear hhl hsdd hl1
      go_wp2_with (first
        | (refine wp_load_arr rfl 76 (.tmp 5) rfl (w.heap.size + 1 + 1) rfl hH 16 5 Try.underlying76 HZH.out ?_)
        | (go_at_call 79; refine (cC.out _).mono ?_; rintro e w1 ⟨rfl, hb1⟩; have hO1 := hO.below hb1; have hS1 := hS.below hb1; have hrd1 := hrd.below hb1; have hB1 := xtrans hB hb1; clear hO hS hrd hB hK hH)
        | (refine wp_build rfl 107 _ rfl (.agg (nv .i64 (List.replicate 20 0)).toArray) (by kernel_rfl) ?_)
        | (refine wp_store_new rfl 76 (.tmp 8) (.tmp 38) rfl rfl _ (nv .u8 c).toArray rfl HZC.out HSC.out (nv_one _ _) ?_)
        | (refine wp_store_arr rfl 107 (.tmp 9) (.tmp 39) rfl (w1.heap.size + 1) rfl (blocks2 (w := w1) (t1 := 76) (t2 := 107) (k1 := .u8) (k2 := .i64) c (List.replicate 20 0)).2.1 rfl (by kernel_rfl) rfl ?_; intro W hR hg)
        | fail)
      have hL2 : Sb < w1.heap.size := hS1.lt
      obtain ⟨hC0, hX0, hB2⟩ := blocks2 (w := w1) (t1 := 76) (t2 := 107) (k1 := .u8) (k2 := .i64) c (List.replicate 20 0)
      obtain ⟨Cb, hCb⟩ : ∃ Cb, Cb = w1.heap.size := ⟨_, rfl⟩
      have gO := ((hO1.alloc _).alloc _).grown hg (ne_some (by omega))
      have gS := ((hS1.alloc _).alloc _).grown hg (ne_some (by omega))
      have gC := hC0.grown hg (ne_some (by omega))
      have grd := (hrd1.below hB2).grownM hg (fun x hx h0 e => by have := hpa x hx h0; have := Option.some.inj e; omega)
      have gB := gbelow (xtrans hB1 hB2) hg (by omega)
      replace hR : Blk W (w1.heap.size + 1) 107 .i64 (rL c 0) := by rw [r_start c]; exact hR
      rw [← hCb] at hL2 hR gC ⊢
      clear hO1 hS1 hrd1 hB1 hC0 hX0 hB2 hg hb1 hCb w1
      go_loopw [10] (fun r wr => ∃ i : Nat, i ≤ 16 ∧ r = .int .i64 i ∧ Blk wr (w.heap.size + 1) 76 .u8 (List.replicate 16 0) ∧ Blk wr Sb 107 .i64 sd ∧ Blk wr Cb 76 .u8 c ∧ Blk wr (Cb + 1) 107 .i64 (rL c i) ∧ RdB wr a len cap bs ∧ Below w.heap.size w wr) (fun r _ => 16 - (intOf r).toNat)
      case atStart => exact ⟨0, by decide, rfl, gO, gS, gC, hR, grd, gB⟩
      case round =>
        clear gO gS gC hR grd gB
        obtain ⟨i, hi, rfl, hO, hS, hC, hR, hrd, hB⟩ := hrel
        by_cases hlt : i < 16
        · have hx := hC.cell i (by omega)
          have hxl := getD_lt c hcb i
          have hs1 := r_succ c i hlt
          have hl1 := r_len c i hi
          have hc1 := hR.cell i (by omega)
          have hf1 := hR.frozen i
          obtain ⟨x, hx0⟩ : ∃ x, x = c.getD i 0 := ⟨_, rfl⟩
          rw [← hx0] at hx hxl hs1
          generalize (rL c i).getD i 0 = z1 at hc1
          have g1 := hR.set i x
          rw [hs1] at g1
          clear hx0 hs1 hl1
          have hid : decide ((i : Int) < 16) = true := decide_eq_true (by omega)
          go_wp2_with fail
          exact ⟨⟨i + 1, by omega, by go_num, hO.other _ _ (by show w.heap.size + 1 ≠ Cb + 1; omega), hS.other _ _ (by show Sb ≠ Cb + 1; omega), hC.other _ _ (by show Cb ≠ Cb + 1; omega), g1, hrd.setM (fun x hx h0 => by have := hpa x hx h0; omega) i _, xset hB (by show w.heap.size ≤ Cb + 1; omega) _⟩, by simp [intOf]; omega⟩
        · obtain rfl : i = 16 := by omega
          rw [show ((16 : Nat) : Int) = 16 from rfl]
          obtain ⟨rd, hrdd⟩ : ∃ rd, rd = rL c 16 := ⟨_, rfl⟩
          rw [← hrdd] at hR
          have hrdg : dg rd := hrdd ▸ rL_dg c hcb 16 (by decide)
          have HRD := Lib.hid (show le rd = rOf key by rw [hrdd]; exact HR1.out)
          clear hrdd hcb hC
          go_wp2_with (first
            | (refine wp_build rfl 107 _ rfl (.agg (nv .i64 (List.replicate 20 0)).toArray) (by kernel_rfl) ?_)
            | (refine wp_store_new rfl 107 (.tmp 11) (.tmp 50) rfl rfl _ (nv .i64 (List.replicate 20 0)).toArray rfl HZ20.out (by kernel_rfl) (nv_one _ _) ?_)
            | fail)
          obtain ⟨Hb, hHb⟩ : ∃ Hb, Hb = wr.heap.size := ⟨_, rfl⟩
          have hL3 : Cb + 1 < Hb := by rw [hHb]; exact hR.lt
          have hH := Blk.new wr 107 .i64 (List.replicate 20 0) _ rfl
          rw [← hHb] at hH ⊢
          refine at_world (fun V => Blk V (w.heap.size + 1) 76 .u8 (List.replicate 16 0) ∧ Blk V Sb 107 .i64 sd ∧ Blk V (Cb + 1) 107 .i64 rd ∧ Blk V Hb 107 .i64 (by_ 20 (accN (rOf key) bs 0)) ∧ RdB V a len cap bs ∧ Below w.heap.size w V)
            ⟨hO.alloc _, hS.alloc _, hR.alloc _, by rw [accN_zero, by_zero20]; exact hH, hrd.below (xnew _ _), xalloc hB _⟩ ?_
          clear hO hS hR hH hrd hB hHb wr
          rintro W ⟨hO, hS, hR, hH, hrd, hB⟩
          go_loopw [12] (fun r wr => ∃ i : Nat, i ≤ parts len ∧ r = .int .i64 ((16 * i : Nat) : Int) ∧ Blk wr (w.heap.size + 1) 76 .u8 (List.replicate 16 0) ∧ Blk wr Sb 107 .i64 sd ∧ Blk wr (Cb + 1) 107 .i64 rd ∧ Blk wr Hb 107 .i64 (by_ 20 (accN (rOf key) bs i)) ∧ RdB wr a len cap bs ∧ Below w.heap.size w wr) (fun r _ => len + 16 - (intOf r).toNat)
          case atStart => exact ⟨0, Nat.zero_le _, rfl, hO, hS, hR, hH, hrd, hB⟩
          case round =>
            clear hO hS hR hH hrd hB
            obtain ⟨i, hip, rfl, hO, hS, hR, hH, hrd, hB⟩ := hrel
            obtain ⟨p, hp⟩ : ∃ p, p = 16 * i := ⟨_, rfl⟩
            rw [← hp]
            by_cases hip2 : i < parts len
            · have hpl : p < len := by rw [parts_lt] at hip2; omega
              have hid : decide ((p : Int) < (len : Int)) = true := decide_eq_true (by omega)
              have HP := Lib.hid hp
              clear hp
              go_wp2_with (first
                | (refine wp_build rfl 107 _ rfl (.agg (nv .i64 (List.replicate 20 0)).toArray) (by kernel_rfl) ?_)
                | (refine wp_store_new rfl 107 (.tmp 13) (.tmp 57) rfl rfl _ (nv .i64 (List.replicate 20 0)).toArray rfl HZ20.out (by kernel_rfl) (nv_one _ _) ?_)
                | fail)
              obtain ⟨Nb, hNb⟩ : ∃ Nb, Nb = wr.heap.size := ⟨_, rfl⟩
              have hL4 : Hb < Nb := by rw [hNb]; exact hH.lt
              have hN := Blk.new wr 107 .i64 (List.replicate 20 0) _ rfl
              rw [← hNb] at hN ⊢
              refine at_world (fun V => Blk V Nb 107 .i64 (nL bs p 0) ∧ Blk V (w.heap.size + 1) 76 .u8 (List.replicate 16 0) ∧ Blk V Sb 107 .i64 sd ∧ Blk V (Cb + 1) 107 .i64 rd ∧ Blk V Hb 107 .i64 (by_ 20 (accN (rOf key) bs i)) ∧ RdB V a len cap bs ∧ Below w.heap.size w V)
                ⟨by rw [n_start]; exact hN, hO.alloc _, hS.alloc _, hR.alloc _, hH.alloc _, hrd.below (xnew _ _), xalloc hB _⟩ ?_
              clear hN hO hS hR hH hrd hB hNb hid wr
              rintro W ⟨hN, hO, hS, hR, hH, hrd, hB⟩
              go_loopw [14] (fun r wr => ∃ k : Nat, k ≤ 16 ∧ p + k ≤ len ∧ r = .int .i64 k ∧ Blk wr Nb 107 .i64 (nL bs p k) ∧ Blk wr (w.heap.size + 1) 76 .u8 (List.replicate 16 0) ∧ Blk wr Sb 107 .i64 sd ∧ Blk wr (Cb + 1) 107 .i64 rd ∧ Blk wr Hb 107 .i64 (by_ 20 (accN (rOf key) bs i)) ∧ RdB wr a len cap bs ∧ Below w.heap.size w wr) (fun r _ => 16 - (intOf r).toNat)
              case atStart => exact ⟨0, by decide, by omega, rfl, hN, hO, hS, hR, hH, hrd, hB⟩
              case round =>
                clear hN hO hS hR hH hrd hB
                obtain ⟨k, hk16, hkl, rfl, hN, hO, hS, hR, hH, hrd, hB⟩ := hrel
                by_cases hlt : k < 16 ∧ p + k < len
                · obtain ⟨hlt, hlt2⟩ := hlt
                  have hrd0 := hrd
                  obtain ⟨_, q1, q2, q3, _, _, k6⟩ := hrd
                  rcases k6 with k6 | ⟨b, off, rfl, hblt, hc⟩
                  · omega
                  have hx := hc (p + k) hlt2
                  have hxl := getD_lt bs hbb (p + k)
                  have hs1 := n_succ bs p k hlt
                  have hl1 := n_len bs p k hk16
                  have hc1 := hN.cell k (by omega)
                  have hf1 := hN.frozen k
                  obtain ⟨x, hx0⟩ : ∃ x, x = bs.getD (p + k) 0 := ⟨_, rfl⟩
                  rw [← hx0] at hx hxl hs1
                  generalize (nL bs p k).getD k 0 = z1 at hc1
                  have g1 := hN.set k x
                  rw [hs1] at g1
                  clear hx0 hs1 hl1 hc
                  have hid1 : decide ((k : Int) < 16) = true := decide_eq_true (by omega)
                  have hid2 : decide ((p : Int) + (k : Int) < (len : Int)) = true := decide_eq_true (by omega)
                  have hi3 : (p : Int) + (k : Int) < (len : Int) := by omega
                  have hi4 : (p : Int) + (k : Int) < (cap : Int) := by omega
                  go_wp2_with fail
                  exact ⟨⟨k + 1, by omega, by omega, by go_num, g1, hO.other _ _ (by show w.heap.size + 1 ≠ Nb; omega), hS.other _ _ (by show Sb ≠ Nb; omega), hR.other _ _ (by show Cb + 1 ≠ Nb; omega), hH.other _ _ (by show Hb ≠ Nb; omega), hrd0.setM (fun x hx h0 => by have := hpa x hx h0; omega) k _, xset hB (by show w.heap.size ≤ Nb; omega) _⟩, by simp [intOf]; omega⟩
                · by_cases hk2 : k < 16
                  · have hid1 : decide ((k : Int) < 16) = true := decide_eq_true (by omega)
                    have hl0 := hrd.1
                    have hl1 : (p : Int) + (k : Int) ≤ 1000000000 := by omega
                    have hp16 : (p : Int) + 16 ≤ 1000000016 := by omega
                    have hid2 : decide ((p : Int) + (k : Int) < (len : Int)) = false := decide_eq_false (by omega)
                    have hk20 : (k : Int) < 20 := by omega
                    have hll := n_len bs p k hk16
                    have hcN := hN.cell k (by omega)
                    have hfN := hN.frozen k
                    have HHL := Lib.hid hlt
                    have HKL := Lib.hid hkl
                    obtain ⟨z1, hz1⟩ : ∃ z1, z1 = (nL bs p k).getD k 0 := ⟨_, rfl⟩
                    rw [← hz1] at hcN
                    clear hz1 hll hlt hkl
                    go_wp2_with fail
                    have hlt := HHL.out
                    have hkl := HKL.out
                    obtain ⟨nl, hnl⟩ : ∃ nl, nl = (nL bs p k).set k 1 := ⟨_, rfl⟩
                    have hne := nL_end bs hbb i k (by rw [HBL.out]; have := HP.out; omega) (by rw [HBL.out]; have := HP.out; omega)
                    rw [← HP.out, ← hnl] at hne
                    obtain ⟨hnd, hnle⟩ := hne
                    have hN2 := hN.set k 1
                    rw [← hnl] at hN2
                    have hfin := acc_step key bs i
                    have hvl := accN_lt (rOf key) bs i
                    obtain ⟨v, hv⟩ : ∃ v, v = accN (rOf key) bs i := ⟨_, rfl⟩
                    rw [← hv] at hvl hfin hH
                    have hPs := PP_small
                    have hhd := dg_by v
                    have hpsm := part_small bs hbb i
                    have c1 := Lib.hid (fun W => add_any W (by_ 20 v) nl hhd hnd (by rw [le_by20 v (by omega)]; exact hvl) (by rw [hnle]; exact hpsm))
                    rw [le_by20 v (by omega), hnle] at c1
                    obtain ⟨t, ht⟩ : ∃ t, t = (v + le (part bs i)) % PP := ⟨_, rfl⟩
                    have htl : t < PP := ht ▸ Nat.mod_lt _ (by rw [PP_eq]; decide)
                    rw [← ht] at c1 hfin
                    have htd := dg_by t
                    have c2 := Lib.hid (fun W => rtimes_any W (by_ 20 t) rd htd hrdg (by rw [le_by20 t (by omega)]; exact htl) (by rw [HRD.out]; exact rOf_small key hkb))
                    rw [le_by20 t (by omega), HRD.out, hfin] at c2
                    obtain ⟨hl, hhl⟩ : ∃ hl, hl = by_ 20 v := ⟨_, rfl⟩
                    obtain ⟨tl, htl2⟩ : ∃ tl, tl = by_ 20 t := ⟨_, rfl⟩
                    have hgd := dg_by (accN (rOf key) bs (i + 1))
                    obtain ⟨gl, hgl⟩ : ∃ gl, gl = by_ 20 (accN (rOf key) bs (i + 1)) := ⟨_, rfl⟩
                    rw [← hhl] at hH c1 hhd
                    rw [← htl2] at c1 c2
                    rw [← hgl] at c2 hgd
                    have HGL := Lib.hid hgl
                    have u20 := Try.underlying107
                    have iH : (Try.prog.info? 107).map (·.size) = some (nv .i64 hl).toArray.size := by simp only [List.size_toArray, nv_length]; rw [hhd.1]; kernel_rfl
                    have iN : (Try.prog.info? 107).map (·.size) = some (nv .i64 nl).toArray.size := by simp only [List.size_toArray, nv_length]; rw [hnd.1]; kernel_rfl
                    have iR : (Try.prog.info? 107).map (·.size) = some (nv .i64 rd).toArray.size := by simp only [List.size_toArray, nv_length]; rw [hrdg.1]; kernel_rfl
                    have HZF := Lib.hid (show (Try.prog.info? 107).map (·.size) = some gl.length by rw [hgd.1]; kernel_rfl)
                    have HLF := Lib.hid (show hl.length = gl.length by rw [hhd.1, hgd.1])
                    have hO := hO.other ⟨Nb, k, none⟩ (.int .i64 1) (by show w.heap.size + 1 ≠ Nb; omega)
                    have hS := hS.other ⟨Nb, k, none⟩ (.int .i64 1) (by show Sb ≠ Nb; omega)
                    have hR := hR.other ⟨Nb, k, none⟩ (.int .i64 1) (by show Cb + 1 ≠ Nb; omega)
                    have hH := hH.other ⟨Nb, k, none⟩ (.int .i64 1) (by show Hb ≠ Nb; omega)
                    have hrd := hrd.setM (B := Nb) (fun x hx h0 => by have := hpa x hx h0; omega) k (.int .i64 1)
                    have hB : Below w.heap.size w (wr.setCell ⟨Nb, k, none⟩ (.int .i64 1)) := xset hB (by show w.heap.size ≤ Nb; omega) _
                    have hpr : ∀ x, a = some x → x.block ≠ Hb := fun x hx => by have := hpa x hx (by omega); omega
                    clear hnl hv hvl hfin hPs hhd hpsm ht htl htd hhl htl2 hgd hgl hnd hnle
                    generalize wr.setCell ⟨Nb, k, none⟩ (.int .i64 1) = wn at hN2 hH hR hO hS hrd hB ⊢
                    have hN := hN2.drewN 1
                    replace hH := hH.drewN 1
                    replace hR := hR.drewN 1
                    replace hO := hO.drewN 1
                    replace hS := hS.drewN 1
                    replace hrd := hrd.drewN 1
                    replace hB := below_drewN hB 1
                    clear hN2 hcN hfN
                    refine wp_region_held_drew (S := fun _ => True) (by kernel_rfl) trivial (fun hHeld => ?_)
                    rw [show wn.drew = wn.drewN 1 from rfl]
                    generalize wn.drewN 1 = wv at hN hH hR hO hS hrd hB hHeld ⊢
                    refine wpAnyH_ready (rs := [0, 1, 3]) (by kernel_rfl) (by simp) ?_
                    refine consL rfl (fun K hK => ?_) (consL rfl (fun K hK => ?_) (consL rfl (fun K hK => ?_) AllReadyH.nil))
                    · rw [if_pos (by rfl)]
                      refine wp_load_row 107 (.tmp 11) rfl Hb rfl 107 (nv .i64 hl).toArray (0, 0) _ hH u20 rfl iH ?_
                      refine hK.out _ _ trivial (fun hHeld => ?_)
                      clear hK K
                      try simp only [Act.put, List.setIfInBounds_toArray, List.set_cons_zero, List.set_cons_succ]
                      refine wpAnyH_ready (rs := [1, 3]) (by kernel_rfl) (by simp) ?_
                      refine consL rfl (fun K hK => ?_) (consL rfl (fun K hK => ?_) AllReadyH.nil)
                      · rw [if_pos (by rfl)]
                        refine wp_load_row 107 (.tmp 13) rfl Nb rfl 107 (nv .i64 nl).toArray (0, 0) _ hN u20 rfl iN ?_
                        refine hK.out _ _ trivial (fun hHeld => ?_)
                        clear hK K
                        try simp only [Act.put, List.setIfInBounds_toArray, List.set_cons_zero, List.set_cons_succ]
                        refine wpAnyH_ready (rs := [2, 3]) (by kernel_rfl) (by simp) ?_
                        refine consL rfl (fun K hK => ?_) (consL rfl (fun K hK => ?_) AllReadyH.nil)
                        · rw [if_pos (by rfl)]
                          go_simp
                          go_at_call 81
                          refine (c1.out _).mono ?_
                          rintro e w3 ⟨rfl, hb3⟩
                          have hH3 := hH.below hb3
                          have hN3 := hN.below hb3
                          have hR3 := hR.below hb3
                          have hO3 := hO.below hb3
                          have hS3 := hS.below hb3
                          have hrd3 := hrd.below hb3
                          have hB3 := xtrans hB hb3
                          clear hH hN hR hO hS hrd hB
                          refine hK.out _ _ trivial (fun hHeld => ?_)
                          clear hK K
                          try simp only [Act.put, List.setIfInBounds_toArray, List.set_cons_zero, List.set_cons_succ]
                          refine wpAnyH_ready (rs := [3]) (by kernel_rfl) (by simp) ?_
                          refine consL rfl (fun K hK => ?_) AllReadyH.nil
                          · rw [if_pos (by rfl)]
                            refine wp_load_row 107 (.tmp 9) rfl (Cb + 1) rfl 107 (nv .i64 rd).toArray (0, 0) _ hR3 u20 rfl iR ?_
                            refine hK.out _ _ trivial (fun hHeld => ?_)
                            clear hK K
                            try simp only [Act.put, List.setIfInBounds_toArray, List.set_cons_zero, List.set_cons_succ]
                            refine wpAnyH_ready (rs := [4]) (by kernel_rfl) (by simp) ?_
                            refine consL rfl (fun K hK => ?_) AllReadyH.nil
                            · rw [if_pos (by rfl)]
                              go_simp
                              go_at_call 80
                              refine (c2.out _).mono ?_
                              rintro e w5 ⟨rfl, hb5⟩
                              have hH5 := hH3.below hb5
                              have hN5 := hN3.below hb5
                              have hR5 := hR3.below hb5
                              have hO5 := hO3.below hb5
                              have hS5 := hS3.below hb5
                              have hrd5 := hrd3.below hb5
                              have hB5 := xtrans hB3 hb5
                              clear hH3 hN3 hR3 hO3 hS3 hrd3 hB3
                              refine hK.out _ _ trivial (fun hHeld => ?_)
                              clear hK K
                              try simp only [Act.put, List.setIfInBounds_toArray, List.set_cons_zero, List.set_cons_succ]
                              refine wpAnyH_ready (rs := [5]) (by kernel_rfl) (by simp) ?_
                              refine consL rfl (fun K hK => ?_) AllReadyH.nil
                              · rw [if_pos (by rfl)]
                                refine wpo_store_arr 107 (.tmp 11) (.tmp 85) rfl Hb rfl hH5 rfl HZF.out HLF.out ?_
                                intro w6 hH6 hg6
                                have hR6 := hR5.grown hg6 (ne_some (by omega))
                                have hO6 := hO5.grown hg6 (ne_some (by omega))
                                have hS6 := hS5.grown hg6 (ne_some (by omega))
                                have hrd6 := hrd5.grown hg6 (fun x hx e => hpr x hx (Option.some.inj e).symm)
                                have hB6 := gbelow hB5 hg6 (by omega)
                                refine hK.out _ _ trivial (fun hHeld => ?_)
                                clear hK K
                                try simp only [Act.put, List.setIfInBounds_toArray, List.set_cons_zero, List.set_cons_succ]
                                refine wpAnyH_done (by kernel_rfl) ?_ _
                                go_wp2_with fail
                                exact ⟨⟨i + 1, hip2, congrArg (Value.int .i64) (by have := HP.out; omega), hO6, hS6, hR6, by rw [← HGL.out]; exact hH6, hrd6, hB6⟩, by simp [intOf]; omega⟩
                        · rw [if_pos (by rfl)]
                          refine wp_load_row 107 (.tmp 9) rfl (Cb + 1) rfl 107 (nv .i64 rd).toArray (0, 0) _ hR u20 rfl iR ?_
                          refine hK.out _ _ trivial (fun hHeld => ?_)
                          clear hK K
                          try simp only [Act.put, List.setIfInBounds_toArray, List.set_cons_zero, List.set_cons_succ]
                          refine wpAnyH_ready (rs := [2]) (by kernel_rfl) (by simp) ?_
                          refine consL rfl (fun K hK => ?_) AllReadyH.nil
                          · rw [if_pos (by rfl)]
                            go_simp
                            go_at_call 81
                            refine (c1.out _).mono ?_
                            rintro e w8 ⟨rfl, hb8⟩
                            have hH8 := hH.below hb8
                            have hN8 := hN.below hb8
                            have hR8 := hR.below hb8
                            have hO8 := hO.below hb8
                            have hS8 := hS.below hb8
                            have hrd8 := hrd.below hb8
                            have hB8 := xtrans hB hb8
                            clear hH hN hR hO hS hrd hB
                            refine hK.out _ _ trivial (fun hHeld => ?_)
                            clear hK K
                            try simp only [Act.put, List.setIfInBounds_toArray, List.set_cons_zero, List.set_cons_succ]
                            refine wpAnyH_ready (rs := [4]) (by kernel_rfl) (by simp) ?_
                            refine consL rfl (fun K hK => ?_) AllReadyH.nil
                            · rw [if_pos (by rfl)]
                              go_simp
                              go_at_call 80
                              refine (c2.out _).mono ?_
                              rintro e w9 ⟨rfl, hb9⟩
                              have hH9 := hH8.below hb9
                              have hN9 := hN8.below hb9
                              have hR9 := hR8.below hb9
                              have hO9 := hO8.below hb9
                              have hS9 := hS8.below hb9
                              have hrd9 := hrd8.below hb9
                              have hB9 := xtrans hB8 hb9
                              clear hH8 hN8 hR8 hO8 hS8 hrd8 hB8
                              refine hK.out _ _ trivial (fun hHeld => ?_)
                              clear hK K
                              try simp only [Act.put, List.setIfInBounds_toArray, List.set_cons_zero, List.set_cons_succ]
                              refine wpAnyH_ready (rs := [5]) (by kernel_rfl) (by simp) ?_
                              refine consL rfl (fun K hK => ?_) AllReadyH.nil
                              · rw [if_pos (by rfl)]
                                refine wpo_store_arr 107 (.tmp 11) (.tmp 85) rfl Hb rfl hH9 rfl HZF.out HLF.out ?_
                                intro w6 hH6 hg6
                                have hR6 := hR9.grown hg6 (ne_some (by omega))
                                have hO6 := hO9.grown hg6 (ne_some (by omega))
                                have hS6 := hS9.grown hg6 (ne_some (by omega))
                                have hrd6 := hrd9.grown hg6 (fun x hx e => hpr x hx (Option.some.inj e).symm)
                                have hB6 := gbelow hB9 hg6 (by omega)
                                refine hK.out _ _ trivial (fun hHeld => ?_)
                                clear hK K
                                try simp only [Act.put, List.setIfInBounds_toArray, List.set_cons_zero, List.set_cons_succ]
                                refine wpAnyH_done (by kernel_rfl) ?_ _
                                go_wp2_with fail
                                exact ⟨⟨i + 1, hip2, congrArg (Value.int .i64) (by have := HP.out; omega), hO6, hS6, hR6, by rw [← HGL.out]; exact hH6, hrd6, hB6⟩, by simp [intOf]; omega⟩
                      · rw [if_pos (by rfl)]
                        refine wp_load_row 107 (.tmp 9) rfl (Cb + 1) rfl 107 (nv .i64 rd).toArray (0, 0) _ hR u20 rfl iR ?_
                        refine hK.out _ _ trivial (fun hHeld => ?_)
                        clear hK K
                        try simp only [Act.put, List.setIfInBounds_toArray, List.set_cons_zero, List.set_cons_succ]
                        refine wpAnyH_ready (rs := [1]) (by kernel_rfl) (by simp) ?_
                        refine consL rfl (fun K hK => ?_) AllReadyH.nil
                        · rw [if_pos (by rfl)]
                          refine wp_load_row 107 (.tmp 13) rfl Nb rfl 107 (nv .i64 nl).toArray (0, 0) _ hN u20 rfl iN ?_
                          refine hK.out _ _ trivial (fun hHeld => ?_)
                          clear hK K
                          try simp only [Act.put, List.setIfInBounds_toArray, List.set_cons_zero, List.set_cons_succ]
                          refine wpAnyH_ready (rs := [2]) (by kernel_rfl) (by simp) ?_
                          refine consL rfl (fun K hK => ?_) AllReadyH.nil
                          · rw [if_pos (by rfl)]
                            go_simp
                            go_at_call 81
                            refine (c1.out _).mono ?_
                            rintro e w13 ⟨rfl, hb13⟩
                            have hH13 := hH.below hb13
                            have hN13 := hN.below hb13
                            have hR13 := hR.below hb13
                            have hO13 := hO.below hb13
                            have hS13 := hS.below hb13
                            have hrd13 := hrd.below hb13
                            have hB13 := xtrans hB hb13
                            clear hH hN hR hO hS hrd hB
                            refine hK.out _ _ trivial (fun hHeld => ?_)
                            clear hK K
                            try simp only [Act.put, List.setIfInBounds_toArray, List.set_cons_zero, List.set_cons_succ]
                            refine wpAnyH_ready (rs := [4]) (by kernel_rfl) (by simp) ?_
                            refine consL rfl (fun K hK => ?_) AllReadyH.nil
                            · rw [if_pos (by rfl)]
                              go_simp
                              go_at_call 80
                              refine (c2.out _).mono ?_
                              rintro e w14 ⟨rfl, hb14⟩
                              have hH14 := hH13.below hb14
                              have hN14 := hN13.below hb14
                              have hR14 := hR13.below hb14
                              have hO14 := hO13.below hb14
                              have hS14 := hS13.below hb14
                              have hrd14 := hrd13.below hb14
                              have hB14 := xtrans hB13 hb14
                              clear hH13 hN13 hR13 hO13 hS13 hrd13 hB13
                              refine hK.out _ _ trivial (fun hHeld => ?_)
                              clear hK K
                              try simp only [Act.put, List.setIfInBounds_toArray, List.set_cons_zero, List.set_cons_succ]
                              refine wpAnyH_ready (rs := [5]) (by kernel_rfl) (by simp) ?_
                              refine consL rfl (fun K hK => ?_) AllReadyH.nil
                              · rw [if_pos (by rfl)]
                                refine wpo_store_arr 107 (.tmp 11) (.tmp 85) rfl Hb rfl hH14 rfl HZF.out HLF.out ?_
                                intro w6 hH6 hg6
                                have hR6 := hR14.grown hg6 (ne_some (by omega))
                                have hO6 := hO14.grown hg6 (ne_some (by omega))
                                have hS6 := hS14.grown hg6 (ne_some (by omega))
                                have hrd6 := hrd14.grown hg6 (fun x hx e => hpr x hx (Option.some.inj e).symm)
                                have hB6 := gbelow hB14 hg6 (by omega)
                                refine hK.out _ _ trivial (fun hHeld => ?_)
                                clear hK K
                                try simp only [Act.put, List.setIfInBounds_toArray, List.set_cons_zero, List.set_cons_succ]
                                refine wpAnyH_done (by kernel_rfl) ?_ _
                                go_wp2_with fail
                                exact ⟨⟨i + 1, hip2, congrArg (Value.int .i64) (by have := HP.out; omega), hO6, hS6, hR6, by rw [← HGL.out]; exact hH6, hrd6, hB6⟩, by simp [intOf]; omega⟩
                    · rw [if_pos (by rfl)]
                      refine wp_load_row 107 (.tmp 13) rfl Nb rfl 107 (nv .i64 nl).toArray (0, 0) _ hN u20 rfl iN ?_
                      refine hK.out _ _ trivial (fun hHeld => ?_)
                      clear hK K
                      try simp only [Act.put, List.setIfInBounds_toArray, List.set_cons_zero, List.set_cons_succ]
                      refine wpAnyH_ready (rs := [0, 3]) (by kernel_rfl) (by simp) ?_
                      refine consL rfl (fun K hK => ?_) (consL rfl (fun K hK => ?_) AllReadyH.nil)
                      · rw [if_pos (by rfl)]
                        refine wp_load_row 107 (.tmp 11) rfl Hb rfl 107 (nv .i64 hl).toArray (0, 0) _ hH u20 rfl iH ?_
                        refine hK.out _ _ trivial (fun hHeld => ?_)
                        clear hK K
                        try simp only [Act.put, List.setIfInBounds_toArray, List.set_cons_zero, List.set_cons_succ]
                        refine wpAnyH_ready (rs := [2, 3]) (by kernel_rfl) (by simp) ?_
                        refine consL rfl (fun K hK => ?_) (consL rfl (fun K hK => ?_) AllReadyH.nil)
                        · rw [if_pos (by rfl)]
                          go_simp
                          go_at_call 81
                          refine (c1.out _).mono ?_
                          rintro e w18 ⟨rfl, hb18⟩
                          have hH18 := hH.below hb18
                          have hN18 := hN.below hb18
                          have hR18 := hR.below hb18
                          have hO18 := hO.below hb18
                          have hS18 := hS.below hb18
                          have hrd18 := hrd.below hb18
                          have hB18 := xtrans hB hb18
                          clear hH hN hR hO hS hrd hB
                          refine hK.out _ _ trivial (fun hHeld => ?_)
                          clear hK K
                          try simp only [Act.put, List.setIfInBounds_toArray, List.set_cons_zero, List.set_cons_succ]
                          refine wpAnyH_ready (rs := [3]) (by kernel_rfl) (by simp) ?_
                          refine consL rfl (fun K hK => ?_) AllReadyH.nil
                          · rw [if_pos (by rfl)]
                            refine wp_load_row 107 (.tmp 9) rfl (Cb + 1) rfl 107 (nv .i64 rd).toArray (0, 0) _ hR18 u20 rfl iR ?_
                            refine hK.out _ _ trivial (fun hHeld => ?_)
                            clear hK K
                            try simp only [Act.put, List.setIfInBounds_toArray, List.set_cons_zero, List.set_cons_succ]
                            refine wpAnyH_ready (rs := [4]) (by kernel_rfl) (by simp) ?_
                            refine consL rfl (fun K hK => ?_) AllReadyH.nil
                            · rw [if_pos (by rfl)]
                              go_simp
                              go_at_call 80
                              refine (c2.out _).mono ?_
                              rintro e w20 ⟨rfl, hb20⟩
                              have hH20 := hH18.below hb20
                              have hN20 := hN18.below hb20
                              have hR20 := hR18.below hb20
                              have hO20 := hO18.below hb20
                              have hS20 := hS18.below hb20
                              have hrd20 := hrd18.below hb20
                              have hB20 := xtrans hB18 hb20
                              clear hH18 hN18 hR18 hO18 hS18 hrd18 hB18
                              refine hK.out _ _ trivial (fun hHeld => ?_)
                              clear hK K
                              try simp only [Act.put, List.setIfInBounds_toArray, List.set_cons_zero, List.set_cons_succ]
                              refine wpAnyH_ready (rs := [5]) (by kernel_rfl) (by simp) ?_
                              refine consL rfl (fun K hK => ?_) AllReadyH.nil
                              · rw [if_pos (by rfl)]
                                refine wpo_store_arr 107 (.tmp 11) (.tmp 85) rfl Hb rfl hH20 rfl HZF.out HLF.out ?_
                                intro w6 hH6 hg6
                                have hR6 := hR20.grown hg6 (ne_some (by omega))
                                have hO6 := hO20.grown hg6 (ne_some (by omega))
                                have hS6 := hS20.grown hg6 (ne_some (by omega))
                                have hrd6 := hrd20.grown hg6 (fun x hx e => hpr x hx (Option.some.inj e).symm)
                                have hB6 := gbelow hB20 hg6 (by omega)
                                refine hK.out _ _ trivial (fun hHeld => ?_)
                                clear hK K
                                try simp only [Act.put, List.setIfInBounds_toArray, List.set_cons_zero, List.set_cons_succ]
                                refine wpAnyH_done (by kernel_rfl) ?_ _
                                go_wp2_with fail
                                exact ⟨⟨i + 1, hip2, congrArg (Value.int .i64) (by have := HP.out; omega), hO6, hS6, hR6, by rw [← HGL.out]; exact hH6, hrd6, hB6⟩, by simp [intOf]; omega⟩
                        · rw [if_pos (by rfl)]
                          refine wp_load_row 107 (.tmp 9) rfl (Cb + 1) rfl 107 (nv .i64 rd).toArray (0, 0) _ hR u20 rfl iR ?_
                          refine hK.out _ _ trivial (fun hHeld => ?_)
                          clear hK K
                          try simp only [Act.put, List.setIfInBounds_toArray, List.set_cons_zero, List.set_cons_succ]
                          refine wpAnyH_ready (rs := [2]) (by kernel_rfl) (by simp) ?_
                          refine consL rfl (fun K hK => ?_) AllReadyH.nil
                          · rw [if_pos (by rfl)]
                            go_simp
                            go_at_call 81
                            refine (c1.out _).mono ?_
                            rintro e w23 ⟨rfl, hb23⟩
                            have hH23 := hH.below hb23
                            have hN23 := hN.below hb23
                            have hR23 := hR.below hb23
                            have hO23 := hO.below hb23
                            have hS23 := hS.below hb23
                            have hrd23 := hrd.below hb23
                            have hB23 := xtrans hB hb23
                            clear hH hN hR hO hS hrd hB
                            refine hK.out _ _ trivial (fun hHeld => ?_)
                            clear hK K
                            try simp only [Act.put, List.setIfInBounds_toArray, List.set_cons_zero, List.set_cons_succ]
                            refine wpAnyH_ready (rs := [4]) (by kernel_rfl) (by simp) ?_
                            refine consL rfl (fun K hK => ?_) AllReadyH.nil
                            · rw [if_pos (by rfl)]
                              go_simp
                              go_at_call 80
                              refine (c2.out _).mono ?_
                              rintro e w24 ⟨rfl, hb24⟩
                              have hH24 := hH23.below hb24
                              have hN24 := hN23.below hb24
                              have hR24 := hR23.below hb24
                              have hO24 := hO23.below hb24
                              have hS24 := hS23.below hb24
                              have hrd24 := hrd23.below hb24
                              have hB24 := xtrans hB23 hb24
                              clear hH23 hN23 hR23 hO23 hS23 hrd23 hB23
                              refine hK.out _ _ trivial (fun hHeld => ?_)
                              clear hK K
                              try simp only [Act.put, List.setIfInBounds_toArray, List.set_cons_zero, List.set_cons_succ]
                              refine wpAnyH_ready (rs := [5]) (by kernel_rfl) (by simp) ?_
                              refine consL rfl (fun K hK => ?_) AllReadyH.nil
                              · rw [if_pos (by rfl)]
                                refine wpo_store_arr 107 (.tmp 11) (.tmp 85) rfl Hb rfl hH24 rfl HZF.out HLF.out ?_
                                intro w6 hH6 hg6
                                have hR6 := hR24.grown hg6 (ne_some (by omega))
                                have hO6 := hO24.grown hg6 (ne_some (by omega))
                                have hS6 := hS24.grown hg6 (ne_some (by omega))
                                have hrd6 := hrd24.grown hg6 (fun x hx e => hpr x hx (Option.some.inj e).symm)
                                have hB6 := gbelow hB24 hg6 (by omega)
                                refine hK.out _ _ trivial (fun hHeld => ?_)
                                clear hK K
                                try simp only [Act.put, List.setIfInBounds_toArray, List.set_cons_zero, List.set_cons_succ]
                                refine wpAnyH_done (by kernel_rfl) ?_ _
                                go_wp2_with fail
                                exact ⟨⟨i + 1, hip2, congrArg (Value.int .i64) (by have := HP.out; omega), hO6, hS6, hR6, by rw [← HGL.out]; exact hH6, hrd6, hB6⟩, by simp [intOf]; omega⟩
                      · rw [if_pos (by rfl)]
                        refine wp_load_row 107 (.tmp 9) rfl (Cb + 1) rfl 107 (nv .i64 rd).toArray (0, 0) _ hR u20 rfl iR ?_
                        refine hK.out _ _ trivial (fun hHeld => ?_)
                        clear hK K
                        try simp only [Act.put, List.setIfInBounds_toArray, List.set_cons_zero, List.set_cons_succ]
                        refine wpAnyH_ready (rs := [0]) (by kernel_rfl) (by simp) ?_
                        refine consL rfl (fun K hK => ?_) AllReadyH.nil
                        · rw [if_pos (by rfl)]
                          refine wp_load_row 107 (.tmp 11) rfl Hb rfl 107 (nv .i64 hl).toArray (0, 0) _ hH u20 rfl iH ?_
                          refine hK.out _ _ trivial (fun hHeld => ?_)
                          clear hK K
                          try simp only [Act.put, List.setIfInBounds_toArray, List.set_cons_zero, List.set_cons_succ]
                          refine wpAnyH_ready (rs := [2]) (by kernel_rfl) (by simp) ?_
                          refine consL rfl (fun K hK => ?_) AllReadyH.nil
                          · rw [if_pos (by rfl)]
                            go_simp
                            go_at_call 81
                            refine (c1.out _).mono ?_
                            rintro e w28 ⟨rfl, hb28⟩
                            have hH28 := hH.below hb28
                            have hN28 := hN.below hb28
                            have hR28 := hR.below hb28
                            have hO28 := hO.below hb28
                            have hS28 := hS.below hb28
                            have hrd28 := hrd.below hb28
                            have hB28 := xtrans hB hb28
                            clear hH hN hR hO hS hrd hB
                            refine hK.out _ _ trivial (fun hHeld => ?_)
                            clear hK K
                            try simp only [Act.put, List.setIfInBounds_toArray, List.set_cons_zero, List.set_cons_succ]
                            refine wpAnyH_ready (rs := [4]) (by kernel_rfl) (by simp) ?_
                            refine consL rfl (fun K hK => ?_) AllReadyH.nil
                            · rw [if_pos (by rfl)]
                              go_simp
                              go_at_call 80
                              refine (c2.out _).mono ?_
                              rintro e w29 ⟨rfl, hb29⟩
                              have hH29 := hH28.below hb29
                              have hN29 := hN28.below hb29
                              have hR29 := hR28.below hb29
                              have hO29 := hO28.below hb29
                              have hS29 := hS28.below hb29
                              have hrd29 := hrd28.below hb29
                              have hB29 := xtrans hB28 hb29
                              clear hH28 hN28 hR28 hO28 hS28 hrd28 hB28
                              refine hK.out _ _ trivial (fun hHeld => ?_)
                              clear hK K
                              try simp only [Act.put, List.setIfInBounds_toArray, List.set_cons_zero, List.set_cons_succ]
                              refine wpAnyH_ready (rs := [5]) (by kernel_rfl) (by simp) ?_
                              refine consL rfl (fun K hK => ?_) AllReadyH.nil
                              · rw [if_pos (by rfl)]
                                refine wpo_store_arr 107 (.tmp 11) (.tmp 85) rfl Hb rfl hH29 rfl HZF.out HLF.out ?_
                                intro w6 hH6 hg6
                                have hR6 := hR29.grown hg6 (ne_some (by omega))
                                have hO6 := hO29.grown hg6 (ne_some (by omega))
                                have hS6 := hS29.grown hg6 (ne_some (by omega))
                                have hrd6 := hrd29.grown hg6 (fun x hx e => hpr x hx (Option.some.inj e).symm)
                                have hB6 := gbelow hB29 hg6 (by omega)
                                refine hK.out _ _ trivial (fun hHeld => ?_)
                                clear hK K
                                try simp only [Act.put, List.setIfInBounds_toArray, List.set_cons_zero, List.set_cons_succ]
                                refine wpAnyH_done (by kernel_rfl) ?_ _
                                go_wp2_with fail
                                exact ⟨⟨i + 1, hip2, congrArg (Value.int .i64) (by have := HP.out; omega), hO6, hS6, hR6, by rw [← HGL.out]; exact hH6, hrd6, hB6⟩, by simp [intOf]; omega⟩
                    · rw [if_pos (by rfl)]
                      refine wp_load_row 107 (.tmp 9) rfl (Cb + 1) rfl 107 (nv .i64 rd).toArray (0, 0) _ hR u20 rfl iR ?_
                      refine hK.out _ _ trivial (fun hHeld => ?_)
                      clear hK K
                      try simp only [Act.put, List.setIfInBounds_toArray, List.set_cons_zero, List.set_cons_succ]
                      refine wpAnyH_ready (rs := [0, 1]) (by kernel_rfl) (by simp) ?_
                      refine consL rfl (fun K hK => ?_) (consL rfl (fun K hK => ?_) AllReadyH.nil)
                      · rw [if_pos (by rfl)]
                        refine wp_load_row 107 (.tmp 11) rfl Hb rfl 107 (nv .i64 hl).toArray (0, 0) _ hH u20 rfl iH ?_
                        refine hK.out _ _ trivial (fun hHeld => ?_)
                        clear hK K
                        try simp only [Act.put, List.setIfInBounds_toArray, List.set_cons_zero, List.set_cons_succ]
                        refine wpAnyH_ready (rs := [1]) (by kernel_rfl) (by simp) ?_
                        refine consL rfl (fun K hK => ?_) AllReadyH.nil
                        · rw [if_pos (by rfl)]
                          refine wp_load_row 107 (.tmp 13) rfl Nb rfl 107 (nv .i64 nl).toArray (0, 0) _ hN u20 rfl iN ?_
                          refine hK.out _ _ trivial (fun hHeld => ?_)
                          clear hK K
                          try simp only [Act.put, List.setIfInBounds_toArray, List.set_cons_zero, List.set_cons_succ]
                          refine wpAnyH_ready (rs := [2]) (by kernel_rfl) (by simp) ?_
                          refine consL rfl (fun K hK => ?_) AllReadyH.nil
                          · rw [if_pos (by rfl)]
                            go_simp
                            go_at_call 81
                            refine (c1.out _).mono ?_
                            rintro e w34 ⟨rfl, hb34⟩
                            have hH34 := hH.below hb34
                            have hN34 := hN.below hb34
                            have hR34 := hR.below hb34
                            have hO34 := hO.below hb34
                            have hS34 := hS.below hb34
                            have hrd34 := hrd.below hb34
                            have hB34 := xtrans hB hb34
                            clear hH hN hR hO hS hrd hB
                            refine hK.out _ _ trivial (fun hHeld => ?_)
                            clear hK K
                            try simp only [Act.put, List.setIfInBounds_toArray, List.set_cons_zero, List.set_cons_succ]
                            refine wpAnyH_ready (rs := [4]) (by kernel_rfl) (by simp) ?_
                            refine consL rfl (fun K hK => ?_) AllReadyH.nil
                            · rw [if_pos (by rfl)]
                              go_simp
                              go_at_call 80
                              refine (c2.out _).mono ?_
                              rintro e w35 ⟨rfl, hb35⟩
                              have hH35 := hH34.below hb35
                              have hN35 := hN34.below hb35
                              have hR35 := hR34.below hb35
                              have hO35 := hO34.below hb35
                              have hS35 := hS34.below hb35
                              have hrd35 := hrd34.below hb35
                              have hB35 := xtrans hB34 hb35
                              clear hH34 hN34 hR34 hO34 hS34 hrd34 hB34
                              refine hK.out _ _ trivial (fun hHeld => ?_)
                              clear hK K
                              try simp only [Act.put, List.setIfInBounds_toArray, List.set_cons_zero, List.set_cons_succ]
                              refine wpAnyH_ready (rs := [5]) (by kernel_rfl) (by simp) ?_
                              refine consL rfl (fun K hK => ?_) AllReadyH.nil
                              · rw [if_pos (by rfl)]
                                refine wpo_store_arr 107 (.tmp 11) (.tmp 85) rfl Hb rfl hH35 rfl HZF.out HLF.out ?_
                                intro w6 hH6 hg6
                                have hR6 := hR35.grown hg6 (ne_some (by omega))
                                have hO6 := hO35.grown hg6 (ne_some (by omega))
                                have hS6 := hS35.grown hg6 (ne_some (by omega))
                                have hrd6 := hrd35.grown hg6 (fun x hx e => hpr x hx (Option.some.inj e).symm)
                                have hB6 := gbelow hB35 hg6 (by omega)
                                refine hK.out _ _ trivial (fun hHeld => ?_)
                                clear hK K
                                try simp only [Act.put, List.setIfInBounds_toArray, List.set_cons_zero, List.set_cons_succ]
                                refine wpAnyH_done (by kernel_rfl) ?_ _
                                go_wp2_with fail
                                exact ⟨⟨i + 1, hip2, congrArg (Value.int .i64) (by have := HP.out; omega), hO6, hS6, hR6, by rw [← HGL.out]; exact hH6, hrd6, hB6⟩, by simp [intOf]; omega⟩
                      · rw [if_pos (by rfl)]
                        refine wp_load_row 107 (.tmp 13) rfl Nb rfl 107 (nv .i64 nl).toArray (0, 0) _ hN u20 rfl iN ?_
                        refine hK.out _ _ trivial (fun hHeld => ?_)
                        clear hK K
                        try simp only [Act.put, List.setIfInBounds_toArray, List.set_cons_zero, List.set_cons_succ]
                        refine wpAnyH_ready (rs := [0]) (by kernel_rfl) (by simp) ?_
                        refine consL rfl (fun K hK => ?_) AllReadyH.nil
                        · rw [if_pos (by rfl)]
                          refine wp_load_row 107 (.tmp 11) rfl Hb rfl 107 (nv .i64 hl).toArray (0, 0) _ hH u20 rfl iH ?_
                          refine hK.out _ _ trivial (fun hHeld => ?_)
                          clear hK K
                          try simp only [Act.put, List.setIfInBounds_toArray, List.set_cons_zero, List.set_cons_succ]
                          refine wpAnyH_ready (rs := [2]) (by kernel_rfl) (by simp) ?_
                          refine consL rfl (fun K hK => ?_) AllReadyH.nil
                          · rw [if_pos (by rfl)]
                            go_simp
                            go_at_call 81
                            refine (c1.out _).mono ?_
                            rintro e w39 ⟨rfl, hb39⟩
                            have hH39 := hH.below hb39
                            have hN39 := hN.below hb39
                            have hR39 := hR.below hb39
                            have hO39 := hO.below hb39
                            have hS39 := hS.below hb39
                            have hrd39 := hrd.below hb39
                            have hB39 := xtrans hB hb39
                            clear hH hN hR hO hS hrd hB
                            refine hK.out _ _ trivial (fun hHeld => ?_)
                            clear hK K
                            try simp only [Act.put, List.setIfInBounds_toArray, List.set_cons_zero, List.set_cons_succ]
                            refine wpAnyH_ready (rs := [4]) (by kernel_rfl) (by simp) ?_
                            refine consL rfl (fun K hK => ?_) AllReadyH.nil
                            · rw [if_pos (by rfl)]
                              go_simp
                              go_at_call 80
                              refine (c2.out _).mono ?_
                              rintro e w40 ⟨rfl, hb40⟩
                              have hH40 := hH39.below hb40
                              have hN40 := hN39.below hb40
                              have hR40 := hR39.below hb40
                              have hO40 := hO39.below hb40
                              have hS40 := hS39.below hb40
                              have hrd40 := hrd39.below hb40
                              have hB40 := xtrans hB39 hb40
                              clear hH39 hN39 hR39 hO39 hS39 hrd39 hB39
                              refine hK.out _ _ trivial (fun hHeld => ?_)
                              clear hK K
                              try simp only [Act.put, List.setIfInBounds_toArray, List.set_cons_zero, List.set_cons_succ]
                              refine wpAnyH_ready (rs := [5]) (by kernel_rfl) (by simp) ?_
                              refine consL rfl (fun K hK => ?_) AllReadyH.nil
                              · rw [if_pos (by rfl)]
                                refine wpo_store_arr 107 (.tmp 11) (.tmp 85) rfl Hb rfl hH40 rfl HZF.out HLF.out ?_
                                intro w6 hH6 hg6
                                have hR6 := hR40.grown hg6 (ne_some (by omega))
                                have hO6 := hO40.grown hg6 (ne_some (by omega))
                                have hS6 := hS40.grown hg6 (ne_some (by omega))
                                have hrd6 := hrd40.grown hg6 (fun x hx e => hpr x hx (Option.some.inj e).symm)
                                have hB6 := gbelow hB40 hg6 (by omega)
                                refine hK.out _ _ trivial (fun hHeld => ?_)
                                clear hK K
                                try simp only [Act.put, List.setIfInBounds_toArray, List.set_cons_zero, List.set_cons_succ]
                                refine wpAnyH_done (by kernel_rfl) ?_ _
                                go_wp2_with fail
                                exact ⟨⟨i + 1, hip2, congrArg (Value.int .i64) (by have := HP.out; omega), hO6, hS6, hR6, by rw [← HGL.out]; exact hH6, hrd6, hB6⟩, by simp [intOf]; omega⟩
                  · have hid1 : decide ((k : Int) < 16) = false := decide_eq_false (by omega)
                    have hl0 := hrd.1
                    have hp16 : (p : Int) + 16 ≤ 1000000016 := by omega
                    have hk20 : (k : Int) < 20 := by omega
                    have hll := n_len bs p k hk16
                    have hcN := hN.cell k (by omega)
                    have hfN := hN.frozen k
                    have HHL := Lib.hid hlt
                    have HKL := Lib.hid hkl
                    obtain ⟨z1, hz1⟩ : ∃ z1, z1 = (nL bs p k).getD k 0 := ⟨_, rfl⟩
                    rw [← hz1] at hcN
                    clear hz1 hll hlt hkl
                    go_wp2_with fail
                    have hlt := HHL.out
                    have hkl := HKL.out
                    obtain ⟨nl, hnl⟩ : ∃ nl, nl = (nL bs p k).set k 1 := ⟨_, rfl⟩
                    have hne := nL_end bs hbb i k (by rw [HBL.out]; have := HP.out; omega) (by rw [HBL.out]; have := HP.out; omega)
                    rw [← HP.out, ← hnl] at hne
                    obtain ⟨hnd, hnle⟩ := hne
                    have hN2 := hN.set k 1
                    rw [← hnl] at hN2
                    have hfin := acc_step key bs i
                    have hvl := accN_lt (rOf key) bs i
                    obtain ⟨v, hv⟩ : ∃ v, v = accN (rOf key) bs i := ⟨_, rfl⟩
                    rw [← hv] at hvl hfin hH
                    have hPs := PP_small
                    have hhd := dg_by v
                    have hpsm := part_small bs hbb i
                    have c1 := Lib.hid (fun W => add_any W (by_ 20 v) nl hhd hnd (by rw [le_by20 v (by omega)]; exact hvl) (by rw [hnle]; exact hpsm))
                    rw [le_by20 v (by omega), hnle] at c1
                    obtain ⟨t, ht⟩ : ∃ t, t = (v + le (part bs i)) % PP := ⟨_, rfl⟩
                    have htl : t < PP := ht ▸ Nat.mod_lt _ (by rw [PP_eq]; decide)
                    rw [← ht] at c1 hfin
                    have htd := dg_by t
                    have c2 := Lib.hid (fun W => rtimes_any W (by_ 20 t) rd htd hrdg (by rw [le_by20 t (by omega)]; exact htl) (by rw [HRD.out]; exact rOf_small key hkb))
                    rw [le_by20 t (by omega), HRD.out, hfin] at c2
                    obtain ⟨hl, hhl⟩ : ∃ hl, hl = by_ 20 v := ⟨_, rfl⟩
                    obtain ⟨tl, htl2⟩ : ∃ tl, tl = by_ 20 t := ⟨_, rfl⟩
                    have hgd := dg_by (accN (rOf key) bs (i + 1))
                    obtain ⟨gl, hgl⟩ : ∃ gl, gl = by_ 20 (accN (rOf key) bs (i + 1)) := ⟨_, rfl⟩
                    rw [← hhl] at hH c1 hhd
                    rw [← htl2] at c1 c2
                    rw [← hgl] at c2 hgd
                    have HGL := Lib.hid hgl
                    have u20 := Try.underlying107
                    have iH : (Try.prog.info? 107).map (·.size) = some (nv .i64 hl).toArray.size := by simp only [List.size_toArray, nv_length]; rw [hhd.1]; kernel_rfl
                    have iN : (Try.prog.info? 107).map (·.size) = some (nv .i64 nl).toArray.size := by simp only [List.size_toArray, nv_length]; rw [hnd.1]; kernel_rfl
                    have iR : (Try.prog.info? 107).map (·.size) = some (nv .i64 rd).toArray.size := by simp only [List.size_toArray, nv_length]; rw [hrdg.1]; kernel_rfl
                    have HZF := Lib.hid (show (Try.prog.info? 107).map (·.size) = some gl.length by rw [hgd.1]; kernel_rfl)
                    have HLF := Lib.hid (show hl.length = gl.length by rw [hhd.1, hgd.1])
                    have hO := hO.other ⟨Nb, k, none⟩ (.int .i64 1) (by show w.heap.size + 1 ≠ Nb; omega)
                    have hS := hS.other ⟨Nb, k, none⟩ (.int .i64 1) (by show Sb ≠ Nb; omega)
                    have hR := hR.other ⟨Nb, k, none⟩ (.int .i64 1) (by show Cb + 1 ≠ Nb; omega)
                    have hH := hH.other ⟨Nb, k, none⟩ (.int .i64 1) (by show Hb ≠ Nb; omega)
                    have hrd := hrd.setM (B := Nb) (fun x hx h0 => by have := hpa x hx h0; omega) k (.int .i64 1)
                    have hB : Below w.heap.size w (wr.setCell ⟨Nb, k, none⟩ (.int .i64 1)) := xset hB (by show w.heap.size ≤ Nb; omega) _
                    have hpr : ∀ x, a = some x → x.block ≠ Hb := fun x hx => by have := hpa x hx (by omega); omega
                    clear hnl hv hvl hfin hPs hhd hpsm ht htl htd hhl htl2 hgd hgl hnd hnle
                    generalize wr.setCell ⟨Nb, k, none⟩ (.int .i64 1) = wn at hN2 hH hR hO hS hrd hB ⊢
                    have hN := hN2.drewN 1
                    replace hH := hH.drewN 1
                    replace hR := hR.drewN 1
                    replace hO := hO.drewN 1
                    replace hS := hS.drewN 1
                    replace hrd := hrd.drewN 1
                    replace hB := below_drewN hB 1
                    clear hN2 hcN hfN
                    refine wp_region_held_drew (S := fun _ => True) (by kernel_rfl) trivial (fun hHeld => ?_)
                    rw [show wn.drew = wn.drewN 1 from rfl]
                    generalize wn.drewN 1 = wv at hN hH hR hO hS hrd hB hHeld ⊢
                    refine wpAnyH_ready (rs := [0, 1, 3]) (by kernel_rfl) (by simp) ?_
                    refine consL rfl (fun K hK => ?_) (consL rfl (fun K hK => ?_) (consL rfl (fun K hK => ?_) AllReadyH.nil))
                    · rw [if_pos (by rfl)]
                      refine wp_load_row 107 (.tmp 11) rfl Hb rfl 107 (nv .i64 hl).toArray (0, 0) _ hH u20 rfl iH ?_
                      refine hK.out _ _ trivial (fun hHeld => ?_)
                      clear hK K
                      try simp only [Act.put, List.setIfInBounds_toArray, List.set_cons_zero, List.set_cons_succ]
                      refine wpAnyH_ready (rs := [1, 3]) (by kernel_rfl) (by simp) ?_
                      refine consL rfl (fun K hK => ?_) (consL rfl (fun K hK => ?_) AllReadyH.nil)
                      · rw [if_pos (by rfl)]
                        refine wp_load_row 107 (.tmp 13) rfl Nb rfl 107 (nv .i64 nl).toArray (0, 0) _ hN u20 rfl iN ?_
                        refine hK.out _ _ trivial (fun hHeld => ?_)
                        clear hK K
                        try simp only [Act.put, List.setIfInBounds_toArray, List.set_cons_zero, List.set_cons_succ]
                        refine wpAnyH_ready (rs := [2, 3]) (by kernel_rfl) (by simp) ?_
                        refine consL rfl (fun K hK => ?_) (consL rfl (fun K hK => ?_) AllReadyH.nil)
                        · rw [if_pos (by rfl)]
                          go_simp
                          go_at_call 81
                          refine (c1.out _).mono ?_
                          rintro e w3 ⟨rfl, hb3⟩
                          have hH3 := hH.below hb3
                          have hN3 := hN.below hb3
                          have hR3 := hR.below hb3
                          have hO3 := hO.below hb3
                          have hS3 := hS.below hb3
                          have hrd3 := hrd.below hb3
                          have hB3 := xtrans hB hb3
                          clear hH hN hR hO hS hrd hB
                          refine hK.out _ _ trivial (fun hHeld => ?_)
                          clear hK K
                          try simp only [Act.put, List.setIfInBounds_toArray, List.set_cons_zero, List.set_cons_succ]
                          refine wpAnyH_ready (rs := [3]) (by kernel_rfl) (by simp) ?_
                          refine consL rfl (fun K hK => ?_) AllReadyH.nil
                          · rw [if_pos (by rfl)]
                            refine wp_load_row 107 (.tmp 9) rfl (Cb + 1) rfl 107 (nv .i64 rd).toArray (0, 0) _ hR3 u20 rfl iR ?_
                            refine hK.out _ _ trivial (fun hHeld => ?_)
                            clear hK K
                            try simp only [Act.put, List.setIfInBounds_toArray, List.set_cons_zero, List.set_cons_succ]
                            refine wpAnyH_ready (rs := [4]) (by kernel_rfl) (by simp) ?_
                            refine consL rfl (fun K hK => ?_) AllReadyH.nil
                            · rw [if_pos (by rfl)]
                              go_simp
                              go_at_call 80
                              refine (c2.out _).mono ?_
                              rintro e w5 ⟨rfl, hb5⟩
                              have hH5 := hH3.below hb5
                              have hN5 := hN3.below hb5
                              have hR5 := hR3.below hb5
                              have hO5 := hO3.below hb5
                              have hS5 := hS3.below hb5
                              have hrd5 := hrd3.below hb5
                              have hB5 := xtrans hB3 hb5
                              clear hH3 hN3 hR3 hO3 hS3 hrd3 hB3
                              refine hK.out _ _ trivial (fun hHeld => ?_)
                              clear hK K
                              try simp only [Act.put, List.setIfInBounds_toArray, List.set_cons_zero, List.set_cons_succ]
                              refine wpAnyH_ready (rs := [5]) (by kernel_rfl) (by simp) ?_
                              refine consL rfl (fun K hK => ?_) AllReadyH.nil
                              · rw [if_pos (by rfl)]
                                refine wpo_store_arr 107 (.tmp 11) (.tmp 85) rfl Hb rfl hH5 rfl HZF.out HLF.out ?_
                                intro w6 hH6 hg6
                                have hR6 := hR5.grown hg6 (ne_some (by omega))
                                have hO6 := hO5.grown hg6 (ne_some (by omega))
                                have hS6 := hS5.grown hg6 (ne_some (by omega))
                                have hrd6 := hrd5.grown hg6 (fun x hx e => hpr x hx (Option.some.inj e).symm)
                                have hB6 := gbelow hB5 hg6 (by omega)
                                refine hK.out _ _ trivial (fun hHeld => ?_)
                                clear hK K
                                try simp only [Act.put, List.setIfInBounds_toArray, List.set_cons_zero, List.set_cons_succ]
                                refine wpAnyH_done (by kernel_rfl) ?_ _
                                go_wp2_with fail
                                exact ⟨⟨i + 1, hip2, congrArg (Value.int .i64) (by have := HP.out; omega), hO6, hS6, hR6, by rw [← HGL.out]; exact hH6, hrd6, hB6⟩, by simp [intOf]; omega⟩
                        · rw [if_pos (by rfl)]
                          refine wp_load_row 107 (.tmp 9) rfl (Cb + 1) rfl 107 (nv .i64 rd).toArray (0, 0) _ hR u20 rfl iR ?_
                          refine hK.out _ _ trivial (fun hHeld => ?_)
                          clear hK K
                          try simp only [Act.put, List.setIfInBounds_toArray, List.set_cons_zero, List.set_cons_succ]
                          refine wpAnyH_ready (rs := [2]) (by kernel_rfl) (by simp) ?_
                          refine consL rfl (fun K hK => ?_) AllReadyH.nil
                          · rw [if_pos (by rfl)]
                            go_simp
                            go_at_call 81
                            refine (c1.out _).mono ?_
                            rintro e w8 ⟨rfl, hb8⟩
                            have hH8 := hH.below hb8
                            have hN8 := hN.below hb8
                            have hR8 := hR.below hb8
                            have hO8 := hO.below hb8
                            have hS8 := hS.below hb8
                            have hrd8 := hrd.below hb8
                            have hB8 := xtrans hB hb8
                            clear hH hN hR hO hS hrd hB
                            refine hK.out _ _ trivial (fun hHeld => ?_)
                            clear hK K
                            try simp only [Act.put, List.setIfInBounds_toArray, List.set_cons_zero, List.set_cons_succ]
                            refine wpAnyH_ready (rs := [4]) (by kernel_rfl) (by simp) ?_
                            refine consL rfl (fun K hK => ?_) AllReadyH.nil
                            · rw [if_pos (by rfl)]
                              go_simp
                              go_at_call 80
                              refine (c2.out _).mono ?_
                              rintro e w9 ⟨rfl, hb9⟩
                              have hH9 := hH8.below hb9
                              have hN9 := hN8.below hb9
                              have hR9 := hR8.below hb9
                              have hO9 := hO8.below hb9
                              have hS9 := hS8.below hb9
                              have hrd9 := hrd8.below hb9
                              have hB9 := xtrans hB8 hb9
                              clear hH8 hN8 hR8 hO8 hS8 hrd8 hB8
                              refine hK.out _ _ trivial (fun hHeld => ?_)
                              clear hK K
                              try simp only [Act.put, List.setIfInBounds_toArray, List.set_cons_zero, List.set_cons_succ]
                              refine wpAnyH_ready (rs := [5]) (by kernel_rfl) (by simp) ?_
                              refine consL rfl (fun K hK => ?_) AllReadyH.nil
                              · rw [if_pos (by rfl)]
                                refine wpo_store_arr 107 (.tmp 11) (.tmp 85) rfl Hb rfl hH9 rfl HZF.out HLF.out ?_
                                intro w6 hH6 hg6
                                have hR6 := hR9.grown hg6 (ne_some (by omega))
                                have hO6 := hO9.grown hg6 (ne_some (by omega))
                                have hS6 := hS9.grown hg6 (ne_some (by omega))
                                have hrd6 := hrd9.grown hg6 (fun x hx e => hpr x hx (Option.some.inj e).symm)
                                have hB6 := gbelow hB9 hg6 (by omega)
                                refine hK.out _ _ trivial (fun hHeld => ?_)
                                clear hK K
                                try simp only [Act.put, List.setIfInBounds_toArray, List.set_cons_zero, List.set_cons_succ]
                                refine wpAnyH_done (by kernel_rfl) ?_ _
                                go_wp2_with fail
                                exact ⟨⟨i + 1, hip2, congrArg (Value.int .i64) (by have := HP.out; omega), hO6, hS6, hR6, by rw [← HGL.out]; exact hH6, hrd6, hB6⟩, by simp [intOf]; omega⟩
                      · rw [if_pos (by rfl)]
                        refine wp_load_row 107 (.tmp 9) rfl (Cb + 1) rfl 107 (nv .i64 rd).toArray (0, 0) _ hR u20 rfl iR ?_
                        refine hK.out _ _ trivial (fun hHeld => ?_)
                        clear hK K
                        try simp only [Act.put, List.setIfInBounds_toArray, List.set_cons_zero, List.set_cons_succ]
                        refine wpAnyH_ready (rs := [1]) (by kernel_rfl) (by simp) ?_
                        refine consL rfl (fun K hK => ?_) AllReadyH.nil
                        · rw [if_pos (by rfl)]
                          refine wp_load_row 107 (.tmp 13) rfl Nb rfl 107 (nv .i64 nl).toArray (0, 0) _ hN u20 rfl iN ?_
                          refine hK.out _ _ trivial (fun hHeld => ?_)
                          clear hK K
                          try simp only [Act.put, List.setIfInBounds_toArray, List.set_cons_zero, List.set_cons_succ]
                          refine wpAnyH_ready (rs := [2]) (by kernel_rfl) (by simp) ?_
                          refine consL rfl (fun K hK => ?_) AllReadyH.nil
                          · rw [if_pos (by rfl)]
                            go_simp
                            go_at_call 81
                            refine (c1.out _).mono ?_
                            rintro e w13 ⟨rfl, hb13⟩
                            have hH13 := hH.below hb13
                            have hN13 := hN.below hb13
                            have hR13 := hR.below hb13
                            have hO13 := hO.below hb13
                            have hS13 := hS.below hb13
                            have hrd13 := hrd.below hb13
                            have hB13 := xtrans hB hb13
                            clear hH hN hR hO hS hrd hB
                            refine hK.out _ _ trivial (fun hHeld => ?_)
                            clear hK K
                            try simp only [Act.put, List.setIfInBounds_toArray, List.set_cons_zero, List.set_cons_succ]
                            refine wpAnyH_ready (rs := [4]) (by kernel_rfl) (by simp) ?_
                            refine consL rfl (fun K hK => ?_) AllReadyH.nil
                            · rw [if_pos (by rfl)]
                              go_simp
                              go_at_call 80
                              refine (c2.out _).mono ?_
                              rintro e w14 ⟨rfl, hb14⟩
                              have hH14 := hH13.below hb14
                              have hN14 := hN13.below hb14
                              have hR14 := hR13.below hb14
                              have hO14 := hO13.below hb14
                              have hS14 := hS13.below hb14
                              have hrd14 := hrd13.below hb14
                              have hB14 := xtrans hB13 hb14
                              clear hH13 hN13 hR13 hO13 hS13 hrd13 hB13
                              refine hK.out _ _ trivial (fun hHeld => ?_)
                              clear hK K
                              try simp only [Act.put, List.setIfInBounds_toArray, List.set_cons_zero, List.set_cons_succ]
                              refine wpAnyH_ready (rs := [5]) (by kernel_rfl) (by simp) ?_
                              refine consL rfl (fun K hK => ?_) AllReadyH.nil
                              · rw [if_pos (by rfl)]
                                refine wpo_store_arr 107 (.tmp 11) (.tmp 85) rfl Hb rfl hH14 rfl HZF.out HLF.out ?_
                                intro w6 hH6 hg6
                                have hR6 := hR14.grown hg6 (ne_some (by omega))
                                have hO6 := hO14.grown hg6 (ne_some (by omega))
                                have hS6 := hS14.grown hg6 (ne_some (by omega))
                                have hrd6 := hrd14.grown hg6 (fun x hx e => hpr x hx (Option.some.inj e).symm)
                                have hB6 := gbelow hB14 hg6 (by omega)
                                refine hK.out _ _ trivial (fun hHeld => ?_)
                                clear hK K
                                try simp only [Act.put, List.setIfInBounds_toArray, List.set_cons_zero, List.set_cons_succ]
                                refine wpAnyH_done (by kernel_rfl) ?_ _
                                go_wp2_with fail
                                exact ⟨⟨i + 1, hip2, congrArg (Value.int .i64) (by have := HP.out; omega), hO6, hS6, hR6, by rw [← HGL.out]; exact hH6, hrd6, hB6⟩, by simp [intOf]; omega⟩
                    · rw [if_pos (by rfl)]
                      refine wp_load_row 107 (.tmp 13) rfl Nb rfl 107 (nv .i64 nl).toArray (0, 0) _ hN u20 rfl iN ?_
                      refine hK.out _ _ trivial (fun hHeld => ?_)
                      clear hK K
                      try simp only [Act.put, List.setIfInBounds_toArray, List.set_cons_zero, List.set_cons_succ]
                      refine wpAnyH_ready (rs := [0, 3]) (by kernel_rfl) (by simp) ?_
                      refine consL rfl (fun K hK => ?_) (consL rfl (fun K hK => ?_) AllReadyH.nil)
                      · rw [if_pos (by rfl)]
                        refine wp_load_row 107 (.tmp 11) rfl Hb rfl 107 (nv .i64 hl).toArray (0, 0) _ hH u20 rfl iH ?_
                        refine hK.out _ _ trivial (fun hHeld => ?_)
                        clear hK K
                        try simp only [Act.put, List.setIfInBounds_toArray, List.set_cons_zero, List.set_cons_succ]
                        refine wpAnyH_ready (rs := [2, 3]) (by kernel_rfl) (by simp) ?_
                        refine consL rfl (fun K hK => ?_) (consL rfl (fun K hK => ?_) AllReadyH.nil)
                        · rw [if_pos (by rfl)]
                          go_simp
                          go_at_call 81
                          refine (c1.out _).mono ?_
                          rintro e w18 ⟨rfl, hb18⟩
                          have hH18 := hH.below hb18
                          have hN18 := hN.below hb18
                          have hR18 := hR.below hb18
                          have hO18 := hO.below hb18
                          have hS18 := hS.below hb18
                          have hrd18 := hrd.below hb18
                          have hB18 := xtrans hB hb18
                          clear hH hN hR hO hS hrd hB
                          refine hK.out _ _ trivial (fun hHeld => ?_)
                          clear hK K
                          try simp only [Act.put, List.setIfInBounds_toArray, List.set_cons_zero, List.set_cons_succ]
                          refine wpAnyH_ready (rs := [3]) (by kernel_rfl) (by simp) ?_
                          refine consL rfl (fun K hK => ?_) AllReadyH.nil
                          · rw [if_pos (by rfl)]
                            refine wp_load_row 107 (.tmp 9) rfl (Cb + 1) rfl 107 (nv .i64 rd).toArray (0, 0) _ hR18 u20 rfl iR ?_
                            refine hK.out _ _ trivial (fun hHeld => ?_)
                            clear hK K
                            try simp only [Act.put, List.setIfInBounds_toArray, List.set_cons_zero, List.set_cons_succ]
                            refine wpAnyH_ready (rs := [4]) (by kernel_rfl) (by simp) ?_
                            refine consL rfl (fun K hK => ?_) AllReadyH.nil
                            · rw [if_pos (by rfl)]
                              go_simp
                              go_at_call 80
                              refine (c2.out _).mono ?_
                              rintro e w20 ⟨rfl, hb20⟩
                              have hH20 := hH18.below hb20
                              have hN20 := hN18.below hb20
                              have hR20 := hR18.below hb20
                              have hO20 := hO18.below hb20
                              have hS20 := hS18.below hb20
                              have hrd20 := hrd18.below hb20
                              have hB20 := xtrans hB18 hb20
                              clear hH18 hN18 hR18 hO18 hS18 hrd18 hB18
                              refine hK.out _ _ trivial (fun hHeld => ?_)
                              clear hK K
                              try simp only [Act.put, List.setIfInBounds_toArray, List.set_cons_zero, List.set_cons_succ]
                              refine wpAnyH_ready (rs := [5]) (by kernel_rfl) (by simp) ?_
                              refine consL rfl (fun K hK => ?_) AllReadyH.nil
                              · rw [if_pos (by rfl)]
                                refine wpo_store_arr 107 (.tmp 11) (.tmp 85) rfl Hb rfl hH20 rfl HZF.out HLF.out ?_
                                intro w6 hH6 hg6
                                have hR6 := hR20.grown hg6 (ne_some (by omega))
                                have hO6 := hO20.grown hg6 (ne_some (by omega))
                                have hS6 := hS20.grown hg6 (ne_some (by omega))
                                have hrd6 := hrd20.grown hg6 (fun x hx e => hpr x hx (Option.some.inj e).symm)
                                have hB6 := gbelow hB20 hg6 (by omega)
                                refine hK.out _ _ trivial (fun hHeld => ?_)
                                clear hK K
                                try simp only [Act.put, List.setIfInBounds_toArray, List.set_cons_zero, List.set_cons_succ]
                                refine wpAnyH_done (by kernel_rfl) ?_ _
                                go_wp2_with fail
                                exact ⟨⟨i + 1, hip2, congrArg (Value.int .i64) (by have := HP.out; omega), hO6, hS6, hR6, by rw [← HGL.out]; exact hH6, hrd6, hB6⟩, by simp [intOf]; omega⟩
                        · rw [if_pos (by rfl)]
                          refine wp_load_row 107 (.tmp 9) rfl (Cb + 1) rfl 107 (nv .i64 rd).toArray (0, 0) _ hR u20 rfl iR ?_
                          refine hK.out _ _ trivial (fun hHeld => ?_)
                          clear hK K
                          try simp only [Act.put, List.setIfInBounds_toArray, List.set_cons_zero, List.set_cons_succ]
                          refine wpAnyH_ready (rs := [2]) (by kernel_rfl) (by simp) ?_
                          refine consL rfl (fun K hK => ?_) AllReadyH.nil
                          · rw [if_pos (by rfl)]
                            go_simp
                            go_at_call 81
                            refine (c1.out _).mono ?_
                            rintro e w23 ⟨rfl, hb23⟩
                            have hH23 := hH.below hb23
                            have hN23 := hN.below hb23
                            have hR23 := hR.below hb23
                            have hO23 := hO.below hb23
                            have hS23 := hS.below hb23
                            have hrd23 := hrd.below hb23
                            have hB23 := xtrans hB hb23
                            clear hH hN hR hO hS hrd hB
                            refine hK.out _ _ trivial (fun hHeld => ?_)
                            clear hK K
                            try simp only [Act.put, List.setIfInBounds_toArray, List.set_cons_zero, List.set_cons_succ]
                            refine wpAnyH_ready (rs := [4]) (by kernel_rfl) (by simp) ?_
                            refine consL rfl (fun K hK => ?_) AllReadyH.nil
                            · rw [if_pos (by rfl)]
                              go_simp
                              go_at_call 80
                              refine (c2.out _).mono ?_
                              rintro e w24 ⟨rfl, hb24⟩
                              have hH24 := hH23.below hb24
                              have hN24 := hN23.below hb24
                              have hR24 := hR23.below hb24
                              have hO24 := hO23.below hb24
                              have hS24 := hS23.below hb24
                              have hrd24 := hrd23.below hb24
                              have hB24 := xtrans hB23 hb24
                              clear hH23 hN23 hR23 hO23 hS23 hrd23 hB23
                              refine hK.out _ _ trivial (fun hHeld => ?_)
                              clear hK K
                              try simp only [Act.put, List.setIfInBounds_toArray, List.set_cons_zero, List.set_cons_succ]
                              refine wpAnyH_ready (rs := [5]) (by kernel_rfl) (by simp) ?_
                              refine consL rfl (fun K hK => ?_) AllReadyH.nil
                              · rw [if_pos (by rfl)]
                                refine wpo_store_arr 107 (.tmp 11) (.tmp 85) rfl Hb rfl hH24 rfl HZF.out HLF.out ?_
                                intro w6 hH6 hg6
                                have hR6 := hR24.grown hg6 (ne_some (by omega))
                                have hO6 := hO24.grown hg6 (ne_some (by omega))
                                have hS6 := hS24.grown hg6 (ne_some (by omega))
                                have hrd6 := hrd24.grown hg6 (fun x hx e => hpr x hx (Option.some.inj e).symm)
                                have hB6 := gbelow hB24 hg6 (by omega)
                                refine hK.out _ _ trivial (fun hHeld => ?_)
                                clear hK K
                                try simp only [Act.put, List.setIfInBounds_toArray, List.set_cons_zero, List.set_cons_succ]
                                refine wpAnyH_done (by kernel_rfl) ?_ _
                                go_wp2_with fail
                                exact ⟨⟨i + 1, hip2, congrArg (Value.int .i64) (by have := HP.out; omega), hO6, hS6, hR6, by rw [← HGL.out]; exact hH6, hrd6, hB6⟩, by simp [intOf]; omega⟩
                      · rw [if_pos (by rfl)]
                        refine wp_load_row 107 (.tmp 9) rfl (Cb + 1) rfl 107 (nv .i64 rd).toArray (0, 0) _ hR u20 rfl iR ?_
                        refine hK.out _ _ trivial (fun hHeld => ?_)
                        clear hK K
                        try simp only [Act.put, List.setIfInBounds_toArray, List.set_cons_zero, List.set_cons_succ]
                        refine wpAnyH_ready (rs := [0]) (by kernel_rfl) (by simp) ?_
                        refine consL rfl (fun K hK => ?_) AllReadyH.nil
                        · rw [if_pos (by rfl)]
                          refine wp_load_row 107 (.tmp 11) rfl Hb rfl 107 (nv .i64 hl).toArray (0, 0) _ hH u20 rfl iH ?_
                          refine hK.out _ _ trivial (fun hHeld => ?_)
                          clear hK K
                          try simp only [Act.put, List.setIfInBounds_toArray, List.set_cons_zero, List.set_cons_succ]
                          refine wpAnyH_ready (rs := [2]) (by kernel_rfl) (by simp) ?_
                          refine consL rfl (fun K hK => ?_) AllReadyH.nil
                          · rw [if_pos (by rfl)]
                            go_simp
                            go_at_call 81
                            refine (c1.out _).mono ?_
                            rintro e w28 ⟨rfl, hb28⟩
                            have hH28 := hH.below hb28
                            have hN28 := hN.below hb28
                            have hR28 := hR.below hb28
                            have hO28 := hO.below hb28
                            have hS28 := hS.below hb28
                            have hrd28 := hrd.below hb28
                            have hB28 := xtrans hB hb28
                            clear hH hN hR hO hS hrd hB
                            refine hK.out _ _ trivial (fun hHeld => ?_)
                            clear hK K
                            try simp only [Act.put, List.setIfInBounds_toArray, List.set_cons_zero, List.set_cons_succ]
                            refine wpAnyH_ready (rs := [4]) (by kernel_rfl) (by simp) ?_
                            refine consL rfl (fun K hK => ?_) AllReadyH.nil
                            · rw [if_pos (by rfl)]
                              go_simp
                              go_at_call 80
                              refine (c2.out _).mono ?_
                              rintro e w29 ⟨rfl, hb29⟩
                              have hH29 := hH28.below hb29
                              have hN29 := hN28.below hb29
                              have hR29 := hR28.below hb29
                              have hO29 := hO28.below hb29
                              have hS29 := hS28.below hb29
                              have hrd29 := hrd28.below hb29
                              have hB29 := xtrans hB28 hb29
                              clear hH28 hN28 hR28 hO28 hS28 hrd28 hB28
                              refine hK.out _ _ trivial (fun hHeld => ?_)
                              clear hK K
                              try simp only [Act.put, List.setIfInBounds_toArray, List.set_cons_zero, List.set_cons_succ]
                              refine wpAnyH_ready (rs := [5]) (by kernel_rfl) (by simp) ?_
                              refine consL rfl (fun K hK => ?_) AllReadyH.nil
                              · rw [if_pos (by rfl)]
                                refine wpo_store_arr 107 (.tmp 11) (.tmp 85) rfl Hb rfl hH29 rfl HZF.out HLF.out ?_
                                intro w6 hH6 hg6
                                have hR6 := hR29.grown hg6 (ne_some (by omega))
                                have hO6 := hO29.grown hg6 (ne_some (by omega))
                                have hS6 := hS29.grown hg6 (ne_some (by omega))
                                have hrd6 := hrd29.grown hg6 (fun x hx e => hpr x hx (Option.some.inj e).symm)
                                have hB6 := gbelow hB29 hg6 (by omega)
                                refine hK.out _ _ trivial (fun hHeld => ?_)
                                clear hK K
                                try simp only [Act.put, List.setIfInBounds_toArray, List.set_cons_zero, List.set_cons_succ]
                                refine wpAnyH_done (by kernel_rfl) ?_ _
                                go_wp2_with fail
                                exact ⟨⟨i + 1, hip2, congrArg (Value.int .i64) (by have := HP.out; omega), hO6, hS6, hR6, by rw [← HGL.out]; exact hH6, hrd6, hB6⟩, by simp [intOf]; omega⟩
                    · rw [if_pos (by rfl)]
                      refine wp_load_row 107 (.tmp 9) rfl (Cb + 1) rfl 107 (nv .i64 rd).toArray (0, 0) _ hR u20 rfl iR ?_
                      refine hK.out _ _ trivial (fun hHeld => ?_)
                      clear hK K
                      try simp only [Act.put, List.setIfInBounds_toArray, List.set_cons_zero, List.set_cons_succ]
                      refine wpAnyH_ready (rs := [0, 1]) (by kernel_rfl) (by simp) ?_
                      refine consL rfl (fun K hK => ?_) (consL rfl (fun K hK => ?_) AllReadyH.nil)
                      · rw [if_pos (by rfl)]
                        refine wp_load_row 107 (.tmp 11) rfl Hb rfl 107 (nv .i64 hl).toArray (0, 0) _ hH u20 rfl iH ?_
                        refine hK.out _ _ trivial (fun hHeld => ?_)
                        clear hK K
                        try simp only [Act.put, List.setIfInBounds_toArray, List.set_cons_zero, List.set_cons_succ]
                        refine wpAnyH_ready (rs := [1]) (by kernel_rfl) (by simp) ?_
                        refine consL rfl (fun K hK => ?_) AllReadyH.nil
                        · rw [if_pos (by rfl)]
                          refine wp_load_row 107 (.tmp 13) rfl Nb rfl 107 (nv .i64 nl).toArray (0, 0) _ hN u20 rfl iN ?_
                          refine hK.out _ _ trivial (fun hHeld => ?_)
                          clear hK K
                          try simp only [Act.put, List.setIfInBounds_toArray, List.set_cons_zero, List.set_cons_succ]
                          refine wpAnyH_ready (rs := [2]) (by kernel_rfl) (by simp) ?_
                          refine consL rfl (fun K hK => ?_) AllReadyH.nil
                          · rw [if_pos (by rfl)]
                            go_simp
                            go_at_call 81
                            refine (c1.out _).mono ?_
                            rintro e w34 ⟨rfl, hb34⟩
                            have hH34 := hH.below hb34
                            have hN34 := hN.below hb34
                            have hR34 := hR.below hb34
                            have hO34 := hO.below hb34
                            have hS34 := hS.below hb34
                            have hrd34 := hrd.below hb34
                            have hB34 := xtrans hB hb34
                            clear hH hN hR hO hS hrd hB
                            refine hK.out _ _ trivial (fun hHeld => ?_)
                            clear hK K
                            try simp only [Act.put, List.setIfInBounds_toArray, List.set_cons_zero, List.set_cons_succ]
                            refine wpAnyH_ready (rs := [4]) (by kernel_rfl) (by simp) ?_
                            refine consL rfl (fun K hK => ?_) AllReadyH.nil
                            · rw [if_pos (by rfl)]
                              go_simp
                              go_at_call 80
                              refine (c2.out _).mono ?_
                              rintro e w35 ⟨rfl, hb35⟩
                              have hH35 := hH34.below hb35
                              have hN35 := hN34.below hb35
                              have hR35 := hR34.below hb35
                              have hO35 := hO34.below hb35
                              have hS35 := hS34.below hb35
                              have hrd35 := hrd34.below hb35
                              have hB35 := xtrans hB34 hb35
                              clear hH34 hN34 hR34 hO34 hS34 hrd34 hB34
                              refine hK.out _ _ trivial (fun hHeld => ?_)
                              clear hK K
                              try simp only [Act.put, List.setIfInBounds_toArray, List.set_cons_zero, List.set_cons_succ]
                              refine wpAnyH_ready (rs := [5]) (by kernel_rfl) (by simp) ?_
                              refine consL rfl (fun K hK => ?_) AllReadyH.nil
                              · rw [if_pos (by rfl)]
                                refine wpo_store_arr 107 (.tmp 11) (.tmp 85) rfl Hb rfl hH35 rfl HZF.out HLF.out ?_
                                intro w6 hH6 hg6
                                have hR6 := hR35.grown hg6 (ne_some (by omega))
                                have hO6 := hO35.grown hg6 (ne_some (by omega))
                                have hS6 := hS35.grown hg6 (ne_some (by omega))
                                have hrd6 := hrd35.grown hg6 (fun x hx e => hpr x hx (Option.some.inj e).symm)
                                have hB6 := gbelow hB35 hg6 (by omega)
                                refine hK.out _ _ trivial (fun hHeld => ?_)
                                clear hK K
                                try simp only [Act.put, List.setIfInBounds_toArray, List.set_cons_zero, List.set_cons_succ]
                                refine wpAnyH_done (by kernel_rfl) ?_ _
                                go_wp2_with fail
                                exact ⟨⟨i + 1, hip2, congrArg (Value.int .i64) (by have := HP.out; omega), hO6, hS6, hR6, by rw [← HGL.out]; exact hH6, hrd6, hB6⟩, by simp [intOf]; omega⟩
                      · rw [if_pos (by rfl)]
                        refine wp_load_row 107 (.tmp 13) rfl Nb rfl 107 (nv .i64 nl).toArray (0, 0) _ hN u20 rfl iN ?_
                        refine hK.out _ _ trivial (fun hHeld => ?_)
                        clear hK K
                        try simp only [Act.put, List.setIfInBounds_toArray, List.set_cons_zero, List.set_cons_succ]
                        refine wpAnyH_ready (rs := [0]) (by kernel_rfl) (by simp) ?_
                        refine consL rfl (fun K hK => ?_) AllReadyH.nil
                        · rw [if_pos (by rfl)]
                          refine wp_load_row 107 (.tmp 11) rfl Hb rfl 107 (nv .i64 hl).toArray (0, 0) _ hH u20 rfl iH ?_
                          refine hK.out _ _ trivial (fun hHeld => ?_)
                          clear hK K
                          try simp only [Act.put, List.setIfInBounds_toArray, List.set_cons_zero, List.set_cons_succ]
                          refine wpAnyH_ready (rs := [2]) (by kernel_rfl) (by simp) ?_
                          refine consL rfl (fun K hK => ?_) AllReadyH.nil
                          · rw [if_pos (by rfl)]
                            go_simp
                            go_at_call 81
                            refine (c1.out _).mono ?_
                            rintro e w39 ⟨rfl, hb39⟩
                            have hH39 := hH.below hb39
                            have hN39 := hN.below hb39
                            have hR39 := hR.below hb39
                            have hO39 := hO.below hb39
                            have hS39 := hS.below hb39
                            have hrd39 := hrd.below hb39
                            have hB39 := xtrans hB hb39
                            clear hH hN hR hO hS hrd hB
                            refine hK.out _ _ trivial (fun hHeld => ?_)
                            clear hK K
                            try simp only [Act.put, List.setIfInBounds_toArray, List.set_cons_zero, List.set_cons_succ]
                            refine wpAnyH_ready (rs := [4]) (by kernel_rfl) (by simp) ?_
                            refine consL rfl (fun K hK => ?_) AllReadyH.nil
                            · rw [if_pos (by rfl)]
                              go_simp
                              go_at_call 80
                              refine (c2.out _).mono ?_
                              rintro e w40 ⟨rfl, hb40⟩
                              have hH40 := hH39.below hb40
                              have hN40 := hN39.below hb40
                              have hR40 := hR39.below hb40
                              have hO40 := hO39.below hb40
                              have hS40 := hS39.below hb40
                              have hrd40 := hrd39.below hb40
                              have hB40 := xtrans hB39 hb40
                              clear hH39 hN39 hR39 hO39 hS39 hrd39 hB39
                              refine hK.out _ _ trivial (fun hHeld => ?_)
                              clear hK K
                              try simp only [Act.put, List.setIfInBounds_toArray, List.set_cons_zero, List.set_cons_succ]
                              refine wpAnyH_ready (rs := [5]) (by kernel_rfl) (by simp) ?_
                              refine consL rfl (fun K hK => ?_) AllReadyH.nil
                              · rw [if_pos (by rfl)]
                                refine wpo_store_arr 107 (.tmp 11) (.tmp 85) rfl Hb rfl hH40 rfl HZF.out HLF.out ?_
                                intro w6 hH6 hg6
                                have hR6 := hR40.grown hg6 (ne_some (by omega))
                                have hO6 := hO40.grown hg6 (ne_some (by omega))
                                have hS6 := hS40.grown hg6 (ne_some (by omega))
                                have hrd6 := hrd40.grown hg6 (fun x hx e => hpr x hx (Option.some.inj e).symm)
                                have hB6 := gbelow hB40 hg6 (by omega)
                                refine hK.out _ _ trivial (fun hHeld => ?_)
                                clear hK K
                                try simp only [Act.put, List.setIfInBounds_toArray, List.set_cons_zero, List.set_cons_succ]
                                refine wpAnyH_done (by kernel_rfl) ?_ _
                                go_wp2_with fail
                                exact ⟨⟨i + 1, hip2, congrArg (Value.int .i64) (by have := HP.out; omega), hO6, hS6, hR6, by rw [← HGL.out]; exact hH6, hrd6, hB6⟩, by simp [intOf]; omega⟩
            · have hle : len ≤ p := by rw [parts_lt] at hip2; omega
              have hi : i = parts len := by unfold parts at *; omega
              have hid : decide ((p : Int) < (len : Int)) = false := decide_eq_false (by omega)
              have HACC := Lib.hid (show accN (rOf key) bs i = acc (rOf key) bs by unfold acc; rw [HBL.out, hi])
              have hl0 := hrd.1
              have hnl : ¬ p < len := by omega
              have hid' : decide (p < len) = false := decide_eq_false hnl
              have hle3 : (p : Int) ≤ 1000000016 := by unfold parts at hi; omega
              clear hp hi hip2 hip
              go_wp2_with (first
                | (show wpList _ _ _ (_ :: _) _ _; refine wp_build rfl 76 _ rfl (.agg (nv .u8 (List.replicate 16 0)).toArray) (by kernel_rfl) ?_)
                | (refine wp_store_new rfl 76 (.tmp 15) (.tmp 86) rfl rfl _ (nv .u8 (List.replicate 16 0)).toArray rfl HZ16.out (by kernel_rfl) (nv_one _ _) ?_)
                | fail)
              obtain ⟨Ub, hUb⟩ : ∃ Ub, Ub = wr.heap.size := ⟨_, rfl⟩
              have hL4 : Hb < Ub := by rw [hUb]; exact hH.lt
              have hU := Blk.new wr 76 .u8 (List.replicate 16 0) _ rfl
              rw [← hUb] at hU ⊢
              have hhd := dg_by (accN (rOf key) bs i)
              have hvl := le_by20 (accN (rOf key) bs i) (by have := accN_lt (rOf key) bs i; have := PP_small; omega)
              obtain ⟨hl, hhl⟩ : ∃ hl, hl = by_ 20 (accN (rOf key) bs i) := ⟨_, rfl⟩
              rw [← hhl] at hhd hvl hH
              have HTAG := Lib.hid (show oL hl sd 16 = tag key bs by rw [oL_end hhd hsd, hvl, HACC.out, HS1.out]; rfl)
              refine at_world (fun V => Blk V Ub 76 .u8 (oL hl sd 0) ∧ Blk V (w.heap.size + 1) 76 .u8 (List.replicate 16 0) ∧ Blk V Sb 107 .i64 sd ∧ Blk V Hb 107 .i64 hl ∧ Below w.heap.size w V)
                ⟨by rw [o_start]; exact hU, hO.alloc _, hS.alloc _, hH.alloc _, xalloc hB _⟩ ?_
              clear hU hO hS hR hH hrd hB hUb hid hhl hvl wr
              rintro W ⟨hU, hO, hS, hH, hB⟩
              go_loopw [16, 17] (fun c r wr => ∃ i : Nat, i ≤ 16 ∧ r = .int .i64 i ∧ c = .int .i64 ((car hl sd i : Nat) : Int) ∧ Blk wr Ub 76 .u8 (oL hl sd i) ∧ Blk wr (w.heap.size + 1) 76 .u8 (List.replicate 16 0) ∧ Blk wr Sb 107 .i64 sd ∧ Blk wr Hb 107 .i64 hl ∧ Below w.heap.size w wr) (fun _ r _ => 16 - (intOf r).toNat)
              case atStart => exact ⟨0, by decide, rfl, rfl, hU, hO, hS, hH, hB⟩
              case round =>
                clear hU hO hS hH hB
                obtain ⟨i, hi, rfl, rfl, hU, hO, hS, hH, hB⟩ := hrel
                by_cases hlt : i < 16
                · have hx := hH.cell i (by rw [hhd.1]; omega)
                  have hy := hS.cell i (by rw [hsd.1]; omega)
                  have hxl := getD_lt hl hhd.2 i
                  have hyl := getD_lt sd hsd.2 i
                  have hcl := car_lt hhd.2 hsd.2 i
                  have hbs := car_succ hl sd i
                  have hset := o_succ hl sd i hlt
                  have hsd2 : addD hl sd i = (hl.getD i 0 + sd.getD i 0 + car hl sd i) % 256 := rfl
                  obtain ⟨x, hx0⟩ : ∃ x, x = hl.getD i 0 := ⟨_, rfl⟩
                  obtain ⟨y, hy0⟩ : ∃ y, y = sd.getD i 0 := ⟨_, rfl⟩
                  obtain ⟨c, hc0⟩ : ∃ c, c = car hl sd i := ⟨_, rfl⟩
                  obtain ⟨d, hd0⟩ : ∃ d, d = addD hl sd i := ⟨_, rfl⟩
                  obtain ⟨n, hn0⟩ : ∃ n, n = x + y + c := ⟨_, rfl⟩
                  rw [← hx0] at hx hxl hbs hsd2
                  rw [← hy0] at hy hyl hbs hsd2
                  rw [← hc0] at hcl hbs hsd2
                  rw [← hd0] at hset hsd2
                  rw [← hn0] at hbs hsd2
                  rw [← hc0]
                  have HSET := Lib.hid hset
                  have HBS := Lib.hid hbs
                  have e1 : (x : Int) + (y : Int) + (c : Int) = (n : Int) := by omega
                  have e2 : (n : Int) % 256 = (d : Int) := by omega
                  have hnl : n < 1000 := by omega
                  have hdl : d < 256 := by omega
                  have hid : decide ((i : Int) < 16) = true := decide_eq_true (by omega)
                  clear hx0 hy0 hc0 hd0 hn0 hset hbs hsd2
                  go_wp2_with fail
                  go_quiet (fail)
                  have hU2 := hU.drewN nq
                  have hf := hU2.frozen i
                  have hcell := hU2.cell i (by rw [o_len hl sd i hi]; exact hlt)
                  have hfin := hU2.set i d
                  rw [HSET.out] at hfin
                  generalize (oL hl sd i).getD i 0 = z at hcell
                  clear hx hy
                  try rw [e1]
                  go_wp2_with fail
                  exact ⟨⟨i + 1, by omega, by go_num, by rw [HBS.out]; rfl, hfin, (hO.drewN nq).other _ _ (by show w.heap.size + 1 ≠ Ub; omega), (hS.drewN nq).other _ _ (by show Sb ≠ Ub; omega), (hH.drewN nq).other _ _ (by show Hb ≠ Ub; omega), xset (below_drewN hB nq) (by show w.heap.size ≤ Ub; omega) _⟩, by simp [intOf]; omega⟩
                · obtain rfl : i = 16 := by omega
                  obtain ⟨f, hf⟩ : ∃ f, f = oL hl sd 16 := ⟨_, rfl⟩
                  rw [← hf] at hU HTAG
                  have hfl : f.length = 16 := by rw [hf, o_len hl sd 16 (by omega)]
                  have HZ := Lib.hid (show (Try.prog.info? 76).map (·.size) = some f.length by rw [hfl]; kernel_rfl)
                  have HZ2 := Lib.hid (show (Try.prog.info? 76).map (·.size) = some (nv .u8 f).toArray.size by simp only [List.size_toArray, nv_length]; rw [hfl]; kernel_rfl)
                  have HS2 := Lib.hid (show (List.replicate 16 0).length = f.length by rw [hfl]; rfl)
                  clear hf hfl
                  rw [show ((16 : Nat) : Int) = 16 from rfl]
                  go_wp2_with (first
                    | (refine wp_load_arr rfl 76 (.tmp 15) rfl Ub rfl hU 16 5 Try.underlying76 HZ.out ?_)
                    | (refine wp_store_arr rfl 76 (.tmp 4) (.tmp 107) rfl (w.heap.size + 1) rfl hO rfl HZ.out HS2.out ?_; intro W9 hO9 hg9)
                    | fail)
                  exact bodyPost_ret (results_cell_row rfl _ _ (w.heap.size + 1) 76 (nv .u8 f).toArray (0, 0) _ rfl hO9 Try.underlying76 rfl HZ2.out) rfl ⟨by rw [← HTAG.out]; rfl, gbelow hB hg9 (by omega)⟩
end Go.Proofs.Ytpcppnoomogloaa.Po
