/- The walk of the statement PolyTells: tags and clamped halves are the document's. -/
import Derived.Test.YtgfmglgibfhimaaPoA
import Derived.Test.YtgfmglgibfhimaaPrW5
namespace Go.Proofs.Ytgfmglgibfhimaa.Po
open Go.RowKit

/-- What a world holds of a key, a half and a text. -/
def KH (w : World) (B C : Nat) (t u : TypeId) (key half : List Nat) (a : Option Addr) (len cap : Nat) (bs : List Nat) (W : World) : Prop := Blk W B t .u8 key ∧ Blk W C u .u8 half ∧ RdB W a len cap bs ∧ Below w.heap.size w W
theorem KH.below {w W W' : World} {B C : Nat} {t u : TypeId} {key half : List Nat} {a : Option Addr} {len cap : Nat} {bs : List Nat} (h : KH w B C t u key half a len cap bs W) (hb : Below W.heap.size W W') : KH w B C t u key half a len cap bs W' :=
  ⟨h.1.below hb, h.2.1.below hb, h.2.2.1.below hb, xtrans h.2.2.2 hb⟩
theorem KH.drew {w W : World} {B C : Nat} {t u : TypeId} {key half : List Nat} {a : Option Addr} {len cap : Nat} {bs : List Nat} (h : KH w B C t u key half a len cap bs W) : KH w B C t u key half a len cap bs W.drew := ⟨h.1, h.2.1, h.2.2.1, below_drewN h.2.2.2 1⟩

set_option maxRecDepth 100000 in
set_option maxHeartbeats 1000000 in
theorem tells_walk (key half : List Nat) (a : Option Addr) (len cap : Nat) (bs : List Nat) (w : World) (hk : key.length = 32) (hkb : ∀ x ∈ key, x < 256) (hh : half.length = 16) (hhb : ∀ x ∈ half, x < 256) (hr : Row8 w a len cap bs) :
    Calls Try.prog 3 #[.agg (bv key).toArray, .agg (bv half).toArray, .slice a len cap] w fun e w' => e = .returned (.bool true) ∧ Below w.heap.size w w' := by
  have hle : len ≤ 9223372036854775807 := by have := hr.2.1; have := hr.2.2.1; omega
  by_cases h150 : len ≤ 150
  · have hR : RdB w a len cap bs := ⟨by omega, hr⟩
    have hd : decide (150 < len) = false := decide_eq_false (by omega)
    have c1 := Lib.hid (fun W h => Sum_any W key a len cap bs hk hkb h)
    have c2 := Lib.hid (fun W h => rSum_any W key a len cap bs hk hkb h)
    have c3 := Lib.hid (fun W => Clamp_any W half hh hhb)
    have c4 := Lib.hid (fun W => rClamp_any W half hh hhb)
    have ht : (tag key bs).length = 16 := by unfold tag; exact by_length _ _
    have hcl : (clamp half).length = 16 := by rw [clamp_length]
    obtain ⟨tg, htg⟩ : ∃ tg, tg = tag key bs := ⟨_, rfl⟩
    obtain ⟨cl, hcl0⟩ : ∃ cl, cl = clamp half := ⟨_, rfl⟩
    rw [← htg] at c1 c2 ht
    rw [← hcl0] at c3 c4 hcl
    have u1 := Try.underlying22
    have u2 := Try.underlying23
    have i1 : (Try.prog.info? 22).map (·.size) = some (nv .u8 key).length := by rw [nv_length, hk]; kernel_rfl
    have i2 : (Try.prog.info? 23).map (·.size) = some (nv .u8 half).length := by rw [nv_length, hh]; kernel_rfl
    have g16 := Lib.hid (show Try.prog.eqGuardType Try.prog.depth 23 = false by kernel_rfl)
    obtain ⟨i0, hi0⟩ : ∃ i0, Try.prog.info? 5 = some i0 ∧ i0.size = 1 := info8a
    have e1 := Lib.hid (fun W => run_eql_arr (P := Try.prog) Try.underlying23 Try.underlying5 hi0.1 hi0.2 .u8 tg tg ht ht W)
    have e2 := Lib.hid (fun W => run_eql_arr (P := Try.prog) Try.underlying23 Try.underlying5 hi0.1 hi0.2 .u8 cl cl hcl hcl W)
    rw [decide_eq_true rfl] at e1 e2
    clear htg hcl0 hi0 ht hcl
    go_enter Try.func3, Try.ntmps3
    have hK0 : Blk ((w.alloc (.cells (nv .u8 key).toArray 22)).alloc (.cells (nv .u8 half).toArray 23)) w.heap.size 22 .u8 key := (Blk.new w _ _ key _ rfl).alloc _
    have hN0 : Blk ((w.alloc (.cells (nv .u8 key).toArray 22)).alloc (.cells (nv .u8 half).toArray 23)) (w.heap.size + 1) 23 .u8 half := by
      have := Blk.new (w.alloc (.cells (nv .u8 key).toArray 22)) 23 .u8 half _ rfl
      rw [World.size_alloc] at this
      exact this
    go_wp2_with (first
      | (go_at_call 8; refine (awake_any _).mono ?_; rintro e w1 ⟨rfl, hb1⟩)
      | fail)
    have s1 : KH w w.heap.size (w.heap.size + 1) 22 23 key half a len cap bs w1 := ⟨hK0.below hb1, hN0.below hb1, (hR.below (xalloc (xnew _ _) _)).below hb1, xtrans (xalloc (xnew _ _) _) hb1⟩
    clear hK0 hN0 hb1 hR hr
    refine wp_region_class (KH w w.heap.size (w.heap.size + 1) 22 23 key half a len cap bs) (by kernel_rfl) (by kernel_rfl) (s1.drew) ?_
    refine qY (v := ?_) rfl ?_ ?_
    rotate_left
    · (intro w' _; go_simp; try with_reducible rfl)
    rotate_left
    try simp only [Act.put, List.setIfInBounds_toArray, List.set_cons_zero, List.set_cons_succ]
    refine qY (v := ?_) rfl ?_ ?_
    rotate_left
    · (intro w' _; go_simp; try with_reducible rfl)
    rotate_left
    try simp only [Act.put, List.setIfInBounds_toArray, List.set_cons_zero, List.set_cons_succ]
    refine qI (v := .agg (nv .u8 key).toArray) (yieldsIf_load_mid (by rfl) 22 (.tmp 3) rfl w.heap.size 0 (by rfl) (nv .u8 key) _ (fun _ h => blk_range h.1) u1 rfl i1) ?_
    try simp only [Act.put, List.setIfInBounds_toArray, List.set_cons_zero, List.set_cons_succ]
    refine qY (v := ?_) rfl ?_ ?_
    rotate_left
    · (intro w' _; go_simp; try with_reducible rfl)
    rotate_left
    try simp only [Act.put, List.setIfInBounds_toArray, List.set_cons_zero, List.set_cons_succ]
    refine qC (f := 9) (args := #[.agg (nv .u8 key).toArray, .slice a len cap]) (v := .agg (nv .u8 tg).toArray) rfl ?_ (fun W hW => (c1.out W hW.2.2.1).mono fun e W' h => ⟨h.1, hW.below h.2⟩) ?_
    · (intro w' _; go_simp; try with_reducible rfl)
    try simp only [Act.put, List.setIfInBounds_toArray, List.set_cons_zero, List.set_cons_succ]
    refine qI (v := .agg (nv .u8 key).toArray) (yieldsIf_load_mid (by rfl) 22 (.tmp 3) rfl w.heap.size 0 (by rfl) (nv .u8 key) _ (fun _ h => blk_range h.1) u1 rfl i1) ?_
    try simp only [Act.put, List.setIfInBounds_toArray, List.set_cons_zero, List.set_cons_succ]
    refine qY (v := ?_) rfl ?_ ?_
    rotate_left
    · (intro w' _; go_simp; try with_reducible rfl)
    rotate_left
    try simp only [Act.put, List.setIfInBounds_toArray, List.set_cons_zero, List.set_cons_succ]
    refine qC (f := 10) (args := #[.agg (nv .u8 key).toArray, .slice a len cap]) (v := .agg (nv .u8 tg).toArray) rfl ?_ (fun W hW => (c2.out W hW.2.2.1).mono fun e W' h => ⟨h.1, hW.below h.2⟩) ?_
    · (intro w' _; go_simp; try with_reducible rfl)
    try simp only [Act.put, List.setIfInBounds_toArray, List.set_cons_zero, List.set_cons_succ]
    refine qI (v := .bool true) (yieldsEql (by rfl) rfl (by rfl) (by rfl) g16.out e1.out) ?_
    try simp only [Act.put, List.setIfInBounds_toArray, List.set_cons_zero, List.set_cons_succ]
    refine qY (v := ?_) rfl ?_ ?_
    rotate_left
    · (intro w' _; go_simp; try with_reducible rfl)
    rotate_left
    try simp only [Act.put, List.setIfInBounds_toArray, List.set_cons_zero, List.set_cons_succ]
    refine qY (v := ?_) rfl ?_ ?_
    rotate_left
    · (intro w' _; go_simp; try with_reducible rfl)
    rotate_left
    try simp only [Act.put, List.setIfInBounds_toArray, List.set_cons_zero, List.set_cons_succ]
    refine qI (v := .agg (nv .u8 half).toArray) (yieldsIf_load_mid (by rfl) 23 (.tmp 4) rfl (w.heap.size + 1) 0 (by rfl) (nv .u8 half) _ (fun _ h => blk_range h.2.1) u2 rfl i2) ?_
    try simp only [Act.put, List.setIfInBounds_toArray, List.set_cons_zero, List.set_cons_succ]
    refine qC (f := 11) (args := #[.agg (nv .u8 half).toArray]) (v := .agg (nv .u8 cl).toArray) rfl ?_ (fun W hW => (c3.out W).mono fun e W' h => ⟨h.1, hW.below h.2⟩) ?_
    · (intro w' _; go_simp; try with_reducible rfl)
    try simp only [Act.put, List.setIfInBounds_toArray, List.set_cons_zero, List.set_cons_succ]
    refine qI (v := .agg (nv .u8 half).toArray) (yieldsIf_load_mid (by rfl) 23 (.tmp 4) rfl (w.heap.size + 1) 0 (by rfl) (nv .u8 half) _ (fun _ h => blk_range h.2.1) u2 rfl i2) ?_
    try simp only [Act.put, List.setIfInBounds_toArray, List.set_cons_zero, List.set_cons_succ]
    refine qC (f := 12) (args := #[.agg (nv .u8 half).toArray]) (v := .agg (nv .u8 cl).toArray) rfl ?_ (fun W hW => (c4.out W).mono fun e W' h => ⟨h.1, hW.below h.2⟩) ?_
    · (intro w' _; go_simp; try with_reducible rfl)
    try simp only [Act.put, List.setIfInBounds_toArray, List.set_cons_zero, List.set_cons_succ]
    refine qI (v := .bool true) (yieldsEql (by rfl) rfl (by rfl) (by rfl) g16.out e2.out) ?_
    try simp only [Act.put, List.setIfInBounds_toArray, List.set_cons_zero, List.set_cons_succ]
    refine qY (v := ?_) rfl ?_ ?_
    rotate_left
    · (intro w' _; go_simp; try with_reducible rfl)
    rotate_left
    try simp only [Act.put, List.setIfInBounds_toArray, List.set_cons_zero, List.set_cons_succ]
    refine qY (v := ?_) rfl ?_ ?_
    rotate_left
    · (intro w' _; go_simp; try with_reducible rfl)
    rotate_left
    try simp only [Act.put, List.setIfInBounds_toArray, List.set_cons_zero, List.set_cons_succ]
    refine wpQuiet_nil ?_
    intro w9 h9
    go_wp2_with fail
    go_ret
    exact ⟨rfl, h9.2.2.2⟩
  · have hd : decide (150 < len) = true := decide_eq_true (by omega)
    go_enter Try.func3, Try.ntmps3
    go_wp2_with (first
      | (go_at_call 8; refine (awake_any _).mono ?_; rintro e w1 ⟨rfl, hb1⟩)
      | fail)
    go_ret
    exact ⟨rfl, xtrans (xalloc (xnew _ _) _) hb1⟩
end Go.Proofs.Ytgfmglgibfhimaa.Po
