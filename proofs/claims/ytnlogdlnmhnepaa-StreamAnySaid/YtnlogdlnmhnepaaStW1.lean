/- Walks: the blocks from a counter on (an iterator that keeps its counter in a variable). -/
import Derived.Test.YtnlogdlnmhnepaaChW4
import Derived.Test.YtnlogdlnmhnepaaRound
import Derived.Test.YtnlogdlnmhnepaaStPlain
namespace Go.Proofs.Ytnlogdlnmhnepaa.St
set_option linter.unusedSimpArgs false
set_option linter.unusedVariables false
open Go.RowKit Go.Shelf Go.Proofs.Ytnlogdlnmhnepaa.Ch
attribute [local go_sem] Oper.semAt_some

set_option maxHeartbeats 1000000 in
theorem blocks_any (w : World) (key nonce : List Nat) (ct : Nat) :
    Calls Try.prog 13 #[.agg (nv .u8 key).toArray, .int .u32 (ct : Int), .agg (nv .u8 nonce).toArray] w fun e w' =>
      e = .returned (.func (.func 17) #[] #[.pointer (some ⟨w.heap.size, 0, none⟩), .pointer (some ⟨w.heap.size + 1, 0, none⟩), .pointer (some ⟨w.heap.size + 1 + 1, 0, none⟩)]) ∧
      w' = ((w.alloc (.cells (nv .u8 key).toArray 22)).alloc (.cells (nv .u32 [ct]).toArray 23)).alloc (.cells (nv .u8 nonce).toArray 24) := by
  go_enter Try.func13, Try.ntmps13
  go_wp2
  go_ret
  exact ⟨rfl, rfl⟩

/-- What the iterator reads: its key, its counter, its nonce. -/
def Its (Bk Bc Bn : Nat) (key nonce : List Nat) (c : Nat) (W : World) : Prop := Blk W Bk 22 .u8 key ∧ Blk W Bc 23 .u32 [c] ∧ Blk W Bn 24 .u8 nonce
noncomputable def cnt (Bc : Nat) (W : World) : Nat := match W.cell? ⟨Bc, 0, none⟩ with | some (.int _ n) => n.toNat | _ => 0
theorem cnt_of {Bk Bc Bn : Nat} {key nonce : List Nat} {c : Nat} {W : World} (h : Its Bk Bc Bn key nonce c W) : cnt Bc W = c := by
  unfold cnt
  rw [h.2.1.cell 0 (by simp)]
  simp

set_option maxRecDepth 100000 in
set_option maxHeartbeats 2000000 in
theorem blocks1_in (n : Nat) (l Bk Bc Bn : Nat) (key nonce : List Nat) (ct N : Nat) (hk : key.length = 32) (hkb : ∀ x ∈ key, x < 256) (hn : nonce.length = 12) (hnb : ∀ x ∈ nonce, x < 256) (hN : ct + N ≤ 4294967296)
    (J Jd : Nat → World → Prop) (Fin : World → Prop)
    (hI : ∀ k W, J k W → k < N ∧ Its Bk Bc Bn key nonce (ct + k) W)
    (hId : ∀ k W, Jd k W → k + 1 < N ∧ Its Bk Bc Bn key nonce (ct + k) W)
    (hB : ∀ k W W', J k W → Below W.heap.size W W' → J k W')
    (hS : ∀ k W, Jd k W → J (k + 1) (W.setCell ⟨Bc, 0, none⟩ (.int .u32 ((ct + (k + 1) : Nat) : Int))))
    (hY : ∀ k W, J k W → YieldAt Fence.wide (n - 1) Try.prog l #[.agg (bv (block key (ct + k) nonce)).toArray] W fun e W' => (e = .returned (.bool true) ∧ Jd k W') ∨ (e = .returned (.bool false) ∧ Fin W'))
    (W : World) (h0 : J 0 W) :
    CallsIn Fence.wide n Try.prog 17 #[.func (.yield l) #[] #[], .pointer (some ⟨Bk, 0, none⟩), .pointer (some ⟨Bc, 0, none⟩), .pointer (some ⟨Bn, 0, none⟩)] W fun e W' => (∃ v, e = .returned v) ∧ Fin W' := by
  have HK := Lib.hid (show (Try.prog.info? 22).map (·.size) = some key.length by rw [hk]; kernel_rfl)
  have HN := Lib.hid (show (Try.prog.info? 24).map (·.size) = some nonce.length by rw [hn]; kernel_rfl)
  have cB := Lib.hid (fun W c h => Block_any W key nonce c hk hkb hn hnb h)
  clear hk hn
  have HI := Lib.hid hI
  have HId := Lib.hid hId
  have HB := Lib.hid hB
  have HS := Lib.hid hS
  have HY := Lib.hid hY
  clear hI hId hB hS hY
  refine callsIn_of_wp Try.func17 rfl trivial ?_ rfl
  simp only [Try.ntmps17, List.size_toArray, List.length_cons, List.length_nil, Nat.reduceAdd, Nat.reduceSub, Array.replicate_succ, Array.replicate_zero, List.push_toArray, List.append_toArray, List.nil_append, List.cons_append]
  gi_wp2
  gi_loopw [5] (fun s wr => ∃ k : Nat, J k wr) (fun s wr => ct + N - cnt Bc wr)
  case atStart => exact ⟨0, h0⟩
  case round =>
    obtain ⟨k, hJ⟩ := hrel
    obtain ⟨hlt, hI0⟩ := HI.out k wr hJ
    have hcn := cnt_of hI0
    obtain ⟨hk, hc, hn⟩ := hI0
    obtain ⟨c, hc0⟩ : ∃ c, c = ct + k := ⟨_, rfl⟩
    rw [← hc0] at hc hcn
    have hcc : wr.cell? ⟨Bc, 0, none⟩ = some (.int .u32 (c : Int)) := hc.cell 0 (by simp)
    have hcb : c < 4294967296 := by omega
    have HC0 := Lib.hid hc0
    have HCN := Lib.hid hcn
    clear hc0 hcn
    gi_wp2_with (first
      | (refine listW_of rfl rfl fun K hK => wpo_load_arr 22 (.tmp 1) rfl Bk rfl hk 32 5 Try.underlying22 HK.out (hK _ _ ?_))
      | (refine listW_of rfl rfl fun K hK => wpo_load_arr 24 (.tmp 3) rfl Bn rfl hn 12 5 Try.underlying24 HN.out (hK _ _ ?_))
      | fail)
    refine ⟨trivial, (fun hh => by cases hh), ?_⟩
    refine (callsIn_wide.2 (cB.out _ _ hcb)).mono ?_
    rintro e w1 ⟨rfl, hb1⟩
    have hJ1 := HB.out k wr w1 hJ hb1
    obtain ⟨fn, tmps, assign, body, hy, hR⟩ := HY.out k w1 hJ1
    rw [← HC0.out] at hy
    clear hk hc hn hcc
    gi_wp2
    refine ⟨(fun hh => by cases hh), ?_⟩
    refine hR.mono ?_
    rintro e W3 (⟨rfl, hJ3⟩ | ⟨rfl, hF⟩)
    · obtain ⟨hlt3, hI3⟩ := HId.out k W3 hJ3
      have hcn3 := cnt_of hI3
      have hSt := HS.out k W3 hJ3
      obtain ⟨_, hc3, _⟩ := hI3
      have hcc3 : W3.cell? ⟨Bc, 0, none⟩ = some (.int .u32 (c : Int)) := by rw [HC0.out]; exact hc3.cell 0 (by simp)
      have hf3 := hc3.frozen 0
      obtain ⟨c', hc'⟩ : ∃ c', c' = ct + (k + 1) := ⟨_, rfl⟩
      have hw : IntKind.u32.wrap ((c : Int) + 1) = (c' : Int) := by have := HC0.out; rw [IntKind.wrap_u32]; omega
      have hcs : cnt Bc (W3.setCell ⟨Bc, 0, none⟩ (.int .u32 ((ct + (k + 1) : Nat) : Int))) = ct + (k + 1) := cnt_of (HI.out _ _ hSt).2
      have HCS := Lib.hid hcs
      rw [← hc'] at hSt HCS
      have HC1 := Lib.hid hc'
      clear hcn3 hc3 hcs hc'
      gi_wp2
      exact ⟨⟨k + 1, hSt⟩, by rw [HCS.out, HCN.out]; have := HC0.out; have := HC1.out; omega⟩
    · gi_wp2
      go_end0
      exact ⟨⟨_, rfl⟩, hF⟩
end Go.Proofs.Ytnlogdlnmhnepaa.St
