/- What the frames of the statements' proofs share: arguments are opened. -/
import Derived.Test.YtpcppnoomogloaaRows
import Derived.Test.YtpcppnoomogloaaFnd
import Derived.ProofKit
import Derived.OpenShut
import Derived.ChangeOld
set_option maxRecDepth 4000
namespace Go.Proofs.Ytpcppnoomogloaa
set_option linter.unusedSimpArgs false
set_option linter.unusedVariables false
open Go.ChangeShapes Go.WideShapes Go.ChangeAt Go.RowKit

theorem own : ownKnob Try.prog.godebug = none := by kernel_rfl
theorem laidOut : laidOutB Try.prog = true := by kernel_rfl
theorem cellsB : Try.prog.cellsOf 5 = 1 := by kernel_rfl

theorem lt_of_cell {w : World} {b off : Nat} {v : Value} (h : w.cell? ⟨b, off, none⟩ = some v) : b < w.heap.size := by
  by_cases hb : b < w.heap.size
  · exact hb
  · simp [World.cell?, Array.getElem?_eq_none (by omega : w.heap.size ≤ b)] at h

theorem u8_of {n : Int} (h : (Lit.int .u8 n).wf = true) : ∃ m : Nat, n = (m : Int) ∧ m < 256 := by
  have := bounds_u8 h
  exact ⟨n.toNat, by omega, by omega⟩

theorem mem_cases {x m : Nat} {bs : List Nat} (hx : x ∈ m :: bs) (hm : m < 256) (hb : x ∈ bs → x < 256) : x < 256 := by
  rcases List.mem_cons.1 hx with rfl | hx
  · exact hm
  · exact hb hx
theorem nats_of (zs : List Int) (h : ∀ n ∈ zs, (Lit.int .u8 n).wf = true) : ∃ bs : List Nat, zs = bs.map (fun n : Nat => (n : Int)) ∧ ∀ x ∈ bs, x < 256 := by
  induction zs with
  | nil => exact ⟨[], rfl, by simp⟩
  | cons z zs ih =>
    obtain ⟨bs, rfl, hb⟩ := ih (fun n hn => h n (List.mem_cons_of_mem _ hn))
    obtain ⟨m, rfl, hm⟩ := u8_of (h z List.mem_cons_self)
    exact ⟨m :: bs, rfl, fun x hx => mem_cases hx hm (hb x)⟩

section
variable {H : Type} {enc : TypeId × Value → H} {W : World}
/-- A slice of bytes among the arguments. -/
theorem row8_of {a : Option Addr} {len cap : Nat} {d : DataW H} {p : List MemPlace} (h : DataW.Trod enc Try.prog W 0 (fun _ => true) true 25 (.slice a len cap) d p) : ∃ bs, Row8 W a len cap bs := by
  obtain ⟨fuel, hf⟩ := h
  rcases open_ints Try.underlying25 Try.underlying5 cellsB hf with ⟨hcs, _⟩ | ⟨x, l, c, zs, hcs, _, hl, hm, hz, _, hcell, hwz⟩
  · simp [Value.cells] at hcs
    obtain ⟨rfl, rfl, rfl⟩ := hcs
    exact ⟨[], rfl, Nat.le_refl _, by decide, by simp, fun _ => rfl, .inl rfl⟩
  · simp [Value.cells] at hcs
    obtain ⟨rfl, rfl, rfl⟩ := hcs
    simp only [if_true] at hz
    obtain ⟨bs, rfl, hb⟩ := nats_of zs hwz
    rw [List.length_map] at hz
    refine ⟨bs.take len, by simp; omega, hl, hm, fun x hx => hb x (List.mem_of_mem_take hx), by simp, ?_⟩
    by_cases h0 : len = 0
    · exact .inl h0
    · obtain ⟨b, off, spot⟩ := x
      have hc := hcell 0 (by simp; omega)
      have hspot : spot = none := by simpa [Addr.add] using World.cell?_spot hc
      subst hspot
      refine .inr ⟨b, off, rfl, lt_of_cell (by simpa [Addr.add] using hc), fun i hi => ?_⟩
      have hc := hcell i (by simp; omega)
      have e : (⟨b, off, none⟩ : Addr).add i = ⟨b, off + i, none⟩ := by
        unfold Addr.add
        by_cases h : i = 0
        · subst h; rfl
        · rw [if_neg h]
      rw [e] at hc
      rw [hc]
      have : (bs.take len).getD i 0 = bs.getD i 0 := by simp [List.getD_eq_getElem?_getD, hi]
      rw [this]
      simp only [List.getD_eq_getElem?_getD, List.getElem?_map]
      cases bs[i]? <;> rfl

/-- An array of bytes among the arguments. -/
theorem arr8_of {n t : Nat} {r : Reach} {base : Nat} {v : Value} {d : DataW H} {p : List MemPlace} (ht : Try.prog.underlying t = some (.array n 5)) (hn : Try.prog.cellsOf t = n)
    (hv : Value.okWide Try.prog W r base t v) (h : DataW.Trod enc Try.prog W 0 (fun _ => true) true t v d p) : ∃ bs : List Nat, v = .agg (bv bs).toArray ∧ bs.length = n ∧ ∀ x ∈ bs, x < 256 := by
  obtain ⟨cs, rfl, hs⟩ : ∃ cs, v = .agg cs ∧ cs.size = n := by
    simp only [Value.okWide, ht] at hv
    obtain ⟨cs, h1, h2, _⟩ := hv
    exact ⟨cs, h1, by rw [h2, hn]⟩
  obtain ⟨fuel, hf⟩ := h
  obtain ⟨xs, m, _, _, _, _, hel⟩ := DataW.trod_array ht hf
  rw [cellsB] at hel
  have hz : ∀ i (hi : i < n), ∃ z : Nat, cs[i]? = some (.int .u8 (z : Int)) ∧ z < 256 := by
    intro i hi
    have h1 := hel i hi
    have h2 : ∃ y, xs[i]? = some y := by
      have : i < xs.length := by omega
      exact ⟨xs[i], List.getElem?_eq_getElem this⟩
    obtain ⟨y, hy⟩ := h2
    rw [hy] at h1
    obtain ⟨z, hz, _, hw⟩ := DataW.trod_int Try.underlying5 h1
    obtain ⟨k, rfl, hk⟩ := u8_of hw
    refine ⟨k, ?_, hk⟩
    have h3 := congrArg (·[0]?) hz
    simpa [Value.cells, List.getElem?_take, List.getElem?_drop] using h3
  have hall : ∀ (k : Nat) (cs : List Value), cs.length = k → (∀ i, i < k → ∃ z : Nat, cs[i]? = some (.int .u8 (z : Int)) ∧ z < 256) → ∃ bs : List Nat, cs = bv bs ∧ ∀ x ∈ bs, x < 256 := by
    intro k
    induction k with
    | zero => intro cs h _; exact ⟨[], List.eq_nil_of_length_eq_zero h, by simp⟩
    | succ k ih =>
      intro cs h hc
      cases cs with
      | nil => simp at h
      | cons c cs =>
        obtain ⟨bs, rfl, hb⟩ := ih cs (by simpa using h) (fun i hi => by simpa using hc (i + 1) (by omega))
        obtain ⟨z, hz, hz2⟩ := hc 0 (by omega)
        simp at hz
        subst hz
        exact ⟨z :: bs, rfl, fun x hx => mem_cases hx hz2 (hb x)⟩
  obtain ⟨bs, hbs, hb⟩ := hall n cs.toList (by simpa using hs) (fun i hi => by simpa using hz i hi)
  refine ⟨bs, ?_, ?_, hb⟩
  · rw [← hbs]
  · have := congrArg List.length hbs
    simp [bv] at this; omega
end
end Go.Proofs.Ytpcppnoomogloaa
