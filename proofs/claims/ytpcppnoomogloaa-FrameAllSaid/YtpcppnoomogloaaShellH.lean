/- What the frames of the statements' proofs share: heads among the arguments are opened. -/
import Derived.Test.YtpcppnoomogloaaShell
import Derived.Test.YtpcppnoomogloaaFrX1
set_option maxRecDepth 4000
namespace Go.Proofs.Ytpcppnoomogloaa.Fr
set_option linter.unusedSimpArgs false
set_option linter.unusedVariables false
open Go.ChangeShapes Go.WideShapes Go.ChangeAt Go.RowKit

theorem cellsI : Try.prog.cellsOf 3 = 1 := by kernel_rfl
theorem cellsHd : Try.prog.cellsOf 23 = 5 := by kernel_rfl
section
variable {H : Type} {enc : TypeId × Value → H} {W : World}
theorem head_cells {base : Nat} {spare : Nat → Bool} {held : Bool} {fuel : Nat} {cs : List Value} {x : DataW H × List MemPlace} (h : DataW.trod enc Try.prog W base spare held fuel 23 cs = some x) : ∃ g : Hd, cs = cells5 g := by
  have hf0 : (Try.prog.fieldsOf 23).toList.map (fun f => (f.type, f.offset)) = [(3, 0), (3, 1), (3, 2), (3, 3), (3, 4)] := by kernel_rfl
  have hu : Try.prog.underlying 23 = some (.struct (Try.prog.fieldsOf 23)) := by kernel_rfl
  generalize Try.prog.fieldsOf 23 = fs at hf0 hu
  obtain ⟨xs, n, _, _, hl, hlen, hf⟩ := DataW.trod_struct hu h
  rw [cellsHd] at hl
  have hg : ∀ i, i < 5 → ∃ z : Int, cs[i]? = some (.int .i64 z) := by
    intro i hi
    have h1 : fs.toList.length = 5 := by have := congrArg List.length hf0; simpa using this
    have hsz : fs.size = 5 := by simpa using h1
    have h2 : fs[i]? = some fs[i] := Array.getElem?_eq_getElem (by omega)
    have h3 : (fs[i].type, fs[i].offset) = (3, i) := by
      have h4 := congrArg (fun l => l[i]?) hf0
      simp only [List.getElem?_map] at h4
      rw [show fs.toList[i]? = some fs[i] by simp [h2]] at h4
      have h5 : [(3, 0), (3, 1), (3, 2), (3, 3), (3, 4)][i]? = some (3, i) := by
        match i, hi with
        | 0, _ => rfl
        | 1, _ => rfl
        | 2, _ => rfl
        | 3, _ => rfl
        | 4, _ => rfl
      rw [h5] at h4
      exact Option.some.inj h4
    simp only [Prod.mk.injEq] at h3
    have h5 := hf i _ h2
    rw [h3.1, h3.2, cellsI] at h5
    have h6 : ∃ y, xs[i]? = some y := ⟨xs[i]'(by omega), List.getElem?_eq_getElem (by omega)⟩
    obtain ⟨y, hy⟩ := h6
    rw [hy] at h5
    obtain ⟨z, hz, _, _⟩ := DataW.trod_int Try.underlying3 h5
    refine ⟨z, ?_⟩
    have h7 := congrArg (fun l => l[0]?) hz
    simpa [List.getElem?_take, List.getElem?_drop] using h7
  obtain ⟨a, ha⟩ := hg 0 (by decide)
  obtain ⟨b, hb⟩ := hg 1 (by decide)
  obtain ⟨c, hc⟩ := hg 2 (by decide)
  obtain ⟨d, hd⟩ := hg 3 (by decide)
  obtain ⟨e, he⟩ := hg 4 (by decide)
  refine ⟨⟨a, b, c, d, e⟩, List.ext_getElem? fun i => ?_⟩
  by_cases hi : i < 5
  · match i, hi with
    | 0, _ => rw [ha]; rfl
    | 1, _ => rw [hb]; rfl
    | 2, _ => rw [hc]; rfl
    | 3, _ => rw [hd]; rfl
    | 4, _ => rw [he]; rfl
  · rw [List.getElem?_eq_none (by omega), List.getElem?_eq_none (by simp [cells5]; omega)]
/-- A head among the arguments. -/
theorem head_of {r : Reach} {base : Nat} {v : Value} {d : DataW H} {p : List MemPlace} (hv : Value.okWide Try.prog W r base 23 v) (h : DataW.Trod enc Try.prog W 0 (fun _ => true) true 23 v d p) : ∃ g : Hd, v = g.v := by
  have hu : Try.prog.underlying 23 = some (.struct (Try.prog.fieldsOf 23)) := by kernel_rfl
  obtain ⟨cs, rfl, _⟩ : ∃ cs, v = .agg cs ∧ cs.size = 5 := by
    simp only [Value.okWide, hu] at hv
    obtain ⟨cs, h1, h2, _⟩ := hv
    exact ⟨cs, h1, by rw [h2, cellsHd]⟩
  obtain ⟨fuel, hf⟩ := h
  obtain ⟨g, hg⟩ := head_cells hf
  refine ⟨g, ?_⟩
  have h2 : cs.toList = cells5 g := hg
  unfold Hd.v
  congr 1
  apply Array.ext'
  rw [h2]
  rfl
end
end Go.Proofs.Ytpcppnoomogloaa.Fr
