/- Frames one behind the other; a list of heads among the arguments; rows cut off. -/
import Derived.Test.YtpcppnoomogloaaFrY0
import Derived.Test.YtpcppnoomogloaaShellH
set_option maxRecDepth 4000
namespace Go.Proofs.Ytpcppnoomogloaa.Fr
set_option linter.unusedSimpArgs false
set_option linter.unusedVariables false
open Go.ChangeShapes Go.WideShapes Go.ChangeAt Go.RowKit

/-- The heads that a slice of an argument tells. -/
def RowHd (w : World) (a : Option Addr) (n c : Nat) (hs : List Hd) : Prop := hs.length = n ∧ n ≤ c ∧ c ≤ 9223372036854775807 ∧ (n = 0 ∨ ∃ g off, a = some ⟨g, off, none⟩ ∧ g < w.heap.size ∧ ∀ i, i < n → w.rangeAt g (off + i * 5) (cells5 (hs.getD i hd0)))
theorem heads_of {H : Type} {enc : TypeId × Value → H} {W : World} {a : Option Addr} {len cap : Nat} {d : DataW H} {p : List MemPlace} (h : DataW.Trod enc Try.prog W 0 (fun _ => true) true 44 (.slice a len cap) d p) : ∃ hs, RowHd W a len cap hs := by
  obtain ⟨fuel, hf⟩ := h
  rcases DataW.trod_slice Try.underlying44 hf with ⟨hcs, _⟩ | ⟨x, l, c, elems, rest, n, _, hcs, _, _, hl, hm, hlen, hel, _⟩
  · simp [Value.cells] at hcs
    obtain ⟨rfl, rfl, rfl⟩ := hcs
    exact ⟨[], rfl, Nat.le_refl _, by decide, .inl rfl⟩
  · simp [Value.cells] at hcs
    obtain ⟨rfl, rfl, rfl⟩ := hcs
    rw [cellsHd] at hel
    have each : ∀ i, ∃ g : Hd, i < len → W.cells? 0 (x.add (i * 5)) 5 = some (cells5 g) := by
      intro i
      by_cases hi : i < len
      · have h1 := hel i hi
        rw [List.getElem?_eq_getElem (show i < elems.length by omega), Option.bind_eq_some_iff] at h1
        obtain ⟨cs', h2, h3⟩ := h1
        obtain ⟨g, rfl⟩ := head_cells h3
        exact ⟨g, fun _ => h2⟩
      · exact ⟨hd0, fun h => absurd h hi⟩
    obtain ⟨f, hf'⟩ := Classical.axiomOfChoice each
    refine ⟨(List.range len).map f, by simp, hl, by unfold maxLen at hm; omega, ?_⟩
    by_cases h0 : len = 0
    · exact .inl h0
    · obtain ⟨b, off, spot⟩ := x
      have hget : ∀ i, i < len → ((List.range len).map f).getD i hd0 = f i := fun i hi => by
        rw [List.getD_eq_getElem?_getD, List.getElem?_map, List.getElem?_range hi]; rfl
      have hc0 := (World.cells?_some (hf' 0 (by omega))).2.2 0 (by decide)
      have hspot : spot = none := by
        have := World.cell?_spot (hc0.trans (show (cells5 (f 0))[0]? = some (.int .i64 (f 0).kind) from rfl))
        simpa [Addr.add] using this
      subst hspot
      have hb := World.cells?_block (hf' 0 (by omega)) (by decide)
      refine .inr ⟨b, off, rfl, by simpa [Addr.add] using hb, fun i hi j v hj => ?_⟩
      rw [hget i hi] at hj
      have hj5 : j < 5 := by have := (List.getElem?_eq_some_iff.1 hj).1; simpa [cells5] using this
      have h1 := (World.cells?_some (hf' i hi)).2.2 j hj5
      rw [hj, Addr.add_off, Addr.add_off] at h1
      exact h1
theorem RowHd.at {w W : World} {a : Option Addr} {n c : Nat} {hs : List Hd} (h : RowHd w a n c hs) (hb : Below w.heap.size w W) (h0 : 0 < n) : ∃ g off, a = some ⟨g, off, none⟩ ∧ ∀ i, i < n → W.rangeAt g (off + i * 5) (cells5 (hs.getD i hd0)) := by
  rcases h.2.2.2 with h1 | ⟨g, off, ha, hg, hc⟩
  · omega
  · exact ⟨g, off, ha, fun i hi j v hj => (hb.cell (p := ⟨g, off + i * 5 + j, none⟩) hg).trans (hc i hi j v hj)⟩
theorem rdH_take {w : World} {a : Option Addr} {n c : Nat} {hs : List Hd} (h : RdH w a n c hs) (m : Nat) (hm : m ≤ n) : RdH w a m c (hs.take m) := by
  obtain ⟨h1, h2, h3, h4, h5⟩ := h
  refine ⟨by simp; omega, by omega, by omega, h4, ?_⟩
  by_cases h0 : m = 0
  · exact .inl h0
  · rcases h5 with h5 | ⟨g, ha, hg, hc⟩
    · omega
    · exact .inr ⟨g, ha, hg, fun i hi => by
        have e : (hs.take m).getD i hd0 = hs.getD i hd0 := by rw [List.getD_eq_getElem?_getD, List.getD_eq_getElem?_getD, List.getElem?_take, if_pos hi]
        rw [e]; exact hc i (by omega)⟩
theorem rdI_take {w : World} {a : Option Addr} {n c : Nat} {xs : List Nat} (h : RdI w a n c xs) (m : Nat) (hm : m ≤ n) : RdI w a m c (xs.take m) := by
  obtain ⟨h1, h2, h3, h4, h5⟩ := h
  refine ⟨by simp; omega, by omega, by omega, h4, ?_⟩
  by_cases h0 : m = 0
  · exact .inl h0
  · rcases h5 with h5 | ⟨g, ha, hg, hc⟩
    · omega
    · exact .inr ⟨g, ha, hg, fun i hi => by
        have e : (xs.take m).getD i 0 = xs.getD i 0 := by rw [List.getD_eq_getElem?_getD, List.getD_eq_getElem?_getD, List.getElem?_take, if_pos hi]
        rw [e]; exact hc i (by omega)⟩
theorem frames_snoc (key : List Nat) (es : List (Hd × List Nat)) (e : Hd × List Nat) : frames key (es ++ [e]) = frames key es ++ sealF e.1 key e.2 := by
  induction es with
  | nil => simp [frames]
  | cons x l ih => rw [List.cons_append, frames, ih, frames, List.append_assoc]
theorem places_snoc (key : List Nat) (p : Nat) (es : List (Hd × List Nat)) (e : Hd × List Nat) : places key p (es ++ [e]) = places key p es ++ [(e.1, p + (frames key es).length)] := by
  induction es generalizing p with
  | nil => simp [frames, places]
  | cons x l ih => rw [List.cons_append, places, ih, places, frames, List.length_append, List.cons_append, Nat.add_assoc]
theorem places_fst (key : List Nat) (p : Nat) (es : List (Hd × List Nat)) : (places key p es).map Prod.fst = es.map Prod.fst := by
  induction es generalizing p with
  | nil => rfl
  | cons x l ih => rw [places, List.map_cons, List.map_cons, ih]
theorem places_length (key : List Nat) (p : Nat) (es : List (Hd × List Nat)) : (places key p es).length = es.length := by
  have := congrArg List.length (places_fst key p es)
  simpa using this
theorem frames_len (key : List Nat) (es : List (Hd × List Nat)) (hl : ∀ e ∈ es, sealB e.1 e.2 = true) : es.length ≤ (frames key es).length := by
  induction es with
  | nil => exact Nat.zero_le _
  | cons x l ih =>
    have h1 := ih (fun e he => hl e (List.mem_cons_of_mem _ he))
    have h2 := (sealF_length (key := key) (hl x List.mem_cons_self)).2
    rw [frames, List.length_append, List.length_cons, h2]
    omega
theorem scan_pre (key : List Nat) (es : List (Hd × List Nat)) (hl : ∀ e ∈ es, sealB e.1 e.2 = true) (rest : List Nat) (hr : ∀ f, scanG f (frames key es ++ rest) (frames key es).length = []) : scanF (frames key es ++ rest) = places key 0 es := by
  unfold scanF
  have h := scan_frames key es hl [] rest ((frames key es ++ rest).length + 1) (by have := frames_len key es hl; rw [List.length_append]; omega)
  simp only [List.nil_append, List.length_nil] at h
  rw [h, hr, List.append_nil]
/-- What the law's loop has made so far. -/
def AllL (key : List Nat) (es : List (Hd × List Nat)) (i m last : Nat) : Prop := (∀ e ∈ es, sealB e.1 e.2 = true) ∧ es.length ≤ i ∧ (frames key es).length = m ∧ m ≤ 240 * i ∧ (es = [] ∨ ∃ es0 e, es = es0 ++ [e] ∧ last = (sealF e.1 key e.2).length)
theorem AllL.start (key : List Nat) : AllL key [] 0 0 0 := ⟨by simp, Nat.le_refl _, rfl, Nat.le_refl _, .inl rfl⟩
theorem AllL.pass {key : List Nat} {es : List (Hd × List Nat)} {i m last : Nat} (h : AllL key es i m last) : AllL key es (i + 1) m last := ⟨h.1, by have := h.2.1; omega, h.2.2.1, by have := h.2.2.2.1; omega, h.2.2.2.2⟩
theorem AllL.step {key : List Nat} {es : List (Hd × List Nat)} {i m last n : Nat} (h : AllL key es i m last) {x : Hd} {body : List Nat} (hs : sealB x body = true) (hb : body.length = n) (hn : n ≤ 200) : AllL key (es ++ [(x, body)]) (i + 1) (m + (n + 40)) (n + 40) := by
  have h1 := (sealF_length (key := key) hs).2
  refine ⟨fun e he => ?_, by have := h.2.1; simp; omega, by rw [frames_snoc, List.length_append, h.2.2.1, h1, hb], by have := h.2.2.2.1; omega, .inr ⟨es, _, rfl, by rw [h1, hb]⟩⟩
  rcases List.mem_append.1 he with q | q
  · exact h.1 e q
  · rw [List.mem_singleton] at q; subst q; exact hs
theorem AllL.scan {key : List Nat} {es : List (Hd × List Nat)} {i m last : Nat} (h : AllL key es i m last) : scanF (frames key es) = places key 0 es := by
  have := scan_pre key es h.1 [] (fun f => by rw [List.append_nil]; exact scan_empty f _)
  rwa [List.append_nil] at this
theorem AllL.short {key : List Nat} {es : List (Hd × List Nat)} {i m last r : Nat} (h : AllL key es i m last) (hne : es ≠ []) : 41 ≤ last ∧ last ≤ m ∧ (r < last → (scanF ((frames key es).take (m - 1 - r))).map Prod.fst = (es.map Prod.fst).take (es.length - 1) ∧ (scanF ((frames key es).take (m - 1 - r))).map Prod.snd = ((places key 0 es).map Prod.snd).take (es.length - 1)) := by
  obtain ⟨h1, _, h3, _, h5⟩ := h
  rcases h5 with h5 | ⟨es0, e, rfl, hla⟩
  · exact absurd h5 hne
  · have hs := h1 e (by simp)
    have hl := sealF_length (key := key) hs
    have h41 : 1 ≤ e.2.length := by
      have := sealF_ok (key := key) hs
      have := (okH_iff e.1).1 this.2.2
      omega
    rw [frames_snoc, List.length_append, ← hla] at h3
    refine ⟨by omega, by omega, fun hr' => ?_⟩
    have ht : (frames key (es0 ++ [e])).take (m - 1 - r) = frames key es0 ++ (sealF e.1 key e.2).take (last - 1 - r) := by
      rw [frames_snoc, List.take_append, List.take_of_length_le (by omega)]
      congr 2
      omega
    have hsc := scan_pre key es0 (fun x hx => h1 x (List.mem_append_left _ hx)) ((sealF e.1 key e.2).take (last - 1 - r)) (fun f => scanG_short hs f _ _ (by omega))
    rw [ht, hsc, places_fst, places_snoc, List.map_append, List.map_append]
    have e1 : (es0 ++ [e]).length - 1 = es0.length := by simp
    rw [e1]
    exact ⟨(List.take_left' (by simp)).symm, (List.take_left' (by rw [List.length_map, places_length])).symm⟩
end Go.Proofs.Ytpcppnoomogloaa.Fr
