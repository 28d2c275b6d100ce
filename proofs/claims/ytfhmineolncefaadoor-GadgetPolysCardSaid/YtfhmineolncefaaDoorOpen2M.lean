/-
  AN ARGUMENT THAT IS AN ELEMENT, OR A STRUCT WITH A SLICE OF ELEMENTS, by value, opened.
-/
import Derived.Test.YtfhmineolncefaaDoorMai
import Derived.Lib.SmallJoins
namespace Go.Proofs.YtfhmineolncefaaDoor
open Go.RowKit Go.ChangeShapes Go.WideShapes Go.Deep
set_option linter.unusedVariables false
set_option maxRecDepth 100000

section
variable {H : Type} {enc : TypeId × Value → H} {W : World} {base : Nat} {sp : Nat → Bool} {hd : Bool}

theorem wf_u8 {n : Int} (h : (Lit.int .u8 n).wf = true) : 0 ≤ n ∧ n ≤ 255 := by
  simpa [Lit.wf, IntKind.min, IntKind.max, IntKind.signed, IntKind.bits] using h

/-- a slice of elements in one cell -/
theorem open_elems1 {fuel : Nat} {v : Value} {x : DataW H × List MemPlace} (hf : DataW.trod enc Tryd.prog W base sp hd fuel 22 [v] = some x) :
    ∃ xs : List E, SlE W W.heap.size v xs := by
  rcases open_slice Tryd.underlying22 hf with ⟨hcs, _⟩ | ⟨a, len, cap, m, n, D, Pl, hcs, _, hle, hcm, hm, _, hi⟩
  · simp only [List.cons.injEq, and_true] at hcs
    subst hcs
    exact ⟨[], SlE.nil _ _⟩
  · simp only [List.cons.injEq, and_true] at hcs
    subst hcs
    have hlm : len ≤ m := by rw [hm]; split <;> omega
    have key : ∀ i, i < len → ∃ e : E, W.cell? (a.add (i * 2)) = some (.int .u64 e.1) ∧ W.cell? (a.add (i * 2 + 1)) = some (.int .u64 e.2) ∧ okE e := by
      intro i hil
      obtain ⟨cs', hc, ht⟩ := hi i (by omega)
      rw [cellsOf_elem] at hc
      obtain ⟨e, rfl, hok⟩ := trod_elem ht
      obtain ⟨_, _, hat⟩ := World.cells?_some hc
      have h0 := hat 0 (by omega)
      have h1 := hat 1 (by omega)
      have e0 : (a.add (i * 2)).add 0 = a.add (i * 2) := rfl
      have e1 : (a.add (i * 2)).add 1 = a.add (i * 2 + 1) := by
        unfold Addr.add
        by_cases h : i * 2 = 0
        · simp [h]
        · simp [h, Nat.add_assoc]
      rw [e0] at h0
      rw [e1] at h1
      exact ⟨e, h0, h1, hok⟩
    have hex : ∃ f : Nat → E, ∀ i, i < len → W.cell? (a.add (i * 2)) = some (.int .u64 (f i).1) ∧ W.cell? (a.add (i * 2 + 1)) = some (.int .u64 (f i).2) ∧ okE (f i) := by
      refine ⟨fun i => if hil : i < len then Classical.choose (key i hil) else (0, 0), fun i hil => ?_⟩
      simp only [dif_pos hil]
      exact Classical.choose_spec (key i hil)
    obtain ⟨f, hfi⟩ := hex
    refine ⟨(List.range len).map f, ⟨⟨some a, cap, by simp, by simpa using hle, by unfold maxLen at hcm; omega, fun hn => ?_⟩, ?_⟩⟩
    · have hl0 : 0 < len := by simpa using hn
      have hc0 := (hfi 0 hl0).1
      have ha0 : a.add (0 * 2) = a := rfl
      rw [ha0] at hc0
      have hlt := lt_of_cell hc0
      obtain ⟨b, o, s⟩ := a
      have hs : s = none := by
        cases s with
        | none => rfl
        | some q => simp [World.cell?] at hc0; split at hc0 <;> simp_all
      subst hs
      refine ⟨b, o, rfl, hlt, fun i e hie => ?_⟩
      have hil : i < len := by
        have := (List.getElem?_eq_some_iff.1 hie).1
        simpa using this
      have hee : e = f i := by
        rw [List.getElem?_map, List.getElem?_range hil] at hie
        simpa using hie.symm
      subst hee
      obtain ⟨k0, k1, _⟩ := hfi i hil
      have ea : ∀ j, (⟨b, o, none⟩ : Addr).add j = ⟨b, o + j, none⟩ := by
        intro j
        unfold Addr.add
        split <;> simp_all
      rw [ea] at k0 k1
      exact ⟨k0, by rw [Nat.add_assoc]; exact k1⟩
    · intro e he
      rw [List.mem_map] at he
      obtain ⟨i, hir, rfl⟩ := he
      exact (hfi i (by simpa using hir)).2.2

/-- an element by value -/
theorem open_elem {r : Reach} {b0 : Nat} {v : Value} {d : DataW H} {ps : List MemPlace} (hval : Value.okWide Tryd.prog W r b0 28 v) (h : DataW.Trod enc Tryd.prog W base sp hd 28 v d ps) :
    ∃ e : E, v = .agg #[.int .u64 e.1, .int .u64 e.2] ∧ okE e := by
  have hv : ∃ cs, v = .agg cs ∧ cs.size = Tryd.prog.cellsOf 28 ∧ Row.okWide Tryd.prog W r b0 28 cs := by
    have h := hval
    unfold Value.okWide at h
    rw [Tryd.underlying28] at h
    exact h
  obtain ⟨cs, rfl, _, _⟩ := hv
  obtain ⟨fuel, hf⟩ := h
  obtain ⟨e, hc, hok⟩ := trod_elem hf
  refine ⟨e, ?_, hok⟩
  have : cs.toList = [.int .u64 e.1, .int .u64 e.2] := hc
  rw [show cs = #[.int .u64 e.1, .int .u64 e.2] by apply Array.ext'; exact this]

/-- a gadget in small numbers, by value -/
theorem open_small9 {r : Reach} {b0 : Nat} {v : Value} {d : DataW H} {ps : List MemPlace} (hval : Value.okWide Tryd.prog W r b0 75 v) (h : DataW.Trod enc Tryd.prog W base sp hd 75 v d ps) :
    ∃ (a b : Int) (vs : Value) (xs : List E), v = .agg #[.int .u8 a, vs, .int .u8 b] ∧ (Lit.int .u8 a).wf = true ∧ (Lit.int .u8 b).wf = true ∧ SlE W W.heap.size vs xs := by
  obtain ⟨v0, v1, v2, y0, y1, y2, n, rfl, _, _, h0, h1, h2⟩ := Joins.open_agg3 Tryd.underlying75 (by kernel_rfl) (by kernel_rfl) hval h
  obtain ⟨a, e0, _, w0⟩ := DataW.trod_int Tryd.underlying5 h0
  obtain ⟨b, e2, _, w2⟩ := DataW.trod_int Tryd.underlying5 h2
  obtain ⟨xs, hx⟩ := open_elems1 h1
  simp only [List.cons.injEq, and_true] at e0 e2
  subst e0
  subst e2
  exact ⟨a, b, v1, xs, rfl, w0, w2, hx⟩
end

end Go.Proofs.YtfhmineolncefaaDoor
