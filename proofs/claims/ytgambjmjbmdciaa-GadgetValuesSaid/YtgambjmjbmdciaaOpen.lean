/-
  AN ARGUMENT THAT IS A SLICE OF ELEMENTS, OR AN ELEMENT, opened.
-/
import Derived.Test.YtgambjmjbmdciaaSlice
import Derived.Test.YtgambjmjbmdciaaFrame
import Derived.Deep.Slices
namespace Go.Proofs.Ytgambjmjbmdciaa
open Go.RowKit Go.ChangeShapes Go.WideShapes Go.Deep
set_option linter.unusedVariables false
set_option maxRecDepth 100000

theorem cellsOf_elem : Try.prog.cellsOf 41 = 2 := by kernel_rfl
theorem cellsOf_u64 : Try.prog.cellsOf 39 = 1 := by kernel_rfl

section
variable {H : Type} {enc : TypeId × Value → H} {W : World} {base : Nat} {sp : Nat → Bool} {hd : Bool}

theorem wf_u64 {n : Int} (h : (Lit.int .u64 n).wf = true) : 0 ≤ n ∧ n ≤ 18446744073709551615 := by
  simpa [Lit.wf, IntKind.min, IntKind.max, IntKind.signed, IntKind.bits] using h

/-- the two cells of an element -/
theorem trod_elem {fuel : Nat} {cs : List Value} {x : DataW H × List MemPlace} (h : DataW.trod enc Try.prog W base sp hd fuel 41 cs = some x) :
    ∃ e : E, cs = [.int .u64 e.1, .int .u64 e.2] ∧ okE e := by
  obtain ⟨xs, m, _, _, hlen, hxl, hg⟩ := DataW.trod_array Try.underlying41 h
  rw [cellsOf_elem] at hlen
  rw [cellsOf_u64] at hg
  match cs, hlen with
  | [c0, c1], _ =>
    match xs, hxl with
    | [y0, y1], _ =>
      have h0 := hg 0 (by omega)
      have h1 := hg 1 (by omega)
      simp at h0 h1
      obtain ⟨n0, e0, _, w0⟩ := DataW.trod_int Try.underlying39 h0
      obtain ⟨n1, e1, _, w1⟩ := DataW.trod_int Try.underlying39 h1
      simp only [List.cons.injEq, and_true] at e0 e1
      subst e0
      subst e1
      obtain ⟨a0, a1⟩ := wf_u64 w0
      obtain ⟨b0, b1⟩ := wf_u64 w1
      exact ⟨(n0, n1), rfl, a0, a1, b0, b1⟩

theorem open_elems {r : Reach} {b0 : Nat} {v : Value} {d : DataW H} {ps : List MemPlace} (hval : Value.okWide Try.prog W r b0 22 v) (h : DataW.Trod enc Try.prog W base sp hd 22 v d ps) :
    ∃ xs : List E, SlE W W.heap.size v xs := by
  obtain ⟨a0, len, cap, rfl⟩ := okWide_slice Try.underlying22 hval
  obtain ⟨fuel, hf⟩ := h
  rcases open_slice Try.underlying22 hf with ⟨hcs, _⟩ | ⟨a, len', cap', m, n, D, Pl, hcs, _, hle, hcm, hm, _, hi⟩
  · simp only [Value.cells, List.cons.injEq, Value.slice.injEq, and_true] at hcs
    obtain ⟨rfl, rfl, rfl⟩ := hcs
    exact ⟨[], SlE.nil _ _⟩
  · simp only [Value.cells, List.cons.injEq, Value.slice.injEq, and_true] at hcs
    obtain ⟨rfl, rfl, rfl⟩ := hcs
    have hlm : len ≤ m := by rw [hm]; split <;> omega
    have key : ∀ i, i < len → ∃ e : E, W.cell? (a.add (i * 2)) = some (.int .u64 e.1) ∧ W.cell? (a.add (i * 2 + 1)) = some (.int .u64 e.2) ∧ okE e := by
      intro i hil
      obtain ⟨cs', hc, ht⟩ := hi i (by omega)
      rw [cellsOf_elem] at hc
      obtain ⟨e, rfl, hok⟩ := trod_elem ht
      obtain ⟨_, _, hat⟩ := World.cells?_some hc
      have h0 := hat 0 (by omega)
      have h1 := hat 1 (by omega)
      have e0 : (a.add (i * 2)).add 0 = a.add (i * 2) := rfl
      have e1 : (a.add (i * 2)).add 1 = a.add (i * 2 + 1) := by
        unfold Addr.add
        by_cases h : i * 2 = 0
        · simp [h]
        · simp [h, Nat.add_assoc]
      rw [e0] at h0
      rw [e1] at h1
      exact ⟨e, h0, h1, hok⟩
    have hex : ∃ f : Nat → E, ∀ i, i < len → W.cell? (a.add (i * 2)) = some (.int .u64 (f i).1) ∧ W.cell? (a.add (i * 2 + 1)) = some (.int .u64 (f i).2) ∧ okE (f i) := by
      refine ⟨fun i => if hil : i < len then Classical.choose (key i hil) else (0, 0), fun i hil => ?_⟩
      simp only [dif_pos hil]
      exact Classical.choose_spec (key i hil)
    obtain ⟨f, hfi⟩ := hex
    refine ⟨(List.range len).map f, ⟨⟨some a, cap, by simp, by simpa using hle, by unfold maxLen at hcm; omega, fun hn => ?_⟩, ?_⟩⟩
    · have hl0 : 0 < len := by simpa using hn
      have hc0 := (hfi 0 hl0).1
      have ha0 : a.add (0 * 2) = a := rfl
      rw [ha0] at hc0
      have hlt := lt_of_cell hc0
      obtain ⟨b, o, s⟩ := a
      have hs : s = none := by
        cases s with
        | none => rfl
        | some q => simp [World.cell?] at hc0; split at hc0 <;> simp_all
      subst hs
      refine ⟨b, o, rfl, hlt, fun i e hie => ?_⟩
      have hil : i < len := by
        have := (List.getElem?_eq_some_iff.1 hie).1
        simpa using this
      have hee : e = f i := by
        rw [List.getElem?_map, List.getElem?_range hil] at hie
        simpa using hie.symm
      subst hee
      obtain ⟨k0, k1, _⟩ := hfi i hil
      have ea : ∀ j, (⟨b, o, none⟩ : Addr).add j = ⟨b, o + j, none⟩ := by
        intro j
        unfold Addr.add
        split <;> simp_all
      rw [ea] at k0 k1
      exact ⟨k0, by rw [Nat.add_assoc]; exact k1⟩
    · intro e he
      rw [List.mem_map] at he
      obtain ⟨i, hir, rfl⟩ := he
      exact (hfi i (by simpa using hir)).2.2
end

end Go.Proofs.Ytgambjmjbmdciaa
