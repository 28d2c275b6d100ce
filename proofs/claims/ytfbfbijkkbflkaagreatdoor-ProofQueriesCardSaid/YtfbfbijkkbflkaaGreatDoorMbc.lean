/-
 Open10: what the statements of this layer share.
-/
import Derived.Lib.SmallJoins
import Derived.Test.YtfbfbijkkbflkaaGreatDoorMao
namespace Go.Proofs.YtfbfbijkkbflkaaGreatDoor
open Go.RowKit Go.Joins Go.ChangeShapes Go.WideShapes Go.Deep
set_option linter.unusedVariables false
set_option maxRecDepth 100000

section
variable {H : Type} {enc : TypeId × Value → H} {P : Program} {W : World} {base : Nat} {sp : Nat → Bool} {hd : Bool}
theorem open_fields {r : Reach} {b0 : Nat} {t : TypeId} {fs : Array Field} {v : Value} {d : DataW H} {ps : List MemPlace} (hs : P.underlying t = some (.struct fs)) (hone : oneCellFields P fs = true) (hC : P.cellsOf t = fs.size)
  (hval : Value.okWide P W r b0 t v) (h : DataW.Trod enc P W base sp hd t v d ps) :
  ∃ cs : List Value, v = .agg cs.toArray ∧ cs.length = fs.size ∧ ∀ (j : Nat) (f : Field), fs[j]? = some f → ∃ (x : Value) (y : DataW H × List MemPlace) (n : Nat), cs[j]? = some x ∧ DataW.trod enc P W base sp hd n f.type [x] = some y := by
 obtain ⟨cs, rfl, hsz⟩ := okWide_struct hs hval
 obtain ⟨l⟩ := cs
 have hl : l.length = fs.size := hsz.trans hC
 obtain ⟨fuel, hf⟩ := h
 obtain ⟨ys, n, _, _, _, hyl, hg⟩ := DataW.trod_struct hs hf
 refine ⟨l, rfl, hl, fun j f hj => ?_⟩
 obtain ⟨ho, hk⟩ := hone_of hone j f hj
 have hjl : j < fs.size := (Array.getElem?_eq_some_iff.1 hj).1
 have h1 := hg j f hj
 rw [ho, hk] at h1
 have hone' : (l.drop j).take 1 = [l[j]'(by omega)] := by
  rw [List.drop_eq_getElem_cons (by omega)]
  rfl
 have h2 : DataW.trod enc P W base sp hd n f.type [l[j]'(by omega)] = ys[j]? := by
  rw [← hone']
  exact h1
 have hys : ys[j]? = some (ys[j]'(by omega)) := List.getElem?_eq_getElem (by omega)
 exact ⟨_, _, n, List.getElem?_eq_getElem (by omega), h2.trans hys⟩
end

section
variable {H : Type} {enc : TypeId × Value → H} {W : World} {base : Nat} {sp : Nat → Bool} {hd : Bool}
theorem wf8 {n : Int} (h : (Lit.int .u8 n).wf = true) : 0 ≤ n ∧ n ≤ 255 := by
 simpa [Lit.wf, IntKind.min, IntKind.max, IntKind.signed, IntKind.bits] using h

theorem open_small10 {r : Reach} {b0 : Nat} {v : Value} {d : DataW H} {ps : List MemPlace} (hval : Value.okWide Tryz.prog W r b0 23 v) (h : DataW.Trod enc Tryz.prog W base sp hd 23 v d ps) :
  ∃ k f b l m c : Int, v = .agg #[.int .u8 k, .int .u8 f, .int .u8 b, .int .u8 l, .int .u8 m, .int .u8 c] ∧ (0 ≤ k ∧ k ≤ 255) ∧ (0 ≤ f ∧ f ≤ 255) ∧ (0 ≤ b ∧ b ≤ 255) ∧ (0 ≤ l ∧ l ≤ 255) ∧ (0 ≤ m ∧ m ≤ 255) ∧ (0 ≤ c ∧ c ≤ 255) := by
 obtain ⟨cs, rfl, hlen, hg⟩ := open_fields Tryz.underlying23 (by kernel_rfl) (by kernel_rfl) hval h
 obtain ⟨x0, y0, n0, e0, t0⟩ := hg 0 _ rfl
 obtain ⟨x1, y1, n1, e1, t1⟩ := hg 1 _ rfl
 obtain ⟨x2, y2, n2, e2, t2⟩ := hg 2 _ rfl
 obtain ⟨x3, y3, n3, e3, t3⟩ := hg 3 _ rfl
 obtain ⟨x4, y4, n4, e4, t4⟩ := hg 4 _ rfl
 obtain ⟨x5, y5, n5, e5, t5⟩ := hg 5 _ rfl
 obtain ⟨k, ek, _, wk⟩ := DataW.trod_int Tryz.underlying5 t0
 obtain ⟨f, ef, _, wf⟩ := DataW.trod_int Tryz.underlying5 t1
 obtain ⟨b, eb, _, wb⟩ := DataW.trod_int Tryz.underlying5 t2
 obtain ⟨l, el, _, wl⟩ := DataW.trod_int Tryz.underlying5 t3
 obtain ⟨m, em, _, wm⟩ := DataW.trod_int Tryz.underlying5 t4
 obtain ⟨c, ec, _, wc⟩ := DataW.trod_int Tryz.underlying5 t5
 simp only [List.cons.injEq, and_true] at ek ef eb el em ec
 subst ek ef eb el em ec
 match cs, hlen with
 | [a0, a1, a2, a3, a4, a5], _ =>
  simp at e0 e1 e2 e3 e4 e5
  subst e0 e1 e2 e3 e4 e5
  exact ⟨k, f, b, l, m, c, rfl, wf8 wk, wf8 wf, wf8 wb, wf8 wl, wf8 wm, wf8 wc⟩
end

end Go.Proofs.YtfbfbijkkbflkaaGreatDoor
