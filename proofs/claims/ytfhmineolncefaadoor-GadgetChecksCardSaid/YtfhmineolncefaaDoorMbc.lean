/-
  AN ARGUMENT THAT IS A GADGET, by value, opened.
-/
import Derived.Test.YtfhmineolncefaaDoorOpen2M
import Derived.Lib.SmallJoins
namespace Go.Proofs.YtfhmineolncefaaDoor
open Go.RowKit Go.ChangeShapes Go.WideShapes Go.Deep
set_option linter.unusedVariables false
set_option maxRecDepth 100000

section
variable {H : Type} {enc : TypeId × Value → H} {W : World} {base : Nat} {sp : Nat → Bool} {hd : Bool}
theorem open_gad {r : Reach} {b0 : Nat} {v : Value} {d : DataW H} {ps : List MemPlace} (hval : Value.okWide Tryd.prog W r b0 68 v) (h : DataW.Trod enc Tryd.prog W base sp hd 68 v d ps) :
    ∃ (k n : Int) (vs : Value) (xs : List E), v = .agg #[.int .u8 k, vs, .int .i64 n] ∧ (Lit.int .u8 k).wf = true ∧ (Lit.int .i64 n).wf = true ∧ SlE W W.heap.size vs xs := by
  obtain ⟨v0, v1, v2, y0, y1, y2, n, rfl, _, _, h0, h1, h2⟩ := Joins.open_agg3 Tryd.underlying68 (by kernel_rfl) (by kernel_rfl) hval h
  obtain ⟨a, e0, _, w0⟩ := DataW.trod_int Tryd.underlying66 h0
  obtain ⟨b, e2, _, w2⟩ := DataW.trod_int Tryd.underlying3 h2
  obtain ⟨xs, hx⟩ := open_elems1 h1
  simp only [List.cons.injEq, and_true] at e0 e2
  subst e0
  subst e2
  exact ⟨a, b, v1, xs, rfl, w0, w2, hx⟩
end

end Go.Proofs.YtfhmineolncefaaDoor
