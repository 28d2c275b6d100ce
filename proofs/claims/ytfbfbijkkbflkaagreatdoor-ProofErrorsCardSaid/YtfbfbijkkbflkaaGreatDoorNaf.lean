/-
  Open10: for ProofErrors.
-/
import Derived.Lib.SmallJoins
import Derived.Test.YtfbfbijkkbflkaaGreatDoorMbc
import Derived.Test.YtfbfbijkkbflkaaGreatDoorNac
namespace Go.Proofs.YtfbfbijkkbflkaaGreatDoor
open Go.RowKit Go.Joins Go.ChangeShapes Go.WideShapes Go.Deep
set_option linter.unusedVariables false
set_option maxRecDepth 100000

section
variable {H : Type} {enc : TypeId × Value → H} {P : Program} {W : World} {base : Nat} {sp : Nat → Bool} {hd : Bool}
end

section
variable {H : Type} {enc : TypeId × Value → H} {W : World} {base : Nat} {sp : Nat → Bool} {hd : Bool}
theorem open_cir {r : Reach} {b0 : Nat} {v : Value} {d : DataW H} {ps : List MemPlace} (hval : Value.okWide Tryz.prog W r b0 30 v) (h : DataW.Trod enc Tryz.prog W base sp hd 30 v d ps) :
    ∃ x : Raw, v = x.val ∧ (0 ≤ x.k ∧ x.k ≤ 255) ∧ (0 ≤ x.f ∧ x.f ≤ 255) ∧ (Lit.int .i64 x.b).wf = true ∧ (Lit.int .i64 x.l).wf = true ∧ (Lit.int .i64 x.m).wf = true ∧ (Lit.int .i64 x.c).wf = true := by
  obtain ⟨cs, rfl, hlen, hg⟩ := open_fields Tryz.underlying30 (by kernel_rfl) (by kernel_rfl) hval h
  obtain ⟨x0, y0, n0, e0, t0⟩ := hg 0 _ rfl
  obtain ⟨x1, y1, n1, e1, t1⟩ := hg 1 _ rfl
  obtain ⟨x2, y2, n2, e2, t2⟩ := hg 2 _ rfl
  obtain ⟨x3, y3, n3, e3, t3⟩ := hg 3 _ rfl
  obtain ⟨x4, y4, n4, e4, t4⟩ := hg 4 _ rfl
  obtain ⟨x5, y5, n5, e5, t5⟩ := hg 5 _ rfl
  obtain ⟨k, ek, _, wk⟩ := DataW.trod_int Tryz.underlying27 t0
  obtain ⟨f, ef, _, wf⟩ := DataW.trod_int Tryz.underlying28 t1
  obtain ⟨b, eb, _, wb⟩ := DataW.trod_int Tryz.underlying3 t2
  obtain ⟨l, el, _, wl⟩ := DataW.trod_int Tryz.underlying3 t3
  obtain ⟨m, em, _, wm⟩ := DataW.trod_int Tryz.underlying3 t4
  obtain ⟨c, ec, _, wc⟩ := DataW.trod_int Tryz.underlying3 t5
  simp only [List.cons.injEq, and_true] at ek ef eb el em ec
  subst ek ef eb el em ec
  match cs, hlen with
  | [a0, a1, a2, a3, a4, a5], _ =>
    simp at e0 e1 e2 e3 e4 e5
    subst e0 e1 e2 e3 e4 e5
    exact ⟨⟨k, f, b, l, m, c⟩, rfl, wf8 wk, wf8 wf, wb, wl, wm, wc⟩

end

end Go.Proofs.YtfbfbijkkbflkaaGreatDoor
