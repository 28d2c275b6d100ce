/-
 Open2: what the statements of this layer share.
-/
import Derived.Lib.SmallJoins
import Derived.Test.YtfbfbijkkbflkaaGreatDoorMak
namespace Go.Proofs.YtfbfbijkkbflkaaGreatDoor
open Go.RowKit Go.ChangeShapes Go.WideShapes Go.Deep
set_option linter.unusedVariables false
set_option maxRecDepth 100000

section
variable {H : Type} {enc : TypeId × Value → H} {W : World} {base : Nat} {sp : Nat → Bool} {hd : Bool}

theorem open_elem {r : Reach} {b0 : Nat} {v : Value} {d : DataW H} {ps : List MemPlace} (hval : Value.okWide Tryz.prog W r b0 36 v) (h : DataW.Trod enc Tryz.prog W base sp hd 36 v d ps) :
  ∃ e : E, v = .agg #[.int .u64 e.1, .int .u64 e.2] ∧ okE e := by
 have hv : ∃ cs, v = .agg cs ∧ cs.size = Tryz.prog.cellsOf 36 ∧ Row.okWide Tryz.prog W r b0 36 cs := by
  have h := hval
  unfold Value.okWide at h
  rw [Tryz.underlying36] at h
  exact h
 obtain ⟨cs, rfl, _, _⟩ := hv
 obtain ⟨fuel, hf⟩ := h
 obtain ⟨e, hc, hok⟩ := trod_elem hf
 refine ⟨e, ?_, hok⟩
 have : cs.toList = [.int .u64 e.1, .int .u64 e.2] := hc
 rw [show cs = #[.int .u64 e.1, .int .u64 e.2] by apply Array.ext'; exact this]

end

end Go.Proofs.YtfbfbijkkbflkaaGreatDoor
