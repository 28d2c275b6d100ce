/-
  WALK: tallymanlaw10.Small.Circuit.
-/
/-
  BOTH CHECKS of any circuit say the same; where they say 0 it is one in range, of few calls.
-/
/-
  WHAT IS KNOWN OF A CIRCUIT whose check says n; a circuit in range as six numbers.
-/
import Derived.Test.YtfhmineolncefaaDoorMap
namespace Go.Proofs.YtfhmineolncefaaDoor
open Go.RowKit Fm
set_option linter.unusedVariables false
set_option maxRecDepth 100000

/-- a circuit of few elements -/
structure CK.small (y : CK) : Prop where
  ok : y.ok
  nin : y.nin ≤ 12
  calls : ¬ 511 < y.calls

theorem CK.calls_le {y : CK} (h : y.ok) : y.calls ≤ y.nin := by
  cases y with
  | count => exact Nat.le_refl _
  | sum b => exact Nat.le_refl _
  | vec b l c => exact ceil_le h.2.2.1
  | hist l c => exact ceil_le h.2.1
  | multi l m c => exact ceil_le h.2.2.1
theorem CK.small_of {y : CK} (h : y.ok) (hn : y.nin ≤ 12) : y.small := ⟨h, hn, by have := CK.calls_le h; omega⟩

theorem bitLen_5 : ∀ m : Nat, m ≤ 5 → Lib.bitLen m ≤ 3 := by decide +kernel

theorem Vs.set6 {w : World} {b : Nat} {p q r s t u : Value} (h : Vs w b [p, q, r, s, t, u]) (x0 x1 x2 x3 x4 x5 : Value) :
    Vs ((((((w.setCell ⟨b, 0, none⟩ x0).setCell ⟨b, 1, none⟩ x1).setCell ⟨b, 2, none⟩ x2).setCell ⟨b, 3, none⟩ x3).setCell ⟨b, 4, none⟩ x4).setCell ⟨b, 5, none⟩ x5) b [x0, x1, x2, x3, x4, x5] :=
  (((((h.put 0 (by simp) x0).put 1 (by simp) x1).put 2 (by simp) x2).put 3 (by simp) x3).put 4 (by simp) x4).put 5 (by simp) x5

/-- what is known while the circuit's numbers are laid -/
def SmS (w : World) (k f b l m c K F : Int) (wz : World) : Prop :=
  Below w.heap.size w wz ∧ Vs wz w.heap.size [.int .u8 k, .int .u8 f, .int .u8 b, .int .u8 l, .int .u8 m, .int .u8 c] ∧ Vs wz (w.heap.size + 1) [.int .u8 0, .int .u8 0, .int .i64 0, .int .i64 0, .int .i64 0, .int .i64 0] ∧
    ∃ x2 x3 x5 : Value, Vs wz (w.heap.size + 1 + 1) [.int .u8 K, .int .u8 F, x2, x3, .int .i64 0, x5]
theorem SmS.clo (w : World) (k f b l m c K F : Int) : Clo (SmS w k f b l m c K F) :=
  fun _ _ h hb => ⟨bl_call h.1 (Nat.le_refl _) hb, h.2.1.call hb, h.2.2.1.call hb, let ⟨x, y, z, hv⟩ := h.2.2.2; ⟨x, y, z, hv.call hb⟩⟩

end Go.Proofs.YtfhmineolncefaaDoor

namespace Go.Proofs.YtfhmineolncefaaDoor
open Go.RowKit Fm
set_option linter.unusedVariables false
set_option maxRecDepth 100000

/-- a circuit's six numbers, whatever they are -/
structure Raw where
  k : Int
  f : Int
  b : Int
  l : Int
  m : Int
  c : Int
def Raw.val (x : Raw) : Value := .agg #[.int .u8 x.k, .int .u8 x.f, .int .i64 x.b, .int .i64 x.l, .int .i64 x.m, .int .i64 x.c]
def Raw.rval (x : Raw) : Value := .agg #[.int .i64 x.k, .int .i64 x.f, .int .i64 x.b, .int .i64 x.l, .int .i64 x.m, .int .i64 x.c]
/-- it is this circuit in range -/
structure Raw.Is (x : Raw) (F : Nat) (y : CK) : Prop where
  fld : IsF F
  ok : y.ok
  calls : ¬ 511 < y.calls
  val : x.val = y.val F
  rval : x.rval = y.rval F

end Go.Proofs.YtfhmineolncefaaDoor

namespace Go.Proofs.YtfhmineolncefaaDoor
open Go.RowKit Fm
set_option linter.unusedVariables false
set_option maxRecDepth 100000

/-- a circuit in range, as six numbers -/
def CK.raw (y : CK) (F : Nat) : Raw := ⟨y.k, F, y.b, y.l, y.m, y.c⟩
theorem CK.raw_is {y : CK} {F : Nat} (hF : IsF F) (hy : y.ok) (hc : ¬ 511 < y.calls) : (y.raw F).Is F y := ⟨hF, hy, hc, rfl, rfl⟩
theorem CK.k_le (y : CK) : 1 ≤ y.k ∧ y.k ≤ 5 := by cases y <;> exact ⟨Nat.le_of_ble_eq_true rfl, Nat.le_of_ble_eq_true rfl⟩
end Go.Proofs.YtfhmineolncefaaDoor
