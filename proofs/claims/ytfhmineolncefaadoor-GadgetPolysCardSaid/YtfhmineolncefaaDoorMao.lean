/-
  WALK: tallymanlaw10.Small.Circuit.
-/
/-
  BOTH CHECKS of any circuit say the same; where they say 0 it is one in range, of few calls.
-/
/-
  WALK: circuit.Decode.
-/
import Derived.Test.YtfhmineolncefaaDoorMan
import Derived.Test.YtfhmineolncefaaDoorMal
import Derived.Test.YtfhmineolncefaaDoorMag
namespace Go.Proofs.YtfhmineolncefaaDoor
open Go.RowKit Fm
set_option linter.unusedVariables false
set_option maxRecDepth 100000

/-- a circuit of few elements -/
structure CK.small (y : CK) : Prop where
  ok : y.ok
  nin : y.nin ≤ 12
  calls : ¬ 511 < y.calls

theorem CK.calls_le {y : CK} (h : y.ok) : y.calls ≤ y.nin := by
  cases y with
  | count => exact Nat.le_refl _
  | sum b => exact Nat.le_refl _
  | vec b l c => exact ceil_le h.2.2.1
  | hist l c => exact ceil_le h.2.1
  | multi l m c => exact ceil_le h.2.2.1
theorem CK.small_of {y : CK} (h : y.ok) (hn : y.nin ≤ 12) : y.small := ⟨h, hn, by have := CK.calls_le h; omega⟩

theorem bitLen_5 : ∀ m : Nat, m ≤ 5 → Lib.bitLen m ≤ 3 := by decide +kernel

theorem Vs.set6 {w : World} {b : Nat} {p q r s t u : Value} (h : Vs w b [p, q, r, s, t, u]) (x0 x1 x2 x3 x4 x5 : Value) :
    Vs ((((((w.setCell ⟨b, 0, none⟩ x0).setCell ⟨b, 1, none⟩ x1).setCell ⟨b, 2, none⟩ x2).setCell ⟨b, 3, none⟩ x3).setCell ⟨b, 4, none⟩ x4).setCell ⟨b, 5, none⟩ x5) b [x0, x1, x2, x3, x4, x5] :=
  (((((h.put 0 (by simp) x0).put 1 (by simp) x1).put 2 (by simp) x2).put 3 (by simp) x3).put 4 (by simp) x4).put 5 (by simp) x5

/-- what is known while the circuit's numbers are laid -/
def SmS (w : World) (k f b l m c K F : Int) (wz : World) : Prop :=
  Below w.heap.size w wz ∧ Vs wz w.heap.size [.int .u8 k, .int .u8 f, .int .u8 b, .int .u8 l, .int .u8 m, .int .u8 c] ∧ Vs wz (w.heap.size + 1) [.int .u8 0, .int .u8 0, .int .i64 0, .int .i64 0, .int .i64 0, .int .i64 0] ∧
    ∃ x2 x3 x5 : Value, Vs wz (w.heap.size + 1 + 1) [.int .u8 K, .int .u8 F, x2, x3, .int .i64 0, x5]
theorem SmS.clo (w : World) (k f b l m c K F : Int) : Clo (SmS w k f b l m c K F) :=
  fun _ _ h hb => ⟨bl_call h.1 (Nat.le_refl _) hb, h.2.1.call hb, h.2.2.1.call hb, let ⟨x, y, z, hv⟩ := h.2.2.2; ⟨x, y, z, hv.call hb⟩⟩

end Go.Proofs.YtfhmineolncefaaDoor

namespace Go.Proofs.YtfhmineolncefaaDoor
open Go.RowKit Fm
set_option linter.unusedVariables false
set_option maxRecDepth 100000

/-- a circuit's six numbers, whatever they are -/
structure Raw where
  k : Int
  f : Int
  b : Int
  l : Int
  m : Int
  c : Int
def Raw.val (x : Raw) : Value := .agg #[.int .u8 x.k, .int .u8 x.f, .int .i64 x.b, .int .i64 x.l, .int .i64 x.m, .int .i64 x.c]
def Raw.rval (x : Raw) : Value := .agg #[.int .i64 x.k, .int .i64 x.f, .int .i64 x.b, .int .i64 x.l, .int .i64 x.m, .int .i64 x.c]
/-- it is this circuit in range -/
structure Raw.Is (x : Raw) (F : Nat) (y : CK) : Prop where
  fld : IsF F
  ok : y.ok
  calls : ¬ 511 < y.calls
  val : x.val = y.val F
  rval : x.rval = y.rval F

end Go.Proofs.YtfhmineolncefaaDoor

namespace Go.Proofs.YtfhmineolncefaaDoor
open Go.RowKit Fm
set_option linter.unusedVariables false
set_option maxRecDepth 100000

/-- no slice and a code come back -/
def RetNil (n : Int) (w : World) (e : Ending) (w' : World) : Prop := e = .returned (.tuple #[.slice none 0 0, .int .i64 n]) ∧ Below w.heap.size w w'

/-- a sum that can't be -/
def decBad (most : Nat) (k : Int) (e : E) : Bool := e.2 != 0 || decide (k * most < e.1)
/-- what Decode says of sums -/
def decN (y : CK) (l : List E) (k : Int) : Int := if l.length = y.nout then (if k < 0 ∨ 256 < k then 6 else if l.any (decBad y.most k) then 6 else 0) else 9
def RetDec (y : CK) (l : List E) (k : Int) (w : World) (e : Ending) (w' : World) : Prop :=
  (decN y l k ≠ 0 ∧ RetNil (decN y l k) w e w') ∨ (decN y l k = 0 ∧ ∃ v, e = .returned (.tuple #[v, .int .i64 0]) ∧ SlU w' w'.heap.size v (l.map (·.1)) ∧ Below w.heap.size w w')

theorem CK.most_le {y : CK} (h : y.ok) : y.most ≤ 4294967296 := by
  cases y with
  | sum b => show 2 ^ b - 1 ≤ 4294967296; have := pow32 h.2; omega
  | vec b l c => show 2 ^ b - 1 ≤ 4294967296; have := pow32 h.1.2; omega
  | count => show 1 ≤ 4294967296; omega
  | hist l c => show 1 ≤ 4294967296; omega
  | multi l m c => show 1 ≤ 4294967296; omega

theorem Pm_ge {f : Nat} (hf : IsF f) : (1152921504606846976 : Int) ≤ ((Pm f : Nat) : Int) := by
  rcases hf.or with rfl | rfl <;> decide

theorem any_take {α : Type} {p : α → Bool} {l : List α} {q : Nat} {e : α} (h : l[q]? = some e) (ha : (l.take q).any p = false) (he : p e = false) : (l.take (q + 1)).any p = false := by
  rw [List.take_add_one, h, List.any_append, ha]
  simp [he]

end Go.Proofs.YtfhmineolncefaaDoor
