/-
 RefV, EncL: what the statements of this layer share.
-/
import Derived.BigQuiet
import Derived.Test.YtpggflcapfkgpaaMar
namespace Go.Proofs.Ytpggflcapfkgpaa
open Go.RowKit Fm
set_option linter.unusedVariables false
set_option maxRecDepth 100000

def Cnt {f : Nat} (l : KL f) (N k s : Nat) : Prop := nK f s = ksum (l.take (min k N))
theorem Cnt.out {f : Nat} {l : KL f} {N k s : Nat} (h : Cnt l N k s) (hk : ¬ k < N) : Cnt l N (k + 1) s := by
 unfold Cnt at *
 rw [show min (k + 1) N = min k N by omega]
 exact h
theorem Cnt.no {f : Nat} {l : KL f} {N k s : Nat} (h : Cnt l N k s) (hx : l[k]? = some 0) : Cnt l N (k + 1) s := by
 by_cases hk : k < N
 ·unfold Cnt at *
  rw [show min (k + 1) N = k + 1 by omega, ksum_take l k _ hx, h, show min k N = k by omega]
  grind
 ·exact h.out hk
def Num {f : Nat} (l : KL f) (j v : Nat) : Prop := nK f v = knum (l.take j) ∧ v < 2 ^ j
theorem Num.no {f : Nat} {l : KL f} {j v : Nat} (h : Num l j v) (hx : l[j]? = some 0) : Num l (j + 1) v := by
 refine ⟨?_, ?_⟩
 ·rw [knum_take l j _ hx, ← h.1]
  grind
 ·have := h.2
  rw [Nat.pow_succ]
  omega
section
variable {f : Nat} (hf : IsF f)
include hf

end

end Go.Proofs.Ytpggflcapfkgpaa

namespace Go.Proofs.Ytpggflcapfkgpaa
open Go.RowKit Fm
set_option linter.unusedVariables false
set_option maxRecDepth 100000

theorem law10_Measure {f : Nat} (hf : IsF f) (y : CK) (hy : y.ok) (vl : Value) (xs : List Int) (w : World) (hl : SlU w w.heap.size vl xs) (hl100 : xs.length ≤ 1000000) :
  Calls Try.prog 7 #[y.val f, vl] w (RetM y w) := by
 cases y with
 | count => exact law10_Measure_count hf hy vl xs w hl hl100
 | sum b => exact law10_Measure_sum hf b hy vl xs w hl hl100
 | vec b l c => exact law10_Measure_vec hf b l c hy vl xs w hl hl100
 | hist l c => exact law10_Measure_hist hf l c hy vl xs w hl hl100
 | multi l m c => exact law10_Measure_multi hf l m c hy vl xs w hl hl100

section
variable {f : Nat} (hf : IsF f)
include hf

end

theorem enc_length {y : CK} {ms : List Nat} (hl : ms.length = y.meas) : (encL y ms).length = y.nin := by
 cases y with
 | count => exact hl
 | sum b => exact (encNums_length b ms).trans (by rw [hl]; exact Nat.one_mul b)
 | vec b l c => exact (encNums_length b ms).trans (by rw [hl]; rfl)
 | hist l c => exact encOne_length l _
 | multi l m c =>
  show (ms ++ bitsL (ms.sum + offN m) (Lib.bitLen m)).length = l + Lib.bitLen m
  rw [List.length_append, bitsL_length, hl]
  rfl

section
variable {f : Nat} (hf : IsF f)
include hf

/-! ### what both say of a measure -/
end

end Go.Proofs.Ytpggflcapfkgpaa
