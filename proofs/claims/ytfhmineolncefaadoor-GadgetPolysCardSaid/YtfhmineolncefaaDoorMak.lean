/-
  WALKS: Check of a circuit, and the reference's.
-/
import Derived.Test.YtfhmineolncefaaDoorMaj
namespace Go.Proofs.YtfhmineolncefaaDoor
open Go.RowKit Fm
set_option linter.unusedVariables false
set_option maxRecDepth 100000

theorem usedB_ok {n most : Int} (h1 : 1 ≤ n) (h2 : n ≤ most) : usedB n most true = true := by rw [usedB_yes, decide_eq_true h1, decide_eq_true h2]; rfl

/-- which numbers a kind uses -/
def rangeB (k b l m c : Int) : Bool := usedB b 32 (k == 2 || k == 3) && usedB l 64 (decide (3 ≤ k)) && usedB m l (k == 5) && usedB c 16 (decide (3 ≤ k))

/-- may it be asked so often? -/
def CK.code (y : CK) : Int := if 511 < y.calls then 5 else 0
theorem CK.code_no {y : CK} (h : 511 < y.calls) : y.code = 5 := if_pos h
theorem CK.code_ok {y : CK} (h : ¬ 511 < y.calls) : y.code = 0 := if_neg h

theorem usedB_nat {n most : Int} (h : usedB n most true = true) : 1 ≤ n ∧ n ≤ most := by
  rw [usedB_yes, Bool.and_eq_true, decide_eq_true_eq, decide_eq_true_eq] at h
  exact h
theorem usedB_none {n most : Int} (h : usedB n most false = true) : n = 0 := by
  rw [usedB_no, beq_iff_eq] at h
  exact h

/-- what a circuit is that is in range -/
theorem cir_range {k b l m c : Int} (hk : 1 ≤ k ∧ k ≤ 5) (h : rangeB k b l m c = true) : ∃ y : CK, y.ok ∧ k = y.k ∧ b = y.b ∧ l = y.l ∧ m = y.m ∧ c = y.c := by
  unfold rangeB at h
  rw [Bool.and_eq_true, Bool.and_eq_true, Bool.and_eq_true] at h
  obtain ⟨⟨⟨h1, h2⟩, h3⟩, h4⟩ := h
  have hk5 : k = 1 ∨ k = 2 ∨ k = 3 ∨ k = 4 ∨ k = 5 := by omega
  rcases hk5 with rfl | rfl | rfl | rfl | rfl
  · obtain rfl := usedB_none h1
    obtain rfl := usedB_none h2
    obtain rfl := usedB_none h3
    obtain rfl := usedB_none h4
    exact ⟨.count, trivial, rfl, rfl, rfl, rfl, rfl⟩
  · obtain ⟨b0, b1⟩ := usedB_nat h1
    obtain rfl := usedB_none h2
    obtain rfl := usedB_none h3
    obtain rfl := usedB_none h4
    obtain ⟨b', rfl⟩ : ∃ b' : Nat, b = b' := ⟨b.toNat, by omega⟩
    exact ⟨.sum b', ⟨by omega, by omega⟩, rfl, rfl, rfl, rfl, rfl⟩
  · obtain ⟨b0, b1⟩ := usedB_nat h1
    obtain ⟨l0, l1⟩ := usedB_nat h2
    obtain rfl := usedB_none h3
    obtain ⟨c0, c1⟩ := usedB_nat h4
    obtain ⟨b', rfl⟩ : ∃ b' : Nat, b = b' := ⟨b.toNat, by omega⟩
    obtain ⟨l', rfl⟩ : ∃ l' : Nat, l = l' := ⟨l.toNat, by omega⟩
    obtain ⟨c', rfl⟩ : ∃ c' : Nat, c = c' := ⟨c.toNat, by omega⟩
    exact ⟨.vec b' l' c', ⟨⟨by omega, by omega⟩, ⟨by omega, by omega⟩, ⟨by omega, by omega⟩⟩, rfl, rfl, rfl, rfl, rfl⟩
  · obtain rfl := usedB_none h1
    obtain ⟨l0, l1⟩ := usedB_nat h2
    obtain rfl := usedB_none h3
    obtain ⟨c0, c1⟩ := usedB_nat h4
    obtain ⟨l', rfl⟩ : ∃ l' : Nat, l = l' := ⟨l.toNat, by omega⟩
    obtain ⟨c', rfl⟩ : ∃ c' : Nat, c = c' := ⟨c.toNat, by omega⟩
    exact ⟨.hist l' c', ⟨⟨by omega, by omega⟩, ⟨by omega, by omega⟩⟩, rfl, rfl, rfl, rfl, rfl⟩
  · obtain rfl := usedB_none h1
    obtain ⟨l0, l1⟩ := usedB_nat h2
    obtain ⟨m0, m1⟩ := usedB_nat h3
    obtain ⟨c0, c1⟩ := usedB_nat h4
    obtain ⟨l', rfl⟩ : ∃ l' : Nat, l = l' := ⟨l.toNat, by omega⟩
    obtain ⟨m', rfl⟩ : ∃ m' : Nat, m = m' := ⟨m.toNat, by omega⟩
    obtain ⟨c', rfl⟩ : ∃ c' : Nat, c = c' := ⟨c.toNat, by omega⟩
    exact ⟨.multi l' m' c', ⟨⟨by omega, by omega⟩, ⟨by omega, by omega⟩, ⟨by omega, by omega⟩⟩, rfl, rfl, rfl, rfl, rfl⟩

/-- a code comes back -/
def RetC (n : Int) (w : World) (e : Ending) (w' : World) : Prop := e = .returned (.int .i64 n) ∧ Below w.heap.size w w'

/-- which numbers a kind uses, as the code has it -/
abbrev tbl0 : Array Value := #[.bool false, .bool false, .bool false, .bool false, .bool false, .bool false, .bool false, .bool false, .bool false, .bool false, .bool false, .bool false, .bool false, .bool false, .bool false, .bool false, .bool false, .bool false, .bool false, .bool false, .bool false, .bool false, .bool false, .bool false]
abbrev tbl : Array Value := #[.bool false, .bool false, .bool false, .bool false, .bool false, .bool false, .bool false, .bool false, .bool true, .bool false, .bool false, .bool false, .bool true, .bool true, .bool false, .bool true, .bool false, .bool true, .bool false, .bool true, .bool false, .bool true, .bool true, .bool true]

end Go.Proofs.YtfhmineolncefaaDoor
