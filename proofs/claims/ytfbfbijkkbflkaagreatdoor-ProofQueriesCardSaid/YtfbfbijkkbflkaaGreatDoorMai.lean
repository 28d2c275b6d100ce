/-
 CirM: what the statements of this layer share.
-/
import Derived.Lib.BitFns
import Derived.Test.YtfbfbijkkbflkaaGreatDoorMah
namespace Go.Proofs.YtfbfbijkkbflkaaGreatDoor
open Go.RowKit Fm
set_option linter.unusedVariables false
set_option maxRecDepth 100000

def usedB (n most : Int) (is : Bool) : Bool := if is then (decide (1 ≤ n) && decide (n ≤ most)) else n == 0
theorem usedB_no (n most : Int) : usedB n most false = (n == 0) := rfl
theorem usedB_yes (n most : Int) : usedB n most true = (decide (1 ≤ n) && decide (n ≤ most)) := rfl

inductive CK where
 | count
 | sum (b : Nat)
 | vec (b l c : Nat)
 | hist (l c : Nat)
 | multi (l m c : Nat)

namespace CK
def k : CK → Nat
 | count => 1
 | sum _ => 2
 | vec _ _ _ => 3
 | hist _ _ => 4
 | multi _ _ _ => 5
def b : CK → Nat
 | sum b => b
 | vec b _ _ => b
 | _ => 0
def l : CK → Nat
 | vec _ l _ => l
 | hist l _ => l
 | multi l _ _ => l
 | _ => 0
def m : CK → Nat
 | multi _ m _ => m
 | _ => 0
def c : CK → Nat
 | vec _ _ c => c
 | hist _ c => c
 | multi _ _ c => c
 | _ => 0
def ok : CK → Prop
 | count => True
 | sum b => 1 ≤ b ∧ b ≤ 32
 | vec b l c => (1 ≤ b ∧ b ≤ 32) ∧ (1 ≤ l ∧ l ≤ 64) ∧ (1 ≤ c ∧ c ≤ 16)
 | hist l c => (1 ≤ l ∧ l ≤ 64) ∧ (1 ≤ c ∧ c ≤ 16)
 | multi l m c => (1 ≤ l ∧ l ≤ 64) ∧ (1 ≤ m ∧ m ≤ l) ∧ (1 ≤ c ∧ c ≤ 16)
def nin : CK → Nat
 | count => 1
 | sum b => b
 | vec b l _ => l * b
 | hist l _ => l
 | multi l m _ => l + Lib.bitLen m
def calls : CK → Nat
 | count => 1
 | sum b => b
 | y => (y.nin + y.c - 1) / y.c
def joint : CK → Nat
 | count => 0
 | sum _ => 1
 | vec b l c => (vec b l c).calls
 | y => y.calls + 1
def gad (f : Nat) : CK → Gad f
 | count => .mul
 | sum _ => .eval [0, -1, 1]
 | vec _ _ c => .par c
 | hist _ c => .par c
 | multi _ _ c => .par c
def arity : CK → Nat
 | count => 2
 | sum _ => 1
 | y => 2 * y.c
def val (f : Nat) (y : CK) : Value := .agg #[.int .u8 y.k, .int .u8 f, .int .i64 y.b, .int .i64 y.l, .int .i64 y.m, .int .i64 y.c]
def rval (f : Nat) (y : CK) : Value := .agg #[.int .i64 y.k, .int .i64 f, .int .i64 y.b, .int .i64 y.l, .int .i64 y.m, .int .i64 y.c]
end CK

theorem gad_arity (f : Nat) (y : CK) : (y.gad f).arity = y.arity := by cases y <;> rfl
theorem gad_degree (f : Nat) (y : CK) : (y.gad f).degree = 2 := by cases y <;> rfl

/-! ### how many bits -/
theorem bitLen_small : ∀ m : Nat, m ≤ 64 → Lib.bitLen m ≤ 7 ∧ m < 2 ^ Lib.bitLen m ∧ (1 ≤ m → 1 ≤ Lib.bitLen m) := by decide +kernel

theorem mul_small {a b p q : Nat} (h : a ≤ p) (k : b ≤ q) : a * b ≤ p * q := Nat.mul_le_mul h k

namespace CK
theorem nin_le {y : CK} (h : y.ok) : y.nin ≤ 2048 := by
 cases y with
 | count => show 1 ≤ 2048; omega
 | sum b => show b ≤ 2048; have := h.2; omega
 | vec b l c => exact Nat.le_trans (mul_small h.2.1.2 h.1.2) (by omega)
 | hist l c => show l ≤ 2048; have := h.1.2; omega
 | multi l m c =>
  show l + Lib.bitLen m ≤ 2048
  have h1 := h.1.2
  have h2 := h.2.1.2
  have := (bitLen_small m (by omega)).1
  omega
theorem nin_pos {y : CK} (h : y.ok) : 1 ≤ y.nin := by
 cases y with
 | count => show 1 ≤ 1; omega
 | sum b => exact h.1
 | vec b l c => exact Nat.mul_pos h.2.1.1 h.1.1
 | hist l c => exact h.1.1
 | multi l m c => exact Nat.le_trans h.1.1 (Nat.le_add_right _ _)
end CK

theorem ceil_spec {n c : Nat} (hc : 1 ≤ c) : n ≤ (n + c - 1) / c * c := by
 have h := Nat.div_add_mod (n + c - 1) c
 have h2 := Nat.mod_lt (n + c - 1) (show 0 < c by omega)
 rw [Nat.mul_comm] at h
 omega
theorem ceil_le {n c : Nat} (hc : 1 ≤ c) : (n + c - 1) / c ≤ n := by
 refine Nat.le_of_lt_succ ((Nat.div_lt_iff_lt_mul (by omega)).2 ?_)
 have h := Nat.mul_le_mul_left n hc
 rw [Nat.succ_mul]
 omega

/-! ### the least power of two that isn't below -/
def nextP (n : Nat) : Nat :=
 if n ≤ 1 then 1 else if n ≤ 2 then 2 else if n ≤ 4 then 4 else if n ≤ 8 then 8 else if n ≤ 16 then 16 else if n ≤ 32 then 32 else if n ≤ 64 then 64 else if n ≤ 128 then 128 else if n ≤ 256 then 256 else if n ≤ 512 then 512 else 1024
def OnWay (n out : Nat) : Prop := (out = 1 ∨ out = 2 ∨ out = 4 ∨ out = 8 ∨ out = 16 ∨ out = 32 ∨ out = 64 ∨ out = 128 ∨ out = 256 ∨ out = 512 ∨ out = 1024) ∧ (out = 1 ∨ out < 2 * n)
theorem onWay_one (n : Nat) : OnWay n 1 := ⟨.inl rfl, .inl rfl⟩
theorem onWay_next {n out : Nat} (h : OnWay n out) (h1 : out < n) (h2 : out < 1024) : OnWay n (2 * out) := by
 obtain ⟨h, _⟩ := h
 refine ⟨by omega, .inr (by omega)⟩
theorem onWay_end {n out : Nat} (h : OnWay n out) (hn : n ≤ 1024) (h1 : ¬ out < n) : nextP n = out := by
 obtain ⟨h, h2⟩ := h
 unfold nextP
 repeat' split
 all_goals omega
theorem onWay_le {n out : Nat} (h : OnWay n out) : 1 ≤ out ∧ out ≤ 1024 := by
 obtain ⟨h, _⟩ := h
 omega
theorem nextP_le (n : Nat) : 1 ≤ nextP n ∧ nextP n ≤ 1024 := by
 unfold nextP
 repeat' split
 all_goals omega

end Go.Proofs.YtfbfbijkkbflkaaGreatDoor
