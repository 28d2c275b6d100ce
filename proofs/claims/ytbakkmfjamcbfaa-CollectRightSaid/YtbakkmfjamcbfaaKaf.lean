/-
 Gadget, CirM: what the statements of this layer share.
-/
import Derived.BigQuiet
import Derived.IntWalk
import Derived.Lib.BitFns
import Derived.Test.YtbakkmfjamcbfaaKae
namespace Go.Proofs.Ytbakkmfjamcbfaa
open Go.RowKit Fm
set_option linter.unusedVariables false
set_option maxRecDepth 100000

inductive Gad (f : Nat) where
 | mul
 | eval (cs : KL f)
 | par (n : Nat)

namespace Gad
variable {f : Nat}
end Gad

def RepG {f : Nat} (w : World) (B : Nat) (k : Int) (sl : Value) (n : Int) : Gad f → Prop
 | .mul => k = 1 ∧ sl = .slice none 0 0 ∧ n = 0
 | .eval cs => k = 2 ∧ n = 0 ∧ SlK w B sl cs ∧ (∃ m y, cs.length = m + 1 ∧ cs[m]? = some y ∧ y ≠ 0 ∧ 1 ≤ m ∧ m ≤ 3)
 | .par m => k = 3 ∧ sl = .slice none 0 0 ∧ n = m ∧ 1 ≤ m ∧ m ≤ 16

theorem RepG.below {f : Nat} {w w' : World} {B : Nat} {k : Int} {sl : Value} {n : Int} {g : Gad f} (h : RepG w B k sl n g) (hb : Below B w w') : RepG w' B k sl n g := by
 cases g with
 | mul => exact h
 | eval cs => exact ⟨h.1, h.2.1, h.2.2.1.below hb, h.2.2.2⟩
 | par m => exact h
theorem RepG.mono {f : Nat} {w : World} {B B' : Nat} {k : Int} {sl : Value} {n : Int} {g : Gad f} (h : RepG w B k sl n g) (hB : B ≤ B') : RepG w B' k sl n g := by
 cases g with
 | mul => exact h
 | eval cs => exact ⟨h.1, h.2.1, h.2.2.1.mono hB, h.2.2.2⟩
 | par m => exact h
theorem RepG.later {f : Nat} {w w' : World} {k : Int} {sl : Value} {n : Int} {g : Gad f} (h : RepG w w.heap.size k sl n g) (hb : Below w.heap.size w w') : RepG w' w'.heap.size k sl n g := (h.below hb).mono hb.size

section
variable {f : Nat} (hf : IsF f)
include hf

theorem fvalid : (((f : Nat) : Int) == 1 || ((f : Nat) : Int) == 2) = true := by
 rcases hf.or with rfl | rfl <;> rfl
theorem field_ValidK (w : World) : Calls Try.prog 97 #[.int .u8 f] w fun e w' => e = .returned (.bool true) ∧ w = w' := by
 have h := field_Valid (f : Int) w
 rwa [fvalid hf] at h
end

end Go.Proofs.Ytbakkmfjamcbfaa

namespace Go.Proofs.Ytbakkmfjamcbfaa
open Go.RowKit Fm
set_option linter.unusedVariables false
set_option maxRecDepth 100000

def usedB (n most : Int) (is : Bool) : Bool := if is then (decide (1 ≤ n) && decide (n ≤ most)) else n == 0
theorem usedB_no (n most : Int) : usedB n most false = (n == 0) := rfl
theorem usedB_yes (n most : Int) : usedB n most true = (decide (1 ≤ n) && decide (n ≤ most)) := rfl

inductive CK where
 | count
 | sum (b : Nat)
 | vec (b l c : Nat)
 | hist (l c : Nat)
 | multi (l m c : Nat)

namespace CK
def k : CK → Nat
 | count => 1
 | sum _ => 2
 | vec _ _ _ => 3
 | hist _ _ => 4
 | multi _ _ _ => 5
def b : CK → Nat
 | sum b => b
 | vec b _ _ => b
 | _ => 0
def l : CK → Nat
 | vec _ l _ => l
 | hist l _ => l
 | multi l _ _ => l
 | _ => 0
def m : CK → Nat
 | multi _ m _ => m
 | _ => 0
def c : CK → Nat
 | vec _ _ c => c
 | hist _ c => c
 | multi _ _ c => c
 | _ => 0
def ok : CK → Prop
 | count => True
 | sum b => 1 ≤ b ∧ b ≤ 32
 | vec b l c => (1 ≤ b ∧ b ≤ 32) ∧ (1 ≤ l ∧ l ≤ 64) ∧ (1 ≤ c ∧ c ≤ 16)
 | hist l c => (1 ≤ l ∧ l ≤ 64) ∧ (1 ≤ c ∧ c ≤ 16)
 | multi l m c => (1 ≤ l ∧ l ≤ 64) ∧ (1 ≤ m ∧ m ≤ l) ∧ (1 ≤ c ∧ c ≤ 16)
def nin : CK → Nat
 | count => 1
 | sum b => b
 | vec b l _ => l * b
 | hist l _ => l
 | multi l m _ => l + Lib.bitLen m
def nout : CK → Nat
 | count => 1
 | sum _ => 1
 | vec _ l _ => l
 | hist l _ => l
 | multi l _ _ => l
def calls : CK → Nat
 | count => 1
 | sum b => b
 | y => (y.nin + y.c - 1) / y.c
def val (f : Nat) (y : CK) : Value := .agg #[.int .u8 y.k, .int .u8 f, .int .i64 y.b, .int .i64 y.l, .int .i64 y.m, .int .i64 y.c]
def rval (f : Nat) (y : CK) : Value := .agg #[.int .i64 y.k, .int .i64 f, .int .i64 y.b, .int .i64 y.l, .int .i64 y.m, .int .i64 y.c]
end CK

/-! ### how many bits -/
theorem bitLen_small : ∀ m : Nat, m ≤ 64 → Lib.bitLen m ≤ 7 ∧ m < 2 ^ Lib.bitLen m ∧ (1 ≤ m → 1 ≤ Lib.bitLen m) := by decide +kernel

theorem mul_small {a b p q : Nat} (h : a ≤ p) (k : b ≤ q) : a * b ≤ p * q := Nat.mul_le_mul h k

namespace CK
theorem nin_le {y : CK} (h : y.ok) : y.nin ≤ 2048 := by
 cases y with
 | count => show 1 ≤ 2048; omega
 | sum b => show b ≤ 2048; have := h.2; omega
 | vec b l c => exact Nat.le_trans (mul_small h.2.1.2 h.1.2) (by omega)
 | hist l c => show l ≤ 2048; have := h.1.2; omega
 | multi l m c =>
  show l + Lib.bitLen m ≤ 2048
  have h1 := h.1.2
  have h2 := h.2.1.2
  have := (bitLen_small m (by omega)).1
  omega
theorem nout_le {y : CK} (h : y.ok) : 1 ≤ y.nout ∧ y.nout ≤ 64 := by
 cases y with
 | count => exact ⟨Nat.le_refl 1, by show 1 ≤ 64; omega⟩
 | sum b => exact ⟨Nat.le_refl 1, by show 1 ≤ 64; omega⟩
 | vec b l c => exact h.2.1
 | hist l c => exact h.1
 | multi l m c => exact h.1
end CK

theorem ceil_le {n c : Nat} (hc : 1 ≤ c) : (n + c - 1) / c ≤ n := by
 refine Nat.le_of_lt_succ ((Nat.div_lt_iff_lt_mul (by omega)).2 ?_)
 have h := Nat.mul_le_mul_left n hc
 rw [Nat.succ_mul]
 omega

/-! ### the least power of two that isn't below -/
end Go.Proofs.Ytbakkmfjamcbfaa
