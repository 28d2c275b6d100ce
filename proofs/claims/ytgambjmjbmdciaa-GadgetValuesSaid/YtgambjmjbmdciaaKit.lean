/-
  SMALL WORDS for walks over elements: a new variable of two cells; stores of an element.
-/
import Derived.Test.YtgambjmjbmdciaaK
import Derived.Test.YtgambjmjbmdciaaReg
namespace Go.Proofs.Ytgambjmjbmdciaa
open Go.RowKit Fm
set_option linter.unusedVariables false
set_option maxRecDepth 100000

theorem isF2 : IsF 2 := ⟨.inr rfl⟩
theorem isF1 : IsF 1 := ⟨.inl rfl⟩

/-- a new variable of two limbs -/
def NewE (B : Nat) (v : Value) (w : World) : Prop := ∃ b, v = .pointer (some ⟨b, 0, none⟩) ∧ B ≤ b ∧ V2 w b (.int .u64 0) (.int .u64 0)
theorem newE_stable (B : Nat) : ∀ v w w', NewE B v w → Below w.heap.size w w' → NewE B v w' := fun _ _ _ ⟨b, h1, h2, h3⟩ hb => ⟨b, h1, h2, h3.call hb⟩

theorem V2.oth {w : World} {b c : Nat} {u v : Value} (h : V2 w c u v) (hne : b ≠ c) (x y : Value) : V2 ((w.setCell ⟨b, 0, none⟩ x).setCell ⟨b, 1, none⟩ y) c u v :=
  (h.setOther (by exact hne) x).setOther (by exact hne) y
theorem bl_st {B b : Nat} {a w : World} (h : Below B a w) (hp : B ≤ b) (x y : Value) : Below B a ((w.setCell ⟨b, 0, none⟩ x).setCell ⟨b, 1, none⟩ y) := bl_set (bl_set h hp x) hp y
theorem size_st {b : Nat} {w : World} (x y : Value) : ((w.setCell ⟨b, 0, none⟩ x).setCell ⟨b, 1, none⟩ y).heap.size = w.heap.size := by simp [World.setCell]

theorem vK_zero {f : Nat} : vK (0 : Fin (Pm f)) = .agg #[.int .u64 0, .int .u64 0] := by rw [show vK (0 : Fin (Pm f)) = .agg #[.int .u64 (lo (0 : Fin (Pm f))), .int .u64 (hi (0 : Fin (Pm f)))] from rfl, lo_zero, hi_zero]
theorem vK_one {f : Nat} : vK (1 : Fin (Pm f)) = .agg #[.int .u64 1, .int .u64 0] := by rw [show vK (1 : Fin (Pm f)) = .agg #[.int .u64 (lo (1 : Fin (Pm f))), .int .u64 (hi (1 : Fin (Pm f)))] from rfl, lo_one, hi_one]

/-- an element whose number is n -/
theorem RetE.det {n : Int} {w : World} {e : Ending} {w' : World} (h : RetE n w e w') {z0 z1 : Int} (hz : z0 + 18446744073709551616 * z1 = n) (h0 : 0 ≤ z0) (h1 : z0 ≤ 18446744073709551615) :
    e = .returned (.agg #[.int .u64 z0, .int .u64 z1]) ∧ Below w.heap.size w w' := by
  obtain ⟨x0, x1, rfl, ⟨g0, g1, g2, g3⟩, HX, hb⟩ := h
  have hx := HX.out
  obtain rfl : x0 = z0 := by omega
  obtain rfl : x1 = z1 := by omega
  exact ⟨rfl, hb⟩

theorem limbs2 (n : Int) (h0 : 0 ≤ n) (h1 : n < 340282366920938463463374607431768211456) : ∃ z0 z1 : Int, z0 + 18446744073709551616 * z1 = n ∧ 0 ≤ z0 ∧ z0 ≤ 18446744073709551615 ∧ 0 ≤ z1 ∧ z1 ≤ 18446744073709551615 :=
  ⟨n % 18446744073709551616, n / 18446744073709551616, by omega, by omega, by omega, by omega, by omega⟩

/-- the number of an element -/
theorem val_lohi {f : Nat} (x : Fin (Pm f)) : lo x + 18446744073709551616 * hi x = ((x.val : Nat) : Int) := by
  have hx := x.isLt
  have h2 := Pm_lt f
  unfold lo hi eK eN
  dsimp only
  omega
theorem vK_of {f : Nat} {x : Fin (Pm f)} {z0 z1 : Int} (h : z0 + 18446744073709551616 * z1 = ((x.val : Nat) : Int)) (h0 : 0 ≤ z0) (h1 : z0 ≤ 18446744073709551615) : lo x = z0 ∧ hi x = z1 := by
  have h2 := val_lohi x
  have h3 := lo_0 x
  have h4 := lo_1 x
  omega
theorem val_add {f : Nat} (x y : Fin (Pm f)) : (((x + y).val : Nat) : Int) = (((x.val : Nat) : Int) + ((y.val : Nat) : Int)) % ((Pm f : Nat) : Int) := by
  rw [Fin.val_add, Int.natCast_emod, Int.natCast_add]
theorem val_mul {f : Nat} (x y : Fin (Pm f)) : (((x * y).val : Nat) : Int) = (((x.val : Nat) : Int) * ((y.val : Nat) : Int)) % ((Pm f : Nat) : Int) := by
  rw [Fin.val_mul, Int.natCast_emod, Int.natCast_mul]
theorem val_neg {f : Nat} (x : Fin (Pm f)) (h : x ≠ 0) : (((-x).val : Nat) : Int) = ((Pm f : Nat) : Int) - ((x.val : Nat) : Int) := by
  have hx := x.isLt
  have h0 : x.val ≠ 0 := fun e => h (Fin.ext (by rw [e, Fin.val_zero]))
  have h1 : (-x).val = (Pm f - x.val) % Pm f := Fin.val_neg' x
  rw [h1, Nat.mod_eq_of_lt (by omega)]
  omega
theorem val_pos {f : Nat} (x : Fin (Pm f)) : 0 ≤ ((x.val : Nat) : Int) ∧ ((x.val : Nat) : Int) < ((Pm f : Nat) : Int) := by
  have hx := x.isLt
  omega
theorem val_zero {f : Nat} : (((0 : Fin (Pm f)).val : Nat) : Int) = 0 := by rw [Fin.val_zero]; rfl

end Go.Proofs.Ytgambjmjbmdciaa
