/-
  PURE: an element is a pair of numbers of 64 bits; as a number modulo its field's modulus, and back.
-/
import Derived.Test.YtgambjmjbmdciaaFm
namespace Go.Proofs.Ytgambjmjbmdciaa
open Fm

/-- a whole number modulo p -/
def kI (p : Nat) [NeZero p] (x : Int) : Fin p := ⟨(x % (p : Int)).toNat, by
  have hp : 0 < p := Nat.pos_of_ne_zero (NeZero.ne p)
  have h1 := Int.emod_nonneg x (b := (p : Int)) (by omega)
  have h2 := Int.emod_lt_of_pos x (b := (p : Int)) (by omega)
  omega⟩

theorem kI_val {p : Nat} [NeZero p] (x : Int) : ((kI p x).val : Int) = x % (p : Int) := by
  have hp : 0 < p := Nat.pos_of_ne_zero (NeZero.ne p)
  have h1 := Int.emod_nonneg x (b := (p : Int)) (by omega)
  show (((x % (p : Int)).toNat : Nat) : Int) = _
  omega

theorem kI_congr {p : Nat} [NeZero p] {x y : Int} (h : x % (p : Int) = y % (p : Int)) : kI p x = kI p y := by
  apply Fin.ext
  have h1 := kI_val (p := p) x
  have h2 := kI_val (p := p) y
  omega

theorem kI_inj {p : Nat} [NeZero p] {x y : Int} (h : kI p x = kI p y) : x % (p : Int) = y % (p : Int) := by
  have h1 := kI_val (p := p) x
  have h2 := kI_val (p := p) y
  rw [h] at h1
  omega

theorem kI_add {p : Nat} [NeZero p] (x y : Int) : kI p (x + y) = kI p x + kI p y := by
  apply Fin.ext
  have h : (((kI p x + kI p y).val : Nat) : Int) = (x + y) % (p : Int) := by
    rw [Fin.val_add, Int.natCast_emod, Int.natCast_add, kI_val, kI_val, ← Int.add_emod]
  have h1 := kI_val (p := p) (x + y)
  omega

theorem kI_mul {p : Nat} [NeZero p] (x y : Int) : kI p (x * y) = kI p x * kI p y := by
  apply Fin.ext
  have h : (((kI p x * kI p y).val : Nat) : Int) = (x * y) % (p : Int) := by
    rw [Fin.val_mul, Int.natCast_emod, Int.natCast_mul, kI_val, kI_val, ← Int.mul_emod]
  have h1 := kI_val (p := p) (x * y)
  omega

theorem kI_zero {p : Nat} [NeZero p] : kI p 0 = 0 := by
  apply Fin.ext
  have h := kI_val (p := p) 0
  rw [Int.zero_emod] at h
  rw [Fin.val_zero]
  omega

theorem kI_neg {p : Nat} [NeZero p] (x : Int) : kI p (-x) = - kI p x := by
  have h : kI p (-x) + kI p x = 0 := by rw [← kI_add, Int.add_left_neg, kI_zero]
  grind

theorem kI_sub {p : Nat} [NeZero p] (x y : Int) : kI p (x - y) = kI p x - kI p y := by
  rw [Int.sub_eq_add_neg, kI_add, kI_neg]
  grind

theorem kI_emod {p : Nat} [NeZero p] (x : Int) : kI p (x % (p : Int)) = kI p x := kI_congr (Int.emod_emod_of_dvd x (Int.dvd_refl _))

theorem kI_ofVal {p : Nat} [NeZero p] (k : Fin p) : kI p (k.val : Int) = k := by
  apply Fin.ext
  have h := kI_val (p := p) (k.val : Int)
  have h2 := k.isLt
  rw [Int.emod_eq_of_lt (by omega) (by omega)] at h
  omega

theorem kI_one {p : Nat} [NeZero p] : kI p 1 = 1 := by
  apply Fin.ext
  have h := kI_val (p := p) 1
  have h2 : (1 : Fin p).val = 1 % p := rfl
  have h3 : ((1 % p : Nat) : Int) = (1 : Int) % (p : Int) := Int.natCast_emod 1 p
  rw [h2]
  generalize (1 : Int) % (p : Int) = x at *
  generalize 1 % p = y at *
  omega

/-! ### elements -/
abbrev E := Int × Int
def okE (e : E) : Prop := 0 ≤ e.1 ∧ e.1 ≤ 18446744073709551615 ∧ 0 ≤ e.2 ∧ e.2 ≤ 18446744073709551615

/-- the number that an element stands for -/
def nE (f : Nat) (e : E) : Int := if f = 1 then e.1 else e.1 + 18446744073709551616 * e.2
def kE (f : Nat) (e : E) : Fin (Pm f) := kI (Pm f) (nE f e)
/-- a number below the modulus, as an element -/
def eN (n : Int) : E := (n % 18446744073709551616, n / 18446744073709551616)
def eK {f : Nat} (k : Fin (Pm f)) : E := eN (k.val : Int)

theorem Pm_lt (f : Nat) : Pm f < 340282366920938463463374607431768211456 := by
  unfold Pm
  split <;> decide

theorem Pm_small {f : Nat} (h : f = 1) : Pm f < 18446744073709551616 := by
  subst h
  decide

theorem okE_eN (n : Int) (h0 : 0 ≤ n) (h1 : n < 340282366920938463463374607431768211456) : okE (eN n) := by
  unfold okE eN
  simp only
  omega

theorem okE_eK {f : Nat} (k : Fin (Pm f)) : okE (eK k) := by
  have h := k.isLt
  have h2 := Pm_lt f
  exact okE_eN _ (by omega) (by omega)

theorem nE_eN (f : Nat) (n : Int) (h0 : 0 ≤ n) (h : f = 1 → n < 18446744073709551616) : nE f (eN n) = n := by
  unfold nE eN
  simp only
  split
  · have := h ‹_›
    omega
  · omega

theorem kE_eK {f : Nat} (k : Fin (Pm f)) : kE f (eK k) = k := by
  have h := k.isLt
  unfold kE eK
  rw [nE_eN f _ (by omega) (fun hf => by have := Pm_small hf; omega), kI_ofVal]

theorem eK_inj {f : Nat} {a b : Fin (Pm f)} (h : eK a = eK b) : a = b := by
  rw [← kE_eK a, ← kE_eK b, h]

theorem eK_zero {f : Nat} : eK (0 : Fin (Pm f)) = (0, 0) := by
  unfold eK eN
  rw [Fin.val_zero]
  rfl

theorem eK_one {f : Nat} : eK (1 : Fin (Pm f)) = (1, 0) := by
  have h : (1 : Fin (Pm f)).val = 1 := Nat.mod_eq_of_lt (show 1 < Pm f from by have := two_le f; omega)
  unfold eK eN
  rw [h]
  rfl

/-- it is an element as elements are written -/
def inE (f : Nat) (e : E) : Prop := eK (kE f e) = e
theorem inE_eK {f : Nat} (k : Fin (Pm f)) : inE f (eK k) := by unfold inE; rw [kE_eK]
theorem kE_zero {f : Nat} : kE f (0, 0) = 0 := by
  rw [← eK_zero (f := f), kE_eK]
theorem kE_one {f : Nat} : kE f (1, 0) = 1 := by
  rw [← eK_one (f := f), kE_eK]

end Go.Proofs.Ytgambjmjbmdciaa
