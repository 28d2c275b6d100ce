/-
 Fm, El, Mem, Elem, ElemEq, Slice, Slice2, Gold: what the statements of this layer share.
-/
import Derived.WalkKit
import Derived.Lib.Hide
import Derived.Outline
import Derived.Deep.DeepFit
import Derived.WalkSpells
import Derived.Deep.RegionWith
import Derived.BigQuiet
import Derived.Deep.QuietTactic
import Derived.Deep.LoopGhost
import Derived.Deep.Draws
import Derived.Test.YtbakkmfjamcbfaaProg
import Derived.ChangeKeysEq
import Derived.Shelf.Spec.BitsCarry
import Derived.Shelf.Bits.Mul64
namespace Go.Proofs.Ytbakkmfjamcbfaa.Fm

/-! ### pigeonhole -/
theorem php : ∀ (n : Nat) (f : Nat → Nat), (∀ i, i < n → f i < n) → (∀ i j, i < n → j < n → f i = f j → i = j) → ∀ y, y < n → ∃ i, i < n ∧ f i = y := by
 intro n
 induction n with
 | zero => intro f _ _ y hy; omega
 | succ n ih =>
  intro f hb hi y hy
  have key : ∀ y, y < n → ∃ i, i < n ∧ (if f i = n then f n else f i) = y := by
   refine ih (fun i => if f i = n then f n else f i) ?_ ?_
   ·intro i hin
    have h1 := hb i (by omega)
    have h2 := hb n (by omega)
    by_cases h : f i = n
    ·simp only [h, if_true]
     have : f n ≠ n := fun e => by
      have := hi i n (by omega) (by omega) (by rw [h, e])
      omega
     omega
    ·simp only [h, if_false]
     omega
   ·intro i j hin hjn h
    by_cases h1 : f i = n <;> by_cases h2 : f j = n
    ·exact hi i j (by omega) (by omega) (by rw [h1, h2])
    ·simp only [h1, h2, if_true, if_false] at h
     have := hi n j (by omega) (by omega) h
     omega
    ·simp only [h1, h2, if_true, if_false] at h
     have := hi i n (by omega) (by omega) h
     omega
    ·simp only [h1, h2, if_false] at h
     exact hi i j (by omega) (by omega) h
  by_cases hm : y = f n
  ·exact ⟨n, by omega, hm.symm⟩
  ·by_cases hyn : y = n
   ·subst hyn
    have hfn : f y < y := by
     have := hb y (by omega)
     omega
    obtain ⟨i, hin, h⟩ := key (f y) hfn
    by_cases h1 : f i = y
    ·exact ⟨i, by omega, h1⟩
    ·simp only [h1, if_false] at h
     have := hi i y (by omega) (by omega) h
     omega
   ·obtain ⟨i, hin, h⟩ := key y (by omega)
    by_cases h1 : f i = n
    ·simp only [h1, if_true] at h
     exact absurd h.symm hm
    ·simp only [h1, if_false] at h
     exact ⟨i, by omega, h⟩

/-! ### primes -/
def Pr (q : Nat) : Prop := 2 ≤ q ∧ ∀ d, d ∣ q → d = 1 ∨ d = q

theorem prime_divisor : ∀ m : Nat, 2 ≤ m → ∃ r, Pr r ∧ r ∣ m := by
 intro m
 induction m using Nat.strongRecOn with
 | _ m ih =>
  intro hm
  by_cases h : ∃ d, d ∣ m ∧ d ≠ 1 ∧ d ≠ m
  ·obtain ⟨d, hd, h1, h2⟩ := h
   have hle := Nat.le_of_dvd (by omega) hd
   have h0 : d ≠ 0 := fun e => by subst e; have := Nat.eq_zero_of_zero_dvd hd; omega
   obtain ⟨r, hr, hrd⟩ := ih d (by omega) (by omega)
   exact ⟨r, hr, Nat.dvd_trans hrd hd⟩
  ·refine ⟨m, ⟨hm, fun d hd => ?_⟩, Nat.dvd_refl m⟩
   by_cases h1 : d = 1
   ·exact .inl h1
   ·by_cases h2 : d = m
    ·exact .inr h2
    ·exact absurd ⟨d, hd, h1, h2⟩ h

theorem Pr.coprime {r a : Nat} (hr : Pr r) (h : ¬ r ∣ a) : Nat.Coprime r a := by
 rcases hr.2 (Nat.gcd r a) (Nat.gcd_dvd_left r a) with h1 | h1
 ·exact h1
 ·exact absurd (h1 ▸ Nat.gcd_dvd_right r a) h

theorem Pr.mul {r a b : Nat} (hr : Pr r) (h : r ∣ a * b) : r ∣ a ∨ r ∣ b := by
 by_cases ha : r ∣ a
 ·exact .inl ha
 ·exact .inr ((hr.coprime ha).dvd_of_dvd_mul_left h)

def prod : List Nat → Nat
 | [] => 1
 | q :: l => q * prod l

theorem Pr.prod {r : Nat} (hr : Pr r) : ∀ l : List Nat, r ∣ prod l → ∃ q, q ∈ l ∧ r ∣ q
 | [], h => by
  have := Nat.le_of_dvd (by decide) h
  have := hr.1
  simp [Fm.prod] at *
  omega
 | q :: l, h => by
  rcases hr.mul h with h | h
  ·exact ⟨q, by simp, h⟩
  ·obtain ⟨q', hm, hd⟩ := Pr.prod hr l h
   exact ⟨q', by simp [hm], hd⟩

def noDiv (q : Nat) : Nat → Nat → Bool
 | _, 0 => true
 | d, n + 1 => (q % d != 0) && noDiv q (d + 1) n

theorem noDiv_spec (q : Nat) : ∀ n d, noDiv q d n = true → ∀ e, d ≤ e → e < d + n → ¬ e ∣ q := by
 intro n
 induction n with
 | zero => intro d _ e h1 h2; omega
 | succ n ih =>
  intro d h e h1 h2
  simp only [noDiv, Bool.and_eq_true, bne_iff_ne, ne_eq] at h
  by_cases he : e = d
  ·subst he
   intro hd
   exact h.1 (Nat.mod_eq_zero_of_dvd hd)
  ·exact ih (d + 1) h.2 e (by omega) (by omega)

theorem Pr.of_noDiv (q s : Nat) (h2 : 2 ≤ q) (hs : q < (2 + s) * (2 + s)) (h : noDiv q 2 s = true) : Pr q := by
 refine ⟨h2, fun d hd => ?_⟩
 by_cases h1 : d = 1
 ·exact .inl h1
 ·by_cases hq : d = q
  ·exact .inr hq
  ·exfalso
   obtain ⟨e, he⟩ := hd
   have hd0 : d ≠ 0 := fun x => by subst x; simp at he; omega
   have he0 : e ≠ 0 := fun x => by subst x; simp at he; omega
   have he1 : e ≠ 1 := fun x => by subst x; simp at he; omega
   by_cases hlt : d < 2 + s
   ·exact noDiv_spec q s 2 h d (by omega) (by omega) ⟨e, he⟩
   ·have hlt2 : e < 2 + s := by
     apply Nat.lt_of_not_le
     intro hge
     have : (2 + s) * (2 + s) ≤ d * e := Nat.mul_le_mul (by omega) hge
     omega
    exact noDiv_spec q s 2 h e (by omega) (by omega) ⟨d, by rw [he, Nat.mul_comm]⟩

/-! ### powers in Fin p -/
section
variable {p : Nat} [NeZero p]

def kpow (a : Fin p) : Nat → Fin p
 | 0 => 1
 | n + 1 => kpow a n * a

theorem kpow_zero (a : Fin p) : kpow a 0 = 1 := rfl
theorem kpow_succ (a : Fin p) (n : Nat) : kpow a (n + 1) = kpow a n * a := rfl
theorem kpow_one (a : Fin p) : kpow a 1 = a := by simp only [kpow]; grind
theorem kpow_add (a : Fin p) (m n : Nat) : kpow a (m + n) = kpow a m * kpow a n := by
 induction n with
 | zero => simp only [Nat.add_zero, kpow]; grind
 | succ n ih => rw [← Nat.add_assoc]; simp only [kpow, ih]; grind
theorem one_kpow (n : Nat) : kpow (1 : Fin p) n = 1 := by
 induction n with
 | zero => rfl
 | succ n ih => rw [kpow, ih]; grind
theorem kpow_mul (a : Fin p) (m n : Nat) : kpow a (m * n) = kpow (kpow a m) n := by
 induction n with
 | zero => rfl
 | succ n ih => rw [Nat.mul_succ, kpow_add, ih]; rfl
theorem mul_kpow (a b : Fin p) (n : Nat) : kpow (a * b) n = kpow a n * kpow b n := by
 induction n with
 | zero => simp only [kpow]; grind
 | succ n ih => simp only [kpow, ih]; grind

structure Gen (g : Fin p) (qs : List Nat) : Prop where
 two : 2 ≤ p
 one : kpow g (p - 1) = 1
 prods : prod qs = p - 1
 prime : ∀ q, q ∈ qs → Pr q
 not : ∀ q, q ∈ qs → kpow g ((p - 1) / q) ≠ 1

theorem exists_least (P : Nat → Prop) : ∀ n, P n → ∃ m, P m ∧ ∀ k, k < m → ¬ P k := by
 intro n
 induction n using Nat.strongRecOn with
 | _ n ih =>
  intro h
  by_cases hx : ∃ k, k < n ∧ P k
  ·obtain ⟨k, hk, hp⟩ := hx
   exact ih k hk hp
  ·exact ⟨n, h, fun k hk hp => hx ⟨k, hk, hp⟩⟩

theorem Gen.order {g : Fin p} {qs : List Nat} (h : Gen g qs) : ∀ d, 0 < d → d < p - 1 → kpow g d ≠ 1 := by
 have hp1 : 0 < p - 1 := by have := h.two; omega
 obtain ⟨o, ⟨ho0, ho⟩, hmin⟩ := exists_least (fun n => 0 < n ∧ kpow g n = 1) (p - 1) ⟨hp1, h.one⟩
 have hdiv : o ∣ p - 1 := by
  have hr : kpow g ((p - 1) % o) = 1 := by
   have e : kpow g (o * ((p - 1) / o) + (p - 1) % o) = 1 := by rw [Nat.div_add_mod]; exact h.one
   rw [kpow_add, kpow_mul, ho, one_kpow] at e
   grind
  by_cases h0 : (p - 1) % o = 0
  ·exact Nat.dvd_of_mod_eq_zero h0
  ·exact absurd ⟨by omega, hr⟩ (hmin _ (Nat.mod_lt _ ho0))
 obtain ⟨m, hm⟩ := hdiv
 have hm0 : m ≠ 0 := fun e => by subst e; simp at hm; omega
 have hm1 : m = 1 := by
  by_cases hm1 : m = 1
  ·exact hm1
  ·exfalso
   obtain ⟨r, hr, t, hrm⟩ := prime_divisor m (by omega)
   have hrN : r ∣ prod qs := ⟨o * t, by rw [h.prods, hm, hrm]; simp only [Nat.mul_left_comm]⟩
   obtain ⟨q, hq, hrq⟩ := hr.prod qs hrN
   have hrq' : r = q := by
    rcases (h.prime q hq).2 r hrq with e | e
    ·have := hr.1; omega
    ·exact e
   subst hrq'
   apply h.not r hq
   have hr0 : 0 < r := by have := hr.1; omega
   have e : (p - 1) / r = o * t := by
    rw [hm, hrm, show o * (r * t) = r * (o * t) from by simp only [Nat.mul_left_comm], Nat.mul_div_cancel_left _ hr0]
   rw [e, kpow_mul, ho, one_kpow]
 subst hm1
 have hoN : o = p - 1 := by omega
 intro d h1 h2 h3
 exact hmin d (by omega) ⟨h1, h3⟩

theorem Gen.unit {g : Fin p} {qs : List Nat} (h : Gen g qs) (n : Nat) : ∃ u : Fin p, kpow g n * u = 1 := by
 have hp1 : 0 < p - 1 := by have := h.two; omega
 refine ⟨kpow g (n * (p - 1) - n), ?_⟩
 have : n ≤ n * (p - 1) := Nat.le_mul_of_pos_right n hp1
 rw [← kpow_add, show n + (n * (p - 1) - n) = (p - 1) * n from by rw [Nat.mul_comm (p - 1) n]; omega, kpow_mul, h.one, one_kpow]

theorem Gen.inj {g : Fin p} {qs : List Nat} (h : Gen g qs) (i j : Nat) (hi : i < p - 1) (hj : j < p - 1) (e : kpow g i = kpow g j) : i = j := by
 have aux : ∀ i j : Nat, i < j → j < p - 1 → kpow g i = kpow g j → False := by
  intro i j hij hj e
  obtain ⟨u, hu⟩ := h.unit i
  apply h.order (j - i) (by omega) (by omega)
  have e2 : kpow g j = kpow g i * kpow g (j - i) := by rw [← kpow_add]; congr 1; omega
  rw [e2] at e
  grind
 rcases Nat.lt_trichotomy i j with hlt | heq | hgt
 ·exact (aux i j hlt hj e).elim
 ·exact heq
 ·exact (aux j i hgt hi e.symm).elim

theorem one_ne_zero (h : 2 ≤ p) : (1 : Fin p) ≠ 0 := by
 intro e
 have := congrArg Fin.val e
 have h1 : (1 : Fin p).val = 1 % p := rfl
 rw [h1, Fin.val_zero, Nat.mod_eq_of_lt (by omega)] at this
 omega

theorem Gen.ne_zero {g : Fin p} {qs : List Nat} (h : Gen g qs) (n : Nat) : kpow g n ≠ 0 := by
 intro e
 obtain ⟨u, hu⟩ := h.unit n
 rw [e] at hu
 apply one_ne_zero h.two
 grind

theorem Gen.all {g : Fin p} {qs : List Nat} (h : Gen g qs) (a : Fin p) (ha : a ≠ 0) : ∃ k, a = kpow g k := by
 have h2 := h.two
 have hval : ∀ i : Nat, (kpow g i).val ≠ 0 := fun i e => h.ne_zero i (Fin.ext (by rw [e]; rfl))
 have ha0 : a.val ≠ 0 := fun e => ha (Fin.ext (by rw [e]; rfl))
 obtain ⟨i, _, hi⟩ := php (p - 1) (fun i => (kpow g i).val - 1) (fun i _ => by have := (kpow g i).isLt; have := hval i; omega)
  (fun i j hi hj e => h.inj i j hi hj (Fin.ext (by have := hval i; have := hval j; omega))) (a.val - 1) (by have := a.isLt; omega)
 exact ⟨i, Fin.ext (by have := hval i; omega)⟩

theorem Gen.fermat {g : Fin p} {qs : List Nat} (h : Gen g qs) (a : Fin p) (ha : a ≠ 0) : kpow a (p - 1) = 1 := by
 obtain ⟨k, rfl⟩ := h.all a ha
 rw [← kpow_mul, Nat.mul_comm, kpow_mul, h.one, one_kpow]

theorem Gen.prime_self {g : Fin p} {qs : List Nat} (h : Gen g qs) : Pr p := by
 refine ⟨h.two, fun d hd => ?_⟩
 by_cases h1 : d = 1
 ·exact .inl h1
 ·by_cases h2 : d = p
  ·exact .inr h2
  ·exfalso
   have hp := h.two
   have hle := Nat.le_of_dvd (by omega) hd
   obtain ⟨e, he⟩ := hd
   have hd0 : d ≠ 0 := fun x => by subst x; simp at he; omega
   have he0 : e ≠ 0 := fun x => by subst x; simp at he; omega
   have hep : e < p := by
    rw [he]
    exact (Nat.lt_mul_iff_one_lt_left (by omega)).2 (by omega)
   have hdp : d < p := by omega
   obtain ⟨k, hk⟩ := h.all (⟨d, hdp⟩ : Fin p) (fun x => hd0 (by have := congrArg Fin.val x; simpa using this))
   obtain ⟨u, hu⟩ := h.unit k
   rw [← hk] at hu
   have hz : (⟨d, hdp⟩ : Fin p) * ⟨e, hep⟩ = 0 := Fin.ext (by rw [Fin.val_mul]; simp only [← he, Nat.mod_self]; rfl)
   have : (⟨e, hep⟩ : Fin p) = 0 := by grind
   have := congrArg Fin.val this
   simp at this
   exact he0 this
end

/-! ### powers by squaring, for the kernel -/
def fp (p a acc : Nat) : Nat → Nat → Nat
 | _, 0 => acc
 | n, fuel + 1 => if n = 0 then acc else fp p (a * a % p) (if n % 2 = 1 then acc * a % p else acc) (n / 2) fuel

theorem fp_spec {p : Nat} [NeZero p] : ∀ (fuel n : Nat) (a acc : Fin p), n < 2 ^ fuel → fp p a.val acc.val n fuel = (acc * kpow a n).val := by
 intro fuel
 induction fuel with
 | zero =>
  intro n a acc h
  have : n = 0 := by simp at h; omega
  subst this
  simp only [fp, kpow]
  congr 1
  grind
 | succ fuel ih =>
  intro n a acc h
  simp only [fp]
  by_cases h0 : n = 0
  ·subst h0
   simp only [if_true, kpow]
   congr 1
   grind
  ·rw [if_neg h0]
   have h2 : n / 2 < 2 ^ fuel := by rw [Nat.pow_succ] at h; omega
   have e1 : a.val * a.val % p = (a * a).val := (Fin.val_mul a a).symm
   have e2 : acc.val * a.val % p = (acc * a).val := (Fin.val_mul acc a).symm
   have e3 : kpow a n = kpow (a * a) (n / 2) * (if n % 2 = 1 then a else 1) := by
    have : kpow (a * a) (n / 2) = kpow a (n / 2 + n / 2) := by rw [mul_kpow, kpow_add]
    rw [this]
    by_cases ho : n % 2 = 1
    ·rw [if_pos ho]
     have : n = n / 2 + n / 2 + 1 := by omega
     conv => lhs; rw [this]
     rfl
    ·rw [if_neg ho]
     have : n = n / 2 + n / 2 := by omega
     conv => lhs; rw [this]
     grind
   rw [e1]
   by_cases ho : n % 2 = 1
   ·rw [if_pos ho, e2, ih _ _ _ h2, e3, if_pos ho]
    congr 1
    grind
   ·rw [if_neg ho, ih _ _ _ h2, e3, if_neg ho]
    congr 1
    grind

/-! ### the moduli -/
def P1 : Nat := 18446744069414584321
def P2 : Nat := 340282366920938462946865773367900766209
def Q3 : Nat := 440340496364689
instance : NeZero P1 := ⟨by decide⟩
instance : NeZero P2 := ⟨by decide⟩
instance : NeZero Q3 := ⟨by decide⟩

def genB (p g : Nat) (qs : List Nat) : Bool :=
 decide (2 ≤ p) && decide (g < p) && (fp p g 1 (p - 1) 128 == 1) && decide (prod qs = p - 1) && qs.all fun q => fp p g 1 ((p - 1) / q) 128 != 1

theorem gen_of {p : Nat} [NeZero p] (g : Nat) (qs : List Nat) (hp : p < 2 ^ 128) (h : genB p g qs = true) (hq : ∀ q, q ∈ qs → Pr q) (hg : g < p) : Gen (⟨g, hg⟩ : Fin p) qs := by
 simp only [genB, Bool.and_eq_true, decide_eq_true_eq, beq_iff_eq, List.all_eq_true, bne_iff_ne, ne_eq] at h
 obtain ⟨⟨⟨⟨h2, _⟩, h1⟩, hpr⟩, hn⟩ := h
 have hone : (1 : Fin p).val = 1 := Nat.mod_eq_of_lt (show 1 < p from by omega)
 have key : ∀ n, n < 2 ^ 128 → fp p g 1 n 128 = (kpow (⟨g, hg⟩ : Fin p) n).val := by
  intro n hn
  have := fp_spec (p := p) 128 n ⟨g, hg⟩ 1 hn
  rw [hone] at this
  rw [this]
  congr 1
  grind
 refine ⟨h2, ?_, hpr, hq, ?_⟩
 ·have := key (p - 1) (by omega)
  apply Fin.ext
  rw [← this, h1, hone]
 ·intro q hm e
  apply hn q hm
  have hle : (p - 1) / q ≤ p - 1 := Nat.div_le_self _ _
  rw [key _ (by omega), e, hone]

theorem pr_small (q s : Nat) (h : (decide (2 ≤ q) && decide (q < (2 + s) * (2 + s)) && noDiv q 2 s) = true) : Pr q := by
 simp only [Bool.and_eq_true, decide_eq_true_eq] at h
 exact Pr.of_noDiv q s h.1.1 h.1.2 h.2

theorem pr2 : Pr 2 := pr_small 2 0 (by decide +kernel)
theorem pr3 : Pr 3 := pr_small 3 1 (by decide +kernel)
theorem pr5 : Pr 5 := pr_small 5 1 (by decide +kernel)
theorem pr17 : Pr 17 := pr_small 17 4 (by decide +kernel)
theorem pr257 : Pr 257 := pr_small 257 16 (by decide +kernel)
theorem pr65537 : Pr 65537 := pr_small 65537 256 (by decide +kernel)
theorem pr3491 : Pr 3491 := pr_small 3491 60 (by decide +kernel)
theorem pr72973 : Pr 72973 := pr_small 72973 270 (by decide +kernel)
theorem pr125714447 : Pr 125714447 := pr_small 125714447 11212 (by decide +kernel)

def qs3 : List Nat := [2, 2, 2, 2, 3, 72973, 125714447]
theorem gen3 : ∃ g : Fin Q3, Gen g qs3 := ⟨_, gen_of 11 qs3 (by decide +kernel) (by decide +kernel) (by
 intro q hq
 simp only [qs3, List.mem_cons, List.not_mem_nil, or_false] at hq
 rcases hq with rfl | rfl | rfl | rfl | rfl | rfl | rfl
 ·exact pr2
 ·exact pr2
 ·exact pr2
 ·exact pr2
 ·exact pr3
 ·exact pr72973
 ·exact pr125714447) (by decide +kernel)⟩
theorem prQ3 : Pr Q3 := let ⟨_, h⟩ := gen3; h.prime_self

def qs1 : List Nat := List.replicate 32 2 ++ [3, 5, 17, 257, 65537]
theorem gen1 : Gen (⟨7, by decide +kernel⟩ : Fin P1) qs1 := gen_of 7 qs1 (by decide +kernel) (by decide +kernel) (by
 intro q hq
 simp only [qs1, List.mem_append, List.mem_replicate, List.mem_cons, List.not_mem_nil, or_false] at hq
 rcases hq with ⟨_, rfl⟩ | rfl | rfl | rfl | rfl | rfl
 ·exact pr2
 ·exact pr3
 ·exact pr5
 ·exact pr17
 ·exact pr257
 ·exact pr65537) (by decide +kernel)

def qs2 : List Nat := List.replicate 66 2 ++ [3, 3491, Q3]
theorem gen2 : Gen (⟨7, by decide +kernel⟩ : Fin P2) qs2 := gen_of 7 qs2 (by decide +kernel) (by decide +kernel) (by
 intro q hq
 simp only [qs2, List.mem_append, List.mem_replicate, List.mem_cons, List.not_mem_nil, or_false] at hq
 rcases hq with ⟨_, rfl⟩ | rfl | rfl | rfl
 ·exact pr2
 ·exact pr3
 ·exact pr3491
 ·exact prQ3) (by decide +kernel)

/-! ### the two fields -/
def Pm (f : Nat) : Nat := if f = 1 then P1 else P2
theorem Pm_one : Pm 1 = P1 := rfl
theorem Pm_two : Pm 2 = P2 := rfl
theorem Pm_pos (f : Nat) : 0 < Pm f := by unfold Pm; split <;> decide
instance (f : Nat) : NeZero (Pm f) := ⟨by have := Pm_pos f; omega⟩
theorem two_le (f : Nat) : 2 ≤ Pm f := by unfold Pm; split <;> decide

theorem fermat (f : Nat) (a : Fin (Pm f)) (ha : a ≠ 0) : kpow a (Pm f - 1) = 1 := by
 by_cases h : f = 1
 ·subst h
  exact gen1.fermat a ha
 ·have e : Pm f = P2 := by unfold Pm; rw [if_neg h]
  have key : ∀ (q : Nat) [NeZero q] (hq : q = P2) (a : Fin q), a ≠ 0 → kpow a (q - 1) = 1 := by
   intro q _ hq
   subst hq
   exact fun a ha => gen2.fermat a ha
  exact key _ e a ha

def kinv {f : Nat} (a : Fin (Pm f)) : Fin (Pm f) := kpow a (Pm f - 2)
theorem mul_kinv {f : Nat} (a : Fin (Pm f)) (ha : a ≠ 0) : a * kinv a = 1 := by
 have := fermat f a ha
 have h2 := two_le f
 rw [show Pm f - 1 = (Pm f - 2) + 1 from by omega, kpow_succ] at this
 unfold kinv
 grind
theorem k_one_ne {f : Nat} : (1 : Fin (Pm f)) ≠ 0 := one_ne_zero (two_le f)
theorem k_mul_eq_zero {f : Nat} (a b : Fin (Pm f)) (h : a * b = 0) : a = 0 ∨ b = 0 := by
 by_cases ha : a = 0
 ·exact .inl ha
 ·have := mul_kinv a ha
  right
  grind

end Go.Proofs.Ytbakkmfjamcbfaa.Fm

namespace Go.Proofs.Ytbakkmfjamcbfaa
open Fm

def kI (p : Nat) [NeZero p] (x : Int) : Fin p := ⟨(x % (p : Int)).toNat, by
 have hp : 0 < p := Nat.pos_of_ne_zero (NeZero.ne p)
 have h1 := Int.emod_nonneg x (b := (p : Int)) (by omega)
 have h2 := Int.emod_lt_of_pos x (b := (p : Int)) (by omega)
 omega⟩

theorem kI_val {p : Nat} [NeZero p] (x : Int) : ((kI p x).val : Int) = x % (p : Int) := by
 have hp : 0 < p := Nat.pos_of_ne_zero (NeZero.ne p)
 have h1 := Int.emod_nonneg x (b := (p : Int)) (by omega)
 show (((x % (p : Int)).toNat : Nat) : Int) = _
 omega

theorem kI_congr {p : Nat} [NeZero p] {x y : Int} (h : x % (p : Int) = y % (p : Int)) : kI p x = kI p y := by
 apply Fin.ext
 have h1 := kI_val (p := p) x
 have h2 := kI_val (p := p) y
 omega

theorem kI_inj {p : Nat} [NeZero p] {x y : Int} (h : kI p x = kI p y) : x % (p : Int) = y % (p : Int) := by
 have h1 := kI_val (p := p) x
 have h2 := kI_val (p := p) y
 rw [h] at h1
 omega

theorem kI_add {p : Nat} [NeZero p] (x y : Int) : kI p (x + y) = kI p x + kI p y := by
 apply Fin.ext
 have h : (((kI p x + kI p y).val : Nat) : Int) = (x + y) % (p : Int) := by
  rw [Fin.val_add, Int.natCast_emod, Int.natCast_add, kI_val, kI_val, ← Int.add_emod]
 have h1 := kI_val (p := p) (x + y)
 omega

theorem kI_mul {p : Nat} [NeZero p] (x y : Int) : kI p (x * y) = kI p x * kI p y := by
 apply Fin.ext
 have h : (((kI p x * kI p y).val : Nat) : Int) = (x * y) % (p : Int) := by
  rw [Fin.val_mul, Int.natCast_emod, Int.natCast_mul, kI_val, kI_val, ← Int.mul_emod]
 have h1 := kI_val (p := p) (x * y)
 omega

theorem kI_zero {p : Nat} [NeZero p] : kI p 0 = 0 := by
 apply Fin.ext
 have h := kI_val (p := p) 0
 rw [Int.zero_emod] at h
 rw [Fin.val_zero]
 omega

theorem kI_neg {p : Nat} [NeZero p] (x : Int) : kI p (-x) = - kI p x := by
 have h : kI p (-x) + kI p x = 0 := by rw [← kI_add, Int.add_left_neg, kI_zero]
 grind

theorem kI_sub {p : Nat} [NeZero p] (x y : Int) : kI p (x - y) = kI p x - kI p y := by
 rw [Int.sub_eq_add_neg, kI_add, kI_neg]
 grind

theorem kI_emod {p : Nat} [NeZero p] (x : Int) : kI p (x % (p : Int)) = kI p x := kI_congr (Int.emod_emod_of_dvd x (Int.dvd_refl _))

theorem kI_ofVal {p : Nat} [NeZero p] (k : Fin p) : kI p (k.val : Int) = k := by
 apply Fin.ext
 have h := kI_val (p := p) (k.val : Int)
 have h2 := k.isLt
 rw [Int.emod_eq_of_lt (by omega) (by omega)] at h
 omega

theorem kI_one {p : Nat} [NeZero p] : kI p 1 = 1 := by
 apply Fin.ext
 have h := kI_val (p := p) 1
 have h2 : (1 : Fin p).val = 1 % p := rfl
 have h3 : ((1 % p : Nat) : Int) = (1 : Int) % (p : Int) := Int.natCast_emod 1 p
 rw [h2]
 generalize (1 : Int) % (p : Int) = x at *
 generalize 1 % p = y at *
 omega

/-! ### elements -/
abbrev E := Int × Int
def okE (e : E) : Prop := 0 ≤ e.1 ∧ e.1 ≤ 18446744073709551615 ∧ 0 ≤ e.2 ∧ e.2 ≤ 18446744073709551615

def nE (f : Nat) (e : E) : Int := if f = 1 then e.1 else e.1 + 18446744073709551616 * e.2
def kE (f : Nat) (e : E) : Fin (Pm f) := kI (Pm f) (nE f e)
def eN (n : Int) : E := (n % 18446744073709551616, n / 18446744073709551616)
def eK {f : Nat} (k : Fin (Pm f)) : E := eN (k.val : Int)

theorem Pm_lt (f : Nat) : Pm f < 340282366920938463463374607431768211456 := by
 unfold Pm
 split <;> decide

theorem Pm_small {f : Nat} (h : f = 1) : Pm f < 18446744073709551616 := by
 subst h
 decide

theorem okE_eN (n : Int) (h0 : 0 ≤ n) (h1 : n < 340282366920938463463374607431768211456) : okE (eN n) := by
 unfold okE eN
 simp only
 omega

theorem okE_eK {f : Nat} (k : Fin (Pm f)) : okE (eK k) := by
 have h := k.isLt
 have h2 := Pm_lt f
 exact okE_eN _ (by omega) (by omega)

theorem nE_eN (f : Nat) (n : Int) (h0 : 0 ≤ n) (h : f = 1 → n < 18446744073709551616) : nE f (eN n) = n := by
 unfold nE eN
 simp only
 split
 ·have := h ‹_›
  omega
 ·omega

theorem kE_eK {f : Nat} (k : Fin (Pm f)) : kE f (eK k) = k := by
 have h := k.isLt
 unfold kE eK
 rw [nE_eN f _ (by omega) (fun hf => by have := Pm_small hf; omega), kI_ofVal]

theorem eK_inj {f : Nat} {a b : Fin (Pm f)} (h : eK a = eK b) : a = b := by
 rw [← kE_eK a, ← kE_eK b, h]

theorem eK_zero {f : Nat} : eK (0 : Fin (Pm f)) = (0, 0) := by
 unfold eK eN
 rw [Fin.val_zero]
 rfl

theorem eK_one {f : Nat} : eK (1 : Fin (Pm f)) = (1, 0) := by
 have h : (1 : Fin (Pm f)).val = 1 := Nat.mod_eq_of_lt (show 1 < Pm f from by have := two_le f; omega)
 unfold eK eN
 rw [h]
 rfl

def inE (f : Nat) (e : E) : Prop := eK (kE f e) = e
theorem inE_eK {f : Nat} (k : Fin (Pm f)) : inE f (eK k) := by unfold inE; rw [kE_eK]
theorem kE_zero {f : Nat} : kE f (0, 0) = 0 := by
 rw [← eK_zero (f := f), kE_eK]
theorem kE_one {f : Nat} : kE f (1, 0) = 1 := by
 rw [← eK_one (f := f), kE_eK]

end Go.Proofs.Ytbakkmfjamcbfaa

namespace Go.Proofs.Ytbakkmfjamcbfaa
open Go.RowKit

theorem ret_int {k : IntKind} {a b : Int} (h : a = b) : Ending.returned (.int k a) = .returned (.int k b) := by rw [h]
theorem ret_bool {a b : Bool} (h : a = b) : Ending.returned (.bool a) = .returned (.bool b) := by rw [h]
theorem ret_pair {k k' : IntKind} {a b c d : Int} (h : a = c) (h' : b = d) : Ending.returned (.agg #[.int k a, .int k' b]) = .returned (.agg #[.int k c, .int k' d]) := by rw [h, h']

/-! ### 'Below' -/
section
variable {B : Nat} {a w w' : World}
theorem bl_alloc (h : Below B a w) (hB : B ≤ a.heap.size) (o : Obj) : Below B a (w.alloc o) := h.alloc (Nat.le_trans hB h.size) o
theorem bl_set (h : Below B a w) {p : Addr} (hp : B ≤ p.block) (u : Value) : Below B a (w.setCell p u) := h.setCell hp u
theorem bl_drewN (h : Below B a w) (n : Nat) : Below B a (w.drewN n) := ⟨h.os, h.tape, h.output, h.size, h.block⟩
theorem bl_call (h : Below B a w) (hB : B ≤ a.heap.size) (h' : Below w.heap.size w w') : Below B a w' := h.trans (h'.mono (Nat.le_trans hB h.size))
theorem bA : Below B w w := Below.refl _ _
theorem bB {o : Obj} (h : Below a.heap.size a w) : Below a.heap.size a (w.alloc o) := bl_alloc h (Nat.le_refl _) o
theorem bC {p : Addr} {u : Value} (h : Below B a w) (hp : B ≤ p.block) : Below B a (w.setCell p u) := h.setCell hp u
theorem bD (h : Below B a w) : Below B a w.drew := h.drew
theorem bE {n : Nat} (h : Below B a w) : Below B a (w.drewN n) := bl_drewN h n
theorem bF (h : Below a.heap.size a w) (h' : Below w.heap.size w w') : Below a.heap.size a w' := bl_call h (Nat.le_refl _) h'
theorem undrew (h : Below w.drew.heap.size w.drew w') : Below w.heap.size w w' := ⟨h.os, h.tape, h.output, h.size, h.block⟩
/-! ### a cell -/
theorem lt_of_cell {p : Addr} {v : Value} (h : w.cell? p = some v) : p.block < w.heap.size := World.block_lt_of_cell? w p h
theorem cell_call {p : Addr} {v : Value} (h : w.cell? p = some v) (hb : Below w.heap.size w w') : w'.cell? p = some v := (hb.cell (lt_of_cell h)).trans h
theorem frozen_call {p : Addr} (hp : p.block < w.heap.size) (h : w.frozen? p = false) (hb : Below w.heap.size w w') : w'.frozen? p = false := (hb.frozen hp).trans h
/-! ### a variable of two cells: block b holds u and v -/
structure V2 (w : World) (b : Nat) (u v : Value) : Prop where
 c0 : w.cell? ⟨b, 0, none⟩ = some u
 c1 : w.cell? ⟨b, 1, none⟩ = some v
 f0 : w.frozen? ⟨b, 0, none⟩ = false
 f1 : w.frozen? ⟨b, 1, none⟩ = false
 lt : b < w.heap.size

variable {b : Nat} {u v : Value}
theorem V2.call (h : V2 w b u v) (hb : Below w.heap.size w w') : V2 w' b u v :=
 ⟨cell_call h.c0 hb, cell_call h.c1 hb, frozen_call h.lt h.f0 hb, frozen_call h.lt h.f1 hb, Nat.lt_of_lt_of_le h.lt hb.size⟩
theorem V2.alloc (h : V2 w b u v) (o : Obj) : V2 (w.alloc o) b u v := h.call ((Below.refl _ _).alloc (Nat.le_refl _) o)
theorem V2.drew (h : V2 w b u v) : V2 w.drew b u v := ⟨h.c0, h.c1, h.f0, h.f1, h.lt⟩
theorem V2.drewN (h : V2 w b u v) (n : Nat) : V2 (w.drewN n) b u v := ⟨h.c0, h.c1, h.f0, h.f1, h.lt⟩
theorem V2.new (w : World) (u v : Value) (t : TypeId) : V2 (w.alloc (.cells #[u, v] t)) w.heap.size u v :=
 ⟨by rw [World.cell?_alloc_at _ _ _ _ rfl]; rfl, by rw [World.cell?_alloc_at _ _ _ _ rfl]; rfl, World.frozen?_alloc_at _ _ _ _ rfl, World.frozen?_alloc_at _ _ _ _ rfl, by simp⟩
theorem V2.set (h : V2 w b u v) (u' v' : Value) : V2 ((w.setCell ⟨b, 0, none⟩ u').setCell ⟨b, 1, none⟩ v') b u' v' := by
 have hs0 : (w.cell? ⟨b, 0, none⟩).isSome = true := by rw [h.c0]; rfl
 have hs1 : ((w.setCell ⟨b, 0, none⟩ u').cell? ⟨b, 1, none⟩) = some v := (World.cell?_setCell_other w _ _ _ (by simp)).trans h.c1
 refine ⟨?_, ?_, ?_, ?_, ?_⟩
 ·rw [World.cell?_setCell_other _ _ _ _ (by simp), World.cell?_setCell_same' _ _ _ hs0]
 ·rw [World.cell?_setCell_same' _ _ _ (by rw [hs1]; rfl)]
 ·simpa [go_sem] using h.f0
 ·simpa [go_sem] using h.f1
 ·simpa [World.setCell] using h.lt
theorem V2.setOther (h : V2 w b u v) {p : Addr} (hp : p.block ≠ b) (x : Value) : V2 (w.setCell p x) b u v := by
 have hb : (w.setCell p x).heap[b]? = w.heap[b]? := Below.heap_setCell w p x b (fun e => hp e.symm)
 exact ⟨(World.cell?_of_block (w := w) (a := ⟨b, 0, none⟩) hb).trans h.c0, (World.cell?_of_block (w := w) (a := ⟨b, 1, none⟩) hb).trans h.c1, (World.frozen?_of_block (w := w) (a := ⟨b, 0, none⟩) hb).trans h.f0,
  (World.frozen?_of_block (w := w) (a := ⟨b, 1, none⟩) hb).trans h.f1, by simpa [World.setCell] using h.lt⟩
end

end Go.Proofs.Ytbakkmfjamcbfaa

namespace Go.Proofs.Ytbakkmfjamcbfaa
open Go.RowKit

theorem load_elem {w : World} {b : Nat} {u v : Value} (h : V2 w b u v) : (loadVar 99 ⟨b, 0, none⟩).run Try.prog w = .ok (.agg #[u, v]) w := by
 simp [loadVar, go_sem, h.c0, h.c1]

theorem results_v2 {fn : Func} {p : Tmp} {tmps : Array Value} {w : World} {b : Nat} {u v : Value} (hv : V2 w b u v) (h : fn.results = #[.cell p 99]) (hp : tmps.getD p undef = .pointer (some ⟨b, 0, none⟩)) :
  (results fn tmps).run Try.prog w = .ok (.agg #[u, v]) w := by
 have hl := load_elem hv
 rw [Array.getD_eq_getD_getElem?] at hp
 simp only [results, h]
 simp [asAddr, hp, hl]

end Go.Proofs.Ytbakkmfjamcbfaa

namespace Go.Proofs.Ytbakkmfjamcbfaa
open Go.RowKit

theorem cells_elem : Try.prog.cellsOf 22 = 1 := by kernel_rfl

theorem info_u64 : (Try.prog.info? 22).isSome = true := by kernel_rfl

theorem run_equalIn_elem (d : Nat) (a0 a1 b0 b1 : Int) (w : World) :
  (Op.equalIn (d + 2) 99 (.agg #[.int .u64 a0, .int .u64 a1]) (.agg #[.int .u64 b0, .int .u64 b1])).run Try.prog w = .ok (a0 == b0 && a1 == b1) w := by
 obtain ⟨i, hi⟩ : ∃ i, Try.prog.info? 22 = some i := Option.isSome_iff_exists.1 info_u64
 rw [run_equalIn_array w (d + 1) _ _ Try.underlying99 hi, cells_elem]
 have p0 : ∀ (x y : Int), (part 22 #[.int .u64 x, .int .u64 y] (0 * 1)).run Try.prog w = .ok (.int .u64 x) w := by
  intro x y
  simp [part, isAgg, run_underlying Try.underlying22]
 have p1 : ∀ (x y : Int), (part 22 #[.int .u64 x, .int .u64 y] (1 * 1)).run Try.prog w = .ok (.int .u64 y) w := by
  intro x y
  simp [part, isAgg, run_underlying Try.underlying22]
 have e0 : ∀ (x y : Int), (Op.equalIn (d + 1) 22 (.int .u64 x) (.int .u64 y)).run Try.prog w = .ok (x == y) w := fun x y => run_equalIn_int w d 22 .u64 .u64 x y Try.underlying22
 simp only [show List.range 2 = [0, 1] from rfl, Op.eqItems, Sem.run_bind, p0, e0, Result.andThen_ok]
 cases h : (a0 == b0) <;> simp [Sem.run_bind, p1, e0]
 cases h1 : (a1 == b1) <;> simp <;> simpa using h1

theorem eql_elem (a0 a1 b0 b1 : Int) (w : World) :
  (binOp .eql 99 (.agg #[.int .u64 a0, .int .u64 a1]) (.agg #[.int .u64 b0, .int .u64 b1])).run Try.prog w = .ok (.bool (a0 == b0 && a1 == b1)) w := by
 rw [run_eql_struct, run_equalIn_elem 9998]
 rfl

theorem neq_elem (a0 a1 b0 b1 : Int) (w : World) :
  (binOp .neq 99 (.agg #[.int .u64 a0, .int .u64 a1]) (.agg #[.int .u64 b0, .int .u64 b1])).run Try.prog w = .ok (.bool (!(a0 == b0 && a1 == b1))) w := by
 rw [run_neq_struct, run_equalIn_elem 9998]
 rfl

end Go.Proofs.Ytbakkmfjamcbfaa

namespace Go.Proofs.Ytbakkmfjamcbfaa
open Go.RowKit Fm
set_option linter.unusedVariables false
set_option maxRecDepth 100000

def RowE (w : World) (b o : Nat) (xs : List E) : Prop :=
 ∀ (i : Nat) (e : E), xs[i]? = some e → w.cell? ⟨b, o + i * 2, none⟩ = some (.int .u64 e.1) ∧ w.cell? ⟨b, o + i * 2 + 1, none⟩ = some (.int .u64 e.2)

structure SlE (w : World) (B : Nat) (v : Value) (xs : List E) : Prop where
 ex : ∃ (A : Option Addr) (c : Nat), v = .slice A xs.length c ∧ xs.length ≤ c ∧ c ≤ 9223372036854775807 ∧ (0 < xs.length → ∃ b o, A = some ⟨b, o, none⟩ ∧ b < B ∧ RowE w b o xs)
 ok : ∀ e, e ∈ xs → okE e

theorem RowE.call {w w' : World} {b o : Nat} {xs : List E} (h : RowE w b o xs) (hb : Below w.heap.size w w') : RowE w' b o xs :=
 fun i e hi => ⟨cell_call (h i e hi).1 hb, cell_call (h i e hi).2 hb⟩
theorem RowE.below {w w' : World} {B b o : Nat} {xs : List E} (h : RowE w b o xs) (hb : Below B w w') (hB : b < B) : RowE w' b o xs :=
 fun i e hi => ⟨(hb.cell (p := ⟨b, o + i * 2, none⟩) hB).trans (h i e hi).1, (hb.cell (p := ⟨b, o + i * 2 + 1, none⟩) hB).trans (h i e hi).2⟩
theorem SlE.below {w w' : World} {B : Nat} {v : Value} {xs : List E} (h : SlE w B v xs) (hb : Below B w w') : SlE w' B v xs := by
 obtain ⟨⟨A, c, hv, h1, h2, h3⟩, ok⟩ := h
 exact ⟨⟨A, c, hv, h1, h2, fun hn => let ⟨b, o, hA, hB, hr⟩ := h3 hn; ⟨b, o, hA, hB, hr.below hb hB⟩⟩, ok⟩
theorem SlE.mono {w : World} {B B' : Nat} {v : Value} {xs : List E} (h : SlE w B v xs) (hB : B ≤ B') : SlE w B' v xs := by
 obtain ⟨⟨A, c, hv, h1, h2, h3⟩, ok⟩ := h
 exact ⟨⟨A, c, hv, h1, h2, fun hn => let ⟨b, o, hA, hb, hr⟩ := h3 hn; ⟨b, o, hA, Nat.lt_of_lt_of_le hb hB, hr⟩⟩, ok⟩
theorem SlE.nil (w : World) (B : Nat) : SlE w B (.slice none 0 0) [] := ⟨⟨none, 0, rfl, Nat.le_refl _, by simp, fun h => absurd h (by simp)⟩, fun _ h => by cases h⟩

theorem take_step {α : Type} {xs ys : List α} {k : Nat} {e : α} (h : xs.take k = ys.take k) (hx : xs[k]? = some e) (hy : ys[k]? = some e) : xs.take (k + 1) = ys.take (k + 1) := by
 rw [List.take_add_one, List.take_add_one, h, hx, hy]

set_option maxHeartbeats 1000000 in
theorem ref_Same (va vb : Value) (xs ys : List E) (w : World) (hx : SlE w w.heap.size va xs) (hy : SlE w w.heap.size vb ys) :
  Calls Try.prog 59 #[va, vb] w fun e w' => e = .returned (.bool (decide (xs = ys))) ∧ Below w.heap.size w w' := by
 obtain ⟨⟨A, c, rfl, hc, hcm, hA⟩, hokx⟩ := hx
 obtain ⟨⟨A', c', rfl, hc', hcm', hA'⟩, hoky⟩ := hy
 have hne := neq_elem
 by_cases hl : xs.length = ys.length
 ·have hb : ((xs.length : Int) != (ys.length : Int)) = false := by simp; omega
  have HL := Lib.hid hl
  clear hl
  go_enter Try.func59, Try.ntmps59
  go_wp2
  go_loopw [5] (fun i wr => ∃ k : Nat, k ≤ xs.length ∧ i = .int .i64 k ∧ Hid (xs.take k = ys.take k) ∧ Below w.heap.size w wr) (fun i _ => xs.length - (intOf i).toNat)
  case atStart => exact ⟨0, Nat.zero_le _, rfl, rfl, Below.refl _ _⟩
  case round =>
   obtain ⟨k, hk, rfl, HT, hbw⟩ := hrel
   by_cases hlt : k < xs.length
   ·obtain ⟨b, o, rfl, hB, hr⟩ := hA (by omega)
    obtain ⟨b', o', rfl, hB', hr'⟩ := hA' (by have := HL.out; omega)
    have hlt' : k < ys.length := by have := HL.out; omega
    obtain ⟨e, he⟩ : ∃ e, xs[k]? = some e := ⟨_, List.getElem?_eq_getElem hlt⟩
    obtain ⟨e', he'⟩ : ∃ e, ys[k]? = some e := ⟨_, List.getElem?_eq_getElem hlt'⟩
    obtain ⟨x0, x1⟩ := e
    obtain ⟨y0, y1⟩ := e'
    obtain ⟨c0, c1⟩ := (hr.below hbw hB) k _ he
    obtain ⟨d0, d1⟩ := (hr'.below hbw hB') k _ he'
    have HE := Lib.hid he
    have HE' := Lib.hid he'
    clear he he' hr hr' hA hA'
    by_cases heq : x0 = y0 ∧ x1 = y1
    ·obtain ⟨rfl, rfl⟩ := heq
     go_wp2_with fail
     go_quiet (fail)
     go_wp2
     go_roundw
     case rel => exact ⟨k + 1, by omega, by go_num, take_step HT.out HE.out HE'.out, by repeat (first | exact bA | with_reducible assumption | apply bB | (refine bC ?_ (by dsimp only; omega)) | apply bD | apply bE | (refine bF ?_ (by assumption)))⟩
     case measure => simp [intOf]; omega
    ·have hbn : (x0 == y0 && x1 == y1) = false := by
      rw [Bool.and_eq_false_iff, beq_eq_false_iff_ne, beq_eq_false_iff_ne]
      omega
     go_wp2_with fail
     go_quiet (fail)
     go_wp2
     go_ret
     refine ⟨ret_bool ?_, by repeat (first | exact bA | with_reducible assumption | apply bB | (refine bC ?_ (by dsimp only; omega)) | apply bD | apply bE | (refine bF ?_ (by assumption)))⟩
     rw [eq_comm, decide_eq_false_iff_not]
     rintro rfl
     have := HE.out.symm.trans HE'.out
     simp only [Option.some.injEq, Prod.mk.injEq] at this
     exact heq this
   ·obtain rfl : k = xs.length := by omega
    go_wp2
    go_ret
    refine ⟨ret_bool ?_, by repeat (first | exact bA | with_reducible assumption | apply bB | (refine bC ?_ (by dsimp only; omega)) | apply bD | apply bE | (refine bF ?_ (by assumption)))⟩
    rw [eq_comm, decide_eq_true_eq]
    have h := HT.out
    rwa [List.take_of_length_le (Nat.le_refl _), List.take_of_length_le (by rw [HL.out]; exact Nat.le_refl _)] at h
 ·have hb : ((xs.length : Int) != (ys.length : Int)) = true := by simp; omega
  have hd : decide (xs = ys) = false := by simp; intro h; exact hl (by rw [h])
  rw [hd]
  clear hd
  go_enter Try.func59, Try.ntmps59
  go_wp2
  go_ret
  exact ⟨rfl, by repeat (first | exact bA | with_reducible assumption | apply bB | (refine bC ?_ (by dsimp only; omega)) | apply bD | apply bE | (refine bF ?_ (by assumption)))⟩

end Go.Proofs.Ytbakkmfjamcbfaa

namespace Go.Proofs.Ytbakkmfjamcbfaa
open Go.RowKit Fm
set_option linter.unusedVariables false
set_option maxRecDepth 100000

def cellsE : List E → List Value
 | [] => []
 | e :: l => .int .u64 e.1 :: .int .u64 e.2 :: cellsE l

theorem length_cellsE : ∀ xs : List E, (cellsE xs).length = xs.length * 2
 | [] => rfl
 | e :: l => by simp only [cellsE, List.length_cons, length_cellsE l]; omega

theorem cellsE_at : ∀ (xs : List E) (i : Nat) (e : E), xs[i]? = some e → (cellsE xs)[i * 2]? = some (.int .u64 e.1) ∧ (cellsE xs)[i * 2 + 1]? = some (.int .u64 e.2)
 | [], i, e, h => by simp at h
 | x :: l, 0, e, h => by
  simp only [List.getElem?_cons_zero, Option.some.injEq] at h
  subst h
  exact ⟨rfl, rfl⟩
 | x :: l, i + 1, e, h => by
  have ih := cellsE_at l i e (by simpa using h)
  rw [show (i + 1) * 2 = i * 2 + 1 + 1 from by omega]
  simpa only [cellsE, List.getElem?_cons_succ] using ih

theorem cellsE_set : ∀ (xs : List E) (i : Nat) (a b : Int), ((cellsE xs).set (i * 2) (.int .u64 a)).set (i * 2 + 1) (.int .u64 b) = cellsE (xs.set i (a, b))
 | [], i, a, b => by simp [cellsE]
 | x :: l, 0, a, b => by simp [cellsE]
 | x :: l, i + 1, a, b => by
  rw [show (i + 1) * 2 = i * 2 + 1 + 1 from by omega]
  simp only [cellsE, List.set_cons_succ, cellsE_set l i a b]

theorem cellsE_replicate (n : Nat) : cellsE (List.replicate n (0, 0)) = List.replicate (n * 2) (.int .u64 0) := by
 induction n with
 | zero => rfl
 | succ n ih => rw [List.replicate_succ, cellsE, ih, show (n + 1) * 2 = n * 2 + 1 + 1 from by omega, List.replicate_succ, List.replicate_succ]

def BlkE (w : World) (g : Nat) (xs : List E) : Prop := w.heap[g]? = some (.cells (cellsE xs).toArray 99 (0, 0))

section
variable {w w' : World} {g : Nat} {xs : List E}
theorem BlkE.lt (h : BlkE w g xs) : g < w.heap.size := by
 rcases Nat.lt_or_ge g w.heap.size with hlt | hge
 ·exact hlt
 ·unfold BlkE at h
  rw [Array.getElem?_eq_none hge] at h
  cases h
theorem BlkE.cell (h : BlkE w g xs) (i : Nat) : w.cell? ⟨g, i, none⟩ = (cellsE xs)[i]? := by
 rw [cell_of_row w g i _ _ (0, 0) h]
 simp
theorem BlkE.row (h : BlkE w g xs) (i : Nat) (e : E) (hi : xs[i]? = some e) : w.cell? ⟨g, i * 2, none⟩ = some (.int .u64 e.1) ∧ w.cell? ⟨g, i * 2 + 1, none⟩ = some (.int .u64 e.2) := by
 rw [h.cell, h.cell]
 exact cellsE_at xs i e hi
theorem BlkE.rowE (h : BlkE w g xs) : RowE w g 0 xs := fun i e hi => by
 rw [Nat.zero_add]
 exact h.row i e hi
theorem BlkE.frozen (h : BlkE w g xs) (i : Nat) : w.frozen? ⟨g, i, none⟩ = false := by
 unfold BlkE at h
 simp [World.frozen?, h]
theorem BlkE.drew (h : BlkE w g xs) : BlkE w.drew g xs := h
theorem BlkE.call (h : BlkE w g xs) (hb : Below w.heap.size w w') : BlkE w' g xs := (hb.block g h.lt).trans h
theorem BlkE.below {B : Nat} (h : BlkE w g xs) (hb : Below B w w') (hB : g < B) : BlkE w' g xs := (hb.block g hB).trans h
theorem BlkE.alloc (h : BlkE w g xs) (o : Obj) : BlkE (w.alloc o) g xs := (Below.heap_alloc w o g h.lt).trans h
theorem BlkE.far (h : BlkE w g xs) {p : Addr} (hp : g ≠ p.block) (u : Value) : BlkE (w.setCell p u) g xs := (Below.heap_setCell w p u g hp).trans h
theorem BlkE.set (h : BlkE w g xs) (k : Nat) (a b : Int) : BlkE ((w.setCell ⟨g, k * 2, none⟩ (.int .u64 a)).setCell ⟨g, k * 2 + 1, none⟩ (.int .u64 b)) g (xs.set k (a, b)) := by
 have h1 := heap_setCell_same w g (k * 2) _ _ (.int .u64 a) h
 have h2 := heap_setCell_same _ g (k * 2 + 1) _ _ (.int .u64 b) h1
 unfold BlkE
 rw [h2]
 simp only [List.setIfInBounds_toArray, cellsE_set]
theorem BlkE.sl (h : BlkE w g xs) (hn : xs.length ≤ 9223372036854775807) (ok : ∀ e, e ∈ xs → okE e) {B : Nat} (hB : g < B) : SlE w B (.slice (some ⟨g, 0, none⟩) xs.length xs.length) xs :=
 ⟨⟨some ⟨g, 0, none⟩, xs.length, rfl, Nat.le_refl _, hn, fun _ => ⟨g, 0, rfl, hB, h.rowE⟩⟩, ok⟩
end

theorem info_elem : (Try.prog.info? 99).map (fun i => (i.zero, i.size, i.bytes)) = some (some (.agg #[.int .u64 0, .int .u64 0]), 2, 16) := by kernel_rfl

theorem madeCells_elem (n : Nat) : madeCells #[.int .u64 0, .int .u64 0] (n * 2) = (cellsE (List.replicate n (0, 0))).toArray := by
 rw [cellsE_replicate]
 apply Array.ext
 ·simp [madeCells]
 ·intro i h1 h2
  simp only [madeCells, Array.getElem_map, Array.getElem_range]
  have h3 : i % 2 = 0 ∨ i % 2 = 1 := by omega
  simp only [List.getElem_toArray, List.getElem_replicate]
  rcases h3 with h3 | h3 <;> simp [h3]

theorem make_elem (n : Nat) (hn : n ≤ 1099511627776) (w : World) :
  (Instr.makeSlice 73 (.int .i64 (n : Int)) (.int .i64 (n : Int))).run Try.prog w = .ok (.slice (some ⟨w.heap.size, 0, none⟩) n n) (w.alloc (.cells (cellsE (List.replicate n (0, 0))).toArray 99)) := by
 obtain ⟨i, hi, hz, h1, h2⟩ := info_parts info_elem
 have hr := run_make (P := Try.prog) w 73 99 i _ Try.underlying73 hi hz .i64 .i64 n n (by omega) (by omega) (by rw [h2]; omega) (by omega)
 rw [hr, h1]
 simp only [Int.toNat_natCast, Value.cells, madeCells_elem]

end Go.Proofs.Ytbakkmfjamcbfaa

namespace Go.Proofs.Ytbakkmfjamcbfaa
open Go.RowKit Fm
set_option linter.unusedVariables false
set_option maxRecDepth 100000

/-! ### math/bits: entries of the model -/
theorem add64 (x y c : Int) (w : World) (hx0 : 0 ≤ x) (hy0 : 0 ≤ y) (hx : x ≤ 18446744073709551615) (hy : y ≤ 18446744073709551615) (hc0 : 0 ≤ c) (hc : c ≤ 1) :
  (callFunc 130 #[.int .u64 x, .int .u64 y, .int .u64 c]).run Try.prog w =
   .ok (.value (.tuple #[.int .u64 ((x + y + c) % 18446744073709551616), .int .u64 ((x + y + c) / 18446744073709551616)])) w := by
 obtain ⟨x, rfl⟩ := Int.eq_ofNat_of_zero_le hx0
 obtain ⟨y, rfl⟩ := Int.eq_ofNat_of_zero_le hy0
 obtain ⟨c, rfl⟩ := Int.eq_ofNat_of_zero_le hc0
 rw [run_callFunc_extern Try.func130 (by kernel_rfl) (by kernel_rfl) (by kernel_rfl) (e := add64Entry) (by kernel_rfl), run_add64 x y c (by omega) (by omega) (by omega) (by omega)]
 rfl

theorem sub64 (x y b : Int) (w : World) (hx0 : 0 ≤ x) (hy0 : 0 ≤ y) (hx : x ≤ 18446744073709551615) (hy : y ≤ 18446744073709551615) (hb0 : 0 ≤ b) (hb : b ≤ 1) :
  (callFunc 137 #[.int .u64 x, .int .u64 y, .int .u64 b]).run Try.prog w =
   .ok (.value (.tuple #[.int .u64 ((x - y - b) % 18446744073709551616), .int .u64 (if x < y + b then 1 else 0)])) w := by
 obtain ⟨x, rfl⟩ := Int.eq_ofNat_of_zero_le hx0
 obtain ⟨y, rfl⟩ := Int.eq_ofNat_of_zero_le hy0
 obtain ⟨b, rfl⟩ := Int.eq_ofNat_of_zero_le hb0
 rw [run_callFunc_extern Try.func137 (by kernel_rfl) (by kernel_rfl) (by kernel_rfl) (e := sub64Entry) (by kernel_rfl), run_sub64 x y b (by omega)]
 simp only [Result.andThen]
 have e1 : (((x + 18446744073709551616 - y - b) % 18446744073709551616 : Nat) : Int) = ((x : Int) - y - b) % 18446744073709551616 := by omega
 have e2 : (((if x < y + b then 1 else 0 : Nat)) : Int) = if (x : Int) < (y : Int) + (b : Int) then 1 else 0 := by split <;> split <;> omega
 rw [e1, e2]

/-! ### gold -/
theorem gold_Of (a : Int) (w : World) (h0 : 0 ≤ a) (h1 : a ≤ 18446744073709551615) :
  Calls Try.prog 100 #[.int .u64 a] w fun e w' => e = .returned (.int .u64 (a % 18446744069414584321)) ∧ w = w' := by
 by_cases h : 18446744069414584321 ≤ a
 ·go_enter Try.func100, Try.ntmps100
  go_wp2
  go_ret
  exact ⟨ret_int (by omega), rfl⟩
 ·go_enter Try.func100, Try.ntmps100
  go_wp2
  go_ret
  exact ⟨ret_int (by omega), rfl⟩

theorem gold_Add (a b : Int) (w : World) (h0 : 0 ≤ a) (h1 : a ≤ 18446744073709551615) (g0 : 0 ≤ b) (g1 : b ≤ 18446744073709551615) :
  Calls Try.prog 114 #[.int .u64 a, .int .u64 b] w fun e w' => e = .returned (.int .u64 ((a + b) % 18446744069414584321)) ∧ w = w' := by
 go_enter Try.func114, Try.ntmps114
 go_wp2_with (go_at_call 100; refine (gold_Of _ _ (by omega) (by omega)).mono ?_; rintro e w' ⟨rfl, rfl⟩)
 rw [add64]
 case hx0 => omega
 case hy0 => omega
 case hx => omega
 case hy => omega
 case hc0 => omega
 case hc => omega
 go_wp2
 all_goals go_ret
 all_goals refine ⟨ret_int ?_, rfl⟩
 all_goals (try rw [IntKind.wrap_u64]); (try simp only [beq_iff_eq, beq_eq_false_iff_ne] at *); omega

end Go.Proofs.Ytbakkmfjamcbfaa
