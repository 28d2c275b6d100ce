/-
 Fm, El, Mem, Gold, Wide, Elem: what the statements of this layer share.
-/
import Derived.WalkKit
import Derived.Lib.Hide
import Derived.Outline
import Derived.Deep.DeepFit
import Derived.WalkSpells
import Derived.Deep.RegionWith
import Derived.BigQuiet
import Derived.Deep.QuietTactic
import Derived.Deep.LoopGhost
import Derived.Deep.Draws
import Derived.Test.YtfbfbijkkbflkaaGreatDoorProg
import Derived.Shelf.Spec.BitsCarry
import Derived.Shelf.Bits.Mul64
namespace Go.Proofs.YtfbfbijkkbflkaaGreatDoor.Fm

/-! ### pigeonhole -/
theorem php : ∀ (n : Nat) (f : Nat → Nat), (∀ i, i < n → f i < n) → (∀ i j, i < n → j < n → f i = f j → i = j) → ∀ y, y < n → ∃ i, i < n ∧ f i = y := by
 intro n
 induction n with
 | zero => intro f _ _ y hy; omega
 | succ n ih =>
  intro f hb hi y hy
  have key : ∀ y, y < n → ∃ i, i < n ∧ (if f i = n then f n else f i) = y := by
   refine ih (fun i => if f i = n then f n else f i) ?_ ?_
   ·intro i hin
    have h1 := hb i (by omega)
    have h2 := hb n (by omega)
    by_cases h : f i = n
    ·simp only [h, if_true]
     have : f n ≠ n := fun e => by
      have := hi i n (by omega) (by omega) (by rw [h, e])
      omega
     omega
    ·simp only [h, if_false]
     omega
   ·intro i j hin hjn h
    by_cases h1 : f i = n <;> by_cases h2 : f j = n
    ·exact hi i j (by omega) (by omega) (by rw [h1, h2])
    ·simp only [h1, h2, if_true, if_false] at h
     have := hi n j (by omega) (by omega) h
     omega
    ·simp only [h1, h2, if_true, if_false] at h
     have := hi i n (by omega) (by omega) h
     omega
    ·simp only [h1, h2, if_false] at h
     exact hi i j (by omega) (by omega) h
  by_cases hm : y = f n
  ·exact ⟨n, by omega, hm.symm⟩
  ·by_cases hyn : y = n
   ·subst hyn
    have hfn : f y < y := by
     have := hb y (by omega)
     omega
    obtain ⟨i, hin, h⟩ := key (f y) hfn
    by_cases h1 : f i = y
    ·exact ⟨i, by omega, h1⟩
    ·simp only [h1, if_false] at h
     have := hi i y (by omega) (by omega) h
     omega
   ·obtain ⟨i, hin, h⟩ := key y (by omega)
    by_cases h1 : f i = n
    ·simp only [h1, if_true] at h
     exact absurd h.symm hm
    ·simp only [h1, if_false] at h
     exact ⟨i, by omega, h⟩

/-! ### primes -/
def Pr (q : Nat) : Prop := 2 ≤ q ∧ ∀ d, d ∣ q → d = 1 ∨ d = q

theorem prime_divisor : ∀ m : Nat, 2 ≤ m → ∃ r, Pr r ∧ r ∣ m := by
 intro m
 induction m using Nat.strongRecOn with
 | _ m ih =>
  intro hm
  by_cases h : ∃ d, d ∣ m ∧ d ≠ 1 ∧ d ≠ m
  ·obtain ⟨d, hd, h1, h2⟩ := h
   have hle := Nat.le_of_dvd (by omega) hd
   have h0 : d ≠ 0 := fun e => by subst e; have := Nat.eq_zero_of_zero_dvd hd; omega
   obtain ⟨r, hr, hrd⟩ := ih d (by omega) (by omega)
   exact ⟨r, hr, Nat.dvd_trans hrd hd⟩
  ·refine ⟨m, ⟨hm, fun d hd => ?_⟩, Nat.dvd_refl m⟩
   by_cases h1 : d = 1
   ·exact .inl h1
   ·by_cases h2 : d = m
    ·exact .inr h2
    ·exact absurd ⟨d, hd, h1, h2⟩ h

theorem Pr.coprime {r a : Nat} (hr : Pr r) (h : ¬ r ∣ a) : Nat.Coprime r a := by
 rcases hr.2 (Nat.gcd r a) (Nat.gcd_dvd_left r a) with h1 | h1
 ·exact h1
 ·exact absurd (h1 ▸ Nat.gcd_dvd_right r a) h

theorem Pr.mul {r a b : Nat} (hr : Pr r) (h : r ∣ a * b) : r ∣ a ∨ r ∣ b := by
 by_cases ha : r ∣ a
 ·exact .inl ha
 ·exact .inr ((hr.coprime ha).dvd_of_dvd_mul_left h)

def prod : List Nat → Nat
 | [] => 1
 | q :: l => q * prod l

theorem Pr.prod {r : Nat} (hr : Pr r) : ∀ l : List Nat, r ∣ prod l → ∃ q, q ∈ l ∧ r ∣ q
 | [], h => by
  have := Nat.le_of_dvd (by decide) h
  have := hr.1
  simp [Fm.prod] at *
  omega
 | q :: l, h => by
  rcases hr.mul h with h | h
  ·exact ⟨q, by simp, h⟩
  ·obtain ⟨q', hm, hd⟩ := Pr.prod hr l h
   exact ⟨q', by simp [hm], hd⟩

def noDiv (q : Nat) : Nat → Nat → Bool
 | _, 0 => true
 | d, n + 1 => (q % d != 0) && noDiv q (d + 1) n

theorem noDiv_spec (q : Nat) : ∀ n d, noDiv q d n = true → ∀ e, d ≤ e → e < d + n → ¬ e ∣ q := by
 intro n
 induction n with
 | zero => intro d _ e h1 h2; omega
 | succ n ih =>
  intro d h e h1 h2
  simp only [noDiv, Bool.and_eq_true, bne_iff_ne, ne_eq] at h
  by_cases he : e = d
  ·subst he
   intro hd
   exact h.1 (Nat.mod_eq_zero_of_dvd hd)
  ·exact ih (d + 1) h.2 e (by omega) (by omega)

theorem Pr.of_noDiv (q s : Nat) (h2 : 2 ≤ q) (hs : q < (2 + s) * (2 + s)) (h : noDiv q 2 s = true) : Pr q := by
 refine ⟨h2, fun d hd => ?_⟩
 by_cases h1 : d = 1
 ·exact .inl h1
 ·by_cases hq : d = q
  ·exact .inr hq
  ·exfalso
   obtain ⟨e, he⟩ := hd
   have hd0 : d ≠ 0 := fun x => by subst x; simp at he; omega
   have he0 : e ≠ 0 := fun x => by subst x; simp at he; omega
   have he1 : e ≠ 1 := fun x => by subst x; simp at he; omega
   by_cases hlt : d < 2 + s
   ·exact noDiv_spec q s 2 h d (by omega) (by omega) ⟨e, he⟩
   ·have hlt2 : e < 2 + s := by
     apply Nat.lt_of_not_le
     intro hge
     have : (2 + s) * (2 + s) ≤ d * e := Nat.mul_le_mul (by omega) hge
     omega
    exact noDiv_spec q s 2 h e (by omega) (by omega) ⟨d, by rw [he, Nat.mul_comm]⟩

/-! ### powers in Fin p -/
section
variable {p : Nat} [NeZero p]

def kpow (a : Fin p) : Nat → Fin p
 | 0 => 1
 | n + 1 => kpow a n * a

theorem kpow_zero (a : Fin p) : kpow a 0 = 1 := rfl
theorem kpow_succ (a : Fin p) (n : Nat) : kpow a (n + 1) = kpow a n * a := rfl
theorem kpow_one (a : Fin p) : kpow a 1 = a := by simp only [kpow]; grind
theorem kpow_add (a : Fin p) (m n : Nat) : kpow a (m + n) = kpow a m * kpow a n := by
 induction n with
 | zero => simp only [Nat.add_zero, kpow]; grind
 | succ n ih => rw [← Nat.add_assoc]; simp only [kpow, ih]; grind
theorem one_kpow (n : Nat) : kpow (1 : Fin p) n = 1 := by
 induction n with
 | zero => rfl
 | succ n ih => rw [kpow, ih]; grind
theorem kpow_mul (a : Fin p) (m n : Nat) : kpow a (m * n) = kpow (kpow a m) n := by
 induction n with
 | zero => rfl
 | succ n ih => rw [Nat.mul_succ, kpow_add, ih]; rfl
theorem mul_kpow (a b : Fin p) (n : Nat) : kpow (a * b) n = kpow a n * kpow b n := by
 induction n with
 | zero => simp only [kpow]; grind
 | succ n ih => simp only [kpow, ih]; grind

structure Gen (g : Fin p) (qs : List Nat) : Prop where
 two : 2 ≤ p
 one : kpow g (p - 1) = 1
 prods : prod qs = p - 1
 prime : ∀ q, q ∈ qs → Pr q
 not : ∀ q, q ∈ qs → kpow g ((p - 1) / q) ≠ 1

theorem exists_least (P : Nat → Prop) : ∀ n, P n → ∃ m, P m ∧ ∀ k, k < m → ¬ P k := by
 intro n
 induction n using Nat.strongRecOn with
 | _ n ih =>
  intro h
  by_cases hx : ∃ k, k < n ∧ P k
  ·obtain ⟨k, hk, hp⟩ := hx
   exact ih k hk hp
  ·exact ⟨n, h, fun k hk hp => hx ⟨k, hk, hp⟩⟩

theorem Gen.order {g : Fin p} {qs : List Nat} (h : Gen g qs) : ∀ d, 0 < d → d < p - 1 → kpow g d ≠ 1 := by
 have hp1 : 0 < p - 1 := by have := h.two; omega
 obtain ⟨o, ⟨ho0, ho⟩, hmin⟩ := exists_least (fun n => 0 < n ∧ kpow g n = 1) (p - 1) ⟨hp1, h.one⟩
 have hdiv : o ∣ p - 1 := by
  have hr : kpow g ((p - 1) % o) = 1 := by
   have e : kpow g (o * ((p - 1) / o) + (p - 1) % o) = 1 := by rw [Nat.div_add_mod]; exact h.one
   rw [kpow_add, kpow_mul, ho, one_kpow] at e
   grind
  by_cases h0 : (p - 1) % o = 0
  ·exact Nat.dvd_of_mod_eq_zero h0
  ·exact absurd ⟨by omega, hr⟩ (hmin _ (Nat.mod_lt _ ho0))
 obtain ⟨m, hm⟩ := hdiv
 have hm0 : m ≠ 0 := fun e => by subst e; simp at hm; omega
 have hm1 : m = 1 := by
  by_cases hm1 : m = 1
  ·exact hm1
  ·exfalso
   obtain ⟨r, hr, t, hrm⟩ := prime_divisor m (by omega)
   have hrN : r ∣ prod qs := ⟨o * t, by rw [h.prods, hm, hrm]; simp only [Nat.mul_left_comm]⟩
   obtain ⟨q, hq, hrq⟩ := hr.prod qs hrN
   have hrq' : r = q := by
    rcases (h.prime q hq).2 r hrq with e | e
    ·have := hr.1; omega
    ·exact e
   subst hrq'
   apply h.not r hq
   have hr0 : 0 < r := by have := hr.1; omega
   have e : (p - 1) / r = o * t := by
    rw [hm, hrm, show o * (r * t) = r * (o * t) from by simp only [Nat.mul_left_comm], Nat.mul_div_cancel_left _ hr0]
   rw [e, kpow_mul, ho, one_kpow]
 subst hm1
 have hoN : o = p - 1 := by omega
 intro d h1 h2 h3
 exact hmin d (by omega) ⟨h1, h3⟩

theorem Gen.unit {g : Fin p} {qs : List Nat} (h : Gen g qs) (n : Nat) : ∃ u : Fin p, kpow g n * u = 1 := by
 have hp1 : 0 < p - 1 := by have := h.two; omega
 refine ⟨kpow g (n * (p - 1) - n), ?_⟩
 have : n ≤ n * (p - 1) := Nat.le_mul_of_pos_right n hp1
 rw [← kpow_add, show n + (n * (p - 1) - n) = (p - 1) * n from by rw [Nat.mul_comm (p - 1) n]; omega, kpow_mul, h.one, one_kpow]

theorem Gen.inj {g : Fin p} {qs : List Nat} (h : Gen g qs) (i j : Nat) (hi : i < p - 1) (hj : j < p - 1) (e : kpow g i = kpow g j) : i = j := by
 have aux : ∀ i j : Nat, i < j → j < p - 1 → kpow g i = kpow g j → False := by
  intro i j hij hj e
  obtain ⟨u, hu⟩ := h.unit i
  apply h.order (j - i) (by omega) (by omega)
  have e2 : kpow g j = kpow g i * kpow g (j - i) := by rw [← kpow_add]; congr 1; omega
  rw [e2] at e
  grind
 rcases Nat.lt_trichotomy i j with hlt | heq | hgt
 ·exact (aux i j hlt hj e).elim
 ·exact heq
 ·exact (aux j i hgt hi e.symm).elim

theorem one_ne_zero (h : 2 ≤ p) : (1 : Fin p) ≠ 0 := by
 intro e
 have := congrArg Fin.val e
 have h1 : (1 : Fin p).val = 1 % p := rfl
 rw [h1, Fin.val_zero, Nat.mod_eq_of_lt (by omega)] at this
 omega

theorem Gen.ne_zero {g : Fin p} {qs : List Nat} (h : Gen g qs) (n : Nat) : kpow g n ≠ 0 := by
 intro e
 obtain ⟨u, hu⟩ := h.unit n
 rw [e] at hu
 apply one_ne_zero h.two
 grind

theorem Gen.all {g : Fin p} {qs : List Nat} (h : Gen g qs) (a : Fin p) (ha : a ≠ 0) : ∃ k, a = kpow g k := by
 have h2 := h.two
 have hval : ∀ i : Nat, (kpow g i).val ≠ 0 := fun i e => h.ne_zero i (Fin.ext (by rw [e]; rfl))
 have ha0 : a.val ≠ 0 := fun e => ha (Fin.ext (by rw [e]; rfl))
 obtain ⟨i, _, hi⟩ := php (p - 1) (fun i => (kpow g i).val - 1) (fun i _ => by have := (kpow g i).isLt; have := hval i; omega)
  (fun i j hi hj e => h.inj i j hi hj (Fin.ext (by have := hval i; have := hval j; omega))) (a.val - 1) (by have := a.isLt; omega)
 exact ⟨i, Fin.ext (by have := hval i; omega)⟩

theorem Gen.fermat {g : Fin p} {qs : List Nat} (h : Gen g qs) (a : Fin p) (ha : a ≠ 0) : kpow a (p - 1) = 1 := by
 obtain ⟨k, rfl⟩ := h.all a ha
 rw [← kpow_mul, Nat.mul_comm, kpow_mul, h.one, one_kpow]

theorem Gen.prime_self {g : Fin p} {qs : List Nat} (h : Gen g qs) : Pr p := by
 refine ⟨h.two, fun d hd => ?_⟩
 by_cases h1 : d = 1
 ·exact .inl h1
 ·by_cases h2 : d = p
  ·exact .inr h2
  ·exfalso
   have hp := h.two
   have hle := Nat.le_of_dvd (by omega) hd
   obtain ⟨e, he⟩ := hd
   have hd0 : d ≠ 0 := fun x => by subst x; simp at he; omega
   have he0 : e ≠ 0 := fun x => by subst x; simp at he; omega
   have hep : e < p := by
    rw [he]
    exact (Nat.lt_mul_iff_one_lt_left (by omega)).2 (by omega)
   have hdp : d < p := by omega
   obtain ⟨k, hk⟩ := h.all (⟨d, hdp⟩ : Fin p) (fun x => hd0 (by have := congrArg Fin.val x; simpa using this))
   obtain ⟨u, hu⟩ := h.unit k
   rw [← hk] at hu
   have hz : (⟨d, hdp⟩ : Fin p) * ⟨e, hep⟩ = 0 := Fin.ext (by rw [Fin.val_mul]; simp only [← he, Nat.mod_self]; rfl)
   have : (⟨e, hep⟩ : Fin p) = 0 := by grind
   have := congrArg Fin.val this
   simp at this
   exact he0 this
end

/-! ### powers by squaring, for the kernel -/
def fp (p a acc : Nat) : Nat → Nat → Nat
 | _, 0 => acc
 | n, fuel + 1 => if n = 0 then acc else fp p (a * a % p) (if n % 2 = 1 then acc * a % p else acc) (n / 2) fuel

theorem fp_spec {p : Nat} [NeZero p] : ∀ (fuel n : Nat) (a acc : Fin p), n < 2 ^ fuel → fp p a.val acc.val n fuel = (acc * kpow a n).val := by
 intro fuel
 induction fuel with
 | zero =>
  intro n a acc h
  have : n = 0 := by simp at h; omega
  subst this
  simp only [fp, kpow]
  congr 1
  grind
 | succ fuel ih =>
  intro n a acc h
  simp only [fp]
  by_cases h0 : n = 0
  ·subst h0
   simp only [if_true, kpow]
   congr 1
   grind
  ·rw [if_neg h0]
   have h2 : n / 2 < 2 ^ fuel := by rw [Nat.pow_succ] at h; omega
   have e1 : a.val * a.val % p = (a * a).val := (Fin.val_mul a a).symm
   have e2 : acc.val * a.val % p = (acc * a).val := (Fin.val_mul acc a).symm
   have e3 : kpow a n = kpow (a * a) (n / 2) * (if n % 2 = 1 then a else 1) := by
    have : kpow (a * a) (n / 2) = kpow a (n / 2 + n / 2) := by rw [mul_kpow, kpow_add]
    rw [this]
    by_cases ho : n % 2 = 1
    ·rw [if_pos ho]
     have : n = n / 2 + n / 2 + 1 := by omega
     conv => lhs; rw [this]
     rfl
    ·rw [if_neg ho]
     have : n = n / 2 + n / 2 := by omega
     conv => lhs; rw [this]
     grind
   rw [e1]
   by_cases ho : n % 2 = 1
   ·rw [if_pos ho, e2, ih _ _ _ h2, e3, if_pos ho]
    congr 1
    grind
   ·rw [if_neg ho, ih _ _ _ h2, e3, if_neg ho]
    congr 1
    grind

/-! ### the moduli -/
def P1 : Nat := 18446744069414584321
def P2 : Nat := 340282366920938462946865773367900766209
def Q3 : Nat := 440340496364689
instance : NeZero P1 := ⟨by decide⟩
instance : NeZero P2 := ⟨by decide⟩
instance : NeZero Q3 := ⟨by decide⟩

def genB (p g : Nat) (qs : List Nat) : Bool :=
 decide (2 ≤ p) && decide (g < p) && (fp p g 1 (p - 1) 128 == 1) && decide (prod qs = p - 1) && qs.all fun q => fp p g 1 ((p - 1) / q) 128 != 1

theorem gen_of {p : Nat} [NeZero p] (g : Nat) (qs : List Nat) (hp : p < 2 ^ 128) (h : genB p g qs = true) (hq : ∀ q, q ∈ qs → Pr q) (hg : g < p) : Gen (⟨g, hg⟩ : Fin p) qs := by
 simp only [genB, Bool.and_eq_true, decide_eq_true_eq, beq_iff_eq, List.all_eq_true, bne_iff_ne, ne_eq] at h
 obtain ⟨⟨⟨⟨h2, _⟩, h1⟩, hpr⟩, hn⟩ := h
 have hone : (1 : Fin p).val = 1 := Nat.mod_eq_of_lt (show 1 < p from by omega)
 have key : ∀ n, n < 2 ^ 128 → fp p g 1 n 128 = (kpow (⟨g, hg⟩ : Fin p) n).val := by
  intro n hn
  have := fp_spec (p := p) 128 n ⟨g, hg⟩ 1 hn
  rw [hone] at this
  rw [this]
  congr 1
  grind
 refine ⟨h2, ?_, hpr, hq, ?_⟩
 ·have := key (p - 1) (by omega)
  apply Fin.ext
  rw [← this, h1, hone]
 ·intro q hm e
  apply hn q hm
  have hle : (p - 1) / q ≤ p - 1 := Nat.div_le_self _ _
  rw [key _ (by omega), e, hone]

theorem pr_small (q s : Nat) (h : (decide (2 ≤ q) && decide (q < (2 + s) * (2 + s)) && noDiv q 2 s) = true) : Pr q := by
 simp only [Bool.and_eq_true, decide_eq_true_eq] at h
 exact Pr.of_noDiv q s h.1.1 h.1.2 h.2

theorem pr2 : Pr 2 := pr_small 2 0 (by decide +kernel)
theorem pr3 : Pr 3 := pr_small 3 1 (by decide +kernel)
theorem pr5 : Pr 5 := pr_small 5 1 (by decide +kernel)
theorem pr17 : Pr 17 := pr_small 17 4 (by decide +kernel)
theorem pr257 : Pr 257 := pr_small 257 16 (by decide +kernel)
theorem pr65537 : Pr 65537 := pr_small 65537 256 (by decide +kernel)
theorem pr3491 : Pr 3491 := pr_small 3491 60 (by decide +kernel)
theorem pr72973 : Pr 72973 := pr_small 72973 270 (by decide +kernel)
theorem pr125714447 : Pr 125714447 := pr_small 125714447 11212 (by decide +kernel)

def qs3 : List Nat := [2, 2, 2, 2, 3, 72973, 125714447]
theorem gen3 : ∃ g : Fin Q3, Gen g qs3 := ⟨_, gen_of 11 qs3 (by decide +kernel) (by decide +kernel) (by
 intro q hq
 simp only [qs3, List.mem_cons, List.not_mem_nil, or_false] at hq
 rcases hq with rfl | rfl | rfl | rfl | rfl | rfl | rfl
 ·exact pr2
 ·exact pr2
 ·exact pr2
 ·exact pr2
 ·exact pr3
 ·exact pr72973
 ·exact pr125714447) (by decide +kernel)⟩
theorem prQ3 : Pr Q3 := let ⟨_, h⟩ := gen3; h.prime_self

def qs1 : List Nat := List.replicate 32 2 ++ [3, 5, 17, 257, 65537]
theorem gen1 : Gen (⟨7, by decide +kernel⟩ : Fin P1) qs1 := gen_of 7 qs1 (by decide +kernel) (by decide +kernel) (by
 intro q hq
 simp only [qs1, List.mem_append, List.mem_replicate, List.mem_cons, List.not_mem_nil, or_false] at hq
 rcases hq with ⟨_, rfl⟩ | rfl | rfl | rfl | rfl | rfl
 ·exact pr2
 ·exact pr3
 ·exact pr5
 ·exact pr17
 ·exact pr257
 ·exact pr65537) (by decide +kernel)

def qs2 : List Nat := List.replicate 66 2 ++ [3, 3491, Q3]
theorem gen2 : Gen (⟨7, by decide +kernel⟩ : Fin P2) qs2 := gen_of 7 qs2 (by decide +kernel) (by decide +kernel) (by
 intro q hq
 simp only [qs2, List.mem_append, List.mem_replicate, List.mem_cons, List.not_mem_nil, or_false] at hq
 rcases hq with ⟨_, rfl⟩ | rfl | rfl | rfl
 ·exact pr2
 ·exact pr3
 ·exact pr3491
 ·exact prQ3) (by decide +kernel)

/-! ### the two fields -/
def Pm (f : Nat) : Nat := if f = 1 then P1 else P2
theorem Pm_one : Pm 1 = P1 := rfl
theorem Pm_two : Pm 2 = P2 := rfl
theorem Pm_pos (f : Nat) : 0 < Pm f := by unfold Pm; split <;> decide
instance (f : Nat) : NeZero (Pm f) := ⟨by have := Pm_pos f; omega⟩
theorem two_le (f : Nat) : 2 ≤ Pm f := by unfold Pm; split <;> decide

theorem fermat (f : Nat) (a : Fin (Pm f)) (ha : a ≠ 0) : kpow a (Pm f - 1) = 1 := by
 by_cases h : f = 1
 ·subst h
  exact gen1.fermat a ha
 ·have e : Pm f = P2 := by unfold Pm; rw [if_neg h]
  have key : ∀ (q : Nat) [NeZero q] (hq : q = P2) (a : Fin q), a ≠ 0 → kpow a (q - 1) = 1 := by
   intro q _ hq
   subst hq
   exact fun a ha => gen2.fermat a ha
  exact key _ e a ha

def kinv {f : Nat} (a : Fin (Pm f)) : Fin (Pm f) := kpow a (Pm f - 2)
theorem mul_kinv {f : Nat} (a : Fin (Pm f)) (ha : a ≠ 0) : a * kinv a = 1 := by
 have := fermat f a ha
 have h2 := two_le f
 rw [show Pm f - 1 = (Pm f - 2) + 1 from by omega, kpow_succ] at this
 unfold kinv
 grind
theorem k_one_ne {f : Nat} : (1 : Fin (Pm f)) ≠ 0 := one_ne_zero (two_le f)
theorem k_mul_eq_zero {f : Nat} (a b : Fin (Pm f)) (h : a * b = 0) : a = 0 ∨ b = 0 := by
 by_cases ha : a = 0
 ·exact .inl ha
 ·have := mul_kinv a ha
  right
  grind

end Go.Proofs.YtfbfbijkkbflkaaGreatDoor.Fm

namespace Go.Proofs.YtfbfbijkkbflkaaGreatDoor
open Fm

def kI (p : Nat) [NeZero p] (x : Int) : Fin p := ⟨(x % (p : Int)).toNat, by
 have hp : 0 < p := Nat.pos_of_ne_zero (NeZero.ne p)
 have h1 := Int.emod_nonneg x (b := (p : Int)) (by omega)
 have h2 := Int.emod_lt_of_pos x (b := (p : Int)) (by omega)
 omega⟩

theorem kI_val {p : Nat} [NeZero p] (x : Int) : ((kI p x).val : Int) = x % (p : Int) := by
 have hp : 0 < p := Nat.pos_of_ne_zero (NeZero.ne p)
 have h1 := Int.emod_nonneg x (b := (p : Int)) (by omega)
 show (((x % (p : Int)).toNat : Nat) : Int) = _
 omega

theorem kI_congr {p : Nat} [NeZero p] {x y : Int} (h : x % (p : Int) = y % (p : Int)) : kI p x = kI p y := by
 apply Fin.ext
 have h1 := kI_val (p := p) x
 have h2 := kI_val (p := p) y
 omega

theorem kI_inj {p : Nat} [NeZero p] {x y : Int} (h : kI p x = kI p y) : x % (p : Int) = y % (p : Int) := by
 have h1 := kI_val (p := p) x
 have h2 := kI_val (p := p) y
 rw [h] at h1
 omega

theorem kI_add {p : Nat} [NeZero p] (x y : Int) : kI p (x + y) = kI p x + kI p y := by
 apply Fin.ext
 have h : (((kI p x + kI p y).val : Nat) : Int) = (x + y) % (p : Int) := by
  rw [Fin.val_add, Int.natCast_emod, Int.natCast_add, kI_val, kI_val, ← Int.add_emod]
 have h1 := kI_val (p := p) (x + y)
 omega

theorem kI_mul {p : Nat} [NeZero p] (x y : Int) : kI p (x * y) = kI p x * kI p y := by
 apply Fin.ext
 have h : (((kI p x * kI p y).val : Nat) : Int) = (x * y) % (p : Int) := by
  rw [Fin.val_mul, Int.natCast_emod, Int.natCast_mul, kI_val, kI_val, ← Int.mul_emod]
 have h1 := kI_val (p := p) (x * y)
 omega

theorem kI_zero {p : Nat} [NeZero p] : kI p 0 = 0 := by
 apply Fin.ext
 have h := kI_val (p := p) 0
 rw [Int.zero_emod] at h
 rw [Fin.val_zero]
 omega

theorem kI_neg {p : Nat} [NeZero p] (x : Int) : kI p (-x) = - kI p x := by
 have h : kI p (-x) + kI p x = 0 := by rw [← kI_add, Int.add_left_neg, kI_zero]
 grind

theorem kI_sub {p : Nat} [NeZero p] (x y : Int) : kI p (x - y) = kI p x - kI p y := by
 rw [Int.sub_eq_add_neg, kI_add, kI_neg]
 grind

theorem kI_emod {p : Nat} [NeZero p] (x : Int) : kI p (x % (p : Int)) = kI p x := kI_congr (Int.emod_emod_of_dvd x (Int.dvd_refl _))

theorem kI_ofVal {p : Nat} [NeZero p] (k : Fin p) : kI p (k.val : Int) = k := by
 apply Fin.ext
 have h := kI_val (p := p) (k.val : Int)
 have h2 := k.isLt
 rw [Int.emod_eq_of_lt (by omega) (by omega)] at h
 omega

theorem kI_one {p : Nat} [NeZero p] : kI p 1 = 1 := by
 apply Fin.ext
 have h := kI_val (p := p) 1
 have h2 : (1 : Fin p).val = 1 % p := rfl
 have h3 : ((1 % p : Nat) : Int) = (1 : Int) % (p : Int) := Int.natCast_emod 1 p
 rw [h2]
 generalize (1 : Int) % (p : Int) = x at *
 generalize 1 % p = y at *
 omega

/-! ### elements -/
abbrev E := Int × Int
def okE (e : E) : Prop := 0 ≤ e.1 ∧ e.1 ≤ 18446744073709551615 ∧ 0 ≤ e.2 ∧ e.2 ≤ 18446744073709551615

def nE (f : Nat) (e : E) : Int := if f = 1 then e.1 else e.1 + 18446744073709551616 * e.2
def kE (f : Nat) (e : E) : Fin (Pm f) := kI (Pm f) (nE f e)
def eN (n : Int) : E := (n % 18446744073709551616, n / 18446744073709551616)
def eK {f : Nat} (k : Fin (Pm f)) : E := eN (k.val : Int)

theorem Pm_lt (f : Nat) : Pm f < 340282366920938463463374607431768211456 := by
 unfold Pm
 split <;> decide

theorem Pm_small {f : Nat} (h : f = 1) : Pm f < 18446744073709551616 := by
 subst h
 decide

theorem okE_eN (n : Int) (h0 : 0 ≤ n) (h1 : n < 340282366920938463463374607431768211456) : okE (eN n) := by
 unfold okE eN
 simp only
 omega

theorem okE_eK {f : Nat} (k : Fin (Pm f)) : okE (eK k) := by
 have h := k.isLt
 have h2 := Pm_lt f
 exact okE_eN _ (by omega) (by omega)

theorem nE_eN (f : Nat) (n : Int) (h0 : 0 ≤ n) (h : f = 1 → n < 18446744073709551616) : nE f (eN n) = n := by
 unfold nE eN
 simp only
 split
 ·have := h ‹_›
  omega
 ·omega

theorem kE_eK {f : Nat} (k : Fin (Pm f)) : kE f (eK k) = k := by
 have h := k.isLt
 unfold kE eK
 rw [nE_eN f _ (by omega) (fun hf => by have := Pm_small hf; omega), kI_ofVal]

theorem eK_inj {f : Nat} {a b : Fin (Pm f)} (h : eK a = eK b) : a = b := by
 rw [← kE_eK a, ← kE_eK b, h]

theorem eK_zero {f : Nat} : eK (0 : Fin (Pm f)) = (0, 0) := by
 unfold eK eN
 rw [Fin.val_zero]
 rfl

theorem eK_one {f : Nat} : eK (1 : Fin (Pm f)) = (1, 0) := by
 have h : (1 : Fin (Pm f)).val = 1 := Nat.mod_eq_of_lt (show 1 < Pm f from by have := two_le f; omega)
 unfold eK eN
 rw [h]
 rfl

def inE (f : Nat) (e : E) : Prop := eK (kE f e) = e
theorem inE_eK {f : Nat} (k : Fin (Pm f)) : inE f (eK k) := by unfold inE; rw [kE_eK]
theorem kE_zero {f : Nat} : kE f (0, 0) = 0 := by
 rw [← eK_zero (f := f), kE_eK]
theorem kE_one {f : Nat} : kE f (1, 0) = 1 := by
 rw [← eK_one (f := f), kE_eK]

end Go.Proofs.YtfbfbijkkbflkaaGreatDoor

namespace Go.Proofs.YtfbfbijkkbflkaaGreatDoor
open Go.RowKit

theorem ret_int {k : IntKind} {a b : Int} (h : a = b) : Ending.returned (.int k a) = .returned (.int k b) := by rw [h]
theorem ret_bool {a b : Bool} (h : a = b) : Ending.returned (.bool a) = .returned (.bool b) := by rw [h]
theorem ret_pair {k k' : IntKind} {a b c d : Int} (h : a = c) (h' : b = d) : Ending.returned (.agg #[.int k a, .int k' b]) = .returned (.agg #[.int k c, .int k' d]) := by rw [h, h']

/-! ### 'Below' -/
section
variable {B : Nat} {a w w' : World}
theorem bl_alloc (h : Below B a w) (hB : B ≤ a.heap.size) (o : Obj) : Below B a (w.alloc o) := h.alloc (Nat.le_trans hB h.size) o
theorem bl_set (h : Below B a w) {p : Addr} (hp : B ≤ p.block) (u : Value) : Below B a (w.setCell p u) := h.setCell hp u
theorem bl_drewN (h : Below B a w) (n : Nat) : Below B a (w.drewN n) := ⟨h.os, h.tape, h.output, h.size, h.block⟩
theorem bl_call (h : Below B a w) (hB : B ≤ a.heap.size) (h' : Below w.heap.size w w') : Below B a w' := h.trans (h'.mono (Nat.le_trans hB h.size))
theorem bA : Below B w w := Below.refl _ _
theorem bB {o : Obj} (h : Below a.heap.size a w) : Below a.heap.size a (w.alloc o) := bl_alloc h (Nat.le_refl _) o
theorem bC {p : Addr} {u : Value} (h : Below B a w) (hp : B ≤ p.block) : Below B a (w.setCell p u) := h.setCell hp u
theorem bD (h : Below B a w) : Below B a w.drew := h.drew
theorem bE {n : Nat} (h : Below B a w) : Below B a (w.drewN n) := bl_drewN h n
theorem bF (h : Below a.heap.size a w) (h' : Below w.heap.size w w') : Below a.heap.size a w' := bl_call h (Nat.le_refl _) h'
theorem undrew (h : Below w.drew.heap.size w.drew w') : Below w.heap.size w w' := ⟨h.os, h.tape, h.output, h.size, h.block⟩
/-! ### a cell -/
theorem lt_of_cell {p : Addr} {v : Value} (h : w.cell? p = some v) : p.block < w.heap.size := World.block_lt_of_cell? w p h
theorem cell_call {p : Addr} {v : Value} (h : w.cell? p = some v) (hb : Below w.heap.size w w') : w'.cell? p = some v := (hb.cell (lt_of_cell h)).trans h
theorem frozen_call {p : Addr} (hp : p.block < w.heap.size) (h : w.frozen? p = false) (hb : Below w.heap.size w w') : w'.frozen? p = false := (hb.frozen hp).trans h
/-! ### a variable of two cells: block b holds u and v -/
structure V2 (w : World) (b : Nat) (u v : Value) : Prop where
 c0 : w.cell? ⟨b, 0, none⟩ = some u
 c1 : w.cell? ⟨b, 1, none⟩ = some v
 f0 : w.frozen? ⟨b, 0, none⟩ = false
 f1 : w.frozen? ⟨b, 1, none⟩ = false
 lt : b < w.heap.size

variable {b : Nat} {u v : Value}
theorem V2.call (h : V2 w b u v) (hb : Below w.heap.size w w') : V2 w' b u v :=
 ⟨cell_call h.c0 hb, cell_call h.c1 hb, frozen_call h.lt h.f0 hb, frozen_call h.lt h.f1 hb, Nat.lt_of_lt_of_le h.lt hb.size⟩
theorem V2.alloc (h : V2 w b u v) (o : Obj) : V2 (w.alloc o) b u v := h.call ((Below.refl _ _).alloc (Nat.le_refl _) o)
theorem V2.drew (h : V2 w b u v) : V2 w.drew b u v := ⟨h.c0, h.c1, h.f0, h.f1, h.lt⟩
theorem V2.drewN (h : V2 w b u v) (n : Nat) : V2 (w.drewN n) b u v := ⟨h.c0, h.c1, h.f0, h.f1, h.lt⟩
theorem V2.new (w : World) (u v : Value) (t : TypeId) : V2 (w.alloc (.cells #[u, v] t)) w.heap.size u v :=
 ⟨by rw [World.cell?_alloc_at _ _ _ _ rfl]; rfl, by rw [World.cell?_alloc_at _ _ _ _ rfl]; rfl, World.frozen?_alloc_at _ _ _ _ rfl, World.frozen?_alloc_at _ _ _ _ rfl, by simp⟩
theorem V2.set (h : V2 w b u v) (u' v' : Value) : V2 ((w.setCell ⟨b, 0, none⟩ u').setCell ⟨b, 1, none⟩ v') b u' v' := by
 have hs0 : (w.cell? ⟨b, 0, none⟩).isSome = true := by rw [h.c0]; rfl
 have hs1 : ((w.setCell ⟨b, 0, none⟩ u').cell? ⟨b, 1, none⟩) = some v := (World.cell?_setCell_other w _ _ _ (by simp)).trans h.c1
 refine ⟨?_, ?_, ?_, ?_, ?_⟩
 ·rw [World.cell?_setCell_other _ _ _ _ (by simp), World.cell?_setCell_same' _ _ _ hs0]
 ·rw [World.cell?_setCell_same' _ _ _ (by rw [hs1]; rfl)]
 ·simpa [go_sem] using h.f0
 ·simpa [go_sem] using h.f1
 ·simpa [World.setCell] using h.lt
theorem V2.setOther (h : V2 w b u v) {p : Addr} (hp : p.block ≠ b) (x : Value) : V2 (w.setCell p x) b u v := by
 have hb : (w.setCell p x).heap[b]? = w.heap[b]? := Below.heap_setCell w p x b (fun e => hp e.symm)
 exact ⟨(World.cell?_of_block (w := w) (a := ⟨b, 0, none⟩) hb).trans h.c0, (World.cell?_of_block (w := w) (a := ⟨b, 1, none⟩) hb).trans h.c1, (World.frozen?_of_block (w := w) (a := ⟨b, 0, none⟩) hb).trans h.f0,
  (World.frozen?_of_block (w := w) (a := ⟨b, 1, none⟩) hb).trans h.f1, by simpa [World.setCell] using h.lt⟩
end

end Go.Proofs.YtfbfbijkkbflkaaGreatDoor

namespace Go.Proofs.YtfbfbijkkbflkaaGreatDoor
open Go.RowKit Fm
set_option linter.unusedVariables false
set_option maxRecDepth 100000

/-! ### math/bits: entries of the model -/
theorem add64 (x y c : Int) (w : World) (hx0 : 0 ≤ x) (hy0 : 0 ≤ y) (hx : x ≤ 18446744073709551615) (hy : y ≤ 18446744073709551615) (hc0 : 0 ≤ c) (hc : c ≤ 1) :
  (callFunc 123 #[.int .u64 x, .int .u64 y, .int .u64 c]).run Tryz.prog w =
   .ok (.value (.tuple #[.int .u64 ((x + y + c) % 18446744073709551616), .int .u64 ((x + y + c) / 18446744073709551616)])) w := by
 obtain ⟨x, rfl⟩ := Int.eq_ofNat_of_zero_le hx0
 obtain ⟨y, rfl⟩ := Int.eq_ofNat_of_zero_le hy0
 obtain ⟨c, rfl⟩ := Int.eq_ofNat_of_zero_le hc0
 rw [run_callFunc_extern Tryz.func123 (by kernel_rfl) (by kernel_rfl) (by kernel_rfl) (e := add64Entry) (by kernel_rfl), run_add64 x y c (by omega) (by omega) (by omega) (by omega)]
 rfl

theorem sub64 (x y b : Int) (w : World) (hx0 : 0 ≤ x) (hy0 : 0 ≤ y) (hx : x ≤ 18446744073709551615) (hy : y ≤ 18446744073709551615) (hb0 : 0 ≤ b) (hb : b ≤ 1) :
  (callFunc 143 #[.int .u64 x, .int .u64 y, .int .u64 b]).run Tryz.prog w =
   .ok (.value (.tuple #[.int .u64 ((x - y - b) % 18446744073709551616), .int .u64 (if x < y + b then 1 else 0)])) w := by
 obtain ⟨x, rfl⟩ := Int.eq_ofNat_of_zero_le hx0
 obtain ⟨y, rfl⟩ := Int.eq_ofNat_of_zero_le hy0
 obtain ⟨b, rfl⟩ := Int.eq_ofNat_of_zero_le hb0
 rw [run_callFunc_extern Tryz.func143 (by kernel_rfl) (by kernel_rfl) (by kernel_rfl) (e := sub64Entry) (by kernel_rfl), run_sub64 x y b (by omega)]
 simp only [Result.andThen]
 have e1 : (((x + 18446744073709551616 - y - b) % 18446744073709551616 : Nat) : Int) = ((x : Int) - y - b) % 18446744073709551616 := by omega
 have e2 : (((if x < y + b then 1 else 0 : Nat)) : Int) = if (x : Int) < (y : Int) + (b : Int) then 1 else 0 := by split <;> split <;> omega
 rw [e1, e2]

/-! ### gold -/
theorem gold_Of (a : Int) (w : World) (h0 : 0 ≤ a) (h1 : a ≤ 18446744073709551615) :
  Calls Tryz.prog 98 #[.int .u64 a] w fun e w' => e = .returned (.int .u64 (a % 18446744069414584321)) ∧ w = w' := by
 by_cases h : 18446744069414584321 ≤ a
 ·go_enter Tryz.func98, Tryz.ntmps98
  go_wp2
  go_ret
  exact ⟨ret_int (by omega), rfl⟩
 ·go_enter Tryz.func98, Tryz.ntmps98
  go_wp2
  go_ret
  exact ⟨ret_int (by omega), rfl⟩

theorem gold_In (a : Int) (w : World) (h0 : 0 ≤ a) (h1 : a ≤ 18446744073709551615) :
  Calls Tryz.prog 134 #[.int .u64 a] w fun e w' => e = .returned (.bool (decide (a < 18446744069414584321))) ∧ w = w' := by
 go_enter Tryz.func134, Tryz.ntmps134
 go_wp2
 go_ret
 exact ⟨rfl, rfl⟩

theorem gold_Neg (a : Int) (w : World) (h0 : 0 ≤ a) (h1 : a ≤ 18446744073709551615) :
  Calls Tryz.prog 131 #[.int .u64 a] w fun e w' => e = .returned (.int .u64 ((-a) % 18446744069414584321)) ∧ w = w' := by
 by_cases h : a % 18446744069414584321 = 0
 ·have hb : (a % 18446744069414584321 == 0) = true := by simp [h]
  go_enter Tryz.func131, Tryz.ntmps131
  go_wp2_with (go_at_call 98; refine (gold_Of _ _ (by omega) (by omega)).mono ?_; rintro e w' ⟨rfl, rfl⟩)
  go_ret
  exact ⟨ret_int (by omega), rfl⟩
 ·have hb : (a % 18446744069414584321 == 0) = false := by simp [h]
  go_enter Tryz.func131, Tryz.ntmps131
  go_wp2_with (go_at_call 98; refine (gold_Of _ _ (by omega) (by omega)).mono ?_; rintro e w' ⟨rfl, rfl⟩)
  go_ret
  exact ⟨ret_int (by omega), rfl⟩

theorem gold_Add (a b : Int) (w : World) (h0 : 0 ≤ a) (h1 : a ≤ 18446744073709551615) (g0 : 0 ≤ b) (g1 : b ≤ 18446744073709551615) :
  Calls Tryz.prog 96 #[.int .u64 a, .int .u64 b] w fun e w' => e = .returned (.int .u64 ((a + b) % 18446744069414584321)) ∧ w = w' := by
 go_enter Tryz.func96, Tryz.ntmps96
 go_wp2_with (go_at_call 98; refine (gold_Of _ _ (by omega) (by omega)).mono ?_; rintro e w' ⟨rfl, rfl⟩)
 rw [add64]
 case hx0 => omega
 case hy0 => omega
 case hx => omega
 case hy => omega
 case hc0 => omega
 case hc => omega
 go_wp2
 all_goals go_ret
 all_goals refine ⟨ret_int ?_, rfl⟩
 all_goals (try rw [IntKind.wrap_u64]); (try simp only [beq_iff_eq, beq_eq_false_iff_ne] at *); omega

theorem gold_Sub (a b : Int) (w : World) (h0 : 0 ≤ a) (h1 : a ≤ 18446744073709551615) (g0 : 0 ≤ b) (g1 : b ≤ 18446744073709551615) :
  Calls Tryz.prog 102 #[.int .u64 a, .int .u64 b] w fun e w' => e = .returned (.int .u64 ((a - b) % 18446744069414584321)) ∧ w = w' := by
 go_enter Tryz.func102, Tryz.ntmps102
 go_wp2_with (first
  | (go_at_call 131; refine (gold_Neg _ _ (by omega) (by omega)).mono ?_; rintro e w' ⟨rfl, rfl⟩)
  | (go_at_call 96; refine (gold_Add _ _ _ (by omega) (by omega) (by omega) (by omega)).mono ?_; rintro e w' ⟨rfl, rfl⟩))
 go_ret
 exact ⟨ret_int (by omega), rfl⟩

theorem bits_Mul64 (x y : Nat) (hx : x < 18446744073709551616) (hy : y < 18446744073709551616) (w : World) :
  Calls Tryz.prog 127 #[.int .u64 x, .int .u64 y] w fun e w' => e = .returned (.tuple #[.int .u64 ((x * y / 18446744073709551616 : Nat) : Int), .int .u64 ((x * y % 18446744073709551616 : Nat) : Int)]) ∧ w' = w := by
 obtain ⟨bd, bt, bw, hhi⟩ := Lib.mul64_hi x y hx hy
 have ba := Lib.half_mul_le (a := x / 4294967296) (b := y / 4294967296) (by omega) (by omega)
 have bb := Lib.half_mul_le (a := x / 4294967296) (b := y % 4294967296) (by omega) (by omega)
 have bc := Lib.half_mul_le (a := x % 4294967296) (b := y / 4294967296) (by omega) (by omega)
 have ba' : x / 4294967296 * (y / 4294967296) < 18446744073709551616 := by omega
 have bb' : x / 4294967296 * (y % 4294967296) < 18446744073709551616 := by omega
 have bc' : x % 4294967296 * (y / 4294967296) < 18446744073709551616 := by omega
 have bh1 : x / 4294967296 * (y / 4294967296) + (x / 4294967296 * (y % 4294967296) + x % 4294967296 * (y % 4294967296) / 4294967296) / 4294967296 < 18446744073709551616 := by omega
 have bh : x / 4294967296 * (y / 4294967296) + (x / 4294967296 * (y % 4294967296) + x % 4294967296 * (y % 4294967296) / 4294967296) / 4294967296 + ((x / 4294967296 * (y % 4294967296) + x % 4294967296 * (y % 4294967296) / 4294967296) % 4294967296 + x % 4294967296 * (y / 4294967296)) / 4294967296 < 18446744073709551616 := by omega
 go_enter Tryz.func127, Tryz.ntmps127
 go_wp2
 simp only [Mul64.maskN x hx, Mul64.maskN y hy, Mul64.divN, Mul64.mulN, Mul64.addN, Mul64.wrapN _ bd, Mul64.wrapN _ bb', Mul64.wrapN _ bt, Mul64.maskN _ bt, Mul64.wrapN _ bc', Mul64.wrapN _ bw, Mul64.wrapN _ ba', Mul64.wrapN _ bh1, Mul64.wrapN _ bh, Mul64.wrapM (x * y)]
 rw [hhi]
 go_ret2
 exact ⟨rfl, rfl⟩

theorem mul64 (x y : Int) (w : World) (hx0 : 0 ≤ x) (hx : x ≤ 18446744073709551615) (hy0 : 0 ≤ y) (hy : y ≤ 18446744073709551615) :
  Calls Tryz.prog 127 #[.int .u64 x, .int .u64 y] w fun e w' => ∃ hi lo : Int, e = .returned (.tuple #[.int .u64 hi, .int .u64 lo]) ∧ w = w' ∧
   (0 ≤ hi ∧ hi ≤ 18446744073709551615 ∧ 0 ≤ lo ∧ lo ≤ 18446744073709551615) ∧ Hid (hi * 18446744073709551616 + lo = x * y) := by
 obtain ⟨x, rfl⟩ := Int.eq_ofNat_of_zero_le hx0
 obtain ⟨y, rfl⟩ := Int.eq_ofNat_of_zero_le hy0
 refine (bits_Mul64 x y (by omega) (by omega) w).mono ?_
 rintro e w' ⟨rfl, rfl⟩
 have hm : x * y ≤ 18446744073709551615 * 18446744073709551615 := Nat.mul_le_mul (by omega) (by omega)
 refine ⟨_, _, rfl, rfl, ?_, ?_⟩
 ·generalize x * y = z at *
  omega
 ·show _ = _
  rw [← Int.natCast_mul]
  generalize x * y = z at *
  omega

theorem mask32 (a : Int) (h0 : 0 ≤ a) (h1 : a ≤ 18446744073709551615) : bits .and .u64 a 4294967295 = a % 4294967296 := by
 obtain ⟨a, rfl⟩ := Int.eq_ofNat_of_zero_le h0
 rw [Mul64.maskN a (by omega)]
 omega

theorem fold_law (hi lo n : Int) (h0 : 0 ≤ hi) (h1 : hi ≤ 18446744073709551615)
  (hn : n = lo - hi / 4294967296 ∨ n = lo - hi / 4294967296 + 18446744069414584321) :
  (n + hi % 4294967296 * 4294967295) % 18446744069414584321 = (hi * 18446744073709551616 + lo) % 18446744069414584321 := by
 have e : hi * 18446744073709551616 + lo = (lo - hi / 4294967296 + hi % 4294967296 * 4294967295) + 18446744069414584321 * (hi / 4294967296 * 4294967297 + hi % 4294967296) := by omega
 rw [e, Int.add_mul_emod_self_left]
 rcases hn with rfl | rfl
 ·rfl
 ·generalize hi % 4294967296 * 4294967295 = x
  generalize lo - hi / 4294967296 = y
  omega

theorem gold_fold (hi lo : Int) (w : World) (h0 : 0 ≤ hi) (h1 : hi ≤ 18446744073709551615) (g0 : 0 ≤ lo) (g1 : lo ≤ 18446744073709551615) :
  Calls Tryz.prog 128 #[.int .u64 hi, .int .u64 lo] w fun e w' => e = .returned (.int .u64 ((hi * 18446744073709551616 + lo) % 18446744069414584321)) ∧ w = w' := by
 have hm := mask32 hi h0 h1
 go_enter Tryz.func128, Tryz.ntmps128
 go_wp2_with fail
 rw [sub64]
 case hx0 => omega
 case hy0 => omega
 case hx => omega
 case hy => omega
 case hb0 => omega
 case hb => omega
 by_cases hlt : lo < hi / 4294967296
 ·rw [if_pos (by omega)]
  go_wp2_with (go_at_call 96; refine (gold_Add _ _ _ (by omega) (by omega) (by omega) (by omega)).mono ?_; rintro e w' ⟨rfl, rfl⟩)
  go_ret
  exact ⟨ret_int (fold_law hi lo _ h0 h1 (.inr (by clear hm; omega))), rfl⟩
 ·rw [if_neg (by omega)]
  go_wp2_with (go_at_call 96; refine (gold_Add _ _ _ (by omega) (by omega) (by omega) (by omega)).mono ?_; rintro e w' ⟨rfl, rfl⟩)
  go_ret
  exact ⟨ret_int (fold_law hi lo _ h0 h1 (.inl (by clear hm; omega))), rfl⟩

theorem gold_Mul (a b : Int) (w : World) (h0 : 0 ≤ a) (h1 : a ≤ 18446744073709551615) (g0 : 0 ≤ b) (g1 : b ≤ 18446744073709551615) :
  Calls Tryz.prog 99 #[.int .u64 a, .int .u64 b] w fun e w' => e = .returned (.int .u64 ((a * b) % 18446744069414584321)) ∧ w = w' := by
 go_enter Tryz.func99, Tryz.ntmps99
 go_wp2_with (first
  | (go_at_call 98; refine (gold_Of _ _ (by omega) (by omega)).mono ?_; rintro e w' ⟨rfl, rfl⟩)
  | (go_at_call 127; refine (mul64 _ _ _ (by omega) (by omega) (by omega) (by omega)).mono ?_; rintro e w' ⟨hi, lo, rfl, rfl, hb, HM⟩)
  | (go_at_call 128; refine (gold_fold _ _ _ (by omega) (by omega) (by omega) (by omega)).mono ?_; rintro e w' ⟨rfl, rfl⟩))
 go_ret
 refine ⟨ret_int ?_, rfl⟩
 rw [HM.out]
 exact (Int.mul_emod a b _).symm

def ipow (a : Int) : Nat → Int
 | 0 => 1
 | n + 1 => ipow a n * a

theorem ipow_sq (a : Int) (n : Nat) : ipow (a * a) n = ipow a (n + n) := by
 induction n with
 | zero => rfl
 | succ n ih =>
  rw [show n + 1 + (n + 1) = (n + n) + 1 + 1 from by omega]
  simp only [ipow, ih, Int.mul_assoc]

theorem ipow_emod (a p : Int) (n : Nat) : ipow (a % p) n % p = ipow a n % p := by
 induction n with
 | zero => rfl
 | succ n ih => rw [ipow, ipow, Int.mul_emod, ih, Int.emod_emod_of_dvd _ (Int.dvd_refl p), ← Int.mul_emod]

theorem ipow_half (a : Int) (n : Nat) : ipow a n = ipow (a * a) (n / 2) * (if n % 2 = 1 then a else 1) := by
 rw [ipow_sq]
 by_cases h : n % 2 = 1
 ·rw [if_pos h]
  conv => lhs; rw [show n = n / 2 + n / 2 + 1 from by omega]
  rfl
 ·rw [if_neg h]
  conv => lhs; rw [show n = n / 2 + n / 2 from by omega]
  simp

theorem pow_step (p a out : Int) (n : Nat) :
  ((if n % 2 = 1 then out * a % p else out) * ipow (a * a % p) (n / 2)) % p = (out * ipow a n) % p := by
 have e1 : ∀ x : Int, (x * ipow (a * a % p) (n / 2)) % p = (x * ipow (a * a) (n / 2)) % p := by
  intro x
  rw [Int.mul_emod, ipow_emod, ← Int.mul_emod]
 rw [e1, ipow_half a n]
 by_cases h : n % 2 = 1
 ·rw [if_pos h, if_pos h, Int.mul_emod, Int.emod_emod_of_dvd _ (Int.dvd_refl p), ← Int.mul_emod]
  congr 1
  rw [Int.mul_assoc, Int.mul_comm a]
 ·rw [if_neg h, if_neg h, Int.mul_one]

theorem and_one (n : Int) (h0 : 0 ≤ n) (h1 : n ≤ 18446744073709551615) : bits .and .u64 n 1 = n % 2 := by
 obtain ⟨n, rfl⟩ := Int.eq_ofNat_of_zero_le h0
 have h := bits_and_u64_nat n 1 (by omega) (by omega)
 have e : n &&& 1 = n % 2 := Nat.and_one_is_mod n
 rw [e] at h
 exact h.trans (by omega)

def gPowInv (a0 : Int) (n0 : Nat) (out a : Int) (n : Nat) : Prop := (out * ipow a n) % 18446744069414584321 = ipow a0 n0 % 18446744069414584321

theorem gPowInv_step {a0 : Int} {n0 : Nat} {out a : Int} {n : Nat} (h : gPowInv a0 n0 out a n) :
  gPowInv a0 n0 (if n % 2 = 1 then out * a % 18446744069414584321 else out) (a * a % 18446744069414584321) (n / 2) := by
 unfold gPowInv at h ⊢
 rw [pow_step]
 exact h

theorem gold_Pow (a n : Int) (w : World) (h0 : 0 ≤ a) (h1 : a ≤ 18446744073709551615) (g0 : 0 ≤ n) (g1 : n ≤ 18446744073709551615) :
  Calls Tryz.prog 55 #[.int .u64 a, .int .u64 n] w fun e w' => e = .returned (.int .u64 (ipow a n.toNat % 18446744069414584321)) ∧ w = w' := by
 go_enter Tryz.func55, Tryz.ntmps55
 go_wp2_with (first
  | (go_at_call 98; refine (gold_Of _ _ (by omega) (by omega)).mono ?_; rintro e w' ⟨rfl, rfl⟩))
 go_loop [0, 1, 5] (fun x m o => ∃ (b : Int) (k : Nat) (out : Int), x = .int .u64 b ∧ m = .int .u64 (k : Int) ∧ o = .int .u64 out ∧ 0 ≤ b ∧ b ≤ 18446744069414584320 ∧ 0 ≤ out ∧ out ≤ 18446744069414584320 ∧ k ≤ 18446744073709551615 ∧ Hid (gPowInv a n.toNat out b k))
  (fun _ m _ => (intOf m).toNat)
 case atStart =>
  refine ⟨_, n.toNat, _, rfl, ?_, rfl, by omega, by omega, by omega, by omega, by omega, ?_⟩
  ·congr 1
   omega
  ·show gPowInv _ _ _ _ _
   unfold gPowInv
   rw [Int.one_mul, ipow_emod]
 case round =>
  obtain ⟨b, k, out, rfl, rfl, rfl, b0, b1, o0, o1, hk, HI⟩ := hrel
  have hand := and_one (k : Int) (by omega) (by omega)
  by_cases hk0 : 0 < k
  ·have hst := gPowInv_step HI.out
   by_cases hodd : k % 2 = 1
   ·rw [if_pos hodd] at hst
    have HS := Lib.hid hst; clear hst
    have hb : (((k : Int) % 2) == 1) = true := by simp; omega
    go_wp2_with (first
     | (go_at_call 99; refine (gold_Mul _ _ _ (by omega) (by omega) (by omega) (by omega)).mono ?_; rintro e w' ⟨rfl, rfl⟩))
    go_round
    case rel => exact ⟨_, k / 2, _, rfl, by go_num, rfl, by omega, by omega, by omega, by omega, by omega, HS⟩
    case measure => simp [intOf]; omega
   ·rw [if_neg hodd] at hst
    have HS := Lib.hid hst; clear hst
    have hb : (((k : Int) % 2) == 1) = false := by simp; omega
    go_wp2_with (first
     | (go_at_call 99; refine (gold_Mul _ _ _ (by omega) (by omega) (by omega) (by omega)).mono ?_; rintro e w' ⟨rfl, rfl⟩))
    go_round
    case rel => exact ⟨_, k / 2, _, rfl, by go_num, rfl, by omega, by omega, by omega, by omega, by omega, HS⟩
    case measure => simp [intOf]; omega
  ·obtain rfl : k = 0 := by omega
   go_wp2
   go_ret
   refine ⟨ret_int ?_, rfl⟩
   have := HI.out
   unfold gPowInv at this
   rw [ipow, Int.mul_one] at this
   rw [← this]
   omega

end Go.Proofs.YtfbfbijkkbflkaaGreatDoor

namespace Go.Proofs.YtfbfbijkkbflkaaGreatDoor
open Go.RowKit Fm
set_option linter.unusedVariables false
set_option maxRecDepth 100000

theorem wide_P (w : World) :
  Calls Tryz.prog 126 #[] w fun e w' => e = .returned (.agg #[.int .u64 1, .int .u64 18446744073709551588]) ∧ Below w.heap.size w w' := by
 go_enter Tryz.func126, Tryz.ntmps126
 go_wp2
 exact bodyPost_ret (v := .agg #[.int .u64 1, .int .u64 18446744073709551588]) (by simp [results, Tryz.results126, go_sem]) rfl ⟨rfl, (Below.refl _ _).alloc (Nat.le_refl _) _⟩

theorem bcell {W w1 : World} (hb : Below W.heap.size W w1) : (∀ b o, b < W.heap.size → w1.cell? ⟨b, o, none⟩ = W.cell? ⟨b, o, none⟩) ∧ (∀ b o, b < W.heap.size → w1.frozen? ⟨b, o, none⟩ = W.frozen? ⟨b, o, none⟩) :=
 ⟨fun b o h => hb.cell (p := ⟨b, o, none⟩) h, fun b o h => hb.frozen (p := ⟨b, o, none⟩) h⟩

theorem wide_less (a0 a1 b0 b1 : Int) (w : World) (h0 : 0 ≤ a0) (h1 : a0 ≤ 18446744073709551615) (g0 : 0 ≤ b0) (g1 : b0 ≤ 18446744073709551615) :
  Calls Tryz.prog 142 #[.agg #[.int .u64 a0, .int .u64 a1], .agg #[.int .u64 b0, .int .u64 b1]] w fun e w' => e = .returned (.bool (decide (a0 + 18446744073709551616 * a1 < b0 + 18446744073709551616 * b1))) ∧ Below w.heap.size w w' := by
 rcases Int.lt_trichotomy a1 b1 with h | h | h
 ·have ht : decide (a0 + 18446744073709551616 * a1 < b0 + 18446744073709551616 * b1) = true := by simp; omega
  rw [ht]
  clear ht
  go_enter Tryz.func142, Tryz.ntmps142
  go_wp2
  go_ret
  exact ⟨rfl, by repeat (first | exact Below.refl _ _ | (refine bl_alloc ?_ (Nat.le_refl _) _) | (refine Below.drew ?_) | (refine bl_drewN ?_ _) | (refine bl_call ?_ (Nat.le_refl _) (by assumption)))⟩
 ·subst h
  have ht : decide (a0 + 18446744073709551616 * a1 < b0 + 18446744073709551616 * a1) = decide (a0 < b0) := by congr 1; simp
  rw [ht]
  clear ht
  go_enter Tryz.func142, Tryz.ntmps142
  go_wp2
  all_goals go_ret
  all_goals exact ⟨rfl, by repeat (first | exact Below.refl _ _ | (refine bl_alloc ?_ (Nat.le_refl _) _) | (refine Below.drew ?_) | (refine bl_drewN ?_ _) | (refine bl_call ?_ (Nat.le_refl _) (by assumption)))⟩
 ·have ht : decide (a0 + 18446744073709551616 * a1 < b0 + 18446744073709551616 * b1) = false := by simp; omega
  rw [ht]
  clear ht
  have hne : (a1 == b1) = false := by simp; omega
  have hnl : decide (a1 < b1) = false := by simp; omega
  go_enter Tryz.func142, Tryz.ntmps142
  go_wp2
  go_ret
  exact ⟨rfl, by repeat (first | exact Below.refl _ _ | (refine bl_alloc ?_ (Nat.le_refl _) _) | (refine Below.drew ?_) | (refine bl_drewN ?_ _) | (refine bl_call ?_ (Nat.le_refl _) (by assumption)))⟩

theorem wide_In (a0 a1 : Int) (w : World) (h0 : 0 ≤ a0) (h1 : a0 ≤ 18446744073709551615) :
  Calls Tryz.prog 124 #[.agg #[.int .u64 a0, .int .u64 a1]] w fun e w' => e = .returned (.bool (decide (a0 + 18446744073709551616 * a1 < 340282366920938462946865773367900766209))) ∧ Below w.heap.size w w' := by
 go_enter Tryz.func124, Tryz.ntmps124
 go_wp2_with fail
 go_region_with (first
  | (go_at_call 126; refine (wide_P _).mono ?_; rintro e w1 ⟨rfl, hb1⟩; obtain ⟨hc1, hf1⟩ := bcell hb1)
  | (go_at_call 142; refine (wide_less _ _ _ _ _ (by omega) (by omega) (by omega) (by omega)).mono ?_; rintro e w2 ⟨rfl, hb2⟩))
 all_goals
  go_wp2
  go_ret
  exact ⟨rfl, by repeat (first | exact Below.refl _ _ | (refine bl_alloc ?_ (Nat.le_refl _) _) | (refine Below.drew ?_) | (refine bl_drewN ?_ _) | (refine bl_call ?_ (Nat.le_refl _) (by assumption)))⟩

theorem wide_take (a0 a1 b0 b1 : Int) (w : World) (h0 : 0 ≤ a0) (h1 : a0 ≤ 18446744073709551615) (g0 : 0 ≤ b0) (g1 : b0 ≤ 18446744073709551615)
     (k0 : 0 ≤ a1) (k1 : a1 ≤ 18446744073709551615) (j0 : 0 ≤ b1) (j1 : b1 ≤ 18446744073709551615) (n : Int) (hn : Hid (n = (a0 + 18446744073709551616 * a1 - (b0 + 18446744073709551616 * b1)) % 340282366920938463463374607431768211456)) :
  Calls Tryz.prog 125 #[.agg #[.int .u64 a0, .int .u64 a1], .agg #[.int .u64 b0, .int .u64 b1]] w fun e w' =>
   e = .returned (.agg #[.int .u64 (n % 18446744073709551616), .int .u64 (n / 18446744073709551616)]) ∧ Below w.heap.size w w' := by
 go_enter Tryz.func125, Tryz.ntmps125
 go_wp2_with fail
 rw [sub64]
 case hx0 => omega
 case hy0 => omega
 case hx => omega
 case hy => omega
 case hb0 => omega
 case hb => omega
 by_cases hlt : a0 < b0
 ·rw [if_pos (by omega)]
  go_wp2_with fail
  rw [sub64]
  case hx0 => omega
  case hy0 => omega
  case hx => omega
  case hy => omega
  case hb0 => omega
  case hb => omega
  go_wp2
  all_goals
   refine bodyPost_ret (by simp [results, Tryz.results125, go_sem]; rfl) rfl ?_
   refine ⟨ret_pair ?_ ?_, by repeat (first | exact Below.refl _ _ | (refine bl_alloc ?_ (Nat.le_refl _) _) | (refine Below.drew ?_) | (refine bl_drewN ?_ _) | (refine bl_call ?_ (Nat.le_refl _) (by assumption)))⟩
   ·rw [hn.out]; omega
   ·rw [hn.out]; omega
 ·rw [if_neg (by omega)]
  go_wp2_with fail
  rw [sub64]
  case hx0 => omega
  case hy0 => omega
  case hx => omega
  case hy => omega
  case hb0 => omega
  case hb => omega
  go_wp2
  all_goals
   refine bodyPost_ret (by simp [results, Tryz.results125, go_sem]; rfl) rfl ?_
   refine ⟨ret_pair ?_ ?_, by repeat (first | exact Below.refl _ _ | (refine bl_alloc ?_ (Nat.le_refl _) _) | (refine Below.drew ?_) | (refine bl_drewN ?_ _) | (refine bl_call ?_ (Nat.le_refl _) (by assumption)))⟩
   ·rw [hn.out]; omega
   ·rw [hn.out]; omega

end Go.Proofs.YtfbfbijkkbflkaaGreatDoor

namespace Go.Proofs.YtfbfbijkkbflkaaGreatDoor
open Go.RowKit

theorem load_elem {w : World} {b : Nat} {u v : Value} (h : V2 w b u v) : (loadVar 36 ⟨b, 0, none⟩).run Tryz.prog w = .ok (.agg #[u, v]) w := by
 simp [loadVar, go_sem, h.c0, h.c1]

theorem results_v2 {fn : Func} {p : Tmp} {tmps : Array Value} {w : World} {b : Nat} {u v : Value} (hv : V2 w b u v) (h : fn.results = #[.cell p 36]) (hp : tmps.getD p undef = .pointer (some ⟨b, 0, none⟩)) :
  (results fn tmps).run Tryz.prog w = .ok (.agg #[u, v]) w := by
 have hl := load_elem hv
 rw [Array.getD_eq_getD_getElem?] at hp
 simp only [results, h]
 simp [asAddr, hp, hl]

theorem results_v2_tmp {fn : Func} {p e : Tmp} {tmps : Array Value} {w : World} {b : Nat} {u v : Value} (hv : V2 w b u v) (h : fn.results = #[.cell p 36, .tmp e]) (hp : tmps.getD p undef = .pointer (some ⟨b, 0, none⟩)) :
  (results fn tmps).run Tryz.prog w = .ok (.tuple #[.agg #[u, v], tmps.getD e undef]) w := by
 have hl := load_elem hv
 rw [results_cell_tmp h, hp]
 simp only [asAddr, Sem.run_pure, Result.andThen, hl]

end Go.Proofs.YtfbfbijkkbflkaaGreatDoor
