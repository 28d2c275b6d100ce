/-
  PURE MATHEMATICS, no program in sight: powers in Fin p; a generator of Fin p's units gives inverses (Pratt's criterion); the two moduli of the program are such that each number that is not 0 has an inverse.
-/
namespace Go.Proofs.Ytgambjmjbmdciaa.Fm

/-! ### pigeonhole -/
theorem php : ∀ (n : Nat) (f : Nat → Nat), (∀ i, i < n → f i < n) → (∀ i j, i < n → j < n → f i = f j → i = j) → ∀ y, y < n → ∃ i, i < n ∧ f i = y := by
  intro n
  induction n with
  | zero => intro f _ _ y hy; omega
  | succ n ih =>
    intro f hb hi y hy
    have key : ∀ y, y < n → ∃ i, i < n ∧ (if f i = n then f n else f i) = y := by
      refine ih (fun i => if f i = n then f n else f i) ?_ ?_
      · intro i hin
        have h1 := hb i (by omega)
        have h2 := hb n (by omega)
        by_cases h : f i = n
        · simp only [h, if_true]
          have : f n ≠ n := fun e => by
            have := hi i n (by omega) (by omega) (by rw [h, e])
            omega
          omega
        · simp only [h, if_false]
          omega
      · intro i j hin hjn h
        by_cases h1 : f i = n <;> by_cases h2 : f j = n
        · exact hi i j (by omega) (by omega) (by rw [h1, h2])
        · simp only [h1, h2, if_true, if_false] at h
          have := hi n j (by omega) (by omega) h
          omega
        · simp only [h1, h2, if_true, if_false] at h
          have := hi i n (by omega) (by omega) h
          omega
        · simp only [h1, h2, if_false] at h
          exact hi i j (by omega) (by omega) h
    by_cases hm : y = f n
    · exact ⟨n, by omega, hm.symm⟩
    · by_cases hyn : y = n
      · subst hyn
        have hfn : f y < y := by
          have := hb y (by omega)
          omega
        obtain ⟨i, hin, h⟩ := key (f y) hfn
        by_cases h1 : f i = y
        · exact ⟨i, by omega, h1⟩
        · simp only [h1, if_false] at h
          have := hi i y (by omega) (by omega) h
          omega
      · obtain ⟨i, hin, h⟩ := key y (by omega)
        by_cases h1 : f i = n
        · simp only [h1, if_true] at h
          exact absurd h.symm hm
        · simp only [h1, if_false] at h
          exact ⟨i, by omega, h⟩

/-! ### primes -/
def Pr (q : Nat) : Prop := 2 ≤ q ∧ ∀ d, d ∣ q → d = 1 ∨ d = q

theorem prime_divisor : ∀ m : Nat, 2 ≤ m → ∃ r, Pr r ∧ r ∣ m := by
  intro m
  induction m using Nat.strongRecOn with
  | _ m ih =>
    intro hm
    by_cases h : ∃ d, d ∣ m ∧ d ≠ 1 ∧ d ≠ m
    · obtain ⟨d, hd, h1, h2⟩ := h
      have hle := Nat.le_of_dvd (by omega) hd
      have h0 : d ≠ 0 := fun e => by subst e; have := Nat.eq_zero_of_zero_dvd hd; omega
      obtain ⟨r, hr, hrd⟩ := ih d (by omega) (by omega)
      exact ⟨r, hr, Nat.dvd_trans hrd hd⟩
    · refine ⟨m, ⟨hm, fun d hd => ?_⟩, Nat.dvd_refl m⟩
      by_cases h1 : d = 1
      · exact .inl h1
      · by_cases h2 : d = m
        · exact .inr h2
        · exact absurd ⟨d, hd, h1, h2⟩ h

theorem Pr.coprime {r a : Nat} (hr : Pr r) (h : ¬ r ∣ a) : Nat.Coprime r a := by
  rcases hr.2 (Nat.gcd r a) (Nat.gcd_dvd_left r a) with h1 | h1
  · exact h1
  · exact absurd (h1 ▸ Nat.gcd_dvd_right r a) h

theorem Pr.mul {r a b : Nat} (hr : Pr r) (h : r ∣ a * b) : r ∣ a ∨ r ∣ b := by
  by_cases ha : r ∣ a
  · exact .inl ha
  · exact .inr ((hr.coprime ha).dvd_of_dvd_mul_left h)

def prod : List Nat → Nat
  | [] => 1
  | q :: l => q * prod l

theorem Pr.prod {r : Nat} (hr : Pr r) : ∀ l : List Nat, r ∣ prod l → ∃ q, q ∈ l ∧ r ∣ q
  | [], h => by
    have := Nat.le_of_dvd (by decide) h
    have := hr.1
    simp [Fm.prod] at *
    omega
  | q :: l, h => by
    rcases hr.mul h with h | h
    · exact ⟨q, by simp, h⟩
    · obtain ⟨q', hm, hd⟩ := Pr.prod hr l h
      exact ⟨q', by simp [hm], hd⟩

/-- no divisor among so many numbers from d on -/
def noDiv (q : Nat) : Nat → Nat → Bool
  | _, 0 => true
  | d, n + 1 => (q % d != 0) && noDiv q (d + 1) n

theorem noDiv_spec (q : Nat) : ∀ n d, noDiv q d n = true → ∀ e, d ≤ e → e < d + n → ¬ e ∣ q := by
  intro n
  induction n with
  | zero => intro d _ e h1 h2; omega
  | succ n ih =>
    intro d h e h1 h2
    simp only [noDiv, Bool.and_eq_true, bne_iff_ne, ne_eq] at h
    by_cases he : e = d
    · subst he
      intro hd
      exact h.1 (Nat.mod_eq_zero_of_dvd hd)
    · exact ih (d + 1) h.2 e (by omega) (by omega)

theorem Pr.of_noDiv (q s : Nat) (h2 : 2 ≤ q) (hs : q < (2 + s) * (2 + s)) (h : noDiv q 2 s = true) : Pr q := by
  refine ⟨h2, fun d hd => ?_⟩
  by_cases h1 : d = 1
  · exact .inl h1
  · by_cases hq : d = q
    · exact .inr hq
    · exfalso
      obtain ⟨e, he⟩ := hd
      have hd0 : d ≠ 0 := fun x => by subst x; simp at he; omega
      have he0 : e ≠ 0 := fun x => by subst x; simp at he; omega
      have he1 : e ≠ 1 := fun x => by subst x; simp at he; omega
      by_cases hlt : d < 2 + s
      · exact noDiv_spec q s 2 h d (by omega) (by omega) ⟨e, he⟩
      · have hlt2 : e < 2 + s := by
          apply Nat.lt_of_not_le
          intro hge
          have : (2 + s) * (2 + s) ≤ d * e := Nat.mul_le_mul (by omega) hge
          omega
        exact noDiv_spec q s 2 h e (by omega) (by omega) ⟨d, by rw [he, Nat.mul_comm]⟩

/-! ### powers in Fin p -/
section
variable {p : Nat} [NeZero p]

def kpow (a : Fin p) : Nat → Fin p
  | 0 => 1
  | n + 1 => kpow a n * a

theorem kpow_zero (a : Fin p) : kpow a 0 = 1 := rfl
theorem kpow_succ (a : Fin p) (n : Nat) : kpow a (n + 1) = kpow a n * a := rfl
theorem kpow_one (a : Fin p) : kpow a 1 = a := by simp only [kpow]; grind
theorem kpow_add (a : Fin p) (m n : Nat) : kpow a (m + n) = kpow a m * kpow a n := by
  induction n with
  | zero => simp only [Nat.add_zero, kpow]; grind
  | succ n ih => rw [← Nat.add_assoc]; simp only [kpow, ih]; grind
theorem one_kpow (n : Nat) : kpow (1 : Fin p) n = 1 := by
  induction n with
  | zero => rfl
  | succ n ih => rw [kpow, ih]; grind
theorem kpow_mul (a : Fin p) (m n : Nat) : kpow a (m * n) = kpow (kpow a m) n := by
  induction n with
  | zero => rfl
  | succ n ih => rw [Nat.mul_succ, kpow_add, ih]; rfl
theorem mul_kpow (a b : Fin p) (n : Nat) : kpow (a * b) n = kpow a n * kpow b n := by
  induction n with
  | zero => simp only [kpow]; grind
  | succ n ih => simp only [kpow, ih]; grind

/-- Pratt: a generator. -/
structure Gen (g : Fin p) (qs : List Nat) : Prop where
  two : 2 ≤ p
  one : kpow g (p - 1) = 1
  prods : prod qs = p - 1
  prime : ∀ q, q ∈ qs → Pr q
  not : ∀ q, q ∈ qs → kpow g ((p - 1) / q) ≠ 1

theorem exists_least (P : Nat → Prop) : ∀ n, P n → ∃ m, P m ∧ ∀ k, k < m → ¬ P k := by
  intro n
  induction n using Nat.strongRecOn with
  | _ n ih =>
    intro h
    by_cases hx : ∃ k, k < n ∧ P k
    · obtain ⟨k, hk, hp⟩ := hx
      exact ih k hk hp
    · exact ⟨n, h, fun k hk hp => hx ⟨k, hk, hp⟩⟩

theorem Gen.order {g : Fin p} {qs : List Nat} (h : Gen g qs) : ∀ d, 0 < d → d < p - 1 → kpow g d ≠ 1 := by
  have hp1 : 0 < p - 1 := by have := h.two; omega
  obtain ⟨o, ⟨ho0, ho⟩, hmin⟩ := exists_least (fun n => 0 < n ∧ kpow g n = 1) (p - 1) ⟨hp1, h.one⟩
  have hdiv : o ∣ p - 1 := by
    have hr : kpow g ((p - 1) % o) = 1 := by
      have e : kpow g (o * ((p - 1) / o) + (p - 1) % o) = 1 := by rw [Nat.div_add_mod]; exact h.one
      rw [kpow_add, kpow_mul, ho, one_kpow] at e
      grind
    by_cases h0 : (p - 1) % o = 0
    · exact Nat.dvd_of_mod_eq_zero h0
    · exact absurd ⟨by omega, hr⟩ (hmin _ (Nat.mod_lt _ ho0))
  obtain ⟨m, hm⟩ := hdiv
  have hm0 : m ≠ 0 := fun e => by subst e; simp at hm; omega
  have hm1 : m = 1 := by
    by_cases hm1 : m = 1
    · exact hm1
    · exfalso
      obtain ⟨r, hr, t, hrm⟩ := prime_divisor m (by omega)
      have hrN : r ∣ prod qs := ⟨o * t, by rw [h.prods, hm, hrm]; simp only [Nat.mul_left_comm]⟩
      obtain ⟨q, hq, hrq⟩ := hr.prod qs hrN
      have hrq' : r = q := by
        rcases (h.prime q hq).2 r hrq with e | e
        · have := hr.1; omega
        · exact e
      subst hrq'
      apply h.not r hq
      have hr0 : 0 < r := by have := hr.1; omega
      have e : (p - 1) / r = o * t := by
        rw [hm, hrm, show o * (r * t) = r * (o * t) from by simp only [Nat.mul_left_comm], Nat.mul_div_cancel_left _ hr0]
      rw [e, kpow_mul, ho, one_kpow]
  subst hm1
  have hoN : o = p - 1 := by omega
  intro d h1 h2 h3
  exact hmin d (by omega) ⟨h1, h3⟩

theorem Gen.unit {g : Fin p} {qs : List Nat} (h : Gen g qs) (n : Nat) : ∃ u : Fin p, kpow g n * u = 1 := by
  have hp1 : 0 < p - 1 := by have := h.two; omega
  refine ⟨kpow g (n * (p - 1) - n), ?_⟩
  have : n ≤ n * (p - 1) := Nat.le_mul_of_pos_right n hp1
  rw [← kpow_add, show n + (n * (p - 1) - n) = (p - 1) * n from by rw [Nat.mul_comm (p - 1) n]; omega, kpow_mul, h.one, one_kpow]

theorem Gen.inj {g : Fin p} {qs : List Nat} (h : Gen g qs) (i j : Nat) (hi : i < p - 1) (hj : j < p - 1) (e : kpow g i = kpow g j) : i = j := by
  have aux : ∀ i j : Nat, i < j → j < p - 1 → kpow g i = kpow g j → False := by
    intro i j hij hj e
    obtain ⟨u, hu⟩ := h.unit i
    apply h.order (j - i) (by omega) (by omega)
    have e2 : kpow g j = kpow g i * kpow g (j - i) := by rw [← kpow_add]; congr 1; omega
    rw [e2] at e
    grind
  rcases Nat.lt_trichotomy i j with hlt | heq | hgt
  · exact (aux i j hlt hj e).elim
  · exact heq
  · exact (aux j i hgt hi e.symm).elim

theorem one_ne_zero (h : 2 ≤ p) : (1 : Fin p) ≠ 0 := by
  intro e
  have := congrArg Fin.val e
  have h1 : (1 : Fin p).val = 1 % p := rfl
  rw [h1, Fin.val_zero, Nat.mod_eq_of_lt (by omega)] at this
  omega

theorem Gen.ne_zero {g : Fin p} {qs : List Nat} (h : Gen g qs) (n : Nat) : kpow g n ≠ 0 := by
  intro e
  obtain ⟨u, hu⟩ := h.unit n
  rw [e] at hu
  apply one_ne_zero h.two
  grind

/-- each number that is not 0 is a power of the generator -/
theorem Gen.all {g : Fin p} {qs : List Nat} (h : Gen g qs) (a : Fin p) (ha : a ≠ 0) : ∃ k, a = kpow g k := by
  have h2 := h.two
  have hval : ∀ i : Nat, (kpow g i).val ≠ 0 := fun i e => h.ne_zero i (Fin.ext (by rw [e]; rfl))
  have ha0 : a.val ≠ 0 := fun e => ha (Fin.ext (by rw [e]; rfl))
  obtain ⟨i, _, hi⟩ := php (p - 1) (fun i => (kpow g i).val - 1) (fun i _ => by have := (kpow g i).isLt; have := hval i; omega)
    (fun i j hi hj e => h.inj i j hi hj (Fin.ext (by have := hval i; have := hval j; omega))) (a.val - 1) (by have := a.isLt; omega)
  exact ⟨i, Fin.ext (by have := hval i; omega)⟩

theorem Gen.fermat {g : Fin p} {qs : List Nat} (h : Gen g qs) (a : Fin p) (ha : a ≠ 0) : kpow a (p - 1) = 1 := by
  obtain ⟨k, rfl⟩ := h.all a ha
  rw [← kpow_mul, Nat.mul_comm, kpow_mul, h.one, one_kpow]

theorem Gen.prime_self {g : Fin p} {qs : List Nat} (h : Gen g qs) : Pr p := by
  refine ⟨h.two, fun d hd => ?_⟩
  by_cases h1 : d = 1
  · exact .inl h1
  · by_cases h2 : d = p
    · exact .inr h2
    · exfalso
      have hp := h.two
      have hle := Nat.le_of_dvd (by omega) hd
      obtain ⟨e, he⟩ := hd
      have hd0 : d ≠ 0 := fun x => by subst x; simp at he; omega
      have he0 : e ≠ 0 := fun x => by subst x; simp at he; omega
      have hep : e < p := by
        rw [he]
        exact (Nat.lt_mul_iff_one_lt_left (by omega)).2 (by omega)
      have hdp : d < p := by omega
      obtain ⟨k, hk⟩ := h.all (⟨d, hdp⟩ : Fin p) (fun x => hd0 (by have := congrArg Fin.val x; simpa using this))
      obtain ⟨u, hu⟩ := h.unit k
      rw [← hk] at hu
      have hz : (⟨d, hdp⟩ : Fin p) * ⟨e, hep⟩ = 0 := Fin.ext (by rw [Fin.val_mul]; simp only [← he, Nat.mod_self]; rfl)
      have : (⟨e, hep⟩ : Fin p) = 0 := by grind
      have := congrArg Fin.val this
      simp at this
      exact he0 this
end

/-! ### powers by squaring, for the kernel -/
def fp (p a acc : Nat) : Nat → Nat → Nat
  | _, 0 => acc
  | n, fuel + 1 => if n = 0 then acc else fp p (a * a % p) (if n % 2 = 1 then acc * a % p else acc) (n / 2) fuel

theorem fp_spec {p : Nat} [NeZero p] : ∀ (fuel n : Nat) (a acc : Fin p), n < 2 ^ fuel → fp p a.val acc.val n fuel = (acc * kpow a n).val := by
  intro fuel
  induction fuel with
  | zero =>
    intro n a acc h
    have : n = 0 := by simp at h; omega
    subst this
    simp only [fp, kpow]
    congr 1
    grind
  | succ fuel ih =>
    intro n a acc h
    simp only [fp]
    by_cases h0 : n = 0
    · subst h0
      simp only [if_true, kpow]
      congr 1
      grind
    · rw [if_neg h0]
      have h2 : n / 2 < 2 ^ fuel := by rw [Nat.pow_succ] at h; omega
      have e1 : a.val * a.val % p = (a * a).val := (Fin.val_mul a a).symm
      have e2 : acc.val * a.val % p = (acc * a).val := (Fin.val_mul acc a).symm
      have e3 : kpow a n = kpow (a * a) (n / 2) * (if n % 2 = 1 then a else 1) := by
        have : kpow (a * a) (n / 2) = kpow a (n / 2 + n / 2) := by rw [mul_kpow, kpow_add]
        rw [this]
        by_cases ho : n % 2 = 1
        · rw [if_pos ho]
          have : n = n / 2 + n / 2 + 1 := by omega
          conv => lhs; rw [this]
          rfl
        · rw [if_neg ho]
          have : n = n / 2 + n / 2 := by omega
          conv => lhs; rw [this]
          grind
      rw [e1]
      by_cases ho : n % 2 = 1
      · rw [if_pos ho, e2, ih _ _ _ h2, e3, if_pos ho]
        congr 1
        grind
      · rw [if_neg ho, ih _ _ _ h2, e3, if_neg ho]
        congr 1
        grind

/-! ### the moduli -/
def P1 : Nat := 18446744069414584321
def P2 : Nat := 340282366920938462946865773367900766209
def Q3 : Nat := 440340496364689
instance : NeZero P1 := ⟨by decide⟩
instance : NeZero P2 := ⟨by decide⟩
instance : NeZero Q3 := ⟨by decide⟩

def genB (p g : Nat) (qs : List Nat) : Bool :=
  decide (2 ≤ p) && decide (g < p) && (fp p g 1 (p - 1) 128 == 1) && decide (prod qs = p - 1) && qs.all fun q => fp p g 1 ((p - 1) / q) 128 != 1

theorem gen_of {p : Nat} [NeZero p] (g : Nat) (qs : List Nat) (hp : p < 2 ^ 128) (h : genB p g qs = true) (hq : ∀ q, q ∈ qs → Pr q) (hg : g < p) : Gen (⟨g, hg⟩ : Fin p) qs := by
  simp only [genB, Bool.and_eq_true, decide_eq_true_eq, beq_iff_eq, List.all_eq_true, bne_iff_ne, ne_eq] at h
  obtain ⟨⟨⟨⟨h2, _⟩, h1⟩, hpr⟩, hn⟩ := h
  have hone : (1 : Fin p).val = 1 := Nat.mod_eq_of_lt (show 1 < p from by omega)
  have key : ∀ n, n < 2 ^ 128 → fp p g 1 n 128 = (kpow (⟨g, hg⟩ : Fin p) n).val := by
    intro n hn
    have := fp_spec (p := p) 128 n ⟨g, hg⟩ 1 hn
    rw [hone] at this
    rw [this]
    congr 1
    grind
  refine ⟨h2, ?_, hpr, hq, ?_⟩
  · have := key (p - 1) (by omega)
    apply Fin.ext
    rw [← this, h1, hone]
  · intro q hm e
    apply hn q hm
    have hle : (p - 1) / q ≤ p - 1 := Nat.div_le_self _ _
    rw [key _ (by omega), e, hone]

theorem pr_small (q s : Nat) (h : (decide (2 ≤ q) && decide (q < (2 + s) * (2 + s)) && noDiv q 2 s) = true) : Pr q := by
  simp only [Bool.and_eq_true, decide_eq_true_eq] at h
  exact Pr.of_noDiv q s h.1.1 h.1.2 h.2

theorem pr2 : Pr 2 := pr_small 2 0 (by decide +kernel)
theorem pr3 : Pr 3 := pr_small 3 1 (by decide +kernel)
theorem pr5 : Pr 5 := pr_small 5 1 (by decide +kernel)
theorem pr17 : Pr 17 := pr_small 17 4 (by decide +kernel)
theorem pr257 : Pr 257 := pr_small 257 16 (by decide +kernel)
theorem pr65537 : Pr 65537 := pr_small 65537 256 (by decide +kernel)
theorem pr3491 : Pr 3491 := pr_small 3491 60 (by decide +kernel)
theorem pr72973 : Pr 72973 := pr_small 72973 270 (by decide +kernel)
theorem pr125714447 : Pr 125714447 := pr_small 125714447 11212 (by decide +kernel)

def qs3 : List Nat := [2, 2, 2, 2, 3, 72973, 125714447]
theorem gen3 : ∃ g : Fin Q3, Gen g qs3 := ⟨_, gen_of 11 qs3 (by decide +kernel) (by decide +kernel) (by
  intro q hq
  simp only [qs3, List.mem_cons, List.not_mem_nil, or_false] at hq
  rcases hq with rfl | rfl | rfl | rfl | rfl | rfl | rfl
  · exact pr2
  · exact pr2
  · exact pr2
  · exact pr2
  · exact pr3
  · exact pr72973
  · exact pr125714447) (by decide +kernel)⟩
theorem prQ3 : Pr Q3 := let ⟨_, h⟩ := gen3; h.prime_self

def qs1 : List Nat := List.replicate 32 2 ++ [3, 5, 17, 257, 65537]
theorem gen1 : Gen (⟨7, by decide +kernel⟩ : Fin P1) qs1 := gen_of 7 qs1 (by decide +kernel) (by decide +kernel) (by
  intro q hq
  simp only [qs1, List.mem_append, List.mem_replicate, List.mem_cons, List.not_mem_nil, or_false] at hq
  rcases hq with ⟨_, rfl⟩ | rfl | rfl | rfl | rfl | rfl
  · exact pr2
  · exact pr3
  · exact pr5
  · exact pr17
  · exact pr257
  · exact pr65537) (by decide +kernel)

def qs2 : List Nat := List.replicate 66 2 ++ [3, 3491, Q3]
theorem gen2 : Gen (⟨7, by decide +kernel⟩ : Fin P2) qs2 := gen_of 7 qs2 (by decide +kernel) (by decide +kernel) (by
  intro q hq
  simp only [qs2, List.mem_append, List.mem_replicate, List.mem_cons, List.not_mem_nil, or_false] at hq
  rcases hq with ⟨_, rfl⟩ | rfl | rfl | rfl
  · exact pr2
  · exact pr3
  · exact pr3491
  · exact prQ3) (by decide +kernel)

/-! ### the two fields -/
/-- the modulus of field f (1: small; else: large) -/
def Pm (f : Nat) : Nat := if f = 1 then P1 else P2
theorem Pm_one : Pm 1 = P1 := rfl
theorem Pm_two : Pm 2 = P2 := rfl
theorem Pm_pos (f : Nat) : 0 < Pm f := by unfold Pm; split <;> decide
instance (f : Nat) : NeZero (Pm f) := ⟨by have := Pm_pos f; omega⟩
theorem two_le (f : Nat) : 2 ≤ Pm f := by unfold Pm; split <;> decide

theorem fermat (f : Nat) (a : Fin (Pm f)) (ha : a ≠ 0) : kpow a (Pm f - 1) = 1 := by
  by_cases h : f = 1
  · subst h
    exact gen1.fermat a ha
  · have e : Pm f = P2 := by unfold Pm; rw [if_neg h]
    have key : ∀ (q : Nat) [NeZero q] (hq : q = P2) (a : Fin q), a ≠ 0 → kpow a (q - 1) = 1 := by
      intro q _ hq
      subst hq
      exact fun a ha => gen2.fermat a ha
    exact key _ e a ha

/-- the inverse -/
def kinv {f : Nat} (a : Fin (Pm f)) : Fin (Pm f) := kpow a (Pm f - 2)
theorem mul_kinv {f : Nat} (a : Fin (Pm f)) (ha : a ≠ 0) : a * kinv a = 1 := by
  have := fermat f a ha
  have h2 := two_le f
  rw [show Pm f - 1 = (Pm f - 2) + 1 from by omega, kpow_succ] at this
  unfold kinv
  grind
theorem k_one_ne {f : Nat} : (1 : Fin (Pm f)) ≠ 0 := one_ne_zero (two_le f)
theorem k_mul_eq_zero {f : Nat} (a b : Fin (Pm f)) (h : a * b = 0) : a = 0 ∨ b = 0 := by
  by_cases ha : a = 0
  · exact .inl ha
  · have := mul_kinv a ha
    right
    grind

end Go.Proofs.Ytgambjmjbmdciaa.Fm
