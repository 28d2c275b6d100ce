/-
  PURE: what circuit.Run says of a vector, the gadget being asked by calls.
-/
/-
  A FRAME that leaves out some blocks: what is turned by a call that writes captured variables; a gadget's call, by contract.
-/
/-
  WHAT IS KNOWN OF A CIRCUIT whose check says n; a circuit in range as six numbers.
-/
/-
  WALKS: circuit.Run where it ends in an error.
-/
/-
  WALK: circuit.bits: the gadget being asked by a call.
-/
/-
  'append' where there is room; 'make' with a capacity.
-/
import Derived.Test.YtiphahbeedeebaaMao
import Derived.Test.YtiphahbeedeebaaMap
import Derived.Test.YtiphahbeedeebaaMah
import Derived.Test.YtiphahbeedeebaaMan
import Derived.Test.YtiphahbeedeebaaMaf
import Derived.Laws.CopyOwn
namespace Go.Proofs.Ytiphahbeedeebaa
open Go.RowKit Fm
set_option linter.unusedVariables false
set_option maxRecDepth 100000

theorem SlK.cells {f : Nat} {w : World} {B b o n c k : Nat} {l : KL f} {x : Fin (Pm f)} (h : SlK w B (.slice (some ⟨b, o, none⟩) n c) l) (hk : l[k]? = some x) : b < B ∧ w.cell? ⟨b, o + k * 2, none⟩ = some (.int .u64 (lo x)) ∧ w.cell? ⟨b, o + k * 2 + 1, none⟩ = some (.int .u64 (hi x)) := by
  obtain ⟨A', c', hv, h1, h2, h3⟩ := h
  obtain ⟨b', o', k1, k2, k4⟩ := h3 (by have := (List.getElem?_eq_some_iff.1 hk).1; omega)
  injection hv with e1 e2 e3
  rw [k1] at e1
  injection e1 with e1
  injection e1 with e4 e5 e6
  subst e4
  subst e5
  exact ⟨k2, (k4.kat hk).1, (k4.kat hk).2⟩

/-- the sum of the first n of g -/
def acc {f : Nat} (g : Nat → Fin (Pm f)) : Nat → Fin (Pm f)
  | 0 => 0
  | n + 1 => acc g n + g n

theorem acc_congr {f : Nat} {g h : Nat → Fin (Pm f)} : ∀ n, (∀ i, i < n → g i = h i) → acc g n = acc h n
  | 0, _ => rfl
  | n + 1, H => by
    show acc g n + g n = acc h n + h n
    rw [acc_congr n (fun i hi => H i (by omega)), H n (by omega)]
theorem acc_add {f : Nat} (g h : Nat → Fin (Pm f)) : ∀ n, acc (fun i => g i + h i) n = acc g n + acc h n
  | 0 => by
    show (0 : Fin (Pm f)) = 0 + 0
    grind
  | n + 1 => by
    show acc (fun i => g i + h i) n + (g n + h n) = acc g n + g n + (acc h n + h n)
    rw [acc_add g h n]
    grind
theorem acc_zero {f : Nat} (g : Nat → Fin (Pm f)) (m : Nat) : ∀ n, (∀ i, m ≤ i → i < m + n → g i = 0) → acc g (m + n) = acc g m
  | 0, _ => rfl
  | n + 1, H => by
    show acc g (m + n) + g (m + n) = _
    rw [acc_zero g m n (fun i h1 h2 => H i h1 (by omega)), H (m + n) (by omega) (by omega)]
    grind
theorem acc_shift {f : Nat} (g : Nat → Fin (Pm f)) (m : Nat) : ∀ n, acc g (m + n) = acc g m + acc (fun i => g (m + i)) n
  | 0 => by
    show acc g m = acc g m + 0
    grind
  | n + 1 => by
    show acc g (m + n) + g (m + n) = acc g m + (acc (fun i => g (m + i)) n + g (m + n))
    rw [acc_shift g m n]
    grind
theorem acc_flat {f : Nat} (h : Nat → Fin (Pm f)) (C : Nat) : ∀ q, acc (fun k => acc (fun i => h (k * C + i)) C) q = acc h (q * C)
  | 0 => by rw [Nat.zero_mul]; rfl
  | q + 1 => by
    show acc (fun k => acc (fun i => h (k * C + i)) C) q + acc (fun i => h (q * C + i)) C = _
    rw [acc_flat h C q, Nat.succ_mul, acc_shift]

theorem kpw_kpow {f : Nat} (x : Fin (Pm f)) : ∀ n, kpw x n = Fm.kpow x n
  | 0 => rfl
  | n + 1 => by rw [kpw, kpw_kpow x n, Fm.kpow_succ]
theorem mul_kinvK {f : Nat} (x : Fin (Pm f)) (hx : x ≠ 0) : x * kinv x = 1 := by
  have h := Fm.mul_kinv x hx
  unfold kinv
  rw [kpw_kpow]
  exact h
theorem kinv_one {f : Nat} : kinv (1 : Fin (Pm f)) = 1 := by
  have h := mul_kinvK (1 : Fin (Pm f)) k_one_ne
  grind
theorem kinv_two {f : Nat} (hf : IsF f) : nK f 2 ≠ 0 ∧ kinv (nK f 2) + kinv (nK f 2) = 1 := by
  have h0 : nK f 2 ≠ 0 := fun h => by
    have := nK_small hf (a := 2) (b := 0) (by decide) (by decide) (by rw [h, nK_zero])
    omega
  refine ⟨h0, ?_⟩
  have h := mul_kinvK (nK f 2) h0
  have h2 : nK f 2 = 1 + 1 := by rw [show 2 = 1 + 1 from rfl, nK_add, nK_one]
  generalize kinv (nK f 2) = k at h ⊢
  rw [h2] at h
  grind

/-- one pair of a chunk -/
def pairL {f : Nat} (v : KL f) (r part : Fin (Pm f)) (s i : Nat) : KL f :=
  if s + i < v.length then [kpw r (i + 1) * v.getD (s + i) 0, v.getD (s + i) 0 - part] else [0, 0]
/-- a chunk's first i pairs -/
def argL {f : Nat} (v : KL f) (r part : Fin (Pm f)) (s : Nat) : Nat → KL f
  | 0 => []
  | i + 1 => argL v r part s i ++ pairL v r part s i
theorem pairL_length {f : Nat} (v : KL f) (r part : Fin (Pm f)) (s i : Nat) : (pairL v r part s i).length = 2 := by unfold pairL; split <;> rfl
theorem argL_length {f : Nat} (v : KL f) (r part : Fin (Pm f)) (s : Nat) : ∀ i, (argL v r part s i).length = 2 * i
  | 0 => rfl
  | i + 1 => by
    show (argL v r part s i ++ pairL v r part s i).length = _
    rw [List.length_append, argL_length v r part s i, pairL_length]
    omega
theorem pairL_in {f : Nat} {v : KL f} {r part x : Fin (Pm f)} {s i : Nat} (h : v[s + i]? = some x) : pairL v r part s i = [kpw r (i + 1) * x, x - part] := by
  obtain ⟨hlt, he⟩ := List.getElem?_eq_some_iff.1 h
  unfold pairL
  rw [if_pos hlt, List.getD_eq_getElem?_getD, h]
  rfl
theorem pairL_out {f : Nat} {v : KL f} {r part : Fin (Pm f)} {s i : Nat} (h : ¬ s + i < v.length) : pairL v r part s i = [0, 0] := by
  unfold pairL
  rw [if_neg h]

/-- what is asked by the k-th call -/
def argOf {f : Nat} (y : CK) (v j : KL f) (part : Fin (Pm f)) (k : Nat) : KL f :=
  match y with
  | .count => [v.getD 0 0, v.getD 0 0]
  | .sum _ => [v.getD k 0]
  | .vec _ _ c => argL v (j.getD k 0) part (k * c) c
  | .hist _ c => argL v (j.getD k 0) part (k * c) c
  | .multi _ _ c => argL v (j.getD k 0) part (k * c) c

theorem getD_of {f : Nat} {l : KL f} {i : Nat} {x : Fin (Pm f)} (h : l[i]? = some x) : l.getD i 0 = x := by
  rw [List.getD_eq_getElem?_getD, h]
  rfl

/-- what the bits come to -/
def bitsF {f : Nat} (ans : Nat → Fin (Pm f)) (r : Fin (Pm f)) (n : Nat) : Fin (Pm f) := acc (fun i => kpw r (i + 1) * ans i) n
theorem bitsF_zero {f : Nat} (ans : Nat → Fin (Pm f)) (r : Fin (Pm f)) : bitsF ans r 0 = 0 := rfl
theorem bitsF_succ {f : Nat} (ans : Nat → Fin (Pm f)) (r : Fin (Pm f)) (n : Nat) : bitsF ans r (n + 1) = bitsF ans r n + kpw r (n + 1) * ans n := rfl

/-- what is said of a vector -/
def runF {f : Nat} (y : CK) (v j : KL f) (part : Fin (Pm f)) (ans : Nat → Fin (Pm f)) : Fin (Pm f) :=
  match y with
  | .count => ans 0 - v.getD 0 0
  | .sum b => bitsF ans (j.getD 0 0) b
  | .vec b l c => acc ans (CK.vec b l c).calls
  | .hist l c => acc ans (CK.hist l c).calls + j.getD (j.length - 1) 0 * (ksum (v.take l) - part)
  | .multi l m c => acc ans (CK.multi l m c).calls + j.getD (j.length - 1) 0 * (ksum (v.take l) - knum (v.drop l) + nK f (offN m) * part)

/-! ### shares -/
theorem bitsF_sum {f : Nat} (p q r : Nat → Fin (Pm f)) (x : Fin (Pm f)) : ∀ n, (∀ i, i < n → p i + q i = r i) → bitsF p x n + bitsF q x n = bitsF r x n
  | 0, _ => by
    show (0 : Fin (Pm f)) + 0 = 0
    grind
  | n + 1, H => by
    have ih := bitsF_sum p q r x n (fun i hi => H i (by omega))
    have h := H n (by omega)
    show bitsF p x n + kpw x (n + 1) * p n + (bitsF q x n + kpw x (n + 1) * q n) = bitsF r x n + kpw x (n + 1) * r n
    rw [← ih, ← h]
    grind
theorem acc_sum {f : Nat} (p q r : Nat → Fin (Pm f)) (n : Nat) (H : ∀ i, i < n → p i + q i = r i) : acc p n + acc q n = acc r n := by
  rw [← acc_add]
  exact acc_congr n H

/-- a and b add up to v -/
def SumL {f : Nat} (a b v : KL f) : Prop := a.length = v.length ∧ b.length = v.length ∧ ∀ (i : Nat) (x y z : Fin (Pm f)), a[i]? = some x → b[i]? = some y → v[i]? = some z → x + y = z
theorem SumL.at {f : Nat} {a b v : KL f} (h : SumL a b v) {i : Nat} (hi : i < v.length) : ∃ x y, a[i]? = some x ∧ b[i]? = some y ∧ v[i]? = some (x + y) := by
  obtain ⟨x, h1⟩ : ∃ x, a[i]? = some x := ⟨_, List.getElem?_eq_getElem (by rw [h.1]; exact hi)⟩
  obtain ⟨y, h2⟩ : ∃ x, b[i]? = some x := ⟨_, List.getElem?_eq_getElem (by rw [h.2.1]; exact hi)⟩
  have h3 : v[i]? = some v[i] := List.getElem?_eq_getElem hi
  have h4 := h.2.2 i _ _ _ h1 h2 h3
  exact ⟨_, _, h1, h2, by rw [h3, h4]⟩
theorem SumL.ksum {f : Nat} {a b v : KL f} (h : SumL a b v) : ∀ n, n ≤ v.length → ksum (a.take n) + ksum (b.take n) = ksum (v.take n)
  | 0, _ => by
    show (0 : Fin (Pm f)) + 0 = 0
    grind
  | n + 1, hn => by
    obtain ⟨x, y, h1, h2, h3⟩ := h.at (i := n) (by omega)
    rw [ksum_take _ _ _ h1, ksum_take _ _ _ h2, ksum_take _ _ _ h3, ← SumL.ksum h n (by omega)]
    grind
theorem SumL.knum {f : Nat} {a b v : KL f} (h : SumL a b v) : ∀ d, d ≤ v.length → knum (a.drop (v.length - d)) + knum (b.drop (v.length - d)) = knum (v.drop (v.length - d))
  | 0, _ => by
    rw [Nat.sub_zero, List.drop_length, show a.drop v.length = [] by rw [← h.1]; exact List.drop_length, show b.drop v.length = [] by rw [← h.2.1]; exact List.drop_length]
    show (0 : Fin (Pm f)) + 0 = 0
    grind
  | d + 1, hd => by
    obtain ⟨x, y, h1, h2, h3⟩ := h.at (i := v.length - (d + 1)) (by omega)
    have ih := SumL.knum h d (by omega)
    rw [knum_drop _ _ _ h1, knum_drop _ _ _ h2, knum_drop _ _ _ h3, show v.length - (d + 1) + 1 = v.length - d by omega, ← ih]
    grind

theorem runF_sum {f : Nat} (y : CK) (hy : y.ok) (v a b j : KL f) (hl : v.length = y.nin) (hs : SumL a b v) (h : Fin (Pm f)) (hh : h + h = 1) (p q r : Nat → Fin (Pm f)) (H : ∀ k, k < y.calls → p k + q k = r k) :
    runF y a j h p + runF y b j h q = runF y v j 1 r := by
  have hn := CK.nin_pos hy
  obtain ⟨x0, y0, h1, h2, h3⟩ := hs.at (i := 0) (by omega)
  cases y with
  | count =>
    show p 0 - a.getD 0 0 + (q 0 - b.getD 0 0) = r 0 - v.getD 0 0
    rw [getD_of h1, getD_of h2, getD_of h3, ← H 0 (by decide)]
    grind
  | sum b => exact bitsF_sum p q r _ b H
  | vec bb l c => exact acc_sum p q r _ H
  | hist l c =>
    show acc p (CK.hist l c).calls + j.getD (j.length - 1) 0 * (Go.Proofs.Ytiphahbeedeebaa.ksum (a.take l) - h) + (acc q (CK.hist l c).calls + j.getD (j.length - 1) 0 * (Go.Proofs.Ytiphahbeedeebaa.ksum (b.take l) - h)) = acc r (CK.hist l c).calls + j.getD (j.length - 1) 0 * (Go.Proofs.Ytiphahbeedeebaa.ksum (v.take l) - 1)
    have hl2 : v.length = l := hl
    have e1 := acc_sum p q r _ H
    have e2 := hs.ksum l (by omega)
    rw [← e1, ← e2, ← hh]
    grind
  | multi l m c =>
    show acc p (CK.multi l m c).calls + j.getD (j.length - 1) 0 * (Go.Proofs.Ytiphahbeedeebaa.ksum (a.take l) - Go.Proofs.Ytiphahbeedeebaa.knum (a.drop l) + nK f (offN m) * h) + (acc q (CK.multi l m c).calls + j.getD (j.length - 1) 0 * (Go.Proofs.Ytiphahbeedeebaa.ksum (b.take l) - Go.Proofs.Ytiphahbeedeebaa.knum (b.drop l) + nK f (offN m) * h)) = acc r (CK.multi l m c).calls + j.getD (j.length - 1) 0 * (Go.Proofs.Ytiphahbeedeebaa.ksum (v.take l) - Go.Proofs.Ytiphahbeedeebaa.knum (v.drop l) + nK f (offN m) * 1)
    have hl2 : v.length = l + Lib.bitLen m := hl
    have e1 := acc_sum p q r _ H
    have e2 := hs.ksum l (by omega)
    have e3 := hs.knum (Lib.bitLen m) (by omega)
    rw [show v.length - Lib.bitLen m = l by omega] at e3
    rw [← e1, ← e2, ← e3, ← hh]
    grind

/-! ### directly -/
/-- what the reference adds up -/
def dirG {f : Nat} (v j : KL f) (s i : Nat) : Fin (Pm f) := kpw (j.getD (i / s) 0) (i % s + 1) * (v.getD i 0 * (v.getD i 0 - 1))
def CK.size : CK → Nat
  | .sum b => b
  | y => y.c
def dirF {f : Nat} (y : CK) (v j : KL f) : Fin (Pm f) :=
  match y with
  | .count => v.getD 0 0 * v.getD 0 0 - v.getD 0 0
  | .sum b => acc (dirG v j b) b
  | .vec b l c => acc (dirG v j c) (l * b)
  | .hist l c => acc (dirG v j c) l + j.getD (j.length - 1) 0 * (ksum (v.take l) - 1)
  | .multi l m c => acc (dirG v j c) (l + Lib.bitLen m) + j.getD (j.length - 1) 0 * (ksum (v.take l) + nK f (offN m) - knum (v.drop l))

theorem psum_append {f : Nat} (l m : KL f) : ∀ i, 2 * i ≤ l.length → psum (l ++ m) i = psum l i
  | 0, _ => rfl
  | i + 1, h => by
    show psum (l ++ m) i + (l ++ m).getD (2 * i) 0 * (l ++ m).getD (2 * i + 1) 0 = psum l i + l.getD (2 * i) 0 * l.getD (2 * i + 1) 0
    rw [psum_append l m i (by omega)]
    simp only [List.getD_eq_getElem?_getD]
    rw [List.getElem?_append_left (by omega), List.getElem?_append_left (by omega)]
theorem psum_argL {f : Nat} (v : KL f) (r : Fin (Pm f)) (s : Nat) : ∀ i, psum (argL v r 1 s i) i = acc (fun i => if s + i < v.length then kpw r (i + 1) * (v.getD (s + i) 0 * (v.getD (s + i) 0 - 1)) else 0) i
  | 0 => rfl
  | i + 1 => by
    have hl := argL_length v r 1 s i
    show psum (argL v r 1 s i ++ pairL v r 1 s i) i + (argL v r 1 s i ++ pairL v r 1 s i).getD (2 * i) 0 * (argL v r 1 s i ++ pairL v r 1 s i).getD (2 * i + 1) 0 = _ + _
    rw [psum_append _ _ _ (by omega), psum_argL v r s i]
    simp only [List.getD_eq_getElem?_getD]
    rw [List.getElem?_append_right (by omega), List.getElem?_append_right (by omega), hl, show 2 * i - 2 * i = 0 by omega, show 2 * i + 1 - 2 * i = 1 by omega]
    unfold pairL
    by_cases hlt : s + i < v.length
    · rw [if_pos hlt, if_pos hlt]
      simp only [List.getD_eq_getElem?_getD, List.getElem?_cons_zero, List.getElem?_cons_succ, Option.getD_some]
      grind
    · rw [if_neg hlt, if_neg hlt]
      simp only [List.getElem?_cons_zero, List.getElem?_cons_succ, Option.getD_some]
      grind

theorem chunks_dir {f : Nat} (v j : KL f) (c : Nat) (hc : 1 ≤ c) (q : Nat) (hq : v.length ≤ q * c) : acc (fun k => psum (argL v (j.getD k 0) 1 (k * c) c) c) q = acc (dirG v j c) v.length := by
  have h1 : acc (fun k => psum (argL v (j.getD k 0) 1 (k * c) c) c) q = acc (fun k => acc (fun i => (fun n => if n < v.length then dirG v j c n else 0) (k * c + i)) c) q := by
    refine acc_congr q fun k hk => ?_
    rw [psum_argL]
    refine acc_congr c fun i hi => ?_
    have e1 : (k * c + i) / c = k := by rw [Nat.mul_comm, Nat.mul_add_div (by omega), Nat.div_eq_of_lt hi, Nat.add_zero]
    have e2 : (k * c + i) % c = i := by rw [Nat.mul_comm, Nat.mul_add_mod, Nat.mod_eq_of_lt hi]
    show (if k * c + i < v.length then _ else _) = if k * c + i < v.length then dirG v j c (k * c + i) else 0
    unfold dirG
    rw [e1, e2]
  rw [h1, acc_flat (fun n => if n < v.length then dirG v j c n else 0) c q]
  obtain ⟨d, hd⟩ : ∃ d, q * c = v.length + d := ⟨q * c - v.length, by omega⟩
  rw [hd, acc_zero _ _ d (fun i h1 h2 => if_neg (by omega))]
  exact acc_congr _ fun i hi => if_pos hi

/-- what is said of a vector, the gadget being asked itself, is as the document has it -/
theorem runF_dir {f : Nat} (y : CK) (hy : y.ok) (v j : KL f) (hl : v.length = y.nin) : runF y v j 1 (fun k => gval (y.gad f) (argOf y v j 1 k)) = dirF y v j := by
  cases y with
  | count =>
    show (0 : Fin (Pm f)) + v.getD 0 0 * v.getD 0 0 - v.getD 0 0 = v.getD 0 0 * v.getD 0 0 - v.getD 0 0
    grind
  | sum b =>
    refine acc_congr b fun i hi => ?_
    show kpw (j.getD 0 0) (i + 1) * (((0 * v.getD i 0 + 1) * v.getD i 0 + -1) * v.getD i 0 + 0) = kpw (j.getD (i / b) 0) (i % b + 1) * (v.getD i 0 * (v.getD i 0 - 1))
    rw [Nat.div_eq_of_lt hi, Nat.mod_eq_of_lt hi]
    grind
  | vec bb l c =>
    have h := chunks_dir v j c hy.2.2.1 (CK.vec bb l c).calls (by rw [hl]; exact ceil_spec hy.2.2.1)
    rw [hl] at h
    exact h
  | hist l c =>
    have h := chunks_dir v j c hy.2.1 (CK.hist l c).calls (by rw [hl]; exact ceil_spec hy.2.1)
    rw [hl] at h
    show acc _ _ + _ = acc (dirG v j c) l + _
    exact congrArg (· + j.getD (j.length - 1) 0 * (ksum (v.take l) - 1)) h
  | multi l m c =>
    have h := chunks_dir v j c hy.2.2.1 (CK.multi l m c).calls (by rw [hl]; exact ceil_spec hy.2.2.1)
    rw [hl] at h
    refine (congrArg (· + j.getD (j.length - 1) 0 * (ksum (v.take l) - knum (v.drop l) + nK f (offN m) * 1)) h).trans ?_
    show acc (dirG v j c) (l + Lib.bitLen m) + _ = acc (dirG v j c) (l + Lib.bitLen m) + _
    grind

/-- nought is said of a right one -/
theorem dirF_ok {f : Nat} (y : CK) (hy : y.ok) (v j : KL f) (hl : v.length = y.nin) (hv : okVec y v) : dirF y v j = 0 := by
  have hz : ∀ s n, n ≤ v.length → acc (dirG v j s) n = 0 := fun s n hn => by
    have h := acc_zero (dirG v j s) 0 n (fun i _ hi => by
      have hx := hv.1 v[i] (List.getElem_mem (by omega))
      have he : v[i]? = some v[i] := List.getElem?_eq_getElem (by omega)
      unfold dirG
      rw [getD_of he]
      rcases hx with h | h
      · rw [h]
        grind
      · rw [h]
        grind)
    rw [Nat.zero_add] at h
    exact h
  have hn := CK.nin_pos hy
  cases y with
  | count =>
    have hx := hv.1 v[0] (List.getElem_mem (by omega))
    have he : v[0]? = some v[0] := List.getElem?_eq_getElem (by omega)
    show v.getD 0 0 * v.getD 0 0 - v.getD 0 0 = 0
    rw [getD_of he]
    rcases hx with h | h
    · rw [h]
      grind
    · rw [h]
      grind
  | sum b => exact hz b b (by rw [hl]; exact Nat.le_refl _)
  | vec bb l c => exact hz c (l * bb) (by rw [hl]; exact Nat.le_refl _)
  | hist l c =>
    show acc (dirG v j c) l + _ = 0
    rw [hz c l (by rw [hl]; exact Nat.le_refl _)]
    have h2 : ksum v = 1 := hv.2
    have h3 : v.take l = v := List.take_of_length_le (by rw [hl]; exact Nat.le_refl _)
    rw [h3, h2]
    grind
  | multi l m c =>
    show acc (dirG v j c) (l + Lib.bitLen m) + _ = 0
    rw [hz c _ (by rw [hl]; exact Nat.le_refl _)]
    have h2 : ksum (v.take l) + nK f (offN m) = knum (v.drop l) := hv.2
    rw [h2]
    grind

end Go.Proofs.Ytiphahbeedeebaa

namespace Go.Proofs.Ytiphahbeedeebaa
open Go.RowKit Fm
set_option linter.unusedVariables false
set_option maxRecDepth 100000

/-- nothing below block B turns, but for the blocks of S -/
structure Exc (S : Nat → Prop) (B : Nat) (w w' : World) : Prop where
  os : w'.os = w.os
  tape : w'.tape = w.tape
  output : w'.output = w.output
  size : w.heap.size ≤ w'.heap.size
  block : ∀ k, k < B → ¬ S k → w'.heap[k]? = w.heap[k]?

section
variable {S : Nat → Prop} {B : Nat} {a w w' w'' : World}
theorem exc_of (h : Below B w w') : Exc S B w w' := ⟨h.os, h.tape, h.output, h.size, fun k hk _ => h.block k hk⟩
theorem Exc.trans (h : Exc S B w w') (k : Exc S B w' w'') : Exc S B w w'' :=
  ⟨k.os.trans h.os, k.tape.trans h.tape, k.output.trans h.output, Nat.le_trans h.size k.size, fun i hi hn => (k.block i hi hn).trans (h.block i hi hn)⟩
theorem Exc.mono {B' : Nat} (h : Exc S B w w') (hB : B' ≤ B) : Exc S B' w w' := ⟨h.os, h.tape, h.output, h.size, fun k hk => h.block k (by omega)⟩
theorem Exc.less {T : Nat → Prop} (h : Exc S B w w') (hT : ∀ k, k < B → S k → T k) : Exc T B w w' := ⟨h.os, h.tape, h.output, h.size, fun k hk hn => h.block k hk fun hs => hn (hT k hk hs)⟩
theorem Exc.below (h : Exc S B w w') (hn : ∀ k, k < B → ¬ S k) : Below B w w' := ⟨h.os, h.tape, h.output, h.size, fun k hk => h.block k hk (hn k hk)⟩
theorem Exc.cell (h : Exc S B w w') {p : Addr} (hp : p.block < B) (hn : ¬ S p.block) : w'.cell? p = w.cell? p := World.cell?_of_block (h.block _ hp hn)
theorem Exc.frozen (h : Exc S B w w') {p : Addr} (hp : p.block < B) (hn : ¬ S p.block) : w'.frozen? p = w.frozen? p := World.frozen?_of_block (h.block _ hp hn)

theorem Exc.call (h : Exc S a.heap.size a w) (k : Below w.heap.size w w') : Exc S a.heap.size a w' := h.trans ((exc_of k).mono h.size)
theorem Exc.more {T : Nat → Prop} (h : Exc S a.heap.size a w) (k : Exc T w.heap.size w w') (hT : ∀ q, T q → S q ∨ a.heap.size ≤ q) : Exc S a.heap.size a w' :=
  h.trans ((k.mono h.size).less fun q hq ht => (hT q ht).resolve_right (by omega))
theorem Exc.st {b : Nat} (h : Exc S B a w) (hp : B ≤ b) (x y : Value) : Exc S B a ((w.setCell ⟨b, 0, none⟩ x).setCell ⟨b, 1, none⟩ y) := h.trans (exc_of (bl_st (Below.refl B w) hp x y))

theorem Exc.one {S' : Nat → Prop} (w : World) {b : Nat} (hb : S' b) (x y : Value) : Exc S' w.heap.size w ((w.setCell ⟨b, 0, none⟩ x).setCell ⟨b, 1, none⟩ y) :=
  ⟨rfl, rfl, rfl, by simp [World.setCell], fun k hk hn => by
    have hne : k ≠ b := fun e => hn (e ▸ hb)
    rw [Below.heap_setCell _ _ y k hne, Below.heap_setCell _ _ x k hne]⟩

theorem Exc.two (w : World) (b b' : Nat) (x y x' y' : Value) : Exc (fun q => q = b ∨ q = b') w.heap.size w ((((w.setCell ⟨b, 0, none⟩ x).setCell ⟨b, 1, none⟩ y).setCell ⟨b', 0, none⟩ x').setCell ⟨b', 1, none⟩ y') :=
  ⟨rfl, rfl, rfl, by simp [World.setCell], fun k hk hn => by
    have h1 : k ≠ b := fun e => hn (.inl e)
    have h2 : k ≠ b' := fun e => hn (.inr e)
    rw [Below.heap_setCell _ _ y' k h2, Below.heap_setCell _ _ x' k h2, Below.heap_setCell _ _ y k h1, Below.heap_setCell _ _ x k h1]⟩
/-- nothing that was there turns, but for block g -/
def Onl (g : Nat) (w w' : World) : Prop := Exc (fun q => q = g) w.heap.size w w'
theorem Onl.clo (g : Nat) (w : World) : Clo (Onl g w) := fun _ _ h hb => Exc.trans h ((exc_of hb).mono h.size)
theorem Onl.drew (g : Nat) (w : World) : Onl g w w.drew := exc_of ((Below.refl _ _).drew)
theorem Onl.more {g : Nat} (h : Onl g a w) (k : Exc (fun q => q = g) w.heap.size w w') : Onl g a w' := Exc.trans h (k.mono h.size)

/-- WHAT A FUNC VALUE HOLDS BY WHAT IT CAPTURED: I holds, and hangs on the blocks of D alone -/
structure St (I : (Nat → Prop) → World → Prop) (D : Nat → Prop) (w : World) : Prop where
  here : I D w
  lt : ∀ q, D q → q < w.heap.size
  keep : ∀ w w', I D w → (∀ q, D q → w'.heap[q]? = w.heap[q]?) → I D w'
theorem St.of {I : (Nat → Prop) → World → Prop} {D : Nat → Prop} (h : St I D w) (hs : w.heap.size ≤ w'.heap.size) (hb : ∀ q, D q → w'.heap[q]? = w.heap[q]?) : St I D w' :=
  ⟨h.keep _ _ h.here hb, fun q hq => Nat.lt_of_lt_of_le (h.lt q hq) hs, h.keep⟩
theorem St.call {I : (Nat → Prop) → World → Prop} {D : Nat → Prop} (h : St I D w) (hb : Below w.heap.size w w') : St I D w' := h.of hb.size fun q hq => hb.block q (h.lt q hq)
theorem St.exc {I : (Nat → Prop) → World → Prop} {D : Nat → Prop} (h : St I D w) (hn : ∀ q, D q → ¬ S q) (hb : Exc S w.heap.size w w') : St I D w' := h.of hb.size fun q hq => hb.block q (h.lt q hq) (hn q hq)
theorem St.st {I : (Nat → Prop) → World → Prop} {D : Nat → Prop} (h : St I D w) {b : Nat} (hn : ¬ D b) (x y : Value) : St I D ((w.setCell ⟨b, 0, none⟩ x).setCell ⟨b, 1, none⟩ y) :=
  h.of (by simp [World.setCell]) fun q hq => by
    have hne : q ≠ b := fun e => hn (e ▸ hq)
    rw [Below.heap_setCell _ _ y q hne, Below.heap_setCell _ _ x q hne]

theorem cell_exc {p : Addr} {v : Value} (h : w.cell? p = some v) (hn : ¬ S p.block) (hb : Exc S w.heap.size w w') : w'.cell? p = some v := (hb.cell (lt_of_cell h) hn).trans h
theorem V2.exc {b : Nat} {u v : Value} (h : V2 w b u v) (hn : ¬ S b) (hb : Exc S w.heap.size w w') : V2 w' b u v :=
  ⟨cell_exc h.c0 hn hb, cell_exc h.c1 hn hb, (hb.frozen (p := ⟨b, 0, none⟩) h.lt hn).trans h.f0, (hb.frozen (p := ⟨b, 1, none⟩) h.lt hn).trans h.f1, Nat.lt_of_lt_of_le h.lt hb.size⟩
theorem Vs.exc {b : Nat} {cs : List Value} (h : Vs w b cs) (hn : ¬ S b) (hb : Exc S w.heap.size w w') : Vs w' b cs :=
  ⟨fun i v hi => cell_exc (h.cell i v hi) hn hb, fun i hi => (hb.frozen (p := ⟨b, i, none⟩) h.lt hn).trans (h.frz i hi), Nat.lt_of_lt_of_le h.lt hb.size⟩
theorem V2.ask {T : Nat → Prop} {b : Nat} {u v : Value} (h : V2 w b u v) (hn : ¬ S b) (hb : Exc S w.heap.size w w') (hT : ∀ q, T q → S q ∨ w.heap.size ≤ q) : V2 w' b u v ∧ ¬ T b :=
  ⟨h.exc hn hb, fun ht => (hT b ht).elim hn fun h2 => by have := h.lt; omega⟩
theorem Vs.ask {T : Nat → Prop} {b : Nat} {cs : List Value} (h : Vs w b cs) (hn : ¬ S b) (hb : Exc S w.heap.size w w') (hT : ∀ q, T q → S q ∨ w.heap.size ≤ q) : Vs w' b cs ∧ ¬ T b :=
  ⟨h.exc hn hb, fun ht => (hT b ht).elim hn fun h2 => by have := h.lt; omega⟩
theorem BlkE.exc {b : Nat} {xs : List E} (h : BlkE w b xs) (hn : ¬ S b) (hb : Exc S w.heap.size w w') : BlkE w' b xs := (hb.block b h.lt hn).trans h
theorem V2.onl {g b : Nat} {u v : Value} (h : V2 w b u v) (hn : b ≠ g) (hb : Onl g w w') : V2 w' b u v := h.exc hn hb
theorem Vs.onl {g b : Nat} {cs : List Value} (h : Vs w b cs) (hn : b ≠ g) (hb : Onl g w w') : Vs w' b cs := h.exc hn hb
theorem RowE.exc {b o : Nat} {xs : List E} (h : RowE w b o xs) (hn : ¬ S b) (hb : Exc S w.heap.size w w') : RowE w' b o xs :=
  fun i e hi => ⟨cell_exc (h i e hi).1 hn hb, cell_exc (h i e hi).2 hn hb⟩

/-- a slice value reads as the elements l; what it reads is none of S's -/
def SlX {f : Nat} (S : Nat → Prop) (w : World) (v : Value) (l : KL f) : Prop :=
  ∃ (A : Option Addr) (c : Nat), v = .slice A l.length c ∧ l.length ≤ c ∧ c ≤ 9223372036854775807 ∧ (0 < l.length → ∃ b o, A = some ⟨b, o, none⟩ ∧ b < w.heap.size ∧ ¬ S b ∧ RowE w b o (esK l))

variable {f : Nat} {v : Value} {l : KL f}
theorem SlX.toK (h : SlX S w v l) : SlK w w.heap.size v l := by
  obtain ⟨A, c, hv, h1, h2, h3⟩ := h
  refine ⟨A, c, hv, h1, h2, fun hl => ?_⟩
  obtain ⟨b, o, k1, k2, _, k3⟩ := h3 hl
  exact ⟨b, o, k1, k2, k3⟩
theorem SlX.exc (h : SlX S w v l) (hb : Exc S w.heap.size w w') : SlX S w' v l := by
  obtain ⟨A, c, hv, h1, h2, h3⟩ := h
  refine ⟨A, c, hv, h1, h2, fun hl => ?_⟩
  obtain ⟨b, o, k1, k2, k3, k4⟩ := h3 hl
  exact ⟨b, o, k1, Nat.lt_of_lt_of_le k2 hb.size, k3, k4.exc k3 hb⟩
theorem SlX.call (h : SlX S w v l) (hb : Below w.heap.size w w') : SlX S w' v l := h.exc (exc_of hb)
theorem SlK.out {B : Nat} (h : SlK w B v l) (hB : B ≤ w.heap.size) (hS : ∀ b, S b → B ≤ b) : SlX S w v l := by
  obtain ⟨A, c, hv, h1, h2, h3⟩ := h
  refine ⟨A, c, hv, h1, h2, fun hl => ?_⟩
  obtain ⟨b, o, k1, k2, k3⟩ := h3 hl
  exact ⟨b, o, k1, by omega, fun hs => by have := hS b hs; omega, k3⟩
theorem SlX.at {A : Option Addr} {n c k : Nat} {x : Fin (Pm f)} (h : SlX S w (.slice A n c) l) (hk : l[k]? = some x) : ∃ b o, A = some ⟨b, o, none⟩ ∧ b < w.heap.size ∧ w.cell? ⟨b, o + k * 2, none⟩ = some (.int .u64 (lo x)) ∧ w.cell? ⟨b, o + k * 2 + 1, none⟩ = some (.int .u64 (hi x)) := by
  obtain ⟨A', c', hv, h1, h2, h3⟩ := h
  obtain ⟨b, o, k1, k2, _, k4⟩ := h3 (by have := (List.getElem?_eq_some_iff.1 hk).1; omega)
  injection hv with e1 e2 e3
  exact ⟨b, o, e1.trans k1, k2, (k4.kat hk).1, (k4.kat hk).2⟩
theorem SlX.ofK {b o n c : Nat} (h : SlK w w.heap.size (.slice (some ⟨b, o, none⟩) n c) l) (hS : ¬ S b) : SlX S w (.slice (some ⟨b, o, none⟩) n c) l := by
  obtain ⟨A, c', hv, h1, h2, h3⟩ := h
  injection hv with e1 e2 e3
  subst e1
  subst e2
  subst e3
  refine ⟨_, _, rfl, h1, h2, fun hl => ?_⟩
  obtain ⟨b', o', k1, k2, k3⟩ := h3 hl
  injection k1 with k1
  injection k1 with k4 k5 k6
  subst k4
  subst k5
  exact ⟨_, _, rfl, k2, hS, k3⟩
theorem SlX.of {b o n c : Nat} (hn : l.length = n) (hc : n ≤ c) (hm : c ≤ 9223372036854775807) (hb : b < w.heap.size) (hS : ¬ S b) (hr : RowE w b o (esK l)) : SlX S w (.slice (some ⟨b, o, none⟩) n c) l := by
  subst hn
  exact ⟨_, _, rfl, hc, hm, fun _ => ⟨b, o, rfl, hb, hS, hr⟩⟩
end

/-- HOW THE GADGET IS ASKED: a func value whose k-th call, of what Run asks then, says ans k and the code cd; it may write the blocks that it holds -/
structure Asked {f : Nat} (y : CK) (v j : KL f) (part : Fin (Pm f)) (g : Nat) (cap : Array Value) (Inv : Nat → (Nat → Prop) → World → Prop) (ans : Nat → Fin (Pm f)) (cd : Int) : Prop where
  ent : ∀ (args : Array Value) (w : World), (callFunc g args).run Try.prog w = .ok (.enter g args) w
  run : ∀ k D w va, k < y.calls → St (Inv k) D w → SlX D w va (argOf y v j part k) → Calls Try.prog g (#[va] ++ cap) w fun e w' => e = .returned (.tuple #[vK (ans k), .int .i64 cd]) ∧
    ∃ D', St (Inv (k + 1)) D' w' ∧ (∀ q, D' q → D q ∨ w.heap.size ≤ q) ∧ Exc D w.heap.size w w'

/-! ### what is known of worlds within a region in which the gadget is asked -/
section
variable {D D1 : Nat → Prop} {w0 w w' : World} {I : (Nat → Prop) → World → Prop}
/-- before it is asked -/
def Rg (D : Nat → Prop) (w0 : World) (I : (Nat → Prop) → World → Prop) (w : World) : Prop := Exc D w0.heap.size w0 w ∧ St I D w
/-- behind it -/
def Rh (D : Nat → Prop) (w0 : World) (I : (Nat → Prop) → World → Prop) (D1 : Nat → Prop) (w : World) : Prop := Exc D w0.heap.size w0 w ∧ St I D1 w ∧ ∀ q, D1 q → D q ∨ w0.heap.size ≤ q
/-- a new variable of the region's own -/
def Nv (D : Nat → Prop) (w0 : World) (c : Nat) (w : World) : Prop := ¬ D c ∧ w0.heap.size ≤ c ∧ V2 w c (.int .u64 0) (.int .u64 0)
/-- the same, written -/
def Nw (D : Nat → Prop) (w0 : World) (c : Nat) (x y : Value) (w : World) : Prop := ¬ D c ∧ w0.heap.size ≤ c ∧ V2 w c x y
/-- a new row of the region's own -/
def Nb (D : Nat → Prop) (w0 : World) (b : Nat) (l : List E) (w : World) : Prop := ¬ D b ∧ w0.heap.size ≤ b ∧ BlkE w b l
theorem Exc.later (h : Exc D w0.heap.size w0 w) (hb : Below w.heap.size w w') : Exc D w0.heap.size w0 w' := h.trans ((exc_of hb).mono h.size)
theorem Rg.clo (D : Nat → Prop) (w0 : World) (I : (Nat → Prop) → World → Prop) : Clo (Rg D w0 I) := fun _ _ h hb => ⟨h.1.later hb, h.2.call hb⟩
theorem Rh.clo (D : Nat → Prop) (w0 : World) (I : (Nat → Prop) → World → Prop) (D1 : Nat → Prop) : Clo (Rh D w0 I D1) := fun _ _ h hb => ⟨h.1.later hb, h.2.1.call hb, h.2.2⟩
theorem Nv.clo (D : Nat → Prop) (w0 : World) (c : Nat) : Clo (Nv D w0 c) := fun _ _ h hb => ⟨h.1, h.2.1, h.2.2.call hb⟩
theorem Nb.clo (D : Nat → Prop) (w0 : World) (b : Nat) (l : List E) : Clo (Nb D w0 b l) := fun _ _ h hb => ⟨h.1, h.2.1, h.2.2.call hb⟩
theorem Nw.clo (D : Nat → Prop) (w0 : World) (c : Nat) (x y : Value) : Clo (Nw D w0 c x y) := fun _ _ h hb => ⟨h.1, h.2.1, h.2.2.call hb⟩
theorem Nv.write {c : Nat} (h : Rh D w0 I D1 w ∧ Nv D1 w0 c w) (x y : Value) : Rh D w0 I D1 ((w.setCell ⟨c, 0, none⟩ x).setCell ⟨c, 1, none⟩ y) ∧ Nw D1 w0 c x y ((w.setCell ⟨c, 0, none⟩ x).setCell ⟨c, 1, none⟩ y) :=
  ⟨⟨h.1.1.st h.2.2.1 x y, h.1.2.1.st h.2.1 x y, h.1.2.2⟩, h.2.1, h.2.2.1, h.2.2.2.set x y⟩
theorem Rg.start (h : St I D w) : Rg D w I w.drew := ⟨exc_of ((Below.refl _ _).drew), h.of (Nat.le_refl _) fun _ _ => rfl⟩
theorem Nv.new (hs : w0.heap.size ≤ w.heap.size) (hD : ∀ q, D q → q < w.heap.size) : Nv D w0 w.heap.size (w.alloc (.cells #[.int .u64 0, .int .u64 0] 41)) :=
  ⟨fun h => by have := hD _ h; omega, hs, V2.new w _ _ _⟩
theorem Nb.new (hs : w0.heap.size ≤ w.heap.size) (hD : ∀ q, D q → q < w.heap.size) (l : List E) (cs : Array Value) (h : cs = (cellsE l).toArray) : Nb D w0 w.heap.size l (w.alloc (.cells cs 41)) :=
  ⟨fun h => by have := hD _ h; omega, hs, BlkE.new w l cs h⟩
/-- the gadget is asked within a region -/
theorem Rg.asked {I' : (Nat → Prop) → World → Prop} (h : Rg D w0 I w) (hst : St I' D1 w') (hT : ∀ q, D1 q → D q ∨ w.heap.size ≤ q) (hE : Exc D w.heap.size w w') : Rh D w0 I' D1 w' :=
  ⟨h.1.more hE fun q hq => .inl hq, hst, fun q hq => (hT q hq).imp_right fun h2 => Nat.le_trans h.1.size h2⟩
theorem Nv.asked {c : Nat} (h : Nv D w0 c w) (hT : ∀ q, D1 q → D q ∨ w.heap.size ≤ q) (hE : Exc D w.heap.size w w') : Nv D1 w0 c w' := by
  obtain ⟨h1, h2, h3⟩ := h
  obtain ⟨k1, k2⟩ := h3.ask h1 hE hT
  exact ⟨k2, h2, k1⟩
end

/-- what comes back of a run: an answer, or the call's own error -/
def RetRun {f : Nat} (x : Fin (Pm f)) (n : Nat) (cd : Int) (Inv : Nat → (Nat → Prop) → World → Prop) (D : Nat → Prop) (w : World) (e : Ending) (w' : World) : Prop :=
  ((cd = 0 ∧ e = .returned (.tuple #[vK x, .int .i64 0]) ∧ ∃ D', St (Inv n) D' w' ∧ ∀ q, D' q → D q ∨ w.heap.size ≤ q) ∨ (cd ≠ 0 ∧ e = .returned (.tuple #[.agg #[.int .u64 0, .int .u64 0], .int .i64 cd]) ∧ ∃ D', St (Inv 1) D' w' ∧ ∀ q, D' q → D q ∨ w.heap.size ≤ q)) ∧ Exc D w.heap.size w w'

/-- an answer, or nought behind an error -/
def cdx {f : Nat} (x : Fin (Pm f)) (cd : Int) : Fin (Pm f) := if cd = 0 then x else 0
/-- what a func value holds behind a run: n calls, or one -/
def Jn (Inv : Nat → (Nat → Prop) → World → Prop) (n : Nat) (cd : Int) : (Nat → Prop) → World → Prop := if cd = 0 then Inv n else Inv 1
/-- what holds behind a run -/
def Rd (D : Nat → Prop) (w0 : World) (I : (Nat → Prop) → World → Prop) (w : World) : Prop := Exc D w0.heap.size w0 w ∧ ∃ D' : Nat → Prop, St I D' w ∧ ∀ q, D' q → D q ∨ w0.heap.size ≤ q
theorem Rd.clo (D : Nat → Prop) (w0 : World) (I : (Nat → Prop) → World → Prop) : Clo (Rd D w0 I) := fun _ _ h hb => ⟨h.1.later hb, by
  obtain ⟨D', h1, h2⟩ := h.2
  exact ⟨D', h1.call hb, h2⟩⟩
theorem Rd.from {D : Nat → Prop} {w0 w w' : World} {I : (Nat → Prop) → World → Prop} (h : Rd D w I w') (k : Exc D w0.heap.size w0 w) : Rd D w0 I w' := ⟨k.more h.1 fun _ hq => .inl hq, by
  obtain ⟨D', h1, h2⟩ := h.2
  exact ⟨D', h1, fun q hq => (h2 q hq).imp_right fun h3 => Nat.le_trans k.size h3⟩⟩
theorem RetRun.uni {f : Nat} {x : Fin (Pm f)} {n : Nat} {cd : Int} {Inv : Nat → (Nat → Prop) → World → Prop} {D : Nat → Prop} {w w' : World} {e : Ending} (h : RetRun x n cd Inv D w e w') :
    e = .returned (.tuple #[vK (cdx x cd), .int .i64 cd]) ∧ Rd D w (Jn Inv n cd) w' := by
  obtain ⟨⟨rfl, rfl, hD⟩ | ⟨hc, rfl, hD⟩, hE⟩ := h
  · exact ⟨rfl, hE, hD⟩
  · refine ⟨?_, hE, ?_⟩
    · unfold cdx
      rw [if_neg hc, vK_zero]
    · unfold Jn
      rw [if_neg hc]
      exact hD
theorem RetRun.ofUni {f : Nat} {x : Fin (Pm f)} {n : Nat} {cd : Int} {Inv : Nat → (Nat → Prop) → World → Prop} {D : Nat → Prop} {w w' : World} {e : Ending} (he : e = .returned (.tuple #[vK (cdx x cd), .int .i64 cd])) (h : Rd D w (Jn Inv n cd) w') :
    RetRun x n cd Inv D w e w' := by
  subst he
  refine ⟨?_, h.1⟩
  by_cases hc : cd = 0
  · subst hc
    exact .inl ⟨rfl, rfl, h.2⟩
  · have h2 := h.2
    unfold Jn at h2
    rw [if_neg hc] at h2
    refine .inr ⟨hc, ?_, h2⟩
    unfold cdx
    rw [if_neg hc, vK_zero]
/-- the end: what is answered is stored -/
theorem Rd.fin {D : Nat → Prop} {w0 w w' : World} {I : (Nat → Prop) → World → Prop} (h : Rd D w I w') (k : Exc D w0.heap.size w0 w) {b : Nat} (hb : w0.heap.size ≤ b) (hb' : b < w.heap.size) (hn : ¬ D b) (x y : Value) : Rd D w0 I ((w'.setCell ⟨b, 0, none⟩ x).setCell ⟨b, 1, none⟩ y) :=
  ⟨(k.more h.1 fun _ hq => .inl hq).st hb x y, by
    obtain ⟨D', h1, h2⟩ := h.2
    exact ⟨D', h1.st (fun hq => (h2 _ hq).elim hn fun h3 => by omega) x y, fun q hq => (h2 q hq).imp_right fun h3 => Nat.le_trans k.size h3⟩⟩
theorem Rd.call {D : Nat → Prop} {w0 w w' : World} {I : (Nat → Prop) → World → Prop} (h : Rd D w0 I w) (hb : Below w.heap.size w w') : Rd D w0 I w' := Rd.clo _ _ _ _ _ h hb

end Go.Proofs.Ytiphahbeedeebaa

namespace Go.Proofs.Ytiphahbeedeebaa
open Go.RowKit Fm
set_option linter.unusedVariables false
set_option maxRecDepth 100000

/-- what is known of a circuit whose check says n -/
structure Raw.Said (x : Raw) (n : Int) : Prop where
  chk : ∀ w, Calls Try.prog 49 #[x.rval] w (RetC n w)
  own : ∀ w, Calls Try.prog 59 #[x.val] w (RetC n w)
  is : n = 0 → ∃ F y, x.Is F y
  k0 : 0 ≤ x.k
  k1 : x.k ≤ 255
  f0 : 0 ≤ x.f
  f1 : x.f ≤ 255

/-- a circuit in range, as six numbers -/
def CK.raw (y : CK) (F : Nat) : Raw := ⟨y.k, F, y.b, y.l, y.m, y.c⟩
theorem CK.raw_is {y : CK} {F : Nat} (hF : IsF F) (hy : y.ok) (hc : ¬ 511 < y.calls) : (y.raw F).Is F y := ⟨hF, hy, hc, rfl, rfl⟩
theorem CK.k_le (y : CK) : 1 ≤ y.k ∧ y.k ≤ 5 := by cases y <;> exact ⟨Nat.le_of_ble_eq_true rfl, Nat.le_of_ble_eq_true rfl⟩
theorem CK.raw_said {y : CK} {F : Nat} (hF : IsF F) (hy : y.ok) (hc : ¬ 511 < y.calls) : (y.raw F).Said 0 := by
  have hk := y.k_le
  have hf : F = 1 ∨ F = 2 := hF.or
  refine ⟨fun w => ?_, fun w => ?_, fun _ => ⟨F, y, CK.raw_is hF hy hc⟩, ?_, ?_, ?_, ?_⟩
  · have h := ref9_Check_ok hF y hy w
    rwa [CK.code_ok hc] at h
  · have h := circuit_Check_ok hF y hy w
    rwa [CK.code_ok hc] at h
  · show (0 : Int) ≤ ((y.k : Nat) : Int); omega
  · show ((y.k : Nat) : Int) ≤ 255; omega
  · show (0 : Int) ≤ ((F : Nat) : Int); omega
  · show ((F : Nat) : Int) ≤ 255; omega

end Go.Proofs.Ytiphahbeedeebaa

namespace Go.Proofs.Ytiphahbeedeebaa
open Go.RowKit Fm
set_option linter.unusedVariables false
set_option maxRecDepth 100000

/-- no element and an error come back -/
def RetNoE (n : Int) (w : World) (e : Ending) (w' : World) : Prop := e = .returned (.tuple #[.agg #[.int .u64 0, .int .u64 0], .int .i64 n]) ∧ Below w.heap.size w w'

set_option maxHeartbeats 2000000 in
theorem circuit_Run_no (x : Raw) (n : Int) (hn : n ≠ 0) (HC : ∀ wz, Calls Try.prog 59 #[x.val] wz (RetC n wz)) (vi vj vs vc : Value) (w : World) :
    Calls Try.prog 73 #[x.val, vi, vj, vs, vc] w (RetNoE n w) := by
  have HC := Lib.hid HC
  obtain ⟨xk, xf, xb, xl, xm, xc⟩ := x
  unfold Raw.val at HC ⊢
  dsimp only at HC ⊢
  have hn1 : (n == 0) = false := by simpa using hn
  have hn2 : (n != 0) = true := by simpa using hn
  clear hn
  go_enter Try.func73, Try.ntmps73
  go_upto_region 1 with fail
  have hx := (Vs.new w [.int .u8 xk, .int .u8 xf, .int .i64 xb, .int .i64 xl, .int .i64 xm, .int .i64 xc] #[.int .u8 xk, .int .u8 xf, .int .i64 xb, .int .i64 xl, .int .i64 xm, .int .i64 xc] 60 rfl).alloc (.cells #[.int .u64 0, .int .u64 0] 41)
  have s0 := V2.new (w.alloc (.cells #[.int .u8 xk, .int .u8 xf, .int .i64 xb, .int .i64 xl, .int .i64 xm, .int .i64 xc] 60)) (.int .u64 0) (.int .u64 0) 41
  simp only [World.size_alloc] at s0
  have hb00 : Below w.heap.size w ((w.alloc (.cells #[.int .u8 xk, .int .u8 xf, .int .i64 xb, .int .i64 xl, .int .i64 xm, .int .i64 xc] 60)).alloc (.cells #[.int .u64 0, .int .u64 0] 41)) := by repeat (first | exact Below.refl _ _ | with_reducible assumption | (refine bl_alloc ?_ (Nat.le_refl _) _))
  have hszn : w.heap.size + 2 ≤ ((w.alloc (.cells #[.int .u8 xk, .int .u8 xf, .int .i64 xb, .int .i64 xl, .int .i64 xm, .int .i64 xc] 60)).alloc (.cells #[.int .u64 0, .int .u64 0] 41)).heap.size := by simp only [World.size_alloc]; omega
  generalize ((w.alloc (.cells #[.int .u8 xk, .int .u8 xf, .int .i64 xb, .int .i64 xl, .int .i64 xm, .int .i64 xc] 60)).alloc (.cells #[.int .u64 0, .int .u64 0] 41)) = w1 at hx s0 hb00 hszn ⊢
  obtain ⟨⟨x0, x1, x2, x3, x4, x5⟩, ⟨x6, x7, x8, x9, x10, x11⟩, x12⟩ := hx.get6
  go_upto_region 3 with (first
    | (go_at_call 59; refine (HC.out _).mono ?_; rintro e w2 ⟨rfl, hb2⟩; replace hb00 := bl_call hb00 (Nat.le_refl _) hb2; replace hx := hx.call hb2; replace s0 := s0.call hb2; clear x0 x1 x2 x3 x4 x5 x6 x7 x8 x9 x10 x11 x12; clear hb2; obtain ⟨⟨x0, x1, x2, x3, x4, x5⟩, ⟨x6, x7, x8, x9, x10, x11⟩, x12⟩ := hx.get6))
  obtain ⟨s00, s01, s02, s03, s04⟩ := V2.mk s0.c0 s0.c1 s0.f0 s0.f1 s0.lt
  go_wp2_with fail
  refine bodyPost_ret (results_v2_tmp (b := w.heap.size + 1) (u := .int .u64 0) (v := .int .u64 0) ?_ rfl rfl) rfl ?_
  · first | exact V2.set s0 _ _ | exact s0
  · exact ⟨rfl, by repeat (first | exact Below.refl _ _ | with_reducible assumption | (refine bl_alloc ?_ (Nat.le_refl _) _) | (refine bl_set ?_ (by dsimp only; omega) _) | (refine Below.drew ?_) | (refine bl_drewN ?_ _) | (refine bl_call ?_ (Nat.le_refl _) (by assumption)))⟩

theorem equalIn_nil (d : Nat) (w : World) : (Op.equalIn (d + 1) 138 .nilFunc .nilFunc).run Try.prog w = .ok true w := by
  simp [Op.equalIn, Sem.run_bind, run_underlying Try.underlying138]
theorem equalIn_func (d : Nat) (fn : Fn) (first cap : Array Value) (w : World) : (Op.equalIn (d + 1) 138 (.func fn first cap) .nilFunc).run Try.prog w = .ok false w := by
  simp [Op.equalIn, Sem.run_bind, run_underlying Try.underlying138]

theorem eql_nil (w : World) : (binOp .eql 138 .nilFunc .nilFunc).run Try.prog w = .ok (.bool true) w := by
  have h := equalIn_nil 9999 w
  simp only [binOp, Op.equal, Sem.run_bind]
  rw [show Op.maxDepth = 9999 + 1 from rfl, h]
  rfl
theorem eql_func (fn : Fn) (first cap : Array Value) (w : World) : (binOp .eql 138 (.func fn first cap) .nilFunc).run Try.prog w = .ok (.bool false) w := by
  have h := equalIn_func 9999 fn first cap w
  simp only [binOp, Op.equal, Sem.run_bind]
  rw [show Op.maxDepth = 9999 + 1 from rfl, h]
  rfl

set_option maxHeartbeats 2000000 in
theorem circuit_Run_nil (x : Raw) (HC : ∀ wz, Calls Try.prog 59 #[x.val] wz (RetC 0 wz)) (vi vj vs : Value) (w : World) :
    Calls Try.prog 73 #[x.val, vi, vj, vs, .nilFunc] w (RetNoE 1 w) := by
  have HC := Lib.hid HC
  obtain ⟨xk, xf, xb, xl, xm, xc⟩ := x
  unfold Raw.val at HC ⊢
  dsimp only at HC ⊢
  have heq := eql_nil
  go_enter Try.func73, Try.ntmps73
  go_upto_region 1 with fail
  have hx := (Vs.new w [.int .u8 xk, .int .u8 xf, .int .i64 xb, .int .i64 xl, .int .i64 xm, .int .i64 xc] #[.int .u8 xk, .int .u8 xf, .int .i64 xb, .int .i64 xl, .int .i64 xm, .int .i64 xc] 60 rfl).alloc (.cells #[.int .u64 0, .int .u64 0] 41)
  have s0 := V2.new (w.alloc (.cells #[.int .u8 xk, .int .u8 xf, .int .i64 xb, .int .i64 xl, .int .i64 xm, .int .i64 xc] 60)) (.int .u64 0) (.int .u64 0) 41
  simp only [World.size_alloc] at s0
  have hb00 : Below w.heap.size w ((w.alloc (.cells #[.int .u8 xk, .int .u8 xf, .int .i64 xb, .int .i64 xl, .int .i64 xm, .int .i64 xc] 60)).alloc (.cells #[.int .u64 0, .int .u64 0] 41)) := by repeat (first | exact Below.refl _ _ | with_reducible assumption | (refine bl_alloc ?_ (Nat.le_refl _) _))
  have hszn : w.heap.size + 2 ≤ ((w.alloc (.cells #[.int .u8 xk, .int .u8 xf, .int .i64 xb, .int .i64 xl, .int .i64 xm, .int .i64 xc] 60)).alloc (.cells #[.int .u64 0, .int .u64 0] 41)).heap.size := by simp only [World.size_alloc]; omega
  generalize ((w.alloc (.cells #[.int .u8 xk, .int .u8 xf, .int .i64 xb, .int .i64 xl, .int .i64 xm, .int .i64 xc] 60)).alloc (.cells #[.int .u64 0, .int .u64 0] 41)) = w1 at hx s0 hb00 hszn ⊢
  obtain ⟨⟨x0, x1, x2, x3, x4, x5⟩, ⟨x6, x7, x8, x9, x10, x11⟩, x12⟩ := hx.get6
  go_upto_region 4 with (first
    | (go_at_call 59; refine (HC.out _).mono ?_; rintro e w2 ⟨rfl, hb2⟩; replace hb00 := bl_call hb00 (Nat.le_refl _) hb2; replace hx := hx.call hb2; replace s0 := s0.call hb2; clear x0 x1 x2 x3 x4 x5 x6 x7 x8 x9 x10 x11 x12; clear hb2; obtain ⟨⟨x0, x1, x2, x3, x4, x5⟩, ⟨x6, x7, x8, x9, x10, x11⟩, x12⟩ := hx.get6))
  obtain ⟨s00, s01, s02, s03, s04⟩ := V2.mk s0.c0 s0.c1 s0.f0 s0.f1 s0.lt
  go_wp2_with fail
  refine bodyPost_ret (results_v2_tmp (b := w.heap.size + 1) (u := .int .u64 0) (v := .int .u64 0) ?_ rfl rfl) rfl ?_
  · first | exact V2.set s0 _ _ | exact s0
  · exact ⟨rfl, by repeat (first | exact Below.refl _ _ | with_reducible assumption | (refine bl_alloc ?_ (Nat.le_refl _) _) | (refine bl_set ?_ (by dsimp only; omega) _) | (refine Below.drew ?_) | (refine bl_drewN ?_ _) | (refine bl_call ?_ (Nat.le_refl _) (by assumption)))⟩

set_option maxHeartbeats 2000000 in
theorem circuit_Run_size (K F B N M C : Int) (ni nj : Nat) (HC : Hid (∀ wz, Calls Try.prog 59 #[.agg #[.int .u8 K, .int .u8 F, .int .i64 B, .int .i64 N, .int .i64 M, .int .i64 C]] wz (RetC 0 wz)))
    (HI : Hid (∀ wz, Calls Try.prog 45 #[.agg #[.int .u8 K, .int .u8 F, .int .i64 B, .int .i64 N, .int .i64 M, .int .i64 C]] wz (RetI ni wz)))
    (HJ : Hid (∀ wz, Calls Try.prog 65 #[.agg #[.int .u8 K, .int .u8 F, .int .i64 B, .int .i64 N, .int .i64 M, .int .i64 C]] wz (RetI nj wz)))
    (A1 : Option Addr) (n1 c1 : Nat) (A2 : Option Addr) (n2 c2 : Nat) (vs : Value) (fn : Fn) (first cap : Array Value) (w : World) (hbad : ¬ n1 = ni ∨ ¬ n2 = nj) :
    Calls Try.prog 73 #[.agg #[.int .u8 K, .int .u8 F, .int .i64 B, .int .i64 N, .int .i64 M, .int .i64 C], .slice A1 n1 c1, .slice A2 n2 c2, vs, .func fn first cap] w (RetNoE 9 w) := by
  have heq := eql_func
  by_cases h1 : n1 = ni
  · subst h1
    have h2 : ¬ n2 = nj := by
      rcases hbad with h | h
      · exact absurd rfl h
      · exact h
    clear hbad
    go_enter Try.func73, Try.ntmps73
    go_upto_region 1 with fail
    have hx := (Vs.new w [.int .u8 K, .int .u8 F, .int .i64 B, .int .i64 N, .int .i64 M, .int .i64 C] #[.int .u8 K, .int .u8 F, .int .i64 B, .int .i64 N, .int .i64 M, .int .i64 C] 60 rfl).alloc (.cells #[.int .u64 0, .int .u64 0] 41)
    have s0 := V2.new (w.alloc (.cells #[.int .u8 K, .int .u8 F, .int .i64 B, .int .i64 N, .int .i64 M, .int .i64 C] 60)) (.int .u64 0) (.int .u64 0) 41
    simp only [World.size_alloc] at s0
    have hb00 : Below w.heap.size w ((w.alloc (.cells #[.int .u8 K, .int .u8 F, .int .i64 B, .int .i64 N, .int .i64 M, .int .i64 C] 60)).alloc (.cells #[.int .u64 0, .int .u64 0] 41)) := by repeat (first | exact Below.refl _ _ | with_reducible assumption | (refine bl_alloc ?_ (Nat.le_refl _) _))
    have hszn : w.heap.size + 2 ≤ ((w.alloc (.cells #[.int .u8 K, .int .u8 F, .int .i64 B, .int .i64 N, .int .i64 M, .int .i64 C] 60)).alloc (.cells #[.int .u64 0, .int .u64 0] 41)).heap.size := by simp only [World.size_alloc]; omega
    generalize ((w.alloc (.cells #[.int .u8 K, .int .u8 F, .int .i64 B, .int .i64 N, .int .i64 M, .int .i64 C] 60)).alloc (.cells #[.int .u64 0, .int .u64 0] 41)) = w1 at hx s0 hb00 hszn ⊢
    obtain ⟨⟨x0, x1, x2, x3, x4, x5⟩, ⟨x6, x7, x8, x9, x10, x11⟩, x12⟩ := hx.get6
    go_upto_region 7 with (first
      | (go_at_call 59; refine (HC.out _).mono ?_; rintro e w2 ⟨rfl, hb2⟩; replace hb00 := bl_call hb00 (Nat.le_refl _) hb2; replace hx := hx.call hb2; replace s0 := s0.call hb2; clear x0 x1 x2 x3 x4 x5 x6 x7 x8 x9 x10 x11 x12; clear hb2; obtain ⟨⟨x0, x1, x2, x3, x4, x5⟩, ⟨x6, x7, x8, x9, x10, x11⟩, x12⟩ := hx.get6)
      | (go_at_call 45; refine (HI.out _).mono ?_; rintro e w3 ⟨rfl, hb3⟩; replace hb00 := bl_call hb00 (Nat.le_refl _) hb3; replace hx := hx.call hb3; replace s0 := s0.call hb3; clear x0 x1 x2 x3 x4 x5 x6 x7 x8 x9 x10 x11 x12; clear hb3; obtain ⟨⟨x0, x1, x2, x3, x4, x5⟩, ⟨x6, x7, x8, x9, x10, x11⟩, x12⟩ := hx.get6)
      | (go_at_call 65; refine (HJ.out _).mono ?_; rintro e w4 ⟨rfl, hb4⟩; replace hb00 := bl_call hb00 (Nat.le_refl _) hb4; replace hx := hx.call hb4; replace s0 := s0.call hb4; clear x0 x1 x2 x3 x4 x5 x6 x7 x8 x9 x10 x11 x12; clear hb4; obtain ⟨⟨x0, x1, x2, x3, x4, x5⟩, ⟨x6, x7, x8, x9, x10, x11⟩, x12⟩ := hx.get6))
    obtain ⟨s00, s01, s02, s03, s04⟩ := V2.mk s0.c0 s0.c1 s0.f0 s0.f1 s0.lt
    go_wp2_with fail
    refine bodyPost_ret (results_v2_tmp (b := w.heap.size + 1) (u := .int .u64 0) (v := .int .u64 0) ?_ rfl rfl) rfl ?_
    · first | exact V2.set s0 _ _ | exact s0
    · exact ⟨rfl, by repeat (first | exact Below.refl _ _ | with_reducible assumption | (refine bl_alloc ?_ (Nat.le_refl _) _) | (refine bl_set ?_ (by dsimp only; omega) _) | (refine Below.drew ?_) | (refine bl_drewN ?_ _) | (refine bl_call ?_ (Nat.le_refl _) (by assumption)))⟩
  · clear hbad
    go_enter Try.func73, Try.ntmps73
    go_upto_region 1 with fail
    have hx := (Vs.new w [.int .u8 K, .int .u8 F, .int .i64 B, .int .i64 N, .int .i64 M, .int .i64 C] #[.int .u8 K, .int .u8 F, .int .i64 B, .int .i64 N, .int .i64 M, .int .i64 C] 60 rfl).alloc (.cells #[.int .u64 0, .int .u64 0] 41)
    have s0 := V2.new (w.alloc (.cells #[.int .u8 K, .int .u8 F, .int .i64 B, .int .i64 N, .int .i64 M, .int .i64 C] 60)) (.int .u64 0) (.int .u64 0) 41
    simp only [World.size_alloc] at s0
    have hb00 : Below w.heap.size w ((w.alloc (.cells #[.int .u8 K, .int .u8 F, .int .i64 B, .int .i64 N, .int .i64 M, .int .i64 C] 60)).alloc (.cells #[.int .u64 0, .int .u64 0] 41)) := by repeat (first | exact Below.refl _ _ | with_reducible assumption | (refine bl_alloc ?_ (Nat.le_refl _) _))
    have hszn : w.heap.size + 2 ≤ ((w.alloc (.cells #[.int .u8 K, .int .u8 F, .int .i64 B, .int .i64 N, .int .i64 M, .int .i64 C] 60)).alloc (.cells #[.int .u64 0, .int .u64 0] 41)).heap.size := by simp only [World.size_alloc]; omega
    generalize ((w.alloc (.cells #[.int .u8 K, .int .u8 F, .int .i64 B, .int .i64 N, .int .i64 M, .int .i64 C] 60)).alloc (.cells #[.int .u64 0, .int .u64 0] 41)) = w1 at hx s0 hb00 hszn ⊢
    obtain ⟨⟨x0, x1, x2, x3, x4, x5⟩, ⟨x6, x7, x8, x9, x10, x11⟩, x12⟩ := hx.get6
    go_upto_region 7 with (first
      | (go_at_call 59; refine (HC.out _).mono ?_; rintro e w2 ⟨rfl, hb2⟩; replace hb00 := bl_call hb00 (Nat.le_refl _) hb2; replace hx := hx.call hb2; replace s0 := s0.call hb2; clear x0 x1 x2 x3 x4 x5 x6 x7 x8 x9 x10 x11 x12; clear hb2; obtain ⟨⟨x0, x1, x2, x3, x4, x5⟩, ⟨x6, x7, x8, x9, x10, x11⟩, x12⟩ := hx.get6)
      | (go_at_call 45; refine (HI.out _).mono ?_; rintro e w3 ⟨rfl, hb3⟩; replace hb00 := bl_call hb00 (Nat.le_refl _) hb3; replace hx := hx.call hb3; replace s0 := s0.call hb3; clear x0 x1 x2 x3 x4 x5 x6 x7 x8 x9 x10 x11 x12; clear hb3; obtain ⟨⟨x0, x1, x2, x3, x4, x5⟩, ⟨x6, x7, x8, x9, x10, x11⟩, x12⟩ := hx.get6)
      | (go_at_call 65; refine (HJ.out _).mono ?_; rintro e w4 ⟨rfl, hb4⟩; replace hb00 := bl_call hb00 (Nat.le_refl _) hb4; replace hx := hx.call hb4; replace s0 := s0.call hb4; clear x0 x1 x2 x3 x4 x5 x6 x7 x8 x9 x10 x11 x12; clear hb4; obtain ⟨⟨x0, x1, x2, x3, x4, x5⟩, ⟨x6, x7, x8, x9, x10, x11⟩, x12⟩ := hx.get6))
    obtain ⟨s00, s01, s02, s03, s04⟩ := V2.mk s0.c0 s0.c1 s0.f0 s0.f1 s0.lt
    go_wp2_with fail
    refine bodyPost_ret (results_v2_tmp (b := w.heap.size + 1) (u := .int .u64 0) (v := .int .u64 0) ?_ rfl rfl) rfl ?_
    · first | exact V2.set s0 _ _ | exact s0
    · exact ⟨rfl, by repeat (first | exact Below.refl _ _ | with_reducible assumption | (refine bl_alloc ?_ (Nat.le_refl _) _) | (refine bl_set ?_ (by dsimp only; omega) _) | (refine Below.drew ?_) | (refine bl_drewN ?_ _) | (refine bl_call ?_ (Nat.le_refl _) (by assumption)))⟩

set_option maxHeartbeats 2000000 in
theorem circuit_Run_zero {f : Nat} (hf : IsF f) (K B N M C : Int) (ni nj : Nat) (HC : Hid (∀ wz, Calls Try.prog 59 #[.agg #[.int .u8 K, .int .u8 f, .int .i64 B, .int .i64 N, .int .i64 M, .int .i64 C]] wz (RetC 0 wz)))
    (HI : Hid (∀ wz, Calls Try.prog 45 #[.agg #[.int .u8 K, .int .u8 f, .int .i64 B, .int .i64 N, .int .i64 M, .int .i64 C]] wz (RetI ni wz)))
    (HJ : Hid (∀ wz, Calls Try.prog 65 #[.agg #[.int .u8 K, .int .u8 f, .int .i64 B, .int .i64 N, .int .i64 M, .int .i64 C]] wz (RetI nj wz)))
    (A1 : Option Addr) (c1 : Nat) (A2 : Option Addr) (c2 : Nat) (sh : Int) (hsh : sh ≤ 0) (fn : Fn) (first cap : Array Value) (w : World) :
    Calls Try.prog 73 #[.agg #[.int .u8 K, .int .u8 f, .int .i64 B, .int .i64 N, .int .i64 M, .int .i64 C], .slice A1 ni c1, .slice A2 nj c2, .int .i64 sh, .func fn first cap] w (RetNoE 8 w) := by
  have heq := eql_func
  have HO : Hid (∀ wz, Calls Try.prog 96 #[.int .u8 f, .int .u64 0] wz fun e w' => e = .returned (.agg #[.int .u64 0, .int .u64 0]) ∧ Below wz.heap.size wz w') := fun wz => by
    have h := field_Of hf 0 wz (by omega) (by omega)
    rw [kL_zero] at h
    refine h.mono ?_
    rintro e w' ⟨rfl, hb⟩
    exact ⟨by rw [vK_zero], hb⟩
  have HV : Hid (∀ wz, Calls Try.prog 110 #[.int .u8 f, .agg #[.int .u64 0, .int .u64 0]] wz fun e w' => e = .returned (.tuple #[.agg #[.int .u64 0, .int .u64 0], .int .i64 8]) ∧ Below wz.heap.size wz w') := fun wz => by
    have h := field_Inv hf 0 wz
    rw [vK_zero] at h
    refine h.mono ?_
    rintro e w' (⟨_, rfl, hb⟩ | ⟨h9, _⟩)
    · exact ⟨rfl, hb⟩
    · exact absurd rfl h9
  have hmx : max sh 0 = 0 := by omega
  go_enter Try.func73, Try.ntmps73
  go_upto_region 1 with fail
  have hx := (Vs.new w [.int .u8 K, .int .u8 f, .int .i64 B, .int .i64 N, .int .i64 M, .int .i64 C] #[.int .u8 K, .int .u8 f, .int .i64 B, .int .i64 N, .int .i64 M, .int .i64 C] 60 rfl).alloc (.cells #[.int .u64 0, .int .u64 0] 41)
  have s0 := V2.new (w.alloc (.cells #[.int .u8 K, .int .u8 f, .int .i64 B, .int .i64 N, .int .i64 M, .int .i64 C] 60)) (.int .u64 0) (.int .u64 0) 41
  simp only [World.size_alloc] at s0
  have hb00 : Below w.heap.size w ((w.alloc (.cells #[.int .u8 K, .int .u8 f, .int .i64 B, .int .i64 N, .int .i64 M, .int .i64 C] 60)).alloc (.cells #[.int .u64 0, .int .u64 0] 41)) := by repeat (first | exact Below.refl _ _ | with_reducible assumption | (refine bl_alloc ?_ (Nat.le_refl _) _))
  have hszn : w.heap.size + 2 ≤ ((w.alloc (.cells #[.int .u8 K, .int .u8 f, .int .i64 B, .int .i64 N, .int .i64 M, .int .i64 C] 60)).alloc (.cells #[.int .u64 0, .int .u64 0] 41)).heap.size := by simp only [World.size_alloc]; omega
  generalize ((w.alloc (.cells #[.int .u8 K, .int .u8 f, .int .i64 B, .int .i64 N, .int .i64 M, .int .i64 C] 60)).alloc (.cells #[.int .u64 0, .int .u64 0] 41)) = w1 at hx s0 hb00 hszn ⊢
  obtain ⟨⟨x0, x1, x2, x3, x4, x5⟩, ⟨x6, x7, x8, x9, x10, x11⟩, x12⟩ := hx.get6
  go_upto_region 9 with (first
    | (go_at_call 59; refine (HC.out _).mono ?_; rintro e w2 ⟨rfl, hb2⟩; replace hb00 := bl_call hb00 (Nat.le_refl _) hb2; replace hx := hx.call hb2; replace s0 := s0.call hb2; clear x0 x1 x2 x3 x4 x5 x6 x7 x8 x9 x10 x11 x12; clear hb2; obtain ⟨⟨x0, x1, x2, x3, x4, x5⟩, ⟨x6, x7, x8, x9, x10, x11⟩, x12⟩ := hx.get6)
    | (go_at_call 45; refine (HI.out _).mono ?_; rintro e w3 ⟨rfl, hb3⟩; replace hb00 := bl_call hb00 (Nat.le_refl _) hb3; replace hx := hx.call hb3; replace s0 := s0.call hb3; clear x0 x1 x2 x3 x4 x5 x6 x7 x8 x9 x10 x11 x12; clear hb3; obtain ⟨⟨x0, x1, x2, x3, x4, x5⟩, ⟨x6, x7, x8, x9, x10, x11⟩, x12⟩ := hx.get6)
    | (go_at_call 65; refine (HJ.out _).mono ?_; rintro e w4 ⟨rfl, hb4⟩; replace hb00 := bl_call hb00 (Nat.le_refl _) hb4; replace hx := hx.call hb4; replace s0 := s0.call hb4; clear x0 x1 x2 x3 x4 x5 x6 x7 x8 x9 x10 x11 x12; clear hb4; obtain ⟨⟨x0, x1, x2, x3, x4, x5⟩, ⟨x6, x7, x8, x9, x10, x11⟩, x12⟩ := hx.get6))
  go_upto_region 11 with (first
    | (go_at_call 96; refine (HO.out _).mono ?_; rintro e w5 ⟨rfl, hb5⟩; replace hb00 := bl_call hb00 (Nat.le_refl _) hb5; replace hx := hx.call hb5; replace s0 := s0.call hb5; clear x0 x1 x2 x3 x4 x5 x6 x7 x8 x9 x10 x11 x12; clear hb5; obtain ⟨⟨x0, x1, x2, x3, x4, x5⟩, ⟨x6, x7, x8, x9, x10, x11⟩, x12⟩ := hx.get6)
    | (go_at_call 110; refine (HV.out _).mono ?_; rintro e w6 ⟨rfl, hb6⟩; replace hb00 := bl_call hb00 (Nat.le_refl _) hb6; replace hx := hx.call hb6; replace s0 := s0.call hb6; clear x0 x1 x2 x3 x4 x5 x6 x7 x8 x9 x10 x11 x12; clear hb6; obtain ⟨⟨x0, x1, x2, x3, x4, x5⟩, ⟨x6, x7, x8, x9, x10, x11⟩, x12⟩ := hx.get6))
  clear x0 x1 x2 x3 x4 x5 x6 x7 x8 x9 x10 x11 x12
  have v0 := V2.new w6 (.int .u64 0) (.int .u64 0) 41
  have hbA : Below w6.heap.size w6 (w6.alloc (.cells #[.int .u64 0, .int .u64 0] 41)) := by repeat (first | exact Below.refl _ _ | with_reducible assumption | (refine bl_alloc ?_ (Nat.le_refl _) _))
  replace hb00 := bl_call hb00 (Nat.le_refl _) hbA
  replace hx := hx.call hbA
  replace s0 := s0.call hbA
  clear hbA
  generalize w6.alloc (.cells #[.int .u64 0, .int .u64 0] 41) = w7 at hb00 hx s0 v0 ⊢
  obtain ⟨s00, s01, s02, s03, s04⟩ := V2.mk s0.c0 s0.c1 s0.f0 s0.f1 s0.lt
  go_wp2_with fail
  refine bodyPost_ret (results_v2_tmp (b := w.heap.size + 1) (u := .int .u64 0) (v := .int .u64 0) ?_ rfl rfl) rfl ?_
  · first | exact V2.set s0 _ _ | exact s0
  · exact ⟨rfl, by repeat (first | exact Below.refl _ _ | with_reducible assumption | (refine bl_alloc ?_ (Nat.le_refl _) _) | (refine bl_set ?_ (by dsimp only; omega) _) | (refine Below.drew ?_) | (refine bl_drewN ?_ _) | (refine bl_call ?_ (Nat.le_refl _) (by assumption)))⟩

end Go.Proofs.Ytiphahbeedeebaa

namespace Go.Proofs.Ytiphahbeedeebaa
open Go.RowKit Fm
set_option linter.unusedVariables false
set_option maxRecDepth 100000

section
variable {f : Nat} (hf : IsF f)
include hf

set_option maxHeartbeats 4000000 in
theorem circuit_bits (K B N M C : Int) (q : Nat) (hq : q ≤ 1024) (v j : KL f) (part r : Fin (Pm f)) (hr : j.getD 0 0 = r) (g : Nat) (cap : Array Value) (D : Nat → Prop) (Inv : Nat → (Nat → Prop) → World → Prop) (ans : Nat → Fin (Pm f)) (cd : Int)
    (HA : Asked (.sum q) v j part g cap Inv ans cd) (hq1 : 1 ≤ q) (hl : v.length = q) (vl : Value) (w : World) (hin : SlX D w vl v) (hinv : St (Inv 0) D w) :
    Calls Try.prog 111 #[.agg #[.int .u8 K, .int .u8 f, .int .i64 B, .int .i64 N, .int .i64 M, .int .i64 C], vl, vK r, .func (.func g) #[] cap] w (RetRun (bitsF ans r q) q cd Inv D w) := by
  have HENT := HA.ent
  have HCALL : Hid (∀ k T wz b x, k < q → v[k]? = some x → St (Inv k) T wz → b < wz.heap.size → ¬ T b → RowE wz b 0 [eK x] → Calls Try.prog g (#[.slice (some ⟨b, 0, none⟩) 1 1] ++ cap) wz fun e w' => e = .returned (.tuple #[vK (ans k), .int .i64 cd]) ∧ ∃ T', St (Inv (k + 1)) T' w' ∧ (∀ q, T' q → T q ∨ wz.heap.size ≤ q) ∧ Exc T wz.heap.size wz w') := by
    intro k T wz b x hk hx hi hb hn hrow
    refine HA.run k T wz _ hk hi (SlX.of ?_ (by omega) (by omega) hb hn ?_)
    · rfl
    · show RowE wz b 0 (esK [v.getD k 0])
      rw [getD_of hx]
      exact hrow
  have HLEN := Lib.hid hl
  have HADD := Lib.hid (fun (x y : Fin (Pm f)) wz => field_AddK hf x y wz)
  have HMUL := Lib.hid (fun (x y : Fin (Pm f)) wz => field_MulK hf x y wz)
  have hfb0 : (1 : Int) ≤ (f : Int) := by rcases hf.or with rfl | rfl <;> omega
  have hfb1 : (f : Int) ≤ 2 := by rcases hf.or with rfl | rfl <;> omega
  have hin2 := hin
  obtain ⟨A, cc, rfl, hc, hcm, hA⟩ := hin
  have HIN := Lib.hid hin2
  clear hin2 hA hc hcm hl hr HA
  rw [show v.length = q from HLEN.out]
  rw [show v.length = q from HLEN.out] at HIN
  have hexc : Exc D w.heap.size w w := exc_of (Below.refl _ _)
  have hlt0 := hinv.lt
  go_enter Try.func111, Try.ntmps111
  go_upto_region 1 with fail
  have hx := ((Vs.new w [.int .u8 K, .int .u8 f, .int .i64 B, .int .i64 N, .int .i64 M, .int .i64 C] #[.int .u8 K, .int .u8 f, .int .i64 B, .int .i64 N, .int .i64 M, .int .i64 C] 60 rfl).alloc (.cells #[.int .u64 (lo r), .int .u64 (hi r)] 41)).alloc (.cells #[.int .u64 0, .int .u64 0] 41)
  have hr := (V2.new (w.alloc (.cells #[.int .u8 K, .int .u8 f, .int .i64 B, .int .i64 N, .int .i64 M, .int .i64 C] 60)) (.int .u64 (lo r)) (.int .u64 (hi r)) 41).alloc (.cells #[.int .u64 0, .int .u64 0] 41)
  have s0 := V2.new ((w.alloc (.cells #[.int .u8 K, .int .u8 f, .int .i64 B, .int .i64 N, .int .i64 M, .int .i64 C] 60)).alloc (.cells #[.int .u64 (lo r), .int .u64 (hi r)] 41)) (.int .u64 0) (.int .u64 0) 41
  simp only [World.size_alloc] at hr s0
  have hb00 : Below w.heap.size w (((w.alloc (.cells #[.int .u8 K, .int .u8 f, .int .i64 B, .int .i64 N, .int .i64 M, .int .i64 C] 60)).alloc (.cells #[.int .u64 (lo r), .int .u64 (hi r)] 41)).alloc (.cells #[.int .u64 0, .int .u64 0] 41)) := by repeat (first | exact Below.refl _ _ | with_reducible assumption | (refine bl_alloc ?_ (Nat.le_refl _) _))
  have hszn : w.heap.size + 3 ≤ (((w.alloc (.cells #[.int .u8 K, .int .u8 f, .int .i64 B, .int .i64 N, .int .i64 M, .int .i64 C] 60)).alloc (.cells #[.int .u64 (lo r), .int .u64 (hi r)] 41)).alloc (.cells #[.int .u64 0, .int .u64 0] 41)).heap.size := by simp only [World.size_alloc]; omega
  generalize (((w.alloc (.cells #[.int .u8 K, .int .u8 f, .int .i64 B, .int .i64 N, .int .i64 M, .int .i64 C] 60)).alloc (.cells #[.int .u64 (lo r), .int .u64 (hi r)] 41)).alloc (.cells #[.int .u64 0, .int .u64 0] 41)) = w1 at hx hr s0 hb00 hszn ⊢
  replace hinv := hinv.call hb00
  replace hexc := hexc.call hb00
  obtain ⟨⟨x0, x1, x2, x3, x4, x5⟩, ⟨x6, x7, x8, x9, x10, x11⟩, x12⟩ := hx.get6
  go_upto_region 3 with fail
  clear x0 x1 x2 x3 x4 x5 x6 x7 x8 x9 x10 x11 x12
  have hszm : w.heap.size + 3 ≤ w1.heap.size := hszn
  have hout := V2.new w1 (.int .u64 0) (.int .u64 0) 41
  have hbA : Below w1.heap.size w1 (w1.alloc (.cells #[.int .u64 0, .int .u64 0] 41)) := by repeat (first | exact Below.refl _ _ | with_reducible assumption | (refine bl_alloc ?_ (Nat.le_refl _) _))
  replace hexc := hexc.call hbA
  replace hx := hx.call hbA
  replace hr := hr.call hbA
  replace s0 := s0.call hbA
  replace hinv := hinv.call hbA
  clear hbA
  generalize w1.alloc (.cells #[.int .u64 0, .int .u64 0] 41) = w2 at hexc hx hr s0 hinv hout ⊢
  obtain ⟨r0, r1, r2, r3, r4⟩ := V2.mk hr.c0 hr.c1 hr.f0 hr.f1 hr.lt
  go_upto_region 4 with fail
  clear r0 r1 r2 r3 r4
  have hszo : w1.heap.size < w2.heap.size := hout.lt
  have hpw := V2.new w2 (.int .u64 (lo r)) (.int .u64 (hi r)) 41
  have hbA : Below w2.heap.size w2 (w2.alloc (.cells #[.int .u64 (lo r), .int .u64 (hi r)] 41)) := by repeat (first | exact Below.refl _ _ | with_reducible assumption | (refine bl_alloc ?_ (Nat.le_refl _) _))
  replace hexc := hexc.call hbA
  replace hx := hx.call hbA
  replace hr := hr.call hbA
  replace s0 := s0.call hbA
  replace hinv := hinv.call hbA
  replace hout := hout.call hbA
  clear hbA
  generalize w2.alloc (.cells #[.int .u64 (lo r), .int .u64 (hi r)] 41) = w3 at hexc hx hr s0 hinv hout hpw ⊢
  have hbo : w.heap.size + 3 ≤ w1.heap.size := hszm
  obtain ⟨bo, hbo2⟩ : ∃ bo, w1.heap.size = bo := ⟨_, rfl⟩
  obtain ⟨bp, hbp2⟩ : ∃ bp, w2.heap.size = bp := ⟨_, rfl⟩
  rw [hbo2] at hout hszo hbo
  rw [hbp2] at hpw hszo
  simp only [hbo2, hbp2]
  clear hbo2 hbp2 hszm hszn hb00
  go_wp2_with fail
  go_loopw [22] (fun i wr => ∃ (k : Nat) (T : Nat → Prop), k ≤ q ∧ i = .int .i64 k ∧ (k = 0 ∨ cd = 0) ∧ V2 wr (w.heap.size + 1) (.int .u64 (lo r)) (.int .u64 (hi r)) ∧ V2 wr (w.heap.size + 2) (.int .u64 0) (.int .u64 0) ∧
      V2 wr bo (.int .u64 (lo (bitsF ans r k))) (.int .u64 (hi (bitsF ans r k))) ∧ V2 wr bp (.int .u64 (lo (kpw r (k + 1)))) (.int .u64 (hi (kpw r (k + 1)))) ∧ St (Inv k) T wr ∧ Hid (∀ b, T b → D b ∨ w.heap.size ≤ b) ∧ (¬ T (w.heap.size + 1) ∧ ¬ T (w.heap.size + 2) ∧ ¬ T bo ∧ ¬ T bp) ∧ Exc D w.heap.size w wr) (fun i _ => q - (intOf i).toNat)
  case atStart =>
    refine ⟨0, D, Nat.zero_le _, rfl, .inl rfl, hr, s0, ?_, ?_, hinv, fun b h => .inl h, ⟨fun h => ?_, fun h => ?_, fun h => ?_, fun h => ?_⟩, hexc⟩
    · rw [bitsF_zero, lo_zero, hi_zero]
      exact hout
    · rw [show kpw r (0 + 1) = r by show 1 * r = r; grind]
      exact hpw
    all_goals have := hlt0 _ h; omega
  case round =>
    clear hx hr s0 hout hpw hinv hexc
    obtain ⟨k, T, hk, rfl, hk0, hr, s0, hout, hpw, hinv, hTD, ⟨n1, n2, no, np⟩, hexc⟩ := hrel
    have hsz := hexc.size
    by_cases hlt : k < q
    rotate_left
    · obtain rfl : k = q := by omega
      have hcd : cd = 0 := by omega
      obtain ⟨out0, out1, out2, out3, out4⟩ := V2.mk hout.c0 hout.c1 hout.f0 hout.f1 hout.lt
      obtain ⟨s00, s01, s02, s03, s04⟩ := V2.mk s0.c0 s0.c1 s0.f0 s0.f1 s0.lt
      go_wp2_with fail
      refine bodyPost_ret (results_v2_tmp (b := w.heap.size + 2) (u := .int .u64 (lo (bitsF ans r k))) (v := .int .u64 (hi (bitsF ans r k))) ?_ rfl rfl) rfl ?_
      · exact V2.set s0 _ _
      · exact ⟨.inl ⟨hcd, rfl, T, hinv.st n2 _ _, hTD.out⟩, hexc.st (by omega) _ _⟩
    obtain ⟨x, he⟩ : ∃ e, v[k]? = some e := ⟨_, List.getElem?_eq_getElem (by rw [HLEN.out]; exact hlt)⟩
    obtain ⟨b, o, rfl, hbl, d0, d1⟩ := (HIN.out.exc hexc).at he
    have HX := Lib.hid he
    clear he
    go_upto_region 7 with fail
    have hx := V2.new wr (.int .u64 (lo x)) (.int .u64 (hi x)) 41
    have hbA : Below wr.heap.size wr (wr.alloc (.cells #[.int .u64 (lo x), .int .u64 (hi x)] 41)) := by repeat (first | exact Below.refl _ _ | with_reducible assumption | (refine bl_alloc ?_ (Nat.le_refl _) _))
    replace hexc := hexc.call hbA
    replace hr := hr.call hbA
    replace s0 := s0.call hbA
    replace hout := hout.call hbA
    replace hpw := hpw.call hbA
    replace hinv := hinv.call hbA
    clear hbA
    generalize wr.alloc (.cells #[.int .u64 (lo x), .int .u64 (hi x)] 41) = w4 at hexc hr s0 hout hpw hinv hx ⊢
    clear d0 d1
    have hbA : Below w4.heap.size w4 (w4.alloc (.cells #[.int .u64 (lo x), .int .u64 (hi x)] 41)) := by repeat (first | exact Below.refl _ _ | with_reducible assumption | (refine bl_alloc ?_ (Nat.le_refl _) _) | (refine bl_set ?_ (by dsimp only; omega) _) | (refine Below.drew ?_) | (refine bl_drewN ?_ _) | (refine bl_call ?_ (Nat.le_refl _) (by assumption)))
    have hrow : RowE (w4.alloc (.cells #[.int .u64 (lo x), .int .u64 (hi x)] 41)) w4.heap.size 0 [eK x] := (BlkE.new w4 [eK x] _ rfl).rowE
    have hlt5 : w4.heap.size < (w4.alloc (.cells #[.int .u64 (lo x), .int .u64 (hi x)] 41)).heap.size := by simp
    have hsz4 := hexc.size
    have hn4 : ¬ T w4.heap.size := fun hs => by have := hinv.lt _ hs; omega
    obtain ⟨x0, x1, x2, x3, x4⟩ := V2.mk hx.c0 hx.c1 hx.f0 hx.f1 hx.lt
    go_wp2_with fail
    clear x0 x1 x2 x3 x4
    replace hexc := hexc.call hbA
    replace hr := hr.call hbA
    replace s0 := s0.call hbA
    replace hout := hout.call hbA
    replace hpw := hpw.call hbA
    replace hinv := hinv.call hbA
    replace hx := hx.call hbA
    clear hbA
    generalize w4.alloc (.cells #[.int .u64 (lo x), .int .u64 (hi x)] 41) = w5 at *
    refine (HCALL.out k T _ _ x hlt HX.out hinv hlt5 hn4 hrow).mono ?_
    rintro e w6 ⟨rfl, T', hinv6, hT6, hex6⟩
    replace hinv := hinv6
    obtain ⟨hr, n1⟩ := hr.ask n1 hex6 hT6
    obtain ⟨s0, n2⟩ := s0.ask n2 hex6 hT6
    obtain ⟨hout, no⟩ := hout.ask no hex6 hT6
    obtain ⟨hpw, np⟩ := hpw.ask np hex6 hT6
    have hTD2 : Hid (∀ b, T' b → D b ∨ w.heap.size ≤ b) := fun b h => (hT6 b h).elim (hTD.out b) fun h2 => .inr (by have := hexc.size; omega)
    replace hexc := hexc.more hex6 hTD.out
    clear hex6 hinv6 hT6 hrow hlt5 hn4 hx HCALL hTD
    go_upto_region 8 with fail
    have hy := V2.new w6 (.int .u64 (lo (ans k))) (.int .u64 (hi (ans k))) 41
    have hbA : Below w6.heap.size w6 (w6.alloc (.cells #[.int .u64 (lo (ans k)), .int .u64 (hi (ans k))] 41)) := by repeat (first | exact Below.refl _ _ | with_reducible assumption | (refine bl_alloc ?_ (Nat.le_refl _) _))
    replace hexc := hexc.call hbA
    replace hr := hr.call hbA
    replace s0 := s0.call hbA
    replace hout := hout.call hbA
    replace hpw := hpw.call hbA
    replace hinv := hinv.call hbA
    clear hbA
    generalize w6.alloc (.cells #[.int .u64 (lo (ans k)), .int .u64 (hi (ans k))] 41) = w7 at hexc hr s0 hout hpw hinv hy ⊢
    by_cases hcd : cd = 0
    · subst hcd
      go_upto_region 10 with fail
      obtain ⟨out0, out1, out2, out3, out4⟩ := V2.mk hout.c0 hout.c1 hout.f0 hout.f1 hout.lt
      obtain ⟨pw0, pw1, pw2, pw3, pw4⟩ := V2.mk hpw.c0 hpw.c1 hpw.f0 hpw.f1 hpw.lt
      obtain ⟨y0, y1, y2, y3, y4⟩ := V2.mk hy.c0 hy.c1 hy.f0 hy.f1 hy.lt
      obtain ⟨r0, r1, r2, r3, r4⟩ := V2.mk hr.c0 hr.c1 hr.f0 hr.f1 hr.lt
      refine region_B (n := 11) (m := 13) (f := 11) (by kernel_rfl) (by kernel_rfl) rfl ?_
      refine WpH.takeD 0 (some 37) (v := ?_) rfl rfl (by kernel_rfl) (fun _ _ _ h => h) (.val rfl (fun wz hwz => ?_)) ?_
      rotate_left
      · go_simp; try (with_reducible rfl)
      (simp only [Act.put]); (try simp only [List.setIfInBounds_toArray]); (try simp only [List.set_cons_succ]); (try simp only [List.set_cons_zero])
      refine WpH.takeD 1 (some 38) (v := ?_) rfl rfl (by kernel_rfl) (fun _ _ _ h => h) (.val rfl (fun wz hwz => ?_)) ?_
      rotate_left
      · (obtain ⟨hcz, hfz⟩ := bcell hwz; go_simp; try (with_reducible rfl))
      (simp only [Act.put]); (try simp only [List.setIfInBounds_toArray]); (try simp only [List.set_cons_succ]); (try simp only [List.set_cons_zero])
      refine WpH.takeD 2 (some 39) (v := ?_) rfl rfl (by kernel_rfl) (fun _ _ _ h => h) (.val rfl (fun wz hwz => ?_)) ?_
      rotate_left
      · go_simp; try (with_reducible rfl)
      (simp only [Act.put]); (try simp only [List.setIfInBounds_toArray]); (try simp only [List.set_cons_succ]); (try simp only [List.set_cons_zero])
      refine WpH.takeD 3 (some 40) (v := ?_) rfl rfl (by kernel_rfl) (fun _ _ _ h => h) (.val rfl (fun wz hwz => ?_)) ?_
      rotate_left
      · (obtain ⟨hcz, hfz⟩ := bcell hwz; go_simp; try (with_reducible rfl))
      (simp only [Act.put]); (try simp only [List.setIfInBounds_toArray]); (try simp only [List.set_cons_succ]); (try simp only [List.set_cons_zero])
      refine WpH.takeD 4 (some 41) (v := ?_) rfl rfl (by kernel_rfl) (fun _ _ _ h => h) (.val rfl (fun wz hwz => ?_)) ?_
      rotate_left
      · (obtain ⟨hcz, hfz⟩ := bcell hwz; go_simp; try (with_reducible rfl))
      (simp only [Act.put]); (try simp only [List.setIfInBounds_toArray]); (try simp only [List.set_cons_succ]); (try simp only [List.set_cons_zero])
      refine WpH.takeD 5 (some 42) rfl rfl (by kernel_rfl) (fun _ _ _ h => h) (.call rfl (fun wz hwz => HMUL.out (kpw r (k + 1)) (ans k) wz) (fun wz hwz => ?_)) ?_
      · go_simp; try (with_reducible rfl)
      (simp only [Act.put]); (try simp only [List.setIfInBounds_toArray]); (try simp only [List.set_cons_succ]); (try simp only [List.set_cons_zero])
      refine WpH.takeD 6 (some 43) rfl rfl (by kernel_rfl) (fun _ _ _ h => h) (.call rfl (fun wz hwz => HADD.out (bitsF ans r k) (kpw r (k + 1) * ans k) wz) (fun wz hwz => ?_)) ?_
      · go_simp; try (with_reducible rfl)
      (simp only [Act.put]); (try simp only [List.setIfInBounds_toArray]); (try simp only [List.set_cons_succ]); (try simp only [List.set_cons_zero])
      refine WpH.takeD 7 (some 44) (v := ?_) rfl rfl (by kernel_rfl) (fun _ _ _ h => h) (.val rfl (fun wz hwz => ?_)) ?_
      rotate_left
      · go_simp; try (with_reducible rfl)
      (simp only [Act.put]); (try simp only [List.setIfInBounds_toArray]); (try simp only [List.set_cons_succ]); (try simp only [List.set_cons_zero])
      refine WpH.takeD 8 (some 45) (v := ?_) rfl rfl (by kernel_rfl) (fun _ _ _ h => h) (.val rfl (fun wz hwz => ?_)) ?_
      rotate_left
      · (obtain ⟨hcz, hfz⟩ := bcell hwz; go_simp; try (with_reducible rfl))
      (simp only [Act.put]); (try simp only [List.setIfInBounds_toArray]); (try simp only [List.set_cons_succ]); (try simp only [List.set_cons_zero])
      refine WpH.takeD 9 (some 46) (v := ?_) rfl rfl (by kernel_rfl) (fun _ _ _ h => h) (.val rfl (fun wz hwz => ?_)) ?_
      rotate_left
      · (obtain ⟨hcz, hfz⟩ := bcell hwz; go_simp; try (with_reducible rfl))
      (simp only [Act.put]); (try simp only [List.setIfInBounds_toArray]); (try simp only [List.set_cons_succ]); (try simp only [List.set_cons_zero])
      refine WpH.takeD 10 (some 47) rfl rfl (by kernel_rfl) (fun _ _ _ h => h) (.call rfl (fun wz hwz => HMUL.out (kpw r (k + 1)) r wz) (fun wz hwz => ?_)) ?_
      · go_simp; try (with_reducible rfl)
      (simp only [Act.put]); (try simp only [List.setIfInBounds_toArray]); (try simp only [List.set_cons_succ]); (try simp only [List.set_cons_zero])
      refine WpH.doneB (by kernel_rfl) (fun w8 hw8 => ?_)
      (try simp only [List.drop_succ_cons]); (try simp only [List.drop_zero]); (try simp only [Nat.reduceSub]); (try simp only [List.take_succ_cons]); (try simp only [List.take_zero])
      clear out0 out1 out2 out3 out4 pw0 pw1 pw2 pw3 pw4 y0 y1 y2 y3 y4 r0 r1 r2 r3 r4
      replace hexc := hexc.call hw8
      replace hr := hr.call hw8
      replace s0 := s0.call hw8
      replace hout := hout.call hw8
      replace hpw := hpw.call hw8
      replace hinv := hinv.call hw8
      replace hy := hy.call hw8
      clear hw8
      obtain ⟨out0, out1, out2, out3, out4⟩ := V2.mk hout.c0 hout.c1 hout.f0 hout.f1 hout.lt
      obtain ⟨pw0, pw1, pw2, pw3, pw4⟩ := V2.mk hpw.c0 hpw.c1 hpw.f0 hpw.f1 hpw.lt
      go_wp2_with fail
      go_roundw
      case rel =>
        exact ⟨k + 1, T', by omega, by go_num, (by first | exact .inr rfl | exact .inr trivial | simp), V2.oth (V2.oth hr (by omega) _ _) (by omega) _ _, V2.oth (V2.oth s0 (by omega) _ _) (by omega) _ _, V2.oth (V2.set hout _ _) (by omega) _ _, V2.set (V2.oth hpw (by omega) _ _) _ _, (hinv.st no _ _).st np _ _, hTD2.out, ⟨n1, n2, no, np⟩, (hexc.st (by omega) _ _).st (by omega) _ _⟩
      case measure => simp [intOf]; omega
    · have hcd1 : (cd == 0) = false := by simpa using hcd
      have hcd2 : (cd != 0) = true := by simpa using hcd
      obtain ⟨s00, s01, s02, s03, s04⟩ := V2.mk s0.c0 s0.c1 s0.f0 s0.f1 s0.lt
      go_wp2_with fail
      refine bodyPost_ret (results_v2_tmp (b := w.heap.size + 2) (u := .int .u64 0) (v := .int .u64 0) ?_ rfl rfl) rfl ?_
      · first | exact V2.set s0 _ _ | exact s0
      · obtain rfl : k = 0 := by omega
        exact ⟨.inr ⟨hcd, rfl, T', (by first | exact hinv | exact hinv.st n2 _ _), hTD2.out⟩, (by first | exact hexc | exact hexc.st (by omega) _ _)⟩
end

end Go.Proofs.Ytiphahbeedeebaa

namespace Go.Proofs.Ytiphahbeedeebaa
open Go.RowKit Fm
set_option linter.unusedVariables false
set_option maxRecDepth 100000

theorem cellsE_take : ∀ (xs : List E) (n : Nat), cellsE (xs.take n) = (cellsE xs).take (n * 2)
  | [], n => by simp [cellsE]
  | x :: l, 0 => by simp [cellsE]
  | x :: l, n + 1 => by
    rw [List.take_succ_cons, show (n + 1) * 2 = n * 2 + 1 + 1 by omega]
    simp only [cellsE, List.take_succ_cons, cellsE_take l n]
theorem cellsE_drop : ∀ (xs : List E) (n : Nat), cellsE (xs.drop n) = (cellsE xs).drop (n * 2)
  | [], n => by simp [cellsE]
  | x :: l, 0 => by simp [cellsE]
  | x :: l, n + 1 => by
    rw [List.drop_succ_cons, show (n + 1) * 2 = n * 2 + 1 + 1 by omega]
    simp only [cellsE, List.drop_succ_cons, cellsE_drop l n]

/-- 'make([]api.Elem, 0, c)' -/
theorem make_cap (c : Nat) (hc : c ≤ 1099511627776) (w : World) :
    (Instr.makeSlice 22 (.int .i64 0) (.int .i64 (c : Int))).run Try.prog w = .ok (.slice (some ⟨w.heap.size, 0, none⟩) 0 c) (w.alloc (.cells (cellsE (List.replicate c (0, 0))).toArray 41)) := by
  obtain ⟨i, hi, hz, h1, h2⟩ := info_parts info_elem
  have hr := run_make (P := Try.prog) w 22 41 i _ Try.underlying22 hi hz .i64 .i64 0 c (by omega) (by omega) (by rw [h2]; omega) (by omega)
  rw [hr, h1]
  simp only [Int.toNat_natCast, Int.toNat_zero, Value.cells, madeCells_elem]

theorem run_append_roomE {w : World} {g : Nat} {zs : List E} (hg : BlkE w g zs) (ty : TypeId) (n m c cap : Nat) (b o : Nat) (ys : List E) (hm : ys.length = m) (hr : RowE w b o ys) (hz : zs.length = cap) (hroom : n + m ≤ cap) :
    ∃ w', (Builtin.append_ #[22, 22] ty #[.slice (some ⟨g, 0, none⟩) n cap, .slice (some ⟨b, o, none⟩) m c]).run Try.prog w = .ok (.slice (some ⟨g, 0, none⟩) (n + m) cap) w' ∧
      BlkE w' g (zs.take n ++ ys ++ zs.drop (n + m)) ∧ Exc (fun q => q = g) w.heap.size w w' := by
  subst hz
  obtain ⟨i, hi, hz, h1, h2⟩ := info_parts info_elem
  have hrun := run_append_room (P := Try.prog) w 22 ty 41 i Try.underlying22 hi g n zs.length (cellsE zs).toArray hg ⟨b, o, none⟩ m c (cellsE ys) (by rw [length_cellsE, hm, h1]) hr.cells (oneCell_cellsE ys) hroom
    (by rw [h1, length_cellsE]; simp only [List.size_toArray, length_cellsE]; omega)
  refine ⟨_, hrun, ?_, ⟨rfl, rfl, rfl, by simp, fun k hk hne => setRow_other w g k _ hne⟩⟩
  have hlt := hg.lt
  rw [h1, length_cellsE, hm]
  have e : (cellsE (zs.take n ++ ys ++ zs.drop (n + m))).toArray = (List.take (n * 2) (cellsE zs) ++ cellsE ys ++ List.drop (n * 2 + m * 2) (cellsE zs)).toArray := by
    rw [cellsE_append, cellsE_append, cellsE_take, cellsE_drop, Nat.add_mul]
  show (w.setRow g _).heap[g]? = some (.cells (cellsE _).toArray 41 (0, 0))
  rw [e]
  exact setRow_heap w g _ _ _ _ hg

theorem exec_append {w w' : World} {o : Oper} {a : Act} (s x : Operand) (ho : o.op = .call { callee := .builtin .append, args := #[s, x], argTypes := #[22, 22] }) {v1 v2 v' : Value} (hs : a.eval s = v1) (hx : a.eval x = v2)
    (hrun : (Builtin.append_ #[22, 22] o.type #[v1, v2]).run Try.prog w = .ok v' w') : (execOp a.eval o).run Try.prog w = .ok (.value v') w' := by
  unfold execOp
  simp only [ho, resolve, invoke, builtin, Sem.run_bind, Sem.run_pure, Result.andThen_ok, List.map_toArray, List.map_cons, List.map_nil, hs, hx, hrun]

end Go.Proofs.Ytiphahbeedeebaa
