/-
  PURE MATHEMATICS: polynomials over the program's fields, as lists of coefficients: sums, products, values; no more roots than the degree; a polynomial is told by its values.
-/
/-
  PURE MATHEMATICS: values at the powers of a root, by halves: bits turned round; what stands in the list after each step; values and back.
-/
/-
  WALKS: math/bits.TrailingZeros by its table, ntt.Log; math/bits.Reverse64 of small numbers, ntt.turned.
-/
import Derived.Test.YtfhmineolncefaaDoorMam
import Derived.Test.YtfhmineolncefaaDoorMag
import Derived.Shelf.Spec.TrailingZeros
namespace Go.Proofs.YtfhmineolncefaaDoor.Fm
set_option linter.unusedVariables false

section
variable {f : Nat}

/-- the value at a point -/
def ev (x : Fin (Pm f)) (p : List (Fin (Pm f))) : Fin (Pm f) := p.foldr (fun a s => s * x + a) 0
theorem ev_nil (x : Fin (Pm f)) : ev x [] = 0 := rfl
theorem ev_cons (x a : Fin (Pm f)) (p : List (Fin (Pm f))) : ev x (a :: p) = ev x p * x + a := rfl
theorem ev_append (x : Fin (Pm f)) (q : List (Fin (Pm f))) : ∀ p, ev x (p ++ q) = ev x p + kpow x p.length * ev x q
  | [] => by
    rw [List.nil_append, ev_nil, List.length_nil, kpow_zero]
    grind
  | a :: p => by
    rw [List.cons_append, ev_cons, ev_cons, ev_append x q p, List.length_cons, kpow_succ]
    grind
theorem ev_zeros (x : Fin (Pm f)) : ∀ n, ev x (List.replicate n 0) = 0
  | 0 => rfl
  | n + 1 => by
    rw [List.replicate_succ, ev_cons, ev_zeros x n]
    grind
theorem ev_pad (x : Fin (Pm f)) (p : List (Fin (Pm f))) (n : Nat) : ev x (p ++ List.replicate n 0) = ev x p := by
  rw [ev_append, ev_zeros]
  grind
theorem ev_sm (x : Fin (Pm f)) : ∀ p : List (Fin (Pm f)), ev x p = sm (fun i => p.getD i 0 * kpow x i) p.length
  | [] => rfl
  | a :: p => by
    rw [ev_cons, List.length_cons, sm_head, ev_sm x p]
    rw [show (fun i => (a :: p).getD (i + 1) 0 * kpow x (i + 1)) = fun i => p.getD i 0 * kpow x i * x from funext fun i => by
      rw [List.getD_cons_succ, kpow_succ]
      grind, sm_mulr, List.getD_cons_zero, kpow_zero]
    grind
theorem getD_end {p : List (Fin (Pm f))} {i : Nat} (h : p.length ≤ i) : p.getD i 0 = 0 := by rw [List.getD_eq_getElem?_getD, List.getElem?_eq_none h]; rfl
theorem getD_in {p : List (Fin (Pm f))} {i : Nat} (h : i < p.length) : p.getD i 0 = p[i] := by rw [List.getD_eq_getElem?_getD, List.getElem?_eq_getElem h]; rfl
theorem ev_sm' (x : Fin (Pm f)) (p : List (Fin (Pm f))) (n : Nat) (h : p.length ≤ n) : ev x p = sm (fun i => p.getD i 0 * kpow x i) n := by
  rw [ev_sm, sm_more h]
  intro i hi _
  rw [getD_end hi]
  grind

/-! ### without noughts at the end -/
def trim : List (Fin (Pm f)) → List (Fin (Pm f))
  | [] => []
  | a :: p => if trim p = [] ∧ a = 0 then [] else a :: trim p
theorem trim_cons (a : Fin (Pm f)) (p : List (Fin (Pm f))) : trim (a :: p) = if trim p = [] ∧ a = 0 then [] else a :: trim p := rfl
theorem trim_le : ∀ p : List (Fin (Pm f)), (trim p).length ≤ p.length
  | [] => Nat.le_refl _
  | a :: p => by
    rw [trim_cons]
    have := trim_le p
    split
    · simp
    · simp only [List.length_cons]
      omega
theorem trim_take : ∀ p : List (Fin (Pm f)), trim p = p.take (trim p).length
  | [] => rfl
  | a :: p => by
    rw [trim_cons]
    split
    · rfl
    · rw [List.length_cons, List.take_succ_cons, ← trim_take p]
theorem trim_getD : ∀ (p : List (Fin (Pm f))) (i : Nat), (trim p).getD i 0 = p.getD i 0
  | [], i => rfl
  | a :: p, i => by
    rw [trim_cons]
    split
    · rename_i h
      cases i with
      | zero => rw [List.getD_cons_zero, h.2]; rfl
      | succ i =>
        rw [List.getD_cons_succ, ← trim_getD p i, h.1]
        rfl
    · cases i with
      | zero => rfl
      | succ i => rw [List.getD_cons_succ, List.getD_cons_succ, trim_getD p i]
theorem ev_trim (x : Fin (Pm f)) (p : List (Fin (Pm f))) : ev x (trim p) = ev x p := by
  rw [ev_sm' x (trim p) p.length (trim_le p), ev_sm]
  exact sm_congr fun i _ => by rw [trim_getD]
theorem trim_last : ∀ p : List (Fin (Pm f)), trim p ≠ [] → (trim p).getD ((trim p).length - 1) 0 ≠ 0
  | [], h => absurd rfl h
  | a :: p, h => by
    rw [trim_cons] at h ⊢
    split at h
    · exact absurd rfl h
    · rename_i hn
      rw [if_neg hn]
      by_cases hp : trim p = []
      · rw [hp]
        exact fun e => hn ⟨hp, e⟩
      · have h1 := trim_last p hp
        have h2 : 0 < (trim p).length := List.length_pos_iff.2 hp
        rw [List.length_cons, show (trim p).length + 1 - 1 = ((trim p).length - 1) + 1 by omega, List.getD_cons_succ]
        exact h1
theorem trim_nil {p : List (Fin (Pm f))} (h : ∀ i, p.getD i 0 = 0) : trim p = [] := by
  rcases Classical.em (trim p = []) with h1 | h1
  · exact h1
  · exact absurd (by rw [trim_getD, h]) (trim_last p h1)
/-- the same coefficients: the same, trimmed -/
theorem trim_eq {p q : List (Fin (Pm f))} (h : ∀ i, p.getD i 0 = q.getD i 0) : trim p = trim q := by
  have hlen : ∀ p q : List (Fin (Pm f)), (∀ i, p.getD i 0 = q.getD i 0) → (trim p).length ≤ (trim q).length := by
    intro p q h
    apply Nat.le_of_not_lt
    intro hlt
    have hne : trim p ≠ [] := List.ne_nil_of_length_pos (by omega)
    apply trim_last p hne
    rw [trim_getD, h, ← trim_getD q]
    exact getD_end (by omega)
  have hl := Nat.le_antisymm (hlen p q h) (hlen q p fun i => (h i).symm)
  refine List.ext_getElem hl fun i h1 h2 => ?_
  rw [← getD_in h1, ← getD_in h2, trim_getD, trim_getD, h]
theorem trim_trim (p : List (Fin (Pm f))) : trim (trim p) = trim p := trim_eq (trim_getD p)
theorem getD_append (p q : List (Fin (Pm f))) (i : Nat) : (p ++ q).getD i 0 = if i < p.length then p.getD i 0 else q.getD (i - p.length) 0 := by
  simp only [List.getD_eq_getElem?_getD]
  split
  · rename_i h
    rw [List.getElem?_append_left h]
  · rename_i h
    rw [List.getElem?_append_right (by omega)]
theorem getD_zeros (n i : Nat) : (List.replicate n (0 : Fin (Pm f))).getD i 0 = 0 := by
  rw [List.getD_eq_getElem?_getD, List.getElem?_replicate]
  split <;> rfl
theorem getD_pad (p : List (Fin (Pm f))) (n i : Nat) : (p ++ List.replicate n 0).getD i 0 = p.getD i 0 := by
  rw [getD_append]
  split
  · rfl
  · rename_i h
    rw [getD_zeros, getD_end (by omega)]
theorem trim_pad (p : List (Fin (Pm f))) (n : Nat) : trim (p ++ List.replicate n 0) = trim p := trim_eq (getD_pad p n)
theorem getD_take (p : List (Fin (Pm f))) (n i : Nat) : (p.take n).getD i 0 = if i < n then p.getD i 0 else 0 := by
  simp only [List.getD_eq_getElem?_getD, List.getElem?_take]
  split <;> rfl
/-- a list whose last is not 0, or that has none, is trimmed -/
theorem trim_self {p : List (Fin (Pm f))} (h : p = [] ∨ p.getD (p.length - 1) 0 ≠ 0) : trim p = p := by
  have hl : (trim p).length = p.length := by
    apply Nat.le_antisymm (trim_le p)
    apply Nat.le_of_not_lt
    intro hlt
    rcases h with rfl | h
    · exact absurd hlt (by simp)
    · apply h
      rw [← trim_getD]
      exact getD_end (by omega)
  rw [trim_take p, hl, List.take_length]
/-- p is cut where what stands behind is nought -/
theorem trim_cut {p : List (Fin (Pm f))} (n : Nat) (hn : n ≤ p.length) (h0 : ∀ i, n ≤ i → p.getD i 0 = 0) (h1 : n = 0 ∨ p.getD (n - 1) 0 ≠ 0) : trim p = p.take n := by
  rw [trim_eq (q := p.take n) fun i => ?_]
  · apply trim_self
    rcases h1 with rfl | h1
    · exact .inl (List.take_zero ..)
    · by_cases hz : n = 0
      · subst hz
        exact .inl (List.take_zero ..)
      · right
        rw [List.length_take, Nat.min_eq_left hn, getD_take, if_pos (by omega)]
        exact h1
  · rw [getD_take]
    split
    · rfl
    · rename_i h
      exact h0 i (by omega)

/-! ### roots -/
/-- p less its value at r, divided by X - r -/
def sdiv (r : Fin (Pm f)) : List (Fin (Pm f)) → List (Fin (Pm f))
  | [] => []
  | _ :: p => ev r p :: sdiv r p
theorem sdiv_length (r : Fin (Pm f)) : ∀ p : List (Fin (Pm f)), (sdiv r p).length = p.length
  | [] => rfl
  | _ :: p => by rw [sdiv, List.length_cons, List.length_cons, sdiv_length r p]
theorem sdiv_ev (r x : Fin (Pm f)) : ∀ p : List (Fin (Pm f)), ev x p = (x - r) * ev x (sdiv r p) + ev r p
  | [] => by simp only [sdiv, ev_nil]; grind
  | a :: p => by
    rw [sdiv, ev_cons, ev_cons, ev_cons, sdiv_ev r x p]
    grind
/-- the last of what comes out is 0 -/
theorem sdiv_last (r : Fin (Pm f)) : ∀ p : List (Fin (Pm f)), ∃ q, p ≠ [] → sdiv r p = q ++ [0]
  | [] => ⟨[], fun h => absurd rfl h⟩
  | [a] => ⟨[], fun _ => rfl⟩
  | a :: b :: p => by
    obtain ⟨q, hq⟩ := sdiv_last r (b :: p)
    refine ⟨ev r (b :: p) :: q, fun _ => ?_⟩
    rw [sdiv, hq (by simp)]
    rfl
theorem no_roots : ∀ (n : Nat) (p : List (Fin (Pm f))), p.length ≤ n → ∀ l : List (Fin (Pm f)), l.Nodup → n ≤ l.length → (∀ x, x ∈ l → ev x p = 0) → ∀ x, ev x p = 0
  | 0, [], _, _, _, _, _, x => rfl
  | 0, _ :: _, h, _, _, _, _, _ => absurd h (by simp)
  | n + 1, [], _, _, _, _, _, x => rfl
  | n + 1, a :: p, h, [], _, hl, _, _ => absurd hl (by simp)
  | n + 1, a :: p, h, r :: l, hn, hl, h0, x => by
    obtain ⟨q, hq⟩ := sdiv_last r (a :: p)
    have hq := hq (by simp)
    have hqe : ∀ y, ev y q = ev y (sdiv r (a :: p)) := fun y => by
      rw [hq, show ([0] : List (Fin (Pm f))) = List.replicate 1 0 from rfl, ev_pad]
    have hql : q.length ≤ n := by
      have h1 := sdiv_length r (a :: p)
      rw [hq, List.length_append, List.length_cons, List.length_cons] at h1
      simp only [List.length_cons, List.length_nil] at h h1
      omega
    have hr := h0 r (by simp)
    obtain ⟨hrl, hnd⟩ := List.nodup_cons.1 hn
    have hz := no_roots n q hql l hnd (by simp at hl; omega) fun y hy => by
      have h1 := sdiv_ev r y (a :: p)
      rw [h0 y (by simp [hy]), hr] at h1
      rw [hqe]
      rcases k_mul_eq_zero (y - r) (ev y (sdiv r (a :: p))) (by grind) with h2 | h2
      · exact absurd (show y = r by grind) fun e => hrl (e ▸ hy)
      · exact h2
    rw [sdiv_ev r x (a :: p), hr, ← hqe, hz x]
    grind
/-- the points 0, 1, .. -/
def pts (f n : Nat) : List (Fin (Pm f)) := (List.range n).map fun i => Fin.ofNat (Pm f) i
theorem Pm_big (f : Nat) : 18446744069414584321 ≤ Pm f := by unfold Pm; split <;> decide
theorem pts_nodup {f n : Nat} (h : n ≤ 18446744069414584321) : (pts f n).Nodup := by
  unfold pts
  have hb := Pm_big f
  rw [List.Nodup, List.pairwise_map]
  refine List.Pairwise.imp_of_mem (fun {a b} ha hb2 hne e => hne ?_) List.nodup_range
  have h1 : a < n := List.mem_range.1 ha
  have h2 : b < n := List.mem_range.1 hb2
  have h3 := congrArg Fin.val e
  simp only [Fin.val_ofNat] at h3
  rwa [Nat.mod_eq_of_lt (by omega), Nat.mod_eq_of_lt (by omega)] at h3
theorem pts_length (f n : Nat) : (pts f n).length = n := by unfold pts; simp
theorem sdiv_zero (r : Fin (Pm f)) : ∀ p : List (Fin (Pm f)), (∀ i, (sdiv r p).getD i 0 = 0) → ev r p = 0 → ∀ i, p.getD i 0 = 0
  | [], _, _, _ => rfl
  | a :: p, h, h0, i => by
    have h1 : ev r p = 0 := h 0
    have h2 := sdiv_zero r p (fun i => by have := h (i + 1); rwa [sdiv, List.getD_cons_succ] at this) h1
    cases i with
    | zero =>
      rw [ev_cons, h1] at h0
      rw [List.getD_cons_zero]
      grind
    | succ i => rw [List.getD_cons_succ, h2]
theorem zero_poly : ∀ (n : Nat) (p : List (Fin (Pm f))), p.length ≤ n → ∀ l : List (Fin (Pm f)), l.Nodup → n ≤ l.length → (∀ x, x ∈ l → ev x p = 0) → ∀ i, p.getD i 0 = 0
  | _, [], _, _, _, _, _, _ => rfl
  | 0, _ :: _, h, _, _, _, _, _ => absurd h (by simp)
  | n + 1, a :: p, h, [], _, hl, _, _ => absurd hl (by simp)
  | n + 1, a :: p, h, r :: l, hn, hl, h0, i => by
    obtain ⟨q, hq⟩ := sdiv_last r (a :: p)
    have hq := hq (by simp)
    have hqe : ∀ y, ev y q = ev y (sdiv r (a :: p)) := fun y => by
      rw [hq, show ([0] : List (Fin (Pm f))) = List.replicate 1 0 from rfl, ev_pad]
    have hql : q.length ≤ n := by
      have h1 := sdiv_length r (a :: p)
      rw [hq, List.length_append, List.length_cons, List.length_cons] at h1
      simp only [List.length_cons, List.length_nil] at h h1
      omega
    have hr := h0 r (by simp)
    obtain ⟨hrl, hnd⟩ := List.nodup_cons.1 hn
    have hz := zero_poly n q hql l hnd (by simp at hl; omega) fun y hy => by
      have h1 := sdiv_ev r y (a :: p)
      rw [h0 y (by simp [hy]), hr] at h1
      rw [hqe]
      rcases k_mul_eq_zero (y - r) (ev y (sdiv r (a :: p))) (by grind) with h2 | h2
      · exact absurd (show y = r by grind) fun e => hrl (e ▸ hy)
      · exact h2
    refine sdiv_zero r (a :: p) (fun i => ?_) hr i
    rw [hq, show ([0] : List (Fin (Pm f))) = List.replicate 1 0 from rfl, getD_pad]
    exact hz i

/-! ### a list out of its coefficients -/
def ofF (n : Nat) (g : Nat → Fin (Pm f)) : List (Fin (Pm f)) := (List.range n).map g
theorem ofF_length (n : Nat) (g : Nat → Fin (Pm f)) : (ofF n g).length = n := by unfold ofF; simp
theorem ofF_getD (n : Nat) (g : Nat → Fin (Pm f)) (i : Nat) : (ofF n g).getD i 0 = if i < n then g i else 0 := by
  by_cases h : i < n
  · rw [if_pos h, getD_in (by rw [ofF_length]; exact h)]
    simp [ofF]
  · rw [if_neg h, getD_end (by rw [ofF_length]; omega)]
theorem ofF_ev (n : Nat) (g : Nat → Fin (Pm f)) (x : Fin (Pm f)) : ev x (ofF n g) = sm (fun i => g i * kpow x i) n := by
  rw [ev_sm, ofF_length]
  exact sm_congr fun i hi => by rw [ofF_getD, if_pos hi]
theorem eq_ofF {p : List (Fin (Pm f))} {n : Nat} {g : Nat → Fin (Pm f)} (hl : p.length = n) (h : ∀ i, i < n → p.getD i 0 = g i) : p = ofF n g := by
  refine List.ext_getElem (by rw [ofF_length]; exact hl) fun i h1 h2 => ?_
  rw [← getD_in h1, ← getD_in h2, ofF_getD, if_pos (by omega), h i (by omega)]
theorem ext_getD {p q : List (Fin (Pm f))} (hl : p.length = q.length) (h : ∀ i, p.getD i 0 = q.getD i 0) : p = q :=
  List.ext_getElem hl fun i h1 h2 => by rw [← getD_in h1, ← getD_in h2, h]

/-- the same values: the same coefficients -/
theorem poly_eq {p q : List (Fin (Pm f))} {N : Nat} (hp : p.length ≤ N) (hq : q.length ≤ N) (hN : N ≤ 18446744069414584321) (l : List (Fin (Pm f))) (hl : l.Nodup) (hN2 : N ≤ l.length) (h : ∀ x, x ∈ l → ev x p = ev x q) : ∀ i, p.getD i 0 = q.getD i 0 := by
  intro i
  have hz := zero_poly N (ofF N fun i => p.getD i 0 - q.getD i 0) (by rw [ofF_length]; exact Nat.le_refl _) l hl hN2 (fun x hx => by
    rw [ofF_ev, show (fun i => (p.getD i 0 - q.getD i 0) * kpow x i) = fun i => p.getD i 0 * kpow x i - q.getD i 0 * kpow x i from funext fun i => by grind, sm_sub, ← ev_sm' x p N hp, ← ev_sm' x q N hq, h x hx]
    grind) i
  rw [ofF_getD] at hz
  split at hz
  · grind
  · rw [getD_end (by omega), getD_end (by omega)]
theorem trim_ev {p q : List (Fin (Pm f))} (hp : p.length ≤ 1000000) (hq : q.length ≤ 1000000) (h : ∀ x, ev x p = ev x q) : trim p = trim q :=
  trim_eq (poly_eq hp hq (by omega) (pts f 1000000) (pts_nodup (by omega)) (by rw [pts_length]; exact Nat.le_refl _) fun x _ => h x)

/-! ### sums, products -/
def padd (p q : List (Fin (Pm f))) : List (Fin (Pm f)) := trim (ofF (max p.length q.length) fun i => p.getD i 0 + q.getD i 0)
theorem ev_padd (x : Fin (Pm f)) (p q : List (Fin (Pm f))) : ev x (padd p q) = ev x p + ev x q := by
  unfold padd
  rw [ev_trim, ofF_ev, show (fun i => (p.getD i 0 + q.getD i 0) * kpow x i) = fun i => p.getD i 0 * kpow x i + q.getD i 0 * kpow x i from funext fun i => by grind, sm_add, ← ev_sm' x p _ (Nat.le_max_left ..), ← ev_sm' x q _ (Nat.le_max_right ..)]
def pscale (c : Fin (Pm f)) (p : List (Fin (Pm f))) : List (Fin (Pm f)) := trim (p.map (· * c))
theorem map_getD (c : Fin (Pm f)) (p : List (Fin (Pm f))) (i : Nat) : (p.map (· * c)).getD i 0 = p.getD i 0 * c := by
  by_cases h : i < p.length
  · rw [getD_in (by simpa using h), getD_in h]
    simp
  · rw [getD_end (by simpa using h), getD_end (by omega)]
    grind
theorem ev_pscale (x c : Fin (Pm f)) (p : List (Fin (Pm f))) : ev x (pscale c p) = ev x p * c := by
  unfold pscale
  rw [ev_trim, ev_sm, List.length_map, ev_sm, ← sm_mulr]
  exact sm_congr fun i _ => by rw [map_getD]; grind

/-- a product's coefficient -/
def cv (a b : Nat → Fin (Pm f)) (k : Nat) : Fin (Pm f) := sm (fun i => a i * b (k - i)) (k + 1)
theorem cv_tri (a b : Nat → Fin (Pm f)) (x : Fin (Pm f)) : ∀ N, sm (fun k => cv a b k * kpow x k) N = sm (fun i => a i * kpow x i * sm (fun j => b j * kpow x j) (N - i)) N
  | 0 => rfl
  | N + 1 => by
    rw [sm_succ, cv_tri a b x N, sm_succ (fun i => a i * kpow x i * sm (fun j => b j * kpow x j) (N + 1 - i))]
    rw [sm_congr (g := fun i => a i * kpow x i * sm (fun j => b j * kpow x j) (N + 1 - i)) (h := fun i => a i * kpow x i * sm (fun j => b j * kpow x j) (N - i) + a i * b (N - i) * kpow x N) (n := N) fun i hi => ?_, sm_add]
    · rw [show N + 1 - N = 0 + 1 by omega, sm_succ, sm_zero, kpow_zero, sm_mulr]
      unfold cv
      rw [sm_succ, Nat.sub_self]
      grind
    · rw [show N + 1 - i = (N - i) + 1 by omega, sm_succ]
      have h1 : kpow x N = kpow x i * kpow x (N - i) := by rw [← kpow_add]; congr 1; omega
      rw [h1]
      grind
theorem cv_none {a b : Nat → Fin (Pm f)} {m n k : Nat} (ha : ∀ i, m ≤ i → a i = 0) (hb : ∀ i, n ≤ i → b i = 0) (h : m + n ≤ k + 1) (h0 : 0 < m + n) : cv a b k = 0 := by
  refine sm_none fun i hi => ?_
  by_cases him : i < m
  · rw [hb (k - i) (by omega)]
    grind
  · rw [ha i (by omega)]
    grind
theorem cv_last {a b : Nat → Fin (Pm f)} {m n : Nat} (ha : ∀ i, m < i → a i = 0) (hb : ∀ i, n < i → b i = 0) : cv a b (m + n) = a m * b n := by
  unfold cv
  rw [sm_one (k := m) (by omega), Nat.add_sub_cancel_left]
  intro i hi hne
  by_cases him : i < m
  · rw [hb (m + n - i) (by omega)]
    grind
  · rw [ha i (by omega)]
    grind
theorem cv_ev {a b : Nat → Fin (Pm f)} {m n N : Nat} (ha : ∀ i, m ≤ i → a i = 0) (hb : ∀ i, n ≤ i → b i = 0) (h : m + n ≤ N + 1) (h0 : 0 < m + n) (x : Fin (Pm f)) :
    sm (fun k => cv a b k * kpow x k) N = sm (fun i => a i * kpow x i) m * sm (fun i => b i * kpow x i) n := by
  rw [← sm_more (m := N) (n := N + 1) (g := fun k => cv a b k * kpow x k) (by omega) (fun k h1 h2 => by rw [cv_none ha hb (by omega) h0]; grind), cv_tri, sm_more (m := m) (by omega) (fun i h1 h2 => by rw [ha i h1]; grind), ← sm_mulr]
  refine sm_congr fun i hi => ?_
  rw [sm_more (m := n) (n := N + 1 - i) (by omega) (fun j h1 h2 => by rw [hb j h1]; grind)]

/-- the product, with noughts at the end -/
def prodL (p q : List (Fin (Pm f))) : List (Fin (Pm f)) := ofF (p.length + q.length - 1) (cv (fun i => p.getD i 0) (fun i => q.getD i 0))
theorem prodL_ev (x : Fin (Pm f)) (p q : List (Fin (Pm f))) : ev x (prodL p q) = ev x p * ev x q := by
  unfold prodL
  rw [ofF_ev]
  by_cases h : 0 < p.length + q.length
  · rw [cv_ev (m := p.length) (n := q.length) (fun i => getD_end) (fun i => getD_end) (by omega) h, ← ev_sm, ← ev_sm]
  · have h1 : p.length = 0 := by omega
    have h2 : q.length = 0 := by omega
    obtain rfl := List.length_eq_zero_iff.1 h1
    obtain rfl := List.length_eq_zero_iff.1 h2
    rw [ev_nil]
    show (0 : Fin (Pm f)) = 0 * 0
    grind
def pmul (p q : List (Fin (Pm f))) : List (Fin (Pm f)) := trim (prodL p q)
theorem ev_pmul (x : Fin (Pm f)) (p q : List (Fin (Pm f))) : ev x (pmul p q) = ev x p * ev x q := by unfold pmul; rw [ev_trim, prodL_ev]
/-- the product of two that are trimmed is so -/
theorem prodL_trim {p q : List (Fin (Pm f))} (hp : trim p = p) (hq : trim q = q) (hp0 : p ≠ []) (hq0 : q ≠ []) : trim (prodL p q) = prodL p q := by
  have h1 : 0 < p.length := List.length_pos_iff.2 hp0
  have h2 : 0 < q.length := List.length_pos_iff.2 hq0
  apply trim_self
  right
  unfold prodL
  rw [ofF_length, ofF_getD, if_pos (by omega), show p.length + q.length - 1 - 1 = (p.length - 1) + (q.length - 1) by omega, cv_last (fun i hi => getD_end (by omega)) (fun i hi => getD_end (by omega))]
  have h3 := trim_last p (by rw [hp]; exact hp0)
  have h4 := trim_last q (by rw [hq]; exact hq0)
  rw [hp] at h3
  rw [hq] at h4
  intro e
  rcases k_mul_eq_zero _ _ e with h | h
  · exact h3 h
  · exact h4 h
end

end Go.Proofs.YtfhmineolncefaaDoor.Fm

namespace Go.Proofs.YtfhmineolncefaaDoor.Fm
set_option linter.unusedVariables false

/-- a number of L bits, its bits turned round -/
def rev : Nat → Nat → Nat
  | 0, _ => 0
  | L + 1, i => i % 2 * 2 ^ L + rev L (i / 2)
theorem rev_lt : ∀ L i, rev L i < 2 ^ L
  | 0, _ => by simp [rev]
  | L + 1, i => by
    have h := rev_lt L (i / 2)
    have h2 : i % 2 < 2 := Nat.mod_lt _ (by omega)
    rw [rev, Nat.pow_succ]
    have h3 : i % 2 * 2 ^ L ≤ 1 * 2 ^ L := Nat.mul_le_mul_right _ (by omega)
    omega
theorem rev_rev : ∀ L, L ≤ 10 → ∀ i, i < 2 ^ L → rev L (rev L i) = i := by
  have h : ∀ L, L < 11 → ∀ i, i < 2 ^ L → rev L (rev L i) = i := by decide +kernel
  exact fun L hL => h L (by omega)
theorem rev_even (L B : Nat) : rev (L + 1) (2 * B) = rev L B := by rw [rev, show 2 * B % 2 = 0 by omega, show 2 * B / 2 = B by omega, Nat.zero_mul, Nat.zero_add]
theorem rev_odd (L B : Nat) : rev (L + 1) (2 * B + 1) = 2 ^ L + rev L B := by rw [rev, show (2 * B + 1) % 2 = 1 by omega, show (2 * B + 1) / 2 = B by omega, Nat.one_mul]

section
variable {f : Nat}

/-- what stands at place q after s steps of s + t -/
def stg (a : Nat → Fin (Pm f)) (r : Fin (Pm f)) (s t q : Nat) : Fin (Pm f) :=
  sm (fun j => a (j * 2 ^ t + rev t (q / 2 ^ s)) * kpow (kpow r (2 ^ t)) (q % 2 ^ s * j)) (2 ^ s)
theorem stg_zero (a : Nat → Fin (Pm f)) (r : Fin (Pm f)) (t q : Nat) : stg a r 0 t q = a (rev t q) := by
  unfold stg
  rw [Nat.pow_zero, sm_succ, sm_zero, Nat.div_one, Nat.mod_one, Nat.zero_mul, Nat.zero_mul, Nat.zero_add, kpow_zero]
  grind
theorem stg_last (a : Nat → Fin (Pm f)) (r : Fin (Pm f)) (L q : Nat) (h : q < 2 ^ L) : stg a r L 0 q = sm (fun j => a j * kpow r (q * j)) (2 ^ L) := by
  unfold stg
  refine sm_congr fun j hj => ?_
  rw [Nat.pow_zero, Nat.mul_one, kpow_one, Nat.mod_eq_of_lt h]
  rfl
theorem div_blk {s B i : Nat} (h : i < 2 ^ s) : (B * 2 ^ s + i) / 2 ^ s = B ∧ (B * 2 ^ s + i) % 2 ^ s = i := by
  have h0 := Nat.two_pow_pos s
  rw [Nat.mul_comm, Nat.mul_add_div h0, Nat.mul_add_mod, Nat.div_eq_of_lt h, Nat.mod_eq_of_lt h]
  exact ⟨rfl, rfl⟩
theorem stg_at (a : Nat → Fin (Pm f)) (r : Fin (Pm f)) (s t B i : Nat) (h : i < 2 ^ s) :
    stg a r s t (B * 2 ^ s + i) = sm (fun j => a (j * 2 ^ t + rev t B) * kpow (kpow r (2 ^ t)) (i * j)) (2 ^ s) := by
  unfold stg
  rw [(div_blk h).1, (div_blk h).2]
/-- one step -/
theorem stg_step (a : Nat → Fin (Pm f)) (r : Fin (Pm f)) (s t B i : Nat) (h : i < 2 ^ s) (hr : Rt r (s + 1 + t)) :
    stg a r (s + 1) t (B * 2 ^ (s + 1) + i) = stg a r s (t + 1) (B * 2 ^ (s + 1) + i) + stg a r s (t + 1) (B * 2 ^ (s + 1) + i + 2 ^ s) * kpow (kpow r (2 ^ t)) i ∧
    stg a r (s + 1) t (B * 2 ^ (s + 1) + i + 2 ^ s) = stg a r s (t + 1) (B * 2 ^ (s + 1) + i) - stg a r s (t + 1) (B * 2 ^ (s + 1) + i + 2 ^ s) * kpow (kpow r (2 ^ t)) i := by
  have hp : 2 ^ (s + 1) = 2 * 2 ^ s := by rw [Nat.pow_succ, Nat.mul_comm]
  have ht : 2 ^ (t + 1) = 2 * 2 ^ t := by rw [Nat.pow_succ, Nat.mul_comm]
  have e1 : B * 2 ^ (s + 1) + i = (2 * B) * 2 ^ s + i := by rw [hp, ← Nat.mul_assoc, Nat.mul_comm B 2]
  have e2 : B * 2 ^ (s + 1) + i + 2 ^ s = (2 * B + 1) * 2 ^ s + i := by rw [e1, Nat.add_mul, Nat.one_mul]; omega
  have e3 : B * 2 ^ (s + 1) + i + 2 ^ s = B * 2 ^ (s + 1) + (i + 2 ^ s) := by omega
  obtain ⟨w, hw⟩ : ∃ w, kpow r (2 ^ t) = w := ⟨_, rfl⟩
  have hw2 : kpow r (2 ^ (t + 1)) = w * w := by rw [ht, Nat.two_mul, kpow_add, hw]
  have hh : kpow w (2 ^ s) = -1 := by
    rw [← hw, ← kpow_mul, ← Nat.pow_add]
    have h1 : Rt r ((t + s) + 1) := by rw [show t + s + 1 = s + 1 + t by omega]; exact hr
    exact h1.half
  have hx : stg a r s (t + 1) (B * 2 ^ (s + 1) + i) = sm (fun j => a (2 * j * 2 ^ t + rev t B) * kpow w (2 * (i * j))) (2 ^ s) := by
    rw [e1, stg_at a r s (t + 1) (2 * B) i h, hw2]
    refine sm_congr fun j _ => ?_
    rw [rev_even, ht, ← Nat.mul_assoc, Nat.mul_comm j 2, Nat.two_mul (i * j), kpow_add, mul_kpow]
  have hy : stg a r s (t + 1) (B * 2 ^ (s + 1) + i + 2 ^ s) = sm (fun j => a ((2 * j + 1) * 2 ^ t + rev t B) * kpow w (2 * (i * j))) (2 ^ s) := by
    rw [e2, stg_at a r s (t + 1) (2 * B + 1) i h, hw2]
    refine sm_congr fun j _ => ?_
    rw [rev_odd, ht, ← Nat.mul_assoc, Nat.mul_comm j 2, Nat.two_mul (i * j), kpow_add, mul_kpow, Nat.add_mul, Nat.one_mul, Nat.add_assoc]
  constructor
  · rw [hx, hy, stg_at a r (s + 1) t B i (by rw [hp]; omega), hw, hp, sm_two, ← sm_mulr]
    congr 1
    · refine sm_congr fun j _ => ?_
      rw [show i * (2 * j) = 2 * (i * j) by rw [Nat.mul_left_comm]]
    · refine sm_congr fun j _ => ?_
      rw [show i * (2 * j + 1) = 2 * (i * j) + i by rw [Nat.mul_add, Nat.mul_left_comm, Nat.mul_one], kpow_add]
      grind
  · rw [hx, hy, e3, stg_at a r (s + 1) t B (i + 2 ^ s) (by rw [hp]; omega), hw, hp, sm_two, ← sm_mulr]
    have hone : ∀ j, kpow w ((2 ^ s) * (2 * j)) = 1 := fun j => by
      rw [kpow_mul, hh, kpow_mul, show kpow (-1 : Fin (Pm f)) 2 = 1 by rw [kpow_succ, kpow_one]; grind, one_kpow]
    have h1 : sm (fun j => a (2 * j * 2 ^ t + rev t B) * kpow w ((i + 2 ^ s) * (2 * j))) (2 ^ s) = sm (fun j => a (2 * j * 2 ^ t + rev t B) * kpow w (2 * (i * j))) (2 ^ s) := by
      refine sm_congr fun j _ => ?_
      rw [Nat.add_mul, kpow_add, hone, show i * (2 * j) = 2 * (i * j) by rw [Nat.mul_left_comm]]
      grind
    have h2 : sm (fun j => a ((2 * j + 1) * 2 ^ t + rev t B) * kpow w ((i + 2 ^ s) * (2 * j + 1))) (2 ^ s) = sm (fun j => (-1) * (a ((2 * j + 1) * 2 ^ t + rev t B) * kpow w (2 * (i * j)) * kpow w i)) (2 ^ s) := by
      refine sm_congr fun j _ => ?_
      rw [show (i + 2 ^ s) * (2 * j + 1) = i * (2 * j) + 2 ^ s * (2 * j) + (i + 2 ^ s) by rw [Nat.mul_add, Nat.mul_one, Nat.add_mul], kpow_add, kpow_add, kpow_add, hone, hh, show i * (2 * j) = 2 * (i * j) by rw [Nat.mul_left_comm]]
      grind
    rw [h1, h2, sm_mul]
    grind

/-- what stands at place q within a step: the blocks ahead of B are done, and of block B the first i places of each half -/
def mid (a : Nat → Fin (Pm f)) (r : Fin (Pm f)) (s t B i q : Nat) : Fin (Pm f) :=
  if q / 2 ^ (s + 1) < B ∨ (q / 2 ^ (s + 1) = B ∧ q % 2 ^ s < i) then stg a r (s + 1) t q else stg a r s (t + 1) q
theorem mid_start (a : Nat → Fin (Pm f)) (r : Fin (Pm f)) (s t q : Nat) : mid a r s t 0 0 q = stg a r s (t + 1) q := by
  unfold mid
  rw [if_neg fun h => h.elim (Nat.not_lt_zero _) fun h => Nat.not_lt_zero _ h.2]
theorem mid_next (a : Nat → Fin (Pm f)) (r : Fin (Pm f)) (s t B q : Nat) : mid a r s t B (2 ^ s) q = mid a r s t (B + 1) 0 q := by
  unfold mid
  have h : q % 2 ^ s < 2 ^ s := Nat.mod_lt _ (Nat.two_pow_pos s)
  by_cases h1 : q / 2 ^ (s + 1) < B + 1
  · rw [if_pos (by omega), if_pos (by omega)]
  · rw [if_neg (by omega), if_neg (by omega)]
theorem mid_end (a : Nat → Fin (Pm f)) (r : Fin (Pm f)) (s t q : Nat) (h : q < 2 ^ (s + 1 + t)) : mid a r s t (2 ^ t) 0 q = stg a r (s + 1) t q := by
  unfold mid
  rw [if_pos]
  left
  rw [Nat.div_lt_iff_lt_mul (Nat.two_pow_pos _), ← Nat.pow_add, Nat.add_comm t]
  exact h
theorem mid_at (a : Nat → Fin (Pm f)) (r : Fin (Pm f)) (s t B i q : Nat) (h : i < 2 ^ s) (hq : q = B * 2 ^ (s + 1) + i ∨ q = B * 2 ^ (s + 1) + i + 2 ^ s) : mid a r s t B i q = stg a r s (t + 1) q ∧ mid a r s t B (i + 1) q = stg a r (s + 1) t q := by
  have hp : 2 ^ (s + 1) = 2 * 2 ^ s := by rw [Nat.pow_succ, Nat.mul_comm]
  have h1 : q / 2 ^ (s + 1) = B ∧ q % 2 ^ s = i := by
    rcases hq with rfl | rfl
    · refine ⟨(div_blk (by rw [hp]; omega)).1, ?_⟩
      rw [hp, ← Nat.mul_assoc]
      exact (div_blk h).2
    · refine ⟨by rw [Nat.add_assoc]; exact (div_blk (by rw [hp]; omega)).1, ?_⟩
      rw [hp, ← Nat.mul_assoc, show B * 2 * 2 ^ s + i + 2 ^ s = (B * 2 + 1) * 2 ^ s + i by rw [Nat.add_mul]; omega]
      exact (div_blk h).2
  unfold mid
  rw [h1.1, h1.2, if_neg (by omega), if_pos (by omega)]
  exact ⟨rfl, rfl⟩
theorem mid_other (a : Nat → Fin (Pm f)) (r : Fin (Pm f)) (s t B i q : Nat) (h : i < 2 ^ s) (h1 : q ≠ B * 2 ^ (s + 1) + i) (h2 : q ≠ B * 2 ^ (s + 1) + i + 2 ^ s) : mid a r s t B (i + 1) q = mid a r s t B i q := by
  have hp : 2 ^ (s + 1) = 2 * 2 ^ s := by rw [Nat.pow_succ, Nat.mul_comm]
  have key : ¬ (q / 2 ^ (s + 1) = B ∧ q % 2 ^ s = i) := by
    rintro ⟨e1, e2⟩
    have d1 := Nat.div_add_mod q (2 ^ (s + 1))
    have d2 : q % 2 ^ (s + 1) % 2 ^ s = q % 2 ^ s := Nat.mod_mod_of_dvd q (by rw [hp]; exact Nat.dvd_mul_left ..)
    have d3 : q % 2 ^ (s + 1) < 2 ^ (s + 1) := Nat.mod_lt _ (Nat.two_pow_pos _)
    rw [e1, Nat.mul_comm] at d1
    rw [e2] at d2
    by_cases hlt : q % 2 ^ (s + 1) < 2 ^ s
    · rw [Nat.mod_eq_of_lt hlt] at d2
      exact h1 (by omega)
    · rw [Nat.mod_eq_sub_mod (by omega), Nat.mod_eq_of_lt (by omega)] at d2
      exact h2 (by omega)
  unfold mid
  by_cases c : q / 2 ^ (s + 1) < B ∨ (q / 2 ^ (s + 1) = B ∧ q % 2 ^ s < i)
  · rw [if_pos c, if_pos (by omega)]
  · rw [if_neg c, if_neg (by omega)]

theorem ofF_set (n : Nat) (g h : Nat → Fin (Pm f)) (k : Nat) (v : Fin (Pm f)) (hk : h k = v) (ho : ∀ i, i < n → i ≠ k → h i = g i) : (ofF n g).set k v = ofF n h := by
  refine List.ext_getElem (by rw [List.length_set, ofF_length, ofF_length]) fun i h1 h2 => ?_
  rw [List.length_set, ofF_length] at h1
  rw [List.getElem_set]
  by_cases hi : k = i
  · subst hi
    rw [if_pos rfl]
    simp [ofF, hk]
  · rw [if_neg hi]
    simp only [ofF, List.getElem_map, List.getElem_range]
    exact (ho i h1 (Ne.symm hi)).symm
/-- what a round leaves -/
theorem mid_set (a : Nat → Fin (Pm f)) (r : Fin (Pm f)) (s t B i : Nat) (h : i < 2 ^ s) (hr : Rt r (s + 1 + t)) (x y : Fin (Pm f))
    (hx : x = stg a r s (t + 1) (B * 2 ^ (s + 1) + i)) (hy : y = stg a r s (t + 1) (B * 2 ^ (s + 1) + i + 2 ^ s) * kpow (kpow r (2 ^ t)) i) :
    ((ofF (2 ^ (s + 1 + t)) (mid a r s t B i)).set (B * 2 ^ (s + 1) + i) (x + y)).set (B * 2 ^ (s + 1) + i + 2 ^ s) (x - y) = ofF (2 ^ (s + 1 + t)) (mid a r s t B (i + 1)) := by
  obtain ⟨h1, h2⟩ := stg_step a r s t B i h hr
  have h0 := Nat.two_pow_pos s
  rw [ofF_set _ _ (fun q => if q = B * 2 ^ (s + 1) + i then x + y else mid a r s t B i q) _ _ (if_pos rfl) (fun q _ hq => if_neg hq)]
  refine ofF_set _ _ _ _ _ ?_ fun q _ hq => ?_
  · rw [(mid_at a r s t B i _ h (.inr rfl)).2, h2, hx, hy]
  · show _ = if _ then _ else _
    by_cases hq1 : q = B * 2 ^ (s + 1) + i
    · rw [if_pos hq1, hq1, (mid_at a r s t B i _ h (.inl rfl)).2, h1, hx, hy]
    · rw [if_neg hq1, mid_other a r s t B i q h hq1 hq]
theorem ofF_congr {n : Nat} {g h : Nat → Fin (Pm f)} (hh : ∀ i, i < n → g i = h i) : ofF n g = ofF n h := eq_ofF (ofF_length n g) fun i hi => by rw [ofF_getD, if_pos hi, hh i hi]

/-! ### values, and back -/
/-- the values of a polynomial at the powers of a root -/
def vals (r : Fin (Pm f)) (n : Nat) (p : List (Fin (Pm f))) : List (Fin (Pm f)) := ofF n fun k => ev (kpow r k) p
theorem vals_sm (r : Fin (Pm f)) (L : Nat) (p : List (Fin (Pm f))) (h : p.length ≤ 2 ^ L) : vals r (2 ^ L) p = ofF (2 ^ L) fun q => sm (fun j => p.getD j 0 * kpow r (q * j)) (2 ^ L) :=
  ofF_congr fun k _ => by
    rw [ev_sm' _ p _ h]
    exact sm_congr fun j _ => by rw [kpow_mul]
/-- the number n in the field -/
def nn (f n : Nat) : Fin (Pm f) := sm (fun _ => 1) n
/-- back -/
def coefs (s m : Fin (Pm f)) (n : Nat) (v : List (Fin (Pm f))) : List (Fin (Pm f)) := ofF n fun i => ev (kpow s i) v * m
theorem coefs_vals {r s m : Fin (Pm f)} {L : Nat} (hr : Rt r L) (hs : r * s = 1) (hm : nn f (2 ^ L) * m = 1) (p : List (Fin (Pm f))) (hp : p.length = 2 ^ L) : coefs s m (2 ^ L) (vals r (2 ^ L) p) = p := by
  refine (eq_ofF hp fun i hi => ?_).symm
  have h := round_trip hr hs (fun j => p.getD j 0) i hi
  rw [ev_sm, show (vals r (2 ^ L) p).length = 2 ^ L from ofF_length ..]
  rw [sm_congr (h := fun k => sm (fun j => p.getD j 0 * kpow r (k * j)) (2 ^ L) * kpow s (i * k)) (fun k hk => by
    rw [vals_sm r L p (by omega), ofF_getD, if_pos hk, kpow_mul s i k]), h]
  unfold nn at hm
  grind
theorem vals_coefs {r s m : Fin (Pm f)} {L : Nat} (hr : Rt r L) (hs : r * s = 1) (hm : nn f (2 ^ L) * m = 1) (v : List (Fin (Pm f))) (hv : v.length = 2 ^ L) : vals r (2 ^ L) (coefs s m (2 ^ L) v) = v := by
  refine (eq_ofF hv fun i hi => ?_).symm
  have h := round_trip (hr.inv hs) (s := r) (by grind) (fun j => v.getD j 0) i hi
  unfold coefs
  rw [ofF_ev, sm_congr (h := fun k => m * (sm (fun j => v.getD j 0 * kpow s (k * j)) (2 ^ L) * kpow r (i * k))) (fun k hk => by
    rw [ev_sm, hv, sm_congr (h := fun j => v.getD j 0 * kpow s (k * j)) (fun j _ => by rw [kpow_mul]), kpow_mul r i k]
    grind), sm_mul, h]
  unfold nn at hm
  grind
end

end Go.Proofs.YtfhmineolncefaaDoor.Fm

namespace Go.Proofs.YtfhmineolncefaaDoor
open Go.RowKit Fm
set_option linter.unusedVariables false
set_option maxRecDepth 100000

/-- the table lies in its variable -/
structure TabW (w : World) : Prop where
  tab : TabAt 1 Lib.deBruijn64tab w
  lt : 1 < w.heap.size
theorem TabW.call {w w' : World} (h : TabW w) (hb : Below w.heap.size w w') : TabW w' :=
  ⟨fun j hj => cell_call (h.tab j hj) hb, Nat.lt_of_lt_of_le h.lt hb.size⟩

set_option maxHeartbeats 1000000 in
theorem tz64_core (x k idx : Nat) (w : World) (hx0 : ((x : Int) == 0) = false)
    (key : IntKind.u64.wrap (bits BinOp.and IntKind.u64 (x : Int) (IntKind.u64.wrap (-(x : Int))) * 285870213051353865) / 288230376151711744 = (idx : Int))
    (hi : idx < 64) (hk : k < 64) (hcell : w.cell? ⟨1, idx, none⟩ = some (.int .u8 k)) :
    Calls Tryd.prog 91 #[.int .u64 x] w fun e w' => e = .returned (.int .i64 k) ∧ w = w' := by
  go_enter Tryd.func91, Tryd.ntmps91
  go_wp2_with (simp only [key])
  go_ret
  exact ⟨rfl, rfl⟩
theorem bits_Tz64 (x : Nat) (h0 : x ≠ 0) (hx : x < 18446744073709551616) (w : World) (hT : TabW w) :
    Calls Tryd.prog 91 #[.int .u64 x] w fun e w' => e = .returned (.int .i64 (Lib.ctz 64 x)) ∧ w = w' := by
  obtain ⟨hlow, hk⟩ := Lib.lowest_bit 64 x h0 hx
  obtain ⟨hi, htab⟩ := Lib.deBruijn64_at _ hk
  have hcell := hT.tab _ hi
  rw [htab] at hcell
  exact tz64_core x _ _ w (by simp; omega) (tz64_key x _ hx h0 hlow) hi hk hcell
theorem bits_Tz (x : Nat) (h0 : x ≠ 0) (hx : x < 18446744073709551616) (w : World) (hT : TabW w) :
    Calls Tryd.prog 68 #[.int .u64 x] w fun e w' => e = .returned (.int .i64 (Lib.ctz 64 x)) ∧ w = w' := by
  have H := Lib.hid (bits_Tz64 x h0 hx w hT)
  generalize Lib.ctz 64 x = k at *
  clear h0
  go_enter Tryd.func68, Tryd.ntmps68
  go_wp2_with fail
  refine H.out.mono ?_
  rintro e w' ⟨rfl, rfl⟩
  go_wp2
  go_ret
  exact ⟨rfl, rfl⟩

theorem ctz_two : ∀ k, k ≤ 10 → Lib.ctz 64 (2 ^ k) = k := by
  have h : ∀ k, k < 11 → Lib.ctz 64 (2 ^ k) = k := by decide +kernel
  exact fun k hk => h k (by omega)
theorem and_pred : ∀ n, n < 1025 → 1 ≤ n → n &&& (n - 1) = 0 → ∃ k, k < 11 ∧ n = 2 ^ k := by
  have h : ∀ n, n < 1025 → 1 ≤ n → n &&& (n - 1) = 0 → (List.range 11).any (fun k => n == 2 ^ k) = true := by decide +kernel
  intro n h1 h2 h3
  have := h n h1 h2 h3
  simp only [List.any_eq_true, List.mem_range, beq_iff_eq] at this
  exact this
theorem and_two : ∀ k, k < 11 → 2 ^ k &&& (2 ^ k - 1) = 0 := by decide +kernel
theorem bits_and_i64_nat (a b : Nat) (ha : a < 9223372036854775808) (hb : b < 9223372036854775808) : bits .and .i64 (a : Int) (b : Int) = ((a &&& b : Nat) : Int) := by
  have hx : a &&& b < 2 ^ 63 := Nat.and_lt_two_pow _ (by omega)
  have h1 : (BitVec.ofInt 64 (a : Int)).toNat = a := by
    rw [BitVec.ofInt_natCast, BitVec.toNat_ofNat]; exact Nat.mod_eq_of_lt (by omega)
  have h2 : (BitVec.ofInt 64 (b : Int)).toNat = b := by
    rw [BitVec.ofInt_natCast, BitVec.toNat_ofNat]; exact Nat.mod_eq_of_lt (by omega)
  show IntKind.i64.wrap ((BitVec.ofInt 64 (a : Int) &&& BitVec.ofInt 64 (b : Int)).toNat : Int) = _
  rw [BitVec.toNat_and, h1, h2]
  exact IntWalk.i64_in _ (by omega)

set_option maxHeartbeats 1000000 in
theorem ntt_Log_ok (k : Nat) (hk : k ≤ 10) (w : World) (hT : TabW w) :
    Calls Tryd.prog 26 #[.int .i64 ((2 ^ k : Nat) : Int)] w fun e w' => e = .returned (.tuple #[.int .i64 k, .bool true]) ∧ w = w' := by
  have hp := Nat.two_pow_pos k
  have hle : 2 ^ k ≤ 2 ^ 10 := Nat.pow_le_pow_right (by omega) hk
  have H := Lib.hid (bits_Tz (2 ^ k) (by omega) (by omega) w hT)
  rw [ctz_two k hk] at H
  have hand := bits_and_i64_nat (2 ^ k) (2 ^ k - 1) (by omega) (by omega)
  rw [and_two k (by omega), Int.ofNat_sub hp] at hand
  simp only [Int.cast_ofNat_Int, Int.natCast_one] at hand
  have hn1 : (1 : Int) ≤ ((2 ^ k : Nat) : Int) := by omega
  have hn2 : ((2 ^ k : Nat) : Int) ≤ 1024 := by omega
  clear hp hle
  generalize ((2 ^ k : Nat) : Int) = n at *
  go_enter Tryd.func26, Tryd.ntmps26
  go_wp2_with fail
  refine H.out.mono ?_
  rintro e w' ⟨rfl, rfl⟩
  go_wp2
  go_ret2
  exact ⟨rfl, rfl⟩

set_option maxHeartbeats 1000000 in
theorem ntt_Log_no (n : Int) (w : World) (h : ∀ k : Nat, k ≤ 10 → n ≠ ((2 ^ k : Nat) : Int)) :
    Calls Tryd.prog 26 #[.int .i64 n] w fun e w' => e = .returned (.tuple #[.int .i64 0, .bool false]) ∧ w = w' := by
  by_cases h1 : n < 1
  · clear h
    go_enter Tryd.func26, Tryd.ntmps26
    go_wp2
    go_ret2
    exact ⟨rfl, rfl⟩
  · by_cases h2 : 1024 < n
    · clear h
      go_enter Tryd.func26, Tryd.ntmps26
      go_wp2
      go_ret2
      exact ⟨rfl, rfl⟩
    · have h3 : (1 : Int) ≤ n := by omega
      have h4 : n ≤ 1024 := by omega
      obtain ⟨m, rfl⟩ : ∃ m : Nat, n = m := ⟨n.toNat, by omega⟩
      have hand := bits_and_i64_nat m (m - 1) (by omega) (by omega)
      rw [Int.ofNat_sub (by omega)] at hand
      simp only [Int.cast_ofNat_Int] at hand
      have hne : m &&& (m - 1) ≠ 0 := fun e => by
        obtain ⟨k, hk, he⟩ := and_pred m (by omega) (by omega) e
        exact h k (by omega) (by rw [he])
      clear h
      generalize m &&& (m - 1) = a at *
      have t1 : ((a : Int) != 0) = true := by simpa using hne
      have t2 : ((a : Int) == 0) = false := by simpa using hne
      have t3 : decide ((m : Int) < 1) = false := by simp; omega
      have t4 : decide ((1024 : Int) < (m : Int)) = false := by simp; omega
      clear hne h1 h2
      go_enter Tryd.func26, Tryd.ntmps26
      go_wp2
      go_ret2
      exact ⟨rfl, rfl⟩

/-! ### bits turned round -/
def rb (x s m : Nat) : Nat := (x / 2 ^ s &&& m) ||| ((x &&& m) * 2 ^ s)
def rev8 (x : Nat) : Nat := rb (rb (rb x 1 6148914691236517205) 2 3689348814741910323) 4 1085102592571150095
def rev64 (x : Nat) : Nat :=
  let a := rb (rb (rev8 x) 8 71777214294589695) 16 281470681808895
  a / 4294967296 ||| (a * 4294967296 % 18446744073709551616)
theorem rb_bits (x s m : Nat) (hx : x < 18446744073709551616) (hm : m * 2 ^ s < 18446744073709551616) :
    bits .or .u64 (bits .and .u64 ((x : Int) / ((2 ^ s : Nat) : Int)) (m : Int)) (bits .and .u64 (x : Int) (m : Int) * ((2 ^ s : Nat) : Int)) = (rb x s m : Int) ∧ bits .and .u64 (x : Int) (m : Int) = ((x &&& m : Nat) : Int) ∧ (x &&& m) * 2 ^ s ≤ 18446744073709551615 ∧ rb x s m < 18446744073709551616 := by
  have hp := Nat.two_pow_pos s
  have hm1 : m < 18446744073709551616 := Nat.lt_of_le_of_lt (Nat.le_mul_of_pos_right m hp) hm
  have hxs : x / 2 ^ s < 18446744073709551616 := Nat.lt_of_le_of_lt (Nat.div_le_self _ _) hx
  have h1 := bits_and_u64_nat (x / 2 ^ s) m hxs hm1
  have h2 := bits_and_u64_nat x m hx hm1
  have h3 : (x &&& m) ≤ m := Nat.and_le_right
  have h4 : (x &&& m) * 2 ^ s ≤ m * 2 ^ s := Nat.mul_le_mul_right _ h3
  have h5 : (x / 2 ^ s &&& m) < 18446744073709551616 := Nat.lt_of_le_of_lt Nat.and_le_right hm1
  refine ⟨?_, h2, by omega, ?_⟩
  · rw [← Int.natCast_ediv, h1, h2, ← Int.natCast_mul, bits_or_u64_nat _ _ h5 (by omega)]
    rfl
  · exact Nat.or_lt_two_pow (n := 64) h5 (by omega)

set_option maxHeartbeats 1000000 in
theorem bits_ReverseBytes64 (x : Nat) (hx : x < 18446744073709551616) (w : World) :
    Calls Tryd.prog 111 #[.int .u64 x] w fun e w' => e = .returned (.int .u64 ((rb (rb x 8 71777214294589695) 16 281470681808895 / 4294967296 ||| (rb (rb x 8 71777214294589695) 16 281470681808895 * 4294967296 % 18446744073709551616) : Nat) : Int)) ∧ w = w' := by
  obtain ⟨a1, a2, a3, a4⟩ := rb_bits x 8 71777214294589695 hx (by omega)
  generalize rb x 8 71777214294589695 = y at *
  obtain ⟨b1, b2, b3, b4⟩ := rb_bits y 16 281470681808895 a4 (by omega)
  generalize rb y 16 281470681808895 = z at *
  have hz1 : (0 : Int) ≤ (z : Int) := by omega
  have c1 : bits .or .u64 ((z : Int) / 4294967296) (IntKind.u64.wrap ((z : Int) * 4294967296)) = ((z / 4294967296 ||| (z * 4294967296 % 18446744073709551616) : Nat) : Int) := by
    rw [IntKind.wrap_u64, show (z : Int) / 4294967296 = ((z / 4294967296 : Nat) : Int) by omega, show (z : Int) * 4294967296 % 18446744073709551616 = ((z * 4294967296 % 18446744073709551616 : Nat) : Int) by omega,
      bits_or_u64_nat _ _ (by omega) (by omega)]
  generalize (z / 4294967296 ||| (z * 4294967296 % 18446744073709551616)) = r at *
  have d1 : IntKind.u64.wrap (((x &&& 71777214294589695 : Nat) : Int) * 256) = ((x &&& 71777214294589695 : Nat) : Int) * 256 := IntWalk.u64_in _ (by omega)
  have d2 : IntKind.u64.wrap (((y &&& 281470681808895 : Nat) : Int) * 65536) = ((y &&& 281470681808895 : Nat) : Int) * 65536 := IntWalk.u64_in _ (by omega)
  rw [a2] at a1
  rw [b2] at b1
  replace a1 : bits .or .u64 (bits .and .u64 ((x : Int) / 256) 71777214294589695) (((x &&& 71777214294589695 : Nat) : Int) * 256) = (y : Int) := a1
  replace b1 : bits .or .u64 (bits .and .u64 ((y : Int) / 65536) 281470681808895) (((y &&& 281470681808895 : Nat) : Int) * 65536) = (z : Int) := b1
  replace a2 : bits .and .u64 (x : Int) 71777214294589695 = ((x &&& 71777214294589695 : Nat) : Int) := a2
  replace b2 : bits .and .u64 (y : Int) 281470681808895 = ((y &&& 281470681808895 : Nat) : Int) := b2
  generalize x &&& 71777214294589695 = p at *
  generalize y &&& 281470681808895 = q at *
  have hx0 : (0 : Int) ≤ (x : Int) := by omega
  have hy0 : (0 : Int) ≤ (y : Int) := by omega
  go_enter Tryd.func111, Tryd.ntmps111
  go_wp2
  go_ret
  exact ⟨rfl, rfl⟩

set_option maxHeartbeats 1000000 in
theorem bits_Reverse64 (x : Nat) (hx : x < 18446744073709551616) (w : World) :
    Calls Tryd.prog 103 #[.int .u64 x] w fun e w' => e = .returned (.int .u64 (rev64 x : Nat)) ∧ w = w' := by
  obtain ⟨a1, a2, a3, a4⟩ := rb_bits x 1 6148914691236517205 hx (by omega)
  have hr : rev64 x = rb (rb (rb (rb (rb x 1 6148914691236517205) 2 3689348814741910323) 4 1085102592571150095) 8 71777214294589695) 16 281470681808895 / 4294967296 ||| (rb (rb (rb (rb (rb x 1 6148914691236517205) 2 3689348814741910323) 4 1085102592571150095) 8 71777214294589695) 16 281470681808895 * 4294967296 % 18446744073709551616) := rfl
  generalize rev64 x = r at *
  generalize rb x 1 6148914691236517205 = y at *
  obtain ⟨b1, b2, b3, b4⟩ := rb_bits y 2 3689348814741910323 a4 (by omega)
  generalize rb y 2 3689348814741910323 = z at *
  obtain ⟨c1, c2, c3, c4⟩ := rb_bits z 4 1085102592571150095 b4 (by omega)
  generalize rb z 4 1085102592571150095 = u at *
  have HB := Lib.hid (fun wz => bits_ReverseBytes64 u c4 wz)
  rw [← hr] at HB
  clear hr
  rw [a2] at a1
  rw [b2] at b1
  rw [c2] at c1
  replace a1 : bits .or .u64 (bits .and .u64 ((x : Int) / 2) 6148914691236517205) (((x &&& 6148914691236517205 : Nat) : Int) * 2) = (y : Int) := a1
  replace b1 : bits .or .u64 (bits .and .u64 ((y : Int) / 4) 3689348814741910323) (((y &&& 3689348814741910323 : Nat) : Int) * 4) = (z : Int) := b1
  replace c1 : bits .or .u64 (bits .and .u64 ((z : Int) / 16) 1085102592571150095) (((z &&& 1085102592571150095 : Nat) : Int) * 16) = (u : Int) := c1
  replace a2 : bits .and .u64 (x : Int) 6148914691236517205 = ((x &&& 6148914691236517205 : Nat) : Int) := a2
  replace b2 : bits .and .u64 (y : Int) 3689348814741910323 = ((y &&& 3689348814741910323 : Nat) : Int) := b2
  replace c2 : bits .and .u64 (z : Int) 1085102592571150095 = ((z &&& 1085102592571150095 : Nat) : Int) := c2
  have d1 : IntKind.u64.wrap (((x &&& 6148914691236517205 : Nat) : Int) * 2) = ((x &&& 6148914691236517205 : Nat) : Int) * 2 := IntWalk.u64_in _ (by omega)
  have d2 : IntKind.u64.wrap (((y &&& 3689348814741910323 : Nat) : Int) * 4) = ((y &&& 3689348814741910323 : Nat) : Int) * 4 := IntWalk.u64_in _ (by omega)
  have d3 : IntKind.u64.wrap (((z &&& 1085102592571150095 : Nat) : Int) * 16) = ((z &&& 1085102592571150095 : Nat) : Int) * 16 := IntWalk.u64_in _ (by omega)
  generalize x &&& 6148914691236517205 = p at *
  generalize y &&& 3689348814741910323 = q at *
  generalize z &&& 1085102592571150095 = s at *
  have hx0 : (0 : Int) ≤ (x : Int) := by omega
  have hy0 : (0 : Int) ≤ (y : Int) := by omega
  have hz0 : (0 : Int) ≤ (z : Int) := by omega
  go_enter Tryd.func103, Tryd.ntmps103
  go_wp2_with fail
  refine (HB.out _).mono ?_
  rintro e w' ⟨rfl, rfl⟩
  go_wp2
  go_ret
  exact ⟨rfl, rfl⟩

theorem rev64_lt (x : Nat) (hx : x < 18446744073709551616) : rev64 x < 18446744073709551616 := by
  obtain ⟨_, _, _, a4⟩ := rb_bits x 1 6148914691236517205 hx (by omega)
  obtain ⟨_, _, _, b4⟩ := rb_bits _ 2 3689348814741910323 a4 (by omega)
  obtain ⟨_, _, _, c4⟩ := rb_bits _ 4 1085102592571150095 b4 (by omega)
  obtain ⟨_, _, _, d4⟩ := rb_bits _ 8 71777214294589695 c4 (by omega)
  obtain ⟨_, _, _, e4⟩ := rb_bits _ 16 281470681808895 d4 (by omega)
  exact Nat.or_lt_two_pow (n := 64) (Nat.lt_of_le_of_lt (Nat.div_le_self _ _) e4) (Nat.mod_lt _ (by omega))
theorem rev64_rev : ∀ L, L ≤ 10 → 1 ≤ L → ∀ i, i < 2 ^ L → rev64 i / 2 ^ (64 - L) &&& (2 ^ L - 1) = rev L i := by
  have h : ∀ L, L < 11 → 1 ≤ L → ∀ i, i < 2 ^ L → rev64 i / 2 ^ (64 - L) &&& (2 ^ L - 1) = rev L i := by decide +kernel
  exact fun L h1 => h L (by omega)

set_option maxHeartbeats 1000000 in
theorem ntt_turned (i L : Nat) (hL : L ≤ 10) (hL1 : 1 ≤ L) (hi : i < 2 ^ L) (w : World) :
    Calls Tryd.prog 83 #[.int .i64 i, .int .i64 L] w (RetI (rev L i) w) := by
  have hp : 2 ^ L ≤ 2 ^ 10 := Nat.pow_le_pow_right (by omega) hL
  have hp0 := Nat.two_pow_pos L
  have HR : Hid (∀ wz, Calls Tryd.prog 103 #[.int .u64 i] wz fun e w' => e = .returned (.int .u64 (rev64 i : Nat)) ∧ Below wz.heap.size wz w') := fun wz => (bits_Reverse64 i (by omega) wz).mono fun _ _ h => ⟨h.1, h.2 ▸ Below.refl _ _⟩
  have hrl := rev64_lt i (by omega)
  have hre := rev64_rev L hL hL1 i hi
  have hlt := rev_lt L i
  generalize rev L i = q at *
  generalize rev64 i = r at *
  have hand := bits_and_u64_nat (r / 2 ^ (64 - L)) (2 ^ L - 1) (Nat.lt_of_le_of_lt (Nat.div_le_self _ _) hrl) (by omega)
  rw [hre] at hand
  rw [Int.natCast_ediv, Int.natCast_pow, Int.ofNat_sub hp0, Int.natCast_pow] at hand
  simp only [Int.cast_ofNat_Int, Int.natCast_one] at hand
  obtain ⟨c, hc⟩ : ∃ c, 64 - L = c := ⟨_, rfl⟩
  rw [hc] at hand
  have hs : 64 - (L : Int) = (c : Int) := by omega
  have hi2 : (i : Int) ≤ 1024 := by omega
  have hq2 : (q : Int) ≤ 1024 := by omega
  have hr2 : (r : Int) ≤ 18446744073709551615 := by omega
  have hpp : (2 : Int) ^ L ≤ 1024 := by have := Int.natCast_pow 2 L; simp only [Int.cast_ofNat_Int] at this; omega
  have hpp0 : (1 : Int) ≤ (2 : Int) ^ L := by have := Int.natCast_pow 2 L; simp only [Int.cast_ofNat_Int] at this; omega
  have w1 : IntKind.u64.wrap (i : Int) = (i : Int) := IntWalk.u64_in _ (by omega)
  have w2 : IntKind.i64.wrap (c : Int) = (c : Int) := IntWalk.i64_in _ (by omega)
  have w3 : IntKind.u64.wrap ((2 : Int) ^ L) = (2 : Int) ^ L := IntWalk.u64_in _ (by omega)
  have w4 : IntKind.u64.wrap ((2 : Int) ^ L - 1) = (2 : Int) ^ L - 1 := IntWalk.u64_in _ (by omega)
  have w5 : IntKind.i64.wrap (q : Int) = (q : Int) := IntWalk.i64_in _ (by omega)
  have hc0 : (0 : Int) ≤ (c : Int) := by omega
  have hc64 : (c : Int) < 64 := by omega
  have hL0 : (0 : Int) ≤ (L : Int) := by omega
  have hL64 : (L : Int) < 64 := by omega
  clear hre hc hp hp0 hlt hrl
  go_enter Tryd.func83, Tryd.ntmps83
  go_wp2_with fail
  refine region_B (n := 11) (m := 12) (f := 11) (by kernel_rfl) (by kernel_rfl) rfl ?_
  refine WpH.takeD 0 (some 5) (v := ?_) rfl rfl (by kernel_rfl) (fun _ _ _ h => h) (.val rfl (fun wz hwz => ?_)) ?_
  rotate_left
  · go_simp; try (with_reducible rfl)
  (simp only [Act.put]); (try simp only [List.setIfInBounds_toArray]); (try simp only [List.set_cons_succ]); (try simp only [List.set_cons_zero])
  refine WpH.takeD 1 (some 6) (v := ?_) rfl rfl (by kernel_rfl) (fun _ _ _ h => h) (.val rfl (fun wz hwz => ?_)) ?_
  rotate_left
  · go_simp; try (with_reducible rfl)
  (simp only [Act.put]); (try simp only [List.setIfInBounds_toArray]); (try simp only [List.set_cons_succ]); (try simp only [List.set_cons_zero])
  refine WpH.takeD 2 (some 7) rfl rfl (by kernel_rfl) (fun _ _ _ h => h) (.call rfl (fun wz hwz => HR.out wz) (fun wz hwz => ?_)) ?_
  · go_simp; try (with_reducible rfl)
  (simp only [Act.put]); (try simp only [List.setIfInBounds_toArray]); (try simp only [List.set_cons_succ]); (try simp only [List.set_cons_zero])
  refine WpH.takeD 3 (some 8) (v := ?_) rfl rfl (by kernel_rfl) (fun _ _ _ h => h) (.val rfl (fun wz hwz => ?_)) ?_
  rotate_left
  · go_simp; try (with_reducible rfl)
  (simp only [Act.put]); (try simp only [List.setIfInBounds_toArray]); (try simp only [List.set_cons_succ]); (try simp only [List.set_cons_zero])
  refine WpH.takeD 4 (some 9) (v := ?_) rfl rfl (by kernel_rfl) (fun _ _ _ h => h) (.val rfl (fun wz hwz => ?_)) ?_
  rotate_left
  · go_simp; try (with_reducible rfl)
  (simp only [Act.put]); (try simp only [List.setIfInBounds_toArray]); (try simp only [List.set_cons_succ]); (try simp only [List.set_cons_zero])
  refine WpH.takeD 5 (some 10) (v := ?_) rfl rfl (by kernel_rfl) (fun _ _ _ h => h) (.val rfl (fun wz hwz => ?_)) ?_
  rotate_left
  · go_simp; try (with_reducible rfl)
  (simp only [Act.put]); (try simp only [List.setIfInBounds_toArray]); (try simp only [List.set_cons_succ]); (try simp only [List.set_cons_zero])
  refine WpH.takeD 6 (some 11) (v := ?_) rfl rfl (by kernel_rfl) (fun _ _ _ h => h) (.val rfl (fun wz hwz => ?_)) ?_
  rotate_left
  · go_simp; try (with_reducible rfl)
  (simp only [Act.put]); (try simp only [List.setIfInBounds_toArray]); (try simp only [List.set_cons_succ]); (try simp only [List.set_cons_zero])
  refine WpH.takeD 7 (some 12) (v := ?_) rfl rfl (by kernel_rfl) (fun _ _ _ h => h) (.val rfl (fun wz hwz => ?_)) ?_
  rotate_left
  · go_simp; try (with_reducible rfl)
  (simp only [Act.put]); (try simp only [List.setIfInBounds_toArray]); (try simp only [List.set_cons_succ]); (try simp only [List.set_cons_zero])
  refine WpH.takeD 8 (some 13) (v := ?_) rfl rfl (by kernel_rfl) (fun _ _ _ h => h) (.val rfl (fun wz hwz => ?_)) ?_
  rotate_left
  · go_simp; try (with_reducible rfl)
  (simp only [Act.put]); (try simp only [List.setIfInBounds_toArray]); (try simp only [List.set_cons_succ]); (try simp only [List.set_cons_zero])
  refine WpH.takeD 9 (some 14) (v := ?_) rfl rfl (by kernel_rfl) (fun _ _ _ h => h) (.val rfl (fun wz hwz => ?_)) ?_
  rotate_left
  · go_simp; try (with_reducible rfl)
  (simp only [Act.put]); (try simp only [List.setIfInBounds_toArray]); (try simp only [List.set_cons_succ]); (try simp only [List.set_cons_zero])
  refine WpH.takeD 10 (some 15) (v := ?_) rfl rfl (by kernel_rfl) (fun _ _ _ h => h) (.val rfl (fun wz hwz => ?_)) ?_
  rotate_left
  · go_simp; try (with_reducible rfl)
  (simp only [Act.put]); (try simp only [List.setIfInBounds_toArray]); (try simp only [List.set_cons_succ]); (try simp only [List.set_cons_zero])
  refine WpH.doneB (by kernel_rfl) (fun w2 hw2 => ?_)
  (try simp only [List.drop_succ_cons]); (try simp only [List.drop_zero]); (try simp only [Nat.reduceSub]); (try simp only [List.take_succ_cons]); (try simp only [List.take_zero])
  go_wp2
  go_ret
  exact ⟨rfl, hw2⟩

end Go.Proofs.YtfhmineolncefaaDoor
