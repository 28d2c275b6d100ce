/-
  PURE MATHEMATICS: division of polynomials, what goes into what, interpolation, Lagrange's weights.
-/
/-
  PURE MATHEMATICS: the program's roots of 1; the number n in the field.
-/
/-
  ROWS OF ELEMENTS THAT ARE WRITTEN IN PLACE; a row that a call made.
-/
/-
  WALKS: the roots of 1: gold.Root, wide.Root, field.Root; field.Powers.
-/
/-
  THE LAW ON REGIONS THAT DRAW, its ways met again: whatever the order, the frame behind is the same function of what is made anew.
-/
/-
  A LAW ON REGIONS THAT DRAW THEIR ORDER, of any program, in which what is known may turn (a call that writes what is captured): T is known from the first to the last, S is known now.
-/
import Derived.Test.YtfhmineolncefaaDoorMan
import Derived.Test.YtfhmineolncefaaDoorMam
import Derived.Test.YtfhmineolncefaaDoorMal
import Derived.Test.YtfhmineolncefaaDoorMag
import Derived.Test.YtfhmineolncefaaDoorMah
import Derived.Test.YtfhmineolncefaaDoorMaf
namespace Go.Proofs.YtfhmineolncefaaDoor.Fm
set_option linter.unusedVariables false

section
variable {f : Nat}

theorem set_getD (p : List (Fin (Pm f))) (k : Nat) (v : Fin (Pm f)) (hk : k < p.length) (i : Nat) : (p.set k v).getD i 0 = if i = k then v else p.getD i 0 := by
  simp only [List.getD_eq_getElem?_getD, List.getElem?_set]
  by_cases h : i = k
  · subst h
    rw [if_pos rfl, if_pos hk, if_pos rfl]
    rfl
  · rw [if_neg (Ne.symm h), if_neg h]
theorem ev_set (x : Fin (Pm f)) (p : List (Fin (Pm f))) (k : Nat) (v : Fin (Pm f)) (hk : k < p.length) : ev x (p.set k v) = ev x p + (v - p.getD k 0) * kpow x k := by
  rw [ev_sm, List.length_set, ev_sm, sm_congr (h := fun i => p.getD i 0 * kpow x i + (if i = k then (v - p.getD k 0) * kpow x k else 0)) (fun i _ => ?_), sm_add]
  · rw [sm_one (k := k) hk (fun i _ hi => if_neg hi), if_pos rfl]
  · rw [set_getD p k v hk]
    by_cases h : i = k
    · subst h
      rw [if_pos rfl, if_pos rfl]
      grind
    · rw [if_neg h, if_neg h]
      grind

/-- what is left within a step of a division: c times b, from place k on, is taken away as far as place i of b -/
def dstep (p b : List (Fin (Pm f))) (c : Fin (Pm f)) (k i : Nat) : List (Fin (Pm f)) := ofF p.length fun j => p.getD j 0 - if k ≤ j ∧ j < k + i then c * b.getD (j - k) 0 else 0
theorem dstep_zero (p b : List (Fin (Pm f))) (c : Fin (Pm f)) (k : Nat) : dstep p b c k 0 = p := (eq_ofF rfl fun j _ => by rw [if_neg (by omega)]; grind).symm
theorem dstep_length (p b : List (Fin (Pm f))) (c : Fin (Pm f)) (k i : Nat) : (dstep p b c k i).length = p.length := ofF_length ..
theorem dstep_at (p b : List (Fin (Pm f))) (c : Fin (Pm f)) (k i : Nat) (h : k + i < p.length) : (dstep p b c k i).getD (k + i) 0 = p.getD (k + i) 0 := by
  unfold dstep
  rw [ofF_getD, if_pos h, if_neg (by omega)]
  grind
theorem dstep_next (p b : List (Fin (Pm f))) (c : Fin (Pm f)) (k i : Nat) (h : k + i < p.length) : (dstep p b c k i).set (k + i) (p.getD (k + i) 0 - c * b.getD i 0) = dstep p b c k (i + 1) := by
  unfold dstep
  refine ofF_set _ _ _ _ _ ?_ fun j _ hj => ?_
  · rw [if_pos (by omega), Nat.add_sub_cancel_left]
  · by_cases h1 : k ≤ j ∧ j < k + i
    · rw [if_pos h1, if_pos (by omega)]
    · rw [if_neg h1, if_neg (by omega)]
theorem dstep_ev (p b : List (Fin (Pm f))) (c : Fin (Pm f)) (k : Nat) (h : p.length = k + b.length) (x : Fin (Pm f)) : ev x (dstep p b c k b.length) = ev x p - c * kpow x k * ev x b := by
  unfold dstep
  rw [ofF_ev, show (fun j => (p.getD j 0 - if k ≤ j ∧ j < k + b.length then c * b.getD (j - k) 0 else 0) * kpow x j) = fun j => p.getD j 0 * kpow x j - (if k ≤ j ∧ j < k + b.length then c * b.getD (j - k) 0 else 0) * kpow x j from funext fun j => by grind,
    sm_sub, ← ev_sm, h, sm_split, sm_none (g := fun j => (if k ≤ j ∧ j < k + b.length then c * b.getD (j - k) 0 else 0) * kpow x j) (n := k) (fun j hj => by rw [if_neg (by omega)]; grind)]
  rw [sm_congr (h := fun i => c * kpow x k * (b.getD i 0 * kpow x i)) (fun i hi => by
    rw [if_pos (by omega), Nat.add_sub_cancel_left, kpow_add]
    grind), sm_mul, ← ev_sm]
  grind
/-- the highest coefficient is gone -/
theorem dstep_trim (p b : List (Fin (Pm f))) (c : Fin (Pm f)) (k : Nat) (h : p.length = k + b.length) (hb : 0 < b.length) (hc : c * b.getD (b.length - 1) 0 = p.getD (p.length - 1) 0) : (trim (dstep p b c k b.length)).length < p.length := by
  apply Nat.lt_of_not_le
  intro hge
  have hl := trim_le (dstep p b c k b.length)
  rw [dstep_length] at hl
  have he : (trim (dstep p b c k b.length)).length = p.length := by omega
  have h1 := trim_last (dstep p b c k b.length) (List.ne_nil_of_length_pos (by omega))
  apply h1
  rw [he, trim_getD]
  unfold dstep
  rw [ofF_getD, if_pos (by omega), if_pos (by omega), show p.length - 1 - k = b.length - 1 by omega, hc]
  grind

/-! ### what goes into what -/
/-- d goes into z -/
def Dv (d z : List (Fin (Pm f))) : Prop := ∃ u : List (Fin (Pm f)), u.length ≤ 100000 ∧ ∀ x, ev x z = ev x u * ev x d
theorem trim_zero {p : List (Fin (Pm f))} (hp : p.length ≤ 1000000) (h : ∀ x, ev x p = 0) : trim p = [] := by
  have h1 := trim_ev (p := p) (q := []) hp (by simp) (fun x => by rw [h, ev_nil])
  exact h1
/-- a trimmed polynomial that is as another one times a trimmed one is no shorter than this, or nought -/
theorem mul_short {w d z : List (Fin (Pm f))} (hw : w.length ≤ 400000) (hd : d.length ≤ 400000) (hz : z.length < d.length) (hd0 : trim d = d) (h : ∀ x, ev x z = ev x w * ev x d) : trim z = [] := by
  by_cases h0 : trim w = []
  · refine trim_zero (by omega) fun x => ?_
    rw [h, ← ev_trim x w, h0, ev_nil]
    grind
  · exfalso
    have hne : d ≠ [] := List.ne_nil_of_length_pos (by omega)
    have h1 := prodL_trim (p := trim w) (q := d) (trim_trim w) hd0 h0 hne
    have hl : (prodL (trim w) d).length = (trim w).length + d.length - 1 := ofF_length ..
    have hwl := trim_le w
    have hw1 : 0 < (trim w).length := List.length_pos_iff.2 h0
    have h2 := trim_ev (p := z) (q := prodL (trim w) d) (by omega) (by omega) (fun x => by rw [h, prodL_ev, ev_trim])
    rw [h1] at h2
    have h3 := trim_le z
    rw [h2, hl] at h3
    omega
/-- what is left is nought where it goes in -/
theorem Dv.rest {d z t r : List (Fin (Pm f))} (h : Dv d z) (hd : d.length ≤ 100000) (hd0 : trim d = d) (ht : t.length ≤ 100000) (hr : r.length < d.length) (hr0 : trim r = r) (he : ∀ x, ev x z = ev x t * ev x d + ev x r) : r = [] := by
  obtain ⟨u, hu, hue⟩ := h
  rw [← hr0]
  have key : ∀ x, ev x r = ev x (padd u (pscale (-1) t)) * ev x d := fun x => by
    rw [ev_padd, ev_pscale]
    have h1 := he x
    rw [hue x] at h1
    grind
  refine mul_short (w := padd u (pscale (-1) t)) (d := d) ?_ (by omega) hr hd0 key
  have h1 : (padd u (pscale (-1) t)).length ≤ max u.length (pscale (-1) t).length := by
    unfold padd
    exact Nat.le_trans (trim_le _) (by rw [ofF_length]; exact Nat.le_refl _)
  have h2 : (pscale (-1) t).length ≤ t.length := Nat.le_trans (trim_le _) (by rw [List.length_map]; exact Nat.le_refl _)
  omega
theorem padd_le (p q : List (Fin (Pm f))) : (padd p q).length ≤ max p.length q.length := by
  unfold padd
  exact Nat.le_trans (trim_le _) (by rw [ofF_length]; exact Nat.le_refl _)
theorem pscale_le (c : Fin (Pm f)) (p : List (Fin (Pm f))) : (pscale c p).length ≤ p.length := Nat.le_trans (trim_le _) (by rw [List.length_map]; exact Nat.le_refl _)
theorem prodL_length (p q : List (Fin (Pm f))) : (prodL p q).length = p.length + q.length - 1 := ofF_length ..
theorem pmul_le (p q : List (Fin (Pm f))) : (pmul p q).length ≤ p.length + q.length - 1 := Nat.le_trans (trim_le _) (by rw [prodL_length]; exact Nat.le_refl _)
/-- the quotient is no longer than what it goes into -/
theorem Dv.norm {d z : List (Fin (Pm f))} (h : Dv d z) (hd : d.length ≤ 100000) (hz : z.length ≤ 100000) : ∃ u : List (Fin (Pm f)), u.length ≤ z.length ∧ ∀ x, ev x z = ev x u * ev x d := by
  obtain ⟨u, hu, hue⟩ := h
  by_cases h0 : trim u = [] ∨ trim d = []
  · refine ⟨[], Nat.zero_le _, fun x => ?_⟩
    rw [hue, ev_nil]
    rcases h0 with h0 | h0
    · rw [← ev_trim x u, h0, ev_nil]
    · rw [← ev_trim x d, h0, ev_nil]
      grind
  · have hu0 : trim u ≠ [] := fun e => h0 (.inl e)
    have hd0 : trim d ≠ [] := fun e => h0 (.inr e)
    have h1 := prodL_trim (p := trim u) (q := trim d) (trim_trim u) (trim_trim d) hu0 hd0
    have hl := prodL_length (trim u) (trim d)
    have hu1 : 0 < (trim u).length := List.length_pos_iff.2 hu0
    have hd1 : 0 < (trim d).length := List.length_pos_iff.2 hd0
    have hul := trim_le u
    have hdl := trim_le d
    have h2 := trim_ev (p := z) (q := prodL (trim u) (trim d)) (by omega) (by omega) (fun x => by rw [hue, prodL_ev, ev_trim, ev_trim])
    rw [h1] at h2
    have h3 := trim_le z
    rw [h2, hl] at h3
    exact ⟨trim u, by omega, fun x => by rw [hue, ev_trim]⟩
theorem Dv.comb {g a b z t : List (Fin (Pm f))} (ha : Dv g a) (hb : Dv g b) (hg : g.length ≤ 10000) (hal : a.length ≤ 10000) (hbl : b.length ≤ 10000) (ht : t.length ≤ 10000) (he : ∀ x, ev x z = ev x t * ev x a + ev x b) : Dv g z := by
  obtain ⟨u, hu, hue⟩ := ha.norm (by omega) (by omega)
  obtain ⟨v, hv, hve⟩ := hb.norm (by omega) (by omega)
  refine ⟨padd (prodL t u) v, ?_, fun x => ?_⟩
  · have h1 := padd_le (prodL t u) v
    have h2 := prodL_length t u
    omega
  · rw [he, ev_padd, prodL_ev, hue, hve]
    grind
theorem Dv.refl (p : List (Fin (Pm f))) : Dv p p := ⟨[1], by simp, fun x => by rw [ev_cons, ev_nil]; grind⟩
theorem Dv.none (p : List (Fin (Pm f))) : Dv p [] := ⟨[], by simp, fun x => by rw [ev_nil]; grind⟩
theorem Dv.of {u d z : List (Fin (Pm f))} (hu : u.length ≤ 100000) (h : ∀ x, ev x z = ev x u * ev x d) : Dv d z := ⟨u, hu, h⟩
/-- by a scaled one -/
theorem Dv.scaled {d z e : List (Fin (Pm f))} (h : Dv d z) (c k : Fin (Pm f)) (hck : c * k = 1) (he : ∀ x, ev x e = ev x d * c) : Dv e z := by
  obtain ⟨u, hu, hue⟩ := h
  refine ⟨pscale k u, Nat.le_trans (pscale_le k u) hu, fun x => ?_⟩
  rw [ev_pscale, he, hue]
  grind
theorem Dv.into {d z e : List (Fin (Pm f))} (h : Dv d z) (c : Fin (Pm f)) (he : ∀ x, ev x e = ev x z * c) : Dv d e := by
  obtain ⟨u, hu, hue⟩ := h
  refine ⟨pscale c u, Nat.le_trans (pscale_le c u) hu, fun x => ?_⟩
  rw [ev_pscale, he, hue]
  grind

/-! ### Lagrange -/
/-- a number that is no power of a root of order n is no root of X^n - 1 -/
theorem Rt.only {r x : Fin (Pm f)} {L : Nat} (h : Rt r L) (hL : L ≤ 60) (hx : kpow x (2 ^ L) = 1) : ∃ k, k < 2 ^ L ∧ x = kpow r k := by
  apply Classical.byContradiction
  intro hno
  have h2 : 2 ^ L ≤ 2 ^ 60 := Nat.pow_le_pow_right (by omega) hL
  have hroot : ∀ y, kpow y (2 ^ L) = 1 → ev y ((-1 : Fin (Pm f)) :: (List.replicate (2 ^ L - 1) 0 ++ [1])) = 0 := fun y hy => by
    rw [ev_cons, ev_append, ev_zeros, List.length_replicate, ev_cons, ev_nil]
    have h3 : kpow y (2 ^ L) = kpow y (2 ^ L - 1) * y := by rw [← kpow_succ]; congr 1; have := Nat.two_pow_pos L; omega
    grind
  have hz := zero_poly (2 ^ L + 1) ((-1 : Fin (Pm f)) :: (List.replicate (2 ^ L - 1) 0 ++ [1])) (by simp; have := Nat.two_pow_pos L; omega) (x :: (List.range (2 ^ L)).map fun k => kpow r k) (by
    rw [List.nodup_cons]
    constructor
    · intro hm
      obtain ⟨k, hk, he⟩ := List.mem_map.1 hm
      exact hno ⟨k, List.mem_range.1 hk, he.symm⟩
    · rw [List.Nodup, List.pairwise_map]
      exact List.Pairwise.imp_of_mem (fun {a b} ha hb hne e => hne (h.inj (List.mem_range.1 ha) (List.mem_range.1 hb) e)) List.nodup_range) (by simp) (fun y hy => by
    rcases List.mem_cons.1 hy with rfl | hy
    · exact hroot _ hx
    · obtain ⟨k, hk, rfl⟩ := List.mem_map.1 hy
      refine hroot _ ?_
      rw [← kpow_mul, Nat.mul_comm, kpow_mul, h.one, one_kpow]) 0
  rw [List.getD_cons_zero] at hz
  exact k_one_ne (f := f) (by grind)
/-- the weights' sum of the values is the polynomial's value -/
theorem lagrange {r s m x : Fin (Pm f)} {L : Nat} (hr : Rt r L) (hs : r * s = 1) (v : List (Fin (Pm f))) (hv : v.length = 2 ^ L) (d : Nat → Fin (Pm f)) (hd : ∀ k, k < 2 ^ L → (x - kpow r k) * d k = 1) :
    sm (fun k => (kpow x (2 ^ L) - 1) * m * kpow r k * d k * v.getD k 0) (2 ^ L) = ev x (coefs s m (2 ^ L) v) := by
  have e : ∀ n, kpow r n * kpow s n = 1 := fun n => by rw [← mul_kpow, hs, one_kpow]
  have hss := hr.inv hs
  unfold coefs
  have hR : sm (fun i => ev (kpow s i) v * m * kpow x i) (2 ^ L) = sm (fun i => sm (fun k => m * v.getD k 0 * kpow (x * kpow s k) i) (2 ^ L)) (2 ^ L) := sm_congr fun i hi => by
    rw [ev_sm, hv, ← sm_mulr, ← sm_mulr]
    refine sm_congr fun k _ => ?_
    rw [mul_kpow, ← kpow_mul, ← kpow_mul, Nat.mul_comm k i]
    grind
  rw [ofF_ev, hR, sm_swap]
  refine sm_congr fun k hk => ?_
  rw [sm_mul]
  have hg := geo (x * kpow s k) (2 ^ L)
  rw [mul_kpow, ← kpow_mul, Nat.mul_comm k, kpow_mul s, hss.one, one_kpow] at hg
  have h1 := e k
  have h2 := hd k hk
  have h3 : (x - kpow r k) * kpow s k = x * kpow s k - 1 := by grind
  have h4 : (x * kpow s k - 1) * (d k * kpow r k) = 1 := by
    rw [← h3]
    grind
  have hfin : ∀ S X rk dk vk xs : Fin (Pm f), (xs - 1) * S = X * 1 - 1 → (xs - 1) * (dk * rk) = 1 → (X - 1) * m * rk * dk * vk = m * vk * S := by
    intro S X rk dk vk xs a1 a2
    have a3 : X - 1 = (xs - 1) * S := by grind
    rw [a3]
    grind
  exact hfin _ _ _ _ _ _ hg h4
end

end Go.Proofs.YtfhmineolncefaaDoor.Fm

namespace Go.Proofs.YtfhmineolncefaaDoor.Fm
set_option linter.unusedVariables false

/-- 7, as an element -/
def seven (f : Nat) : Fin (Pm f) := ⟨7, by unfold Pm; split <;> decide⟩
theorem seven_order (f : Nat) : kpow (seven f) (Pm f - 1) = 1 ∧ ∀ d, 0 < d → d < Pm f - 1 → kpow (seven f) d ≠ 1 := by
  by_cases h : f = 1
  · subst h
    exact ⟨gen1.one, gen1.order⟩
  · have e : Pm f = P2 := by unfold Pm; rw [if_neg h]
    have key : ∀ (q : Nat) [NeZero q] (hq : q = P2) (h7 : 7 < q), kpow (⟨7, h7⟩ : Fin q) (q - 1) = 1 ∧ ∀ d, 0 < d → d < q - 1 → kpow (⟨7, h7⟩ : Fin q) d ≠ 1 := by
      intro q _ hq
      subst hq
      exact fun _ => ⟨gen2.one, gen2.order⟩
    exact key _ e _
/-- the root of order 2^L -/
def rootK (f L : Nat) : Fin (Pm f) := kpow (seven f) ((Pm f - 1) / 2 ^ L)
theorem pm_div (f L : Nat) (hL : L ≤ 32) : (Pm f - 1) / 2 ^ L * 2 ^ L = Pm f - 1 := by
  have h32 : 2 ^ 32 ∣ Pm f - 1 := by unfold Pm; split <;> decide
  exact Nat.div_mul_cancel (Nat.dvd_trans (Nat.pow_dvd_pow 2 hL) h32)
theorem rt_root (f L : Nat) (hL : L ≤ 32) : Rt (rootK f L) L := by
  obtain ⟨h1, h2⟩ := seven_order f
  have hd := pm_div f L hL
  have hb := Pm_big f
  refine ⟨?_, fun d h3 h4 => ?_⟩
  · unfold rootK
    rw [← kpow_mul, hd, h1]
  · unfold rootK
    rw [← kpow_mul]
    have hq : 0 < (Pm f - 1) / 2 ^ L := by
      apply Nat.pos_of_ne_zero
      intro e
      rw [e] at hd
      omega
    refine h2 _ (Nat.mul_pos hq h3) ?_
    have h5 := Nat.mul_lt_mul_of_pos_left h4 hq
    omega
theorem root_zero (f : Nat) : rootK f 0 = 1 := by
  have h := (rt_root f 0 (by omega)).one
  rwa [Nat.pow_zero, kpow_one] at h
theorem root_sq_of (f L : Nat) (h : 2 ^ (L + 1) ∣ Pm f - 1) : rootK f (L + 1) * rootK f (L + 1) = rootK f L := by
  have h1 : (Pm f - 1) / 2 ^ (L + 1) * 2 ^ (L + 1) = Pm f - 1 := Nat.div_mul_cancel h
  have h2 : (Pm f - 1) / 2 ^ L * 2 ^ L = Pm f - 1 := Nat.div_mul_cancel (Nat.dvd_trans (Nat.pow_dvd_pow 2 (by omega)) h)
  unfold rootK
  rw [← kpow_add]
  congr 1
  refine Nat.eq_of_mul_eq_mul_right (Nat.two_pow_pos L) ?_
  rw [h2, ← Nat.two_mul, Nat.mul_comm 2, Nat.mul_assoc, Nat.mul_comm 2, ← Nat.pow_succ, h1]
theorem root_sq (f L : Nat) (hL : L < 32) : rootK f (L + 1) * rootK f (L + 1) = rootK f L := by
  have h1 := pm_div f (L + 1) (by omega)
  have h2 := pm_div f L (by omega)
  unfold rootK
  rw [← kpow_add]
  congr 1
  refine Nat.eq_of_mul_eq_mul_right (Nat.two_pow_pos L) ?_
  rw [h2, ← Nat.two_mul, Nat.mul_comm 2, Nat.mul_assoc, Nat.mul_comm 2, ← Nat.pow_succ, h1]

/-- the number n -/
theorem nn_val (f : Nat) : ∀ n, n < Pm f → (nn f n).val = n
  | 0, _ => rfl
  | n + 1, h => by
    have h1 := nn_val f n (by omega)
    have hb := Pm_big f
    show (nn f n + 1).val = n + 1
    have h2 : (1 : Fin (Pm f)).val = 1 % Pm f := rfl
    rw [Fin.val_add, h1, h2, Nat.mod_eq_of_lt (a := 1) (by omega), Nat.mod_eq_of_lt h]
theorem nn_ne (f n : Nat) (h0 : 0 < n) (h : n < Pm f) : nn f n ≠ 0 := by
  intro e
  have h1 := nn_val f n h
  rw [e] at h1
  have : (0 : Fin (Pm f)).val = 0 := rfl
  omega

section
variable {f : Nat}
/-- the values of the program's own transform -/
abbrev valsK (L : Nat) (p : List (Fin (Pm f))) : List (Fin (Pm f)) := vals (rootK f L) (2 ^ L) p
abbrev coefsK (L : Nat) (v : List (Fin (Pm f))) : List (Fin (Pm f)) := coefs (kinv (rootK f L)) (kinv (nn f (2 ^ L))) (2 ^ L) v
theorem two_pow_lt {f L : Nat} (hL : L ≤ 32) : 2 ^ L < Pm f := Nat.lt_of_le_of_lt (Nat.pow_le_pow_right (by omega) hL) (by have := Pm_big f; omega)
theorem coefsK_vals {L : Nat} (hL : L ≤ 32) (p : List (Fin (Pm f))) (hp : p.length = 2 ^ L) : coefsK L (valsK L p) = p :=
  coefs_vals (rt_root f L hL) (mul_kinv _ (rt_root f L hL).ne_zero) (mul_kinv _ (nn_ne f _ (Nat.two_pow_pos L) (two_pow_lt hL))) p hp
theorem valsK_coefs {L : Nat} (hL : L ≤ 32) (v : List (Fin (Pm f))) (hv : v.length = 2 ^ L) : valsK L (coefsK L v) = v :=
  vals_coefs (rt_root f L hL) (mul_kinv _ (rt_root f L hL).ne_zero) (mul_kinv _ (nn_ne f _ (Nat.two_pow_pos L) (two_pow_lt hL))) v hv
theorem valsK_length (L : Nat) (p : List (Fin (Pm f))) : (valsK L p).length = 2 ^ L := ofF_length ..
theorem coefsK_length (L : Nat) (p : List (Fin (Pm f))) : (coefsK L p).length = 2 ^ L := ofF_length ..
/-- the product by the transform -/
theorem prod_vals {L : Nat} (hL : L ≤ 32) (p q : List (Fin (Pm f))) (h : p.length + q.length ≤ 2 ^ L + 1) :
    coefsK L (ofF (2 ^ L) fun k => (valsK L (p ++ List.replicate (2 ^ L - p.length) 0)).getD k 0 * (valsK L (q ++ List.replicate (2 ^ L - q.length) 0)).getD k 0) = prodL p q ++ List.replicate (2 ^ L - (prodL p q).length) 0 := by
  have hl : (prodL p q).length = p.length + q.length - 1 := ofF_length ..
  have hpos := Nat.two_pow_pos L
  rw [← coefsK_vals hL (prodL p q ++ List.replicate (2 ^ L - (prodL p q).length) 0) (by rw [List.length_append, List.length_replicate]; omega)]
  congr 1
  refine ofF_congr fun k hk => ?_
  show (vals _ _ _).getD k 0 * (vals _ _ _).getD k 0 = _
  unfold vals
  rw [ofF_getD, if_pos hk, ofF_getD, if_pos hk, ev_pad, ev_pad, ev_pad, prodL_ev]
end

end Go.Proofs.YtfhmineolncefaaDoor.Fm

namespace Go.Proofs.YtfhmineolncefaaDoor
open Go.RowKit Fm
set_option linter.unusedVariables false
set_option maxRecDepth 100000

section
variable {f : Nat}

/-- block g holds the elements l, from its head on, and may be written -/
def RwK (w : World) (g : Nat) (l : KL f) : Prop := Vs w g (cellsE (esK l))
theorem cellsE_len {l : KL f} : (cellsE (esK l)).length = l.length * 2 := by rw [length_cellsE, esK_length]
theorem RwK.call {w w' : World} {g : Nat} {l : KL f} (h : RwK w g l) (hb : Below w.heap.size w w') : RwK w' g l := Vs.call h hb
theorem RwK.alloc {w : World} {g : Nat} {l : KL f} (h : RwK w g l) (o : Obj) : RwK (w.alloc o) g l := Vs.alloc h o
theorem RwK.drew {w : World} {g : Nat} {l : KL f} (h : RwK w g l) : RwK w.drew g l := Vs.drew h
theorem RwK.far {w : World} {g : Nat} {l : KL f} (h : RwK w g l) {p : Addr} (hp : p.block ≠ g) (x : Value) : RwK (w.setCell p x) g l := Vs.far h hp x
theorem RwK.at {w : World} {g : Nat} {l : KL f} (h : RwK w g l) {i : Nat} {x : Fin (Pm f)} (hx : l[i]? = some x) :
    w.cell? ⟨g, i * 2, none⟩ = some (.int .u64 (lo x)) ∧ w.cell? ⟨g, i * 2 + 1, none⟩ = some (.int .u64 (hi x)) := by
  obtain ⟨h1, h2⟩ := cellsE_at (esK l) i _ (esK_at hx)
  exact ⟨h.cell _ _ h1, h.cell _ _ h2⟩
theorem RwK.frz {w : World} {g : Nat} {l : KL f} (h : RwK w g l) {i : Nat} (hi : i < l.length) : w.frozen? ⟨g, i * 2, none⟩ = false ∧ w.frozen? ⟨g, i * 2 + 1, none⟩ = false :=
  ⟨Vs.frz h _ (by rw [cellsE_len]; omega), Vs.frz h _ (by rw [cellsE_len]; omega)⟩
theorem esK_set (l : KL f) (i : Nat) (x : Fin (Pm f)) : esK (l.set i x) = (esK l).set i (lo x, hi x) := by
  unfold esK
  rw [List.map_set]
  rfl
theorem RwK.set {w : World} {g : Nat} {l : KL f} (h : RwK w g l) (i : Nat) (hi : i < l.length) (x : Fin (Pm f)) :
    RwK ((w.setCell ⟨g, i * 2, none⟩ (.int .u64 (lo x))).setCell ⟨g, i * 2 + 1, none⟩ (.int .u64 (Go.Proofs.YtfhmineolncefaaDoor.hi x))) g (l.set i x) := by
  have h2 := Vs.put (Vs.put h (i * 2) (by rw [cellsE_len]; omega) (.int .u64 (lo x))) (i * 2 + 1) (by rw [List.length_set, cellsE_len]; omega) (.int .u64 (Go.Proofs.YtfhmineolncefaaDoor.hi x))
  unfold RwK
  rw [esK_set, ← cellsE_set]
  exact h2
theorem RwK.row {w : World} {g : Nat} {l : KL f} (h : RwK w g l) : RowE w g 0 (esK l) := fun i e hi => by
  obtain ⟨h1, h2⟩ := cellsE_at (esK l) i e hi
  rw [Nat.zero_add]
  exact ⟨h.cell _ _ h1, h.cell _ _ h2⟩
theorem RwK.sl {w : World} {g n c : Nat} {l : KL f} (h : RwK w g l) (hl : l.length = n) (hc : n ≤ c) (hm : c ≤ 9223372036854775807) : SlK w w.heap.size (.slice (some ⟨g, 0, none⟩) n c) l := by
  subst hl
  exact ⟨_, c, rfl, hc, hm, fun _ => ⟨g, 0, rfl, h.lt, h.row⟩⟩
theorem BlkE.rw {w : World} {g : Nat} {l : KL f} (h : BlkE w g (esK l)) : RwK w g l :=
  ⟨fun i v hi => (h.cell i).trans hi, fun i _ => h.frozen i, h.lt⟩
theorem own_rw {w : World} {base g n c : Nat} {l : KL f} (h : w.ownsRow base 28 2 (.slice (some ⟨g, 0, none⟩) n c) n (cellsE (esK l))) : RwK w g l ∧ base ≤ g ∧ n ≤ c ∧ c ≤ 9223372036854775807 ∧ l.length = n := by
  have hl := h.1
  rw [cellsE_len] at hl
  rcases h.2 with ⟨hv, _⟩ | ⟨g', cap, cur, hv, hb, hg, hnc, hcm, hcs, ht⟩
  · cases hv
  · injection hv with e1 e2 e3
    injection e1 with e1
    injection e1 with e1
    subst e1
    subst e3
    refine ⟨⟨fun i v hi => ?_, fun i hi => ?_, ?_⟩, hb, hnc, hcm, by omega⟩
    · rw [← ht] at hi
      have hlt : i < n * 2 := by
        obtain ⟨h1, _⟩ := List.getElem?_eq_some_iff.1 hi
        rw [List.length_take] at h1
        omega
      rw [List.getElem?_take_of_lt hlt] at hi
      simp [World.cell?, hg]
      simpa using hi
    · simp [World.frozen?, hg]
    · exact (Array.getElem?_eq_some_iff.1 hg).1
/-- a row of the call's own: the nil slice, or a row that may be written -/
theorem own_cases {w : World} {base : Nat} {v : Value} {l : KL f} (h : w.ownsRow base 28 2 v l.length (cellsE (esK l))) :
    (v = .slice none 0 0 ∧ l = []) ∨ ∃ g c, v = .slice (some ⟨g, 0, none⟩) l.length c ∧ RwK w g l ∧ base ≤ g ∧ l.length ≤ c ∧ c ≤ 9223372036854775807 := by
  rcases h.2 with ⟨hv, hn⟩ | ⟨g, cap, cur, hv, _⟩
  · exact .inl ⟨hv, List.length_eq_zero_iff.1 hn⟩
  · subst hv
    obtain ⟨h1, h2, h3, h4, _⟩ := own_rw h
    exact .inr ⟨g, cap, rfl, h1, h2, h3, h4⟩

theorem V2.belowB {w w' : World} {B b : Nat} {u v : Value} (h : V2 w b u v) (hb : Below B w w') (hlt : b < B) : V2 w' b u v := ((Vs.of2 h).belowB hb hlt).to2
theorem RwK.belowB {w w' : World} {B g : Nat} {l : KL f} (h : RwK w g l) (hb : Below B w w') (hlt : g < B) : RwK w' g l := Vs.belowB h hb hlt
/-- a row of the call's own, a variable elsewhere being written -/
theorem own_st {w : World} {base b : Nat} {e : TypeId} {size : Nat} {v : Value} {n : Nat} {xs : List Value} (h : w.ownsRow base e size v n xs) (hb : b < base) (x y : Value) : ((w.setCell ⟨b, 0, none⟩ x).setCell ⟨b, 1, none⟩ y).ownsRow base e size v n xs :=
  ownsRow_setCell_below (ownsRow_setCell_below h hb _) hb _

theorem SlK.rowOf {w : World} {B n c : Nat} {A : Option Addr} {l : KL f} (h : SlK w B (.slice A n c) l) (hn : 0 < l.length) : ∃ b o, A = some ⟨b, o, none⟩ ∧ b < B ∧ RowE w b o (esK l) := by
  obtain ⟨A', c', e, _, _, h3⟩ := h
  injection e with e1 _ _
  subst e1
  exact h3 hn

/-- a row of exactly so many comes back -/
def RetBlk (l : KL f) (w : World) (e : Ending) (w' : World) : Prop := ∃ g, e = .returned (.slice (some ⟨g, 0, none⟩) l.length l.length) ∧ RwK w' g l ∧ w.heap.size ≤ g ∧ Below w.heap.size w w'
/-- the same, and no error -/
def RetBlk0 (l : KL f) (w : World) (e : Ending) (w' : World) : Prop := ∃ g, e = .returned (.tuple #[.slice (some ⟨g, 0, none⟩) l.length l.length, .int .i64 0]) ∧ RwK w' g l ∧ w.heap.size ≤ g ∧ Below w.heap.size w w'
/-- a row of the call's own, and no error -/
def RetOwn0 (l : KL f) (w : World) (e : Ending) (w' : World) : Prop :=
  ∃ v, e = .returned (.tuple #[v, .int .i64 0]) ∧ w'.ownsRow w.heap.size 28 2 v l.length (cellsE (esK l)) ∧ Below w.heap.size w w'

theorem kpw_fm (x : Fin (Pm f)) : ∀ n, kpw x n = Fm.kpow x n
  | 0 => rfl
  | n + 1 => by rw [kpw, Fm.kpow_succ, kpw_fm x n]
theorem kinv_fm (x : Fin (Pm f)) : kinv x = Fm.kinv x := by
  unfold kinv Fm.kinv
  rw [kpw_fm]
theorem horner_ev (x : Fin (Pm f)) (p : KL f) : horner x p = ev x p := rfl
theorem nn_nK : ∀ n, nn f n = nK f n
  | 0 => (nK_zero f).symm
  | n + 1 => by
    rw [nK_add, nK_one, ← nn_nK n]
    rfl
end

end Go.Proofs.YtfhmineolncefaaDoor

namespace Go.Proofs.YtfhmineolncefaaDoor
open Go.RowKit Fm
set_option linter.unusedVariables false
set_option maxRecDepth 100000

theorem sq_down (f R k : Nat) (h : 2 ^ R ∣ Pm f - 1) (hk : k < R) : rootK f (R - k) * rootK f (R - k) = rootK f (R - (k + 1)) := by
  have h2 := root_sq_of f (R - (k + 1)) (Nat.dvd_trans (Nat.pow_dvd_pow 2 (by omega)) h)
  rwa [show R - (k + 1) + 1 = R - k by omega] at h2

/-- numbers of the small field -/
theorem lo_small (z : Fin (Pm 1)) : lo z = ((z.val : Nat) : Int) ∧ hi z = 0 := by
  have h1 := z.isLt
  have h2 : Pm 1 = 18446744069414584321 := rfl
  exact vK_of (by omega) (by omega) (by omega)
theorem gold_MulS (x y : Fin (Pm 1)) (w : World) : Calls Tryd.prog 70 #[.int .u64 (lo x), .int .u64 (lo y)] w fun e w' => e = .returned (.int .u64 (lo (x * y))) ∧ w = w' := by
  have hp : ((Pm 1 : Nat) : Int) = 18446744069414584321 := rfl
  rw [(lo_small (x * y)).1, val_mul, ← (lo_small x).1, ← (lo_small y).1, hp]
  exact gold_Mul _ _ w (lo_0 x) (lo_1 x) (lo_0 y) (lo_1 y)
theorem gold_PowS (x : Fin (Pm 1)) (n : Nat) (hn : n ≤ 18446744073709551615) (w : World) : Calls Tryd.prog 99 #[.int .u64 (lo x), .int .u64 n] w fun e w' => e = .returned (.int .u64 (lo (Fm.kpow x n))) ∧ w = w' := by
  have hp : ((Pm 1 : Nat) : Int) = 18446744069414584321 := rfl
  have h := gold_Pow (lo x) (n : Int) w (lo_0 x) (lo_1 x) (by omega) (by omega)
  rwa [(lo_small x).1, Int.toNat_natCast, ← hp, ← val_kI, ← kpw_ipow, kpw_fm, ← (lo_small x).1, ← (lo_small (Fm.kpow x n)).1] at h

set_option maxHeartbeats 2000000 in
theorem gold_Root (L : Nat) (hL : L ≤ 32) (w : World) :
    Calls Tryd.prog 81 #[.int .i64 L] w fun e w' => e = .returned (.tuple #[.int .u64 (lo (rootK 1 L)), .int .i64 0]) ∧ w = w' := by
  have HSQ := Lib.hid (fun k hk => sq_down 1 32 k (by decide) hk)
  have HP : Hid (∀ wz, Calls Tryd.prog 99 #[.int .u64 7, .int .u64 4294967295] wz fun e w' => e = .returned (.int .u64 (lo (rootK 1 32))) ∧ wz = w') := fun wz => by
    obtain ⟨en, hen⟩ : ∃ en : Nat, en = 4294967295 := ⟨_, rfl⟩
    have h7 : lo (seven 1) = 7 := (lo_small (seven 1)).1
    have h := gold_PowS (seven 1) en (by omega) wz
    have hr : rootK 1 32 = Fm.kpow (seven 1) en := by
      unfold rootK
      rw [show (Pm 1 - 1) / 2 ^ 32 = en by rw [hen]; decide]
    rw [h7, ← hr, show (en : Int) = 4294967295 by omega] at h
    exact h
  have HM := Lib.hid gold_MulS
  go_enter Tryd.func81, Tryd.ntmps81
  go_wp2_with fail
  refine (HP.out _).mono ?_
  rintro e w' ⟨rfl, rfl⟩
  go_wp2
  go_loop [4, 14] (fun r i => ∃ (k : Nat) (x : Fin (Pm 1)), k ≤ 32 - L ∧ i = .int .i64 k ∧ r = .int .u64 (lo x) ∧ Hid (x = rootK 1 (32 - k))) (fun _ i => 32 - (intOf i).toNat)
  case atStart => exact ⟨0, _, by omega, rfl, rfl, rfl⟩
  case round =>
    obtain ⟨k, x, hk, rfl, rfl, hx⟩ := hrel
    by_cases hlt : k < 32 - L
    · have HX : Hid (x * x = rootK 1 (32 - (k + 1))) := by show _ = _; rw [hx.out]; exact HSQ.out k (by omega)
      have t1 : decide ((k : Int) < 32 - (L : Int)) = true := by simp; omega
      go_wp2_with fail
      refine (HM.out x x _).mono ?_
      rintro e w' ⟨rfl, rfl⟩
      go_wp2
      go_round
      case rel => exact ⟨k + 1, _, by omega, by go_num, rfl, HX⟩
      case measure => simp [intOf]; omega
    · obtain rfl : k = 32 - L := by omega
      have t1 : decide (((32 - L : Nat) : Int) < 32 - (L : Int)) = false := by simp; omega
      go_wp2
      go_ret2
      have h := hx.out
      rw [show 32 - (32 - L) = L by omega] at h
      rw [h]
      exact ⟨rfl, rfl⟩

set_option maxHeartbeats 4000000 in
theorem wide_Root (L : Nat) (hL : L ≤ 66) (w : World) :
    Calls Tryd.prog 82 #[.int .i64 L] w fun e w' => e = .returned (.tuple #[vK (rootK 2 L), .int .i64 0]) ∧ Below w.heap.size w w' := by
  have HSQ := Lib.hid (fun k hk => sq_down 2 66 k (by decide) hk)
  have HP : Hid (∀ wz, Calls Tryd.prog 100 #[.agg #[.int .u64 7, .int .u64 0], .agg #[.int .u64 4611686018427387897, .int .u64 0]] wz (RetK (rootK 2 66) wz)) := fun wz => by
    obtain ⟨en, hen⟩ : ∃ en : Nat, en = 4611686018427387897 := ⟨_, rfl⟩
    have h := wide_Pow 7 0 en 0 wz (by omega) (by omega) (by omega) (by omega) (by omega) (by omega)
    have hr : rootK 2 66 = Fm.kpow (seven 2) en := by
      unfold rootK
      rw [show (Pm 2 - 1) / 2 ^ 66 = en by rw [hen]; decide]
    have h7 : kL 2 7 0 = seven 2 := by
      have h1 : lo (seven 2) = 7 ∧ hi (seven 2) = 0 := vK_of rfl (by omega) (by omega)
      have h2 := kL_lohi (seven 2)
      rwa [h1.1, h1.2] at h2
    rw [h7, kpw_fm, Nat.mul_zero, Nat.add_zero, ← hr, show (en : Int) = 4611686018427387897 by omega] at h
    exact h
  have HM : Hid (∀ (x y : Fin (Pm 2)) wz, Calls Tryd.prog 71 #[vK x, vK y] wz (RetK (x * y) wz)) := fun x y wz => by
    have h := wide_MulL (lo x) (hi x) (lo y) (hi y) wz (lo_0 x) (lo_1 x) (hi_0 x) (hi_1 x) (lo_0 y) (lo_1 y) (hi_0 y) (hi_1 y)
    rwa [kL_lohi, kL_lohi] at h
  have hb00 : Below w.heap.size w w := Below.refl _ _
  go_enter Tryd.func82, Tryd.ntmps82
  go_upto_region 1 with fail
  clear hb00
  have s0 := V2.new w (.int .u64 0) (.int .u64 0) 28
  have hb00 : Below w.heap.size w (w.alloc (.cells #[(.int .u64 0), (.int .u64 0)] 28)) := by repeat (first | exact Below.refl _ _ | with_reducible assumption | (refine bl_alloc ?_ (Nat.le_refl _) _))
  have hsz : w.heap.size + 1 ≤ (w.alloc (.cells #[(.int .u64 0), (.int .u64 0)] 28)).heap.size := by simp only [World.size_alloc]; omega
  generalize (w.alloc (.cells #[(.int .u64 0), (.int .u64 0)] 28)) = w1 at s0 hb00 hsz ⊢
  go_upto_region 4 with (first
    | (go_at_call 100; refine (HP.out _).mono ?_; rintro e w2 ⟨rfl, hb2⟩; replace hb00 := bl_call hb00 (Nat.le_refl _) hb2; replace s0 := s0.call hb2))
  obtain ⟨r0, hr0⟩ : ∃ r, rootK 2 66 = r := ⟨_, rfl⟩
  rw [hr0]
  have q0 := V2.new w2 (.int .u64 (lo r0)) (.int .u64 (hi r0)) 28
  have hbA : Below w2.heap.size w2 (w2.alloc (.cells #[.int .u64 (lo r0), .int .u64 (hi r0)] 28)) := by repeat (first | exact Below.refl _ _ | with_reducible assumption | (refine bl_alloc ?_ (Nat.le_refl _) _))
  replace hb00 := bl_call hb00 (Nat.le_refl _) hbA
  replace s0 := s0.call hbA
  clear hbA
  generalize w2.alloc (.cells #[.int .u64 (lo r0), .int .u64 (hi r0)] 28) = w3 at hb00 s0 q0 ⊢
  obtain ⟨ob, hob⟩ : ∃ z, w2.heap.size = z := ⟨_, rfl⟩
  have hsb := hb2.size
  rw [hob] at q0 hsb
  simp only [hob]
  clear hob hb2
  have HR0 := Lib.hid hr0
  clear hr0
  go_wp2
  go_loopw [17] (fun i wr => ∃ (k : Nat) (x : Fin (Pm 2)), k ≤ 66 - L ∧ i = .int .i64 k ∧ Hid (x = rootK 2 (66 - k)) ∧ V2 wr ob (.int .u64 (lo x)) (.int .u64 (hi x)) ∧ V2 wr w.heap.size (.int .u64 0) (.int .u64 0) ∧ Below w.heap.size w wr) (fun i _ => 66 - (intOf i).toNat)
  case atStart => exact ⟨0, r0, by omega, rfl, HR0.out.symm, q0, s0, hb00⟩
  case round =>
    clear q0 s0 hb00
    obtain ⟨k, x, hk, rfl, hx, q0, s0, hb00⟩ := hrel
    by_cases hlt : k < 66 - L
    · have HX : Hid (x * x = rootK 2 (66 - (k + 1))) := by show _ = _; rw [hx.out]; exact HSQ.out k (by omega)
      have t1 : decide ((k : Int) < 66 - (L : Int)) = true := by simp; omega
      obtain ⟨q00, q01, q02, q03, q04⟩ := V2.mk q0.c0 q0.c1 q0.f0 q0.f1 q0.lt
      go_upto_region 7 with (first
        | (go_at_call 71; refine (HM.out _ _ _).mono ?_; rintro e w5 ⟨rfl, hb5⟩; replace hb00 := bl_call hb00 (Nat.le_refl _) hb5; replace q0 := q0.call hb5; replace s0 := s0.call hb5; clear q00 q01 q02 q03 q04; clear hb5; obtain ⟨q00, q01, q02, q03, q04⟩ := V2.mk q0.c0 q0.c1 q0.f0 q0.f1 q0.lt))
      clear q00 q01 q02 q03 q04
      replace q0 : V2 ((w5.setCell ⟨ob, 0, none⟩ (.int .u64 (lo (x * x)))).setCell ⟨ob, 1, none⟩ (.int .u64 (hi (x * x)))) (ob) (.int .u64 (lo (x * x))) (.int .u64 (hi (x * x))) := V2.set q0 _ _
      replace s0 := V2.oth s0 (b := ob) (by omega) (.int .u64 (lo (x * x))) (.int .u64 (hi (x * x)))
      replace hb00 := bl_st hb00 (b := ob) (by omega) (.int .u64 (lo (x * x))) (.int .u64 (hi (x * x)))
      generalize ((w5.setCell ⟨ob, 0, none⟩ (.int .u64 (lo (x * x)))).setCell ⟨ob, 1, none⟩ (.int .u64 (hi (x * x)))) = w6 at q0 s0 hb00 ⊢
      go_wp2_with fail
      go_roundw
      case rel => exact ⟨k + 1, _, by omega, by go_num, HX, q0, s0, hb00⟩
      case measure => simp [intOf]; omega
    · obtain rfl : k = 66 - L := by omega
      have t1 : decide (((66 - L : Nat) : Int) < 66 - (L : Int)) = false := by simp; omega
      obtain ⟨q00, q01, q02, q03, q04⟩ := V2.mk q0.c0 q0.c1 q0.f0 q0.f1 q0.lt
      obtain ⟨s00, s01, s02, s03, s04⟩ := V2.mk s0.c0 s0.c1 s0.f0 s0.f1 s0.lt
      go_wp2_with fail
      have h := hx.out
      rw [show 66 - (66 - L) = L by omega] at h
      refine bodyPost_ret (results_v2_tmp (b := w.heap.size) (u := .int .u64 (lo x)) (v := .int .u64 (hi x)) ?_ rfl rfl) rfl ⟨by rw [← h]; rfl, by repeat (first | exact Below.refl _ _ | with_reducible assumption | (refine bl_alloc ?_ (Nat.le_refl _) _) | (refine bl_set ?_ (by dsimp only; omega) _) | (refine Below.drew ?_) | (refine bl_drewN ?_ _) | (refine bl_call ?_ (Nat.le_refl _) (by assumption)))⟩
      exact V2.set s0 _ _

/-- a root comes back -/
theorem rt_dvd {f : Nat} (hf : IsF f) : True := trivial

set_option maxHeartbeats 2000000 in
theorem field_Root {f : Nat} (hf : IsF f) (L : Nat) (hL : L ≤ 32) (w : World) :
    Calls Tryd.prog 60 #[.int .u8 f, .int .i64 L] w fun e w' => e = .returned (.tuple #[vK (rootK f L), .int .i64 0]) ∧ Below w.heap.size w w' := by
  have hb00 : Below w.heap.size w w := Below.refl _ _
  rcases hf.or with rfl | rfl
  · have HG := Lib.hid (fun wz => gold_Root L hL wz)
    have hh : hi (rootK 1 L) = 0 := (lo_small _).2
    show Calls Tryd.prog 60 _ w fun e w' => e = .returned (.tuple #[.agg #[.int .u64 (lo (rootK 1 L)), .int .u64 (hi (rootK 1 L))], .int .i64 0]) ∧ Below w.heap.size w w'
    rw [hh]
    generalize lo (rootK 1 L) = r at *
    clear hh
    go_enter Tryd.func60, Tryd.ntmps60
    go_upto_region 1 with fail
    clear hb00
    have s0 := V2.new w (.int .u64 0) (.int .u64 0) 28
    have hb00 : Below w.heap.size w (w.alloc (.cells #[(.int .u64 0), (.int .u64 0)] 28)) := by repeat (first | exact Below.refl _ _ | with_reducible assumption | (refine bl_alloc ?_ (Nat.le_refl _) _))
    have hsz : w.heap.size + 1 ≤ (w.alloc (.cells #[(.int .u64 0), (.int .u64 0)] 28)).heap.size := by simp only [World.size_alloc]; omega
    generalize (w.alloc (.cells #[(.int .u64 0), (.int .u64 0)] 28)) = w1 at s0 hb00 hsz ⊢
    obtain ⟨s00, s01, s02, s03, s04⟩ := V2.mk s0.c0 s0.c1 s0.f0 s0.f1 s0.lt
    go_wp2_with fail
    refine (HG.out _).mono ?_
    rintro e w3 ⟨rfl, rfl⟩
    go_wp2_with fail
    refine bodyPost_ret (results_v2_tmp (b := w.heap.size) (u := .int .u64 r) (v := .int .u64 0) ?_ rfl rfl) rfl ⟨rfl, by repeat (first | exact Below.refl _ _ | with_reducible assumption | (refine bl_alloc ?_ (Nat.le_refl _) _) | (refine bl_set ?_ (by dsimp only; omega) _) | (refine Below.drew ?_) | (refine bl_drewN ?_ _) | (refine bl_call ?_ (Nat.le_refl _) (by assumption)))⟩
    first | exact V2.set s0 _ _ | exact s0
  · have HG := Lib.hid (fun wz => wide_Root L (by omega) wz)
    generalize rootK 2 L = r at *
    go_enter Tryd.func60, Tryd.ntmps60
    go_upto_region 1 with fail
    clear hb00
    have s0 := V2.new w (.int .u64 0) (.int .u64 0) 28
    have hb00 : Below w.heap.size w (w.alloc (.cells #[(.int .u64 0), (.int .u64 0)] 28)) := by repeat (first | exact Below.refl _ _ | with_reducible assumption | (refine bl_alloc ?_ (Nat.le_refl _) _))
    have hsz : w.heap.size + 1 ≤ (w.alloc (.cells #[(.int .u64 0), (.int .u64 0)] 28)).heap.size := by simp only [World.size_alloc]; omega
    generalize (w.alloc (.cells #[(.int .u64 0), (.int .u64 0)] 28)) = w1 at s0 hb00 hsz ⊢
    go_wp2_with fail
    refine (HG.out _).mono ?_
    rintro e w3 ⟨rfl, hb3⟩
    replace hb00 := bl_call hb00 (Nat.le_refl _) hb3
    replace s0 := s0.call hb3
    obtain ⟨s00, s01, s02, s03, s04⟩ := V2.mk s0.c0 s0.c1 s0.f0 s0.f1 s0.lt
    go_wp2_with fail
    refine bodyPost_ret (results_v2_tmp (b := w.heap.size) (u := .int .u64 (lo r)) (v := .int .u64 (hi r)) ?_ rfl rfl) rfl ⟨rfl, by repeat (first | exact Below.refl _ _ | with_reducible assumption | (refine bl_alloc ?_ (Nat.le_refl _) _) | (refine bl_set ?_ (by dsimp only; omega) _) | (refine Below.drew ?_) | (refine bl_drewN ?_ _) | (refine bl_call ?_ (Nat.le_refl _) (by assumption)))⟩
    exact V2.set s0 _ _

/-- the powers of a number -/
def pows {f : Nat} (x : Fin (Pm f)) (n : Nat) : KL f := ofF n fun i => Fm.kpow x i
theorem pows_succ {f : Nat} (x : Fin (Pm f)) (n : Nat) : pows x (n + 1) = pows x n ++ [Fm.kpow x n] := by
  unfold pows ofF
  rw [List.range_succ, List.map_append]
  rfl
theorem pows_length {f : Nat} (x : Fin (Pm f)) (n : Nat) : (pows x n).length = n := ofF_length ..

set_option maxHeartbeats 4000000 in
theorem field_Powers {f : Nat} (hf : IsF f) (x : Fin (Pm f)) (n : Nat) (hn : n ≤ 4096) (w : World) :
    Calls Tryd.prog 66 #[.int .u8 f, vK x, .int .i64 n] w (RetOwn (pows x n) w) := by
  have HO := Lib.hid (fun wz => field_One hf wz)
  have HM := Lib.hid (fun y z wz => field_MulK hf y z wz)
  have hfb0 : (1 : Int) ≤ (f : Int) := by rcases hf.or with rfl | rfl <;> omega
  have hfb1 : (f : Int) ≤ 2 := by rcases hf.or with rfl | rfl <;> omega
  have hmx : max (n : Int) 0 = (n : Int) := by omega
  have hmn : min (n : Int) 4096 = (n : Int) := by omega
  have hb00 : Below w.heap.size w w := Below.refl _ _
  go_enter Tryd.func66, Tryd.ntmps66
  go_upto_region 1 with fail
  clear hb00
  have q0 := V2.new w (.int .u64 (lo x)) (.int .u64 (hi x)) 28
  have hb00 : Below w.heap.size w (w.alloc (.cells #[(.int .u64 (lo x)), (.int .u64 (hi x))] 28)) := by repeat (first | exact Below.refl _ _ | with_reducible assumption | (refine bl_alloc ?_ (Nat.le_refl _) _))
  have hsz : w.heap.size + 1 ≤ (w.alloc (.cells #[(.int .u64 (lo x)), (.int .u64 (hi x))] 28)).heap.size := by simp only [World.size_alloc]; omega
  generalize (w.alloc (.cells #[(.int .u64 (lo x)), (.int .u64 (hi x))] 28)) = w1 at q0 hb00 hsz ⊢
  go_upto_region 3 with (first
    | (go_at_call 75; refine (HO.out _).mono ?_; rintro e w2 ⟨rfl, hb2⟩; replace hb00 := bl_call hb00 (Nat.le_refl _) hb2; replace q0 := q0.call hb2))
  obtain ⟨r0, hr0⟩ : ∃ r : Fin (Pm f), 1 = r := ⟨_, rfl⟩
  rw [hr0]
  have o0 := V2.new w2 (.int .u64 (lo r0)) (.int .u64 (hi r0)) 28
  have hbA : Below w2.heap.size w2 (w2.alloc (.cells #[.int .u64 (lo r0), .int .u64 (hi r0)] 28)) := by repeat (first | exact Below.refl _ _ | with_reducible assumption | (refine bl_alloc ?_ (Nat.le_refl _) _))
  replace hb00 := bl_call hb00 (Nat.le_refl _) hbA
  replace q0 := q0.call hbA
  clear hbA
  generalize w2.alloc (.cells #[.int .u64 (lo r0), .int .u64 (hi r0)] 28) = w3 at hb00 q0 o0 ⊢
  obtain ⟨ob, hob⟩ : ∃ z, w2.heap.size = z := ⟨_, rfl⟩
  have hsb := hb2.size
  have hs3 := o0.lt
  rw [hob] at o0 hsb hs3
  simp only [hob]
  clear hob hb2
  have HR0 := Lib.hid hr0
  clear hr0
  go_wp2
  go_loopw [7, 14] (fun vr i wr => ∃ (j : Nat) (y : Fin (Pm f)) (A : Option Addr) (cp : Nat), j ≤ n ∧ i = .int .i64 j ∧ vr = .slice A j cp ∧ Hid (y = Fm.kpow x j) ∧ V2 wr ob (.int .u64 (lo y)) (.int .u64 (hi y)) ∧ V2 wr w.heap.size (.int .u64 (lo x)) (.int .u64 (hi x)) ∧
    wr.ownsRow (ob + 1) 28 2 (.slice A j cp) j (cellsE (esK (pows x j))) ∧ Below w.heap.size w wr ∧ ob + 1 ≤ wr.heap.size) (fun _ i _ => n - (intOf i).toNat)
  case atStart => exact ⟨0, r0, none, 0, Nat.zero_le _, rfl, rfl, HR0.out.symm, o0, q0, World.ownsRow_nil _ _ _ _, hb00, hs3⟩
  case round =>
    clear q0 o0 hb00 hs3
    obtain ⟨j, y, A, cp, hj, rfl, rfl, hy, o0, q0, hown, hb00, hsz⟩ := hrel
    by_cases hlt : j < n
    · have HZ : Hid (pows x (j + 1) = pows x j ++ [y]) := by show _ = _; rw [pows_succ, hy.out]
      have HY : Hid (y * x = Fm.kpow x (j + 1)) := by show _ = _; rw [hy.out, Fm.kpow_succ]
      have hbA : Below wr.heap.size wr (wr.alloc (.cells #[.int .u64 (lo y), .int .u64 (hi y)] 28)) := (Below.refl _ _).alloc (Nat.le_refl _) _
      have hE := BlkE.new wr [eK y] #[.int .u64 (lo y), .int .u64 (hi y)] rfl
      have HOW := Lib.hid (own_call hown hbA)
      have HR1 := Lib.hid (show 0 < 1 → ∃ b o, (some ⟨wr.heap.size, 0, none⟩ : Option Addr) = some ⟨b, o, none⟩ ∧ RowE (wr.alloc (.cells #[.int .u64 (lo y), .int .u64 (hi y)] 28)) b o [eK y] from fun _ => ⟨_, _, rfl, hE.rowE⟩)
      have hk1 : j + 1 ≤ 1099511627776 := by omega
      have hbase : ob + 1 ≤ (wr.alloc (.cells #[.int .u64 (lo y), .int .u64 (hi y)] 28)).heap.size := by rw [World.size_alloc]; omega
      clear hown hE hbA
      obtain ⟨o00, o01, o02, o03, o04⟩ := V2.mk o0.c0 o0.c1 o0.f0 o0.f1 o0.lt
      go_upto_region 6 with (at_builtin; (refine wpList_append_E rfl (.tmp 16) (.tmp 18) rfl (ob + 1) _ j (esK (pows x j)) rfl HOW.out (some ⟨wr.heap.size, 0, none⟩) 1 1 [eK y] rfl rfl HR1.out hk1 hbase ?_; intro v2 w2 hown2 hg2 hat2; have hb2 : Below (ob + 1) wr w2 := ((Below.refl _ _).alloc hsz _).trans ((Below.refl _ _).grown hg2 hbase (fun q hq => (HOW.out.lt q hq).1)); obtain ⟨g2, cap2, hv2⟩ := own_slice hown2; rw [hv2]))
      rw [hv2, show esK (pows x j) ++ [eK y] = esK (pows x (j + 1)) by rw [HZ.out, esK_append]; rfl] at hown2
      clear o00 o01 o02 o03 o04
      replace o0 := o0.belowB hb2 (by omega)
      replace q0 := q0.belowB hb2 (by omega)
      replace hb00 : Below w.heap.size w w2 := hb00.trans (hb2.mono (by omega))
      have hz2 := hb2.size
      clear hb2 hg2 hat2 hbase
      obtain ⟨q00, q01, q02, q03, q04⟩ := V2.mk q0.c0 q0.c1 q0.f0 q0.f1 q0.lt
      obtain ⟨o00, o01, o02, o03, o04⟩ := V2.mk o0.c0 o0.c1 o0.f0 o0.f1 o0.lt
      go_wp2_with fail
      refine (HM.out y x _).mono ?_
      rintro e w5 ⟨rfl, hb5⟩
      clear q00 q01 q02 q03 q04 o00 o01 o02 o03 o04
      replace hb00 := bl_call hb00 (Nat.le_refl _) hb5
      replace q0 := q0.call hb5
      replace o0 := o0.call hb5
      have hown5 := own_call hown2 hb5
      have hz5 := hb5.size
      clear hown2 hb5
      obtain ⟨o00, o01, o02, o03, o04⟩ := V2.mk o0.c0 o0.c1 o0.f0 o0.f1 o0.lt
      go_wp2_with fail
      go_roundw
      case rel => exact ⟨j + 1, _, _, cap2, by omega, by go_num, rfl, HY, V2.set o0 _ _, V2.oth q0 (b := ob) (by omega) _ _, own_st hown5 (by omega) _ _, bl_st hb00 (by omega) _ _, by rw [size_st]; omega⟩
      case measure => simp [intOf]; omega
    · obtain rfl : j = n := by omega
      have hlen := pows_length x j
      have HL := Lib.hid hlen
      have HW := Lib.hid hown
      clear hlen hown
      go_wp2
      go_ret
      exact ⟨_, rfl, by rw [HL.out]; exact own_mono HW.out (by omega), hb00⟩

end Go.Proofs.YtfhmineolncefaaDoor

namespace Go.Proofs.YtfhmineolncefaaDoor
open Go Go.RowKit

section
variable {P : Program} {ops : Array Oper} {Q : Exit → Act → World → Prop} {md : Region.Mode} {n m : Nat} {L L' : Act → World → Prop}

theorem wpG_monoL (hL : ∀ a w, L a w → L' a w) : ∀ (f : Nat) (listed : Array Bool) (a : Act) (S : World → Prop), wpG P md ops Q n m L f listed a S → wpG P md ops Q n m L' f listed a S
  | 0, listed, a, S, h => ⟨h.1, fun w hS => hL _ _ (h.2 w hS)⟩
  | f + 1, listed, a, S, h => ⟨h.1, fun i hi => ⟨(h.2 i hi).1, fun w hS => wpOp_mono (fun a' w' h' => by
      obtain ⟨S', h1, h2, h3, h4⟩ := h'
      exact ⟨S', h1, h2, h3, wpG_monoL hL f _ a' S' h4⟩) ((h.2 i hi).2 w hS)⟩⟩

theorem WpG.monoL {f : Nat} {listed : Array Bool} {a : Act} {S : World → Prop} (hL : ∀ a w, L a w → L' a w) (h : WpG P md ops Q n m L f listed a S) : WpG P md ops Q n m L' f listed a S :=
  fun hC hp inv => wpG_monoL hL f listed a S (h hC hp inv)
end

section
variable {P : Program} {Q : Exit → Act → World → Prop}

/-- four numbers are made anew -/
theorem region_G4 {id n m f : Nat} {l : List Oper} {a : Act} {w : World} (R : Nat → Nat → Nat → Nat → World → Prop) {E : Nat → Nat → Nat → Nat → Act} (hm : P.follows .mixedOrders = true) (hB : partsB .any l.toArray n m (Array.replicate l.length false) = true) (hf : f + (m - n) = l.length)
    (h : WpG P .any l.toArray Q n m (fun a w => ∃ x y z u, a = E x y z u ∧ R x y z u w) f (Array.replicate l.length false) a (Below w.heap.size w))
    (hc : ∀ x y z u w', R x y z u w' → wpList P l.toArray Q ((l.drop n).take (m - n)) (E x y z u) w') : (Code.region id l.toArray true).wp P Q a w :=
  region_G hm hB hf (h.monoL fun _ w ⟨x, y, z, u, e, hr⟩ => e ▸ hc x y z u w hr)

/-- two numbers are made anew -/
theorem region_G2 {id n m f : Nat} {l : List Oper} {a : Act} {w : World} (R : Nat → Nat → World → Prop) {E : Nat → Nat → Act} (hm : P.follows .mixedOrders = true) (hB : partsB .any l.toArray n m (Array.replicate l.length false) = true) (hf : f + (m - n) = l.length)
    (h : WpG P .any l.toArray Q n m (fun a w => ∃ x y, a = E x y ∧ R x y w) f (Array.replicate l.length false) a (Below w.heap.size w))
    (hc : ∀ x y w', R x y w' → wpList P l.toArray Q ((l.drop n).take (m - n)) (E x y) w') : (Code.region id l.toArray true).wp P Q a w :=
  region_G hm hB hf (h.monoL fun _ w ⟨x, y, e, hr⟩ => e ▸ hc x y w hr)
end

end Go.Proofs.YtfhmineolncefaaDoor

namespace Go.Proofs.YtfhmineolncefaaDoor
open Go Go.RowKit

section
variable {P : Program} {ops : Array Oper} {Q : Exit → Act → World → Prop} {md : Region.Mode}

/-- the head in whatever order; then L -/
def wpX (P : Program) (md : Region.Mode) (ops : Array Oper) (Q : Exit → Act → World → Prop) (n m : Nat) (L : Act → World → Prop) : Nat → Array Bool → Act → (World → Prop) → (World → Prop) → Prop
  | 0, listed, a, _, S => Region.seqB md ops (m - n) n listed = true ∧ ∀ w, S w → L a w
  | f + 1, listed, a, T, S =>
    Region.ready md ops listed ≠ [] ∧
    ∀ i ∈ Region.ready md ops listed, i < n ∧ ∀ w, S w → wpOp P ops Q i (fun a' w' => ∃ T' S' : World → Prop, (∀ w, T' w → T w) ∧ (∀ w, S' w → T' w) ∧ Clo S' ∧ S' w' ∧ wpX P md ops Q n m L f (listed.setIfInBounds i true) a' T' S') a w

theorem wpAny_of_X {n m : Nat} {L : Act → World → Prop} (hL : ∀ listed a w, Region.seqB md ops (m - n) n listed = true → L a w → wpAny P md ops Q (m - n) listed a w) :
    ∀ (f : Nat) (listed : Array Bool) (a : Act) (T S : World → Prop), wpX P md ops Q n m L f listed a T S → ∀ w, S w → wpAny P md ops Q (f + (m - n)) listed a w
  | 0, listed, a, T, S, h, w, hS => by rw [Nat.zero_add]; exact hL _ _ _ h.1 (h.2 w hS)
  | f + 1, listed, a, T, S, h, w, hS => by
    rw [show f + 1 + (m - n) = (f + (m - n)) + 1 by omega]
    refine ⟨fun h0 => absurd h0 h.1, fun i hi => wpOp_mono (fun a' w' h' => ?_) ((h.2 i hi).2 w hS)⟩
    obtain ⟨T', S', _, _, _, hS', hG⟩ := h'
    exact wpAny_of_X hL f _ a' T' S' hG w' hS'

theorem wpX_first {n m : Nat} {L : Act → World → Prop} (hp : Parts md ops n m) {i : Nat} {oi : Oper} {v : Value} (hi : ops[i]? = some oi) (hin : i < n)
    (hQ : ∀ c a w, Q (.panic c) (a.put oi.dst v) w → Q (.panic c) a w) :
    ∀ (f : Nat) (listed : Array Bool) (a : Act) (T S : World → Prop), (∀ w, S w → T w) → Clo S → HInv md ops n m listed →
      (∀ j oj, ops[j]? = some oj → j ≠ i → listed.getD j true = false → (∀ e ∈ oj.after, Region.binds md e = true → e.on ≠ i) → oi.apart ops oj = true) →
      i ∈ Region.ready md ops listed → Det P ops T oi v a →
      wpX P md ops Q n m L f (listed.setIfInBounds i true) (a.put oi.dst v) T S → wpX P md ops Q n m L (f + 1) listed a T S := by
  have hsel := Region.noSelect_spec hp.nosel
  intro f
  induction f with
  | zero =>
    intro listed a T S hST hC inv _ hr hy H
    have hun := (mem_ready.1 hr).1
    refine ⟨fun h => (by rw [h] at hr; cases hr), fun j hj => ?_⟩
    have hjn : j < n := by
      rcases Nat.lt_or_ge j n with h | h
      · exact h
      · exact absurd hj (head_only hp inv _ i rfl hin hun j h)
    refine ⟨hjn, fun w hS => ?_⟩
    by_cases hji : j = i
    · subst hji
      exact hy.wpOp hi (hST _ hS) fun w' hb => ⟨T, S, fun _ h => h, hST, hC, hC _ _ hS hb, H⟩
    · have := seqB_ready H.1 j (ready_mono hj hji)
      omega
  | succ f ih =>
    intro listed a T S hST hC inv hfree hr hy H
    have hun := (mem_ready.1 hr).1
    refine ⟨fun h => (by rw [h] at hr; cases hr), fun j hj => ?_⟩
    have hjn : j < n := by
      rcases Nat.lt_or_ge j n with h | h
      · exact h
      · exact absurd hj (head_only hp inv _ i rfl hin hun j h)
    refine ⟨hjn, fun w hS => ?_⟩
    by_cases hji : j = i
    · subst hji
      exact hy.wpOp hi (hST _ hS) fun w' hb => ⟨T, S, fun _ h => h, hST, hC, hC _ _ hS hb, H⟩
    · have h1 := (H.2 j (ready_mono hj hji)).2 w hS
      obtain ⟨hjun, oj, hoj, hall⟩ := mem_ready.1 hj
      have hnot : ∀ e ∈ oj.after, Region.binds md e = true → e.on ≠ i := fun e he hb heq => by
        have h1 := hall e he hb
        rw [heq, getD_both hun] at h1
        cases h1
      have h2 := wpOp_putDet hoj (hfree j oj hoj hji hjun hnot) (fun cs b => hsel i oi cs b hi) (fun cs b => hsel j oj cs b hoj) hQ hy h1
      have hfree' : ∀ k ok, ops[k]? = some ok → k ≠ i → (listed.setIfInBounds j true).getD k true = false →
          (∀ e ∈ ok.after, Region.binds md e = true → e.on ≠ i) → oi.apart ops ok = true := fun k ok hk hki hu hno => by
        refine hfree k ok hk hki ?_ hno
        by_cases hjk : j = k
        · subst hjk
          exact hjun
        · rw [getD_set_ne true hjk] at hu
          exact hu
      refine wpOp_mono (fun a' w' h3 => ?_) h2
      have hcomm : (listed.setIfInBounds i true).setIfInBounds j true = (listed.setIfInBounds j true).setIfInBounds i true := (Array.setIfInBounds_comm _ _ hji).symm
      rw [hcomm] at h3
      obtain ⟨hd, T', S', hT', hST', hC', hS', hG⟩ := h3
      exact ⟨T', S', hT', hST', hC', hS', ih (listed.setIfInBounds j true) a' T' S' hST' hC' (inv.set hj hjn hp.lt) hfree' (ready_mono hr (Ne.symm hji)) (hd.weak hT') hG⟩

/-- the walk's own form -/
def WpX (P : Program) (md : Region.Mode) (ops : Array Oper) (Q : Exit → Act → World → Prop) (n m : Nat) (L : Act → World → Prop) (f : Nat) (listed : Array Bool) (a : Act) (T S : World → Prop) : Prop :=
  (∀ w, S w → T w) → Clo S → Parts md ops n m → HInv md ops n m listed → wpX P md ops Q n m L f listed a T S

variable {n m : Nat} {L : Act → World → Prop} {T S : World → Prop} {f : Nat} {listed : Array Bool} {a : Act}

/-- take number i first: one value in every world -/
theorem WpX.takeD (i : Nat) (d : Option Tmp) {oi : Oper} {v : Value} (hi : ops[i]? = some oi) (hd : oi.dst = d)
    (hB : (decide (i < n) && Region.free md ops listed i && (Region.ready md ops listed).contains i) = true)
    (hQ : ∀ c a w, Q (.panic c) (a.put d v) w → Q (.panic c) a w)
    (hy : Det P ops T oi v a)
    (h : WpX P md ops Q n m L f (listed.setIfInBounds i true) (a.put d v) T S) : WpX P md ops Q n m L (f + 1) listed a T S := by
  subst hd
  simp only [Bool.and_eq_true, decide_eq_true_eq] at hB
  obtain ⟨⟨hin, hf⟩, hr⟩ := hB
  have hr' : i ∈ Region.ready md ops listed := by simpa using hr
  exact fun hST hC hp inv => wpX_first hp hi hin hQ f listed a T S hST hC inv (Region.free_spec hi hf) hr' hy (h hST hC hp (inv.set hr' hin hp.lt))

/-- what an operation makes that turns what is known -/
def Turns (P : Program) (ops : Array Oper) (T S : World → Prop) {ι : Type} (F : ι → Value) (T' S' : ι → World → Prop) (o : Oper) (a : Act) : Prop :=
  Region.wanted o (yielded ops a.tmps) = true ∧ (∀ x w, T' x w → T w) ∧ (∀ x w, S' x w → T' x w) ∧ (∀ x, Clo (S' x)) ∧ ∀ w, S w → UponV P (fun v w' => ∃ x, v = F x ∧ S' x w') ((execOp a.eval o).run P w)

/-- a value, by itself -/
theorem Turns.val {ι : Type} {F : ι → Value} {T' S' : ι → World → Prop} {o : Oper} (hw : Region.wanted o (yielded ops a.tmps) = true) (hT : ∀ x w, T' x w → T w) (hST : ∀ x w, S' x w → T' x w) (hC : ∀ x, Clo (S' x))
    (h : ∀ w, S w → ∃ x w', (execOp a.eval o).run P w = .ok (.value (F x)) w' ∧ S' x w') : Turns P ops T S F T' S' o a :=
  ⟨hw, hT, hST, hC, fun w hS => by
    obtain ⟨x, w', hr, hS'⟩ := h w hS
    rw [hr]
    exact ⟨x, rfl, hS'⟩⟩
/-- a call -/
theorem Turns.call {ι : Type} {F : ι → Value} {T' S' : ι → World → Prop} {o : Oper} {g : FuncId} {args : Array Value} (hw : Region.wanted o (yielded ops a.tmps) = true) (hT : ∀ x w, T' x w → T w) (hST : ∀ x w, S' x w → T' x w) (hC : ∀ x, Clo (S' x))
    (hc : ∀ w, S w → Calls P g args w (fun e w' => ∃ x, e = .returned (F x) ∧ S' x w')) (h : ∀ w, S w → (execOp a.eval o).run P w = .ok (.enter g args) w) : Turns P ops T S F T' S' o a :=
  ⟨hw, hT, hST, hC, fun w hS => by
    rw [h w hS]
    exact Calls.mono (hc w hS) fun e w' ⟨x, he, hS'⟩ => ⟨F x, he, x, rfl, hS'⟩⟩

theorem Turns.wpOp {i : Nat} {oi : Oper} (hi : ops[i]? = some oi) {ι : Type} {F : ι → Value} {T' S' : ι → World → Prop} (hy : Turns P ops T S F T' S' oi a) {K : Act → World → Prop} {w : World} (hw : S w)
    (h : ∀ x w', S' x w' → K (a.put oi.dst (F x)) w') : wpOp P ops Q i K a w := by
  unfold Go.wpOp
  simp only [hi]
  simp only [hy.1, if_true]
  refine .inl ?_
  unfold Oper.wp
  refine (hy.2.2.2.2 w hw).upon ?_
  rintro u w' ⟨x, rfl, hR⟩
  exact h x w' hR

theorem WpX.oneD (i : Nat) (d : Option Tmp) {oi : Oper} (hi : ops[i]? = some oi) (hd : oi.dst = d) (hB : (decide (i < n) && decide (Region.ready md ops listed = [i])) = true)
    {ι : Type} (F : ι → Value) (T' S' : ι → World → Prop) (hy : Turns P ops T S F T' S' oi a)
    (h : ∀ x, WpX P md ops Q n m L f (listed.setIfInBounds i true) (a.put d (F x)) (T' x) (S' x)) : WpX P md ops Q n m L (f + 1) listed a T S := by
  subst hd
  simp only [Bool.and_eq_true, decide_eq_true_eq] at hB
  obtain ⟨hin, hr⟩ := hB
  intro hST hC hp inv
  refine ⟨by rw [hr]; simp, fun j hj => ?_⟩
  have hj' : j = i := by rw [hr] at hj; simpa using hj
  subst hj'
  refine ⟨hin, fun w hS => hy.wpOp hi hS fun x w' hS' => ?_⟩
  exact ⟨T' x, S' x, hy.2.1 x, hy.2.2.1 x, hy.2.2.2.1 x, hS', h x (hy.2.2.1 x) (hy.2.2.2.1 x) hp (inv.set hj hin hp.lt)⟩

theorem WpX.twoD (i k : Nat) (d d' : Option Tmp) {oi ok : Oper} (hi : ops[i]? = some oi) (hd : oi.dst = d) (hk : ops[k]? = some ok) (hd' : ok.dst = d') (hB : (decide (i < n) && decide (k < n) && decide (Region.ready md ops listed = [i, k])) = true)
    {ι κ : Type} (F : ι → Value) (T' S' : ι → World → Prop) (hy : Turns P ops T S F T' S' oi a)
    (G : κ → Value) (T'' S'' : κ → World → Prop) (hz : Turns P ops T S G T'' S'' ok a)
    (h : ∀ x, WpX P md ops Q n m L f (listed.setIfInBounds i true) (a.put d (F x)) (T' x) (S' x))
    (h' : ∀ x, WpX P md ops Q n m L f (listed.setIfInBounds k true) (a.put d' (G x)) (T'' x) (S'' x)) : WpX P md ops Q n m L (f + 1) listed a T S := by
  subst hd
  subst hd'
  simp only [Bool.and_eq_true, decide_eq_true_eq] at hB
  obtain ⟨⟨hin, hkn⟩, hr⟩ := hB
  intro hST hC hp inv
  refine ⟨by rw [hr]; simp, fun j hj => ?_⟩
  have hj' : j = i ∨ j = k := by rw [hr] at hj; simpa using hj
  rcases hj' with rfl | rfl
  · refine ⟨hin, fun w hS => hy.wpOp hi hS fun x w' hS' => ?_⟩
    exact ⟨T' x, S' x, hy.2.1 x, hy.2.2.1 x, hy.2.2.2.1 x, hS', h x (hy.2.2.1 x) (hy.2.2.2.1 x) hp (inv.set hj hin hp.lt)⟩
  · refine ⟨hkn, fun w hS => hz.wpOp hk hS fun x w' hS' => ?_⟩
    exact ⟨T'' x, S'' x, hz.2.1 x, hz.2.2.1 x, hz.2.2.2.1 x, hS', h' x (hz.2.2.1 x) (hz.2.2.2.1 x) hp (inv.set hj hkn hp.lt)⟩

/-- number i alone comes up: a store -/
theorem WpX.oneSkip (i : Nat) (d : Option Tmp) {oi : Oper} (hi : ops[i]? = some oi) (hd : oi.dst = d) (hB : (decide (i < n) && decide (Region.ready md ops listed = [i])) = true)
    (T' S' : World → Prop) (hT : ∀ w, T' w → T w) (hST : ∀ w, S' w → T' w) (hC' : Clo S') (hw : Region.wanted oi (yielded ops a.tmps) = true) (hop : ∀ w, S w → ∃ w', (execOp a.eval oi).run P w = .ok .skip w' ∧ S' w')
    (h : WpX P md ops Q n m L f (listed.setIfInBounds i true) (a.put d undef) T' S') : WpX P md ops Q n m L (f + 1) listed a T S := by
  subst hd
  simp only [Bool.and_eq_true, decide_eq_true_eq] at hB
  obtain ⟨hin, hr⟩ := hB
  intro hS0 hC hp inv
  refine ⟨by rw [hr]; simp, fun j hj => ?_⟩
  have hj' : j = i := by rw [hr] at hj; simpa using hj
  subst hj'
  refine ⟨hin, fun w hS => ?_⟩
  obtain ⟨w', hrun, hS'⟩ := hop w hS
  unfold Go.wpOp
  simp only [hi, hw, if_true]
  refine .inl ?_
  unfold Oper.wp
  rw [hrun]
  exact ⟨T', S', hT, hST, hC', hS', h hST hC' hp (inv.set hj hin hp.lt)⟩

/-- all of the head has come up -/
theorem WpX.done (hB : Region.seqB md ops (m - n) n listed = true) (h : ∀ w, S w → L a w) : WpX P md ops Q n m L 0 listed a T S := fun _ _ _ _ => ⟨hB, h⟩

theorem region_X {id n m f : Nat} {l : List Oper} {a : Act} {w : World} (T S : World → Prop) (hST : ∀ w, S w → T w) (hC : Clo S) (hS : S w.drew) (hm : P.follows .mixedOrders = true) (hB : partsB .any l.toArray n m (Array.replicate l.length false) = true) (hf : f + (m - n) = l.length)
    (h : WpX P .any l.toArray Q n m (wpList P l.toArray Q ((l.drop n).take (m - n))) f (Array.replicate l.length false) a T S) : (Code.region id l.toArray true).wp P Q a w := by
  refine wp_region_any hm ?_
  obtain ⟨hp, inv⟩ := parts_of hB
  have := wpAny_of_X (md := .any) (n := n) (m := m) (L := wpList P l.toArray Q ((l.drop n).take (m - n))) (fun listed' a' w' hq hl => ?_) f (Array.replicate l.length false) a T S (h hST hC hp inv) w.drew hS
  · rw [hf] at this
    simpa using this
  · have hlen : ((l.drop n).take (m - n)).length = m - n := by
      have := hp.le
      simp at this ⊢
      omega
    have := any_of_tail (P := P) (md := .any) (ops := l.toArray) (Q' := Q) ((l.drop n).take (m - n)) n listed' a' w' (fun j hj => ?_) (by rw [hlen]; exact hq) hl
    · rwa [hlen] at this
    · rw [hlen] at hj
      simp [hj]
end

end Go.Proofs.YtfhmineolncefaaDoor
