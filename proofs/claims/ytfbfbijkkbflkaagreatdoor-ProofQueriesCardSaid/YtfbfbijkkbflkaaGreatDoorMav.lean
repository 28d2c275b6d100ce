/-
 PsX, Wr, PfA, PfG, Tz, Root, RegC: what the statements of this layer share.
-/
import Derived.Shelf.Spec.TrailingZeros
import Derived.Test.YtfbfbijkkbflkaaGreatDoorMau
namespace Go.Proofs.YtfbfbijkkbflkaaGreatDoor
open Go.RowKit Fm
set_option linter.unusedVariables false
set_option maxRecDepth 100000

section
variable {S T : Nat → Prop} {w w' : World} {f : Nat} {v : Value} {l : KL f}
theorem SlX.set (h : SlX S w v l) (hT : ∀ b, T b → S b ∨ w.heap.size ≤ b) : SlX T w v l := by
 obtain ⟨A, c, hv, h1, h2, h3⟩ := h
 refine ⟨A, c, hv, h1, h2, fun hl => ?_⟩
 obtain ⟨b, o, k1, k2, k3, k4⟩ := h3 hl
 exact ⟨b, o, k1, k2, fun ht => (hT b ht).elim k3 (fun h => by omega), k4⟩
theorem SlX.nilX (S : Nat → Prop) (w : World) : SlX S w (.slice none 0 0) ([] : KL f) := ⟨none, 0, rfl, Nat.le_refl _, by simp, fun h => absurd h (by simp)⟩
theorem SlX.isSl (h : SlX S w v l) : IsSl v := by
 obtain ⟨A, c, hv, _⟩ := h
 exact ⟨_, _, _, hv⟩
theorem grown_exc {row : Option Nat} (hg : w.grownBy w' row) : Exc (fun q => row = some q) w.heap.size w w' :=
 ⟨hg.os, hg.tape, hg.output, hg.size, fun k hk hn => hg.block k hk (fun e => hn e.symm)⟩
theorem own_other {base : Nat} {e : TypeId} {size n : Nat} {xs : List Value} (h : w.ownsRow base e size v n xs) (hb : Exc S w.heap.size w w') (hn : ∀ g, v.ownBlock = some g → ¬ S g) : w'.ownsRow base e size v n xs := by
 refine ⟨h.1, ?_⟩
 rcases h.2 with h | ⟨g, cap, cur, h1, h2, h3, h4⟩
 ·exact .inl h
 ·have hlt := (Array.getElem?_eq_some_iff.1 h3).1
  exact .inr ⟨g, cap, cur, h1, h2, (hb.block _ hlt (hn g (by rw [h1]; rfl))).trans h3, h4⟩
theorem own_ne {b1 b2 : Nat} {e1 e2 : TypeId} {s1 s2 n1 n2 : Nat} {v1 v2 : Value} {x1 x2 : List Value} (he : e1 ≠ e2) (h1 : w.ownsRow b1 e1 s1 v1 n1 x1) (h2 : w.ownsRow b2 e2 s2 v2 n2 x2) {g : Nat} (hg : v1.ownBlock = some g) : ¬ (v2.ownBlock = some g) := by
 intro hg2
 rcases h1.2 with ⟨h, _⟩ | ⟨g1, c1, u1, k1, _, k2, _⟩
 ·rw [h] at hg
  cases hg
 ·rcases h2.2 with ⟨h, _⟩ | ⟨g2, c2, u2, k3, _, k4, _⟩
  ·rw [h] at hg2
   cases hg2
  ·rw [k1] at hg
   rw [k3] at hg2
   have e1' : g1 = g := Option.some.inj hg
   have e2' : g2 = g := Option.some.inj hg2
   subst e1'
   subst e2'
   rw [k2] at k4
   injection k4 with k4
   injection k4 with _ k5 _
   exact he k5

structure PsX (S : Nat → Prop) (w : World) (vs : List Value) (ps : List (KL f)) : Prop where
 len : vs.length = ps.length
 at' : ∀ (i : Nat) (v : Value) (p : KL f), vs[i]? = some v → ps[i]? = some p → SlX S w v p
variable {vs : List Value} {ps : List (KL f)}
theorem PsX.call (h : PsX S w vs ps) (hb : Below w.heap.size w w') : PsX S w' vs ps := ⟨h.len, fun i v p h1 h2 => (h.at' i v p h1 h2).call hb⟩
theorem PsX.exc (h : PsX S w vs ps) (hb : Exc S w.heap.size w w') : PsX S w' vs ps := ⟨h.len, fun i v p h1 h2 => (h.at' i v p h1 h2).exc hb⟩
theorem PsX.set (h : PsX S w vs ps) (hT : ∀ b, T b → S b ∨ w.heap.size ≤ b) : PsX T w vs ps := ⟨h.len, fun i v p h1 h2 => (h.at' i v p h1 h2).set hT⟩
theorem PsX.toK (h : PsX S w vs ps) : PsK w vs ps := ⟨h.len, fun i v p h1 h2 => (h.at' i v p h1 h2).toK⟩
theorem PsX.nil (S : Nat → Prop) (w : World) : PsX S w [] ([] : List (KL f)) := ⟨rfl, fun i v p h => by cases h⟩
theorem PsX.snoc (h : PsX S w vs ps) {v : Value} {p : KL f} (hv : SlX S w v p) : PsX S w (vs ++ [v]) (ps ++ [p]) := by
 refine ⟨by rw [List.length_append, List.length_append, h.len]; rfl, fun i u q h1 h2 => ?_⟩
 by_cases hi : i < vs.length
 ·rw [List.getElem?_append_left hi] at h1
  rw [List.getElem?_append_left (by rw [← h.len]; exact hi)] at h2
  exact h.at' i u q h1 h2
 ·rw [List.getElem?_append_right (by omega)] at h1
  rw [List.getElem?_append_right (by rw [← h.len]; omega), ← h.len] at h2
  obtain ⟨k, hk⟩ : ∃ k, i - vs.length = k := ⟨_, rfl⟩
  rw [hk] at h1 h2
  cases k with
  | zero =>
   injection h1 with h1
   injection h2 with h2
   subst h1
   subst h2
   exact hv
  | succ k => simp at h1
theorem PsX.grown {r r' : Option Nat} {U : Nat → Prop} (h : PsX (fun b => r = some b ∨ U b) w vs ps) (hg : w.grownBy w' r) (hr : r' = r ∨ r' = some w.heap.size) : PsX (fun b => r' = some b ∨ U b) w' vs ps := by
 have h1 : PsX (fun b => (r = some b ∨ U b) ∨ r' = some b) w vs ps := h.set fun b hb => by
  rcases hb with hb | hb
  ·exact .inl hb
  ·rcases hr with hr | hr
   ·exact .inl (.inl (hr.symm.trans hb))
   ·exact .inr (by rw [hr] at hb; exact Nat.le_of_eq (Option.some.inj hb))
 have h2 := h1.exc ((grown_exc hg).less fun k _ hk => .inl (.inl hk))
 exact ⟨h2.len, fun i v p k1 k2 => (h2.at' i v p k1 k2).set fun b hb => .inl (by
  rcases hb with hb | hb
  ·exact .inr hb
  ·exact .inl (.inr hb))⟩
theorem own_slX {base n : Nat} {A : Option Addr} {c : Nat} (hn : l.length = n) (h : w.ownsRow base 36 2 (.slice A n c) n (cellsE (esK l))) (hS : ∀ b, S b → b < base) : SlX S w (.slice A n c) l := by
 subst hn
 rcases own_cases h with ⟨h1, h2⟩ | ⟨g, c', h1, h2, h3, h4, h5⟩
 ·subst h2
  rw [h1]
  exact SlX.nilX S w
 ·rw [h1]
  exact SlX.of rfl h4 h5 h2.lt (fun hs => by have := hS g hs; omega) h2.row
end

end Go.Proofs.YtfbfbijkkbflkaaGreatDoor

namespace Go.Proofs.YtfbfbijkkbflkaaGreatDoor
open Go.RowKit Fm
set_option linter.unusedVariables false
set_option maxRecDepth 100000

section
variable {f : Nat}
structure WrI (wb lb cp sz : Nat) (vs : List Value) (ls : List (KL f)) (w : World) : Prop where
 st : Vs w wb [.slice (some ⟨lb, 0, none⟩) ls.length cp, .int .i64 (sz : Nat)]
 rows : Vs w lb vs
 cap : ls.length ≤ cp
 len : vs.length = ls.length
 own : ∀ (i : Nat) (v : Value) (l : KL f), vs[i]? = some v → ls[i]? = some l → w.ownsRow 0 36 2 v l.length (cellsE (esK l))
 apart : ∀ (i j : Nat) (v u : Value) (g : Nat), i ≠ j → vs[i]? = some v → vs[j]? = some u → v.ownBlock = some g → ¬ (u.ownBlock = some g)
 ne : wb ≠ lb
 far : ∀ (i : Nat) (v : Value), vs[i]? = some v → ¬ (v.ownBlock = some wb)
 far2 : ∀ (i : Nat) (v : Value), vs[i]? = some v → ¬ (v.ownBlock = some lb)
def WrD (wb lb : Nat) (vs : List Value) (q : Nat) : Prop := q = wb ∨ q = lb ∨ ∃ (i : Nat) (v : Value), vs[i]? = some v ∧ v.ownBlock = some q
variable {wb lb cp sz : Nat} {vs : List Value} {ls : List (KL f)} {w w' : World}

theorem Vs.sameW {b : Nat} {cs : List Value} (h : Vs w b cs) (hb : w'.heap[b]? = w.heap[b]?) : Vs w' b cs :=
 ⟨fun i v hi => (World.cell?_of_block (w := w) (a := ⟨b, i, none⟩) hb).trans (h.cell i v hi), fun i hi => (World.frozen?_of_block (w := w) (a := ⟨b, i, none⟩) hb).trans (h.frz i hi), by
  have h1 := h.lt
  rcases Nat.lt_or_ge b w'.heap.size with h2 | h2
  ·exact h2
  ·rw [Array.getElem?_eq_none h2, Array.getElem?_eq_getElem h1] at hb
   cases hb⟩
theorem own_same {base : Nat} {e : TypeId} {size n : Nat} {v : Value} {xs : List Value} (h : w.ownsRow base e size v n xs) (hb : ∀ g, v.ownBlock = some g → w'.heap[g]? = w.heap[g]?) : w'.ownsRow base e size v n xs := by
 refine ⟨h.1, ?_⟩
 rcases h.2 with h | ⟨g, cap, cur, h1, h2, h3, h4⟩
 ·exact .inl h
 ·exact .inr ⟨g, cap, cur, h1, h2, (hb g (by rw [h1]; rfl)).trans h3, h4⟩
theorem WrI.lt (h : WrI wb lb cp sz vs ls w) : ∀ q, WrD wb lb vs q → q < w.heap.size := fun q hq => by
 rcases hq with rfl | rfl | ⟨i, v, h1, h2⟩
 ·exact h.st.lt
 ·exact h.rows.lt
 ·obtain ⟨l, hl⟩ : ∃ l, ls[i]? = some l := ⟨_, List.getElem?_eq_getElem (by have := (List.getElem?_eq_some_iff.1 h1).1; rw [← h.len]; exact this)⟩
  exact ((h.own i v l h1 hl).lt q h2).2
theorem WrI.same (h : WrI wb lb cp sz vs ls w) (hb : ∀ q, WrD wb lb vs q → w'.heap[q]? = w.heap[q]?) : WrI wb lb cp sz vs ls w' :=
 ⟨h.st.sameW (hb wb (.inl rfl)), h.rows.sameW (hb lb (.inr (.inl rfl))), h.cap, h.len, fun i v l h1 h2 => own_same (h.own i v l h1 h2) (fun g hg => hb g (.inr (.inr ⟨i, v, h1, hg⟩))), h.apart, h.ne, h.far, h.far2⟩
theorem own_vs {base g n c : Nat} {e : TypeId} {xs : List Value} (h : w.ownsRow base e 1 (.slice (some ⟨g, 0, none⟩) n c) n xs) : Vs w g xs ∧ n ≤ c ∧ xs.length = n := by
 have hl := h.1
 rcases h.2 with ⟨hv, _⟩ | ⟨g', cap, cur, hv, hb, hg, hnc, hcm, hcs, ht⟩
 ·cases hv
 ·injection hv with e1 e2 e3
  injection e1 with e1
  injection e1 with e1
  subst e1
  subst e3
  refine ⟨⟨fun i v hi => ?_, fun i hi => ?_, ?_⟩, hnc, by omega⟩
  ·rw [← ht] at hi
   have hlt : i < n * 1 := by
    obtain ⟨h1, _⟩ := List.getElem?_eq_some_iff.1 hi
    rw [List.length_take] at h1
    omega
   rw [List.getElem?_take_of_lt hlt] at hi
   simp [World.cell?, hg]
   simpa using hi
  ·simp [World.frozen?, hg]
  ·exact (Array.getElem?_eq_some_iff.1 hg).1

structure WrJ (wb lb cp sz : Nat) (vs : List Value) (ls : List (KL f)) (i : Nat) (v' : Value) (k' : KL f) (w : World) : Prop where
 st : Vs w wb [.slice (some ⟨lb, 0, none⟩) ls.length cp, .int .i64 (sz : Nat)]
 rows : Vs w lb vs
 cap : ls.length ≤ cp
 len : vs.length = ls.length
 own : ∀ (j : Nat) (v : Value) (l : KL f), j ≠ i → vs[j]? = some v → ls[j]? = some l → w.ownsRow 0 36 2 v l.length (cellsE (esK l))
 new : w.ownsRow 0 36 2 v' k'.length (cellsE (esK k'))
 apart : ∀ (j k : Nat) (v u : Value) (g : Nat), j ≠ k → vs[j]? = some v → vs[k]? = some u → v.ownBlock = some g → ¬ (u.ownBlock = some g)
 apart2 : ∀ (j : Nat) (v : Value) (g : Nat), j ≠ i → vs[j]? = some v → v.ownBlock = some g → ¬ (v'.ownBlock = some g)
 ne : wb ≠ lb
 far : ∀ (j : Nat) (v : Value), vs[j]? = some v → ¬ (v.ownBlock = some wb)
 far2 : ∀ (j : Nat) (v : Value), vs[j]? = some v → ¬ (v.ownBlock = some lb)
 farN : ¬ (v'.ownBlock = some wb) ∧ ¬ (v'.ownBlock = some lb)
theorem get_set {α : Type} {l : List α} {i j : Nat} {x y : α} (h : (l.set i x)[j]? = some y) : (j = i ∧ y = x) ∨ (j ≠ i ∧ l[j]? = some y) := by
 rw [List.getElem?_set] at h
 by_cases hij : i = j
 ·subst hij
  rw [if_pos rfl] at h
  by_cases hl : i < l.length
  ·rw [if_pos hl] at h
   exact .inl ⟨rfl, (Option.some.inj h).symm⟩
  ·rw [if_neg hl] at h
   cases h
 ·rw [if_neg hij] at h
  exact .inr ⟨fun e => hij e.symm, h⟩
theorem WrJ.put {i : Nat} {v' : Value} {k' : KL f} (h : WrJ wb lb cp sz vs ls i v' k' w) (hi : i < vs.length) : WrI wb lb cp sz (vs.set i v') (ls.set i k') (w.setCell ⟨lb, i, none⟩ v') := by
 have hne := h.ne
 have hblk : ∀ q, q ≠ lb → (w.setCell ⟨lb, i, none⟩ v').heap[q]? = w.heap[q]? := fun q hq => Below.heap_setCell _ _ _ _ hq
 refine ⟨?_, h.rows.put i hi v', by rw [List.length_set]; exact h.cap, by rw [List.length_set, List.length_set]; exact h.len, fun j v l h1 h2 => ?_, fun j k v u g hjk h1 h2 h3 => ?_, h.ne, fun j v h1 => ?_, fun j v h1 => ?_⟩
 ·rw [List.length_set]
  exact h.st.sameW (hblk wb hne)
 ·rcases get_set h1 with ⟨rfl, rfl⟩ | ⟨a1, a2⟩
  ·rcases get_set h2 with ⟨_, rfl⟩ | ⟨b1, _⟩
   ·exact own_same h.new (fun g hg => hblk g (fun e => h.farN.2 (by rw [hg, e])))
   ·exact absurd rfl b1
  ·rcases get_set h2 with ⟨b1, _⟩ | ⟨_, b2⟩
   ·exact absurd b1 a1
   ·exact own_same (h.own j v l a1 a2 b2) (fun g hg => hblk g (fun e => h.far2 j v a2 (by rw [hg, e])))
 ·rcases get_set h1 with ⟨rfl, rfl⟩ | ⟨a1, a2⟩
  ·rcases get_set h2 with ⟨b1, _⟩ | ⟨b1, b2⟩
   ·exact absurd b1.symm hjk
   ·exact fun h4 => h.apart2 k u g b1 b2 h4 h3
  ·rcases get_set h2 with ⟨rfl, rfl⟩ | ⟨b1, b2⟩
   ·exact h.apart2 j v g a1 a2 h3
   ·exact h.apart j k v u g hjk a2 b2 h3
 ·rcases get_set h1 with ⟨rfl, rfl⟩ | ⟨a1, a2⟩
  ·exact h.farN.1
  ·exact h.far j v a2
 ·rcases get_set h1 with ⟨rfl, rfl⟩ | ⟨a1, a2⟩
  ·exact h.farN.2
  ·exact h.far2 j v a2
theorem WrI.app (h : WrI wb lb cp sz vs ls w) {i : Nat} {v : Value} {k : KL f} (hv : vs[i]? = some v) (hk : ls[i]? = some k) (nb c : Nat) (x : Fin (Pm f)) (hE : BlkE w nb [eK x]) (hn : k.length + 1 ≤ 100000) (ty : TypeId) :
  ∃ v' w', (Builtin.append_ #[24, 24] ty #[v, .slice (some ⟨nb, 0, none⟩) 1 c]).run Tryz.prog w = .ok v' w' ∧ WrJ wb lb cp sz vs ls i v' (k ++ [x]) w' ∧ (v'.ownBlock = v.ownBlock ∨ v'.ownBlock = some w.heap.size) ∧ Exc (fun q => v.ownBlock = some q) w.heap.size w w' := by
 have hoi := h.own i v k hv hk
 obtain ⟨v', w', hr, ho, hg, hat⟩ := run_append_E w 0 ty v k.length (esK k) hoi (some ⟨nb, 0, none⟩) 1 c [eK x] rfl (fun _ => ⟨_, _, rfl, hE.rowE⟩) (by omega) (Nat.zero_le _)
 have hX := grown_exc hg
 have hlt := h.lt
 refine ⟨v', w', hr, ?_, hat, hX⟩
 have hnw : ∀ q, q < w.heap.size → ¬ (v.ownBlock = some q) → ¬ (v'.ownBlock = some q) := fun q hq h1 h2 => by
  rcases hat with h3 | h3
  ·exact h1 (h3.symm.trans h2)
  ·rw [h3] at h2
   have := Option.some.inj h2
   omega
 refine ⟨h.st.exc (h.far i v hv) hX, h.rows.exc (h.far2 i v hv) hX, h.cap, h.len, fun j u l hji h1 h2 => own_other (h.own j u l h1 h2) hX (fun g hg hs => h.apart i j v u g (fun e => hji e.symm) hv h1 hs hg), ?_, h.apart, fun j u g hji h1 h2 => hnw g (hlt g (.inr (.inr ⟨j, u, h1, h2⟩))) (fun h3 => h.apart i j v u g (fun e => hji e.symm) hv h1 h3 h2), h.ne, h.far, h.far2, hnw wb (hlt wb (.inl rfl)) (h.far i v hv), hnw lb (hlt lb (.inr (.inl rfl))) (h.far2 i v hv)⟩
 rw [List.length_append, esK_append]
 exact ho
def InvW (wb sz : Nat) (E : Nat → Prop) (I0 : World → Prop) (lsOf : Nat → List (KL f)) (k : Nat) (D : Nat → Prop) (w : World) : Prop :=
 ∃ (lb cp : Nat) (vs : List Value), WrI wb lb cp sz vs (lsOf k) w ∧ (∀ q, D q ↔ (WrD wb lb vs q ∨ E q)) ∧ (∀ q, E q → ¬ WrD wb lb vs q) ∧ I0 w
theorem InvW.st {E : Nat → Prop} {I0 : World → Prop} {lsOf : Nat → List (KL f)} {k : Nat} {D : Nat → Prop} (h : InvW wb sz E I0 lsOf k D w) (hE : ∀ w, I0 w → ∀ q, E q → q < w.heap.size) (hI : ∀ w w' : World, I0 w → (∀ q, E q → w'.heap[q]? = w.heap[q]?) → I0 w') : St (InvW wb sz E I0 lsOf k) D w :=
 ⟨h, fun q hq => by
  obtain ⟨lb, cp, vs, h1, h2, _, h3⟩ := h
  rcases (h2 q).1 hq with hq | hq
  ·exact h1.lt q hq
  ·exact hE w h3 q hq, fun w w' ⟨lb, cp, vs, h1, h2, h4, h3⟩ hb => ⟨lb, cp, vs, h1.same (fun q hq => hb q ((h2 q).2 (.inl hq))), h2, h4, hI w w' h3 (fun q hq => hb q ((h2 q).2 (.inr hq)))⟩⟩
end

end Go.Proofs.YtfbfbijkkbflkaaGreatDoor

namespace Go.Proofs.YtfbfbijkkbflkaaGreatDoor
open Go.RowKit Fm
set_option linter.unusedVariables false
set_option maxRecDepth 100000

section
variable {f : Nat}
def apn (ls : List (KL f)) (xs : KL f) (i : Nat) : List (KL f) := ls.mapIdx fun j l => if j < i then l ++ [xs.getD j 0] else l
theorem apn_length (ls : List (KL f)) (xs : KL f) (i : Nat) : (apn ls xs i).length = ls.length := by simp [apn]
theorem apn_zero (ls : List (KL f)) (xs : KL f) : apn ls xs 0 = ls := by
 refine List.ext_getElem? fun j => ?_
 simp [apn]
theorem apn_at (ls : List (KL f)) (xs : KL f) (i j : Nat) : (apn ls xs i)[j]? = (ls[j]?).map fun l => if j < i then l ++ [xs.getD j 0] else l := by simp [apn]
theorem apn_set {ls : List (KL f)} {xs : KL f} {i : Nat} {k : KL f} {x : Fin (Pm f)} (hk : (apn ls xs i)[i]? = some k) (hx : xs[i]? = some x) : (apn ls xs i).set i (k ++ [x]) = apn ls xs (i + 1) := by
 refine List.ext_getElem? fun j => ?_
 rw [List.getElem?_set, apn_at, apn_at]
 rw [apn_at] at hk
 by_cases hij : i = j
 ·subst hij
  cases hl : ls[i]? with
  | none => rw [hl] at hk; cases hk
  | some l =>
   rw [hl] at hk
   simp only [Option.map_some, Nat.lt_irrefl, if_false, Option.some.injEq] at hk
   subst hk
   have hlt : i < (apn ls xs i).length := by rw [apn_length]; exact (List.getElem?_eq_some_iff.1 hl).1
   rw [if_pos rfl, if_pos hlt]
   simp [hx]
 ·rw [if_neg hij]
  cases hl : ls[j]? with
  | none => rfl
  | some l =>
   simp only [Option.map_some, Option.some.injEq]
   by_cases h1 : j < i
   ·rw [if_pos h1, if_pos (by omega)]
   ·rw [if_neg h1, if_neg (by omega)]
variable {wb lb cp sz : Nat} {vs us : List Value} {ls : List (KL f)} {w w' w3 : World}
theorem WrI.call (h : WrI wb lb cp sz vs ls w) (hb : Below w.heap.size w w') : WrI wb lb cp sz vs ls w' := h.same fun q hq => hb.block q (h.lt q hq)
theorem WrJ.lt {i : Nat} {v' : Value} {k' : KL f} (h : WrJ wb lb cp sz vs ls i v' k' w) : wb < w.heap.size ∧ lb < w.heap.size ∧ (∀ (j : Nat) (v : Value) (g : Nat), j ≠ i → vs[j]? = some v → v.ownBlock = some g → g < w.heap.size) ∧ ∀ g, v'.ownBlock = some g → g < w.heap.size := by
 refine ⟨h.st.lt, h.rows.lt, fun j v g hj hv hg => ?_, fun g hg => (h.new.lt g hg).2⟩
 obtain ⟨l, hl⟩ : ∃ l, ls[j]? = some l := ⟨_, List.getElem?_eq_getElem (by have := (List.getElem?_eq_some_iff.1 hv).1; rw [← h.len]; exact this)⟩
 exact ((h.own j v l hj hv hl).lt g hg).2
theorem WrJ.call {i : Nat} {v' : Value} {k' : KL f} (h : WrJ wb lb cp sz vs ls i v' k' w) (hb : Below w.heap.size w w') : WrJ wb lb cp sz vs ls i v' k' w' := by
 obtain ⟨h1, h2, h3, h4⟩ := h.lt
 exact ⟨h.st.call hb, h.rows.call hb, h.cap, h.len, fun j v l hj hv hl => own_same (h.own j v l hj hv hl) (fun g hg => hb.block g (h3 j v g hj hv hg)), own_same h.new (fun g hg => hb.block g (h4 g hg)), h.apart, h.apart2, h.ne, h.far, h.far2, h.farN⟩
structure AkT (D : Nat → Prop) (w3 : World) (wb lb cp sz n : Nat) (us : List Value) (xb : Nat) (x : Fin (Pm f)) (wz : World) : Prop where
 st : Vs wz wb [.slice (some ⟨lb, 0, none⟩) n cp, .int .i64 (sz : Nat)]
 rows : Vs wz lb us
 bx : BlkE wz xb [eK x]
 ex : Exc D w3.heap.size w3 wz
variable {D : Nat → Prop} {n xb nb i : Nat} {x : Fin (Pm f)} {u v' : Value} {k : KL f}
theorem AkT.clo (D : Nat → Prop) (w3 : World) (wb lb cp sz n : Nat) (us : List Value) (xb : Nat) (x : Fin (Pm f)) : Clo (AkT D w3 wb lb cp sz n us xb x) := fun _ _ h hb => ⟨h.st.call hb, h.rows.call hb, h.bx.call hb, h.ex.later hb⟩
def AkS0 (D : Nat → Prop) (w3 : World) (wb lb cp sz n : Nat) (us : List Value) (ls : List (KL f)) (xb : Nat) (x : Fin (Pm f)) (wz : World) : Prop := AkT D w3 wb lb cp sz n us xb x wz ∧ WrI wb lb cp sz us ls wz ∧ ¬ WrD wb lb us xb
theorem AkS0.clo (D : Nat → Prop) (w3 : World) (wb lb cp sz n : Nat) (us : List Value) (ls : List (KL f)) (xb : Nat) (x : Fin (Pm f)) : Clo (AkS0 D w3 wb lb cp sz n us ls xb x) := fun _ _ h hb => ⟨AkT.clo _ _ _ _ _ _ _ _ _ _ _ _ h.1 hb, h.2.1.call hb, h.2.2⟩
def AkS1 (D : Nat → Prop) (w3 : World) (wb lb cp sz n : Nat) (us : List Value) (ls : List (KL f)) (xb : Nat) (x : Fin (Pm f)) (nb : Nat) (wz : World) : Prop := AkS0 D w3 wb lb cp sz n us ls xb x wz ∧ BlkE wz nb [eK x]
theorem AkS1.clo (D : Nat → Prop) (w3 : World) (wb lb cp sz n : Nat) (us : List Value) (ls : List (KL f)) (xb : Nat) (x : Fin (Pm f)) (nb : Nat) : Clo (AkS1 D w3 wb lb cp sz n us ls xb x nb) := fun _ _ h hb => ⟨AkS0.clo _ _ _ _ _ _ _ _ _ _ _ _ _ h.1 hb, h.2.call hb⟩
theorem AkS0.mk1 {wz : World} (h : AkS0 D w3 wb lb cp sz n us ls xb x wz) : AkS1 D w3 wb lb cp sz n us ls xb x wz.heap.size (wz.alloc (.cells #[.int .u64 (lo x), .int .u64 (hi x)] 36)) :=
 ⟨AkS0.clo _ _ _ _ _ _ _ _ _ _ _ _ _ h ((Below.refl _ _).alloc (Nat.le_refl _) _), heap_alloc_new wz _⟩
def AkS2 (D : Nat → Prop) (w3 : World) (wb lb cp sz n : Nat) (us : List Value) (ls : List (KL f)) (xb : Nat) (x : Fin (Pm f)) (i : Nat) (k : KL f) (v' : Value) (wz : World) : Prop := AkT D w3 wb lb cp sz n us xb x wz ∧ WrJ wb lb cp sz us ls i v' (k ++ [x]) wz ∧ ∀ g, v'.ownBlock = some g → D g ∨ w3.heap.size ≤ g
theorem AkS2.clo (D : Nat → Prop) (w3 : World) (wb lb cp sz n : Nat) (us : List Value) (ls : List (KL f)) (xb : Nat) (x : Fin (Pm f)) (i : Nat) (k : KL f) (v' : Value) : Clo (AkS2 D w3 wb lb cp sz n us ls xb x i k v') := fun _ _ h hb => ⟨AkT.clo _ _ _ _ _ _ _ _ _ _ _ _ h.1 hb, h.2.1.call hb, h.2.2⟩
theorem AkS1.app {wz : World} (h : AkS1 D w3 wb lb cp sz n us ls xb x nb wz) (hu : us[i]? = some u) (hk : ls[i]? = some k) (hn : k.length + 1 ≤ 100000) (hD : ∀ q, WrD wb lb us q → D q ∨ w3.heap.size ≤ q) (ty : TypeId) :
  ∃ v' w', (Builtin.append_ #[24, 24] ty #[u, .slice (some ⟨nb, 0, none⟩) 1 1]).run Tryz.prog wz = .ok v' w' ∧ AkS2 D w3 wb lb cp sz n us ls xb x i k v' w' := by
 obtain ⟨⟨hT, hI, hx⟩, hE⟩ := h
 obtain ⟨v', w', hr, hJ, hat, hX⟩ := hI.app hu hk nb 1 x hE hn ty
 have hown : ∀ q, u.ownBlock = some q → WrD wb lb us q := fun q hq => .inr (.inr ⟨i, u, hu, hq⟩)
 have hsz := hT.ex.size
 refine ⟨v', w', hr, ⟨?_, ?_, hT.bx.exc (fun h => hx (hown xb h)) hX, hT.ex.more hX fun q hq => hD q (hown q hq)⟩, hJ, fun g hg => ?_⟩
 ·exact hT.st.exc (fun h => hI.far i u hu h) hX
 ·exact hT.rows.exc (fun h => hI.far2 i u hu h) hX
 ·rcases hat with h1 | h1
  ·exact hD g (hown g (h1.symm.trans hg))
  ·rw [h1] at hg
   have := Option.some.inj hg
   omega
theorem AkS2.put {xs : KL f} {wz : World} (h : AkS2 D w3 wb lb cp sz n us (apn ls xs i) xb x i k v' wz) (hi : i < us.length) (hk : (apn ls xs i)[i]? = some k) (hx : xs[i]? = some x) (hD : ∀ q, WrD wb lb us q → D q ∨ w3.heap.size ≤ q) (hlb : D lb) :
  WrI wb lb cp sz (us.set i v') (apn ls xs (i + 1)) (wz.setCell ⟨lb, i, none⟩ v') ∧ Exc D w3.heap.size w3 (wz.setCell ⟨lb, i, none⟩ v') ∧ ∀ q, WrD wb lb (us.set i v') q → D q ∨ w3.heap.size ≤ q := by
 obtain ⟨hT, hJ, hg⟩ := h
 refine ⟨?_, hT.ex.trans ⟨rfl, rfl, rfl, by simp [World.setCell], fun q hq hn => Below.heap_setCell _ _ _ _ (fun e => hn (e ▸ hlb))⟩, fun q hq => ?_⟩
 ·rw [← apn_set hk hx]
  exact hJ.put hi
 ·rcases hq with rfl | rfl | ⟨j, u, h1, h2⟩
  ·exact hD _ (.inl rfl)
  ·exact hD _ (.inr (.inl rfl))
  ·rcases get_set h1 with ⟨_, rfl⟩ | ⟨_, h3⟩
   ·exact hg q h2
   ·exact hD q (.inr (.inr ⟨j, u, h3, h2⟩))
def RetAsk (wb lb cp sz : Nat) (vs : List Value) (ls : List (KL f)) (xs : KL f) (w : World) (e : Ending) (w' : World) : Prop :=
 e = .returned (.int .i64 0) ∧ ∃ us, WrI wb lb cp sz us (apn ls xs ls.length) w' ∧ (∀ q, WrD wb lb us q → WrD wb lb vs q ∨ w.heap.size ≤ q) ∧ Exc (WrD wb lb vs) w.heap.size w w'
end

end Go.Proofs.YtfbfbijkkbflkaaGreatDoor

namespace Go.Proofs.YtfbfbijkkbflkaaGreatDoor
open Go.RowKit Fm
set_option linter.unusedVariables false
set_option maxRecDepth 100000

def RetG2 {f : Nat} (g : Gad f) (w : World) (e : Ending) (w' : World) : Prop :=
 ∃ (k : Int) (sl : Value) (n : Int), e = .returned (.agg #[.int .u8 k, sl, .int .i64 n]) ∧ RepG w' w'.heap.size k sl n g ∧ Below w.heap.size w w' ∧ ∀ (p : Addr) (a c : Nat), sl = .slice (some p) a c → w.heap.size ≤ p.block

section
variable {f : Nat} (hf : IsF f)
include hf

set_option maxHeartbeats 1000000 in
theorem circuit_Gadget2 (y : CK) (hy : y.ok) (w : World) : Calls Tryz.prog 27 #[y.val f] w (RetG2 (y.gad f) w) := by
 cases y with
 | count =>
  rw [val_count]
  go_enter Tryz.func27, Tryz.ntmps27
  go_wp2
  refine bodyPost_ret (by simp [results, Tryz.results27, go_sem]; first | done | rfl) rfl ⟨1, _, 0, rfl, ⟨rfl, rfl, rfl⟩, by repeat (first | exact bA | with_reducible assumption | apply bB | (refine bC ?_ (by dsimp only; omega)) | apply bD | apply bE | (refine bF ?_ (by assumption))), fun p a c h => by cases h⟩
 | vec b l c =>
  rw [val_vec]
  go_enter Tryz.func27, Tryz.ntmps27
  go_wp2
  refine bodyPost_ret (by simp [results, Tryz.results27, go_sem]; first | done | rfl) rfl ⟨3, _, c, rfl, ⟨rfl, rfl, rfl, hy.2.2.1, hy.2.2.2⟩, by repeat (first | exact bA | with_reducible assumption | apply bB | (refine bC ?_ (by dsimp only; omega)) | apply bD | apply bE | (refine bF ?_ (by assumption))), fun p a c h => by cases h⟩
 | hist l c =>
  rw [val_hist]
  go_enter Tryz.func27, Tryz.ntmps27
  go_wp2
  refine bodyPost_ret (by simp [results, Tryz.results27, go_sem]; first | done | rfl) rfl ⟨3, _, c, rfl, ⟨rfl, rfl, rfl, hy.2.1, hy.2.2⟩, by repeat (first | exact bA | with_reducible assumption | apply bB | (refine bC ?_ (by dsimp only; omega)) | apply bD | apply bE | (refine bF ?_ (by assumption))), fun p a c h => by cases h⟩
 | multi l m c =>
  rw [val_multi]
  go_enter Tryz.func27, Tryz.ntmps27
  go_wp2
  refine bodyPost_ret (by simp [results, Tryz.results27, go_sem]; first | done | rfl) rfl ⟨3, _, c, rfl, ⟨rfl, rfl, rfl, hy.2.2.1, hy.2.2.2⟩, by repeat (first | exact bA | with_reducible assumption | apply bB | (refine bC ?_ (by dsimp only; omega)) | apply bD | apply bE | (refine bF ?_ (by assumption))), fun p a c h => by cases h⟩
 | sum b =>
  rw [val_sum]
  have HB := Lib.hid (gadget_Bit2 hf)
  have hb00 : Below w.heap.size w w := Below.refl _ _
  go_enter Tryz.func27, Tryz.ntmps27
  go_upto_region 1 with fail
  have hr := Vs.new (w.alloc (.cells #[.int .u8 2, .int .u8 f, .int .i64 b, .int .i64 0, .int .i64 0, .int .i64 0] 30)) [.int .u8 0, .slice none 0 0, .int .i64 0] #[.int .u8 0, .slice none 0 0, .int .i64 0] 54 rfl
  have hx := (Vs.new w [.int .u8 2, .int .u8 f, .int .i64 b, .int .i64 0, .int .i64 0, .int .i64 0] #[.int .u8 2, .int .u8 f, .int .i64 b, .int .i64 0, .int .i64 0, .int .i64 0] 30 rfl).alloc (.cells #[.int .u8 0, .slice none 0 0, .int .i64 0] 54)
  have hbA : Below w.heap.size w ((w.alloc (.cells #[.int .u8 2, .int .u8 f, .int .i64 b, .int .i64 0, .int .i64 0, .int .i64 0] 30)).alloc (.cells #[.int .u8 0, .slice none 0 0, .int .i64 0] 54)) := by repeat (first | exact bA | with_reducible assumption | apply bB | (refine bC ?_ (by dsimp only; omega)) | apply bD | apply bE | (refine bF ?_ (by assumption)))
  rw [World.size_alloc] at hr
  generalize (w.alloc (.cells #[.int .u8 2, .int .u8 f, .int .i64 b, .int .i64 0, .int .i64 0, .int .i64 0] 30)).alloc (.cells #[.int .u8 0, .slice none 0 0, .int .i64 0] 54) = w1 at hr hx hbA ⊢
  obtain ⟨⟨x0, x1, x2, x3, x4, x5⟩, ⟨x6, x7, x8, x9, x10, x11⟩, x12⟩ := hx.get6
  obtain ⟨r0, r1, r2, r3, r4, r5, r6⟩ := hr.get3
  go_wp2_with (go_at_call 70; refine (HB.out _).mono ?_; rintro e w2 ⟨g, rfl, hg, hB, hb2⟩; replace hr := hr.call hb2; replace hbA := bl_call hbA (Nat.le_refl _) hb2; have hgl : w.heap.size + 1 < g := Nat.lt_of_lt_of_le r6 hg; clear x0 x1 x2 x3 x4 x5 x6 x7 x8 x9 x10 x11 x12 r0 r1 r2 r3 r4 r5 r6; obtain ⟨r0, r1, r2, r3, r4, r5, r6⟩ := hr.get3)
  have hS := Vs.set3 hr (.int .u8 2) (.slice (some ⟨g, 0, none⟩) 3 3) (.int .i64 0)
  have hBS : BlkE (((w2.setCell ⟨w.heap.size + 1, 0, none⟩ (.int .u8 2)).setCell ⟨w.heap.size + 1, 1, none⟩ (.slice (some ⟨g, 0, none⟩) 3 3)).setCell ⟨w.heap.size + 1, 2, none⟩ (.int .i64 0)) g (esK ([0, -1, 1] : KL f)) :=
   ((hB.far (by simp; omega) _).far (by simp; omega) _).far (by simp; omega) _
  have hbS := bl_st3 (b := w.heap.size + 1) hbA (by omega) (.int .u8 2) (.slice (some ⟨g, 0, none⟩) 3 3) (.int .i64 0)
  refine bodyPost_ret (results_gadget (b := w.heap.size + 1) hS rfl rfl) rfl ?_
  exact ⟨2, _, 0, rfl, ⟨rfl, rfl, hBS.slK (by simp) hBS.lt, ⟨2, 1, rfl, rfl, k_one_ne, by omega, by omega⟩⟩, hbS, fun p a c h => by injection h with h; injection h with h; subst h; dsimp only; omega⟩

omit hf in
theorem RepG.same {w w' : World} {k : Int} {sl : Value} {n : Int} {g : Gad f} (h : RepG w w.heap.size k sl n g) (hs : ∀ (p : Addr) (a c : Nat), sl = .slice (some p) a c → w'.heap[p.block]? = w.heap[p.block]? ∧ p.block < w'.heap.size) : RepG w' w'.heap.size k sl n g := by
 cases g with
 | mul => exact h
 | par m => exact h
 | eval cs =>
  obtain ⟨h1, h2, ⟨A, c, hv, k1, k2, k3⟩, h4⟩ := h
  refine ⟨h1, h2, ⟨A, c, hv, k1, k2, fun hl => ?_⟩, h4⟩
  obtain ⟨b, o, e1, e2, e3⟩ := k3 hl
  subst e1
  obtain ⟨q1, q2⟩ := hs _ _ _ hv
  exact ⟨b, o, rfl, q2, fun i e hi => ⟨(World.cell?_of_block (w := w) (a := ⟨b, o + i * 2, none⟩) q1).trans (e3 i e hi).1, (World.cell?_of_block (w := w) (a := ⟨b, o + i * 2 + 1, none⟩) q1).trans (e3 i e hi).2⟩⟩
end

theorem RepG.ltB {f : Nat} {w : World} {B : Nat} {k : Int} {sl : Value} {n : Int} {g : Gad f} (h : RepG w B k sl n g) (p : Addr) (a c : Nat) (hs : sl = .slice (some p) a c) : p.block < B := by
 cases g with
 | mul => rw [h.2.1] at hs; cases hs
 | par m => rw [h.2.1] at hs; cases hs
 | eval cs =>
  obtain ⟨_, _, ⟨A, c', hv, _, _, k3⟩, m, y, h4, _⟩ := h
  obtain ⟨b, o, e1, e2, _⟩ := k3 (by omega)
  rw [hv, e1] at hs
  injection hs with hs
  injection hs with hs
  rw [← hs]
  exact e2

def Agr (E : Nat → Prop) (wE w : World) : Prop := ∀ q, E q → w.heap[q]? = wE.heap[q]?
theorem Agr.lt {E : Nat → Prop} {wE w : World} (h : Agr E wE w) {q : Nat} (hq : E q) (hl : q < wE.heap.size) : q < w.heap.size := by
 have h1 := h q hq
 rw [Array.getElem?_eq_getElem hl] at h1
 exact (Array.getElem?_eq_some_iff.1 h1).1

end Go.Proofs.YtfbfbijkkbflkaaGreatDoor

namespace Go.Proofs.YtfbfbijkkbflkaaGreatDoor
open Go.RowKit Fm
set_option linter.unusedVariables false
set_option maxRecDepth 100000

structure TabW (w : World) : Prop where
 tab : TabAt 1 Lib.deBruijn64tab w
 lt : 1 < w.heap.size
theorem TabW.call {w w' : World} (h : TabW w) (hb : Below w.heap.size w w') : TabW w' :=
 ⟨fun j hj => cell_call (h.tab j hj) hb, Nat.lt_of_lt_of_le h.lt hb.size⟩

set_option maxHeartbeats 1000000 in
theorem tz64_core (x k idx : Nat) (w : World) (hx0 : ((x : Int) == 0) = false)
  (key : IntKind.u64.wrap (bits BinOp.and IntKind.u64 (x : Int) (IntKind.u64.wrap (-(x : Int))) * 285870213051353865) / 288230376151711744 = (idx : Int))
  (hi : idx < 64) (hk : k < 64) (hcell : w.cell? ⟨1, idx, none⟩ = some (.int .u8 k)) :
  Calls Tryz.prog 106 #[.int .u64 x] w fun e w' => e = .returned (.int .i64 k) ∧ w = w' := by
 go_enter Tryz.func106, Tryz.ntmps106
 go_wp2_with (simp only [key])
 go_ret
 exact ⟨rfl, rfl⟩
theorem bits_Tz64 (x : Nat) (h0 : x ≠ 0) (hx : x < 18446744073709551616) (w : World) (hT : TabW w) :
  Calls Tryz.prog 106 #[.int .u64 x] w fun e w' => e = .returned (.int .i64 (Lib.ctz 64 x)) ∧ w = w' := by
 obtain ⟨hlow, hk⟩ := Lib.lowest_bit 64 x h0 hx
 obtain ⟨hi, htab⟩ := Lib.deBruijn64_at _ hk
 have hcell := hT.tab _ hi
 rw [htab] at hcell
 exact tz64_core x _ _ w (by simp; omega) (tz64_key x _ hx h0 hlow) hi hk hcell
theorem bits_Tz (x : Nat) (h0 : x ≠ 0) (hx : x < 18446744073709551616) (w : World) (hT : TabW w) :
  Calls Tryz.prog 71 #[.int .u64 x] w fun e w' => e = .returned (.int .i64 (Lib.ctz 64 x)) ∧ w = w' := by
 have H := Lib.hid (bits_Tz64 x h0 hx w hT)
 generalize Lib.ctz 64 x = k at *
 clear h0
 go_enter Tryz.func71, Tryz.ntmps71
 go_wp2_with fail
 refine H.out.mono ?_
 rintro e w' ⟨rfl, rfl⟩
 go_wp2
 go_ret
 exact ⟨rfl, rfl⟩

theorem ctz_two : ∀ k, k ≤ 10 → Lib.ctz 64 (2 ^ k) = k := by
 have h : ∀ k, k < 11 → Lib.ctz 64 (2 ^ k) = k := by decide +kernel
 exact fun k hk => h k (by omega)
theorem and_two : ∀ k, k < 11 → 2 ^ k &&& (2 ^ k - 1) = 0 := by decide +kernel
theorem bits_and_i64_nat (a b : Nat) (ha : a < 9223372036854775808) (hb : b < 9223372036854775808) : bits .and .i64 (a : Int) (b : Int) = ((a &&& b : Nat) : Int) := by
 have hx : a &&& b < 2 ^ 63 := Nat.and_lt_two_pow _ (by omega)
 have h1 : (BitVec.ofInt 64 (a : Int)).toNat = a := by
  rw [BitVec.ofInt_natCast, BitVec.toNat_ofNat]; exact Nat.mod_eq_of_lt (by omega)
 have h2 : (BitVec.ofInt 64 (b : Int)).toNat = b := by
  rw [BitVec.ofInt_natCast, BitVec.toNat_ofNat]; exact Nat.mod_eq_of_lt (by omega)
 show IntKind.i64.wrap ((BitVec.ofInt 64 (a : Int) &&& BitVec.ofInt 64 (b : Int)).toNat : Int) = _
 rw [BitVec.toNat_and, h1, h2]
 exact IntWalk.i64_in _ (by omega)

set_option maxHeartbeats 1000000 in
theorem ntt_Log_ok (k : Nat) (hk : k ≤ 10) (w : World) (hT : TabW w) :
  Calls Tryz.prog 29 #[.int .i64 ((2 ^ k : Nat) : Int)] w fun e w' => e = .returned (.tuple #[.int .i64 k, .bool true]) ∧ w = w' := by
 have hp := Nat.two_pow_pos k
 have hle : 2 ^ k ≤ 2 ^ 10 := Nat.pow_le_pow_right (by omega) hk
 have H := Lib.hid (bits_Tz (2 ^ k) (by omega) (by omega) w hT)
 rw [ctz_two k hk] at H
 have hand := bits_and_i64_nat (2 ^ k) (2 ^ k - 1) (by omega) (by omega)
 rw [and_two k (by omega), Int.ofNat_sub hp] at hand
 simp only [Int.cast_ofNat_Int, Int.natCast_one] at hand
 have hn1 : (1 : Int) ≤ ((2 ^ k : Nat) : Int) := by omega
 have hn2 : ((2 ^ k : Nat) : Int) ≤ 1024 := by omega
 clear hp hle
 generalize ((2 ^ k : Nat) : Int) = n at *
 go_enter Tryz.func29, Tryz.ntmps29
 go_wp2_with fail
 refine H.out.mono ?_
 rintro e w' ⟨rfl, rfl⟩
 go_wp2
 go_ret2
 exact ⟨rfl, rfl⟩

/-! ### bits turned round -/
def rb (x s m : Nat) : Nat := (x / 2 ^ s &&& m) ||| ((x &&& m) * 2 ^ s)
def rev8 (x : Nat) : Nat := rb (rb (rb x 1 6148914691236517205) 2 3689348814741910323) 4 1085102592571150095
def rev64 (x : Nat) : Nat :=
 let a := rb (rb (rev8 x) 8 71777214294589695) 16 281470681808895
 a / 4294967296 ||| (a * 4294967296 % 18446744073709551616)
theorem rb_bits (x s m : Nat) (hx : x < 18446744073709551616) (hm : m * 2 ^ s < 18446744073709551616) :
  bits .or .u64 (bits .and .u64 ((x : Int) / ((2 ^ s : Nat) : Int)) (m : Int)) (bits .and .u64 (x : Int) (m : Int) * ((2 ^ s : Nat) : Int)) = (rb x s m : Int) ∧ bits .and .u64 (x : Int) (m : Int) = ((x &&& m : Nat) : Int) ∧ (x &&& m) * 2 ^ s ≤ 18446744073709551615 ∧ rb x s m < 18446744073709551616 := by
 have hp := Nat.two_pow_pos s
 have hm1 : m < 18446744073709551616 := Nat.lt_of_le_of_lt (Nat.le_mul_of_pos_right m hp) hm
 have hxs : x / 2 ^ s < 18446744073709551616 := Nat.lt_of_le_of_lt (Nat.div_le_self _ _) hx
 have h1 := bits_and_u64_nat (x / 2 ^ s) m hxs hm1
 have h2 := bits_and_u64_nat x m hx hm1
 have h3 : (x &&& m) ≤ m := Nat.and_le_right
 have h4 : (x &&& m) * 2 ^ s ≤ m * 2 ^ s := Nat.mul_le_mul_right _ h3
 have h5 : (x / 2 ^ s &&& m) < 18446744073709551616 := Nat.lt_of_le_of_lt Nat.and_le_right hm1
 refine ⟨?_, h2, by omega, ?_⟩
 ·rw [← Int.natCast_ediv, h1, h2, ← Int.natCast_mul, bits_or_u64_nat _ _ h5 (by omega)]
  rfl
 ·exact Nat.or_lt_two_pow (n := 64) h5 (by omega)

set_option maxHeartbeats 1000000 in
theorem bits_ReverseBytes64 (x : Nat) (hx : x < 18446744073709551616) (w : World) :
  Calls Tryz.prog 144 #[.int .u64 x] w fun e w' => e = .returned (.int .u64 ((rb (rb x 8 71777214294589695) 16 281470681808895 / 4294967296 ||| (rb (rb x 8 71777214294589695) 16 281470681808895 * 4294967296 % 18446744073709551616) : Nat) : Int)) ∧ w = w' := by
 obtain ⟨a1, a2, a3, a4⟩ := rb_bits x 8 71777214294589695 hx (by omega)
 generalize rb x 8 71777214294589695 = y at *
 obtain ⟨b1, b2, b3, b4⟩ := rb_bits y 16 281470681808895 a4 (by omega)
 generalize rb y 16 281470681808895 = z at *
 have hz1 : (0 : Int) ≤ (z : Int) := by omega
 have c1 : bits .or .u64 ((z : Int) / 4294967296) (IntKind.u64.wrap ((z : Int) * 4294967296)) = ((z / 4294967296 ||| (z * 4294967296 % 18446744073709551616) : Nat) : Int) := by
  rw [IntKind.wrap_u64, show (z : Int) / 4294967296 = ((z / 4294967296 : Nat) : Int) by omega, show (z : Int) * 4294967296 % 18446744073709551616 = ((z * 4294967296 % 18446744073709551616 : Nat) : Int) by omega,
   bits_or_u64_nat _ _ (by omega) (by omega)]
 generalize (z / 4294967296 ||| (z * 4294967296 % 18446744073709551616)) = r at *
 have d1 : IntKind.u64.wrap (((x &&& 71777214294589695 : Nat) : Int) * 256) = ((x &&& 71777214294589695 : Nat) : Int) * 256 := IntWalk.u64_in _ (by omega)
 have d2 : IntKind.u64.wrap (((y &&& 281470681808895 : Nat) : Int) * 65536) = ((y &&& 281470681808895 : Nat) : Int) * 65536 := IntWalk.u64_in _ (by omega)
 rw [a2] at a1
 rw [b2] at b1
 replace a1 : bits .or .u64 (bits .and .u64 ((x : Int) / 256) 71777214294589695) (((x &&& 71777214294589695 : Nat) : Int) * 256) = (y : Int) := a1
 replace b1 : bits .or .u64 (bits .and .u64 ((y : Int) / 65536) 281470681808895) (((y &&& 281470681808895 : Nat) : Int) * 65536) = (z : Int) := b1
 replace a2 : bits .and .u64 (x : Int) 71777214294589695 = ((x &&& 71777214294589695 : Nat) : Int) := a2
 replace b2 : bits .and .u64 (y : Int) 281470681808895 = ((y &&& 281470681808895 : Nat) : Int) := b2
 generalize x &&& 71777214294589695 = p at *
 generalize y &&& 281470681808895 = q at *
 have hx0 : (0 : Int) ≤ (x : Int) := by omega
 have hy0 : (0 : Int) ≤ (y : Int) := by omega
 go_enter Tryz.func144, Tryz.ntmps144
 go_wp2
 go_ret
 exact ⟨rfl, rfl⟩

set_option maxHeartbeats 1000000 in
theorem bits_Reverse64 (x : Nat) (hx : x < 18446744073709551616) (w : World) :
  Calls Tryz.prog 133 #[.int .u64 x] w fun e w' => e = .returned (.int .u64 (rev64 x : Nat)) ∧ w = w' := by
 obtain ⟨a1, a2, a3, a4⟩ := rb_bits x 1 6148914691236517205 hx (by omega)
 have hr : rev64 x = rb (rb (rb (rb (rb x 1 6148914691236517205) 2 3689348814741910323) 4 1085102592571150095) 8 71777214294589695) 16 281470681808895 / 4294967296 ||| (rb (rb (rb (rb (rb x 1 6148914691236517205) 2 3689348814741910323) 4 1085102592571150095) 8 71777214294589695) 16 281470681808895 * 4294967296 % 18446744073709551616) := rfl
 generalize rev64 x = r at *
 generalize rb x 1 6148914691236517205 = y at *
 obtain ⟨b1, b2, b3, b4⟩ := rb_bits y 2 3689348814741910323 a4 (by omega)
 generalize rb y 2 3689348814741910323 = z at *
 obtain ⟨c1, c2, c3, c4⟩ := rb_bits z 4 1085102592571150095 b4 (by omega)
 generalize rb z 4 1085102592571150095 = u at *
 have HB := Lib.hid (fun wz => bits_ReverseBytes64 u c4 wz)
 rw [← hr] at HB
 clear hr
 rw [a2] at a1
 rw [b2] at b1
 rw [c2] at c1
 replace a1 : bits .or .u64 (bits .and .u64 ((x : Int) / 2) 6148914691236517205) (((x &&& 6148914691236517205 : Nat) : Int) * 2) = (y : Int) := a1
 replace b1 : bits .or .u64 (bits .and .u64 ((y : Int) / 4) 3689348814741910323) (((y &&& 3689348814741910323 : Nat) : Int) * 4) = (z : Int) := b1
 replace c1 : bits .or .u64 (bits .and .u64 ((z : Int) / 16) 1085102592571150095) (((z &&& 1085102592571150095 : Nat) : Int) * 16) = (u : Int) := c1
 replace a2 : bits .and .u64 (x : Int) 6148914691236517205 = ((x &&& 6148914691236517205 : Nat) : Int) := a2
 replace b2 : bits .and .u64 (y : Int) 3689348814741910323 = ((y &&& 3689348814741910323 : Nat) : Int) := b2
 replace c2 : bits .and .u64 (z : Int) 1085102592571150095 = ((z &&& 1085102592571150095 : Nat) : Int) := c2
 have d1 : IntKind.u64.wrap (((x &&& 6148914691236517205 : Nat) : Int) * 2) = ((x &&& 6148914691236517205 : Nat) : Int) * 2 := IntWalk.u64_in _ (by omega)
 have d2 : IntKind.u64.wrap (((y &&& 3689348814741910323 : Nat) : Int) * 4) = ((y &&& 3689348814741910323 : Nat) : Int) * 4 := IntWalk.u64_in _ (by omega)
 have d3 : IntKind.u64.wrap (((z &&& 1085102592571150095 : Nat) : Int) * 16) = ((z &&& 1085102592571150095 : Nat) : Int) * 16 := IntWalk.u64_in _ (by omega)
 generalize x &&& 6148914691236517205 = p at *
 generalize y &&& 3689348814741910323 = q at *
 generalize z &&& 1085102592571150095 = s at *
 have hx0 : (0 : Int) ≤ (x : Int) := by omega
 have hy0 : (0 : Int) ≤ (y : Int) := by omega
 have hz0 : (0 : Int) ≤ (z : Int) := by omega
 go_enter Tryz.func133, Tryz.ntmps133
 go_wp2_with fail
 refine (HB.out _).mono ?_
 rintro e w' ⟨rfl, rfl⟩
 go_wp2
 go_ret
 exact ⟨rfl, rfl⟩

theorem rev64_lt (x : Nat) (hx : x < 18446744073709551616) : rev64 x < 18446744073709551616 := by
 obtain ⟨_, _, _, a4⟩ := rb_bits x 1 6148914691236517205 hx (by omega)
 obtain ⟨_, _, _, b4⟩ := rb_bits _ 2 3689348814741910323 a4 (by omega)
 obtain ⟨_, _, _, c4⟩ := rb_bits _ 4 1085102592571150095 b4 (by omega)
 obtain ⟨_, _, _, d4⟩ := rb_bits _ 8 71777214294589695 c4 (by omega)
 obtain ⟨_, _, _, e4⟩ := rb_bits _ 16 281470681808895 d4 (by omega)
 exact Nat.or_lt_two_pow (n := 64) (Nat.lt_of_le_of_lt (Nat.div_le_self _ _) e4) (Nat.mod_lt _ (by omega))
theorem rev64_rev : ∀ L, L ≤ 10 → 1 ≤ L → ∀ i, i < 2 ^ L → rev64 i / 2 ^ (64 - L) &&& (2 ^ L - 1) = rev L i := by
 have h : ∀ L, L < 11 → 1 ≤ L → ∀ i, i < 2 ^ L → rev64 i / 2 ^ (64 - L) &&& (2 ^ L - 1) = rev L i := by decide +kernel
 exact fun L h1 => h L (by omega)

set_option maxHeartbeats 1000000 in
theorem ntt_turned (i L : Nat) (hL : L ≤ 10) (hL1 : 1 ≤ L) (hi : i < 2 ^ L) (w : World) :
  Calls Tryz.prog 113 #[.int .i64 i, .int .i64 L] w (RetI (rev L i) w) := by
 have hp : 2 ^ L ≤ 2 ^ 10 := Nat.pow_le_pow_right (by omega) hL
 have hp0 := Nat.two_pow_pos L
 have HR : Hid (∀ wz, Calls Tryz.prog 133 #[.int .u64 i] wz fun e w' => e = .returned (.int .u64 (rev64 i : Nat)) ∧ Below wz.heap.size wz w') := fun wz => (bits_Reverse64 i (by omega) wz).mono fun _ _ h => ⟨h.1, h.2 ▸ Below.refl _ _⟩
 have hrl := rev64_lt i (by omega)
 have hre := rev64_rev L hL hL1 i hi
 have hlt := rev_lt L i
 generalize rev L i = q at *
 generalize rev64 i = r at *
 have hand := bits_and_u64_nat (r / 2 ^ (64 - L)) (2 ^ L - 1) (Nat.lt_of_le_of_lt (Nat.div_le_self _ _) hrl) (by omega)
 rw [hre] at hand
 rw [Int.natCast_ediv, Int.natCast_pow, Int.ofNat_sub hp0, Int.natCast_pow] at hand
 simp only [Int.cast_ofNat_Int, Int.natCast_one] at hand
 obtain ⟨c, hc⟩ : ∃ c, 64 - L = c := ⟨_, rfl⟩
 rw [hc] at hand
 have hs : 64 - (L : Int) = (c : Int) := by omega
 have hi2 : (i : Int) ≤ 1024 := by omega
 have hq2 : (q : Int) ≤ 1024 := by omega
 have hr2 : (r : Int) ≤ 18446744073709551615 := by omega
 have hpp : (2 : Int) ^ L ≤ 1024 := by have := Int.natCast_pow 2 L; simp only [Int.cast_ofNat_Int] at this; omega
 have hpp0 : (1 : Int) ≤ (2 : Int) ^ L := by have := Int.natCast_pow 2 L; simp only [Int.cast_ofNat_Int] at this; omega
 have w1 : IntKind.u64.wrap (i : Int) = (i : Int) := IntWalk.u64_in _ (by omega)
 have w2 : IntKind.i64.wrap (c : Int) = (c : Int) := IntWalk.i64_in _ (by omega)
 have w3 : IntKind.u64.wrap ((2 : Int) ^ L) = (2 : Int) ^ L := IntWalk.u64_in _ (by omega)
 have w4 : IntKind.u64.wrap ((2 : Int) ^ L - 1) = (2 : Int) ^ L - 1 := IntWalk.u64_in _ (by omega)
 have w5 : IntKind.i64.wrap (q : Int) = (q : Int) := IntWalk.i64_in _ (by omega)
 have hc0 : (0 : Int) ≤ (c : Int) := by omega
 have hc64 : (c : Int) < 64 := by omega
 have hL0 : (0 : Int) ≤ (L : Int) := by omega
 have hL64 : (L : Int) < 64 := by omega
 clear hre hc hp hp0 hlt hrl
 go_enter Tryz.func113, Tryz.ntmps113
 go_wp2_with fail
 refine region_B (n := 11) (m := 12) (f := 11) (by kernel_rfl) (by kernel_rfl) rfl ?_
 refine WpH.vD 0 (some 5) ?_ rfl rfl (by kernel_rfl) (fun _ _ _ h => h) rfl (fun wz hwz => ?_) ?_
 rotate_left
 ·go_simp; try (with_reducible rfl)
 simp only [Zp, Zq, Zr, Zs]
 refine WpH.vD 1 (some 6) ?_ rfl rfl (by kernel_rfl) (fun _ _ _ h => h) rfl (fun wz hwz => ?_) ?_
 rotate_left
 ·go_simp; try (with_reducible rfl)
 simp only [Zp, Zq, Zr, Zs]
 refine WpH.takeD 2 (some 7) rfl rfl (by kernel_rfl) (fun _ _ _ h => h) (.call rfl (fun wz hwz => HR.out wz) (fun wz hwz => ?_)) ?_
 ·go_simp; try (with_reducible rfl)
 simp only [Zp, Zq, Zr, Zs]
 refine WpH.vD 3 (some 8) ?_ rfl rfl (by kernel_rfl) (fun _ _ _ h => h) rfl (fun wz hwz => ?_) ?_
 rotate_left
 ·go_simp; try (with_reducible rfl)
 simp only [Zp, Zq, Zr, Zs]
 refine WpH.vD 4 (some 9) ?_ rfl rfl (by kernel_rfl) (fun _ _ _ h => h) rfl (fun wz hwz => ?_) ?_
 rotate_left
 ·go_simp; try (with_reducible rfl)
 simp only [Zp, Zq, Zr, Zs]
 refine WpH.vD 5 (some 10) ?_ rfl rfl (by kernel_rfl) (fun _ _ _ h => h) rfl (fun wz hwz => ?_) ?_
 rotate_left
 ·go_simp; try (with_reducible rfl)
 simp only [Zp, Zq, Zr, Zs]
 refine WpH.vD 6 (some 11) ?_ rfl rfl (by kernel_rfl) (fun _ _ _ h => h) rfl (fun wz hwz => ?_) ?_
 rotate_left
 ·go_simp; try (with_reducible rfl)
 simp only [Zp, Zq, Zr, Zs]
 refine WpH.vD 7 (some 12) ?_ rfl rfl (by kernel_rfl) (fun _ _ _ h => h) rfl (fun wz hwz => ?_) ?_
 rotate_left
 ·go_simp; try (with_reducible rfl)
 simp only [Zp, Zq, Zr, Zs]
 refine WpH.vD 8 (some 13) ?_ rfl rfl (by kernel_rfl) (fun _ _ _ h => h) rfl (fun wz hwz => ?_) ?_
 rotate_left
 ·go_simp; try (with_reducible rfl)
 simp only [Zp, Zq, Zr, Zs]
 refine WpH.vD 9 (some 14) ?_ rfl rfl (by kernel_rfl) (fun _ _ _ h => h) rfl (fun wz hwz => ?_) ?_
 rotate_left
 ·go_simp; try (with_reducible rfl)
 simp only [Zp, Zq, Zr, Zs]
 refine WpH.vD 10 (some 15) ?_ rfl rfl (by kernel_rfl) (fun _ _ _ h => h) rfl (fun wz hwz => ?_) ?_
 rotate_left
 ·go_simp; try (with_reducible rfl)
 simp only [Zp, Zq, Zr, Zs]
 refine WpH.doneB (by kernel_rfl) (fun w2 hw2 => ?_)
 (try simp only [List.drop_succ_cons]); (try simp only [List.drop_zero]); (try simp only [Nat.reduceSub]); (try simp only [List.take_succ_cons]); (try simp only [List.take_zero])
 go_wp2
 go_ret
 exact ⟨rfl, hw2⟩

end Go.Proofs.YtfbfbijkkbflkaaGreatDoor

namespace Go.Proofs.YtfbfbijkkbflkaaGreatDoor
open Go.RowKit Fm
set_option linter.unusedVariables false
set_option maxRecDepth 100000

theorem sq_down (f R k : Nat) (h : 2 ^ R ∣ Pm f - 1) (hk : k < R) : rootK f (R - k) * rootK f (R - k) = rootK f (R - (k + 1)) := by
 have h2 := root_sq_of f (R - (k + 1)) (Nat.dvd_trans (Nat.pow_dvd_pow 2 (by omega)) h)
 rwa [show R - (k + 1) + 1 = R - k by omega] at h2

theorem lo_small (z : Fin (Pm 1)) : lo z = ((z.val : Nat) : Int) ∧ hi z = 0 := by
 have h1 := z.isLt
 have h2 : Pm 1 = 18446744069414584321 := rfl
 exact vK_of (by omega) (by omega) (by omega)
theorem gold_MulS (x y : Fin (Pm 1)) (w : World) : Calls Tryz.prog 99 #[.int .u64 (lo x), .int .u64 (lo y)] w fun e w' => e = .returned (.int .u64 (lo (x * y))) ∧ w = w' := by
 have hp : ((Pm 1 : Nat) : Int) = 18446744069414584321 := rfl
 rw [(lo_small (x * y)).1, val_mul, ← (lo_small x).1, ← (lo_small y).1, hp]
 exact gold_Mul _ _ w (lo_0 x) (lo_1 x) (lo_0 y) (lo_1 y)
theorem gold_PowS (x : Fin (Pm 1)) (n : Nat) (hn : n ≤ 18446744073709551615) (w : World) : Calls Tryz.prog 55 #[.int .u64 (lo x), .int .u64 n] w fun e w' => e = .returned (.int .u64 (lo (Fm.kpow x n))) ∧ w = w' := by
 have hp : ((Pm 1 : Nat) : Int) = 18446744069414584321 := rfl
 have h := gold_Pow (lo x) (n : Int) w (lo_0 x) (lo_1 x) (by omega) (by omega)
 rwa [(lo_small x).1, Int.toNat_natCast, ← hp, ← val_kI, ← kpw_ipow, kpw_fm, ← (lo_small x).1, ← (lo_small (Fm.kpow x n)).1] at h

set_option maxHeartbeats 2000000 in
theorem gold_Root (L : Nat) (hL : L ≤ 32) (w : World) :
  Calls Tryz.prog 107 #[.int .i64 L] w fun e w' => e = .returned (.tuple #[.int .u64 (lo (rootK 1 L)), .int .i64 0]) ∧ w = w' := by
 have HSQ := Lib.hid (fun k hk => sq_down 1 32 k (by decide) hk)
 have HP : Hid (∀ wz, Calls Tryz.prog 55 #[.int .u64 7, .int .u64 4294967295] wz fun e w' => e = .returned (.int .u64 (lo (rootK 1 32))) ∧ wz = w') := fun wz => by
  obtain ⟨en, hen⟩ : ∃ en : Nat, en = 4294967295 := ⟨_, rfl⟩
  have h7 : lo (seven 1) = 7 := (lo_small (seven 1)).1
  have h := gold_PowS (seven 1) en (by omega) wz
  have hr : rootK 1 32 = Fm.kpow (seven 1) en := by
   unfold rootK
   rw [show (Pm 1 - 1) / 2 ^ 32 = en by rw [hen]; decide]
  rw [h7, ← hr, show (en : Int) = 4294967295 by omega] at h
  exact h
 have HM := Lib.hid gold_MulS
 go_enter Tryz.func107, Tryz.ntmps107
 go_wp2_with fail
 refine (HP.out _).mono ?_
 rintro e w' ⟨rfl, rfl⟩
 go_wp2
 go_loop [4, 14] (fun r i => ∃ (k : Nat) (x : Fin (Pm 1)), k ≤ 32 - L ∧ i = .int .i64 k ∧ r = .int .u64 (lo x) ∧ Hid (x = rootK 1 (32 - k))) (fun _ i => 32 - (intOf i).toNat)
 case atStart => exact ⟨0, _, by omega, rfl, rfl, rfl⟩
 case round =>
  obtain ⟨k, x, hk, rfl, rfl, hx⟩ := hrel
  by_cases hlt : k < 32 - L
  ·have HX : Hid (x * x = rootK 1 (32 - (k + 1))) := by show _ = _; rw [hx.out]; exact HSQ.out k (by omega)
   have t1 : decide ((k : Int) < 32 - (L : Int)) = true := by simp; omega
   go_wp2_with fail
   refine (HM.out x x _).mono ?_
   rintro e w' ⟨rfl, rfl⟩
   go_wp2
   go_round
   case rel => exact ⟨k + 1, _, by omega, by go_num, rfl, HX⟩
   case measure => simp [intOf]; omega
  ·obtain rfl : k = 32 - L := by omega
   have t1 : decide (((32 - L : Nat) : Int) < 32 - (L : Int)) = false := by simp; omega
   go_wp2
   go_ret2
   have h := hx.out
   rw [show 32 - (32 - L) = L by omega] at h
   rw [h]
   exact ⟨rfl, rfl⟩

set_option maxHeartbeats 4000000 in
theorem wide_Root (L : Nat) (hL : L ≤ 66) (w : World) :
  Calls Tryz.prog 108 #[.int .i64 L] w fun e w' => e = .returned (.tuple #[vK (rootK 2 L), .int .i64 0]) ∧ Below w.heap.size w w' := by
 have HSQ := Lib.hid (fun k hk => sq_down 2 66 k (by decide) hk)
 have HP : Hid (∀ wz, Calls Tryz.prog 56 #[.agg #[.int .u64 7, .int .u64 0], .agg #[.int .u64 4611686018427387897, .int .u64 0]] wz (RetK (rootK 2 66) wz)) := fun wz => by
  obtain ⟨en, hen⟩ : ∃ en : Nat, en = 4611686018427387897 := ⟨_, rfl⟩
  have h := wide_Pow 7 0 en 0 wz (by omega) (by omega) (by omega) (by omega) (by omega) (by omega)
  have hr : rootK 2 66 = Fm.kpow (seven 2) en := by
   unfold rootK
   rw [show (Pm 2 - 1) / 2 ^ 66 = en by rw [hen]; decide]
  have h7 : kL 2 7 0 = seven 2 := by
   have h1 : lo (seven 2) = 7 ∧ hi (seven 2) = 0 := vK_of rfl (by omega) (by omega)
   have h2 := kL_lohi (seven 2)
   rwa [h1.1, h1.2] at h2
  rw [h7, kpw_fm, Nat.mul_zero, Nat.add_zero, ← hr, show (en : Int) = 4611686018427387897 by omega] at h
  exact h
 have HM : Hid (∀ (x y : Fin (Pm 2)) wz, Calls Tryz.prog 101 #[vK x, vK y] wz (RetK (x * y) wz)) := fun x y wz => by
  have h := wide_MulL (lo x) (hi x) (lo y) (hi y) wz (lo_0 x) (lo_1 x) (hi_0 x) (hi_1 x) (lo_0 y) (lo_1 y) (hi_0 y) (hi_1 y)
  rwa [kL_lohi, kL_lohi] at h
 have hb00 : Below w.heap.size w w := Below.refl _ _
 go_enter Tryz.func108, Tryz.ntmps108
 go_upto_region 1 with fail
 clear hb00
 have s0 := V2.new w (.int .u64 0) (.int .u64 0) 36
 have hb00 : Below w.heap.size w (w.alloc (.cells #[(.int .u64 0), (.int .u64 0)] 36)) := by repeat (first | exact bA | with_reducible assumption | apply bB)
 have hsz : w.heap.size + 1 ≤ (w.alloc (.cells #[(.int .u64 0), (.int .u64 0)] 36)).heap.size := by simp only [World.size_alloc]; omega
 generalize (w.alloc (.cells #[(.int .u64 0), (.int .u64 0)] 36)) = w1 at s0 hb00 hsz ⊢
 go_upto_region 4 with (first
  | (go_at_call 56; refine (HP.out _).mono ?_; rintro e w2 ⟨rfl, hb2⟩; replace hb00 := bl_call hb00 (Nat.le_refl _) hb2; replace s0 := s0.call hb2))
 obtain ⟨r0, hr0⟩ : ∃ r, rootK 2 66 = r := ⟨_, rfl⟩
 rw [hr0]
 have q0 := V2.new w2 (.int .u64 (lo r0)) (.int .u64 (hi r0)) 36
 have hbA : Below w2.heap.size w2 (w2.alloc (.cells #[.int .u64 (lo r0), .int .u64 (hi r0)] 36)) := by repeat (first | exact bA | with_reducible assumption | apply bB)
 replace hb00 := bl_call hb00 (Nat.le_refl _) hbA
 replace s0 := s0.call hbA
 clear hbA
 generalize w2.alloc (.cells #[.int .u64 (lo r0), .int .u64 (hi r0)] 36) = w3 at hb00 s0 q0 ⊢
 obtain ⟨ob, hob⟩ : ∃ z, w2.heap.size = z := ⟨_, rfl⟩
 have hsb := hb2.size
 rw [hob] at q0 hsb
 simp only [hob]
 clear hob hb2
 have HR0 := Lib.hid hr0
 clear hr0
 go_wp2
 go_loopw [17] (fun i wr => ∃ (k : Nat) (x : Fin (Pm 2)), k ≤ 66 - L ∧ i = .int .i64 k ∧ Hid (x = rootK 2 (66 - k)) ∧ V2 wr ob (.int .u64 (lo x)) (.int .u64 (hi x)) ∧ V2 wr w.heap.size (.int .u64 0) (.int .u64 0) ∧ Below w.heap.size w wr) (fun i _ => 66 - (intOf i).toNat)
 case atStart => exact ⟨0, r0, by omega, rfl, HR0.out.symm, q0, s0, hb00⟩
 case round =>
  clear q0 s0 hb00
  obtain ⟨k, x, hk, rfl, hx, q0, s0, hb00⟩ := hrel
  by_cases hlt : k < 66 - L
  ·have HX : Hid (x * x = rootK 2 (66 - (k + 1))) := by show _ = _; rw [hx.out]; exact HSQ.out k (by omega)
   have t1 : decide ((k : Int) < 66 - (L : Int)) = true := by simp; omega
   obtain ⟨q00, q01, q02, q03, q04⟩ := V2.mk q0.c0 q0.c1 q0.f0 q0.f1 q0.lt
   go_upto_region 7 with (first
    | (go_at_call 101; refine (HM.out _ _ _).mono ?_; rintro e w5 ⟨rfl, hb5⟩; replace hb00 := bl_call hb00 (Nat.le_refl _) hb5; replace q0 := q0.call hb5; replace s0 := s0.call hb5; clear q00 q01 q02 q03 q04; clear hb5; obtain ⟨q00, q01, q02, q03, q04⟩ := V2.mk q0.c0 q0.c1 q0.f0 q0.f1 q0.lt))
   clear q00 q01 q02 q03 q04
   replace q0 : V2 ((w5.setCell ⟨ob, 0, none⟩ (.int .u64 (lo (x * x)))).setCell ⟨ob, 1, none⟩ (.int .u64 (hi (x * x)))) (ob) (.int .u64 (lo (x * x))) (.int .u64 (hi (x * x))) := V2.set q0 _ _
   replace s0 := V2.oth s0 (b := ob) (by omega) (.int .u64 (lo (x * x))) (.int .u64 (hi (x * x)))
   replace hb00 := bl_st hb00 (b := ob) (by omega) (.int .u64 (lo (x * x))) (.int .u64 (hi (x * x)))
   generalize ((w5.setCell ⟨ob, 0, none⟩ (.int .u64 (lo (x * x)))).setCell ⟨ob, 1, none⟩ (.int .u64 (hi (x * x)))) = w6 at q0 s0 hb00 ⊢
   go_wp2_with fail
   go_roundw
   case rel => exact ⟨k + 1, _, by omega, by go_num, HX, q0, s0, hb00⟩
   case measure => simp [intOf]; omega
  ·obtain rfl : k = 66 - L := by omega
   have t1 : decide (((66 - L : Nat) : Int) < 66 - (L : Int)) = false := by simp; omega
   obtain ⟨q00, q01, q02, q03, q04⟩ := V2.mk q0.c0 q0.c1 q0.f0 q0.f1 q0.lt
   obtain ⟨s00, s01, s02, s03, s04⟩ := V2.mk s0.c0 s0.c1 s0.f0 s0.f1 s0.lt
   go_wp2_with fail
   have h := hx.out
   rw [show 66 - (66 - L) = L by omega] at h
   refine bodyPost_ret (results_v2_tmp (b := w.heap.size) (u := .int .u64 (lo x)) (v := .int .u64 (hi x)) ?_ rfl rfl) rfl ⟨by rw [← h]; rfl, by repeat (first | exact bA | with_reducible assumption | apply bB | (refine bC ?_ (by dsimp only; omega)) | apply bD | apply bE | (refine bF ?_ (by assumption)))⟩
   exact V2.set s0 _ _

set_option maxHeartbeats 2000000 in
theorem field_Root {f : Nat} (hf : IsF f) (L : Nat) (hL : L ≤ 32) (w : World) :
  Calls Tryz.prog 74 #[.int .u8 f, .int .i64 L] w fun e w' => e = .returned (.tuple #[vK (rootK f L), .int .i64 0]) ∧ Below w.heap.size w w' := by
 have hb00 : Below w.heap.size w w := Below.refl _ _
 rcases hf.or with rfl | rfl
 ·have HG := Lib.hid (fun wz => gold_Root L hL wz)
  have hh : hi (rootK 1 L) = 0 := (lo_small _).2
  show Calls Tryz.prog 74 _ w fun e w' => e = .returned (.tuple #[.agg #[.int .u64 (lo (rootK 1 L)), .int .u64 (hi (rootK 1 L))], .int .i64 0]) ∧ Below w.heap.size w w'
  rw [hh]
  generalize lo (rootK 1 L) = r at *
  clear hh
  go_enter Tryz.func74, Tryz.ntmps74
  go_upto_region 1 with fail
  clear hb00
  have s0 := V2.new w (.int .u64 0) (.int .u64 0) 36
  have hb00 : Below w.heap.size w (w.alloc (.cells #[(.int .u64 0), (.int .u64 0)] 36)) := by repeat (first | exact bA | with_reducible assumption | apply bB)
  have hsz : w.heap.size + 1 ≤ (w.alloc (.cells #[(.int .u64 0), (.int .u64 0)] 36)).heap.size := by simp only [World.size_alloc]; omega
  generalize (w.alloc (.cells #[(.int .u64 0), (.int .u64 0)] 36)) = w1 at s0 hb00 hsz ⊢
  obtain ⟨s00, s01, s02, s03, s04⟩ := V2.mk s0.c0 s0.c1 s0.f0 s0.f1 s0.lt
  go_wp2_with fail
  refine (HG.out _).mono ?_
  rintro e w3 ⟨rfl, rfl⟩
  go_wp2_with fail
  refine bodyPost_ret (results_v2_tmp (b := w.heap.size) (u := .int .u64 r) (v := .int .u64 0) ?_ rfl rfl) rfl ⟨rfl, by repeat (first | exact bA | with_reducible assumption | apply bB | (refine bC ?_ (by dsimp only; omega)) | apply bD | apply bE | (refine bF ?_ (by assumption)))⟩
  first | exact V2.set s0 _ _ | exact s0
 ·have HG := Lib.hid (fun wz => wide_Root L (by omega) wz)
  generalize rootK 2 L = r at *
  go_enter Tryz.func74, Tryz.ntmps74
  go_upto_region 1 with fail
  clear hb00
  have s0 := V2.new w (.int .u64 0) (.int .u64 0) 36
  have hb00 : Below w.heap.size w (w.alloc (.cells #[(.int .u64 0), (.int .u64 0)] 36)) := by repeat (first | exact bA | with_reducible assumption | apply bB)
  have hsz : w.heap.size + 1 ≤ (w.alloc (.cells #[(.int .u64 0), (.int .u64 0)] 36)).heap.size := by simp only [World.size_alloc]; omega
  generalize (w.alloc (.cells #[(.int .u64 0), (.int .u64 0)] 36)) = w1 at s0 hb00 hsz ⊢
  go_wp2_with fail
  refine (HG.out _).mono ?_
  rintro e w3 ⟨rfl, hb3⟩
  replace hb00 := bl_call hb00 (Nat.le_refl _) hb3
  replace s0 := s0.call hb3
  obtain ⟨s00, s01, s02, s03, s04⟩ := V2.mk s0.c0 s0.c1 s0.f0 s0.f1 s0.lt
  go_wp2_with fail
  refine bodyPost_ret (results_v2_tmp (b := w.heap.size) (u := .int .u64 (lo r)) (v := .int .u64 (hi r)) ?_ rfl rfl) rfl ⟨rfl, by repeat (first | exact bA | with_reducible assumption | apply bB | (refine bC ?_ (by dsimp only; omega)) | apply bD | apply bE | (refine bF ?_ (by assumption)))⟩
  exact V2.set s0 _ _

def pows {f : Nat} (x : Fin (Pm f)) (n : Nat) : KL f := ofF n fun i => Fm.kpow x i
theorem pows_succ {f : Nat} (x : Fin (Pm f)) (n : Nat) : pows x (n + 1) = pows x n ++ [Fm.kpow x n] := by
 unfold pows ofF
 rw [List.range_succ, List.map_append]
 rfl
theorem pows_length {f : Nat} (x : Fin (Pm f)) (n : Nat) : (pows x n).length = n := ofF_length ..

set_option maxHeartbeats 4000000 in
theorem field_Powers {f : Nat} (hf : IsF f) (x : Fin (Pm f)) (n : Nat) (hn : n ≤ 4096) (w : World) :
  Calls Tryz.prog 75 #[.int .u8 f, vK x, .int .i64 n] w (RetOwn (pows x n) w) := by
 have HO := Lib.hid (fun wz => field_One hf wz)
 have HM := Lib.hid (fun y z wz => field_MulK hf y z wz)
 have hfb0 : (1 : Int) ≤ (f : Int) := by rcases hf.or with rfl | rfl <;> omega
 have hfb1 : (f : Int) ≤ 2 := by rcases hf.or with rfl | rfl <;> omega
 have hmx : max (n : Int) 0 = (n : Int) := by omega
 have hmn : min (n : Int) 4096 = (n : Int) := by omega
 have hb00 : Below w.heap.size w w := Below.refl _ _
 go_enter Tryz.func75, Tryz.ntmps75
 go_upto_region 1 with fail
 clear hb00
 have q0 := V2.new w (.int .u64 (lo x)) (.int .u64 (hi x)) 36
 have hb00 : Below w.heap.size w (w.alloc (.cells #[(.int .u64 (lo x)), (.int .u64 (hi x))] 36)) := by repeat (first | exact bA | with_reducible assumption | apply bB)
 have hsz : w.heap.size + 1 ≤ (w.alloc (.cells #[(.int .u64 (lo x)), (.int .u64 (hi x))] 36)).heap.size := by simp only [World.size_alloc]; omega
 generalize (w.alloc (.cells #[(.int .u64 (lo x)), (.int .u64 (hi x))] 36)) = w1 at q0 hb00 hsz ⊢
 go_upto_region 3 with (first
  | (go_at_call 49; refine (HO.out _).mono ?_; rintro e w2 ⟨rfl, hb2⟩; replace hb00 := bl_call hb00 (Nat.le_refl _) hb2; replace q0 := q0.call hb2))
 obtain ⟨r0, hr0⟩ : ∃ r : Fin (Pm f), 1 = r := ⟨_, rfl⟩
 rw [hr0]
 have o0 := V2.new w2 (.int .u64 (lo r0)) (.int .u64 (hi r0)) 36
 have hbA : Below w2.heap.size w2 (w2.alloc (.cells #[.int .u64 (lo r0), .int .u64 (hi r0)] 36)) := by repeat (first | exact bA | with_reducible assumption | apply bB)
 replace hb00 := bl_call hb00 (Nat.le_refl _) hbA
 replace q0 := q0.call hbA
 clear hbA
 generalize w2.alloc (.cells #[.int .u64 (lo r0), .int .u64 (hi r0)] 36) = w3 at hb00 q0 o0 ⊢
 obtain ⟨ob, hob⟩ : ∃ z, w2.heap.size = z := ⟨_, rfl⟩
 have hsb := hb2.size
 have hs3 := o0.lt
 rw [hob] at o0 hsb hs3
 simp only [hob]
 clear hob hb2
 have HR0 := Lib.hid hr0
 clear hr0
 go_wp2
 go_loopw [7, 14] (fun vr i wr => ∃ (j : Nat) (y : Fin (Pm f)) (A : Option Addr) (cp : Nat), j ≤ n ∧ i = .int .i64 j ∧ vr = .slice A j cp ∧ Hid (y = Fm.kpow x j) ∧ V2 wr ob (.int .u64 (lo y)) (.int .u64 (hi y)) ∧ V2 wr w.heap.size (.int .u64 (lo x)) (.int .u64 (hi x)) ∧
  wr.ownsRow (ob + 1) 36 2 (.slice A j cp) j (cellsE (esK (pows x j))) ∧ Below w.heap.size w wr ∧ ob + 1 ≤ wr.heap.size) (fun _ i _ => n - (intOf i).toNat)
 case atStart => exact ⟨0, r0, none, 0, Nat.zero_le _, rfl, rfl, HR0.out.symm, o0, q0, World.ownsRow_nil _ _ _ _, hb00, hs3⟩
 case round =>
  clear q0 o0 hb00 hs3
  obtain ⟨j, y, A, cp, hj, rfl, rfl, hy, o0, q0, hown, hb00, hsz⟩ := hrel
  by_cases hlt : j < n
  ·have HZ : Hid (pows x (j + 1) = pows x j ++ [y]) := by show _ = _; rw [pows_succ, hy.out]
   have HY : Hid (y * x = Fm.kpow x (j + 1)) := by show _ = _; rw [hy.out, Fm.kpow_succ]
   have hbA : Below wr.heap.size wr (wr.alloc (.cells #[.int .u64 (lo y), .int .u64 (hi y)] 36)) := (Below.refl _ _).alloc (Nat.le_refl _) _
   have hE := BlkE.new wr [eK y] #[.int .u64 (lo y), .int .u64 (hi y)] rfl
   have HOW := Lib.hid (own_call hown hbA)
   have HR1 := Lib.hid (show 0 < 1 → ∃ b o, (some ⟨wr.heap.size, 0, none⟩ : Option Addr) = some ⟨b, o, none⟩ ∧ RowE (wr.alloc (.cells #[.int .u64 (lo y), .int .u64 (hi y)] 36)) b o [eK y] from fun _ => ⟨_, _, rfl, hE.rowE⟩)
   have hk1 : j + 1 ≤ 1099511627776 := by omega
   have hbase : ob + 1 ≤ (wr.alloc (.cells #[.int .u64 (lo y), .int .u64 (hi y)] 36)).heap.size := by rw [World.size_alloc]; omega
   clear hown hE hbA
   obtain ⟨o00, o01, o02, o03, o04⟩ := V2.mk o0.c0 o0.c1 o0.f0 o0.f1 o0.lt
   go_upto_region 6 with (at_builtin; (refine wpList_append_E rfl (.tmp 16) (.tmp 18) rfl (ob + 1) _ j (esK (pows x j)) rfl HOW.out (some ⟨wr.heap.size, 0, none⟩) 1 1 [eK y] rfl rfl HR1.out hk1 hbase ?_; intro v2 w2 hown2 hg2 hat2; have hb2 : Below (ob + 1) wr w2 := ((Below.refl _ _).alloc hsz _).trans ((Below.refl _ _).grown hg2 hbase (fun q hq => (HOW.out.lt q hq).1)); obtain ⟨g2, cap2, hv2⟩ := own_slice hown2; rw [hv2]))
   rw [hv2, show esK (pows x j) ++ [eK y] = esK (pows x (j + 1)) by rw [HZ.out, esK_append]; rfl] at hown2
   clear o00 o01 o02 o03 o04
   replace o0 := o0.belowB hb2 (by omega)
   replace q0 := q0.belowB hb2 (by omega)
   replace hb00 : Below w.heap.size w w2 := hb00.trans (hb2.mono (by omega))
   have hz2 := hb2.size
   clear hb2 hg2 hat2 hbase
   obtain ⟨q00, q01, q02, q03, q04⟩ := V2.mk q0.c0 q0.c1 q0.f0 q0.f1 q0.lt
   obtain ⟨o00, o01, o02, o03, o04⟩ := V2.mk o0.c0 o0.c1 o0.f0 o0.f1 o0.lt
   go_wp2_with fail
   refine (HM.out y x _).mono ?_
   rintro e w5 ⟨rfl, hb5⟩
   clear q00 q01 q02 q03 q04 o00 o01 o02 o03 o04
   replace hb00 := bl_call hb00 (Nat.le_refl _) hb5
   replace q0 := q0.call hb5
   replace o0 := o0.call hb5
   have hown5 := own_call hown2 hb5
   have hz5 := hb5.size
   clear hown2 hb5
   obtain ⟨o00, o01, o02, o03, o04⟩ := V2.mk o0.c0 o0.c1 o0.f0 o0.f1 o0.lt
   go_wp2_with fail
   go_roundw
   case rel => exact ⟨j + 1, _, _, cap2, by omega, by go_num, rfl, HY, V2.set o0 _ _, V2.oth q0 (b := ob) (by omega) _ _, own_st hown5 (by omega) _ _, bl_st hb00 (by omega) _ _, by rw [size_st]; omega⟩
   case measure => simp [intOf]; omega
  ·obtain rfl : j = n := by omega
   have hlen := pows_length x j
   have HL := Lib.hid hlen
   have HW := Lib.hid hown
   clear hlen hown
   go_wp2
   go_ret
   exact ⟨_, rfl, by rw [HL.out]; exact own_mono HW.out (by omega), hb00⟩

end Go.Proofs.YtfbfbijkkbflkaaGreatDoor

namespace Go.Proofs.YtfbfbijkkbflkaaGreatDoor
open Go Go.RowKit

section
variable {P : Program} {ops : Array Oper} {Q : Exit → Act → World → Prop} {md : Region.Mode} {n m : Nat} {L L' : Act → World → Prop}

theorem wpG_monoL (hL : ∀ a w, L a w → L' a w) : ∀ (f : Nat) (listed : Array Bool) (a : Act) (S : World → Prop), wpG P md ops Q n m L f listed a S → wpG P md ops Q n m L' f listed a S
 | 0, listed, a, S, h => ⟨h.1, fun w hS => hL _ _ (h.2 w hS)⟩
 | f + 1, listed, a, S, h => ⟨h.1, fun i hi => ⟨(h.2 i hi).1, fun w hS => wpOp_mono (fun a' w' h' => by
   obtain ⟨S', h1, h2, h3, h4⟩ := h'
   exact ⟨S', h1, h2, h3, wpG_monoL hL f _ a' S' h4⟩) ((h.2 i hi).2 w hS)⟩⟩

theorem WpG.monoL {f : Nat} {listed : Array Bool} {a : Act} {S : World → Prop} (hL : ∀ a w, L a w → L' a w) (h : WpG P md ops Q n m L f listed a S) : WpG P md ops Q n m L' f listed a S :=
 fun hC hp inv => wpG_monoL hL f listed a S (h hC hp inv)
end

section
variable {P : Program} {Q : Exit → Act → World → Prop}

theorem region_G2 {id n m f : Nat} {l : List Oper} {a : Act} {w : World} (R : Nat → Nat → World → Prop) {E : Nat → Nat → Act} (hm : P.follows .mixedOrders = true) (hB : partsB .any l.toArray n m (Array.replicate l.length false) = true) (hf : f + (m - n) = l.length)
  (h : WpG P .any l.toArray Q n m (fun a w => ∃ x y, a = E x y ∧ R x y w) f (Array.replicate l.length false) a (Below w.heap.size w))
  (hc : ∀ x y w', R x y w' → wpList P l.toArray Q ((l.drop n).take (m - n)) (E x y) w') : (Code.region id l.toArray true).wp P Q a w :=
 region_G hm hB hf (h.monoL fun _ w ⟨x, y, e, hr⟩ => e ▸ hc x y w hr)
end

end Go.Proofs.YtfbfbijkkbflkaaGreatDoor
