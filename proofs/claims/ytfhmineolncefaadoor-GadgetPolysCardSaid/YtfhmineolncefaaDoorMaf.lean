/-
  'append' of a slice of elements (nil, empty or not) onto a slice of elements that the call itself owns.
-/
/-
  WALKS: tape.Split, tape.Retape.
-/
/-
  WALKS: tallymanlaw03.F, tallymanlaw31.some. Beside them: elements of a field as numbers.
-/
/-
  ELEMENTS OF A FIELD AS ONE LETTER: f is 1 or 2, x : Fin (Pm f); its two limbs are lo x, hi x; the contracts of field and of the reference said of it.
-/
/-
  A LAW ON REGIONS THAT DRAW THEIR ORDER, of any program: an operation that yields one value in whatever world is meant, and turns nothing below, is taken first: calls, loads, arithmetic alike.
-/
/-
  SMALL WORDS for walks over elements: a new variable of two cells; stores of an element.
-/
import Derived.Test.YtfhmineolncefaaDoorMae
import Derived.Maps.AppendAt
import Derived.OrdersHeld
import Derived.StillTail
import Derived.WalkKit
namespace Go.Proofs.YtfhmineolncefaaDoor
open Go.RowKit Fm
set_option linter.unusedVariables false
set_option maxRecDepth 100000

theorem cellsE_pair : ∀ (xs : List E) (j : Nat) (u : Value), (cellsE xs)[j]? = some u → ∃ i e, xs[i]? = some e ∧ ((j = i * 2 ∧ u = .int .u64 e.1) ∨ (j = i * 2 + 1 ∧ u = .int .u64 e.2))
  | [], j, u, h => by simp [cellsE] at h
  | x :: l, 0, u, h => by
    simp only [cellsE, List.getElem?_cons_zero, Option.some.injEq] at h
    exact ⟨0, x, rfl, .inl ⟨rfl, h.symm⟩⟩
  | x :: l, 1, u, h => by
    simp only [cellsE, List.getElem?_cons_succ, List.getElem?_cons_zero, Option.some.injEq] at h
    exact ⟨0, x, rfl, .inr ⟨rfl, h.symm⟩⟩
  | x :: l, j + 2, u, h => by
    simp only [cellsE, List.getElem?_cons_succ] at h
    obtain ⟨i, e, hi, hor⟩ := cellsE_pair l j u h
    refine ⟨i + 1, e, by simpa using hi, ?_⟩
    rcases hor with ⟨rfl, hu⟩ | ⟨rfl, hu⟩
    · exact .inl ⟨by omega, hu⟩
    · exact .inr ⟨by omega, hu⟩

theorem RowE.cells {w : World} {b o : Nat} {xs : List E} (h : RowE w b o xs) (j : Nat) (u : Value) (hu : (cellsE xs)[j]? = some u) : w.cell? ((⟨b, o, none⟩ : Addr).add j) = some u := by
  have ha : (⟨b, o, none⟩ : Addr).add j = ⟨b, o + j, none⟩ := by
    unfold Addr.add
    split <;> simp_all
  rw [ha]
  obtain ⟨i, e, hi, hor⟩ := cellsE_pair xs j u hu
  rcases hor with ⟨rfl, rfl⟩ | ⟨rfl, rfl⟩
  · exact (h i e hi).1
  · rw [← Nat.add_assoc]
    exact (h i e hi).2

theorem oneCell_cellsE (xs : List E) : ∀ u, u ∈ cellsE xs → u.oneCell' = true := by
  induction xs with
  | nil => intro u h; cases h
  | cons e l ih =>
    intro u h
    simp only [cellsE, List.mem_cons] at h
    rcases h with rfl | rfl | h
    · rfl
    · rfl
    · exact ih u h

theorem run_append_E (w : World) (base : Nat) (ty : TypeId) (v : Value) (n : Nat) (xs : List E) (hown : w.ownsRow base 28 2 v n (cellsE xs)) (A : Option Addr) (m c : Nat) (ys : List E)
    (hm : ys.length = m) (hy : 0 < m → ∃ b o, A = some ⟨b, o, none⟩ ∧ RowE w b o ys) (hbound : n + m ≤ 1099511627776) (hbase : base ≤ w.heap.size) :
    ∃ v' w', (Builtin.append_ #[22, 22] ty #[v, .slice A m c]).run Tryd.prog w = .ok v' w' ∧ w'.ownsRow base 28 2 v' (n + m) (cellsE (xs ++ ys)) ∧ w.grownBy w' v.ownBlock ∧
      (v'.ownBlock = v.ownBlock ∨ v'.ownBlock = some w.heap.size) := by
  obtain ⟨i, hi, hz, h1, h2⟩ := info_parts info_elem
  rw [cellsE_append]
  rcases A with _ | ad
  · have hm0 : m = 0 := by
      rcases Nat.eq_zero_or_pos m with h0 | h0
      · exact h0
      · obtain ⟨b, o, h, _⟩ := hy h0
        cases h
    subst hm0
    obtain rfl : ys = [] := List.eq_nil_of_length_eq_zero hm
    refine ⟨v, w, ?_, by simpa [cellsE] using hown, World.grownBy.refl w _, .inl rfl⟩
    rcases hown.2 with ⟨rfl, rfl⟩ | ⟨g, cap, cur, rfl, _, _, hnc, _⟩
    · simp [Builtin.append_, run_underlying Tryd.underlying22, sizeOf, typeInfo, hi, Builtin.lenOf, Builtin.firstCells]
    · simp [Builtin.append_, run_underlying Tryd.underlying22, sizeOf, typeInfo, hi, Builtin.lenOf, Builtin.firstCells, hnc, storeCells]
  · have hcells : ∀ j u, (cellsE ys)[j]? = some u → w.cell? (ad.add j) = some u := by
      intro j u hu
      rcases Nat.eq_zero_or_pos m with h0 | h0
      · subst h0
        obtain rfl : ys = [] := List.eq_nil_of_length_eq_zero hm
        simp [cellsE] at hu
      · obtain ⟨b, o, h, hr⟩ := hy h0
        injection h with h
        subst h
        exact hr.cells j u hu
    obtain ⟨v', w', hrun, h3, h4, _, h5⟩ := run_append_own_at (P := Tryd.prog) w base 22 ty 28 i _ 2 16 Tryd.underlying22 hi hz h1 h2 rfl (by omega) v n _ hown ad m c (cellsE ys)
      (by rw [length_cellsE, hm]) hcells (oneCell_cellsE ys) (by unfold maxLen; omega) (by omega) hbase
    exact ⟨v', w', hrun, h3, h4, h5⟩

theorem wpList_append_E {w : World} {ops : Array Oper} {rest : List Oper} {o : Oper} {a : Act} {Q : Exit → Act → World → Prop} (hgd : o.guard = none) (s x : Operand)
    (ho : o.op = .call { callee := .builtin .append, args := #[s, x], argTypes := #[22, 22] })
    (base : Nat) (v : Value) (n : Nat) (xs : List E) (hs : a.eval s = v) (hown : w.ownsRow base 28 2 v n (cellsE xs)) (A : Option Addr) (m c : Nat) (ys : List E) (hx : a.eval x = .slice A m c)
    (hm : ys.length = m) (hy : 0 < m → ∃ b o, A = some ⟨b, o, none⟩ ∧ RowE w b o ys) (hbound : n + m ≤ 1099511627776) (hbase : base ≤ w.heap.size)
    (h : ∀ v' w', w'.ownsRow base 28 2 v' (n + m) (cellsE (xs ++ ys)) → w.grownBy w' v.ownBlock → (v'.ownBlock = v.ownBlock ∨ v'.ownBlock = some w.heap.size) → wpList Tryd.prog ops Q rest (a.put o.dst v') w') : wpList Tryd.prog ops Q (o :: rest) a w := by
  obtain ⟨v', w', hrun, h2, h3, h4⟩ := run_append_E w base o.type v n xs hown A m c ys hm hy hbound hbase
  refine wpList_plain hgd fun K hK => ?_
  unfold Oper.wp execOp
  simp only [ho, resolve, invoke, builtin, Sem.run_bind, Sem.run_pure, Result.andThen_ok, List.map_toArray, List.map_cons, List.map_nil, hs, hx, hrun]
  exact hK _ _ (h v' w' h2 h3 h4)

/-- what the call owns, as a slice of elements -/
theorem SlE.of_own {w : World} {base : Nat} {v : Value} {xs : List E} (h : w.ownsRow base 28 2 v xs.length (cellsE xs)) (ok : ∀ e, e ∈ xs → okE e) : SlE w w.heap.size v xs := by
  rcases h.2 with ⟨rfl, h0⟩ | ⟨g, cap, cur, rfl, hb, hg, hnc, hcm, hcs, htk⟩
  · refine ⟨⟨none, 0, by rw [h0], by omega, by omega, fun hn => by omega⟩, ok⟩
  · refine ⟨⟨some ⟨g, 0, none⟩, cap, rfl, hnc, by unfold maxLen at hcm; omega, fun _ => ⟨g, 0, rfl, (Array.getElem?_eq_some_iff.1 hg).1, fun i e hi => ?_⟩⟩, ok⟩
    obtain ⟨e1, e2⟩ := cellsE_at xs i e hi
    have hc := fun j u hu => h.cells (g := g) rfl j u hu
    have ha : ∀ j, (⟨g, 0, none⟩ : Addr).add j = ⟨g, 0 + j, none⟩ := by
      intro j
      unfold Addr.add
      split <;> simp_all
    have f1 := hc _ _ e1
    have f2 := hc _ _ e2
    rw [ha] at f1 f2
    exact ⟨f1, by rw [Nat.add_assoc]; exact f2⟩

end Go.Proofs.YtfhmineolncefaaDoor

namespace Go.Proofs.YtfhmineolncefaaDoor
open Go.RowKit Fm
set_option linter.unusedVariables false
set_option maxRecDepth 100000

/-- each is an element of the field of modulus m -/
def AllIn (m : Int) (xs : List E) : Prop := ∀ e, e ∈ xs → e.1 + 18446744073709551616 * e.2 < m

/-- two shares come back: the differences, and a copy -/
def RetShares (w : World) (zs ys : List E) (e : Ending) (w' : World) : Prop :=
  ∃ u v : Value, e = .returned (.tuple #[.agg #[u, v], .int .i64 0]) ∧ SlE w' w'.heap.size u zs ∧ SlE w' w'.heap.size v ys ∧ Below w.heap.size w w'

end Go.Proofs.YtfhmineolncefaaDoor

namespace Go.Proofs.YtfhmineolncefaaDoor
open Go.RowKit Fm
set_option linter.unusedVariables false
set_option maxRecDepth 100000

theorem law03_F (n : Int) (w : World) (h0 : 0 ≤ n) (h1 : n ≤ 255) :
    Calls Tryd.prog 16 #[.int .u8 n] w fun e w' => e = .returned (.int .u8 (n % 2 + 1)) ∧ w = w' := by
  go_enter Tryd.func16, Tryd.ntmps16
  go_wp2
  go_ret
  exact ⟨ret_int (by omega), rfl⟩

theorem FM.ref {f m : Int} (h : FM f m) : ∃ p0 p1, RefM f m p0 p1 := by
  rcases h.or with ⟨rfl, rfl⟩ | ⟨rfl, rfl⟩
  · exact ⟨_, _, ⟨.inl ⟨rfl, rfl, rfl, rfl⟩⟩⟩
  · exact ⟨_, _, ⟨.inr ⟨by omega, rfl, rfl, rfl⟩⟩⟩

theorem fieldOf (n : Int) (h0 : 0 ≤ n) : ∃ m, FM (n % 2 + 1) m := by
  have h : n % 2 = 0 ∨ n % 2 = 1 := by omega
  rcases h with h | h
  · exact ⟨_, ⟨.inl ⟨by omega, rfl⟩⟩⟩
  · exact ⟨_, ⟨.inr ⟨by omega, rfl⟩⟩⟩

theorem nI_eN {f m n : Int} (hf : FM f m) (h0 : 0 ≤ n) (h1 : n < m) : nI f (eN n).1 (eN n).2 = n := by
  unfold nI eN
  rcases hf.or with ⟨rfl, rfl⟩ | ⟨rfl, rfl⟩
  · rw [if_pos rfl]
    dsimp only
    omega
  · rw [if_neg (by omega)]
    dsimp only
    omega

/-- an element of the field: reduced -/
def RedE (m : Int) (e : E) : Prop := ∃ n : Int, 0 ≤ n ∧ n < m ∧ e = eN n
theorem redE_mod {m n : Int} (hm : 0 < m) : RedE m (eN (n % m)) := ⟨n % m, Int.emod_nonneg _ (by omega), Int.emod_lt_of_pos _ hm, rfl⟩
theorem RedE.nI_eq {f m : Int} {e : E} (hf : FM f m) (h : RedE m e) : eN (nI f e.1 e.2) = e ∧ 0 ≤ nI f e.1 e.2 ∧ nI f e.1 e.2 < m := by
  obtain ⟨n, h0, h1, rfl⟩ := h
  rw [nI_eN hf h0 h1]
  exact ⟨rfl, h0, h1⟩
theorem RedE.lt {m : Int} {e : E} (h : RedE m e) : e.1 + 18446744073709551616 * e.2 < m := by
  obtain ⟨n, h0, h1, rfl⟩ := h
  unfold eN
  dsimp only
  omega
theorem RedE.ok {f m : Int} {e : E} (hf : FM f m) (h : RedE m e) : okE e := by
  obtain ⟨n, h0, h1, rfl⟩ := h
  have := hf.pos
  exact okE_eN _ h0 (by omega)

/-- an argument's element at a place, reduced; 0 where there is none -/
def someAt (f m : Int) (l : List E) (j : Nat) : E := if l.length = 0 then (0, 0) else eN (nI f (l.getD (j % l.length) (0, 0)).1 (l.getD (j % l.length) (0, 0)).2 % m)
def someE (f m : Int) (l : List E) (many step : Nat) : List E := (List.range many).map fun i => someAt f m l (i * step + step)

theorem someAt_red {f m : Int} (hf : FM f m) (l : List E) (j : Nat) : RedE m (someAt f m l j) := by
  unfold someAt
  have hp := hf.pos
  split
  · exact ⟨0, by omega, by omega, rfl⟩
  · exact redE_mod hp.1
theorem someE_red {f m : Int} (hf : FM f m) (l : List E) (many step : Nat) : ∀ e, e ∈ someE f m l many step → RedE m e := by
  intro e he
  unfold someE at he
  rw [List.mem_map] at he
  obtain ⟨i, _, rfl⟩ := he
  exact someAt_red hf l _
theorem someE_length (f m : Int) (l : List E) (many step : Nat) : (someE f m l many step).length = many := by
  unfold someE
  rw [List.length_map, List.length_range]
theorem someE_at (f m : Int) (l : List E) (many step k : Nat) (hk : k < many) : (someE f m l many step)[k]? = some (someAt f m l (k * step + step)) := by
  unfold someE
  rw [List.getElem?_map, List.getElem?_range hk]
  rfl

/-- one slice of elements comes back, in a block of the call's own -/
def RetB (w : World) (zs : List E) (e : Ending) (w' : World) : Prop :=
  ∃ g, e = .returned (.slice (some ⟨g, 0, none⟩) zs.length zs.length) ∧ BlkE w' g zs ∧ w.heap.size ≤ g ∧ Below w.heap.size w w'

end Go.Proofs.YtfhmineolncefaaDoor

namespace Go.Proofs.YtfhmineolncefaaDoor
open Go.RowKit Fm
set_option linter.unusedVariables false
set_option maxRecDepth 100000

/-- which field -/
structure IsF (f : Nat) : Prop where
  or : f = 1 ∨ f = 2

def lo {f : Nat} (x : Fin (Pm f)) : Int := (eK x).1
def hi {f : Nat} (x : Fin (Pm f)) : Int := (eK x).2

/-- the value of an element -/
abbrev vK {f : Nat} (x : Fin (Pm f)) : Value := .agg #[.int .u64 (lo x), .int .u64 (hi x)]

theorem lo_hi {f : Nat} (x : Fin (Pm f)) : (lo x, hi x) = eK x := rfl
theorem lo_0 {f : Nat} (x : Fin (Pm f)) : 0 ≤ lo x := (okE_eK x).1
theorem lo_1 {f : Nat} (x : Fin (Pm f)) : lo x ≤ 18446744073709551615 := (okE_eK x).2.1
theorem hi_0 {f : Nat} (x : Fin (Pm f)) : 0 ≤ hi x := (okE_eK x).2.2.1
theorem hi_1 {f : Nat} (x : Fin (Pm f)) : hi x ≤ 18446744073709551615 := (okE_eK x).2.2.2
theorem lohi_inj {f : Nat} {x y : Fin (Pm f)} (h : lo x = lo y) (h' : hi x = hi y) : x = y := eK_inj (Prod.ext h h')

theorem lo_zero {f : Nat} : lo (0 : Fin (Pm f)) = 0 := by unfold lo; rw [eK_zero]
theorem hi_zero {f : Nat} : hi (0 : Fin (Pm f)) = 0 := by unfold hi; rw [eK_zero]
theorem lo_one {f : Nat} : lo (1 : Fin (Pm f)) = 1 := by unfold lo; rw [eK_one]
theorem hi_one {f : Nat} : hi (1 : Fin (Pm f)) = 0 := by unfold hi; rw [eK_one]

theorem FM.ofN {f : Nat} (hf : IsF f) : FM (f : Int) (Pm f : Int) := by
  rcases hf.or with rfl | rfl
  · exact ⟨.inl ⟨rfl, by rw [Pm_one]; rfl⟩⟩
  · exact ⟨.inr ⟨rfl, by rw [Pm_two]; rfl⟩⟩

theorem nI_nE {f : Nat} (a0 a1 : Int) : nI (f : Int) a0 a1 = nE f (a0, a1) := by
  unfold nI nE
  by_cases h : f = 1
  · subst h; rfl
  · rw [if_neg (by omega), if_neg h]

/-- what a pair of limbs stands for -/
abbrev kL (f : Nat) (a0 a1 : Int) : Fin (Pm f) := kE f (a0, a1)
theorem kL_lohi {f : Nat} (x : Fin (Pm f)) : kL f (lo x) (hi x) = x := by
  show kE f (lo x, hi x) = x
  rw [lo_hi, kE_eK]
theorem kL_zero {f : Nat} : kL f 0 0 = 0 := kE_zero
theorem kL_one {f : Nat} : kL f 1 0 = 1 := kE_one

theorem val_kI {f : Nat} (n : Int) : (((kI (Pm f) n).val : Nat) : Int) = n % (Pm f : Int) := kI_val n
theorem kI_nI {f : Nat} (a0 a1 : Int) : kI (Pm f) (nI (f : Int) a0 a1) = kL f a0 a1 := by
  unfold kL kE
  rw [nI_nE]

theorem eK_kI {f : Nat} (n : Int) : eK (kI (Pm f) n) = eN (n % (Pm f : Int)) := by
  unfold eK
  rw [val_kI]

/-- an element comes back; below, all is as it was -/
def RetK {f : Nat} (x : Fin (Pm f)) (w : World) (e : Ending) (w' : World) : Prop := e = .returned (vK x) ∧ Below w.heap.size w w'

theorem RetE.toK {f : Nat} {n : Int} {w : World} {e : Ending} {w' : World} (h : RetE (n % (Pm f : Int)) w e w') {x : Fin (Pm f)} (hx : kI (Pm f) n = x) : RetK x w e w' := by
  obtain ⟨x0, x1, rfl, ⟨h0, h1, h2, h3⟩, HX, hb⟩ := h
  refine ⟨?_, hb⟩
  have he := eN_of HX.out h0 h1
  rw [← eK_kI, hx] at he
  have e0 : x0 = lo x := congrArg Prod.fst he
  have e1 : x1 = hi x := congrArg Prod.snd he
  rw [e0, e1]

/-- the value that stands for a number of a field -/
theorem vK_eN {f : Nat} (x : Fin (Pm f)) (e : E) (h : eK x = e) : vK x = .agg #[.int .u64 e.1, .int .u64 e.2] := by rw [← h]; rfl

section
variable {f : Nat} (hf : IsF f)
include hf

theorem field_AddL (a0 a1 b0 b1 : Int) (w : World) (h0 : 0 ≤ a0) (h1 : a0 ≤ 18446744073709551615) (k0 : 0 ≤ a1) (k1 : a1 ≤ 18446744073709551615)
    (g0 : 0 ≤ b0) (g1 : b0 ≤ 18446744073709551615) (j0 : 0 ≤ b1) (j1 : b1 ≤ 18446744073709551615) :
    Calls Tryd.prog 63 #[.int .u8 f, .agg #[.int .u64 a0, .int .u64 a1], .agg #[.int .u64 b0, .int .u64 b1]] w (RetK (kL f a0 a1 + kL f b0 b1) w) :=
  (field_Add f _ a0 a1 b0 b1 w (FM.ofN hf) h0 h1 k0 k1 g0 g1 j0 j1).mono fun _ _ h => h.toK (by rw [kI_add, kI_nI, kI_nI])
theorem field_SubL (a0 a1 b0 b1 : Int) (w : World) (h0 : 0 ≤ a0) (h1 : a0 ≤ 18446744073709551615) (k0 : 0 ≤ a1) (k1 : a1 ≤ 18446744073709551615)
    (g0 : 0 ≤ b0) (g1 : b0 ≤ 18446744073709551615) (j0 : 0 ≤ b1) (j1 : b1 ≤ 18446744073709551615) :
    Calls Tryd.prog 72 #[.int .u8 f, .agg #[.int .u64 a0, .int .u64 a1], .agg #[.int .u64 b0, .int .u64 b1]] w (RetK (kL f a0 a1 - kL f b0 b1) w) :=
  (field_Sub f _ a0 a1 b0 b1 w (FM.ofN hf) h0 h1 k0 k1 g0 g1 j0 j1).mono fun _ _ h => h.toK (by rw [kI_sub, kI_nI, kI_nI])

theorem field_AddK (x y : Fin (Pm f)) (w : World) : Calls Tryd.prog 63 #[.int .u8 f, vK x, vK y] w (RetK (x + y) w) := by
  have h := field_AddL hf (lo x) (hi x) (lo y) (hi y) w (lo_0 x) (lo_1 x) (hi_0 x) (hi_1 x) (lo_0 y) (lo_1 y) (hi_0 y) (hi_1 y)
  rwa [kL_lohi, kL_lohi] at h
theorem field_SubK (x y : Fin (Pm f)) (w : World) : Calls Tryd.prog 72 #[.int .u8 f, vK x, vK y] w (RetK (x - y) w) := by
  have h := field_SubL hf (lo x) (hi x) (lo y) (hi y) w (lo_0 x) (lo_1 x) (hi_0 x) (hi_1 x) (lo_0 y) (lo_1 y) (hi_0 y) (hi_1 y)
  rwa [kL_lohi, kL_lohi] at h

theorem ref_OfL (a0 a1 : Int) (w : World) (h0 : 0 ≤ a0) (h1 : a0 ≤ 18446744073709551615) (k0 : 0 ≤ a1) (k1 : a1 ≤ 18446744073709551615) :
    Calls Tryd.prog 17 #[.int .i64 f, .agg #[.int .u64 a0, .int .u64 a1]] w (RetK (kL f a0 a1) w) := by
  obtain ⟨p0, p1, hr⟩ := (FM.ofN hf).ref
  exact (ref_Of f _ p0 p1 a0 a1 w hr h0 h1 k0 k1).mono fun _ _ h => h.toK (by rw [kI_nI])
end

/-! ### lists of elements -/
abbrev KL (f : Nat) := List (Fin (Pm f))
def esK {f : Nat} (l : KL f) : List E := l.map eK
theorem esK_length {f : Nat} (l : KL f) : (esK l).length = l.length := by unfold esK; rw [List.length_map]
theorem esK_ok {f : Nat} (l : KL f) : ∀ e, e ∈ esK l → okE e := by
  intro e he
  unfold esK at he
  rw [List.mem_map] at he
  obtain ⟨x, _, rfl⟩ := he
  exact okE_eK x
theorem esK_at {f : Nat} {l : KL f} {i : Nat} {x : Fin (Pm f)} (h : l[i]? = some x) : (esK l)[i]? = some (eK x) := by unfold esK; rw [List.getElem?_map, h]; rfl
theorem esK_inj {f : Nat} {l m : KL f} (h : esK l = esK m) : l = m := by
  unfold esK at h
  exact (List.map_inj_right (fun _ _ e => eK_inj e)).1 h
theorem esK_append {f : Nat} (l m : KL f) : esK (l ++ m) = esK l ++ esK m := by unfold esK; rw [List.map_append]
theorem esK_nil {f : Nat} : esK ([] : KL f) = [] := rfl
theorem esK_cons {f : Nat} (x : Fin (Pm f)) (l : KL f) : esK (x :: l) = eK x :: esK l := rfl

/-- a slice value reads as the elements l -/
def SlK {f : Nat} (w : World) (B : Nat) (v : Value) (l : KL f) : Prop :=
  ∃ (A : Option Addr) (c : Nat), v = .slice A l.length c ∧ l.length ≤ c ∧ c ≤ 9223372036854775807 ∧ (0 < l.length → ∃ b o, A = some ⟨b, o, none⟩ ∧ b < B ∧ RowE w b o (esK l))
theorem SlK.toE {f : Nat} {w : World} {B : Nat} {v : Value} {l : KL f} (h : SlK w B v l) : SlE w B v (esK l) := by
  obtain ⟨A, c, hv, h1, h2, h3⟩ := h
  exact ⟨⟨A, c, by rw [esK_length]; exact hv, by rw [esK_length]; exact h1, h2, by rw [esK_length]; exact h3⟩, esK_ok l⟩
theorem SlE.toK {f : Nat} {w : World} {B : Nat} {v : Value} {l : KL f} (h : SlE w B v (esK l)) : SlK w B v l := by
  obtain ⟨⟨A, c, hv, h1, h2, h3⟩, _⟩ := h
  rw [esK_length] at hv h1 h3
  exact ⟨A, c, hv, h1, h2, h3⟩
theorem SlK.below {f : Nat} {w w' : World} {B : Nat} {v : Value} {l : KL f} (h : SlK w B v l) (hb : Below B w w') : SlK w' B v l := (h.toE.below hb).toK
theorem SlK.mono {f : Nat} {w : World} {B B' : Nat} {v : Value} {l : KL f} (h : SlK w B v l) (hB : B ≤ B') : SlK w B' v l := (h.toE.mono hB).toK
theorem SlK.later {f : Nat} {w w' : World} {v : Value} {l : KL f} (h : SlK w w.heap.size v l) (hb : Below w.heap.size w w') : SlK w' w'.heap.size v l := (h.below hb).mono hb.size
theorem RowE.kat {f : Nat} {w : World} {b o : Nat} {l : KL f} (h : RowE w b o (esK l)) {i : Nat} {x : Fin (Pm f)} (hx : l[i]? = some x) :
    w.cell? ⟨b, o + i * 2, none⟩ = some (.int .u64 (lo x)) ∧ w.cell? ⟨b, o + i * 2 + 1, none⟩ = some (.int .u64 (hi x)) := h i _ (esK_at hx)

end Go.Proofs.YtfhmineolncefaaDoor

namespace Go.Proofs.YtfhmineolncefaaDoor
open Go Go.RowKit

section
variable {P : Program} {ops : Array Oper} {Q : Exit → Act → World → Prop} {md : Region.Mode} {W0 : World → Prop} {S : Array Bool → Act → World → Prop}

/-- the operation yields a value of R, by itself or by a call -/
def UponV (P : Program) (R : Value → World → Prop) : Result Next → Prop
  | .ok (.value v) w' => R v w'
  | .ok (.enter f args) w' => Calls P f args w' (fun e w'' => ∃ v, e = .returned v ∧ R v w'')
  | _ => False

theorem UponV.upon {R : Value → World → Prop} {o : Oper} {a : Act} {K : Act → World → Prop} {r : Result Next} (h : UponV P R r) (hK : ∀ v w', R v w' → K (a.put o.dst v) w') : o.upon P a K Q r := by
  cases r with
  | ok n w' =>
    cases n
    case value v => exact hK v w' h
    case enter f args =>
      refine Calls.mono (show Calls P f args w' (fun e w'' => ∃ v, e = .returned v ∧ R v w'') from h) fun e w'' he => ?_
      obtain ⟨v, rfl, hr⟩ := he
      exact hK v w'' hr
    all_goals exact False.elim h
  | halt x w' => exact False.elim h

/-- in state 'a', in every world of W0, the operation leaves v, and turns nothing below -/
def Det (P : Program) (ops : Array Oper) (W0 : World → Prop) (o : Oper) (v : Value) (a : Act) : Prop :=
  (Region.wanted o (yielded ops a.tmps) = true ∧ ∀ w, W0 w → UponV P (fun u w' => u = v ∧ Below w.heap.size w w') ((execOp a.eval o).run P w)) ∨
  (Region.wanted o (yielded ops a.tmps) = false ∧ v = undef)

theorem Det.wpOp {i : Nat} {o : Oper} {v : Value} {a : Act} (hi : ops[i]? = some o) (hy : Det P ops W0 o v a) {K : Act → World → Prop} {w : World} (hw : W0 w)
    (h : ∀ w', Below w.heap.size w w' → K (a.put o.dst v) w') : wpOp P ops Q i K a w := by
  unfold Go.wpOp
  simp only [hi]
  rcases hy with ⟨hwt, hv⟩ | ⟨hwt, rfl⟩
  · simp only [hwt, if_true]
    refine .inl ?_
    unfold Oper.wp
    refine (hv w hw).upon ?_
    rintro u w' ⟨rfl, hb⟩
    exact h w' hb
  · simp only [hwt, Bool.false_eq_true, if_false]
    exact h w (Below.refl _ _)

theorem Det.of_same {o : Oper} {v : Value} {a a' : Act} (hy : Det P ops W0 o v a) (he : execOp a'.eval o = execOp a.eval o)
    (hw : Region.wanted o (yielded ops a'.tmps) = Region.wanted o (yielded ops a.tmps)) : Det P ops W0 o v a' := by
  unfold Det at *
  rw [he, hw]
  exact hy

/-- what an operation makes of a frame -/
def Trod (o : Oper) (a a' : Act) : Prop := ∃ ds u, a' = ({ a with defers := ds } : Act).put o.dst u

theorem upon_track {o : Oper} {a : Act} {K : Act → World → Prop} {r : Result Next} (h : o.upon P a K Q r) : o.upon P a (fun a' w' => Trod o a a' ∧ K a' w') Q r := by
  cases r with
  | ok n w' =>
    cases n <;> simp only [Oper.upon] at h ⊢
    case value v => exact ⟨⟨a.defers, v, rfl⟩, h⟩
    case skip => exact ⟨⟨a.defers, _, rfl⟩, h⟩
    case defer d => exact ⟨⟨_, _, rfl⟩, h⟩
    case enter f args =>
      refine Calls.mono h fun e w'' he => ?_
      cases e with
      | returned u => exact ⟨⟨a.defers, u, rfl⟩, he⟩
      | panicked c => exact he
      | outgrown => exact he
    case row r args => exact Rows.mono h fun v w'' he => ⟨⟨a.defers, v, rfl⟩, he⟩
  | halt x w' => cases x <;> simp only [Oper.upon] at h ⊢ <;> exact h

theorem wpOp_track {j : Nat} {oj : Oper} (hj : ops[j]? = some oj) {a : Act} {w : World} {K : Act → World → Prop} (h : wpOp P ops Q j K a w) : wpOp P ops Q j (fun a' w' => Trod oj a a' ∧ K a' w') a w := by
  unfold wpOp at *
  simp only [hj] at *
  split
  · rename_i hw
    simp only [hw, if_true] at h
    exact h.imp upon_track id
  · rename_i hw
    simp only [hw] at h
    exact ⟨⟨a.defers, _, rfl⟩, h⟩

theorem Det.trod {oi oj : Oper} {v : Value} {a a' : Act} (hsi : ∀ cs b, oi.op ≠ .select cs b) (hap : oi.apart ops oj = true) (hy : Det P ops W0 oi v a) (ht : Trod oj a a') : Det P ops W0 oi v a' := by
  obtain ⟨ds, u, rfl⟩ := ht
  obtain ⟨_, _, h3⟩ := Oper.apart_spec hap
  have h0 : Det P ops W0 oi v ({ a with defers := ds } : Act) := hy.of_same rfl rfl
  exact h0.of_same (execOp_put oi hsi _ oj.dst u h3) (wanted_put oi _ oj.dst u h3)

theorem wpOp_putDet {j : Nat} {oi oj : Oper} {v : Value} (hj : ops[j]? = some oj) (hap : oi.apart ops oj = true)
    (hsi : ∀ cs b, oi.op ≠ .select cs b) (hsj : ∀ cs b, oj.op ≠ .select cs b)
    (hQ : ∀ c a w, Q (.panic c) (a.put oi.dst v) w → Q (.panic c) a w) {K : Act → World → Prop} {a : Act} {w : World}
    (hy : Det P ops W0 oi v a) (h : wpOp P ops Q j K (a.put oi.dst v) w) :
    wpOp P ops Q j (fun a' w' => Det P ops W0 oi v a' ∧ K (a'.put oi.dst v) w') a w := by
  have hf : YieldsIf P ops (fun _ => False) oi v a := hy.imp (fun h => ⟨h.1, fun _ hF => hF.elim⟩) id
  have h1 := wpOp_track hj (wpOp_putIf hj hap hsi hsj hQ hf h)
  exact wpOp_mono (fun a' w' h2 => ⟨hy.trod hsi hap h2.1, h2.2.2⟩) h1

/-- what is asked of S: it lies within W0; whatever turns nothing below leaves it -/
structure RegS (W0 : World → Prop) (S : Array Bool → Act → World → Prop) : Prop where
  toW : ∀ l a w, S l a w → W0 w
  ext : ∀ l a w w', S l a w → Below w.heap.size w w' → S l a w'

/-- the region's parts: the head (below n, in whatever order), the tail (from n to m, one behind the other), what was taken ahead (from m on) -/
structure HInv (md : Region.Mode) (ops : Array Oper) (n m : Nat) (listed : Array Bool) : Prop where
  size : listed.size = ops.size
  closed : ∀ j oj, ops[j]? = some oj → listed.getD j false = true → ∀ e ∈ oj.after, Region.binds md e = true → listed.getD e.on false = true
  tail : ∀ t, n ≤ t → t < m → listed.getD t true = false
  post : ∀ t, m ≤ t → t < ops.size → listed.getD t true = true

def chainTo (md : Region.Mode) (ops : Array Oper) (n m : Nat) : Bool := (List.range m).all fun t => decide (t ≤ n) || Region.waitsFor md ops t (t - 1)

def closedB (md : Region.Mode) (ops : Array Oper) (listed : Array Bool) : Bool :=
  (List.range ops.size).all fun j => !listed.getD j false || match ops[j]? with
    | some oj => oj.after.all fun e => !Region.binds md e || listed.getD e.on false
    | none => true

def partsB (md : Region.Mode) (ops : Array Oper) (n m : Nat) (listed : Array Bool) : Bool :=
  Region.noSelect ops && decide (n ≤ m) && decide (m ≤ ops.size) && decide (listed.size = ops.size) && closedB md ops listed && (decide (ops.size ≤ n) || Region.sinkB md ops n) && chainTo md ops n m &&
    ((List.range ops.size).all fun t => (decide (t < n) || decide (m ≤ t) || !listed.getD t true) && (decide (t < m) || listed.getD t true))

structure Parts (md : Region.Mode) (ops : Array Oper) (n m : Nat) : Prop where
  nosel : Region.noSelect ops = true
  lt : n ≤ m
  le : m ≤ ops.size
  sink : ops.size ≤ n ∨ Region.sinkB md ops n = true
  chain : chainTo md ops n m = true

theorem parts_of {n m : Nat} {listed : Array Bool} (h : partsB md ops n m listed = true) : Parts md ops n m ∧ HInv md ops n m listed := by
  simp only [partsB, Bool.and_eq_true, decide_eq_true_eq] at h
  obtain ⟨⟨⟨⟨⟨⟨⟨h1, h2⟩, h3⟩, h4⟩, h5⟩, h6⟩, h7⟩, h8⟩ := h
  refine ⟨⟨h1, h2, h3, by simpa using h6, h7⟩, h4, ?_, ?_, ?_⟩
  · intro j oj hj hl e he hb
    have hlt := (Array.getElem?_eq_some_iff.1 hj).1
    have h := List.all_eq_true.1 h5 j (List.mem_range.2 hlt)
    simp only [hl, hj, Bool.not_true, Bool.false_or] at h
    have h' := Array.all_eq_true_iff_forall_mem.1 h e he
    simpa [hb] using h'
  · intro t ht htm
    have h := List.all_eq_true.1 h8 t (List.mem_range.2 (by omega))
    simp only [Bool.and_eq_true, Bool.or_eq_true, decide_eq_true_eq] at h
    rcases h.1 with (h' | h') | h'
    · omega
    · omega
    · simpa using h'
  · intro t ht hts
    have h := List.all_eq_true.1 h8 t (List.mem_range.2 hts)
    simp only [Bool.and_eq_true, Bool.or_eq_true, decide_eq_true_eq] at h
    rcases h.2 with h' | h'
    · omega
    · exact h'

theorem HInv.set {n m i : Nat} {listed : Array Bool} (inv : HInv md ops n m listed) (hi : i ∈ Region.ready md ops listed) (hin : i < n) (hnm : n ≤ m) : HInv md ops n m (listed.setIfInBounds i true) := by
  obtain ⟨_, oi, hoi, hall⟩ := mem_ready.1 hi
  refine ⟨by simp [inv.size], fun j oj hj hl e he hb => ?_, fun t ht ht' => by rw [getD_set_ne true (by omega)]; exact inv.tail t ht ht', fun t ht ht' => by rw [getD_set_ne true (by omega)]; exact inv.post t ht ht'⟩
  by_cases hij : i = j
  · subst hij
    have : oj = oi := Option.some.inj (hj.symm.trans hoi)
    subst this
    exact getD_set_true (hall e he hb)
  · rw [getD_set_ne false hij] at hl
    exact getD_set_true (inv.closed j oj hj hl e he hb)

/-- while something of the head is left nothing of the tail comes up -/
theorem head_only {n m : Nat} {listed : Array Bool} (hp : Parts md ops n m) (inv : HInv md ops n m listed) :
    ∀ (d i : Nat), n - i = d → i < n → listed.getD i true = false → ∀ t, n ≤ t → t ∉ Region.ready md ops listed := by
  intro d
  induction d using Nat.strongRecOn with
  | _ d ih =>
    intro i hd hi hun t ht hr
    obtain ⟨hu, ot, hot, hall⟩ := mem_ready.1 hr
    have htlt : t < ops.size := (Array.getElem?_eq_some_iff.1 hot).1
    have htm : t < m := by
      rcases Nat.lt_or_ge t m with h | h
      · exact h
      · rw [inv.post t h htlt] at hu
        cases hu
    by_cases htn : t = n
    · subst htn
      have hsk : Region.sinkB md ops t = true := hp.sink.resolve_left (by omega)
      obtain ⟨j, hj, hj2⟩ := List.any_eq_true.1 (List.all_eq_true.1 hsk i (List.mem_range.2 hi))
      simp only [Bool.and_eq_true, decide_eq_true_eq] at hj2
      obtain ⟨oj, hoj, e, he, hb, hon⟩ := Region.waitsFor_spec hj2.2
      have hjle : j ≤ t := by have := List.mem_range.1 hj; omega
      by_cases hjt : j = t
      · subst hjt
        have : oj = ot := Option.some.inj (hoj.symm.trans hot)
        subst this
        have h2 := hall e he hb
        rw [hon, getD_both hun] at h2
        cases h2
      · cases hl : listed.getD j false with
        | true =>
          have h2 := inv.closed j oj hoj hl e he hb
          rw [hon, getD_both hun] at h2
          cases h2
        | false =>
          have hjs : j < listed.size := by rw [inv.size]; omega
          exact ih (t - j) (by omega) j rfl (by omega) (getD_in hjs hl) t (Nat.le_refl _) hr
    · have h1 := List.all_eq_true.1 hp.chain t (List.mem_range.2 htm)
      simp only [Bool.or_eq_true, decide_eq_true_eq] at h1
      rcases h1 with h1 | h1
      · omega
      · obtain ⟨o', ho', e, he, hb, hon⟩ := Region.waitsFor_spec h1
        have : o' = ot := Option.some.inj (ho'.symm.trans hot)
        subst this
        have h2 := hall e he hb
        rw [hon, getD_both (inv.tail (t - 1) (by omega) (by omega))] at h2
        cases h2

/-- the head in whatever order, in whatever world meets S; then L -/
def wpH (P : Program) (md : Region.Mode) (ops : Array Oper) (Q : Exit → Act → World → Prop) (n m : Nat) (S : Array Bool → Act → World → Prop) (L : Act → World → Prop) : Nat → Array Bool → Act → Prop
  | 0, listed, a => Region.seqB md ops (m - n) n listed = true ∧ ∀ w, S listed a w → L a w
  | f + 1, listed, a =>
    Region.ready md ops listed ≠ [] ∧
    ∀ i ∈ Region.ready md ops listed, i < n ∧ ∀ w, S listed a w → wpOp P ops Q i (fun a' w' => S (listed.setIfInBounds i true) a' w' ∧ wpH P md ops Q n m S L f (listed.setIfInBounds i true) a') a w

theorem wpAny_of_H {n m : Nat} {L : Act → World → Prop} (hL : ∀ listed a w, Region.seqB md ops (m - n) n listed = true → L a w → wpAny P md ops Q (m - n) listed a w) :
    ∀ (f : Nat) (listed : Array Bool) (a : Act), wpH P md ops Q n m S L f listed a → ∀ w, S listed a w → wpAny P md ops Q (f + (m - n)) listed a w
  | 0, listed, a, h, w, hS => by rw [Nat.zero_add]; exact hL _ _ _ h.1 (h.2 w hS)
  | f + 1, listed, a, h, w, hS => by
    rw [show f + 1 + (m - n) = (f + (m - n)) + 1 by omega]
    exact ⟨fun h0 => absurd h0 h.1, fun i hi => wpOp_mono (fun a' w' h' => wpAny_of_H hL f _ a' h'.2 w' h'.1) ((h.2 i hi).2 w hS)⟩

theorem wpH_first {n m : Nat} {L : Act → World → Prop} (hR : RegS W0 S) (hp : Parts md ops n m) {i : Nat} {oi : Oper} {v : Value} (hi : ops[i]? = some oi) (hin : i < n)
    (hQ : ∀ c a w, Q (.panic c) (a.put oi.dst v) w → Q (.panic c) a w)
    (hup : ∀ l a w, S l a w → S (l.setIfInBounds i true) (a.put oi.dst v) w) (hdn : ∀ l a w, S (l.setIfInBounds i true) (a.put oi.dst v) w → S l a w) :
    ∀ (f : Nat) (listed : Array Bool) (a : Act), HInv md ops n m listed →
      (∀ j oj, ops[j]? = some oj → j ≠ i → listed.getD j true = false → (∀ e ∈ oj.after, Region.binds md e = true → e.on ≠ i) → oi.apart ops oj = true) →
      i ∈ Region.ready md ops listed → Det P ops W0 oi v a →
      wpH P md ops Q n m S L f (listed.setIfInBounds i true) (a.put oi.dst v) → wpH P md ops Q n m S L (f + 1) listed a := by
  have hsel := Region.noSelect_spec hp.nosel
  intro f
  induction f with
  | zero =>
    intro listed a inv _ hr hy H
    have hun := (mem_ready.1 hr).1
    refine ⟨fun h => (by rw [h] at hr; cases hr), fun j hj => ?_⟩
    have hjn : j < n := by
      rcases Nat.lt_or_ge j n with h | h
      · exact h
      · exact absurd hj (head_only hp inv _ i rfl hin hun j h)
    refine ⟨hjn, fun w hS => ?_⟩
    by_cases hji : j = i
    · subst hji
      exact hy.wpOp hi (hR.toW _ _ _ hS) fun w' hb => ⟨hup _ _ _ (hR.ext _ _ _ _ hS hb), H⟩
    · have := seqB_ready H.1 j (ready_mono hj hji)
      omega
  | succ f ih =>
    intro listed a inv hfree hr hy H
    have hun := (mem_ready.1 hr).1
    refine ⟨fun h => (by rw [h] at hr; cases hr), fun j hj => ?_⟩
    have hjn : j < n := by
      rcases Nat.lt_or_ge j n with h | h
      · exact h
      · exact absurd hj (head_only hp inv _ i rfl hin hun j h)
    refine ⟨hjn, fun w hS => ?_⟩
    by_cases hji : j = i
    · subst hji
      exact hy.wpOp hi (hR.toW _ _ _ hS) fun w' hb => ⟨hup _ _ _ (hR.ext _ _ _ _ hS hb), H⟩
    · have h1 := (H.2 j (ready_mono hj hji)).2 w (hup _ _ _ hS)
      obtain ⟨hjun, oj, hoj, hall⟩ := mem_ready.1 hj
      have hnot : ∀ e ∈ oj.after, Region.binds md e = true → e.on ≠ i := fun e he hb heq => by
        have h1 := hall e he hb
        rw [heq, getD_both hun] at h1
        cases h1
      have h2 := wpOp_putDet hoj (hfree j oj hoj hji hjun hnot) (fun cs b => hsel i oi cs b hi) (fun cs b => hsel j oj cs b hoj) hQ hy h1
      have hfree' : ∀ k ok, ops[k]? = some ok → k ≠ i → (listed.setIfInBounds j true).getD k true = false →
          (∀ e ∈ ok.after, Region.binds md e = true → e.on ≠ i) → oi.apart ops ok = true := fun k ok hk hki hu hno => by
        refine hfree k ok hk hki ?_ hno
        by_cases hjk : j = k
        · subst hjk
          exact hjun
        · rw [getD_set_ne true hjk] at hu
          exact hu
      refine wpOp_mono (fun a' w' h3 => ?_) h2
      have hcomm : (listed.setIfInBounds i true).setIfInBounds j true = (listed.setIfInBounds j true).setIfInBounds i true := (Array.setIfInBounds_comm _ _ hji).symm
      rw [hcomm] at h3
      exact ⟨hdn _ _ _ h3.2.1, ih (listed.setIfInBounds j true) a' (inv.set hj hjn hp.lt) hfree' (ready_mono hr (Ne.symm hji)) h3.1 h3.2.2⟩

/-- the walk's own form: the parts' inventory is carried along -/
def WpH (P : Program) (md : Region.Mode) (ops : Array Oper) (Q : Exit → Act → World → Prop) (n m : Nat) (S : Array Bool → Act → World → Prop) (L : Act → World → Prop) (f : Nat) (listed : Array Bool) (a : Act) : Prop :=
  Parts md ops n m → HInv md ops n m listed → wpH P md ops Q n m S L f listed a

/-- take number i first -/
theorem WpH.take {n m : Nat} {L : Act → World → Prop} (hR : RegS W0 S) {i : Nat} {oi : Oper} {v : Value} {f : Nat} {listed : Array Bool} {a : Act} (hi : ops[i]? = some oi)
    (hB : (decide (i < n) && Region.free md ops listed i && (Region.ready md ops listed).contains i) = true)
    (hQ : ∀ c a w, Q (.panic c) (a.put oi.dst v) w → Q (.panic c) a w)
    (hup : ∀ l a w, S l a w → S (l.setIfInBounds i true) (a.put oi.dst v) w) (hdn : ∀ l a w, S (l.setIfInBounds i true) (a.put oi.dst v) w → S l a w)
    (hy : Det P ops W0 oi v a)
    (h : WpH P md ops Q n m S L f (listed.setIfInBounds i true) (a.put oi.dst v)) : WpH P md ops Q n m S L (f + 1) listed a := by
  simp only [Bool.and_eq_true, decide_eq_true_eq] at hB
  obtain ⟨⟨hin, hf⟩, hr⟩ := hB
  have hr' : i ∈ Region.ready md ops listed := by simpa using hr
  exact fun hp inv => wpH_first hR hp hi hin hQ hup hdn f listed a inv (Region.free_spec hi hf) hr' hy (h hp (inv.set hr' hin hp.lt))

/-- number i alone comes up, whatever it leaves -/
theorem WpH.one {n m : Nat} {L : Act → World → Prop} {i : Nat} {f : Nat} {listed : Array Bool} {a : Act}
    (hB : (decide (i < n) && decide (Region.ready md ops listed = [i])) = true)
    (h : ∀ w, S listed a w → wpOp P ops Q i (fun a' w' => S (listed.setIfInBounds i true) a' w' ∧ WpH P md ops Q n m S L f (listed.setIfInBounds i true) a') a w) : WpH P md ops Q n m S L (f + 1) listed a := by
  simp only [Bool.and_eq_true, decide_eq_true_eq] at hB
  obtain ⟨hin, hr⟩ := hB
  intro hp inv
  refine ⟨by rw [hr]; simp, fun j hj => ?_⟩
  have hj' : j = i := by rw [hr] at hj; simpa using hj
  subst hj'
  exact ⟨hin, fun w hS => wpOp_mono (fun a' w' h' => ⟨h'.1, h'.2 hp (inv.set hj hin hp.lt)⟩) (h w hS)⟩

/-- all of the head has come up -/
theorem WpH.done {n m : Nat} {L : Act → World → Prop} {listed : Array Bool} {a : Act} (hB : Region.seqB md ops (m - n) n listed = true) (h : ∀ w, S listed a w → L a w) : WpH P md ops Q n m S L 0 listed a :=
  fun _ _ => ⟨hB, h⟩

theorem any_of_tail {Q' : Exit → Act → World → Prop} : ∀ (l : List Oper) (k : Nat) (listed : Array Bool) (a : Act) (w : World), (∀ j, j < l.length → l[j]? = ops[k + j]?) →
    Region.seqB md ops l.length k listed = true → wpList P ops Q' l a w → wpAny P md ops Q' l.length listed a w
  | [], _, _, _, _, _, hB, h => ⟨by simpa [Region.seqB] using hB, h⟩
  | o :: l, k, listed, a, w, hl, hB, h => by
    have h0 : ops[k]? = some o := by simpa using (hl 0 (by simp)).symm
    simp only [List.length_cons, Region.seqB, Bool.and_eq_true, decide_eq_true_eq] at hB
    refine ⟨fun h1 => (by rw [hB.1] at h1; cases h1), fun i hi => ?_⟩
    rw [hB.1] at hi
    have hik : i = k := by simpa using hi
    subst hik
    have hw : wpOp P ops Q' i (wpList P ops Q' l) a w := by
      unfold wpOp
      simp only [h0]
      exact h
    refine wpOp_mono (fun a' w' h' => any_of_tail l (i + 1) _ a' w' (fun j hj => ?_) hB.2 h') hw
    have := hl (j + 1) (by simp; omega)
    simpa [Nat.add_assoc, Nat.add_comm 1 j] using this

/-- the beginning: from any place of the region on -/
theorem any_H {l : List Oper} {n m f : Nat} {listed : Array Bool} {a : Act} {w : World} (hB : partsB md l.toArray n m listed = true) (hS : S listed a w)
    (h : WpH P md l.toArray Q n m S (wpList P l.toArray Q ((l.drop n).take (m - n))) f listed a) : wpAny P md l.toArray Q (f + (m - n)) listed a w := by
  obtain ⟨hp, inv⟩ := parts_of hB
  refine wpAny_of_H (L := wpList P l.toArray Q ((l.drop n).take (m - n))) (fun listed' a' w' hq hl => ?_) f listed a (h hp inv) w hS
  have hlen : ((l.drop n).take (m - n)).length = m - n := by
    have := hp.le
    simp at this ⊢
    omega
  have := any_of_tail (P := P) (md := md) (ops := l.toArray) (Q' := Q) ((l.drop n).take (m - n)) n listed' a' w' (fun j hj => ?_) (by rw [hlen]; exact hq) hl
  · rwa [hlen] at this
  · rw [hlen] at hj
    simp [hj]

theorem region_H {id n m f : Nat} {l : List Oper} {a : Act} {w : World} (hm : P.follows .mixedOrders = true) (hB : partsB .any l.toArray n m (Array.replicate l.length false) = true) (hf : f + (m - n) = l.length)
    (hS : S (Array.replicate l.length false) a w.drew)
    (h : WpH P .any l.toArray Q n m S (wpList P l.toArray Q ((l.drop n).take (m - n))) f (Array.replicate l.length false) a) : (Code.region id l.toArray true).wp P Q a w := by
  refine wp_region_any hm ?_
  have := any_H hB hS h
  rw [hf] at this
  simpa using this
end

/-- S where nothing new is made -/
def Flat (W0 : World → Prop) (_ : Array Bool) (_ : Act) (w : World) : Prop := W0 w
theorem RegS.flat {W0 : World → Prop} (h : ∀ w w', W0 w → Below w.heap.size w w' → W0 w') : RegS W0 (Flat W0) := ⟨fun _ _ _ hS => hS, fun _ _ w w' hS hb => h w w' hS hb⟩

theorem Det.val {P : Program} {ops : Array Oper} {W0 : World → Prop} {o : Oper} {v : Value} {a : Act} (hw : Region.wanted o (yielded ops a.tmps) = true) (h : ∀ w, W0 w → (execOp a.eval o).run P w = .ok (.value v) w) : Det P ops W0 o v a :=
  .inl ⟨hw, fun w hW => by rw [h w hW]; exact ⟨rfl, Below.refl _ _⟩⟩
theorem Det.call {P : Program} {ops : Array Oper} {W0 : World → Prop} {o : Oper} {v : Value} {a : Act} {f : FuncId} {args : Array Value} (hw : Region.wanted o (yielded ops a.tmps) = true)
    (hc : ∀ w, W0 w → Calls P f args w (fun e w' => e = .returned v ∧ Below w.heap.size w w')) (h : ∀ w, W0 w → (execOp a.eval o).run P w = .ok (.enter f args) w) : Det P ops W0 o v a :=
  .inl ⟨hw, fun w hW => by rw [h w hW]; exact Calls.mono (hc w hW) fun e w' he => ⟨v, he.1, rfl, he.2⟩⟩
theorem Det.skip {P : Program} {ops : Array Oper} {W0 : World → Prop} {o : Oper} {a : Act} (hw : Region.wanted o (yielded ops a.tmps) = false) : Det P ops W0 o undef a := .inr ⟨hw, rfl⟩

/-! ### the usual form: W0 is 'all below is as it was when the region began' -/
section
variable {P : Program} {ops : Array Oper} {Q : Exit → Act → World → Prop} {md : Region.Mode} {W : World}
theorem RegS.below (W : World) : RegS (Below W.heap.size W) (Flat (Below W.heap.size W)) := .flat fun _ _ h hb => h.trans (hb.mono h.size)

theorem region_B {id n m f : Nat} {l : List Oper} {a : Act} {w : World} (hm : P.follows .mixedOrders = true) (hB : partsB .any l.toArray n m (Array.replicate l.length false) = true) (hf : f + (m - n) = l.length)
    (h : WpH P .any l.toArray Q n m (Flat (Below w.heap.size w)) (wpList P l.toArray Q ((l.drop n).take (m - n))) f (Array.replicate l.length false) a) : (Code.region id l.toArray true).wp P Q a w :=
  region_H hm hB hf (show Below w.heap.size w w.drew from (Below.refl _ _).drew) h

theorem WpH.takeB {n m : Nat} {L : Act → World → Prop} {i : Nat} {oi : Oper} {v : Value} {f : Nat} {listed : Array Bool} {a : Act} (hi : ops[i]? = some oi)
    (hB : (decide (i < n) && Region.free md ops listed i && (Region.ready md ops listed).contains i) = true)
    (hQ : ∀ c a w, Q (.panic c) (a.put oi.dst v) w → Q (.panic c) a w)
    (hy : Det P ops (Below W.heap.size W) oi v a)
    (h : WpH P md ops Q n m (Flat (Below W.heap.size W)) L f (listed.setIfInBounds i true) (a.put oi.dst v)) : WpH P md ops Q n m (Flat (Below W.heap.size W)) L (f + 1) listed a :=
  WpH.take (RegS.below W) hi hB hQ (fun _ _ _ h => h) (fun _ _ _ h => h) hy h

theorem WpH.doneB {n m : Nat} {L : Act → World → Prop} {listed : Array Bool} {a : Act} (hB : Region.seqB md ops (m - n) n listed = true) (h : ∀ w, Below W.heap.size W w → L a w) :
    WpH P md ops Q n m (Flat (Below W.heap.size W)) L 0 listed a := WpH.done hB h

theorem wpOp_value {i : Nat} {o : Oper} {v : Value} {a : Act} {w w' : World} {K : Act → World → Prop} (hi : ops[i]? = some o) (hw : Region.wanted o (yielded ops a.tmps) = true)
    (h : (execOp a.eval o).run P w = .ok (.value v) w') (hK : K (a.put o.dst v) w') : wpOp P ops Q i K a w := by
  unfold wpOp
  simp only [hi, hw, if_true]
  refine .inl ?_
  unfold Oper.wp
  rw [h]
  exact hK

/-- S where one new thing is made, by operation k, into slot t -/
def WithNew (W : World) (k : Nat) (t : Tmp) (R : Value → World → Prop) (l : Array Bool) (a : Act) (w : World) : Prop := Below W.heap.size W w ∧ (l.getD k false = true → R (a.tmps.getD t undef) w)
theorem RegS.withNew {k : Nat} {t : Tmp} {R : Value → World → Prop} (hR : ∀ v w w', R v w → Below w.heap.size w w' → R v w') : RegS (Below W.heap.size W) (WithNew W k t R) :=
  ⟨fun _ _ _ h => h.1, fun _ _ _ _ h hb => ⟨h.1.trans (hb.mono h.1.size), fun hk => hR _ _ _ (h.2 hk) hb⟩⟩
theorem withNew_put {k i : Nat} {t : Tmp} {d : Option Tmp} {v : Value} {R : Value → World → Prop} {l : Array Bool} {a : Act} {w : World} (hik : (i == k) = false) (hd : (d == some t) = false) :
    WithNew W k t R (l.setIfInBounds i true) (a.put d v) w = WithNew W k t R l a w := by
  unfold WithNew
  have h1 : (l.setIfInBounds i true).getD k false = l.getD k false := getD_set_ne false (by simpa using hik)
  have h2 : (a.put d v).tmps.getD t undef = a.tmps.getD t undef := by
    cases d with
    | none => rfl
    | some d =>
      have hdt : d ≠ t := by simpa using hd
      simp [Act.put, Array.getElem?_setIfInBounds_ne hdt]
  rw [h1, h2]

theorem WpH.takeN {n m k : Nat} {t : Tmp} {R : Value → World → Prop} {L : Act → World → Prop} (hR : ∀ v w w', R v w → Below w.heap.size w w' → R v w') {i : Nat} {oi : Oper} {v : Value} {f : Nat} {listed : Array Bool} {a : Act} (hi : ops[i]? = some oi)
    (hB : (decide (i < n) && Region.free md ops listed i && (Region.ready md ops listed).contains i) = true) (hik : (i == k) = false) (hd : (oi.dst == some t) = false)
    (hQ : ∀ c a w, Q (.panic c) (a.put oi.dst v) w → Q (.panic c) a w)
    (hy : Det P ops (Below W.heap.size W) oi v a)
    (h : WpH P md ops Q n m (WithNew W k t R) L f (listed.setIfInBounds i true) (a.put oi.dst v)) : WpH P md ops Q n m (WithNew W k t R) L (f + 1) listed a :=
  WpH.take (RegS.withNew hR) hi hB hQ (fun _ _ _ h => by rw [withNew_put hik hd]; exact h) (fun _ _ _ h => by rw [withNew_put hik hd] at h; exact h) hy h

theorem region_N {id n m f : Nat} {l : List Oper} {a : Act} {w : World} (k : Nat) (t : Tmp) (R : Value → World → Prop) (hm : P.follows .mixedOrders = true) (hB : partsB .any l.toArray n m (Array.replicate l.length false) = true) (hf : f + (m - n) = l.length)
    (h : WpH P .any l.toArray Q n m (WithNew w k t R) (wpList P l.toArray Q ((l.drop n).take (m - n))) f (Array.replicate l.length false) a) : (Code.region id l.toArray true).wp P Q a w :=
  region_H hm hB hf ⟨(Below.refl _ _).drew, fun hk => (by rw [getD_replicate_false] at hk; cases hk)⟩ h
end

end Go.Proofs.YtfhmineolncefaaDoor

namespace Go.Proofs.YtfhmineolncefaaDoor
open Go.RowKit Fm
set_option linter.unusedVariables false
set_option maxRecDepth 100000

theorem isF2 : IsF 2 := ⟨.inr rfl⟩
theorem isF1 : IsF 1 := ⟨.inl rfl⟩

/-- a new variable of two limbs -/
def NewE (B : Nat) (v : Value) (w : World) : Prop := ∃ b, v = .pointer (some ⟨b, 0, none⟩) ∧ B ≤ b ∧ V2 w b (.int .u64 0) (.int .u64 0)
theorem newE_stable (B : Nat) : ∀ v w w', NewE B v w → Below w.heap.size w w' → NewE B v w' := fun _ _ _ ⟨b, h1, h2, h3⟩ hb => ⟨b, h1, h2, h3.call hb⟩

theorem V2.oth {w : World} {b c : Nat} {u v : Value} (h : V2 w c u v) (hne : b ≠ c) (x y : Value) : V2 ((w.setCell ⟨b, 0, none⟩ x).setCell ⟨b, 1, none⟩ y) c u v :=
  (h.setOther (by exact hne) x).setOther (by exact hne) y
theorem bl_st {B b : Nat} {a w : World} (h : Below B a w) (hp : B ≤ b) (x y : Value) : Below B a ((w.setCell ⟨b, 0, none⟩ x).setCell ⟨b, 1, none⟩ y) := bl_set (bl_set h hp x) hp y
theorem size_st {b : Nat} {w : World} (x y : Value) : ((w.setCell ⟨b, 0, none⟩ x).setCell ⟨b, 1, none⟩ y).heap.size = w.heap.size := by simp [World.setCell]

theorem vK_zero {f : Nat} : vK (0 : Fin (Pm f)) = .agg #[.int .u64 0, .int .u64 0] := by rw [show vK (0 : Fin (Pm f)) = .agg #[.int .u64 (lo (0 : Fin (Pm f))), .int .u64 (hi (0 : Fin (Pm f)))] from rfl, lo_zero, hi_zero]
theorem vK_one {f : Nat} : vK (1 : Fin (Pm f)) = .agg #[.int .u64 1, .int .u64 0] := by rw [show vK (1 : Fin (Pm f)) = .agg #[.int .u64 (lo (1 : Fin (Pm f))), .int .u64 (hi (1 : Fin (Pm f)))] from rfl, lo_one, hi_one]

/-- an element whose number is n -/
theorem RetE.det {n : Int} {w : World} {e : Ending} {w' : World} (h : RetE n w e w') {z0 z1 : Int} (hz : z0 + 18446744073709551616 * z1 = n) (h0 : 0 ≤ z0) (h1 : z0 ≤ 18446744073709551615) :
    e = .returned (.agg #[.int .u64 z0, .int .u64 z1]) ∧ Below w.heap.size w w' := by
  obtain ⟨x0, x1, rfl, ⟨g0, g1, g2, g3⟩, HX, hb⟩ := h
  have hx := HX.out
  obtain rfl : x0 = z0 := by omega
  obtain rfl : x1 = z1 := by omega
  exact ⟨rfl, hb⟩

theorem limbs2 (n : Int) (h0 : 0 ≤ n) (h1 : n < 340282366920938463463374607431768211456) : ∃ z0 z1 : Int, z0 + 18446744073709551616 * z1 = n ∧ 0 ≤ z0 ∧ z0 ≤ 18446744073709551615 ∧ 0 ≤ z1 ∧ z1 ≤ 18446744073709551615 :=
  ⟨n % 18446744073709551616, n / 18446744073709551616, by omega, by omega, by omega, by omega, by omega⟩

/-- the number of an element -/
theorem val_lohi {f : Nat} (x : Fin (Pm f)) : lo x + 18446744073709551616 * hi x = ((x.val : Nat) : Int) := by
  have hx := x.isLt
  have h2 := Pm_lt f
  unfold lo hi eK eN
  dsimp only
  omega
theorem vK_of {f : Nat} {x : Fin (Pm f)} {z0 z1 : Int} (h : z0 + 18446744073709551616 * z1 = ((x.val : Nat) : Int)) (h0 : 0 ≤ z0) (h1 : z0 ≤ 18446744073709551615) : lo x = z0 ∧ hi x = z1 := by
  have h2 := val_lohi x
  have h3 := lo_0 x
  have h4 := lo_1 x
  omega
theorem val_add {f : Nat} (x y : Fin (Pm f)) : (((x + y).val : Nat) : Int) = (((x.val : Nat) : Int) + ((y.val : Nat) : Int)) % ((Pm f : Nat) : Int) := by
  rw [Fin.val_add, Int.natCast_emod, Int.natCast_add]
theorem val_mul {f : Nat} (x y : Fin (Pm f)) : (((x * y).val : Nat) : Int) = (((x.val : Nat) : Int) * ((y.val : Nat) : Int)) % ((Pm f : Nat) : Int) := by
  rw [Fin.val_mul, Int.natCast_emod, Int.natCast_mul]
theorem val_neg {f : Nat} (x : Fin (Pm f)) (h : x ≠ 0) : (((-x).val : Nat) : Int) = ((Pm f : Nat) : Int) - ((x.val : Nat) : Int) := by
  have hx := x.isLt
  have h0 : x.val ≠ 0 := fun e => h (Fin.ext (by rw [e, Fin.val_zero]))
  have h1 : (-x).val = (Pm f - x.val) % Pm f := Fin.val_neg' x
  rw [h1, Nat.mod_eq_of_lt (by omega)]
  omega
theorem val_pos {f : Nat} (x : Fin (Pm f)) : 0 ≤ ((x.val : Nat) : Int) ∧ ((x.val : Nat) : Int) < ((Pm f : Nat) : Int) := by
  have hx := x.isLt
  omega
theorem val_zero {f : Nat} : (((0 : Fin (Pm f)).val : Nat) : Int) = 0 := by rw [Fin.val_zero]; rfl

end Go.Proofs.YtfhmineolncefaaDoor
