/-
  'append' of a slice of elements (nil, empty or not) onto a slice of elements that the call itself owns.
-/
import Derived.Test.YtgambjmjbmdciaaSlice2
import Derived.Maps.AppendAt
namespace Go.Proofs.Ytgambjmjbmdciaa
open Go.RowKit Fm
set_option linter.unusedVariables false
set_option maxRecDepth 100000

theorem cellsE_pair : ∀ (xs : List E) (j : Nat) (u : Value), (cellsE xs)[j]? = some u → ∃ i e, xs[i]? = some e ∧ ((j = i * 2 ∧ u = .int .u64 e.1) ∨ (j = i * 2 + 1 ∧ u = .int .u64 e.2))
  | [], j, u, h => by simp [cellsE] at h
  | x :: l, 0, u, h => by
    simp only [cellsE, List.getElem?_cons_zero, Option.some.injEq] at h
    exact ⟨0, x, rfl, .inl ⟨rfl, h.symm⟩⟩
  | x :: l, 1, u, h => by
    simp only [cellsE, List.getElem?_cons_succ, List.getElem?_cons_zero, Option.some.injEq] at h
    exact ⟨0, x, rfl, .inr ⟨rfl, h.symm⟩⟩
  | x :: l, j + 2, u, h => by
    simp only [cellsE, List.getElem?_cons_succ] at h
    obtain ⟨i, e, hi, hor⟩ := cellsE_pair l j u h
    refine ⟨i + 1, e, by simpa using hi, ?_⟩
    rcases hor with ⟨rfl, hu⟩ | ⟨rfl, hu⟩
    · exact .inl ⟨by omega, hu⟩
    · exact .inr ⟨by omega, hu⟩

theorem RowE.cells {w : World} {b o : Nat} {xs : List E} (h : RowE w b o xs) (j : Nat) (u : Value) (hu : (cellsE xs)[j]? = some u) : w.cell? ((⟨b, o, none⟩ : Addr).add j) = some u := by
  have ha : (⟨b, o, none⟩ : Addr).add j = ⟨b, o + j, none⟩ := by
    unfold Addr.add
    split <;> simp_all
  rw [ha]
  obtain ⟨i, e, hi, hor⟩ := cellsE_pair xs j u hu
  rcases hor with ⟨rfl, rfl⟩ | ⟨rfl, rfl⟩
  · exact (h i e hi).1
  · rw [← Nat.add_assoc]
    exact (h i e hi).2

theorem oneCell_cellsE (xs : List E) : ∀ u, u ∈ cellsE xs → u.oneCell' = true := by
  induction xs with
  | nil => intro u h; cases h
  | cons e l ih =>
    intro u h
    simp only [cellsE, List.mem_cons] at h
    rcases h with rfl | rfl | h
    · rfl
    · rfl
    · exact ih u h

theorem run_append_E (w : World) (base : Nat) (ty : TypeId) (v : Value) (n : Nat) (xs : List E) (hown : w.ownsRow base 41 2 v n (cellsE xs)) (A : Option Addr) (m c : Nat) (ys : List E)
    (hm : ys.length = m) (hy : 0 < m → ∃ b o, A = some ⟨b, o, none⟩ ∧ RowE w b o ys) (hbound : n + m ≤ 1099511627776) (hbase : base ≤ w.heap.size) :
    ∃ v' w', (Builtin.append_ #[22, 22] ty #[v, .slice A m c]).run Try.prog w = .ok v' w' ∧ w'.ownsRow base 41 2 v' (n + m) (cellsE (xs ++ ys)) ∧ w.grownBy w' v.ownBlock ∧
      (v'.ownBlock = v.ownBlock ∨ v'.ownBlock = some w.heap.size) := by
  obtain ⟨i, hi, hz, h1, h2⟩ := info_parts info_elem
  rw [cellsE_append]
  rcases A with _ | ad
  · have hm0 : m = 0 := by
      rcases Nat.eq_zero_or_pos m with h0 | h0
      · exact h0
      · obtain ⟨b, o, h, _⟩ := hy h0
        cases h
    subst hm0
    obtain rfl : ys = [] := List.eq_nil_of_length_eq_zero hm
    refine ⟨v, w, ?_, by simpa [cellsE] using hown, World.grownBy.refl w _, .inl rfl⟩
    rcases hown.2 with ⟨rfl, rfl⟩ | ⟨g, cap, cur, rfl, _, _, hnc, _⟩
    · simp [Builtin.append_, run_underlying Try.underlying22, sizeOf, typeInfo, hi, Builtin.lenOf, Builtin.firstCells]
    · simp [Builtin.append_, run_underlying Try.underlying22, sizeOf, typeInfo, hi, Builtin.lenOf, Builtin.firstCells, hnc, storeCells]
  · have hcells : ∀ j u, (cellsE ys)[j]? = some u → w.cell? (ad.add j) = some u := by
      intro j u hu
      rcases Nat.eq_zero_or_pos m with h0 | h0
      · subst h0
        obtain rfl : ys = [] := List.eq_nil_of_length_eq_zero hm
        simp [cellsE] at hu
      · obtain ⟨b, o, h, hr⟩ := hy h0
        injection h with h
        subst h
        exact hr.cells j u hu
    obtain ⟨v', w', hrun, h3, h4, _, h5⟩ := run_append_own_at (P := Try.prog) w base 22 ty 41 i _ 2 16 Try.underlying22 hi hz h1 h2 rfl (by omega) v n _ hown ad m c (cellsE ys)
      (by rw [length_cellsE, hm]) hcells (oneCell_cellsE ys) (by unfold maxLen; omega) (by omega) hbase
    exact ⟨v', w', hrun, h3, h4, h5⟩

theorem wpList_append_E {w : World} {ops : Array Oper} {rest : List Oper} {o : Oper} {a : Act} {Q : Exit → Act → World → Prop} (hgd : o.guard = none) (s x : Operand)
    (ho : o.op = .call { callee := .builtin .append, args := #[s, x], argTypes := #[22, 22] })
    (base : Nat) (v : Value) (n : Nat) (xs : List E) (hs : a.eval s = v) (hown : w.ownsRow base 41 2 v n (cellsE xs)) (A : Option Addr) (m c : Nat) (ys : List E) (hx : a.eval x = .slice A m c)
    (hm : ys.length = m) (hy : 0 < m → ∃ b o, A = some ⟨b, o, none⟩ ∧ RowE w b o ys) (hbound : n + m ≤ 1099511627776) (hbase : base ≤ w.heap.size)
    (h : ∀ v' w', w'.ownsRow base 41 2 v' (n + m) (cellsE (xs ++ ys)) → w.grownBy w' v.ownBlock → (v'.ownBlock = v.ownBlock ∨ v'.ownBlock = some w.heap.size) → wpList Try.prog ops Q rest (a.put o.dst v') w') : wpList Try.prog ops Q (o :: rest) a w := by
  obtain ⟨v', w', hrun, h2, h3, h4⟩ := run_append_E w base o.type v n xs hown A m c ys hm hy hbound hbase
  refine wpList_plain hgd fun K hK => ?_
  unfold Oper.wp execOp
  simp only [ho, resolve, invoke, builtin, Sem.run_bind, Sem.run_pure, Result.andThen_ok, List.map_toArray, List.map_cons, List.map_nil, hs, hx, hrun]
  exact hK _ _ (h v' w' h2 h3 h4)

/-- what the call owns, as a slice of elements -/
theorem SlE.of_own {w : World} {base : Nat} {v : Value} {xs : List E} (h : w.ownsRow base 41 2 v xs.length (cellsE xs)) (ok : ∀ e, e ∈ xs → okE e) : SlE w w.heap.size v xs := by
  rcases h.2 with ⟨rfl, h0⟩ | ⟨g, cap, cur, rfl, hb, hg, hnc, hcm, hcs, htk⟩
  · refine ⟨⟨none, 0, by rw [h0], by omega, by omega, fun hn => by omega⟩, ok⟩
  · refine ⟨⟨some ⟨g, 0, none⟩, cap, rfl, hnc, by unfold maxLen at hcm; omega, fun _ => ⟨g, 0, rfl, (Array.getElem?_eq_some_iff.1 hg).1, fun i e hi => ?_⟩⟩, ok⟩
    obtain ⟨e1, e2⟩ := cellsE_at xs i e hi
    have hc := fun j u hu => h.cells (g := g) rfl j u hu
    have ha : ∀ j, (⟨g, 0, none⟩ : Addr).add j = ⟨g, 0 + j, none⟩ := by
      intro j
      unfold Addr.add
      split <;> simp_all
    have f1 := hc _ _ e1
    have f2 := hc _ _ e2
    rw [ha] at f1 f2
    exact ⟨f1, by rw [Nat.add_assoc]; exact f2⟩

end Go.Proofs.Ytgambjmjbmdciaa
