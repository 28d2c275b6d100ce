/-
  A BLOCK OF ELEMENTS that the call itself has made ('make([]api.Elem, n)'): whole, not frozen; a store of one element.
-/
import Derived.Test.YtgambjmjbmdciaaSlice
namespace Go.Proofs.Ytgambjmjbmdciaa
open Go.RowKit Fm
set_option linter.unusedVariables false
set_option maxRecDepth 100000

def cellsE : List E → List Value
  | [] => []
  | e :: l => .int .u64 e.1 :: .int .u64 e.2 :: cellsE l

theorem length_cellsE : ∀ xs : List E, (cellsE xs).length = xs.length * 2
  | [] => rfl
  | e :: l => by simp only [cellsE, List.length_cons, length_cellsE l]; omega

theorem cellsE_at : ∀ (xs : List E) (i : Nat) (e : E), xs[i]? = some e → (cellsE xs)[i * 2]? = some (.int .u64 e.1) ∧ (cellsE xs)[i * 2 + 1]? = some (.int .u64 e.2)
  | [], i, e, h => by simp at h
  | x :: l, 0, e, h => by
    simp only [List.getElem?_cons_zero, Option.some.injEq] at h
    subst h
    exact ⟨rfl, rfl⟩
  | x :: l, i + 1, e, h => by
    have ih := cellsE_at l i e (by simpa using h)
    rw [show (i + 1) * 2 = i * 2 + 1 + 1 from by omega]
    simpa only [cellsE, List.getElem?_cons_succ] using ih

theorem cellsE_set : ∀ (xs : List E) (i : Nat) (a b : Int), ((cellsE xs).set (i * 2) (.int .u64 a)).set (i * 2 + 1) (.int .u64 b) = cellsE (xs.set i (a, b))
  | [], i, a, b => by simp [cellsE]
  | x :: l, 0, a, b => by simp [cellsE]
  | x :: l, i + 1, a, b => by
    rw [show (i + 1) * 2 = i * 2 + 1 + 1 from by omega]
    simp only [cellsE, List.set_cons_succ, cellsE_set l i a b]

theorem cellsE_replicate (n : Nat) : cellsE (List.replicate n (0, 0)) = List.replicate (n * 2) (.int .u64 0) := by
  induction n with
  | zero => rfl
  | succ n ih => rw [List.replicate_succ, cellsE, ih, show (n + 1) * 2 = n * 2 + 1 + 1 from by omega, List.replicate_succ, List.replicate_succ]

theorem cellsE_append (xs ys : List E) : cellsE (xs ++ ys) = cellsE xs ++ cellsE ys := by
  induction xs with
  | nil => rfl
  | cons x l ih => simp only [List.cons_append, cellsE, ih]

/-- block g holds the elements xs and nothing else, not frozen -/
def BlkE (w : World) (g : Nat) (xs : List E) : Prop := w.heap[g]? = some (.cells (cellsE xs).toArray 41 (0, 0))

section
variable {w w' : World} {g : Nat} {xs : List E}
theorem BlkE.lt (h : BlkE w g xs) : g < w.heap.size := by
  rcases Nat.lt_or_ge g w.heap.size with hlt | hge
  · exact hlt
  · unfold BlkE at h
    rw [Array.getElem?_eq_none hge] at h
    cases h
theorem BlkE.cell (h : BlkE w g xs) (i : Nat) : w.cell? ⟨g, i, none⟩ = (cellsE xs)[i]? := by
  rw [cell_of_row w g i _ _ (0, 0) h]
  simp
theorem BlkE.row (h : BlkE w g xs) (i : Nat) (e : E) (hi : xs[i]? = some e) : w.cell? ⟨g, i * 2, none⟩ = some (.int .u64 e.1) ∧ w.cell? ⟨g, i * 2 + 1, none⟩ = some (.int .u64 e.2) := by
  rw [h.cell, h.cell]
  exact cellsE_at xs i e hi
theorem BlkE.rowE (h : BlkE w g xs) : RowE w g 0 xs := fun i e hi => by
  rw [Nat.zero_add]
  exact h.row i e hi
theorem BlkE.frozen (h : BlkE w g xs) (i : Nat) : w.frozen? ⟨g, i, none⟩ = false := by
  unfold BlkE at h
  simp [World.frozen?, h]
theorem BlkE.drew (h : BlkE w g xs) : BlkE w.drew g xs := h
theorem BlkE.drewN (h : BlkE w g xs) (n : Nat) : BlkE (w.drewN n) g xs := h
theorem BlkE.call (h : BlkE w g xs) (hb : Below w.heap.size w w') : BlkE w' g xs := (hb.block g h.lt).trans h
theorem BlkE.below {B : Nat} (h : BlkE w g xs) (hb : Below B w w') (hB : g < B) : BlkE w' g xs := (hb.block g hB).trans h
theorem BlkE.alloc (h : BlkE w g xs) (o : Obj) : BlkE (w.alloc o) g xs := (Below.heap_alloc w o g h.lt).trans h
theorem BlkE.far (h : BlkE w g xs) {p : Addr} (hp : g ≠ p.block) (u : Value) : BlkE (w.setCell p u) g xs := (Below.heap_setCell w p u g hp).trans h
theorem BlkE.set (h : BlkE w g xs) (k : Nat) (a b : Int) : BlkE ((w.setCell ⟨g, k * 2, none⟩ (.int .u64 a)).setCell ⟨g, k * 2 + 1, none⟩ (.int .u64 b)) g (xs.set k (a, b)) := by
  have h1 := heap_setCell_same w g (k * 2) _ _ (.int .u64 a) h
  have h2 := heap_setCell_same _ g (k * 2 + 1) _ _ (.int .u64 b) h1
  unfold BlkE
  rw [h2]
  simp only [List.setIfInBounds_toArray, cellsE_set]
theorem BlkE.sl (h : BlkE w g xs) (hn : xs.length ≤ 9223372036854775807) (ok : ∀ e, e ∈ xs → okE e) {B : Nat} (hB : g < B) : SlE w B (.slice (some ⟨g, 0, none⟩) xs.length xs.length) xs :=
  ⟨⟨some ⟨g, 0, none⟩, xs.length, rfl, Nat.le_refl _, hn, fun _ => ⟨g, 0, rfl, hB, h.rowE⟩⟩, ok⟩
end

theorem info_elem : (Try.prog.info? 41).map (fun i => (i.zero, i.size, i.bytes)) = some (some (.agg #[.int .u64 0, .int .u64 0]), 2, 16) := by kernel_rfl

theorem madeCells_elem (n : Nat) : madeCells #[.int .u64 0, .int .u64 0] (n * 2) = (cellsE (List.replicate n (0, 0))).toArray := by
  rw [cellsE_replicate]
  apply Array.ext
  · simp [madeCells]
  · intro i h1 h2
    simp only [madeCells, Array.getElem_map, Array.getElem_range]
    have h3 : i % 2 = 0 ∨ i % 2 = 1 := by omega
    simp only [List.getElem_toArray, List.getElem_replicate]
    rcases h3 with h3 | h3 <;> simp [h3]

/-- 'make([]api.Elem, n)' -/
theorem make_elem (n : Nat) (hn : n ≤ 1099511627776) (w : World) :
    (Instr.makeSlice 22 (.int .i64 (n : Int)) (.int .i64 (n : Int))).run Try.prog w = .ok (.slice (some ⟨w.heap.size, 0, none⟩) n n) (w.alloc (.cells (cellsE (List.replicate n (0, 0))).toArray 41)) := by
  obtain ⟨i, hi, hz, h1, h2⟩ := info_parts info_elem
  have hr := run_make (P := Try.prog) w 22 41 i _ Try.underlying22 hi hz .i64 .i64 n n (by omega) (by omega) (by rw [h2]; omega) (by omega)
  rw [hr, h1]
  simp only [Int.toNat_natCast, Value.cells, madeCells_elem]

end Go.Proofs.Ytgambjmjbmdciaa
