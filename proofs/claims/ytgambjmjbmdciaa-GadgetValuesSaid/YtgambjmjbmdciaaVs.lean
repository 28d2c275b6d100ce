/-
  VARIABLES OF ANY NUMBER OF CELLS.
-/
import Derived.Test.YtgambjmjbmdciaaKit
namespace Go.Proofs.Ytgambjmjbmdciaa
open Go.RowKit Fm
set_option linter.unusedVariables false
set_option maxRecDepth 100000

/-- block b holds the values cs, from its head on -/
structure Vs (w : World) (b : Nat) (cs : List Value) : Prop where
  cell : ∀ i v, cs[i]? = some v → w.cell? ⟨b, i, none⟩ = some v
  frz : ∀ i, i < cs.length → w.frozen? ⟨b, i, none⟩ = false
  lt : b < w.heap.size

section
variable {w w' : World} {b : Nat} {cs : List Value}
theorem Vs.call (h : Vs w b cs) (hb : Below w.heap.size w w') : Vs w' b cs :=
  ⟨fun i v hi => cell_call (h.cell i v hi) hb, fun i hi => frozen_call h.lt (h.frz i hi) hb, Nat.lt_of_lt_of_le h.lt hb.size⟩
theorem Vs.alloc (h : Vs w b cs) (o : Obj) : Vs (w.alloc o) b cs := h.call ((Below.refl _ _).alloc (Nat.le_refl _) o)
theorem Vs.drew (h : Vs w b cs) : Vs w.drew b cs := ⟨h.cell, h.frz, h.lt⟩
theorem Vs.drewN (h : Vs w b cs) (n : Nat) : Vs (w.drewN n) b cs := ⟨h.cell, h.frz, h.lt⟩
theorem Vs.new (w : World) (cs : List Value) (a : Array Value) (t : TypeId) (h : a = cs.toArray) : Vs (w.alloc (.cells a t)) w.heap.size cs := by
  subst h
  refine ⟨fun i v hi => ?_, fun i hi => World.frozen?_alloc_at _ _ _ _ rfl, by simp⟩
  rw [World.cell?_alloc_at _ _ _ _ rfl]
  simpa using hi
theorem Vs.far (h : Vs w b cs) {p : Addr} (hp : p.block ≠ b) (x : Value) : Vs (w.setCell p x) b cs := by
  have hb : (w.setCell p x).heap[b]? = w.heap[b]? := Below.heap_setCell w p x b (fun e => hp e.symm)
  exact ⟨fun i v hi => (World.cell?_of_block (w := w) (a := ⟨b, i, none⟩) hb).trans (h.cell i v hi), fun i hi => (World.frozen?_of_block (w := w) (a := ⟨b, i, none⟩) hb).trans (h.frz i hi), by simpa [World.setCell] using h.lt⟩
theorem Vs.put (h : Vs w b cs) (i : Nat) (hi : i < cs.length) (x : Value) : Vs (w.setCell ⟨b, i, none⟩ x) b (cs.set i x) := by
  refine ⟨fun j v hj => ?_, fun j hj => ?_, by simpa [World.setCell] using h.lt⟩
  · by_cases hij : i = j
    · subst hij
      rw [List.getElem?_set_self hi] at hj
      have hs : (w.cell? ⟨b, i, none⟩).isSome = true := by rw [h.cell i _ (List.getElem?_eq_getElem hi)]; rfl
      rw [World.cell?_setCell_same' _ _ _ hs]
      exact hj
    · rw [List.getElem?_set_ne hij] at hj
      rw [World.cell?_setCell_other _ _ _ _ (by first | (simp; done) | (simp; omega))]
      exact h.cell j v hj
  · have := h.frz j (by simpa using hj)
    simpa [go_sem] using this
theorem Vs.of2 {u v : Value} (h : V2 w b u v) : Vs w b [u, v] := by
  refine ⟨fun i x hi => ?_, fun i hi => ?_, h.lt⟩
  · match i, hi with
    | 0, hi => obtain rfl : u = x := by simpa using hi
               exact h.c0
    | 1, hi => obtain rfl : v = x := by simpa using hi
               exact h.c1
  · match i, hi with
    | 0, _ => exact h.f0
    | 1, _ => exact h.f1
theorem Vs.to2 {u v : Value} (h : Vs w b [u, v]) : V2 w b u v := ⟨h.cell 0 _ rfl, h.cell 1 _ rfl, h.frz 0 (by simp), h.frz 1 (by simp), h.lt⟩
theorem Vs.get1 {x : Value} (h : Vs w b [x]) : w.cell? ⟨b, 0, none⟩ = some x ∧ w.frozen? ⟨b, 0, none⟩ = false ∧ b < w.heap.size := ⟨h.cell 0 _ rfl, h.frz 0 (by simp), h.lt⟩
theorem Vs.get3 {x y z : Value} (h : Vs w b [x, y, z]) : w.cell? ⟨b, 0, none⟩ = some x ∧ w.cell? ⟨b, 1, none⟩ = some y ∧ w.cell? ⟨b, 2, none⟩ = some z ∧ w.frozen? ⟨b, 0, none⟩ = false ∧ w.frozen? ⟨b, 1, none⟩ = false ∧ w.frozen? ⟨b, 2, none⟩ = false ∧ b < w.heap.size :=
  ⟨h.cell 0 _ rfl, h.cell 1 _ rfl, h.cell 2 _ rfl, h.frz 0 (by simp), h.frz 1 (by simp), h.frz 2 (by simp), h.lt⟩
theorem Vs.get6 {x y z p q r : Value} (h : Vs w b [x, y, z, p, q, r]) : (w.cell? ⟨b, 0, none⟩ = some x ∧ w.cell? ⟨b, 1, none⟩ = some y ∧ w.cell? ⟨b, 2, none⟩ = some z ∧ w.cell? ⟨b, 3, none⟩ = some p ∧ w.cell? ⟨b, 4, none⟩ = some q ∧ w.cell? ⟨b, 5, none⟩ = some r) ∧
    (w.frozen? ⟨b, 0, none⟩ = false ∧ w.frozen? ⟨b, 1, none⟩ = false ∧ w.frozen? ⟨b, 2, none⟩ = false ∧ w.frozen? ⟨b, 3, none⟩ = false ∧ w.frozen? ⟨b, 4, none⟩ = false ∧ w.frozen? ⟨b, 5, none⟩ = false) ∧ b < w.heap.size :=
  ⟨⟨h.cell 0 _ rfl, h.cell 1 _ rfl, h.cell 2 _ rfl, h.cell 3 _ rfl, h.cell 4 _ rfl, h.cell 5 _ rfl⟩, ⟨h.frz 0 (by simp), h.frz 1 (by simp), h.frz 2 (by simp), h.frz 3 (by simp), h.frz 4 (by simp), h.frz 5 (by simp)⟩, h.lt⟩
end

/-- a new variable of the values cs -/
def NewV (B : Nat) (cs : List Value) (v : Value) (w : World) : Prop := ∃ b, v = .pointer (some ⟨b, 0, none⟩) ∧ B ≤ b ∧ Vs w b cs
theorem newV_stable (B : Nat) (cs : List Value) : ∀ v w w', NewV B cs v w → Below w.heap.size w w' → NewV B cs v w' := fun _ _ _ ⟨b, h1, h2, h3⟩ hb => ⟨b, h1, h2, h3.call hb⟩

end Go.Proofs.Ytgambjmjbmdciaa
