/-
  WORDS FOR MEMORY, of any program: what a call leaves as it was ('Below' behind calls, new blocks, stores); a variable of two cells.
-/
import Derived.WalkKit
import Derived.Lib.Hide
import Derived.Outline
import Derived.Deep.DeepFit
import Derived.WalkSpells
import Derived.Deep.RegionWith
import Derived.BigQuiet
import Derived.Deep.QuietTactic
import Derived.Deep.LoopGhost
import Derived.Deep.Draws
namespace Go.Proofs.Ytgambjmjbmdciaa
open Go.RowKit

theorem ret_int {k : IntKind} {a b : Int} (h : a = b) : Ending.returned (.int k a) = .returned (.int k b) := by rw [h]
theorem ret_bool {a b : Bool} (h : a = b) : Ending.returned (.bool a) = .returned (.bool b) := by rw [h]
theorem ret_pair {k k' : IntKind} {a b c d : Int} (h : a = c) (h' : b = d) : Ending.returned (.agg #[.int k a, .int k' b]) = .returned (.agg #[.int k c, .int k' d]) := by rw [h, h']

/-! ### 'Below' -/
section
variable {B : Nat} {a w w' : World}
theorem bl_alloc (h : Below B a w) (hB : B ≤ a.heap.size) (o : Obj) : Below B a (w.alloc o) := h.alloc (Nat.le_trans hB h.size) o
theorem bl_set (h : Below B a w) {p : Addr} (hp : B ≤ p.block) (u : Value) : Below B a (w.setCell p u) := h.setCell hp u
theorem bl_drewN (h : Below B a w) (n : Nat) : Below B a (w.drewN n) := ⟨h.os, h.tape, h.output, h.size, h.block⟩
theorem bl_call (h : Below B a w) (hB : B ≤ a.heap.size) (h' : Below w.heap.size w w') : Below B a w' := h.trans (h'.mono (Nat.le_trans hB h.size))
theorem undrew (h : Below w.drew.heap.size w.drew w') : Below w.heap.size w w' := ⟨h.os, h.tape, h.output, h.size, h.block⟩
theorem undrewN {n : Nat} (h : Below (w.drewN n).heap.size (w.drewN n) w') : Below w.heap.size w w' := ⟨h.os, h.tape, h.output, h.size, h.block⟩

/-! ### a cell -/
theorem lt_of_cell {p : Addr} {v : Value} (h : w.cell? p = some v) : p.block < w.heap.size := World.block_lt_of_cell? w p h
theorem cell_call {p : Addr} {v : Value} (h : w.cell? p = some v) (hb : Below w.heap.size w w') : w'.cell? p = some v := (hb.cell (lt_of_cell h)).trans h
theorem cell_alloc {p : Addr} {v : Value} (h : w.cell? p = some v) (o : Obj) : (w.alloc o).cell? p = some v := (World.cell?_alloc_lt w o p (lt_of_cell h)).trans h
theorem frozen_call {p : Addr} (hp : p.block < w.heap.size) (h : w.frozen? p = false) (hb : Below w.heap.size w w') : w'.frozen? p = false := (hb.frozen hp).trans h
theorem frozen_alloc {p : Addr} (hp : p.block < w.heap.size) (h : w.frozen? p = false) (o : Obj) : (w.alloc o).frozen? p = false := by
  have hb : Below w.heap.size w (w.alloc o) := (Below.refl _ _).alloc (Nat.le_refl _) o
  exact frozen_call hp h hb

/-! ### a variable of two cells: block b holds u and v -/
structure V2 (w : World) (b : Nat) (u v : Value) : Prop where
  c0 : w.cell? ⟨b, 0, none⟩ = some u
  c1 : w.cell? ⟨b, 1, none⟩ = some v
  f0 : w.frozen? ⟨b, 0, none⟩ = false
  f1 : w.frozen? ⟨b, 1, none⟩ = false
  lt : b < w.heap.size

variable {b : Nat} {u v : Value}
theorem V2.call (h : V2 w b u v) (hb : Below w.heap.size w w') : V2 w' b u v :=
  ⟨cell_call h.c0 hb, cell_call h.c1 hb, frozen_call h.lt h.f0 hb, frozen_call h.lt h.f1 hb, Nat.lt_of_lt_of_le h.lt hb.size⟩
theorem V2.alloc (h : V2 w b u v) (o : Obj) : V2 (w.alloc o) b u v := h.call ((Below.refl _ _).alloc (Nat.le_refl _) o)
theorem V2.drew (h : V2 w b u v) : V2 w.drew b u v := ⟨h.c0, h.c1, h.f0, h.f1, h.lt⟩
theorem V2.drewN (h : V2 w b u v) (n : Nat) : V2 (w.drewN n) b u v := ⟨h.c0, h.c1, h.f0, h.f1, h.lt⟩
theorem V2.new (w : World) (u v : Value) (t : TypeId) : V2 (w.alloc (.cells #[u, v] t)) w.heap.size u v :=
  ⟨by rw [World.cell?_alloc_at _ _ _ _ rfl]; rfl, by rw [World.cell?_alloc_at _ _ _ _ rfl]; rfl, World.frozen?_alloc_at _ _ _ _ rfl, World.frozen?_alloc_at _ _ _ _ rfl, by simp⟩
theorem V2.set (h : V2 w b u v) (u' v' : Value) : V2 ((w.setCell ⟨b, 0, none⟩ u').setCell ⟨b, 1, none⟩ v') b u' v' := by
  have hs0 : (w.cell? ⟨b, 0, none⟩).isSome = true := by rw [h.c0]; rfl
  have hs1 : ((w.setCell ⟨b, 0, none⟩ u').cell? ⟨b, 1, none⟩) = some v := (World.cell?_setCell_other w _ _ _ (by simp)).trans h.c1
  refine ⟨?_, ?_, ?_, ?_, ?_⟩
  · rw [World.cell?_setCell_other _ _ _ _ (by simp), World.cell?_setCell_same' _ _ _ hs0]
  · rw [World.cell?_setCell_same' _ _ _ (by rw [hs1]; rfl)]
  · simpa [go_sem] using h.f0
  · simpa [go_sem] using h.f1
  · simpa [World.setCell] using h.lt
theorem V2.setOther (h : V2 w b u v) {p : Addr} (hp : p.block ≠ b) (x : Value) : V2 (w.setCell p x) b u v := by
  have hb : (w.setCell p x).heap[b]? = w.heap[b]? := Below.heap_setCell w p x b (fun e => hp e.symm)
  exact ⟨(World.cell?_of_block (w := w) (a := ⟨b, 0, none⟩) hb).trans h.c0, (World.cell?_of_block (w := w) (a := ⟨b, 1, none⟩) hb).trans h.c1, (World.frozen?_of_block (w := w) (a := ⟨b, 0, none⟩) hb).trans h.f0,
    (World.frozen?_of_block (w := w) (a := ⟨b, 1, none⟩) hb).trans h.f1, by simpa [World.setCell] using h.lt⟩
end

end Go.Proofs.Ytgambjmjbmdciaa
