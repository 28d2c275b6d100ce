/-
  WALK: tallymanlaw10.CircuitErrors.
-/
/-
  THE LAW ON REGIONS THAT DRAW, its ways met again: whatever the order, the frame behind is the same function of what is made anew.
-/
import Derived.Test.YtiphahbeedeebaaMau
import Derived.Test.YtiphahbeedeebaaMaq
import Derived.Test.YtiphahbeedeebaaOpen10M
import Derived.Test.YtiphahbeedeebaaMah
namespace Go.Proofs.Ytiphahbeedeebaa
open Go.RowKit Fm
set_option linter.unusedVariables false
set_option maxRecDepth 100000

theorem esK_zeros {f : Nat} (n : Nat) : esK (List.replicate n (0 : Fin (Pm f))) = List.replicate n ((0, 0) : E) := by
  unfold esK
  rw [List.map_replicate, eK_zero]

/-- 'append' of one element onto a row that is full -/
theorem run_append_full {w : World} (g n : Nat) (zs : List E) (hz : zs.length = n) (hn : n ≤ 1099511627776) (hg : BlkE w g zs) (b : Nat) (e : E) (hb : RowE w b 0 [e]) (ty : TypeId) :
    ∃ cp w', (Builtin.append_ #[22, 22] ty #[.slice (some ⟨g, 0, none⟩) n n, .slice (some ⟨b, 0, none⟩) 1 1]).run Try.prog w = .ok (.slice (some ⟨w.heap.size, 0, none⟩) (n + 1) cp) w' ∧ Below w.heap.size w w' := by
  obtain ⟨i, hi, hz2, h1, h2⟩ := info_parts info_elem
  have hr := run_append_grow (P := Try.prog) w 22 ty 41 i _ Try.underlying22 hi hz2 ⟨g, 0, none⟩ n n (cellsE zs) (by rw [length_cellsE, hz, h1]) (hg.rowE.cells) ⟨b, 0, none⟩ 1 1 (cellsE [e]) (by rw [h1]; rfl) hb.cells
    (by omega) (by omega) (growslice_fits (by omega) (by rw [h2]; omega))
  exact ⟨_, _, hr, undrew ((Below.refl _ _).alloc (Nat.le_refl _) _)⟩

set_option maxHeartbeats 1000000 in
theorem closure_err (vi : Value) (cb : Nat) (code : Int) (w : World) (hc : w.cell? ⟨cb, 0, none⟩ = some (.int .i64 code)) :
    Calls Try.prog 72 #[vi, .pointer (some ⟨cb, 0, none⟩)] w fun e w' => e = .returned (.tuple #[.agg #[.int .u64 0, .int .u64 0], .int .i64 code]) ∧ Below w.heap.size w w' := by
  go_enter Try.func72, Try.ntmps72
  go_upto_region 1 with fail
  have hcl := lt_of_cell hc
  dsimp only at hcl
  have hc1 := cell_alloc hc (.cells #[.int .u64 0, .int .u64 0] 41)
  have hb00 : Below w.heap.size w w := Below.refl _ _
  have s0 := V2.new w (.int .u64 0) (.int .u64 0) 41
  have hbA : Below w.heap.size w (w.alloc (.cells #[.int .u64 0, .int .u64 0] 41)) := by repeat (first | exact Below.refl _ _ | with_reducible assumption | (refine bl_alloc ?_ (Nat.le_refl _) _))
  replace hb00 := bl_call hb00 (Nat.le_refl _) hbA
  clear hbA
  generalize w.alloc (.cells #[.int .u64 0, .int .u64 0] 41) = w1 at hb00 s0 ⊢
  have hc2 : w1.cell? ⟨cb, 0, none⟩ = some (.int .i64 code) := (hb00.cell (p := ⟨cb, 0, none⟩) hcl).trans hc
  have hcl1 : cb < w1.heap.size := lt_of_cell hc2
  obtain ⟨s00, s01, s02, s03, s04⟩ := V2.mk s0.c0 s0.c1 s0.f0 s0.f1 s0.lt
  go_region
  all_goals (try go_wp2_with fail)
  all_goals refine bodyPost_ret (results_v2_tmp (b := w.heap.size) (u := .int .u64 0) (v := .int .u64 0) ?_ rfl rfl) rfl ?_
  all_goals first | exact V2.drew (V2.set s0 _ _) | exact V2.drew s0 | exact V2.set s0 _ _ | exact s0 | exact ⟨rfl, by repeat (first | exact Below.refl _ _ | with_reducible assumption | (refine bl_alloc ?_ (Nat.le_refl _) _) | (refine bl_set ?_ (by dsimp only; omega) _) | (refine Below.drew ?_) | (refine bl_drewN ?_ _) | (refine bl_call ?_ (Nat.le_refl _) (by assumption)))⟩ | trace_state

theorem Vs.sameB {w w' : World} {b : Nat} {cs : List Value} (h : Vs w b cs) (hb : w'.heap[b]? = w.heap[b]?) : Vs w' b cs :=
  ⟨fun i v hi => (World.cell?_of_block (w := w) (a := ⟨b, i, none⟩) hb).trans (h.cell i v hi), fun i hi => (World.frozen?_of_block (w := w) (a := ⟨b, i, none⟩) hb).trans (h.frz i hi), by
    have h1 := h.lt
    rcases Nat.lt_or_ge b w'.heap.size with h2 | h2
    · exact h2
    · rw [Array.getElem?_eq_none h2, Array.getElem?_eq_getElem h1] at hb
      cases hb⟩
/-- what the closure holds: the code -/
def InvErr (cb : Nat) (code : Int) (k : Nat) (D : Nat → Prop) (w : World) : Prop := D = (fun q => q = cb) ∧ Vs w cb [.int .i64 code]
theorem InvErr.st {cb : Nat} {code : Int} {w : World} (k : Nat) (h : Vs w cb [.int .i64 code]) : St (InvErr cb code k) (fun q => q = cb) w :=
  ⟨⟨rfl, h⟩, fun q hq => by have h2 : q = cb := hq; rw [h2]; exact h.lt, fun w w' ⟨h1, h2⟩ hb => ⟨h1, h2.sameB (hb cb rfl)⟩⟩

theorem asked_err {f : Nat} (y : CK) (v j : KL f) (part : Fin (Pm f)) (cb : Nat) (code : Int) :
    Asked y v j part 72 #[.pointer (some ⟨cb, 0, none⟩)] (InvErr cb code) (fun _ => 0) code := by
  refine ⟨fun args w => by kernel_rfl, fun k D w va hk hst hv => ?_⟩
  obtain ⟨rfl, hc⟩ := hst.here
  refine (closure_err va cb code w (hc.cell 0 _ rfl)).mono ?_
  rintro e w' ⟨rfl, hb⟩
  refine ⟨by rw [vK_zero], _, InvErr.st (k + 1) (hc.call hb), fun q hq => .inl hq, exc_of hb⟩

end Go.Proofs.Ytiphahbeedeebaa

namespace Go.Proofs.Ytiphahbeedeebaa
open Go Go.RowKit

section
variable {P : Program} {ops : Array Oper} {Q : Exit → Act → World → Prop} {md : Region.Mode} {n m : Nat} {L L' : Act → World → Prop}

theorem wpG_monoL (hL : ∀ a w, L a w → L' a w) : ∀ (f : Nat) (listed : Array Bool) (a : Act) (S : World → Prop), wpG P md ops Q n m L f listed a S → wpG P md ops Q n m L' f listed a S
  | 0, listed, a, S, h => ⟨h.1, fun w hS => hL _ _ (h.2 w hS)⟩
  | f + 1, listed, a, S, h => ⟨h.1, fun i hi => ⟨(h.2 i hi).1, fun w hS => wpOp_mono (fun a' w' h' => by
      obtain ⟨S', h1, h2, h3, h4⟩ := h'
      exact ⟨S', h1, h2, h3, wpG_monoL hL f _ a' S' h4⟩) ((h.2 i hi).2 w hS)⟩⟩

theorem WpG.monoL {f : Nat} {listed : Array Bool} {a : Act} {S : World → Prop} (hL : ∀ a w, L a w → L' a w) (h : WpG P md ops Q n m L f listed a S) : WpG P md ops Q n m L' f listed a S :=
  fun hC hp inv => wpG_monoL hL f listed a S (h hC hp inv)
end

section
variable {P : Program} {Q : Exit → Act → World → Prop}

/-- four numbers are made anew -/
theorem region_G4 {id n m f : Nat} {l : List Oper} {a : Act} {w : World} (R : Nat → Nat → Nat → Nat → World → Prop) {E : Nat → Nat → Nat → Nat → Act} (hm : P.follows .mixedOrders = true) (hB : partsB .any l.toArray n m (Array.replicate l.length false) = true) (hf : f + (m - n) = l.length)
    (h : WpG P .any l.toArray Q n m (fun a w => ∃ x y z u, a = E x y z u ∧ R x y z u w) f (Array.replicate l.length false) a (Below w.heap.size w))
    (hc : ∀ x y z u w', R x y z u w' → wpList P l.toArray Q ((l.drop n).take (m - n)) (E x y z u) w') : (Code.region id l.toArray true).wp P Q a w :=
  region_G hm hB hf (h.monoL fun _ w ⟨x, y, z, u, e, hr⟩ => e ▸ hc x y z u w hr)

/-- two numbers are made anew -/
theorem region_G2 {id n m f : Nat} {l : List Oper} {a : Act} {w : World} (R : Nat → Nat → World → Prop) {E : Nat → Nat → Act} (hm : P.follows .mixedOrders = true) (hB : partsB .any l.toArray n m (Array.replicate l.length false) = true) (hf : f + (m - n) = l.length)
    (h : WpG P .any l.toArray Q n m (fun a w => ∃ x y, a = E x y ∧ R x y w) f (Array.replicate l.length false) a (Below w.heap.size w))
    (hc : ∀ x y w', R x y w' → wpList P l.toArray Q ((l.drop n).take (m - n)) (E x y) w') : (Code.region id l.toArray true).wp P Q a w :=
  region_G hm hB hf (h.monoL fun _ w ⟨x, y, e, hr⟩ => e ▸ hc x y w hr)
end

end Go.Proofs.Ytiphahbeedeebaa
