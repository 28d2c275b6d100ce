/-
 Step: what the statements of this layer share.
-/
import Derived.Deep.WholeRow
import Derived.Test.YtfbfbijkkbflkaaGreatDoorMah
namespace Go.Proofs.YtfbfbijkkbflkaaGreatDoor
open Go Go.RowKit
set_option linter.unusedVariables false

theorem wpList_val {P : Program} {ops : Array Oper} {Q : Exit → Act → World → Prop} {a : Act} {w w' : World} {rest : List Oper} {o : Oper} {v : Value} (hg : o.guard = none)
  (h : (execOp a.eval o).run P w = .ok (.value v) w') (hK : wpList P ops Q rest (a.put o.dst v) w') : wpList P ops Q (o :: rest) a w := by
 refine wpList_plain hg fun K hk => ?_
 unfold Oper.wp
 rw [h]
 exact hk _ _ hK
theorem wpList_skip {P : Program} {ops : Array Oper} {Q : Exit → Act → World → Prop} {a : Act} {w w' : World} {rest : List Oper} {o : Oper} (hg : o.guard = none)
  (h : (execOp a.eval o).run P w = .ok .skip w') (hK : wpList P ops Q rest (a.put o.dst undef) w') : wpList P ops Q (o :: rest) a w := by
 refine wpList_plain hg fun K hk => ?_
 unfold Oper.wp
 rw [h]
 exact hk _ _ hK
theorem exec_store_new {P : Program} (ρ : Operand → Value) (o : Oper) (t : TypeId) (x y : Operand) (ho : o.op = .store t x y) (w : World) (c c' : Array Value) (hx : ρ x = .pointer (some ⟨w.heap.size, 0, none⟩)) (hy : ρ y = .agg c')
  (hi : (P.info? t).map (·.size) = some c'.size) (hs : c.size = c'.size) (h1 : c'.all (·.oneCell') = true) : (execOp ρ o).run P (w.alloc (.cells c t)) = .ok .skip (w.alloc (.cells c' t)) := by
 have h := run_storeAt_new (P := P) w t c c' hi hs h1
 unfold execOp
 simp only [ho, hx, hy, Sem.run_bind, h, Result.andThen_ok, Sem.run_pure]

end Go.Proofs.YtfbfbijkkbflkaaGreatDoor
