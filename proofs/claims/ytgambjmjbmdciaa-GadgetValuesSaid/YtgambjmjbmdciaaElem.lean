/-
  A variable that holds an element: how it is loaded, and how it is a function's result.
-/
import Derived.Test.YtgambjmjbmdciaaMem
import Derived.Test.YtgambjmjbmdciaaProg
namespace Go.Proofs.Ytgambjmjbmdciaa
open Go.RowKit

theorem load_elem {w : World} {b : Nat} {u v : Value} (h : V2 w b u v) : (loadVar 41 ⟨b, 0, none⟩).run Try.prog w = .ok (.agg #[u, v]) w := by
  simp [loadVar, go_sem, h.c0, h.c1]

theorem results_v2 {fn : Func} {p : Tmp} {tmps : Array Value} {w : World} {b : Nat} {u v : Value} (hv : V2 w b u v) (h : fn.results = #[.cell p 41]) (hp : tmps.getD p undef = .pointer (some ⟨b, 0, none⟩)) :
    (results fn tmps).run Try.prog w = .ok (.agg #[u, v]) w := by
  have hl := load_elem hv
  rw [Array.getD_eq_getD_getElem?] at hp
  simp only [results, h]
  simp [asAddr, hp, hl]

theorem results_v2_tmp {fn : Func} {p e : Tmp} {tmps : Array Value} {w : World} {b : Nat} {u v : Value} (hv : V2 w b u v) (h : fn.results = #[.cell p 41, .tmp e]) (hp : tmps.getD p undef = .pointer (some ⟨b, 0, none⟩)) :
    (results fn tmps).run Try.prog w = .ok (.tuple #[.agg #[u, v], tmps.getD e undef]) w := by
  have hl := load_elem hv
  rw [results_cell_tmp h, hp]
  simp only [asAddr, Sem.run_pure, Result.andThen, hl]

end Go.Proofs.Ytgambjmjbmdciaa
