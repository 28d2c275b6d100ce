/-
 CnF: for ClientPlays.
-/
import Derived.BigQuiet
import Derived.Laws.Bits64b
import Derived.Test.YtbakkmfjamcbfaaSae
namespace Go.Proofs.Ytbakkmfjamcbfaa
open Go.RowKit Fm
set_option linter.unusedVariables false
set_option maxRecDepth 100000

theorem walk_ClientPlaysJ (id : List Int) (hid : id.length = 16) (v0 v1 v2 va : Value) (b0 b1 b2 : List Int) (rows : List (List Value)) (w : World) (h0 : Sl8 w w.heap.size v0 b0) (h1 : Sl8 w w.heap.size v1 b1) (h2 : Sl8 w w.heap.size v2 b2)
  (hr : SlR w w.heap.size va 27 rows) (hact : ∀ r, r ∈ rows → r.length = 27 ∧ ActOk w r) :
  Calls Try.prog 4 #[.agg (cells8 id).toArray, v0, v1, v2, va] w fun e w' => e = .returned (.bool true) ∧ Below w.heap.size w w' := by
 obtain ⟨Aa, ca, rfl, _, _, h3⟩ := hr
 obtain ⟨⟨A0, c0, rfl, _, _, r0⟩, _⟩ := h0
 obtain ⟨⟨A1, c1, rfl, _, _, r1⟩, _⟩ := h1
 obtain ⟨⟨A2, c2, rfl, _, _, r2⟩, _⟩ := h2
 by_cases h : 100 < b0.length ∨ 100 < b1.length ∨ 100 < b2.length
 ·exact walk_ClientPlays0 id hid A0 A1 A2 Aa b0.length c0 b1.length c1 b2.length c2 rows.length ca w h
 ·have h9 : b0.length ≤ 100 ∧ b1.length ≤ 100 ∧ b2.length ≤ 100 := by omega
  exact walk_ClientPlays id hid A0 A1 A2 Aa b0.length c0 b1.length c1 b2.length c2 rows.length ca b0 b1 b2 rows w h9
   ⟨rfl, by omega, fun hn => r0 hn⟩ ⟨rfl, by omega, fun hn => r1 hn⟩ ⟨rfl, by omega, fun hn => r2 hn⟩ rfl
   (fun hn => by
    obtain ⟨b, o, k1, k2, k3⟩ := h3 hn
    exact ⟨b, o, k1, k2, fun i r hi j u hj => k3 i r hi j u hj⟩)
   (fun i r hi => (hact r (List.mem_of_getElem? hi)).2)

end Go.Proofs.Ytbakkmfjamcbfaa
