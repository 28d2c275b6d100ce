/-
 Open13: what the statements of this layer share.
-/
import Derived.BigQuiet
import Derived.Laws.Bits64b
import Derived.Test.YtbakkmfjamcbfaaKaw
namespace Go.Proofs.Ytbakkmfjamcbfaa
open Go.RowKit Go.Joins Go.ChangeShapes Go.WideShapes Go.Deep
set_option linter.unusedVariables false
set_option maxRecDepth 100000

section
variable {H : Type} {enc : TypeId × Value → H} {W : World} {base : Nat} {sp : Nat → Bool} {hd : Bool}

theorem open_small13 {r : Reach} {b0 : Nat} {v : Value} {d : DataW H} {ps : List MemPlace} (hval : Value.okWide Try.prog W r b0 66 v) (h : DataW.Trod enc Try.prog W base sp hd 66 v d ps) :
  ∃ k f b l m c p t : Int, v = .agg #[.int .u8 k, .int .u8 f, .int .u8 b, .int .u8 l, .int .u8 m, .int .u8 c, .int .u8 p, .int .u8 t] ∧ (0 ≤ k ∧ k ≤ 255) ∧ (0 ≤ f ∧ f ≤ 255) ∧ (0 ≤ b ∧ b ≤ 255) ∧ (0 ≤ l ∧ l ≤ 255) ∧ (0 ≤ m ∧ m ≤ 255) ∧ (0 ≤ c ∧ c ≤ 255) ∧ (0 ≤ p ∧ p ≤ 255) ∧ (0 ≤ t ∧ t ≤ 255) := by
 obtain ⟨cs, rfl, hsz⟩ := okWide_struct Try.underlying66 hval
 obtain ⟨l⟩ := cs
 have hl : l.length = 8 := hsz.trans (by kernel_rfl)
 obtain ⟨fuel, hf⟩ := h
 obtain ⟨ys, n, _, _, _, hyl, hg⟩ := DataW.trod_struct Try.underlying66 hf
 match l, hl with
 | [a0, a1, a2, a3, a4, a5, a6, a7], _ =>
  have hy : ∀ j, j < 3 → ys[j]? = some (ys.getD j (.lit (.bool false), [])) := by
   intro j hj
   have : j < ys.length := by rw [hyl]; exact hj
   rw [List.getD_eq_getElem?_getD, List.getElem?_eq_getElem this]
   rfl
  have g0 := (hg 0 _ rfl).trans (hy 0 (by decide))
  have g1 := (hg 1 _ rfl).trans (hy 1 (by decide))
  have g2 := (hg 2 _ rfl).trans (hy 2 (by decide))
  have c0 : DataW.trod enc Try.prog W base sp hd n 64 [a0, a1, a2, a3, a4, a5] = some (ys.getD 0 (.lit (.bool false), [])) := g0
  have c1 : DataW.trod enc Try.prog W base sp hd n 5 [a6] = some (ys.getD 1 (.lit (.bool false), [])) := g1
  have c2 : DataW.trod enc Try.prog W base sp hd n 5 [a7] = some (ys.getD 2 (.lit (.bool false), [])) := g2
  obtain ⟨zs, m, _, _, _, hzl, hz⟩ := DataW.trod_struct Try.underlying64 c0
  have hy6 : ∀ j, j < 6 → zs[j]? = some (zs.getD j (.lit (.bool false), [])) := by
   intro j hj
   have : j < zs.length := by rw [hzl]; exact hj
   rw [List.getD_eq_getElem?_getD, List.getElem?_eq_getElem this]
   rfl
  have d0 := (hz 0 _ rfl).trans (hy6 0 (by decide))
  have d1 := (hz 1 _ rfl).trans (hy6 1 (by decide))
  have d2 := (hz 2 _ rfl).trans (hy6 2 (by decide))
  have d3 := (hz 3 _ rfl).trans (hy6 3 (by decide))
  have d4 := (hz 4 _ rfl).trans (hy6 4 (by decide))
  have d5 := (hz 5 _ rfl).trans (hy6 5 (by decide))
  obtain ⟨k, ek, _, wk⟩ := DataW.trod_int Try.underlying5 d0
  obtain ⟨f, ef, _, wf⟩ := DataW.trod_int Try.underlying5 d1
  obtain ⟨b, eb, _, wb⟩ := DataW.trod_int Try.underlying5 d2
  obtain ⟨l, el, _, wl⟩ := DataW.trod_int Try.underlying5 d3
  obtain ⟨m', em, _, wm⟩ := DataW.trod_int Try.underlying5 d4
  obtain ⟨c, ec, _, wc⟩ := DataW.trod_int Try.underlying5 d5
  obtain ⟨p, ep, _, wp⟩ := DataW.trod_int Try.underlying5 c1
  obtain ⟨t, et, _, wt⟩ := DataW.trod_int Try.underlying5 c2
  have e0 : a0 = .int .u8 k := (List.cons.inj ek).1
  have e1 : a1 = .int .u8 f := (List.cons.inj ef).1
  have e2 : a2 = .int .u8 b := (List.cons.inj eb).1
  have e3 : a3 = .int .u8 l := (List.cons.inj el).1
  have e4 : a4 = .int .u8 m' := (List.cons.inj em).1
  have e5 : a5 = .int .u8 c := (List.cons.inj ec).1
  have e6 : a6 = .int .u8 p := (List.cons.inj ep).1
  have e7 : a7 = .int .u8 t := (List.cons.inj et).1
  subst e0 e1 e2 e3 e4 e5 e6 e7
  exact ⟨k, f, b, l, m', c, p, t, rfl, wf8 wk, wf8 wf, wf8 wb, wf8 wl, wf8 wm, wf8 wc, wf8 wp, wf8 wt⟩
end

end Go.Proofs.Ytbakkmfjamcbfaa
