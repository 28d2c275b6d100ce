/-
  THE PROOF OF GadgetValues: for every input the law returns true, and the arguments read as they did. The walk, joined with its row. Conditions: none.
-/
import Derived.Test.YtgambjmjbmdciaaValues
import Derived.Test.YtgambjmjbmdciaaOpen2
import Derived.WalkKit
import Derived.ProofKit
import Derived.OpenShut
namespace Go.Proofs.Ytgambjmjbmdciaa
open Go.ChangeShapes Go.WideShapes Go.ChangeAt Go.RowKit
set_option linter.unusedVariables false

theorem walked_GadgetValues (n : Int) (vl : Value) (more kind many : Int) (vs : Value) (xs l : List E) (w : World) (h0 : (Lit.int .u8 n).wf = true) (hk : (Lit.int .u8 kind).wf = true) (hm : (Lit.int .u8 many).wf = true) (hs : SlE w w.heap.size vs xs) (hl : SlE w w.heap.size vl l) (hp : (Lit.int .u8 more).wf = true) :
    Calls Try.prog 6 #[.int .u8 n, .agg #[.int .u8 kind, vs, .int .u8 many], vl, .int .u8 more] w fun e w' => e = .returned (.bool true) ∧ Below w.heap.size w w' :=
  walk_GadgetValues n kind many more vs vl xs l w (wf_u8 h0).1 (wf_u8 h0).2 (wf_u8 hk).1 (wf_u8 hk).2 (wf_u8 hm).1 (wf_u8 hm).2 (wf_u8 hp).1 (wf_u8 hp).2 hs hl

theorem gadgetValues_post : Try.f6.params.toList.all (fun t => Try.prog.readableRec t && decide (t < Try.prog.types.size)) = true := by kernel_rfl

set_option maxRecDepth 100000 in
theorem gadgetValues_lifted (os : Os) (started : os.Started) (H : Type) (enc : TypeId × Value → H) :
    ReturnsInHanded {} Try.checked os 6 .any (Rows.gadgetValuesSpec.pre6 enc Try.prog Try.f6 Rows.gadgetValuesRow.domain false) (Rows.gadgetValuesSpec.post enc Try.prog Try.f6 false true false false) := by
  refine returnsInHanded_of_change (C := Try.checked) own_knob started (by kernel_rfl) Try.func6
    (ChangeSpec.witness6 (enc := enc) (C := Try.checked) false ⟨#[], #[.int .u8 0, .agg #[.int .u8 0, .slice none 0 0, .int .u8 0], .slice none 0 0, .int .u8 0], []⟩ 8 (by kernel_rfl) (by kernel_rfl) (by kernel_rfl) (by kernel_rfl)) ?_
  intro W base args ds gs before hval0 hW hcnd _
  have hval : ∀ (j : Nat) t v, Try.f6.params[j]? = some t → args[j]? = some v → Value.okWide Try.prog W .any base t v := hval0
  have hW' := hW
  obtain ⟨p, q, hA0, hV, hpq, hfz, hnd⟩ := hW
  have hA : DataW.TrodAll enc Try.prog W 0 (fun _ => true) true Try.f6.params.toList args.toList ds p := hA0
  rw [Try.params6] at hA hval
  obtain ⟨v0, vs0, d0, ds0, p0, q0, hargs, hds, hpp, h0, r0⟩ := trodAll_cons hA
  obtain ⟨v1, vs1, d1, ds1, p1, q1, rfl, rfl, rfl, h1, r1⟩ := trodAll_cons r0
  obtain ⟨v2, vs2, d2, ds2, p2, q2, rfl, rfl, rfl, h2, r2⟩ := trodAll_cons r1
  obtain ⟨v3, vs3, d3, ds3, p3, q3, rfl, rfl, rfl, h3, r3⟩ := trodAll_cons r2
  obtain ⟨rfl, rfl, rfl⟩ := trodAll_nil r3
  obtain rfl : args = #[v0, v1, v2, v3] := by cases args; simp_all
  obtain ⟨a0, rfl, _, _, w0⟩ := open_int Try.underlying5 (hval 0 5 v0 rfl rfl) h0
  obtain ⟨a1, b1, vs1, xs1, rfl, wa1, wb1, s1⟩ := open_small9 (hval 1 44 v1 rfl rfl) h1
  obtain ⟨x2, s2⟩ := open_elems (hval 2 22 v2 rfl rfl) h2
  obtain ⟨a3, rfl, _, _, w3⟩ := open_int Try.underlying5 (hval 3 5 v3 rfl rfl) h3
  refine (walked_GadgetValues a0 _ a3 a1 b1 vs1 xs1 x2 W w0 wa1 wb1 s1 s2 w3).mono fun e W' ⟨he, hb⟩ => ?_
  subst he
  clear hval hcnd
  exact ⟨_, rfl, law_post laid_out gadgetValues_post (by kernel_rfl) Try.underlying4 rfl (fun ds h => match ds, h with | [_, _, _, _], _ => rfl) hW' hb⟩

set_option maxRecDepth 100000 in
set_option maxHeartbeats 0 in
theorem gadgetValues_facts : joinedFacts Try.checked.prog 6 Try.f6 Rows.gadgetValuesSpec Rows.gadgetValuesRow = true := by
  unfold joinedFacts
  refine and_mk (and_mk (and_mk (and_mk (and_mk (and_mk (and_mk (and_mk (and_mk (and_mk (and_mk (and_mk (and_mk (and_mk (and_mk (and_mk (and_mk (and_mk (and_mk (and_mk (and_mk (and_mk (and_mk (and_mk (and_mk (and_mk (and_mk (and_mk (and_mk (and_mk (and_mk ?_ ?_) ?_) ?_) ?_) ?_) ?_) ?_) ?_) ?_) ?_) ?_) ?_) ?_) ?_) ?_) ?_) ?_) ?_) ?_) ?_) ?_) ?_) ?_) ?_) ?_) ?_) ?_) ?_) ?_) ?_) ?_
  all_goals first | with_reducible exact laid_out' | with_reducible exact maps_rowed | with_reducible exact stops_heard | with_reducible exact may_enter | as_aux_lemma => kernel_rfl

/-- ████ THE STATEMENT ████ -/
theorem gadgetValues_proved : Rows.GadgetValuesSaid :=
  OpenClaim.holds_of_wide 6 Try.f6 rfl rfl rfl rfl rfl rfl rfl ⟨rfl, rfl, rfl, rfl, rfl⟩ rfl rfl rfl rfl rfl (by kernel_rfl) Try.func6 gadgetValues_facts
    (of_decide_eq_true (by kernel_rfl)) (by unfold Func.isWrapper; first | (rw [if_pos (by decide +kernel)]; kernel_rfl) | (rw [if_neg (by decide +kernel)]; exact ⟨rfl, rfl⟩))
    (fun os started H enc _ => gadgetValues_lifted os started H enc)

end Go.Proofs.Ytgambjmjbmdciaa
