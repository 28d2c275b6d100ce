/-
 THE PROOF OF ClientPlays: for every input the law returns true, and the arguments read as they did. The walk, joined with its row. Conditions: none.
-/
import Derived.BigQuiet
import Derived.Laws.Bits64b
import Derived.WalkKit
import Derived.ProofKit
import Derived.OpenShut
import Derived.Test.YtbakkmfjamcbfaaSaf
namespace Go.Proofs.Ytbakkmfjamcbfaa
open Go.ChangeShapes Go.WideShapes Go.ChangeAt Go.RowKit
set_option linter.unusedVariables false

theorem clientPlays_post : Try.f4.params.toList.all (fun t => Try.prog.readableRec t && decide (t < Try.prog.types.size)) = true := by kernel_rfl

set_option maxRecDepth 100000 in
theorem clientPlays_lifted (os : Os) (started : os.Started) (H : Type) (enc : TypeId × Value → H) :
  ReturnsInHanded {} Try.checked os 4 .any (Rows.clientPlaysSpec.pre6 enc Try.prog Try.f4 Rows.clientPlaysRow.domain false) (Rows.clientPlaysSpec.post enc Try.prog Try.f4 false true false false) := by
 refine returnsInHanded_of_change (C := Try.checked) own_knob started (by kernel_rfl) Try.func4
  (ChangeSpec.witness6 (enc := enc) (C := Try.checked) false ⟨#[], #[.agg #[.int .u8 0, .int .u8 0, .int .u8 0, .int .u8 0, .int .u8 0, .int .u8 0, .int .u8 0, .int .u8 0, .int .u8 0, .int .u8 0, .int .u8 0, .int .u8 0, .int .u8 0, .int .u8 0, .int .u8 0, .int .u8 0], .slice none 0 0, .slice none 0 0, .slice none 0 0, .slice none 0 0], []⟩ 8 (by kernel_rfl) (by kernel_rfl) (by kernel_rfl) (by kernel_rfl)) ?_
 intro W base args ds gs before hval0 hW hcnd _
 have hval : ∀ (j : Nat) t v, Try.f4.params[j]? = some t → args[j]? = some v → Value.okWide Try.prog W .any base t v := hval0
 have hW' := hW
 obtain ⟨p, q, hA0, hV, hpq, hfz, hnd⟩ := hW
 have hA : DataW.TrodAll enc Try.prog W 0 (fun _ => true) true Try.f4.params.toList args.toList ds p := hA0
 rw [Try.params4] at hA hval
 obtain ⟨v0, vs0, d0, ds0, p0, q0, hargs, hds, hpp, h0, r0⟩ := trodAll_cons hA
 obtain ⟨v1, vs1, d1, ds1, p1, q1, rfl, rfl, rfl, h1, r1⟩ := trodAll_cons r0
 obtain ⟨v2, vs2, d2, ds2, p2, q2, rfl, rfl, rfl, h2, r2⟩ := trodAll_cons r1
 obtain ⟨v3, vs3, d3, ds3, p3, q3, rfl, rfl, rfl, h3, r3⟩ := trodAll_cons r2
 obtain ⟨v4, vs4, d4, ds4, p4, q4, rfl, rfl, rfl, h4, r4⟩ := trodAll_cons r3
 obtain ⟨rfl, rfl, rfl⟩ := trodAll_nil r4
 obtain rfl : args = #[v0, v1, v2, v3, v4] := by cases args; simp_all
 obtain ⟨id0, rfl, sa0, sb0⟩ := open_id (hval 0 34 v0 rfl rfl) h0
 obtain ⟨x1, s1⟩ := open_u8s (hval 1 28 v1 rfl rfl) h1
 obtain ⟨x2, s2⟩ := open_u8s (hval 2 28 v2 rfl rfl) h2
 obtain ⟨x3, s3⟩ := open_u8s (hval 3 28 v3 rfl rfl) h3
 obtain ⟨rw4, sa4, sb4⟩ := open_acts (hval 4 47 v4 rfl rfl) h4
 refine (walk_ClientPlaysJ id0 sa0 _ _ _ _ _ _ _ rw4 W s1 s2 s3 sa4 sb4).mono fun e W' ⟨he, hb⟩ => ?_
 subst he
 clear hval hcnd
 exact ⟨_, rfl, law_post laid_out clientPlays_post (by kernel_rfl) Try.underlying4 rfl (fun ds h => match ds, h with | [_, _, _, _, _], _ => rfl) hW' hb⟩

set_option maxRecDepth 100000 in
set_option maxHeartbeats 0 in
theorem clientPlays_facts : joinedFacts Try.checked.prog 4 Try.f4 Rows.clientPlaysSpec Rows.clientPlaysRow = true := by
 unfold joinedFacts
 refine and_mk (and_mk (and_mk (and_mk (and_mk (and_mk (and_mk (and_mk (and_mk (and_mk (and_mk (and_mk (and_mk (and_mk (and_mk (and_mk (and_mk (and_mk (and_mk (and_mk (and_mk (and_mk (and_mk (and_mk (and_mk (and_mk (and_mk (and_mk (and_mk (and_mk (and_mk ?_ ?_) ?_) ?_) ?_) ?_) ?_) ?_) ?_) ?_) ?_) ?_) ?_) ?_) ?_) ?_) ?_) ?_) ?_) ?_) ?_) ?_) ?_) ?_) ?_) ?_) ?_) ?_) ?_) ?_) ?_) ?_
 all_goals first | with_reducible exact laid_out' | with_reducible exact maps_rowed | with_reducible exact stops_heard | with_reducible exact may_enter | as_aux_lemma => kernel_rfl

theorem clientPlays_proved : Rows.ClientPlaysSaid :=
 OpenClaim.holds_of_wide 4 Try.f4 rfl rfl rfl rfl rfl rfl rfl ⟨rfl, rfl, rfl, rfl, rfl⟩ rfl rfl rfl rfl rfl (by kernel_rfl) Try.func4 clientPlays_facts
  (of_decide_eq_true (by kernel_rfl)) (by unfold Func.isWrapper; first | (rw [if_pos (by decide +kernel)]; kernel_rfl) | (rw [if_neg (by decide +kernel)]; exact ⟨rfl, rfl⟩))
  (fun os started H enc _ => clientPlays_lifted os started H enc)

end Go.Proofs.Ytbakkmfjamcbfaa
