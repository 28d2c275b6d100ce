/-
 THE PROOF OF TotalErrors: for every input the law returns true, and the arguments read as they did. The walk, joined with its row. Conditions: none.
-/
import Derived.BigQuiet
import Derived.Laws.Bits64b
import Derived.WalkKit
import Derived.ProofKit
import Derived.OpenShut
import Derived.Test.YtbakkmfjamcbfaaKay
import Derived.Test.YtbakkmfjamcbfaaOad
namespace Go.Proofs.Ytbakkmfjamcbfaa
open Go.ChangeShapes Go.WideShapes Go.ChangeAt Go.RowKit
set_option linter.unusedVariables false

theorem totalErrors_post : Try.f9.params.toList.all (fun t => Try.prog.readableRec t && decide (t < Try.prog.types.size)) = true := by kernel_rfl

set_option maxRecDepth 100000 in
theorem totalErrors_lifted (os : Os) (started : os.Started) (H : Type) (enc : TypeId × Value → H) :
  ReturnsInHanded {} Try.checked os 9 .any (Rows.totalErrorsSpec.pre6 enc Try.prog Try.f9 Rows.totalErrorsRow.domain false) (Rows.totalErrorsSpec.post enc Try.prog Try.f9 false true false false) := by
 refine returnsInHanded_of_change (C := Try.checked) own_knob started (by kernel_rfl) Try.func9
  (ChangeSpec.witness6 (enc := enc) (C := Try.checked) false ⟨#[], #[.agg #[.int .u8 0, .int .u8 0, .int .i64 0, .int .i64 0, .int .i64 0, .int .i64 0, .int .i64 0, .string ⟨#[]⟩], .agg #[.int .u8 0, .int .u8 0, .int .u8 0, .int .u8 0, .int .u8 0, .int .u8 0, .int .u8 0, .int .u8 0], .agg #[.slice none 0 0, .int .i64 0, .int .u8 0, .int .u8 0, .int .u8 0, .int .u8 0, .int .u8 0, .int .u8 0, .int .u8 0, .int .u8 0, .int .u8 0, .int .u8 0, .int .u8 0, .int .u8 0, .int .u8 0, .int .u8 0, .int .u8 0, .int .u8 0], .agg #[.slice none 0 0, .int .i64 0, .int .u8 0, .int .u8 0, .int .u8 0, .int .u8 0, .int .u8 0, .int .u8 0, .int .u8 0, .int .u8 0, .int .u8 0, .int .u8 0, .int .u8 0, .int .u8 0, .int .u8 0, .int .u8 0, .int .u8 0, .int .u8 0], .agg #[.int .u8 0, .int .u8 0, .int .u8 0, .int .u8 0, .int .u8 0, .int .u8 0, .int .u8 0, .int .u8 0, .int .u8 0, .int .u8 0, .int .u8 0, .int .u8 0, .int .u8 0, .int .u8 0, .int .u8 0, .int .u8 0]], []⟩ 8 (by kernel_rfl) (by kernel_rfl) (by kernel_rfl) (by kernel_rfl)) ?_
 intro W base args ds gs before hval0 hW hcnd _
 have hval : ∀ (j : Nat) t v, Try.f9.params[j]? = some t → args[j]? = some v → Value.okWide Try.prog W .any base t v := hval0
 have hW' := hW
 obtain ⟨p, q, hA0, hV, hpq, hfz, hnd⟩ := hW
 have hA : DataW.TrodAll enc Try.prog W 0 (fun _ => true) true Try.f9.params.toList args.toList ds p := hA0
 rw [Try.params9] at hA hval
 obtain ⟨v0, vs0, d0, ds0, p0, q0, hargs, hds, hpp, h0, r0⟩ := trodAll_cons hA
 obtain ⟨v1, vs1, d1, ds1, p1, q1, rfl, rfl, rfl, h1, r1⟩ := trodAll_cons r0
 obtain ⟨v2, vs2, d2, ds2, p2, q2, rfl, rfl, rfl, h2, r2⟩ := trodAll_cons r1
 obtain ⟨v3, vs3, d3, ds3, p3, q3, rfl, rfl, rfl, h3, r3⟩ := trodAll_cons r2
 obtain ⟨v4, vs4, d4, ds4, p4, q4, rfl, rfl, rfl, h4, r4⟩ := trodAll_cons r3
 obtain ⟨rfl, rfl, rfl⟩ := trodAll_nil r4
 obtain rfl : args = #[v0, v1, v2, v3, v4] := by cases args; simp_all
 obtain ⟨x0, rfl⟩ := open_task (hval 0 62 v0 rfl rfl) h0
 obtain ⟨k1, f1, b1, l1, m1, c1, p91, t1, rfl, wk1, wf1, wb1, wl1, wm1, wc1, wp1, wt1⟩ := open_small13 (hval 1 66 v1 rfl rfl) h1
 obtain ⟨u2, es2, m2, ck2, rfl, sa2, sb2, sc2, sd2⟩ := open_total (hval 2 76 v2 rfl rfl) h2
 obtain ⟨u3, es3, m3, ck3, rfl, sa3, sb3, sc3, sd3⟩ := open_total (hval 3 76 v3 rfl rfl) h3
 obtain ⟨id4, rfl, sa4, sb4⟩ := open_id (hval 4 34 v4 rfl rfl) h4
 refine (walk_TotalErrors x0 k1 f1 b1 l1 m1 c1 p91 t1 _ _ es2 es3 m2 m3 ck2 ck3 id4 W wk1 wf1 wb1 wl1 wm1 wc1 wp1 wt1 sa2 sa3 sb2 sb3 sa4 sb4 sd2 sd3).mono fun e W' ⟨he, hb⟩ => ?_
 subst he
 clear hval hcnd
 exact ⟨_, rfl, law_post laid_out totalErrors_post (by kernel_rfl) Try.underlying4 rfl (fun ds h => match ds, h with | [_, _, _, _, _], _ => rfl) hW' hb⟩

set_option maxRecDepth 100000 in
set_option maxHeartbeats 0 in
theorem totalErrors_facts : joinedFacts Try.checked.prog 9 Try.f9 Rows.totalErrorsSpec Rows.totalErrorsRow = true := by
 unfold joinedFacts
 refine and_mk (and_mk (and_mk (and_mk (and_mk (and_mk (and_mk (and_mk (and_mk (and_mk (and_mk (and_mk (and_mk (and_mk (and_mk (and_mk (and_mk (and_mk (and_mk (and_mk (and_mk (and_mk (and_mk (and_mk (and_mk (and_mk (and_mk (and_mk (and_mk (and_mk (and_mk ?_ ?_) ?_) ?_) ?_) ?_) ?_) ?_) ?_) ?_) ?_) ?_) ?_) ?_) ?_) ?_) ?_) ?_) ?_) ?_) ?_) ?_) ?_) ?_) ?_) ?_) ?_) ?_) ?_) ?_) ?_) ?_
 all_goals first | with_reducible exact laid_out' | with_reducible exact maps_rowed | with_reducible exact stops_heard | with_reducible exact may_enter | as_aux_lemma => kernel_rfl

theorem totalErrors_proved : Rows.TotalErrorsSaid :=
 OpenClaim.holds_of_wide 9 Try.f9 rfl rfl rfl rfl rfl rfl rfl ⟨rfl, rfl, rfl, rfl, rfl⟩ rfl rfl rfl rfl rfl (by kernel_rfl) Try.func9 totalErrors_facts
  (of_decide_eq_true (by kernel_rfl)) (by unfold Func.isWrapper; first | (rw [if_pos (by decide +kernel)]; kernel_rfl) | (rw [if_neg (by decide +kernel)]; exact ⟨rfl, rfl⟩))
  (fun os started H enc _ => totalErrors_lifted os started H enc)

end Go.Proofs.Ytbakkmfjamcbfaa
