/-
 TapeReports: what the statements of this layer share.
-/
import Derived.BigQuiet
import Derived.Lib.SmallJoins
import Derived.WalkKit
import Derived.ProofKit
import Derived.OpenShut
import Derived.Test.YtpggflcapfkgpaaMat
import Derived.Test.YtpggflcapfkgpaaMau
namespace Go.Proofs.Ytpggflcapfkgpaa
open Go.ChangeShapes Go.WideShapes Go.ChangeAt Go.RowKit
set_option linter.unusedVariables false

theorem tapeReports_post : Try.f3.params.toList.all (fun t => Try.prog.readableRec t && decide (t < Try.prog.types.size)) = true := by kernel_rfl

set_option maxRecDepth 100000 in
theorem tapeReports_lifted (os : Os) (started : os.Started) (H : Type) (enc : TypeId × Value → H) :
  ReturnsInHanded {} Try.checked os 3 .any (Rows.tapeReportsSpec.pre6 enc Try.prog Try.f3 Rows.tapeReportsRow.domain false) (Rows.tapeReportsSpec.post enc Try.prog Try.f3 false true false false) := by
 refine returnsInHanded_of_change (C := Try.checked) own_knob started (by kernel_rfl) Try.func3
  (ChangeSpec.witness6 (enc := enc) (C := Try.checked) false ⟨#[], #[.agg #[.int .u8 0, .int .u8 0, .int .u8 0, .int .u8 0, .int .u8 0, .int .u8 0, .int .u8 0, .int .u8 0], .slice none 0 0, .slice none 0 0, .slice none 0 0, .slice none 0 0, .slice none 0 0], []⟩ 8 (by kernel_rfl) (by kernel_rfl) (by kernel_rfl) (by kernel_rfl)) ?_
 intro W base args ds gs before hval0 hW hcnd _
 have hval : ∀ (j : Nat) t v, Try.f3.params[j]? = some t → args[j]? = some v → Value.okWide Try.prog W .any base t v := hval0
 have hW' := hW
 obtain ⟨p, q, hA0, hV, hpq, hfz, hnd⟩ := hW
 have hA : DataW.TrodAll enc Try.prog W 0 (fun _ => true) true Try.f3.params.toList args.toList ds p := hA0
 rw [Try.params3] at hA hval
 obtain ⟨v0, vs0, d0, ds0, p0, q0, hargs, hds, hpp, h0, r0⟩ := trodAll_cons hA
 obtain ⟨v1, vs1, d1, ds1, p1, q1, rfl, rfl, rfl, h1, r1⟩ := trodAll_cons r0
 obtain ⟨v2, vs2, d2, ds2, p2, q2, rfl, rfl, rfl, h2, r2⟩ := trodAll_cons r1
 obtain ⟨v3, vs3, d3, ds3, p3, q3, rfl, rfl, rfl, h3, r3⟩ := trodAll_cons r2
 obtain ⟨v4, vs4, d4, ds4, p4, q4, rfl, rfl, rfl, h4, r4⟩ := trodAll_cons r3
 obtain ⟨v5, vs5, d5, ds5, p5, q5, rfl, rfl, rfl, h5, r5⟩ := trodAll_cons r4
 obtain ⟨rfl, rfl, rfl⟩ := trodAll_nil r5
 obtain rfl : args = #[v0, v1, v2, v3, v4, v5] := by cases args; simp_all
 obtain ⟨k0, f0, b0, l0, m0, c0, p9, t9, rfl, wk0, wf0, wb0, wl0, wm0, wc0, wp9, wt9⟩ := open_small13 (hval 0 25 v0 rfl rfl) h0
 obtain ⟨x1, s1⟩ := open_nums (hval 1 26 v1 rfl rfl) h1
 obtain ⟨x2, s2⟩ := open_nums (hval 2 26 v2 rfl rfl) h2
 obtain ⟨x3, s3⟩ := open_elems (hval 3 27 v3 rfl rfl) h3
 obtain ⟨x4, s4⟩ := open_elems (hval 4 27 v4 rfl rfl) h4
 obtain ⟨x5, s5⟩ := open_elems (hval 5 27 v5 rfl rfl) h5
 refine (walk_TapeReports k0 f0 b0 l0 m0 c0 p9 t9 _ _ _ _ _ x1 x2 x3 x4 x5 W wk0 wf0 wb0 wl0 wm0 wc0 wp9 wt9 s1 s2 s3 s4 s5).mono fun e W' ⟨he, hb⟩ => ?_
 subst he
 clear hval hcnd
 exact ⟨_, rfl, law_post laid_out tapeReports_post (by kernel_rfl) Try.underlying4 rfl (fun ds h => match ds, h with | [_, _, _, _, _, _], _ => rfl) hW' hb⟩

set_option maxRecDepth 100000 in
set_option maxHeartbeats 0 in
theorem tapeReports_facts : joinedFacts Try.checked.prog 3 Try.f3 Rows.tapeReportsSpec Rows.tapeReportsRow = true := by
 unfold joinedFacts
 refine and_mk (and_mk (and_mk (and_mk (and_mk (and_mk (and_mk (and_mk (and_mk (and_mk (and_mk (and_mk (and_mk (and_mk (and_mk (and_mk (and_mk (and_mk (and_mk (and_mk (and_mk (and_mk (and_mk (and_mk (and_mk (and_mk (and_mk (and_mk (and_mk (and_mk (and_mk ?_ ?_) ?_) ?_) ?_) ?_) ?_) ?_) ?_) ?_) ?_) ?_) ?_) ?_) ?_) ?_) ?_) ?_) ?_) ?_) ?_) ?_) ?_) ?_) ?_) ?_) ?_) ?_) ?_) ?_) ?_) ?_
 all_goals first | with_reducible exact laid_out' | with_reducible exact maps_rowed | with_reducible exact stops_heard | with_reducible exact may_enter | as_aux_lemma => kernel_rfl

theorem tapeReports_proved : Rows.TapeReportsSaid :=
 OpenClaim.holds_of_wide 3 Try.f3 rfl rfl rfl rfl rfl rfl rfl ⟨rfl, rfl, rfl, rfl, rfl⟩ rfl rfl rfl rfl rfl (by kernel_rfl) Try.func3 tapeReports_facts
  (of_decide_eq_true (by kernel_rfl)) (by unfold Func.isWrapper; first | (rw [if_pos (by decide +kernel)]; kernel_rfl) | (rw [if_neg (by decide +kernel)]; exact ⟨rfl, rfl⟩))
  (fun os started H enc _ => tapeReports_lifted os started H enc)

end Go.Proofs.Ytpggflcapfkgpaa
