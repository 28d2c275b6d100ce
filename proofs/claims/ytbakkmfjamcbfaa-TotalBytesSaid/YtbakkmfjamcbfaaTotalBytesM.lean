/-
 THE PROOF OF TotalBytes: for every input the law returns true, and the arguments read as they did. The walk, joined with its row. Conditions: none.
-/
import Derived.BigQuiet
import Derived.WalkKit
import Derived.ProofKit
import Derived.OpenShut
import Derived.Test.YtbakkmfjamcbfaaKax
import Derived.Test.YtbakkmfjamcbfaaKay
import Derived.Test.YtbakkmfjamcbfaaTae
namespace Go.Proofs.Ytbakkmfjamcbfaa
open Go.ChangeShapes Go.WideShapes Go.ChangeAt Go.RowKit
set_option linter.unusedVariables false

theorem totalBytes_post : Try.f8.params.toList.all (fun t => Try.prog.readableRec t && decide (t < Try.prog.types.size)) = true := by kernel_rfl

set_option maxRecDepth 100000 in
theorem totalBytes_lifted (os : Os) (started : os.Started) (H : Type) (enc : TypeId × Value → H) :
  ReturnsInHanded {} Try.checked os 8 .any (Rows.totalBytesSpec.pre6 enc Try.prog Try.f8 Rows.totalBytesRow.domain false) (Rows.totalBytesSpec.post enc Try.prog Try.f8 false true false false) := by
 refine returnsInHanded_of_change (C := Try.checked) own_knob started (by kernel_rfl) Try.func8
  (ChangeSpec.witness6 (enc := enc) (C := Try.checked) false ⟨#[], #[.agg #[.int .u8 0, .int .u8 0, .int .u8 0, .int .u8 0, .int .u8 0, .int .u8 0, .int .u8 0, .int .u8 0], .slice none 0 0, .slice none 0 0, .int .u16 0], []⟩ 8 (by kernel_rfl) (by kernel_rfl) (by kernel_rfl) (by kernel_rfl)) ?_
 intro W base args ds gs before hval0 hW hcnd _
 have hval : ∀ (j : Nat) t v, Try.f8.params[j]? = some t → args[j]? = some v → Value.okWide Try.prog W .any base t v := hval0
 have hW' := hW
 obtain ⟨p, q, hA0, hV, hpq, hfz, hnd⟩ := hW
 have hA : DataW.TrodAll enc Try.prog W 0 (fun _ => true) true Try.f8.params.toList args.toList ds p := hA0
 rw [Try.params8] at hA hval
 obtain ⟨v0, vs0, d0, ds0, p0, q0, hargs, hds, hpp, h0, r0⟩ := trodAll_cons hA
 obtain ⟨v1, vs1, d1, ds1, p1, q1, rfl, rfl, rfl, h1, r1⟩ := trodAll_cons r0
 obtain ⟨v2, vs2, d2, ds2, p2, q2, rfl, rfl, rfl, h2, r2⟩ := trodAll_cons r1
 obtain ⟨v3, vs3, d3, ds3, p3, q3, rfl, rfl, rfl, h3, r3⟩ := trodAll_cons r2
 obtain ⟨rfl, rfl, rfl⟩ := trodAll_nil r3
 obtain rfl : args = #[v0, v1, v2, v3] := by cases args; simp_all
 obtain ⟨k0, f0, b0, l0, m0, c0, p90, t0, rfl, wk0, wf0, wb0, wl0, wm0, wc0, wp0, wt0⟩ := open_small13 (hval 0 66 v0 rfl rfl) h0
 obtain ⟨n1, ids1, us1, ess1, s1, sa1, sb1, sc1, sd1, se1⟩ := open_reports (hval 1 72 v1 rfl rfl) h1
 obtain ⟨x2, s2⟩ := open_u8s (hval 2 28 v2 rfl rfl) h2
 obtain ⟨a3, rfl, _, _, w3⟩ := open_int Try.underlying104 (hval 3 104 v3 rfl rfl) h3
 refine (walk_TotalBytesJ k0 f0 b0 l0 m0 c0 p90 t0 a3 _ _ ids1 us1 ess1 n1 x2 W wk0 wf0 wb0 wl0 wm0 wc0 wp0 wt0 (wf_u16 w3) sa1 sb1 sc1 sd1 se1 s1 s2).mono fun e W' ⟨he, hb⟩ => ?_
 subst he
 clear hval hcnd
 exact ⟨_, rfl, law_post laid_out totalBytes_post (by kernel_rfl) Try.underlying4 rfl (fun ds h => match ds, h with | [_, _, _, _], _ => rfl) hW' hb⟩

set_option maxRecDepth 100000 in
set_option maxHeartbeats 0 in
theorem totalBytes_facts : joinedFacts Try.checked.prog 8 Try.f8 Rows.totalBytesSpec Rows.totalBytesRow = true := by
 unfold joinedFacts
 refine and_mk (and_mk (and_mk (and_mk (and_mk (and_mk (and_mk (and_mk (and_mk (and_mk (and_mk (and_mk (and_mk (and_mk (and_mk (and_mk (and_mk (and_mk (and_mk (and_mk (and_mk (and_mk (and_mk (and_mk (and_mk (and_mk (and_mk (and_mk (and_mk (and_mk (and_mk ?_ ?_) ?_) ?_) ?_) ?_) ?_) ?_) ?_) ?_) ?_) ?_) ?_) ?_) ?_) ?_) ?_) ?_) ?_) ?_) ?_) ?_) ?_) ?_) ?_) ?_) ?_) ?_) ?_) ?_) ?_) ?_
 all_goals first | with_reducible exact laid_out' | with_reducible exact maps_rowed | with_reducible exact stops_heard | with_reducible exact may_enter | as_aux_lemma => kernel_rfl

theorem totalBytes_proved : Rows.TotalBytesSaid :=
 OpenClaim.holds_of_wide 8 Try.f8 rfl rfl rfl rfl rfl rfl rfl ⟨rfl, rfl, rfl, rfl, rfl⟩ rfl rfl rfl rfl rfl (by kernel_rfl) Try.func8 totalBytes_facts
  (of_decide_eq_true (by kernel_rfl)) (by unfold Func.isWrapper; first | (rw [if_pos (by decide +kernel)]; kernel_rfl) | (rw [if_neg (by decide +kernel)]; exact ⟨rfl, rfl⟩))
  (fun os started H enc _ => totalBytes_lifted os started H enc)

end Go.Proofs.Ytbakkmfjamcbfaa
