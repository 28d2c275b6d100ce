/-
  THE PROOF OF CircuitEncodes: for every input the law returns true, and the arguments read as they did. The walk, joined with its row. Conditions: none.
-/
import Derived.Test.YtiphahbeedeebaaMbc
import Derived.Test.YtiphahbeedeebaaMas
import Derived.Test.YtiphahbeedeebaaMaq
import Derived.Test.YtiphahbeedeebaaMao
import Derived.WalkKit
import Derived.ProofKit
import Derived.OpenShut
namespace Go.Proofs.Ytiphahbeedeebaa
open Go.ChangeShapes Go.WideShapes Go.ChangeAt Go.RowKit
set_option linter.unusedVariables false

theorem circuitEncodes_post : Try.f8.params.toList.all (fun t => Try.prog.readableRec t && decide (t < Try.prog.types.size)) = true := by kernel_rfl

set_option maxRecDepth 100000 in
theorem circuitEncodes_lifted (os : Os) (started : os.Started) (H : Type) (enc : TypeId × Value → H) :
    ReturnsInHanded {} Try.checked os 8 .any (Rows.circuitEncodesSpec.pre6 enc Try.prog Try.f8 Rows.circuitEncodesRow.domain false) (Rows.circuitEncodesSpec.post enc Try.prog Try.f8 false true false false) := by
  refine returnsInHanded_of_change (C := Try.checked) own_knob started (by kernel_rfl) Try.func8
    (ChangeSpec.witness6 (enc := enc) (C := Try.checked) false ⟨#[], #[.agg #[.int .u8 0, .int .u8 0, .int .i64 0, .int .i64 0, .int .i64 0, .int .i64 0], .agg #[.int .u8 0, .int .u8 0, .int .u8 0, .int .u8 0, .int .u8 0, .int .u8 0], .slice none 0 0], []⟩ 8 (by kernel_rfl) (by kernel_rfl) (by kernel_rfl) (by kernel_rfl)) ?_
  intro W base args ds gs before hval0 hW hcnd _
  have hval : ∀ (j : Nat) t v, Try.f8.params[j]? = some t → args[j]? = some v → Value.okWide Try.prog W .any base t v := hval0
  have hW' := hW
  obtain ⟨p, q, hA0, hV, hpq, hfz, hnd⟩ := hW
  have hA : DataW.TrodAll enc Try.prog W 0 (fun _ => true) true Try.f8.params.toList args.toList ds p := hA0
  rw [Try.params8] at hA hval
  obtain ⟨v0, vs0, d0, ds0, p0, q0, hargs, hds, hpp, h0, r0⟩ := trodAll_cons hA
  obtain ⟨v1, vs1, d1, ds1, p1, q1, rfl, rfl, rfl, h1, r1⟩ := trodAll_cons r0
  obtain ⟨v2, vs2, d2, ds2, p2, q2, rfl, rfl, rfl, h2, r2⟩ := trodAll_cons r1
  obtain ⟨rfl, rfl, rfl⟩ := trodAll_nil r2
  obtain rfl : args = #[v0, v1, v2] := by cases args; simp_all
  obtain ⟨x0, rfl, s0, t0, _⟩ := open_cir (hval 0 60 v0 rfl rfl) h0
  obtain ⟨k1, f1, b1, l1, m1, c1, rfl, wk1, wf1, wb1, wl1, wm1, wc1⟩ := open_small10 (hval 1 62 v1 rfl rfl) h1
  obtain ⟨x2, s2⟩ := open_nums (hval 2 63 v2 rfl rfl) h2
  refine (walk_CircuitEncodes x0 k1 f1 b1 l1 m1 c1 _ x2 W s0 t0 wk1 wf1 wb1 wl1 wm1 wc1 s2).mono fun e W' ⟨he, hb⟩ => ?_
  subst he
  clear hval hcnd
  exact ⟨_, rfl, law_post laid_out circuitEncodes_post (by kernel_rfl) Try.underlying4 rfl (fun ds h => match ds, h with | [_, _, _], _ => rfl) hW' hb⟩

set_option maxRecDepth 100000 in
set_option maxHeartbeats 0 in
theorem circuitEncodes_facts : joinedFacts Try.checked.prog 8 Try.f8 Rows.circuitEncodesSpec Rows.circuitEncodesRow = true := by
  unfold joinedFacts
  refine and_mk (and_mk (and_mk (and_mk (and_mk (and_mk (and_mk (and_mk (and_mk (and_mk (and_mk (and_mk (and_mk (and_mk (and_mk (and_mk (and_mk (and_mk (and_mk (and_mk (and_mk (and_mk (and_mk (and_mk (and_mk (and_mk (and_mk (and_mk (and_mk (and_mk (and_mk ?_ ?_) ?_) ?_) ?_) ?_) ?_) ?_) ?_) ?_) ?_) ?_) ?_) ?_) ?_) ?_) ?_) ?_) ?_) ?_) ?_) ?_) ?_) ?_) ?_) ?_) ?_) ?_) ?_) ?_) ?_) ?_
  all_goals first | with_reducible exact laid_out' | with_reducible exact maps_rowed | with_reducible exact stops_heard | with_reducible exact may_enter | as_aux_lemma => kernel_rfl

/-- ████ THE STATEMENT ████ -/
theorem circuitEncodes_proved : Rows.CircuitEncodesSaid :=
  OpenClaim.holds_of_wide 8 Try.f8 rfl rfl rfl rfl rfl rfl rfl ⟨rfl, rfl, rfl, rfl, rfl⟩ rfl rfl rfl rfl rfl (by kernel_rfl) Try.func8 circuitEncodes_facts
    (of_decide_eq_true (by kernel_rfl)) (by unfold Func.isWrapper; first | (rw [if_pos (by decide +kernel)]; kernel_rfl) | (rw [if_neg (by decide +kernel)]; exact ⟨rfl, rfl⟩))
    (fun os started H enc _ => circuitEncodes_lifted os started H enc)

end Go.Proofs.Ytiphahbeedeebaa
