/-
 THE PROOF OF ProofQueries: for every input the law returns true, and the arguments read as they did. The walk, joined with its row and its tied card. Conditions: the tables of math/bits hold what the program's text lays in them (the card ties that).
-/
import Derived.Test.YtfbfbijkkbflkaaGreatDoorCards
import Derived.WalkKit
import Derived.ProofKit
import Derived.OpenShut
import Derived.SevenTiedAt
import Derived.Test.YtfbfbijkkbflkaaGreatDoorMbb
import Derived.Test.YtfbfbijkkbflkaaGreatDoorMbc
import Derived.Test.YtfbfbijkkbflkaaGreatDoorTag
namespace Go.Proofs.YtfbfbijkkbflkaaGreatDoor
open Go Go.ChangeShapes Go.WideShapes Go.ChangeAt Go.RowKit
set_option linter.unusedVariables false

theorem proofQueries_post : Tryz.f5.params.toList.all (fun t => Tryz.prog.readableRec t && decide (t < Tryz.prog.types.size)) = true := by kernel_rfl

set_option maxRecDepth 100000 in
theorem proofQueries_lifted (os : Os) (started : os.Started) (H : Type) (enc : TypeId × Value → H) :
  ReturnsInHanded {} Tryz.checked os 5 .any (fun w args => (Rows.proofQueriesSpec.pre enc Tryz.prog Tryz.f5 [] false w args ∧ laidMetH Tryz.prog laid2 w) ∧ sizedMet enc Tryz.prog Tryz.f5 (OpenSpec.ofChange Rows.proofQueriesSpec) false w args)
   (Rows.proofQueriesSpec.post enc Tryz.prog Tryz.f5 false true false false) := by
 refine returnsInHanded_of_change_and (C := Tryz.checked) (X := fun w _ => laidMetH Tryz.prog laid2 w) (fun _ _ _ hh h => h.of_heap hh) own_knob started (by kernel_rfl) Tryz.func5
  (ChangeSpec.witness_shaped (enc := enc) (C := Tryz.checked) (os := os) (X := fun w _ => laidMetH Tryz.prog laid2 w) false (World.doorLaid Tryz.prog 400 os) #[.agg #[.int .u8 0, .int .u8 0, .int .u8 0, .int .u8 0, .int .u8 0, .int .u8 0], .slice none 0 0, .slice none 0 0, .agg #[.int .u64 0, .int .u64 0], .bool false] 8 rfl (World.shaped_of_RefB (by kernel_rfl) (by kernel_rfl)) (by kernel_rfl) (by kernel_rfl) (by kernel_rfl) (door_met os _)) ?_
 intro W base args ds gs before hval0 hW _ _ hL _
 have hT := tab_of_laid hL
 have hval : ∀ (j : Nat) t v, Tryz.f5.params[j]? = some t → args[j]? = some v → Value.okWide Tryz.prog W .any base t v := hval0
 have hW' := hW
 obtain ⟨p, q, hA0, hV, hpq, hfz, hnd⟩ := hW
 have hA : DataW.TrodAll enc Tryz.prog W 0 (fun _ => true) true Tryz.f5.params.toList args.toList ds p := hA0
 rw [Tryz.params5] at hA hval
 obtain ⟨v0, vs0, d0, ds0, p0, q0, hargs, hds, hpp, h0, r0⟩ := trodAll_cons hA
 obtain ⟨v1, vs1, d1, ds1, p1, q1, rfl, rfl, rfl, h1, r1⟩ := trodAll_cons r0
 obtain ⟨v2, vs2, d2, ds2, p2, q2, rfl, rfl, rfl, h2, r2⟩ := trodAll_cons r1
 obtain ⟨v3, vs3, d3, ds3, p3, q3, rfl, rfl, rfl, h3, r3⟩ := trodAll_cons r2
 obtain ⟨v4, vs4, d4, ds4, p4, q4, rfl, rfl, rfl, h4, r4⟩ := trodAll_cons r3
 obtain ⟨rfl, rfl, rfl⟩ := trodAll_nil r4
 obtain rfl : args = #[v0, v1, v2, v3, v4] := by cases args; simp_all
 obtain ⟨k0, f0, b0, l0, m0, c0, rfl, wk0, wf0, wb0, wl0, wm0, wc0⟩ := open_small10 (hval 0 23 v0 rfl rfl) h0
 obtain ⟨x1, s1⟩ := open_elems (hval 1 24 v1 rfl rfl) h1
 obtain ⟨x2, s2⟩ := open_elems (hval 2 24 v2 rfl rfl) h2
 obtain ⟨x3, rfl, s3⟩ := open_elem (hval 3 36 v3 rfl rfl) h3
 obtain ⟨a4, rfl, _, _⟩ := open_bool Tryz.underlying4 (hval 4 4 v4 rfl rfl) h4
 refine (walk_ProofQueries k0 f0 b0 l0 m0 c0 _ _ x1 x2 x3.1 x3.2 a4 W hT wk0 wf0 wb0 wl0 wm0 wc0 s1 s2 ⟨s3.1, s3.2.1⟩ ⟨s3.2.2.1, s3.2.2.2⟩).mono fun e W' ⟨he, hb⟩ => ?_
 subst he
 clear hval
 exact ⟨_, rfl, law_post laid_out proofQueries_post (by kernel_rfl) Tryz.underlying4 rfl (fun ds h => match ds, h with | [_, _, _, _, _], _ => rfl) hW' hb⟩

set_option maxRecDepth 100000 in
set_option maxHeartbeats 0 in
theorem proofQueries_facts : joinedFacts Tryz.checked.prog 5 Tryz.f5 Rows.proofQueriesSpec Rows.proofQueriesRow = true := by
 unfold joinedFacts
 refine and_mk (and_mk (and_mk (and_mk (and_mk (and_mk (and_mk (and_mk (and_mk (and_mk (and_mk (and_mk (and_mk (and_mk (and_mk (and_mk (and_mk (and_mk (and_mk (and_mk (and_mk (and_mk (and_mk (and_mk (and_mk (and_mk (and_mk (and_mk (and_mk (and_mk (and_mk ?_ ?_) ?_) ?_) ?_) ?_) ?_) ?_) ?_) ?_) ?_) ?_) ?_) ?_) ?_) ?_) ?_) ?_) ?_) ?_) ?_) ?_) ?_) ?_) ?_) ?_) ?_) ?_) ?_) ?_) ?_) ?_
 all_goals first | with_reducible exact laid_out' | with_reducible exact maps_rowed | with_reducible exact stops_heard | with_reducible exact may_enter | as_aux_lemma => kernel_rfl

theorem proofQueries_row : Rows.ProofQueriesSaid :=
 OpenClaim.holds_of_wide 5 Tryz.f5 rfl rfl rfl rfl rfl rfl rfl ⟨rfl, rfl, rfl, rfl, rfl⟩ rfl rfl rfl rfl rfl (by kernel_rfl) Tryz.func5 proofQueries_facts
  (of_decide_eq_true (by kernel_rfl)) (by unfold Func.isWrapper; first | (rw [if_pos (by decide +kernel)]; kernel_rfl) | (rw [if_neg (by decide +kernel)]; exact ⟨rfl, rfl⟩))
  (fun os started H enc _ => proofQueries_lifted os started H enc)

theorem proofQueries_proved : Rows.ProofQueriesCardSaid :=
 Claim7.holds_tied_plain_at .later [] [.data, .data] true _ false
  proofQueries_row (fun _ h => by cases h) (by kernel_rfl) (fun _ h => by cases h) proofQueries_row_tie rfl ⟨rfl, rfl⟩ (by kernel_rfl) rfl
  (fun f fn hf hfn => by
   obtain rfl : f = 5 := Option.some.inj ((show Tryz.prog.funcNamed "tallyman/tallymanlaw11.ProofQueries" = some 5 by kernel_rfl).symm.trans hf) |>.symm
   obtain rfl : fn = Tryz.f5 := (Option.some.inj (Tryz.func5.symm.trans hfn)).symm
   exact ⟨by kernel_rfl, fun j t ht => by
    have hall : (Tryz.f5.params.toList.all fun u => !Tryz.prog.wantsStandIn u) = true := by kernel_rfl
    have hm : t ∈ Tryz.f5.params.toList := by simpa using Array.mem_of_getElem? ht
    exact (show Tryz.prog.wantsStandIn t = false by simpa using List.all_eq_true.1 hall t hm)⟩)
  (by kernel_rfl)

end Go.Proofs.YtfbfbijkkbflkaaGreatDoor
