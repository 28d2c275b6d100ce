/-
  THE PROOF OF TapeUnlike: for every input the law returns true, and the arguments read as they did. The walk, the plain law on differences, the frame. Conditions: none.
-/
import Derived.Test.YtgambjmjbmdciaaTapeBackJoin
namespace Go.Proofs.Ytgambjmjbmdciaa
open Go.RowKit Go.ChangeShapes Go.WideShapes Go.ChangeAt Fm
set_option linter.unusedVariables false
set_option maxRecDepth 100000

/-- unlike draws, unlike vectors -/
theorem zipS_inj {f m : Int} (hf : FM f m) (xs ys zs : List E) (h : xs.length = ys.length) (hz : xs.length = zs.length) (ry : ∀ e, e ∈ ys → RedE m e) (rz : ∀ e, e ∈ zs → RedE m e) (he : zipS f m xs ys = zipS f m xs zs) : ys = zs := by
  rw [← zipS_back hf xs ys h ry, he, zipS_back hf xs zs hz rz]

theorem ref_Same_is (va vb : Value) (xs ys : List E) (t : Bool) (w : World) (hx : SlE w w.heap.size va xs) (hy : SlE w w.heap.size vb ys) (h : decide (xs = ys) = t) :
    Calls Try.prog 27 #[va, vb] w fun e w' => e = .returned (.bool t) ∧ Below w.heap.size w w' := by
  have hs := ref_Same va vb xs ys w hx hy
  rwa [h] at hs

set_option maxHeartbeats 8000000 in
theorem walk_TapeUnlike (n : Int) (vl vm vk vd : Value) (l mm k d : List E) (w : World) (hwf : (Lit.int .u8 n).wf = true) (hl : SlE w w.heap.size vl l) (hm : SlE w w.heap.size vm mm) (hk : SlE w w.heap.size vk k) (hd : SlE w w.heap.size vd d) :
    Calls Try.prog 4 #[.int .u8 n, vl, vm, vk, vd] w fun e w' => e = .returned (.bool true) ∧ Below w.heap.size w w' := by
  obtain ⟨h0, h1⟩ := byte_wf hwf
  have hl0 := hl
  have hm0 := hm
  have hk0 := hk
  have hd0 := hd
  obtain ⟨⟨A, ca, rfl, _, _, _⟩, _⟩ := hl
  obtain ⟨⟨B, cb, rfl, _, _, _⟩, _⟩ := hm
  obtain ⟨⟨C, cc, rfl, _, _, _⟩, _⟩ := hk
  obtain ⟨⟨D, cd, rfl, _, _, _⟩, _⟩ := hd
  clear hwf
  by_cases hlen : l.length ≤ 20 ∧ mm.length ≤ 20 ∧ k.length ≤ 20 ∧ d.length ≤ 20
  · obtain ⟨hla, hlb, hlc, hld⟩ := hlen
    obtain ⟨md, hf0⟩ := fieldOf n h0
    obtain ⟨p0, p1, hr0⟩ := hf0.ref
    have hF0 := fun w => law03_F n w h0 h1
    generalize hfn : n % 2 + 1 = f at *
    have hfb : 1 ≤ f ∧ f ≤ 2 := by omega
    obtain ⟨hfb1, hfb2⟩ := hfb
    have HFN := Lib.hid hfn
    clear hfn
    have HF := Lib.hid hF0
    clear hF0
    go_enter Try.func4, Try.ntmps4
    go_wp2_with fail
    refine (law31_Awake _).mono ?_
    rintro e w1 ⟨rfl, hb1⟩
    go_wp2_with (go_at_call 23; refine (HF.out _).mono ?_; rintro e w' ⟨rfl, rfl⟩)
    refine (law31_someI f md p0 p1 hf0 hr0 _ l l.length 1 1 rfl _ (hl0.later hb1) (by omega) (by omega)).mono ?_
    rintro e w2 ⟨g1, rfl, hB1, hg1, hb2⟩
    have rx := someE_red hf0 l l.length 1
    have lx := someE_length f md l l.length 1
    generalize someE f md l l.length 1 = X at *
    have LX := Lib.hid lx
    clear lx
    go_wp2_with fail
    have hbm : Below w.heap.size w w2 := by repeat (first | exact Below.refl _ _ | with_reducible assumption | (refine bl_alloc ?_ (Nat.le_refl _) _) | (refine bl_set ?_ (by dsimp only; omega) _) | (refine Below.drew ?_) | (refine bl_drewN ?_ _) | (refine bl_call ?_ (Nat.le_refl _) (by assumption)))
    refine (law31_someI f md p0 p1 hf0 hr0 _ mm l.length 1 1 rfl _ (hm0.later hbm) (by omega) (by omega)).mono ?_
    rintro e w3 ⟨g2, rfl, hB2, hg2, hb3⟩
    have ro := someE_red hf0 mm l.length 1
    have lo := someE_length f md mm l.length 1
    generalize someE f md mm l.length 1 = O at *
    have LO := Lib.hid lo
    clear lo
    go_wp2_with fail
    have hbk : Below w.heap.size w w3 := by repeat (first | exact Below.refl _ _ | with_reducible assumption | (refine bl_alloc ?_ (Nat.le_refl _) _) | (refine bl_set ?_ (by dsimp only; omega) _) | (refine Below.drew ?_) | (refine bl_drewN ?_ _) | (refine bl_call ?_ (Nat.le_refl _) (by assumption)))
    refine (law31_someI f md p0 p1 hf0 hr0 _ k l.length 3 3 rfl _ (hk0.later hbk) (by omega) (by omega)).mono ?_
    rintro e w4 ⟨g3, rfl, hB3, hg3, hb4⟩
    have rp := someE_red hf0 k l.length 3
    have lp := someE_length f md k l.length 3
    generalize someE f md k l.length 3 = P at *
    have LP := Lib.hid lp
    clear lp
    go_wp2_with fail
    have hbd : Below w.heap.size w w4 := by repeat (first | exact Below.refl _ _ | with_reducible assumption | (refine bl_alloc ?_ (Nat.le_refl _) _) | (refine bl_set ?_ (by dsimp only; omega) _) | (refine Below.drew ?_) | (refine bl_drewN ?_ _) | (refine bl_call ?_ (Nat.le_refl _) (by assumption)))
    refine (law31_someI f md p0 p1 hf0 hr0 _ d l.length 2 2 rfl _ (hd0.later hbd) (by omega) (by omega)).mono ?_
    rintro e w5 ⟨g4, rfl, hB4, hg4, hb5⟩
    have rq := someE_red hf0 d l.length 2
    have lq := someE_length f md d l.length 2
    generalize someE f md d l.length 2 = Q at *
    have LQ := Lib.hid lq
    clear lq
    have hXP : X.length = P.length := by rw [LX.out, LP.out]
    have hOP : O.length = P.length := by rw [LO.out, LP.out]
    have hXQ : X.length = Q.length := by rw [LX.out, LQ.out]
    have hOQ : O.length = Q.length := by rw [LO.out, LQ.out]
    have hX20 : X.length ≤ 20 := by rw [LX.out]; omega
    have HX20 := Lib.hid hX20
    have sX := SlE.ofB (((hB1.call hb3).call hb4).call hb5) (by omega) (fun e he => (rx e he).ok hf0)
    have sO := SlE.ofB ((hB2.call hb4).call hb5) (by omega) (fun e he => (ro e he).ok hf0)
    have sP := SlE.ofB (hB3.call hb5) (by omega) (fun e he => (rp e he).ok hf0)
    have sQ := SlE.ofB hB4 (by omega) (fun e he => (rq e he).ok hf0)
    have HXP := Lib.hid hXP
    have HOP := Lib.hid hOP
    have HXQ := Lib.hid hXQ
    have HOQ := Lib.hid hOQ
    clear hXP hOP hXQ hOQ hX20
    go_wp2_with fail
    refine (tape_Retape f md hf0 _ _ _ X O P _ sX sO sP HXP.out HOP.out (by have := HX20.out; omega) (allIn_red rx) (allIn_red ro) (allIn_red rp)).mono ?_
    rintro e w6 ⟨g5, rfl, hB5, hg5, hb6⟩
    go_wp2_with fail
    refine (tape_Retape f md hf0 _ _ _ X O Q _ (sX.later hb6) (sO.later hb6) (sQ.later hb6) HXQ.out HOQ.out (by have := HX20.out; omega) (allIn_red rx) (allIn_red ro) (allIn_red rq)).mono ?_
    rintro e w7 ⟨g6, rfl, hB6, hg6, hb7⟩
    have lU : (zipS f md X P).length = X.length := zipS_length _ _ _ _ HXP.out
    have lV : (zipS f md X Q).length = X.length := zipS_length _ _ _ _ HXQ.out
    have lR : (zipS f md O (zipS f md X P)).length = O.length := zipS_length _ _ _ _ (by rw [lU, HOP.out, HXP.out])
    have lS : (zipS f md O (zipS f md X Q)).length = O.length := zipS_length _ _ _ _ (by rw [lV, HOQ.out, HXQ.out])
    have hsame : decide (zipS f md O (zipS f md X P) = zipS f md O (zipS f md X Q)) = decide (P = Q) := by
      by_cases h : P = Q
      · rw [h]; simp
      · rw [decide_eq_false h, decide_eq_false]
        intro h'
        exact h (zipS_inj hf0 X P Q HXP.out HXQ.out rp rq (zipS_inj hf0 O _ _ (by rw [lU, HOP.out, HXP.out]) (by rw [lV, HOQ.out, HXQ.out]) (zipS_red hf0 X P) (zipS_red hf0 X Q) h'))
    have rr := zipS_red hf0 O (zipS f md X P)
    have rs := zipS_red hf0 O (zipS f md X Q)
    unfold zipS at hsame rr rs lR lS
    have hO20 : O.length ≤ 20 := by rw [HOP.out, ← HXP.out]; exact HX20.out
    clear lU lV
    generalize zipO (· - ·) f md O (zipO (· - ·) f md X P) = R at *
    generalize zipO (· - ·) f md O (zipO (· - ·) f md X Q) = S at *
    have sR := SlE.ofB (hB5.call hb7) (by omega) (fun e he => (rr e he).ok hf0)
    have sS := SlE.ofB hB6 (by omega) (fun e he => (rs e he).ok hf0)
    have hb57 : Below w5.heap.size w5 w7 := hb6.trans (hb7.mono hb6.size)
    have sP7 := sP.later hb57
    have sQ7 := sQ.later hb57
    generalize ht : decide (P = Q) = t at *
    have HS := Lib.hid hsame
    have HT := Lib.hid ht
    clear hsame ht lR lS hO20
    go_wp2_with fail
    refine (ref_Same_is _ _ R S t _ sR sS HS.out).mono ?_
    rintro e w8 ⟨rfl, hb8⟩
    have hcall := ref_Same_is _ _ P Q t _ (sP7.later hb8) (sQ7.later hb8) HT.out
    cases t
    all_goals
      go_wp2_with fail
      refine hcall.mono ?_
      rintro e w9 ⟨rfl, hb9⟩
      go_wp2
      go_ret
      exact ⟨rfl, by repeat (first | exact Below.refl _ _ | with_reducible assumption | (refine bl_alloc ?_ (Nat.le_refl _) _) | (refine bl_set ?_ (by dsimp only; omega) _) | (refine Below.drew ?_) | (refine bl_drewN ?_ _) | (refine bl_call ?_ (Nat.le_refl _) (by assumption)))⟩
  · have hor : 20 < l.length ∨ (l.length ≤ 20 ∧ 20 < mm.length) ∨ (l.length ≤ 20 ∧ mm.length ≤ 20 ∧ 20 < k.length) ∨ (l.length ≤ 20 ∧ mm.length ≤ 20 ∧ k.length ≤ 20 ∧ 20 < d.length) := by omega
    clear hlen
    rcases hor with h | ⟨h, h'⟩ | ⟨h, h', h''⟩ | ⟨h, h', h'', h4⟩
    all_goals
      go_enter Try.func4, Try.ntmps4
      go_wp2_with fail
      refine (law31_Awake _).mono ?_
      rintro e w1 ⟨rfl, hb1⟩
      go_wp2
      go_ret
      exact ⟨rfl, by repeat (first | exact Below.refl _ _ | with_reducible assumption | (refine bl_alloc ?_ (Nat.le_refl _) _) | (refine bl_set ?_ (by dsimp only; omega) _) | (refine Below.drew ?_) | (refine bl_drewN ?_ _) | (refine bl_call ?_ (Nat.le_refl _) (by assumption)))⟩

theorem tapeUnlike_post : Try.f4.params.toList.all (fun t => Try.prog.readableRec t && decide (t < Try.prog.types.size)) = true := by kernel_rfl

set_option maxRecDepth 100000 in
theorem tapeUnlike_lifted (os : Os) (started : os.Started) (H : Type) (enc : TypeId × Value → H) :
    ReturnsInHanded {} Try.checked os 4 .any (Rows.tapeUnlikeSpec.pre6 enc Try.prog Try.f4 Rows.tapeUnlikeRow.domain false) (Rows.tapeUnlikeSpec.post enc Try.prog Try.f4 false true false false) := by
  refine returnsInHanded_of_change (C := Try.checked) own_knob started (by kernel_rfl) Try.func4
    (ChangeSpec.witness6 (enc := enc) (C := Try.checked) false ⟨#[], #[.int .u8 0, .slice none 0 0, .slice none 0 0, .slice none 0 0, .slice none 0 0], []⟩ 8 (by kernel_rfl) (by kernel_rfl) (by kernel_rfl) (by kernel_rfl)) ?_
  intro W base args ds gs before hval0 hW hcnd _
  have hval : ∀ (j : Nat) t v, Try.f4.params[j]? = some t → args[j]? = some v → Value.okWide Try.prog W .any base t v := hval0
  have hW' := hW
  obtain ⟨p, q, hA0, hV, hpq, hfz, hnd⟩ := hW
  have hA : DataW.TrodAll enc Try.prog W 0 (fun _ => true) true Try.f4.params.toList args.toList ds p := hA0
  rw [Try.params4] at hA hval
  obtain ⟨v0, vs0, d0, ds0, p0, q0, hargs, hds, hpp, h0, r0⟩ := trodAll_cons hA
  obtain ⟨v1, vs1, d1, ds1, p1, q1, rfl, rfl, rfl, h1, r1⟩ := trodAll_cons r0
  obtain ⟨v2, vs2, d2, ds2, p2, q2, rfl, rfl, rfl, h2, r2⟩ := trodAll_cons r1
  obtain ⟨v3, vs3, d3, ds3, p3, q3, rfl, rfl, rfl, h3, r3⟩ := trodAll_cons r2
  obtain ⟨v4, vs4, d4, ds4, p4, q4, rfl, rfl, rfl, h4, r4⟩ := trodAll_cons r3
  obtain ⟨rfl, rfl, rfl⟩ := trodAll_nil r4
  obtain rfl : args = #[v0, v1, v2, v3, v4] := by cases args; simp_all
  obtain ⟨a0, rfl, _, _, w0⟩ := open_int Try.underlying5 (hval 0 5 v0 rfl rfl) h0
  obtain ⟨x1, s1⟩ := open_elems (hval 1 22 v1 rfl rfl) h1
  obtain ⟨x2, s2⟩ := open_elems (hval 2 22 v2 rfl rfl) h2
  obtain ⟨x3, s3⟩ := open_elems (hval 3 22 v3 rfl rfl) h3
  obtain ⟨x4, s4⟩ := open_elems (hval 4 22 v4 rfl rfl) h4
  refine (walk_TapeUnlike a0 _ _ _ _ x1 x2 x3 x4 W w0 s1 s2 s3 s4).mono fun e W' ⟨he, hb⟩ => ?_
  subst he
  clear hval hcnd
  exact ⟨_, rfl, law_post laid_out tapeUnlike_post (by kernel_rfl) Try.underlying4 rfl (fun ds h => match ds, h with | [_, _, _, _, _], _ => rfl) hW' hb⟩

set_option maxRecDepth 100000 in
set_option maxHeartbeats 0 in
theorem tapeUnlike_facts : joinedFacts Try.checked.prog 4 Try.f4 Rows.tapeUnlikeSpec Rows.tapeUnlikeRow = true := by
  unfold joinedFacts
  refine and_mk (and_mk (and_mk (and_mk (and_mk (and_mk (and_mk (and_mk (and_mk (and_mk (and_mk (and_mk (and_mk (and_mk (and_mk (and_mk (and_mk (and_mk (and_mk (and_mk (and_mk (and_mk (and_mk (and_mk (and_mk (and_mk (and_mk (and_mk (and_mk (and_mk (and_mk ?_ ?_) ?_) ?_) ?_) ?_) ?_) ?_) ?_) ?_) ?_) ?_) ?_) ?_) ?_) ?_) ?_) ?_) ?_) ?_) ?_) ?_) ?_) ?_) ?_) ?_) ?_) ?_) ?_) ?_) ?_) ?_
  all_goals first | with_reducible exact laid_out' | with_reducible exact maps_rowed | with_reducible exact stops_heard | with_reducible exact may_enter | as_aux_lemma => kernel_rfl

/-- ████ THE STATEMENT ████ -/
theorem tapeUnlike_proved : Rows.TapeUnlikeSaid :=
  OpenClaim.holds_of_wide 4 Try.f4 rfl rfl rfl rfl rfl rfl rfl ⟨rfl, rfl, rfl, rfl, rfl⟩ rfl rfl rfl rfl rfl (by kernel_rfl) Try.func4 tapeUnlike_facts
    (of_decide_eq_true (by kernel_rfl)) (by unfold Func.isWrapper; first | (rw [if_pos (by decide +kernel)]; kernel_rfl) | (rw [if_neg (by decide +kernel)]; exact ⟨rfl, rfl⟩))
    (fun os started H enc _ => tapeUnlike_lifted os started H enc)

end Go.Proofs.Ytgambjmjbmdciaa
