/-
  WALK: tallymanlaw09.Awake, GadgetBits.
-/
import Derived.Test.YtgambjmjbmdciaaLaw9b
namespace Go.Proofs.Ytgambjmjbmdciaa
open Go.RowKit Fm
set_option linter.unusedVariables false
set_option maxRecDepth 100000

theorem l14 : esK ([1, 2, 3, 4] : KL 1) = [(1, 0), (2, 0), (3, 0), (4, 0)] := by decide +kernel
theorem v14 : eK (gval (.par 2) ([1, 2, 3, 4] : KL 1)) = (14, 0) := by decide +kernel

set_option maxHeartbeats 4000000 in
theorem law09_Awake (w : World) : Calls Try.prog 30 #[] w fun e w' => e = .returned (.bool true) ∧ Below w.heap.size w w' := by
  have heq := eql_elem
  have hB : BlkE (w.alloc (.cells #[.int .u64 1, .int .u64 0, .int .u64 2, .int .u64 0, .int .u64 3, .int .u64 0, .int .u64 4, .int .u64 0] 41)) w.heap.size (esK ([1, 2, 3, 4] : KL 1)) := by
    rw [l14]
    exact BlkE.new w _ _ rfl
  have hO := gadget_Of isF1 (w.alloc (.cells #[.int .u64 1, .int .u64 0, .int .u64 2, .int .u64 0, .int .u64 3, .int .u64 0, .int .u64 4, .int .u64 0] 41)) (.par 2) 3 (.slice none 0 0) 2 ⟨rfl, rfl, rfl, by omega, by omega⟩
    (.slice (some ⟨w.heap.size, 0, none⟩) 4 4) ([1, 2, 3, 4] : KL 1) (hB.slK (by simp) hB.lt) rfl
  have hO' : Calls Try.prog 34 #[.agg #[.int .u8 3, .slice none 0 0, .int .i64 2], .int .u8 1, .slice (some ⟨w.heap.size, 0, none⟩) 4 4] (w.alloc (.cells #[.int .u64 1, .int .u64 0, .int .u64 2, .int .u64 0, .int .u64 3, .int .u64 0, .int .u64 4, .int .u64 0] 41))
      (fun e w' => e = .returned (.tuple #[.agg #[.int .u64 14, .int .u64 0], .int .i64 0]) ∧ Below (w.alloc (.cells #[.int .u64 1, .int .u64 0, .int .u64 2, .int .u64 0, .int .u64 3, .int .u64 0, .int .u64 4, .int .u64 0] 41)).heap.size (w.alloc (.cells #[.int .u64 1, .int .u64 0, .int .u64 2, .int .u64 0, .int .u64 3, .int .u64 0, .int .u64 4, .int .u64 0] 41)) w') := by
    refine Calls.mono hO fun e w' h => ⟨?_, h.2⟩
    rw [h.1, show vK (gval (.par 2) ([1, 2, 3, 4] : KL 1)) = .agg #[.int .u64 14, .int .u64 0] by
      show Value.agg #[.int .u64 (eK (gval (.par 2) ([1, 2, 3, 4] : KL 1))).1, .int .u64 (eK (gval (.par 2) ([1, 2, 3, 4] : KL 1))).2] = _
      rw [v14]]
  have HO := Lib.hid hO'
  clear hO hO' hB
  go_enter Try.func30, Try.ntmps30
  go_wp2_with fail
  refine HO.out.mono ?_
  rintro e w1 ⟨rfl, hb1⟩
  go_wp2
  go_ret
  exact ⟨rfl, by repeat (first | exact Below.refl _ _ | with_reducible assumption | (refine bl_alloc ?_ (Nat.le_refl _) _) | (refine bl_set ?_ (by dsimp only; omega) _) | (refine Below.drew ?_) | (refine bl_drewN ?_ _) | (refine bl_call ?_ (Nat.le_refl _) (by assumption)))⟩

/-- which field a law takes -/
theorem lawField (n : Int) (h0 : 0 ≤ n) (h1 : n ≤ 255) : ∃ f : Nat, IsF f ∧ ∀ w, Calls Try.prog 23 #[.int .u8 n] w fun e w' => e = .returned (.int .u8 f) ∧ w = w' := by
  have h : n % 2 = 0 ∨ n % 2 = 1 := by omega
  rcases h with h | h
  · refine ⟨1, isF1, fun w => ?_⟩
    have hF := law03_F n w h0 h1
    rwa [show n % 2 + 1 = ((1 : Nat) : Int) by omega] at hF
  · refine ⟨2, isF2, fun w => ?_⟩
    have hF := law03_F n w h0 h1
    rwa [show n % 2 + 1 = ((2 : Nat) : Int) by omega] at hF

theorem lohi_one {f : Nat} (x : Fin (Pm f)) : (lo x == 1 && hi x == 0) = decide (x = 1) := by
  by_cases h : x = 1
  · subst h
    rw [lo_one, hi_one]
    simp
  · rw [decide_eq_false h, Bool.and_eq_false_iff, beq_eq_false_iff_ne, beq_eq_false_iff_ne]
    by_cases h0 : lo x = 1
    · right
      intro h1
      exact h (lohi_inj (by rw [h0, lo_one]) (by rw [h1, hi_one]))
    · exact .inl h0

theorem bit_value {f : Nat} (x : Fin (Pm f)) : gval (.eval [0, -1, 1]) [x] = x * (x - 1) := by
  show horner x [0, -1, 1] = _
  unfold horner
  simp only [List.foldr_cons, List.foldr_nil]
  grind
theorem bit_nought {f : Nat} (x : Fin (Pm f)) : (x * (x - 1) = 0) ↔ (x = 0 ∨ x = 1) := by
  constructor
  · intro h
    rcases k_mul_eq_zero x (x - 1) h with h | h
    · exact .inl h
    · exact .inr (by grind)
  · rintro (h | h) <;> subst h <;> grind

set_option maxHeartbeats 4000000 in
theorem walk_GadgetBits (n a0 a1 : Int) (w : World) (hn0 : 0 ≤ n) (hn1 : n ≤ 255) (h0 : 0 ≤ a0) (h1 : a0 ≤ 18446744073709551615) (k0 : 0 ≤ a1) (k1 : a1 ≤ 18446744073709551615) :
    Calls Try.prog 7 #[.int .u8 n, .agg #[.int .u64 a0, .int .u64 a1]] w fun e w' => e = .returned (.bool true) ∧ Below w.heap.size w w' := by
  obtain ⟨f, hf, hF⟩ := lawField n hn0 hn1
  have HF := Lib.hid hF
  have HA := Lib.hid law09_Awake
  have HO := Lib.hid (fun wz => ref_OfL hf a0 a1 wz h0 h1 k0 k1)
  generalize kL f a0 a1 = x at *
  have HB := Lib.hid (gadget_Bit hf)
  have HC := Lib.hid (fun wz k sl m (hg : RepG wz wz.heap.size k sl m (.eval [0, -1, 1] : Gad f)) => gadget_Check hf wz _ k sl m hg)
  have HG : Hid (∀ wz k sl m (hg : RepG wz wz.heap.size k sl m (.eval [0, -1, 1] : Gad f)) vl (y z : Fin (Pm f)), SlK wz wz.heap.size vl [y] → y * (y - 1) = z → Calls Try.prog 34 #[.agg #[.int .u8 k, sl, .int .i64 m], .int .u8 f, vl] wz (RetKE z wz)) := by
    intro wz k sl m hg vl y z hs hz
    have h := gadget_Of hf wz (.eval [0, -1, 1]) k sl m hg vl [y] hs rfl
    rwa [bit_value, hz] at h
  have heq := eql_elem
  have hfb0 : (1 : Int) ≤ (f : Int) := by rcases hf.or with rfl | rfl <;> omega
  have hfb1 : (f : Int) ≤ 2 := by rcases hf.or with rfl | rfl <;> omega
  clear hF
  go_enter Try.func7, Try.ntmps7
  go_upto_region 1 with fail
  have hx := V2.new w (.int .u64 a0) (.int .u64 a1) 41
  have hb00 : Below w.heap.size w (w.alloc (.cells #[(.int .u64 a0), (.int .u64 a1)] 41)) := by repeat (first | exact Below.refl _ _ | with_reducible assumption | (refine bl_alloc ?_ (Nat.le_refl _) _))
  have hsz : w.heap.size + 1 ≤ (w.alloc (.cells #[(.int .u64 a0), (.int .u64 a1)] 41)).heap.size := by simp only [World.size_alloc]; omega
  generalize (w.alloc (.cells #[(.int .u64 a0), (.int .u64 a1)] 41)) = w1 at hx hb00 hsz ⊢
  obtain ⟨c0, c1, c2, c3, c4⟩ := V2.mk hx.c0 hx.c1 hx.f0 hx.f1 hx.lt
  go_upto_region 5 with (first
    | (go_at_call 30; refine (HA.out _).mono ?_; rintro e w2 ⟨rfl, hb2⟩; replace hx := hx.call hb2; replace hb00 := bl_call hb00 (Nat.le_refl _) hb2; obtain ⟨c0, c1, c2, c3, c4⟩ := V2.mk hx.c0 hx.c1 hx.f0 hx.f1 hx.lt)
    | (go_at_call 23; refine (HF.out _).mono ?_; rintro e w3 ⟨rfl, rfl⟩)
    | (go_at_call 33; refine (HO.out _).mono ?_; rintro e w4 ⟨rfl, hb4⟩; replace hx := hx.call hb4; replace hb00 := bl_call hb00 (Nat.le_refl _) hb4; obtain ⟨c0, c1, c2, c3, c4⟩ := V2.mk hx.c0 hx.c1 hx.f0 hx.f1 hx.lt))
  clear c0 c1 c2 c3 c4
  replace hx : V2 ((w4.setCell ⟨w.heap.size, 0, none⟩ (.int .u64 (lo x))).setCell ⟨w.heap.size, 1, none⟩ (.int .u64 (hi x))) (w.heap.size) (.int .u64 (lo x)) (.int .u64 (hi x)) := V2.set hx _ _
  replace hb00 := bl_st hb00 (b := w.heap.size) (by omega) (.int .u64 (lo x)) (.int .u64 (hi x))
  generalize ((w4.setCell ⟨w.heap.size, 0, none⟩ (.int .u64 (lo x))).setCell ⟨w.heap.size, 1, none⟩ (.int .u64 (hi x))) = w5 at hx hb00 ⊢
  have hxl := hx.lt
  go_wp2_with fail
  refine (HB.out _).mono ?_
  rintro e w6 ⟨k, sl, m, rfl, hg, hb6⟩
  have hsl : ∃ (A : Option Addr) (a b : Nat), sl = .slice A a b := by
    obtain ⟨A, c, h, _⟩ := hg.2.2.1
    exact ⟨_, _, _, h⟩
  obtain ⟨A', l', c', rfl⟩ := hsl
  replace hx := hx.call hb6
  replace hb00 := bl_call hb00 (Nat.le_refl _) hb6
  go_upto_region 6 with fail
  have hv := Vs.new w6 [.int .u8 k, .slice A' l' c', .int .i64 m] #[.int .u8 k, .slice A' l' c', .int .i64 m] 47 rfl
  have hbA : Below w6.heap.size w6 (w6.alloc (.cells #[.int .u8 k, .slice A' l' c', .int .i64 m] 47)) := by repeat (first | exact Below.refl _ _ | with_reducible assumption | (refine bl_alloc ?_ (Nat.le_refl _) _) | (refine bl_set ?_ (by dsimp only; omega) _) | (refine Below.drew ?_) | (refine bl_drewN ?_ _) | (refine bl_call ?_ (Nat.le_refl _) (by assumption)))
  replace hx := hx.call hbA
  replace hg := hg.later hbA
  replace hb00 := bl_call hb00 (Nat.le_refl _) hbA
  clear hbA hb6 hxl
  generalize w6.alloc (.cells #[.int .u8 k, .slice A' l' c', .int .i64 m] 47) = w7 at hx hv hg hb00 ⊢
  obtain ⟨y, hy⟩ : ∃ y, x * (x - 1) = y := ⟨_, rfl⟩
  have HY := Lib.hid hy
  clear hy
  have hs6 : SlK (w7.alloc (.cells #[.int .u64 (lo x), .int .u64 (hi x)] 41)) (w7.alloc (.cells #[.int .u64 (lo x), .int .u64 (hi x)] 41)).heap.size (.slice (some ⟨w7.heap.size, 0, none⟩) 1 1) ([x] : KL f) :=
    BlkE.slK (l := [x]) (BlkE.new w7 (esK [x]) _ (rfl)) (by simp) (BlkE.lt (BlkE.new w7 (esK [x]) _ (rfl)))
  have hgA := hg.later (show Below w7.heap.size w7 (w7.alloc (.cells #[.int .u64 (lo x), .int .u64 (hi x)] 41)) from by repeat (first | exact Below.refl _ _ | with_reducible assumption | (refine bl_alloc ?_ (Nat.le_refl _) _) | (refine bl_set ?_ (by dsimp only; omega) _) | (refine Below.drew ?_) | (refine bl_drewN ?_ _) | (refine bl_call ?_ (Nat.le_refl _) (by assumption))))
  have HS6 := Lib.hid (HG.out _ k _ m hgA _ (x) (y) hs6 HY.out)
  clear hs6 hgA
  have hvv := hv.get3
  obtain ⟨v0, v1, v2, v3, v4, v5, v6⟩ := hvv
  obtain ⟨c0, c1, c2, c3, c4⟩ := V2.mk hx.c0 hx.c1 hx.f0 hx.f1 hx.lt
  go_wp2_with fail
  refine HS6.out.mono ?_
  rintro e w8 ⟨rfl, hb8⟩
  have hbA : Below w7.heap.size w7 w8 := bl_call (by exact by repeat (first | exact Below.refl _ _ | with_reducible assumption | (refine bl_alloc ?_ (Nat.le_refl _) _) | (refine bl_set ?_ (by dsimp only; omega) _) | (refine Below.drew ?_) | (refine bl_drewN ?_ _) | (refine bl_call ?_ (Nat.le_refl _) (by assumption)))) (Nat.le_refl _) hb8
  replace hx := hx.call hbA
  replace hv := hv.call hbA
  replace hg := hg.later hbA
  replace hb00 := bl_call hb00 (Nat.le_refl _) hbA
  clear HS6 hb8 hbA v0 v1 v2 v3 v4 v5 v6 c0 c1 c2 c3 c4
  go_upto_region 7 with fail
  have hy := V2.new w8 (.int .u64 (lo (y))) (.int .u64 (hi (y))) 41
  have hbA : Below w8.heap.size w8 (w8.alloc (.cells #[.int .u64 (lo (y)), .int .u64 (hi (y))] 41)) := by repeat (first | exact Below.refl _ _ | with_reducible assumption | (refine bl_alloc ?_ (Nat.le_refl _) _) | (refine bl_set ?_ (by dsimp only; omega) _) | (refine Below.drew ?_) | (refine bl_drewN ?_ _) | (refine bl_call ?_ (Nat.le_refl _) (by assumption)))
  replace hx := hx.call hbA
  replace hv := hv.call hbA
  replace hg := hg.later hbA
  replace hb00 := bl_call hb00 (Nat.le_refl _) hbA
  clear hbA
  generalize w8.alloc (.cells #[.int .u64 (lo (y)), .int .u64 (hi (y))] 41) = w9 at hx hv hg hb00 hy  ⊢
  have hs7 : SlK (w9.alloc (.cells #[.int .u64 0, .int .u64 0] 41)) (w9.alloc (.cells #[.int .u64 0, .int .u64 0] 41)).heap.size (.slice (some ⟨w9.heap.size, 0, none⟩) 1 1) ([0] : KL f) :=
    BlkE.slK (l := [0]) (BlkE.new w9 (esK [0]) _ (by show _ = (Value.int .u64 (lo (0 : Fin (Pm f))) :: .int .u64 (hi (0 : Fin (Pm f))) :: []).toArray; rw [lo_zero, hi_zero])) (by simp) (BlkE.lt (BlkE.new w9 (esK [0]) _ (by show _ = (Value.int .u64 (lo (0 : Fin (Pm f))) :: .int .u64 (hi (0 : Fin (Pm f))) :: []).toArray; rw [lo_zero, hi_zero])))
  have hgA := hg.later (show Below w9.heap.size w9 (w9.alloc (.cells #[.int .u64 0, .int .u64 0] 41)) from by repeat (first | exact Below.refl _ _ | with_reducible assumption | (refine bl_alloc ?_ (Nat.le_refl _) _) | (refine bl_set ?_ (by dsimp only; omega) _) | (refine Below.drew ?_) | (refine bl_drewN ?_ _) | (refine bl_call ?_ (Nat.le_refl _) (by assumption))))
  have HS7 := Lib.hid (HG.out _ k _ m hgA _ (0) (0) hs7 (by grind))
  clear hs7 hgA
  have hvv := hv.get3
  obtain ⟨v0, v1, v2, v3, v4, v5, v6⟩ := hvv
  obtain ⟨c0, c1, c2, c3, c4⟩ := V2.mk hx.c0 hx.c1 hx.f0 hx.f1 hx.lt
  go_wp2_with fail
  refine HS7.out.mono ?_
  rintro e w8 ⟨rfl, hb8⟩
  have hbA : Below w9.heap.size w9 w8 := bl_call (by exact by repeat (first | exact Below.refl _ _ | with_reducible assumption | (refine bl_alloc ?_ (Nat.le_refl _) _) | (refine bl_set ?_ (by dsimp only; omega) _) | (refine Below.drew ?_) | (refine bl_drewN ?_ _) | (refine bl_call ?_ (Nat.le_refl _) (by assumption)))) (Nat.le_refl _) hb8
  replace hx := hx.call hbA
  replace hv := hv.call hbA
  replace hg := hg.later hbA
  replace hb00 := bl_call hb00 (Nat.le_refl _) hbA
  replace hy := hy.call hbA
  clear HS7 hb8 hbA v0 v1 v2 v3 v4 v5 v6 c0 c1 c2 c3 c4
  go_upto_region 8 with fail
  have hn := V2.new w8 (.int .u64 (lo (0 : Fin (Pm f)))) (.int .u64 (hi (0 : Fin (Pm f)))) 41
  have hbA : Below w8.heap.size w8 (w8.alloc (.cells #[.int .u64 (lo (0 : Fin (Pm f))), .int .u64 (hi (0 : Fin (Pm f)))] 41)) := by repeat (first | exact Below.refl _ _ | with_reducible assumption | (refine bl_alloc ?_ (Nat.le_refl _) _) | (refine bl_set ?_ (by dsimp only; omega) _) | (refine Below.drew ?_) | (refine bl_drewN ?_ _) | (refine bl_call ?_ (Nat.le_refl _) (by assumption)))
  replace hx := hx.call hbA
  replace hv := hv.call hbA
  replace hg := hg.later hbA
  replace hb00 := bl_call hb00 (Nat.le_refl _) hbA
  replace hy := hy.call hbA
  clear hbA
  generalize w8.alloc (.cells #[.int .u64 (lo (0 : Fin (Pm f))), .int .u64 (hi (0 : Fin (Pm f)))] 41) = w10 at hx hv hg hb00 hn hy ⊢
  have hs8 : SlK (w10.alloc (.cells #[.int .u64 1, .int .u64 0] 41)) (w10.alloc (.cells #[.int .u64 1, .int .u64 0] 41)).heap.size (.slice (some ⟨w10.heap.size, 0, none⟩) 1 1) ([1] : KL f) :=
    BlkE.slK (l := [1]) (BlkE.new w10 (esK [1]) _ (by show _ = (Value.int .u64 (lo (1 : Fin (Pm f))) :: .int .u64 (hi (1 : Fin (Pm f))) :: []).toArray; rw [lo_one, hi_one])) (by simp) (BlkE.lt (BlkE.new w10 (esK [1]) _ (by show _ = (Value.int .u64 (lo (1 : Fin (Pm f))) :: .int .u64 (hi (1 : Fin (Pm f))) :: []).toArray; rw [lo_one, hi_one])))
  have hgA := hg.later (show Below w10.heap.size w10 (w10.alloc (.cells #[.int .u64 1, .int .u64 0] 41)) from by repeat (first | exact Below.refl _ _ | with_reducible assumption | (refine bl_alloc ?_ (Nat.le_refl _) _) | (refine bl_set ?_ (by dsimp only; omega) _) | (refine Below.drew ?_) | (refine bl_drewN ?_ _) | (refine bl_call ?_ (Nat.le_refl _) (by assumption))))
  have HS8 := Lib.hid (HG.out _ k _ m hgA _ (1) (0) hs8 (by grind))
  clear hs8 hgA
  have hvv := hv.get3
  obtain ⟨v0, v1, v2, v3, v4, v5, v6⟩ := hvv
  obtain ⟨c0, c1, c2, c3, c4⟩ := V2.mk hx.c0 hx.c1 hx.f0 hx.f1 hx.lt
  go_wp2_with fail
  refine HS8.out.mono ?_
  rintro e w8 ⟨rfl, hb8⟩
  have hbA : Below w10.heap.size w10 w8 := bl_call (by exact by repeat (first | exact Below.refl _ _ | with_reducible assumption | (refine bl_alloc ?_ (Nat.le_refl _) _) | (refine bl_set ?_ (by dsimp only; omega) _) | (refine Below.drew ?_) | (refine bl_drewN ?_ _) | (refine bl_call ?_ (Nat.le_refl _) (by assumption)))) (Nat.le_refl _) hb8
  replace hx := hx.call hbA
  replace hv := hv.call hbA
  replace hg := hg.later hbA
  replace hb00 := bl_call hb00 (Nat.le_refl _) hbA
  replace hy := hy.call hbA
  replace hn := hn.call hbA
  clear HS8 hb8 hbA v0 v1 v2 v3 v4 v5 v6 c0 c1 c2 c3 c4
  go_upto_region 9 with fail
  have ho := V2.new w8 (.int .u64 (lo (0 : Fin (Pm f)))) (.int .u64 (hi (0 : Fin (Pm f)))) 41
  have hbA : Below w8.heap.size w8 (w8.alloc (.cells #[.int .u64 (lo (0 : Fin (Pm f))), .int .u64 (hi (0 : Fin (Pm f)))] 41)) := by repeat (first | exact Below.refl _ _ | with_reducible assumption | (refine bl_alloc ?_ (Nat.le_refl _) _) | (refine bl_set ?_ (by dsimp only; omega) _) | (refine Below.drew ?_) | (refine bl_drewN ?_ _) | (refine bl_call ?_ (Nat.le_refl _) (by assumption)))
  replace hx := hx.call hbA
  replace hv := hv.call hbA
  replace hg := hg.later hbA
  replace hb00 := bl_call hb00 (Nat.le_refl _) hbA
  replace hy := hy.call hbA
  replace hn := hn.call hbA
  clear hbA
  generalize w8.alloc (.cells #[.int .u64 (lo (0 : Fin (Pm f))), .int .u64 (hi (0 : Fin (Pm f)))] 41) = w11 at hx hv hg hb00 ho hy hn ⊢
  rw [lo_zero, hi_zero] at hn ho
  have HCC := Lib.hid (fun wz (hb : Below w11.heap.size w11 wz) => HC.out wz k _ m (hg.later hb))
  obtain ⟨v0, v1, v2, v3, v4, v5, v6⟩ := hv.get3
  obtain ⟨c0, c1, c2, c3, c4⟩ := hx
  obtain ⟨y0, y1, y2, y3, y4⟩ := V2.mk hy.c0 hy.c1 hy.f0 hy.f1 hy.lt
  have hd3 := lohi_zero y
  have hd1 := lohi_zero x
  have hd2 := lohi_one x
  have hyx : (y = 0) ↔ (x = 0 ∨ x = 1) := by rw [← HY.out]; exact bit_nought x
  by_cases hx0 : x = 0
  · rw [decide_eq_true (hyx.2 (.inl hx0))] at hd3
    rw [decide_eq_true hx0] at hd1
    clear hd2 hyx hx0
    go_wp2_with (go_at_call 38; refine (HCC.out _ (Below.refl _ _)).mono ?_; rintro e w12 ⟨rfl, hb12⟩; obtain ⟨y0, y1, y2, y3, y4⟩ := hy.call hb12; obtain ⟨n0, n1, n2, n3, n4⟩ := hn.call hb12; obtain ⟨o0, o1, o2, o3, o4⟩ := ho.call hb12)
    go_ret
    exact ⟨rfl, by repeat (first | exact Below.refl _ _ | with_reducible assumption | (refine bl_alloc ?_ (Nat.le_refl _) _) | (refine bl_set ?_ (by dsimp only; omega) _) | (refine Below.drew ?_) | (refine bl_drewN ?_ _) | (refine bl_call ?_ (Nat.le_refl _) (by assumption)))⟩
  · by_cases hx1 : x = 1
    · rw [decide_eq_true (hyx.2 (.inr hx1))] at hd3
      rw [decide_eq_false hx0] at hd1
      rw [decide_eq_true hx1] at hd2
      clear hyx hx0 hx1
      go_wp2_with (go_at_call 38; refine (HCC.out _ (Below.refl _ _)).mono ?_; rintro e w12 ⟨rfl, hb12⟩; obtain ⟨y0, y1, y2, y3, y4⟩ := hy.call hb12; obtain ⟨n0, n1, n2, n3, n4⟩ := hn.call hb12; obtain ⟨o0, o1, o2, o3, o4⟩ := ho.call hb12)
      go_ret
      exact ⟨rfl, by repeat (first | exact Below.refl _ _ | with_reducible assumption | (refine bl_alloc ?_ (Nat.le_refl _) _) | (refine bl_set ?_ (by dsimp only; omega) _) | (refine Below.drew ?_) | (refine bl_drewN ?_ _) | (refine bl_call ?_ (Nat.le_refl _) (by assumption)))⟩
    · rw [decide_eq_false (fun h => (hyx.1 h).elim hx0 hx1)] at hd3
      rw [decide_eq_false hx0] at hd1
      rw [decide_eq_false hx1] at hd2
      clear hyx hx0 hx1
      go_wp2_with (go_at_call 38; refine (HCC.out _ (Below.refl _ _)).mono ?_; rintro e w12 ⟨rfl, hb12⟩; obtain ⟨y0, y1, y2, y3, y4⟩ := hy.call hb12; obtain ⟨n0, n1, n2, n3, n4⟩ := hn.call hb12; obtain ⟨o0, o1, o2, o3, o4⟩ := ho.call hb12)
      go_ret
      exact ⟨rfl, by repeat (first | exact Below.refl _ _ | with_reducible assumption | (refine bl_alloc ?_ (Nat.le_refl _) _) | (refine bl_set ?_ (by dsimp only; omega) _) | (refine Below.drew ?_) | (refine bl_drewN ?_ _) | (refine bl_call ?_ (Nat.le_refl _) (by assumption)))⟩

end Go.Proofs.Ytgambjmjbmdciaa
