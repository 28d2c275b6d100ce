/-
  WALKS: the reference's Add, Neg, Sub.
-/
import Derived.Test.YtgambjmjbmdciaaKit
namespace Go.Proofs.Ytgambjmjbmdciaa
open Go.RowKit Fm
set_option linter.unusedVariables false
set_option maxRecDepth 100000

theorem add_val {f : Nat} (x y : Fin (Pm f)) : (((x + y).val : Nat) : Int) = if ((x.val : Nat) : Int) < ((Pm f : Nat) : Int) - ((y.val : Nat) : Int) then ((x.val : Nat) : Int) + ((y.val : Nat) : Int) else ((x.val : Nat) : Int) + ((y.val : Nat) : Int) - ((Pm f : Nat) : Int) := by
  rw [val_add]
  have hx := val_pos x
  have hy := val_pos y
  split
  · exact Int.emod_eq_of_lt (by omega) (by omega)
  · rw [← Int.sub_emod_right, Int.emod_eq_of_lt (by omega) (by omega)]

set_option maxHeartbeats 600000 in
theorem ref_AddL {f : Nat} (hf : IsF f) (a0 a1 b0 b1 : Int) (w : World) (h0 : 0 ≤ a0) (h1 : a0 ≤ 18446744073709551615) (k0 : 0 ≤ a1) (k1 : a1 ≤ 18446744073709551615)
    (g0 : 0 ≤ b0) (g1 : b0 ≤ 18446744073709551615) (j0 : 0 ≤ b1) (j1 : b1 ≤ 18446744073709551615) :
    Calls Try.prog 110 #[.int .i64 f, .agg #[.int .u64 a0, .int .u64 a1], .agg #[.int .u64 b0, .int .u64 b1]] w (RetK (kL f a0 a1 + kL f b0 b1) w) := by
  have hOa := fun wz => ref_OfL hf a0 a1 wz h0 h1 k0 k1
  have hOb := fun wz => ref_OfL hf b0 b1 wz g0 g1 j0 j1
  generalize kL f a0 a1 = x at *
  generalize kL f b0 b1 = y at *
  obtain ⟨p0, p1, hr⟩ := (FM.ofN hf).ref
  have hp : 0 ≤ p0 ∧ p0 ≤ 18446744073709551615 ∧ 0 ≤ p1 ∧ p1 ≤ 18446744073709551615 ∧ ((Pm f : Nat) : Int) = p0 + 18446744073709551616 * p1 := by
    rcases hr.or with ⟨_, rfl, rfl, h⟩ | ⟨_, rfl, rfl, h⟩ <;> omega
  obtain ⟨hp0, hp1, hp2, hp3, hpm'⟩ := hp
  have hx := val_pos x
  have hy := val_pos y
  have hxl := val_lohi x
  have hyl := val_lohi y
  have hPl := Pm_lt f
  have hxy := add_val x y
  obtain ⟨r0, r1, hrn, hr0, hr1, hr2, hr3⟩ := limbs2 (((Pm f : Nat) : Int) - ((y.val : Nat) : Int)) (by omega) (by omega)
  have HP : ∀ wz, Calls Try.prog 105 #[.int .i64 f] wz (fun e w' => e = .returned (.agg #[.int .u64 p0, .int .u64 p1]) ∧ Below wz.heap.size wz w') := fun wz => ref_P f _ p0 p1 wz hr
  have HT : ∀ wz, Calls Try.prog 106 #[.agg #[.int .u64 p0, .int .u64 p1], vK y] wz (fun e w' => e = .returned (.agg #[.int .u64 r0, .int .u64 r1]) ∧ Below wz.heap.size wz w') := fun wz =>
    (ref_take p0 p1 (lo y) (hi y) wz (by omega) (by omega) (lo_0 y) (lo_1 y) (by omega) (by omega) (hi_0 y) (hi_1 y)).mono fun e w' h => h.det (by rw [hyl, ← hpm', hrn, Int.emod_eq_of_lt (by omega) (by omega)]) hr0 hr1
  have HL : ∀ wz, Calls Try.prog 104 #[vK x, .agg #[.int .u64 r0, .int .u64 r1]] wz (fun e w' => e = .returned (.bool (decide (((x.val : Nat) : Int) < ((Pm f : Nat) : Int) - ((y.val : Nat) : Int)))) ∧ Below wz.heap.size wz w') := fun wz => by
    have h := ref_Less (lo x) (hi x) r0 r1 wz (lo_0 x) (lo_1 x) hr0 hr1
    rwa [hxl, hrn] at h
  have H1 := Lib.hid hOa
  have H2 := Lib.hid hOb
  have H3 := Lib.hid HP
  have H4 := Lib.hid HT
  have H5 := Lib.hid HL
  have H6 : Hid (((x.val : Nat) : Int) < ((Pm f : Nat) : Int) - ((y.val : Nat) : Int) → ∀ wz, Calls Try.prog 151 #[vK x, vK y] wz (RetK (x + y) wz)) := by
    intro hlt wz
    have h := ref_plus (lo x) (hi x) (lo y) (hi y) wz (lo_0 x) (lo_1 x) (lo_0 y) (lo_1 y) (hi_0 x) (hi_1 x) (hi_0 y) (hi_1 y) (by rw [hxl, hyl]; omega)
    rw [hxl, hyl] at h
    rw [if_pos hlt] at hxy
    exact h.mono fun e w' h => h.det (by rw [val_lohi, hxy]) (lo_0 _) (lo_1 _)
  have H7 : Hid (¬ ((x.val : Nat) : Int) < ((Pm f : Nat) : Int) - ((y.val : Nat) : Int) → ∀ wz, Calls Try.prog 106 #[vK x, .agg #[.int .u64 r0, .int .u64 r1]] wz (RetK (x + y) wz)) := by
    intro hlt wz
    have h := ref_take (lo x) (hi x) r0 r1 wz (lo_0 x) (lo_1 x) hr0 hr1 (hi_0 x) (hi_1 x) hr2 hr3
    rw [hxl, hrn] at h
    rw [if_neg hlt] at hxy
    exact h.mono fun e w' h => h.det (by rw [val_lohi, hxy, Int.emod_eq_of_lt (by omega) (by omega)]; omega) (lo_0 _) (lo_1 _)
  clear hOa hOb HP HT HL hxy hrn hyl hxl hpm' hx hy hPl
  go_enter Try.func110, Try.ntmps110
  go_wp2_with fail
  have q0 := ((V2.new w (.int .u64 a0) (.int .u64 a1) 41).alloc (.cells #[.int .u64 b0, .int .u64 b1] 41)).alloc (.cells #[.int .u64 0, .int .u64 0] 41)
  have t0 := (V2.new (w.alloc (.cells #[.int .u64 a0, .int .u64 a1] 41)) (.int .u64 b0) (.int .u64 b1) 41).alloc (.cells #[.int .u64 0, .int .u64 0] 41)
  have s0 := V2.new ((w.alloc (.cells #[.int .u64 a0, .int .u64 a1] 41)).alloc (.cells #[.int .u64 b0, .int .u64 b1] 41)) (.int .u64 0) (.int .u64 0) 41
  simp only [World.size_alloc] at t0 s0
  have hb00 : Below w.heap.size w (((w.alloc (.cells #[.int .u64 a0, .int .u64 a1] 41)).alloc (.cells #[.int .u64 b0, .int .u64 b1] 41)).alloc (.cells #[.int .u64 0, .int .u64 0] 41)) := by repeat (first | exact Below.refl _ _ | with_reducible assumption | (refine bl_alloc ?_ (Nat.le_refl _) _) | (refine bl_set ?_ (by dsimp only; omega) _) | (refine Below.drew ?_) | (refine bl_drewN ?_ _) | (refine bl_call ?_ (Nat.le_refl _) (by assumption)))
  have hsz : w.heap.size + 3 ≤ (((w.alloc (.cells #[.int .u64 a0, .int .u64 a1] 41)).alloc (.cells #[.int .u64 b0, .int .u64 b1] 41)).alloc (.cells #[.int .u64 0, .int .u64 0] 41)).heap.size := by simp only [World.size_alloc]; omega
  generalize ((w.alloc (.cells #[.int .u64 a0, .int .u64 a1] 41)).alloc (.cells #[.int .u64 b0, .int .u64 b1] 41)).alloc (.cells #[.int .u64 0, .int .u64 0] 41) = w1 at *
  have q01 := q0
  obtain ⟨c0, c1, c2, c3, c4⟩ := q01
  have t01 := t0
  obtain ⟨d0, d1, d2, d3, d4⟩ := t01
  refine region_B (n := 6) (m := 8) (f := 6) (by kernel_rfl) (by kernel_rfl) rfl ?_
  refine WpH.takeB (i := 0) (v := ?_) rfl (by kernel_rfl) (fun _ _ _ h => h) (.val rfl (fun wz hwz => ?_)) ?_
  rotate_left
  · go_simp; try (with_reducible rfl)
  (simp only [Act.put]); (try simp only [List.setIfInBounds_toArray]); (try simp only [List.set_cons_succ]); (try simp only [List.set_cons_zero])
  refine WpH.takeB (i := 1) (v := ?_) rfl (by kernel_rfl) (fun _ _ _ h => h) (.val rfl (fun wz hwz => ?_)) ?_
  rotate_left
  · (obtain ⟨hcz, hfz⟩ := bcell hwz; go_simp; try (with_reducible rfl))
  (simp only [Act.put]); (try simp only [List.setIfInBounds_toArray]); (try simp only [List.set_cons_succ]); (try simp only [List.set_cons_zero])
  refine WpH.takeB (i := 2) rfl (by kernel_rfl) (fun _ _ _ h => h) (.call rfl (fun wz hwz => H1.out wz) (fun wz hwz => ?_)) ?_
  · go_simp; try (with_reducible rfl)
  (simp only [Act.put]); (try simp only [List.setIfInBounds_toArray]); (try simp only [List.set_cons_succ]); (try simp only [List.set_cons_zero])
  refine WpH.takeB (i := 3) (v := ?_) rfl (by kernel_rfl) (fun _ _ _ h => h) (.val rfl (fun wz hwz => ?_)) ?_
  rotate_left
  · go_simp; try (with_reducible rfl)
  (simp only [Act.put]); (try simp only [List.setIfInBounds_toArray]); (try simp only [List.set_cons_succ]); (try simp only [List.set_cons_zero])
  refine WpH.takeB (i := 4) (v := ?_) rfl (by kernel_rfl) (fun _ _ _ h => h) (.val rfl (fun wz hwz => ?_)) ?_
  rotate_left
  · (obtain ⟨hcz, hfz⟩ := bcell hwz; go_simp; try (with_reducible rfl))
  (simp only [Act.put]); (try simp only [List.setIfInBounds_toArray]); (try simp only [List.set_cons_succ]); (try simp only [List.set_cons_zero])
  refine WpH.takeB (i := 5) rfl (by kernel_rfl) (fun _ _ _ h => h) (.call rfl (fun wz hwz => H2.out wz) (fun wz hwz => ?_)) ?_
  · go_simp; try (with_reducible rfl)
  (simp only [Act.put]); (try simp only [List.setIfInBounds_toArray]); (try simp only [List.set_cons_succ]); (try simp only [List.set_cons_zero])
  refine WpH.doneB (by kernel_rfl) (fun w2 hw2 => ?_)
  (try simp only [List.drop_succ_cons]); (try simp only [List.drop_zero]); (try simp only [Nat.reduceSub]); (try simp only [List.take_succ_cons]); (try simp only [List.take_zero])
  replace q0 := q0.call hw2
  replace t0 := t0.call hw2
  replace s0 := s0.call hw2
  replace hb00 := bl_call hb00 (Nat.le_refl _) hw2
  clear c0 c1 c2 c3 c4 d0 d1 d2 d3 d4 hsz hw2
  obtain ⟨c0, c1, c2, c3, c4⟩ := V2.mk q0.c0 q0.c1 q0.f0 q0.f1 q0.lt
  obtain ⟨d0, d1, d2, d3, d4⟩ := V2.mk t0.c0 t0.c1 t0.f0 t0.f1 t0.lt
  go_wp2_with fail
  clear c0 c1 c2 c3 c4 d0 d1 d2 d3 d4
  replace q0 : V2 ((w2.setCell ⟨w.heap.size, 0, none⟩ (.int .u64 (lo x))).setCell ⟨w.heap.size, 1, none⟩ (.int .u64 (hi x))) (w.heap.size) (.int .u64 (lo x)) (.int .u64 (hi x)) := V2.set q0 _ _
  replace t0 := V2.oth t0 (b := w.heap.size) (by omega) (.int .u64 (lo x)) (.int .u64 (hi x))
  replace s0 := V2.oth s0 (b := w.heap.size) (by omega) (.int .u64 (lo x)) (.int .u64 (hi x))
  replace hb00 := bl_st hb00 (b := w.heap.size) (by omega) (.int .u64 (lo x)) (.int .u64 (hi x))
  replace q0 := V2.oth q0 (b := w.heap.size+1) (by omega) (.int .u64 (lo y)) (.int .u64 (hi y))
  replace t0 : V2 ((((w2.setCell ⟨w.heap.size, 0, none⟩ (.int .u64 (lo x))).setCell ⟨w.heap.size, 1, none⟩ (.int .u64 (hi x))).setCell ⟨w.heap.size+1, 0, none⟩ (.int .u64 (lo y))).setCell ⟨w.heap.size+1, 1, none⟩ (.int .u64 (hi y))) (w.heap.size+1) (.int .u64 (lo y)) (.int .u64 (hi y)) := V2.set t0 _ _
  replace s0 := V2.oth s0 (b := w.heap.size+1) (by omega) (.int .u64 (lo y)) (.int .u64 (hi y))
  replace hb00 := bl_st hb00 (b := w.heap.size+1) (by omega) (.int .u64 (lo y)) (.int .u64 (hi y))
  generalize ((((w2.setCell ⟨w.heap.size, 0, none⟩ (.int .u64 (lo x))).setCell ⟨w.heap.size, 1, none⟩ (.int .u64 (hi x))).setCell ⟨w.heap.size+1, 0, none⟩ (.int .u64 (lo y))).setCell ⟨w.heap.size+1, 1, none⟩ (.int .u64 (hi y))) = w3 at q0 t0 s0 hb00 ⊢
  have q31 := q0
  obtain ⟨c0, c1, c2, c3, c4⟩ := q31
  have t31 := t0
  obtain ⟨d0, d1, d2, d3, d4⟩ := t31
  have e4 := s0.lt
  have hNew := newE_stable (w.heap.size+3)
  refine region_N (n := 5) (m := 6) (f := 5) 4 7 (NewE (w.heap.size+3)) (by kernel_rfl) (by kernel_rfl) rfl ?_
  refine WpH.takeN hNew (i := 0) (v := ?_) rfl (by kernel_rfl) rfl rfl (fun _ _ _ h => h) (.val rfl (fun wz hwz => ?_)) ?_
  rotate_left
  · go_simp; try (with_reducible rfl)
  (simp only [Act.put]); (try simp only [List.setIfInBounds_toArray]); (try simp only [List.set_cons_succ]); (try simp only [List.set_cons_zero])
  refine WpH.takeN hNew (i := 1) rfl (by kernel_rfl) rfl rfl (fun _ _ _ h => h) (.call rfl (fun wz hwz => H3.out wz) (fun wz hwz => ?_)) ?_
  · go_simp; try (with_reducible rfl)
  (simp only [Act.put]); (try simp only [List.setIfInBounds_toArray]); (try simp only [List.set_cons_succ]); (try simp only [List.set_cons_zero])
  refine WpH.takeN hNew (i := 2) (v := ?_) rfl (by kernel_rfl) rfl rfl (fun _ _ _ h => h) (.val rfl (fun wz hwz => ?_)) ?_
  rotate_left
  · (obtain ⟨hcz, hfz⟩ := bcell hwz; go_simp; try (with_reducible rfl))
  (simp only [Act.put]); (try simp only [List.setIfInBounds_toArray]); (try simp only [List.set_cons_succ]); (try simp only [List.set_cons_zero])
  refine WpH.takeN hNew (i := 3) rfl (by kernel_rfl) rfl rfl (fun _ _ _ h => h) (.call rfl (fun wz hwz => H4.out wz) (fun wz hwz => ?_)) ?_
  · go_simp; try (with_reducible rfl)
  (simp only [Act.put]); (try simp only [List.setIfInBounds_toArray]); (try simp only [List.set_cons_succ]); (try simp only [List.set_cons_zero])
  refine WpH.one (i := 4) (by kernel_rfl) (fun w2 hw2 => ?_)
  refine wpOp_value rfl rfl (by go_simp; first | rfl | exact ⟨rfl, rfl⟩) ⟨⟨hw2.1.trans (((Below.refl _ _).alloc (Nat.le_refl _) _).mono hw2.1.size), fun _ => ⟨_, rfl, (by have hsz2 := hw2.1.size; (try simp only [World.size_alloc] at hsz2); omega), V2.new _ _ _ _⟩⟩, ?_⟩
  (simp only [Act.put]); (try simp only [List.setIfInBounds_toArray]); (try simp only [List.set_cons_succ]); (try simp only [List.set_cons_zero])
  refine WpH.done (by kernel_rfl) (fun w4 hw4n => ?_)
  obtain ⟨hw4, hnw4⟩ := hw4n
  obtain ⟨b, hbew4, hBb, hVb⟩ := hnw4 rfl
  simp at hbew4
  rw [hbew4]
  clear hNew hnw4 hw2 hbew4 w2
  (try simp only [List.drop_succ_cons]); (try simp only [List.drop_zero]); (try simp only [Nat.reduceSub]); (try simp only [List.take_succ_cons]); (try simp only [List.take_zero])
  replace q0 := q0.call hw4
  replace t0 := t0.call hw4
  replace s0 := s0.call hw4
  replace hb00 := bl_call hb00 (Nat.le_refl _) hw4
  clear c0 c1 c2 c3 c4 d0 d1 d2 d3 d4 hw4 e4
  have v01 := hVb
  obtain ⟨v0, v1, v2, v3, v4⟩ := v01
  go_upto_region 3 with fail
  clear v0 v1 v2 v3 v4
  replace hVb : V2 ((w4.setCell ⟨b, 0, none⟩ (.int .u64 r0)).setCell ⟨b, 1, none⟩ (.int .u64 r1)) (b) (.int .u64 r0) (.int .u64 r1) := V2.set hVb _ _
  replace q0 := V2.oth q0 (b := b) (by omega) (.int .u64 r0) (.int .u64 r1)
  replace t0 := V2.oth t0 (b := b) (by omega) (.int .u64 r0) (.int .u64 r1)
  replace s0 := V2.oth s0 (b := b) (by omega) (.int .u64 r0) (.int .u64 r1)
  replace hb00 := bl_st hb00 (b := b) (by omega) (.int .u64 r0) (.int .u64 r1)
  generalize ((w4.setCell ⟨b, 0, none⟩ (.int .u64 r0)).setCell ⟨b, 1, none⟩ (.int .u64 r1)) = w5 at hVb q0 t0 s0 hb00 ⊢
  obtain ⟨v0, v1, v2, v3, v4⟩ := hVb
  obtain ⟨c0, c1, c2, c3, c4⟩ := q0
  obtain ⟨d0, d1, d2, d3, d4⟩ := t0
  by_cases hlt : ((x.val : Nat) : Int) < ((Pm f : Nat) : Int) - ((y.val : Nat) : Int)
  · have hd : decide (((x.val : Nat) : Int) < ((Pm f : Nat) : Int) - ((y.val : Nat) : Int)) = true := decide_eq_true hlt
    go_wp2_with (first
      | (go_at_call 104; refine (H5.out _).mono ?_; rintro e w5 ⟨rfl, hb5⟩; obtain ⟨c0, c1, c2, c3, c4⟩ := V2.call ⟨c0, c1, c2, c3, c4⟩ hb5; obtain ⟨d0, d1, d2, d3, d4⟩ := V2.call ⟨d0, d1, d2, d3, d4⟩ hb5; have s5 := s0.call hb5)
      | (go_at_call 151; refine (H6.out hlt _).mono ?_; rintro e w6 ⟨rfl, hb6⟩; obtain ⟨e0, e1, e2, e3, e4⟩ := s5.call hb6))
    refine bodyPost_ret (results_v2 (b := w.heap.size + 1 + 1) (u := .int .u64 (lo (x + y))) (v := .int .u64 (hi (x + y))) ?_ rfl rfl) rfl ⟨rfl, by repeat (first | exact Below.refl _ _ | with_reducible assumption | (refine bl_alloc ?_ (Nat.le_refl _) _) | (refine bl_set ?_ (by dsimp only; omega) _) | (refine Below.drew ?_) | (refine bl_drewN ?_ _) | (refine bl_call ?_ (Nat.le_refl _) (by assumption)))⟩
    exact V2.set ⟨e0, e1, e2, e3, e4⟩ _ _
  · have hd : decide (((x.val : Nat) : Int) < ((Pm f : Nat) : Int) - ((y.val : Nat) : Int)) = false := decide_eq_false hlt
    go_wp2_with (first
      | (go_at_call 104; refine (H5.out _).mono ?_; rintro e w5 ⟨rfl, hb5⟩; obtain ⟨c0, c1, c2, c3, c4⟩ := V2.call ⟨c0, c1, c2, c3, c4⟩ hb5; obtain ⟨v0, v1, v2, v3, v4⟩ := V2.call ⟨v0, v1, v2, v3, v4⟩ hb5; have s5 := s0.call hb5)
      | (go_at_call 106; refine (H7.out (by omega) _).mono ?_; rintro e w6 ⟨rfl, hb6⟩; obtain ⟨e0, e1, e2, e3, e4⟩ := s5.call hb6))
    refine bodyPost_ret (results_v2 (b := w.heap.size + 1 + 1) (u := .int .u64 (lo (x + y))) (v := .int .u64 (hi (x + y))) ?_ rfl rfl) rfl ⟨rfl, by repeat (first | exact Below.refl _ _ | with_reducible assumption | (refine bl_alloc ?_ (Nat.le_refl _) _) | (refine bl_set ?_ (by dsimp only; omega) _) | (refine Below.drew ?_) | (refine bl_drewN ?_ _) | (refine bl_call ?_ (Nat.le_refl _) (by assumption)))⟩
    exact V2.set ⟨e0, e1, e2, e3, e4⟩ _ _

end Go.Proofs.Ytgambjmjbmdciaa
