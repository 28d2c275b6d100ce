/-
  WALKS: the reference's Neg, Sub.
-/
import Derived.Test.YtgambjmjbmdciaaRef2
import Derived.Test.YtgambjmjbmdciaaElemEq
namespace Go.Proofs.Ytgambjmjbmdciaa
open Go.RowKit Fm
set_option linter.unusedVariables false
set_option maxRecDepth 100000

theorem lohi_zero {f : Nat} (x : Fin (Pm f)) : (lo x == 0 && hi x == 0) = decide (x = 0) := by
  by_cases h : x = 0
  · subst h
    rw [lo_zero, hi_zero]
    simp
  · rw [decide_eq_false h, Bool.and_eq_false_iff, beq_eq_false_iff_ne, beq_eq_false_iff_ne]
    by_cases h0 : lo x = 0
    · right
      intro h1
      exact h (lohi_inj (by rw [h0, lo_zero]) (by rw [h1, hi_zero]))
    · exact .inl h0

set_option maxHeartbeats 1000000 in
theorem ref_NegL {f : Nat} (hf : IsF f) (a0 a1 : Int) (w : World) (h0 : 0 ≤ a0) (h1 : a0 ≤ 18446744073709551615) (k0 : 0 ≤ a1) (k1 : a1 ≤ 18446744073709551615) :
    Calls Try.prog 169 #[.int .i64 f, .agg #[.int .u64 a0, .int .u64 a1]] w (RetK (- kL f a0 a1) w) := by
  have heq := eql_elem
  have hOa := fun wz => ref_OfL hf a0 a1 wz h0 h1 k0 k1
  generalize kL f a0 a1 = x at *
  obtain ⟨p0, p1, hr⟩ := (FM.ofN hf).ref
  have hp : 0 ≤ p0 ∧ p0 ≤ 18446744073709551615 ∧ 0 ≤ p1 ∧ p1 ≤ 18446744073709551615 ∧ ((Pm f : Nat) : Int) = p0 + 18446744073709551616 * p1 := by
    rcases hr.or with ⟨_, rfl, rfl, h⟩ | ⟨_, rfl, rfl, h⟩ <;> omega
  obtain ⟨hp0, hp1, hp2, hp3, hpm'⟩ := hp
  have HP : ∀ wz, Calls Try.prog 105 #[.int .i64 f] wz (fun e w' => e = .returned (.agg #[.int .u64 p0, .int .u64 p1]) ∧ Below wz.heap.size wz w') := fun wz => ref_P f _ p0 p1 wz hr
  have H1 := Lib.hid hOa
  have H3 := Lib.hid HP
  have HPM := Lib.hid hpm'
  clear hOa HP hpm'
  by_cases hx : x = 0
  · subst hx
    rw [show -(0 : Fin (Pm f)) = 0 by grind]
    have hz0 : lo (0 : Fin (Pm f)) = 0 := lo_zero
    have hz1 : hi (0 : Fin (Pm f)) = 0 := hi_zero
    go_enter Try.func169, Try.ntmps169
    go_upto_region 1 with fail
    have q0 := (V2.new w (.int .u64 a0) (.int .u64 a1) 41).alloc (.cells #[(.int .u64 0), (.int .u64 0)] 41)
    have s0 := V2.new (w.alloc (.cells #[(.int .u64 a0), (.int .u64 a1)] 41)) (.int .u64 0) (.int .u64 0) 41
    simp only [World.size_alloc] at s0
    have hb00 : Below w.heap.size w ((w.alloc (.cells #[(.int .u64 a0), (.int .u64 a1)] 41)).alloc (.cells #[(.int .u64 0), (.int .u64 0)] 41)) := by repeat (first | exact Below.refl _ _ | with_reducible assumption | (refine bl_alloc ?_ (Nat.le_refl _) _))
    have hsz : w.heap.size + 2 ≤ ((w.alloc (.cells #[(.int .u64 a0), (.int .u64 a1)] 41)).alloc (.cells #[(.int .u64 0), (.int .u64 0)] 41)).heap.size := by simp only [World.size_alloc]; omega
    generalize ((w.alloc (.cells #[(.int .u64 a0), (.int .u64 a1)] 41)).alloc (.cells #[(.int .u64 0), (.int .u64 0)] 41)) = w1 at q0 s0 hb00 hsz ⊢
    obtain ⟨c0, c1, c2, c3, c4⟩ := q0
    go_wp2_with (go_at_call 33; refine (H1.out _).mono ?_; rintro e w5 ⟨rfl, hb5⟩; obtain ⟨c0, c1, c2, c3, c4⟩ := V2.call ⟨c0, c1, c2, c3, c4⟩ hb5; obtain ⟨e0, e1, e2, e3, e4⟩ := s0.call hb5)
    refine bodyPost_ret (results_v2 (b := w.heap.size + 1) (u := .int .u64 0) (v := .int .u64 0) ?_ rfl rfl) rfl ⟨by rw [vK_zero], by repeat (first | exact Below.refl _ _ | with_reducible assumption | (refine bl_alloc ?_ (Nat.le_refl _) _) | (refine bl_set ?_ (by dsimp only; omega) _) | (refine Below.drew ?_) | (refine bl_drewN ?_ _) | (refine bl_call ?_ (Nat.le_refl _) (by assumption)))⟩
    exact V2.set (V2.oth ⟨e0, e1, e2, e3, e4⟩ (by omega) _ _) _ _
  · have hd : (lo x == 0 && hi x == 0) = false := by rw [lohi_zero, decide_eq_false hx]
    have HT : ∀ wz, Calls Try.prog 106 #[.agg #[.int .u64 p0, .int .u64 p1], vK x] wz (RetK (-x) wz) := fun wz =>
      (ref_take p0 p1 (lo x) (hi x) wz (by omega) (by omega) (lo_0 x) (lo_1 x) (by omega) (by omega) (hi_0 x) (hi_1 x)).mono fun e w' h => h.det (by
        have hv := val_pos x
        have hv2 := val_pos (-x)
        have hPl := Pm_lt f
        have hn := val_neg x hx
        rw [val_lohi, val_lohi, ← HPM.out, ← hn, Int.emod_eq_of_lt (by omega) (by omega)]) (lo_0 _) (lo_1 _)
    have H4 := Lib.hid HT
    clear HT
    go_enter Try.func169, Try.ntmps169
    go_upto_region 1 with fail
    have q0 := (V2.new w (.int .u64 a0) (.int .u64 a1) 41).alloc (.cells #[(.int .u64 0), (.int .u64 0)] 41)
    have s0 := V2.new (w.alloc (.cells #[(.int .u64 a0), (.int .u64 a1)] 41)) (.int .u64 0) (.int .u64 0) 41
    simp only [World.size_alloc] at s0
    have hb00 : Below w.heap.size w ((w.alloc (.cells #[(.int .u64 a0), (.int .u64 a1)] 41)).alloc (.cells #[(.int .u64 0), (.int .u64 0)] 41)) := by repeat (first | exact Below.refl _ _ | with_reducible assumption | (refine bl_alloc ?_ (Nat.le_refl _) _))
    have hsz : w.heap.size + 2 ≤ ((w.alloc (.cells #[(.int .u64 a0), (.int .u64 a1)] 41)).alloc (.cells #[(.int .u64 0), (.int .u64 0)] 41)).heap.size := by simp only [World.size_alloc]; omega
    generalize ((w.alloc (.cells #[(.int .u64 a0), (.int .u64 a1)] 41)).alloc (.cells #[(.int .u64 0), (.int .u64 0)] 41)) = w1 at q0 s0 hb00 hsz ⊢
    obtain ⟨c0, c1, c2, c3, c4⟩ := q0
    go_upto_region 2 with (go_at_call 33; refine (H1.out _).mono ?_; rintro e w5 ⟨rfl, hb5⟩; obtain ⟨c0, c1, c2, c3, c4⟩ := V2.call ⟨c0, c1, c2, c3, c4⟩ hb5; have s5 := s0.call hb5; have hb6 := bl_call hb00 (Nat.le_refl _) hb5)
    have q5 : V2 w5 w.heap.size (.int .u64 a0) (.int .u64 a1) := ⟨c0, c1, c2, c3, c4⟩
    clear c0 c1 c2 c3 c4 hb5
    replace q5 : V2 ((w5.setCell ⟨w.heap.size, 0, none⟩ (.int .u64 (lo x))).setCell ⟨w.heap.size, 1, none⟩ (.int .u64 (hi x))) (w.heap.size) (.int .u64 (lo x)) (.int .u64 (hi x)) := V2.set q5 _ _
    replace s5 := V2.oth s5 (b := w.heap.size) (by omega) (.int .u64 (lo x)) (.int .u64 (hi x))
    replace hb6 := bl_st hb6 (b := w.heap.size) (by omega) (.int .u64 (lo x)) (.int .u64 (hi x))
    generalize ((w5.setCell ⟨w.heap.size, 0, none⟩ (.int .u64 (lo x))).setCell ⟨w.heap.size, 1, none⟩ (.int .u64 (hi x))) = w6 at q5 s5 hb6 ⊢
    have q6 := q5
    obtain ⟨c0, c1, c2, c3, c4⟩ := q6
    have hlt := s5.lt
    go_wp2_with fail
    refine region_B (n := 4) (m := 5) (f := 4) (by kernel_rfl) (by kernel_rfl) rfl ?_
    refine WpH.takeB (i := 0) (v := ?_) rfl (by kernel_rfl) (fun _ _ _ h => h) (.val rfl (fun wz hwz => ?_)) ?_
    rotate_left
    · go_simp; try (with_reducible rfl)
    (simp only [Act.put]); (try simp only [List.setIfInBounds_toArray]); (try simp only [List.set_cons_succ]); (try simp only [List.set_cons_zero])
    refine WpH.takeB (i := 1) rfl (by kernel_rfl) (fun _ _ _ h => h) (.call rfl (fun wz hwz => H3.out wz) (fun wz hwz => ?_)) ?_
    · go_simp; try (with_reducible rfl)
    (simp only [Act.put]); (try simp only [List.setIfInBounds_toArray]); (try simp only [List.set_cons_succ]); (try simp only [List.set_cons_zero])
    refine WpH.takeB (i := 2) (v := ?_) rfl (by kernel_rfl) (fun _ _ _ h => h) (.val rfl (fun wz hwz => ?_)) ?_
    rotate_left
    · (obtain ⟨hcz, hfz⟩ := bcell hwz; go_simp; try (with_reducible rfl))
    (simp only [Act.put]); (try simp only [List.setIfInBounds_toArray]); (try simp only [List.set_cons_succ]); (try simp only [List.set_cons_zero])
    refine WpH.takeB (i := 3) rfl (by kernel_rfl) (fun _ _ _ h => h) (.call rfl (fun wz hwz => H4.out wz) (fun wz hwz => ?_)) ?_
    · go_simp; try (with_reducible rfl)
    (simp only [Act.put]); (try simp only [List.setIfInBounds_toArray]); (try simp only [List.set_cons_succ]); (try simp only [List.set_cons_zero])
    refine WpH.doneB (by kernel_rfl) (fun w7 hw7 => ?_)
    (try simp only [List.drop_succ_cons]); (try simp only [List.drop_zero]); (try simp only [Nat.reduceSub]); (try simp only [List.take_succ_cons]); (try simp only [List.take_zero])
    obtain ⟨e0, e1, e2, e3, e4⟩ := s5.call hw7
    go_wp2_with fail
    refine bodyPost_ret (results_v2 (b := w.heap.size + 1) (u := .int .u64 (lo (-x))) (v := .int .u64 (hi (-x))) ?_ rfl rfl) rfl ⟨rfl, by repeat (first | exact Below.refl _ _ | with_reducible assumption | (refine bl_alloc ?_ (Nat.le_refl _) _) | (refine bl_set ?_ (by dsimp only; omega) _) | (refine Below.drew ?_) | (refine bl_drewN ?_ _) | (refine bl_call ?_ (Nat.le_refl _) (by assumption)))⟩
    exact V2.set ⟨e0, e1, e2, e3, e4⟩ _ _

set_option maxHeartbeats 1000000 in
theorem ref_SubL {f : Nat} (hf : IsF f) (a0 a1 b0 b1 : Int) (w : World) (h0 : 0 ≤ a0) (h1 : a0 ≤ 18446744073709551615) (k0 : 0 ≤ a1) (k1 : a1 ≤ 18446744073709551615)
    (g0 : 0 ≤ b0) (g1 : b0 ≤ 18446744073709551615) (j0 : 0 ≤ b1) (j1 : b1 ≤ 18446744073709551615) :
    Calls Try.prog 144 #[.int .i64 f, .agg #[.int .u64 a0, .int .u64 a1], .agg #[.int .u64 b0, .int .u64 b1]] w (RetK (kL f a0 a1 - kL f b0 b1) w) := by
  have hN := fun wz => ref_NegL hf b0 b1 wz g0 g1 j0 j1
  have hA := fun wz => ref_AddL hf a0 a1 (lo (- kL f b0 b1)) (hi (- kL f b0 b1)) wz h0 h1 k0 k1 (lo_0 _) (lo_1 _) (hi_0 _) (hi_1 _)
  rw [kL_lohi] at hA
  rw [show kL f a0 a1 - kL f b0 b1 = kL f a0 a1 + - kL f b0 b1 by grind]
  generalize - kL f b0 b1 = y at *
  generalize kL f a0 a1 + y = z at *
  have H1 := Lib.hid hN
  have H2 := Lib.hid hA
  clear hN hA
  go_enter Try.func144, Try.ntmps144
  go_upto_region 1 with fail
  have q0 := ((V2.new w (.int .u64 a0) (.int .u64 a1) 41).alloc (.cells #[(.int .u64 b0), (.int .u64 b1)] 41)).alloc (.cells #[(.int .u64 0), (.int .u64 0)] 41)
  have t0 := (V2.new (w.alloc (.cells #[(.int .u64 a0), (.int .u64 a1)] 41)) (.int .u64 b0) (.int .u64 b1) 41).alloc (.cells #[(.int .u64 0), (.int .u64 0)] 41)
  have s0 := V2.new ((w.alloc (.cells #[(.int .u64 a0), (.int .u64 a1)] 41)).alloc (.cells #[(.int .u64 b0), (.int .u64 b1)] 41)) (.int .u64 0) (.int .u64 0) 41
  simp only [World.size_alloc] at t0 s0
  have hb00 : Below w.heap.size w (((w.alloc (.cells #[(.int .u64 a0), (.int .u64 a1)] 41)).alloc (.cells #[(.int .u64 b0), (.int .u64 b1)] 41)).alloc (.cells #[(.int .u64 0), (.int .u64 0)] 41)) := by repeat (first | exact Below.refl _ _ | with_reducible assumption | (refine bl_alloc ?_ (Nat.le_refl _) _))
  have hsz : w.heap.size + 3 ≤ (((w.alloc (.cells #[(.int .u64 a0), (.int .u64 a1)] 41)).alloc (.cells #[(.int .u64 b0), (.int .u64 b1)] 41)).alloc (.cells #[(.int .u64 0), (.int .u64 0)] 41)).heap.size := by simp only [World.size_alloc]; omega
  generalize (((w.alloc (.cells #[(.int .u64 a0), (.int .u64 a1)] 41)).alloc (.cells #[(.int .u64 b0), (.int .u64 b1)] 41)).alloc (.cells #[(.int .u64 0), (.int .u64 0)] 41)) = w1 at q0 t0 s0 hb00 hsz ⊢
  obtain ⟨c0, c1, c2, c3, c4⟩ := q0
  obtain ⟨d0, d1, d2, d3, d4⟩ := t0
  refine region_B (n := 6) (m := 7) (f := 6) (by kernel_rfl) (by kernel_rfl) rfl ?_
  refine WpH.takeB (i := 0) (v := ?_) rfl (by kernel_rfl) (fun _ _ _ h => h) (.val rfl (fun wz hwz => ?_)) ?_
  rotate_left
  · go_simp; try (with_reducible rfl)
  (simp only [Act.put]); (try simp only [List.setIfInBounds_toArray]); (try simp only [List.set_cons_succ]); (try simp only [List.set_cons_zero])
  refine WpH.takeB (i := 1) (v := ?_) rfl (by kernel_rfl) (fun _ _ _ h => h) (.val rfl (fun wz hwz => ?_)) ?_
  rotate_left
  · (obtain ⟨hcz, hfz⟩ := bcell hwz; go_simp; try (with_reducible rfl))
  (simp only [Act.put]); (try simp only [List.setIfInBounds_toArray]); (try simp only [List.set_cons_succ]); (try simp only [List.set_cons_zero])
  refine WpH.takeB (i := 2) (v := ?_) rfl (by kernel_rfl) (fun _ _ _ h => h) (.val rfl (fun wz hwz => ?_)) ?_
  rotate_left
  · go_simp; try (with_reducible rfl)
  (simp only [Act.put]); (try simp only [List.setIfInBounds_toArray]); (try simp only [List.set_cons_succ]); (try simp only [List.set_cons_zero])
  refine WpH.takeB (i := 3) (v := ?_) rfl (by kernel_rfl) (fun _ _ _ h => h) (.val rfl (fun wz hwz => ?_)) ?_
  rotate_left
  · (obtain ⟨hcz, hfz⟩ := bcell hwz; go_simp; try (with_reducible rfl))
  (simp only [Act.put]); (try simp only [List.setIfInBounds_toArray]); (try simp only [List.set_cons_succ]); (try simp only [List.set_cons_zero])
  refine WpH.takeB (i := 4) rfl (by kernel_rfl) (fun _ _ _ h => h) (.call rfl (fun wz hwz => H1.out wz) (fun wz hwz => ?_)) ?_
  · go_simp; try (with_reducible rfl)
  (simp only [Act.put]); (try simp only [List.setIfInBounds_toArray]); (try simp only [List.set_cons_succ]); (try simp only [List.set_cons_zero])
  refine WpH.takeB (i := 5) rfl (by kernel_rfl) (fun _ _ _ h => h) (.call rfl (fun wz hwz => H2.out wz) (fun wz hwz => ?_)) ?_
  · go_simp; try (with_reducible rfl)
  (simp only [Act.put]); (try simp only [List.setIfInBounds_toArray]); (try simp only [List.set_cons_succ]); (try simp only [List.set_cons_zero])
  refine WpH.doneB (by kernel_rfl) (fun w7 hw7 => ?_)
  (try simp only [List.drop_succ_cons]); (try simp only [List.drop_zero]); (try simp only [Nat.reduceSub]); (try simp only [List.take_succ_cons]); (try simp only [List.take_zero])
  obtain ⟨e0, e1, e2, e3, e4⟩ := s0.call hw7
  go_wp2_with fail
  refine bodyPost_ret (results_v2 (b := w.heap.size + 1 + 1) (u := .int .u64 (lo z)) (v := .int .u64 (hi z)) ?_ rfl rfl) rfl ⟨rfl, by repeat (first | exact Below.refl _ _ | with_reducible assumption | (refine bl_alloc ?_ (Nat.le_refl _) _) | (refine bl_set ?_ (by dsimp only; omega) _) | (refine Below.drew ?_) | (refine bl_drewN ?_ _) | (refine bl_call ?_ (Nat.le_refl _) (by assumption)))⟩
  exact V2.set ⟨e0, e1, e2, e3, e4⟩ _ _

section
variable {f : Nat} (hf : IsF f)
include hf
theorem ref_AddK (x y : Fin (Pm f)) (w : World) : Calls Try.prog 110 #[.int .i64 f, vK x, vK y] w (RetK (x + y) w) := by
  have h := ref_AddL hf (lo x) (hi x) (lo y) (hi y) w (lo_0 x) (lo_1 x) (hi_0 x) (hi_1 x) (lo_0 y) (lo_1 y) (hi_0 y) (hi_1 y)
  rwa [kL_lohi, kL_lohi] at h
theorem ref_SubK (x y : Fin (Pm f)) (w : World) : Calls Try.prog 144 #[.int .i64 f, vK x, vK y] w (RetK (x - y) w) := by
  have h := ref_SubL hf (lo x) (hi x) (lo y) (hi y) w (lo_0 x) (lo_1 x) (hi_0 x) (hi_1 x) (lo_0 y) (lo_1 y) (hi_0 y) (hi_1 y)
  rwa [kL_lohi, kL_lohi] at h
theorem ref_NegK (x : Fin (Pm f)) (w : World) : Calls Try.prog 169 #[.int .i64 f, vK x] w (RetK (-x) w) := by
  have h := ref_NegL hf (lo x) (hi x) w (lo_0 x) (lo_1 x) (hi_0 x) (hi_1 x)
  rwa [kL_lohi] at h
end

end Go.Proofs.Ytgambjmjbmdciaa
