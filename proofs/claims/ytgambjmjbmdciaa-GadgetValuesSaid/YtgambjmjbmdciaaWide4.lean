/-
  WALKS: package wide: Neg, Sub.
-/
import Derived.Test.YtgambjmjbmdciaaWide3
import Derived.Test.YtgambjmjbmdciaaElemEq
namespace Go.Proofs.Ytgambjmjbmdciaa
open Go.RowKit Fm
set_option linter.unusedVariables false
set_option maxRecDepth 100000

theorem neg_fin (p n x r : Int) (hx : x = n % p) (hp : 0 < p) (hr : (x = 0 ∧ r = 0) ∨ (x ≠ 0 ∧ r = p - x)) : r = (-n) % p := by
  have h0 := Int.emod_nonneg n (b := p) (by omega)
  have h1 := Int.emod_lt_of_pos n hp
  have e : (-n) % p = (-x) % p := by
    have h : -n = -x + p * (-(n / p)) := by
      rw [hx, Int.emod_def, Int.mul_neg]
      omega
    rw [h, Int.add_mul_emod_self_left]
  rw [e]
  rcases hr with ⟨h, h'⟩ | ⟨h, h'⟩
  · rw [h, h']; simp
  · rw [h', ← Int.add_emod_left, Int.emod_eq_of_lt (by omega) (by omega)]
    omega

set_option maxHeartbeats 4000000 in
theorem wide_Neg (a0 a1 : Int) (w : World) (h0 : 0 ≤ a0) (h1 : a0 ≤ 18446744073709551615) (k0 : 0 ≤ a1) (k1 : a1 ≤ 18446744073709551615) :
    Calls Try.prog 171 #[.agg #[.int .u64 a0, .int .u64 a1]] w (RetE ((-(a0 + 18446744073709551616 * a1)) % 340282366920938462946865773367900766209) w) := by
  have heq := eql_elem
  go_enter Try.func171, Try.ntmps171
  go_wp2_with fail
  refine (Of_any a0 a1 _ h0 h1 k0 k1).mono ?_
  rintro e w1 ⟨x0, x1, rfl, ⟨hx0, hx1, hx2, hx3⟩, HX, hb1⟩
  have q1 := ((V2.new w (.int .u64 a0) (.int .u64 a1) 41).alloc (.cells #[.int .u64 0, .int .u64 0] 41)).call hb1
  have s0 := V2.new (w.alloc (.cells #[.int .u64 a0, .int .u64 a1] 41)) (.int .u64 0) (.int .u64 0) 41
  have s1 := s0.call hb1
  simp only [World.size_alloc] at s1
  clear s0
  have p1 := q1.set (.int .u64 x0) (.int .u64 x1)
  have s2 := V2.setOther (V2.setOther s1 (p := ⟨w.heap.size, 0, none⟩) (by dsimp only; omega) (.int .u64 x0)) (p := ⟨w.heap.size, 1, none⟩) (by dsimp only; omega) (.int .u64 x1)
  have hp := p1
  obtain ⟨c10, c11, c12, c13, c14⟩ := q1
  obtain ⟨c20, c21, c22, c23, c24⟩ := hp
  have hxm : x0 + 18446744073709551616 * x1 < 340282366920938462946865773367900766209 := by
    rw [HX.out]
    exact Int.emod_lt_of_pos _ (by omega)
  by_cases hz : x0 = 0 ∧ x1 = 0
  · obtain ⟨rfl, rfl⟩ := hz
    have hs2 := s2
    obtain ⟨d20, d21, d22, d23, d24⟩ := hs2
    go_wp2
    refine bodyPost_ret (results_v2 (b := w.heap.size + 1) (u := .int .u64 0) (v := .int .u64 0) ?_ rfl rfl) rfl ?_
    · exact V2.set s2 _ _
    · exact ⟨_, _, rfl, by omega, neg_fin _ _ _ _ HX.out (by omega) (.inl ⟨by omega, by omega⟩), by repeat (first | exact Below.refl _ _ | with_reducible assumption | (refine bl_alloc ?_ (Nat.le_refl _) _) | (refine bl_set ?_ (by dsimp only; omega) _) | (refine Below.drew ?_) | (refine bl_drewN ?_ _) | (refine bl_call ?_ (Nat.le_refl _) (by assumption)))⟩
  · have hne : (x0 == 0 && x1 == 0) = false := by
      rw [Bool.and_eq_false_iff, beq_eq_false_iff_ne, beq_eq_false_iff_ne]
      omega
    go_wp2_with fail
    go_region_with (first
      | (go_at_call 158; refine (wide_P _).mono ?_; rintro e w5 ⟨rfl, hb5'⟩; have hb5 := undrew hb5'; clear hb5'; have p5 := p1.call hb5; have s5 := s2.call hb5; obtain ⟨c50, c51, c52, c53, c54⟩ := p5)
      | (go_at_call 157; refine (take_any _ _ _ _ _ (by omega) (by omega) (by omega) (by omega) (by omega) (by omega) (by omega) (by omega)).mono ?_; rintro e w6 ⟨z0, z1, rfl, ⟨hz0, hz1, hz2, hz3⟩, HZ, hb6⟩; have s6 := s5.call hb6; obtain ⟨d60, d61, d62, d63, d64⟩ := s5.call hb6))
    all_goals
      go_wp2
      refine bodyPost_ret (results_v2 (b := w.heap.size + 1) (u := .int .u64 z0) (v := .int .u64 z1) ?_ rfl rfl) rfl ?_
      · exact V2.set s6 _ _
      · refine ⟨_, _, rfl, ⟨hz0, hz1, hz2, hz3⟩, ?_, by repeat (first | exact Below.refl _ _ | with_reducible assumption | (refine bl_alloc ?_ (Nat.le_refl _) _) | (refine bl_set ?_ (by dsimp only; omega) _) | (refine Below.drew ?_) | (refine bl_drewN ?_ _) | (refine bl_call ?_ (Nat.le_refl _) (by assumption)))⟩
        show _ = _
        have e := HZ.out
        rw [Int.emod_eq_of_lt (by omega) (by omega)] at e
        exact neg_fin _ _ _ _ HX.out (by omega) (.inr ⟨by omega, by omega⟩)

theorem sub_fin (p a b : Int) : (a + (-b) % p) % p = (a - b) % p := by
  rw [Int.add_emod, Int.emod_emod_of_dvd _ (Int.dvd_refl p), ← Int.add_emod, ← Int.sub_eq_add_neg]

set_option maxHeartbeats 4000000 in
theorem wide_Sub (a0 a1 b0 b1 : Int) (w : World) (h0 : 0 ≤ a0) (h1 : a0 ≤ 18446744073709551615) (k0 : 0 ≤ a1) (k1 : a1 ≤ 18446744073709551615)
    (g0 : 0 ≤ b0) (g1 : b0 ≤ 18446744073709551615) (j0 : 0 ≤ b1) (j1 : b1 ≤ 18446744073709551615) :
    Calls Try.prog 146 #[.agg #[.int .u64 a0, .int .u64 a1], .agg #[.int .u64 b0, .int .u64 b1]] w
      (RetE ((a0 + 18446744073709551616 * a1 - (b0 + 18446744073709551616 * b1)) % 340282366920938462946865773367900766209) w) := by
  have q0 := ((V2.new w (.int .u64 a0) (.int .u64 a1) 41).alloc (.cells #[.int .u64 b0, .int .u64 b1] 41)).alloc (.cells #[.int .u64 0, .int .u64 0] 41)
  have s0 := V2.new ((w.alloc (.cells #[.int .u64 a0, .int .u64 a1] 41)).alloc (.cells #[.int .u64 b0, .int .u64 b1] 41)) (.int .u64 0) (.int .u64 0) 41
  simp only [World.size_alloc] at s0
  go_enter Try.func146, Try.ntmps146
  go_wp2_with fail
  go_region_with (first
    | (go_at_call 171; refine (wide_Neg _ _ _ (by omega) (by omega) (by omega) (by omega)).mono ?_; rintro e w5 ⟨y0, y1, rfl, ⟨hy0, hy1, hy2, hy3⟩, HY, hb5'⟩; have hb5 := undrew hb5'; clear hb5'; have q5 := q0.call hb5; have s5 := s0.call hb5; obtain ⟨c50, c51, c52, c53, c54⟩ := q5)
    | (go_at_call 124; refine (wide_Add _ _ _ _ _ (by omega) (by omega) (by omega) (by omega) (by omega) (by omega) (by omega) (by omega)).mono ?_; rintro e w6 ⟨z0, z1, rfl, ⟨hz0, hz1, hz2, hz3⟩, HZ, hb6⟩; have s6 := s5.call hb6; obtain ⟨d60, d61, d62, d63, d64⟩ := s5.call hb6))
  all_goals
    go_wp2
    refine bodyPost_ret (results_v2 (b := w.heap.size + 1 + 1) (u := .int .u64 z0) (v := .int .u64 z1) ?_ rfl rfl) rfl ?_
    · exact V2.set s6 _ _
    · refine ⟨_, _, rfl, ⟨hz0, hz1, hz2, hz3⟩, ?_, by repeat (first | exact Below.refl _ _ | with_reducible assumption | (refine bl_alloc ?_ (Nat.le_refl _) _) | (refine bl_set ?_ (by dsimp only; omega) _) | (refine Below.drew ?_) | (refine bl_drewN ?_ _) | (refine bl_call ?_ (Nat.le_refl _) (by assumption)))⟩
      show _ = _
      rw [HZ.out, HY.out, sub_fin]

end Go.Proofs.Ytgambjmjbmdciaa
