/-
 Wide2: what the statements of this layer share.
-/
import Derived.Test.YtfbfbijkkbflkaaGreatDoorMaa
namespace Go.Proofs.YtfbfbijkkbflkaaGreatDoor
open Go.RowKit Fm
set_option linter.unusedVariables false
set_option maxRecDepth 100000

set_option maxHeartbeats 1000000 in
theorem wide_Of (a0 a1 : Int) (w : World) (h0 : 0 ≤ a0) (h1 : a0 ≤ 18446744073709551615) (k0 : 0 ≤ a1) (k1 : a1 ≤ 18446744073709551615) (n : Int)
  (hn : Hid (n = (a0 + 18446744073709551616 * a1) % 340282366920938462946865773367900766209)) :
  Calls Tryz.prog 100 #[.agg #[.int .u64 a0, .int .u64 a1]] w fun e w' =>
   e = .returned (.agg #[.int .u64 (n % 18446744073709551616), .int .u64 (n / 18446744073709551616)]) ∧ Below w.heap.size w w' := by
 by_cases hlt : a0 + 18446744073709551616 * a1 < 340282366920938462946865773367900766209
 ·have hd : decide (a0 + 18446744073709551616 * a1 < 340282366920938462946865773367900766209) = true := by simp; omega
  go_enter Tryz.func100, Tryz.ntmps100
  go_wp2_with (go_at_call 124; refine (wide_In _ _ _ (by omega) (by omega)).mono ?_; rintro e w1 ⟨rfl, hb1⟩; obtain ⟨hc1, hf1⟩ := bcell hb1)
  refine bodyPost_ret (by simp [results, Tryz.results100, go_sem, hc1]; rfl) rfl ?_
  refine ⟨ret_pair ?_ ?_, by repeat (first | exact Below.refl _ _ | (refine bl_alloc ?_ (Nat.le_refl _) _) | (refine bl_set ?_ (by dsimp only; omega) _) | (refine Below.drew ?_) | (refine bl_drewN ?_ _) | (refine bl_call ?_ (Nat.le_refl _) (by assumption)))⟩
  ·rw [hn.out, Int.emod_eq_of_lt (by omega) hlt]; omega
  ·rw [hn.out, Int.emod_eq_of_lt (by omega) hlt]; omega
 ·have hd : decide (a0 + 18446744073709551616 * a1 < 340282366920938462946865773367900766209) = false := by simp; omega
  have HT : Hid (n = (a0 + 18446744073709551616 * a1 - (1 + 18446744073709551616 * 18446744073709551588)) % 340282366920938463463374607431768211456) := by
   show _ = _
   rw [hn.out]
   omega
  go_enter Tryz.func100, Tryz.ntmps100
  go_wp2_with (go_at_call 124; refine (wide_In _ _ _ (by omega) (by omega)).mono ?_; rintro e w1 ⟨rfl, hb1⟩; obtain ⟨hc1, hf1⟩ := bcell hb1)
  have q1 := ((V2.new w (.int .u64 a0) (.int .u64 a1) 36).alloc (.cells #[.int .u64 0, .int .u64 0] 36)).call hb1
  have r1 := (V2.new (w.alloc (.cells #[.int .u64 a0, .int .u64 a1] 36)) (.int .u64 0) (.int .u64 0) 36).call hb1
  obtain ⟨c10, c11, f10, f11, l1⟩ := q1
  obtain ⟨d10, d11, g10, g11, m1⟩ := r1
  clear hc1 hf1
  simp only [World.size_alloc] at d10 d11 g10 g11 m1
  go_region_with (first
   | (go_at_call 126; refine (wide_P _).mono ?_; rintro e w2 ⟨rfl, hb2'⟩; have hb2 := undrew hb2'; clear hb2'; obtain ⟨c20, c21, f20, f21, l2⟩ := V2.call ⟨c10, c11, f10, f11, l1⟩ hb2; obtain ⟨d20, d21, g20, g21, m2⟩ := V2.call ⟨d10, d11, g10, g11, m1⟩ hb2)
   | (go_at_call 125; refine (wide_take _ _ _ _ _ (by omega) (by omega) (by omega) (by omega) (by omega) (by omega) (by omega) (by omega) n HT).mono ?_; rintro e w3 ⟨rfl, hb3⟩; have q3 := V2.call ⟨c20, c21, f20, f21, l2⟩ hb3; have q4 := V2.set q3 (.int .u64 (n % 18446744073709551616)) (.int .u64 (n / 18446744073709551616)); obtain ⟨c30, c31, f30, f31, l3⟩ := q3; obtain ⟨c40, c41, f40, f41, l4⟩ := q4; obtain ⟨d30, d31, g30, g31, m3⟩ := V2.call ⟨d20, d21, g20, g21, m2⟩ hb3))
  all_goals
   go_wp2
   refine bodyPost_ret (results_v2 (b := w.heap.size + 1) (u := .int .u64 (n % 18446744073709551616)) (v := .int .u64 (n / 18446744073709551616)) ?_ rfl rfl) rfl ?_
   ·exact V2.set (V2.setOther (V2.setOther ⟨d30, d31, g30, g31, m3⟩ (by simp) _) (by simp) _) _ _
   ·exact ⟨rfl, by repeat (first | exact Below.refl _ _ | (refine bl_alloc ?_ (Nat.le_refl _) _) | (refine bl_set ?_ (by dsimp only; omega) _) | (refine Below.drew ?_) | (refine bl_drewN ?_ _) | (refine bl_call ?_ (Nat.le_refl _) (by assumption)))⟩

end Go.Proofs.YtfbfbijkkbflkaaGreatDoor
