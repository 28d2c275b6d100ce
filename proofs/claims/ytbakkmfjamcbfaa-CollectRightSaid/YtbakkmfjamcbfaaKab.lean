/-
 Wide, Wide2: what the statements of this layer share.
-/
import Derived.Test.YtbakkmfjamcbfaaKaa
namespace Go.Proofs.Ytbakkmfjamcbfaa
open Go.RowKit Fm
set_option linter.unusedVariables false
set_option maxRecDepth 100000

theorem wide_P (w : World) :
  Calls Try.prog 133 #[] w fun e w' => e = .returned (.agg #[.int .u64 1, .int .u64 18446744073709551588]) ∧ Below w.heap.size w w' := by
 go_enter Try.func133, Try.ntmps133
 go_wp2
 exact bodyPost_ret (v := .agg #[.int .u64 1, .int .u64 18446744073709551588]) (by simp [results, Try.results133, go_sem]) rfl ⟨rfl, (Below.refl _ _).alloc (Nat.le_refl _) _⟩

theorem bcell {W w1 : World} (hb : Below W.heap.size W w1) : (∀ b o, b < W.heap.size → w1.cell? ⟨b, o, none⟩ = W.cell? ⟨b, o, none⟩) ∧ (∀ b o, b < W.heap.size → w1.frozen? ⟨b, o, none⟩ = W.frozen? ⟨b, o, none⟩) :=
 ⟨fun b o h => hb.cell (p := ⟨b, o, none⟩) h, fun b o h => hb.frozen (p := ⟨b, o, none⟩) h⟩

theorem wide_less (a0 a1 b0 b1 : Int) (w : World) (h0 : 0 ≤ a0) (h1 : a0 ≤ 18446744073709551615) (g0 : 0 ≤ b0) (g1 : b0 ≤ 18446744073709551615) :
  Calls Try.prog 134 #[.agg #[.int .u64 a0, .int .u64 a1], .agg #[.int .u64 b0, .int .u64 b1]] w fun e w' => e = .returned (.bool (decide (a0 + 18446744073709551616 * a1 < b0 + 18446744073709551616 * b1))) ∧ Below w.heap.size w w' := by
 rcases Int.lt_trichotomy a1 b1 with h | h | h
 ·have ht : decide (a0 + 18446744073709551616 * a1 < b0 + 18446744073709551616 * b1) = true := by simp; omega
  rw [ht]
  clear ht
  go_enter Try.func134, Try.ntmps134
  go_wp2
  go_ret
  exact ⟨rfl, by repeat (first | exact Below.refl _ _ | (refine bl_alloc ?_ (Nat.le_refl _) _) | (refine Below.drew ?_) | (refine bl_drewN ?_ _) | (refine bl_call ?_ (Nat.le_refl _) (by assumption)))⟩
 ·subst h
  have ht : decide (a0 + 18446744073709551616 * a1 < b0 + 18446744073709551616 * a1) = decide (a0 < b0) := by congr 1; simp
  rw [ht]
  clear ht
  go_enter Try.func134, Try.ntmps134
  go_wp2
  all_goals go_ret
  all_goals exact ⟨rfl, by repeat (first | exact Below.refl _ _ | (refine bl_alloc ?_ (Nat.le_refl _) _) | (refine Below.drew ?_) | (refine bl_drewN ?_ _) | (refine bl_call ?_ (Nat.le_refl _) (by assumption)))⟩
 ·have ht : decide (a0 + 18446744073709551616 * a1 < b0 + 18446744073709551616 * b1) = false := by simp; omega
  rw [ht]
  clear ht
  have hne : (a1 == b1) = false := by simp; omega
  have hnl : decide (a1 < b1) = false := by simp; omega
  go_enter Try.func134, Try.ntmps134
  go_wp2
  go_ret
  exact ⟨rfl, by repeat (first | exact Below.refl _ _ | (refine bl_alloc ?_ (Nat.le_refl _) _) | (refine Below.drew ?_) | (refine bl_drewN ?_ _) | (refine bl_call ?_ (Nat.le_refl _) (by assumption)))⟩

theorem wide_In (a0 a1 : Int) (w : World) (h0 : 0 ≤ a0) (h1 : a0 ≤ 18446744073709551615) :
  Calls Try.prog 121 #[.agg #[.int .u64 a0, .int .u64 a1]] w fun e w' => e = .returned (.bool (decide (a0 + 18446744073709551616 * a1 < 340282366920938462946865773367900766209))) ∧ Below w.heap.size w w' := by
 go_enter Try.func121, Try.ntmps121
 go_wp2_with fail
 go_region_with (first
  | (go_at_call 133; refine (wide_P _).mono ?_; rintro e w1 ⟨rfl, hb1⟩; obtain ⟨hc1, hf1⟩ := bcell hb1)
  | (go_at_call 134; refine (wide_less _ _ _ _ _ (by omega) (by omega) (by omega) (by omega)).mono ?_; rintro e w2 ⟨rfl, hb2⟩))
 all_goals
  go_wp2
  go_ret
  exact ⟨rfl, by repeat (first | exact Below.refl _ _ | (refine bl_alloc ?_ (Nat.le_refl _) _) | (refine Below.drew ?_) | (refine bl_drewN ?_ _) | (refine bl_call ?_ (Nat.le_refl _) (by assumption)))⟩

theorem wide_take (a0 a1 b0 b1 : Int) (w : World) (h0 : 0 ≤ a0) (h1 : a0 ≤ 18446744073709551615) (g0 : 0 ≤ b0) (g1 : b0 ≤ 18446744073709551615)
     (k0 : 0 ≤ a1) (k1 : a1 ≤ 18446744073709551615) (j0 : 0 ≤ b1) (j1 : b1 ≤ 18446744073709551615) (n : Int) (hn : Hid (n = (a0 + 18446744073709551616 * a1 - (b0 + 18446744073709551616 * b1)) % 340282366920938463463374607431768211456)) :
  Calls Try.prog 132 #[.agg #[.int .u64 a0, .int .u64 a1], .agg #[.int .u64 b0, .int .u64 b1]] w fun e w' =>
   e = .returned (.agg #[.int .u64 (n % 18446744073709551616), .int .u64 (n / 18446744073709551616)]) ∧ Below w.heap.size w w' := by
 go_enter Try.func132, Try.ntmps132
 go_wp2_with fail
 rw [sub64]
 case hx0 => omega
 case hy0 => omega
 case hx => omega
 case hy => omega
 case hb0 => omega
 case hb => omega
 by_cases hlt : a0 < b0
 ·rw [if_pos (by omega)]
  go_wp2_with fail
  rw [sub64]
  case hx0 => omega
  case hy0 => omega
  case hx => omega
  case hy => omega
  case hb0 => omega
  case hb => omega
  go_wp2
  all_goals
   refine bodyPost_ret (by simp [results, Try.results132, go_sem]; rfl) rfl ?_
   refine ⟨ret_pair ?_ ?_, by repeat (first | exact Below.refl _ _ | (refine bl_alloc ?_ (Nat.le_refl _) _) | (refine Below.drew ?_) | (refine bl_drewN ?_ _) | (refine bl_call ?_ (Nat.le_refl _) (by assumption)))⟩
   ·rw [hn.out]; omega
   ·rw [hn.out]; omega
 ·rw [if_neg (by omega)]
  go_wp2_with fail
  rw [sub64]
  case hx0 => omega
  case hy0 => omega
  case hx => omega
  case hy => omega
  case hb0 => omega
  case hb => omega
  go_wp2
  all_goals
   refine bodyPost_ret (by simp [results, Try.results132, go_sem]; rfl) rfl ?_
   refine ⟨ret_pair ?_ ?_, by repeat (first | exact Below.refl _ _ | (refine bl_alloc ?_ (Nat.le_refl _) _) | (refine Below.drew ?_) | (refine bl_drewN ?_ _) | (refine bl_call ?_ (Nat.le_refl _) (by assumption)))⟩
   ·rw [hn.out]; omega
   ·rw [hn.out]; omega

end Go.Proofs.Ytbakkmfjamcbfaa

namespace Go.Proofs.Ytbakkmfjamcbfaa
open Go.RowKit Fm
set_option linter.unusedVariables false
set_option maxRecDepth 100000

set_option maxHeartbeats 1000000 in
theorem wide_Of (a0 a1 : Int) (w : World) (h0 : 0 ≤ a0) (h1 : a0 ≤ 18446744073709551615) (k0 : 0 ≤ a1) (k1 : a1 ≤ 18446744073709551615) (n : Int)
  (hn : Hid (n = (a0 + 18446744073709551616 * a1) % 340282366920938462946865773367900766209)) :
  Calls Try.prog 131 #[.agg #[.int .u64 a0, .int .u64 a1]] w fun e w' =>
   e = .returned (.agg #[.int .u64 (n % 18446744073709551616), .int .u64 (n / 18446744073709551616)]) ∧ Below w.heap.size w w' := by
 by_cases hlt : a0 + 18446744073709551616 * a1 < 340282366920938462946865773367900766209
 ·have hd : decide (a0 + 18446744073709551616 * a1 < 340282366920938462946865773367900766209) = true := by simp; omega
  go_enter Try.func131, Try.ntmps131
  go_wp2_with (go_at_call 121; refine (wide_In _ _ _ (by omega) (by omega)).mono ?_; rintro e w1 ⟨rfl, hb1⟩; obtain ⟨hc1, hf1⟩ := bcell hb1)
  refine bodyPost_ret (by simp [results, Try.results131, go_sem, hc1]; rfl) rfl ?_
  refine ⟨ret_pair ?_ ?_, by repeat (first | exact Below.refl _ _ | (refine bl_alloc ?_ (Nat.le_refl _) _) | (refine bl_set ?_ (by dsimp only; omega) _) | (refine Below.drew ?_) | (refine bl_drewN ?_ _) | (refine bl_call ?_ (Nat.le_refl _) (by assumption)))⟩
  ·rw [hn.out, Int.emod_eq_of_lt (by omega) hlt]; omega
  ·rw [hn.out, Int.emod_eq_of_lt (by omega) hlt]; omega
 ·have hd : decide (a0 + 18446744073709551616 * a1 < 340282366920938462946865773367900766209) = false := by simp; omega
  have HT : Hid (n = (a0 + 18446744073709551616 * a1 - (1 + 18446744073709551616 * 18446744073709551588)) % 340282366920938463463374607431768211456) := by
   show _ = _
   rw [hn.out]
   omega
  go_enter Try.func131, Try.ntmps131
  go_wp2_with (go_at_call 121; refine (wide_In _ _ _ (by omega) (by omega)).mono ?_; rintro e w1 ⟨rfl, hb1⟩; obtain ⟨hc1, hf1⟩ := bcell hb1)
  have q1 := ((V2.new w (.int .u64 a0) (.int .u64 a1) 99).alloc (.cells #[.int .u64 0, .int .u64 0] 99)).call hb1
  have r1 := (V2.new (w.alloc (.cells #[.int .u64 a0, .int .u64 a1] 99)) (.int .u64 0) (.int .u64 0) 99).call hb1
  obtain ⟨c10, c11, f10, f11, l1⟩ := q1
  obtain ⟨d10, d11, g10, g11, m1⟩ := r1
  clear hc1 hf1
  simp only [World.size_alloc] at d10 d11 g10 g11 m1
  go_region_with (first
   | (go_at_call 133; refine (wide_P _).mono ?_; rintro e w2 ⟨rfl, hb2'⟩; have hb2 := undrew hb2'; clear hb2'; obtain ⟨c20, c21, f20, f21, l2⟩ := V2.call ⟨c10, c11, f10, f11, l1⟩ hb2; obtain ⟨d20, d21, g20, g21, m2⟩ := V2.call ⟨d10, d11, g10, g11, m1⟩ hb2)
   | (go_at_call 132; refine (wide_take _ _ _ _ _ (by omega) (by omega) (by omega) (by omega) (by omega) (by omega) (by omega) (by omega) n HT).mono ?_; rintro e w3 ⟨rfl, hb3⟩; have q3 := V2.call ⟨c20, c21, f20, f21, l2⟩ hb3; have q4 := V2.set q3 (.int .u64 (n % 18446744073709551616)) (.int .u64 (n / 18446744073709551616)); obtain ⟨c30, c31, f30, f31, l3⟩ := q3; obtain ⟨c40, c41, f40, f41, l4⟩ := q4; obtain ⟨d30, d31, g30, g31, m3⟩ := V2.call ⟨d20, d21, g20, g21, m2⟩ hb3))
  all_goals
   go_wp2
   refine bodyPost_ret (results_v2 (b := w.heap.size + 1) (u := .int .u64 (n % 18446744073709551616)) (v := .int .u64 (n / 18446744073709551616)) ?_ rfl rfl) rfl ?_
   ·exact V2.set (V2.setOther (V2.setOther ⟨d30, d31, g30, g31, m3⟩ (by simp) _) (by simp) _) _ _
   ·exact ⟨rfl, by repeat (first | exact Below.refl _ _ | (refine bl_alloc ?_ (Nat.le_refl _) _) | (refine bl_set ?_ (by dsimp only; omega) _) | (refine Below.drew ?_) | (refine bl_drewN ?_ _) | (refine bl_call ?_ (Nat.le_refl _) (by assumption)))⟩

end Go.Proofs.Ytbakkmfjamcbfaa
