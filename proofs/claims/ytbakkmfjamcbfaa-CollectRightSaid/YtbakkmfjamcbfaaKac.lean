/-
 Wide3: what the statements of this layer share.
-/
import Derived.Deep.DeepCutAuto
import Derived.Test.YtbakkmfjamcbfaaKab
namespace Go.Proofs.Ytbakkmfjamcbfaa
open Go.RowKit Fm
set_option linter.unusedVariables false
set_option maxRecDepth 100000

def RetE (n : Int) (w : World) (e : Ending) (w' : World) : Prop :=
 ∃ x0 x1 : Int, e = .returned (.agg #[.int .u64 x0, .int .u64 x1]) ∧ (0 ≤ x0 ∧ x0 ≤ 18446744073709551615 ∧ 0 ≤ x1 ∧ x1 ≤ 18446744073709551615) ∧ Hid (x0 + 18446744073709551616 * x1 = n) ∧ Below w.heap.size w w'

theorem take_any (a0 a1 b0 b1 : Int) (w : World) (h0 : 0 ≤ a0) (h1 : a0 ≤ 18446744073709551615) (g0 : 0 ≤ b0) (g1 : b0 ≤ 18446744073709551615)
     (k0 : 0 ≤ a1) (k1 : a1 ≤ 18446744073709551615) (j0 : 0 ≤ b1) (j1 : b1 ≤ 18446744073709551615) :
  Calls Try.prog 132 #[.agg #[.int .u64 a0, .int .u64 a1], .agg #[.int .u64 b0, .int .u64 b1]] w
   (RetE ((a0 + 18446744073709551616 * a1 - (b0 + 18446744073709551616 * b1)) % 340282366920938463463374607431768211456) w) := by
 refine (wide_take a0 a1 b0 b1 w h0 h1 g0 g1 k0 k1 j0 j1 _ (Lib.hid rfl)).mono ?_
 rintro e w1 ⟨rfl, hb⟩
 obtain ⟨n, hn⟩ : ∃ n, n = (a0 + 18446744073709551616 * a1 - (b0 + 18446744073709551616 * b1)) % 340282366920938463463374607431768211456 := ⟨_, rfl⟩
 rw [← hn]
 have n0 : 0 ≤ n ∧ n < 340282366920938463463374607431768211456 := by omega
 clear hn
 exact ⟨_, _, rfl, by omega, by show _ = _; omega, hb⟩

theorem Of_any (a0 a1 : Int) (w : World) (h0 : 0 ≤ a0) (h1 : a0 ≤ 18446744073709551615) (k0 : 0 ≤ a1) (k1 : a1 ≤ 18446744073709551615) :
  Calls Try.prog 131 #[.agg #[.int .u64 a0, .int .u64 a1]] w (RetE ((a0 + 18446744073709551616 * a1) % 340282366920938462946865773367900766209) w) := by
 refine (wide_Of a0 a1 w h0 h1 k0 k1 _ (Lib.hid rfl)).mono ?_
 rintro e w1 ⟨rfl, hb⟩
 obtain ⟨n, hn⟩ : ∃ n, n = (a0 + 18446744073709551616 * a1) % 340282366920938462946865773367900766209 := ⟨_, rfl⟩
 rw [← hn]
 have n0 : 0 ≤ n ∧ n < 340282366920938462946865773367900766209 := by omega
 clear hn
 exact ⟨_, _, rfl, by omega, by show _ = _; omega, hb⟩

theorem add_fin (p a b x y r : Int) (hx : x = a % p) (hy : y = b % p) (h0 : 0 ≤ r) (h1 : r < p) (hr : r = x + y ∨ r = x + y - p) : r = (a + b) % p := by
 rw [Int.add_emod, ← hx, ← hy]
 rcases hr with e | e
 ·rw [← e, Int.emod_eq_of_lt h0 h1]
 ·rw [show x + y = r + p from by omega, Int.add_emod_right, Int.emod_eq_of_lt h0 h1]

theorem mod_two (n : Int) (h0 : -340282366920938463463374607431768211456 ≤ n) (h1 : n < 340282366920938463463374607431768211456) : n % 340282366920938463463374607431768211456 = if 0 ≤ n then n else n + 340282366920938463463374607431768211456 := by
 split <;> omega

structure AddMid (a0 a1 b0 b1 : Int) (w wx : World) : Prop where
 ex : ∃ x0 x1 y0 y1 : Int, V2 wx w.heap.size (.int .u64 x0) (.int .u64 x1) ∧ V2 wx (w.heap.size + 1) (.int .u64 y0) (.int .u64 y1) ∧
  (0 ≤ x0 ∧ x0 ≤ 18446744073709551615 ∧ 0 ≤ x1 ∧ x1 ≤ 18446744073709551615) ∧ (0 ≤ y0 ∧ y0 ≤ 18446744073709551615 ∧ 0 ≤ y1 ∧ y1 ≤ 18446744073709551615) ∧
  Hid (x0 + 18446744073709551616 * x1 = (a0 + 18446744073709551616 * a1) % 340282366920938462946865773367900766209) ∧
  Hid (y0 + 18446744073709551616 * y1 = (b0 + 18446744073709551616 * b1) % 340282366920938462946865773367900766209)
 res : V2 wx (w.heap.size + 1 + 1) (.int .u64 0) (.int .u64 0)
 below : Below w.heap.size w wx

set_option maxHeartbeats 4000000 in
theorem wide_Add (a0 a1 b0 b1 : Int) (w : World) (h0 : 0 ≤ a0) (h1 : a0 ≤ 18446744073709551615) (k0 : 0 ≤ a1) (k1 : a1 ≤ 18446744073709551615)
  (g0 : 0 ≤ b0) (g1 : b0 ≤ 18446744073709551615) (j0 : 0 ≤ b1) (j1 : b1 ≤ 18446744073709551615) :
  Calls Try.prog 115 #[.agg #[.int .u64 a0, .int .u64 a1], .agg #[.int .u64 b0, .int .u64 b1]] w
   (RetE ((a0 + 18446744073709551616 * a1 + (b0 + 18446744073709551616 * b1)) % 340282366920938462946865773367900766209) w) := by
 go_enter Try.func115, Try.ntmps115
 go_upto_region 1 with fail
 go_cut [] (fun wx => AddMid a0 a1 b0 b1 w wx)
 case first =>
  have q0 := ((V2.new w (.int .u64 a0) (.int .u64 a1) 99).alloc (.cells #[.int .u64 b0, .int .u64 b1] 99)).alloc (.cells #[.int .u64 0, .int .u64 0] 99)
  have r0 := (V2.new (w.alloc (.cells #[.int .u64 a0, .int .u64 a1] 99)) (.int .u64 b0) (.int .u64 b1) 99).alloc (.cells #[.int .u64 0, .int .u64 0] 99)
  have s0 := V2.new ((w.alloc (.cells #[.int .u64 a0, .int .u64 a1] 99)).alloc (.cells #[.int .u64 b0, .int .u64 b1] 99)) (.int .u64 0) (.int .u64 0) 99
  simp only [World.size_alloc] at r0 s0
  go_region_with (first
   | (go_at_call_of 131 (Value.int .u64 a0); refine (Of_any a0 a1 _ h0 h1 k0 k1).mono ?_; rintro e w2 ⟨x0, x1, rfl, ⟨hx0, hx1, hx2, hx3⟩, HX, hb2'⟩; have hb2 := undrew hb2'; clear hb2'; have q2 := q0.call hb2; have r2 := r0.call hb2; have s2 := s0.call hb2; have p2 := q2.set (.int .u64 x0) (.int .u64 x1); obtain ⟨c20, c21, f20, f21, l2⟩ := q2; obtain ⟨d20, d21, e20, e21, m2⟩ := r2)
   | (go_at_call 131; refine (Of_any b0 b1 _ g0 g1 j0 j1).mono ?_; rintro e w3 ⟨y0, y1, rfl, ⟨hy0, hy1, hy2, hy3⟩, HY, hb3⟩; have q3 := V2.call ⟨c20, c21, f20, f21, l2⟩ hb3; have r3 := V2.call ⟨d20, d21, e20, e21, m2⟩ hb3; have s3 := s2.call hb3; have p3 := q3.set (.int .u64 x0) (.int .u64 x1); obtain ⟨c30, c31, f30, f31, l3⟩ := q3; obtain ⟨d30, d31, e30, e31, m3⟩ := r3))
  all_goals
   go_wp2
   go_meet
   refine ⟨⟨x0, x1, y0, y1, ?_, ?_, ⟨hx0, hx1, hx2, hx3⟩, ⟨hy0, hy1, hy2, hy3⟩, HX, HY⟩, ?_, ?_⟩
   ·exact V2.setOther (V2.setOther p3 (by simp) _) (by simp) _
   ·exact V2.set (V2.setOther (V2.setOther ⟨d30, d31, e30, e31, m3⟩ (by simp) _) (by simp) _) _ _
   ·exact V2.setOther (V2.setOther (V2.setOther (V2.setOther s3 (by simp; omega) _) (by simp; omega) _) (by simp) _) (by simp) _
   ·exact by repeat (first | exact Below.refl _ _ | (refine bl_alloc ?_ (Nat.le_refl _) _) | (refine bl_set ?_ (by dsimp only; omega) _) | (refine Below.drew ?_) | (refine bl_drewN ?_ _) | (refine bl_call ?_ (Nat.le_refl _) (by assumption)))
 case rest =>
  obtain ⟨⟨x0, x1, y0, y1, ⟨c0, c1, c2, c3, c4⟩, ⟨d0, d1, d2, d3, d4⟩, ⟨hx0, hx1, hx2, hx3⟩, ⟨hy0, hy1, hy2, hy3⟩, HX, HY⟩, hs, hb0⟩ := hcut
  go_wp2_with fail
  rw [add64]
  case hx0 => omega
  case hy0 => omega
  case hx => omega
  case hy => omega
  case hc0 => omega
  case hc => omega
  generalize hlo : (x0 + y0 + 0) % 18446744073709551616 = lo
  generalize hcy : (x0 + y0 + 0) / 18446744073709551616 = cy
  have HLO : Hid (lo + 18446744073709551616 * cy = x0 + y0) := by show _ = _; omega
  have lo0 : 0 ≤ lo ∧ lo ≤ 18446744073709551615 := by omega
  have cy0 : 0 ≤ cy ∧ cy ≤ 1 := by omega
  obtain ⟨lo0, lo1⟩ := lo0
  obtain ⟨cy0, cy1⟩ := cy0
  clear hlo hcy
  go_wp2_with fail
  rw [add64]
  case hx0 => omega
  case hy0 => omega
  case hx => omega
  case hy => omega
  case hc0 => omega
  case hc => omega
  generalize hhi : (x1 + y1 + cy) % 18446744073709551616 = hi
  generalize hov : (x1 + y1 + cy) / 18446744073709551616 = ov
  have HHI : Hid (hi + 18446744073709551616 * ov = x1 + y1 + cy) := by show _ = _; omega
  have hi0 : 0 ≤ hi ∧ hi ≤ 18446744073709551615 := by omega
  have ov0 : 0 ≤ ov ∧ ov ≤ 1 := by omega
  obtain ⟨hi0, hi1⟩ := hi0
  obtain ⟨ov0, ov1⟩ := ov0
  clear hhi hov
  have q4 := V2.new wc (.int .u64 lo) (.int .u64 hi) 99
  have s4 := hs.alloc (.cells #[.int .u64 lo, .int .u64 hi] 99)
  have hszc : w.heap.size + 1 + 1 < wc.heap.size := hs.lt
  have fin : ∀ z : Int, 0 ≤ z → z < 340282366920938462946865773367900766209 → (z = lo + 18446744073709551616 * hi + 340282366920938463463374607431768211456 * ov ∨ z = lo + 18446744073709551616 * hi + 340282366920938463463374607431768211456 * ov - 340282366920938462946865773367900766209) →
    z = (a0 + 18446744073709551616 * a1 + (b0 + 18446744073709551616 * b1)) % 340282366920938462946865773367900766209 := by
   intro z hz0 hz1 hz
   have e1 := HX.out
   have e2 := HY.out
   have e3 := HLO.out
   have e4 := HHI.out
   refine add_fin _ _ _ _ _ z e1 e2 hz0 hz1 ?_
   clear e1 e2
   omega
  have FIN := Lib.hid fin
  clear fin
  have bound : lo + 18446744073709551616 * hi + 340282366920938463463374607431768211456 * ov < 340282366920938462946865773367900766209 + 340282366920938462946865773367900766209 := by
   have e1 := HX.out
   have e2 := HY.out
   have e3 := HLO.out
   have e4 := HHI.out
   have f1 := Int.emod_lt_of_pos (a0 + 18446744073709551616 * a1) (b := 340282366920938462946865773367900766209) (by omega)
   have f2 := Int.emod_lt_of_pos (b0 + 18446744073709551616 * b1) (b := 340282366920938462946865773367900766209) (by omega)
   rw [← e1] at f1
   rw [← e2] at f2
   clear e1 e2
   omega
  have hov2 : ov = 0 ∨ ov = 1 := by omega
  rcases hov2 with rfl | rfl
  ·by_cases hlt : lo + 18446744073709551616 * hi < 340282366920938462946865773367900766209
   ·have hd : decide (lo + 18446744073709551616 * hi < 340282366920938462946865773367900766209) = true := by simp; omega
    obtain ⟨c40, c41, f40, f41, l4⟩ := q4
    obtain ⟨d40, d41, g40, g41, m4⟩ := s4
    go_wp2_with (go_at_call 121; refine (wide_In _ _ _ (by omega) (by omega)).mono ?_; rintro e w5 ⟨rfl, hb5⟩; obtain ⟨c50, c51, f50, f51, l5⟩ := V2.call ⟨c40, c41, f40, f41, l4⟩ hb5; obtain ⟨d50, d51, g50, g51, m5⟩ := V2.call ⟨d40, d41, g40, g41, m4⟩ hb5)
    refine bodyPost_ret (results_v2 (b := w.heap.size + 1 + 1) (u := .int .u64 lo) (v := .int .u64 hi) ?_ rfl rfl) rfl ?_
    ·exact V2.set ⟨d50, d51, g50, g51, m5⟩ _ _
    ·exact ⟨_, _, rfl, ⟨lo0, lo1, hi0, hi1⟩, FIN.out _ (by omega) hlt (by omega), by repeat (first | exact Below.refl _ _ | (refine bl_alloc ?_ (Nat.le_refl _) _) | (refine bl_set ?_ (by dsimp only; omega) _) | (refine Below.drew ?_) | (refine bl_drewN ?_ _) | (refine bl_call ?_ (Nat.le_refl _) (by assumption)))⟩
   ·have hd : decide (lo + 18446744073709551616 * hi < 340282366920938462946865773367900766209) = false := by simp; omega
    obtain ⟨c40, c41, f40, f41, l4⟩ := q4
    obtain ⟨d40, d41, g40, g41, m4⟩ := s4
    go_wp2_with (go_at_call 121; refine (wide_In _ _ _ (by omega) (by omega)).mono ?_; rintro e w4 ⟨rfl, hb4⟩; have q4 := V2.call ⟨c40, c41, f40, f41, l4⟩ hb4; have s4 := V2.call ⟨d40, d41, g40, g41, m4⟩ hb4; obtain ⟨k40, k41, k42, k43, k44⟩ := V2.call ⟨c40, c41, f40, f41, l4⟩ hb4)
    go_region_with (first
      | (go_at_call 133; refine (wide_P _).mono ?_; rintro e w5 ⟨rfl, hb5'⟩; have hb5 := undrew hb5'; clear hb5'; have q5 := q4.call hb5; have s5 := s4.call hb5; obtain ⟨c50, c51, f50, f51, l5⟩ := q5)
      | (go_at_call 132; refine (take_any _ _ _ _ _ (by omega) (by omega) (by omega) (by omega) (by omega) (by omega) (by omega) (by omega)).mono ?_; rintro e w6 ⟨z0, z1, rfl, ⟨hz0, hz1, hz2, hz3⟩, HZ, hb6⟩; have q6 := V2.call ⟨c50, c51, f50, f51, l5⟩ hb6; have p6 := q6.set (.int .u64 z0) (.int .u64 z1); have s6 := s5.call hb6; obtain ⟨c60, c61, f60, f61, l6⟩ := q6; obtain ⟨c70, c71, f70, f71, l7⟩ := p6; have s7 := V2.setOther (V2.setOther s6 (p := ⟨wc.heap.size, 0, none⟩) (by dsimp only; omega) (.int .u64 z0)) (p := ⟨wc.heap.size, 1, none⟩) (by dsimp only; omega) (.int .u64 z1); obtain ⟨d70, d71, g70, g71, m7⟩ := s7))
    all_goals
     go_wp2
     refine bodyPost_ret (results_v2 (b := w.heap.size + 1 + 1) (u := .int .u64 z0) (v := .int .u64 z1) ?_ rfl rfl) rfl ?_
     ·exact V2.set ⟨d70, d71, g70, g71, m7⟩ _ _
     ·refine ⟨_, _, rfl, ⟨hz0, hz1, hz2, hz3⟩, ?_, by repeat (first | exact Below.refl _ _ | (refine bl_alloc ?_ (Nat.le_refl _) _) | (refine bl_set ?_ (by dsimp only; omega) _) | (refine Below.drew ?_) | (refine bl_drewN ?_ _) | (refine bl_call ?_ (Nat.le_refl _) (by assumption)))⟩
      have e := HZ.out
      rw [mod_two _ (by omega) (by omega)] at e
      have hz : z0 + 18446744073709551616 * z1 = lo + 18446744073709551616 * hi + 340282366920938463463374607431768211456 * 0 - 340282366920938462946865773367900766209 := by
       split at e <;> omega
      clear e
      exact FIN.out _ (by omega) (by omega) (.inr hz)
  ·go_wp2_with fail
   go_region_with (first
     | (go_at_call 133; refine (wide_P _).mono ?_; rintro e w5 ⟨rfl, hb5'⟩; have hb5 := undrew hb5'; clear hb5'; have q5 := q4.call hb5; have s5 := s4.call hb5; obtain ⟨c50, c51, f50, f51, l5⟩ := q5)
     | (go_at_call 132; refine (take_any _ _ _ _ _ (by omega) (by omega) (by omega) (by omega) (by omega) (by omega) (by omega) (by omega)).mono ?_; rintro e w6 ⟨z0, z1, rfl, ⟨hz0, hz1, hz2, hz3⟩, HZ, hb6⟩; have q6 := V2.call ⟨c50, c51, f50, f51, l5⟩ hb6; have p6 := q6.set (.int .u64 z0) (.int .u64 z1); have s6 := s5.call hb6; obtain ⟨c60, c61, f60, f61, l6⟩ := q6; obtain ⟨c70, c71, f70, f71, l7⟩ := p6; have s7 := V2.setOther (V2.setOther s6 (p := ⟨wc.heap.size, 0, none⟩) (by dsimp only; omega) (.int .u64 z0)) (p := ⟨wc.heap.size, 1, none⟩) (by dsimp only; omega) (.int .u64 z1); obtain ⟨d70, d71, g70, g71, m7⟩ := s7))
   all_goals
    go_wp2
    refine bodyPost_ret (results_v2 (b := w.heap.size + 1 + 1) (u := .int .u64 z0) (v := .int .u64 z1) ?_ rfl rfl) rfl ?_
    ·exact V2.set ⟨d70, d71, g70, g71, m7⟩ _ _
    ·refine ⟨_, _, rfl, ⟨hz0, hz1, hz2, hz3⟩, ?_, by repeat (first | exact Below.refl _ _ | (refine bl_alloc ?_ (Nat.le_refl _) _) | (refine bl_set ?_ (by dsimp only; omega) _) | (refine Below.drew ?_) | (refine bl_drewN ?_ _) | (refine bl_call ?_ (Nat.le_refl _) (by assumption)))⟩
     have e := HZ.out
     rw [mod_two _ (by omega) (by omega)] at e
     have hz : z0 + 18446744073709551616 * z1 = lo + 18446744073709551616 * hi + 340282366920938463463374607431768211456 * 1 - 340282366920938462946865773367900766209 := by
      split at e <;> omega
     clear e
     exact FIN.out _ (by omega) (by omega) (.inr hz)

end Go.Proofs.Ytbakkmfjamcbfaa
