/-
 Fold: what the statements of this layer share.
-/
import Derived.Test.YtfbfbijkkbflkaaGreatDoorMad
namespace Go.Proofs.YtfbfbijkkbflkaaGreatDoor
open Go.RowKit
set_option linter.unusedVariables false
set_option maxRecDepth 100000

def SumMid (q0 q1 m0 m1 m2 m3 : Int) : Nat → Int → Int → Int → Int → Int → Prop
 | 0, o0, o1, o2, o3, c => o0 = 0 ∧ o1 = 0 ∧ o2 = 0 ∧ o3 = 0 ∧ c = 0
 | 1, o0, o1, o2, o3, c => o1 = 0 ∧ o2 = 0 ∧ o3 = 0 ∧ o0 + 18446744073709551616 * c = (q0 + m0)
 | 2, o0, o1, o2, o3, c => o2 = 0 ∧ o3 = 0 ∧ o0 + 18446744073709551616 * o1 + 340282366920938463463374607431768211456 * c = (q0 + m0) + 18446744073709551616 * (q1 + m1)
 | 3, o0, o1, o2, o3, c => o3 = 0 ∧ o0 + 18446744073709551616 * o1 + 340282366920938463463374607431768211456 * o2 + 6277101735386680763835789423207666416102355444464034512896 * c = (q0 + m0) + 18446744073709551616 * (q1 + m1) + 340282366920938463463374607431768211456 * m2
 | 4, o0, o1, o2, o3, c => o0 + 18446744073709551616 * o1 + 340282366920938463463374607431768211456 * o2 + 6277101735386680763835789423207666416102355444464034512896 * o3 + 115792089237316195423570985008687907853269984665640564039457584007913129639936 * c = (q0 + m0) + 18446744073709551616 * (q1 + m1) + 340282366920938463463374607431768211456 * m2 + 6277101735386680763835789423207666416102355444464034512896 * m3
 | _, _, _, _, _, _ => False

def SubMid (u0 u1 u2 u3 h0 h1 : Int) : Nat → Int → Int → Int → Int → Int → Prop
 | 0, o0, o1, o2, o3, c => o0 = u0 ∧ o1 = u1 ∧ o2 = u2 ∧ o3 = u3 ∧ c = 0
 | 1, o0, o1, o2, o3, c => o1 = u1 ∧ o2 = u2 ∧ o3 = u3 ∧ o0 - 18446744073709551616 * c = (u0 - h0)
 | 2, o0, o1, o2, o3, c => o2 = u2 ∧ o3 = u3 ∧ o0 + 18446744073709551616 * o1 - 340282366920938463463374607431768211456 * c = (u0 - h0) + 18446744073709551616 * (u1 - h1)
 | 3, o0, o1, o2, o3, c => o3 = u3 ∧ o0 + 18446744073709551616 * o1 + 340282366920938463463374607431768211456 * o2 - 6277101735386680763835789423207666416102355444464034512896 * c = (u0 - h0) + 18446744073709551616 * (u1 - h1) + 340282366920938463463374607431768211456 * u2
 | 4, o0, o1, o2, o3, c => o0 + 18446744073709551616 * o1 + 340282366920938463463374607431768211456 * o2 + 6277101735386680763835789423207666416102355444464034512896 * o3 - 115792089237316195423570985008687907853269984665640564039457584007913129639936 * c = (u0 - h0) + 18446744073709551616 * (u1 - h1) + 340282366920938463463374607431768211456 * u2 + 6277101735386680763835789423207666416102355444464034512896 * u3
 | _, _, _, _, _, _ => False

theorem addMid0 {q0 q1 m0 m1 m2 m3 o0 o1 o2 o3 c s d : Int} (h : SumMid q0 q1 m0 m1 m2 m3 0 o0 o1 o2 o3 c) (u : s + 18446744073709551616 * d = q0 + m0 + c) : SumMid q0 q1 m0 m1 m2 m3 1 s o1 o2 o3 d := by
 obtain ⟨e0, e1, e2, e3, e4⟩ := h
 exact ⟨e1, e2, e3, by omega⟩
theorem addMid1 {q0 q1 m0 m1 m2 m3 o0 o1 o2 o3 c s d : Int} (h : SumMid q0 q1 m0 m1 m2 m3 1 o0 o1 o2 o3 c) (u : s + 18446744073709551616 * d = q1 + m1 + c) : SumMid q0 q1 m0 m1 m2 m3 2 o0 s o2 o3 d := by
 obtain ⟨e0, e1, e2, e3⟩ := h
 exact ⟨e1, e2, by omega⟩
theorem addMid2 {q0 q1 m0 m1 m2 m3 o0 o1 o2 o3 c s d : Int} (h : SumMid q0 q1 m0 m1 m2 m3 2 o0 o1 o2 o3 c) (u : s + 18446744073709551616 * d = 0 + m2 + c) : SumMid q0 q1 m0 m1 m2 m3 3 o0 o1 s o3 d := by
 obtain ⟨e0, e1, e2⟩ := h
 exact ⟨e1, by omega⟩
theorem addMid3 {q0 q1 m0 m1 m2 m3 o0 o1 o2 o3 c s d : Int} (h : SumMid q0 q1 m0 m1 m2 m3 3 o0 o1 o2 o3 c) (u : s + 18446744073709551616 * d = 0 + m3 + c) : SumMid q0 q1 m0 m1 m2 m3 4 o0 o1 o2 s d := by
 obtain ⟨e0, e1⟩ := h
 show o0 + 18446744073709551616 * o1 + 340282366920938463463374607431768211456 * o2 + 6277101735386680763835789423207666416102355444464034512896 * s + 115792089237316195423570985008687907853269984665640564039457584007913129639936 * d = (q0 + m0) + 18446744073709551616 * (q1 + m1) + 340282366920938463463374607431768211456 * m2 + 6277101735386680763835789423207666416102355444464034512896 * m3
 omega
theorem subMid0 {u0 u1 u2 u3 h0 h1 o0 o1 o2 o3 c s d : Int} (h : SubMid u0 u1 u2 u3 h0 h1 0 o0 o1 o2 o3 c) (u : s - 18446744073709551616 * d = o0 - h0 - c) : SubMid u0 u1 u2 u3 h0 h1 1 s o1 o2 o3 d := by
 obtain ⟨e0, e1, e2, e3, e4⟩ := h
 exact ⟨e1, e2, e3, by omega⟩
theorem subMid1 {u0 u1 u2 u3 h0 h1 o0 o1 o2 o3 c s d : Int} (h : SubMid u0 u1 u2 u3 h0 h1 1 o0 o1 o2 o3 c) (u : s - 18446744073709551616 * d = o1 - h1 - c) : SubMid u0 u1 u2 u3 h0 h1 2 o0 s o2 o3 d := by
 obtain ⟨e0, e1, e2, e3⟩ := h
 exact ⟨e1, e2, by omega⟩
theorem subMid2 {u0 u1 u2 u3 h0 h1 o0 o1 o2 o3 c s d : Int} (h : SubMid u0 u1 u2 u3 h0 h1 2 o0 o1 o2 o3 c) (u : s - 18446744073709551616 * d = o2 - 0 - c) : SubMid u0 u1 u2 u3 h0 h1 3 o0 o1 s o3 d := by
 obtain ⟨e0, e1, e2⟩ := h
 exact ⟨e1, by omega⟩
theorem subMid3 {u0 u1 u2 u3 h0 h1 o0 o1 o2 o3 c s d : Int} (h : SubMid u0 u1 u2 u3 h0 h1 3 o0 o1 o2 o3 c) (u : s - 18446744073709551616 * d = o3 - 0 - c) : SubMid u0 u1 u2 u3 h0 h1 4 o0 o1 o2 s d := by
 obtain ⟨e0, e1⟩ := h
 show o0 + 18446744073709551616 * o1 + 340282366920938463463374607431768211456 * o2 + 6277101735386680763835789423207666416102355444464034512896 * s - 115792089237316195423570985008687907853269984665640564039457584007913129639936 * d = (u0 - h0) + 18446744073709551616 * (u1 - h1) + 340282366920938463463374607431768211456 * u2 + 6277101735386680763835789423207666416102355444464034512896 * u3
 omega

theorem fold_end {q0 q1 q2 q3 m0 m1 m2 m3 u0 u1 u2 u3 x0 x1 x2 x3 c d : Int} (a : SumMid q0 q1 m0 m1 m2 m3 4 u0 u1 u2 u3 c) (b : SubMid u0 u1 u2 u3 q2 q3 4 x0 x1 x2 x3 d) (hm : m0 + 18446744073709551616 * m1 + 340282366920938463463374607431768211456 * m2 + 6277101735386680763835789423207666416102355444464034512896 * m3 = (q2 + 18446744073709551616 * q3) * (0 + 18446744073709551616 * 28))
  (hq : 0 ≤ q0 ∧ q0 ≤ 18446744073709551615 ∧ 0 ≤ q1 ∧ q1 ≤ 18446744073709551615 ∧ 0 ≤ q2 ∧ q2 ≤ 18446744073709551615 ∧ 0 ≤ q3 ∧ q3 ≤ 18446744073709551615) (hx : 0 ≤ x0 ∧ x0 ≤ 18446744073709551615 ∧ 0 ≤ x1 ∧ x1 ≤ 18446744073709551615 ∧ 0 ≤ x2 ∧ x2 ≤ 18446744073709551615 ∧ 0 ≤ x3 ∧ x3 ≤ 18446744073709551615) (hc : 0 ≤ c ∧ c ≤ 1) (hd : 0 ≤ d ∧ d ≤ 1) :
  x0 + 18446744073709551616 * x1 + 340282366920938463463374607431768211456 * x2 + 6277101735386680763835789423207666416102355444464034512896 * x3 = q0 + 18446744073709551616 * q1 + (q2 + 18446744073709551616 * q3) * 516508834063867445247 := by
 have a' : u0 + 18446744073709551616 * u1 + 340282366920938463463374607431768211456 * u2 + 6277101735386680763835789423207666416102355444464034512896 * u3 + 115792089237316195423570985008687907853269984665640564039457584007913129639936 * c = (q0 + m0) + 18446744073709551616 * (q1 + m1) + 340282366920938463463374607431768211456 * m2 + 6277101735386680763835789423207666416102355444464034512896 * m3 := a
 have b' : x0 + 18446744073709551616 * x1 + 340282366920938463463374607431768211456 * x2 + 6277101735386680763835789423207666416102355444464034512896 * x3 - 115792089237316195423570985008687907853269984665640564039457584007913129639936 * d = (u0 - q2) + 18446744073709551616 * (u1 - q3) + 340282366920938463463374607431768211456 * u2 + 6277101735386680763835789423207666416102355444464034512896 * u3 := b
 omega

set_option maxHeartbeats 6000000 in
theorem quad_fold (q0 q1 q2 q3 : Int) (w : World) (hq : 0 ≤ q0 ∧ q0 ≤ 18446744073709551615 ∧ 0 ≤ q1 ∧ q1 ≤ 18446744073709551615 ∧ 0 ≤ q2 ∧ q2 ≤ 18446744073709551615 ∧ 0 ≤ q3 ∧ q3 ≤ 18446744073709551615) :
  Calls Tryz.prog 130 #[.agg #[.int .u64 q0, .int .u64 q1, .int .u64 q2, .int .u64 q3]] w (RetQ (q0 + 18446744073709551616 * q1 + (q2 + 18446744073709551616 * q3) * 516508834063867445247) w) := by
 obtain ⟨hq0, hq1, hq2, hq3, hq4, hq5, hq6, hq7⟩ := hq
 have r0 := V4.new w (.int .u64 q0) (.int .u64 q1) (.int .u64 q2) (.int .u64 q3) 141
 have z0 := V4.new (w.alloc (.cells #[.int .u64 q0, .int .u64 q1, .int .u64 q2, .int .u64 q3] 141)) (.int .u64 0) (.int .u64 0) (.int .u64 0) (.int .u64 0) 141
 have h0 := V2.new ((w.alloc (.cells #[.int .u64 q0, .int .u64 q1, .int .u64 q2, .int .u64 q3] 141)).alloc (.cells #[.int .u64 0, .int .u64 0, .int .u64 0, .int .u64 0] 141)) (.int .u64 q2) (.int .u64 q3) 36
 simp only [World.size_alloc] at z0 h0
 go_enter Tryz.func130, Tryz.ntmps130
 go_wp2_with fail
 refine (wide_product _ _ _ _ _ (by omega) (by omega) (by omega) (by omega) (by omega) (by omega) (by omega) (by omega)).mono ?_
 rintro e w1 ⟨m0, m1, m2, m3, rfl, ⟨hm0, hm1, hm2, hm3, hm4, hm5, hm6, hm7⟩, HM, hb1⟩
 have r1 := ((r0.alloc _).alloc _).call hb1
 have z1 := (z0.alloc _).call hb1
 have g1 := h0.call hb1
 have hbw1 : Below w.heap.size w w1 := by repeat (first | exact bA | with_reducible assumption | apply bB | (refine bC ?_ (by dsimp only; omega)) | apply bD | apply bE | (refine bF ?_ (by assumption)))
 have mm := V4.new w1 (.int .u64 m0) (.int .u64 m1) (.int .u64 m2) (.int .u64 m3) 141
 have oo := V4.new (w1.alloc (.cells #[.int .u64 m0, .int .u64 m1, .int .u64 m2, .int .u64 m3] 141)) (.int .u64 0) (.int .u64 0) (.int .u64 0) (.int .u64 0) 141
 have ll := V4.new ((w1.alloc (.cells #[.int .u64 m0, .int .u64 m1, .int .u64 m2, .int .u64 m3] 141)).alloc (.cells #[.int .u64 0, .int .u64 0, .int .u64 0, .int .u64 0] 141)) (.int .u64 q0) (.int .u64 q1) (.int .u64 0) (.int .u64 0) 141
 simp only [World.size_alloc] at oo ll
 have hsz : w.heap.size + 3 ≤ w1.heap.size := by
  have := hb1.size
  simp only [World.size_alloc] at this
  omega
 clear h0 z0 r0 hb1
 obtain ⟨r10, r11, r12, r13, r14, r15, r16, r17, r18⟩ := r1
 go_wp2_with fail
 go_loopw [24, 6] (fun i cv wr => ∃ (k : Nat) (o0 o1 o2 o3 c : Int), k ≤ 4 ∧ i = .int .i64 k ∧ cv = .int .u64 c ∧ V4 wr (w1.heap.size + 1) (.int .u64 o0) (.int .u64 o1) (.int .u64 o2) (.int .u64 o3) ∧ V4 wr w1.heap.size (.int .u64 m0) (.int .u64 m1) (.int .u64 m2) (.int .u64 m3) ∧
   V4 wr (w1.heap.size + 2) (.int .u64 q0) (.int .u64 q1) (.int .u64 0) (.int .u64 0) ∧ V4 wr (w.heap.size + 1) (.int .u64 0) (.int .u64 0) (.int .u64 0) (.int .u64 0) ∧ V2 wr (w.heap.size + 2) (.int .u64 q2) (.int .u64 q3) ∧ Below w.heap.size w wr ∧
   (0 ≤ o0 ∧ o0 ≤ 18446744073709551615 ∧ 0 ≤ o1 ∧ o1 ≤ 18446744073709551615 ∧ 0 ≤ o2 ∧ o2 ≤ 18446744073709551615 ∧ 0 ≤ o3 ∧ o3 ≤ 18446744073709551615) ∧ (0 ≤ c ∧ c ≤ 1) ∧ Hid (SumMid q0 q1 m0 m1 m2 m3 k o0 o1 o2 o3 c)) (fun i _ _ => 4 - (intOf i).toNat)
 case atStart => exact ⟨0, 0, 0, 0, 0, 0, by omega, rfl, rfl, oo.alloc _, (mm.alloc _).alloc _, ll, ((z1.alloc _).alloc _).alloc _, ((g1.alloc _).alloc _).alloc _, by repeat (first | exact bA | with_reducible assumption | apply bB | (refine bC ?_ (by dsimp only; omega)) | apply bD | apply bE | (refine bF ?_ (by assumption))), by omega, by omega, ⟨rfl, rfl, rfl, rfl, rfl⟩⟩
 case round =>
  clear mm oo ll z1 g1 r10 r11 r12 r13 r14 r15 r16 r17 r18
  obtain ⟨k, o0, o1, o2, o3, c, hk, rfl, rfl, ho, hm, hl, hz, hg, hbw, ⟨p0, p1, p2, p3, p4, p5, p6, p7⟩, ⟨hc0, hc1⟩, HA⟩ := hrel
  obtain ⟨o00, o01, o02, o03, o04, o05, o06, o07, o08⟩ := ho
  obtain ⟨m00, m01, m02, m03, m04, m05, m06, m07, m08⟩ := hm
  obtain ⟨l00, l01, l02, l03, l04, l05, l06, l07, l08⟩ := hl
  by_cases hlk : k < 4
  ·have hcase : k = 0 ∨ k = 1 ∨ k = 2 ∨ k = 3 := by omega
   rcases hcase with rfl | rfl | rfl | rfl
   ·obtain ⟨s1, d1, hr1, ⟨hs10, hs11, hd10, hd11⟩, HE1⟩ := add64x q0 m0 c (by omega) (by omega) (by omega) (by omega) (by omega) (by omega)
    go_wp2_with fail
    first | (go_region_with (fail)) | fail
    all_goals
     go_wp2_with fail
     go_roundw
     case rel =>
      exact ⟨1, s1, o1, o2, o3, d1, by omega, by go_num, by go_num, V4.put0 (V4.drewN ⟨o00, o01, o02, o03, o04, o05, o06, o07, o08⟩ 1) _, V4.far (V4.drewN ⟨m00, m01, m02, m03, m04, m05, m06, m07, m08⟩ 1) (by dsimp only; omega) _, V4.far (V4.drewN ⟨l00, l01, l02, l03, l04, l05, l06, l07, l08⟩ 1) (by dsimp only; omega) _, V4.far (hz.drewN 1) (by dsimp only; omega) _, V2.setOther (hg.drewN 1) (by dsimp only; omega) _, by repeat (first | exact bA | with_reducible assumption | apply bB | (refine bC ?_ (by dsimp only; omega)) | apply bD | apply bE | (refine bF ?_ (by assumption))), by omega, by omega, addMid0 HA.out HE1.out⟩
     case measure => simp [intOf]
   ·obtain ⟨s1, d1, hr1, ⟨hs10, hs11, hd10, hd11⟩, HE1⟩ := add64x q1 m1 c (by omega) (by omega) (by omega) (by omega) (by omega) (by omega)
    go_wp2_with fail
    first | (go_region_with (fail)) | fail
    all_goals
     go_wp2_with fail
     go_roundw
     case rel =>
      exact ⟨2, o0, s1, o2, o3, d1, by omega, by go_num, by go_num, V4.put1 (V4.drewN ⟨o00, o01, o02, o03, o04, o05, o06, o07, o08⟩ 1) _, V4.far (V4.drewN ⟨m00, m01, m02, m03, m04, m05, m06, m07, m08⟩ 1) (by dsimp only; omega) _, V4.far (V4.drewN ⟨l00, l01, l02, l03, l04, l05, l06, l07, l08⟩ 1) (by dsimp only; omega) _, V4.far (hz.drewN 1) (by dsimp only; omega) _, V2.setOther (hg.drewN 1) (by dsimp only; omega) _, by repeat (first | exact bA | with_reducible assumption | apply bB | (refine bC ?_ (by dsimp only; omega)) | apply bD | apply bE | (refine bF ?_ (by assumption))), by omega, by omega, addMid1 HA.out HE1.out⟩
     case measure => simp [intOf]
   ·obtain ⟨s1, d1, hr1, ⟨hs10, hs11, hd10, hd11⟩, HE1⟩ := add64x 0 m2 c (by omega) (by omega) (by omega) (by omega) (by omega) (by omega)
    go_wp2_with fail
    first | (go_region_with (fail)) | fail
    all_goals
     go_wp2_with fail
     go_roundw
     case rel =>
      exact ⟨3, o0, o1, s1, o3, d1, by omega, by go_num, by go_num, V4.put2 (V4.drewN ⟨o00, o01, o02, o03, o04, o05, o06, o07, o08⟩ 1) _, V4.far (V4.drewN ⟨m00, m01, m02, m03, m04, m05, m06, m07, m08⟩ 1) (by dsimp only; omega) _, V4.far (V4.drewN ⟨l00, l01, l02, l03, l04, l05, l06, l07, l08⟩ 1) (by dsimp only; omega) _, V4.far (hz.drewN 1) (by dsimp only; omega) _, V2.setOther (hg.drewN 1) (by dsimp only; omega) _, by repeat (first | exact bA | with_reducible assumption | apply bB | (refine bC ?_ (by dsimp only; omega)) | apply bD | apply bE | (refine bF ?_ (by assumption))), by omega, by omega, addMid2 HA.out HE1.out⟩
     case measure => simp [intOf]
   ·obtain ⟨s1, d1, hr1, ⟨hs10, hs11, hd10, hd11⟩, HE1⟩ := add64x 0 m3 c (by omega) (by omega) (by omega) (by omega) (by omega) (by omega)
    go_wp2_with fail
    first | (go_region_with (fail)) | fail
    all_goals
     go_wp2_with fail
     go_roundw
     case rel =>
      exact ⟨4, o0, o1, o2, s1, d1, by omega, by go_num, by go_num, V4.put3 (V4.drewN ⟨o00, o01, o02, o03, o04, o05, o06, o07, o08⟩ 1) _, V4.far (V4.drewN ⟨m00, m01, m02, m03, m04, m05, m06, m07, m08⟩ 1) (by dsimp only; omega) _, V4.far (V4.drewN ⟨l00, l01, l02, l03, l04, l05, l06, l07, l08⟩ 1) (by dsimp only; omega) _, V4.far (hz.drewN 1) (by dsimp only; omega) _, V2.setOther (hg.drewN 1) (by dsimp only; omega) _, by repeat (first | exact bA | with_reducible assumption | apply bB | (refine bC ?_ (by dsimp only; omega)) | apply bD | apply bE | (refine bF ?_ (by assumption))), by omega, by omega, addMid3 HA.out HE1.out⟩
     case measure => simp [intOf]
  ·obtain rfl : k = 4 := by omega
   rw [show ((4 : Nat) : Int) = 4 from rfl]
   obtain ⟨hg0, hg1, hg2, hg3, hg4⟩ := hg
   have xx := V4.new wr (.int .u64 q2) (.int .u64 q3) (.int .u64 0) (.int .u64 0) 141
   have hszr : w1.heap.size + 3 ≤ wr.heap.size := by omega
   have ho := V4.alloc ⟨o00, o01, o02, o03, o04, o05, o06, o07, o08⟩ (.cells #[.int .u64 q2, .int .u64 q3, .int .u64 0, .int .u64 0] 141)
   have hz' := hz.alloc (.cells #[.int .u64 q2, .int .u64 q3, .int .u64 0, .int .u64 0] 141)
   go_wp2_with fail
   obtain ⟨wo, hwo⟩ : ∃ wo : World, wo = wr := ⟨_, rfl⟩
   subst hwo
   go_loopw [46, 6] (fun i cv wi => ∃ (k : Nat) (x0 x1 x2 x3 d : Int), k ≤ 4 ∧ i = .int .i64 k ∧ cv = .int .u64 d ∧ V4 wi (w1.heap.size + 1) (.int .u64 x0) (.int .u64 x1) (.int .u64 x2) (.int .u64 x3) ∧ V4 wi wo.heap.size (.int .u64 q2) (.int .u64 q3) (.int .u64 0) (.int .u64 0) ∧
     V4 wi (w.heap.size + 1) (.int .u64 0) (.int .u64 0) (.int .u64 0) (.int .u64 0) ∧ Below w.heap.size w wi ∧
     (0 ≤ x0 ∧ x0 ≤ 18446744073709551615 ∧ 0 ≤ x1 ∧ x1 ≤ 18446744073709551615 ∧ 0 ≤ x2 ∧ x2 ≤ 18446744073709551615 ∧ 0 ≤ x3 ∧ x3 ≤ 18446744073709551615) ∧ (0 ≤ d ∧ d ≤ 1) ∧ Hid (SubMid o0 o1 o2 o3 q2 q3 k x0 x1 x2 x3 d)) (fun i _ _ => 4 - (intOf i).toNat)
   case atStart => exact ⟨0, o0, o1, o2, o3, 0, by omega, rfl, rfl, ho, xx, hz', by repeat (first | exact bA | with_reducible assumption | apply bB | (refine bC ?_ (by dsimp only; omega)) | apply bD | apply bE | (refine bF ?_ (by assumption))), by omega, by omega, ⟨rfl, rfl, rfl, rfl, rfl⟩⟩
   case round =>
    obtain ⟨k, x0, x1, x2, x3, d, hk, rfl, rfl, hx, hh, hz, hbw, ⟨y0, y1, y2, y3, y4, y5, y6, y7⟩, ⟨hd0, hd1⟩, HS⟩ := hrel
    clear ho hz' xx o00 o01 o02 o03 o04 o05 o06 o07 o08 m00 m01 m02 m03 m04 m05 m06 m07 m08 l00 l01 l02 l03 l04 l05 l06 l07 l08 hg0 hg1 hg2 hg3 hg4
    obtain ⟨x00, x01, x02, x03, x04, x05, x06, x07, x08⟩ := hx
    obtain ⟨h00, h01, h02, h03, h04, h05, h06, h07, h08⟩ := hh
    by_cases hlk : k < 4
    ·have hcase : k = 0 ∨ k = 1 ∨ k = 2 ∨ k = 3 := by omega
     rcases hcase with rfl | rfl | rfl | rfl
     ·obtain ⟨s1, d1, hr1, ⟨hs10, hs11, hd10, hd11⟩, HE1⟩ := sub64x x0 q2 d (by omega) (by omega) (by omega) (by omega) (by omega) (by omega)
      go_wp2_with fail
      first | (go_region_with (fail)) | fail
      all_goals
       go_wp2_with fail
       go_roundw
       case rel =>
        exact ⟨1, s1, x1, x2, x3, d1, by omega, by go_num, by go_num, V4.put0 (V4.drewN ⟨x00, x01, x02, x03, x04, x05, x06, x07, x08⟩ 1) _, V4.far (V4.drewN ⟨h00, h01, h02, h03, h04, h05, h06, h07, h08⟩ 1) (by dsimp only; omega) _, V4.far (hz.drewN 1) (by dsimp only; omega) _, by repeat (first | exact bA | with_reducible assumption | apply bB | (refine bC ?_ (by dsimp only; omega)) | apply bD | apply bE | (refine bF ?_ (by assumption))), by omega, by omega, subMid0 HS.out HE1.out⟩
       case measure => simp [intOf]
     ·obtain ⟨s1, d1, hr1, ⟨hs10, hs11, hd10, hd11⟩, HE1⟩ := sub64x x1 q3 d (by omega) (by omega) (by omega) (by omega) (by omega) (by omega)
      go_wp2_with fail
      first | (go_region_with (fail)) | fail
      all_goals
       go_wp2_with fail
       go_roundw
       case rel =>
        exact ⟨2, x0, s1, x2, x3, d1, by omega, by go_num, by go_num, V4.put1 (V4.drewN ⟨x00, x01, x02, x03, x04, x05, x06, x07, x08⟩ 1) _, V4.far (V4.drewN ⟨h00, h01, h02, h03, h04, h05, h06, h07, h08⟩ 1) (by dsimp only; omega) _, V4.far (hz.drewN 1) (by dsimp only; omega) _, by repeat (first | exact bA | with_reducible assumption | apply bB | (refine bC ?_ (by dsimp only; omega)) | apply bD | apply bE | (refine bF ?_ (by assumption))), by omega, by omega, subMid1 HS.out HE1.out⟩
       case measure => simp [intOf]
     ·obtain ⟨s1, d1, hr1, ⟨hs10, hs11, hd10, hd11⟩, HE1⟩ := sub64x x2 0 d (by omega) (by omega) (by omega) (by omega) (by omega) (by omega)
      go_wp2_with fail
      first | (go_region_with (fail)) | fail
      all_goals
       go_wp2_with fail
       go_roundw
       case rel =>
        exact ⟨3, x0, x1, s1, x3, d1, by omega, by go_num, by go_num, V4.put2 (V4.drewN ⟨x00, x01, x02, x03, x04, x05, x06, x07, x08⟩ 1) _, V4.far (V4.drewN ⟨h00, h01, h02, h03, h04, h05, h06, h07, h08⟩ 1) (by dsimp only; omega) _, V4.far (hz.drewN 1) (by dsimp only; omega) _, by repeat (first | exact bA | with_reducible assumption | apply bB | (refine bC ?_ (by dsimp only; omega)) | apply bD | apply bE | (refine bF ?_ (by assumption))), by omega, by omega, subMid2 HS.out HE1.out⟩
       case measure => simp [intOf]
     ·obtain ⟨s1, d1, hr1, ⟨hs10, hs11, hd10, hd11⟩, HE1⟩ := sub64x x3 0 d (by omega) (by omega) (by omega) (by omega) (by omega) (by omega)
      go_wp2_with fail
      first | (go_region_with (fail)) | fail
      all_goals
       go_wp2_with fail
       go_roundw
       case rel =>
        exact ⟨4, x0, x1, x2, s1, d1, by omega, by go_num, by go_num, V4.put3 (V4.drewN ⟨x00, x01, x02, x03, x04, x05, x06, x07, x08⟩ 1) _, V4.far (V4.drewN ⟨h00, h01, h02, h03, h04, h05, h06, h07, h08⟩ 1) (by dsimp only; omega) _, V4.far (hz.drewN 1) (by dsimp only; omega) _, by repeat (first | exact bA | with_reducible assumption | apply bB | (refine bC ?_ (by dsimp only; omega)) | apply bD | apply bE | (refine bF ?_ (by assumption))), by omega, by omega, subMid3 HS.out HE1.out⟩
       case measure => simp [intOf]
    ·obtain rfl : k = 4 := by omega
     obtain ⟨cz0, cz1, cz2, cz3, cz4, cz5, cz6, cz7, cz8⟩ := hz
     go_wp2_with fail
     refine bodyPost_ret (results_v4 (b := w.heap.size + 1) (q0 := .int .u64 x0) (q1 := .int .u64 x1) (q2 := .int .u64 x2) (q3 := .int .u64 x3) ?_ rfl rfl) rfl ?_
     ·exact V4.set ⟨cz0, cz1, cz2, cz3, cz4, cz5, cz6, cz7, cz8⟩ _ _ _ _
     ·exact ⟨x0, x1, x2, x3, rfl, ⟨y0, y1, y2, y3, y4, y5, y6, y7⟩, fold_end HA.out HS.out HM.out (by omega) (by omega) (by omega) (by omega), by repeat (first | exact bA | with_reducible assumption | apply bB | (refine bC ?_ (by dsimp only; omega)) | apply bD | apply bE | (refine bF ?_ (by assumption)))⟩

end Go.Proofs.YtfbfbijkkbflkaaGreatDoor
