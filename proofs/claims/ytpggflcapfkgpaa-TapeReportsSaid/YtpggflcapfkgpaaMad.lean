/-
 Wide4, RefA: what the statements of this layer share.
-/
import Derived.Test.YtpggflcapfkgpaaMac
namespace Go.Proofs.Ytpggflcapfkgpaa
open Go.RowKit Fm
set_option linter.unusedVariables false
set_option maxRecDepth 100000

theorem neg_fin (p n x r : Int) (hx : x = n % p) (hp : 0 < p) (hr : (x = 0 ∧ r = 0) ∨ (x ≠ 0 ∧ r = p - x)) : r = (-n) % p := by
 have h0 := Int.emod_nonneg n (b := p) (by omega)
 have h1 := Int.emod_lt_of_pos n hp
 have e : (-n) % p = (-x) % p := by
  have h : -n = -x + p * (-(n / p)) := by
   rw [hx, Int.emod_def, Int.mul_neg]
   omega
  rw [h, Int.add_mul_emod_self_left]
 rw [e]
 rcases hr with ⟨h, h'⟩ | ⟨h, h'⟩
 ·rw [h, h']; simp
 ·rw [h', ← Int.add_emod_left, Int.emod_eq_of_lt (by omega) (by omega)]
  omega

set_option maxHeartbeats 4000000 in
theorem wide_Neg (a0 a1 : Int) (w : World) (h0 : 0 ≤ a0) (h1 : a0 ≤ 18446744073709551615) (k0 : 0 ≤ a1) (k1 : a1 ≤ 18446744073709551615) :
  Calls Try.prog 56 #[.agg #[.int .u64 a0, .int .u64 a1]] w (RetE ((-(a0 + 18446744073709551616 * a1)) % 340282366920938462946865773367900766209) w) := by
 have heq := eql_elem
 go_enter Try.func56, Try.ntmps56
 go_wp2_with fail
 refine (Of_any a0 a1 _ h0 h1 k0 k1).mono ?_
 rintro e w1 ⟨x0, x1, rfl, ⟨hx0, hx1, hx2, hx3⟩, HX, hb1⟩
 have q1 := ((V2.new w (.int .u64 a0) (.int .u64 a1) 55).alloc (.cells #[.int .u64 0, .int .u64 0] 55)).call hb1
 have s0 := V2.new (w.alloc (.cells #[.int .u64 a0, .int .u64 a1] 55)) (.int .u64 0) (.int .u64 0) 55
 have s1 := s0.call hb1
 simp only [World.size_alloc] at s1
 clear s0
 have p1 := q1.set (.int .u64 x0) (.int .u64 x1)
 have s2 := V2.setOther (V2.setOther s1 (p := ⟨w.heap.size, 0, none⟩) (by dsimp only; omega) (.int .u64 x0)) (p := ⟨w.heap.size, 1, none⟩) (by dsimp only; omega) (.int .u64 x1)
 have hp := p1
 obtain ⟨c10, c11, c12, c13, c14⟩ := q1
 obtain ⟨c20, c21, c22, c23, c24⟩ := hp
 have hxm : x0 + 18446744073709551616 * x1 < 340282366920938462946865773367900766209 := by
  rw [HX.out]
  exact Int.emod_lt_of_pos _ (by omega)
 by_cases hz : x0 = 0 ∧ x1 = 0
 ·obtain ⟨rfl, rfl⟩ := hz
  have hs2 := s2
  obtain ⟨d20, d21, d22, d23, d24⟩ := hs2
  go_wp2
  refine bodyPost_ret (results_v2 (b := w.heap.size + 1) (u := .int .u64 0) (v := .int .u64 0) ?_ rfl rfl) rfl ?_
  ·exact V2.set s2 _ _
  ·exact ⟨_, _, rfl, by omega, neg_fin _ _ _ _ HX.out (by omega) (.inl ⟨by omega, by omega⟩), by repeat (first | exact bA | with_reducible assumption | apply bB | (refine bC ?_ (by dsimp only; omega)) | apply bD | apply bE | (refine bF ?_ (by assumption)))⟩
 ·have hne : (x0 == 0 && x1 == 0) = false := by
   rw [Bool.and_eq_false_iff, beq_eq_false_iff_ne, beq_eq_false_iff_ne]
   omega
  go_wp2_with fail
  go_region_with (first
   | (go_at_call 50; refine (wide_P _).mono ?_; rintro e w5 ⟨rfl, hb5'⟩; have hb5 := undrew hb5'; clear hb5'; have p5 := p1.call hb5; have s5 := s2.call hb5; obtain ⟨c50, c51, c52, c53, c54⟩ := p5)
   | (go_at_call 59; refine (take_any _ _ _ _ _ (by omega) (by omega) (by omega) (by omega) (by omega) (by omega) (by omega) (by omega)).mono ?_; rintro e w6 ⟨z0, z1, rfl, ⟨hz0, hz1, hz2, hz3⟩, HZ, hb6⟩; have s6 := s5.call hb6; obtain ⟨d60, d61, d62, d63, d64⟩ := s5.call hb6))
  all_goals
   go_wp2
   refine bodyPost_ret (results_v2 (b := w.heap.size + 1) (u := .int .u64 z0) (v := .int .u64 z1) ?_ rfl rfl) rfl ?_
   ·exact V2.set s6 _ _
   ·refine ⟨_, _, rfl, ⟨hz0, hz1, hz2, hz3⟩, ?_, by repeat (first | exact bA | with_reducible assumption | apply bB | (refine bC ?_ (by dsimp only; omega)) | apply bD | apply bE | (refine bF ?_ (by assumption)))⟩
    show _ = _
    have e := HZ.out
    rw [Int.emod_eq_of_lt (by omega) (by omega)] at e
    exact neg_fin _ _ _ _ HX.out (by omega) (.inr ⟨by omega, by omega⟩)

theorem sub_fin (p a b : Int) : (a + (-b) % p) % p = (a - b) % p := by
 rw [Int.add_emod, Int.emod_emod_of_dvd _ (Int.dvd_refl p), ← Int.add_emod, ← Int.sub_eq_add_neg]

set_option maxHeartbeats 4000000 in
theorem wide_Sub (a0 a1 b0 b1 : Int) (w : World) (h0 : 0 ≤ a0) (h1 : a0 ≤ 18446744073709551615) (k0 : 0 ≤ a1) (k1 : a1 ≤ 18446744073709551615)
  (g0 : 0 ≤ b0) (g1 : b0 ≤ 18446744073709551615) (j0 : 0 ≤ b1) (j1 : b1 ≤ 18446744073709551615) :
  Calls Try.prog 52 #[.agg #[.int .u64 a0, .int .u64 a1], .agg #[.int .u64 b0, .int .u64 b1]] w
   (RetE ((a0 + 18446744073709551616 * a1 - (b0 + 18446744073709551616 * b1)) % 340282366920938462946865773367900766209) w) := by
 have q0 := ((V2.new w (.int .u64 a0) (.int .u64 a1) 55).alloc (.cells #[.int .u64 b0, .int .u64 b1] 55)).alloc (.cells #[.int .u64 0, .int .u64 0] 55)
 have s0 := V2.new ((w.alloc (.cells #[.int .u64 a0, .int .u64 a1] 55)).alloc (.cells #[.int .u64 b0, .int .u64 b1] 55)) (.int .u64 0) (.int .u64 0) 55
 simp only [World.size_alloc] at s0
 go_enter Try.func52, Try.ntmps52
 go_wp2_with fail
 go_region_with (first
  | (go_at_call 56; refine (wide_Neg _ _ _ (by omega) (by omega) (by omega) (by omega)).mono ?_; rintro e w5 ⟨y0, y1, rfl, ⟨hy0, hy1, hy2, hy3⟩, HY, hb5'⟩; have hb5 := undrew hb5'; clear hb5'; have q5 := q0.call hb5; have s5 := s0.call hb5; obtain ⟨c50, c51, c52, c53, c54⟩ := q5)
  | (go_at_call 55; refine (wide_Add _ _ _ _ _ (by omega) (by omega) (by omega) (by omega) (by omega) (by omega) (by omega) (by omega)).mono ?_; rintro e w6 ⟨z0, z1, rfl, ⟨hz0, hz1, hz2, hz3⟩, HZ, hb6⟩; have s6 := s5.call hb6; obtain ⟨d60, d61, d62, d63, d64⟩ := s5.call hb6))
 all_goals
  go_wp2
  refine bodyPost_ret (results_v2 (b := w.heap.size + 1 + 1) (u := .int .u64 z0) (v := .int .u64 z1) ?_ rfl rfl) rfl ?_
  ·exact V2.set s6 _ _
  ·refine ⟨_, _, rfl, ⟨hz0, hz1, hz2, hz3⟩, ?_, by repeat (first | exact bA | with_reducible assumption | apply bB | (refine bC ?_ (by dsimp only; omega)) | apply bD | apply bE | (refine bF ?_ (by assumption)))⟩
   show _ = _
   rw [HZ.out, HY.out, sub_fin]

end Go.Proofs.Ytpggflcapfkgpaa

namespace Go.Proofs.Ytpggflcapfkgpaa
open Go.RowKit Fm
set_option linter.unusedVariables false
set_option maxRecDepth 100000

structure RefM (f m p0 p1 : Int) : Prop where
 or : (f = 1 ∧ p0 = 18446744069414584321 ∧ p1 = 0 ∧ m = 18446744069414584321) ∨ (f ≠ 1 ∧ p0 = 1 ∧ p1 = 18446744073709551588 ∧ m = 340282366920938462946865773367900766209)

theorem ref_P (f m p0 p1 : Int) (w : World) (hm : RefM f m p0 p1) :
  Calls Try.prog 40 #[.int .i64 f] w fun e w' => e = .returned (.agg #[.int .u64 p0, .int .u64 p1]) ∧ Below w.heap.size w w' := by
 rcases hm.or with ⟨rfl, rfl, rfl, rfl⟩ | ⟨hf, rfl, rfl, rfl⟩
 ·go_enter Try.func40, Try.ntmps40
  go_wp2
  refine bodyPost_ret (results_v2 (b := w.heap.size) (u := .int .u64 18446744069414584321) (v := .int .u64 0) ?_ rfl rfl) rfl ?_
  ·exact V2.new w _ _ _
  ·exact ⟨rfl, by repeat (first | exact bA | with_reducible assumption | apply bB | (refine bC ?_ (by dsimp only; omega)) | apply bD | apply bE | (refine bF ?_ (by assumption)))⟩
 ·have hb : (f == 1) = false := by simp; omega
  go_enter Try.func40, Try.ntmps40
  go_wp2
  refine bodyPost_ret (results_v2 (b := w.heap.size) (u := .int .u64 1) (v := .int .u64 18446744073709551588) ?_ rfl rfl) rfl ?_
  ·exact V2.new w _ _ _
  ·exact ⟨rfl, by repeat (first | exact bA | with_reducible assumption | apply bB | (refine bC ?_ (by dsimp only; omega)) | apply bD | apply bE | (refine bF ?_ (by assumption)))⟩

theorem ref_Less (a0 a1 b0 b1 : Int) (w : World) (h0 : 0 ≤ a0) (h1 : a0 ≤ 18446744073709551615) (g0 : 0 ≤ b0) (g1 : b0 ≤ 18446744073709551615) :
  Calls Try.prog 39 #[.agg #[.int .u64 a0, .int .u64 a1], .agg #[.int .u64 b0, .int .u64 b1]] w fun e w' => e = .returned (.bool (decide (a0 + 18446744073709551616 * a1 < b0 + 18446744073709551616 * b1))) ∧ Below w.heap.size w w' := by
 by_cases h : a1 = b1
 ·subst h
  have ht : decide (a0 + 18446744073709551616 * a1 < b0 + 18446744073709551616 * a1) = decide (a0 < b0) := by congr 1; simp
  rw [ht]
  clear ht
  go_enter Try.func39, Try.ntmps39
  go_wp2
  all_goals go_ret
  all_goals exact ⟨rfl, by repeat (first | exact bA | with_reducible assumption | apply bB | (refine bC ?_ (by dsimp only; omega)) | apply bD | apply bE | (refine bF ?_ (by assumption)))⟩
 ·have hne : (a1 == b1) = false := by simp; omega
  have hne2 : (a1 != b1) = true := by simp; omega
  have ht : decide (a0 + 18446744073709551616 * a1 < b0 + 18446744073709551616 * b1) = decide (a1 < b1) := by congr 1; simp; omega
  rw [ht]
  clear ht
  go_enter Try.func39, Try.ntmps39
  go_wp2
  all_goals go_ret
  all_goals exact ⟨rfl, by repeat (first | exact bA | with_reducible assumption | apply bB | (refine bC ?_ (by dsimp only; omega)) | apply bD | apply bE | (refine bF ?_ (by assumption)))⟩

set_option maxHeartbeats 1000000 in
theorem ref_take (a0 a1 b0 b1 : Int) (w : World) (h0 : 0 ≤ a0) (h1 : a0 ≤ 18446744073709551615) (g0 : 0 ≤ b0) (g1 : b0 ≤ 18446744073709551615)
     (k0 : 0 ≤ a1) (k1 : a1 ≤ 18446744073709551615) (j0 : 0 ≤ b1) (j1 : b1 ≤ 18446744073709551615) :
  Calls Try.prog 41 #[.agg #[.int .u64 a0, .int .u64 a1], .agg #[.int .u64 b0, .int .u64 b1]] w
   (RetE ((a0 + 18446744073709551616 * a1 - (b0 + 18446744073709551616 * b1)) % 340282366920938463463374607431768211456) w) := by
 by_cases hlt : a0 < b0
 ·go_enter Try.func41, Try.ntmps41
  go_wp2
  refine bodyPost_ret (by simp [results, Try.results41, go_sem]; rfl) rfl ?_
  refine ⟨_, _, rfl, ?_, ?_, by repeat (first | exact bA | with_reducible assumption | apply bB | (refine bC ?_ (by dsimp only; omega)) | apply bD | apply bE | (refine bF ?_ (by assumption)))⟩
  ·simp only [IntKind.wrap_u64]; omega
  ·show _ = _
   simp only [IntKind.wrap_u64]; omega
 ·go_enter Try.func41, Try.ntmps41
  go_wp2
  refine bodyPost_ret (by simp [results, Try.results41, go_sem]; rfl) rfl ?_
  refine ⟨_, _, rfl, ?_, ?_, by repeat (first | exact bA | with_reducible assumption | apply bB | (refine bC ?_ (by dsimp only; omega)) | apply bD | apply bE | (refine bF ?_ (by assumption)))⟩
  ·simp only [IntKind.wrap_u64]; omega
  ·show _ = _
   simp only [IntKind.wrap_u64]; omega

def nI (f a0 a1 : Int) : Int := if f = 1 then a0 else a0 + 18446744073709551616 * a1

structure OfMid (f m a0 a1 : Int) (w wx : World) : Prop where
 ex : ∃ x0 x1 : Int, V2 wx w.heap.size (.int .u64 x0) (.int .u64 x1) ∧ (0 ≤ x0 ∧ x0 ≤ 18446744073709551615 ∧ 0 ≤ x1 ∧ x1 ≤ 18446744073709551615) ∧ Hid (x0 + 18446744073709551616 * x1 = nI f a0 a1) ∧ x0 + 18446744073709551616 * x1 < m + m
 res : V2 wx (w.heap.size + 1) (.int .u64 0) (.int .u64 0)
 below : Below w.heap.size w wx

set_option maxHeartbeats 2000000 in
theorem ref_Of (f m p0 p1 a0 a1 : Int) (w : World) (hm : RefM f m p0 p1) (h0 : 0 ≤ a0) (h1 : a0 ≤ 18446744073709551615) (k0 : 0 ≤ a1) (k1 : a1 ≤ 18446744073709551615) :
  Calls Try.prog 26 #[.int .i64 f, .agg #[.int .u64 a0, .int .u64 a1]] w (RetE (nI f a0 a1 % m) w) := by
 have hp : 0 ≤ p0 ∧ p0 ≤ 18446744073709551615 ∧ 0 ≤ p1 ∧ p1 ≤ 18446744073709551615 ∧ m = p0 + 18446744073709551616 * p1 := by
  rcases hm.or with ⟨_, rfl, rfl, rfl⟩ | ⟨_, rfl, rfl, rfl⟩ <;> omega
 obtain ⟨hp0, hp1, hp2, hp3, hpm'⟩ := hp
 have HPM := Lib.hid hpm'
 clear hpm'
 go_enter Try.func26, Try.ntmps26
 go_upto_if 6 with fail
 go_cut [] (fun wx => OfMid f m a0 a1 w wx)
 case first =>
  have q0 := (V2.new w (.int .u64 a0) (.int .u64 a1) 55).alloc (.cells #[.int .u64 0, .int .u64 0] 55)
  have s0 := V2.new (w.alloc (.cells #[.int .u64 a0, .int .u64 a1] 55)) (.int .u64 0) (.int .u64 0) 55
  simp only [World.size_alloc] at s0
  rcases hm.or with ⟨rfl, rfl, rfl, rfl⟩ | ⟨hf, rfl, rfl, rfl⟩
  ·go_wp2
   go_meet
   refine ⟨⟨a0, 0, (V2.new w (.int .u64 a0) (.int .u64 0) 55).alloc (.cells #[.int .u64 0, .int .u64 0] 55), by omega, by show _ = _; unfold nI; rw [if_pos rfl]; omega, by omega⟩, ?_, by repeat (first | exact bA | with_reducible assumption | apply bB | (refine bC ?_ (by dsimp only; omega)) | apply bD | apply bE | (refine bF ?_ (by assumption)))⟩
   have s1 := V2.new (w.alloc (.cells #[.int .u64 a0, .int .u64 0] 55)) (.int .u64 0) (.int .u64 0) 55
   simpa only [World.size_alloc] using s1
  ·have hb : (f == 1) = false := by simp; omega
   go_wp2
   go_meet
   exact ⟨⟨a0, a1, q0, by omega, by show _ = _; unfold nI; rw [if_neg hf], by omega⟩, s0, by repeat (first | exact bA | with_reducible assumption | apply bB | (refine bC ?_ (by dsimp only; omega)) | apply bD | apply bE | (refine bF ?_ (by assumption)))⟩
 case rest =>
  obtain ⟨⟨x0, x1, q1, ⟨hx0, hx1, hx2, hx3⟩, HX, hxm⟩, s1, hb0⟩ := hcut
  have hxm' : x0 + 18446744073709551616 * x1 < p0 + 18446744073709551616 * p1 + (p0 + 18446744073709551616 * p1) := by have := HPM.out; omega
  clear hxm
  have hq := q1
  obtain ⟨c10, c11, c12, c13, c14⟩ := hq
  by_cases hlt : x0 + 18446744073709551616 * x1 < p0 + 18446744073709551616 * p1
  ·have hd : decide (x0 + 18446744073709551616 * x1 < p0 + 18446744073709551616 * p1) = true := by simp; omega
   go_wp2_with fail
   go_region_with (first
    | (go_at_call 40; refine (ref_P f m p0 p1 _ hm).mono ?_; rintro e w2 ⟨rfl, hb2'⟩; have hb2 := undrew hb2'; clear hb2'; have q2 := q1.call hb2; have s2 := s1.call hb2; obtain ⟨c20, c21, c22, c23, c24⟩ := q2)
    | (go_at_call 39; refine (ref_Less _ _ _ _ _ (by omega) (by omega) (by omega) (by omega)).mono ?_; rintro e w3 ⟨rfl, hb3⟩; have q3 := V2.call ⟨c20, c21, c22, c23, c24⟩ hb3; have s3 := s2.call hb3; obtain ⟨c30, c31, c32, c33, c34⟩ := V2.call ⟨c20, c21, c22, c23, c24⟩ hb3; obtain ⟨d30, d31, d32, d33, d34⟩ := s2.call hb3))
   all_goals
    go_wp2
    refine bodyPost_ret (results_v2 (b := w.heap.size + 1) (u := .int .u64 x0) (v := .int .u64 x1) ?_ rfl rfl) rfl ?_
    ·exact V2.set ⟨d30, d31, d32, d33, d34⟩ _ _
    ·refine ⟨_, _, rfl, ⟨hx0, hx1, hx2, hx3⟩, ?_, by repeat (first | exact bA | with_reducible assumption | apply bB | (refine bC ?_ (by dsimp only; omega)) | apply bD | apply bE | (refine bF ?_ (by assumption)))⟩
     show _ = _
     rw [← HX.out, Int.emod_eq_of_lt (by omega) (by rw [HPM.out]; exact hlt)]
  ·have hd : decide (x0 + 18446744073709551616 * x1 < p0 + 18446744073709551616 * p1) = false := by simp; omega
   go_upto_region 3 with fail
   go_cut [12] (fun c wx => c = .bool true ∧ V2 wx w.heap.size (.int .u64 x0) (.int .u64 x1) ∧ V2 wx (w.heap.size + 1) (.int .u64 0) (.int .u64 0) ∧ Below w.heap.size w wx)
   case first =>
    go_region_with (first
    | (go_at_call 40; refine (ref_P f m p0 p1 _ hm).mono ?_; rintro e w2 ⟨rfl, hb2'⟩; have hb2 := undrew hb2'; clear hb2'; have q2 := q1.call hb2; have s2 := s1.call hb2; obtain ⟨c20, c21, c22, c23, c24⟩ := q2)
    | (go_at_call 39; refine (ref_Less _ _ _ _ _ (by omega) (by omega) (by omega) (by omega)).mono ?_; rintro e w3 ⟨rfl, hb3⟩; have q3 := V2.call ⟨c20, c21, c22, c23, c24⟩ hb3; have s3 := s2.call hb3; obtain ⟨c30, c31, c32, c33, c34⟩ := V2.call ⟨c20, c21, c22, c23, c24⟩ hb3; obtain ⟨d30, d31, d32, d33, d34⟩ := s2.call hb3))
    all_goals
     go_wp2
     go_meet
     exact ⟨rfl, q3, s3, by repeat (first | exact bA | with_reducible assumption | apply bB | (refine bC ?_ (by dsimp only; omega)) | apply bD | apply bE | (refine bF ?_ (by assumption)))⟩
   case rest =>
    obtain ⟨rfl, q4, s4, hb4⟩ := hcut
    have hq4 := q4
    obtain ⟨c40, c41, c42, c43, c44⟩ := hq4
    go_wp2_with fail
    go_region_with (first
    | (go_at_call 40; refine (ref_P f m p0 p1 _ hm).mono ?_; rintro e w5 ⟨rfl, hb5'⟩; have hb5 := undrew hb5'; clear hb5'; have q5 := q4.call hb5; have s5 := s4.call hb5; obtain ⟨c50, c51, c52, c53, c54⟩ := q5)
    | (go_at_call 41; refine (ref_take _ _ _ _ _ (by omega) (by omega) (by omega) (by omega) (by omega) (by omega) (by omega) (by omega)).mono ?_; rintro e w6 ⟨z0, z1, rfl, ⟨hz0, hz1, hz2, hz3⟩, HZ, hb6⟩; obtain ⟨d60, d61, d62, d63, d64⟩ := s5.call hb6))
    all_goals
     go_wp2
     refine bodyPost_ret (results_v2 (b := w.heap.size + 1) (u := .int .u64 z0) (v := .int .u64 z1) ?_ rfl rfl) rfl ?_
     ·exact V2.set ⟨d60, d61, d62, d63, d64⟩ _ _
     ·refine ⟨_, _, rfl, ⟨hz0, hz1, hz2, hz3⟩, ?_, by repeat (first | exact bA | with_reducible assumption | apply bB | (refine bC ?_ (by dsimp only; omega)) | apply bD | apply bE | (refine bF ?_ (by assumption)))⟩
      show _ = _
      have e := HZ.out
      rw [Int.emod_eq_of_lt (by omega) (by omega)] at e
      rw [← HX.out, HPM.out, e, ← Int.sub_emod_right, Int.emod_eq_of_lt (by omega) (by omega)]

end Go.Proofs.Ytpggflcapfkgpaa
