/-
 RefA, Field, Pair, Append, Some, K: what the statements of this layer share.
-/
import Derived.Maps.AppendAt
import Derived.Test.YtbakkmfjamcbfaaKac
namespace Go.Proofs.Ytbakkmfjamcbfaa
open Go.RowKit Fm
set_option linter.unusedVariables false
set_option maxRecDepth 100000

structure RefM (f m p0 p1 : Int) : Prop where
 or : (f = 1 ∧ p0 = 18446744069414584321 ∧ p1 = 0 ∧ m = 18446744069414584321) ∨ (f ≠ 1 ∧ p0 = 1 ∧ p1 = 18446744073709551588 ∧ m = 340282366920938462946865773367900766209)

theorem ref_P (f m p0 p1 : Int) (w : World) (hm : RefM f m p0 p1) :
  Calls Try.prog 90 #[.int .i64 f] w fun e w' => e = .returned (.agg #[.int .u64 p0, .int .u64 p1]) ∧ Below w.heap.size w w' := by
 rcases hm.or with ⟨rfl, rfl, rfl, rfl⟩ | ⟨hf, rfl, rfl, rfl⟩
 ·go_enter Try.func90, Try.ntmps90
  go_wp2
  refine bodyPost_ret (results_v2 (b := w.heap.size) (u := .int .u64 18446744069414584321) (v := .int .u64 0) ?_ rfl rfl) rfl ?_
  ·exact V2.new w _ _ _
  ·exact ⟨rfl, by repeat (first | exact bA | with_reducible assumption | apply bB | (refine bC ?_ (by dsimp only; omega)) | apply bD | apply bE | (refine bF ?_ (by assumption)))⟩
 ·have hb : (f == 1) = false := by simp; omega
  go_enter Try.func90, Try.ntmps90
  go_wp2
  refine bodyPost_ret (results_v2 (b := w.heap.size) (u := .int .u64 1) (v := .int .u64 18446744073709551588) ?_ rfl rfl) rfl ?_
  ·exact V2.new w _ _ _
  ·exact ⟨rfl, by repeat (first | exact bA | with_reducible assumption | apply bB | (refine bC ?_ (by dsimp only; omega)) | apply bD | apply bE | (refine bF ?_ (by assumption)))⟩

theorem ref_Less (a0 a1 b0 b1 : Int) (w : World) (h0 : 0 ≤ a0) (h1 : a0 ≤ 18446744073709551615) (g0 : 0 ≤ b0) (g1 : b0 ≤ 18446744073709551615) :
  Calls Try.prog 89 #[.agg #[.int .u64 a0, .int .u64 a1], .agg #[.int .u64 b0, .int .u64 b1]] w fun e w' => e = .returned (.bool (decide (a0 + 18446744073709551616 * a1 < b0 + 18446744073709551616 * b1))) ∧ Below w.heap.size w w' := by
 by_cases h : a1 = b1
 ·subst h
  have ht : decide (a0 + 18446744073709551616 * a1 < b0 + 18446744073709551616 * a1) = decide (a0 < b0) := by congr 1; simp
  rw [ht]
  clear ht
  go_enter Try.func89, Try.ntmps89
  go_wp2
  all_goals go_ret
  all_goals exact ⟨rfl, by repeat (first | exact bA | with_reducible assumption | apply bB | (refine bC ?_ (by dsimp only; omega)) | apply bD | apply bE | (refine bF ?_ (by assumption)))⟩
 ·have hne : (a1 == b1) = false := by simp; omega
  have hne2 : (a1 != b1) = true := by simp; omega
  have ht : decide (a0 + 18446744073709551616 * a1 < b0 + 18446744073709551616 * b1) = decide (a1 < b1) := by congr 1; simp; omega
  rw [ht]
  clear ht
  go_enter Try.func89, Try.ntmps89
  go_wp2
  all_goals go_ret
  all_goals exact ⟨rfl, by repeat (first | exact bA | with_reducible assumption | apply bB | (refine bC ?_ (by dsimp only; omega)) | apply bD | apply bE | (refine bF ?_ (by assumption)))⟩

set_option maxHeartbeats 1000000 in
theorem ref_take (a0 a1 b0 b1 : Int) (w : World) (h0 : 0 ≤ a0) (h1 : a0 ≤ 18446744073709551615) (g0 : 0 ≤ b0) (g1 : b0 ≤ 18446744073709551615)
     (k0 : 0 ≤ a1) (k1 : a1 ≤ 18446744073709551615) (j0 : 0 ≤ b1) (j1 : b1 ≤ 18446744073709551615) :
  Calls Try.prog 91 #[.agg #[.int .u64 a0, .int .u64 a1], .agg #[.int .u64 b0, .int .u64 b1]] w
   (RetE ((a0 + 18446744073709551616 * a1 - (b0 + 18446744073709551616 * b1)) % 340282366920938463463374607431768211456) w) := by
 by_cases hlt : a0 < b0
 ·go_enter Try.func91, Try.ntmps91
  go_wp2
  refine bodyPost_ret (by simp [results, Try.results91, go_sem]; rfl) rfl ?_
  refine ⟨_, _, rfl, ?_, ?_, by repeat (first | exact bA | with_reducible assumption | apply bB | (refine bC ?_ (by dsimp only; omega)) | apply bD | apply bE | (refine bF ?_ (by assumption)))⟩
  ·simp only [IntKind.wrap_u64]; omega
  ·show _ = _
   simp only [IntKind.wrap_u64]; omega
 ·go_enter Try.func91, Try.ntmps91
  go_wp2
  refine bodyPost_ret (by simp [results, Try.results91, go_sem]; rfl) rfl ?_
  refine ⟨_, _, rfl, ?_, ?_, by repeat (first | exact bA | with_reducible assumption | apply bB | (refine bC ?_ (by dsimp only; omega)) | apply bD | apply bE | (refine bF ?_ (by assumption)))⟩
  ·simp only [IntKind.wrap_u64]; omega
  ·show _ = _
   simp only [IntKind.wrap_u64]; omega

set_option maxHeartbeats 1000000 in
theorem ref_plus (a0 a1 b0 b1 : Int) (w : World) (h0 : 0 ≤ a0) (h1 : a0 ≤ 18446744073709551615) (g0 : 0 ≤ b0) (g1 : b0 ≤ 18446744073709551615)
     (k0 : 0 ≤ a1) (k1 : a1 ≤ 18446744073709551615) (j0 : 0 ≤ b1) (j1 : b1 ≤ 18446744073709551615)
     (hsum : a0 + 18446744073709551616 * a1 + (b0 + 18446744073709551616 * b1) < 340282366920938463463374607431768211456) :
  Calls Try.prog 92 #[.agg #[.int .u64 a0, .int .u64 a1], .agg #[.int .u64 b0, .int .u64 b1]] w
   (RetE (a0 + 18446744073709551616 * a1 + (b0 + 18446744073709551616 * b1)) w) := by
 have hw : IntKind.u64.wrap (a0 + b0) = (a0 + b0) % 18446744073709551616 := IntKind.wrap_u64 _
 by_cases hlt : a0 + b0 ≤ 18446744073709551615
 ·have hd : decide (a0 + b0 < a0) = false := by simp; omega
  go_enter Try.func92, Try.ntmps92
  go_wp2
  refine bodyPost_ret (by simp [results, Try.results92, go_sem]; rfl) rfl ?_
  refine ⟨_, _, rfl, ?_, ?_, by repeat (first | exact bA | with_reducible assumption | apply bB | (refine bC ?_ (by dsimp only; omega)) | apply bD | apply bE | (refine bF ?_ (by assumption)))⟩
  ·omega
  ·show _ = _
   omega
 ·have hd : decide ((a0 + b0) % 18446744073709551616 < a0) = true := by simp; omega
  go_enter Try.func92, Try.ntmps92
  go_wp2
  refine bodyPost_ret (by simp [results, Try.results92, go_sem]; rfl) rfl ?_
  refine ⟨_, _, rfl, ?_, ?_, by repeat (first | exact bA | with_reducible assumption | apply bB | (refine bC ?_ (by dsimp only; omega)) | apply bD | apply bE | (refine bF ?_ (by assumption)))⟩
  ·omega
  ·show _ = _
   omega

def nI (f a0 a1 : Int) : Int := if f = 1 then a0 else a0 + 18446744073709551616 * a1

structure OfMid (f m a0 a1 : Int) (w wx : World) : Prop where
 ex : ∃ x0 x1 : Int, V2 wx w.heap.size (.int .u64 x0) (.int .u64 x1) ∧ (0 ≤ x0 ∧ x0 ≤ 18446744073709551615 ∧ 0 ≤ x1 ∧ x1 ≤ 18446744073709551615) ∧ Hid (x0 + 18446744073709551616 * x1 = nI f a0 a1) ∧ x0 + 18446744073709551616 * x1 < m + m
 res : V2 wx (w.heap.size + 1) (.int .u64 0) (.int .u64 0)
 below : Below w.heap.size w wx

set_option maxHeartbeats 2000000 in
theorem ref_Of (f m p0 p1 a0 a1 : Int) (w : World) (hm : RefM f m p0 p1) (h0 : 0 ≤ a0) (h1 : a0 ≤ 18446744073709551615) (k0 : 0 ≤ a1) (k1 : a1 ≤ 18446744073709551615) :
  Calls Try.prog 55 #[.int .i64 f, .agg #[.int .u64 a0, .int .u64 a1]] w (RetE (nI f a0 a1 % m) w) := by
 have hp : 0 ≤ p0 ∧ p0 ≤ 18446744073709551615 ∧ 0 ≤ p1 ∧ p1 ≤ 18446744073709551615 ∧ m = p0 + 18446744073709551616 * p1 := by
  rcases hm.or with ⟨_, rfl, rfl, rfl⟩ | ⟨_, rfl, rfl, rfl⟩ <;> omega
 obtain ⟨hp0, hp1, hp2, hp3, hpm'⟩ := hp
 have HPM := Lib.hid hpm'
 clear hpm'
 go_enter Try.func55, Try.ntmps55
 go_upto_if 6 with fail
 go_cut [] (fun wx => OfMid f m a0 a1 w wx)
 case first =>
  have q0 := (V2.new w (.int .u64 a0) (.int .u64 a1) 99).alloc (.cells #[.int .u64 0, .int .u64 0] 99)
  have s0 := V2.new (w.alloc (.cells #[.int .u64 a0, .int .u64 a1] 99)) (.int .u64 0) (.int .u64 0) 99
  simp only [World.size_alloc] at s0
  rcases hm.or with ⟨rfl, rfl, rfl, rfl⟩ | ⟨hf, rfl, rfl, rfl⟩
  ·go_wp2
   go_meet
   refine ⟨⟨a0, 0, (V2.new w (.int .u64 a0) (.int .u64 0) 99).alloc (.cells #[.int .u64 0, .int .u64 0] 99), by omega, by show _ = _; unfold nI; rw [if_pos rfl]; omega, by omega⟩, ?_, by repeat (first | exact bA | with_reducible assumption | apply bB | (refine bC ?_ (by dsimp only; omega)) | apply bD | apply bE | (refine bF ?_ (by assumption)))⟩
   have s1 := V2.new (w.alloc (.cells #[.int .u64 a0, .int .u64 0] 99)) (.int .u64 0) (.int .u64 0) 99
   simpa only [World.size_alloc] using s1
  ·have hb : (f == 1) = false := by simp; omega
   go_wp2
   go_meet
   exact ⟨⟨a0, a1, q0, by omega, by show _ = _; unfold nI; rw [if_neg hf], by omega⟩, s0, by repeat (first | exact bA | with_reducible assumption | apply bB | (refine bC ?_ (by dsimp only; omega)) | apply bD | apply bE | (refine bF ?_ (by assumption)))⟩
 case rest =>
  obtain ⟨⟨x0, x1, q1, ⟨hx0, hx1, hx2, hx3⟩, HX, hxm⟩, s1, hb0⟩ := hcut
  have hxm' : x0 + 18446744073709551616 * x1 < p0 + 18446744073709551616 * p1 + (p0 + 18446744073709551616 * p1) := by have := HPM.out; omega
  clear hxm
  have hq := q1
  obtain ⟨c10, c11, c12, c13, c14⟩ := hq
  by_cases hlt : x0 + 18446744073709551616 * x1 < p0 + 18446744073709551616 * p1
  ·have hd : decide (x0 + 18446744073709551616 * x1 < p0 + 18446744073709551616 * p1) = true := by simp; omega
   go_wp2_with fail
   go_region_with (first
    | (go_at_call 90; refine (ref_P f m p0 p1 _ hm).mono ?_; rintro e w2 ⟨rfl, hb2'⟩; have hb2 := undrew hb2'; clear hb2'; have q2 := q1.call hb2; have s2 := s1.call hb2; obtain ⟨c20, c21, c22, c23, c24⟩ := q2)
    | (go_at_call 89; refine (ref_Less _ _ _ _ _ (by omega) (by omega) (by omega) (by omega)).mono ?_; rintro e w3 ⟨rfl, hb3⟩; have q3 := V2.call ⟨c20, c21, c22, c23, c24⟩ hb3; have s3 := s2.call hb3; obtain ⟨c30, c31, c32, c33, c34⟩ := V2.call ⟨c20, c21, c22, c23, c24⟩ hb3; obtain ⟨d30, d31, d32, d33, d34⟩ := s2.call hb3))
   all_goals
    go_wp2
    refine bodyPost_ret (results_v2 (b := w.heap.size + 1) (u := .int .u64 x0) (v := .int .u64 x1) ?_ rfl rfl) rfl ?_
    ·exact V2.set ⟨d30, d31, d32, d33, d34⟩ _ _
    ·refine ⟨_, _, rfl, ⟨hx0, hx1, hx2, hx3⟩, ?_, by repeat (first | exact bA | with_reducible assumption | apply bB | (refine bC ?_ (by dsimp only; omega)) | apply bD | apply bE | (refine bF ?_ (by assumption)))⟩
     show _ = _
     rw [← HX.out, Int.emod_eq_of_lt (by omega) (by rw [HPM.out]; exact hlt)]
  ·have hd : decide (x0 + 18446744073709551616 * x1 < p0 + 18446744073709551616 * p1) = false := by simp; omega
   go_upto_region 3 with fail
   go_cut [12] (fun c wx => c = .bool true ∧ V2 wx w.heap.size (.int .u64 x0) (.int .u64 x1) ∧ V2 wx (w.heap.size + 1) (.int .u64 0) (.int .u64 0) ∧ Below w.heap.size w wx)
   case first =>
    go_region_with (first
    | (go_at_call 90; refine (ref_P f m p0 p1 _ hm).mono ?_; rintro e w2 ⟨rfl, hb2'⟩; have hb2 := undrew hb2'; clear hb2'; have q2 := q1.call hb2; have s2 := s1.call hb2; obtain ⟨c20, c21, c22, c23, c24⟩ := q2)
    | (go_at_call 89; refine (ref_Less _ _ _ _ _ (by omega) (by omega) (by omega) (by omega)).mono ?_; rintro e w3 ⟨rfl, hb3⟩; have q3 := V2.call ⟨c20, c21, c22, c23, c24⟩ hb3; have s3 := s2.call hb3; obtain ⟨c30, c31, c32, c33, c34⟩ := V2.call ⟨c20, c21, c22, c23, c24⟩ hb3; obtain ⟨d30, d31, d32, d33, d34⟩ := s2.call hb3))
    all_goals
     go_wp2
     go_meet
     exact ⟨rfl, q3, s3, by repeat (first | exact bA | with_reducible assumption | apply bB | (refine bC ?_ (by dsimp only; omega)) | apply bD | apply bE | (refine bF ?_ (by assumption)))⟩
   case rest =>
    obtain ⟨rfl, q4, s4, hb4⟩ := hcut
    have hq4 := q4
    obtain ⟨c40, c41, c42, c43, c44⟩ := hq4
    go_wp2_with fail
    go_region_with (first
    | (go_at_call 90; refine (ref_P f m p0 p1 _ hm).mono ?_; rintro e w5 ⟨rfl, hb5'⟩; have hb5 := undrew hb5'; clear hb5'; have q5 := q4.call hb5; have s5 := s4.call hb5; obtain ⟨c50, c51, c52, c53, c54⟩ := q5)
    | (go_at_call 91; refine (ref_take _ _ _ _ _ (by omega) (by omega) (by omega) (by omega) (by omega) (by omega) (by omega) (by omega)).mono ?_; rintro e w6 ⟨z0, z1, rfl, ⟨hz0, hz1, hz2, hz3⟩, HZ, hb6⟩; obtain ⟨d60, d61, d62, d63, d64⟩ := s5.call hb6))
    all_goals
     go_wp2
     refine bodyPost_ret (results_v2 (b := w.heap.size + 1) (u := .int .u64 z0) (v := .int .u64 z1) ?_ rfl rfl) rfl ?_
     ·exact V2.set ⟨d60, d61, d62, d63, d64⟩ _ _
     ·refine ⟨_, _, rfl, ⟨hz0, hz1, hz2, hz3⟩, ?_, by repeat (first | exact bA | with_reducible assumption | apply bB | (refine bC ?_ (by dsimp only; omega)) | apply bD | apply bE | (refine bF ?_ (by assumption)))⟩
      show _ = _
      have e := HZ.out
      rw [Int.emod_eq_of_lt (by omega) (by omega)] at e
      rw [← HX.out, HPM.out, e, ← Int.sub_emod_right, Int.emod_eq_of_lt (by omega) (by omega)]

end Go.Proofs.Ytbakkmfjamcbfaa

namespace Go.Proofs.Ytbakkmfjamcbfaa
open Go.RowKit Fm
set_option linter.unusedVariables false
set_option maxRecDepth 100000

theorem field_Valid (f : Int) (w : World) :
  Calls Try.prog 97 #[.int .u8 f] w fun e w' => e = .returned (.bool (f == 1 || f == 2)) ∧ w = w' := by
 by_cases h1 : f = 1
 ·subst h1
  go_enter Try.func97, Try.ntmps97
  go_wp2
  go_ret
  exact ⟨rfl, rfl⟩
 ·have hb1 : (f == 1) = false := by simp; omega
  by_cases h2 : f = 2
  ·subst h2
   go_enter Try.func97, Try.ntmps97
   go_wp2
   go_ret
   exact ⟨rfl, rfl⟩
  ·have hb2 : (f == 2) = false := by simp; omega
   go_enter Try.func97, Try.ntmps97
   go_wp2
   go_ret
   exact ⟨ret_bool (by rw [hb1, hb2]; rfl), rfl⟩

structure FM (f m : Int) : Prop where
 or : (f = 1 ∧ m = 18446744069414584321) ∨ (f = 2 ∧ m = 340282366920938462946865773367900766209)

set_option maxHeartbeats 2000000 in
theorem field_Add (f m a0 a1 b0 b1 : Int) (w : World) (hf : FM f m) (h0 : 0 ≤ a0) (h1 : a0 ≤ 18446744073709551615) (k0 : 0 ≤ a1) (k1 : a1 ≤ 18446744073709551615)
  (g0 : 0 ≤ b0) (g1 : b0 ≤ 18446744073709551615) (j0 : 0 ≤ b1) (j1 : b1 ≤ 18446744073709551615) :
  Calls Try.prog 96 #[.int .u8 f, .agg #[.int .u64 a0, .int .u64 a1], .agg #[.int .u64 b0, .int .u64 b1]] w (RetE ((nI f a0 a1 + nI f b0 b1) % m) w) := by
 rcases hf.or with ⟨rfl, rfl⟩ | ⟨rfl, rfl⟩
 ·have s0 := V2.new ((w.alloc (.cells #[.int .u64 a0, .int .u64 a1] 99)).alloc (.cells #[.int .u64 b0, .int .u64 b1] 99)) (.int .u64 0) (.int .u64 0) 99
  go_enter Try.func96, Try.ntmps96
  go_wp2_with (go_at_call 114; refine (gold_Add _ _ _ (by omega) (by omega) (by omega) (by omega)).mono ?_; rintro e w' ⟨rfl, rfl⟩)
  refine bodyPost_ret (by simp [results, Try.results96, go_sem]; rfl) rfl ?_
  refine ⟨_, _, rfl, ?_, ?_, by repeat (first | exact bA | with_reducible assumption | apply bB | (refine bC ?_ (by dsimp only; omega)) | apply bD | apply bE | (refine bF ?_ (by assumption)))⟩
  ·omega
  ·show _ = _
   unfold nI
   simp
 ·go_enter Try.func96, Try.ntmps96
  go_wp2_with fail
  refine (wide_Add _ _ _ _ _ h0 h1 k0 k1 g0 g1 j0 j1).mono ?_
  rintro e w6 ⟨z0, z1, rfl, ⟨hz0, hz1, hz2, hz3⟩, HZ, hb6⟩
  have s0 := V2.new ((w.alloc (.cells #[.int .u64 a0, .int .u64 a1] 99)).alloc (.cells #[.int .u64 b0, .int .u64 b1] 99)) (.int .u64 0) (.int .u64 0) 99
  have s6 := s0.call hb6
  simp only [World.size_alloc] at s6
  clear s0
  have hs6 := s6
  obtain ⟨d60, d61, d62, d63, d64⟩ := hs6
  go_wp2
  refine bodyPost_ret (results_v2 (b := w.heap.size + 1 + 1) (u := .int .u64 z0) (v := .int .u64 z1) ?_ rfl rfl) rfl ?_
  ·exact V2.set s6 _ _
  ·refine ⟨_, _, rfl, ⟨hz0, hz1, hz2, hz3⟩, ?_, by repeat (first | exact bA | with_reducible assumption | apply bB | (refine bC ?_ (by dsimp only; omega)) | apply bD | apply bE | (refine bF ?_ (by assumption)))⟩
   show _ = _
   rw [HZ.out]
   unfold nI
   simp

end Go.Proofs.Ytbakkmfjamcbfaa

namespace Go.Proofs.Ytbakkmfjamcbfaa
open Go.RowKit Fm
set_option linter.unusedVariables false
set_option maxRecDepth 100000

theorem eN_of {x0 x1 n : Int} (h : x0 + 18446744073709551616 * x1 = n) (h0 : 0 ≤ x0) (h1 : x0 ≤ 18446744073709551615) : (x0, x1) = eN n := by
 unfold eN
 rw [Prod.mk.injEq]
 omega

def zipO (op : Int → Int → Int) (f m : Int) (xs ys : List E) : List E := List.zipWith (fun a b => eN (op (nI f a.1 a.2) (nI f b.1 b.2) % m)) xs ys

theorem FM.pos {f m : Int} (h : FM f m) : 0 < m ∧ m ≤ 340282366920938462946865773367900766209 := by
 rcases h.or with ⟨_, rfl⟩ | ⟨_, rfl⟩ <;> omega

theorem fill_step {α : Type} (zs : List α) (z : α) (n k : Nat) (e : α) (hz : zs.length = n) (hk : k < n) (he : zs[k]? = some e) :
  (zs.take k ++ List.replicate (n - k) z).set k e = zs.take (k + 1) ++ List.replicate (n - (k + 1)) z := by
 have hl : (zs.take k).length = k := by rw [List.length_take]; omega
 rw [List.take_add_one, he, List.set_append_right _ _ (by omega), hl, Nat.sub_self, show n - k = (n - (k + 1)) + 1 from by omega, List.replicate_succ, List.set_cons_zero]
 simp

def RetSl (w : World) (zs : List E) (e : Ending) (w' : World) : Prop :=
 ∃ g, e = .returned (.tuple #[.slice (some ⟨g, 0, none⟩) zs.length zs.length, .int .i64 0]) ∧ BlkE w' g zs ∧ w.heap.size ≤ g ∧ Below w.heap.size w w'

set_option maxHeartbeats 4000000 in
theorem pair_Add (f m : Int) (hf : FM f m) (va vb : Value) (xs ys : List E) (w : World) (hx : SlE w w.heap.size va xs) (hy : SlE w w.heap.size vb ys) (hl : xs.length = ys.length) (hn : xs.length ≤ 1099511627776) :
  Calls Try.prog 68 #[va, vb, .func (.func 96) #[.int .u8 f] #[]] w (RetSl w (zipO (· + ·) f m xs ys)) := by
 obtain ⟨⟨A, c, rfl, hc, hcm, hA⟩, hokx⟩ := hx
 obtain ⟨⟨A', c', rfl, hc', hcm', hA'⟩, hoky⟩ := hy
 obtain ⟨zs, hzs⟩ : ∃ zs, zs = zipO (· + ·) f m xs ys := ⟨_, rfl⟩
 have hzl : zs.length = xs.length := by rw [hzs]; unfold zipO; rw [List.length_zipWith]; omega
 rw [← hzs]
 have HZS := Lib.hid hzs
 have HZL := Lib.hid hzl
 have HL := Lib.hid hl
 have hb : ((xs.length : Int) != (ys.length : Int)) = false := by simp; omega
 clear hzs hzl hl
 have hmk := make_elem xs.length hn
 go_enter Try.func68, Try.ntmps68
 go_wp2_with fail
 go_loopw [20] (fun i wr => ∃ k : Nat, k ≤ xs.length ∧ i = .int .i64 k ∧ BlkE wr w.heap.size (zs.take k ++ List.replicate (xs.length - k) (0, 0)) ∧ Below w.heap.size w wr) (fun i _ => xs.length - (intOf i).toNat)
 case atStart => exact ⟨0, Nat.zero_le _, rfl, heap_alloc_new w _, by repeat (first | exact bA | with_reducible assumption | apply bB | (refine bC ?_ (by dsimp only; omega)) | apply bD | apply bE | (refine bF ?_ (by assumption)))⟩
 case round =>
  obtain ⟨k, hk, rfl, HB, hbw⟩ := hrel
  by_cases hlt : k < xs.length
  ·obtain ⟨b, o, rfl, hB, hr⟩ := hA (by omega)
   obtain ⟨b', o', rfl, hB', hr'⟩ := hA' (by have := HL.out; omega)
   have hlt' : k < ys.length := by have := HL.out; omega
   obtain ⟨⟨x0, x1⟩, he⟩ : ∃ e, xs[k]? = some e := ⟨_, List.getElem?_eq_getElem hlt⟩
   obtain ⟨⟨y0, y1⟩, he'⟩ : ∃ e, ys[k]? = some e := ⟨_, List.getElem?_eq_getElem hlt'⟩
   have hkx := hokx _ (List.mem_of_getElem? he)
   have hky := hoky _ (List.mem_of_getElem? he')
   obtain ⟨hx0, hx1, hx2, hx3⟩ := hkx
   obtain ⟨hy0, hy1, hy2, hy3⟩ := hky
   dsimp only at hx0 hx1 hx2 hx3 hy0 hy1 hy2 hy3
   have hrw := hr.below hbw hB
   have hrw' := hr'.below hbw hB'
   obtain ⟨c0, c1⟩ := hrw k _ he
   obtain ⟨d0, d1⟩ := hrw' k _ he'
   dsimp only at c0 c1 d0 d1
   have hez : zs[k]? = some (eN ((nI f x0 x1 + nI f y0 y1) % m)) := by
    rw [HZS.out]
    unfold zipO
    rw [List.getElem?_zipWith, he, he']
   have HEZ := Lib.hid hez
   have hzk : ∃ u v : Value, wr.cell? ⟨w.heap.size, k * 2, none⟩ = some u ∧ wr.cell? ⟨w.heap.size, k * 2 + 1, none⟩ = some v := by
    have hlen : k < (zs.take k ++ List.replicate (xs.length - k) ((0, 0) : E)).length := by
     rw [List.length_append, List.length_take, List.length_replicate, HZL.out]
     omega
    obtain ⟨e1, e2⟩ := HB.row k _ (List.getElem?_eq_getElem hlen)
    exact ⟨_, _, e1, e2⟩
   obtain ⟨u, v, z0, z1⟩ := hzk
   have fz0 := HB.frozen (k * 2)
   have fz1 := HB.frozen (k * 2 + 1)
   have HBH := Lib.hid HB
   clear he he' hr hr' hA hA' hez hrw hrw' HB
   go_wp2_with fail
   go_region_with (first
    | (go_at_call 96; refine (field_Add f m _ _ _ _ _ hf (by omega) (by omega) (by omega) (by omega) (by omega) (by omega) (by omega) (by omega)).mono ?_; rintro e w6 ⟨r0, r1, rfl, ⟨hr0, hr1, hr2, hr3⟩, HR, hb6'⟩; have hb6 := undrew hb6'; clear hb6'; have z60 := cell_call z0 hb6; have z61 := cell_call z1 hb6; have g60 := frozen_call (lt_of_cell z0) fz0 hb6; have g61 := frozen_call (lt_of_cell z1) fz1 hb6))
   all_goals
    go_wp2
    go_roundw
    case rel =>
     have h := (HBH.out.call hb6).set k r0 r1
     rw [fill_step zs _ _ k (r0, r1) HZL.out hlt (HEZ.out.trans (by rw [eN_of HR.out hr0 hr1]))] at h
     exact ⟨k + 1, by omega, by go_num, h, by repeat (first | exact bA | with_reducible assumption | apply bB | (refine bC ?_ (by dsimp only; omega)) | apply bD | apply bE | (refine bF ?_ (by assumption)))⟩
    case measure => simp [intOf]; omega
  ·obtain rfl : k = xs.length := by omega
   go_wp2
   go_ret2
   have h := HB
   rw [List.take_of_length_le (by rw [HZL.out]; exact Nat.le_refl _), Nat.sub_self, List.replicate_zero, List.append_nil] at h
   refine ⟨w.heap.size, ?_, h, Nat.le_refl _, by repeat (first | exact bA | with_reducible assumption | apply bB | (refine bC ?_ (by dsimp only; omega)) | apply bD | apply bE | (refine bF ?_ (by assumption)))⟩
   rw [HZL.out]
   rfl

theorem field_AddVec (f m : Int) (hf : FM f m) (va vb : Value) (xs ys : List E) (w : World) (hx : SlE w w.heap.size va xs) (hy : SlE w w.heap.size vb ys) (hl : xs.length = ys.length) (hn : xs.length ≤ 1099511627776) :
  Calls Try.prog 58 #[.int .u8 f, va, vb] w (RetSl w (zipO (· + ·) f m xs ys)) := by
 have hc := pair_Add f m hf va vb xs ys w hx hy hl hn
 obtain ⟨⟨A, c, rfl, hc, hcm, hA⟩, hokx⟩ := hx
 obtain ⟨⟨A', c', rfl, hc', hcm', hA'⟩, hoky⟩ := hy
 have HC := Lib.hid hc
 clear hc hl
 have hmf : ∀ (fn : Fn) (first cap : Array Value) (w : World), (Instr.makeFunc fn first cap).run Try.prog w = .ok (.func fn first cap) w := fun _ _ _ _ => rfl
 go_enter Try.func58, Try.ntmps58
 go_wp2_with fail
 refine HC.out.mono ?_
 rintro e w1 ⟨g, rfl, hB, hg, hb⟩
 go_wp2
 go_ret2
 exact ⟨g, rfl, hB, hg, hb⟩

end Go.Proofs.Ytbakkmfjamcbfaa

namespace Go.Proofs.Ytbakkmfjamcbfaa
open Go.RowKit Fm
set_option linter.unusedVariables false
set_option maxRecDepth 100000

theorem cellsE_pair : ∀ (xs : List E) (j : Nat) (u : Value), (cellsE xs)[j]? = some u → ∃ i e, xs[i]? = some e ∧ ((j = i * 2 ∧ u = .int .u64 e.1) ∨ (j = i * 2 + 1 ∧ u = .int .u64 e.2))
 | [], j, u, h => by simp [cellsE] at h
 | x :: l, 0, u, h => by
  simp only [cellsE, List.getElem?_cons_zero, Option.some.injEq] at h
  exact ⟨0, x, rfl, .inl ⟨rfl, h.symm⟩⟩
 | x :: l, 1, u, h => by
  simp only [cellsE, List.getElem?_cons_succ, List.getElem?_cons_zero, Option.some.injEq] at h
  exact ⟨0, x, rfl, .inr ⟨rfl, h.symm⟩⟩
 | x :: l, j + 2, u, h => by
  simp only [cellsE, List.getElem?_cons_succ] at h
  obtain ⟨i, e, hi, hor⟩ := cellsE_pair l j u h
  refine ⟨i + 1, e, by simpa using hi, ?_⟩
  rcases hor with ⟨rfl, hu⟩ | ⟨rfl, hu⟩
  ·exact .inl ⟨by omega, hu⟩
  ·exact .inr ⟨by omega, hu⟩

theorem RowE.cells {w : World} {b o : Nat} {xs : List E} (h : RowE w b o xs) (j : Nat) (u : Value) (hu : (cellsE xs)[j]? = some u) : w.cell? ((⟨b, o, none⟩ : Addr).add j) = some u := by
 have ha : (⟨b, o, none⟩ : Addr).add j = ⟨b, o + j, none⟩ := by
  unfold Addr.add
  split <;> simp_all
 rw [ha]
 obtain ⟨i, e, hi, hor⟩ := cellsE_pair xs j u hu
 rcases hor with ⟨rfl, rfl⟩ | ⟨rfl, rfl⟩
 ·exact (h i e hi).1
 ·rw [← Nat.add_assoc]
  exact (h i e hi).2

end Go.Proofs.Ytbakkmfjamcbfaa

namespace Go.Proofs.Ytbakkmfjamcbfaa
open Go.RowKit Fm
set_option linter.unusedVariables false
set_option maxRecDepth 100000

theorem FM.ref {f m : Int} (h : FM f m) : ∃ p0 p1, RefM f m p0 p1 := by
 rcases h.or with ⟨rfl, rfl⟩ | ⟨rfl, rfl⟩
 ·exact ⟨_, _, ⟨.inl ⟨rfl, rfl, rfl, rfl⟩⟩⟩
 ·exact ⟨_, _, ⟨.inr ⟨by omega, rfl, rfl, rfl⟩⟩⟩

def RedE (m : Int) (e : E) : Prop := ∃ n : Int, 0 ≤ n ∧ n < m ∧ e = eN n
theorem RedE.lt {m : Int} {e : E} (h : RedE m e) : e.1 + 18446744073709551616 * e.2 < m := by
 obtain ⟨n, h0, h1, rfl⟩ := h
 unfold eN
 dsimp only
 omega
theorem RedE.ok {f m : Int} {e : E} (hf : FM f m) (h : RedE m e) : okE e := by
 obtain ⟨n, h0, h1, rfl⟩ := h
 have := hf.pos
 exact okE_eN _ h0 (by omega)

end Go.Proofs.Ytbakkmfjamcbfaa

namespace Go.Proofs.Ytbakkmfjamcbfaa
open Go.RowKit Fm
set_option linter.unusedVariables false
set_option maxRecDepth 100000

structure IsF (f : Nat) : Prop where
 or : f = 1 ∨ f = 2

def lo {f : Nat} (x : Fin (Pm f)) : Int := (eK x).1
def hi {f : Nat} (x : Fin (Pm f)) : Int := (eK x).2

abbrev vK {f : Nat} (x : Fin (Pm f)) : Value := .agg #[.int .u64 (lo x), .int .u64 (hi x)]

theorem lo_hi {f : Nat} (x : Fin (Pm f)) : (lo x, hi x) = eK x := rfl
theorem lo_0 {f : Nat} (x : Fin (Pm f)) : 0 ≤ lo x := (okE_eK x).1
theorem lo_1 {f : Nat} (x : Fin (Pm f)) : lo x ≤ 18446744073709551615 := (okE_eK x).2.1
theorem hi_0 {f : Nat} (x : Fin (Pm f)) : 0 ≤ hi x := (okE_eK x).2.2.1
theorem hi_1 {f : Nat} (x : Fin (Pm f)) : hi x ≤ 18446744073709551615 := (okE_eK x).2.2.2
theorem FM.ofN {f : Nat} (hf : IsF f) : FM (f : Int) (Pm f : Int) := by
 rcases hf.or with rfl | rfl
 ·exact ⟨.inl ⟨rfl, by rw [Pm_one]; rfl⟩⟩
 ·exact ⟨.inr ⟨rfl, by rw [Pm_two]; rfl⟩⟩

theorem nI_nE {f : Nat} (a0 a1 : Int) : nI (f : Int) a0 a1 = nE f (a0, a1) := by
 unfold nI nE
 by_cases h : f = 1
 ·subst h; rfl
 ·rw [if_neg (by omega), if_neg h]

abbrev kL (f : Nat) (a0 a1 : Int) : Fin (Pm f) := kE f (a0, a1)
theorem kL_lohi {f : Nat} (x : Fin (Pm f)) : kL f (lo x) (hi x) = x := by
 show kE f (lo x, hi x) = x
 rw [lo_hi, kE_eK]
theorem kL_zero {f : Nat} : kL f 0 0 = 0 := kE_zero
theorem val_kI {f : Nat} (n : Int) : (((kI (Pm f) n).val : Nat) : Int) = n % (Pm f : Int) := kI_val n
theorem kI_nI {f : Nat} (a0 a1 : Int) : kI (Pm f) (nI (f : Int) a0 a1) = kL f a0 a1 := by
 unfold kL kE
 rw [nI_nE]

theorem eK_kI {f : Nat} (n : Int) : eK (kI (Pm f) n) = eN (n % (Pm f : Int)) := by
 unfold eK
 rw [val_kI]

def RetK {f : Nat} (x : Fin (Pm f)) (w : World) (e : Ending) (w' : World) : Prop := e = .returned (vK x) ∧ Below w.heap.size w w'

theorem RetE.toK {f : Nat} {n : Int} {w : World} {e : Ending} {w' : World} (h : RetE (n % (Pm f : Int)) w e w') {x : Fin (Pm f)} (hx : kI (Pm f) n = x) : RetK x w e w' := by
 obtain ⟨x0, x1, rfl, ⟨h0, h1, h2, h3⟩, HX, hb⟩ := h
 refine ⟨?_, hb⟩
 have he := eN_of HX.out h0 h1
 rw [← eK_kI, hx] at he
 have e0 : x0 = lo x := congrArg Prod.fst he
 have e1 : x1 = hi x := congrArg Prod.snd he
 rw [e0, e1]

section
variable {f : Nat} (hf : IsF f)
include hf

theorem ref_OfL (a0 a1 : Int) (w : World) (h0 : 0 ≤ a0) (h1 : a0 ≤ 18446744073709551615) (k0 : 0 ≤ a1) (k1 : a1 ≤ 18446744073709551615) :
  Calls Try.prog 55 #[.int .i64 f, .agg #[.int .u64 a0, .int .u64 a1]] w (RetK (kL f a0 a1) w) := by
 obtain ⟨p0, p1, hr⟩ := (FM.ofN hf).ref
 exact (ref_Of f _ p0 p1 a0 a1 w hr h0 h1 k0 k1).mono fun _ _ h => h.toK (by rw [kI_nI])
end

/-! ### lists of elements -/
abbrev KL (f : Nat) := List (Fin (Pm f))
def esK {f : Nat} (l : KL f) : List E := l.map eK
theorem esK_length {f : Nat} (l : KL f) : (esK l).length = l.length := by unfold esK; rw [List.length_map]
theorem esK_ok {f : Nat} (l : KL f) : ∀ e, e ∈ esK l → okE e := by
 intro e he
 unfold esK at he
 rw [List.mem_map] at he
 obtain ⟨x, _, rfl⟩ := he
 exact okE_eK x
theorem esK_at {f : Nat} {l : KL f} {i : Nat} {x : Fin (Pm f)} (h : l[i]? = some x) : (esK l)[i]? = some (eK x) := by unfold esK; rw [List.getElem?_map, h]; rfl
theorem esK_cons {f : Nat} (x : Fin (Pm f)) (l : KL f) : esK (x :: l) = eK x :: esK l := rfl

def SlK {f : Nat} (w : World) (B : Nat) (v : Value) (l : KL f) : Prop :=
 ∃ (A : Option Addr) (c : Nat), v = .slice A l.length c ∧ l.length ≤ c ∧ c ≤ 9223372036854775807 ∧ (0 < l.length → ∃ b o, A = some ⟨b, o, none⟩ ∧ b < B ∧ RowE w b o (esK l))
theorem SlK.toE {f : Nat} {w : World} {B : Nat} {v : Value} {l : KL f} (h : SlK w B v l) : SlE w B v (esK l) := by
 obtain ⟨A, c, hv, h1, h2, h3⟩ := h
 exact ⟨⟨A, c, by rw [esK_length]; exact hv, by rw [esK_length]; exact h1, h2, by rw [esK_length]; exact h3⟩, esK_ok l⟩
theorem SlE.toK {f : Nat} {w : World} {B : Nat} {v : Value} {l : KL f} (h : SlE w B v (esK l)) : SlK w B v l := by
 obtain ⟨⟨A, c, hv, h1, h2, h3⟩, _⟩ := h
 rw [esK_length] at hv h1 h3
 exact ⟨A, c, hv, h1, h2, h3⟩
theorem SlK.below {f : Nat} {w w' : World} {B : Nat} {v : Value} {l : KL f} (h : SlK w B v l) (hb : Below B w w') : SlK w' B v l := (h.toE.below hb).toK
theorem SlK.mono {f : Nat} {w : World} {B B' : Nat} {v : Value} {l : KL f} (h : SlK w B v l) (hB : B ≤ B') : SlK w B' v l := (h.toE.mono hB).toK
theorem SlK.later {f : Nat} {w w' : World} {v : Value} {l : KL f} (h : SlK w w.heap.size v l) (hb : Below w.heap.size w w') : SlK w' w'.heap.size v l := (h.below hb).mono hb.size
theorem RowE.kat {f : Nat} {w : World} {b o : Nat} {l : KL f} (h : RowE w b o (esK l)) {i : Nat} {x : Fin (Pm f)} (hx : l[i]? = some x) :
  w.cell? ⟨b, o + i * 2, none⟩ = some (.int .u64 (lo x)) ∧ w.cell? ⟨b, o + i * 2 + 1, none⟩ = some (.int .u64 (hi x)) := h i _ (esK_at hx)

end Go.Proofs.Ytbakkmfjamcbfaa
