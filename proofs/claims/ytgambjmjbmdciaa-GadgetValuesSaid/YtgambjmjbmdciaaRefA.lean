/-
  WALKS: tallymanref01: P, Less, take, plus, Of, In.
-/
import Derived.Test.YtgambjmjbmdciaaWide3
namespace Go.Proofs.Ytgambjmjbmdciaa
open Go.RowKit Fm
set_option linter.unusedVariables false
set_option maxRecDepth 100000

/-- field f's modulus m: its limbs -/
structure RefM (f m p0 p1 : Int) : Prop where
  or : (f = 1 ∧ p0 = 18446744069414584321 ∧ p1 = 0 ∧ m = 18446744069414584321) ∨ (f ≠ 1 ∧ p0 = 1 ∧ p1 = 18446744073709551588 ∧ m = 340282366920938462946865773367900766209)

theorem ref_P (f m p0 p1 : Int) (w : World) (hm : RefM f m p0 p1) :
    Calls Try.prog 105 #[.int .i64 f] w fun e w' => e = .returned (.agg #[.int .u64 p0, .int .u64 p1]) ∧ Below w.heap.size w w' := by
  rcases hm.or with ⟨rfl, rfl, rfl, rfl⟩ | ⟨hf, rfl, rfl, rfl⟩
  · go_enter Try.func105, Try.ntmps105
    go_wp2
    refine bodyPost_ret (results_v2 (b := w.heap.size) (u := .int .u64 18446744069414584321) (v := .int .u64 0) ?_ rfl rfl) rfl ?_
    · exact V2.new w _ _ _
    · exact ⟨rfl, by repeat (first | exact Below.refl _ _ | with_reducible assumption | (refine bl_alloc ?_ (Nat.le_refl _) _) | (refine bl_set ?_ (by dsimp only; omega) _) | (refine Below.drew ?_) | (refine bl_drewN ?_ _) | (refine bl_call ?_ (Nat.le_refl _) (by assumption)))⟩
  · have hb : (f == 1) = false := by simp; omega
    go_enter Try.func105, Try.ntmps105
    go_wp2
    refine bodyPost_ret (results_v2 (b := w.heap.size) (u := .int .u64 1) (v := .int .u64 18446744073709551588) ?_ rfl rfl) rfl ?_
    · exact V2.new w _ _ _
    · exact ⟨rfl, by repeat (first | exact Below.refl _ _ | with_reducible assumption | (refine bl_alloc ?_ (Nat.le_refl _) _) | (refine bl_set ?_ (by dsimp only; omega) _) | (refine Below.drew ?_) | (refine bl_drewN ?_ _) | (refine bl_call ?_ (Nat.le_refl _) (by assumption)))⟩

theorem ref_Less (a0 a1 b0 b1 : Int) (w : World) (h0 : 0 ≤ a0) (h1 : a0 ≤ 18446744073709551615) (g0 : 0 ≤ b0) (g1 : b0 ≤ 18446744073709551615) :
    Calls Try.prog 104 #[.agg #[.int .u64 a0, .int .u64 a1], .agg #[.int .u64 b0, .int .u64 b1]] w fun e w' => e = .returned (.bool (decide (a0 + 18446744073709551616 * a1 < b0 + 18446744073709551616 * b1))) ∧ Below w.heap.size w w' := by
  by_cases h : a1 = b1
  · subst h
    have ht : decide (a0 + 18446744073709551616 * a1 < b0 + 18446744073709551616 * a1) = decide (a0 < b0) := by congr 1; simp
    rw [ht]
    clear ht
    go_enter Try.func104, Try.ntmps104
    go_wp2
    all_goals go_ret
    all_goals exact ⟨rfl, by repeat (first | exact Below.refl _ _ | with_reducible assumption | (refine bl_alloc ?_ (Nat.le_refl _) _) | (refine bl_set ?_ (by dsimp only; omega) _) | (refine Below.drew ?_) | (refine bl_drewN ?_ _) | (refine bl_call ?_ (Nat.le_refl _) (by assumption)))⟩
  · have hne : (a1 == b1) = false := by simp; omega
    have hne2 : (a1 != b1) = true := by simp; omega
    have ht : decide (a0 + 18446744073709551616 * a1 < b0 + 18446744073709551616 * b1) = decide (a1 < b1) := by congr 1; simp; omega
    rw [ht]
    clear ht
    go_enter Try.func104, Try.ntmps104
    go_wp2
    all_goals go_ret
    all_goals exact ⟨rfl, by repeat (first | exact Below.refl _ _ | with_reducible assumption | (refine bl_alloc ?_ (Nat.le_refl _) _) | (refine bl_set ?_ (by dsimp only; omega) _) | (refine Below.drew ?_) | (refine bl_drewN ?_ _) | (refine bl_call ?_ (Nat.le_refl _) (by assumption)))⟩

theorem u64_sub (a b : Int) : IntKind.u64.wrap (a - b) = (a - b) % 18446744073709551616 := IntKind.wrap_u64 _

set_option maxHeartbeats 1000000 in
theorem ref_take (a0 a1 b0 b1 : Int) (w : World) (h0 : 0 ≤ a0) (h1 : a0 ≤ 18446744073709551615) (g0 : 0 ≤ b0) (g1 : b0 ≤ 18446744073709551615)
     (k0 : 0 ≤ a1) (k1 : a1 ≤ 18446744073709551615) (j0 : 0 ≤ b1) (j1 : b1 ≤ 18446744073709551615) :
    Calls Try.prog 106 #[.agg #[.int .u64 a0, .int .u64 a1], .agg #[.int .u64 b0, .int .u64 b1]] w
      (RetE ((a0 + 18446744073709551616 * a1 - (b0 + 18446744073709551616 * b1)) % 340282366920938463463374607431768211456) w) := by
  by_cases hlt : a0 < b0
  · go_enter Try.func106, Try.ntmps106
    go_wp2
    refine bodyPost_ret (by simp [results, Try.results106, go_sem]; rfl) rfl ?_
    refine ⟨_, _, rfl, ?_, ?_, by repeat (first | exact Below.refl _ _ | with_reducible assumption | (refine bl_alloc ?_ (Nat.le_refl _) _) | (refine bl_set ?_ (by dsimp only; omega) _) | (refine Below.drew ?_) | (refine bl_drewN ?_ _) | (refine bl_call ?_ (Nat.le_refl _) (by assumption)))⟩
    · simp only [IntKind.wrap_u64]; omega
    · show _ = _
      simp only [IntKind.wrap_u64]; omega
  · go_enter Try.func106, Try.ntmps106
    go_wp2
    refine bodyPost_ret (by simp [results, Try.results106, go_sem]; rfl) rfl ?_
    refine ⟨_, _, rfl, ?_, ?_, by repeat (first | exact Below.refl _ _ | with_reducible assumption | (refine bl_alloc ?_ (Nat.le_refl _) _) | (refine bl_set ?_ (by dsimp only; omega) _) | (refine Below.drew ?_) | (refine bl_drewN ?_ _) | (refine bl_call ?_ (Nat.le_refl _) (by assumption)))⟩
    · simp only [IntKind.wrap_u64]; omega
    · show _ = _
      simp only [IntKind.wrap_u64]; omega

set_option maxHeartbeats 1000000 in
theorem ref_plus (a0 a1 b0 b1 : Int) (w : World) (h0 : 0 ≤ a0) (h1 : a0 ≤ 18446744073709551615) (g0 : 0 ≤ b0) (g1 : b0 ≤ 18446744073709551615)
     (k0 : 0 ≤ a1) (k1 : a1 ≤ 18446744073709551615) (j0 : 0 ≤ b1) (j1 : b1 ≤ 18446744073709551615)
     (hsum : a0 + 18446744073709551616 * a1 + (b0 + 18446744073709551616 * b1) < 340282366920938463463374607431768211456) :
    Calls Try.prog 151 #[.agg #[.int .u64 a0, .int .u64 a1], .agg #[.int .u64 b0, .int .u64 b1]] w
      (RetE (a0 + 18446744073709551616 * a1 + (b0 + 18446744073709551616 * b1)) w) := by
  have hw : IntKind.u64.wrap (a0 + b0) = (a0 + b0) % 18446744073709551616 := IntKind.wrap_u64 _
  by_cases hlt : a0 + b0 ≤ 18446744073709551615
  · have hd : decide (a0 + b0 < a0) = false := by simp; omega
    go_enter Try.func151, Try.ntmps151
    go_wp2
    refine bodyPost_ret (by simp [results, Try.results151, go_sem]; rfl) rfl ?_
    refine ⟨_, _, rfl, ?_, ?_, by repeat (first | exact Below.refl _ _ | with_reducible assumption | (refine bl_alloc ?_ (Nat.le_refl _) _) | (refine bl_set ?_ (by dsimp only; omega) _) | (refine Below.drew ?_) | (refine bl_drewN ?_ _) | (refine bl_call ?_ (Nat.le_refl _) (by assumption)))⟩
    · omega
    · show _ = _
      omega
  · have hd : decide ((a0 + b0) % 18446744073709551616 < a0) = true := by simp; omega
    go_enter Try.func151, Try.ntmps151
    go_wp2
    refine bodyPost_ret (by simp [results, Try.results151, go_sem]; rfl) rfl ?_
    refine ⟨_, _, rfl, ?_, ?_, by repeat (first | exact Below.refl _ _ | with_reducible assumption | (refine bl_alloc ?_ (Nat.le_refl _) _) | (refine bl_set ?_ (by dsimp only; omega) _) | (refine Below.drew ?_) | (refine bl_drewN ?_ _) | (refine bl_call ?_ (Nat.le_refl _) (by assumption)))⟩
    · omega
    · show _ = _
      omega

/-- the number that field f sees in two limbs -/
def nI (f a0 a1 : Int) : Int := if f = 1 then a0 else a0 + 18446744073709551616 * a1

/-- behind the first 'if' of Of -/
structure OfMid (f m a0 a1 : Int) (w wx : World) : Prop where
  ex : ∃ x0 x1 : Int, V2 wx w.heap.size (.int .u64 x0) (.int .u64 x1) ∧ (0 ≤ x0 ∧ x0 ≤ 18446744073709551615 ∧ 0 ≤ x1 ∧ x1 ≤ 18446744073709551615) ∧ Hid (x0 + 18446744073709551616 * x1 = nI f a0 a1) ∧ x0 + 18446744073709551616 * x1 < m + m
  res : V2 wx (w.heap.size + 1) (.int .u64 0) (.int .u64 0)
  below : Below w.heap.size w wx

set_option maxHeartbeats 2000000 in
theorem ref_Of (f m p0 p1 a0 a1 : Int) (w : World) (hm : RefM f m p0 p1) (h0 : 0 ≤ a0) (h1 : a0 ≤ 18446744073709551615) (k0 : 0 ≤ a1) (k1 : a1 ≤ 18446744073709551615) :
    Calls Try.prog 33 #[.int .i64 f, .agg #[.int .u64 a0, .int .u64 a1]] w (RetE (nI f a0 a1 % m) w) := by
  have hp : 0 ≤ p0 ∧ p0 ≤ 18446744073709551615 ∧ 0 ≤ p1 ∧ p1 ≤ 18446744073709551615 ∧ m = p0 + 18446744073709551616 * p1 := by
    rcases hm.or with ⟨_, rfl, rfl, rfl⟩ | ⟨_, rfl, rfl, rfl⟩ <;> omega
  obtain ⟨hp0, hp1, hp2, hp3, hpm'⟩ := hp
  have HPM := Lib.hid hpm'
  clear hpm'
  go_enter Try.func33, Try.ntmps33
  go_upto_if 6 with fail
  go_cut [] (fun wx => OfMid f m a0 a1 w wx)
  case first =>
    have q0 := (V2.new w (.int .u64 a0) (.int .u64 a1) 41).alloc (.cells #[.int .u64 0, .int .u64 0] 41)
    have s0 := V2.new (w.alloc (.cells #[.int .u64 a0, .int .u64 a1] 41)) (.int .u64 0) (.int .u64 0) 41
    simp only [World.size_alloc] at s0
    rcases hm.or with ⟨rfl, rfl, rfl, rfl⟩ | ⟨hf, rfl, rfl, rfl⟩
    · go_wp2
      go_meet
      refine ⟨⟨a0, 0, (V2.new w (.int .u64 a0) (.int .u64 0) 41).alloc (.cells #[.int .u64 0, .int .u64 0] 41), by omega, by show _ = _; unfold nI; rw [if_pos rfl]; omega, by omega⟩, ?_, by repeat (first | exact Below.refl _ _ | with_reducible assumption | (refine bl_alloc ?_ (Nat.le_refl _) _) | (refine bl_set ?_ (by dsimp only; omega) _) | (refine Below.drew ?_) | (refine bl_drewN ?_ _) | (refine bl_call ?_ (Nat.le_refl _) (by assumption)))⟩
      have s1 := V2.new (w.alloc (.cells #[.int .u64 a0, .int .u64 0] 41)) (.int .u64 0) (.int .u64 0) 41
      simpa only [World.size_alloc] using s1
    · have hb : (f == 1) = false := by simp; omega
      go_wp2
      go_meet
      exact ⟨⟨a0, a1, q0, by omega, by show _ = _; unfold nI; rw [if_neg hf], by omega⟩, s0, by repeat (first | exact Below.refl _ _ | with_reducible assumption | (refine bl_alloc ?_ (Nat.le_refl _) _) | (refine bl_set ?_ (by dsimp only; omega) _) | (refine Below.drew ?_) | (refine bl_drewN ?_ _) | (refine bl_call ?_ (Nat.le_refl _) (by assumption)))⟩
  case rest =>
    obtain ⟨⟨x0, x1, q1, ⟨hx0, hx1, hx2, hx3⟩, HX, hxm⟩, s1, hb0⟩ := hcut
    have hxm' : x0 + 18446744073709551616 * x1 < p0 + 18446744073709551616 * p1 + (p0 + 18446744073709551616 * p1) := by have := HPM.out; omega
    clear hxm
    have hq := q1
    obtain ⟨c10, c11, c12, c13, c14⟩ := hq
    by_cases hlt : x0 + 18446744073709551616 * x1 < p0 + 18446744073709551616 * p1
    · have hd : decide (x0 + 18446744073709551616 * x1 < p0 + 18446744073709551616 * p1) = true := by simp; omega
      go_wp2_with fail
      go_region_with (first
        | (go_at_call 105; refine (ref_P f m p0 p1 _ hm).mono ?_; rintro e w2 ⟨rfl, hb2'⟩; have hb2 := undrew hb2'; clear hb2'; have q2 := q1.call hb2; have s2 := s1.call hb2; obtain ⟨c20, c21, c22, c23, c24⟩ := q2)
        | (go_at_call 104; refine (ref_Less _ _ _ _ _ (by omega) (by omega) (by omega) (by omega)).mono ?_; rintro e w3 ⟨rfl, hb3⟩; have q3 := V2.call ⟨c20, c21, c22, c23, c24⟩ hb3; have s3 := s2.call hb3; obtain ⟨c30, c31, c32, c33, c34⟩ := V2.call ⟨c20, c21, c22, c23, c24⟩ hb3; obtain ⟨d30, d31, d32, d33, d34⟩ := s2.call hb3))
      all_goals
        go_wp2
        refine bodyPost_ret (results_v2 (b := w.heap.size + 1) (u := .int .u64 x0) (v := .int .u64 x1) ?_ rfl rfl) rfl ?_
        · exact V2.set ⟨d30, d31, d32, d33, d34⟩ _ _
        · refine ⟨_, _, rfl, ⟨hx0, hx1, hx2, hx3⟩, ?_, by repeat (first | exact Below.refl _ _ | with_reducible assumption | (refine bl_alloc ?_ (Nat.le_refl _) _) | (refine bl_set ?_ (by dsimp only; omega) _) | (refine Below.drew ?_) | (refine bl_drewN ?_ _) | (refine bl_call ?_ (Nat.le_refl _) (by assumption)))⟩
          show _ = _
          rw [← HX.out, Int.emod_eq_of_lt (by omega) (by rw [HPM.out]; exact hlt)]
    · have hd : decide (x0 + 18446744073709551616 * x1 < p0 + 18446744073709551616 * p1) = false := by simp; omega
      go_upto_region 3 with fail
      go_cut [12] (fun c wx => c = .bool true ∧ V2 wx w.heap.size (.int .u64 x0) (.int .u64 x1) ∧ V2 wx (w.heap.size + 1) (.int .u64 0) (.int .u64 0) ∧ Below w.heap.size w wx)
      case first =>
        go_region_with (first
        | (go_at_call 105; refine (ref_P f m p0 p1 _ hm).mono ?_; rintro e w2 ⟨rfl, hb2'⟩; have hb2 := undrew hb2'; clear hb2'; have q2 := q1.call hb2; have s2 := s1.call hb2; obtain ⟨c20, c21, c22, c23, c24⟩ := q2)
        | (go_at_call 104; refine (ref_Less _ _ _ _ _ (by omega) (by omega) (by omega) (by omega)).mono ?_; rintro e w3 ⟨rfl, hb3⟩; have q3 := V2.call ⟨c20, c21, c22, c23, c24⟩ hb3; have s3 := s2.call hb3; obtain ⟨c30, c31, c32, c33, c34⟩ := V2.call ⟨c20, c21, c22, c23, c24⟩ hb3; obtain ⟨d30, d31, d32, d33, d34⟩ := s2.call hb3))
        all_goals
          go_wp2
          go_meet
          exact ⟨rfl, q3, s3, by repeat (first | exact Below.refl _ _ | with_reducible assumption | (refine bl_alloc ?_ (Nat.le_refl _) _) | (refine bl_set ?_ (by dsimp only; omega) _) | (refine Below.drew ?_) | (refine bl_drewN ?_ _) | (refine bl_call ?_ (Nat.le_refl _) (by assumption)))⟩
      case rest =>
        obtain ⟨rfl, q4, s4, hb4⟩ := hcut
        have hq4 := q4
        obtain ⟨c40, c41, c42, c43, c44⟩ := hq4
        go_wp2_with fail
        go_region_with (first
        | (go_at_call 105; refine (ref_P f m p0 p1 _ hm).mono ?_; rintro e w5 ⟨rfl, hb5'⟩; have hb5 := undrew hb5'; clear hb5'; have q5 := q4.call hb5; have s5 := s4.call hb5; obtain ⟨c50, c51, c52, c53, c54⟩ := q5)
        | (go_at_call 106; refine (ref_take _ _ _ _ _ (by omega) (by omega) (by omega) (by omega) (by omega) (by omega) (by omega) (by omega)).mono ?_; rintro e w6 ⟨z0, z1, rfl, ⟨hz0, hz1, hz2, hz3⟩, HZ, hb6⟩; obtain ⟨d60, d61, d62, d63, d64⟩ := s5.call hb6))
        all_goals
          go_wp2
          refine bodyPost_ret (results_v2 (b := w.heap.size + 1) (u := .int .u64 z0) (v := .int .u64 z1) ?_ rfl rfl) rfl ?_
          · exact V2.set ⟨d60, d61, d62, d63, d64⟩ _ _
          · refine ⟨_, _, rfl, ⟨hz0, hz1, hz2, hz3⟩, ?_, by repeat (first | exact Below.refl _ _ | with_reducible assumption | (refine bl_alloc ?_ (Nat.le_refl _) _) | (refine bl_set ?_ (by dsimp only; omega) _) | (refine Below.drew ?_) | (refine bl_drewN ?_ _) | (refine bl_call ?_ (Nat.le_refl _) (by assumption)))⟩
            show _ = _
            have e := HZ.out
            rw [Int.emod_eq_of_lt (by omega) (by omega)] at e
            rw [← HX.out, HPM.out, e, ← Int.sub_emod_right, Int.emod_eq_of_lt (by omega) (by omega)]

end Go.Proofs.Ytgambjmjbmdciaa
