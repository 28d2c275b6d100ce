/-
  WALKS: package field: Valid, In, Add, Sub. A field is 1 or 2; 'FM f m': f's modulus is m.
-/
import Derived.Test.YtgambjmjbmdciaaWide4
import Derived.Test.YtgambjmjbmdciaaRefA
namespace Go.Proofs.Ytgambjmjbmdciaa
open Go.RowKit Fm
set_option linter.unusedVariables false
set_option maxRecDepth 100000

theorem field_Valid (f : Int) (w : World) :
    Calls Try.prog 101 #[.int .u8 f] w fun e w' => e = .returned (.bool (f == 1 || f == 2)) ∧ w = w' := by
  by_cases h1 : f = 1
  · subst h1
    go_enter Try.func101, Try.ntmps101
    go_wp2
    go_ret
    exact ⟨rfl, rfl⟩
  · have hb1 : (f == 1) = false := by simp; omega
    by_cases h2 : f = 2
    · subst h2
      go_enter Try.func101, Try.ntmps101
      go_wp2
      go_ret
      exact ⟨rfl, rfl⟩
    · have hb2 : (f == 2) = false := by simp; omega
      go_enter Try.func101, Try.ntmps101
      go_wp2
      go_ret
      exact ⟨ret_bool (by rw [hb1, hb2]; rfl), rfl⟩

/-- the small field, the large one -/
structure FM (f m : Int) : Prop where
  or : (f = 1 ∧ m = 18446744069414584321) ∨ (f = 2 ∧ m = 340282366920938462946865773367900766209)

set_option maxHeartbeats 2000000 in
theorem field_Add (f m a0 a1 b0 b1 : Int) (w : World) (hf : FM f m) (h0 : 0 ≤ a0) (h1 : a0 ≤ 18446744073709551615) (k0 : 0 ≤ a1) (k1 : a1 ≤ 18446744073709551615)
    (g0 : 0 ≤ b0) (g1 : b0 ≤ 18446744073709551615) (j0 : 0 ≤ b1) (j1 : b1 ≤ 18446744073709551615) :
    Calls Try.prog 56 #[.int .u8 f, .agg #[.int .u64 a0, .int .u64 a1], .agg #[.int .u64 b0, .int .u64 b1]] w (RetE ((nI f a0 a1 + nI f b0 b1) % m) w) := by
  rcases hf.or with ⟨rfl, rfl⟩ | ⟨rfl, rfl⟩
  · have s0 := V2.new ((w.alloc (.cells #[.int .u64 a0, .int .u64 a1] 41)).alloc (.cells #[.int .u64 b0, .int .u64 b1] 41)) (.int .u64 0) (.int .u64 0) 41
    go_enter Try.func56, Try.ntmps56
    go_wp2_with (go_at_call 123; refine (gold_Add _ _ _ (by omega) (by omega) (by omega) (by omega)).mono ?_; rintro e w' ⟨rfl, rfl⟩)
    refine bodyPost_ret (by simp [results, Try.results56, go_sem]; rfl) rfl ?_
    refine ⟨_, _, rfl, ?_, ?_, by repeat (first | exact Below.refl _ _ | with_reducible assumption | (refine bl_alloc ?_ (Nat.le_refl _) _) | (refine bl_set ?_ (by dsimp only; omega) _) | (refine Below.drew ?_) | (refine bl_drewN ?_ _) | (refine bl_call ?_ (Nat.le_refl _) (by assumption)))⟩
    · omega
    · show _ = _
      unfold nI
      simp
  · go_enter Try.func56, Try.ntmps56
    go_wp2_with fail
    refine (wide_Add _ _ _ _ _ h0 h1 k0 k1 g0 g1 j0 j1).mono ?_
    rintro e w6 ⟨z0, z1, rfl, ⟨hz0, hz1, hz2, hz3⟩, HZ, hb6⟩
    have s0 := V2.new ((w.alloc (.cells #[.int .u64 a0, .int .u64 a1] 41)).alloc (.cells #[.int .u64 b0, .int .u64 b1] 41)) (.int .u64 0) (.int .u64 0) 41
    have s6 := s0.call hb6
    simp only [World.size_alloc] at s6
    clear s0
    have hs6 := s6
    obtain ⟨d60, d61, d62, d63, d64⟩ := hs6
    go_wp2
    refine bodyPost_ret (results_v2 (b := w.heap.size + 1 + 1) (u := .int .u64 z0) (v := .int .u64 z1) ?_ rfl rfl) rfl ?_
    · exact V2.set s6 _ _
    · refine ⟨_, _, rfl, ⟨hz0, hz1, hz2, hz3⟩, ?_, by repeat (first | exact Below.refl _ _ | with_reducible assumption | (refine bl_alloc ?_ (Nat.le_refl _) _) | (refine bl_set ?_ (by dsimp only; omega) _) | (refine Below.drew ?_) | (refine bl_drewN ?_ _) | (refine bl_call ?_ (Nat.le_refl _) (by assumption)))⟩
      show _ = _
      rw [HZ.out]
      unfold nI
      simp

set_option maxHeartbeats 2000000 in
theorem field_Sub (f m a0 a1 b0 b1 : Int) (w : World) (hf : FM f m) (h0 : 0 ≤ a0) (h1 : a0 ≤ 18446744073709551615) (k0 : 0 ≤ a1) (k1 : a1 ≤ 18446744073709551615)
    (g0 : 0 ≤ b0) (g1 : b0 ≤ 18446744073709551615) (j0 : 0 ≤ b1) (j1 : b1 ≤ 18446744073709551615) :
    Calls Try.prog 100 #[.int .u8 f, .agg #[.int .u64 a0, .int .u64 a1], .agg #[.int .u64 b0, .int .u64 b1]] w (RetE ((nI f a0 a1 - nI f b0 b1) % m) w) := by
  rcases hf.or with ⟨rfl, rfl⟩ | ⟨rfl, rfl⟩
  · have s0 := V2.new ((w.alloc (.cells #[.int .u64 a0, .int .u64 a1] 41)).alloc (.cells #[.int .u64 b0, .int .u64 b1] 41)) (.int .u64 0) (.int .u64 0) 41
    go_enter Try.func100, Try.ntmps100
    go_wp2_with (go_at_call 145; refine (gold_Sub _ _ _ (by omega) (by omega) (by omega) (by omega)).mono ?_; rintro e w' ⟨rfl, rfl⟩)
    refine bodyPost_ret (by simp [results, Try.results100, go_sem]; rfl) rfl ?_
    refine ⟨_, _, rfl, ?_, ?_, by repeat (first | exact Below.refl _ _ | with_reducible assumption | (refine bl_alloc ?_ (Nat.le_refl _) _) | (refine bl_set ?_ (by dsimp only; omega) _) | (refine Below.drew ?_) | (refine bl_drewN ?_ _) | (refine bl_call ?_ (Nat.le_refl _) (by assumption)))⟩
    · omega
    · show _ = _
      unfold nI
      simp
  · go_enter Try.func100, Try.ntmps100
    go_wp2_with fail
    refine (wide_Sub _ _ _ _ _ h0 h1 k0 k1 g0 g1 j0 j1).mono ?_
    rintro e w6 ⟨z0, z1, rfl, ⟨hz0, hz1, hz2, hz3⟩, HZ, hb6⟩
    have s0 := V2.new ((w.alloc (.cells #[.int .u64 a0, .int .u64 a1] 41)).alloc (.cells #[.int .u64 b0, .int .u64 b1] 41)) (.int .u64 0) (.int .u64 0) 41
    have s6 := s0.call hb6
    simp only [World.size_alloc] at s6
    clear s0
    have hs6 := s6
    obtain ⟨d60, d61, d62, d63, d64⟩ := hs6
    go_wp2
    refine bodyPost_ret (results_v2 (b := w.heap.size + 1 + 1) (u := .int .u64 z0) (v := .int .u64 z1) ?_ rfl rfl) rfl ?_
    · exact V2.set s6 _ _
    · refine ⟨_, _, rfl, ⟨hz0, hz1, hz2, hz3⟩, ?_, by repeat (first | exact Below.refl _ _ | with_reducible assumption | (refine bl_alloc ?_ (Nat.le_refl _) _) | (refine bl_set ?_ (by dsimp only; omega) _) | (refine Below.drew ?_) | (refine bl_drewN ?_ _) | (refine bl_call ?_ (Nat.le_refl _) (by assumption)))⟩
      show _ = _
      rw [HZ.out]
      unfold nI
      simp

theorem field_In (f m a0 a1 : Int) (w : World) (hf : FM f m) (h0 : 0 ≤ a0) (h1 : a0 ≤ 18446744073709551615) (k0 : 0 ≤ a1) (k1 : a1 ≤ 18446744073709551615) :
    Calls Try.prog 102 #[.int .u8 f, .agg #[.int .u64 a0, .int .u64 a1]] w fun e w' => e = .returned (.bool (decide (a0 + 18446744073709551616 * a1 < m))) ∧ Below w.heap.size w w' := by
  rcases hf.or with ⟨rfl, rfl⟩ | ⟨rfl, rfl⟩
  · by_cases hz : a1 = 0
    · subst hz
      have hd : decide (a0 + 18446744073709551616 * 0 < 18446744069414584321) = decide (a0 < 18446744069414584321) := by congr 1; simp
      rw [hd]
      clear hd
      go_enter Try.func102, Try.ntmps102
      go_wp2_with (go_at_call 147; refine (gold_In _ _ (by omega) (by omega)).mono ?_; rintro e w' ⟨rfl, rfl⟩)
      go_ret
      exact ⟨rfl, by repeat (first | exact Below.refl _ _ | with_reducible assumption | (refine bl_alloc ?_ (Nat.le_refl _) _) | (refine bl_set ?_ (by dsimp only; omega) _) | (refine Below.drew ?_) | (refine bl_drewN ?_ _) | (refine bl_call ?_ (Nat.le_refl _) (by assumption)))⟩
    · have hb : (a1 == 0) = false := by simp; omega
      have hd : decide (a0 + 18446744073709551616 * a1 < 18446744069414584321) = false := by simp; omega
      rw [hd]
      clear hd
      go_enter Try.func102, Try.ntmps102
      go_wp2
      go_ret
      exact ⟨rfl, by repeat (first | exact Below.refl _ _ | with_reducible assumption | (refine bl_alloc ?_ (Nat.le_refl _) _) | (refine bl_set ?_ (by dsimp only; omega) _) | (refine Below.drew ?_) | (refine bl_drewN ?_ _) | (refine bl_call ?_ (Nat.le_refl _) (by assumption)))⟩
  · go_enter Try.func102, Try.ntmps102
    go_wp2_with (go_at_call 148; refine (wide_In _ _ _ (by omega) (by omega)).mono ?_; rintro e w6 ⟨rfl, hb6⟩)
    go_ret
    exact ⟨rfl, by repeat (first | exact Below.refl _ _ | with_reducible assumption | (refine bl_alloc ?_ (Nat.le_refl _) _) | (refine bl_set ?_ (by dsimp only; omega) _) | (refine Below.drew ?_) | (refine bl_drewN ?_ _) | (refine bl_call ?_ (Nat.le_refl _) (by assumption)))⟩

end Go.Proofs.Ytgambjmjbmdciaa
