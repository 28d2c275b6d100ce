/-
  WALK: the reference's In.
-/
import Derived.Test.YtgambjmjbmdciaaTapeBack
namespace Go.Proofs.Ytgambjmjbmdciaa
open Go.RowKit Fm
set_option linter.unusedVariables false
set_option maxRecDepth 100000

set_option maxHeartbeats 2000000 in
theorem ref_In (f m a0 a1 : Int) (w : World) (hf : FM f m) (h0 : 0 ≤ a0) (h1 : a0 ≤ 18446744073709551615) (k0 : 0 ≤ a1) (k1 : a1 ≤ 18446744073709551615) :
    Calls Try.prog 29 #[.int .i64 f, .agg #[.int .u64 a0, .int .u64 a1]] w fun e w' => e = .returned (.bool (decide (a0 + 18446744073709551616 * a1 < m))) ∧ Below w.heap.size w w' := by
  have q1 := V2.new w (.int .u64 a0) (.int .u64 a1) 41
  obtain ⟨c10, c11, c12, c13, c14⟩ := V2.new w (.int .u64 a0) (.int .u64 a1) 41
  rcases hf.or with ⟨hf1, rfl⟩ | ⟨hf1, rfl⟩
  · have hm : RefM f 18446744069414584321 18446744069414584321 0 := ⟨.inl ⟨hf1, rfl, rfl, rfl⟩⟩
    have hg1 : (f == 1) = true := by rw [hf1]; rfl
    clear hf1 hf
    go_enter Try.func29, Try.ntmps29
    go_wp2_with fail
    first | (go_region_with (first
      | (go_at_call 105; refine (ref_P f _ _ _ _ hm).mono ?_; rintro e w2 ⟨rfl, hb2'⟩; have hb2 := undrew hb2'; clear hb2'; obtain ⟨c20, c21, c22, c23, c24⟩ := q1.call hb2)
      | (go_at_call 104; refine (ref_Less _ _ _ _ _ (by omega) (by omega) (by omega) (by omega)).mono ?_; rintro e w3 ⟨rfl, hb3⟩; obtain ⟨c30, c31, c32, c33, c34⟩ := V2.call ⟨c20, c21, c22, c23, c24⟩ hb3))) | fail
    all_goals
      go_wp2
      go_ret
      exact ⟨ret_bool (by congr 1), by repeat (first | exact Below.refl _ _ | with_reducible assumption | (refine bl_alloc ?_ (Nat.le_refl _) _) | (refine bl_set ?_ (by dsimp only; omega) _) | (refine Below.drew ?_) | (refine bl_drewN ?_ _) | (refine bl_call ?_ (Nat.le_refl _) (by assumption)))⟩
  · have hm : RefM f 340282366920938462946865773367900766209 1 18446744073709551588 := ⟨.inr ⟨by omega, rfl, rfl, rfl⟩⟩
    have hg1 : (f == 1) = false := by rw [hf1]; rfl
    have hg2 : (f == 2) = true := by rw [hf1]; rfl
    clear hf1 hf
    go_enter Try.func29, Try.ntmps29
    go_wp2_with fail
    first | (go_region_with (first
      | (go_at_call 105; refine (ref_P f _ _ _ _ hm).mono ?_; rintro e w2 ⟨rfl, hb2'⟩; have hb2 := undrew hb2'; clear hb2'; obtain ⟨c20, c21, c22, c23, c24⟩ := q1.call hb2)
      | (go_at_call 104; refine (ref_Less _ _ _ _ _ (by omega) (by omega) (by omega) (by omega)).mono ?_; rintro e w3 ⟨rfl, hb3⟩; obtain ⟨c30, c31, c32, c33, c34⟩ := V2.call ⟨c20, c21, c22, c23, c24⟩ hb3))) | fail
    all_goals
      go_wp2
      go_ret
      exact ⟨ret_bool (by congr 1), by repeat (first | exact Below.refl _ _ | with_reducible assumption | (refine bl_alloc ?_ (Nat.le_refl _) _) | (refine bl_set ?_ (by dsimp only; omega) _) | (refine Below.drew ?_) | (refine bl_drewN ?_ _) | (refine bl_call ?_ (Nat.le_refl _) (by assumption)))⟩

end Go.Proofs.Ytgambjmjbmdciaa
