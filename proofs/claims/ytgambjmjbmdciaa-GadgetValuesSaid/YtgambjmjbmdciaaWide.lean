/-
  WALKS: package wide.
-/
import Derived.Test.YtgambjmjbmdciaaGold
namespace Go.Proofs.Ytgambjmjbmdciaa
open Go.RowKit Fm
set_option linter.unusedVariables false
set_option maxRecDepth 100000

/-- bounds of two limbs -/
def U64 (a : Int) : Prop := 0 ≤ a ∧ a ≤ 18446744073709551615

theorem wide_P (w : World) :
    Calls Try.prog 158 #[] w fun e w' => e = .returned (.agg #[.int .u64 1, .int .u64 18446744073709551588]) ∧ Below w.heap.size w w' := by
  go_enter Try.func158, Try.ntmps158
  go_wp2
  exact bodyPost_ret (v := .agg #[.int .u64 1, .int .u64 18446744073709551588]) (by simp [results, Try.results158, go_sem]) rfl ⟨rfl, (Below.refl _ _).alloc (Nat.le_refl _) _⟩

theorem bcell {W w1 : World} (hb : Below W.heap.size W w1) : (∀ b o, b < W.heap.size → w1.cell? ⟨b, o, none⟩ = W.cell? ⟨b, o, none⟩) ∧ (∀ b o, b < W.heap.size → w1.frozen? ⟨b, o, none⟩ = W.frozen? ⟨b, o, none⟩) :=
  ⟨fun b o h => hb.cell (p := ⟨b, o, none⟩) h, fun b o h => hb.frozen (p := ⟨b, o, none⟩) h⟩

theorem wide_less (a0 a1 b0 b1 : Int) (w : World) (h0 : 0 ≤ a0) (h1 : a0 ≤ 18446744073709551615) (g0 : 0 ≤ b0) (g1 : b0 ≤ 18446744073709551615) :
    Calls Try.prog 172 #[.agg #[.int .u64 a0, .int .u64 a1], .agg #[.int .u64 b0, .int .u64 b1]] w fun e w' => e = .returned (.bool (decide (a0 + 18446744073709551616 * a1 < b0 + 18446744073709551616 * b1))) ∧ Below w.heap.size w w' := by
  rcases Int.lt_trichotomy a1 b1 with h | h | h
  · have ht : decide (a0 + 18446744073709551616 * a1 < b0 + 18446744073709551616 * b1) = true := by simp; omega
    rw [ht]
    clear ht
    go_enter Try.func172, Try.ntmps172
    go_wp2
    go_ret
    exact ⟨rfl, by repeat (first | exact Below.refl _ _ | (refine bl_alloc ?_ (Nat.le_refl _) _) | (refine Below.drew ?_) | (refine bl_drewN ?_ _) | (refine bl_call ?_ (Nat.le_refl _) (by assumption)))⟩
  · subst h
    have ht : decide (a0 + 18446744073709551616 * a1 < b0 + 18446744073709551616 * a1) = decide (a0 < b0) := by congr 1; simp
    rw [ht]
    clear ht
    go_enter Try.func172, Try.ntmps172
    go_wp2
    all_goals go_ret
    all_goals exact ⟨rfl, by repeat (first | exact Below.refl _ _ | (refine bl_alloc ?_ (Nat.le_refl _) _) | (refine Below.drew ?_) | (refine bl_drewN ?_ _) | (refine bl_call ?_ (Nat.le_refl _) (by assumption)))⟩
  · have ht : decide (a0 + 18446744073709551616 * a1 < b0 + 18446744073709551616 * b1) = false := by simp; omega
    rw [ht]
    clear ht
    have hne : (a1 == b1) = false := by simp; omega
    have hnl : decide (a1 < b1) = false := by simp; omega
    go_enter Try.func172, Try.ntmps172
    go_wp2
    go_ret
    exact ⟨rfl, by repeat (first | exact Below.refl _ _ | (refine bl_alloc ?_ (Nat.le_refl _) _) | (refine Below.drew ?_) | (refine bl_drewN ?_ _) | (refine bl_call ?_ (Nat.le_refl _) (by assumption)))⟩

theorem wide_In (a0 a1 : Int) (w : World) (h0 : 0 ≤ a0) (h1 : a0 ≤ 18446744073709551615) :
    Calls Try.prog 148 #[.agg #[.int .u64 a0, .int .u64 a1]] w fun e w' => e = .returned (.bool (decide (a0 + 18446744073709551616 * a1 < 340282366920938462946865773367900766209))) ∧ Below w.heap.size w w' := by
  go_enter Try.func148, Try.ntmps148
  go_wp2_with fail
  go_region_with (first
    | (go_at_call 158; refine (wide_P _).mono ?_; rintro e w1 ⟨rfl, hb1⟩; obtain ⟨hc1, hf1⟩ := bcell hb1)
    | (go_at_call 172; refine (wide_less _ _ _ _ _ (by omega) (by omega) (by omega) (by omega)).mono ?_; rintro e w2 ⟨rfl, hb2⟩))
  all_goals
    go_wp2
    go_ret
    exact ⟨rfl, by repeat (first | exact Below.refl _ _ | (refine bl_alloc ?_ (Nat.le_refl _) _) | (refine Below.drew ?_) | (refine bl_drewN ?_ _) | (refine bl_call ?_ (Nat.le_refl _) (by assumption)))⟩

theorem wide_take (a0 a1 b0 b1 : Int) (w : World) (h0 : 0 ≤ a0) (h1 : a0 ≤ 18446744073709551615) (g0 : 0 ≤ b0) (g1 : b0 ≤ 18446744073709551615)
     (k0 : 0 ≤ a1) (k1 : a1 ≤ 18446744073709551615) (j0 : 0 ≤ b1) (j1 : b1 ≤ 18446744073709551615) (n : Int) (hn : Hid (n = (a0 + 18446744073709551616 * a1 - (b0 + 18446744073709551616 * b1)) % 340282366920938463463374607431768211456)) :
    Calls Try.prog 157 #[.agg #[.int .u64 a0, .int .u64 a1], .agg #[.int .u64 b0, .int .u64 b1]] w fun e w' =>
      e = .returned (.agg #[.int .u64 (n % 18446744073709551616), .int .u64 (n / 18446744073709551616)]) ∧ Below w.heap.size w w' := by
  go_enter Try.func157, Try.ntmps157
  go_wp2_with fail
  rw [sub64]
  case hx0 => omega
  case hy0 => omega
  case hx => omega
  case hy => omega
  case hb0 => omega
  case hb => omega
  by_cases hlt : a0 < b0
  · rw [if_pos (by omega)]
    go_wp2_with fail
    rw [sub64]
    case hx0 => omega
    case hy0 => omega
    case hx => omega
    case hy => omega
    case hb0 => omega
    case hb => omega
    go_wp2
    all_goals
      refine bodyPost_ret (by simp [results, Try.results157, go_sem]; rfl) rfl ?_
      refine ⟨ret_pair ?_ ?_, by repeat (first | exact Below.refl _ _ | (refine bl_alloc ?_ (Nat.le_refl _) _) | (refine Below.drew ?_) | (refine bl_drewN ?_ _) | (refine bl_call ?_ (Nat.le_refl _) (by assumption)))⟩
      · rw [hn.out]; omega
      · rw [hn.out]; omega
  · rw [if_neg (by omega)]
    go_wp2_with fail
    rw [sub64]
    case hx0 => omega
    case hy0 => omega
    case hx => omega
    case hy => omega
    case hb0 => omega
    case hb => omega
    go_wp2
    all_goals
      refine bodyPost_ret (by simp [results, Try.results157, go_sem]; rfl) rfl ?_
      refine ⟨ret_pair ?_ ?_, by repeat (first | exact Below.refl _ _ | (refine bl_alloc ?_ (Nat.le_refl _) _) | (refine Below.drew ?_) | (refine bl_drewN ?_ _) | (refine bl_call ?_ (Nat.le_refl _) (by assumption)))⟩
      · rw [hn.out]; omega
      · rw [hn.out]; omega

end Go.Proofs.Ytgambjmjbmdciaa
