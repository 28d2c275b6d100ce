/-
  WALKS: field.Mul, Of, One, Neg.
-/
import Derived.Test.YtgambjmjbmdciaaWideMul
namespace Go.Proofs.Ytgambjmjbmdciaa
open Go.RowKit Fm
set_option linter.unusedVariables false
set_option maxRecDepth 100000

theorem field_MulL {f : Nat} (hf : IsF f) (a0 a1 b0 b1 : Int) (w : World) (h0 : 0 ≤ a0) (h1 : a0 ≤ 18446744073709551615) (k0 : 0 ≤ a1) (k1 : a1 ≤ 18446744073709551615)
    (g0 : 0 ≤ b0) (g1 : b0 ≤ 18446744073709551615) (j0 : 0 ≤ b1) (j1 : b1 ≤ 18446744073709551615) :
    Calls Try.prog 108 #[.int .u8 f, .agg #[.int .u64 a0, .int .u64 a1], .agg #[.int .u64 b0, .int .u64 b1]] w (RetK (kL f a0 a1 * kL f b0 b1) w) := by
  rcases hf.or with rfl | rfl
  · have hz : kI (Pm 1) (a0 * b0) = kL 1 a0 a1 * kL 1 b0 b1 := by rw [kI_mul]; rfl
    show Calls Try.prog 108 #[.int .u8 1, .agg #[.int .u64 a0, .int .u64 a1], .agg #[.int .u64 b0, .int .u64 b1]] w (RetK (kL 1 a0 a1 * kL 1 b0 b1) w)
    rw [← hz]
    have hv : vK (kI (Pm 1) (a0 * b0)) = .agg #[.int .u64 (a0 * b0 % 18446744069414584321), .int .u64 0] := by
      have hp : ((Pm 1 : Nat) : Int) = 18446744069414584321 := rfl
      have h := vK_of (x := kI (Pm 1) (a0 * b0)) (z0 := a0 * b0 % 18446744069414584321) (z1 := 0) (by rw [val_kI, hp]; omega) (Int.emod_nonneg _ (by omega)) (by have := Int.emod_lt_of_pos (a0 * b0) (show (0 : Int) < 18446744069414584321 by omega); omega)
      show Value.agg #[.int .u64 (lo _), .int .u64 (hi _)] = _
      rw [h.1, h.2]
    clear hz
    go_enter Try.func108, Try.ntmps108
    go_wp2_with (go_at_call 149; refine (gold_Mul _ _ _ (by omega) (by omega) (by omega) (by omega)).mono ?_; rintro e w' ⟨rfl, rfl⟩)
    refine bodyPost_ret (by simp [results, Try.results108, go_sem]; rfl) rfl ⟨by rw [hv], by repeat (first | exact Below.refl _ _ | with_reducible assumption | (refine bl_alloc ?_ (Nat.le_refl _) _) | (refine bl_set ?_ (by dsimp only; omega) _) | (refine Below.drew ?_) | (refine bl_drewN ?_ _) | (refine bl_call ?_ (Nat.le_refl _) (by assumption)))⟩
  · have HM := Lib.hid (fun wz => wide_MulL a0 a1 b0 b1 wz h0 h1 k0 k1 g0 g1 j0 j1)
    generalize kL 2 a0 a1 * kL 2 b0 b1 = z at *
    show Calls Try.prog 108 #[.int .u8 2, .agg #[.int .u64 a0, .int .u64 a1], .agg #[.int .u64 b0, .int .u64 b1]] w (RetK z w)
    go_enter Try.func108, Try.ntmps108
    go_upto_region 1 with fail
    have q0 := ((V2.new w (.int .u64 a0) (.int .u64 a1) 41).alloc (.cells #[(.int .u64 b0), (.int .u64 b1)] 41)).alloc (.cells #[(.int .u64 0), (.int .u64 0)] 41)
    have t0 := (V2.new (w.alloc (.cells #[(.int .u64 a0), (.int .u64 a1)] 41)) (.int .u64 b0) (.int .u64 b1) 41).alloc (.cells #[(.int .u64 0), (.int .u64 0)] 41)
    have s0 := V2.new ((w.alloc (.cells #[(.int .u64 a0), (.int .u64 a1)] 41)).alloc (.cells #[(.int .u64 b0), (.int .u64 b1)] 41)) (.int .u64 0) (.int .u64 0) 41
    simp only [World.size_alloc] at t0 s0
    have hb00 : Below w.heap.size w (((w.alloc (.cells #[(.int .u64 a0), (.int .u64 a1)] 41)).alloc (.cells #[(.int .u64 b0), (.int .u64 b1)] 41)).alloc (.cells #[(.int .u64 0), (.int .u64 0)] 41)) := by repeat (first | exact Below.refl _ _ | with_reducible assumption | (refine bl_alloc ?_ (Nat.le_refl _) _))
    have hsz : w.heap.size + 3 ≤ (((w.alloc (.cells #[(.int .u64 a0), (.int .u64 a1)] 41)).alloc (.cells #[(.int .u64 b0), (.int .u64 b1)] 41)).alloc (.cells #[(.int .u64 0), (.int .u64 0)] 41)).heap.size := by simp only [World.size_alloc]; omega
    generalize (((w.alloc (.cells #[(.int .u64 a0), (.int .u64 a1)] 41)).alloc (.cells #[(.int .u64 b0), (.int .u64 b1)] 41)).alloc (.cells #[(.int .u64 0), (.int .u64 0)] 41)) = w1 at q0 t0 s0 hb00 hsz ⊢
    obtain ⟨c0, c1, c2, c3, c4⟩ := q0
    obtain ⟨d0, d1, d2, d3, d4⟩ := t0
    go_wp2_with (go_at_call 150; refine (HM.out _).mono ?_; rintro e w5 ⟨rfl, hb5⟩; obtain ⟨e0, e1, e2, e3, e4⟩ := s0.call hb5)
    refine bodyPost_ret (results_v2 (b := w.heap.size + 1 + 1) (u := .int .u64 (lo z)) (v := .int .u64 (hi z)) ?_ rfl rfl) rfl ⟨rfl, by repeat (first | exact Below.refl _ _ | with_reducible assumption | (refine bl_alloc ?_ (Nat.le_refl _) _) | (refine bl_set ?_ (by dsimp only; omega) _) | (refine Below.drew ?_) | (refine bl_drewN ?_ _) | (refine bl_call ?_ (Nat.le_refl _) (by assumption)))⟩
    exact V2.set ⟨e0, e1, e2, e3, e4⟩ _ _

theorem field_Of {f : Nat} (hf : IsF f) (n : Int) (w : World) (h0 : 0 ≤ n) (h1 : n ≤ 18446744073709551615) :
    Calls Try.prog 114 #[.int .u8 f, .int .u64 n] w (RetK (kL f n 0) w) := by
  rcases hf.or with rfl | rfl
  · have hv : vK (kL 1 n 0) = .agg #[.int .u64 (n % 18446744069414584321), .int .u64 0] := by
      have hp : ((Pm 1 : Nat) : Int) = 18446744069414584321 := rfl
      have h := vK_of (x := kL 1 n 0) (z0 := n % 18446744069414584321) (z1 := 0) (by rw [← kI_nI, val_kI, hp]; show _ = n % _; omega) (Int.emod_nonneg _ (by omega)) (by have := Int.emod_lt_of_pos n (show (0 : Int) < 18446744069414584321 by omega); omega)
      show Value.agg #[.int .u64 (lo _), .int .u64 (hi _)] = _
      rw [h.1, h.2]
    show Calls Try.prog 114 #[.int .u8 1, .int .u64 n] w (RetK (kL 1 n 0) w)
    go_enter Try.func114, Try.ntmps114
    go_wp2_with (go_at_call 153; refine (gold_Of _ _ (by omega) (by omega)).mono ?_; rintro e w' ⟨rfl, rfl⟩)
    refine bodyPost_ret (by simp [results, Try.results114, go_sem]; rfl) rfl ⟨by rw [hv], by repeat (first | exact Below.refl _ _ | with_reducible assumption | (refine bl_alloc ?_ (Nat.le_refl _) _) | (refine bl_set ?_ (by dsimp only; omega) _) | (refine Below.drew ?_) | (refine bl_drewN ?_ _) | (refine bl_call ?_ (Nat.le_refl _) (by assumption)))⟩
  · have hv : vK (kL 2 n 0) = .agg #[.int .u64 n, .int .u64 0] := by
      have h := vK_of (x := kL 2 n 0) (z0 := n) (z1 := 0) (by rw [← kI_nI, val_kI, P2_int, nI2]; omega) h0 h1
      show Value.agg #[.int .u64 (lo _), .int .u64 (hi _)] = _
      rw [h.1, h.2]
    show Calls Try.prog 114 #[.int .u8 2, .int .u64 n] w (RetK (kL 2 n 0) w)
    go_enter Try.func114, Try.ntmps114
    go_wp2
    refine bodyPost_ret (by simp [results, Try.results114, go_sem]; rfl) rfl ⟨by rw [hv], by repeat (first | exact Below.refl _ _ | with_reducible assumption | (refine bl_alloc ?_ (Nat.le_refl _) _) | (refine bl_set ?_ (by dsimp only; omega) _) | (refine Below.drew ?_) | (refine bl_drewN ?_ _) | (refine bl_call ?_ (Nat.le_refl _) (by assumption)))⟩

theorem field_One {f : Nat} (hf : IsF f) (w : World) : Calls Try.prog 57 #[.int .u8 f] w (RetK (1 : Fin (Pm f)) w) := by
  have h := fun wz => field_Of hf 1 wz (by omega) (by omega)
  rw [kL_one] at h
  have H := Lib.hid h
  clear h
  go_enter Try.func57, Try.ntmps57
  go_upto_region 1 with fail
  have s0 := V2.new w (.int .u64 0) (.int .u64 0) 41
  have hb00 : Below w.heap.size w (w.alloc (.cells #[(.int .u64 0), (.int .u64 0)] 41)) := by repeat (first | exact Below.refl _ _ | with_reducible assumption | (refine bl_alloc ?_ (Nat.le_refl _) _))
  have hsz : w.heap.size + 1 ≤ (w.alloc (.cells #[(.int .u64 0), (.int .u64 0)] 41)).heap.size := by simp only [World.size_alloc]; omega
  generalize (w.alloc (.cells #[(.int .u64 0), (.int .u64 0)] 41)) = w1 at s0 hb00 hsz ⊢
  go_wp2_with (go_at_call 114; refine (H.out _).mono ?_; rintro e w5 ⟨rfl, hb5⟩; obtain ⟨e0, e1, e2, e3, e4⟩ := s0.call hb5)
  refine bodyPost_ret (results_v2 (b := w.heap.size) (u := .int .u64 (lo (1 : Fin (Pm f)))) (v := .int .u64 (hi (1 : Fin (Pm f)))) ?_ rfl rfl) rfl ⟨rfl, by repeat (first | exact Below.refl _ _ | with_reducible assumption | (refine bl_alloc ?_ (Nat.le_refl _) _) | (refine bl_set ?_ (by dsimp only; omega) _) | (refine Below.drew ?_) | (refine bl_drewN ?_ _) | (refine bl_call ?_ (Nat.le_refl _) (by assumption)))⟩
  exact V2.set ⟨e0, e1, e2, e3, e4⟩ _ _

theorem field_NegL {f : Nat} (hf : IsF f) (a0 a1 : Int) (w : World) (h0 : 0 ≤ a0) (h1 : a0 ≤ 18446744073709551615) (k0 : 0 ≤ a1) (k1 : a1 ≤ 18446744073709551615) :
    Calls Try.prog 112 #[.int .u8 f, .agg #[.int .u64 a0, .int .u64 a1]] w (RetK (- kL f a0 a1) w) := by
  have h := fun wz => field_SubL hf 0 0 a0 a1 wz (by omega) (by omega) (by omega) (by omega) h0 h1 k0 k1
  rw [kL_zero, show (0 : Fin (Pm f)) - kL f a0 a1 = - kL f a0 a1 by grind] at h
  generalize - kL f a0 a1 = z at *
  have H := Lib.hid h
  clear h
  go_enter Try.func112, Try.ntmps112
  go_upto_region 1 with fail
  have q0 := (V2.new w (.int .u64 a0) (.int .u64 a1) 41).alloc (.cells #[(.int .u64 0), (.int .u64 0)] 41)
  have s0 := V2.new (w.alloc (.cells #[(.int .u64 a0), (.int .u64 a1)] 41)) (.int .u64 0) (.int .u64 0) 41
  simp only [World.size_alloc] at s0
  have hb00 : Below w.heap.size w ((w.alloc (.cells #[(.int .u64 a0), (.int .u64 a1)] 41)).alloc (.cells #[(.int .u64 0), (.int .u64 0)] 41)) := by repeat (first | exact Below.refl _ _ | with_reducible assumption | (refine bl_alloc ?_ (Nat.le_refl _) _))
  have hsz : w.heap.size + 2 ≤ ((w.alloc (.cells #[(.int .u64 a0), (.int .u64 a1)] 41)).alloc (.cells #[(.int .u64 0), (.int .u64 0)] 41)).heap.size := by simp only [World.size_alloc]; omega
  generalize ((w.alloc (.cells #[(.int .u64 a0), (.int .u64 a1)] 41)).alloc (.cells #[(.int .u64 0), (.int .u64 0)] 41)) = w1 at q0 s0 hb00 hsz ⊢
  obtain ⟨c0, c1, c2, c3, c4⟩ := q0
  go_wp2_with (go_at_call 100; refine (H.out _).mono ?_; rintro e w5 ⟨rfl, hb5⟩; obtain ⟨e0, e1, e2, e3, e4⟩ := s0.call hb5)
  refine bodyPost_ret (results_v2 (b := w.heap.size + 1) (u := .int .u64 (lo z)) (v := .int .u64 (hi z)) ?_ rfl rfl) rfl ⟨rfl, by repeat (first | exact Below.refl _ _ | with_reducible assumption | (refine bl_alloc ?_ (Nat.le_refl _) _) | (refine bl_set ?_ (by dsimp only; omega) _) | (refine Below.drew ?_) | (refine bl_drewN ?_ _) | (refine bl_call ?_ (Nat.le_refl _) (by assumption)))⟩
  exact V2.set ⟨e0, e1, e2, e3, e4⟩ _ _

section
variable {f : Nat} (hf : IsF f)
include hf
theorem field_MulK (x y : Fin (Pm f)) (w : World) : Calls Try.prog 108 #[.int .u8 f, vK x, vK y] w (RetK (x * y) w) := by
  have h := field_MulL hf (lo x) (hi x) (lo y) (hi y) w (lo_0 x) (lo_1 x) (hi_0 x) (hi_1 x) (lo_0 y) (lo_1 y) (hi_0 y) (hi_1 y)
  rwa [kL_lohi, kL_lohi] at h
theorem field_NegK (x : Fin (Pm f)) (w : World) : Calls Try.prog 112 #[.int .u8 f, vK x] w (RetK (-x) w) := by
  have h := field_NegL hf (lo x) (hi x) w (lo_0 x) (lo_1 x) (hi_0 x) (hi_1 x)
  rwa [kL_lohi] at h
end

end Go.Proofs.Ytgambjmjbmdciaa
