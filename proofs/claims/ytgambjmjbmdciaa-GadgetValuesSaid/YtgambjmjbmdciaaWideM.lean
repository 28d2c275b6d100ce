/-
  WALK: wide.product.
-/
import Derived.Test.YtgambjmjbmdciaaQuad
import Derived.BigQuiet
namespace Go.Proofs.Ytgambjmjbmdciaa
open Go.RowKit
set_option linter.unusedVariables false
set_option maxRecDepth 100000

theorem mul_le (a b : Int) (h0 : 0 ≤ a) (h1 : a ≤ 18446744073709551615) (g0 : 0 ≤ b) (g1 : b ≤ 18446744073709551615) : 0 ≤ a * b ∧ a * b ≤ 18446744073709551615 * 18446744073709551615 := by
  refine ⟨Int.mul_nonneg h0 g0, ?_⟩
  have h := Int.mul_le_mul h1 g1 g0 (by omega)
  exact h

/-- how far the product has come: i rows are done, of the next one k -/
def Mid (a b c' d : Int) : Nat → Nat → Int → Int → Int → Int → Int → Prop
  | 0, 0, q0, q1, q2, q3, c => q0 = 0 ∧ q1 = 0 ∧ q2 = 0 ∧ q3 = 0 ∧ c = 0
  | 0, 1, q0, q1, q2, q3, c => q1 = 0 ∧ q2 = 0 ∧ q3 = 0 ∧ q0 + 18446744073709551616 * c = a
  | 0, 2, q0, q1, q2, q3, c => q2 = 0 ∧ q3 = 0 ∧ q0 + 18446744073709551616 * q1 + 340282366920938463463374607431768211456 * c = a + 18446744073709551616 * b
  | 1, 0, q0, q1, q2, q3, c => c = 0 ∧ q3 = 0 ∧ q0 + 18446744073709551616 * q1 + 340282366920938463463374607431768211456 * q2 = a + 18446744073709551616 * b
  | 1, 1, q0, q1, q2, q3, c => q3 = 0 ∧ q0 + 18446744073709551616 * q1 + 340282366920938463463374607431768211456 * (q2 + c) = a + 18446744073709551616 * b + 18446744073709551616 * c'
  | 1, 2, q0, q1, q2, q3, c => q3 = 0 ∧ q0 + 18446744073709551616 * q1 + 340282366920938463463374607431768211456 * q2 + 6277101735386680763835789423207666416102355444464034512896 * c = a + 18446744073709551616 * b + 18446744073709551616 * c' + 340282366920938463463374607431768211456 * d
  | 2, 0, q0, q1, q2, q3, c => q0 + 18446744073709551616 * q1 + 340282366920938463463374607431768211456 * q2 + 6277101735386680763835789423207666416102355444464034512896 * q3 = a + 18446744073709551616 * b + 18446744073709551616 * c' + 340282366920938463463374607431768211456 * d
  | _, _, _, _, _, _, _ => False

theorem mid01 {a b c' d q0 q1 q2 q3 c s h : Int} (m : Mid a b c' d 0 0 q0 q1 q2 q3 c) (u : s + 18446744073709551616 * h = a + q0 + c) : Mid a b c' d 0 1 s q1 q2 q3 h := by
  obtain ⟨m1, m2, m3, m4, m5⟩ := m
  exact ⟨m2, m3, m4, by omega⟩
theorem mid02 {a b c' d q0 q1 q2 q3 c s h : Int} (m : Mid a b c' d 0 1 q0 q1 q2 q3 c) (u : s + 18446744073709551616 * h = b + q1 + c) : Mid a b c' d 0 2 q0 s q2 q3 h := by
  obtain ⟨m1, m2, m3, m4⟩ := m
  exact ⟨m2, m3, by omega⟩
theorem mid10 {a b c' d q0 q1 q2 q3 c : Int} (m : Mid a b c' d 0 2 q0 q1 q2 q3 c) : Mid a b c' d 1 0 q0 q1 c q3 0 := by
  obtain ⟨m1, m2, m3⟩ := m
  exact ⟨rfl, m2, by omega⟩
theorem mid11 {a b c' d q0 q1 q2 q3 c s h : Int} (m : Mid a b c' d 1 0 q0 q1 q2 q3 c) (u : s + 18446744073709551616 * h = c' + q1 + c) : Mid a b c' d 1 1 q0 s q2 q3 h := by
  obtain ⟨m1, m2, m3⟩ := m
  exact ⟨m2, by omega⟩
theorem mid12 {a b c' d q0 q1 q2 q3 c s h : Int} (m : Mid a b c' d 1 1 q0 q1 q2 q3 c) (u : s + 18446744073709551616 * h = d + q2 + c) : Mid a b c' d 1 2 q0 q1 s q3 h := by
  obtain ⟨m1, m2⟩ := m
  exact ⟨m1, by omega⟩
theorem mid20 {a b c' d q0 q1 q2 q3 c : Int} (m : Mid a b c' d 1 2 q0 q1 q2 q3 c) : Mid a b c' d 2 0 q0 q1 q2 c 0 := by
  obtain ⟨m1, m2⟩ := m
  exact m2
theorem mid_end (a0 a1 b0 b1 : Int) {q0 q1 q2 q3 : Int} (m : Mid (a0 * b0) (a0 * b1) (a1 * b0) (a1 * b1) 2 0 q0 q1 q2 q3 0) :
    q0 + 18446744073709551616 * q1 + 340282366920938463463374607431768211456 * q2 + 6277101735386680763835789423207666416102355444464034512896 * q3 = (a0 + 18446744073709551616 * a1) * (b0 + 18446744073709551616 * b1) := by
  have m' : q0 + 18446744073709551616 * q1 + 340282366920938463463374607431768211456 * q2 + 6277101735386680763835789423207666416102355444464034512896 * q3 = a0 * b0 + 18446744073709551616 * (a0 * b1) + 18446744073709551616 * (a1 * b0) + 340282366920938463463374607431768211456 * (a1 * b1) := m
  rw [m', Int.add_mul, Int.mul_add, Int.mul_add, Int.mul_assoc, Int.mul_assoc, Int.mul_left_comm a0 18446744073709551616 b1, Int.mul_left_comm a1 18446744073709551616 b1]
  generalize a0 * b0 = x
  generalize a0 * b1 = y
  generalize a1 * b0 = z
  generalize a1 * b1 = t
  omega

/-- a number of 256 bits comes back -/
def RetQ (n : Int) (w : World) (e : Ending) (w' : World) : Prop :=
  ∃ q0 q1 q2 q3 : Int, e = .returned (.agg #[.int .u64 q0, .int .u64 q1, .int .u64 q2, .int .u64 q3]) ∧ (0 ≤ q0 ∧ q0 ≤ 18446744073709551615 ∧ 0 ≤ q1 ∧ q1 ≤ 18446744073709551615 ∧ 0 ≤ q2 ∧ q2 ≤ 18446744073709551615 ∧ 0 ≤ q3 ∧ q3 ≤ 18446744073709551615) ∧
    Hid (q0 + 18446744073709551616 * q1 + 340282366920938463463374607431768211456 * q2 + 6277101735386680763835789423207666416102355444464034512896 * q3 = n) ∧ Below w.heap.size w w'

/-- one step in: the low part, and what is left over -/
theorem step_in (hi lo o c s1 d1 s2 d2 p : Int) (hm : hi * 18446744073709551616 + lo = p) (hp : p ≤ 18446744073709551615 * 18446744073709551615) (ho : o ≤ 18446744073709551615) (hc : c ≤ 18446744073709551615) (h1 : s1 + 18446744073709551616 * d1 = lo + o + 0) (h2 : s2 + 18446744073709551616 * d2 = s1 + c + 0) (hs : 0 ≤ s2) (hs1 : 0 ≤ s1) (hd : 0 ≤ d2) :
    hi + d1 ≤ 18446744073709551615 ∧ hi + d1 + d2 ≤ 18446744073709551615 ∧ s2 + 18446744073709551616 * (hi + d1 + d2) = p + o + c := by omega

set_option maxHeartbeats 1000000 in
theorem wide_product (a0 a1 b0 b1 : Int) (w : World) (h0 : 0 ≤ a0) (h1 : a0 ≤ 18446744073709551615) (k0 : 0 ≤ a1) (k1 : a1 ≤ 18446744073709551615) (g0 : 0 ≤ b0) (g1 : b0 ≤ 18446744073709551615) (j0 : 0 ≤ b1) (j1 : b1 ≤ 18446744073709551615) :
    Calls Try.prog 175 #[.agg #[.int .u64 a0, .int .u64 a1], .agg #[.int .u64 b0, .int .u64 b1]] w (RetQ ((a0 + 18446744073709551616 * a1) * (b0 + 18446744073709551616 * b1)) w) := by
  go_enter Try.func175, Try.ntmps175
  go_wp2_with fail
  go_loopw [12] (fun i wr => ∃ (ii : Nat) (q0 q1 q2 q3 : Int), ii ≤ 2 ∧ i = .int .i64 ii ∧ V4 wr (w.heap.size + 3) (.int .u64 q0) (.int .u64 q1) (.int .u64 q2) (.int .u64 q3) ∧ V4 wr (w.heap.size + 2) (.int .u64 0) (.int .u64 0) (.int .u64 0) (.int .u64 0) ∧
      V2 wr w.heap.size (.int .u64 a0) (.int .u64 a1) ∧ V2 wr (w.heap.size + 1) (.int .u64 b0) (.int .u64 b1) ∧ Below w.heap.size w wr ∧
      (0 ≤ q0 ∧ q0 ≤ 18446744073709551615 ∧ 0 ≤ q1 ∧ q1 ≤ 18446744073709551615 ∧ 0 ≤ q2 ∧ q2 ≤ 18446744073709551615 ∧ 0 ≤ q3 ∧ q3 ≤ 18446744073709551615) ∧ Hid (Mid (a0 * b0) (a0 * b1) (a1 * b0) (a1 * b1) ii 0 q0 q1 q2 q3 0)) (fun i _ => 2 - (intOf i).toNat)
  case atStart =>
    have e1 := V2.new w (.int .u64 a0) (.int .u64 a1) 41
    have e2 := V2.new (w.alloc (.cells #[.int .u64 a0, .int .u64 a1] 41)) (.int .u64 b0) (.int .u64 b1) 41
    have e3 := V4.new ((w.alloc (.cells #[.int .u64 a0, .int .u64 a1] 41)).alloc (.cells #[.int .u64 b0, .int .u64 b1] 41)) (.int .u64 0) (.int .u64 0) (.int .u64 0) (.int .u64 0) 206
    have e4 := V4.new (((w.alloc (.cells #[.int .u64 a0, .int .u64 a1] 41)).alloc (.cells #[.int .u64 b0, .int .u64 b1] 41)).alloc (.cells #[.int .u64 0, .int .u64 0, .int .u64 0, .int .u64 0] 206)) (.int .u64 0) (.int .u64 0) (.int .u64 0) (.int .u64 0) 206
    simp only [World.size_alloc] at e2 e3 e4
    exact ⟨0, 0, 0, 0, 0, by omega, rfl, e4, e3.alloc _, ((e1.alloc _).alloc _).alloc _, (e2.alloc _).alloc _, by repeat (first | exact Below.refl _ _ | with_reducible assumption | (refine bl_alloc ?_ (Nat.le_refl _) _) | (refine bl_set ?_ (by dsimp only; omega) _) | (refine Below.drew ?_) | (refine bl_drewN ?_ _) | (refine bl_call ?_ (Nat.le_refl _) (by assumption))), by omega, ⟨rfl, rfl, rfl, rfl, rfl⟩⟩
  case round =>
    obtain ⟨ii, q0, q1, q2, q3, hii, rfl, hq, hz, ha, hb, hbw, ⟨b1', b2', b3', b4', b5', b6', b7', b8'⟩, HM⟩ := hrel
    by_cases hlt : ii < 2
    · go_wp2_with fail
      obtain ⟨wo, hwo⟩ : ∃ wo : World, wo = wr := ⟨_, rfl⟩
      subst hwo
      go_loopw [15, 7] (fun k cv wi => ∃ (kk : Nat) (q0 q1 q2 q3 c : Int), kk ≤ 2 ∧ k = .int .i64 kk ∧ cv = .int .u64 c ∧ V4 wi (w.heap.size + 3) (.int .u64 q0) (.int .u64 q1) (.int .u64 q2) (.int .u64 q3) ∧ V4 wi (w.heap.size + 2) (.int .u64 0) (.int .u64 0) (.int .u64 0) (.int .u64 0) ∧
          V2 wi w.heap.size (.int .u64 a0) (.int .u64 a1) ∧ V2 wi (w.heap.size + 1) (.int .u64 b0) (.int .u64 b1) ∧ Below w.heap.size w wi ∧
          (0 ≤ q0 ∧ q0 ≤ 18446744073709551615 ∧ 0 ≤ q1 ∧ q1 ≤ 18446744073709551615 ∧ 0 ≤ q2 ∧ q2 ≤ 18446744073709551615 ∧ 0 ≤ q3 ∧ q3 ≤ 18446744073709551615) ∧ (0 ≤ c ∧ c ≤ 18446744073709551615) ∧ Hid (Mid (a0 * b0) (a0 * b1) (a1 * b0) (a1 * b1) ii kk q0 q1 q2 q3 c)) (fun k _ _ => 2 - (intOf k).toNat)
      case atStart => exact ⟨0, q0, q1, q2, q3, 0, by omega, rfl, rfl, hq, hz, ha, hb, hbw, by omega, by omega, HM⟩
      case round =>
        clear b1' b2' b3' b4' b5' b6' b7' b8' HM hq hz ha hb hbw
        obtain ⟨kk, q0, q1, q2, q3, c, hkk, rfl, rfl, hq, hz, ha, hb, hbw, ⟨b1', b2', b3', b4', b5', b6', b7', b8'⟩, ⟨hc0, hc1⟩, HM⟩ := hrel
        obtain ⟨ca0, ca1, ca2, ca3, ca4⟩ := ha
        obtain ⟨cb0, cb1, cb2, cb3, cb4⟩ := hb
        obtain ⟨cq0, cq1, cq2, cq3, cq4, cq5, cq6, cq7, cq8⟩ := hq
        by_cases hlk : kk < 2
        · have hcase : (ii = 0 ∧ kk = 0) ∨ (ii = 0 ∧ kk = 1) ∨ (ii = 1 ∧ kk = 0) ∨ (ii = 1 ∧ kk = 1) := by omega
          rcases hcase with ⟨rfl, rfl⟩ | ⟨rfl, rfl⟩ | ⟨rfl, rfl⟩ | ⟨rfl, rfl⟩
          · obtain ⟨hi, lo, HC, ⟨hh0, hh1, hl0, hl1⟩, HP⟩ := mul64x a0 b0 (by omega) (by omega) (by omega) (by omega)
            obtain ⟨s1, d1, hr1, ⟨hs10, hs11, hd10, hd11⟩, HE1⟩ := add64x lo q0 0 (by omega) (by omega) (by omega) (by omega) (by omega) (by omega)
            obtain ⟨s2, d2, hr2, ⟨hs20, hs21, hd20, hd21⟩, HE2⟩ := add64x s1 c 0 (by omega) (by omega) (by omega) (by omega) (by omega) (by omega)
            obtain ⟨hu1, hu2, hu3⟩ := step_in hi lo q0 c s1 d1 s2 d2 _ HP.out (mul_le a0 b0 (by omega) (by omega) (by omega) (by omega)).2 (by omega) (by omega) HE1.out HE2.out (by omega) (by omega) (by omega)
            have HU := Lib.hid hu3
            clear hu3 HE1 HE2 HP
            go_wp2_with fail
            go_quiet (first | (go_at_call 173; refine Calls.quiet_of_same (HC _)))
            go_wp2_with fail
            go_roundw
            case rel =>
              refine ⟨1, s2, q1, q2, q3, hi + d1 + d2, by omega, by go_num, by go_num, (V4.drewN ⟨cq0, cq1, cq2, cq3, cq4, cq5, cq6, cq7, cq8⟩ _).put0 _, V4.far (hz.drewN _) (by dsimp only; omega) _, V2.setOther (V2.drewN ⟨ca0, ca1, ca2, ca3, ca4⟩ _) (by dsimp only; omega) _, V2.setOther (V2.drewN ⟨cb0, cb1, cb2, cb3, cb4⟩ _) (by dsimp only; omega) _, by repeat (first | exact Below.refl _ _ | with_reducible assumption | (refine bl_alloc ?_ (Nat.le_refl _) _) | (refine bl_set ?_ (by dsimp only; omega) _) | (refine Below.drew ?_) | (refine bl_drewN ?_ _) | (refine bl_call ?_ (Nat.le_refl _) (by assumption))), by omega, by omega, ?_⟩
              exact mid01 HM.out HU.out
            case measure => simp [intOf]
          · obtain ⟨hi, lo, HC, ⟨hh0, hh1, hl0, hl1⟩, HP⟩ := mul64x a0 b1 (by omega) (by omega) (by omega) (by omega)
            obtain ⟨s1, d1, hr1, ⟨hs10, hs11, hd10, hd11⟩, HE1⟩ := add64x lo q1 0 (by omega) (by omega) (by omega) (by omega) (by omega) (by omega)
            obtain ⟨s2, d2, hr2, ⟨hs20, hs21, hd20, hd21⟩, HE2⟩ := add64x s1 c 0 (by omega) (by omega) (by omega) (by omega) (by omega) (by omega)
            obtain ⟨hu1, hu2, hu3⟩ := step_in hi lo q1 c s1 d1 s2 d2 _ HP.out (mul_le a0 b1 (by omega) (by omega) (by omega) (by omega)).2 (by omega) (by omega) HE1.out HE2.out (by omega) (by omega) (by omega)
            have HU := Lib.hid hu3
            clear hu3 HE1 HE2 HP
            go_wp2_with fail
            go_quiet (first | (go_at_call 173; refine Calls.quiet_of_same (HC _)))
            go_wp2_with fail
            go_roundw
            case rel =>
              refine ⟨2, q0, s2, q2, q3, hi + d1 + d2, by omega, by go_num, by go_num, (V4.drewN ⟨cq0, cq1, cq2, cq3, cq4, cq5, cq6, cq7, cq8⟩ _).put1 _, V4.far (hz.drewN _) (by dsimp only; omega) _, V2.setOther (V2.drewN ⟨ca0, ca1, ca2, ca3, ca4⟩ _) (by dsimp only; omega) _, V2.setOther (V2.drewN ⟨cb0, cb1, cb2, cb3, cb4⟩ _) (by dsimp only; omega) _, by repeat (first | exact Below.refl _ _ | with_reducible assumption | (refine bl_alloc ?_ (Nat.le_refl _) _) | (refine bl_set ?_ (by dsimp only; omega) _) | (refine Below.drew ?_) | (refine bl_drewN ?_ _) | (refine bl_call ?_ (Nat.le_refl _) (by assumption))), by omega, by omega, ?_⟩
              exact mid02 HM.out HU.out
            case measure => simp [intOf]
          · obtain ⟨hi, lo, HC, ⟨hh0, hh1, hl0, hl1⟩, HP⟩ := mul64x a1 b0 (by omega) (by omega) (by omega) (by omega)
            obtain ⟨s1, d1, hr1, ⟨hs10, hs11, hd10, hd11⟩, HE1⟩ := add64x lo q1 0 (by omega) (by omega) (by omega) (by omega) (by omega) (by omega)
            obtain ⟨s2, d2, hr2, ⟨hs20, hs21, hd20, hd21⟩, HE2⟩ := add64x s1 c 0 (by omega) (by omega) (by omega) (by omega) (by omega) (by omega)
            obtain ⟨hu1, hu2, hu3⟩ := step_in hi lo q1 c s1 d1 s2 d2 _ HP.out (mul_le a1 b0 (by omega) (by omega) (by omega) (by omega)).2 (by omega) (by omega) HE1.out HE2.out (by omega) (by omega) (by omega)
            have HU := Lib.hid hu3
            clear hu3 HE1 HE2 HP
            go_wp2_with fail
            go_quiet (first | (go_at_call 173; refine Calls.quiet_of_same (HC _)))
            go_wp2_with fail
            go_roundw
            case rel =>
              refine ⟨1, q0, s2, q2, q3, hi + d1 + d2, by omega, by go_num, by go_num, (V4.drewN ⟨cq0, cq1, cq2, cq3, cq4, cq5, cq6, cq7, cq8⟩ _).put1 _, V4.far (hz.drewN _) (by dsimp only; omega) _, V2.setOther (V2.drewN ⟨ca0, ca1, ca2, ca3, ca4⟩ _) (by dsimp only; omega) _, V2.setOther (V2.drewN ⟨cb0, cb1, cb2, cb3, cb4⟩ _) (by dsimp only; omega) _, by repeat (first | exact Below.refl _ _ | with_reducible assumption | (refine bl_alloc ?_ (Nat.le_refl _) _) | (refine bl_set ?_ (by dsimp only; omega) _) | (refine Below.drew ?_) | (refine bl_drewN ?_ _) | (refine bl_call ?_ (Nat.le_refl _) (by assumption))), by omega, by omega, ?_⟩
              exact mid11 HM.out HU.out
            case measure => simp [intOf]
          · obtain ⟨hi, lo, HC, ⟨hh0, hh1, hl0, hl1⟩, HP⟩ := mul64x a1 b1 (by omega) (by omega) (by omega) (by omega)
            obtain ⟨s1, d1, hr1, ⟨hs10, hs11, hd10, hd11⟩, HE1⟩ := add64x lo q2 0 (by omega) (by omega) (by omega) (by omega) (by omega) (by omega)
            obtain ⟨s2, d2, hr2, ⟨hs20, hs21, hd20, hd21⟩, HE2⟩ := add64x s1 c 0 (by omega) (by omega) (by omega) (by omega) (by omega) (by omega)
            obtain ⟨hu1, hu2, hu3⟩ := step_in hi lo q2 c s1 d1 s2 d2 _ HP.out (mul_le a1 b1 (by omega) (by omega) (by omega) (by omega)).2 (by omega) (by omega) HE1.out HE2.out (by omega) (by omega) (by omega)
            have HU := Lib.hid hu3
            clear hu3 HE1 HE2 HP
            go_wp2_with fail
            go_quiet (first | (go_at_call 173; refine Calls.quiet_of_same (HC _)))
            go_wp2_with fail
            go_roundw
            case rel =>
              refine ⟨2, q0, q1, s2, q3, hi + d1 + d2, by omega, by go_num, by go_num, (V4.drewN ⟨cq0, cq1, cq2, cq3, cq4, cq5, cq6, cq7, cq8⟩ _).put2 _, V4.far (hz.drewN _) (by dsimp only; omega) _, V2.setOther (V2.drewN ⟨ca0, ca1, ca2, ca3, ca4⟩ _) (by dsimp only; omega) _, V2.setOther (V2.drewN ⟨cb0, cb1, cb2, cb3, cb4⟩ _) (by dsimp only; omega) _, by repeat (first | exact Below.refl _ _ | with_reducible assumption | (refine bl_alloc ?_ (Nat.le_refl _) _) | (refine bl_set ?_ (by dsimp only; omega) _) | (refine Below.drew ?_) | (refine bl_drewN ?_ _) | (refine bl_call ?_ (Nat.le_refl _) (by assumption))), by omega, by omega, ?_⟩
              exact mid12 HM.out HU.out
            case measure => simp [intOf]
        · obtain rfl : kk = 2 := by omega
          have hcase : ii = 0 ∨ ii = 1 := by omega
          rcases hcase with rfl | rfl
          · go_wp2_with fail
            go_roundw
            case rel =>
              refine ⟨1, q0, q1, c, q3, by omega, by go_num, V4.put2 ⟨cq0, cq1, cq2, cq3, cq4, cq5, cq6, cq7, cq8⟩ _, V4.far hz (by dsimp only; omega) _, V2.setOther ⟨ca0, ca1, ca2, ca3, ca4⟩ (by dsimp only; omega) _, V2.setOther ⟨cb0, cb1, cb2, cb3, cb4⟩ (by dsimp only; omega) _, by repeat (first | exact Below.refl _ _ | with_reducible assumption | (refine bl_alloc ?_ (Nat.le_refl _) _) | (refine bl_set ?_ (by dsimp only; omega) _) | (refine Below.drew ?_) | (refine bl_drewN ?_ _) | (refine bl_call ?_ (Nat.le_refl _) (by assumption))), by omega, ?_⟩
              exact mid10 HM.out
            case measure => simp [intOf]
          · go_wp2_with fail
            go_roundw
            case rel =>
              refine ⟨2, q0, q1, q2, c, by omega, by go_num, V4.put3 ⟨cq0, cq1, cq2, cq3, cq4, cq5, cq6, cq7, cq8⟩ _, V4.far hz (by dsimp only; omega) _, V2.setOther ⟨ca0, ca1, ca2, ca3, ca4⟩ (by dsimp only; omega) _, V2.setOther ⟨cb0, cb1, cb2, cb3, cb4⟩ (by dsimp only; omega) _, by repeat (first | exact Below.refl _ _ | with_reducible assumption | (refine bl_alloc ?_ (Nat.le_refl _) _) | (refine bl_set ?_ (by dsimp only; omega) _) | (refine Below.drew ?_) | (refine bl_drewN ?_ _) | (refine bl_call ?_ (Nat.le_refl _) (by assumption))), by omega, ?_⟩
              exact mid20 HM.out
            case measure => simp [intOf]
    · obtain rfl : ii = 2 := by omega
      obtain ⟨cz0, cz1, cz2, cz3, cz4, cz5, cz6, cz7, cz8⟩ := hz
      obtain ⟨cq0, cq1, cq2, cq3, cq4, cq5, cq6, cq7, cq8⟩ := hq
      go_wp2_with fail
      refine bodyPost_ret (results_v4 (b := w.heap.size + 2) (q0 := .int .u64 q0) (q1 := .int .u64 q1) (q2 := .int .u64 q2) (q3 := .int .u64 q3) ?_ rfl rfl) rfl ?_
      · exact V4.set ⟨cz0, cz1, cz2, cz3, cz4, cz5, cz6, cz7, cz8⟩ _ _ _ _
      · refine ⟨q0, q1, q2, q3, rfl, ⟨b1', b2', b3', b4', b5', b6', b7', b8'⟩, ?_, by repeat (first | exact Below.refl _ _ | with_reducible assumption | (refine bl_alloc ?_ (Nat.le_refl _) _) | (refine bl_set ?_ (by dsimp only; omega) _) | (refine Below.drew ?_) | (refine bl_drewN ?_ _) | (refine bl_call ?_ (Nat.le_refl _) (by assumption)))⟩
        exact mid_end a0 a1 b0 b1 HM.out

end Go.Proofs.Ytgambjmjbmdciaa
