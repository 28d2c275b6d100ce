/-
  WALK: wide.Mul; a number of 256 bits by its limbs.
-/
/-
  WALKS: field.Mul, Of, One, Neg.
-/
/-
  WALK: poly.At.
-/
/-
  WALK: the reference's At.
-/
/-
  GADGETS that may be: their values, Check, Arity, Degree, Of.
-/
import Derived.Test.YtiphahbeedeebaaMah
import Derived.Test.YtiphahbeedeebaaMaf
import Derived.Test.YtiphahbeedeebaaMag
import Derived.IntWalk
namespace Go.Proofs.Ytiphahbeedeebaa
open Go.RowKit Fm
set_option linter.unusedVariables false
set_option maxRecDepth 100000



theorem P2_int : ((Pm 2 : Nat) : Int) = 340282366920938462946865773367900766209 := rfl
theorem nI2 (a0 a1 : Int) : nI ((2 : Nat) : Int) a0 a1 = a0 + 18446744073709551616 * a1 := by unfold nI; rw [if_neg (by omega)]

theorem wide_OfK (a0 a1 : Int) (w : World) (h0 : 0 ≤ a0) (h1 : a0 ≤ 18446744073709551615) (k0 : 0 ≤ a1) (k1 : a1 ≤ 18446744073709551615) :
    Calls Try.prog 125 #[.agg #[.int .u64 a0, .int .u64 a1]] w (RetK (kL 2 a0 a1) w) := by
  refine (Of_any a0 a1 w h0 h1 k0 k1).mono fun e w' h => ?_
  rw [← P2_int] at h
  exact h.toK (by rw [← nI2, kI_nI])

/-- the four limbs of a number of 256 bits -/
structure Limbs (n q0 q1 q2 q3 : Int) : Prop where
  b : 0 ≤ q0 ∧ q0 ≤ 18446744073709551615 ∧ 0 ≤ q1 ∧ q1 ≤ 18446744073709551615 ∧ 0 ≤ q2 ∧ q2 ≤ 18446744073709551615 ∧ 0 ≤ q3 ∧ q3 ≤ 18446744073709551615
  sum : q0 + 18446744073709551616 * q1 + 340282366920938463463374607431768211456 * q2 + 6277101735386680763835789423207666416102355444464034512896 * q3 = n

theorem limbs_of (n : Int) (h0 : 0 ≤ n) (h1 : n < 115792089237316195423570985008687907853269984665640564039457584007913129639936) : ∃ q0 q1 q2 q3, Limbs n q0 q1 q2 q3 :=
  ⟨n % 18446744073709551616, n / 18446744073709551616 % 18446744073709551616, n / 340282366920938463463374607431768211456 % 18446744073709551616, n / 6277101735386680763835789423207666416102355444464034512896, by omega, by omega⟩

theorem Limbs.uniq {n q0 q1 q2 q3 p0 p1 p2 p3 : Int} (h : Limbs n q0 q1 q2 q3) (h' : Limbs n p0 p1 p2 p3) : q0 = p0 ∧ q1 = p1 ∧ q2 = p2 ∧ q3 = p3 := by
  obtain ⟨b, s⟩ := h
  obtain ⟨b', s'⟩ := h'
  omega

theorem RetQ.det {n : Int} {w : World} {q0 q1 q2 q3 : Int} (hl : Limbs n q0 q1 q2 q3) {e : Ending} {w' : World} (h : RetQ n w e w') : e = .returned (.agg #[.int .u64 q0, .int .u64 q1, .int .u64 q2, .int .u64 q3]) ∧ Below w.heap.size w w' := by
  obtain ⟨p0, p1, p2, p3, rfl, hb, HN, hbw⟩ := h
  obtain ⟨rfl, rfl, rfl, rfl⟩ := hl.uniq ⟨hb, HN.out⟩
  exact ⟨rfl, hbw⟩

/-- one fold: the same number modulo P, and less -/
theorem fold_less (l h n : Int) (hn : n = l + 340282366920938463463374607431768211456 * h) (h1 : 1 ≤ h) :
    (l + h * 516508834063867445247) % 340282366920938462946865773367900766209 = n % 340282366920938462946865773367900766209 ∧ l + h * 516508834063867445247 < n := by
  constructor
  · rw [show n = l + h * 516508834063867445247 + 340282366920938462946865773367900766209 * h from by omega, Int.add_mul_emod_self_left]
  · omega

/-- a new variable of four limbs -/
def NewQ (B : Nat) (v : Value) (w : World) : Prop := ∃ b, v = .pointer (some ⟨b, 0, none⟩) ∧ B ≤ b ∧ V4 w b (.int .u64 0) (.int .u64 0) (.int .u64 0) (.int .u64 0)
theorem newQ_stable (B : Nat) : ∀ v w w', NewQ B v w → Below w.heap.size w w' → NewQ B v w' := fun _ _ _ ⟨b, h1, h2, h3⟩ hb => ⟨b, h1, h2, h3.call hb⟩

/-- the number in a variable of four limbs -/
def numAt (w : World) (b : Nat) : Nat := ((intOf ((w.cell? ⟨b, 0, none⟩).getD undef)) + 18446744073709551616 * (intOf ((w.cell? ⟨b, 1, none⟩).getD undef)) + 340282366920938463463374607431768211456 * (intOf ((w.cell? ⟨b, 2, none⟩).getD undef)) + 6277101735386680763835789423207666416102355444464034512896 * (intOf ((w.cell? ⟨b, 3, none⟩).getD undef))).toNat
theorem numAt_V4 {w : World} {b : Nat} {q0 q1 q2 q3 : Int} (h : V4 w b (.int .u64 q0) (.int .u64 q1) (.int .u64 q2) (.int .u64 q3)) :
    numAt w b = (q0 + 18446744073709551616 * q1 + 340282366920938463463374607431768211456 * q2 + 6277101735386680763835789423207666416102355444464034512896 * q3).toNat := by
  unfold numAt
  rw [h.c0, h.c1, h.c2, h.c3]
  rfl

theorem mul_bound (x y : Fin (Pm 2)) : 0 ≤ ((x.val : Nat) : Int) * ((y.val : Nat) : Int) ∧ ((x.val : Nat) : Int) * ((y.val : Nat) : Int) < 115792089237316195423570985008687907853269984665640564039457584007913129639936 := by
  have hx := x.isLt
  have hy := y.isLt
  have h2 := Pm_lt 2
  refine ⟨Int.mul_nonneg (by omega) (by omega), ?_⟩
  have h := Int.mul_le_mul (show ((x.val : Nat) : Int) ≤ 340282366920938463463374607431768211455 by omega) (show ((y.val : Nat) : Int) ≤ 340282366920938463463374607431768211455 by omega) (by omega) (by omega)
  exact Int.lt_of_le_of_lt h (by decide)

theorem val_lohi2 (x : Fin (Pm 2)) : lo x + 18446744073709551616 * hi x = ((x.val : Nat) : Int) := by
  have hx := x.isLt
  have h2 := Pm_lt 2
  unfold lo hi eK eN
  dsimp only
  omega

theorem ret_if {a b : Prop} (h : a → b) (ha : a) : b := h ha

set_option maxHeartbeats 4000000 in
theorem wide_MulL (a0 a1 b0 b1 : Int) (w : World) (h0 : 0 ≤ a0) (h1 : a0 ≤ 18446744073709551615) (k0 : 0 ≤ a1) (k1 : a1 ≤ 18446744073709551615)
    (g0 : 0 ≤ b0) (g1 : b0 ≤ 18446744073709551615) (j0 : 0 ≤ b1) (j1 : b1 ≤ 18446744073709551615) :
    Calls Try.prog 119 #[.agg #[.int .u64 a0, .int .u64 a1], .agg #[.int .u64 b0, .int .u64 b1]] w (RetK (kL 2 a0 a1 * kL 2 b0 b1) w) := by
  have hOa := fun wz => wide_OfK a0 a1 wz h0 h1 k0 k1
  have hOb := fun wz => wide_OfK b0 b1 wz g0 g1 j0 j1
  generalize kL 2 a0 a1 = x at *
  generalize kL 2 b0 b1 = y at *
  obtain ⟨q0, q1, q2, q3, hlq⟩ := limbs_of (((x.val : Nat) : Int) * ((y.val : Nat) : Int)) (mul_bound x y).1 (mul_bound x y).2
  have HP : ∀ wz, Calls Try.prog 137 #[vK x, vK y] wz (fun e w' => e = .returned (.agg #[.int .u64 q0, .int .u64 q1, .int .u64 q2, .int .u64 q3]) ∧ Below wz.heap.size wz w') := by
    intro wz
    have h := wide_product (lo x) (hi x) (lo y) (hi y) wz (lo_0 x) (lo_1 x) (hi_0 x) (hi_1 x) (lo_0 y) (lo_1 y) (hi_0 y) (hi_1 y)
    rw [val_lohi2, val_lohi2] at h
    exact h.mono fun e w' h => h.det hlq
  have HX : Hid (kI (Pm 2) (q0 + 18446744073709551616 * q1 + 340282366920938463463374607431768211456 * q2 + 6277101735386680763835789423207666416102355444464034512896 * q3) = x * y) := by
    show _ = _
    rw [hlq.sum, kI_mul, kI_ofVal, kI_ofVal]
  have hqb := hlq.b
  have HA := Lib.hid hOa
  have HB := Lib.hid hOb
  have HPP := Lib.hid HP
  clear hOa hOb HP hlq
  go_enter Try.func119, Try.ntmps119
  go_wp2_with fail
  have q0' := ((V2.new w (.int .u64 a0) (.int .u64 a1) 41).alloc (.cells #[.int .u64 b0, .int .u64 b1] 41)).alloc (.cells #[.int .u64 0, .int .u64 0] 41)
  have r0 := (V2.new (w.alloc (.cells #[.int .u64 a0, .int .u64 a1] 41)) (.int .u64 b0) (.int .u64 b1) 41).alloc (.cells #[.int .u64 0, .int .u64 0] 41)
  have s0 := V2.new ((w.alloc (.cells #[.int .u64 a0, .int .u64 a1] 41)).alloc (.cells #[.int .u64 b0, .int .u64 b1] 41)) (.int .u64 0) (.int .u64 0) 41
  simp only [World.size_alloc] at r0 s0
  have hb00 : Below w.heap.size w (((w.alloc (.cells #[.int .u64 a0, .int .u64 a1] 41)).alloc (.cells #[.int .u64 b0, .int .u64 b1] 41)).alloc (.cells #[.int .u64 0, .int .u64 0] 41)) := by repeat (first | exact Below.refl _ _ | with_reducible assumption | (refine bl_alloc ?_ (Nat.le_refl _) _) | (refine bl_set ?_ (by dsimp only; omega) _) | (refine Below.drew ?_) | (refine bl_drewN ?_ _) | (refine bl_call ?_ (Nat.le_refl _) (by assumption)))
  have hsz : w.heap.size + 3 ≤ (((w.alloc (.cells #[.int .u64 a0, .int .u64 a1] 41)).alloc (.cells #[.int .u64 b0, .int .u64 b1] 41)).alloc (.cells #[.int .u64 0, .int .u64 0] 41)).heap.size := by simp only [World.size_alloc]; omega
  generalize ((w.alloc (.cells #[.int .u64 a0, .int .u64 a1] 41)).alloc (.cells #[.int .u64 b0, .int .u64 b1] 41)).alloc (.cells #[.int .u64 0, .int .u64 0] 41) = w1 at *
  have q01 := q0'
  obtain ⟨c0, c1, c2, c3, c4⟩ := q01
  have r01 := r0
  obtain ⟨d0, d1, d2, d3, d4⟩ := r01
  have hNew := newQ_stable (w1.heap.size)
  refine region_N (n := 6) (m := 7) (f := 6) 5 5 (NewQ (w1.heap.size)) (by kernel_rfl) (by kernel_rfl) rfl ?_
  refine WpH.takeN hNew (i := 0) (v := ?_) rfl (by kernel_rfl) rfl rfl (fun _ _ _ h => h) (.val rfl (fun wz hwz => ?_)) ?_
  rotate_left
  · (obtain ⟨hcz, hfz⟩ := bcell hwz; go_simp; try (with_reducible rfl))
  (simp only [Act.put]); (try simp only [List.setIfInBounds_toArray]); (try simp only [List.set_cons_succ]); (try simp only [List.set_cons_zero])
  refine WpH.takeN hNew (i := 1) rfl (by kernel_rfl) rfl rfl (fun _ _ _ h => h) (.call rfl (fun wz hwz => HA.out wz) (fun wz hwz => ?_)) ?_
  · go_simp; try (with_reducible rfl)
  (simp only [Act.put]); (try simp only [List.setIfInBounds_toArray]); (try simp only [List.set_cons_succ]); (try simp only [List.set_cons_zero])
  refine WpH.takeN hNew (i := 2) (v := ?_) rfl (by kernel_rfl) rfl rfl (fun _ _ _ h => h) (.val rfl (fun wz hwz => ?_)) ?_
  rotate_left
  · (obtain ⟨hcz, hfz⟩ := bcell hwz; go_simp; try (with_reducible rfl))
  (simp only [Act.put]); (try simp only [List.setIfInBounds_toArray]); (try simp only [List.set_cons_succ]); (try simp only [List.set_cons_zero])
  refine WpH.takeN hNew (i := 3) rfl (by kernel_rfl) rfl rfl (fun _ _ _ h => h) (.call rfl (fun wz hwz => HB.out wz) (fun wz hwz => ?_)) ?_
  · go_simp; try (with_reducible rfl)
  (simp only [Act.put]); (try simp only [List.setIfInBounds_toArray]); (try simp only [List.set_cons_succ]); (try simp only [List.set_cons_zero])
  refine WpH.takeN hNew (i := 4) rfl (by kernel_rfl) rfl rfl (fun _ _ _ h => h) (.call rfl (fun wz hwz => HPP.out wz) (fun wz hwz => ?_)) ?_
  · go_simp; try (with_reducible rfl)
  (simp only [Act.put]); (try simp only [List.setIfInBounds_toArray]); (try simp only [List.set_cons_succ]); (try simp only [List.set_cons_zero])
  refine WpH.one (i := 5) (by kernel_rfl) (fun w2 hw2 => ?_)
  refine wpOp_value rfl rfl (by go_simp; first | rfl | exact ⟨rfl, rfl⟩) ⟨⟨hw2.1.trans (((Below.refl _ _).alloc (Nat.le_refl _) _).mono hw2.1.size), fun _ => ⟨_, rfl, (by have hsz2 := hw2.1.size; (try simp only [World.size_alloc] at hsz2); omega), V4.new _ _ _ _ _ _⟩⟩, ?_⟩
  (simp only [Act.put]); (try simp only [List.setIfInBounds_toArray]); (try simp only [List.set_cons_succ]); (try simp only [List.set_cons_zero])
  refine WpH.done (by kernel_rfl) (fun w3 hw3n => ?_)
  obtain ⟨hw3, hnw3⟩ := hw3n
  obtain ⟨b, hbew3, hBb, hVb⟩ := hnw3 rfl
  simp at hbew3
  rw [hbew3]
  clear hNew hnw3 hw2 hbew3 w2
  (try simp only [List.drop_succ_cons]); (try simp only [List.drop_zero]); (try simp only [Nat.reduceSub]); (try simp only [List.take_succ_cons]); (try simp only [List.take_zero])
  clear HA HB HPP
  obtain ⟨v0, v1, v2, v3, v4, v5, v6, v7, v8⟩ := hVb
  have hs3 := s0.call hw3
  have hbw3 : Below w.heap.size w w3 := bl_call hb00 (Nat.le_refl _) hw3
  clear hw3
  go_wp2_with fail
  go_loopw [] (fun wr => ∃ p0 p1 p2 p3 : Int, V4 wr b (.int .u64 p0) (.int .u64 p1) (.int .u64 p2) (.int .u64 p3) ∧
      (0 ≤ p0 ∧ p0 ≤ 18446744073709551615 ∧ 0 ≤ p1 ∧ p1 ≤ 18446744073709551615 ∧ 0 ≤ p2 ∧ p2 ≤ 18446744073709551615 ∧ 0 ≤ p3 ∧ p3 ≤ 18446744073709551615) ∧
      V2 wr (w.heap.size + 1 + 1) (.int .u64 0) (.int .u64 0) ∧ Below w.heap.size w wr ∧
      Hid (kI (Pm 2) (p0 + 18446744073709551616 * p1 + 340282366920938463463374607431768211456 * p2 + 6277101735386680763835789423207666416102355444464034512896 * p3) = x * y))
    (fun wr => numAt wr b)
  case atStart =>
    refine ⟨q0, q1, q2, q3, V4.set ⟨v0, v1, v2, v3, v4, v5, v6, v7, v8⟩ _ _ _ _, hqb, ?_, ?_, HX⟩
    · exact V2.setOther (V2.setOther (V2.setOther (V2.setOther hs3 (by dsimp only; omega) _) (by dsimp only; omega) _) (by dsimp only; omega) _) (by dsimp only; omega) _
    · exact by repeat (first | exact Below.refl _ _ | with_reducible assumption | (refine bl_alloc ?_ (Nat.le_refl _) _) | (refine bl_set ?_ (by dsimp only; omega) _) | (refine Below.drew ?_) | (refine bl_drewN ?_ _) | (refine bl_call ?_ (Nat.le_refl _) (by assumption)))
  case round =>
    obtain ⟨p0, p1, p2, p3, hp, hpb, hs, hbw, HN⟩ := hrel
    have hp' := hp
    obtain ⟨g0, g1, g2, g3, g4, g5, g6, g7, g8⟩ := hp'
    clear v0 v1 v2 v3 v4 v5 v6 v7 v8 hs3 hbw3 HX
    by_cases hz : p2 = 0 ∧ p3 = 0
    · obtain ⟨rfl, rfl⟩ := hz
      obtain ⟨s0, s1, s2, s3, s4⟩ := hs
      go_wp2_with (go_at_call 125; refine (wide_OfK p0 p1 _ (by omega) (by omega) (by omega) (by omega)).mono ?_; rintro e w6 ⟨rfl, hb6⟩; obtain ⟨t0, t1, t2, t3, t4⟩ := V2.call ⟨s0, s1, s2, s3, s4⟩ hb6)
      refine bodyPost_ret (results_v2 (b := w.heap.size + 1 + 1) (u := .int .u64 (lo (x * y))) (v := .int .u64 (hi (x * y))) ?_ rfl rfl) rfl ⟨rfl, by repeat (first | exact Below.refl _ _ | with_reducible assumption | (refine bl_alloc ?_ (Nat.le_refl _) _) | (refine bl_set ?_ (by dsimp only; omega) _) | (refine Below.drew ?_) | (refine bl_drewN ?_ _) | (refine bl_call ?_ (Nat.le_refl _) (by assumption)))⟩
      have e : kL 2 p0 p1 = x * y := by
        rw [← HN.out, ← kI_nI, nI2]
        congr 1
        omega
      rw [← e]
      exact V2.set ⟨t0, t1, t2, t3, t4⟩ _ _
    · have hor : p2 ≠ 0 ∨ (p2 = 0 ∧ p3 ≠ 0) := by omega
      have h1 : 1 ≤ p2 + 18446744073709551616 * p3 := by omega
      rcases hor with h | ⟨rfl, h⟩
      · have hb : (p2 != 0) = true := by simp; omega
        go_wp2_with (go_at_call 138; refine (quad_fold p0 p1 p2 p3 _ hpb).mono ?_; rintro e w6 ⟨r0, r1, r2, r3, rfl, hrb, HR, hb6⟩; obtain ⟨t0, t1, t2, t3, t4, t5, t6, t7, t8⟩ := hp.call hb6; have hs6 := hs.call hb6)
        have hv6 : V4 ((((w6.setCell ⟨b, 0, none⟩ (.int .u64 r0)).setCell ⟨b, 1, none⟩ (.int .u64 r1)).setCell ⟨b, 2, none⟩ (.int .u64 r2)).setCell ⟨b, 3, none⟩ (.int .u64 r3)) b (.int .u64 r0) (.int .u64 r1) (.int .u64 r2) (.int .u64 r3) := V4.set ⟨t0, t1, t2, t3, t4, t5, t6, t7, t8⟩ _ _ _ _
        have hfl := fold_less (p0 + 18446744073709551616 * p1) (p2 + 18446744073709551616 * p3) (p0 + 18446744073709551616 * p1 + 340282366920938463463374607431768211456 * p2 + 6277101735386680763835789423207666416102355444464034512896 * p3) (by omega) h1
        go_roundw
        case rel =>
          refine ⟨r0, r1, r2, r3, hv6, hrb, ?_, by repeat (first | exact Below.refl _ _ | with_reducible assumption | (refine bl_alloc ?_ (Nat.le_refl _) _) | (refine bl_set ?_ (by dsimp only; omega) _) | (refine Below.drew ?_) | (refine bl_drewN ?_ _) | (refine bl_call ?_ (Nat.le_refl _) (by assumption))), ?_⟩
          · exact V2.setOther (V2.setOther (V2.setOther (V2.setOther hs6 (by dsimp only; omega) _) (by dsimp only; omega) _) (by dsimp only; omega) _) (by dsimp only; omega) _
          · show _ = _
            rw [HR.out, ← HN.out]
            exact kI_congr hfl.1
        case measure =>
          rw [numAt_V4 hv6, numAt_V4 hp, HR.out]
          have h2 := hfl.2
          generalize (p2 + 18446744073709551616 * p3) * 516508834063867445247 = z at *
          omega
      · have hb : ((0 : Int) != 0) = false := rfl
        have hb' : (p3 != 0) = true := by simp; omega
        go_wp2_with (go_at_call 138; refine (quad_fold p0 p1 0 p3 _ hpb).mono ?_; rintro e w6 ⟨r0, r1, r2, r3, rfl, hrb, HR, hb6⟩; obtain ⟨t0, t1, t2, t3, t4, t5, t6, t7, t8⟩ := hp.call hb6; have hs6 := hs.call hb6)
        have hv6 : V4 ((((w6.setCell ⟨b, 0, none⟩ (.int .u64 r0)).setCell ⟨b, 1, none⟩ (.int .u64 r1)).setCell ⟨b, 2, none⟩ (.int .u64 r2)).setCell ⟨b, 3, none⟩ (.int .u64 r3)) b (.int .u64 r0) (.int .u64 r1) (.int .u64 r2) (.int .u64 r3) := V4.set ⟨t0, t1, t2, t3, t4, t5, t6, t7, t8⟩ _ _ _ _
        have hfl := fold_less (p0 + 18446744073709551616 * p1) (0 + 18446744073709551616 * p3) (p0 + 18446744073709551616 * p1 + 340282366920938463463374607431768211456 * 0 + 6277101735386680763835789423207666416102355444464034512896 * p3) (by omega) h1
        go_roundw
        case rel =>
          refine ⟨r0, r1, r2, r3, hv6, hrb, ?_, by repeat (first | exact Below.refl _ _ | with_reducible assumption | (refine bl_alloc ?_ (Nat.le_refl _) _) | (refine bl_set ?_ (by dsimp only; omega) _) | (refine Below.drew ?_) | (refine bl_drewN ?_ _) | (refine bl_call ?_ (Nat.le_refl _) (by assumption))), ?_⟩
          · exact V2.setOther (V2.setOther (V2.setOther (V2.setOther hs6 (by dsimp only; omega) _) (by dsimp only; omega) _) (by dsimp only; omega) _) (by dsimp only; omega) _
          · show _ = _
            rw [HR.out, ← HN.out]
            exact kI_congr hfl.1
        case measure =>
          rw [numAt_V4 hv6, numAt_V4 hp, HR.out]
          have h2 := hfl.2
          generalize (0 + 18446744073709551616 * p3) * 516508834063867445247 = z at *
          omega

end Go.Proofs.Ytiphahbeedeebaa

namespace Go.Proofs.Ytiphahbeedeebaa
open Go.RowKit Fm
set_option linter.unusedVariables false
set_option maxRecDepth 100000

theorem field_MulL {f : Nat} (hf : IsF f) (a0 a1 b0 b1 : Int) (w : World) (h0 : 0 ≤ a0) (h1 : a0 ≤ 18446744073709551615) (k0 : 0 ≤ a1) (k1 : a1 ≤ 18446744073709551615)
    (g0 : 0 ≤ b0) (g1 : b0 ≤ 18446744073709551615) (j0 : 0 ≤ b1) (j1 : b1 ≤ 18446744073709551615) :
    Calls Try.prog 90 #[.int .u8 f, .agg #[.int .u64 a0, .int .u64 a1], .agg #[.int .u64 b0, .int .u64 b1]] w (RetK (kL f a0 a1 * kL f b0 b1) w) := by
  rcases hf.or with rfl | rfl
  · have hz : kI (Pm 1) (a0 * b0) = kL 1 a0 a1 * kL 1 b0 b1 := by rw [kI_mul]; rfl
    show Calls Try.prog 90 #[.int .u8 1, .agg #[.int .u64 a0, .int .u64 a1], .agg #[.int .u64 b0, .int .u64 b1]] w (RetK (kL 1 a0 a1 * kL 1 b0 b1) w)
    rw [← hz]
    have hv : vK (kI (Pm 1) (a0 * b0)) = .agg #[.int .u64 (a0 * b0 % 18446744069414584321), .int .u64 0] := by
      have hp : ((Pm 1 : Nat) : Int) = 18446744069414584321 := rfl
      have h := vK_of (x := kI (Pm 1) (a0 * b0)) (z0 := a0 * b0 % 18446744069414584321) (z1 := 0) (by rw [val_kI, hp]; omega) (Int.emod_nonneg _ (by omega)) (by have := Int.emod_lt_of_pos (a0 * b0) (show (0 : Int) < 18446744069414584321 by omega); omega)
      show Value.agg #[.int .u64 (lo _), .int .u64 (hi _)] = _
      rw [h.1, h.2]
    clear hz
    go_enter Try.func90, Try.ntmps90
    go_wp2_with (go_at_call 118; refine (gold_Mul _ _ _ (by omega) (by omega) (by omega) (by omega)).mono ?_; rintro e w' ⟨rfl, rfl⟩)
    refine bodyPost_ret (by simp [results, Try.results90, go_sem]; rfl) rfl ⟨by rw [hv], by repeat (first | exact Below.refl _ _ | with_reducible assumption | (refine bl_alloc ?_ (Nat.le_refl _) _) | (refine bl_set ?_ (by dsimp only; omega) _) | (refine Below.drew ?_) | (refine bl_drewN ?_ _) | (refine bl_call ?_ (Nat.le_refl _) (by assumption)))⟩
  · have HM := Lib.hid (fun wz => wide_MulL a0 a1 b0 b1 wz h0 h1 k0 k1 g0 g1 j0 j1)
    generalize kL 2 a0 a1 * kL 2 b0 b1 = z at *
    show Calls Try.prog 90 #[.int .u8 2, .agg #[.int .u64 a0, .int .u64 a1], .agg #[.int .u64 b0, .int .u64 b1]] w (RetK z w)
    go_enter Try.func90, Try.ntmps90
    go_upto_region 1 with fail
    have q0 := ((V2.new w (.int .u64 a0) (.int .u64 a1) 41).alloc (.cells #[(.int .u64 b0), (.int .u64 b1)] 41)).alloc (.cells #[(.int .u64 0), (.int .u64 0)] 41)
    have t0 := (V2.new (w.alloc (.cells #[(.int .u64 a0), (.int .u64 a1)] 41)) (.int .u64 b0) (.int .u64 b1) 41).alloc (.cells #[(.int .u64 0), (.int .u64 0)] 41)
    have s0 := V2.new ((w.alloc (.cells #[(.int .u64 a0), (.int .u64 a1)] 41)).alloc (.cells #[(.int .u64 b0), (.int .u64 b1)] 41)) (.int .u64 0) (.int .u64 0) 41
    simp only [World.size_alloc] at t0 s0
    have hb00 : Below w.heap.size w (((w.alloc (.cells #[(.int .u64 a0), (.int .u64 a1)] 41)).alloc (.cells #[(.int .u64 b0), (.int .u64 b1)] 41)).alloc (.cells #[(.int .u64 0), (.int .u64 0)] 41)) := by repeat (first | exact Below.refl _ _ | with_reducible assumption | (refine bl_alloc ?_ (Nat.le_refl _) _))
    have hsz : w.heap.size + 3 ≤ (((w.alloc (.cells #[(.int .u64 a0), (.int .u64 a1)] 41)).alloc (.cells #[(.int .u64 b0), (.int .u64 b1)] 41)).alloc (.cells #[(.int .u64 0), (.int .u64 0)] 41)).heap.size := by simp only [World.size_alloc]; omega
    generalize (((w.alloc (.cells #[(.int .u64 a0), (.int .u64 a1)] 41)).alloc (.cells #[(.int .u64 b0), (.int .u64 b1)] 41)).alloc (.cells #[(.int .u64 0), (.int .u64 0)] 41)) = w1 at q0 t0 s0 hb00 hsz ⊢
    obtain ⟨c0, c1, c2, c3, c4⟩ := q0
    obtain ⟨d0, d1, d2, d3, d4⟩ := t0
    go_wp2_with (go_at_call 119; refine (HM.out _).mono ?_; rintro e w5 ⟨rfl, hb5⟩; obtain ⟨e0, e1, e2, e3, e4⟩ := s0.call hb5)
    refine bodyPost_ret (results_v2 (b := w.heap.size + 1 + 1) (u := .int .u64 (lo z)) (v := .int .u64 (hi z)) ?_ rfl rfl) rfl ⟨rfl, by repeat (first | exact Below.refl _ _ | with_reducible assumption | (refine bl_alloc ?_ (Nat.le_refl _) _) | (refine bl_set ?_ (by dsimp only; omega) _) | (refine Below.drew ?_) | (refine bl_drewN ?_ _) | (refine bl_call ?_ (Nat.le_refl _) (by assumption)))⟩
    exact V2.set ⟨e0, e1, e2, e3, e4⟩ _ _

theorem field_Of {f : Nat} (hf : IsF f) (n : Int) (w : World) (h0 : 0 ≤ n) (h1 : n ≤ 18446744073709551615) :
    Calls Try.prog 96 #[.int .u8 f, .int .u64 n] w (RetK (kL f n 0) w) := by
  rcases hf.or with rfl | rfl
  · have hv : vK (kL 1 n 0) = .agg #[.int .u64 (n % 18446744069414584321), .int .u64 0] := by
      have hp : ((Pm 1 : Nat) : Int) = 18446744069414584321 := rfl
      have h := vK_of (x := kL 1 n 0) (z0 := n % 18446744069414584321) (z1 := 0) (by rw [← kI_nI, val_kI, hp]; show _ = n % _; omega) (Int.emod_nonneg _ (by omega)) (by have := Int.emod_lt_of_pos n (show (0 : Int) < 18446744069414584321 by omega); omega)
      show Value.agg #[.int .u64 (lo _), .int .u64 (hi _)] = _
      rw [h.1, h.2]
    show Calls Try.prog 96 #[.int .u8 1, .int .u64 n] w (RetK (kL 1 n 0) w)
    go_enter Try.func96, Try.ntmps96
    go_wp2_with (go_at_call 122; refine (gold_Of _ _ (by omega) (by omega)).mono ?_; rintro e w' ⟨rfl, rfl⟩)
    refine bodyPost_ret (by simp [results, Try.results96, go_sem]; rfl) rfl ⟨by rw [hv], by repeat (first | exact Below.refl _ _ | with_reducible assumption | (refine bl_alloc ?_ (Nat.le_refl _) _) | (refine bl_set ?_ (by dsimp only; omega) _) | (refine Below.drew ?_) | (refine bl_drewN ?_ _) | (refine bl_call ?_ (Nat.le_refl _) (by assumption)))⟩
  · have hv : vK (kL 2 n 0) = .agg #[.int .u64 n, .int .u64 0] := by
      have h := vK_of (x := kL 2 n 0) (z0 := n) (z1 := 0) (by rw [← kI_nI, val_kI, P2_int, nI2]; omega) h0 h1
      show Value.agg #[.int .u64 (lo _), .int .u64 (hi _)] = _
      rw [h.1, h.2]
    show Calls Try.prog 96 #[.int .u8 2, .int .u64 n] w (RetK (kL 2 n 0) w)
    go_enter Try.func96, Try.ntmps96
    go_wp2
    refine bodyPost_ret (by simp [results, Try.results96, go_sem]; rfl) rfl ⟨by rw [hv], by repeat (first | exact Below.refl _ _ | with_reducible assumption | (refine bl_alloc ?_ (Nat.le_refl _) _) | (refine bl_set ?_ (by dsimp only; omega) _) | (refine Below.drew ?_) | (refine bl_drewN ?_ _) | (refine bl_call ?_ (Nat.le_refl _) (by assumption)))⟩

theorem field_One {f : Nat} (hf : IsF f) (w : World) : Calls Try.prog 53 #[.int .u8 f] w (RetK (1 : Fin (Pm f)) w) := by
  have h := fun wz => field_Of hf 1 wz (by omega) (by omega)
  rw [kL_one] at h
  have H := Lib.hid h
  clear h
  go_enter Try.func53, Try.ntmps53
  go_upto_region 1 with fail
  have s0 := V2.new w (.int .u64 0) (.int .u64 0) 41
  have hb00 : Below w.heap.size w (w.alloc (.cells #[(.int .u64 0), (.int .u64 0)] 41)) := by repeat (first | exact Below.refl _ _ | with_reducible assumption | (refine bl_alloc ?_ (Nat.le_refl _) _))
  have hsz : w.heap.size + 1 ≤ (w.alloc (.cells #[(.int .u64 0), (.int .u64 0)] 41)).heap.size := by simp only [World.size_alloc]; omega
  generalize (w.alloc (.cells #[(.int .u64 0), (.int .u64 0)] 41)) = w1 at s0 hb00 hsz ⊢
  go_wp2_with (go_at_call 96; refine (H.out _).mono ?_; rintro e w5 ⟨rfl, hb5⟩; obtain ⟨e0, e1, e2, e3, e4⟩ := s0.call hb5)
  refine bodyPost_ret (results_v2 (b := w.heap.size) (u := .int .u64 (lo (1 : Fin (Pm f)))) (v := .int .u64 (hi (1 : Fin (Pm f)))) ?_ rfl rfl) rfl ⟨rfl, by repeat (first | exact Below.refl _ _ | with_reducible assumption | (refine bl_alloc ?_ (Nat.le_refl _) _) | (refine bl_set ?_ (by dsimp only; omega) _) | (refine Below.drew ?_) | (refine bl_drewN ?_ _) | (refine bl_call ?_ (Nat.le_refl _) (by assumption)))⟩
  exact V2.set ⟨e0, e1, e2, e3, e4⟩ _ _

theorem field_NegL {f : Nat} (hf : IsF f) (a0 a1 : Int) (w : World) (h0 : 0 ≤ a0) (h1 : a0 ≤ 18446744073709551615) (k0 : 0 ≤ a1) (k1 : a1 ≤ 18446744073709551615) :
    Calls Try.prog 94 #[.int .u8 f, .agg #[.int .u64 a0, .int .u64 a1]] w (RetK (- kL f a0 a1) w) := by
  have h := fun wz => field_SubL hf 0 0 a0 a1 wz (by omega) (by omega) (by omega) (by omega) h0 h1 k0 k1
  rw [kL_zero, show (0 : Fin (Pm f)) - kL f a0 a1 = - kL f a0 a1 by grind] at h
  generalize - kL f a0 a1 = z at *
  have H := Lib.hid h
  clear h
  go_enter Try.func94, Try.ntmps94
  go_upto_region 1 with fail
  have q0 := (V2.new w (.int .u64 a0) (.int .u64 a1) 41).alloc (.cells #[(.int .u64 0), (.int .u64 0)] 41)
  have s0 := V2.new (w.alloc (.cells #[(.int .u64 a0), (.int .u64 a1)] 41)) (.int .u64 0) (.int .u64 0) 41
  simp only [World.size_alloc] at s0
  have hb00 : Below w.heap.size w ((w.alloc (.cells #[(.int .u64 a0), (.int .u64 a1)] 41)).alloc (.cells #[(.int .u64 0), (.int .u64 0)] 41)) := by repeat (first | exact Below.refl _ _ | with_reducible assumption | (refine bl_alloc ?_ (Nat.le_refl _) _))
  have hsz : w.heap.size + 2 ≤ ((w.alloc (.cells #[(.int .u64 a0), (.int .u64 a1)] 41)).alloc (.cells #[(.int .u64 0), (.int .u64 0)] 41)).heap.size := by simp only [World.size_alloc]; omega
  generalize ((w.alloc (.cells #[(.int .u64 a0), (.int .u64 a1)] 41)).alloc (.cells #[(.int .u64 0), (.int .u64 0)] 41)) = w1 at q0 s0 hb00 hsz ⊢
  obtain ⟨c0, c1, c2, c3, c4⟩ := q0
  go_wp2_with (go_at_call 82; refine (H.out _).mono ?_; rintro e w5 ⟨rfl, hb5⟩; obtain ⟨e0, e1, e2, e3, e4⟩ := s0.call hb5)
  refine bodyPost_ret (results_v2 (b := w.heap.size + 1) (u := .int .u64 (lo z)) (v := .int .u64 (hi z)) ?_ rfl rfl) rfl ⟨rfl, by repeat (first | exact Below.refl _ _ | with_reducible assumption | (refine bl_alloc ?_ (Nat.le_refl _) _) | (refine bl_set ?_ (by dsimp only; omega) _) | (refine Below.drew ?_) | (refine bl_drewN ?_ _) | (refine bl_call ?_ (Nat.le_refl _) (by assumption)))⟩
  exact V2.set ⟨e0, e1, e2, e3, e4⟩ _ _

section
variable {f : Nat} (hf : IsF f)
include hf
theorem field_MulK (x y : Fin (Pm f)) (w : World) : Calls Try.prog 90 #[.int .u8 f, vK x, vK y] w (RetK (x * y) w) := by
  have h := field_MulL hf (lo x) (hi x) (lo y) (hi y) w (lo_0 x) (lo_1 x) (hi_0 x) (hi_1 x) (lo_0 y) (lo_1 y) (hi_0 y) (hi_1 y)
  rwa [kL_lohi, kL_lohi] at h
theorem field_NegK (x : Fin (Pm f)) (w : World) : Calls Try.prog 94 #[.int .u8 f, vK x] w (RetK (-x) w) := by
  have h := field_NegL hf (lo x) (hi x) w (lo_0 x) (lo_1 x) (hi_0 x) (hi_1 x)
  rwa [kL_lohi] at h
end

end Go.Proofs.Ytiphahbeedeebaa

namespace Go.Proofs.Ytiphahbeedeebaa
open Go.RowKit Fm
set_option linter.unusedVariables false
set_option maxRecDepth 100000

def horner {f : Nat} (x : Fin (Pm f)) (p : KL f) : Fin (Pm f) := p.foldr (fun a s => s * x + a) 0

theorem horner_drop {f : Nat} (x : Fin (Pm f)) (p : KL f) (k : Nat) (a : Fin (Pm f)) (h : p[k]? = some a) : horner x (p.drop k) = horner x (p.drop (k + 1)) * x + a := by
  obtain ⟨hlt, rfl⟩ := List.getElem?_eq_some_iff.1 h
  rw [List.drop_eq_getElem_cons hlt]
  rfl

set_option maxHeartbeats 4000000 in
theorem poly_At {f : Nat} (hf : IsF f) (vp : Value) (p : KL f) (x : Fin (Pm f)) (w : World) (hp : SlK w w.heap.size vp p) (hn : p.length ≤ 1099511627776) :
    Calls Try.prog 89 #[.int .u8 f, vp, vK x] w (RetK (horner x p) w) := by
  obtain ⟨A, c, rfl, hc, hcm, hA⟩ := hp
  go_enter Try.func89, Try.ntmps89
  go_wp2
  go_loopw [8] (fun i wr => ∃ k : Nat, k ≤ p.length ∧ i = .int .i64 ((k : Int) - 1) ∧ V2 wr w.heap.size (.int .u64 (lo x)) (.int .u64 (hi x)) ∧ V2 wr (w.heap.size + 1) (.int .u64 0) (.int .u64 0) ∧
      V2 wr (w.heap.size + 1 + 1) (.int .u64 (lo (horner x (p.drop k)))) (.int .u64 (hi (horner x (p.drop k)))) ∧ Below w.heap.size w wr) (fun i _ => (intOf i + 1).toNat)
  case atStart =>
    refine ⟨p.length, Nat.le_refl _, rfl, ((V2.new w _ _ 41).alloc _).alloc _, ?_, ?_, by repeat (first | exact Below.refl _ _ | with_reducible assumption | (refine bl_alloc ?_ (Nat.le_refl _) _) | (refine bl_set ?_ (by dsimp only; omega) _) | (refine Below.drew ?_) | (refine bl_drewN ?_ _) | (refine bl_call ?_ (Nat.le_refl _) (by assumption)))⟩
    · have h := (V2.new (w.alloc (.cells #[.int .u64 (lo x), .int .u64 (hi x)] 41)) (.int .u64 0) (.int .u64 0) 41).alloc (.cells #[.int .u64 0, .int .u64 0] 41)
      simpa only [World.size_alloc] using h
    · have h := V2.new ((w.alloc (.cells #[.int .u64 (lo x), .int .u64 (hi x)] 41)).alloc (.cells #[.int .u64 0, .int .u64 0] 41)) (.int .u64 0) (.int .u64 0) 41
      rw [List.drop_length, show horner x ([] : KL f) = 0 from rfl, lo_zero, hi_zero]
      simpa only [World.size_alloc] using h
  case round =>
    obtain ⟨k, hk, rfl, hx, hz, hy, hbw⟩ := hrel
    by_cases hk0 : k = 0
    · subst hk0
      rw [List.drop_zero] at hy
      obtain ⟨y0, y1, y2, y3, y4⟩ := hy
      obtain ⟨z0, z1, z2, z3, z4⟩ := hz
      go_wp2
      refine bodyPost_ret (results_v2 (b := w.heap.size + 1) (u := .int .u64 (lo (horner x p))) (v := .int .u64 (hi (horner x p))) ?_ rfl rfl) rfl ?_
      · exact V2.set ⟨z0, z1, z2, z3, z4⟩ _ _
      · exact ⟨rfl, by repeat (first | exact Below.refl _ _ | with_reducible assumption | (refine bl_alloc ?_ (Nat.le_refl _) _) | (refine bl_set ?_ (by dsimp only; omega) _) | (refine Below.drew ?_) | (refine bl_drewN ?_ _) | (refine bl_call ?_ (Nat.le_refl _) (by assumption)))⟩
    · obtain ⟨k, rfl⟩ : ∃ j, k = j + 1 := ⟨k - 1, by omega⟩
      obtain ⟨b, o, rfl, hB, hr⟩ := hA (by omega)
      obtain ⟨y, he⟩ : ∃ e, p[k]? = some e := ⟨_, List.getElem?_eq_getElem (by omega)⟩
      obtain ⟨c0, c1⟩ := (hr.below hbw hB).kat he
      have hst := horner_drop x p k y he
      generalize horner x (p.drop (k + 1)) = s at *
      have HST := Lib.hid hst
      clear hst he hr hA
      have hyy := hy
      obtain ⟨y0, y1, y2, y3, y4⟩ := hyy
      have hxx := hx
      obtain ⟨x0, x1, x2, x3, x4⟩ := hxx
      have hkl : k < p.length := by omega
      have hbl : b < wr.heap.size := Nat.lt_of_lt_of_le hB hbw.size
      go_wp2_with fail
      refine region_B (n := 10) (m := 11) (f := 10) (by kernel_rfl) (by kernel_rfl) rfl ?_
      refine WpH.takeB (i := 0) (v := ?_) rfl (by kernel_rfl) (fun _ _ _ h => h) (.val rfl (fun wz hwz => ?_)) ?_
      rotate_left
      · go_simp; try (with_reducible rfl)
      (simp only [Act.put]); (try simp only [List.setIfInBounds_toArray]); (try simp only [List.set_cons_succ]); (try simp only [List.set_cons_zero])
      refine WpH.takeB (i := 1) (v := ?_) rfl (by kernel_rfl) (fun _ _ _ h => h) (.val rfl (fun wz hwz => ?_)) ?_
      rotate_left
      · go_simp; try (with_reducible rfl)
      (simp only [Act.put]); (try simp only [List.setIfInBounds_toArray]); (try simp only [List.set_cons_succ]); (try simp only [List.set_cons_zero])
      refine WpH.takeB (i := 2) (v := ?_) rfl (by kernel_rfl) (fun _ _ _ h => h) (.val rfl (fun wz hwz => ?_)) ?_
      rotate_left
      · (obtain ⟨hcz, hfz⟩ := bcell hwz; go_simp; try (with_reducible rfl))
      (simp only [Act.put]); (try simp only [List.setIfInBounds_toArray]); (try simp only [List.set_cons_succ]); (try simp only [List.set_cons_zero])
      refine WpH.takeB (i := 3) (v := ?_) rfl (by kernel_rfl) (fun _ _ _ h => h) (.val rfl (fun wz hwz => ?_)) ?_
      rotate_left
      · (obtain ⟨hcz, hfz⟩ := bcell hwz; go_simp; try (with_reducible rfl))
      (simp only [Act.put]); (try simp only [List.setIfInBounds_toArray]); (try simp only [List.set_cons_succ]); (try simp only [List.set_cons_zero])
      refine WpH.takeB (i := 4) rfl (by kernel_rfl) (fun _ _ _ h => h) (.call rfl (fun wz hwz => field_MulK hf s x wz) (fun wz hwz => ?_)) ?_
      · go_simp; try (with_reducible rfl)
      (simp only [Act.put]); (try simp only [List.setIfInBounds_toArray]); (try simp only [List.set_cons_succ]); (try simp only [List.set_cons_zero])
      refine WpH.takeB (i := 5) (v := ?_) rfl (by kernel_rfl) (fun _ _ _ h => h) (.val rfl (fun wz hwz => ?_)) ?_
      rotate_left
      · go_simp; try (with_reducible rfl)
      (simp only [Act.put]); (try simp only [List.setIfInBounds_toArray]); (try simp only [List.set_cons_succ]); (try simp only [List.set_cons_zero])
      refine WpH.takeB (i := 6) (v := ?_) rfl (by kernel_rfl) (fun _ _ _ h => h) (.val rfl (fun wz hwz => ?_)) ?_
      rotate_left
      · go_simp; try (with_reducible rfl)
      (simp only [Act.put]); (try simp only [List.setIfInBounds_toArray]); (try simp only [List.set_cons_succ]); (try simp only [List.set_cons_zero])
      refine WpH.takeB (i := 7) (v := ?_) rfl (by kernel_rfl) (fun _ _ _ h => h) (.val rfl (fun wz hwz => ?_)) ?_
      rotate_left
      · go_simp; try (with_reducible rfl)
      (simp only [Act.put]); (try simp only [List.setIfInBounds_toArray]); (try simp only [List.set_cons_succ]); (try simp only [List.set_cons_zero])
      refine WpH.takeB (i := 8) (v := ?_) rfl (by kernel_rfl) (fun _ _ _ h => h) (.val rfl (fun wz hwz => ?_)) ?_
      rotate_left
      · (obtain ⟨hcz, hfz⟩ := bcell hwz; go_simp; try (with_reducible rfl))
      (simp only [Act.put]); (try simp only [List.setIfInBounds_toArray]); (try simp only [List.set_cons_succ]); (try simp only [List.set_cons_zero])
      refine WpH.takeB (i := 9) rfl (by kernel_rfl) (fun _ _ _ h => h) (.call rfl (fun wz hwz => field_AddK hf (s * x) y wz) (fun wz hwz => ?_)) ?_
      · go_simp; try (with_reducible rfl)
      (simp only [Act.put]); (try simp only [List.setIfInBounds_toArray]); (try simp only [List.set_cons_succ]); (try simp only [List.set_cons_zero])
      refine WpH.doneB (by kernel_rfl) (fun w6 hw6 => ?_)
      (try simp only [List.drop_succ_cons]); (try simp only [List.drop_zero]); (try simp only [Nat.reduceSub]); (try simp only [List.take_succ_cons]); (try simp only [List.take_zero])
      obtain ⟨y0, y1, y2, y3, y4⟩ := hy.call hw6
      have hx6 := hx.call hw6
      have hz6 := hz.call hw6
      go_wp2
      go_roundw
      case rel => exact ⟨k, by omega, by go_num, hx6.setOther (by dsimp only; omega) _ |>.setOther (by dsimp only; omega) _, hz6.setOther (by dsimp only; omega) _ |>.setOther (by dsimp only; omega) _, by rw [HST.out]; exact V2.set ⟨y0, y1, y2, y3, y4⟩ _ _, by repeat (first | exact Below.refl _ _ | with_reducible assumption | (refine bl_alloc ?_ (Nat.le_refl _) _) | (refine bl_set ?_ (by dsimp only; omega) _) | (refine Below.drew ?_) | (refine bl_drewN ?_ _) | (refine bl_call ?_ (Nat.le_refl _) (by assumption)))⟩
      case measure => simp [intOf]

end Go.Proofs.Ytiphahbeedeebaa

namespace Go.Proofs.Ytiphahbeedeebaa
open Go.RowKit Fm
set_option linter.unusedVariables false
set_option maxRecDepth 100000

/-- term by term: the value of the first k coefficients, and the next power -/
def termSum {f : Nat} (x : Fin (Pm f)) (p : KL f) (k : Nat) : Fin (Pm f) := horner x (p.take k)

theorem horner_append {f : Nat} (x : Fin (Pm f)) (p : KL f) (a : Fin (Pm f)) : horner x (p ++ [a]) = horner x p + a * kpow x p.length := by
  induction p with
  | nil => simp only [horner, List.nil_append, List.foldr_cons, List.foldr_nil, List.length_nil, kpow_zero]; grind
  | cons b p ih =>
    have e1 : horner x (b :: p ++ [a]) = horner x (p ++ [a]) * x + b := rfl
    have e2 : horner x (b :: p) = horner x p * x + b := rfl
    rw [e1, e2, ih, List.length_cons, kpow_succ]
    grind

theorem horner_take {f : Nat} (x : Fin (Pm f)) (p : KL f) (k : Nat) (a : Fin (Pm f)) (h : p[k]? = some a) : horner x (p.take (k + 1)) = horner x (p.take k) + a * kpow x k := by
  obtain ⟨hlt, rfl⟩ := List.getElem?_eq_some_iff.1 h
  rw [List.take_add_one, List.getElem?_eq_getElem hlt]
  show horner x (p.take k ++ [p[k]]) = _
  rw [horner_append, List.length_take, Nat.min_eq_left (by omega)]

set_option maxHeartbeats 4000000 in
theorem ref_At {f : Nat} (hf : IsF f) (vp : Value) (p : KL f) (x : Fin (Pm f)) (w : World) (hp : SlK w w.heap.size vp p) (hn : p.length ≤ 1099511627776) :
    Calls Try.prog 91 #[.int .i64 f, vp, vK x] w (RetK (horner x p) w) := by
  obtain ⟨A, c, rfl, hc, hcm, hA⟩ := hp
  go_enter Try.func91, Try.ntmps91
  go_upto_region 1 with fail
  have hx := (V2.new w (.int .u64 (lo x)) (.int .u64 (hi x)) 41).alloc (.cells #[(.int .u64 0), (.int .u64 0)] 41)
  have hr := V2.new (w.alloc (.cells #[(.int .u64 (lo x)), (.int .u64 (hi x))] 41)) (.int .u64 0) (.int .u64 0) 41
  simp only [World.size_alloc] at hr
  have hb00 : Below w.heap.size w ((w.alloc (.cells #[(.int .u64 (lo x)), (.int .u64 (hi x))] 41)).alloc (.cells #[(.int .u64 0), (.int .u64 0)] 41)) := by repeat (first | exact Below.refl _ _ | with_reducible assumption | (refine bl_alloc ?_ (Nat.le_refl _) _))
  have hsz : w.heap.size + 2 ≤ ((w.alloc (.cells #[(.int .u64 (lo x)), (.int .u64 (hi x))] 41)).alloc (.cells #[(.int .u64 0), (.int .u64 0)] 41)).heap.size := by simp only [World.size_alloc]; omega
  generalize ((w.alloc (.cells #[(.int .u64 (lo x)), (.int .u64 (hi x))] 41)).alloc (.cells #[(.int .u64 0), (.int .u64 0)] 41)) = w1 at hx hr hb00 hsz ⊢
  go_upto_region 3 with fail
  have ho := V2.new w1 (.int .u64 0) (.int .u64 0) 41
  replace ho := ho.alloc (.cells #[.int .u64 1, .int .u64 0] 41)
  have hp := V2.new (w1.alloc (.cells #[.int .u64 0, .int .u64 0] 41)) (.int .u64 1) (.int .u64 0) 41
  replace hx := (hx.alloc (.cells #[.int .u64 0, .int .u64 0] 41)).alloc (.cells #[.int .u64 1, .int .u64 0] 41)
  replace hr := (hr.alloc (.cells #[.int .u64 0, .int .u64 0] 41)).alloc (.cells #[.int .u64 1, .int .u64 0] 41)
  replace hb00 : Below w.heap.size w ((w1.alloc (.cells #[.int .u64 0, .int .u64 0] 41)).alloc (.cells #[.int .u64 1, .int .u64 0] 41)) := by repeat (first | exact Below.refl _ _ | with_reducible assumption | (refine bl_alloc ?_ (Nat.le_refl _) _) | (refine bl_set ?_ (by dsimp only; omega) _) | (refine Below.drew ?_) | (refine bl_drewN ?_ _) | (refine bl_call ?_ (Nat.le_refl _) (by assumption)))
  rw [World.size_alloc] at hp
  generalize (w1.alloc (.cells #[.int .u64 0, .int .u64 0] 41)).alloc (.cells #[.int .u64 1, .int .u64 0] 41) = w2 at ho hp hx hr hb00 ⊢
  go_wp2_with fail
  go_loopw [9] (fun i wr => ∃ k : Nat, k ≤ p.length ∧ i = .int .i64 k ∧ V2 wr w.heap.size (.int .u64 (lo x)) (.int .u64 (hi x)) ∧ V2 wr (w.heap.size + 1) (.int .u64 0) (.int .u64 0) ∧
      V2 wr w1.heap.size (.int .u64 (lo (horner x (p.take k)))) (.int .u64 (hi (horner x (p.take k)))) ∧ V2 wr (w1.heap.size + 1) (.int .u64 (lo (kpow x k))) (.int .u64 (hi (kpow x k))) ∧ Below w.heap.size w wr) (fun i _ => p.length - (intOf i).toNat)
  case atStart =>
    refine ⟨0, Nat.zero_le _, rfl, hx, hr, ?_, ?_, by repeat (first | exact Below.refl _ _ | with_reducible assumption | (refine bl_alloc ?_ (Nat.le_refl _) _) | (refine bl_set ?_ (by dsimp only; omega) _) | (refine Below.drew ?_) | (refine bl_drewN ?_ _) | (refine bl_call ?_ (Nat.le_refl _) (by assumption)))⟩
    · rw [List.take_zero, show horner x ([] : KL f) = 0 from rfl, lo_zero, hi_zero]
      exact ho
    · rw [kpow_zero, lo_one, hi_one]
      exact hp
  case round =>
    clear hx hr ho hp hb00
    obtain ⟨k, hk, rfl, hx, hr, ho, hp, hbw⟩ := hrel
    by_cases hkl : k < p.length
    · obtain ⟨b, o, rfl, hB, hrow⟩ := hA (by omega)
      obtain ⟨y, he⟩ : ∃ e, p[k]? = some e := ⟨_, List.getElem?_eq_getElem (by omega)⟩
      obtain ⟨c0, c1⟩ := (hrow.below hbw hB).kat he
      have hbl : b < wr.heap.size := Nat.lt_of_lt_of_le hB hbw.size
      have HST := Lib.hid (horner_take x p k y he)
      have HPW := Lib.hid (kpow_succ x k)
      generalize horner x (p.take k) = s at *
      generalize kpow x k = z at *
      clear he hrow hA
      have hoo := ho
      obtain ⟨o0, o1, o2, o3, o4⟩ := hoo
      have hxx := hx
      obtain ⟨x0, x1, x2, x3, x4⟩ := hxx
      have hpp := hp
      obtain ⟨p0, p1, p2, p3, p4⟩ := hpp
      go_wp2_with fail
      refine region_B (n := 10) (m := 11) (f := 10) (by kernel_rfl) (by kernel_rfl) rfl ?_
      refine WpH.takeB (i := 0) (v := ?_) rfl (by kernel_rfl) (fun _ _ _ h => h) (.val rfl (fun wz hwz => ?_)) ?_
      rotate_left
      · go_simp; try (with_reducible rfl)
      (simp only [Act.put]); (try simp only [List.setIfInBounds_toArray]); (try simp only [List.set_cons_succ]); (try simp only [List.set_cons_zero])
      refine WpH.takeB (i := 1) (v := ?_) rfl (by kernel_rfl) (fun _ _ _ h => h) (.val rfl (fun wz hwz => ?_)) ?_
      rotate_left
      · (obtain ⟨hcz, hfz⟩ := bcell hwz; go_simp; try (with_reducible rfl))
      (simp only [Act.put]); (try simp only [List.setIfInBounds_toArray]); (try simp only [List.set_cons_succ]); (try simp only [List.set_cons_zero])
      refine WpH.takeB (i := 2) (v := ?_) rfl (by kernel_rfl) (fun _ _ _ h => h) (.val rfl (fun wz hwz => ?_)) ?_
      rotate_left
      · go_simp; try (with_reducible rfl)
      (simp only [Act.put]); (try simp only [List.setIfInBounds_toArray]); (try simp only [List.set_cons_succ]); (try simp only [List.set_cons_zero])
      refine WpH.takeB (i := 3) (v := ?_) rfl (by kernel_rfl) (fun _ _ _ h => h) (.val rfl (fun wz hwz => ?_)) ?_
      rotate_left
      · go_simp; try (with_reducible rfl)
      (simp only [Act.put]); (try simp only [List.setIfInBounds_toArray]); (try simp only [List.set_cons_succ]); (try simp only [List.set_cons_zero])
      refine WpH.takeB (i := 4) (v := ?_) rfl (by kernel_rfl) (fun _ _ _ h => h) (.val rfl (fun wz hwz => ?_)) ?_
      rotate_left
      · go_simp; try (with_reducible rfl)
      (simp only [Act.put]); (try simp only [List.setIfInBounds_toArray]); (try simp only [List.set_cons_succ]); (try simp only [List.set_cons_zero])
      refine WpH.takeB (i := 5) (v := ?_) rfl (by kernel_rfl) (fun _ _ _ h => h) (.val rfl (fun wz hwz => ?_)) ?_
      rotate_left
      · go_simp; try (with_reducible rfl)
      (simp only [Act.put]); (try simp only [List.setIfInBounds_toArray]); (try simp only [List.set_cons_succ]); (try simp only [List.set_cons_zero])
      refine WpH.takeB (i := 6) (v := ?_) rfl (by kernel_rfl) (fun _ _ _ h => h) (.val rfl (fun wz hwz => ?_)) ?_
      rotate_left
      · (obtain ⟨hcz, hfz⟩ := bcell hwz; go_simp; try (with_reducible rfl))
      (simp only [Act.put]); (try simp only [List.setIfInBounds_toArray]); (try simp only [List.set_cons_succ]); (try simp only [List.set_cons_zero])
      refine WpH.takeB (i := 7) (v := ?_) rfl (by kernel_rfl) (fun _ _ _ h => h) (.val rfl (fun wz hwz => ?_)) ?_
      rotate_left
      · (obtain ⟨hcz, hfz⟩ := bcell hwz; go_simp; try (with_reducible rfl))
      (simp only [Act.put]); (try simp only [List.setIfInBounds_toArray]); (try simp only [List.set_cons_succ]); (try simp only [List.set_cons_zero])
      refine WpH.takeB (i := 8) rfl (by kernel_rfl) (fun _ _ _ h => h) (.call rfl (fun wz hwz => ref_MulK hf y z wz) (fun wz hwz => ?_)) ?_
      · go_simp; try (with_reducible rfl)
      (simp only [Act.put]); (try simp only [List.setIfInBounds_toArray]); (try simp only [List.set_cons_succ]); (try simp only [List.set_cons_zero])
      refine WpH.takeB (i := 9) rfl (by kernel_rfl) (fun _ _ _ h => h) (.call rfl (fun wz hwz => ref_AddK hf s (y * z) wz) (fun wz hwz => ?_)) ?_
      · go_simp; try (with_reducible rfl)
      (simp only [Act.put]); (try simp only [List.setIfInBounds_toArray]); (try simp only [List.set_cons_succ]); (try simp only [List.set_cons_zero])
      refine WpH.doneB (by kernel_rfl) (fun w6 hw6 => ?_)
      (try simp only [List.drop_succ_cons]); (try simp only [List.drop_zero]); (try simp only [Nat.reduceSub]); (try simp only [List.take_succ_cons]); (try simp only [List.take_zero])
      replace ho := ho.call hw6
      replace hx := hx.call hw6
      replace hp := hp.call hw6
      replace hr := hr.call hw6
      replace hbw := bl_call hbw (Nat.le_refl _) hw6
      have hoo := ho
      clear o0 o1 o2 o3 o4 x0 x1 x2 x3 x4 p0 p1 p2 p3 p4 c0 c1 hbl
      obtain ⟨o0, o1, o2, o3, o4⟩ := hoo
      go_upto_region 7 with fail
      clear o0 o1 o2 o3 o4
      have hne : w1.heap.size ≠ w1.heap.size + 1 := by omega
      replace ho : V2 ((w6.setCell ⟨w1.heap.size, 0, none⟩ (.int .u64 (lo (s + y * z)))).setCell ⟨w1.heap.size, 1, none⟩ (.int .u64 (hi (s + y * z)))) (w1.heap.size) (.int .u64 (lo (s + y * z))) (.int .u64 (hi (s + y * z))) := V2.set ho _ _
      replace hx := V2.oth hx (b := w1.heap.size) (by omega) (.int .u64 (lo (s + y * z))) (.int .u64 (hi (s + y * z)))
      replace hp := V2.oth hp (b := w1.heap.size) (by omega) (.int .u64 (lo (s + y * z))) (.int .u64 (hi (s + y * z)))
      replace hr := V2.oth hr (b := w1.heap.size) (by omega) (.int .u64 (lo (s + y * z))) (.int .u64 (hi (s + y * z)))
      replace hbw := bl_st hbw (b := w1.heap.size) (by omega) (.int .u64 (lo (s + y * z))) (.int .u64 (hi (s + y * z)))
      generalize ((w6.setCell ⟨w1.heap.size, 0, none⟩ (.int .u64 (lo (s + y * z)))).setCell ⟨w1.heap.size, 1, none⟩ (.int .u64 (hi (s + y * z)))) = w7 at ho hx hp hr hbw ⊢
      have hxx := hx
      obtain ⟨x0, x1, x2, x3, x4⟩ := hxx
      obtain ⟨p0, p1, p2, p3, p4⟩ := hp
      go_wp2_with (go_at_call 93; refine (ref_MulK hf z x _).mono ?_; rintro e w8 ⟨rfl, hb8⟩; obtain ⟨p0, p1, p2, p3, p4⟩ := V2.call ⟨p0, p1, p2, p3, p4⟩ hb8; replace hx := hx.call hb8; replace ho := ho.call hb8; replace hr := hr.call hb8)
      go_roundw
      case rel => exact ⟨k + 1, by omega, by go_num, hx.oth (by omega) _ _, hr.oth (by omega) _ _, by rw [HST.out]; exact ho.oth (by omega) _ _, by rw [HPW.out]; exact V2.set ⟨p0, p1, p2, p3, p4⟩ _ _, by repeat (first | exact Below.refl _ _ | with_reducible assumption | (refine bl_alloc ?_ (Nat.le_refl _) _) | (refine bl_set ?_ (by dsimp only; omega) _) | (refine Below.drew ?_) | (refine bl_drewN ?_ _) | (refine bl_call ?_ (Nat.le_refl _) (by assumption)))⟩
      case measure => simp [intOf]; omega
    · obtain rfl : k = p.length := by omega
      rw [List.take_length] at ho
      obtain ⟨y0, y1, y2, y3, y4⟩ := ho
      obtain ⟨z0, z1, z2, z3, z4⟩ := hr
      go_wp2
      refine bodyPost_ret (results_v2 (b := w.heap.size + 1) (u := .int .u64 (lo (horner x p))) (v := .int .u64 (hi (horner x p))) ?_ rfl rfl) rfl ?_
      · exact V2.set ⟨z0, z1, z2, z3, z4⟩ _ _
      · exact ⟨rfl, by repeat (first | exact Below.refl _ _ | with_reducible assumption | (refine bl_alloc ?_ (Nat.le_refl _) _) | (refine bl_set ?_ (by dsimp only; omega) _) | (refine Below.drew ?_) | (refine bl_drewN ?_ _) | (refine bl_call ?_ (Nat.le_refl _) (by assumption)))⟩

end Go.Proofs.Ytiphahbeedeebaa

namespace Go.Proofs.Ytiphahbeedeebaa
open Go.RowKit Fm
set_option linter.unusedVariables false
set_option maxRecDepth 100000

inductive Gad (f : Nat) where
  | mul
  | eval (cs : KL f)
  | par (n : Nat)

namespace Gad
variable {f : Nat}
def arity : Gad f → Nat
  | mul => 2
  | eval _ => 1
  | par n => 2 * n
def degree : Gad f → Nat
  | mul => 2
  | eval cs => cs.length - 1
  | par _ => 2
end Gad

/-- of k pairs the products' sum -/
def psum {f : Nat} (l : KL f) : Nat → Fin (Pm f)
  | 0 => 0
  | k + 1 => psum l k + l.getD (2 * k) 0 * l.getD (2 * k + 1) 0

def gval {f : Nat} (g : Gad f) (l : KL f) : Fin (Pm f) :=
  match g with
  | .mul => psum l 1
  | .eval cs => horner (l.getD 0 0) cs
  | .par n => psum l n

/-- a gadget's three fields -/
def RepG {f : Nat} (w : World) (B : Nat) (k : Int) (sl : Value) (n : Int) : Gad f → Prop
  | .mul => k = 1 ∧ sl = .slice none 0 0 ∧ n = 0
  | .eval cs => k = 2 ∧ n = 0 ∧ SlK w B sl cs ∧ (∃ m y, cs.length = m + 1 ∧ cs[m]? = some y ∧ y ≠ 0 ∧ 1 ≤ m ∧ m ≤ 3)
  | .par m => k = 3 ∧ sl = .slice none 0 0 ∧ n = m ∧ 1 ≤ m ∧ m ≤ 16

theorem RepG.below {f : Nat} {w w' : World} {B : Nat} {k : Int} {sl : Value} {n : Int} {g : Gad f} (h : RepG w B k sl n g) (hb : Below B w w') : RepG w' B k sl n g := by
  cases g with
  | mul => exact h
  | eval cs => exact ⟨h.1, h.2.1, h.2.2.1.below hb, h.2.2.2⟩
  | par m => exact h
theorem RepG.mono {f : Nat} {w : World} {B B' : Nat} {k : Int} {sl : Value} {n : Int} {g : Gad f} (h : RepG w B k sl n g) (hB : B ≤ B') : RepG w B' k sl n g := by
  cases g with
  | mul => exact h
  | eval cs => exact ⟨h.1, h.2.1, h.2.2.1.mono hB, h.2.2.2⟩
  | par m => exact h
theorem RepG.later {f : Nat} {w w' : World} {k : Int} {sl : Value} {n : Int} {g : Gad f} (h : RepG w w.heap.size k sl n g) (hb : Below w.heap.size w w') : RepG w' w'.heap.size k sl n g := (h.below hb).mono hb.size

section
variable {f : Nat} (hf : IsF f)
include hf

theorem fvalid : (((f : Nat) : Int) == 1 || ((f : Nat) : Int) == 2) = true := by
  rcases hf.or with rfl | rfl <;> rfl
theorem field_ValidK (w : World) : Calls Try.prog 83 #[.int .u8 f] w fun e w' => e = .returned (.bool true) ∧ w = w' := by
  have h := field_Valid (f : Int) w
  rwa [fvalid hf] at h
theorem field_InK (x : Fin (Pm f)) (w : World) : Calls Try.prog 84 #[.int .u8 f, vK x] w fun e w' => e = .returned (.bool true) ∧ Below w.heap.size w w' := by
  have h := field_In (f : Int) _ (lo x) (hi x) w (FM.ofN hf) (lo_0 x) (lo_1 x) (hi_0 x) (hi_1 x)
  rwa [val_lohi, decide_eq_true (val_pos x).2] at h

omit hf in
theorem gadget_Arity (w : World) (B : Nat) (g : Gad f) (k : Int) (sl : Value) (n : Int) (hg : RepG w B k sl n g) :
    Calls Try.prog 28 #[.agg #[.int .u8 k, sl, .int .i64 n]] w fun e w' => e = .returned (.int .i64 (g.arity : Int)) ∧ Below w.heap.size w w' := by
  cases g with
  | mul =>
    obtain ⟨rfl, rfl, rfl⟩ := hg
    go_enter Try.func28, Try.ntmps28
    go_wp2
    go_ret
    exact ⟨rfl, by repeat (first | exact Below.refl _ _ | with_reducible assumption | (refine bl_alloc ?_ (Nat.le_refl _) _) | (refine bl_set ?_ (by dsimp only; omega) _) | (refine Below.drew ?_) | (refine bl_drewN ?_ _) | (refine bl_call ?_ (Nat.le_refl _) (by assumption)))⟩
  | eval cs =>
    obtain ⟨rfl, rfl, hs, hm⟩ := hg
    go_enter Try.func28, Try.ntmps28
    go_wp2
    go_ret
    exact ⟨rfl, by repeat (first | exact Below.refl _ _ | with_reducible assumption | (refine bl_alloc ?_ (Nat.le_refl _) _) | (refine bl_set ?_ (by dsimp only; omega) _) | (refine Below.drew ?_) | (refine bl_drewN ?_ _) | (refine bl_call ?_ (Nat.le_refl _) (by assumption)))⟩
  | par m =>
    obtain ⟨rfl, rfl, rfl, h1, h2⟩ := hg
    have hmx : max (m : Int) 0 = (m : Int) := by omega
    go_enter Try.func28, Try.ntmps28
    go_wp2
    go_ret
    exact ⟨ret_int (show 2 * (m : Int) = ((2 * m : Nat) : Int) by omega), by repeat (first | exact Below.refl _ _ | with_reducible assumption | (refine bl_alloc ?_ (Nat.le_refl _) _) | (refine bl_set ?_ (by dsimp only; omega) _) | (refine Below.drew ?_) | (refine bl_drewN ?_ _) | (refine bl_call ?_ (Nat.le_refl _) (by assumption)))⟩

omit hf in
theorem gadget_Degree (w : World) (B : Nat) (g : Gad f) (k : Int) (sl : Value) (n : Int) (hg : RepG w B k sl n g) :
    Calls Try.prog 32 #[.agg #[.int .u8 k, sl, .int .i64 n]] w fun e w' => e = .returned (.int .i64 (g.degree : Int)) ∧ Below w.heap.size w w' := by
  cases g with
  | mul =>
    obtain ⟨rfl, rfl, rfl⟩ := hg
    go_enter Try.func32, Try.ntmps32
    go_wp2
    go_ret
    exact ⟨rfl, by repeat (first | exact Below.refl _ _ | with_reducible assumption | (refine bl_alloc ?_ (Nat.le_refl _) _) | (refine bl_set ?_ (by dsimp only; omega) _) | (refine Below.drew ?_) | (refine bl_drewN ?_ _) | (refine bl_call ?_ (Nat.le_refl _) (by assumption)))⟩
  | eval cs =>
    obtain ⟨rfl, rfl, hs, m, y, hm, hy, hy0, h1, h2⟩ := hg
    obtain ⟨A, c, rfl, hc, hcm, hA⟩ := hs
    rw [show Gad.degree (.eval cs) = m by show cs.length - 1 = m; omega, hm]
    clear hA hy hm
    go_enter Try.func32, Try.ntmps32
    go_wp2
    go_ret
    exact ⟨ret_int (by omega), by repeat (first | exact Below.refl _ _ | with_reducible assumption | (refine bl_alloc ?_ (Nat.le_refl _) _) | (refine bl_set ?_ (by dsimp only; omega) _) | (refine Below.drew ?_) | (refine bl_drewN ?_ _) | (refine bl_call ?_ (Nat.le_refl _) (by assumption)))⟩
  | par m =>
    obtain ⟨rfl, rfl, rfl, h1, h2⟩ := hg
    go_enter Try.func32, Try.ntmps32
    go_wp2
    go_ret
    exact ⟨rfl, by repeat (first | exact Below.refl _ _ | with_reducible assumption | (refine bl_alloc ?_ (Nat.le_refl _) _) | (refine bl_set ?_ (by dsimp only; omega) _) | (refine Below.drew ?_) | (refine bl_drewN ?_ _) | (refine bl_call ?_ (Nat.le_refl _) (by assumption)))⟩

set_option maxHeartbeats 1000000 in
theorem gadget_Check (w : World) (g : Gad f) (k : Int) (sl : Value) (n : Int) (hg : RepG w w.heap.size k sl n g) :
    Calls Try.prog 34 #[.agg #[.int .u8 k, sl, .int .i64 n], .int .u8 f] w fun e w' => e = .returned (.int .i64 0) ∧ Below w.heap.size w w' := by
  have heq := eql_elem
  have HV := Lib.hid (field_ValidK hf)
  cases g with
  | mul =>
    obtain ⟨rfl, rfl, rfl⟩ := hg
    go_enter Try.func34, Try.ntmps34
    go_wp2_with (go_at_call 83; refine (HV.out _).mono ?_; rintro e w5 ⟨rfl, rfl⟩)
    go_ret
    exact ⟨rfl, by repeat (first | exact Below.refl _ _ | with_reducible assumption | (refine bl_alloc ?_ (Nat.le_refl _) _) | (refine bl_set ?_ (by dsimp only; omega) _) | (refine Below.drew ?_) | (refine bl_drewN ?_ _) | (refine bl_call ?_ (Nat.le_refl _) (by assumption)))⟩
  | par m =>
    obtain ⟨rfl, rfl, rfl, h1, h2⟩ := hg
    go_enter Try.func34, Try.ntmps34
    go_wp2_with (go_at_call 83; refine (HV.out _).mono ?_; rintro e w5 ⟨rfl, rfl⟩)
    go_ret
    exact ⟨rfl, by repeat (first | exact Below.refl _ _ | with_reducible assumption | (refine bl_alloc ?_ (Nat.le_refl _) _) | (refine bl_set ?_ (by dsimp only; omega) _) | (refine Below.drew ?_) | (refine bl_drewN ?_ _) | (refine bl_call ?_ (Nat.le_refl _) (by assumption)))⟩
  | eval cs =>
    obtain ⟨rfl, rfl, hs, m, y, hm, hy, hy0, h1, h2⟩ := hg
    obtain ⟨A, c, rfl, hc, hcm, hA⟩ := hs
    obtain ⟨b, o, rfl, hB, hr⟩ := hA (by omega)
    obtain ⟨c0, c1⟩ := (hr.call ((Below.refl w.heap.size w).alloc (Nat.le_refl _) (.cells #[.int .u8 2, .slice (some ⟨b, o, none⟩) cs.length c, .int .i64 0] 47))).kat hy
    have hd : (lo y == 0 && hi y == 0) = false := by rw [lohi_zero, decide_eq_false hy0]
    have hv0 := Vs.new w [.int .u8 2, .slice (some ⟨b, o, none⟩) cs.length c, .int .i64 0] #[.int .u8 2, .slice (some ⟨b, o, none⟩) cs.length c, .int .i64 0] 47 rfl
    rw [hm] at c0 c1 hv0 hc
    rw [hm]
    have HM := Lib.hid hm
    clear hm hy hA
    go_enter Try.func34, Try.ntmps34
    go_wp2_with (go_at_call 83; refine (HV.out _).mono ?_; rintro e w5 ⟨rfl, rfl⟩)
    go_loopw [41] (fun i wr => ∃ q : Nat, q ≤ m + 1 ∧ i = .int .i64 q ∧ Below w.heap.size w wr ∧ Vs wr w.heap.size [.int .u8 2, .slice (some ⟨b, o, none⟩) (m + 1) c, .int .i64 0]) (fun i _ => m + 1 - (intOf i).toNat)
    case atStart => exact ⟨0, Nat.zero_le _, rfl, by repeat (first | exact Below.refl _ _ | with_reducible assumption | (refine bl_alloc ?_ (Nat.le_refl _) _) | (refine bl_set ?_ (by dsimp only; omega) _) | (refine Below.drew ?_) | (refine bl_drewN ?_ _) | (refine bl_call ?_ (Nat.le_refl _) (by assumption))), hv0⟩
    case round =>
      obtain ⟨q, hq, rfl, hbw, hv⟩ := hrel
      clear c0 c1 hd
      by_cases hlt : q < m + 1
      · obtain ⟨x, hx⟩ : ∃ e, cs[q]? = some e := ⟨_, List.getElem?_eq_getElem (by have := HM.out; omega)⟩
        obtain ⟨c0, c1⟩ := (hr.below hbw hB).kat hx
        clear hx
        go_wp2_with (go_at_call 84; refine (field_InK hf x _).mono ?_; rintro e w6 ⟨rfl, hb6⟩; replace hv := (hv.alloc _).call hb6)
        go_roundw
        case rel => exact ⟨q + 1, by omega, by go_num, by repeat (first | exact Below.refl _ _ | with_reducible assumption | (refine bl_alloc ?_ (Nat.le_refl _) _) | (refine bl_set ?_ (by dsimp only; omega) _) | (refine Below.drew ?_) | (refine bl_drewN ?_ _) | (refine bl_call ?_ (Nat.le_refl _) (by assumption))), hv⟩
        case measure => simp [intOf]; omega
      · obtain rfl : q = m + 1 := by omega
        go_wp2
        go_ret
        exact ⟨rfl, by repeat (first | exact Below.refl _ _ | with_reducible assumption | (refine bl_alloc ?_ (Nat.le_refl _) _) | (refine bl_set ?_ (by dsimp only; omega) _) | (refine Below.drew ?_) | (refine bl_drewN ?_ _) | (refine bl_call ?_ (Nat.le_refl _) (by assumption)))⟩

/-- an element and no error come back -/
def RetKE (x : Fin (Pm f)) (w : World) (e : Ending) (w' : World) : Prop := e = .returned (.tuple #[vK x, .int .i64 0]) ∧ Below w.heap.size w w'

omit hf in
theorem psum_zero (l : KL f) : psum l 0 = 0 := rfl
omit hf in
theorem psum_succ (l : KL f) (k : Nat) (x y : Fin (Pm f)) (hx : l[2 * k]? = some x) (hy : l[2 * k + 1]? = some y) : psum l (k + 1) = psum l k + x * y := by
  show psum l k + l.getD (2 * k) 0 * l.getD (2 * k + 1) 0 = _
  rw [List.getD_eq_getElem?_getD, List.getD_eq_getElem?_getD, hx, hy]
  rfl

set_option maxHeartbeats 4000000 in
/-- behind Check and the look at how many there are: the pairs' sum -/
theorem gadget_Of_pairs (w : World) (g : Gad f) (k : Int) (n : Int) (hg : RepG w w.heap.size k (.slice none 0 0) n g) (hk : (k == 2) = false) (vl : Value) (l : KL f) (hl : SlK w w.heap.size vl l) (q : Nat) (hq : l.length = 2 * q) (ha : g.arity = 2 * q) (hq16 : q ≤ 16) (hv : gval g l = psum l q) :
    Calls Try.prog 30 #[.agg #[.int .u8 k, .slice none 0 0, .int .i64 n], .int .u8 f, vl] w (RetKE (gval g l) w) := by
  have HC := Lib.hid (fun wz (h : Below w.heap.size w wz) => gadget_Check hf wz g k _ n (hg.later h))
  have HA := Lib.hid (fun wz => gadget_Arity wz w.heap.size g k (.slice none 0 0) n)
  have hga : ∀ wz, Below w.heap.size w wz → Calls Try.prog 28 #[.agg #[.int .u8 k, .slice none 0 0, .int .i64 n]] wz fun e w' => e = .returned (.int .i64 ((2 * q : Nat) : Int)) ∧ Below wz.heap.size wz w' := by
    intro wz hb
    have h := gadget_Arity wz w.heap.size g k (.slice none 0 0) n (hg.below hb)
    rwa [ha] at h
  have HAA := Lib.hid hga
  clear hga HA
  rw [hv]
  obtain ⟨A, c, rfl, hc, hcm, hA⟩ := hl
  rw [hq] at hc
  rw [hq]
  have HQ := Lib.hid hq
  clear hq ha hv hg
  go_enter Try.func30, Try.ntmps30
  go_upto_region 1 with fail
  have hx := Vs.new w [.int .u8 k, .slice none 0 0, .int .i64 n] #[.int .u8 k, .slice none 0 0, .int .i64 n] 47 rfl
  replace hx := hx.alloc (.cells #[.int .u64 0, .int .u64 0] 41)
  have hr := V2.new (w.alloc (.cells #[.int .u8 k, .slice none 0 0, .int .i64 n] 47)) (.int .u64 0) (.int .u64 0) 41
  rw [World.size_alloc] at hr
  have hb00 : Below w.heap.size w ((w.alloc (.cells #[.int .u8 k, .slice none 0 0, .int .i64 n] 47)).alloc (.cells #[.int .u64 0, .int .u64 0] 41)) := by repeat (first | exact Below.refl _ _ | with_reducible assumption | (refine bl_alloc ?_ (Nat.le_refl _) _) | (refine bl_set ?_ (by dsimp only; omega) _) | (refine Below.drew ?_) | (refine bl_drewN ?_ _) | (refine bl_call ?_ (Nat.le_refl _) (by assumption)))
  generalize (w.alloc (.cells #[.int .u8 k, .slice none 0 0, .int .i64 n] 47)).alloc (.cells #[.int .u64 0, .int .u64 0] 41) = w1 at hx hr hb00 ⊢
  obtain ⟨c0, c1, c2, c3, c4, c5, c6⟩ := hx.get3
  go_upto_region 8 with (first
    | (go_at_call 34; refine (HC.out _ hb00).mono ?_; rintro e w2 ⟨rfl, hb2⟩; replace hx := hx.call hb2; replace hr := hr.call hb2; replace hb00 := bl_call hb00 (Nat.le_refl _) hb2; obtain ⟨c0, c1, c2, c3, c4, c5, c6⟩ := hx.get3)
    | (go_at_call 28; refine (HAA.out _ hb00).mono ?_; rintro e w3 ⟨rfl, hb3⟩; replace hx := hx.call hb3; replace hr := hr.call hb3; replace hb00 := bl_call hb00 (Nat.le_refl _) hb3; obtain ⟨c0, c1, c2, c3, c4, c5, c6⟩ := hx.get3))
  have hz3 := hr.lt
  go_wp2_with fail
  go_loopw [10] (fun i wr => ∃ j : Nat, j ≤ q ∧ i = .int .i64 ((2 * j : Nat) : Int) ∧ V2 wr (w.heap.size + 1) (.int .u64 0) (.int .u64 0) ∧ V2 wr w3.heap.size (.int .u64 (lo (psum l j))) (.int .u64 (hi (psum l j))) ∧ Below w.heap.size w wr) (fun i _ => (2 * q + 1) - (intOf i).toNat)
  case atStart =>
    refine ⟨0, Nat.zero_le _, rfl, hr.alloc _, ?_, by repeat (first | exact Below.refl _ _ | with_reducible assumption | (refine bl_alloc ?_ (Nat.le_refl _) _) | (refine bl_set ?_ (by dsimp only; omega) _) | (refine Below.drew ?_) | (refine bl_drewN ?_ _) | (refine bl_call ?_ (Nat.le_refl _) (by assumption)))⟩
    rw [psum_zero, lo_zero, hi_zero]
    exact V2.new _ _ _ _
  case round =>
    clear hx hr hb00 c0 c1 c2 c3 c4 c5 c6 HC HAA
    obtain ⟨j, hj, rfl, hr, ho, hbw⟩ := hrel
    by_cases hlt : j < q
    · obtain ⟨b, o, rfl, hB, hrow⟩ := hA (by have := HQ.out; omega)
      obtain ⟨x, hx⟩ : ∃ e, l[2 * j]? = some e := ⟨_, List.getElem?_eq_getElem (by have := HQ.out; omega)⟩
      obtain ⟨y, hy⟩ : ∃ e, l[2 * j + 1]? = some e := ⟨_, List.getElem?_eq_getElem (by have := HQ.out; omega)⟩
      obtain ⟨c0, c1⟩ := (hrow.below hbw hB).kat hx
      obtain ⟨d0, d1⟩ := (hrow.below hbw hB).kat hy
      have hbl : b < wr.heap.size := Nat.lt_of_lt_of_le hB hbw.size
      have HST := Lib.hid (psum_succ l j x y hx hy)
      generalize psum l j = s at *
      have hj1 : 2 * j < 2 * q := by omega
      have hj2 : 2 * j + 1 < 2 * q := by omega
      have hj3 : 2 * j + 2 ≤ 2 * q := by omega
      generalize hjj : 2 * j = jj at *
      have HJJ := Lib.hid hjj
      generalize hqq : 2 * q = qq at *
      have HQQ := Lib.hid hqq
      have hqq32 : qq ≤ 32 := by omega
      clear hjj hqq hx hy hrow hA
      have hj4 : 0 ≤ (jj : Int) + 1 := by omega
      have hj5 : (jj : Int) + 1 < (qq : Int) := by omega
      have hw1 : IntKind.i64.wrap ((jj : Int) + 1) = (jj : Int) + 1 := IntWalk.i64_in _ (by omega)
      have hoo := ho
      obtain ⟨o0, o1, o2, o3, o4⟩ := hoo
      go_wp2_with fail
      refine region_B (n := 14) (m := 15) (f := 14) (by kernel_rfl) (by kernel_rfl) rfl ?_
      refine WpH.takeB (i := 0) (v := ?_) rfl (by kernel_rfl) (fun _ _ _ h => h) (.val rfl (fun wz hwz => ?_)) ?_
      rotate_left
      · go_simp; try (with_reducible rfl)
      (simp only [Act.put]); (try simp only [List.setIfInBounds_toArray]); (try simp only [List.set_cons_succ]); (try simp only [List.set_cons_zero])
      refine WpH.takeB (i := 1) (v := ?_) rfl (by kernel_rfl) (fun _ _ _ h => h) (.val rfl (fun wz hwz => ?_)) ?_
      rotate_left
      · (obtain ⟨hcz, hfz⟩ := bcell hwz; go_simp; try (with_reducible rfl))
      (simp only [Act.put]); (try simp only [List.setIfInBounds_toArray]); (try simp only [List.set_cons_succ]); (try simp only [List.set_cons_zero])
      refine WpH.takeB (i := 2) (v := ?_) rfl (by kernel_rfl) (fun _ _ _ h => h) (.val rfl (fun wz hwz => ?_)) ?_
      rotate_left
      · go_simp; try (with_reducible rfl)
      (simp only [Act.put]); (try simp only [List.setIfInBounds_toArray]); (try simp only [List.set_cons_succ]); (try simp only [List.set_cons_zero])
      refine WpH.takeB (i := 3) (v := ?_) rfl (by kernel_rfl) (fun _ _ _ h => h) (.val rfl (fun wz hwz => ?_)) ?_
      rotate_left
      · go_simp; try (with_reducible rfl)
      (simp only [Act.put]); (try simp only [List.setIfInBounds_toArray]); (try simp only [List.set_cons_succ]); (try simp only [List.set_cons_zero])
      refine WpH.takeB (i := 4) (v := ?_) rfl (by kernel_rfl) (fun _ _ _ h => h) (.val rfl (fun wz hwz => ?_)) ?_
      rotate_left
      · go_simp; try (with_reducible rfl)
      (simp only [Act.put]); (try simp only [List.setIfInBounds_toArray]); (try simp only [List.set_cons_succ]); (try simp only [List.set_cons_zero])
      refine WpH.takeB (i := 5) (v := ?_) rfl (by kernel_rfl) (fun _ _ _ h => h) (.val rfl (fun wz hwz => ?_)) ?_
      rotate_left
      · go_simp; try (with_reducible rfl)
      (simp only [Act.put]); (try simp only [List.setIfInBounds_toArray]); (try simp only [List.set_cons_succ]); (try simp only [List.set_cons_zero])
      refine WpH.takeB (i := 6) (v := ?_) rfl (by kernel_rfl) (fun _ _ _ h => h) (.val rfl (fun wz hwz => ?_)) ?_
      rotate_left
      · (obtain ⟨hcz, hfz⟩ := bcell hwz; go_simp; try (with_reducible rfl))
      (simp only [Act.put]); (try simp only [List.setIfInBounds_toArray]); (try simp only [List.set_cons_succ]); (try simp only [List.set_cons_zero])
      refine WpH.takeB (i := 7) (v := ?_) rfl (by kernel_rfl) (fun _ _ _ h => h) (.val rfl (fun wz hwz => ?_)) ?_
      rotate_left
      · go_simp; try (with_reducible rfl)
      (simp only [Act.put]); (try simp only [List.setIfInBounds_toArray]); (try simp only [List.set_cons_succ]); (try simp only [List.set_cons_zero])
      refine WpH.takeB (i := 8) (v := ?_) rfl (by kernel_rfl) (fun _ _ _ h => h) (.val rfl (fun wz hwz => ?_)) ?_
      rotate_left
      · go_simp; try (with_reducible rfl)
      (simp only [Act.put]); (try simp only [List.setIfInBounds_toArray]); (try simp only [List.set_cons_succ]); (try simp only [List.set_cons_zero])
      refine WpH.takeB (i := 9) (v := ?_) rfl (by kernel_rfl) (fun _ _ _ h => h) (.val rfl (fun wz hwz => ?_)) ?_
      rotate_left
      · go_simp; try (with_reducible rfl)
      (simp only [Act.put]); (try simp only [List.setIfInBounds_toArray]); (try simp only [List.set_cons_succ]); (try simp only [List.set_cons_zero])
      refine WpH.takeB (i := 10) (v := ?_) rfl (by kernel_rfl) (fun _ _ _ h => h) (.val rfl (fun wz hwz => ?_)) ?_
      rotate_left
      · go_simp; try (with_reducible rfl)
      (simp only [Act.put]); (try simp only [List.setIfInBounds_toArray]); (try simp only [List.set_cons_succ]); (try simp only [List.set_cons_zero])
      refine WpH.takeB (i := 11) (v := ?_) rfl (by kernel_rfl) (fun _ _ _ h => h) (.val rfl (fun wz hwz => ?_)) ?_
      rotate_left
      · (obtain ⟨hcz, hfz⟩ := bcell hwz; go_simp; try (with_reducible rfl))
      (simp only [Act.put]); (try simp only [List.setIfInBounds_toArray]); (try simp only [List.set_cons_succ]); (try simp only [List.set_cons_zero])
      refine WpH.takeB (i := 12) rfl (by kernel_rfl) (fun _ _ _ h => h) (.call rfl (fun wz hwz => field_MulK hf x y wz) (fun wz hwz => ?_)) ?_
      · go_simp; try (with_reducible rfl)
      (simp only [Act.put]); (try simp only [List.setIfInBounds_toArray]); (try simp only [List.set_cons_succ]); (try simp only [List.set_cons_zero])
      refine WpH.takeB (i := 13) rfl (by kernel_rfl) (fun _ _ _ h => h) (.call rfl (fun wz hwz => field_AddK hf s (x * y) wz) (fun wz hwz => ?_)) ?_
      · go_simp; try (with_reducible rfl)
      (simp only [Act.put]); (try simp only [List.setIfInBounds_toArray]); (try simp only [List.set_cons_succ]); (try simp only [List.set_cons_zero])
      refine WpH.doneB (by kernel_rfl) (fun w6 hw6 => ?_)
      (try simp only [List.drop_succ_cons]); (try simp only [List.drop_zero]); (try simp only [Nat.reduceSub]); (try simp only [List.take_succ_cons]); (try simp only [List.take_zero])
      replace ho := ho.call hw6
      replace hr := hr.call hw6
      obtain ⟨o0, o1, o2, o3, o4⟩ := ho
      clear hj4 hj5 hw1
      go_wp2_with fail
      go_roundw
      case rel => exact ⟨j + 1, by omega, by have := HJJ.out; have := HQQ.out; rw [show 2 * (j + 1) = jj + 2 by omega]; go_num, hr.oth (by omega) _ _, by rw [HST.out]; exact V2.set ⟨o0, o1, o2, o3, o4⟩ _ _, by repeat (first | exact Below.refl _ _ | with_reducible assumption | (refine bl_alloc ?_ (Nat.le_refl _) _) | (refine bl_set ?_ (by dsimp only; omega) _) | (refine Below.drew ?_) | (refine bl_drewN ?_ _) | (refine bl_call ?_ (Nat.le_refl _) (by assumption)))⟩
      case measure => simp [intOf]; omega
    · obtain rfl : j = q := by omega
      obtain ⟨y0, y1, y2, y3, y4⟩ := ho
      obtain ⟨z0, z1, z2, z3, z4⟩ := hr
      go_wp2
      refine bodyPost_ret (results_v2_tmp (b := w.heap.size + 1) (u := .int .u64 (lo (psum l j))) (v := .int .u64 (hi (psum l j))) ?_ rfl rfl) rfl ?_
      · exact V2.set ⟨z0, z1, z2, z3, z4⟩ _ _
      · exact ⟨rfl, by repeat (first | exact Below.refl _ _ | with_reducible assumption | (refine bl_alloc ?_ (Nat.le_refl _) _) | (refine bl_set ?_ (by dsimp only; omega) _) | (refine Below.drew ?_) | (refine bl_drewN ?_ _) | (refine bl_call ?_ (Nat.le_refl _) (by assumption)))⟩

set_option maxHeartbeats 4000000 in
theorem gadget_Of (w : World) (g : Gad f) (k : Int) (sl : Value) (n : Int) (hg : RepG w w.heap.size k sl n g) (vl : Value) (l : KL f) (hl : SlK w w.heap.size vl l) (hq : l.length = g.arity) :
    Calls Try.prog 30 #[.agg #[.int .u8 k, sl, .int .i64 n], .int .u8 f, vl] w (RetKE (gval g l) w) := by
  cases g with
  | mul =>
    have hg' := hg
    obtain ⟨rfl, rfl, rfl⟩ := hg
    exact gadget_Of_pairs hf w .mul 1 0 hg' rfl vl l hl 1 hq rfl (by omega) rfl
  | par m =>
    have hg' := hg
    obtain ⟨rfl, rfl, rfl, h1, h2⟩ := hg
    exact gadget_Of_pairs hf w (.par m) 3 m hg' rfl vl l hl m hq rfl h2 rfl
  | eval cs =>
    have HC := Lib.hid (fun wz (h : Below w.heap.size w wz) => gadget_Check hf wz (.eval cs) k _ n (hg.later h))
    have hga : ∀ wz, Below w.heap.size w wz → Calls Try.prog 28 #[.agg #[.int .u8 k, sl, .int .i64 n]] wz fun e w' => e = .returned (.int .i64 1) ∧ Below wz.heap.size wz w' := by
      intro wz hb
      exact gadget_Arity wz w.heap.size (.eval cs) k sl n (hg.below hb)
    have HAA := Lib.hid hga
    clear hga
    obtain ⟨rfl, rfl, hs, m, y, hm, hy, hy0, h1, h2⟩ := hg
    have hq1 : l.length = 1 := hq
    obtain ⟨A, c, rfl, hc, hcm, hA⟩ := hl
    obtain ⟨b, o, rfl, hB, hrow⟩ := hA (by omega)
    obtain ⟨x, hx⟩ : ∃ e, l[0]? = some e := ⟨_, List.getElem?_eq_getElem (by omega)⟩
    obtain ⟨c0, c1⟩ := hrow.kat hx
    rw [Nat.zero_mul, Nat.add_zero] at c0 c1
    have hgv : gval (.eval cs) l = horner x cs := by
      show horner (l.getD 0 0) cs = _
      rw [List.getD_eq_getElem?_getD, hx]
      rfl
    rw [hgv, hq1]
    rw [hq1] at hc
    have HP := Lib.hid (fun wz (h : Below w.heap.size w wz) => poly_At hf _ cs x wz (hs.later h) (by omega))
    have hs' := hs
    obtain ⟨A', c', rfl, hc', hcm', hA'⟩ := hs
    clear hA hA' hx hq hq1 hgv hy hm hrow
    go_enter Try.func30, Try.ntmps30
    go_upto_region 1 with fail
    have hx := Vs.new w [.int .u8 2, .slice A' cs.length c', .int .i64 0] #[.int .u8 2, .slice A' cs.length c', .int .i64 0] 47 rfl
    replace hx := hx.alloc (.cells #[.int .u64 0, .int .u64 0] 41)
    have hr := V2.new (w.alloc (.cells #[.int .u8 2, .slice A' cs.length c', .int .i64 0] 47)) (.int .u64 0) (.int .u64 0) 41
    rw [World.size_alloc] at hr
    have hb00 : Below w.heap.size w ((w.alloc (.cells #[.int .u8 2, .slice A' cs.length c', .int .i64 0] 47)).alloc (.cells #[.int .u64 0, .int .u64 0] 41)) := by repeat (first | exact Below.refl _ _ | with_reducible assumption | (refine bl_alloc ?_ (Nat.le_refl _) _) | (refine bl_set ?_ (by dsimp only; omega) _) | (refine Below.drew ?_) | (refine bl_drewN ?_ _) | (refine bl_call ?_ (Nat.le_refl _) (by assumption)))
    generalize (w.alloc (.cells #[.int .u8 2, .slice A' cs.length c', .int .i64 0] 47)).alloc (.cells #[.int .u64 0, .int .u64 0] 41) = w1 at hx hr hb00 ⊢
    obtain ⟨a0, a1, a2, a3, a4, a5, a6⟩ := hx.get3
    go_upto_region 7 with (first
      | (go_at_call 34; refine (HC.out _ hb00).mono ?_; rintro e w2 ⟨rfl, hb2⟩; replace hx := hx.call hb2; replace hr := hr.call hb2; replace hb00 := bl_call hb00 (Nat.le_refl _) hb2; obtain ⟨a0, a1, a2, a3, a4, a5, a6⟩ := hx.get3)
      | (go_at_call 28; refine (HAA.out _ hb00).mono ?_; rintro e w3 ⟨rfl, hb3⟩; replace hx := hx.call hb3; replace hr := hr.call hb3; replace hb00 := bl_call hb00 (Nat.le_refl _) hb3; obtain ⟨a0, a1, a2, a3, a4, a5, a6⟩ := hx.get3))
    obtain ⟨hcb, hfb⟩ := bcell hb00
    have d0 := (hcb b o hB).trans c0
    have d1 := (hcb b (o + 1) hB).trans c1
    have hbl : b < w3.heap.size := Nat.lt_of_lt_of_le hB hb00.size
    clear hcb hfb c0 c1
    refine region_B (n := 7) (m := 9) (f := 7) (by kernel_rfl) (by kernel_rfl) rfl ?_
    refine WpH.takeB (i := 0) (v := ?_) rfl (by kernel_rfl) (fun _ _ _ h => h) (.val rfl (fun wz hwz => ?_)) ?_
    rotate_left
    · go_simp; try (with_reducible rfl)
    (simp only [Act.put]); (try simp only [List.setIfInBounds_toArray]); (try simp only [List.set_cons_succ]); (try simp only [List.set_cons_zero])
    refine WpH.takeB (i := 1) (v := ?_) rfl (by kernel_rfl) (fun _ _ _ h => h) (.val rfl (fun wz hwz => ?_)) ?_
    rotate_left
    · go_simp; try (with_reducible rfl)
    (simp only [Act.put]); (try simp only [List.setIfInBounds_toArray]); (try simp only [List.set_cons_succ]); (try simp only [List.set_cons_zero])
    refine WpH.takeB (i := 2) (v := ?_) rfl (by kernel_rfl) (fun _ _ _ h => h) (.val rfl (fun wz hwz => ?_)) ?_
    rotate_left
    · (obtain ⟨hcz, hfz⟩ := bcell hwz; go_simp; try (with_reducible rfl))
    (simp only [Act.put]); (try simp only [List.setIfInBounds_toArray]); (try simp only [List.set_cons_succ]); (try simp only [List.set_cons_zero])
    refine WpH.takeB (i := 3) (v := ?_) rfl (by kernel_rfl) (fun _ _ _ h => h) (.val rfl (fun wz hwz => ?_)) ?_
    rotate_left
    · go_simp; try (with_reducible rfl)
    (simp only [Act.put]); (try simp only [List.setIfInBounds_toArray]); (try simp only [List.set_cons_succ]); (try simp only [List.set_cons_zero])
    refine WpH.takeB (i := 4) (v := ?_) rfl (by kernel_rfl) (fun _ _ _ h => h) (.val rfl (fun wz hwz => ?_)) ?_
    rotate_left
    · go_simp; try (with_reducible rfl)
    (simp only [Act.put]); (try simp only [List.setIfInBounds_toArray]); (try simp only [List.set_cons_succ]); (try simp only [List.set_cons_zero])
    refine WpH.takeB (i := 5) (v := ?_) rfl (by kernel_rfl) (fun _ _ _ h => h) (.val rfl (fun wz hwz => ?_)) ?_
    rotate_left
    · (obtain ⟨hcz, hfz⟩ := bcell hwz; go_simp; try (with_reducible rfl))
    (simp only [Act.put]); (try simp only [List.setIfInBounds_toArray]); (try simp only [List.set_cons_succ]); (try simp only [List.set_cons_zero])
    refine WpH.takeB (i := 6) rfl (by kernel_rfl) (fun _ _ _ h => h) (.call rfl (fun wz hwz => HP.out wz (hb00.trans (hwz.mono hb00.size))) (fun wz hwz => ?_)) ?_
    · go_simp; try (with_reducible rfl)
    (simp only [Act.put]); (try simp only [List.setIfInBounds_toArray]); (try simp only [List.set_cons_succ]); (try simp only [List.set_cons_zero])
    refine WpH.doneB (by kernel_rfl) (fun w6 hw6 => ?_)
    (try simp only [List.drop_succ_cons]); (try simp only [List.drop_zero]); (try simp only [Nat.reduceSub]); (try simp only [List.take_succ_cons]); (try simp only [List.take_zero])
    obtain ⟨o0, o1, o2, o3, o4⟩ := hr.call hw6
    go_wp2_with fail
    refine bodyPost_ret (results_v2_tmp (b := w.heap.size + 1) (u := .int .u64 (lo (horner x cs))) (v := .int .u64 (hi (horner x cs))) ?_ rfl rfl) rfl ?_
    · exact V2.set ⟨o0, o1, o2, o3, o4⟩ _ _
    · exact ⟨rfl, by repeat (first | exact Below.refl _ _ | with_reducible assumption | (refine bl_alloc ?_ (Nat.le_refl _) _) | (refine bl_set ?_ (by dsimp only; omega) _) | (refine Below.drew ?_) | (refine bl_drewN ?_ _) | (refine bl_call ?_ (Nat.le_refl _) (by assumption)))⟩

end

end Go.Proofs.Ytiphahbeedeebaa
