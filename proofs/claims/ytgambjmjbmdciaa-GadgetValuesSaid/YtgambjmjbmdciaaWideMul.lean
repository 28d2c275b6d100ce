/-
  WALK: wide.Mul; a number of 256 bits by its limbs.
-/
import Derived.Test.YtgambjmjbmdciaaFold
import Derived.Test.YtgambjmjbmdciaaKit
namespace Go.Proofs.Ytgambjmjbmdciaa
open Go.RowKit Fm
set_option linter.unusedVariables false
set_option maxRecDepth 100000



theorem P2_int : ((Pm 2 : Nat) : Int) = 340282366920938462946865773367900766209 := rfl
theorem nI2 (a0 a1 : Int) : nI ((2 : Nat) : Int) a0 a1 = a0 + 18446744073709551616 * a1 := by unfold nI; rw [if_neg (by omega)]

theorem wide_OfK (a0 a1 : Int) (w : World) (h0 : 0 ≤ a0) (h1 : a0 ≤ 18446744073709551615) (k0 : 0 ≤ a1) (k1 : a1 ≤ 18446744073709551615) :
    Calls Try.prog 156 #[.agg #[.int .u64 a0, .int .u64 a1]] w (RetK (kL 2 a0 a1) w) := by
  refine (Of_any a0 a1 w h0 h1 k0 k1).mono fun e w' h => ?_
  rw [← P2_int] at h
  exact h.toK (by rw [← nI2, kI_nI])

/-- the four limbs of a number of 256 bits -/
structure Limbs (n q0 q1 q2 q3 : Int) : Prop where
  b : 0 ≤ q0 ∧ q0 ≤ 18446744073709551615 ∧ 0 ≤ q1 ∧ q1 ≤ 18446744073709551615 ∧ 0 ≤ q2 ∧ q2 ≤ 18446744073709551615 ∧ 0 ≤ q3 ∧ q3 ≤ 18446744073709551615
  sum : q0 + 18446744073709551616 * q1 + 340282366920938463463374607431768211456 * q2 + 6277101735386680763835789423207666416102355444464034512896 * q3 = n

theorem limbs_of (n : Int) (h0 : 0 ≤ n) (h1 : n < 115792089237316195423570985008687907853269984665640564039457584007913129639936) : ∃ q0 q1 q2 q3, Limbs n q0 q1 q2 q3 :=
  ⟨n % 18446744073709551616, n / 18446744073709551616 % 18446744073709551616, n / 340282366920938463463374607431768211456 % 18446744073709551616, n / 6277101735386680763835789423207666416102355444464034512896, by omega, by omega⟩

theorem Limbs.uniq {n q0 q1 q2 q3 p0 p1 p2 p3 : Int} (h : Limbs n q0 q1 q2 q3) (h' : Limbs n p0 p1 p2 p3) : q0 = p0 ∧ q1 = p1 ∧ q2 = p2 ∧ q3 = p3 := by
  obtain ⟨b, s⟩ := h
  obtain ⟨b', s'⟩ := h'
  omega

theorem RetQ.det {n : Int} {w : World} {q0 q1 q2 q3 : Int} (hl : Limbs n q0 q1 q2 q3) {e : Ending} {w' : World} (h : RetQ n w e w') : e = .returned (.agg #[.int .u64 q0, .int .u64 q1, .int .u64 q2, .int .u64 q3]) ∧ Below w.heap.size w w' := by
  obtain ⟨p0, p1, p2, p3, rfl, hb, HN, hbw⟩ := h
  obtain ⟨rfl, rfl, rfl, rfl⟩ := hl.uniq ⟨hb, HN.out⟩
  exact ⟨rfl, hbw⟩

/-- one fold: the same number modulo P, and less -/
theorem fold_less (l h n : Int) (hn : n = l + 340282366920938463463374607431768211456 * h) (h1 : 1 ≤ h) :
    (l + h * 516508834063867445247) % 340282366920938462946865773367900766209 = n % 340282366920938462946865773367900766209 ∧ l + h * 516508834063867445247 < n := by
  constructor
  · rw [show n = l + h * 516508834063867445247 + 340282366920938462946865773367900766209 * h from by omega, Int.add_mul_emod_self_left]
  · omega

/-- a new variable of four limbs -/
def NewQ (B : Nat) (v : Value) (w : World) : Prop := ∃ b, v = .pointer (some ⟨b, 0, none⟩) ∧ B ≤ b ∧ V4 w b (.int .u64 0) (.int .u64 0) (.int .u64 0) (.int .u64 0)
theorem newQ_stable (B : Nat) : ∀ v w w', NewQ B v w → Below w.heap.size w w' → NewQ B v w' := fun _ _ _ ⟨b, h1, h2, h3⟩ hb => ⟨b, h1, h2, h3.call hb⟩

/-- the number in a variable of four limbs -/
def numAt (w : World) (b : Nat) : Nat := ((intOf ((w.cell? ⟨b, 0, none⟩).getD undef)) + 18446744073709551616 * (intOf ((w.cell? ⟨b, 1, none⟩).getD undef)) + 340282366920938463463374607431768211456 * (intOf ((w.cell? ⟨b, 2, none⟩).getD undef)) + 6277101735386680763835789423207666416102355444464034512896 * (intOf ((w.cell? ⟨b, 3, none⟩).getD undef))).toNat
theorem numAt_V4 {w : World} {b : Nat} {q0 q1 q2 q3 : Int} (h : V4 w b (.int .u64 q0) (.int .u64 q1) (.int .u64 q2) (.int .u64 q3)) :
    numAt w b = (q0 + 18446744073709551616 * q1 + 340282366920938463463374607431768211456 * q2 + 6277101735386680763835789423207666416102355444464034512896 * q3).toNat := by
  unfold numAt
  rw [h.c0, h.c1, h.c2, h.c3]
  rfl

theorem mul_bound (x y : Fin (Pm 2)) : 0 ≤ ((x.val : Nat) : Int) * ((y.val : Nat) : Int) ∧ ((x.val : Nat) : Int) * ((y.val : Nat) : Int) < 115792089237316195423570985008687907853269984665640564039457584007913129639936 := by
  have hx := x.isLt
  have hy := y.isLt
  have h2 := Pm_lt 2
  refine ⟨Int.mul_nonneg (by omega) (by omega), ?_⟩
  have h := Int.mul_le_mul (show ((x.val : Nat) : Int) ≤ 340282366920938463463374607431768211455 by omega) (show ((y.val : Nat) : Int) ≤ 340282366920938463463374607431768211455 by omega) (by omega) (by omega)
  exact Int.lt_of_le_of_lt h (by decide)

theorem val_lohi2 (x : Fin (Pm 2)) : lo x + 18446744073709551616 * hi x = ((x.val : Nat) : Int) := by
  have hx := x.isLt
  have h2 := Pm_lt 2
  unfold lo hi eK eN
  dsimp only
  omega

theorem ret_if {a b : Prop} (h : a → b) (ha : a) : b := h ha

set_option maxHeartbeats 4000000 in
theorem wide_MulL (a0 a1 b0 b1 : Int) (w : World) (h0 : 0 ≤ a0) (h1 : a0 ≤ 18446744073709551615) (k0 : 0 ≤ a1) (k1 : a1 ≤ 18446744073709551615)
    (g0 : 0 ≤ b0) (g1 : b0 ≤ 18446744073709551615) (j0 : 0 ≤ b1) (j1 : b1 ≤ 18446744073709551615) :
    Calls Try.prog 150 #[.agg #[.int .u64 a0, .int .u64 a1], .agg #[.int .u64 b0, .int .u64 b1]] w (RetK (kL 2 a0 a1 * kL 2 b0 b1) w) := by
  have hOa := fun wz => wide_OfK a0 a1 wz h0 h1 k0 k1
  have hOb := fun wz => wide_OfK b0 b1 wz g0 g1 j0 j1
  generalize kL 2 a0 a1 = x at *
  generalize kL 2 b0 b1 = y at *
  obtain ⟨q0, q1, q2, q3, hlq⟩ := limbs_of (((x.val : Nat) : Int) * ((y.val : Nat) : Int)) (mul_bound x y).1 (mul_bound x y).2
  have HP : ∀ wz, Calls Try.prog 175 #[vK x, vK y] wz (fun e w' => e = .returned (.agg #[.int .u64 q0, .int .u64 q1, .int .u64 q2, .int .u64 q3]) ∧ Below wz.heap.size wz w') := by
    intro wz
    have h := wide_product (lo x) (hi x) (lo y) (hi y) wz (lo_0 x) (lo_1 x) (hi_0 x) (hi_1 x) (lo_0 y) (lo_1 y) (hi_0 y) (hi_1 y)
    rw [val_lohi2, val_lohi2] at h
    exact h.mono fun e w' h => h.det hlq
  have HX : Hid (kI (Pm 2) (q0 + 18446744073709551616 * q1 + 340282366920938463463374607431768211456 * q2 + 6277101735386680763835789423207666416102355444464034512896 * q3) = x * y) := by
    show _ = _
    rw [hlq.sum, kI_mul, kI_ofVal, kI_ofVal]
  have hqb := hlq.b
  have HA := Lib.hid hOa
  have HB := Lib.hid hOb
  have HPP := Lib.hid HP
  clear hOa hOb HP hlq
  go_enter Try.func150, Try.ntmps150
  go_wp2_with fail
  have q0' := ((V2.new w (.int .u64 a0) (.int .u64 a1) 41).alloc (.cells #[.int .u64 b0, .int .u64 b1] 41)).alloc (.cells #[.int .u64 0, .int .u64 0] 41)
  have r0 := (V2.new (w.alloc (.cells #[.int .u64 a0, .int .u64 a1] 41)) (.int .u64 b0) (.int .u64 b1) 41).alloc (.cells #[.int .u64 0, .int .u64 0] 41)
  have s0 := V2.new ((w.alloc (.cells #[.int .u64 a0, .int .u64 a1] 41)).alloc (.cells #[.int .u64 b0, .int .u64 b1] 41)) (.int .u64 0) (.int .u64 0) 41
  simp only [World.size_alloc] at r0 s0
  have hb00 : Below w.heap.size w (((w.alloc (.cells #[.int .u64 a0, .int .u64 a1] 41)).alloc (.cells #[.int .u64 b0, .int .u64 b1] 41)).alloc (.cells #[.int .u64 0, .int .u64 0] 41)) := by repeat (first | exact Below.refl _ _ | with_reducible assumption | (refine bl_alloc ?_ (Nat.le_refl _) _) | (refine bl_set ?_ (by dsimp only; omega) _) | (refine Below.drew ?_) | (refine bl_drewN ?_ _) | (refine bl_call ?_ (Nat.le_refl _) (by assumption)))
  have hsz : w.heap.size + 3 ≤ (((w.alloc (.cells #[.int .u64 a0, .int .u64 a1] 41)).alloc (.cells #[.int .u64 b0, .int .u64 b1] 41)).alloc (.cells #[.int .u64 0, .int .u64 0] 41)).heap.size := by simp only [World.size_alloc]; omega
  generalize ((w.alloc (.cells #[.int .u64 a0, .int .u64 a1] 41)).alloc (.cells #[.int .u64 b0, .int .u64 b1] 41)).alloc (.cells #[.int .u64 0, .int .u64 0] 41) = w1 at *
  have q01 := q0'
  obtain ⟨c0, c1, c2, c3, c4⟩ := q01
  have r01 := r0
  obtain ⟨d0, d1, d2, d3, d4⟩ := r01
  have hNew := newQ_stable (w1.heap.size)
  refine region_N (n := 6) (m := 7) (f := 6) 5 5 (NewQ (w1.heap.size)) (by kernel_rfl) (by kernel_rfl) rfl ?_
  refine WpH.takeN hNew (i := 0) (v := ?_) rfl (by kernel_rfl) rfl rfl (fun _ _ _ h => h) (.val rfl (fun wz hwz => ?_)) ?_
  rotate_left
  · (obtain ⟨hcz, hfz⟩ := bcell hwz; go_simp; try (with_reducible rfl))
  (simp only [Act.put]); (try simp only [List.setIfInBounds_toArray]); (try simp only [List.set_cons_succ]); (try simp only [List.set_cons_zero])
  refine WpH.takeN hNew (i := 1) rfl (by kernel_rfl) rfl rfl (fun _ _ _ h => h) (.call rfl (fun wz hwz => HA.out wz) (fun wz hwz => ?_)) ?_
  · go_simp; try (with_reducible rfl)
  (simp only [Act.put]); (try simp only [List.setIfInBounds_toArray]); (try simp only [List.set_cons_succ]); (try simp only [List.set_cons_zero])
  refine WpH.takeN hNew (i := 2) (v := ?_) rfl (by kernel_rfl) rfl rfl (fun _ _ _ h => h) (.val rfl (fun wz hwz => ?_)) ?_
  rotate_left
  · (obtain ⟨hcz, hfz⟩ := bcell hwz; go_simp; try (with_reducible rfl))
  (simp only [Act.put]); (try simp only [List.setIfInBounds_toArray]); (try simp only [List.set_cons_succ]); (try simp only [List.set_cons_zero])
  refine WpH.takeN hNew (i := 3) rfl (by kernel_rfl) rfl rfl (fun _ _ _ h => h) (.call rfl (fun wz hwz => HB.out wz) (fun wz hwz => ?_)) ?_
  · go_simp; try (with_reducible rfl)
  (simp only [Act.put]); (try simp only [List.setIfInBounds_toArray]); (try simp only [List.set_cons_succ]); (try simp only [List.set_cons_zero])
  refine WpH.takeN hNew (i := 4) rfl (by kernel_rfl) rfl rfl (fun _ _ _ h => h) (.call rfl (fun wz hwz => HPP.out wz) (fun wz hwz => ?_)) ?_
  · go_simp; try (with_reducible rfl)
  (simp only [Act.put]); (try simp only [List.setIfInBounds_toArray]); (try simp only [List.set_cons_succ]); (try simp only [List.set_cons_zero])
  refine WpH.one (i := 5) (by kernel_rfl) (fun w2 hw2 => ?_)
  refine wpOp_value rfl rfl (by go_simp; first | rfl | exact ⟨rfl, rfl⟩) ⟨⟨hw2.1.trans (((Below.refl _ _).alloc (Nat.le_refl _) _).mono hw2.1.size), fun _ => ⟨_, rfl, (by have hsz2 := hw2.1.size; (try simp only [World.size_alloc] at hsz2); omega), V4.new _ _ _ _ _ _⟩⟩, ?_⟩
  (simp only [Act.put]); (try simp only [List.setIfInBounds_toArray]); (try simp only [List.set_cons_succ]); (try simp only [List.set_cons_zero])
  refine WpH.done (by kernel_rfl) (fun w3 hw3n => ?_)
  obtain ⟨hw3, hnw3⟩ := hw3n
  obtain ⟨b, hbew3, hBb, hVb⟩ := hnw3 rfl
  simp at hbew3
  rw [hbew3]
  clear hNew hnw3 hw2 hbew3 w2
  (try simp only [List.drop_succ_cons]); (try simp only [List.drop_zero]); (try simp only [Nat.reduceSub]); (try simp only [List.take_succ_cons]); (try simp only [List.take_zero])
  clear HA HB HPP
  obtain ⟨v0, v1, v2, v3, v4, v5, v6, v7, v8⟩ := hVb
  have hs3 := s0.call hw3
  have hbw3 : Below w.heap.size w w3 := bl_call hb00 (Nat.le_refl _) hw3
  clear hw3
  go_wp2_with fail
  go_loopw [] (fun wr => ∃ p0 p1 p2 p3 : Int, V4 wr b (.int .u64 p0) (.int .u64 p1) (.int .u64 p2) (.int .u64 p3) ∧
      (0 ≤ p0 ∧ p0 ≤ 18446744073709551615 ∧ 0 ≤ p1 ∧ p1 ≤ 18446744073709551615 ∧ 0 ≤ p2 ∧ p2 ≤ 18446744073709551615 ∧ 0 ≤ p3 ∧ p3 ≤ 18446744073709551615) ∧
      V2 wr (w.heap.size + 1 + 1) (.int .u64 0) (.int .u64 0) ∧ Below w.heap.size w wr ∧
      Hid (kI (Pm 2) (p0 + 18446744073709551616 * p1 + 340282366920938463463374607431768211456 * p2 + 6277101735386680763835789423207666416102355444464034512896 * p3) = x * y))
    (fun wr => numAt wr b)
  case atStart =>
    refine ⟨q0, q1, q2, q3, V4.set ⟨v0, v1, v2, v3, v4, v5, v6, v7, v8⟩ _ _ _ _, hqb, ?_, ?_, HX⟩
    · exact V2.setOther (V2.setOther (V2.setOther (V2.setOther hs3 (by dsimp only; omega) _) (by dsimp only; omega) _) (by dsimp only; omega) _) (by dsimp only; omega) _
    · exact by repeat (first | exact Below.refl _ _ | with_reducible assumption | (refine bl_alloc ?_ (Nat.le_refl _) _) | (refine bl_set ?_ (by dsimp only; omega) _) | (refine Below.drew ?_) | (refine bl_drewN ?_ _) | (refine bl_call ?_ (Nat.le_refl _) (by assumption)))
  case round =>
    obtain ⟨p0, p1, p2, p3, hp, hpb, hs, hbw, HN⟩ := hrel
    have hp' := hp
    obtain ⟨g0, g1, g2, g3, g4, g5, g6, g7, g8⟩ := hp'
    clear v0 v1 v2 v3 v4 v5 v6 v7 v8 hs3 hbw3 HX
    by_cases hz : p2 = 0 ∧ p3 = 0
    · obtain ⟨rfl, rfl⟩ := hz
      obtain ⟨s0, s1, s2, s3, s4⟩ := hs
      go_wp2_with (go_at_call 156; refine (wide_OfK p0 p1 _ (by omega) (by omega) (by omega) (by omega)).mono ?_; rintro e w6 ⟨rfl, hb6⟩; obtain ⟨t0, t1, t2, t3, t4⟩ := V2.call ⟨s0, s1, s2, s3, s4⟩ hb6)
      refine bodyPost_ret (results_v2 (b := w.heap.size + 1 + 1) (u := .int .u64 (lo (x * y))) (v := .int .u64 (hi (x * y))) ?_ rfl rfl) rfl ⟨rfl, by repeat (first | exact Below.refl _ _ | with_reducible assumption | (refine bl_alloc ?_ (Nat.le_refl _) _) | (refine bl_set ?_ (by dsimp only; omega) _) | (refine Below.drew ?_) | (refine bl_drewN ?_ _) | (refine bl_call ?_ (Nat.le_refl _) (by assumption)))⟩
      have e : kL 2 p0 p1 = x * y := by
        rw [← HN.out, ← kI_nI, nI2]
        congr 1
        omega
      rw [← e]
      exact V2.set ⟨t0, t1, t2, t3, t4⟩ _ _
    · have hor : p2 ≠ 0 ∨ (p2 = 0 ∧ p3 ≠ 0) := by omega
      have h1 : 1 ≤ p2 + 18446744073709551616 * p3 := by omega
      rcases hor with h | ⟨rfl, h⟩
      · have hb : (p2 != 0) = true := by simp; omega
        go_wp2_with (go_at_call 176; refine (quad_fold p0 p1 p2 p3 _ hpb).mono ?_; rintro e w6 ⟨r0, r1, r2, r3, rfl, hrb, HR, hb6⟩; obtain ⟨t0, t1, t2, t3, t4, t5, t6, t7, t8⟩ := hp.call hb6; have hs6 := hs.call hb6)
        have hv6 : V4 ((((w6.setCell ⟨b, 0, none⟩ (.int .u64 r0)).setCell ⟨b, 1, none⟩ (.int .u64 r1)).setCell ⟨b, 2, none⟩ (.int .u64 r2)).setCell ⟨b, 3, none⟩ (.int .u64 r3)) b (.int .u64 r0) (.int .u64 r1) (.int .u64 r2) (.int .u64 r3) := V4.set ⟨t0, t1, t2, t3, t4, t5, t6, t7, t8⟩ _ _ _ _
        have hfl := fold_less (p0 + 18446744073709551616 * p1) (p2 + 18446744073709551616 * p3) (p0 + 18446744073709551616 * p1 + 340282366920938463463374607431768211456 * p2 + 6277101735386680763835789423207666416102355444464034512896 * p3) (by omega) h1
        go_roundw
        case rel =>
          refine ⟨r0, r1, r2, r3, hv6, hrb, ?_, by repeat (first | exact Below.refl _ _ | with_reducible assumption | (refine bl_alloc ?_ (Nat.le_refl _) _) | (refine bl_set ?_ (by dsimp only; omega) _) | (refine Below.drew ?_) | (refine bl_drewN ?_ _) | (refine bl_call ?_ (Nat.le_refl _) (by assumption))), ?_⟩
          · exact V2.setOther (V2.setOther (V2.setOther (V2.setOther hs6 (by dsimp only; omega) _) (by dsimp only; omega) _) (by dsimp only; omega) _) (by dsimp only; omega) _
          · show _ = _
            rw [HR.out, ← HN.out]
            exact kI_congr hfl.1
        case measure =>
          rw [numAt_V4 hv6, numAt_V4 hp, HR.out]
          have h2 := hfl.2
          generalize (p2 + 18446744073709551616 * p3) * 516508834063867445247 = z at *
          omega
      · have hb : ((0 : Int) != 0) = false := rfl
        have hb' : (p3 != 0) = true := by simp; omega
        go_wp2_with (go_at_call 176; refine (quad_fold p0 p1 0 p3 _ hpb).mono ?_; rintro e w6 ⟨r0, r1, r2, r3, rfl, hrb, HR, hb6⟩; obtain ⟨t0, t1, t2, t3, t4, t5, t6, t7, t8⟩ := hp.call hb6; have hs6 := hs.call hb6)
        have hv6 : V4 ((((w6.setCell ⟨b, 0, none⟩ (.int .u64 r0)).setCell ⟨b, 1, none⟩ (.int .u64 r1)).setCell ⟨b, 2, none⟩ (.int .u64 r2)).setCell ⟨b, 3, none⟩ (.int .u64 r3)) b (.int .u64 r0) (.int .u64 r1) (.int .u64 r2) (.int .u64 r3) := V4.set ⟨t0, t1, t2, t3, t4, t5, t6, t7, t8⟩ _ _ _ _
        have hfl := fold_less (p0 + 18446744073709551616 * p1) (0 + 18446744073709551616 * p3) (p0 + 18446744073709551616 * p1 + 340282366920938463463374607431768211456 * 0 + 6277101735386680763835789423207666416102355444464034512896 * p3) (by omega) h1
        go_roundw
        case rel =>
          refine ⟨r0, r1, r2, r3, hv6, hrb, ?_, by repeat (first | exact Below.refl _ _ | with_reducible assumption | (refine bl_alloc ?_ (Nat.le_refl _) _) | (refine bl_set ?_ (by dsimp only; omega) _) | (refine Below.drew ?_) | (refine bl_drewN ?_ _) | (refine bl_call ?_ (Nat.le_refl _) (by assumption))), ?_⟩
          · exact V2.setOther (V2.setOther (V2.setOther (V2.setOther hs6 (by dsimp only; omega) _) (by dsimp only; omega) _) (by dsimp only; omega) _) (by dsimp only; omega) _
          · show _ = _
            rw [HR.out, ← HN.out]
            exact kI_congr hfl.1
        case measure =>
          rw [numAt_V4 hv6, numAt_V4 hp, HR.out]
          have h2 := hfl.2
          generalize (0 + 18446744073709551616 * p3) * 516508834063867445247 = z at *
          omega

end Go.Proofs.Ytgambjmjbmdciaa
