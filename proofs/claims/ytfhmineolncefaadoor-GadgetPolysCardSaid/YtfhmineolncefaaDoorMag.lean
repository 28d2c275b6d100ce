/-
  WALK: wide.Mul; a number of 256 bits by its limbs.
-/
/-
  WALKS: field.Mul, Of, One, Neg.
-/
/-
  VARIABLES OF ANY NUMBER OF CELLS.
-/
/-
  A LAW ON REGIONS THAT DRAW THEIR ORDER, of any program: what is known of the world may grow from operation to operation: several new things in one region; calls of what is new.
-/
/-
  THE LAW ON REGIONS, ON: two new things, in either order.
-/
/-
  THE LAW ON REGIONS, its steps with the slot written out: so that a frame stays a literal.
-/
/-
  WALKS: the reference's Add, Neg, Sub.
-/
/-
  WALKS: the reference's Neg, Sub.
-/
/-
  WALK: the reference's bit.
-/
import Derived.Test.YtfhmineolncefaaDoorMad
import Derived.Test.YtfhmineolncefaaDoorMaf
import Derived.Test.YtfhmineolncefaaDoorMab
namespace Go.Proofs.YtfhmineolncefaaDoor
open Go.RowKit Fm
set_option linter.unusedVariables false
set_option maxRecDepth 100000



theorem P2_int : ((Pm 2 : Nat) : Int) = 340282366920938462946865773367900766209 := rfl
theorem nI2 (a0 a1 : Int) : nI ((2 : Nat) : Int) a0 a1 = a0 + 18446744073709551616 * a1 := by unfold nI; rw [if_neg (by omega)]

theorem wide_OfK (a0 a1 : Int) (w : World) (h0 : 0 ≤ a0) (h1 : a0 ≤ 18446744073709551615) (k0 : 0 ≤ a1) (k1 : a1 ≤ 18446744073709551615) :
    Calls Tryd.prog 95 #[.agg #[.int .u64 a0, .int .u64 a1]] w (RetK (kL 2 a0 a1) w) := by
  refine (Of_any a0 a1 w h0 h1 k0 k1).mono fun e w' h => ?_
  rw [← P2_int] at h
  exact h.toK (by rw [← nI2, kI_nI])

/-- the four limbs of a number of 256 bits -/
structure Limbs (n q0 q1 q2 q3 : Int) : Prop where
  b : 0 ≤ q0 ∧ q0 ≤ 18446744073709551615 ∧ 0 ≤ q1 ∧ q1 ≤ 18446744073709551615 ∧ 0 ≤ q2 ∧ q2 ≤ 18446744073709551615 ∧ 0 ≤ q3 ∧ q3 ≤ 18446744073709551615
  sum : q0 + 18446744073709551616 * q1 + 340282366920938463463374607431768211456 * q2 + 6277101735386680763835789423207666416102355444464034512896 * q3 = n

theorem limbs_of (n : Int) (h0 : 0 ≤ n) (h1 : n < 115792089237316195423570985008687907853269984665640564039457584007913129639936) : ∃ q0 q1 q2 q3, Limbs n q0 q1 q2 q3 :=
  ⟨n % 18446744073709551616, n / 18446744073709551616 % 18446744073709551616, n / 340282366920938463463374607431768211456 % 18446744073709551616, n / 6277101735386680763835789423207666416102355444464034512896, by omega, by omega⟩

theorem Limbs.uniq {n q0 q1 q2 q3 p0 p1 p2 p3 : Int} (h : Limbs n q0 q1 q2 q3) (h' : Limbs n p0 p1 p2 p3) : q0 = p0 ∧ q1 = p1 ∧ q2 = p2 ∧ q3 = p3 := by
  obtain ⟨b, s⟩ := h
  obtain ⟨b', s'⟩ := h'
  omega

theorem RetQ.det {n : Int} {w : World} {q0 q1 q2 q3 : Int} (hl : Limbs n q0 q1 q2 q3) {e : Ending} {w' : World} (h : RetQ n w e w') : e = .returned (.agg #[.int .u64 q0, .int .u64 q1, .int .u64 q2, .int .u64 q3]) ∧ Below w.heap.size w w' := by
  obtain ⟨p0, p1, p2, p3, rfl, hb, HN, hbw⟩ := h
  obtain ⟨rfl, rfl, rfl, rfl⟩ := hl.uniq ⟨hb, HN.out⟩
  exact ⟨rfl, hbw⟩

/-- one fold: the same number modulo P, and less -/
theorem fold_less (l h n : Int) (hn : n = l + 340282366920938463463374607431768211456 * h) (h1 : 1 ≤ h) :
    (l + h * 516508834063867445247) % 340282366920938462946865773367900766209 = n % 340282366920938462946865773367900766209 ∧ l + h * 516508834063867445247 < n := by
  constructor
  · rw [show n = l + h * 516508834063867445247 + 340282366920938462946865773367900766209 * h from by omega, Int.add_mul_emod_self_left]
  · omega

/-- a new variable of four limbs -/
def NewQ (B : Nat) (v : Value) (w : World) : Prop := ∃ b, v = .pointer (some ⟨b, 0, none⟩) ∧ B ≤ b ∧ V4 w b (.int .u64 0) (.int .u64 0) (.int .u64 0) (.int .u64 0)
theorem newQ_stable (B : Nat) : ∀ v w w', NewQ B v w → Below w.heap.size w w' → NewQ B v w' := fun _ _ _ ⟨b, h1, h2, h3⟩ hb => ⟨b, h1, h2, h3.call hb⟩

/-- the number in a variable of four limbs -/
def numAt (w : World) (b : Nat) : Nat := ((intOf ((w.cell? ⟨b, 0, none⟩).getD undef)) + 18446744073709551616 * (intOf ((w.cell? ⟨b, 1, none⟩).getD undef)) + 340282366920938463463374607431768211456 * (intOf ((w.cell? ⟨b, 2, none⟩).getD undef)) + 6277101735386680763835789423207666416102355444464034512896 * (intOf ((w.cell? ⟨b, 3, none⟩).getD undef))).toNat
theorem numAt_V4 {w : World} {b : Nat} {q0 q1 q2 q3 : Int} (h : V4 w b (.int .u64 q0) (.int .u64 q1) (.int .u64 q2) (.int .u64 q3)) :
    numAt w b = (q0 + 18446744073709551616 * q1 + 340282366920938463463374607431768211456 * q2 + 6277101735386680763835789423207666416102355444464034512896 * q3).toNat := by
  unfold numAt
  rw [h.c0, h.c1, h.c2, h.c3]
  rfl

theorem mul_bound (x y : Fin (Pm 2)) : 0 ≤ ((x.val : Nat) : Int) * ((y.val : Nat) : Int) ∧ ((x.val : Nat) : Int) * ((y.val : Nat) : Int) < 115792089237316195423570985008687907853269984665640564039457584007913129639936 := by
  have hx := x.isLt
  have hy := y.isLt
  have h2 := Pm_lt 2
  refine ⟨Int.mul_nonneg (by omega) (by omega), ?_⟩
  have h := Int.mul_le_mul (show ((x.val : Nat) : Int) ≤ 340282366920938463463374607431768211455 by omega) (show ((y.val : Nat) : Int) ≤ 340282366920938463463374607431768211455 by omega) (by omega) (by omega)
  exact Int.lt_of_le_of_lt h (by decide)

theorem val_lohi2 (x : Fin (Pm 2)) : lo x + 18446744073709551616 * hi x = ((x.val : Nat) : Int) := by
  have hx := x.isLt
  have h2 := Pm_lt 2
  unfold lo hi eK eN
  dsimp only
  omega

theorem ret_if {a b : Prop} (h : a → b) (ha : a) : b := h ha

set_option maxHeartbeats 4000000 in
theorem wide_MulL (a0 a1 b0 b1 : Int) (w : World) (h0 : 0 ≤ a0) (h1 : a0 ≤ 18446744073709551615) (k0 : 0 ≤ a1) (k1 : a1 ≤ 18446744073709551615)
    (g0 : 0 ≤ b0) (g1 : b0 ≤ 18446744073709551615) (j0 : 0 ≤ b1) (j1 : b1 ≤ 18446744073709551615) :
    Calls Tryd.prog 71 #[.agg #[.int .u64 a0, .int .u64 a1], .agg #[.int .u64 b0, .int .u64 b1]] w (RetK (kL 2 a0 a1 * kL 2 b0 b1) w) := by
  have hOa := fun wz => wide_OfK a0 a1 wz h0 h1 k0 k1
  have hOb := fun wz => wide_OfK b0 b1 wz g0 g1 j0 j1
  generalize kL 2 a0 a1 = x at *
  generalize kL 2 b0 b1 = y at *
  obtain ⟨q0, q1, q2, q3, hlq⟩ := limbs_of (((x.val : Nat) : Int) * ((y.val : Nat) : Int)) (mul_bound x y).1 (mul_bound x y).2
  have HP : ∀ wz, Calls Tryd.prog 94 #[vK x, vK y] wz (fun e w' => e = .returned (.agg #[.int .u64 q0, .int .u64 q1, .int .u64 q2, .int .u64 q3]) ∧ Below wz.heap.size wz w') := by
    intro wz
    have h := wide_product (lo x) (hi x) (lo y) (hi y) wz (lo_0 x) (lo_1 x) (hi_0 x) (hi_1 x) (lo_0 y) (lo_1 y) (hi_0 y) (hi_1 y)
    rw [val_lohi2, val_lohi2] at h
    exact h.mono fun e w' h => h.det hlq
  have HX : Hid (kI (Pm 2) (q0 + 18446744073709551616 * q1 + 340282366920938463463374607431768211456 * q2 + 6277101735386680763835789423207666416102355444464034512896 * q3) = x * y) := by
    show _ = _
    rw [hlq.sum, kI_mul, kI_ofVal, kI_ofVal]
  have hqb := hlq.b
  have HA := Lib.hid hOa
  have HB := Lib.hid hOb
  have HPP := Lib.hid HP
  clear hOa hOb HP hlq
  go_enter Tryd.func71, Tryd.ntmps71
  go_wp2_with fail
  have q0' := ((V2.new w (.int .u64 a0) (.int .u64 a1) 28).alloc (.cells #[.int .u64 b0, .int .u64 b1] 28)).alloc (.cells #[.int .u64 0, .int .u64 0] 28)
  have r0 := (V2.new (w.alloc (.cells #[.int .u64 a0, .int .u64 a1] 28)) (.int .u64 b0) (.int .u64 b1) 28).alloc (.cells #[.int .u64 0, .int .u64 0] 28)
  have s0 := V2.new ((w.alloc (.cells #[.int .u64 a0, .int .u64 a1] 28)).alloc (.cells #[.int .u64 b0, .int .u64 b1] 28)) (.int .u64 0) (.int .u64 0) 28
  simp only [World.size_alloc] at r0 s0
  have hb00 : Below w.heap.size w (((w.alloc (.cells #[.int .u64 a0, .int .u64 a1] 28)).alloc (.cells #[.int .u64 b0, .int .u64 b1] 28)).alloc (.cells #[.int .u64 0, .int .u64 0] 28)) := by repeat (first | exact Below.refl _ _ | with_reducible assumption | (refine bl_alloc ?_ (Nat.le_refl _) _) | (refine bl_set ?_ (by dsimp only; omega) _) | (refine Below.drew ?_) | (refine bl_drewN ?_ _) | (refine bl_call ?_ (Nat.le_refl _) (by assumption)))
  have hsz : w.heap.size + 3 ≤ (((w.alloc (.cells #[.int .u64 a0, .int .u64 a1] 28)).alloc (.cells #[.int .u64 b0, .int .u64 b1] 28)).alloc (.cells #[.int .u64 0, .int .u64 0] 28)).heap.size := by simp only [World.size_alloc]; omega
  generalize ((w.alloc (.cells #[.int .u64 a0, .int .u64 a1] 28)).alloc (.cells #[.int .u64 b0, .int .u64 b1] 28)).alloc (.cells #[.int .u64 0, .int .u64 0] 28) = w1 at *
  have q01 := q0'
  obtain ⟨c0, c1, c2, c3, c4⟩ := q01
  have r01 := r0
  obtain ⟨d0, d1, d2, d3, d4⟩ := r01
  have hNew := newQ_stable (w1.heap.size)
  refine region_N (n := 6) (m := 7) (f := 6) 5 5 (NewQ (w1.heap.size)) (by kernel_rfl) (by kernel_rfl) rfl ?_
  refine WpH.takeN hNew (i := 0) (v := ?_) rfl (by kernel_rfl) rfl rfl (fun _ _ _ h => h) (.val rfl (fun wz hwz => ?_)) ?_
  rotate_left
  · (obtain ⟨hcz, hfz⟩ := bcell hwz; go_simp; try (with_reducible rfl))
  (simp only [Act.put]); (try simp only [List.setIfInBounds_toArray]); (try simp only [List.set_cons_succ]); (try simp only [List.set_cons_zero])
  refine WpH.takeN hNew (i := 1) rfl (by kernel_rfl) rfl rfl (fun _ _ _ h => h) (.call rfl (fun wz hwz => HA.out wz) (fun wz hwz => ?_)) ?_
  · go_simp; try (with_reducible rfl)
  (simp only [Act.put]); (try simp only [List.setIfInBounds_toArray]); (try simp only [List.set_cons_succ]); (try simp only [List.set_cons_zero])
  refine WpH.takeN hNew (i := 2) (v := ?_) rfl (by kernel_rfl) rfl rfl (fun _ _ _ h => h) (.val rfl (fun wz hwz => ?_)) ?_
  rotate_left
  · (obtain ⟨hcz, hfz⟩ := bcell hwz; go_simp; try (with_reducible rfl))
  (simp only [Act.put]); (try simp only [List.setIfInBounds_toArray]); (try simp only [List.set_cons_succ]); (try simp only [List.set_cons_zero])
  refine WpH.takeN hNew (i := 3) rfl (by kernel_rfl) rfl rfl (fun _ _ _ h => h) (.call rfl (fun wz hwz => HB.out wz) (fun wz hwz => ?_)) ?_
  · go_simp; try (with_reducible rfl)
  (simp only [Act.put]); (try simp only [List.setIfInBounds_toArray]); (try simp only [List.set_cons_succ]); (try simp only [List.set_cons_zero])
  refine WpH.takeN hNew (i := 4) rfl (by kernel_rfl) rfl rfl (fun _ _ _ h => h) (.call rfl (fun wz hwz => HPP.out wz) (fun wz hwz => ?_)) ?_
  · go_simp; try (with_reducible rfl)
  (simp only [Act.put]); (try simp only [List.setIfInBounds_toArray]); (try simp only [List.set_cons_succ]); (try simp only [List.set_cons_zero])
  refine WpH.one (i := 5) (by kernel_rfl) (fun w2 hw2 => ?_)
  refine wpOp_value rfl rfl (by go_simp; first | rfl | exact ⟨rfl, rfl⟩) ⟨⟨hw2.1.trans (((Below.refl _ _).alloc (Nat.le_refl _) _).mono hw2.1.size), fun _ => ⟨_, rfl, (by have hsz2 := hw2.1.size; (try simp only [World.size_alloc] at hsz2); omega), V4.new _ _ _ _ _ _⟩⟩, ?_⟩
  (simp only [Act.put]); (try simp only [List.setIfInBounds_toArray]); (try simp only [List.set_cons_succ]); (try simp only [List.set_cons_zero])
  refine WpH.done (by kernel_rfl) (fun w3 hw3n => ?_)
  obtain ⟨hw3, hnw3⟩ := hw3n
  obtain ⟨b, hbew3, hBb, hVb⟩ := hnw3 rfl
  simp at hbew3
  rw [hbew3]
  clear hNew hnw3 hw2 hbew3 w2
  (try simp only [List.drop_succ_cons]); (try simp only [List.drop_zero]); (try simp only [Nat.reduceSub]); (try simp only [List.take_succ_cons]); (try simp only [List.take_zero])
  clear HA HB HPP
  obtain ⟨v0, v1, v2, v3, v4, v5, v6, v7, v8⟩ := hVb
  have hs3 := s0.call hw3
  have hbw3 : Below w.heap.size w w3 := bl_call hb00 (Nat.le_refl _) hw3
  clear hw3
  go_wp2_with fail
  go_loopw [] (fun wr => ∃ p0 p1 p2 p3 : Int, V4 wr b (.int .u64 p0) (.int .u64 p1) (.int .u64 p2) (.int .u64 p3) ∧
      (0 ≤ p0 ∧ p0 ≤ 18446744073709551615 ∧ 0 ≤ p1 ∧ p1 ≤ 18446744073709551615 ∧ 0 ≤ p2 ∧ p2 ≤ 18446744073709551615 ∧ 0 ≤ p3 ∧ p3 ≤ 18446744073709551615) ∧
      V2 wr (w.heap.size + 1 + 1) (.int .u64 0) (.int .u64 0) ∧ Below w.heap.size w wr ∧
      Hid (kI (Pm 2) (p0 + 18446744073709551616 * p1 + 340282366920938463463374607431768211456 * p2 + 6277101735386680763835789423207666416102355444464034512896 * p3) = x * y))
    (fun wr => numAt wr b)
  case atStart =>
    refine ⟨q0, q1, q2, q3, V4.set ⟨v0, v1, v2, v3, v4, v5, v6, v7, v8⟩ _ _ _ _, hqb, ?_, ?_, HX⟩
    · exact V2.setOther (V2.setOther (V2.setOther (V2.setOther hs3 (by dsimp only; omega) _) (by dsimp only; omega) _) (by dsimp only; omega) _) (by dsimp only; omega) _
    · exact by repeat (first | exact Below.refl _ _ | with_reducible assumption | (refine bl_alloc ?_ (Nat.le_refl _) _) | (refine bl_set ?_ (by dsimp only; omega) _) | (refine Below.drew ?_) | (refine bl_drewN ?_ _) | (refine bl_call ?_ (Nat.le_refl _) (by assumption)))
  case round =>
    obtain ⟨p0, p1, p2, p3, hp, hpb, hs, hbw, HN⟩ := hrel
    have hp' := hp
    obtain ⟨g0, g1, g2, g3, g4, g5, g6, g7, g8⟩ := hp'
    clear v0 v1 v2 v3 v4 v5 v6 v7 v8 hs3 hbw3 HX
    by_cases hz : p2 = 0 ∧ p3 = 0
    · obtain ⟨rfl, rfl⟩ := hz
      obtain ⟨s0, s1, s2, s3, s4⟩ := hs
      go_wp2_with (go_at_call 95; refine (wide_OfK p0 p1 _ (by omega) (by omega) (by omega) (by omega)).mono ?_; rintro e w6 ⟨rfl, hb6⟩; obtain ⟨t0, t1, t2, t3, t4⟩ := V2.call ⟨s0, s1, s2, s3, s4⟩ hb6)
      refine bodyPost_ret (results_v2 (b := w.heap.size + 1 + 1) (u := .int .u64 (lo (x * y))) (v := .int .u64 (hi (x * y))) ?_ rfl rfl) rfl ⟨rfl, by repeat (first | exact Below.refl _ _ | with_reducible assumption | (refine bl_alloc ?_ (Nat.le_refl _) _) | (refine bl_set ?_ (by dsimp only; omega) _) | (refine Below.drew ?_) | (refine bl_drewN ?_ _) | (refine bl_call ?_ (Nat.le_refl _) (by assumption)))⟩
      have e : kL 2 p0 p1 = x * y := by
        rw [← HN.out, ← kI_nI, nI2]
        congr 1
        omega
      rw [← e]
      exact V2.set ⟨t0, t1, t2, t3, t4⟩ _ _
    · have hor : p2 ≠ 0 ∨ (p2 = 0 ∧ p3 ≠ 0) := by omega
      have h1 : 1 ≤ p2 + 18446744073709551616 * p3 := by omega
      rcases hor with h | ⟨rfl, h⟩
      · have hb : (p2 != 0) = true := by simp; omega
        go_wp2_with (go_at_call 96; refine (quad_fold p0 p1 p2 p3 _ hpb).mono ?_; rintro e w6 ⟨r0, r1, r2, r3, rfl, hrb, HR, hb6⟩; obtain ⟨t0, t1, t2, t3, t4, t5, t6, t7, t8⟩ := hp.call hb6; have hs6 := hs.call hb6)
        have hv6 : V4 ((((w6.setCell ⟨b, 0, none⟩ (.int .u64 r0)).setCell ⟨b, 1, none⟩ (.int .u64 r1)).setCell ⟨b, 2, none⟩ (.int .u64 r2)).setCell ⟨b, 3, none⟩ (.int .u64 r3)) b (.int .u64 r0) (.int .u64 r1) (.int .u64 r2) (.int .u64 r3) := V4.set ⟨t0, t1, t2, t3, t4, t5, t6, t7, t8⟩ _ _ _ _
        have hfl := fold_less (p0 + 18446744073709551616 * p1) (p2 + 18446744073709551616 * p3) (p0 + 18446744073709551616 * p1 + 340282366920938463463374607431768211456 * p2 + 6277101735386680763835789423207666416102355444464034512896 * p3) (by omega) h1
        go_roundw
        case rel =>
          refine ⟨r0, r1, r2, r3, hv6, hrb, ?_, by repeat (first | exact Below.refl _ _ | with_reducible assumption | (refine bl_alloc ?_ (Nat.le_refl _) _) | (refine bl_set ?_ (by dsimp only; omega) _) | (refine Below.drew ?_) | (refine bl_drewN ?_ _) | (refine bl_call ?_ (Nat.le_refl _) (by assumption))), ?_⟩
          · exact V2.setOther (V2.setOther (V2.setOther (V2.setOther hs6 (by dsimp only; omega) _) (by dsimp only; omega) _) (by dsimp only; omega) _) (by dsimp only; omega) _
          · show _ = _
            rw [HR.out, ← HN.out]
            exact kI_congr hfl.1
        case measure =>
          rw [numAt_V4 hv6, numAt_V4 hp, HR.out]
          have h2 := hfl.2
          generalize (p2 + 18446744073709551616 * p3) * 516508834063867445247 = z at *
          omega
      · have hb : ((0 : Int) != 0) = false := rfl
        have hb' : (p3 != 0) = true := by simp; omega
        go_wp2_with (go_at_call 96; refine (quad_fold p0 p1 0 p3 _ hpb).mono ?_; rintro e w6 ⟨r0, r1, r2, r3, rfl, hrb, HR, hb6⟩; obtain ⟨t0, t1, t2, t3, t4, t5, t6, t7, t8⟩ := hp.call hb6; have hs6 := hs.call hb6)
        have hv6 : V4 ((((w6.setCell ⟨b, 0, none⟩ (.int .u64 r0)).setCell ⟨b, 1, none⟩ (.int .u64 r1)).setCell ⟨b, 2, none⟩ (.int .u64 r2)).setCell ⟨b, 3, none⟩ (.int .u64 r3)) b (.int .u64 r0) (.int .u64 r1) (.int .u64 r2) (.int .u64 r3) := V4.set ⟨t0, t1, t2, t3, t4, t5, t6, t7, t8⟩ _ _ _ _
        have hfl := fold_less (p0 + 18446744073709551616 * p1) (0 + 18446744073709551616 * p3) (p0 + 18446744073709551616 * p1 + 340282366920938463463374607431768211456 * 0 + 6277101735386680763835789423207666416102355444464034512896 * p3) (by omega) h1
        go_roundw
        case rel =>
          refine ⟨r0, r1, r2, r3, hv6, hrb, ?_, by repeat (first | exact Below.refl _ _ | with_reducible assumption | (refine bl_alloc ?_ (Nat.le_refl _) _) | (refine bl_set ?_ (by dsimp only; omega) _) | (refine Below.drew ?_) | (refine bl_drewN ?_ _) | (refine bl_call ?_ (Nat.le_refl _) (by assumption))), ?_⟩
          · exact V2.setOther (V2.setOther (V2.setOther (V2.setOther hs6 (by dsimp only; omega) _) (by dsimp only; omega) _) (by dsimp only; omega) _) (by dsimp only; omega) _
          · show _ = _
            rw [HR.out, ← HN.out]
            exact kI_congr hfl.1
        case measure =>
          rw [numAt_V4 hv6, numAt_V4 hp, HR.out]
          have h2 := hfl.2
          generalize (0 + 18446744073709551616 * p3) * 516508834063867445247 = z at *
          omega

end Go.Proofs.YtfhmineolncefaaDoor

namespace Go.Proofs.YtfhmineolncefaaDoor
open Go.RowKit Fm
set_option linter.unusedVariables false
set_option maxRecDepth 100000

theorem field_MulL {f : Nat} (hf : IsF f) (a0 a1 b0 b1 : Int) (w : World) (h0 : 0 ≤ a0) (h1 : a0 ≤ 18446744073709551615) (k0 : 0 ≤ a1) (k1 : a1 ≤ 18446744073709551615)
    (g0 : 0 ≤ b0) (g1 : b0 ≤ 18446744073709551615) (j0 : 0 ≤ b1) (j1 : b1 ≤ 18446744073709551615) :
    Calls Tryd.prog 31 #[.int .u8 f, .agg #[.int .u64 a0, .int .u64 a1], .agg #[.int .u64 b0, .int .u64 b1]] w (RetK (kL f a0 a1 * kL f b0 b1) w) := by
  rcases hf.or with rfl | rfl
  · have hz : kI (Pm 1) (a0 * b0) = kL 1 a0 a1 * kL 1 b0 b1 := by rw [kI_mul]; rfl
    show Calls Tryd.prog 31 #[.int .u8 1, .agg #[.int .u64 a0, .int .u64 a1], .agg #[.int .u64 b0, .int .u64 b1]] w (RetK (kL 1 a0 a1 * kL 1 b0 b1) w)
    rw [← hz]
    have hv : vK (kI (Pm 1) (a0 * b0)) = .agg #[.int .u64 (a0 * b0 % 18446744069414584321), .int .u64 0] := by
      have hp : ((Pm 1 : Nat) : Int) = 18446744069414584321 := rfl
      have h := vK_of (x := kI (Pm 1) (a0 * b0)) (z0 := a0 * b0 % 18446744069414584321) (z1 := 0) (by rw [val_kI, hp]; omega) (Int.emod_nonneg _ (by omega)) (by have := Int.emod_lt_of_pos (a0 * b0) (show (0 : Int) < 18446744069414584321 by omega); omega)
      show Value.agg #[.int .u64 (lo _), .int .u64 (hi _)] = _
      rw [h.1, h.2]
    clear hz
    go_enter Tryd.func31, Tryd.ntmps31
    go_wp2_with (go_at_call 70; refine (gold_Mul _ _ _ (by omega) (by omega) (by omega) (by omega)).mono ?_; rintro e w' ⟨rfl, rfl⟩)
    refine bodyPost_ret (by simp [results, Tryd.results31, go_sem]; rfl) rfl ⟨by rw [hv], by repeat (first | exact Below.refl _ _ | with_reducible assumption | (refine bl_alloc ?_ (Nat.le_refl _) _) | (refine bl_set ?_ (by dsimp only; omega) _) | (refine Below.drew ?_) | (refine bl_drewN ?_ _) | (refine bl_call ?_ (Nat.le_refl _) (by assumption)))⟩
  · have HM := Lib.hid (fun wz => wide_MulL a0 a1 b0 b1 wz h0 h1 k0 k1 g0 g1 j0 j1)
    generalize kL 2 a0 a1 * kL 2 b0 b1 = z at *
    show Calls Tryd.prog 31 #[.int .u8 2, .agg #[.int .u64 a0, .int .u64 a1], .agg #[.int .u64 b0, .int .u64 b1]] w (RetK z w)
    go_enter Tryd.func31, Tryd.ntmps31
    go_upto_region 1 with fail
    have q0 := ((V2.new w (.int .u64 a0) (.int .u64 a1) 28).alloc (.cells #[(.int .u64 b0), (.int .u64 b1)] 28)).alloc (.cells #[(.int .u64 0), (.int .u64 0)] 28)
    have t0 := (V2.new (w.alloc (.cells #[(.int .u64 a0), (.int .u64 a1)] 28)) (.int .u64 b0) (.int .u64 b1) 28).alloc (.cells #[(.int .u64 0), (.int .u64 0)] 28)
    have s0 := V2.new ((w.alloc (.cells #[(.int .u64 a0), (.int .u64 a1)] 28)).alloc (.cells #[(.int .u64 b0), (.int .u64 b1)] 28)) (.int .u64 0) (.int .u64 0) 28
    simp only [World.size_alloc] at t0 s0
    have hb00 : Below w.heap.size w (((w.alloc (.cells #[(.int .u64 a0), (.int .u64 a1)] 28)).alloc (.cells #[(.int .u64 b0), (.int .u64 b1)] 28)).alloc (.cells #[(.int .u64 0), (.int .u64 0)] 28)) := by repeat (first | exact Below.refl _ _ | with_reducible assumption | (refine bl_alloc ?_ (Nat.le_refl _) _))
    have hsz : w.heap.size + 3 ≤ (((w.alloc (.cells #[(.int .u64 a0), (.int .u64 a1)] 28)).alloc (.cells #[(.int .u64 b0), (.int .u64 b1)] 28)).alloc (.cells #[(.int .u64 0), (.int .u64 0)] 28)).heap.size := by simp only [World.size_alloc]; omega
    generalize (((w.alloc (.cells #[(.int .u64 a0), (.int .u64 a1)] 28)).alloc (.cells #[(.int .u64 b0), (.int .u64 b1)] 28)).alloc (.cells #[(.int .u64 0), (.int .u64 0)] 28)) = w1 at q0 t0 s0 hb00 hsz ⊢
    obtain ⟨c0, c1, c2, c3, c4⟩ := q0
    obtain ⟨d0, d1, d2, d3, d4⟩ := t0
    go_wp2_with (go_at_call 71; refine (HM.out _).mono ?_; rintro e w5 ⟨rfl, hb5⟩; obtain ⟨e0, e1, e2, e3, e4⟩ := s0.call hb5)
    refine bodyPost_ret (results_v2 (b := w.heap.size + 1 + 1) (u := .int .u64 (lo z)) (v := .int .u64 (hi z)) ?_ rfl rfl) rfl ⟨rfl, by repeat (first | exact Below.refl _ _ | with_reducible assumption | (refine bl_alloc ?_ (Nat.le_refl _) _) | (refine bl_set ?_ (by dsimp only; omega) _) | (refine Below.drew ?_) | (refine bl_drewN ?_ _) | (refine bl_call ?_ (Nat.le_refl _) (by assumption)))⟩
    exact V2.set ⟨e0, e1, e2, e3, e4⟩ _ _

theorem field_Of {f : Nat} (hf : IsF f) (n : Int) (w : World) (h0 : 0 ≤ n) (h1 : n ≤ 18446744073709551615) :
    Calls Tryd.prog 65 #[.int .u8 f, .int .u64 n] w (RetK (kL f n 0) w) := by
  rcases hf.or with rfl | rfl
  · have hv : vK (kL 1 n 0) = .agg #[.int .u64 (n % 18446744069414584321), .int .u64 0] := by
      have hp : ((Pm 1 : Nat) : Int) = 18446744069414584321 := rfl
      have h := vK_of (x := kL 1 n 0) (z0 := n % 18446744069414584321) (z1 := 0) (by rw [← kI_nI, val_kI, hp]; show _ = n % _; omega) (Int.emod_nonneg _ (by omega)) (by have := Int.emod_lt_of_pos n (show (0 : Int) < 18446744069414584321 by omega); omega)
      show Value.agg #[.int .u64 (lo _), .int .u64 (hi _)] = _
      rw [h.1, h.2]
    show Calls Tryd.prog 65 #[.int .u8 1, .int .u64 n] w (RetK (kL 1 n 0) w)
    go_enter Tryd.func65, Tryd.ntmps65
    go_wp2_with (go_at_call 88; refine (gold_Of _ _ (by omega) (by omega)).mono ?_; rintro e w' ⟨rfl, rfl⟩)
    refine bodyPost_ret (by simp [results, Tryd.results65, go_sem]; rfl) rfl ⟨by rw [hv], by repeat (first | exact Below.refl _ _ | with_reducible assumption | (refine bl_alloc ?_ (Nat.le_refl _) _) | (refine bl_set ?_ (by dsimp only; omega) _) | (refine Below.drew ?_) | (refine bl_drewN ?_ _) | (refine bl_call ?_ (Nat.le_refl _) (by assumption)))⟩
  · have hv : vK (kL 2 n 0) = .agg #[.int .u64 n, .int .u64 0] := by
      have h := vK_of (x := kL 2 n 0) (z0 := n) (z1 := 0) (by rw [← kI_nI, val_kI, P2_int, nI2]; omega) h0 h1
      show Value.agg #[.int .u64 (lo _), .int .u64 (hi _)] = _
      rw [h.1, h.2]
    show Calls Tryd.prog 65 #[.int .u8 2, .int .u64 n] w (RetK (kL 2 n 0) w)
    go_enter Tryd.func65, Tryd.ntmps65
    go_wp2
    refine bodyPost_ret (by simp [results, Tryd.results65, go_sem]; rfl) rfl ⟨by rw [hv], by repeat (first | exact Below.refl _ _ | with_reducible assumption | (refine bl_alloc ?_ (Nat.le_refl _) _) | (refine bl_set ?_ (by dsimp only; omega) _) | (refine Below.drew ?_) | (refine bl_drewN ?_ _) | (refine bl_call ?_ (Nat.le_refl _) (by assumption)))⟩

theorem field_One {f : Nat} (hf : IsF f) (w : World) : Calls Tryd.prog 75 #[.int .u8 f] w (RetK (1 : Fin (Pm f)) w) := by
  have h := fun wz => field_Of hf 1 wz (by omega) (by omega)
  rw [kL_one] at h
  have H := Lib.hid h
  clear h
  go_enter Tryd.func75, Tryd.ntmps75
  go_upto_region 1 with fail
  have s0 := V2.new w (.int .u64 0) (.int .u64 0) 28
  have hb00 : Below w.heap.size w (w.alloc (.cells #[(.int .u64 0), (.int .u64 0)] 28)) := by repeat (first | exact Below.refl _ _ | with_reducible assumption | (refine bl_alloc ?_ (Nat.le_refl _) _))
  have hsz : w.heap.size + 1 ≤ (w.alloc (.cells #[(.int .u64 0), (.int .u64 0)] 28)).heap.size := by simp only [World.size_alloc]; omega
  generalize (w.alloc (.cells #[(.int .u64 0), (.int .u64 0)] 28)) = w1 at s0 hb00 hsz ⊢
  go_wp2_with (go_at_call 65; refine (H.out _).mono ?_; rintro e w5 ⟨rfl, hb5⟩; obtain ⟨e0, e1, e2, e3, e4⟩ := s0.call hb5)
  refine bodyPost_ret (results_v2 (b := w.heap.size) (u := .int .u64 (lo (1 : Fin (Pm f)))) (v := .int .u64 (hi (1 : Fin (Pm f)))) ?_ rfl rfl) rfl ⟨rfl, by repeat (first | exact Below.refl _ _ | with_reducible assumption | (refine bl_alloc ?_ (Nat.le_refl _) _) | (refine bl_set ?_ (by dsimp only; omega) _) | (refine Below.drew ?_) | (refine bl_drewN ?_ _) | (refine bl_call ?_ (Nat.le_refl _) (by assumption)))⟩
  exact V2.set ⟨e0, e1, e2, e3, e4⟩ _ _

theorem field_NegL {f : Nat} (hf : IsF f) (a0 a1 : Int) (w : World) (h0 : 0 ≤ a0) (h1 : a0 ≤ 18446744073709551615) (k0 : 0 ≤ a1) (k1 : a1 ≤ 18446744073709551615) :
    Calls Tryd.prog 76 #[.int .u8 f, .agg #[.int .u64 a0, .int .u64 a1]] w (RetK (- kL f a0 a1) w) := by
  have h := fun wz => field_SubL hf 0 0 a0 a1 wz (by omega) (by omega) (by omega) (by omega) h0 h1 k0 k1
  rw [kL_zero, show (0 : Fin (Pm f)) - kL f a0 a1 = - kL f a0 a1 by grind] at h
  generalize - kL f a0 a1 = z at *
  have H := Lib.hid h
  clear h
  go_enter Tryd.func76, Tryd.ntmps76
  go_upto_region 1 with fail
  have q0 := (V2.new w (.int .u64 a0) (.int .u64 a1) 28).alloc (.cells #[(.int .u64 0), (.int .u64 0)] 28)
  have s0 := V2.new (w.alloc (.cells #[(.int .u64 a0), (.int .u64 a1)] 28)) (.int .u64 0) (.int .u64 0) 28
  simp only [World.size_alloc] at s0
  have hb00 : Below w.heap.size w ((w.alloc (.cells #[(.int .u64 a0), (.int .u64 a1)] 28)).alloc (.cells #[(.int .u64 0), (.int .u64 0)] 28)) := by repeat (first | exact Below.refl _ _ | with_reducible assumption | (refine bl_alloc ?_ (Nat.le_refl _) _))
  have hsz : w.heap.size + 2 ≤ ((w.alloc (.cells #[(.int .u64 a0), (.int .u64 a1)] 28)).alloc (.cells #[(.int .u64 0), (.int .u64 0)] 28)).heap.size := by simp only [World.size_alloc]; omega
  generalize ((w.alloc (.cells #[(.int .u64 a0), (.int .u64 a1)] 28)).alloc (.cells #[(.int .u64 0), (.int .u64 0)] 28)) = w1 at q0 s0 hb00 hsz ⊢
  obtain ⟨c0, c1, c2, c3, c4⟩ := q0
  go_wp2_with (go_at_call 72; refine (H.out _).mono ?_; rintro e w5 ⟨rfl, hb5⟩; obtain ⟨e0, e1, e2, e3, e4⟩ := s0.call hb5)
  refine bodyPost_ret (results_v2 (b := w.heap.size + 1) (u := .int .u64 (lo z)) (v := .int .u64 (hi z)) ?_ rfl rfl) rfl ⟨rfl, by repeat (first | exact Below.refl _ _ | with_reducible assumption | (refine bl_alloc ?_ (Nat.le_refl _) _) | (refine bl_set ?_ (by dsimp only; omega) _) | (refine Below.drew ?_) | (refine bl_drewN ?_ _) | (refine bl_call ?_ (Nat.le_refl _) (by assumption)))⟩
  exact V2.set ⟨e0, e1, e2, e3, e4⟩ _ _

section
variable {f : Nat} (hf : IsF f)
include hf
theorem field_MulK (x y : Fin (Pm f)) (w : World) : Calls Tryd.prog 31 #[.int .u8 f, vK x, vK y] w (RetK (x * y) w) := by
  have h := field_MulL hf (lo x) (hi x) (lo y) (hi y) w (lo_0 x) (lo_1 x) (hi_0 x) (hi_1 x) (lo_0 y) (lo_1 y) (hi_0 y) (hi_1 y)
  rwa [kL_lohi, kL_lohi] at h
theorem field_NegK (x : Fin (Pm f)) (w : World) : Calls Tryd.prog 76 #[.int .u8 f, vK x] w (RetK (-x) w) := by
  have h := field_NegL hf (lo x) (hi x) w (lo_0 x) (lo_1 x) (hi_0 x) (hi_1 x)
  rwa [kL_lohi] at h
end

end Go.Proofs.YtfhmineolncefaaDoor

namespace Go.Proofs.YtfhmineolncefaaDoor
open Go.RowKit Fm
set_option linter.unusedVariables false
set_option maxRecDepth 100000

/-- block b holds the values cs, from its head on -/
structure Vs (w : World) (b : Nat) (cs : List Value) : Prop where
  cell : ∀ i v, cs[i]? = some v → w.cell? ⟨b, i, none⟩ = some v
  frz : ∀ i, i < cs.length → w.frozen? ⟨b, i, none⟩ = false
  lt : b < w.heap.size

section
variable {w w' : World} {b : Nat} {cs : List Value}
theorem Vs.call (h : Vs w b cs) (hb : Below w.heap.size w w') : Vs w' b cs :=
  ⟨fun i v hi => cell_call (h.cell i v hi) hb, fun i hi => frozen_call h.lt (h.frz i hi) hb, Nat.lt_of_lt_of_le h.lt hb.size⟩
theorem Vs.alloc (h : Vs w b cs) (o : Obj) : Vs (w.alloc o) b cs := h.call ((Below.refl _ _).alloc (Nat.le_refl _) o)
theorem Vs.drew (h : Vs w b cs) : Vs w.drew b cs := ⟨h.cell, h.frz, h.lt⟩
theorem Vs.drewN (h : Vs w b cs) (n : Nat) : Vs (w.drewN n) b cs := ⟨h.cell, h.frz, h.lt⟩
theorem Vs.new (w : World) (cs : List Value) (a : Array Value) (t : TypeId) (h : a = cs.toArray) : Vs (w.alloc (.cells a t)) w.heap.size cs := by
  subst h
  refine ⟨fun i v hi => ?_, fun i hi => World.frozen?_alloc_at _ _ _ _ rfl, by simp⟩
  rw [World.cell?_alloc_at _ _ _ _ rfl]
  simpa using hi
theorem Vs.far (h : Vs w b cs) {p : Addr} (hp : p.block ≠ b) (x : Value) : Vs (w.setCell p x) b cs := by
  have hb : (w.setCell p x).heap[b]? = w.heap[b]? := Below.heap_setCell w p x b (fun e => hp e.symm)
  exact ⟨fun i v hi => (World.cell?_of_block (w := w) (a := ⟨b, i, none⟩) hb).trans (h.cell i v hi), fun i hi => (World.frozen?_of_block (w := w) (a := ⟨b, i, none⟩) hb).trans (h.frz i hi), by simpa [World.setCell] using h.lt⟩
theorem Vs.put (h : Vs w b cs) (i : Nat) (hi : i < cs.length) (x : Value) : Vs (w.setCell ⟨b, i, none⟩ x) b (cs.set i x) := by
  refine ⟨fun j v hj => ?_, fun j hj => ?_, by simpa [World.setCell] using h.lt⟩
  · by_cases hij : i = j
    · subst hij
      rw [List.getElem?_set_self hi] at hj
      have hs : (w.cell? ⟨b, i, none⟩).isSome = true := by rw [h.cell i _ (List.getElem?_eq_getElem hi)]; rfl
      rw [World.cell?_setCell_same' _ _ _ hs]
      exact hj
    · rw [List.getElem?_set_ne hij] at hj
      rw [World.cell?_setCell_other _ _ _ _ (by first | (simp; done) | (simp; omega))]
      exact h.cell j v hj
  · have := h.frz j (by simpa using hj)
    simpa [go_sem] using this
theorem Vs.of2 {u v : Value} (h : V2 w b u v) : Vs w b [u, v] := by
  refine ⟨fun i x hi => ?_, fun i hi => ?_, h.lt⟩
  · match i, hi with
    | 0, hi => obtain rfl : u = x := by simpa using hi
               exact h.c0
    | 1, hi => obtain rfl : v = x := by simpa using hi
               exact h.c1
  · match i, hi with
    | 0, _ => exact h.f0
    | 1, _ => exact h.f1
theorem Vs.to2 {u v : Value} (h : Vs w b [u, v]) : V2 w b u v := ⟨h.cell 0 _ rfl, h.cell 1 _ rfl, h.frz 0 (by simp), h.frz 1 (by simp), h.lt⟩
theorem Vs.get1 {x : Value} (h : Vs w b [x]) : w.cell? ⟨b, 0, none⟩ = some x ∧ w.frozen? ⟨b, 0, none⟩ = false ∧ b < w.heap.size := ⟨h.cell 0 _ rfl, h.frz 0 (by simp), h.lt⟩
theorem Vs.get3 {x y z : Value} (h : Vs w b [x, y, z]) : w.cell? ⟨b, 0, none⟩ = some x ∧ w.cell? ⟨b, 1, none⟩ = some y ∧ w.cell? ⟨b, 2, none⟩ = some z ∧ w.frozen? ⟨b, 0, none⟩ = false ∧ w.frozen? ⟨b, 1, none⟩ = false ∧ w.frozen? ⟨b, 2, none⟩ = false ∧ b < w.heap.size :=
  ⟨h.cell 0 _ rfl, h.cell 1 _ rfl, h.cell 2 _ rfl, h.frz 0 (by simp), h.frz 1 (by simp), h.frz 2 (by simp), h.lt⟩
theorem Vs.get6 {x y z p q r : Value} (h : Vs w b [x, y, z, p, q, r]) : (w.cell? ⟨b, 0, none⟩ = some x ∧ w.cell? ⟨b, 1, none⟩ = some y ∧ w.cell? ⟨b, 2, none⟩ = some z ∧ w.cell? ⟨b, 3, none⟩ = some p ∧ w.cell? ⟨b, 4, none⟩ = some q ∧ w.cell? ⟨b, 5, none⟩ = some r) ∧
    (w.frozen? ⟨b, 0, none⟩ = false ∧ w.frozen? ⟨b, 1, none⟩ = false ∧ w.frozen? ⟨b, 2, none⟩ = false ∧ w.frozen? ⟨b, 3, none⟩ = false ∧ w.frozen? ⟨b, 4, none⟩ = false ∧ w.frozen? ⟨b, 5, none⟩ = false) ∧ b < w.heap.size :=
  ⟨⟨h.cell 0 _ rfl, h.cell 1 _ rfl, h.cell 2 _ rfl, h.cell 3 _ rfl, h.cell 4 _ rfl, h.cell 5 _ rfl⟩, ⟨h.frz 0 (by simp), h.frz 1 (by simp), h.frz 2 (by simp), h.frz 3 (by simp), h.frz 4 (by simp), h.frz 5 (by simp)⟩, h.lt⟩
end

/-- a new variable of the values cs -/
def NewV (B : Nat) (cs : List Value) (v : Value) (w : World) : Prop := ∃ b, v = .pointer (some ⟨b, 0, none⟩) ∧ B ≤ b ∧ Vs w b cs
theorem newV_stable (B : Nat) (cs : List Value) : ∀ v w w', NewV B cs v w → Below w.heap.size w w' → NewV B cs v w' := fun _ _ _ ⟨b, h1, h2, h3⟩ hb => ⟨b, h1, h2, h3.call hb⟩

end Go.Proofs.YtfhmineolncefaaDoor

namespace Go.Proofs.YtfhmineolncefaaDoor
open Go Go.RowKit

/-- what is known outlasts whatever turns nothing below -/
def Clo (S : World → Prop) : Prop := ∀ w w', S w → Below w.heap.size w w' → S w'
theorem Clo.below (W : World) : Clo (Below W.heap.size W) := fun _ _ h hb => h.trans (hb.mono h.size)
theorem Clo.and {S T : World → Prop} (h : Clo S) (k : Clo T) : Clo (fun w => S w ∧ T w) := fun w w' x hb => ⟨h w w' x.1 hb, k w w' x.2 hb⟩

section
variable {P : Program} {ops : Array Oper} {Q : Exit → Act → World → Prop} {md : Region.Mode}

theorem Det.weak {S S' : World → Prop} (hm : ∀ w, S' w → S w) {o : Oper} {v : Value} {a : Act} (h : Det P ops S o v a) : Det P ops S' o v a :=
  h.imp (fun h => ⟨h.1, fun w hw => h.2 w (hm w hw)⟩) id

/-- the head in whatever order; what is known grows; then L -/
def wpG (P : Program) (md : Region.Mode) (ops : Array Oper) (Q : Exit → Act → World → Prop) (n m : Nat) (L : Act → World → Prop) : Nat → Array Bool → Act → (World → Prop) → Prop
  | 0, listed, a, S => Region.seqB md ops (m - n) n listed = true ∧ ∀ w, S w → L a w
  | f + 1, listed, a, S =>
    Region.ready md ops listed ≠ [] ∧
    ∀ i ∈ Region.ready md ops listed, i < n ∧ ∀ w, S w → wpOp P ops Q i (fun a' w' => ∃ S' : World → Prop, Clo S' ∧ (∀ w, S' w → S w) ∧ S' w' ∧ wpG P md ops Q n m L f (listed.setIfInBounds i true) a' S') a w

theorem wpAny_of_G {n m : Nat} {L : Act → World → Prop} (hL : ∀ listed a w, Region.seqB md ops (m - n) n listed = true → L a w → wpAny P md ops Q (m - n) listed a w) :
    ∀ (f : Nat) (listed : Array Bool) (a : Act) (S : World → Prop), wpG P md ops Q n m L f listed a S → ∀ w, S w → wpAny P md ops Q (f + (m - n)) listed a w
  | 0, listed, a, S, h, w, hS => by rw [Nat.zero_add]; exact hL _ _ _ h.1 (h.2 w hS)
  | f + 1, listed, a, S, h, w, hS => by
    rw [show f + 1 + (m - n) = (f + (m - n)) + 1 by omega]
    refine ⟨fun h0 => absurd h0 h.1, fun i hi => wpOp_mono (fun a' w' h' => ?_) ((h.2 i hi).2 w hS)⟩
    obtain ⟨S', _, _, hS', hG⟩ := h'
    exact wpAny_of_G hL f _ a' S' hG w' hS'

theorem wpG_first {n m : Nat} {L : Act → World → Prop} (hp : Parts md ops n m) {i : Nat} {oi : Oper} {v : Value} (hi : ops[i]? = some oi) (hin : i < n)
    (hQ : ∀ c a w, Q (.panic c) (a.put oi.dst v) w → Q (.panic c) a w) :
    ∀ (f : Nat) (listed : Array Bool) (a : Act) (S : World → Prop), Clo S → HInv md ops n m listed →
      (∀ j oj, ops[j]? = some oj → j ≠ i → listed.getD j true = false → (∀ e ∈ oj.after, Region.binds md e = true → e.on ≠ i) → oi.apart ops oj = true) →
      i ∈ Region.ready md ops listed → Det P ops S oi v a →
      wpG P md ops Q n m L f (listed.setIfInBounds i true) (a.put oi.dst v) S → wpG P md ops Q n m L (f + 1) listed a S := by
  have hsel := Region.noSelect_spec hp.nosel
  intro f
  induction f with
  | zero =>
    intro listed a S hC inv _ hr hy H
    have hun := (mem_ready.1 hr).1
    refine ⟨fun h => (by rw [h] at hr; cases hr), fun j hj => ?_⟩
    have hjn : j < n := by
      rcases Nat.lt_or_ge j n with h | h
      · exact h
      · exact absurd hj (head_only hp inv _ i rfl hin hun j h)
    refine ⟨hjn, fun w hS => ?_⟩
    by_cases hji : j = i
    · subst hji
      exact hy.wpOp hi hS fun w' hb => ⟨S, hC, fun _ h => h, hC _ _ hS hb, H⟩
    · have := seqB_ready H.1 j (ready_mono hj hji)
      omega
  | succ f ih =>
    intro listed a S hC inv hfree hr hy H
    have hun := (mem_ready.1 hr).1
    refine ⟨fun h => (by rw [h] at hr; cases hr), fun j hj => ?_⟩
    have hjn : j < n := by
      rcases Nat.lt_or_ge j n with h | h
      · exact h
      · exact absurd hj (head_only hp inv _ i rfl hin hun j h)
    refine ⟨hjn, fun w hS => ?_⟩
    by_cases hji : j = i
    · subst hji
      exact hy.wpOp hi hS fun w' hb => ⟨S, hC, fun _ h => h, hC _ _ hS hb, H⟩
    · have h1 := (H.2 j (ready_mono hj hji)).2 w hS
      obtain ⟨hjun, oj, hoj, hall⟩ := mem_ready.1 hj
      have hnot : ∀ e ∈ oj.after, Region.binds md e = true → e.on ≠ i := fun e he hb heq => by
        have h1 := hall e he hb
        rw [heq, getD_both hun] at h1
        cases h1
      have h2 := wpOp_putDet hoj (hfree j oj hoj hji hjun hnot) (fun cs b => hsel i oi cs b hi) (fun cs b => hsel j oj cs b hoj) hQ hy h1
      have hfree' : ∀ k ok, ops[k]? = some ok → k ≠ i → (listed.setIfInBounds j true).getD k true = false →
          (∀ e ∈ ok.after, Region.binds md e = true → e.on ≠ i) → oi.apart ops ok = true := fun k ok hk hki hu hno => by
        refine hfree k ok hk hki ?_ hno
        by_cases hjk : j = k
        · subst hjk
          exact hjun
        · rw [getD_set_ne true hjk] at hu
          exact hu
      refine wpOp_mono (fun a' w' h3 => ?_) h2
      have hcomm : (listed.setIfInBounds i true).setIfInBounds j true = (listed.setIfInBounds j true).setIfInBounds i true := (Array.setIfInBounds_comm _ _ hji).symm
      rw [hcomm] at h3
      obtain ⟨hd, S', hC', hm', hS', hG⟩ := h3
      exact ⟨S', hC', hm', hS', ih (listed.setIfInBounds j true) a' S' hC' (inv.set hj hjn hp.lt) hfree' (ready_mono hr (Ne.symm hji)) (hd.weak hm') hG⟩

/-- the walk's own form -/
def WpG (P : Program) (md : Region.Mode) (ops : Array Oper) (Q : Exit → Act → World → Prop) (n m : Nat) (L : Act → World → Prop) (f : Nat) (listed : Array Bool) (a : Act) (S : World → Prop) : Prop :=
  Clo S → Parts md ops n m → HInv md ops n m listed → wpG P md ops Q n m L f listed a S

variable {n m : Nat} {L : Act → World → Prop} {S : World → Prop} {f : Nat} {listed : Array Bool} {a : Act}

/-- take number i first: one value in every world -/
theorem WpG.take {i : Nat} {oi : Oper} {v : Value} (hi : ops[i]? = some oi)
    (hB : (decide (i < n) && Region.free md ops listed i && (Region.ready md ops listed).contains i) = true)
    (hQ : ∀ c a w, Q (.panic c) (a.put oi.dst v) w → Q (.panic c) a w)
    (hy : Det P ops S oi v a)
    (h : WpG P md ops Q n m L f (listed.setIfInBounds i true) (a.put oi.dst v) S) : WpG P md ops Q n m L (f + 1) listed a S := by
  simp only [Bool.and_eq_true, decide_eq_true_eq] at hB
  obtain ⟨⟨hin, hf⟩, hr⟩ := hB
  have hr' : i ∈ Region.ready md ops listed := by simpa using hr
  exact fun hC hp inv => wpG_first hp hi hin hQ f listed a S hC inv (Region.free_spec hi hf) hr' hy (h hC hp (inv.set hr' hin hp.lt))

/-- a thing that may be made anew by an operation: of a kind ι, its value, and what holds of it -/
def Fresh (P : Program) (ops : Array Oper) (S : World → Prop) {ι : Type} (F : ι → Value) (R : ι → World → Prop) (o : Oper) (a : Act) : Prop :=
  Region.wanted o (yielded ops a.tmps) = true ∧ ∀ w, S w → UponV P (fun v w' => ∃ x, v = F x ∧ R x w' ∧ Below w.heap.size w w') ((execOp a.eval o).run P w)

theorem Fresh.wpOp {i : Nat} {oi : Oper} (hi : ops[i]? = some oi) {ι : Type} {F : ι → Value} {R : ι → World → Prop} (hy : Fresh P ops S F R oi a) {K : Act → World → Prop} {w : World} (hw : S w)
    (h : ∀ x w', R x w' → Below w.heap.size w w' → K (a.put oi.dst (F x)) w') : wpOp P ops Q i K a w := by
  unfold Go.wpOp
  simp only [hi]
  simp only [hy.1, if_true]
  refine .inl ?_
  unfold Oper.wp
  refine (hy.2 w hw).upon ?_
  rintro u w' ⟨x, rfl, hR, hb⟩
  exact h x w' hR hb

/-- number i alone comes up, and makes something new -/
theorem WpG.one {i : Nat} {oi : Oper} (hi : ops[i]? = some oi) (hB : (decide (i < n) && decide (Region.ready md ops listed = [i])) = true)
    {ι : Type} (F : ι → Value) (R : ι → World → Prop) (hR : ∀ x, Clo (R x)) (hy : Fresh P ops S F R oi a)
    (h : ∀ x w0, S w0 → R x w0 → WpG P md ops Q n m L f (listed.setIfInBounds i true) (a.put oi.dst (F x)) (fun w => S w ∧ R x w)) : WpG P md ops Q n m L (f + 1) listed a S := by
  simp only [Bool.and_eq_true, decide_eq_true_eq] at hB
  obtain ⟨hin, hr⟩ := hB
  intro hC hp inv
  refine ⟨by rw [hr]; simp, fun j hj => ?_⟩
  have hj' : j = i := by rw [hr] at hj; simpa using hj
  subst hj'
  refine ⟨hin, fun w hS => hy.wpOp hi hS fun x w' hRx hb => ?_⟩
  exact ⟨_, hC.and (hR x), fun _ hw => hw.1, ⟨hC _ _ hS hb, hRx⟩, h x w' (hC _ _ hS hb) hRx (hC.and (hR x)) hp (inv.set hj hin hp.lt)⟩

/-- one of two comes up, and makes something new -/
theorem WpG.two {i k : Nat} {oi ok : Oper} (hi : ops[i]? = some oi) (hk : ops[k]? = some ok) (hB : (decide (i < n) && decide (k < n) && decide (Region.ready md ops listed = [i, k])) = true)
    {ι κ : Type} (F : ι → Value) (R : ι → World → Prop) (hR : ∀ x, Clo (R x)) (hy : Fresh P ops S F R oi a)
    (F' : κ → Value) (R' : κ → World → Prop) (hR' : ∀ x, Clo (R' x)) (hy' : Fresh P ops S F' R' ok a)
    (h : ∀ x w0, S w0 → R x w0 → WpG P md ops Q n m L f (listed.setIfInBounds i true) (a.put oi.dst (F x)) (fun w => S w ∧ R x w))
    (h' : ∀ x w0, S w0 → R' x w0 → WpG P md ops Q n m L f (listed.setIfInBounds k true) (a.put ok.dst (F' x)) (fun w => S w ∧ R' x w)) : WpG P md ops Q n m L (f + 1) listed a S := by
  simp only [Bool.and_eq_true, decide_eq_true_eq] at hB
  obtain ⟨⟨hin, hkn⟩, hr⟩ := hB
  intro hC hp inv
  refine ⟨by rw [hr]; simp, fun j hj => ?_⟩
  have hj' : j = i ∨ j = k := by rw [hr] at hj; simpa using hj
  rcases hj' with rfl | rfl
  · refine ⟨hin, fun w hS => hy.wpOp hi hS fun x w' hRx hb => ?_⟩
    exact ⟨_, hC.and (hR x), fun _ hw => hw.1, ⟨hC _ _ hS hb, hRx⟩, h x w' (hC _ _ hS hb) hRx (hC.and (hR x)) hp (inv.set hj hin hp.lt)⟩
  · refine ⟨hkn, fun w hS => hy'.wpOp hk hS fun x w' hRx hb => ?_⟩
    exact ⟨_, hC.and (hR' x), fun _ hw => hw.1, ⟨hC _ _ hS hb, hRx⟩, h' x w' (hC _ _ hS hb) hRx (hC.and (hR' x)) hp (inv.set hj hkn hp.lt)⟩

/-- all of the head has come up -/
theorem WpG.done (hB : Region.seqB md ops (m - n) n listed = true) (h : ∀ w, S w → L a w) : WpG P md ops Q n m L 0 listed a S := fun _ _ _ => ⟨hB, h⟩

/-- what is known, said otherwise -/
theorem WpG.weak {S' : World → Prop} (hm : ∀ w, S w → S' w) (hm' : ∀ w, S' w → S w) (h : WpG P md ops Q n m L f listed a S') : WpG P md ops Q n m L f listed a S := by
  have : S = S' := funext fun w => propext ⟨hm w, hm' w⟩
  rw [this]
  exact h

theorem any_G {l : List Oper} {w : World} (hB : partsB md l.toArray n m listed = true) (hC : Clo S) (hS : S w)
    (h : WpG P md l.toArray Q n m (wpList P l.toArray Q ((l.drop n).take (m - n))) f listed a S) : wpAny P md l.toArray Q (f + (m - n)) listed a w := by
  obtain ⟨hp, inv⟩ := parts_of hB
  refine wpAny_of_G (L := wpList P l.toArray Q ((l.drop n).take (m - n))) (fun listed' a' w' hq hl => ?_) f listed a S (h hC hp inv) w hS
  have hlen : ((l.drop n).take (m - n)).length = m - n := by
    have := hp.le
    simp at this ⊢
    omega
  have := any_of_tail (P := P) (md := md) (ops := l.toArray) (Q' := Q) ((l.drop n).take (m - n)) n listed' a' w' (fun j hj => ?_) (by rw [hlen]; exact hq) hl
  · rwa [hlen] at this
  · rw [hlen] at hj
    simp [hj]
end

section
variable {P : Program} {Q : Exit → Act → World → Prop}
theorem region_G {id n m f : Nat} {l : List Oper} {a : Act} {w : World} (hm : P.follows .mixedOrders = true) (hB : partsB .any l.toArray n m (Array.replicate l.length false) = true) (hf : f + (m - n) = l.length)
    (h : WpG P .any l.toArray Q n m (wpList P l.toArray Q ((l.drop n).take (m - n))) f (Array.replicate l.length false) a (Below w.heap.size w)) : (Code.region id l.toArray true).wp P Q a w := by
  refine wp_region_any hm ?_
  have := any_G (w := w.drew) hB (Clo.below w) ((Below.refl _ _).drew) h
  rw [hf] at this
  simpa using this

/-- a new variable -/
theorem Fresh.var {ops : Array Oper} {S : World → Prop} {o : Oper} {a : Act} {B : Nat} (cs : List Value) (t : TypeId) (hw : Region.wanted o (yielded ops a.tmps) = true) (hB : ∀ w, S w → B ≤ w.heap.size)
    (h : ∀ w, S w → (execOp a.eval o).run P w = .ok (.value (.pointer (some ⟨w.heap.size, 0, none⟩))) (w.alloc (.cells cs.toArray t))) {R : Nat → World → Prop} (hR : ∀ w, S w → R w.heap.size (w.alloc (.cells cs.toArray t))) :
    Fresh P ops S (fun b : Nat => .pointer (some ⟨b, 0, none⟩)) (fun b w => B ≤ b ∧ R b w) o a :=
  ⟨hw, fun w hS => by rw [h w hS]; exact ⟨w.heap.size, rfl, ⟨hB w hS, hR w hS⟩, (Below.refl _ _).alloc (Nat.le_refl _) _⟩⟩
/-- a new slice -/
theorem Fresh.slice {ops : Array Oper} {S : World → Prop} {o : Oper} {a : Act} {B : Nat} (k c : Nat) (cs : List Value) (t : TypeId) (hw : Region.wanted o (yielded ops a.tmps) = true) (hB : ∀ w, S w → B ≤ w.heap.size)
    (h : ∀ w, S w → (execOp a.eval o).run P w = .ok (.value (.slice (some ⟨w.heap.size, 0, none⟩) k c)) (w.alloc (.cells cs.toArray t))) {R : Nat → World → Prop} (hR : ∀ w, S w → R w.heap.size (w.alloc (.cells cs.toArray t))) :
    Fresh P ops S (fun b : Nat => .slice (some ⟨b, 0, none⟩) k c) (fun b w => B ≤ b ∧ R b w) o a :=
  ⟨hw, fun w hS => by rw [h w hS]; exact ⟨w.heap.size, rfl, ⟨hB w hS, hR w hS⟩, (Below.refl _ _).alloc (Nat.le_refl _) _⟩⟩
/-- a call whose result is new -/
theorem Fresh.call {ops : Array Oper} {S : World → Prop} {o : Oper} {a : Act} {f : FuncId} {args : Array Value} {ι : Type} {F : ι → Value} {R : ι → World → Prop} (hw : Region.wanted o (yielded ops a.tmps) = true)
    (hc : ∀ w, S w → Calls P f args w (fun e w' => ∃ x, e = .returned (F x) ∧ R x w' ∧ Below w.heap.size w w')) (h : ∀ w, S w → (execOp a.eval o).run P w = .ok (.enter f args) w) : Fresh P ops S F R o a :=
  ⟨hw, fun w hS => by rw [h w hS]; exact Calls.mono (hc w hS) fun e w' ⟨x, he, hr, hb⟩ => ⟨F x, he, x, rfl, hr, hb⟩⟩
end

end Go.Proofs.YtfhmineolncefaaDoor

namespace Go.Proofs.YtfhmineolncefaaDoor
open Go Go.RowKit

section
variable {P : Program} {ops : Array Oper} {Q : Exit → Act → World → Prop} {md : Region.Mode} {S : Array Bool → Act → World → Prop}

/-- either of two may come up -/
theorem WpH.two {n m : Nat} {L : Act → World → Prop} {i k : Nat} {f : Nat} {listed : Array Bool} {a : Act}
    (hB : (decide (i < n) && decide (k < n) && decide (Region.ready md ops listed = [i, k])) = true)
    (hi : ∀ w, S listed a w → wpOp P ops Q i (fun a' w' => S (listed.setIfInBounds i true) a' w' ∧ WpH P md ops Q n m S L f (listed.setIfInBounds i true) a') a w)
    (hk : ∀ w, S listed a w → wpOp P ops Q k (fun a' w' => S (listed.setIfInBounds k true) a' w' ∧ WpH P md ops Q n m S L f (listed.setIfInBounds k true) a') a w) : WpH P md ops Q n m S L (f + 1) listed a := by
  simp only [Bool.and_eq_true, decide_eq_true_eq] at hB
  obtain ⟨⟨hin, hkn⟩, hr⟩ := hB
  intro hp inv
  refine ⟨by rw [hr]; simp, fun j hj => ?_⟩
  have hj' : j = i ∨ j = k := by rw [hr] at hj; simpa using hj
  rcases hj' with rfl | rfl
  · exact ⟨hin, fun w hS => wpOp_mono (fun a' w' h' => ⟨h'.1, h'.2 hp (inv.set hj hin hp.lt)⟩) (hi w hS)⟩
  · exact ⟨hkn, fun w hS => wpOp_mono (fun a' w' h' => ⟨h'.1, h'.2 hp (inv.set hj hkn hp.lt)⟩) (hk w hS)⟩

/-- a new thing that nobody need know of later -/
theorem withNew_nd {W : World} {k : Nat} {t : Tmp} {R : Value → World → Prop} (hR : ∀ v w w', R v w → Below w.heap.size w w' → R v w') {l : Array Bool} {a : Act} {w w' : World} {i : Nat} {d : Option Tmp} {v : Value}
    (h : WithNew W k t R l a w) (hb : Below w.heap.size w w') (hik : (i == k) = false) (hd : (d == some t) = false) : WithNew W k t R (l.setIfInBounds i true) (a.put d v) w' := by
  rw [withNew_put hik hd]
  exact ⟨h.1.trans (hb.mono h.1.size), fun hk => hR _ _ _ (h.2 hk) hb⟩

/-- the new variable itself -/
theorem withNew_made {W : World} {k : Nat} {t : Tmp} {R : Value → World → Prop} {l : Array Bool} {a : Act} {w w' : World} {v : Value}
    (h : WithNew W k t R l a w) (hb : Below w.heap.size w w') (hlt : t < a.tmps.size) (hv : R v w') : WithNew W k t R (l.setIfInBounds k true) (a.put (some t) v) w' := by
  refine ⟨h.1.trans (hb.mono h.1.size), fun _ => ?_⟩
  have e : (a.put (some t) v).tmps.getD t undef = v := by simp [Act.put, hlt]
  rw [e]
  exact hv
end

end Go.Proofs.YtfhmineolncefaaDoor

namespace Go.Proofs.YtfhmineolncefaaDoor
open Go Go.RowKit

section
variable {P : Program} {ops : Array Oper} {Q : Exit → Act → World → Prop} {md : Region.Mode} {W : World} {n m f : Nat} {L : Act → World → Prop} {listed : Array Bool} {a : Act}

theorem WpH.takeD (i : Nat) (d : Option Tmp) {oi : Oper} {v : Value} (hi : ops[i]? = some oi) (hd : oi.dst = d)
    (hB : (decide (i < n) && Region.free md ops listed i && (Region.ready md ops listed).contains i) = true)
    (hQ : ∀ c a w, Q (.panic c) (a.put d v) w → Q (.panic c) a w)
    (hy : Det P ops (Below W.heap.size W) oi v a)
    (h : WpH P md ops Q n m (Flat (Below W.heap.size W)) L f (listed.setIfInBounds i true) (a.put d v)) : WpH P md ops Q n m (Flat (Below W.heap.size W)) L (f + 1) listed a := by
  subst hd
  exact WpH.takeB hi hB hQ hy h

theorem WpH.takeND {k : Nat} {t : Tmp} {R : Value → World → Prop} (hR : ∀ v w w', R v w → Below w.heap.size w w' → R v w') (i : Nat) (d : Option Tmp) {oi : Oper} {v : Value} (hi : ops[i]? = some oi) (hd : oi.dst = d)
    (hB : (decide (i < n) && Region.free md ops listed i && (Region.ready md ops listed).contains i) = true) (hik : (i == k) = false) (hdt : (d == some t) = false)
    (hQ : ∀ c a w, Q (.panic c) (a.put d v) w → Q (.panic c) a w)
    (hy : Det P ops (Below W.heap.size W) oi v a)
    (h : WpH P md ops Q n m (WithNew W k t R) L f (listed.setIfInBounds i true) (a.put d v)) : WpH P md ops Q n m (WithNew W k t R) L (f + 1) listed a := by
  subst hd
  exact WpH.takeN hR hi hB hik hdt hQ hy h

theorem wpOp_valueD (d : Option Tmp) {i : Nat} {o : Oper} {v : Value} {w w' : World} {K : Act → World → Prop} (hi : ops[i]? = some o) (hd : o.dst = d) (hw : Region.wanted o (yielded ops a.tmps) = true)
    (h : (execOp a.eval o).run P w = .ok (.value v) w') (hK : K (a.put d v) w') : wpOp P ops Q i K a w := by
  subst hd
  exact wpOp_value hi hw h hK

variable {S : World → Prop}
theorem WpG.takeD (i : Nat) (d : Option Tmp) {oi : Oper} {v : Value} (hi : ops[i]? = some oi) (hd : oi.dst = d)
    (hB : (decide (i < n) && Region.free md ops listed i && (Region.ready md ops listed).contains i) = true)
    (hQ : ∀ c a w, Q (.panic c) (a.put d v) w → Q (.panic c) a w)
    (hy : Det P ops S oi v a)
    (h : WpG P md ops Q n m L f (listed.setIfInBounds i true) (a.put d v) S) : WpG P md ops Q n m L (f + 1) listed a S := by
  subst hd
  exact WpG.take hi hB hQ hy h

theorem WpG.oneD (i : Nat) (d : Option Tmp) {oi : Oper} (hi : ops[i]? = some oi) (hd : oi.dst = d) (hB : (decide (i < n) && decide (Region.ready md ops listed = [i])) = true)
    {ι : Type} (F : ι → Value) (R : ι → World → Prop) (hR : ∀ x, Clo (R x)) (hy : Fresh P ops S F R oi a)
    (h : ∀ x w0, S w0 → R x w0 → WpG P md ops Q n m L f (listed.setIfInBounds i true) (a.put d (F x)) (fun w => S w ∧ R x w)) : WpG P md ops Q n m L (f + 1) listed a S := by
  subst hd
  exact WpG.one hi hB F R hR hy h

theorem WpG.twoD (i k : Nat) (d d' : Option Tmp) {oi ok : Oper} (hi : ops[i]? = some oi) (hd : oi.dst = d) (hk : ops[k]? = some ok) (hd' : ok.dst = d') (hB : (decide (i < n) && decide (k < n) && decide (Region.ready md ops listed = [i, k])) = true)
    {ι κ : Type} (F : ι → Value) (R : ι → World → Prop) (hR : ∀ x, Clo (R x)) (hy : Fresh P ops S F R oi a)
    (F' : κ → Value) (R' : κ → World → Prop) (hR' : ∀ x, Clo (R' x)) (hy' : Fresh P ops S F' R' ok a)
    (h : ∀ x w0, S w0 → R x w0 → WpG P md ops Q n m L f (listed.setIfInBounds i true) (a.put d (F x)) (fun w => S w ∧ R x w))
    (h' : ∀ x w0, S w0 → R' x w0 → WpG P md ops Q n m L f (listed.setIfInBounds k true) (a.put d' (F' x)) (fun w => S w ∧ R' x w)) : WpG P md ops Q n m L (f + 1) listed a S := by
  subst hd
  subst hd'
  exact WpG.two hi hk hB F R hR hy F' R' hR' hy' h h'

/-- number i alone comes up: a store (into what is new) -/
theorem WpG.oneSkip (i : Nat) (d : Option Tmp) {oi : Oper} (hi : ops[i]? = some oi) (hd : oi.dst = d) (hB : (decide (i < n) && decide (Region.ready md ops listed = [i])) = true)
    (R : World → Prop) (hR : Clo R) (hw : Region.wanted oi (yielded ops a.tmps) = true) (hop : ∀ w, S w → ∃ w', (execOp a.eval oi).run P w = .ok .skip w' ∧ S w' ∧ R w')
    (h : WpG P md ops Q n m L f (listed.setIfInBounds i true) (a.put d undef) (fun w => S w ∧ R w)) : WpG P md ops Q n m L (f + 1) listed a S := by
  subst hd
  simp only [Bool.and_eq_true, decide_eq_true_eq] at hB
  obtain ⟨hin, hr⟩ := hB
  intro hC hp inv
  refine ⟨by rw [hr]; simp, fun j hj => ?_⟩
  have hj' : j = i := by rw [hr] at hj; simpa using hj
  subst hj'
  refine ⟨hin, fun w hS => ?_⟩
  obtain ⟨w', hrun, hS', hRw⟩ := hop w hS
  unfold Go.wpOp
  simp only [hi, hw, if_true]
  refine .inl ?_
  unfold Oper.wp
  rw [hrun]
  exact ⟨_, hC.and hR, fun _ hw => hw.1, ⟨hS', hRw⟩, h (hC.and hR) hp (inv.set hj hin hp.lt)⟩
end

end Go.Proofs.YtfhmineolncefaaDoor

namespace Go.Proofs.YtfhmineolncefaaDoor
open Go.RowKit Fm
set_option linter.unusedVariables false
set_option maxRecDepth 100000

theorem add_val {f : Nat} (x y : Fin (Pm f)) : (((x + y).val : Nat) : Int) = if ((x.val : Nat) : Int) < ((Pm f : Nat) : Int) - ((y.val : Nat) : Int) then ((x.val : Nat) : Int) + ((y.val : Nat) : Int) else ((x.val : Nat) : Int) + ((y.val : Nat) : Int) - ((Pm f : Nat) : Int) := by
  rw [val_add]
  have hx := val_pos x
  have hy := val_pos y
  split
  · exact Int.emod_eq_of_lt (by omega) (by omega)
  · rw [← Int.sub_emod_right, Int.emod_eq_of_lt (by omega) (by omega)]

set_option maxHeartbeats 600000 in
theorem ref_AddL {f : Nat} (hf : IsF f) (a0 a1 b0 b1 : Int) (w : World) (h0 : 0 ≤ a0) (h1 : a0 ≤ 18446744073709551615) (k0 : 0 ≤ a1) (k1 : a1 ≤ 18446744073709551615)
    (g0 : 0 ≤ b0) (g1 : b0 ≤ 18446744073709551615) (j0 : 0 ≤ b1) (j1 : b1 ≤ 18446744073709551615) :
    Calls Tryd.prog 67 #[.int .i64 f, .agg #[.int .u64 a0, .int .u64 a1], .agg #[.int .u64 b0, .int .u64 b1]] w (RetK (kL f a0 a1 + kL f b0 b1) w) := by
  have hOa := fun wz => ref_OfL hf a0 a1 wz h0 h1 k0 k1
  have hOb := fun wz => ref_OfL hf b0 b1 wz g0 g1 j0 j1
  generalize kL f a0 a1 = x at *
  generalize kL f b0 b1 = y at *
  obtain ⟨p0, p1, hr⟩ := (FM.ofN hf).ref
  have hp : 0 ≤ p0 ∧ p0 ≤ 18446744073709551615 ∧ 0 ≤ p1 ∧ p1 ≤ 18446744073709551615 ∧ ((Pm f : Nat) : Int) = p0 + 18446744073709551616 * p1 := by
    rcases hr.or with ⟨_, rfl, rfl, h⟩ | ⟨_, rfl, rfl, h⟩ <;> omega
  obtain ⟨hp0, hp1, hp2, hp3, hpm'⟩ := hp
  have hx := val_pos x
  have hy := val_pos y
  have hxl := val_lohi x
  have hyl := val_lohi y
  have hPl := Pm_lt f
  have hxy := add_val x y
  obtain ⟨r0, r1, hrn, hr0, hr1, hr2, hr3⟩ := limbs2 (((Pm f : Nat) : Int) - ((y.val : Nat) : Int)) (by omega) (by omega)
  have HP : ∀ wz, Calls Tryd.prog 57 #[.int .i64 f] wz (fun e w' => e = .returned (.agg #[.int .u64 p0, .int .u64 p1]) ∧ Below wz.heap.size wz w') := fun wz => ref_P f _ p0 p1 wz hr
  have HT : ∀ wz, Calls Tryd.prog 58 #[.agg #[.int .u64 p0, .int .u64 p1], vK y] wz (fun e w' => e = .returned (.agg #[.int .u64 r0, .int .u64 r1]) ∧ Below wz.heap.size wz w') := fun wz =>
    (ref_take p0 p1 (lo y) (hi y) wz (by omega) (by omega) (lo_0 y) (lo_1 y) (by omega) (by omega) (hi_0 y) (hi_1 y)).mono fun e w' h => h.det (by rw [hyl, ← hpm', hrn, Int.emod_eq_of_lt (by omega) (by omega)]) hr0 hr1
  have HL : ∀ wz, Calls Tryd.prog 56 #[vK x, .agg #[.int .u64 r0, .int .u64 r1]] wz (fun e w' => e = .returned (.bool (decide (((x.val : Nat) : Int) < ((Pm f : Nat) : Int) - ((y.val : Nat) : Int)))) ∧ Below wz.heap.size wz w') := fun wz => by
    have h := ref_Less (lo x) (hi x) r0 r1 wz (lo_0 x) (lo_1 x) hr0 hr1
    rwa [hxl, hrn] at h
  have H1 := Lib.hid hOa
  have H2 := Lib.hid hOb
  have H3 := Lib.hid HP
  have H4 := Lib.hid HT
  have H5 := Lib.hid HL
  have H6 : Hid (((x.val : Nat) : Int) < ((Pm f : Nat) : Int) - ((y.val : Nat) : Int) → ∀ wz, Calls Tryd.prog 89 #[vK x, vK y] wz (RetK (x + y) wz)) := by
    intro hlt wz
    have h := ref_plus (lo x) (hi x) (lo y) (hi y) wz (lo_0 x) (lo_1 x) (lo_0 y) (lo_1 y) (hi_0 x) (hi_1 x) (hi_0 y) (hi_1 y) (by rw [hxl, hyl]; omega)
    rw [hxl, hyl] at h
    rw [if_pos hlt] at hxy
    exact h.mono fun e w' h => h.det (by rw [val_lohi, hxy]) (lo_0 _) (lo_1 _)
  have H7 : Hid (¬ ((x.val : Nat) : Int) < ((Pm f : Nat) : Int) - ((y.val : Nat) : Int) → ∀ wz, Calls Tryd.prog 58 #[vK x, .agg #[.int .u64 r0, .int .u64 r1]] wz (RetK (x + y) wz)) := by
    intro hlt wz
    have h := ref_take (lo x) (hi x) r0 r1 wz (lo_0 x) (lo_1 x) hr0 hr1 (hi_0 x) (hi_1 x) hr2 hr3
    rw [hxl, hrn] at h
    rw [if_neg hlt] at hxy
    exact h.mono fun e w' h => h.det (by rw [val_lohi, hxy, Int.emod_eq_of_lt (by omega) (by omega)]; omega) (lo_0 _) (lo_1 _)
  clear hOa hOb HP HT HL hxy hrn hyl hxl hpm' hx hy hPl
  go_enter Tryd.func67, Tryd.ntmps67
  go_wp2_with fail
  have q0 := ((V2.new w (.int .u64 a0) (.int .u64 a1) 28).alloc (.cells #[.int .u64 b0, .int .u64 b1] 28)).alloc (.cells #[.int .u64 0, .int .u64 0] 28)
  have t0 := (V2.new (w.alloc (.cells #[.int .u64 a0, .int .u64 a1] 28)) (.int .u64 b0) (.int .u64 b1) 28).alloc (.cells #[.int .u64 0, .int .u64 0] 28)
  have s0 := V2.new ((w.alloc (.cells #[.int .u64 a0, .int .u64 a1] 28)).alloc (.cells #[.int .u64 b0, .int .u64 b1] 28)) (.int .u64 0) (.int .u64 0) 28
  simp only [World.size_alloc] at t0 s0
  have hb00 : Below w.heap.size w (((w.alloc (.cells #[.int .u64 a0, .int .u64 a1] 28)).alloc (.cells #[.int .u64 b0, .int .u64 b1] 28)).alloc (.cells #[.int .u64 0, .int .u64 0] 28)) := by repeat (first | exact Below.refl _ _ | with_reducible assumption | (refine bl_alloc ?_ (Nat.le_refl _) _) | (refine bl_set ?_ (by dsimp only; omega) _) | (refine Below.drew ?_) | (refine bl_drewN ?_ _) | (refine bl_call ?_ (Nat.le_refl _) (by assumption)))
  have hsz : w.heap.size + 3 ≤ (((w.alloc (.cells #[.int .u64 a0, .int .u64 a1] 28)).alloc (.cells #[.int .u64 b0, .int .u64 b1] 28)).alloc (.cells #[.int .u64 0, .int .u64 0] 28)).heap.size := by simp only [World.size_alloc]; omega
  generalize ((w.alloc (.cells #[.int .u64 a0, .int .u64 a1] 28)).alloc (.cells #[.int .u64 b0, .int .u64 b1] 28)).alloc (.cells #[.int .u64 0, .int .u64 0] 28) = w1 at *
  have q01 := q0
  obtain ⟨c0, c1, c2, c3, c4⟩ := q01
  have t01 := t0
  obtain ⟨d0, d1, d2, d3, d4⟩ := t01
  refine region_B (n := 6) (m := 8) (f := 6) (by kernel_rfl) (by kernel_rfl) rfl ?_
  refine WpH.takeB (i := 0) (v := ?_) rfl (by kernel_rfl) (fun _ _ _ h => h) (.val rfl (fun wz hwz => ?_)) ?_
  rotate_left
  · go_simp; try (with_reducible rfl)
  (simp only [Act.put]); (try simp only [List.setIfInBounds_toArray]); (try simp only [List.set_cons_succ]); (try simp only [List.set_cons_zero])
  refine WpH.takeB (i := 1) (v := ?_) rfl (by kernel_rfl) (fun _ _ _ h => h) (.val rfl (fun wz hwz => ?_)) ?_
  rotate_left
  · (obtain ⟨hcz, hfz⟩ := bcell hwz; go_simp; try (with_reducible rfl))
  (simp only [Act.put]); (try simp only [List.setIfInBounds_toArray]); (try simp only [List.set_cons_succ]); (try simp only [List.set_cons_zero])
  refine WpH.takeB (i := 2) rfl (by kernel_rfl) (fun _ _ _ h => h) (.call rfl (fun wz hwz => H1.out wz) (fun wz hwz => ?_)) ?_
  · go_simp; try (with_reducible rfl)
  (simp only [Act.put]); (try simp only [List.setIfInBounds_toArray]); (try simp only [List.set_cons_succ]); (try simp only [List.set_cons_zero])
  refine WpH.takeB (i := 3) (v := ?_) rfl (by kernel_rfl) (fun _ _ _ h => h) (.val rfl (fun wz hwz => ?_)) ?_
  rotate_left
  · go_simp; try (with_reducible rfl)
  (simp only [Act.put]); (try simp only [List.setIfInBounds_toArray]); (try simp only [List.set_cons_succ]); (try simp only [List.set_cons_zero])
  refine WpH.takeB (i := 4) (v := ?_) rfl (by kernel_rfl) (fun _ _ _ h => h) (.val rfl (fun wz hwz => ?_)) ?_
  rotate_left
  · (obtain ⟨hcz, hfz⟩ := bcell hwz; go_simp; try (with_reducible rfl))
  (simp only [Act.put]); (try simp only [List.setIfInBounds_toArray]); (try simp only [List.set_cons_succ]); (try simp only [List.set_cons_zero])
  refine WpH.takeB (i := 5) rfl (by kernel_rfl) (fun _ _ _ h => h) (.call rfl (fun wz hwz => H2.out wz) (fun wz hwz => ?_)) ?_
  · go_simp; try (with_reducible rfl)
  (simp only [Act.put]); (try simp only [List.setIfInBounds_toArray]); (try simp only [List.set_cons_succ]); (try simp only [List.set_cons_zero])
  refine WpH.doneB (by kernel_rfl) (fun w2 hw2 => ?_)
  (try simp only [List.drop_succ_cons]); (try simp only [List.drop_zero]); (try simp only [Nat.reduceSub]); (try simp only [List.take_succ_cons]); (try simp only [List.take_zero])
  replace q0 := q0.call hw2
  replace t0 := t0.call hw2
  replace s0 := s0.call hw2
  replace hb00 := bl_call hb00 (Nat.le_refl _) hw2
  clear c0 c1 c2 c3 c4 d0 d1 d2 d3 d4 hsz hw2
  obtain ⟨c0, c1, c2, c3, c4⟩ := V2.mk q0.c0 q0.c1 q0.f0 q0.f1 q0.lt
  obtain ⟨d0, d1, d2, d3, d4⟩ := V2.mk t0.c0 t0.c1 t0.f0 t0.f1 t0.lt
  go_wp2_with fail
  clear c0 c1 c2 c3 c4 d0 d1 d2 d3 d4
  replace q0 : V2 ((w2.setCell ⟨w.heap.size, 0, none⟩ (.int .u64 (lo x))).setCell ⟨w.heap.size, 1, none⟩ (.int .u64 (hi x))) (w.heap.size) (.int .u64 (lo x)) (.int .u64 (hi x)) := V2.set q0 _ _
  replace t0 := V2.oth t0 (b := w.heap.size) (by omega) (.int .u64 (lo x)) (.int .u64 (hi x))
  replace s0 := V2.oth s0 (b := w.heap.size) (by omega) (.int .u64 (lo x)) (.int .u64 (hi x))
  replace hb00 := bl_st hb00 (b := w.heap.size) (by omega) (.int .u64 (lo x)) (.int .u64 (hi x))
  replace q0 := V2.oth q0 (b := w.heap.size+1) (by omega) (.int .u64 (lo y)) (.int .u64 (hi y))
  replace t0 : V2 ((((w2.setCell ⟨w.heap.size, 0, none⟩ (.int .u64 (lo x))).setCell ⟨w.heap.size, 1, none⟩ (.int .u64 (hi x))).setCell ⟨w.heap.size+1, 0, none⟩ (.int .u64 (lo y))).setCell ⟨w.heap.size+1, 1, none⟩ (.int .u64 (hi y))) (w.heap.size+1) (.int .u64 (lo y)) (.int .u64 (hi y)) := V2.set t0 _ _
  replace s0 := V2.oth s0 (b := w.heap.size+1) (by omega) (.int .u64 (lo y)) (.int .u64 (hi y))
  replace hb00 := bl_st hb00 (b := w.heap.size+1) (by omega) (.int .u64 (lo y)) (.int .u64 (hi y))
  generalize ((((w2.setCell ⟨w.heap.size, 0, none⟩ (.int .u64 (lo x))).setCell ⟨w.heap.size, 1, none⟩ (.int .u64 (hi x))).setCell ⟨w.heap.size+1, 0, none⟩ (.int .u64 (lo y))).setCell ⟨w.heap.size+1, 1, none⟩ (.int .u64 (hi y))) = w3 at q0 t0 s0 hb00 ⊢
  have q31 := q0
  obtain ⟨c0, c1, c2, c3, c4⟩ := q31
  have t31 := t0
  obtain ⟨d0, d1, d2, d3, d4⟩ := t31
  have e4 := s0.lt
  have hNew := newE_stable (w.heap.size+3)
  refine region_N (n := 5) (m := 6) (f := 5) 4 7 (NewE (w.heap.size+3)) (by kernel_rfl) (by kernel_rfl) rfl ?_
  refine WpH.takeN hNew (i := 0) (v := ?_) rfl (by kernel_rfl) rfl rfl (fun _ _ _ h => h) (.val rfl (fun wz hwz => ?_)) ?_
  rotate_left
  · go_simp; try (with_reducible rfl)
  (simp only [Act.put]); (try simp only [List.setIfInBounds_toArray]); (try simp only [List.set_cons_succ]); (try simp only [List.set_cons_zero])
  refine WpH.takeN hNew (i := 1) rfl (by kernel_rfl) rfl rfl (fun _ _ _ h => h) (.call rfl (fun wz hwz => H3.out wz) (fun wz hwz => ?_)) ?_
  · go_simp; try (with_reducible rfl)
  (simp only [Act.put]); (try simp only [List.setIfInBounds_toArray]); (try simp only [List.set_cons_succ]); (try simp only [List.set_cons_zero])
  refine WpH.takeN hNew (i := 2) (v := ?_) rfl (by kernel_rfl) rfl rfl (fun _ _ _ h => h) (.val rfl (fun wz hwz => ?_)) ?_
  rotate_left
  · (obtain ⟨hcz, hfz⟩ := bcell hwz; go_simp; try (with_reducible rfl))
  (simp only [Act.put]); (try simp only [List.setIfInBounds_toArray]); (try simp only [List.set_cons_succ]); (try simp only [List.set_cons_zero])
  refine WpH.takeN hNew (i := 3) rfl (by kernel_rfl) rfl rfl (fun _ _ _ h => h) (.call rfl (fun wz hwz => H4.out wz) (fun wz hwz => ?_)) ?_
  · go_simp; try (with_reducible rfl)
  (simp only [Act.put]); (try simp only [List.setIfInBounds_toArray]); (try simp only [List.set_cons_succ]); (try simp only [List.set_cons_zero])
  refine WpH.one (i := 4) (by kernel_rfl) (fun w2 hw2 => ?_)
  refine wpOp_value rfl rfl (by go_simp; first | rfl | exact ⟨rfl, rfl⟩) ⟨⟨hw2.1.trans (((Below.refl _ _).alloc (Nat.le_refl _) _).mono hw2.1.size), fun _ => ⟨_, rfl, (by have hsz2 := hw2.1.size; (try simp only [World.size_alloc] at hsz2); omega), V2.new _ _ _ _⟩⟩, ?_⟩
  (simp only [Act.put]); (try simp only [List.setIfInBounds_toArray]); (try simp only [List.set_cons_succ]); (try simp only [List.set_cons_zero])
  refine WpH.done (by kernel_rfl) (fun w4 hw4n => ?_)
  obtain ⟨hw4, hnw4⟩ := hw4n
  obtain ⟨b, hbew4, hBb, hVb⟩ := hnw4 rfl
  simp at hbew4
  rw [hbew4]
  clear hNew hnw4 hw2 hbew4 w2
  (try simp only [List.drop_succ_cons]); (try simp only [List.drop_zero]); (try simp only [Nat.reduceSub]); (try simp only [List.take_succ_cons]); (try simp only [List.take_zero])
  replace q0 := q0.call hw4
  replace t0 := t0.call hw4
  replace s0 := s0.call hw4
  replace hb00 := bl_call hb00 (Nat.le_refl _) hw4
  clear c0 c1 c2 c3 c4 d0 d1 d2 d3 d4 hw4 e4
  have v01 := hVb
  obtain ⟨v0, v1, v2, v3, v4⟩ := v01
  go_upto_region 3 with fail
  clear v0 v1 v2 v3 v4
  replace hVb : V2 ((w4.setCell ⟨b, 0, none⟩ (.int .u64 r0)).setCell ⟨b, 1, none⟩ (.int .u64 r1)) (b) (.int .u64 r0) (.int .u64 r1) := V2.set hVb _ _
  replace q0 := V2.oth q0 (b := b) (by omega) (.int .u64 r0) (.int .u64 r1)
  replace t0 := V2.oth t0 (b := b) (by omega) (.int .u64 r0) (.int .u64 r1)
  replace s0 := V2.oth s0 (b := b) (by omega) (.int .u64 r0) (.int .u64 r1)
  replace hb00 := bl_st hb00 (b := b) (by omega) (.int .u64 r0) (.int .u64 r1)
  generalize ((w4.setCell ⟨b, 0, none⟩ (.int .u64 r0)).setCell ⟨b, 1, none⟩ (.int .u64 r1)) = w5 at hVb q0 t0 s0 hb00 ⊢
  obtain ⟨v0, v1, v2, v3, v4⟩ := hVb
  obtain ⟨c0, c1, c2, c3, c4⟩ := q0
  obtain ⟨d0, d1, d2, d3, d4⟩ := t0
  by_cases hlt : ((x.val : Nat) : Int) < ((Pm f : Nat) : Int) - ((y.val : Nat) : Int)
  · have hd : decide (((x.val : Nat) : Int) < ((Pm f : Nat) : Int) - ((y.val : Nat) : Int)) = true := decide_eq_true hlt
    go_wp2_with (first
      | (go_at_call 56; refine (H5.out _).mono ?_; rintro e w5 ⟨rfl, hb5⟩; obtain ⟨c0, c1, c2, c3, c4⟩ := V2.call ⟨c0, c1, c2, c3, c4⟩ hb5; obtain ⟨d0, d1, d2, d3, d4⟩ := V2.call ⟨d0, d1, d2, d3, d4⟩ hb5; have s5 := s0.call hb5)
      | (go_at_call 89; refine (H6.out hlt _).mono ?_; rintro e w6 ⟨rfl, hb6⟩; obtain ⟨e0, e1, e2, e3, e4⟩ := s5.call hb6))
    refine bodyPost_ret (results_v2 (b := w.heap.size + 1 + 1) (u := .int .u64 (lo (x + y))) (v := .int .u64 (hi (x + y))) ?_ rfl rfl) rfl ⟨rfl, by repeat (first | exact Below.refl _ _ | with_reducible assumption | (refine bl_alloc ?_ (Nat.le_refl _) _) | (refine bl_set ?_ (by dsimp only; omega) _) | (refine Below.drew ?_) | (refine bl_drewN ?_ _) | (refine bl_call ?_ (Nat.le_refl _) (by assumption)))⟩
    exact V2.set ⟨e0, e1, e2, e3, e4⟩ _ _
  · have hd : decide (((x.val : Nat) : Int) < ((Pm f : Nat) : Int) - ((y.val : Nat) : Int)) = false := decide_eq_false hlt
    go_wp2_with (first
      | (go_at_call 56; refine (H5.out _).mono ?_; rintro e w5 ⟨rfl, hb5⟩; obtain ⟨c0, c1, c2, c3, c4⟩ := V2.call ⟨c0, c1, c2, c3, c4⟩ hb5; obtain ⟨v0, v1, v2, v3, v4⟩ := V2.call ⟨v0, v1, v2, v3, v4⟩ hb5; have s5 := s0.call hb5)
      | (go_at_call 58; refine (H7.out (by omega) _).mono ?_; rintro e w6 ⟨rfl, hb6⟩; obtain ⟨e0, e1, e2, e3, e4⟩ := s5.call hb6))
    refine bodyPost_ret (results_v2 (b := w.heap.size + 1 + 1) (u := .int .u64 (lo (x + y))) (v := .int .u64 (hi (x + y))) ?_ rfl rfl) rfl ⟨rfl, by repeat (first | exact Below.refl _ _ | with_reducible assumption | (refine bl_alloc ?_ (Nat.le_refl _) _) | (refine bl_set ?_ (by dsimp only; omega) _) | (refine Below.drew ?_) | (refine bl_drewN ?_ _) | (refine bl_call ?_ (Nat.le_refl _) (by assumption)))⟩
    exact V2.set ⟨e0, e1, e2, e3, e4⟩ _ _

end Go.Proofs.YtfhmineolncefaaDoor

namespace Go.Proofs.YtfhmineolncefaaDoor
open Go.RowKit Fm
set_option linter.unusedVariables false
set_option maxRecDepth 100000

theorem lohi_zero {f : Nat} (x : Fin (Pm f)) : (lo x == 0 && hi x == 0) = decide (x = 0) := by
  by_cases h : x = 0
  · subst h
    rw [lo_zero, hi_zero]
    simp
  · rw [decide_eq_false h, Bool.and_eq_false_iff, beq_eq_false_iff_ne, beq_eq_false_iff_ne]
    by_cases h0 : lo x = 0
    · right
      intro h1
      exact h (lohi_inj (by rw [h0, lo_zero]) (by rw [h1, hi_zero]))
    · exact .inl h0

section
variable {f : Nat} (hf : IsF f)
include hf
theorem ref_AddK (x y : Fin (Pm f)) (w : World) : Calls Tryd.prog 67 #[.int .i64 f, vK x, vK y] w (RetK (x + y) w) := by
  have h := ref_AddL hf (lo x) (hi x) (lo y) (hi y) w (lo_0 x) (lo_1 x) (hi_0 x) (hi_1 x) (lo_0 y) (lo_1 y) (hi_0 y) (hi_1 y)
  rwa [kL_lohi, kL_lohi] at h
end

end Go.Proofs.YtfhmineolncefaaDoor

namespace Go.Proofs.YtfhmineolncefaaDoor
open Go.RowKit Fm
set_option linter.unusedVariables false
set_option maxRecDepth 100000

/-- a bit of a number -/
def bitN (n : Nat) (i : Nat) : Bool := n / 2 ^ i % 2 == 1

set_option maxHeartbeats 1000000 in
theorem ref_bit {f : Nat} (x : Fin (Pm f)) (i : Nat) (hi128 : i < 128) (w : World) :
    Calls Tryd.prog 73 #[vK x, .int .i64 i] w fun e w' => e = .returned (.bool (bitN x.val i)) ∧ Below w.heap.size w w' := by
  obtain ⟨n, c, hn, hv, hq, hr⟩ : ∃ (n : Nat) (c : Nat), n ≤ 18446744073709551615 ∧ (if i < 64 then lo x else hi x) = (n : Int) ∧ c = i % 64 ∧ bitN x.val i = bitN n c := by
    have hl := val_lohi x
    have h0 := lo_0 x
    have h1 := lo_1 x
    have h2 := hi_0 x
    have h3 := hi_1 x
    by_cases h : i < 64
    · refine ⟨(lo x).toNat, i % 64, by omega, by rw [if_pos h]; omega, rfl, ?_⟩
      unfold bitN
      rw [Nat.mod_eq_of_lt h]
      have hx : x.val = (lo x).toNat + 2 ^ 64 * (hi x).toNat := by omega
      rw [hx, show 2 ^ 64 * (hi x).toNat = 2 ^ i * (2 * (2 ^ (63 - i) * (hi x).toNat)) by
        rw [← Nat.mul_assoc 2, ← Nat.pow_succ', ← Nat.mul_assoc, ← Nat.pow_add]
        congr 2
        omega, Nat.add_mul_div_left _ _ (Nat.two_pow_pos i), Nat.add_mul_mod_self_left]
    · refine ⟨(hi x).toNat, i % 64, by omega, by rw [if_neg h]; omega, rfl, ?_⟩
      unfold bitN
      have hx : x.val / 2 ^ 64 = (hi x).toNat := by omega
      rw [← hx, Nat.div_div_eq_div_mul, ← Nat.pow_add, show 64 + i % 64 = i by omega]
  rw [hr]
  have HQ := Lib.hid hq
  clear hq hr
  have hc : c < 64 := by have := HQ.out; omega
  have hir : ((i : Int) % 64) = (c : Int) := by have := HQ.out; omega
  go_enter Tryd.func73, Tryd.ntmps73
  go_upto_region 1 with fail
  go_cut [5] (fun t wx => t = .int .u64 n ∧ Below w.heap.size w wx)
  case first =>
    by_cases h : i < 64
    · rw [if_pos h] at hv
      have hq0 : (i : Int) / 64 = 0 := by omega
      have HV := Lib.hid hv
      clear hir hv
      go_wp2
      go_meet
      exact ⟨by rw [HV.out], by repeat (first | exact Below.refl _ _ | with_reducible assumption | (refine bl_alloc ?_ (Nat.le_refl _) _) | (refine bl_set ?_ (by dsimp only; omega) _) | (refine Below.drew ?_) | (refine bl_drewN ?_ _) | (refine bl_call ?_ (Nat.le_refl _) (by assumption)))⟩
    · rw [if_neg h] at hv
      have hq0 : (i : Int) / 64 = 1 := by omega
      have HV := Lib.hid hv
      clear hir hv
      go_wp2
      go_meet
      exact ⟨by rw [HV.out], by repeat (first | exact Below.refl _ _ | with_reducible assumption | (refine bl_alloc ?_ (Nat.le_refl _) _) | (refine bl_set ?_ (by dsimp only; omega) _) | (refine Below.drew ?_) | (refine bl_drewN ?_ _) | (refine bl_call ?_ (Nat.le_refl _) (by assumption)))⟩
  case rest =>
    obtain ⟨rfl, hb0⟩ := hcut
    clear hv
    go_wp2_with fail
    go_loop [5, 6] (fun t j => ∃ k : Nat, k ≤ c ∧ j = .int .i64 k ∧ ∃ m : Nat, t = .int .u64 m ∧ m ≤ 18446744073709551615 ∧ Hid (m = n / 2 ^ k)) (fun _ j => c - (intOf j).toNat)
    case atStart => exact ⟨0, Nat.zero_le _, rfl, n, rfl, hn, by show _ = _; rw [Nat.pow_zero, Nat.div_one]⟩
    case round =>
      obtain ⟨k, hk, rfl, m, rfl, hm, HM⟩ := hrel
      by_cases hlt : k < c
      · go_wp2
        go_round
        case rel => exact ⟨k + 1, by omega, by go_num, m / 2, by go_num, by omega, by show _ = _; rw [HM.out, Nat.div_div_eq_div_mul, Nat.pow_succ]⟩
        case measure => simp [intOf]; omega
      · obtain rfl : k = c := by omega
        go_wp2
        go_ret
        refine ⟨ret_bool ?_, by repeat (first | exact Below.refl _ _ | with_reducible assumption | (refine bl_alloc ?_ (Nat.le_refl _) _) | (refine bl_set ?_ (by dsimp only; omega) _) | (refine Below.drew ?_) | (refine bl_drewN ?_ _) | (refine bl_call ?_ (Nat.le_refl _) (by assumption)))⟩
        unfold bitN
        rw [← HM.out]
        by_cases h : m % 2 = 1
        · simp [h]
          omega
        · have h0 : m % 2 = 0 := by omega
          simp [h0]
          omega

end Go.Proofs.YtfhmineolncefaaDoor
