/-
  WALK: the reference's Mul.
-/
import Derived.Test.YtgambjmjbmdciaaRef3
import Derived.Test.YtgambjmjbmdciaaRefBit
namespace Go.Proofs.Ytgambjmjbmdciaa
open Go.RowKit Fm
set_option linter.unusedVariables false
set_option maxRecDepth 100000

/-- a times the bits of n from place k on -/
def dbl {f : Nat} (x : Fin (Pm f)) (n k : Nat) : Fin (Pm f) := kI (Pm f) ((n / 2 ^ k : Nat) : Int) * x

theorem dbl_step {f : Nat} (x : Fin (Pm f)) (n k : Nat) : dbl x n k = if bitN n k = true then dbl x n (k + 1) + dbl x n (k + 1) + x else dbl x n (k + 1) + dbl x n (k + 1) := by
  unfold dbl bitN
  have h : ((n / 2 ^ k : Nat) : Int) = 2 * ((n / 2 ^ (k + 1) : Nat) : Int) + ((n / 2 ^ k % 2 : Nat) : Int) := by
    rw [Nat.pow_succ, ← Nat.div_div_eq_div_mul]
    omega
  rw [h, kI_add, kI_mul]
  have h2 : kI (Pm f) (2 : Int) = 1 + 1 := by rw [show (2 : Int) = 1 + 1 from rfl, kI_add, kI_one]
  rw [h2]
  by_cases hb : n / 2 ^ k % 2 = 1
  · rw [if_pos (by simp [hb]), hb, show ((1 : Nat) : Int) = 1 from rfl, kI_one]
    grind
  · have h0 : n / 2 ^ k % 2 = 0 := by omega
    rw [if_neg (by simp [h0]), h0, show ((0 : Nat) : Int) = 0 from rfl, kI_zero]
    grind

theorem dbl_top {f : Nat} (x : Fin (Pm f)) (y : Fin (Pm f)) : dbl x y.val 128 = 0 := by
  have hy := y.isLt
  have h := Pm_lt f
  unfold dbl
  rw [Nat.div_eq_of_lt (by omega), show ((0 : Nat) : Int) = 0 from rfl, kI_zero]
  grind
theorem dbl_all {f : Nat} (x y : Fin (Pm f)) : dbl x y.val 0 = x * y := by
  unfold dbl
  rw [Nat.pow_zero, Nat.div_one, kI_ofVal]
  grind

set_option maxHeartbeats 4000000 in
theorem ref_MulL {f : Nat} (hf : IsF f) (a0 a1 b0 b1 : Int) (w : World) (h0 : 0 ≤ a0) (h1 : a0 ≤ 18446744073709551615) (k0 : 0 ≤ a1) (k1 : a1 ≤ 18446744073709551615)
    (g0 : 0 ≤ b0) (g1 : b0 ≤ 18446744073709551615) (j0 : 0 ≤ b1) (j1 : b1 ≤ 18446744073709551615) :
    Calls Try.prog 111 #[.int .i64 f, .agg #[.int .u64 a0, .int .u64 a1], .agg #[.int .u64 b0, .int .u64 b1]] w (RetK (kL f a0 a1 * kL f b0 b1) w) := by
  have hOa := fun wz => ref_OfL hf a0 a1 wz h0 h1 k0 k1
  have hOb := fun wz => ref_OfL hf b0 b1 wz g0 g1 j0 j1
  generalize kL f a0 a1 = x at *
  generalize kL f b0 b1 = y at *
  have H1 := Lib.hid hOa
  have H2 := Lib.hid hOb
  clear hOa hOb
  go_enter Try.func111, Try.ntmps111
  go_upto_region 1 with fail
  have q0 := ((V2.new w (.int .u64 a0) (.int .u64 a1) 41).alloc (.cells #[(.int .u64 b0), (.int .u64 b1)] 41)).alloc (.cells #[(.int .u64 0), (.int .u64 0)] 41)
  have t0 := (V2.new (w.alloc (.cells #[(.int .u64 a0), (.int .u64 a1)] 41)) (.int .u64 b0) (.int .u64 b1) 41).alloc (.cells #[(.int .u64 0), (.int .u64 0)] 41)
  have s0 := V2.new ((w.alloc (.cells #[(.int .u64 a0), (.int .u64 a1)] 41)).alloc (.cells #[(.int .u64 b0), (.int .u64 b1)] 41)) (.int .u64 0) (.int .u64 0) 41
  simp only [World.size_alloc] at t0 s0
  have hb00 : Below w.heap.size w (((w.alloc (.cells #[(.int .u64 a0), (.int .u64 a1)] 41)).alloc (.cells #[(.int .u64 b0), (.int .u64 b1)] 41)).alloc (.cells #[(.int .u64 0), (.int .u64 0)] 41)) := by repeat (first | exact Below.refl _ _ | with_reducible assumption | (refine bl_alloc ?_ (Nat.le_refl _) _))
  have hsz : w.heap.size + 3 ≤ (((w.alloc (.cells #[(.int .u64 a0), (.int .u64 a1)] 41)).alloc (.cells #[(.int .u64 b0), (.int .u64 b1)] 41)).alloc (.cells #[(.int .u64 0), (.int .u64 0)] 41)).heap.size := by simp only [World.size_alloc]; omega
  generalize (((w.alloc (.cells #[(.int .u64 a0), (.int .u64 a1)] 41)).alloc (.cells #[(.int .u64 b0), (.int .u64 b1)] 41)).alloc (.cells #[(.int .u64 0), (.int .u64 0)] 41)) = w1 at q0 t0 s0 hb00 hsz ⊢
  have q01 := q0
  obtain ⟨c0, c1, c2, c3, c4⟩ := q01
  have t01 := t0
  obtain ⟨d0, d1, d2, d3, d4⟩ := t01
  refine region_B (n := 6) (m := 8) (f := 6) (by kernel_rfl) (by kernel_rfl) rfl ?_
  refine WpH.takeB (i := 0) (v := ?_) rfl (by kernel_rfl) (fun _ _ _ h => h) (.val rfl (fun wz hwz => ?_)) ?_
  rotate_left
  · go_simp; try (with_reducible rfl)
  (simp only [Act.put]); (try simp only [List.setIfInBounds_toArray]); (try simp only [List.set_cons_succ]); (try simp only [List.set_cons_zero])
  refine WpH.takeB (i := 1) (v := ?_) rfl (by kernel_rfl) (fun _ _ _ h => h) (.val rfl (fun wz hwz => ?_)) ?_
  rotate_left
  · (obtain ⟨hcz, hfz⟩ := bcell hwz; go_simp; try (with_reducible rfl))
  (simp only [Act.put]); (try simp only [List.setIfInBounds_toArray]); (try simp only [List.set_cons_succ]); (try simp only [List.set_cons_zero])
  refine WpH.takeB (i := 2) rfl (by kernel_rfl) (fun _ _ _ h => h) (.call rfl (fun wz hwz => H1.out wz) (fun wz hwz => ?_)) ?_
  · go_simp; try (with_reducible rfl)
  (simp only [Act.put]); (try simp only [List.setIfInBounds_toArray]); (try simp only [List.set_cons_succ]); (try simp only [List.set_cons_zero])
  refine WpH.takeB (i := 3) (v := ?_) rfl (by kernel_rfl) (fun _ _ _ h => h) (.val rfl (fun wz hwz => ?_)) ?_
  rotate_left
  · go_simp; try (with_reducible rfl)
  (simp only [Act.put]); (try simp only [List.setIfInBounds_toArray]); (try simp only [List.set_cons_succ]); (try simp only [List.set_cons_zero])
  refine WpH.takeB (i := 4) (v := ?_) rfl (by kernel_rfl) (fun _ _ _ h => h) (.val rfl (fun wz hwz => ?_)) ?_
  rotate_left
  · (obtain ⟨hcz, hfz⟩ := bcell hwz; go_simp; try (with_reducible rfl))
  (simp only [Act.put]); (try simp only [List.setIfInBounds_toArray]); (try simp only [List.set_cons_succ]); (try simp only [List.set_cons_zero])
  refine WpH.takeB (i := 5) rfl (by kernel_rfl) (fun _ _ _ h => h) (.call rfl (fun wz hwz => H2.out wz) (fun wz hwz => ?_)) ?_
  · go_simp; try (with_reducible rfl)
  (simp only [Act.put]); (try simp only [List.setIfInBounds_toArray]); (try simp only [List.set_cons_succ]); (try simp only [List.set_cons_zero])
  refine WpH.doneB (by kernel_rfl) (fun w2 hw2 => ?_)
  (try simp only [List.drop_succ_cons]); (try simp only [List.drop_zero]); (try simp only [Nat.reduceSub]); (try simp only [List.take_succ_cons]); (try simp only [List.take_zero])
  replace q0 := q0.call hw2
  replace t0 := t0.call hw2
  replace s0 := s0.call hw2
  replace hb00 := bl_call hb00 (Nat.le_refl _) hw2
  replace hsz := Nat.le_trans hsz hw2.size
  clear c0 c1 c2 c3 c4 d0 d1 d2 d3 d4 hw2
  have q01 := q0
  obtain ⟨c0, c1, c2, c3, c4⟩ := q01
  have t01 := t0
  obtain ⟨d0, d1, d2, d3, d4⟩ := t01
  go_upto_region 2 with fail
  clear c0 c1 c2 c3 c4 d0 d1 d2 d3 d4
  replace q0 : V2 ((w2.setCell ⟨w.heap.size, 0, none⟩ (.int .u64 (lo x))).setCell ⟨w.heap.size, 1, none⟩ (.int .u64 (hi x))) (w.heap.size) (.int .u64 (lo x)) (.int .u64 (hi x)) := V2.set q0 _ _
  replace t0 := V2.oth t0 (b := w.heap.size) (by omega) (.int .u64 (lo x)) (.int .u64 (hi x))
  replace s0 := V2.oth s0 (b := w.heap.size) (by omega) (.int .u64 (lo x)) (.int .u64 (hi x))
  replace hb00 := bl_st hb00 (b := w.heap.size) (by omega) (.int .u64 (lo x)) (.int .u64 (hi x))
  replace q0 := V2.oth q0 (b := w.heap.size+1) (by omega) (.int .u64 (lo y)) (.int .u64 (hi y))
  replace t0 : V2 ((((w2.setCell ⟨w.heap.size, 0, none⟩ (.int .u64 (lo x))).setCell ⟨w.heap.size, 1, none⟩ (.int .u64 (hi x))).setCell ⟨w.heap.size+1, 0, none⟩ (.int .u64 (lo y))).setCell ⟨w.heap.size+1, 1, none⟩ (.int .u64 (hi y))) (w.heap.size+1) (.int .u64 (lo y)) (.int .u64 (hi y)) := V2.set t0 _ _
  replace s0 := V2.oth s0 (b := w.heap.size+1) (by omega) (.int .u64 (lo y)) (.int .u64 (hi y))
  replace hb00 := bl_st hb00 (b := w.heap.size+1) (by omega) (.int .u64 (lo y)) (.int .u64 (hi y))
  generalize ((((w2.setCell ⟨w.heap.size, 0, none⟩ (.int .u64 (lo x))).setCell ⟨w.heap.size, 1, none⟩ (.int .u64 (hi x))).setCell ⟨w.heap.size+1, 0, none⟩ (.int .u64 (lo y))).setCell ⟨w.heap.size+1, 1, none⟩ (.int .u64 (hi y))) = w3 at q0 t0 s0 hb00 ⊢
  have hz3 := s0.lt
  go_wp2_with fail
  go_loopw [8] (fun i wr => ∃ k : Nat, k ≤ 128 ∧ i = .int .i64 ((k : Int) - 1) ∧ V2 wr w.heap.size (.int .u64 (lo x)) (.int .u64 (hi x)) ∧ V2 wr (w.heap.size + 1) (.int .u64 (lo y)) (.int .u64 (hi y)) ∧ V2 wr (w.heap.size + 1 + 1) (.int .u64 0) (.int .u64 0) ∧
      V2 wr w3.heap.size (.int .u64 (lo (dbl x y.val k))) (.int .u64 (hi (dbl x y.val k))) ∧ Below w.heap.size w wr) (fun i _ => (intOf i + 1).toNat)
  case atStart =>
    refine ⟨128, by omega, by go_num, q0.alloc _, t0.alloc _, s0.alloc _, ?_, by repeat (first | exact Below.refl _ _ | with_reducible assumption | (refine bl_alloc ?_ (Nat.le_refl _) _) | (refine bl_set ?_ (by dsimp only; omega) _) | (refine Below.drew ?_) | (refine bl_drewN ?_ _) | (refine bl_call ?_ (Nat.le_refl _) (by assumption)))⟩
    rw [dbl_top, lo_zero, hi_zero]
    exact V2.new _ _ _ _
  case round =>
    obtain ⟨k, hk, rfl, hx, hy, hz, ho, hbw⟩ := hrel
    clear q0 t0 s0
    by_cases hk0 : k = 0
    · subst hk0
      rw [dbl_all] at ho
      obtain ⟨y0, y1, y2, y3, y4⟩ := ho
      obtain ⟨z0, z1, z2, z3, z4⟩ := hz
      go_wp2
      refine bodyPost_ret (results_v2 (b := w.heap.size + 1 + 1) (u := .int .u64 (lo (x * y))) (v := .int .u64 (hi (x * y))) ?_ rfl rfl) rfl ?_
      · exact V2.set ⟨z0, z1, z2, z3, z4⟩ _ _
      · exact ⟨rfl, by repeat (first | exact Below.refl _ _ | with_reducible assumption | (refine bl_alloc ?_ (Nat.le_refl _) _) | (refine bl_set ?_ (by dsimp only; omega) _) | (refine Below.drew ?_) | (refine bl_drewN ?_ _) | (refine bl_call ?_ (Nat.le_refl _) (by assumption)))⟩
    · obtain ⟨k, rfl⟩ : ∃ j, k = j + 1 := ⟨k - 1, by omega⟩
      have hst := dbl_step x y.val k
      have HB := Lib.hid (fun wz => ref_bit y k (by omega) wz)
      generalize dbl x y.val (k + 1) = s at *
      have HST := Lib.hid hst
      clear hst
      have hA1 := Lib.hid (fun wz => ref_AddK hf s s wz)
      have hA2 := Lib.hid (fun wz => ref_AddK hf (s + s) x wz)
      obtain ⟨o0, o1, o2, o3, o4⟩ := ho
      have hyy := hy
      obtain ⟨y0, y1, y2, y3, y4⟩ := hyy
      have hxx := hx
      obtain ⟨x0, x1, x2, x3, x4⟩ := hxx
      go_upto_region 7 with (go_at_call 110; refine (hA1.out _).mono ?_; rintro e w5 ⟨rfl, hb5⟩; obtain ⟨o0, o1, o2, o3, o4⟩ := V2.call ⟨o0, o1, o2, o3, o4⟩ hb5; replace hx := hx.call hb5; replace hy := hy.call hb5; replace hz := hz.call hb5; replace hbw := bl_call hbw (Nat.le_refl _) hb5)
      have ho : V2 w5 w3.heap.size (.int .u64 (lo s)) (.int .u64 (hi s)) := ⟨o0, o1, o2, o3, o4⟩
      clear o0 o1 o2 o3 o4 x0 x1 x2 x3 x4 y0 y1 y2 y3 y4 hb5
      replace ho : V2 ((w5.setCell ⟨w3.heap.size, 0, none⟩ (.int .u64 (lo (s + s)))).setCell ⟨w3.heap.size, 1, none⟩ (.int .u64 (hi (s + s)))) (w3.heap.size) (.int .u64 (lo (s + s))) (.int .u64 (hi (s + s))) := V2.set ho _ _
      replace hx := V2.oth hx (b := w3.heap.size) (by omega) (.int .u64 (lo (s + s))) (.int .u64 (hi (s + s)))
      replace hy := V2.oth hy (b := w3.heap.size) (by omega) (.int .u64 (lo (s + s))) (.int .u64 (hi (s + s)))
      replace hz := V2.oth hz (b := w3.heap.size) (by omega) (.int .u64 (lo (s + s))) (.int .u64 (hi (s + s)))
      replace hbw := bl_st hbw (b := w3.heap.size) (by omega) (.int .u64 (lo (s + s))) (.int .u64 (hi (s + s)))
      generalize ((w5.setCell ⟨w3.heap.size, 0, none⟩ (.int .u64 (lo (s + s)))).setCell ⟨w3.heap.size, 1, none⟩ (.int .u64 (hi (s + s)))) = w6 at ho hx hy hz hbw ⊢
      have ho' := ho
      obtain ⟨o0, o1, o2, o3, o4⟩ := ho'
      have hyy := hy
      obtain ⟨y0, y1, y2, y3, y4⟩ := hyy
      have hxx := hx
      obtain ⟨x0, x1, x2, x3, x4⟩ := hxx
      by_cases hb : bitN y.val k = true
      · go_wp2_with (first
          | (go_at_call 152; refine (HB.out _).mono ?_; rintro e w7 ⟨rfl, hb7⟩; rw [hb]; obtain ⟨o0, o1, o2, o3, o4⟩ := V2.call ⟨o0, o1, o2, o3, o4⟩ hb7; obtain ⟨x0, x1, x2, x3, x4⟩ := V2.call ⟨x0, x1, x2, x3, x4⟩ hb7; replace hx := hx.call hb7; replace hy := hy.call hb7; replace hz := hz.call hb7)
          | (go_at_call 110; refine (hA2.out _).mono ?_; rintro e w8 ⟨rfl, hb8⟩; obtain ⟨o0, o1, o2, o3, o4⟩ := V2.call ⟨o0, o1, o2, o3, o4⟩ hb8; replace hx := hx.call hb8; replace hy := hy.call hb8; replace hz := hz.call hb8))
        go_roundw
        case rel => exact ⟨k, by omega, by go_num, hx.oth (by omega) _ _, hy.oth (by omega) _ _, hz.oth (by omega) _ _, by rw [HST.out, if_pos hb]; exact V2.set ⟨o0, o1, o2, o3, o4⟩ _ _, by repeat (first | exact Below.refl _ _ | with_reducible assumption | (refine bl_alloc ?_ (Nat.le_refl _) _) | (refine bl_set ?_ (by dsimp only; omega) _) | (refine Below.drew ?_) | (refine bl_drewN ?_ _) | (refine bl_call ?_ (Nat.le_refl _) (by assumption)))⟩
        case measure => simp [intOf]
      · have hb' : bitN y.val k = false := by simpa using hb
        go_wp2_with (go_at_call 152; refine (HB.out _).mono ?_; rintro e w7 ⟨rfl, hb7⟩; rw [hb']; replace ho := ho.call hb7; replace hx := hx.call hb7; replace hy := hy.call hb7; replace hz := hz.call hb7)
        go_roundw
        case rel => exact ⟨k, by omega, by go_num, hx, hy, hz, by rw [HST.out, if_neg hb]; exact ho, by repeat (first | exact Below.refl _ _ | with_reducible assumption | (refine bl_alloc ?_ (Nat.le_refl _) _) | (refine bl_set ?_ (by dsimp only; omega) _) | (refine Below.drew ?_) | (refine bl_drewN ?_ _) | (refine bl_call ?_ (Nat.le_refl _) (by assumption)))⟩
        case measure => simp [intOf]

theorem ref_MulK {f : Nat} (hf : IsF f) (x y : Fin (Pm f)) (w : World) : Calls Try.prog 111 #[.int .i64 f, vK x, vK y] w (RetK (x * y) w) := by
  have h := ref_MulL hf (lo x) (hi x) (lo y) (hi y) w (lo_0 x) (lo_1 x) (hi_0 x) (hi_1 x) (lo_0 y) (lo_1 y) (hi_0 y) (hi_1 y)
  rwa [kL_lohi, kL_lohi] at h

end Go.Proofs.Ytgambjmjbmdciaa
