/-
  WALK: the reference's Mul.
-/
/-
  WALK: poly.At.
-/
/-
  WALK: the reference's At.
-/
/-
  GADGETS that may be: their values, Check, Arity, Degree, Of.
-/
/-
  CIRCUITS that may be, in numbers: how many elements, calls, points.
-/
import Derived.Test.YtfhmineolncefaaDoorMag
import Derived.IntWalk
import Derived.Lib.BitFns
namespace Go.Proofs.YtfhmineolncefaaDoor
open Go.RowKit Fm
set_option linter.unusedVariables false
set_option maxRecDepth 100000

/-- a times the bits of n from place k on -/
def dbl {f : Nat} (x : Fin (Pm f)) (n k : Nat) : Fin (Pm f) := kI (Pm f) ((n / 2 ^ k : Nat) : Int) * x

theorem dbl_step {f : Nat} (x : Fin (Pm f)) (n k : Nat) : dbl x n k = if bitN n k = true then dbl x n (k + 1) + dbl x n (k + 1) + x else dbl x n (k + 1) + dbl x n (k + 1) := by
  unfold dbl bitN
  have h : ((n / 2 ^ k : Nat) : Int) = 2 * ((n / 2 ^ (k + 1) : Nat) : Int) + ((n / 2 ^ k % 2 : Nat) : Int) := by
    rw [Nat.pow_succ, ← Nat.div_div_eq_div_mul]
    omega
  rw [h, kI_add, kI_mul]
  have h2 : kI (Pm f) (2 : Int) = 1 + 1 := by rw [show (2 : Int) = 1 + 1 from rfl, kI_add, kI_one]
  rw [h2]
  by_cases hb : n / 2 ^ k % 2 = 1
  · rw [if_pos (by simp [hb]), hb, show ((1 : Nat) : Int) = 1 from rfl, kI_one]
    grind
  · have h0 : n / 2 ^ k % 2 = 0 := by omega
    rw [if_neg (by simp [h0]), h0, show ((0 : Nat) : Int) = 0 from rfl, kI_zero]
    grind

theorem dbl_top {f : Nat} (x : Fin (Pm f)) (y : Fin (Pm f)) : dbl x y.val 128 = 0 := by
  have hy := y.isLt
  have h := Pm_lt f
  unfold dbl
  rw [Nat.div_eq_of_lt (by omega), show ((0 : Nat) : Int) = 0 from rfl, kI_zero]
  grind
theorem dbl_all {f : Nat} (x y : Fin (Pm f)) : dbl x y.val 0 = x * y := by
  unfold dbl
  rw [Nat.pow_zero, Nat.div_one, kI_ofVal]
  grind

set_option maxHeartbeats 4000000 in
theorem ref_MulL {f : Nat} (hf : IsF f) (a0 a1 b0 b1 : Int) (w : World) (h0 : 0 ≤ a0) (h1 : a0 ≤ 18446744073709551615) (k0 : 0 ≤ a1) (k1 : a1 ≤ 18446744073709551615)
    (g0 : 0 ≤ b0) (g1 : b0 ≤ 18446744073709551615) (j0 : 0 ≤ b1) (j1 : b1 ≤ 18446744073709551615) :
    Calls Tryd.prog 37 #[.int .i64 f, .agg #[.int .u64 a0, .int .u64 a1], .agg #[.int .u64 b0, .int .u64 b1]] w (RetK (kL f a0 a1 * kL f b0 b1) w) := by
  have hOa := fun wz => ref_OfL hf a0 a1 wz h0 h1 k0 k1
  have hOb := fun wz => ref_OfL hf b0 b1 wz g0 g1 j0 j1
  generalize kL f a0 a1 = x at *
  generalize kL f b0 b1 = y at *
  have H1 := Lib.hid hOa
  have H2 := Lib.hid hOb
  clear hOa hOb
  go_enter Tryd.func37, Tryd.ntmps37
  go_upto_region 1 with fail
  have q0 := ((V2.new w (.int .u64 a0) (.int .u64 a1) 28).alloc (.cells #[(.int .u64 b0), (.int .u64 b1)] 28)).alloc (.cells #[(.int .u64 0), (.int .u64 0)] 28)
  have t0 := (V2.new (w.alloc (.cells #[(.int .u64 a0), (.int .u64 a1)] 28)) (.int .u64 b0) (.int .u64 b1) 28).alloc (.cells #[(.int .u64 0), (.int .u64 0)] 28)
  have s0 := V2.new ((w.alloc (.cells #[(.int .u64 a0), (.int .u64 a1)] 28)).alloc (.cells #[(.int .u64 b0), (.int .u64 b1)] 28)) (.int .u64 0) (.int .u64 0) 28
  simp only [World.size_alloc] at t0 s0
  have hb00 : Below w.heap.size w (((w.alloc (.cells #[(.int .u64 a0), (.int .u64 a1)] 28)).alloc (.cells #[(.int .u64 b0), (.int .u64 b1)] 28)).alloc (.cells #[(.int .u64 0), (.int .u64 0)] 28)) := by repeat (first | exact Below.refl _ _ | with_reducible assumption | (refine bl_alloc ?_ (Nat.le_refl _) _))
  have hsz : w.heap.size + 3 ≤ (((w.alloc (.cells #[(.int .u64 a0), (.int .u64 a1)] 28)).alloc (.cells #[(.int .u64 b0), (.int .u64 b1)] 28)).alloc (.cells #[(.int .u64 0), (.int .u64 0)] 28)).heap.size := by simp only [World.size_alloc]; omega
  generalize (((w.alloc (.cells #[(.int .u64 a0), (.int .u64 a1)] 28)).alloc (.cells #[(.int .u64 b0), (.int .u64 b1)] 28)).alloc (.cells #[(.int .u64 0), (.int .u64 0)] 28)) = w1 at q0 t0 s0 hb00 hsz ⊢
  have q01 := q0
  obtain ⟨c0, c1, c2, c3, c4⟩ := q01
  have t01 := t0
  obtain ⟨d0, d1, d2, d3, d4⟩ := t01
  refine region_B (n := 6) (m := 8) (f := 6) (by kernel_rfl) (by kernel_rfl) rfl ?_
  refine WpH.takeB (i := 0) (v := ?_) rfl (by kernel_rfl) (fun _ _ _ h => h) (.val rfl (fun wz hwz => ?_)) ?_
  rotate_left
  · go_simp; try (with_reducible rfl)
  (simp only [Act.put]); (try simp only [List.setIfInBounds_toArray]); (try simp only [List.set_cons_succ]); (try simp only [List.set_cons_zero])
  refine WpH.takeB (i := 1) (v := ?_) rfl (by kernel_rfl) (fun _ _ _ h => h) (.val rfl (fun wz hwz => ?_)) ?_
  rotate_left
  · (obtain ⟨hcz, hfz⟩ := bcell hwz; go_simp; try (with_reducible rfl))
  (simp only [Act.put]); (try simp only [List.setIfInBounds_toArray]); (try simp only [List.set_cons_succ]); (try simp only [List.set_cons_zero])
  refine WpH.takeB (i := 2) rfl (by kernel_rfl) (fun _ _ _ h => h) (.call rfl (fun wz hwz => H1.out wz) (fun wz hwz => ?_)) ?_
  · go_simp; try (with_reducible rfl)
  (simp only [Act.put]); (try simp only [List.setIfInBounds_toArray]); (try simp only [List.set_cons_succ]); (try simp only [List.set_cons_zero])
  refine WpH.takeB (i := 3) (v := ?_) rfl (by kernel_rfl) (fun _ _ _ h => h) (.val rfl (fun wz hwz => ?_)) ?_
  rotate_left
  · go_simp; try (with_reducible rfl)
  (simp only [Act.put]); (try simp only [List.setIfInBounds_toArray]); (try simp only [List.set_cons_succ]); (try simp only [List.set_cons_zero])
  refine WpH.takeB (i := 4) (v := ?_) rfl (by kernel_rfl) (fun _ _ _ h => h) (.val rfl (fun wz hwz => ?_)) ?_
  rotate_left
  · (obtain ⟨hcz, hfz⟩ := bcell hwz; go_simp; try (with_reducible rfl))
  (simp only [Act.put]); (try simp only [List.setIfInBounds_toArray]); (try simp only [List.set_cons_succ]); (try simp only [List.set_cons_zero])
  refine WpH.takeB (i := 5) rfl (by kernel_rfl) (fun _ _ _ h => h) (.call rfl (fun wz hwz => H2.out wz) (fun wz hwz => ?_)) ?_
  · go_simp; try (with_reducible rfl)
  (simp only [Act.put]); (try simp only [List.setIfInBounds_toArray]); (try simp only [List.set_cons_succ]); (try simp only [List.set_cons_zero])
  refine WpH.doneB (by kernel_rfl) (fun w2 hw2 => ?_)
  (try simp only [List.drop_succ_cons]); (try simp only [List.drop_zero]); (try simp only [Nat.reduceSub]); (try simp only [List.take_succ_cons]); (try simp only [List.take_zero])
  replace q0 := q0.call hw2
  replace t0 := t0.call hw2
  replace s0 := s0.call hw2
  replace hb00 := bl_call hb00 (Nat.le_refl _) hw2
  replace hsz := Nat.le_trans hsz hw2.size
  clear c0 c1 c2 c3 c4 d0 d1 d2 d3 d4 hw2
  have q01 := q0
  obtain ⟨c0, c1, c2, c3, c4⟩ := q01
  have t01 := t0
  obtain ⟨d0, d1, d2, d3, d4⟩ := t01
  go_upto_region 2 with fail
  clear c0 c1 c2 c3 c4 d0 d1 d2 d3 d4
  replace q0 : V2 ((w2.setCell ⟨w.heap.size, 0, none⟩ (.int .u64 (lo x))).setCell ⟨w.heap.size, 1, none⟩ (.int .u64 (hi x))) (w.heap.size) (.int .u64 (lo x)) (.int .u64 (hi x)) := V2.set q0 _ _
  replace t0 := V2.oth t0 (b := w.heap.size) (by omega) (.int .u64 (lo x)) (.int .u64 (hi x))
  replace s0 := V2.oth s0 (b := w.heap.size) (by omega) (.int .u64 (lo x)) (.int .u64 (hi x))
  replace hb00 := bl_st hb00 (b := w.heap.size) (by omega) (.int .u64 (lo x)) (.int .u64 (hi x))
  replace q0 := V2.oth q0 (b := w.heap.size+1) (by omega) (.int .u64 (lo y)) (.int .u64 (hi y))
  replace t0 : V2 ((((w2.setCell ⟨w.heap.size, 0, none⟩ (.int .u64 (lo x))).setCell ⟨w.heap.size, 1, none⟩ (.int .u64 (hi x))).setCell ⟨w.heap.size+1, 0, none⟩ (.int .u64 (lo y))).setCell ⟨w.heap.size+1, 1, none⟩ (.int .u64 (hi y))) (w.heap.size+1) (.int .u64 (lo y)) (.int .u64 (hi y)) := V2.set t0 _ _
  replace s0 := V2.oth s0 (b := w.heap.size+1) (by omega) (.int .u64 (lo y)) (.int .u64 (hi y))
  replace hb00 := bl_st hb00 (b := w.heap.size+1) (by omega) (.int .u64 (lo y)) (.int .u64 (hi y))
  generalize ((((w2.setCell ⟨w.heap.size, 0, none⟩ (.int .u64 (lo x))).setCell ⟨w.heap.size, 1, none⟩ (.int .u64 (hi x))).setCell ⟨w.heap.size+1, 0, none⟩ (.int .u64 (lo y))).setCell ⟨w.heap.size+1, 1, none⟩ (.int .u64 (hi y))) = w3 at q0 t0 s0 hb00 ⊢
  have hz3 := s0.lt
  go_wp2_with fail
  go_loopw [8] (fun i wr => ∃ k : Nat, k ≤ 128 ∧ i = .int .i64 ((k : Int) - 1) ∧ V2 wr w.heap.size (.int .u64 (lo x)) (.int .u64 (hi x)) ∧ V2 wr (w.heap.size + 1) (.int .u64 (lo y)) (.int .u64 (hi y)) ∧ V2 wr (w.heap.size + 1 + 1) (.int .u64 0) (.int .u64 0) ∧
      V2 wr w3.heap.size (.int .u64 (lo (dbl x y.val k))) (.int .u64 (hi (dbl x y.val k))) ∧ Below w.heap.size w wr) (fun i _ => (intOf i + 1).toNat)
  case atStart =>
    refine ⟨128, by omega, by go_num, q0.alloc _, t0.alloc _, s0.alloc _, ?_, by repeat (first | exact Below.refl _ _ | with_reducible assumption | (refine bl_alloc ?_ (Nat.le_refl _) _) | (refine bl_set ?_ (by dsimp only; omega) _) | (refine Below.drew ?_) | (refine bl_drewN ?_ _) | (refine bl_call ?_ (Nat.le_refl _) (by assumption)))⟩
    rw [dbl_top, lo_zero, hi_zero]
    exact V2.new _ _ _ _
  case round =>
    obtain ⟨k, hk, rfl, hx, hy, hz, ho, hbw⟩ := hrel
    clear q0 t0 s0
    by_cases hk0 : k = 0
    · subst hk0
      rw [dbl_all] at ho
      obtain ⟨y0, y1, y2, y3, y4⟩ := ho
      obtain ⟨z0, z1, z2, z3, z4⟩ := hz
      go_wp2
      refine bodyPost_ret (results_v2 (b := w.heap.size + 1 + 1) (u := .int .u64 (lo (x * y))) (v := .int .u64 (hi (x * y))) ?_ rfl rfl) rfl ?_
      · exact V2.set ⟨z0, z1, z2, z3, z4⟩ _ _
      · exact ⟨rfl, by repeat (first | exact Below.refl _ _ | with_reducible assumption | (refine bl_alloc ?_ (Nat.le_refl _) _) | (refine bl_set ?_ (by dsimp only; omega) _) | (refine Below.drew ?_) | (refine bl_drewN ?_ _) | (refine bl_call ?_ (Nat.le_refl _) (by assumption)))⟩
    · obtain ⟨k, rfl⟩ : ∃ j, k = j + 1 := ⟨k - 1, by omega⟩
      have hst := dbl_step x y.val k
      have HB := Lib.hid (fun wz => ref_bit y k (by omega) wz)
      generalize dbl x y.val (k + 1) = s at *
      have HST := Lib.hid hst
      clear hst
      have hA1 := Lib.hid (fun wz => ref_AddK hf s s wz)
      have hA2 := Lib.hid (fun wz => ref_AddK hf (s + s) x wz)
      obtain ⟨o0, o1, o2, o3, o4⟩ := ho
      have hyy := hy
      obtain ⟨y0, y1, y2, y3, y4⟩ := hyy
      have hxx := hx
      obtain ⟨x0, x1, x2, x3, x4⟩ := hxx
      go_upto_region 7 with (go_at_call 67; refine (hA1.out _).mono ?_; rintro e w5 ⟨rfl, hb5⟩; obtain ⟨o0, o1, o2, o3, o4⟩ := V2.call ⟨o0, o1, o2, o3, o4⟩ hb5; replace hx := hx.call hb5; replace hy := hy.call hb5; replace hz := hz.call hb5; replace hbw := bl_call hbw (Nat.le_refl _) hb5)
      have ho : V2 w5 w3.heap.size (.int .u64 (lo s)) (.int .u64 (hi s)) := ⟨o0, o1, o2, o3, o4⟩
      clear o0 o1 o2 o3 o4 x0 x1 x2 x3 x4 y0 y1 y2 y3 y4 hb5
      replace ho : V2 ((w5.setCell ⟨w3.heap.size, 0, none⟩ (.int .u64 (lo (s + s)))).setCell ⟨w3.heap.size, 1, none⟩ (.int .u64 (hi (s + s)))) (w3.heap.size) (.int .u64 (lo (s + s))) (.int .u64 (hi (s + s))) := V2.set ho _ _
      replace hx := V2.oth hx (b := w3.heap.size) (by omega) (.int .u64 (lo (s + s))) (.int .u64 (hi (s + s)))
      replace hy := V2.oth hy (b := w3.heap.size) (by omega) (.int .u64 (lo (s + s))) (.int .u64 (hi (s + s)))
      replace hz := V2.oth hz (b := w3.heap.size) (by omega) (.int .u64 (lo (s + s))) (.int .u64 (hi (s + s)))
      replace hbw := bl_st hbw (b := w3.heap.size) (by omega) (.int .u64 (lo (s + s))) (.int .u64 (hi (s + s)))
      generalize ((w5.setCell ⟨w3.heap.size, 0, none⟩ (.int .u64 (lo (s + s)))).setCell ⟨w3.heap.size, 1, none⟩ (.int .u64 (hi (s + s)))) = w6 at ho hx hy hz hbw ⊢
      have ho' := ho
      obtain ⟨o0, o1, o2, o3, o4⟩ := ho'
      have hyy := hy
      obtain ⟨y0, y1, y2, y3, y4⟩ := hyy
      have hxx := hx
      obtain ⟨x0, x1, x2, x3, x4⟩ := hxx
      by_cases hb : bitN y.val k = true
      · go_wp2_with (first
          | (go_at_call 73; refine (HB.out _).mono ?_; rintro e w7 ⟨rfl, hb7⟩; rw [hb]; obtain ⟨o0, o1, o2, o3, o4⟩ := V2.call ⟨o0, o1, o2, o3, o4⟩ hb7; obtain ⟨x0, x1, x2, x3, x4⟩ := V2.call ⟨x0, x1, x2, x3, x4⟩ hb7; replace hx := hx.call hb7; replace hy := hy.call hb7; replace hz := hz.call hb7)
          | (go_at_call 67; refine (hA2.out _).mono ?_; rintro e w8 ⟨rfl, hb8⟩; obtain ⟨o0, o1, o2, o3, o4⟩ := V2.call ⟨o0, o1, o2, o3, o4⟩ hb8; replace hx := hx.call hb8; replace hy := hy.call hb8; replace hz := hz.call hb8))
        go_roundw
        case rel => exact ⟨k, by omega, by go_num, hx.oth (by omega) _ _, hy.oth (by omega) _ _, hz.oth (by omega) _ _, by rw [HST.out, if_pos hb]; exact V2.set ⟨o0, o1, o2, o3, o4⟩ _ _, by repeat (first | exact Below.refl _ _ | with_reducible assumption | (refine bl_alloc ?_ (Nat.le_refl _) _) | (refine bl_set ?_ (by dsimp only; omega) _) | (refine Below.drew ?_) | (refine bl_drewN ?_ _) | (refine bl_call ?_ (Nat.le_refl _) (by assumption)))⟩
        case measure => simp [intOf]
      · have hb' : bitN y.val k = false := by simpa using hb
        go_wp2_with (go_at_call 73; refine (HB.out _).mono ?_; rintro e w7 ⟨rfl, hb7⟩; rw [hb']; replace ho := ho.call hb7; replace hx := hx.call hb7; replace hy := hy.call hb7; replace hz := hz.call hb7)
        go_roundw
        case rel => exact ⟨k, by omega, by go_num, hx, hy, hz, by rw [HST.out, if_neg hb]; exact ho, by repeat (first | exact Below.refl _ _ | with_reducible assumption | (refine bl_alloc ?_ (Nat.le_refl _) _) | (refine bl_set ?_ (by dsimp only; omega) _) | (refine Below.drew ?_) | (refine bl_drewN ?_ _) | (refine bl_call ?_ (Nat.le_refl _) (by assumption)))⟩
        case measure => simp [intOf]

theorem ref_MulK {f : Nat} (hf : IsF f) (x y : Fin (Pm f)) (w : World) : Calls Tryd.prog 37 #[.int .i64 f, vK x, vK y] w (RetK (x * y) w) := by
  have h := ref_MulL hf (lo x) (hi x) (lo y) (hi y) w (lo_0 x) (lo_1 x) (hi_0 x) (hi_1 x) (lo_0 y) (lo_1 y) (hi_0 y) (hi_1 y)
  rwa [kL_lohi, kL_lohi] at h

end Go.Proofs.YtfhmineolncefaaDoor

namespace Go.Proofs.YtfhmineolncefaaDoor
open Go.RowKit Fm
set_option linter.unusedVariables false
set_option maxRecDepth 100000

def horner {f : Nat} (x : Fin (Pm f)) (p : KL f) : Fin (Pm f) := p.foldr (fun a s => s * x + a) 0

theorem horner_drop {f : Nat} (x : Fin (Pm f)) (p : KL f) (k : Nat) (a : Fin (Pm f)) (h : p[k]? = some a) : horner x (p.drop k) = horner x (p.drop (k + 1)) * x + a := by
  obtain ⟨hlt, rfl⟩ := List.getElem?_eq_some_iff.1 h
  rw [List.drop_eq_getElem_cons hlt]
  rfl

set_option maxHeartbeats 4000000 in
theorem poly_At {f : Nat} (hf : IsF f) (vp : Value) (p : KL f) (x : Fin (Pm f)) (w : World) (hp : SlK w w.heap.size vp p) (hn : p.length ≤ 1099511627776) :
    Calls Tryd.prog 30 #[.int .u8 f, vp, vK x] w (RetK (horner x p) w) := by
  obtain ⟨A, c, rfl, hc, hcm, hA⟩ := hp
  go_enter Tryd.func30, Tryd.ntmps30
  go_wp2
  go_loopw [8] (fun i wr => ∃ k : Nat, k ≤ p.length ∧ i = .int .i64 ((k : Int) - 1) ∧ V2 wr w.heap.size (.int .u64 (lo x)) (.int .u64 (hi x)) ∧ V2 wr (w.heap.size + 1) (.int .u64 0) (.int .u64 0) ∧
      V2 wr (w.heap.size + 1 + 1) (.int .u64 (lo (horner x (p.drop k)))) (.int .u64 (hi (horner x (p.drop k)))) ∧ Below w.heap.size w wr) (fun i _ => (intOf i + 1).toNat)
  case atStart =>
    refine ⟨p.length, Nat.le_refl _, rfl, ((V2.new w _ _ 28).alloc _).alloc _, ?_, ?_, by repeat (first | exact Below.refl _ _ | with_reducible assumption | (refine bl_alloc ?_ (Nat.le_refl _) _) | (refine bl_set ?_ (by dsimp only; omega) _) | (refine Below.drew ?_) | (refine bl_drewN ?_ _) | (refine bl_call ?_ (Nat.le_refl _) (by assumption)))⟩
    · have h := (V2.new (w.alloc (.cells #[.int .u64 (lo x), .int .u64 (hi x)] 28)) (.int .u64 0) (.int .u64 0) 28).alloc (.cells #[.int .u64 0, .int .u64 0] 28)
      simpa only [World.size_alloc] using h
    · have h := V2.new ((w.alloc (.cells #[.int .u64 (lo x), .int .u64 (hi x)] 28)).alloc (.cells #[.int .u64 0, .int .u64 0] 28)) (.int .u64 0) (.int .u64 0) 28
      rw [List.drop_length, show horner x ([] : KL f) = 0 from rfl, lo_zero, hi_zero]
      simpa only [World.size_alloc] using h
  case round =>
    obtain ⟨k, hk, rfl, hx, hz, hy, hbw⟩ := hrel
    by_cases hk0 : k = 0
    · subst hk0
      rw [List.drop_zero] at hy
      obtain ⟨y0, y1, y2, y3, y4⟩ := hy
      obtain ⟨z0, z1, z2, z3, z4⟩ := hz
      go_wp2
      refine bodyPost_ret (results_v2 (b := w.heap.size + 1) (u := .int .u64 (lo (horner x p))) (v := .int .u64 (hi (horner x p))) ?_ rfl rfl) rfl ?_
      · exact V2.set ⟨z0, z1, z2, z3, z4⟩ _ _
      · exact ⟨rfl, by repeat (first | exact Below.refl _ _ | with_reducible assumption | (refine bl_alloc ?_ (Nat.le_refl _) _) | (refine bl_set ?_ (by dsimp only; omega) _) | (refine Below.drew ?_) | (refine bl_drewN ?_ _) | (refine bl_call ?_ (Nat.le_refl _) (by assumption)))⟩
    · obtain ⟨k, rfl⟩ : ∃ j, k = j + 1 := ⟨k - 1, by omega⟩
      obtain ⟨b, o, rfl, hB, hr⟩ := hA (by omega)
      obtain ⟨y, he⟩ : ∃ e, p[k]? = some e := ⟨_, List.getElem?_eq_getElem (by omega)⟩
      obtain ⟨c0, c1⟩ := (hr.below hbw hB).kat he
      have hst := horner_drop x p k y he
      generalize horner x (p.drop (k + 1)) = s at *
      have HST := Lib.hid hst
      clear hst he hr hA
      have hyy := hy
      obtain ⟨y0, y1, y2, y3, y4⟩ := hyy
      have hxx := hx
      obtain ⟨x0, x1, x2, x3, x4⟩ := hxx
      have hkl : k < p.length := by omega
      have hbl : b < wr.heap.size := Nat.lt_of_lt_of_le hB hbw.size
      go_wp2_with fail
      refine region_B (n := 10) (m := 11) (f := 10) (by kernel_rfl) (by kernel_rfl) rfl ?_
      refine WpH.takeB (i := 0) (v := ?_) rfl (by kernel_rfl) (fun _ _ _ h => h) (.val rfl (fun wz hwz => ?_)) ?_
      rotate_left
      · go_simp; try (with_reducible rfl)
      (simp only [Act.put]); (try simp only [List.setIfInBounds_toArray]); (try simp only [List.set_cons_succ]); (try simp only [List.set_cons_zero])
      refine WpH.takeB (i := 1) (v := ?_) rfl (by kernel_rfl) (fun _ _ _ h => h) (.val rfl (fun wz hwz => ?_)) ?_
      rotate_left
      · go_simp; try (with_reducible rfl)
      (simp only [Act.put]); (try simp only [List.setIfInBounds_toArray]); (try simp only [List.set_cons_succ]); (try simp only [List.set_cons_zero])
      refine WpH.takeB (i := 2) (v := ?_) rfl (by kernel_rfl) (fun _ _ _ h => h) (.val rfl (fun wz hwz => ?_)) ?_
      rotate_left
      · (obtain ⟨hcz, hfz⟩ := bcell hwz; go_simp; try (with_reducible rfl))
      (simp only [Act.put]); (try simp only [List.setIfInBounds_toArray]); (try simp only [List.set_cons_succ]); (try simp only [List.set_cons_zero])
      refine WpH.takeB (i := 3) (v := ?_) rfl (by kernel_rfl) (fun _ _ _ h => h) (.val rfl (fun wz hwz => ?_)) ?_
      rotate_left
      · (obtain ⟨hcz, hfz⟩ := bcell hwz; go_simp; try (with_reducible rfl))
      (simp only [Act.put]); (try simp only [List.setIfInBounds_toArray]); (try simp only [List.set_cons_succ]); (try simp only [List.set_cons_zero])
      refine WpH.takeB (i := 4) rfl (by kernel_rfl) (fun _ _ _ h => h) (.call rfl (fun wz hwz => field_MulK hf s x wz) (fun wz hwz => ?_)) ?_
      · go_simp; try (with_reducible rfl)
      (simp only [Act.put]); (try simp only [List.setIfInBounds_toArray]); (try simp only [List.set_cons_succ]); (try simp only [List.set_cons_zero])
      refine WpH.takeB (i := 5) (v := ?_) rfl (by kernel_rfl) (fun _ _ _ h => h) (.val rfl (fun wz hwz => ?_)) ?_
      rotate_left
      · go_simp; try (with_reducible rfl)
      (simp only [Act.put]); (try simp only [List.setIfInBounds_toArray]); (try simp only [List.set_cons_succ]); (try simp only [List.set_cons_zero])
      refine WpH.takeB (i := 6) (v := ?_) rfl (by kernel_rfl) (fun _ _ _ h => h) (.val rfl (fun wz hwz => ?_)) ?_
      rotate_left
      · go_simp; try (with_reducible rfl)
      (simp only [Act.put]); (try simp only [List.setIfInBounds_toArray]); (try simp only [List.set_cons_succ]); (try simp only [List.set_cons_zero])
      refine WpH.takeB (i := 7) (v := ?_) rfl (by kernel_rfl) (fun _ _ _ h => h) (.val rfl (fun wz hwz => ?_)) ?_
      rotate_left
      · go_simp; try (with_reducible rfl)
      (simp only [Act.put]); (try simp only [List.setIfInBounds_toArray]); (try simp only [List.set_cons_succ]); (try simp only [List.set_cons_zero])
      refine WpH.takeB (i := 8) (v := ?_) rfl (by kernel_rfl) (fun _ _ _ h => h) (.val rfl (fun wz hwz => ?_)) ?_
      rotate_left
      · (obtain ⟨hcz, hfz⟩ := bcell hwz; go_simp; try (with_reducible rfl))
      (simp only [Act.put]); (try simp only [List.setIfInBounds_toArray]); (try simp only [List.set_cons_succ]); (try simp only [List.set_cons_zero])
      refine WpH.takeB (i := 9) rfl (by kernel_rfl) (fun _ _ _ h => h) (.call rfl (fun wz hwz => field_AddK hf (s * x) y wz) (fun wz hwz => ?_)) ?_
      · go_simp; try (with_reducible rfl)
      (simp only [Act.put]); (try simp only [List.setIfInBounds_toArray]); (try simp only [List.set_cons_succ]); (try simp only [List.set_cons_zero])
      refine WpH.doneB (by kernel_rfl) (fun w6 hw6 => ?_)
      (try simp only [List.drop_succ_cons]); (try simp only [List.drop_zero]); (try simp only [Nat.reduceSub]); (try simp only [List.take_succ_cons]); (try simp only [List.take_zero])
      obtain ⟨y0, y1, y2, y3, y4⟩ := hy.call hw6
      have hx6 := hx.call hw6
      have hz6 := hz.call hw6
      go_wp2
      go_roundw
      case rel => exact ⟨k, by omega, by go_num, hx6.setOther (by dsimp only; omega) _ |>.setOther (by dsimp only; omega) _, hz6.setOther (by dsimp only; omega) _ |>.setOther (by dsimp only; omega) _, by rw [HST.out]; exact V2.set ⟨y0, y1, y2, y3, y4⟩ _ _, by repeat (first | exact Below.refl _ _ | with_reducible assumption | (refine bl_alloc ?_ (Nat.le_refl _) _) | (refine bl_set ?_ (by dsimp only; omega) _) | (refine Below.drew ?_) | (refine bl_drewN ?_ _) | (refine bl_call ?_ (Nat.le_refl _) (by assumption)))⟩
      case measure => simp [intOf]

end Go.Proofs.YtfhmineolncefaaDoor

namespace Go.Proofs.YtfhmineolncefaaDoor
open Go.RowKit Fm
set_option linter.unusedVariables false
set_option maxRecDepth 100000

/-- term by term: the value of the first k coefficients, and the next power -/
def termSum {f : Nat} (x : Fin (Pm f)) (p : KL f) (k : Nat) : Fin (Pm f) := horner x (p.take k)

theorem horner_append {f : Nat} (x : Fin (Pm f)) (p : KL f) (a : Fin (Pm f)) : horner x (p ++ [a]) = horner x p + a * kpow x p.length := by
  induction p with
  | nil => simp only [horner, List.nil_append, List.foldr_cons, List.foldr_nil, List.length_nil, kpow_zero]; grind
  | cons b p ih =>
    have e1 : horner x (b :: p ++ [a]) = horner x (p ++ [a]) * x + b := rfl
    have e2 : horner x (b :: p) = horner x p * x + b := rfl
    rw [e1, e2, ih, List.length_cons, kpow_succ]
    grind

theorem horner_take {f : Nat} (x : Fin (Pm f)) (p : KL f) (k : Nat) (a : Fin (Pm f)) (h : p[k]? = some a) : horner x (p.take (k + 1)) = horner x (p.take k) + a * kpow x k := by
  obtain ⟨hlt, rfl⟩ := List.getElem?_eq_some_iff.1 h
  rw [List.take_add_one, List.getElem?_eq_getElem hlt]
  show horner x (p.take k ++ [p[k]]) = _
  rw [horner_append, List.length_take, Nat.min_eq_left (by omega)]

set_option maxHeartbeats 4000000 in
theorem ref_At {f : Nat} (hf : IsF f) (vp : Value) (p : KL f) (x : Fin (Pm f)) (w : World) (hp : SlK w w.heap.size vp p) (hn : p.length ≤ 1099511627776) :
    Calls Tryd.prog 25 #[.int .i64 f, vp, vK x] w (RetK (horner x p) w) := by
  obtain ⟨A, c, rfl, hc, hcm, hA⟩ := hp
  go_enter Tryd.func25, Tryd.ntmps25
  go_upto_region 1 with fail
  have hx := (V2.new w (.int .u64 (lo x)) (.int .u64 (hi x)) 28).alloc (.cells #[(.int .u64 0), (.int .u64 0)] 28)
  have hr := V2.new (w.alloc (.cells #[(.int .u64 (lo x)), (.int .u64 (hi x))] 28)) (.int .u64 0) (.int .u64 0) 28
  simp only [World.size_alloc] at hr
  have hb00 : Below w.heap.size w ((w.alloc (.cells #[(.int .u64 (lo x)), (.int .u64 (hi x))] 28)).alloc (.cells #[(.int .u64 0), (.int .u64 0)] 28)) := by repeat (first | exact Below.refl _ _ | with_reducible assumption | (refine bl_alloc ?_ (Nat.le_refl _) _))
  have hsz : w.heap.size + 2 ≤ ((w.alloc (.cells #[(.int .u64 (lo x)), (.int .u64 (hi x))] 28)).alloc (.cells #[(.int .u64 0), (.int .u64 0)] 28)).heap.size := by simp only [World.size_alloc]; omega
  generalize ((w.alloc (.cells #[(.int .u64 (lo x)), (.int .u64 (hi x))] 28)).alloc (.cells #[(.int .u64 0), (.int .u64 0)] 28)) = w1 at hx hr hb00 hsz ⊢
  go_upto_region 3 with fail
  have ho := V2.new w1 (.int .u64 0) (.int .u64 0) 28
  replace ho := ho.alloc (.cells #[.int .u64 1, .int .u64 0] 28)
  have hp := V2.new (w1.alloc (.cells #[.int .u64 0, .int .u64 0] 28)) (.int .u64 1) (.int .u64 0) 28
  replace hx := (hx.alloc (.cells #[.int .u64 0, .int .u64 0] 28)).alloc (.cells #[.int .u64 1, .int .u64 0] 28)
  replace hr := (hr.alloc (.cells #[.int .u64 0, .int .u64 0] 28)).alloc (.cells #[.int .u64 1, .int .u64 0] 28)
  replace hb00 : Below w.heap.size w ((w1.alloc (.cells #[.int .u64 0, .int .u64 0] 28)).alloc (.cells #[.int .u64 1, .int .u64 0] 28)) := by repeat (first | exact Below.refl _ _ | with_reducible assumption | (refine bl_alloc ?_ (Nat.le_refl _) _) | (refine bl_set ?_ (by dsimp only; omega) _) | (refine Below.drew ?_) | (refine bl_drewN ?_ _) | (refine bl_call ?_ (Nat.le_refl _) (by assumption)))
  rw [World.size_alloc] at hp
  generalize (w1.alloc (.cells #[.int .u64 0, .int .u64 0] 28)).alloc (.cells #[.int .u64 1, .int .u64 0] 28) = w2 at ho hp hx hr hb00 ⊢
  go_wp2_with fail
  go_loopw [9] (fun i wr => ∃ k : Nat, k ≤ p.length ∧ i = .int .i64 k ∧ V2 wr w.heap.size (.int .u64 (lo x)) (.int .u64 (hi x)) ∧ V2 wr (w.heap.size + 1) (.int .u64 0) (.int .u64 0) ∧
      V2 wr w1.heap.size (.int .u64 (lo (horner x (p.take k)))) (.int .u64 (hi (horner x (p.take k)))) ∧ V2 wr (w1.heap.size + 1) (.int .u64 (lo (kpow x k))) (.int .u64 (hi (kpow x k))) ∧ Below w.heap.size w wr) (fun i _ => p.length - (intOf i).toNat)
  case atStart =>
    refine ⟨0, Nat.zero_le _, rfl, hx, hr, ?_, ?_, by repeat (first | exact Below.refl _ _ | with_reducible assumption | (refine bl_alloc ?_ (Nat.le_refl _) _) | (refine bl_set ?_ (by dsimp only; omega) _) | (refine Below.drew ?_) | (refine bl_drewN ?_ _) | (refine bl_call ?_ (Nat.le_refl _) (by assumption)))⟩
    · rw [List.take_zero, show horner x ([] : KL f) = 0 from rfl, lo_zero, hi_zero]
      exact ho
    · rw [kpow_zero, lo_one, hi_one]
      exact hp
  case round =>
    clear hx hr ho hp hb00
    obtain ⟨k, hk, rfl, hx, hr, ho, hp, hbw⟩ := hrel
    by_cases hkl : k < p.length
    · obtain ⟨b, o, rfl, hB, hrow⟩ := hA (by omega)
      obtain ⟨y, he⟩ : ∃ e, p[k]? = some e := ⟨_, List.getElem?_eq_getElem (by omega)⟩
      obtain ⟨c0, c1⟩ := (hrow.below hbw hB).kat he
      have hbl : b < wr.heap.size := Nat.lt_of_lt_of_le hB hbw.size
      have HST := Lib.hid (horner_take x p k y he)
      have HPW := Lib.hid (kpow_succ x k)
      generalize horner x (p.take k) = s at *
      generalize kpow x k = z at *
      clear he hrow hA
      have hoo := ho
      obtain ⟨o0, o1, o2, o3, o4⟩ := hoo
      have hxx := hx
      obtain ⟨x0, x1, x2, x3, x4⟩ := hxx
      have hpp := hp
      obtain ⟨p0, p1, p2, p3, p4⟩ := hpp
      go_wp2_with fail
      refine region_B (n := 10) (m := 11) (f := 10) (by kernel_rfl) (by kernel_rfl) rfl ?_
      refine WpH.takeB (i := 0) (v := ?_) rfl (by kernel_rfl) (fun _ _ _ h => h) (.val rfl (fun wz hwz => ?_)) ?_
      rotate_left
      · go_simp; try (with_reducible rfl)
      (simp only [Act.put]); (try simp only [List.setIfInBounds_toArray]); (try simp only [List.set_cons_succ]); (try simp only [List.set_cons_zero])
      refine WpH.takeB (i := 1) (v := ?_) rfl (by kernel_rfl) (fun _ _ _ h => h) (.val rfl (fun wz hwz => ?_)) ?_
      rotate_left
      · (obtain ⟨hcz, hfz⟩ := bcell hwz; go_simp; try (with_reducible rfl))
      (simp only [Act.put]); (try simp only [List.setIfInBounds_toArray]); (try simp only [List.set_cons_succ]); (try simp only [List.set_cons_zero])
      refine WpH.takeB (i := 2) (v := ?_) rfl (by kernel_rfl) (fun _ _ _ h => h) (.val rfl (fun wz hwz => ?_)) ?_
      rotate_left
      · go_simp; try (with_reducible rfl)
      (simp only [Act.put]); (try simp only [List.setIfInBounds_toArray]); (try simp only [List.set_cons_succ]); (try simp only [List.set_cons_zero])
      refine WpH.takeB (i := 3) (v := ?_) rfl (by kernel_rfl) (fun _ _ _ h => h) (.val rfl (fun wz hwz => ?_)) ?_
      rotate_left
      · go_simp; try (with_reducible rfl)
      (simp only [Act.put]); (try simp only [List.setIfInBounds_toArray]); (try simp only [List.set_cons_succ]); (try simp only [List.set_cons_zero])
      refine WpH.takeB (i := 4) (v := ?_) rfl (by kernel_rfl) (fun _ _ _ h => h) (.val rfl (fun wz hwz => ?_)) ?_
      rotate_left
      · go_simp; try (with_reducible rfl)
      (simp only [Act.put]); (try simp only [List.setIfInBounds_toArray]); (try simp only [List.set_cons_succ]); (try simp only [List.set_cons_zero])
      refine WpH.takeB (i := 5) (v := ?_) rfl (by kernel_rfl) (fun _ _ _ h => h) (.val rfl (fun wz hwz => ?_)) ?_
      rotate_left
      · go_simp; try (with_reducible rfl)
      (simp only [Act.put]); (try simp only [List.setIfInBounds_toArray]); (try simp only [List.set_cons_succ]); (try simp only [List.set_cons_zero])
      refine WpH.takeB (i := 6) (v := ?_) rfl (by kernel_rfl) (fun _ _ _ h => h) (.val rfl (fun wz hwz => ?_)) ?_
      rotate_left
      · (obtain ⟨hcz, hfz⟩ := bcell hwz; go_simp; try (with_reducible rfl))
      (simp only [Act.put]); (try simp only [List.setIfInBounds_toArray]); (try simp only [List.set_cons_succ]); (try simp only [List.set_cons_zero])
      refine WpH.takeB (i := 7) (v := ?_) rfl (by kernel_rfl) (fun _ _ _ h => h) (.val rfl (fun wz hwz => ?_)) ?_
      rotate_left
      · (obtain ⟨hcz, hfz⟩ := bcell hwz; go_simp; try (with_reducible rfl))
      (simp only [Act.put]); (try simp only [List.setIfInBounds_toArray]); (try simp only [List.set_cons_succ]); (try simp only [List.set_cons_zero])
      refine WpH.takeB (i := 8) rfl (by kernel_rfl) (fun _ _ _ h => h) (.call rfl (fun wz hwz => ref_MulK hf y z wz) (fun wz hwz => ?_)) ?_
      · go_simp; try (with_reducible rfl)
      (simp only [Act.put]); (try simp only [List.setIfInBounds_toArray]); (try simp only [List.set_cons_succ]); (try simp only [List.set_cons_zero])
      refine WpH.takeB (i := 9) rfl (by kernel_rfl) (fun _ _ _ h => h) (.call rfl (fun wz hwz => ref_AddK hf s (y * z) wz) (fun wz hwz => ?_)) ?_
      · go_simp; try (with_reducible rfl)
      (simp only [Act.put]); (try simp only [List.setIfInBounds_toArray]); (try simp only [List.set_cons_succ]); (try simp only [List.set_cons_zero])
      refine WpH.doneB (by kernel_rfl) (fun w6 hw6 => ?_)
      (try simp only [List.drop_succ_cons]); (try simp only [List.drop_zero]); (try simp only [Nat.reduceSub]); (try simp only [List.take_succ_cons]); (try simp only [List.take_zero])
      replace ho := ho.call hw6
      replace hx := hx.call hw6
      replace hp := hp.call hw6
      replace hr := hr.call hw6
      replace hbw := bl_call hbw (Nat.le_refl _) hw6
      have hoo := ho
      clear o0 o1 o2 o3 o4 x0 x1 x2 x3 x4 p0 p1 p2 p3 p4 c0 c1 hbl
      obtain ⟨o0, o1, o2, o3, o4⟩ := hoo
      go_upto_region 7 with fail
      clear o0 o1 o2 o3 o4
      have hne : w1.heap.size ≠ w1.heap.size + 1 := by omega
      replace ho : V2 ((w6.setCell ⟨w1.heap.size, 0, none⟩ (.int .u64 (lo (s + y * z)))).setCell ⟨w1.heap.size, 1, none⟩ (.int .u64 (hi (s + y * z)))) (w1.heap.size) (.int .u64 (lo (s + y * z))) (.int .u64 (hi (s + y * z))) := V2.set ho _ _
      replace hx := V2.oth hx (b := w1.heap.size) (by omega) (.int .u64 (lo (s + y * z))) (.int .u64 (hi (s + y * z)))
      replace hp := V2.oth hp (b := w1.heap.size) (by omega) (.int .u64 (lo (s + y * z))) (.int .u64 (hi (s + y * z)))
      replace hr := V2.oth hr (b := w1.heap.size) (by omega) (.int .u64 (lo (s + y * z))) (.int .u64 (hi (s + y * z)))
      replace hbw := bl_st hbw (b := w1.heap.size) (by omega) (.int .u64 (lo (s + y * z))) (.int .u64 (hi (s + y * z)))
      generalize ((w6.setCell ⟨w1.heap.size, 0, none⟩ (.int .u64 (lo (s + y * z)))).setCell ⟨w1.heap.size, 1, none⟩ (.int .u64 (hi (s + y * z)))) = w7 at ho hx hp hr hbw ⊢
      have hxx := hx
      obtain ⟨x0, x1, x2, x3, x4⟩ := hxx
      obtain ⟨p0, p1, p2, p3, p4⟩ := hp
      go_wp2_with (go_at_call 37; refine (ref_MulK hf z x _).mono ?_; rintro e w8 ⟨rfl, hb8⟩; obtain ⟨p0, p1, p2, p3, p4⟩ := V2.call ⟨p0, p1, p2, p3, p4⟩ hb8; replace hx := hx.call hb8; replace ho := ho.call hb8; replace hr := hr.call hb8)
      go_roundw
      case rel => exact ⟨k + 1, by omega, by go_num, hx.oth (by omega) _ _, hr.oth (by omega) _ _, by rw [HST.out]; exact ho.oth (by omega) _ _, by rw [HPW.out]; exact V2.set ⟨p0, p1, p2, p3, p4⟩ _ _, by repeat (first | exact Below.refl _ _ | with_reducible assumption | (refine bl_alloc ?_ (Nat.le_refl _) _) | (refine bl_set ?_ (by dsimp only; omega) _) | (refine Below.drew ?_) | (refine bl_drewN ?_ _) | (refine bl_call ?_ (Nat.le_refl _) (by assumption)))⟩
      case measure => simp [intOf]; omega
    · obtain rfl : k = p.length := by omega
      rw [List.take_length] at ho
      obtain ⟨y0, y1, y2, y3, y4⟩ := ho
      obtain ⟨z0, z1, z2, z3, z4⟩ := hr
      go_wp2
      refine bodyPost_ret (results_v2 (b := w.heap.size + 1) (u := .int .u64 (lo (horner x p))) (v := .int .u64 (hi (horner x p))) ?_ rfl rfl) rfl ?_
      · exact V2.set ⟨z0, z1, z2, z3, z4⟩ _ _
      · exact ⟨rfl, by repeat (first | exact Below.refl _ _ | with_reducible assumption | (refine bl_alloc ?_ (Nat.le_refl _) _) | (refine bl_set ?_ (by dsimp only; omega) _) | (refine Below.drew ?_) | (refine bl_drewN ?_ _) | (refine bl_call ?_ (Nat.le_refl _) (by assumption)))⟩

end Go.Proofs.YtfhmineolncefaaDoor

namespace Go.Proofs.YtfhmineolncefaaDoor
open Go.RowKit Fm
set_option linter.unusedVariables false
set_option maxRecDepth 100000

inductive Gad (f : Nat) where
  | mul
  | eval (cs : KL f)
  | par (n : Nat)

namespace Gad
variable {f : Nat}
def arity : Gad f → Nat
  | mul => 2
  | eval _ => 1
  | par n => 2 * n
def degree : Gad f → Nat
  | mul => 2
  | eval cs => cs.length - 1
  | par _ => 2
end Gad

/-- of k pairs the products' sum -/
def psum {f : Nat} (l : KL f) : Nat → Fin (Pm f)
  | 0 => 0
  | k + 1 => psum l k + l.getD (2 * k) 0 * l.getD (2 * k + 1) 0

def gval {f : Nat} (g : Gad f) (l : KL f) : Fin (Pm f) :=
  match g with
  | .mul => psum l 1
  | .eval cs => horner (l.getD 0 0) cs
  | .par n => psum l n

/-- a gadget's three fields -/
def RepG {f : Nat} (w : World) (B : Nat) (k : Int) (sl : Value) (n : Int) : Gad f → Prop
  | .mul => k = 1 ∧ sl = .slice none 0 0 ∧ n = 0
  | .eval cs => k = 2 ∧ n = 0 ∧ SlK w B sl cs ∧ (∃ m y, cs.length = m + 1 ∧ cs[m]? = some y ∧ y ≠ 0 ∧ 1 ≤ m ∧ m ≤ 3)
  | .par m => k = 3 ∧ sl = .slice none 0 0 ∧ n = m ∧ 1 ≤ m ∧ m ≤ 16

theorem RepG.below {f : Nat} {w w' : World} {B : Nat} {k : Int} {sl : Value} {n : Int} {g : Gad f} (h : RepG w B k sl n g) (hb : Below B w w') : RepG w' B k sl n g := by
  cases g with
  | mul => exact h
  | eval cs => exact ⟨h.1, h.2.1, h.2.2.1.below hb, h.2.2.2⟩
  | par m => exact h
theorem RepG.mono {f : Nat} {w : World} {B B' : Nat} {k : Int} {sl : Value} {n : Int} {g : Gad f} (h : RepG w B k sl n g) (hB : B ≤ B') : RepG w B' k sl n g := by
  cases g with
  | mul => exact h
  | eval cs => exact ⟨h.1, h.2.1, h.2.2.1.mono hB, h.2.2.2⟩
  | par m => exact h
theorem RepG.later {f : Nat} {w w' : World} {k : Int} {sl : Value} {n : Int} {g : Gad f} (h : RepG w w.heap.size k sl n g) (hb : Below w.heap.size w w') : RepG w' w'.heap.size k sl n g := (h.below hb).mono hb.size

section
variable {f : Nat} (hf : IsF f)
include hf

theorem fvalid : (((f : Nat) : Int) == 1 || ((f : Nat) : Int) == 2) = true := by
  rcases hf.or with rfl | rfl <;> rfl
theorem field_ValidK (w : World) : Calls Tryd.prog 59 #[.int .u8 f] w fun e w' => e = .returned (.bool true) ∧ w = w' := by
  have h := field_Valid (f : Int) w
  rwa [fvalid hf] at h
theorem field_InK (x : Fin (Pm f)) (w : World) : Calls Tryd.prog 80 #[.int .u8 f, vK x] w fun e w' => e = .returned (.bool true) ∧ Below w.heap.size w w' := by
  have h := field_In (f : Int) _ (lo x) (hi x) w (FM.ofN hf) (lo_0 x) (lo_1 x) (hi_0 x) (hi_1 x)
  rwa [val_lohi, decide_eq_true (val_pos x).2] at h

omit hf in
theorem gadget_Arity (w : World) (B : Nat) (g : Gad f) (k : Int) (sl : Value) (n : Int) (hg : RepG w B k sl n g) :
    Calls Tryd.prog 53 #[.agg #[.int .u8 k, sl, .int .i64 n]] w fun e w' => e = .returned (.int .i64 (g.arity : Int)) ∧ Below w.heap.size w w' := by
  cases g with
  | mul =>
    obtain ⟨rfl, rfl, rfl⟩ := hg
    go_enter Tryd.func53, Tryd.ntmps53
    go_wp2
    go_ret
    exact ⟨rfl, by repeat (first | exact Below.refl _ _ | with_reducible assumption | (refine bl_alloc ?_ (Nat.le_refl _) _) | (refine bl_set ?_ (by dsimp only; omega) _) | (refine Below.drew ?_) | (refine bl_drewN ?_ _) | (refine bl_call ?_ (Nat.le_refl _) (by assumption)))⟩
  | eval cs =>
    obtain ⟨rfl, rfl, hs, hm⟩ := hg
    go_enter Tryd.func53, Tryd.ntmps53
    go_wp2
    go_ret
    exact ⟨rfl, by repeat (first | exact Below.refl _ _ | with_reducible assumption | (refine bl_alloc ?_ (Nat.le_refl _) _) | (refine bl_set ?_ (by dsimp only; omega) _) | (refine Below.drew ?_) | (refine bl_drewN ?_ _) | (refine bl_call ?_ (Nat.le_refl _) (by assumption)))⟩
  | par m =>
    obtain ⟨rfl, rfl, rfl, h1, h2⟩ := hg
    have hmx : max (m : Int) 0 = (m : Int) := by omega
    go_enter Tryd.func53, Tryd.ntmps53
    go_wp2
    go_ret
    exact ⟨ret_int (show 2 * (m : Int) = ((2 * m : Nat) : Int) by omega), by repeat (first | exact Below.refl _ _ | with_reducible assumption | (refine bl_alloc ?_ (Nat.le_refl _) _) | (refine bl_set ?_ (by dsimp only; omega) _) | (refine Below.drew ?_) | (refine bl_drewN ?_ _) | (refine bl_call ?_ (Nat.le_refl _) (by assumption)))⟩

omit hf in
theorem gadget_Degree (w : World) (B : Nat) (g : Gad f) (k : Int) (sl : Value) (n : Int) (hg : RepG w B k sl n g) :
    Calls Tryd.prog 55 #[.agg #[.int .u8 k, sl, .int .i64 n]] w fun e w' => e = .returned (.int .i64 (g.degree : Int)) ∧ Below w.heap.size w w' := by
  cases g with
  | mul =>
    obtain ⟨rfl, rfl, rfl⟩ := hg
    go_enter Tryd.func55, Tryd.ntmps55
    go_wp2
    go_ret
    exact ⟨rfl, by repeat (first | exact Below.refl _ _ | with_reducible assumption | (refine bl_alloc ?_ (Nat.le_refl _) _) | (refine bl_set ?_ (by dsimp only; omega) _) | (refine Below.drew ?_) | (refine bl_drewN ?_ _) | (refine bl_call ?_ (Nat.le_refl _) (by assumption)))⟩
  | eval cs =>
    obtain ⟨rfl, rfl, hs, m, y, hm, hy, hy0, h1, h2⟩ := hg
    obtain ⟨A, c, rfl, hc, hcm, hA⟩ := hs
    rw [show Gad.degree (.eval cs) = m by show cs.length - 1 = m; omega, hm]
    clear hA hy hm
    go_enter Tryd.func55, Tryd.ntmps55
    go_wp2
    go_ret
    exact ⟨ret_int (by omega), by repeat (first | exact Below.refl _ _ | with_reducible assumption | (refine bl_alloc ?_ (Nat.le_refl _) _) | (refine bl_set ?_ (by dsimp only; omega) _) | (refine Below.drew ?_) | (refine bl_drewN ?_ _) | (refine bl_call ?_ (Nat.le_refl _) (by assumption)))⟩
  | par m =>
    obtain ⟨rfl, rfl, rfl, h1, h2⟩ := hg
    go_enter Tryd.func55, Tryd.ntmps55
    go_wp2
    go_ret
    exact ⟨rfl, by repeat (first | exact Below.refl _ _ | with_reducible assumption | (refine bl_alloc ?_ (Nat.le_refl _) _) | (refine bl_set ?_ (by dsimp only; omega) _) | (refine Below.drew ?_) | (refine bl_drewN ?_ _) | (refine bl_call ?_ (Nat.le_refl _) (by assumption)))⟩

set_option maxHeartbeats 1000000 in
theorem gadget_Check (w : World) (g : Gad f) (k : Int) (sl : Value) (n : Int) (hg : RepG w w.heap.size k sl n g) :
    Calls Tryd.prog 51 #[.agg #[.int .u8 k, sl, .int .i64 n], .int .u8 f] w fun e w' => e = .returned (.int .i64 0) ∧ Below w.heap.size w w' := by
  have heq := eql_elem
  have HV := Lib.hid (field_ValidK hf)
  cases g with
  | mul =>
    obtain ⟨rfl, rfl, rfl⟩ := hg
    go_enter Tryd.func51, Tryd.ntmps51
    go_wp2_with (go_at_call 59; refine (HV.out _).mono ?_; rintro e w5 ⟨rfl, rfl⟩)
    go_ret
    exact ⟨rfl, by repeat (first | exact Below.refl _ _ | with_reducible assumption | (refine bl_alloc ?_ (Nat.le_refl _) _) | (refine bl_set ?_ (by dsimp only; omega) _) | (refine Below.drew ?_) | (refine bl_drewN ?_ _) | (refine bl_call ?_ (Nat.le_refl _) (by assumption)))⟩
  | par m =>
    obtain ⟨rfl, rfl, rfl, h1, h2⟩ := hg
    go_enter Tryd.func51, Tryd.ntmps51
    go_wp2_with (go_at_call 59; refine (HV.out _).mono ?_; rintro e w5 ⟨rfl, rfl⟩)
    go_ret
    exact ⟨rfl, by repeat (first | exact Below.refl _ _ | with_reducible assumption | (refine bl_alloc ?_ (Nat.le_refl _) _) | (refine bl_set ?_ (by dsimp only; omega) _) | (refine Below.drew ?_) | (refine bl_drewN ?_ _) | (refine bl_call ?_ (Nat.le_refl _) (by assumption)))⟩
  | eval cs =>
    obtain ⟨rfl, rfl, hs, m, y, hm, hy, hy0, h1, h2⟩ := hg
    obtain ⟨A, c, rfl, hc, hcm, hA⟩ := hs
    obtain ⟨b, o, rfl, hB, hr⟩ := hA (by omega)
    obtain ⟨c0, c1⟩ := (hr.call ((Below.refl w.heap.size w).alloc (Nat.le_refl _) (.cells #[.int .u8 2, .slice (some ⟨b, o, none⟩) cs.length c, .int .i64 0] 68))).kat hy
    have hd : (lo y == 0 && hi y == 0) = false := by rw [lohi_zero, decide_eq_false hy0]
    have hv0 := Vs.new w [.int .u8 2, .slice (some ⟨b, o, none⟩) cs.length c, .int .i64 0] #[.int .u8 2, .slice (some ⟨b, o, none⟩) cs.length c, .int .i64 0] 68 rfl
    rw [hm] at c0 c1 hv0 hc
    rw [hm]
    have HM := Lib.hid hm
    clear hm hy hA
    go_enter Tryd.func51, Tryd.ntmps51
    go_wp2_with (go_at_call 59; refine (HV.out _).mono ?_; rintro e w5 ⟨rfl, rfl⟩)
    go_loopw [41] (fun i wr => ∃ q : Nat, q ≤ m + 1 ∧ i = .int .i64 q ∧ Below w.heap.size w wr ∧ Vs wr w.heap.size [.int .u8 2, .slice (some ⟨b, o, none⟩) (m + 1) c, .int .i64 0]) (fun i _ => m + 1 - (intOf i).toNat)
    case atStart => exact ⟨0, Nat.zero_le _, rfl, by repeat (first | exact Below.refl _ _ | with_reducible assumption | (refine bl_alloc ?_ (Nat.le_refl _) _) | (refine bl_set ?_ (by dsimp only; omega) _) | (refine Below.drew ?_) | (refine bl_drewN ?_ _) | (refine bl_call ?_ (Nat.le_refl _) (by assumption))), hv0⟩
    case round =>
      obtain ⟨q, hq, rfl, hbw, hv⟩ := hrel
      clear c0 c1 hd
      by_cases hlt : q < m + 1
      · obtain ⟨x, hx⟩ : ∃ e, cs[q]? = some e := ⟨_, List.getElem?_eq_getElem (by have := HM.out; omega)⟩
        obtain ⟨c0, c1⟩ := (hr.below hbw hB).kat hx
        clear hx
        go_wp2_with (go_at_call 80; refine (field_InK hf x _).mono ?_; rintro e w6 ⟨rfl, hb6⟩; replace hv := (hv.alloc _).call hb6)
        go_roundw
        case rel => exact ⟨q + 1, by omega, by go_num, by repeat (first | exact Below.refl _ _ | with_reducible assumption | (refine bl_alloc ?_ (Nat.le_refl _) _) | (refine bl_set ?_ (by dsimp only; omega) _) | (refine Below.drew ?_) | (refine bl_drewN ?_ _) | (refine bl_call ?_ (Nat.le_refl _) (by assumption))), hv⟩
        case measure => simp [intOf]; omega
      · obtain rfl : q = m + 1 := by omega
        go_wp2
        go_ret
        exact ⟨rfl, by repeat (first | exact Below.refl _ _ | with_reducible assumption | (refine bl_alloc ?_ (Nat.le_refl _) _) | (refine bl_set ?_ (by dsimp only; omega) _) | (refine Below.drew ?_) | (refine bl_drewN ?_ _) | (refine bl_call ?_ (Nat.le_refl _) (by assumption)))⟩

/-- an element and no error come back -/
def RetKE (x : Fin (Pm f)) (w : World) (e : Ending) (w' : World) : Prop := e = .returned (.tuple #[vK x, .int .i64 0]) ∧ Below w.heap.size w w'

omit hf in
theorem psum_zero (l : KL f) : psum l 0 = 0 := rfl
omit hf in
theorem psum_succ (l : KL f) (k : Nat) (x y : Fin (Pm f)) (hx : l[2 * k]? = some x) (hy : l[2 * k + 1]? = some y) : psum l (k + 1) = psum l k + x * y := by
  show psum l k + l.getD (2 * k) 0 * l.getD (2 * k + 1) 0 = _
  rw [List.getD_eq_getElem?_getD, List.getD_eq_getElem?_getD, hx, hy]
  rfl

set_option maxHeartbeats 4000000 in
/-- behind Check and the look at how many there are: the pairs' sum -/
theorem gadget_Of_pairs (w : World) (g : Gad f) (k : Int) (n : Int) (hg : RepG w w.heap.size k (.slice none 0 0) n g) (hk : (k == 2) = false) (vl : Value) (l : KL f) (hl : SlK w w.heap.size vl l) (q : Nat) (hq : l.length = 2 * q) (ha : g.arity = 2 * q) (hq16 : q ≤ 16) (hv : gval g l = psum l q) :
    Calls Tryd.prog 49 #[.agg #[.int .u8 k, .slice none 0 0, .int .i64 n], .int .u8 f, vl] w (RetKE (gval g l) w) := by
  have HC := Lib.hid (fun wz (h : Below w.heap.size w wz) => gadget_Check hf wz g k _ n (hg.later h))
  have HA := Lib.hid (fun wz => gadget_Arity wz w.heap.size g k (.slice none 0 0) n)
  have hga : ∀ wz, Below w.heap.size w wz → Calls Tryd.prog 53 #[.agg #[.int .u8 k, .slice none 0 0, .int .i64 n]] wz fun e w' => e = .returned (.int .i64 ((2 * q : Nat) : Int)) ∧ Below wz.heap.size wz w' := by
    intro wz hb
    have h := gadget_Arity wz w.heap.size g k (.slice none 0 0) n (hg.below hb)
    rwa [ha] at h
  have HAA := Lib.hid hga
  clear hga HA
  rw [hv]
  obtain ⟨A, c, rfl, hc, hcm, hA⟩ := hl
  rw [hq] at hc
  rw [hq]
  have HQ := Lib.hid hq
  clear hq ha hv hg
  go_enter Tryd.func49, Tryd.ntmps49
  go_upto_region 1 with fail
  have hx := Vs.new w [.int .u8 k, .slice none 0 0, .int .i64 n] #[.int .u8 k, .slice none 0 0, .int .i64 n] 68 rfl
  replace hx := hx.alloc (.cells #[.int .u64 0, .int .u64 0] 28)
  have hr := V2.new (w.alloc (.cells #[.int .u8 k, .slice none 0 0, .int .i64 n] 68)) (.int .u64 0) (.int .u64 0) 28
  rw [World.size_alloc] at hr
  have hb00 : Below w.heap.size w ((w.alloc (.cells #[.int .u8 k, .slice none 0 0, .int .i64 n] 68)).alloc (.cells #[.int .u64 0, .int .u64 0] 28)) := by repeat (first | exact Below.refl _ _ | with_reducible assumption | (refine bl_alloc ?_ (Nat.le_refl _) _) | (refine bl_set ?_ (by dsimp only; omega) _) | (refine Below.drew ?_) | (refine bl_drewN ?_ _) | (refine bl_call ?_ (Nat.le_refl _) (by assumption)))
  generalize (w.alloc (.cells #[.int .u8 k, .slice none 0 0, .int .i64 n] 68)).alloc (.cells #[.int .u64 0, .int .u64 0] 28) = w1 at hx hr hb00 ⊢
  obtain ⟨c0, c1, c2, c3, c4, c5, c6⟩ := hx.get3
  go_upto_region 8 with (first
    | (go_at_call 51; refine (HC.out _ hb00).mono ?_; rintro e w2 ⟨rfl, hb2⟩; replace hx := hx.call hb2; replace hr := hr.call hb2; replace hb00 := bl_call hb00 (Nat.le_refl _) hb2; obtain ⟨c0, c1, c2, c3, c4, c5, c6⟩ := hx.get3)
    | (go_at_call 53; refine (HAA.out _ hb00).mono ?_; rintro e w3 ⟨rfl, hb3⟩; replace hx := hx.call hb3; replace hr := hr.call hb3; replace hb00 := bl_call hb00 (Nat.le_refl _) hb3; obtain ⟨c0, c1, c2, c3, c4, c5, c6⟩ := hx.get3))
  have hz3 := hr.lt
  go_wp2_with fail
  go_loopw [10] (fun i wr => ∃ j : Nat, j ≤ q ∧ i = .int .i64 ((2 * j : Nat) : Int) ∧ V2 wr (w.heap.size + 1) (.int .u64 0) (.int .u64 0) ∧ V2 wr w3.heap.size (.int .u64 (lo (psum l j))) (.int .u64 (hi (psum l j))) ∧ Below w.heap.size w wr) (fun i _ => (2 * q + 1) - (intOf i).toNat)
  case atStart =>
    refine ⟨0, Nat.zero_le _, rfl, hr.alloc _, ?_, by repeat (first | exact Below.refl _ _ | with_reducible assumption | (refine bl_alloc ?_ (Nat.le_refl _) _) | (refine bl_set ?_ (by dsimp only; omega) _) | (refine Below.drew ?_) | (refine bl_drewN ?_ _) | (refine bl_call ?_ (Nat.le_refl _) (by assumption)))⟩
    rw [psum_zero, lo_zero, hi_zero]
    exact V2.new _ _ _ _
  case round =>
    clear hx hr hb00 c0 c1 c2 c3 c4 c5 c6 HC HAA
    obtain ⟨j, hj, rfl, hr, ho, hbw⟩ := hrel
    by_cases hlt : j < q
    · obtain ⟨b, o, rfl, hB, hrow⟩ := hA (by have := HQ.out; omega)
      obtain ⟨x, hx⟩ : ∃ e, l[2 * j]? = some e := ⟨_, List.getElem?_eq_getElem (by have := HQ.out; omega)⟩
      obtain ⟨y, hy⟩ : ∃ e, l[2 * j + 1]? = some e := ⟨_, List.getElem?_eq_getElem (by have := HQ.out; omega)⟩
      obtain ⟨c0, c1⟩ := (hrow.below hbw hB).kat hx
      obtain ⟨d0, d1⟩ := (hrow.below hbw hB).kat hy
      have hbl : b < wr.heap.size := Nat.lt_of_lt_of_le hB hbw.size
      have HST := Lib.hid (psum_succ l j x y hx hy)
      generalize psum l j = s at *
      have hj1 : 2 * j < 2 * q := by omega
      have hj2 : 2 * j + 1 < 2 * q := by omega
      have hj3 : 2 * j + 2 ≤ 2 * q := by omega
      generalize hjj : 2 * j = jj at *
      have HJJ := Lib.hid hjj
      generalize hqq : 2 * q = qq at *
      have HQQ := Lib.hid hqq
      have hqq32 : qq ≤ 32 := by omega
      clear hjj hqq hx hy hrow hA
      have hj4 : 0 ≤ (jj : Int) + 1 := by omega
      have hj5 : (jj : Int) + 1 < (qq : Int) := by omega
      have hw1 : IntKind.i64.wrap ((jj : Int) + 1) = (jj : Int) + 1 := IntWalk.i64_in _ (by omega)
      have hoo := ho
      obtain ⟨o0, o1, o2, o3, o4⟩ := hoo
      go_wp2_with fail
      refine region_B (n := 14) (m := 15) (f := 14) (by kernel_rfl) (by kernel_rfl) rfl ?_
      refine WpH.takeB (i := 0) (v := ?_) rfl (by kernel_rfl) (fun _ _ _ h => h) (.val rfl (fun wz hwz => ?_)) ?_
      rotate_left
      · go_simp; try (with_reducible rfl)
      (simp only [Act.put]); (try simp only [List.setIfInBounds_toArray]); (try simp only [List.set_cons_succ]); (try simp only [List.set_cons_zero])
      refine WpH.takeB (i := 1) (v := ?_) rfl (by kernel_rfl) (fun _ _ _ h => h) (.val rfl (fun wz hwz => ?_)) ?_
      rotate_left
      · (obtain ⟨hcz, hfz⟩ := bcell hwz; go_simp; try (with_reducible rfl))
      (simp only [Act.put]); (try simp only [List.setIfInBounds_toArray]); (try simp only [List.set_cons_succ]); (try simp only [List.set_cons_zero])
      refine WpH.takeB (i := 2) (v := ?_) rfl (by kernel_rfl) (fun _ _ _ h => h) (.val rfl (fun wz hwz => ?_)) ?_
      rotate_left
      · go_simp; try (with_reducible rfl)
      (simp only [Act.put]); (try simp only [List.setIfInBounds_toArray]); (try simp only [List.set_cons_succ]); (try simp only [List.set_cons_zero])
      refine WpH.takeB (i := 3) (v := ?_) rfl (by kernel_rfl) (fun _ _ _ h => h) (.val rfl (fun wz hwz => ?_)) ?_
      rotate_left
      · go_simp; try (with_reducible rfl)
      (simp only [Act.put]); (try simp only [List.setIfInBounds_toArray]); (try simp only [List.set_cons_succ]); (try simp only [List.set_cons_zero])
      refine WpH.takeB (i := 4) (v := ?_) rfl (by kernel_rfl) (fun _ _ _ h => h) (.val rfl (fun wz hwz => ?_)) ?_
      rotate_left
      · go_simp; try (with_reducible rfl)
      (simp only [Act.put]); (try simp only [List.setIfInBounds_toArray]); (try simp only [List.set_cons_succ]); (try simp only [List.set_cons_zero])
      refine WpH.takeB (i := 5) (v := ?_) rfl (by kernel_rfl) (fun _ _ _ h => h) (.val rfl (fun wz hwz => ?_)) ?_
      rotate_left
      · go_simp; try (with_reducible rfl)
      (simp only [Act.put]); (try simp only [List.setIfInBounds_toArray]); (try simp only [List.set_cons_succ]); (try simp only [List.set_cons_zero])
      refine WpH.takeB (i := 6) (v := ?_) rfl (by kernel_rfl) (fun _ _ _ h => h) (.val rfl (fun wz hwz => ?_)) ?_
      rotate_left
      · (obtain ⟨hcz, hfz⟩ := bcell hwz; go_simp; try (with_reducible rfl))
      (simp only [Act.put]); (try simp only [List.setIfInBounds_toArray]); (try simp only [List.set_cons_succ]); (try simp only [List.set_cons_zero])
      refine WpH.takeB (i := 7) (v := ?_) rfl (by kernel_rfl) (fun _ _ _ h => h) (.val rfl (fun wz hwz => ?_)) ?_
      rotate_left
      · go_simp; try (with_reducible rfl)
      (simp only [Act.put]); (try simp only [List.setIfInBounds_toArray]); (try simp only [List.set_cons_succ]); (try simp only [List.set_cons_zero])
      refine WpH.takeB (i := 8) (v := ?_) rfl (by kernel_rfl) (fun _ _ _ h => h) (.val rfl (fun wz hwz => ?_)) ?_
      rotate_left
      · go_simp; try (with_reducible rfl)
      (simp only [Act.put]); (try simp only [List.setIfInBounds_toArray]); (try simp only [List.set_cons_succ]); (try simp only [List.set_cons_zero])
      refine WpH.takeB (i := 9) (v := ?_) rfl (by kernel_rfl) (fun _ _ _ h => h) (.val rfl (fun wz hwz => ?_)) ?_
      rotate_left
      · go_simp; try (with_reducible rfl)
      (simp only [Act.put]); (try simp only [List.setIfInBounds_toArray]); (try simp only [List.set_cons_succ]); (try simp only [List.set_cons_zero])
      refine WpH.takeB (i := 10) (v := ?_) rfl (by kernel_rfl) (fun _ _ _ h => h) (.val rfl (fun wz hwz => ?_)) ?_
      rotate_left
      · go_simp; try (with_reducible rfl)
      (simp only [Act.put]); (try simp only [List.setIfInBounds_toArray]); (try simp only [List.set_cons_succ]); (try simp only [List.set_cons_zero])
      refine WpH.takeB (i := 11) (v := ?_) rfl (by kernel_rfl) (fun _ _ _ h => h) (.val rfl (fun wz hwz => ?_)) ?_
      rotate_left
      · (obtain ⟨hcz, hfz⟩ := bcell hwz; go_simp; try (with_reducible rfl))
      (simp only [Act.put]); (try simp only [List.setIfInBounds_toArray]); (try simp only [List.set_cons_succ]); (try simp only [List.set_cons_zero])
      refine WpH.takeB (i := 12) rfl (by kernel_rfl) (fun _ _ _ h => h) (.call rfl (fun wz hwz => field_MulK hf x y wz) (fun wz hwz => ?_)) ?_
      · go_simp; try (with_reducible rfl)
      (simp only [Act.put]); (try simp only [List.setIfInBounds_toArray]); (try simp only [List.set_cons_succ]); (try simp only [List.set_cons_zero])
      refine WpH.takeB (i := 13) rfl (by kernel_rfl) (fun _ _ _ h => h) (.call rfl (fun wz hwz => field_AddK hf s (x * y) wz) (fun wz hwz => ?_)) ?_
      · go_simp; try (with_reducible rfl)
      (simp only [Act.put]); (try simp only [List.setIfInBounds_toArray]); (try simp only [List.set_cons_succ]); (try simp only [List.set_cons_zero])
      refine WpH.doneB (by kernel_rfl) (fun w6 hw6 => ?_)
      (try simp only [List.drop_succ_cons]); (try simp only [List.drop_zero]); (try simp only [Nat.reduceSub]); (try simp only [List.take_succ_cons]); (try simp only [List.take_zero])
      replace ho := ho.call hw6
      replace hr := hr.call hw6
      obtain ⟨o0, o1, o2, o3, o4⟩ := ho
      clear hj4 hj5 hw1
      go_wp2_with fail
      go_roundw
      case rel => exact ⟨j + 1, by omega, by have := HJJ.out; have := HQQ.out; rw [show 2 * (j + 1) = jj + 2 by omega]; go_num, hr.oth (by omega) _ _, by rw [HST.out]; exact V2.set ⟨o0, o1, o2, o3, o4⟩ _ _, by repeat (first | exact Below.refl _ _ | with_reducible assumption | (refine bl_alloc ?_ (Nat.le_refl _) _) | (refine bl_set ?_ (by dsimp only; omega) _) | (refine Below.drew ?_) | (refine bl_drewN ?_ _) | (refine bl_call ?_ (Nat.le_refl _) (by assumption)))⟩
      case measure => simp [intOf]; omega
    · obtain rfl : j = q := by omega
      obtain ⟨y0, y1, y2, y3, y4⟩ := ho
      obtain ⟨z0, z1, z2, z3, z4⟩ := hr
      go_wp2
      refine bodyPost_ret (results_v2_tmp (b := w.heap.size + 1) (u := .int .u64 (lo (psum l j))) (v := .int .u64 (hi (psum l j))) ?_ rfl rfl) rfl ?_
      · exact V2.set ⟨z0, z1, z2, z3, z4⟩ _ _
      · exact ⟨rfl, by repeat (first | exact Below.refl _ _ | with_reducible assumption | (refine bl_alloc ?_ (Nat.le_refl _) _) | (refine bl_set ?_ (by dsimp only; omega) _) | (refine Below.drew ?_) | (refine bl_drewN ?_ _) | (refine bl_call ?_ (Nat.le_refl _) (by assumption)))⟩

set_option maxHeartbeats 4000000 in
theorem gadget_Of (w : World) (g : Gad f) (k : Int) (sl : Value) (n : Int) (hg : RepG w w.heap.size k sl n g) (vl : Value) (l : KL f) (hl : SlK w w.heap.size vl l) (hq : l.length = g.arity) :
    Calls Tryd.prog 49 #[.agg #[.int .u8 k, sl, .int .i64 n], .int .u8 f, vl] w (RetKE (gval g l) w) := by
  cases g with
  | mul =>
    have hg' := hg
    obtain ⟨rfl, rfl, rfl⟩ := hg
    exact gadget_Of_pairs hf w .mul 1 0 hg' rfl vl l hl 1 hq rfl (by omega) rfl
  | par m =>
    have hg' := hg
    obtain ⟨rfl, rfl, rfl, h1, h2⟩ := hg
    exact gadget_Of_pairs hf w (.par m) 3 m hg' rfl vl l hl m hq rfl h2 rfl
  | eval cs =>
    have HC := Lib.hid (fun wz (h : Below w.heap.size w wz) => gadget_Check hf wz (.eval cs) k _ n (hg.later h))
    have hga : ∀ wz, Below w.heap.size w wz → Calls Tryd.prog 53 #[.agg #[.int .u8 k, sl, .int .i64 n]] wz fun e w' => e = .returned (.int .i64 1) ∧ Below wz.heap.size wz w' := by
      intro wz hb
      exact gadget_Arity wz w.heap.size (.eval cs) k sl n (hg.below hb)
    have HAA := Lib.hid hga
    clear hga
    obtain ⟨rfl, rfl, hs, m, y, hm, hy, hy0, h1, h2⟩ := hg
    have hq1 : l.length = 1 := hq
    obtain ⟨A, c, rfl, hc, hcm, hA⟩ := hl
    obtain ⟨b, o, rfl, hB, hrow⟩ := hA (by omega)
    obtain ⟨x, hx⟩ : ∃ e, l[0]? = some e := ⟨_, List.getElem?_eq_getElem (by omega)⟩
    obtain ⟨c0, c1⟩ := hrow.kat hx
    rw [Nat.zero_mul, Nat.add_zero] at c0 c1
    have hgv : gval (.eval cs) l = horner x cs := by
      show horner (l.getD 0 0) cs = _
      rw [List.getD_eq_getElem?_getD, hx]
      rfl
    rw [hgv, hq1]
    rw [hq1] at hc
    have HP := Lib.hid (fun wz (h : Below w.heap.size w wz) => poly_At hf _ cs x wz (hs.later h) (by omega))
    have hs' := hs
    obtain ⟨A', c', rfl, hc', hcm', hA'⟩ := hs
    clear hA hA' hx hq hq1 hgv hy hm hrow
    go_enter Tryd.func49, Tryd.ntmps49
    go_upto_region 1 with fail
    have hx := Vs.new w [.int .u8 2, .slice A' cs.length c', .int .i64 0] #[.int .u8 2, .slice A' cs.length c', .int .i64 0] 68 rfl
    replace hx := hx.alloc (.cells #[.int .u64 0, .int .u64 0] 28)
    have hr := V2.new (w.alloc (.cells #[.int .u8 2, .slice A' cs.length c', .int .i64 0] 68)) (.int .u64 0) (.int .u64 0) 28
    rw [World.size_alloc] at hr
    have hb00 : Below w.heap.size w ((w.alloc (.cells #[.int .u8 2, .slice A' cs.length c', .int .i64 0] 68)).alloc (.cells #[.int .u64 0, .int .u64 0] 28)) := by repeat (first | exact Below.refl _ _ | with_reducible assumption | (refine bl_alloc ?_ (Nat.le_refl _) _) | (refine bl_set ?_ (by dsimp only; omega) _) | (refine Below.drew ?_) | (refine bl_drewN ?_ _) | (refine bl_call ?_ (Nat.le_refl _) (by assumption)))
    generalize (w.alloc (.cells #[.int .u8 2, .slice A' cs.length c', .int .i64 0] 68)).alloc (.cells #[.int .u64 0, .int .u64 0] 28) = w1 at hx hr hb00 ⊢
    obtain ⟨a0, a1, a2, a3, a4, a5, a6⟩ := hx.get3
    go_upto_region 7 with (first
      | (go_at_call 51; refine (HC.out _ hb00).mono ?_; rintro e w2 ⟨rfl, hb2⟩; replace hx := hx.call hb2; replace hr := hr.call hb2; replace hb00 := bl_call hb00 (Nat.le_refl _) hb2; obtain ⟨a0, a1, a2, a3, a4, a5, a6⟩ := hx.get3)
      | (go_at_call 53; refine (HAA.out _ hb00).mono ?_; rintro e w3 ⟨rfl, hb3⟩; replace hx := hx.call hb3; replace hr := hr.call hb3; replace hb00 := bl_call hb00 (Nat.le_refl _) hb3; obtain ⟨a0, a1, a2, a3, a4, a5, a6⟩ := hx.get3))
    obtain ⟨hcb, hfb⟩ := bcell hb00
    have d0 := (hcb b o hB).trans c0
    have d1 := (hcb b (o + 1) hB).trans c1
    have hbl : b < w3.heap.size := Nat.lt_of_lt_of_le hB hb00.size
    clear hcb hfb c0 c1
    refine region_B (n := 7) (m := 9) (f := 7) (by kernel_rfl) (by kernel_rfl) rfl ?_
    refine WpH.takeB (i := 0) (v := ?_) rfl (by kernel_rfl) (fun _ _ _ h => h) (.val rfl (fun wz hwz => ?_)) ?_
    rotate_left
    · go_simp; try (with_reducible rfl)
    (simp only [Act.put]); (try simp only [List.setIfInBounds_toArray]); (try simp only [List.set_cons_succ]); (try simp only [List.set_cons_zero])
    refine WpH.takeB (i := 1) (v := ?_) rfl (by kernel_rfl) (fun _ _ _ h => h) (.val rfl (fun wz hwz => ?_)) ?_
    rotate_left
    · go_simp; try (with_reducible rfl)
    (simp only [Act.put]); (try simp only [List.setIfInBounds_toArray]); (try simp only [List.set_cons_succ]); (try simp only [List.set_cons_zero])
    refine WpH.takeB (i := 2) (v := ?_) rfl (by kernel_rfl) (fun _ _ _ h => h) (.val rfl (fun wz hwz => ?_)) ?_
    rotate_left
    · (obtain ⟨hcz, hfz⟩ := bcell hwz; go_simp; try (with_reducible rfl))
    (simp only [Act.put]); (try simp only [List.setIfInBounds_toArray]); (try simp only [List.set_cons_succ]); (try simp only [List.set_cons_zero])
    refine WpH.takeB (i := 3) (v := ?_) rfl (by kernel_rfl) (fun _ _ _ h => h) (.val rfl (fun wz hwz => ?_)) ?_
    rotate_left
    · go_simp; try (with_reducible rfl)
    (simp only [Act.put]); (try simp only [List.setIfInBounds_toArray]); (try simp only [List.set_cons_succ]); (try simp only [List.set_cons_zero])
    refine WpH.takeB (i := 4) (v := ?_) rfl (by kernel_rfl) (fun _ _ _ h => h) (.val rfl (fun wz hwz => ?_)) ?_
    rotate_left
    · go_simp; try (with_reducible rfl)
    (simp only [Act.put]); (try simp only [List.setIfInBounds_toArray]); (try simp only [List.set_cons_succ]); (try simp only [List.set_cons_zero])
    refine WpH.takeB (i := 5) (v := ?_) rfl (by kernel_rfl) (fun _ _ _ h => h) (.val rfl (fun wz hwz => ?_)) ?_
    rotate_left
    · (obtain ⟨hcz, hfz⟩ := bcell hwz; go_simp; try (with_reducible rfl))
    (simp only [Act.put]); (try simp only [List.setIfInBounds_toArray]); (try simp only [List.set_cons_succ]); (try simp only [List.set_cons_zero])
    refine WpH.takeB (i := 6) rfl (by kernel_rfl) (fun _ _ _ h => h) (.call rfl (fun wz hwz => HP.out wz (hb00.trans (hwz.mono hb00.size))) (fun wz hwz => ?_)) ?_
    · go_simp; try (with_reducible rfl)
    (simp only [Act.put]); (try simp only [List.setIfInBounds_toArray]); (try simp only [List.set_cons_succ]); (try simp only [List.set_cons_zero])
    refine WpH.doneB (by kernel_rfl) (fun w6 hw6 => ?_)
    (try simp only [List.drop_succ_cons]); (try simp only [List.drop_zero]); (try simp only [Nat.reduceSub]); (try simp only [List.take_succ_cons]); (try simp only [List.take_zero])
    obtain ⟨o0, o1, o2, o3, o4⟩ := hr.call hw6
    go_wp2_with fail
    refine bodyPost_ret (results_v2_tmp (b := w.heap.size + 1) (u := .int .u64 (lo (horner x cs))) (v := .int .u64 (hi (horner x cs))) ?_ rfl rfl) rfl ?_
    · exact V2.set ⟨o0, o1, o2, o3, o4⟩ _ _
    · exact ⟨rfl, by repeat (first | exact Below.refl _ _ | with_reducible assumption | (refine bl_alloc ?_ (Nat.le_refl _) _) | (refine bl_set ?_ (by dsimp only; omega) _) | (refine Below.drew ?_) | (refine bl_drewN ?_ _) | (refine bl_call ?_ (Nat.le_refl _) (by assumption)))⟩

end

end Go.Proofs.YtfhmineolncefaaDoor

namespace Go.Proofs.YtfhmineolncefaaDoor
open Go.RowKit Fm
set_option linter.unusedVariables false
set_option maxRecDepth 100000

/-- a number from 1 to another one, if it is used, or else 0 -/
def usedB (n most : Int) (is : Bool) : Bool := if is then (decide (1 ≤ n) && decide (n ≤ most)) else n == 0
theorem usedB_no (n most : Int) : usedB n most false = (n == 0) := rfl
theorem usedB_yes (n most : Int) : usedB n most true = (decide (1 ≤ n) && decide (n ≤ most)) := rfl

/-- circuits whose numbers are in range -/
inductive CK where
  | count
  | sum (b : Nat)
  | vec (b l c : Nat)
  | hist (l c : Nat)
  | multi (l m c : Nat)

namespace CK
def k : CK → Nat
  | count => 1
  | sum _ => 2
  | vec _ _ _ => 3
  | hist _ _ => 4
  | multi _ _ _ => 5
def b : CK → Nat
  | sum b => b
  | vec b _ _ => b
  | _ => 0
def l : CK → Nat
  | vec _ l _ => l
  | hist l _ => l
  | multi l _ _ => l
  | _ => 0
def m : CK → Nat
  | multi _ m _ => m
  | _ => 0
def c : CK → Nat
  | vec _ _ c => c
  | hist _ c => c
  | multi _ _ c => c
  | _ => 0
def ok : CK → Prop
  | count => True
  | sum b => 1 ≤ b ∧ b ≤ 32
  | vec b l c => (1 ≤ b ∧ b ≤ 32) ∧ (1 ≤ l ∧ l ≤ 64) ∧ (1 ≤ c ∧ c ≤ 16)
  | hist l c => (1 ≤ l ∧ l ≤ 64) ∧ (1 ≤ c ∧ c ≤ 16)
  | multi l m c => (1 ≤ l ∧ l ≤ 64) ∧ (1 ≤ m ∧ m ≤ l) ∧ (1 ≤ c ∧ c ≤ 16)
def nin : CK → Nat
  | count => 1
  | sum b => b
  | vec b l _ => l * b
  | hist l _ => l
  | multi l m _ => l + Lib.bitLen m
def nout : CK → Nat
  | count => 1
  | sum _ => 1
  | vec _ l _ => l
  | hist l _ => l
  | multi l _ _ => l
def calls : CK → Nat
  | count => 1
  | sum b => b
  | y => (y.nin + y.c - 1) / y.c
def joint : CK → Nat
  | count => 0
  | sum _ => 1
  | vec b l c => (vec b l c).calls
  | y => y.calls + 1
def gad (f : Nat) : CK → Gad f
  | count => .mul
  | sum _ => .eval [0, -1, 1]
  | vec _ _ c => .par c
  | hist _ c => .par c
  | multi _ _ c => .par c
def arity : CK → Nat
  | count => 2
  | sum _ => 1
  | y => 2 * y.c
/-- a circuit's six fields -/
def val (f : Nat) (y : CK) : Value := .agg #[.int .u8 y.k, .int .u8 f, .int .i64 y.b, .int .i64 y.l, .int .i64 y.m, .int .i64 y.c]
/-- a circuit's six fields, in the reference -/
def rval (f : Nat) (y : CK) : Value := .agg #[.int .i64 y.k, .int .i64 f, .int .i64 y.b, .int .i64 y.l, .int .i64 y.m, .int .i64 y.c]
end CK

theorem gad_arity (f : Nat) (y : CK) : (y.gad f).arity = y.arity := by cases y <;> rfl
theorem gad_degree (f : Nat) (y : CK) : (y.gad f).degree = 2 := by cases y <;> rfl

/-! ### how many bits -/
theorem bitLen_small : ∀ m : Nat, m ≤ 64 → Lib.bitLen m ≤ 7 ∧ m < 2 ^ Lib.bitLen m ∧ (1 ≤ m → 1 ≤ Lib.bitLen m) := by decide +kernel

theorem mul_small {a b p q : Nat} (h : a ≤ p) (k : b ≤ q) : a * b ≤ p * q := Nat.mul_le_mul h k

namespace CK
theorem nin_le {y : CK} (h : y.ok) : y.nin ≤ 2048 := by
  cases y with
  | count => show 1 ≤ 2048; omega
  | sum b => show b ≤ 2048; have := h.2; omega
  | vec b l c => exact Nat.le_trans (mul_small h.2.1.2 h.1.2) (by omega)
  | hist l c => show l ≤ 2048; have := h.1.2; omega
  | multi l m c =>
    show l + Lib.bitLen m ≤ 2048
    have h1 := h.1.2
    have h2 := h.2.1.2
    have := (bitLen_small m (by omega)).1
    omega
theorem nin_pos {y : CK} (h : y.ok) : 1 ≤ y.nin := by
  cases y with
  | count => show 1 ≤ 1; omega
  | sum b => exact h.1
  | vec b l c => exact Nat.mul_pos h.2.1.1 h.1.1
  | hist l c => exact h.1.1
  | multi l m c => exact Nat.le_trans h.1.1 (Nat.le_add_right _ _)
theorem nout_le {y : CK} (h : y.ok) : 1 ≤ y.nout ∧ y.nout ≤ 64 := by
  cases y with
  | count => exact ⟨Nat.le_refl 1, by show 1 ≤ 64; omega⟩
  | sum b => exact ⟨Nat.le_refl 1, by show 1 ≤ 64; omega⟩
  | vec b l c => exact h.2.1
  | hist l c => exact h.1
  | multi l m c => exact h.1
end CK

theorem ceil_of {n c j : Nat} (hc : 1 ≤ c) (h1 : n ≤ j * c) (h2 : j = 0 ∨ (j - 1) * c < n) : (n + c - 1) / c = j := by
  rcases h2 with rfl | h2
  · have : n = 0 := by simpa using h1
    subst this
    exact Nat.div_eq_of_lt (by omega)
  · have hj : 1 ≤ j := by
      rcases Nat.eq_zero_or_pos j with rfl | h
      · simp at h1; omega
      · exact h
    obtain ⟨i, rfl⟩ : ∃ i, j = i + 1 := ⟨j - 1, by omega⟩
    rw [Nat.add_sub_cancel] at h2
    rw [Nat.succ_mul] at h1
    refine Nat.div_eq_of_lt_le ?_ ?_
    · rw [Nat.succ_mul]; omega
    · rw [Nat.succ_mul, Nat.succ_mul]; omega
theorem ceil_spec {n c : Nat} (hc : 1 ≤ c) : n ≤ (n + c - 1) / c * c := by
  have h := Nat.div_add_mod (n + c - 1) c
  have h2 := Nat.mod_lt (n + c - 1) (show 0 < c by omega)
  rw [Nat.mul_comm] at h
  omega
theorem ceil_le {n c : Nat} (hc : 1 ≤ c) : (n + c - 1) / c ≤ n := by
  refine Nat.le_of_lt_succ ((Nat.div_lt_iff_lt_mul (by omega)).2 ?_)
  have h := Nat.mul_le_mul_left n hc
  rw [Nat.succ_mul]
  omega

/-! ### the least power of two that isn't below -/
def nextP (n : Nat) : Nat :=
  if n ≤ 1 then 1 else if n ≤ 2 then 2 else if n ≤ 4 then 4 else if n ≤ 8 then 8 else if n ≤ 16 then 16 else if n ≤ 32 then 32 else if n ≤ 64 then 64 else if n ≤ 128 then 128 else if n ≤ 256 then 256 else if n ≤ 512 then 512 else 1024
/-- a power of two on the way -/
def OnWay (n out : Nat) : Prop := (out = 1 ∨ out = 2 ∨ out = 4 ∨ out = 8 ∨ out = 16 ∨ out = 32 ∨ out = 64 ∨ out = 128 ∨ out = 256 ∨ out = 512 ∨ out = 1024) ∧ (out = 1 ∨ out < 2 * n)
theorem onWay_one (n : Nat) : OnWay n 1 := ⟨.inl rfl, .inl rfl⟩
theorem onWay_next {n out : Nat} (h : OnWay n out) (h1 : out < n) (h2 : out < 1024) : OnWay n (2 * out) := by
  obtain ⟨h, _⟩ := h
  refine ⟨by omega, .inr (by omega)⟩
theorem onWay_end {n out : Nat} (h : OnWay n out) (hn : n ≤ 1024) (h1 : ¬ out < n) : nextP n = out := by
  obtain ⟨h, h2⟩ := h
  unfold nextP
  repeat' split
  all_goals omega
theorem onWay_le {n out : Nat} (h : OnWay n out) : 1 ≤ out ∧ out ≤ 1024 := by
  obtain ⟨h, _⟩ := h
  omega
theorem nextP_le (n : Nat) : 1 ≤ nextP n ∧ nextP n ≤ 1024 := by
  unfold nextP
  repeat' split
  all_goals omega

end Go.Proofs.YtfhmineolncefaaDoor
