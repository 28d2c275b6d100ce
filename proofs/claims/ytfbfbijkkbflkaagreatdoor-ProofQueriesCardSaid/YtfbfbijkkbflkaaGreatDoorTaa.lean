/-
 RefA, K, Kit, Ref2, Ref3, RefBit, RefMul, RefAt, Open, Cir3, Pd, Pow, Trunc: for ProofQueries.
-/
import Derived.Deep.Slices
import Derived.Test.YtfbfbijkkbflkaaGreatDoorMax
namespace Go.Proofs.YtfbfbijkkbflkaaGreatDoor
open Go.RowKit Fm
set_option linter.unusedVariables false
set_option maxRecDepth 100000

set_option maxHeartbeats 1000000 in
theorem ref_plus (a0 a1 b0 b1 : Int) (w : World) (h0 : 0 ≤ a0) (h1 : a0 ≤ 18446744073709551615) (g0 : 0 ≤ b0) (g1 : b0 ≤ 18446744073709551615)
     (k0 : 0 ≤ a1) (k1 : a1 ≤ 18446744073709551615) (j0 : 0 ≤ b1) (j1 : b1 ≤ 18446744073709551615)
     (hsum : a0 + 18446744073709551616 * a1 + (b0 + 18446744073709551616 * b1) < 340282366920938463463374607431768211456) :
  Calls Tryz.prog 111 #[.agg #[.int .u64 a0, .int .u64 a1], .agg #[.int .u64 b0, .int .u64 b1]] w
   (RetE (a0 + 18446744073709551616 * a1 + (b0 + 18446744073709551616 * b1)) w) := by
 have hw : IntKind.u64.wrap (a0 + b0) = (a0 + b0) % 18446744073709551616 := IntKind.wrap_u64 _
 by_cases hlt : a0 + b0 ≤ 18446744073709551615
 ·have hd : decide (a0 + b0 < a0) = false := by simp; omega
  go_enter Tryz.func111, Tryz.ntmps111
  go_wp2
  refine bodyPost_ret (by simp [results, Tryz.results111, go_sem]; rfl) rfl ?_
  refine ⟨_, _, rfl, ?_, ?_, by repeat (first | exact bA | with_reducible assumption | apply bB | (refine bC ?_ (by dsimp only; omega)) | apply bD | apply bE | (refine bF ?_ (by assumption)))⟩
  ·omega
  ·show _ = _
   omega
 ·have hd : decide ((a0 + b0) % 18446744073709551616 < a0) = true := by simp; omega
  go_enter Tryz.func111, Tryz.ntmps111
  go_wp2
  refine bodyPost_ret (by simp [results, Tryz.results111, go_sem]; rfl) rfl ?_
  refine ⟨_, _, rfl, ?_, ?_, by repeat (first | exact bA | with_reducible assumption | apply bB | (refine bC ?_ (by dsimp only; omega)) | apply bD | apply bE | (refine bF ?_ (by assumption)))⟩
  ·omega
  ·show _ = _
   omega

end Go.Proofs.YtfbfbijkkbflkaaGreatDoor

namespace Go.Proofs.YtfbfbijkkbflkaaGreatDoor
open Go.RowKit Fm
set_option linter.unusedVariables false
set_option maxRecDepth 100000

section
variable {f : Nat} (hf : IsF f)
include hf

end

/-! ### lists of elements -/
theorem esK_nil {f : Nat} : esK ([] : KL f) = [] := rfl
theorem esK_cons {f : Nat} (x : Fin (Pm f)) (l : KL f) : esK (x :: l) = eK x :: esK l := rfl

end Go.Proofs.YtfbfbijkkbflkaaGreatDoor

namespace Go.Proofs.YtfbfbijkkbflkaaGreatDoor
open Go.RowKit Fm
set_option linter.unusedVariables false
set_option maxRecDepth 100000

theorem limbs2 (n : Int) (h0 : 0 ≤ n) (h1 : n < 340282366920938463463374607431768211456) : ∃ z0 z1 : Int, z0 + 18446744073709551616 * z1 = n ∧ 0 ≤ z0 ∧ z0 ≤ 18446744073709551615 ∧ 0 ≤ z1 ∧ z1 ≤ 18446744073709551615 :=
 ⟨n % 18446744073709551616, n / 18446744073709551616, by omega, by omega, by omega, by omega, by omega⟩

theorem val_add {f : Nat} (x y : Fin (Pm f)) : (((x + y).val : Nat) : Int) = (((x.val : Nat) : Int) + ((y.val : Nat) : Int)) % ((Pm f : Nat) : Int) := by
 rw [Fin.val_add, Int.natCast_emod, Int.natCast_add]
end Go.Proofs.YtfbfbijkkbflkaaGreatDoor

namespace Go.Proofs.YtfbfbijkkbflkaaGreatDoor
open Go.RowKit Fm
set_option linter.unusedVariables false
set_option maxRecDepth 100000

theorem add_val {f : Nat} (x y : Fin (Pm f)) : (((x + y).val : Nat) : Int) = if ((x.val : Nat) : Int) < ((Pm f : Nat) : Int) - ((y.val : Nat) : Int) then ((x.val : Nat) : Int) + ((y.val : Nat) : Int) else ((x.val : Nat) : Int) + ((y.val : Nat) : Int) - ((Pm f : Nat) : Int) := by
 rw [val_add]
 have hx := val_pos x
 have hy := val_pos y
 split
 ·exact Int.emod_eq_of_lt (by omega) (by omega)
 ·rw [← Int.sub_emod_right, Int.emod_eq_of_lt (by omega) (by omega)]

set_option maxHeartbeats 600000 in
theorem ref_AddL {f : Nat} (hf : IsF f) (a0 a1 b0 b1 : Int) (w : World) (h0 : 0 ≤ a0) (h1 : a0 ≤ 18446744073709551615) (k0 : 0 ≤ a1) (k1 : a1 ≤ 18446744073709551615)
  (g0 : 0 ≤ b0) (g1 : b0 ≤ 18446744073709551615) (j0 : 0 ≤ b1) (j1 : b1 ≤ 18446744073709551615) :
  Calls Tryz.prog 80 #[.int .i64 f, .agg #[.int .u64 a0, .int .u64 a1], .agg #[.int .u64 b0, .int .u64 b1]] w (RetK (kL f a0 a1 + kL f b0 b1) w) := by
 have hOa := fun wz => ref_OfL hf a0 a1 wz h0 h1 k0 k1
 have hOb := fun wz => ref_OfL hf b0 b1 wz g0 g1 j0 j1
 generalize kL f a0 a1 = x at *
 generalize kL f b0 b1 = y at *
 obtain ⟨p0, p1, hr⟩ := (FM.ofN hf).ref
 have hp : 0 ≤ p0 ∧ p0 ≤ 18446744073709551615 ∧ 0 ≤ p1 ∧ p1 ≤ 18446744073709551615 ∧ ((Pm f : Nat) : Int) = p0 + 18446744073709551616 * p1 := by
  rcases hr.or with ⟨_, rfl, rfl, h⟩ | ⟨_, rfl, rfl, h⟩ <;> omega
 obtain ⟨hp0, hp1, hp2, hp3, hpm'⟩ := hp
 have hx := val_pos x
 have hy := val_pos y
 have hxl := val_lohi x
 have hyl := val_lohi y
 have hPl := Pm_lt f
 have hxy := add_val x y
 obtain ⟨r0, r1, hrn, hr0, hr1, hr2, hr3⟩ := limbs2 (((Pm f : Nat) : Int) - ((y.val : Nat) : Int)) (by omega) (by omega)
 have HP : ∀ wz, Calls Tryz.prog 91 #[.int .i64 f] wz (fun e w' => e = .returned (.agg #[.int .u64 p0, .int .u64 p1]) ∧ Below wz.heap.size wz w') := fun wz => ref_P f _ p0 p1 wz hr
 have HT : ∀ wz, Calls Tryz.prog 92 #[.agg #[.int .u64 p0, .int .u64 p1], vK y] wz (fun e w' => e = .returned (.agg #[.int .u64 r0, .int .u64 r1]) ∧ Below wz.heap.size wz w') := fun wz =>
  (ref_take p0 p1 (lo y) (hi y) wz (by omega) (by omega) (lo_0 y) (lo_1 y) (by omega) (by omega) (hi_0 y) (hi_1 y)).mono fun e w' h => h.det (by rw [hyl, ← hpm', hrn, Int.emod_eq_of_lt (by omega) (by omega)]) hr0 hr1
 have HL : ∀ wz, Calls Tryz.prog 90 #[vK x, .agg #[.int .u64 r0, .int .u64 r1]] wz (fun e w' => e = .returned (.bool (decide (((x.val : Nat) : Int) < ((Pm f : Nat) : Int) - ((y.val : Nat) : Int)))) ∧ Below wz.heap.size wz w') := fun wz => by
  have h := ref_Less (lo x) (hi x) r0 r1 wz (lo_0 x) (lo_1 x) hr0 hr1
  rwa [hxl, hrn] at h
 have H1 := Lib.hid hOa
 have H2 := Lib.hid hOb
 have H3 := Lib.hid HP
 have H4 := Lib.hid HT
 have H5 := Lib.hid HL
 have H6 : Hid (((x.val : Nat) : Int) < ((Pm f : Nat) : Int) - ((y.val : Nat) : Int) → ∀ wz, Calls Tryz.prog 111 #[vK x, vK y] wz (RetK (x + y) wz)) := by
  intro hlt wz
  have h := ref_plus (lo x) (hi x) (lo y) (hi y) wz (lo_0 x) (lo_1 x) (lo_0 y) (lo_1 y) (hi_0 x) (hi_1 x) (hi_0 y) (hi_1 y) (by rw [hxl, hyl]; omega)
  rw [hxl, hyl] at h
  rw [if_pos hlt] at hxy
  exact h.mono fun e w' h => h.det (by rw [val_lohi, hxy]) (lo_0 _) (lo_1 _)
 have H7 : Hid (¬ ((x.val : Nat) : Int) < ((Pm f : Nat) : Int) - ((y.val : Nat) : Int) → ∀ wz, Calls Tryz.prog 92 #[vK x, .agg #[.int .u64 r0, .int .u64 r1]] wz (RetK (x + y) wz)) := by
  intro hlt wz
  have h := ref_take (lo x) (hi x) r0 r1 wz (lo_0 x) (lo_1 x) hr0 hr1 (hi_0 x) (hi_1 x) hr2 hr3
  rw [hxl, hrn] at h
  rw [if_neg hlt] at hxy
  exact h.mono fun e w' h => h.det (by rw [val_lohi, hxy, Int.emod_eq_of_lt (by omega) (by omega)]; omega) (lo_0 _) (lo_1 _)
 clear hOa hOb HP HT HL hxy hrn hyl hxl hpm' hx hy hPl
 go_enter Tryz.func80, Tryz.ntmps80
 go_wp2_with fail
 have q0 := ((V2.new w (.int .u64 a0) (.int .u64 a1) 36).alloc (.cells #[.int .u64 b0, .int .u64 b1] 36)).alloc (.cells #[.int .u64 0, .int .u64 0] 36)
 have t0 := (V2.new (w.alloc (.cells #[.int .u64 a0, .int .u64 a1] 36)) (.int .u64 b0) (.int .u64 b1) 36).alloc (.cells #[.int .u64 0, .int .u64 0] 36)
 have s0 := V2.new ((w.alloc (.cells #[.int .u64 a0, .int .u64 a1] 36)).alloc (.cells #[.int .u64 b0, .int .u64 b1] 36)) (.int .u64 0) (.int .u64 0) 36
 simp only [World.size_alloc] at t0 s0
 have hb00 : Below w.heap.size w (((w.alloc (.cells #[.int .u64 a0, .int .u64 a1] 36)).alloc (.cells #[.int .u64 b0, .int .u64 b1] 36)).alloc (.cells #[.int .u64 0, .int .u64 0] 36)) := by repeat (first | exact bA | with_reducible assumption | apply bB | (refine bC ?_ (by dsimp only; omega)) | apply bD | apply bE | (refine bF ?_ (by assumption)))
 have hsz : w.heap.size + 3 ≤ (((w.alloc (.cells #[.int .u64 a0, .int .u64 a1] 36)).alloc (.cells #[.int .u64 b0, .int .u64 b1] 36)).alloc (.cells #[.int .u64 0, .int .u64 0] 36)).heap.size := by simp only [World.size_alloc]; omega
 generalize ((w.alloc (.cells #[.int .u64 a0, .int .u64 a1] 36)).alloc (.cells #[.int .u64 b0, .int .u64 b1] 36)).alloc (.cells #[.int .u64 0, .int .u64 0] 36) = w1 at *
 have q01 := q0
 obtain ⟨c0, c1, c2, c3, c4⟩ := q01
 have t01 := t0
 obtain ⟨d0, d1, d2, d3, d4⟩ := t01
 refine region_B (n := 6) (m := 8) (f := 6) (by kernel_rfl) (by kernel_rfl) rfl ?_
 refine WpH.takeB (i := 0) (v := ?_) rfl (by kernel_rfl) (fun _ _ _ h => h) (.val rfl (fun wz hwz => ?_)) ?_
 rotate_left
 ·go_simp; try (with_reducible rfl)
 (simp only [Act.put]); (try simp only [List.setIfInBounds_toArray]); (try simp only [List.set_cons_succ]); (try simp only [List.set_cons_zero])
 refine WpH.takeB (i := 1) (v := ?_) rfl (by kernel_rfl) (fun _ _ _ h => h) (.val rfl (fun wz hwz => ?_)) ?_
 rotate_left
 ·(obtain ⟨hcz, hfz⟩ := bcell hwz; go_simp; try (with_reducible rfl))
 (simp only [Act.put]); (try simp only [List.setIfInBounds_toArray]); (try simp only [List.set_cons_succ]); (try simp only [List.set_cons_zero])
 refine WpH.takeB (i := 2) rfl (by kernel_rfl) (fun _ _ _ h => h) (.call rfl (fun wz hwz => H1.out wz) (fun wz hwz => ?_)) ?_
 ·go_simp; try (with_reducible rfl)
 (simp only [Act.put]); (try simp only [List.setIfInBounds_toArray]); (try simp only [List.set_cons_succ]); (try simp only [List.set_cons_zero])
 refine WpH.takeB (i := 3) (v := ?_) rfl (by kernel_rfl) (fun _ _ _ h => h) (.val rfl (fun wz hwz => ?_)) ?_
 rotate_left
 ·go_simp; try (with_reducible rfl)
 (simp only [Act.put]); (try simp only [List.setIfInBounds_toArray]); (try simp only [List.set_cons_succ]); (try simp only [List.set_cons_zero])
 refine WpH.takeB (i := 4) (v := ?_) rfl (by kernel_rfl) (fun _ _ _ h => h) (.val rfl (fun wz hwz => ?_)) ?_
 rotate_left
 ·(obtain ⟨hcz, hfz⟩ := bcell hwz; go_simp; try (with_reducible rfl))
 (simp only [Act.put]); (try simp only [List.setIfInBounds_toArray]); (try simp only [List.set_cons_succ]); (try simp only [List.set_cons_zero])
 refine WpH.takeB (i := 5) rfl (by kernel_rfl) (fun _ _ _ h => h) (.call rfl (fun wz hwz => H2.out wz) (fun wz hwz => ?_)) ?_
 ·go_simp; try (with_reducible rfl)
 (simp only [Act.put]); (try simp only [List.setIfInBounds_toArray]); (try simp only [List.set_cons_succ]); (try simp only [List.set_cons_zero])
 refine WpH.doneB (by kernel_rfl) (fun w2 hw2 => ?_)
 (try simp only [List.drop_succ_cons]); (try simp only [List.drop_zero]); (try simp only [Nat.reduceSub]); (try simp only [List.take_succ_cons]); (try simp only [List.take_zero])
 replace q0 := q0.call hw2
 replace t0 := t0.call hw2
 replace s0 := s0.call hw2
 replace hb00 := bl_call hb00 (Nat.le_refl _) hw2
 clear c0 c1 c2 c3 c4 d0 d1 d2 d3 d4 hsz hw2
 obtain ⟨c0, c1, c2, c3, c4⟩ := V2.mk q0.c0 q0.c1 q0.f0 q0.f1 q0.lt
 obtain ⟨d0, d1, d2, d3, d4⟩ := V2.mk t0.c0 t0.c1 t0.f0 t0.f1 t0.lt
 go_wp2_with fail
 clear c0 c1 c2 c3 c4 d0 d1 d2 d3 d4
 replace q0 : V2 ((w2.setCell ⟨w.heap.size, 0, none⟩ (.int .u64 (lo x))).setCell ⟨w.heap.size, 1, none⟩ (.int .u64 (hi x))) (w.heap.size) (.int .u64 (lo x)) (.int .u64 (hi x)) := V2.set q0 _ _
 replace t0 := V2.oth t0 (b := w.heap.size) (by omega) (.int .u64 (lo x)) (.int .u64 (hi x))
 replace s0 := V2.oth s0 (b := w.heap.size) (by omega) (.int .u64 (lo x)) (.int .u64 (hi x))
 replace hb00 := bl_st hb00 (b := w.heap.size) (by omega) (.int .u64 (lo x)) (.int .u64 (hi x))
 replace q0 := V2.oth q0 (b := w.heap.size+1) (by omega) (.int .u64 (lo y)) (.int .u64 (hi y))
 replace t0 : V2 ((((w2.setCell ⟨w.heap.size, 0, none⟩ (.int .u64 (lo x))).setCell ⟨w.heap.size, 1, none⟩ (.int .u64 (hi x))).setCell ⟨w.heap.size+1, 0, none⟩ (.int .u64 (lo y))).setCell ⟨w.heap.size+1, 1, none⟩ (.int .u64 (hi y))) (w.heap.size+1) (.int .u64 (lo y)) (.int .u64 (hi y)) := V2.set t0 _ _
 replace s0 := V2.oth s0 (b := w.heap.size+1) (by omega) (.int .u64 (lo y)) (.int .u64 (hi y))
 replace hb00 := bl_st hb00 (b := w.heap.size+1) (by omega) (.int .u64 (lo y)) (.int .u64 (hi y))
 generalize ((((w2.setCell ⟨w.heap.size, 0, none⟩ (.int .u64 (lo x))).setCell ⟨w.heap.size, 1, none⟩ (.int .u64 (hi x))).setCell ⟨w.heap.size+1, 0, none⟩ (.int .u64 (lo y))).setCell ⟨w.heap.size+1, 1, none⟩ (.int .u64 (hi y))) = w3 at q0 t0 s0 hb00 ⊢
 have q31 := q0
 obtain ⟨c0, c1, c2, c3, c4⟩ := q31
 have t31 := t0
 obtain ⟨d0, d1, d2, d3, d4⟩ := t31
 have e4 := s0.lt
 have hNew := newE_stable (w.heap.size+3)
 refine region_N (n := 5) (m := 6) (f := 5) 4 7 (NewE (w.heap.size+3)) (by kernel_rfl) (by kernel_rfl) rfl ?_
 refine WpH.takeN hNew (i := 0) (v := ?_) rfl (by kernel_rfl) rfl rfl (fun _ _ _ h => h) (.val rfl (fun wz hwz => ?_)) ?_
 rotate_left
 ·go_simp; try (with_reducible rfl)
 (simp only [Act.put]); (try simp only [List.setIfInBounds_toArray]); (try simp only [List.set_cons_succ]); (try simp only [List.set_cons_zero])
 refine WpH.takeN hNew (i := 1) rfl (by kernel_rfl) rfl rfl (fun _ _ _ h => h) (.call rfl (fun wz hwz => H3.out wz) (fun wz hwz => ?_)) ?_
 ·go_simp; try (with_reducible rfl)
 (simp only [Act.put]); (try simp only [List.setIfInBounds_toArray]); (try simp only [List.set_cons_succ]); (try simp only [List.set_cons_zero])
 refine WpH.takeN hNew (i := 2) (v := ?_) rfl (by kernel_rfl) rfl rfl (fun _ _ _ h => h) (.val rfl (fun wz hwz => ?_)) ?_
 rotate_left
 ·(obtain ⟨hcz, hfz⟩ := bcell hwz; go_simp; try (with_reducible rfl))
 (simp only [Act.put]); (try simp only [List.setIfInBounds_toArray]); (try simp only [List.set_cons_succ]); (try simp only [List.set_cons_zero])
 refine WpH.takeN hNew (i := 3) rfl (by kernel_rfl) rfl rfl (fun _ _ _ h => h) (.call rfl (fun wz hwz => H4.out wz) (fun wz hwz => ?_)) ?_
 ·go_simp; try (with_reducible rfl)
 (simp only [Act.put]); (try simp only [List.setIfInBounds_toArray]); (try simp only [List.set_cons_succ]); (try simp only [List.set_cons_zero])
 refine WpH.one (i := 4) (by kernel_rfl) (fun w2 hw2 => ?_)
 refine wpOp_value rfl rfl (by go_simp; first | rfl | exact ⟨rfl, rfl⟩) ⟨⟨hw2.1.trans (((Below.refl _ _).alloc (Nat.le_refl _) _).mono hw2.1.size), fun _ => ⟨_, rfl, (by have hsz2 := hw2.1.size; (try simp only [World.size_alloc] at hsz2); omega), V2.new _ _ _ _⟩⟩, ?_⟩
 (simp only [Act.put]); (try simp only [List.setIfInBounds_toArray]); (try simp only [List.set_cons_succ]); (try simp only [List.set_cons_zero])
 refine WpH.done (by kernel_rfl) (fun w4 hw4n => ?_)
 obtain ⟨hw4, hnw4⟩ := hw4n
 obtain ⟨b, hbew4, hBb, hVb⟩ := hnw4 rfl
 simp at hbew4
 rw [hbew4]
 clear hNew hnw4 hw2 hbew4 w2
 (try simp only [List.drop_succ_cons]); (try simp only [List.drop_zero]); (try simp only [Nat.reduceSub]); (try simp only [List.take_succ_cons]); (try simp only [List.take_zero])
 replace q0 := q0.call hw4
 replace t0 := t0.call hw4
 replace s0 := s0.call hw4
 replace hb00 := bl_call hb00 (Nat.le_refl _) hw4
 clear c0 c1 c2 c3 c4 d0 d1 d2 d3 d4 hw4 e4
 have v01 := hVb
 obtain ⟨v0, v1, v2, v3, v4⟩ := v01
 go_upto_region 3 with fail
 clear v0 v1 v2 v3 v4
 replace hVb : V2 ((w4.setCell ⟨b, 0, none⟩ (.int .u64 r0)).setCell ⟨b, 1, none⟩ (.int .u64 r1)) (b) (.int .u64 r0) (.int .u64 r1) := V2.set hVb _ _
 replace q0 := V2.oth q0 (b := b) (by omega) (.int .u64 r0) (.int .u64 r1)
 replace t0 := V2.oth t0 (b := b) (by omega) (.int .u64 r0) (.int .u64 r1)
 replace s0 := V2.oth s0 (b := b) (by omega) (.int .u64 r0) (.int .u64 r1)
 replace hb00 := bl_st hb00 (b := b) (by omega) (.int .u64 r0) (.int .u64 r1)
 generalize ((w4.setCell ⟨b, 0, none⟩ (.int .u64 r0)).setCell ⟨b, 1, none⟩ (.int .u64 r1)) = w5 at hVb q0 t0 s0 hb00 ⊢
 obtain ⟨v0, v1, v2, v3, v4⟩ := hVb
 obtain ⟨c0, c1, c2, c3, c4⟩ := q0
 obtain ⟨d0, d1, d2, d3, d4⟩ := t0
 by_cases hlt : ((x.val : Nat) : Int) < ((Pm f : Nat) : Int) - ((y.val : Nat) : Int)
 ·have hd : decide (((x.val : Nat) : Int) < ((Pm f : Nat) : Int) - ((y.val : Nat) : Int)) = true := decide_eq_true hlt
  go_wp2_with (first
   | (go_at_call 90; refine (H5.out _).mono ?_; rintro e w5 ⟨rfl, hb5⟩; obtain ⟨c0, c1, c2, c3, c4⟩ := V2.call ⟨c0, c1, c2, c3, c4⟩ hb5; obtain ⟨d0, d1, d2, d3, d4⟩ := V2.call ⟨d0, d1, d2, d3, d4⟩ hb5; have s5 := s0.call hb5)
   | (go_at_call 111; refine (H6.out hlt _).mono ?_; rintro e w6 ⟨rfl, hb6⟩; obtain ⟨e0, e1, e2, e3, e4⟩ := s5.call hb6))
  refine bodyPost_ret (results_v2 (b := w.heap.size + 1 + 1) (u := .int .u64 (lo (x + y))) (v := .int .u64 (hi (x + y))) ?_ rfl rfl) rfl ⟨rfl, by repeat (first | exact bA | with_reducible assumption | apply bB | (refine bC ?_ (by dsimp only; omega)) | apply bD | apply bE | (refine bF ?_ (by assumption)))⟩
  exact V2.set ⟨e0, e1, e2, e3, e4⟩ _ _
 ·have hd : decide (((x.val : Nat) : Int) < ((Pm f : Nat) : Int) - ((y.val : Nat) : Int)) = false := decide_eq_false hlt
  go_wp2_with (first
   | (go_at_call 90; refine (H5.out _).mono ?_; rintro e w5 ⟨rfl, hb5⟩; obtain ⟨c0, c1, c2, c3, c4⟩ := V2.call ⟨c0, c1, c2, c3, c4⟩ hb5; obtain ⟨v0, v1, v2, v3, v4⟩ := V2.call ⟨v0, v1, v2, v3, v4⟩ hb5; have s5 := s0.call hb5)
   | (go_at_call 92; refine (H7.out (by omega) _).mono ?_; rintro e w6 ⟨rfl, hb6⟩; obtain ⟨e0, e1, e2, e3, e4⟩ := s5.call hb6))
  refine bodyPost_ret (results_v2 (b := w.heap.size + 1 + 1) (u := .int .u64 (lo (x + y))) (v := .int .u64 (hi (x + y))) ?_ rfl rfl) rfl ⟨rfl, by repeat (first | exact bA | with_reducible assumption | apply bB | (refine bC ?_ (by dsimp only; omega)) | apply bD | apply bE | (refine bF ?_ (by assumption)))⟩
  exact V2.set ⟨e0, e1, e2, e3, e4⟩ _ _

end Go.Proofs.YtfbfbijkkbflkaaGreatDoor

namespace Go.Proofs.YtfbfbijkkbflkaaGreatDoor
open Go.RowKit Fm
set_option linter.unusedVariables false
set_option maxRecDepth 100000

section
variable {f : Nat} (hf : IsF f)
include hf
theorem ref_AddK (x y : Fin (Pm f)) (w : World) : Calls Tryz.prog 80 #[.int .i64 f, vK x, vK y] w (RetK (x + y) w) := by
 have h := ref_AddL hf (lo x) (hi x) (lo y) (hi y) w (lo_0 x) (lo_1 x) (hi_0 x) (hi_1 x) (lo_0 y) (lo_1 y) (hi_0 y) (hi_1 y)
 rwa [kL_lohi, kL_lohi] at h
end

end Go.Proofs.YtfbfbijkkbflkaaGreatDoor

namespace Go.Proofs.YtfbfbijkkbflkaaGreatDoor
open Go.RowKit Fm
set_option linter.unusedVariables false
set_option maxRecDepth 100000

def bitN (n : Nat) (i : Nat) : Bool := n / 2 ^ i % 2 == 1

set_option maxHeartbeats 1000000 in
theorem ref_bit {f : Nat} (x : Fin (Pm f)) (i : Nat) (hi128 : i < 128) (w : World) :
  Calls Tryz.prog 112 #[vK x, .int .i64 i] w fun e w' => e = .returned (.bool (bitN x.val i)) ∧ Below w.heap.size w w' := by
 obtain ⟨n, c, hn, hv, hq, hr⟩ : ∃ (n : Nat) (c : Nat), n ≤ 18446744073709551615 ∧ (if i < 64 then lo x else hi x) = (n : Int) ∧ c = i % 64 ∧ bitN x.val i = bitN n c := by
  have hl := val_lohi x
  have h0 := lo_0 x
  have h1 := lo_1 x
  have h2 := hi_0 x
  have h3 := hi_1 x
  by_cases h : i < 64
  ·refine ⟨(lo x).toNat, i % 64, by omega, by rw [if_pos h]; omega, rfl, ?_⟩
   unfold bitN
   rw [Nat.mod_eq_of_lt h]
   have hx : x.val = (lo x).toNat + 2 ^ 64 * (hi x).toNat := by omega
   rw [hx, show 2 ^ 64 * (hi x).toNat = 2 ^ i * (2 * (2 ^ (63 - i) * (hi x).toNat)) by
    rw [← Nat.mul_assoc 2, ← Nat.pow_succ', ← Nat.mul_assoc, ← Nat.pow_add]
    congr 2
    omega, Nat.add_mul_div_left _ _ (Nat.two_pow_pos i), Nat.add_mul_mod_self_left]
  ·refine ⟨(hi x).toNat, i % 64, by omega, by rw [if_neg h]; omega, rfl, ?_⟩
   unfold bitN
   have hx : x.val / 2 ^ 64 = (hi x).toNat := by omega
   rw [← hx, Nat.div_div_eq_div_mul, ← Nat.pow_add, show 64 + i % 64 = i by omega]
 rw [hr]
 have HQ := Lib.hid hq
 clear hq hr
 have hc : c < 64 := by have := HQ.out; omega
 have hir : ((i : Int) % 64) = (c : Int) := by have := HQ.out; omega
 go_enter Tryz.func112, Tryz.ntmps112
 go_upto_region 1 with fail
 go_cut [5] (fun t wx => t = .int .u64 n ∧ Below w.heap.size w wx)
 case first =>
  by_cases h : i < 64
  ·rw [if_pos h] at hv
   have hq0 : (i : Int) / 64 = 0 := by omega
   have HV := Lib.hid hv
   clear hir hv
   go_wp2
   go_meet
   exact ⟨by rw [HV.out], by repeat (first | exact bA | with_reducible assumption | apply bB | (refine bC ?_ (by dsimp only; omega)) | apply bD | apply bE | (refine bF ?_ (by assumption)))⟩
  ·rw [if_neg h] at hv
   have hq0 : (i : Int) / 64 = 1 := by omega
   have HV := Lib.hid hv
   clear hir hv
   go_wp2
   go_meet
   exact ⟨by rw [HV.out], by repeat (first | exact bA | with_reducible assumption | apply bB | (refine bC ?_ (by dsimp only; omega)) | apply bD | apply bE | (refine bF ?_ (by assumption)))⟩
 case rest =>
  obtain ⟨rfl, hb0⟩ := hcut
  clear hv
  go_wp2_with fail
  go_loop [5, 6] (fun t j => ∃ k : Nat, k ≤ c ∧ j = .int .i64 k ∧ ∃ m : Nat, t = .int .u64 m ∧ m ≤ 18446744073709551615 ∧ Hid (m = n / 2 ^ k)) (fun _ j => c - (intOf j).toNat)
  case atStart => exact ⟨0, Nat.zero_le _, rfl, n, rfl, hn, by show _ = _; rw [Nat.pow_zero, Nat.div_one]⟩
  case round =>
   obtain ⟨k, hk, rfl, m, rfl, hm, HM⟩ := hrel
   by_cases hlt : k < c
   ·go_wp2
    go_round
    case rel => exact ⟨k + 1, by omega, by go_num, m / 2, by go_num, by omega, by show _ = _; rw [HM.out, Nat.div_div_eq_div_mul, Nat.pow_succ]⟩
    case measure => simp [intOf]; omega
   ·obtain rfl : k = c := by omega
    go_wp2
    go_ret
    refine ⟨ret_bool ?_, by repeat (first | exact bA | with_reducible assumption | apply bB | (refine bC ?_ (by dsimp only; omega)) | apply bD | apply bE | (refine bF ?_ (by assumption)))⟩
    unfold bitN
    rw [← HM.out]
    by_cases h : m % 2 = 1
    ·simp [h]
     omega
    ·have h0 : m % 2 = 0 := by omega
     simp [h0]
     omega

end Go.Proofs.YtfbfbijkkbflkaaGreatDoor

namespace Go.Proofs.YtfbfbijkkbflkaaGreatDoor
open Go.RowKit Fm
set_option linter.unusedVariables false
set_option maxRecDepth 100000

def dbl {f : Nat} (x : Fin (Pm f)) (n k : Nat) : Fin (Pm f) := kI (Pm f) ((n / 2 ^ k : Nat) : Int) * x

theorem dbl_step {f : Nat} (x : Fin (Pm f)) (n k : Nat) : dbl x n k = if bitN n k = true then dbl x n (k + 1) + dbl x n (k + 1) + x else dbl x n (k + 1) + dbl x n (k + 1) := by
 unfold dbl bitN
 have h : ((n / 2 ^ k : Nat) : Int) = 2 * ((n / 2 ^ (k + 1) : Nat) : Int) + ((n / 2 ^ k % 2 : Nat) : Int) := by
  rw [Nat.pow_succ, ← Nat.div_div_eq_div_mul]
  omega
 rw [h, kI_add, kI_mul]
 have h2 : kI (Pm f) (2 : Int) = 1 + 1 := by rw [show (2 : Int) = 1 + 1 from rfl, kI_add, kI_one]
 rw [h2]
 by_cases hb : n / 2 ^ k % 2 = 1
 ·rw [if_pos (by simp [hb]), hb, show ((1 : Nat) : Int) = 1 from rfl, kI_one]
  grind
 ·have h0 : n / 2 ^ k % 2 = 0 := by omega
  rw [if_neg (by simp [h0]), h0, show ((0 : Nat) : Int) = 0 from rfl, kI_zero]
  grind

theorem dbl_top {f : Nat} (x : Fin (Pm f)) (y : Fin (Pm f)) : dbl x y.val 128 = 0 := by
 have hy := y.isLt
 have h := Pm_lt f
 unfold dbl
 rw [Nat.div_eq_of_lt (by omega), show ((0 : Nat) : Int) = 0 from rfl, kI_zero]
 grind
theorem dbl_all {f : Nat} (x y : Fin (Pm f)) : dbl x y.val 0 = x * y := by
 unfold dbl
 rw [Nat.pow_zero, Nat.div_one, kI_ofVal]
 grind

set_option maxHeartbeats 4000000 in
theorem ref_MulL {f : Nat} (hf : IsF f) (a0 a1 b0 b1 : Int) (w : World) (h0 : 0 ≤ a0) (h1 : a0 ≤ 18446744073709551615) (k0 : 0 ≤ a1) (k1 : a1 ≤ 18446744073709551615)
  (g0 : 0 ≤ b0) (g1 : b0 ≤ 18446744073709551615) (j0 : 0 ≤ b1) (j1 : b1 ≤ 18446744073709551615) :
  Calls Tryz.prog 81 #[.int .i64 f, .agg #[.int .u64 a0, .int .u64 a1], .agg #[.int .u64 b0, .int .u64 b1]] w (RetK (kL f a0 a1 * kL f b0 b1) w) := by
 have hOa := fun wz => ref_OfL hf a0 a1 wz h0 h1 k0 k1
 have hOb := fun wz => ref_OfL hf b0 b1 wz g0 g1 j0 j1
 generalize kL f a0 a1 = x at *
 generalize kL f b0 b1 = y at *
 have H1 := Lib.hid hOa
 have H2 := Lib.hid hOb
 clear hOa hOb
 go_enter Tryz.func81, Tryz.ntmps81
 go_upto_region 1 with fail
 have q0 := ((V2.new w (.int .u64 a0) (.int .u64 a1) 36).alloc (.cells #[(.int .u64 b0), (.int .u64 b1)] 36)).alloc (.cells #[(.int .u64 0), (.int .u64 0)] 36)
 have t0 := (V2.new (w.alloc (.cells #[(.int .u64 a0), (.int .u64 a1)] 36)) (.int .u64 b0) (.int .u64 b1) 36).alloc (.cells #[(.int .u64 0), (.int .u64 0)] 36)
 have s0 := V2.new ((w.alloc (.cells #[(.int .u64 a0), (.int .u64 a1)] 36)).alloc (.cells #[(.int .u64 b0), (.int .u64 b1)] 36)) (.int .u64 0) (.int .u64 0) 36
 simp only [World.size_alloc] at t0 s0
 have hb00 : Below w.heap.size w (((w.alloc (.cells #[(.int .u64 a0), (.int .u64 a1)] 36)).alloc (.cells #[(.int .u64 b0), (.int .u64 b1)] 36)).alloc (.cells #[(.int .u64 0), (.int .u64 0)] 36)) := by repeat (first | exact bA | with_reducible assumption | apply bB)
 have hsz : w.heap.size + 3 ≤ (((w.alloc (.cells #[(.int .u64 a0), (.int .u64 a1)] 36)).alloc (.cells #[(.int .u64 b0), (.int .u64 b1)] 36)).alloc (.cells #[(.int .u64 0), (.int .u64 0)] 36)).heap.size := by simp only [World.size_alloc]; omega
 generalize (((w.alloc (.cells #[(.int .u64 a0), (.int .u64 a1)] 36)).alloc (.cells #[(.int .u64 b0), (.int .u64 b1)] 36)).alloc (.cells #[(.int .u64 0), (.int .u64 0)] 36)) = w1 at q0 t0 s0 hb00 hsz ⊢
 have q01 := q0
 obtain ⟨c0, c1, c2, c3, c4⟩ := q01
 have t01 := t0
 obtain ⟨d0, d1, d2, d3, d4⟩ := t01
 refine region_B (n := 6) (m := 8) (f := 6) (by kernel_rfl) (by kernel_rfl) rfl ?_
 refine WpH.takeB (i := 0) (v := ?_) rfl (by kernel_rfl) (fun _ _ _ h => h) (.val rfl (fun wz hwz => ?_)) ?_
 rotate_left
 ·go_simp; try (with_reducible rfl)
 (simp only [Act.put]); (try simp only [List.setIfInBounds_toArray]); (try simp only [List.set_cons_succ]); (try simp only [List.set_cons_zero])
 refine WpH.takeB (i := 1) (v := ?_) rfl (by kernel_rfl) (fun _ _ _ h => h) (.val rfl (fun wz hwz => ?_)) ?_
 rotate_left
 ·(obtain ⟨hcz, hfz⟩ := bcell hwz; go_simp; try (with_reducible rfl))
 (simp only [Act.put]); (try simp only [List.setIfInBounds_toArray]); (try simp only [List.set_cons_succ]); (try simp only [List.set_cons_zero])
 refine WpH.takeB (i := 2) rfl (by kernel_rfl) (fun _ _ _ h => h) (.call rfl (fun wz hwz => H1.out wz) (fun wz hwz => ?_)) ?_
 ·go_simp; try (with_reducible rfl)
 (simp only [Act.put]); (try simp only [List.setIfInBounds_toArray]); (try simp only [List.set_cons_succ]); (try simp only [List.set_cons_zero])
 refine WpH.takeB (i := 3) (v := ?_) rfl (by kernel_rfl) (fun _ _ _ h => h) (.val rfl (fun wz hwz => ?_)) ?_
 rotate_left
 ·go_simp; try (with_reducible rfl)
 (simp only [Act.put]); (try simp only [List.setIfInBounds_toArray]); (try simp only [List.set_cons_succ]); (try simp only [List.set_cons_zero])
 refine WpH.takeB (i := 4) (v := ?_) rfl (by kernel_rfl) (fun _ _ _ h => h) (.val rfl (fun wz hwz => ?_)) ?_
 rotate_left
 ·(obtain ⟨hcz, hfz⟩ := bcell hwz; go_simp; try (with_reducible rfl))
 (simp only [Act.put]); (try simp only [List.setIfInBounds_toArray]); (try simp only [List.set_cons_succ]); (try simp only [List.set_cons_zero])
 refine WpH.takeB (i := 5) rfl (by kernel_rfl) (fun _ _ _ h => h) (.call rfl (fun wz hwz => H2.out wz) (fun wz hwz => ?_)) ?_
 ·go_simp; try (with_reducible rfl)
 (simp only [Act.put]); (try simp only [List.setIfInBounds_toArray]); (try simp only [List.set_cons_succ]); (try simp only [List.set_cons_zero])
 refine WpH.doneB (by kernel_rfl) (fun w2 hw2 => ?_)
 (try simp only [List.drop_succ_cons]); (try simp only [List.drop_zero]); (try simp only [Nat.reduceSub]); (try simp only [List.take_succ_cons]); (try simp only [List.take_zero])
 replace q0 := q0.call hw2
 replace t0 := t0.call hw2
 replace s0 := s0.call hw2
 replace hb00 := bl_call hb00 (Nat.le_refl _) hw2
 replace hsz := Nat.le_trans hsz hw2.size
 clear c0 c1 c2 c3 c4 d0 d1 d2 d3 d4 hw2
 have q01 := q0
 obtain ⟨c0, c1, c2, c3, c4⟩ := q01
 have t01 := t0
 obtain ⟨d0, d1, d2, d3, d4⟩ := t01
 go_upto_region 2 with fail
 clear c0 c1 c2 c3 c4 d0 d1 d2 d3 d4
 replace q0 : V2 ((w2.setCell ⟨w.heap.size, 0, none⟩ (.int .u64 (lo x))).setCell ⟨w.heap.size, 1, none⟩ (.int .u64 (hi x))) (w.heap.size) (.int .u64 (lo x)) (.int .u64 (hi x)) := V2.set q0 _ _
 replace t0 := V2.oth t0 (b := w.heap.size) (by omega) (.int .u64 (lo x)) (.int .u64 (hi x))
 replace s0 := V2.oth s0 (b := w.heap.size) (by omega) (.int .u64 (lo x)) (.int .u64 (hi x))
 replace hb00 := bl_st hb00 (b := w.heap.size) (by omega) (.int .u64 (lo x)) (.int .u64 (hi x))
 replace q0 := V2.oth q0 (b := w.heap.size+1) (by omega) (.int .u64 (lo y)) (.int .u64 (hi y))
 replace t0 : V2 ((((w2.setCell ⟨w.heap.size, 0, none⟩ (.int .u64 (lo x))).setCell ⟨w.heap.size, 1, none⟩ (.int .u64 (hi x))).setCell ⟨w.heap.size+1, 0, none⟩ (.int .u64 (lo y))).setCell ⟨w.heap.size+1, 1, none⟩ (.int .u64 (hi y))) (w.heap.size+1) (.int .u64 (lo y)) (.int .u64 (hi y)) := V2.set t0 _ _
 replace s0 := V2.oth s0 (b := w.heap.size+1) (by omega) (.int .u64 (lo y)) (.int .u64 (hi y))
 replace hb00 := bl_st hb00 (b := w.heap.size+1) (by omega) (.int .u64 (lo y)) (.int .u64 (hi y))
 generalize ((((w2.setCell ⟨w.heap.size, 0, none⟩ (.int .u64 (lo x))).setCell ⟨w.heap.size, 1, none⟩ (.int .u64 (hi x))).setCell ⟨w.heap.size+1, 0, none⟩ (.int .u64 (lo y))).setCell ⟨w.heap.size+1, 1, none⟩ (.int .u64 (hi y))) = w3 at q0 t0 s0 hb00 ⊢
 have hz3 := s0.lt
 go_wp2_with fail
 go_loopw [8] (fun i wr => ∃ k : Nat, k ≤ 128 ∧ i = .int .i64 ((k : Int) - 1) ∧ V2 wr w.heap.size (.int .u64 (lo x)) (.int .u64 (hi x)) ∧ V2 wr (w.heap.size + 1) (.int .u64 (lo y)) (.int .u64 (hi y)) ∧ V2 wr (w.heap.size + 1 + 1) (.int .u64 0) (.int .u64 0) ∧
   V2 wr w3.heap.size (.int .u64 (lo (dbl x y.val k))) (.int .u64 (hi (dbl x y.val k))) ∧ Below w.heap.size w wr) (fun i _ => (intOf i + 1).toNat)
 case atStart =>
  refine ⟨128, by omega, by go_num, q0.alloc _, t0.alloc _, s0.alloc _, ?_, by repeat (first | exact bA | with_reducible assumption | apply bB | (refine bC ?_ (by dsimp only; omega)) | apply bD | apply bE | (refine bF ?_ (by assumption)))⟩
  rw [dbl_top, lo_zero, hi_zero]
  exact V2.new _ _ _ _
 case round =>
  obtain ⟨k, hk, rfl, hx, hy, hz, ho, hbw⟩ := hrel
  clear q0 t0 s0
  by_cases hk0 : k = 0
  ·subst hk0
   rw [dbl_all] at ho
   obtain ⟨y0, y1, y2, y3, y4⟩ := ho
   obtain ⟨z0, z1, z2, z3, z4⟩ := hz
   go_wp2
   refine bodyPost_ret (results_v2 (b := w.heap.size + 1 + 1) (u := .int .u64 (lo (x * y))) (v := .int .u64 (hi (x * y))) ?_ rfl rfl) rfl ?_
   ·exact V2.set ⟨z0, z1, z2, z3, z4⟩ _ _
   ·exact ⟨rfl, by repeat (first | exact bA | with_reducible assumption | apply bB | (refine bC ?_ (by dsimp only; omega)) | apply bD | apply bE | (refine bF ?_ (by assumption)))⟩
  ·obtain ⟨k, rfl⟩ : ∃ j, k = j + 1 := ⟨k - 1, by omega⟩
   have hst := dbl_step x y.val k
   have HB := Lib.hid (fun wz => ref_bit y k (by omega) wz)
   generalize dbl x y.val (k + 1) = s at *
   have HST := Lib.hid hst
   clear hst
   have hA1 := Lib.hid (fun wz => ref_AddK hf s s wz)
   have hA2 := Lib.hid (fun wz => ref_AddK hf (s + s) x wz)
   obtain ⟨o0, o1, o2, o3, o4⟩ := ho
   have hyy := hy
   obtain ⟨y0, y1, y2, y3, y4⟩ := hyy
   have hxx := hx
   obtain ⟨x0, x1, x2, x3, x4⟩ := hxx
   go_upto_region 7 with (go_at_call 80; refine (hA1.out _).mono ?_; rintro e w5 ⟨rfl, hb5⟩; obtain ⟨o0, o1, o2, o3, o4⟩ := V2.call ⟨o0, o1, o2, o3, o4⟩ hb5; replace hx := hx.call hb5; replace hy := hy.call hb5; replace hz := hz.call hb5; replace hbw := bl_call hbw (Nat.le_refl _) hb5)
   have ho : V2 w5 w3.heap.size (.int .u64 (lo s)) (.int .u64 (hi s)) := ⟨o0, o1, o2, o3, o4⟩
   clear o0 o1 o2 o3 o4 x0 x1 x2 x3 x4 y0 y1 y2 y3 y4 hb5
   replace ho : V2 ((w5.setCell ⟨w3.heap.size, 0, none⟩ (.int .u64 (lo (s + s)))).setCell ⟨w3.heap.size, 1, none⟩ (.int .u64 (hi (s + s)))) (w3.heap.size) (.int .u64 (lo (s + s))) (.int .u64 (hi (s + s))) := V2.set ho _ _
   replace hx := V2.oth hx (b := w3.heap.size) (by omega) (.int .u64 (lo (s + s))) (.int .u64 (hi (s + s)))
   replace hy := V2.oth hy (b := w3.heap.size) (by omega) (.int .u64 (lo (s + s))) (.int .u64 (hi (s + s)))
   replace hz := V2.oth hz (b := w3.heap.size) (by omega) (.int .u64 (lo (s + s))) (.int .u64 (hi (s + s)))
   replace hbw := bl_st hbw (b := w3.heap.size) (by omega) (.int .u64 (lo (s + s))) (.int .u64 (hi (s + s)))
   generalize ((w5.setCell ⟨w3.heap.size, 0, none⟩ (.int .u64 (lo (s + s)))).setCell ⟨w3.heap.size, 1, none⟩ (.int .u64 (hi (s + s)))) = w6 at ho hx hy hz hbw ⊢
   have ho' := ho
   obtain ⟨o0, o1, o2, o3, o4⟩ := ho'
   have hyy := hy
   obtain ⟨y0, y1, y2, y3, y4⟩ := hyy
   have hxx := hx
   obtain ⟨x0, x1, x2, x3, x4⟩ := hxx
   by_cases hb : bitN y.val k = true
   ·go_wp2_with (first
     | (go_at_call 112; refine (HB.out _).mono ?_; rintro e w7 ⟨rfl, hb7⟩; rw [hb]; obtain ⟨o0, o1, o2, o3, o4⟩ := V2.call ⟨o0, o1, o2, o3, o4⟩ hb7; obtain ⟨x0, x1, x2, x3, x4⟩ := V2.call ⟨x0, x1, x2, x3, x4⟩ hb7; replace hx := hx.call hb7; replace hy := hy.call hb7; replace hz := hz.call hb7)
     | (go_at_call 80; refine (hA2.out _).mono ?_; rintro e w8 ⟨rfl, hb8⟩; obtain ⟨o0, o1, o2, o3, o4⟩ := V2.call ⟨o0, o1, o2, o3, o4⟩ hb8; replace hx := hx.call hb8; replace hy := hy.call hb8; replace hz := hz.call hb8))
    go_roundw
    case rel => exact ⟨k, by omega, by go_num, hx.oth (by omega) _ _, hy.oth (by omega) _ _, hz.oth (by omega) _ _, by rw [HST.out, if_pos hb]; exact V2.set ⟨o0, o1, o2, o3, o4⟩ _ _, by repeat (first | exact bA | with_reducible assumption | apply bB | (refine bC ?_ (by dsimp only; omega)) | apply bD | apply bE | (refine bF ?_ (by assumption)))⟩
    case measure => simp [intOf]
   ·have hb' : bitN y.val k = false := by simpa using hb
    go_wp2_with (go_at_call 112; refine (HB.out _).mono ?_; rintro e w7 ⟨rfl, hb7⟩; rw [hb']; replace ho := ho.call hb7; replace hx := hx.call hb7; replace hy := hy.call hb7; replace hz := hz.call hb7)
    go_roundw
    case rel => exact ⟨k, by omega, by go_num, hx, hy, hz, by rw [HST.out, if_neg hb]; exact ho, by repeat (first | exact bA | with_reducible assumption | apply bB | (refine bC ?_ (by dsimp only; omega)) | apply bD | apply bE | (refine bF ?_ (by assumption)))⟩
    case measure => simp [intOf]

theorem ref_MulK {f : Nat} (hf : IsF f) (x y : Fin (Pm f)) (w : World) : Calls Tryz.prog 81 #[.int .i64 f, vK x, vK y] w (RetK (x * y) w) := by
 have h := ref_MulL hf (lo x) (hi x) (lo y) (hi y) w (lo_0 x) (lo_1 x) (hi_0 x) (hi_1 x) (lo_0 y) (lo_1 y) (hi_0 y) (hi_1 y)
 rwa [kL_lohi, kL_lohi] at h

end Go.Proofs.YtfbfbijkkbflkaaGreatDoor

namespace Go.Proofs.YtfbfbijkkbflkaaGreatDoor
open Go.RowKit Fm
set_option linter.unusedVariables false
set_option maxRecDepth 100000

theorem horner_append {f : Nat} (x : Fin (Pm f)) (p : KL f) (a : Fin (Pm f)) : horner x (p ++ [a]) = horner x p + a * Fm.kpow x p.length := by
 induction p with
 | nil => simp only [horner, List.nil_append, List.foldr_cons, List.foldr_nil, List.length_nil, Fm.kpow_zero]; grind
 | cons b p ih =>
  have e1 : horner x (b :: p ++ [a]) = horner x (p ++ [a]) * x + b := rfl
  have e2 : horner x (b :: p) = horner x p * x + b := rfl
  rw [e1, e2, ih, List.length_cons, Fm.kpow_succ]
  grind

theorem horner_take {f : Nat} (x : Fin (Pm f)) (p : KL f) (k : Nat) (a : Fin (Pm f)) (h : p[k]? = some a) : horner x (p.take (k + 1)) = horner x (p.take k) + a * Fm.kpow x k := by
 obtain ⟨hlt, rfl⟩ := List.getElem?_eq_some_iff.1 h
 rw [List.take_add_one, List.getElem?_eq_getElem hlt]
 show horner x (p.take k ++ [p[k]]) = _
 rw [horner_append, List.length_take, Nat.min_eq_left (by omega)]

set_option maxHeartbeats 4000000 in
theorem ref_At {f : Nat} (hf : IsF f) (vp : Value) (p : KL f) (x : Fin (Pm f)) (w : World) (hp : SlK w w.heap.size vp p) (hn : p.length ≤ 1099511627776) :
  Calls Tryz.prog 34 #[.int .i64 f, vp, vK x] w (RetK (horner x p) w) := by
 obtain ⟨A, c, rfl, hc, hcm, hA⟩ := hp
 go_enter Tryz.func34, Tryz.ntmps34
 go_upto_region 1 with fail
 have hx := (V2.new w (.int .u64 (lo x)) (.int .u64 (hi x)) 36).alloc (.cells #[(.int .u64 0), (.int .u64 0)] 36)
 have hr := V2.new (w.alloc (.cells #[(.int .u64 (lo x)), (.int .u64 (hi x))] 36)) (.int .u64 0) (.int .u64 0) 36
 simp only [World.size_alloc] at hr
 have hb00 : Below w.heap.size w ((w.alloc (.cells #[(.int .u64 (lo x)), (.int .u64 (hi x))] 36)).alloc (.cells #[(.int .u64 0), (.int .u64 0)] 36)) := by repeat (first | exact bA | with_reducible assumption | apply bB)
 have hsz : w.heap.size + 2 ≤ ((w.alloc (.cells #[(.int .u64 (lo x)), (.int .u64 (hi x))] 36)).alloc (.cells #[(.int .u64 0), (.int .u64 0)] 36)).heap.size := by simp only [World.size_alloc]; omega
 generalize ((w.alloc (.cells #[(.int .u64 (lo x)), (.int .u64 (hi x))] 36)).alloc (.cells #[(.int .u64 0), (.int .u64 0)] 36)) = w1 at hx hr hb00 hsz ⊢
 go_upto_region 3 with fail
 have ho := V2.new w1 (.int .u64 0) (.int .u64 0) 36
 replace ho := ho.alloc (.cells #[.int .u64 1, .int .u64 0] 36)
 have hp := V2.new (w1.alloc (.cells #[.int .u64 0, .int .u64 0] 36)) (.int .u64 1) (.int .u64 0) 36
 replace hx := (hx.alloc (.cells #[.int .u64 0, .int .u64 0] 36)).alloc (.cells #[.int .u64 1, .int .u64 0] 36)
 replace hr := (hr.alloc (.cells #[.int .u64 0, .int .u64 0] 36)).alloc (.cells #[.int .u64 1, .int .u64 0] 36)
 replace hb00 : Below w.heap.size w ((w1.alloc (.cells #[.int .u64 0, .int .u64 0] 36)).alloc (.cells #[.int .u64 1, .int .u64 0] 36)) := by repeat (first | exact bA | with_reducible assumption | apply bB | (refine bC ?_ (by dsimp only; omega)) | apply bD | apply bE | (refine bF ?_ (by assumption)))
 rw [World.size_alloc] at hp
 generalize (w1.alloc (.cells #[.int .u64 0, .int .u64 0] 36)).alloc (.cells #[.int .u64 1, .int .u64 0] 36) = w2 at ho hp hx hr hb00 ⊢
 go_wp2_with fail
 go_loopw [9] (fun i wr => ∃ k : Nat, k ≤ p.length ∧ i = .int .i64 k ∧ V2 wr w.heap.size (.int .u64 (lo x)) (.int .u64 (hi x)) ∧ V2 wr (w.heap.size + 1) (.int .u64 0) (.int .u64 0) ∧
   V2 wr w1.heap.size (.int .u64 (lo (horner x (p.take k)))) (.int .u64 (hi (horner x (p.take k)))) ∧ V2 wr (w1.heap.size + 1) (.int .u64 (lo (Fm.kpow x k))) (.int .u64 (hi (Fm.kpow x k))) ∧ Below w.heap.size w wr) (fun i _ => p.length - (intOf i).toNat)
 case atStart =>
  refine ⟨0, Nat.zero_le _, rfl, hx, hr, ?_, ?_, by repeat (first | exact bA | with_reducible assumption | apply bB | (refine bC ?_ (by dsimp only; omega)) | apply bD | apply bE | (refine bF ?_ (by assumption)))⟩
  ·rw [List.take_zero, show horner x ([] : KL f) = 0 from rfl, lo_zero, hi_zero]
   exact ho
  ·rw [Fm.kpow_zero, lo_one, hi_one]
   exact hp
 case round =>
  clear hx hr ho hp hb00
  obtain ⟨k, hk, rfl, hx, hr, ho, hp, hbw⟩ := hrel
  by_cases hkl : k < p.length
  ·obtain ⟨b, o, rfl, hB, hrow⟩ := hA (by omega)
   obtain ⟨y, he⟩ : ∃ e, p[k]? = some e := ⟨_, List.getElem?_eq_getElem (by omega)⟩
   obtain ⟨c0, c1⟩ := (hrow.below hbw hB).kat he
   have hbl : b < wr.heap.size := Nat.lt_of_lt_of_le hB hbw.size
   have HST := Lib.hid (horner_take x p k y he)
   have HPW := Lib.hid (Fm.kpow_succ x k)
   generalize horner x (p.take k) = s at *
   generalize Fm.kpow x k = z at *
   clear he hrow hA
   have hoo := ho
   obtain ⟨o0, o1, o2, o3, o4⟩ := hoo
   have hxx := hx
   obtain ⟨x0, x1, x2, x3, x4⟩ := hxx
   have hpp := hp
   obtain ⟨p0, p1, p2, p3, p4⟩ := hpp
   go_wp2_with fail
   refine region_B (n := 10) (m := 11) (f := 10) (by kernel_rfl) (by kernel_rfl) rfl ?_
   refine WpH.takeB (i := 0) (v := ?_) rfl (by kernel_rfl) (fun _ _ _ h => h) (.val rfl (fun wz hwz => ?_)) ?_
   rotate_left
   ·go_simp; try (with_reducible rfl)
   (simp only [Act.put]); (try simp only [List.setIfInBounds_toArray]); (try simp only [List.set_cons_succ]); (try simp only [List.set_cons_zero])
   refine WpH.takeB (i := 1) (v := ?_) rfl (by kernel_rfl) (fun _ _ _ h => h) (.val rfl (fun wz hwz => ?_)) ?_
   rotate_left
   ·(obtain ⟨hcz, hfz⟩ := bcell hwz; go_simp; try (with_reducible rfl))
   (simp only [Act.put]); (try simp only [List.setIfInBounds_toArray]); (try simp only [List.set_cons_succ]); (try simp only [List.set_cons_zero])
   refine WpH.takeB (i := 2) (v := ?_) rfl (by kernel_rfl) (fun _ _ _ h => h) (.val rfl (fun wz hwz => ?_)) ?_
   rotate_left
   ·go_simp; try (with_reducible rfl)
   (simp only [Act.put]); (try simp only [List.setIfInBounds_toArray]); (try simp only [List.set_cons_succ]); (try simp only [List.set_cons_zero])
   refine WpH.takeB (i := 3) (v := ?_) rfl (by kernel_rfl) (fun _ _ _ h => h) (.val rfl (fun wz hwz => ?_)) ?_
   rotate_left
   ·go_simp; try (with_reducible rfl)
   (simp only [Act.put]); (try simp only [List.setIfInBounds_toArray]); (try simp only [List.set_cons_succ]); (try simp only [List.set_cons_zero])
   refine WpH.takeB (i := 4) (v := ?_) rfl (by kernel_rfl) (fun _ _ _ h => h) (.val rfl (fun wz hwz => ?_)) ?_
   rotate_left
   ·go_simp; try (with_reducible rfl)
   (simp only [Act.put]); (try simp only [List.setIfInBounds_toArray]); (try simp only [List.set_cons_succ]); (try simp only [List.set_cons_zero])
   refine WpH.takeB (i := 5) (v := ?_) rfl (by kernel_rfl) (fun _ _ _ h => h) (.val rfl (fun wz hwz => ?_)) ?_
   rotate_left
   ·go_simp; try (with_reducible rfl)
   (simp only [Act.put]); (try simp only [List.setIfInBounds_toArray]); (try simp only [List.set_cons_succ]); (try simp only [List.set_cons_zero])
   refine WpH.takeB (i := 6) (v := ?_) rfl (by kernel_rfl) (fun _ _ _ h => h) (.val rfl (fun wz hwz => ?_)) ?_
   rotate_left
   ·(obtain ⟨hcz, hfz⟩ := bcell hwz; go_simp; try (with_reducible rfl))
   (simp only [Act.put]); (try simp only [List.setIfInBounds_toArray]); (try simp only [List.set_cons_succ]); (try simp only [List.set_cons_zero])
   refine WpH.takeB (i := 7) (v := ?_) rfl (by kernel_rfl) (fun _ _ _ h => h) (.val rfl (fun wz hwz => ?_)) ?_
   rotate_left
   ·(obtain ⟨hcz, hfz⟩ := bcell hwz; go_simp; try (with_reducible rfl))
   (simp only [Act.put]); (try simp only [List.setIfInBounds_toArray]); (try simp only [List.set_cons_succ]); (try simp only [List.set_cons_zero])
   refine WpH.takeB (i := 8) rfl (by kernel_rfl) (fun _ _ _ h => h) (.call rfl (fun wz hwz => ref_MulK hf y z wz) (fun wz hwz => ?_)) ?_
   ·go_simp; try (with_reducible rfl)
   (simp only [Act.put]); (try simp only [List.setIfInBounds_toArray]); (try simp only [List.set_cons_succ]); (try simp only [List.set_cons_zero])
   refine WpH.takeB (i := 9) rfl (by kernel_rfl) (fun _ _ _ h => h) (.call rfl (fun wz hwz => ref_AddK hf s (y * z) wz) (fun wz hwz => ?_)) ?_
   ·go_simp; try (with_reducible rfl)
   (simp only [Act.put]); (try simp only [List.setIfInBounds_toArray]); (try simp only [List.set_cons_succ]); (try simp only [List.set_cons_zero])
   refine WpH.doneB (by kernel_rfl) (fun w6 hw6 => ?_)
   (try simp only [List.drop_succ_cons]); (try simp only [List.drop_zero]); (try simp only [Nat.reduceSub]); (try simp only [List.take_succ_cons]); (try simp only [List.take_zero])
   replace ho := ho.call hw6
   replace hx := hx.call hw6
   replace hp := hp.call hw6
   replace hr := hr.call hw6
   replace hbw := bl_call hbw (Nat.le_refl _) hw6
   have hoo := ho
   clear o0 o1 o2 o3 o4 x0 x1 x2 x3 x4 p0 p1 p2 p3 p4 c0 c1 hbl
   obtain ⟨o0, o1, o2, o3, o4⟩ := hoo
   go_upto_region 7 with fail
   clear o0 o1 o2 o3 o4
   have hne : w1.heap.size ≠ w1.heap.size + 1 := by omega
   replace ho : V2 ((w6.setCell ⟨w1.heap.size, 0, none⟩ (.int .u64 (lo (s + y * z)))).setCell ⟨w1.heap.size, 1, none⟩ (.int .u64 (hi (s + y * z)))) (w1.heap.size) (.int .u64 (lo (s + y * z))) (.int .u64 (hi (s + y * z))) := V2.set ho _ _
   replace hx := V2.oth hx (b := w1.heap.size) (by omega) (.int .u64 (lo (s + y * z))) (.int .u64 (hi (s + y * z)))
   replace hp := V2.oth hp (b := w1.heap.size) (by omega) (.int .u64 (lo (s + y * z))) (.int .u64 (hi (s + y * z)))
   replace hr := V2.oth hr (b := w1.heap.size) (by omega) (.int .u64 (lo (s + y * z))) (.int .u64 (hi (s + y * z)))
   replace hbw := bl_st hbw (b := w1.heap.size) (by omega) (.int .u64 (lo (s + y * z))) (.int .u64 (hi (s + y * z)))
   generalize ((w6.setCell ⟨w1.heap.size, 0, none⟩ (.int .u64 (lo (s + y * z)))).setCell ⟨w1.heap.size, 1, none⟩ (.int .u64 (hi (s + y * z)))) = w7 at ho hx hp hr hbw ⊢
   have hxx := hx
   obtain ⟨x0, x1, x2, x3, x4⟩ := hxx
   obtain ⟨p0, p1, p2, p3, p4⟩ := hp
   go_wp2_with (go_at_call 81; refine (ref_MulK hf z x _).mono ?_; rintro e w8 ⟨rfl, hb8⟩; obtain ⟨p0, p1, p2, p3, p4⟩ := V2.call ⟨p0, p1, p2, p3, p4⟩ hb8; replace hx := hx.call hb8; replace ho := ho.call hb8; replace hr := hr.call hb8)
   go_roundw
   case rel => exact ⟨k + 1, by omega, by go_num, hx.oth (by omega) _ _, hr.oth (by omega) _ _, by rw [HST.out]; exact ho.oth (by omega) _ _, by rw [HPW.out]; exact V2.set ⟨p0, p1, p2, p3, p4⟩ _ _, by repeat (first | exact bA | with_reducible assumption | apply bB | (refine bC ?_ (by dsimp only; omega)) | apply bD | apply bE | (refine bF ?_ (by assumption)))⟩
   case measure => simp [intOf]; omega
  ·obtain rfl : k = p.length := by omega
   rw [List.take_length] at ho
   obtain ⟨y0, y1, y2, y3, y4⟩ := ho
   obtain ⟨z0, z1, z2, z3, z4⟩ := hr
   go_wp2
   refine bodyPost_ret (results_v2 (b := w.heap.size + 1) (u := .int .u64 (lo (horner x p))) (v := .int .u64 (hi (horner x p))) ?_ rfl rfl) rfl ?_
   ·exact V2.set ⟨z0, z1, z2, z3, z4⟩ _ _
   ·exact ⟨rfl, by repeat (first | exact bA | with_reducible assumption | apply bB | (refine bC ?_ (by dsimp only; omega)) | apply bD | apply bE | (refine bF ?_ (by assumption)))⟩

end Go.Proofs.YtfbfbijkkbflkaaGreatDoor

namespace Go.Proofs.YtfbfbijkkbflkaaGreatDoor
open Go.RowKit Go.ChangeShapes Go.WideShapes Go.Deep
set_option linter.unusedVariables false
set_option maxRecDepth 100000

section
variable {H : Type} {enc : TypeId × Value → H} {W : World} {base : Nat} {sp : Nat → Bool} {hd : Bool}

theorem open_elems {r : Reach} {b0 : Nat} {v : Value} {d : DataW H} {ps : List MemPlace} (hval : Value.okWide Tryz.prog W r b0 24 v) (h : DataW.Trod enc Tryz.prog W base sp hd 24 v d ps) :
  ∃ xs : List E, SlE W W.heap.size v xs := by
 obtain ⟨a0, len, cap, rfl⟩ := okWide_slice Tryz.underlying24 hval
 obtain ⟨fuel, hf⟩ := h
 rcases open_slice Tryz.underlying24 hf with ⟨hcs, _⟩ | ⟨a, len', cap', m, n, D, Pl, hcs, _, hle, hcm, hm, _, hi⟩
 ·simp only [Value.cells, List.cons.injEq, Value.slice.injEq, and_true] at hcs
  obtain ⟨rfl, rfl, rfl⟩ := hcs
  exact ⟨[], SlE.nil _ _⟩
 ·simp only [Value.cells, List.cons.injEq, Value.slice.injEq, and_true] at hcs
  obtain ⟨rfl, rfl, rfl⟩ := hcs
  have hlm : len ≤ m := by rw [hm]; split <;> omega
  have key : ∀ i, i < len → ∃ e : E, W.cell? (a.add (i * 2)) = some (.int .u64 e.1) ∧ W.cell? (a.add (i * 2 + 1)) = some (.int .u64 e.2) ∧ okE e := by
   intro i hil
   obtain ⟨cs', hc, ht⟩ := hi i (by omega)
   rw [cellsOf_elem] at hc
   obtain ⟨e, rfl, hok⟩ := trod_elem ht
   obtain ⟨_, _, hat⟩ := World.cells?_some hc
   have h0 := hat 0 (by omega)
   have h1 := hat 1 (by omega)
   have e0 : (a.add (i * 2)).add 0 = a.add (i * 2) := rfl
   have e1 : (a.add (i * 2)).add 1 = a.add (i * 2 + 1) := by
    unfold Addr.add
    by_cases h : i * 2 = 0
    ·simp [h]
    ·simp [h, Nat.add_assoc]
   rw [e0] at h0
   rw [e1] at h1
   exact ⟨e, h0, h1, hok⟩
  have hex : ∃ f : Nat → E, ∀ i, i < len → W.cell? (a.add (i * 2)) = some (.int .u64 (f i).1) ∧ W.cell? (a.add (i * 2 + 1)) = some (.int .u64 (f i).2) ∧ okE (f i) := by
   refine ⟨fun i => if hil : i < len then Classical.choose (key i hil) else (0, 0), fun i hil => ?_⟩
   simp only [dif_pos hil]
   exact Classical.choose_spec (key i hil)
  obtain ⟨f, hfi⟩ := hex
  refine ⟨(List.range len).map f, ⟨⟨some a, cap, by simp, by simpa using hle, by unfold maxLen at hcm; omega, fun hn => ?_⟩, ?_⟩⟩
  ·have hl0 : 0 < len := by simpa using hn
   have hc0 := (hfi 0 hl0).1
   have ha0 : a.add (0 * 2) = a := rfl
   rw [ha0] at hc0
   have hlt := lt_of_cell hc0
   obtain ⟨b, o, s⟩ := a
   have hs : s = none := by
    cases s with
    | none => rfl
    | some q => simp [World.cell?] at hc0; split at hc0 <;> simp_all
   subst hs
   refine ⟨b, o, rfl, hlt, fun i e hie => ?_⟩
   have hil : i < len := by
    have := (List.getElem?_eq_some_iff.1 hie).1
    simpa using this
   have hee : e = f i := by
    rw [List.getElem?_map, List.getElem?_range hil] at hie
    simpa using hie.symm
   subst hee
   obtain ⟨k0, k1, _⟩ := hfi i hil
   have ea : ∀ j, (⟨b, o, none⟩ : Addr).add j = ⟨b, o + j, none⟩ := by
    intro j
    unfold Addr.add
    split <;> simp_all
   rw [ea] at k0 k1
   exact ⟨k0, by rw [Nat.add_assoc]; exact k1⟩
  ·intro e he
   rw [List.mem_map] at he
   obtain ⟨i, hir, rfl⟩ := he
   exact (hfi i (by simpa using hir)).2.2
end

end Go.Proofs.YtfbfbijkkbflkaaGreatDoor

namespace Go.Proofs.YtfbfbijkkbflkaaGreatDoor
open Go.RowKit Fm
set_option linter.unusedVariables false
set_option maxRecDepth 100000

section
variable {f : Nat} (hf : IsF f)
include hf

set_option maxHeartbeats 2000000 in
theorem circuit_Verifier (y : CK) (hy : y.ok) (w : World) : Calls Tryz.prog 43 #[y.val f] w (RetI (y.arity + 2) w) := by
 have HG := Lib.hid (fun wz => circuit_Gadget hf y hy wz)
 have ha := gad_arity f y
 have hal := CK.arity_le hy
 unfold CK.val at HG ⊢
 generalize y.gad f = g at *
 generalize y.arity = r at *
 clear hy
 generalize ((y.k : Nat) : Int) = k at *
 generalize ((y.b : Nat) : Int) = b at *
 generalize ((y.l : Nat) : Int) = l at *
 generalize ((y.m : Nat) : Int) = m at *
 generalize ((y.c : Nat) : Int) = c at *
 have HAR : Hid (∀ (wz : World) (B : Nat) (k : Int) (sl : Value) (n : Int), RepG wz B k sl n g → Calls Tryz.prog 28 #[.agg #[.int .u8 k, sl, .int .i64 n]] wz (RetI r wz)) := by
  intro wz B k sl n hg
  have h := gadget_Arity wz B g k sl n hg
  rwa [ha] at h
 clear ha
 go_enter Tryz.func43, Tryz.ntmps43
 go_wp2_with (first
  | (go_at_call 27; refine (HG.out _).mono ?_; rintro e w2 ⟨gk, sl, gn, rfl, hg, hb2⟩)
  | (go_at_call 28; refine (HAR.out _ _ _ _ _ hg).mono ?_; rintro e w3 ⟨rfl, hb3⟩))
 go_ret
 exact ⟨ret_int (by omega), by repeat (first | exact bA | with_reducible assumption | apply bB | (refine bC ?_ (by dsimp only; omega)) | apply bD | apply bE | (refine bF ?_ (by assumption)))⟩
end

end Go.Proofs.YtfbfbijkkbflkaaGreatDoor

namespace Go.Proofs.YtfbfbijkkbflkaaGreatDoor.Fm
set_option linter.unusedVariables false

section
variable {f : Nat}

/-! ### what goes into what -/
/-! ### Lagrange -/
theorem lagrange {r s m x : Fin (Pm f)} {L : Nat} (hr : Rt r L) (hs : r * s = 1) (v : List (Fin (Pm f))) (hv : v.length = 2 ^ L) (d : Nat → Fin (Pm f)) (hd : ∀ k, k < 2 ^ L → (x - kpow r k) * d k = 1) :
  sm (fun k => (kpow x (2 ^ L) - 1) * m * kpow r k * d k * v.getD k 0) (2 ^ L) = ev x (coefs s m (2 ^ L) v) := by
 have e : ∀ n, kpow r n * kpow s n = 1 := fun n => by rw [← mul_kpow, hs, one_kpow]
 have hss := hr.inv hs
 unfold coefs
 have hR : sm (fun i => ev (kpow s i) v * m * kpow x i) (2 ^ L) = sm (fun i => sm (fun k => m * v.getD k 0 * kpow (x * kpow s k) i) (2 ^ L)) (2 ^ L) := sm_congr fun i hi => by
  rw [ev_sm, hv, ← sm_mulr, ← sm_mulr]
  refine sm_congr fun k _ => ?_
  rw [mul_kpow, ← kpow_mul, ← kpow_mul, Nat.mul_comm k i]
  grind
 rw [ofF_ev, hR, sm_swap]
 refine sm_congr fun k hk => ?_
 rw [sm_mul]
 have hg := geo (x * kpow s k) (2 ^ L)
 rw [mul_kpow, ← kpow_mul, Nat.mul_comm k, kpow_mul s, hss.one, one_kpow] at hg
 have h1 := e k
 have h2 := hd k hk
 have h3 : (x - kpow r k) * kpow s k = x * kpow s k - 1 := by grind
 have h4 : (x * kpow s k - 1) * (d k * kpow r k) = 1 := by
  rw [← h3]
  grind
 have hfin : ∀ S X rk dk vk xs : Fin (Pm f), (xs - 1) * S = X * 1 - 1 → (xs - 1) * (dk * rk) = 1 → (X - 1) * m * rk * dk * vk = m * vk * S := by
  intro S X rk dk vk xs a1 a2
  have a3 : X - 1 = (xs - 1) * S := by grind
  rw [a3]
  grind
 exact hfin _ _ _ _ _ _ hg h4
end

end Go.Proofs.YtfbfbijkkbflkaaGreatDoor.Fm

namespace Go.Proofs.YtfbfbijkkbflkaaGreatDoor
open Go.RowKit Fm
set_option linter.unusedVariables false
set_option maxRecDepth 100000

theorem gold_PowL (a0 a1 : Int) (ha : okE (a0, a1)) (n : Nat) (hn : n ≤ 18446744073709551615) (w : World) : Calls Tryz.prog 55 #[.int .u64 a0, .int .u64 n] w fun e w' => e = .returned (.int .u64 (lo (Fm.kpow (kL 1 a0 a1) n))) ∧ w = w' := by
 have hp : ((Pm 1 : Nat) : Int) = 18446744069414584321 := rfl
 have h := gold_Pow a0 (n : Int) w ha.1 ha.2.1 (by omega) (by omega)
 have hk : kI (Pm 1) (ipow a0 n) = Fm.kpow (kL 1 a0 a1) n := by
  clear h hn
  induction n with
  | zero => exact kI_one
  | succ n ih =>
   rw [ipow, kI_mul, ih, Fm.kpow_succ]
   rfl
 rwa [Int.toNat_natCast, ← hp, ← val_kI, hk, ← (lo_small (Fm.kpow (kL 1 a0 a1) n)).1] at h

set_option maxHeartbeats 4000000 in
theorem field_PowL {f : Nat} (hf : IsF f) (a0 a1 : Int) (ha : okE (a0, a1)) (n : Nat) (hn : n ≤ 18446744073709551615) (w : World) :
  Calls Tryz.prog 15 #[.int .u8 f, .agg #[.int .u64 a0, .int .u64 a1], .int .u64 n] w (RetK (Fm.kpow (kL f a0 a1) n) w) := by
 rcases hf.or with rfl | rfl
 ·have HG := Lib.hid (fun wz => gold_PowL a0 a1 ha n hn wz)
  have HH : Hid (hi (Fm.kpow (kL 1 a0 a1) n) = 0) := (lo_small _).2
  obtain ⟨y, hy⟩ : ∃ y, Fm.kpow (kL 1 a0 a1) n = y := ⟨_, rfl⟩
  rw [hy] at HG HH ⊢
  clear hy
  go_enter Tryz.func15, Tryz.ntmps15
  go_upto_region 1 with fail
  have q0 := (V2.new w (.int .u64 a0) (.int .u64 a1) 36).alloc (.cells #[(.int .u64 0), (.int .u64 0)] 36)
  have s0 := V2.new (w.alloc (.cells #[(.int .u64 a0), (.int .u64 a1)] 36)) (.int .u64 0) (.int .u64 0) 36
  simp only [World.size_alloc] at s0
  have hb00 : Below w.heap.size w ((w.alloc (.cells #[(.int .u64 a0), (.int .u64 a1)] 36)).alloc (.cells #[(.int .u64 0), (.int .u64 0)] 36)) := by repeat (first | exact bA | with_reducible assumption | apply bB)
  have hsz : w.heap.size + 2 ≤ ((w.alloc (.cells #[(.int .u64 a0), (.int .u64 a1)] 36)).alloc (.cells #[(.int .u64 0), (.int .u64 0)] 36)).heap.size := by simp only [World.size_alloc]; omega
  generalize ((w.alloc (.cells #[(.int .u64 a0), (.int .u64 a1)] 36)).alloc (.cells #[(.int .u64 0), (.int .u64 0)] 36)) = w1 at q0 s0 hb00 hsz ⊢
  obtain ⟨q00, q01, q02, q03, q04⟩ := V2.mk q0.c0 q0.c1 q0.f0 q0.f1 q0.lt
  obtain ⟨s00, s01, s02, s03, s04⟩ := V2.mk s0.c0 s0.c1 s0.f0 s0.f1 s0.lt
  go_wp2_with fail
  refine (HG.out _).mono ?_
  rintro e w3 ⟨rfl, rfl⟩
  go_wp2_with fail
  refine bodyPost_ret (results_v2 (b := w.heap.size + 1) (u := .int .u64 (lo y)) (v := .int .u64 0) ?_ rfl rfl) rfl ?_
  ·exact V2.set s0 _ _
  ·exact ⟨by rw [← HH.out], by repeat (first | exact bA | with_reducible assumption | apply bB | (refine bC ?_ (by dsimp only; omega)) | apply bD | apply bE | (refine bF ?_ (by assumption)))⟩
 ·have HI : Hid (∀ wz, Calls Tryz.prog 56 #[.agg #[.int .u64 a0, .int .u64 a1], .agg #[.int .u64 n, .int .u64 0]] wz (RetK (Fm.kpow (kL 2 a0 a1) n) wz)) := fun wz => by
   have h := wide_Pow a0 a1 n 0 wz ha.1 ha.2.1 ha.2.2.1 ha.2.2.2 hn (by omega)
   rw [Nat.mul_zero, Nat.add_zero, kpw_fm] at h
   exact h
  obtain ⟨y, hy⟩ : ∃ y, Fm.kpow (kL 2 a0 a1) n = y := ⟨_, rfl⟩
  rw [hy] at HI ⊢
  clear hy
  go_enter Tryz.func15, Tryz.ntmps15
  go_upto_region 1 with fail
  have q0 := (V2.new w (.int .u64 a0) (.int .u64 a1) 36).alloc (.cells #[(.int .u64 0), (.int .u64 0)] 36)
  have s0 := V2.new (w.alloc (.cells #[(.int .u64 a0), (.int .u64 a1)] 36)) (.int .u64 0) (.int .u64 0) 36
  simp only [World.size_alloc] at s0
  have hb00 : Below w.heap.size w ((w.alloc (.cells #[(.int .u64 a0), (.int .u64 a1)] 36)).alloc (.cells #[(.int .u64 0), (.int .u64 0)] 36)) := by repeat (first | exact bA | with_reducible assumption | apply bB)
  have hsz : w.heap.size + 2 ≤ ((w.alloc (.cells #[(.int .u64 a0), (.int .u64 a1)] 36)).alloc (.cells #[(.int .u64 0), (.int .u64 0)] 36)).heap.size := by simp only [World.size_alloc]; omega
  generalize ((w.alloc (.cells #[(.int .u64 a0), (.int .u64 a1)] 36)).alloc (.cells #[(.int .u64 0), (.int .u64 0)] 36)) = w1 at q0 s0 hb00 hsz ⊢
  obtain ⟨q00, q01, q02, q03, q04⟩ := V2.mk q0.c0 q0.c1 q0.f0 q0.f1 q0.lt
  obtain ⟨s00, s01, s02, s03, s04⟩ := V2.mk s0.c0 s0.c1 s0.f0 s0.f1 s0.lt
  go_wp2_with fail
  refine (HI.out _).mono ?_
  rintro e w3 ⟨rfl, hb3⟩
  clear q00 q01 q02 q03 q04 s00 s01 s02 s03 s04
  replace hb00 := bl_call hb00 (Nat.le_refl _) hb3
  replace q0 := q0.call hb3
  replace s0 := s0.call hb3
  clear hb3
  obtain ⟨s00, s01, s02, s03, s04⟩ := V2.mk s0.c0 s0.c1 s0.f0 s0.f1 s0.lt
  go_wp2_with fail
  refine bodyPost_ret (results_v2 (b := w.heap.size + 1) (u := .int .u64 (lo y)) (v := .int .u64 (hi y)) ?_ rfl rfl) rfl ?_
  ·exact V2.set s0 _ _
  ·exact ⟨rfl, by repeat (first | exact bA | with_reducible assumption | apply bB | (refine bC ?_ (by dsimp only; omega)) | apply bD | apply bE | (refine bF ?_ (by assumption)))⟩

end Go.Proofs.YtfbfbijkkbflkaaGreatDoor

namespace Go.Proofs.YtfbfbijkkbflkaaGreatDoor
open Go.RowKit Fm
set_option linter.unusedVariables false
set_option maxRecDepth 100000

section
variable {f : Nat} (hf : IsF f)
include hf

omit hf in
theorem SlE.dropN {w : World} {B b o : Nat} {c : Nat} {l : List E} {n L : Nat} (h : SlE w B (.slice (some ⟨b, o, none⟩) L c) l) (hn : n < L) : SlE w B (.slice (some ⟨b, o + n * 2, none⟩) (L - n) (c - n)) (l.drop n) := by
 obtain ⟨⟨A', c', hh, h1, h2, h3⟩, hok⟩ := h
 injection hh with e1 e2 e3
 subst e1 e2 e3
 have hl : (l.drop n).length = l.length - n := List.length_drop
 refine ⟨⟨some ⟨b, o + n * 2, none⟩, c - n, by rw [hl], by omega, by omega, fun h0 => ?_⟩, fun e he => hok e (List.mem_of_mem_drop he)⟩
 obtain ⟨b', o', hA, hB, hr⟩ := h3 (by omega)
 injection hA with hA
 injection hA with hb ho
 subst hb
 subst ho
 refine ⟨b, o + n * 2, rfl, hB, fun i e hi => ?_⟩
 rw [List.getElem?_drop] at hi
 have h4 := hr (n + i) e hi
 rw [show o + n * 2 + i * 2 = o + (n + i) * 2 by omega]
 exact h4

end

end Go.Proofs.YtfbfbijkkbflkaaGreatDoor
