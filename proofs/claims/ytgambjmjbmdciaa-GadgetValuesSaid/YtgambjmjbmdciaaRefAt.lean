/-
  WALK: the reference's At.
-/
import Derived.Test.YtgambjmjbmdciaaRefMul
import Derived.Test.YtgambjmjbmdciaaPolyAt
namespace Go.Proofs.Ytgambjmjbmdciaa
open Go.RowKit Fm
set_option linter.unusedVariables false
set_option maxRecDepth 100000

/-- term by term: the value of the first k coefficients, and the next power -/
def termSum {f : Nat} (x : Fin (Pm f)) (p : KL f) (k : Nat) : Fin (Pm f) := horner x (p.take k)

theorem horner_append {f : Nat} (x : Fin (Pm f)) (p : KL f) (a : Fin (Pm f)) : horner x (p ++ [a]) = horner x p + a * kpow x p.length := by
  induction p with
  | nil => simp only [horner, List.nil_append, List.foldr_cons, List.foldr_nil, List.length_nil, kpow_zero]; grind
  | cons b p ih =>
    have e1 : horner x (b :: p ++ [a]) = horner x (p ++ [a]) * x + b := rfl
    have e2 : horner x (b :: p) = horner x p * x + b := rfl
    rw [e1, e2, ih, List.length_cons, kpow_succ]
    grind

theorem horner_take {f : Nat} (x : Fin (Pm f)) (p : KL f) (k : Nat) (a : Fin (Pm f)) (h : p[k]? = some a) : horner x (p.take (k + 1)) = horner x (p.take k) + a * kpow x k := by
  obtain ⟨hlt, rfl⟩ := List.getElem?_eq_some_iff.1 h
  rw [List.take_add_one, List.getElem?_eq_getElem hlt]
  show horner x (p.take k ++ [p[k]]) = _
  rw [horner_append, List.length_take, Nat.min_eq_left (by omega)]

set_option maxHeartbeats 4000000 in
theorem ref_At {f : Nat} (hf : IsF f) (vp : Value) (p : KL f) (x : Fin (Pm f)) (w : World) (hp : SlK w w.heap.size vp p) (hn : p.length ≤ 1099511627776) :
    Calls Try.prog 109 #[.int .i64 f, vp, vK x] w (RetK (horner x p) w) := by
  obtain ⟨A, c, rfl, hc, hcm, hA⟩ := hp
  go_enter Try.func109, Try.ntmps109
  go_upto_region 1 with fail
  have hx := (V2.new w (.int .u64 (lo x)) (.int .u64 (hi x)) 41).alloc (.cells #[(.int .u64 0), (.int .u64 0)] 41)
  have hr := V2.new (w.alloc (.cells #[(.int .u64 (lo x)), (.int .u64 (hi x))] 41)) (.int .u64 0) (.int .u64 0) 41
  simp only [World.size_alloc] at hr
  have hb00 : Below w.heap.size w ((w.alloc (.cells #[(.int .u64 (lo x)), (.int .u64 (hi x))] 41)).alloc (.cells #[(.int .u64 0), (.int .u64 0)] 41)) := by repeat (first | exact Below.refl _ _ | with_reducible assumption | (refine bl_alloc ?_ (Nat.le_refl _) _))
  have hsz : w.heap.size + 2 ≤ ((w.alloc (.cells #[(.int .u64 (lo x)), (.int .u64 (hi x))] 41)).alloc (.cells #[(.int .u64 0), (.int .u64 0)] 41)).heap.size := by simp only [World.size_alloc]; omega
  generalize ((w.alloc (.cells #[(.int .u64 (lo x)), (.int .u64 (hi x))] 41)).alloc (.cells #[(.int .u64 0), (.int .u64 0)] 41)) = w1 at hx hr hb00 hsz ⊢
  go_upto_region 3 with fail
  have ho := V2.new w1 (.int .u64 0) (.int .u64 0) 41
  replace ho := ho.alloc (.cells #[.int .u64 1, .int .u64 0] 41)
  have hp := V2.new (w1.alloc (.cells #[.int .u64 0, .int .u64 0] 41)) (.int .u64 1) (.int .u64 0) 41
  replace hx := (hx.alloc (.cells #[.int .u64 0, .int .u64 0] 41)).alloc (.cells #[.int .u64 1, .int .u64 0] 41)
  replace hr := (hr.alloc (.cells #[.int .u64 0, .int .u64 0] 41)).alloc (.cells #[.int .u64 1, .int .u64 0] 41)
  replace hb00 : Below w.heap.size w ((w1.alloc (.cells #[.int .u64 0, .int .u64 0] 41)).alloc (.cells #[.int .u64 1, .int .u64 0] 41)) := by repeat (first | exact Below.refl _ _ | with_reducible assumption | (refine bl_alloc ?_ (Nat.le_refl _) _) | (refine bl_set ?_ (by dsimp only; omega) _) | (refine Below.drew ?_) | (refine bl_drewN ?_ _) | (refine bl_call ?_ (Nat.le_refl _) (by assumption)))
  rw [World.size_alloc] at hp
  generalize (w1.alloc (.cells #[.int .u64 0, .int .u64 0] 41)).alloc (.cells #[.int .u64 1, .int .u64 0] 41) = w2 at ho hp hx hr hb00 ⊢
  go_wp2_with fail
  go_loopw [9] (fun i wr => ∃ k : Nat, k ≤ p.length ∧ i = .int .i64 k ∧ V2 wr w.heap.size (.int .u64 (lo x)) (.int .u64 (hi x)) ∧ V2 wr (w.heap.size + 1) (.int .u64 0) (.int .u64 0) ∧
      V2 wr w1.heap.size (.int .u64 (lo (horner x (p.take k)))) (.int .u64 (hi (horner x (p.take k)))) ∧ V2 wr (w1.heap.size + 1) (.int .u64 (lo (kpow x k))) (.int .u64 (hi (kpow x k))) ∧ Below w.heap.size w wr) (fun i _ => p.length - (intOf i).toNat)
  case atStart =>
    refine ⟨0, Nat.zero_le _, rfl, hx, hr, ?_, ?_, by repeat (first | exact Below.refl _ _ | with_reducible assumption | (refine bl_alloc ?_ (Nat.le_refl _) _) | (refine bl_set ?_ (by dsimp only; omega) _) | (refine Below.drew ?_) | (refine bl_drewN ?_ _) | (refine bl_call ?_ (Nat.le_refl _) (by assumption)))⟩
    · rw [List.take_zero, show horner x ([] : KL f) = 0 from rfl, lo_zero, hi_zero]
      exact ho
    · rw [kpow_zero, lo_one, hi_one]
      exact hp
  case round =>
    clear hx hr ho hp hb00
    obtain ⟨k, hk, rfl, hx, hr, ho, hp, hbw⟩ := hrel
    by_cases hkl : k < p.length
    · obtain ⟨b, o, rfl, hB, hrow⟩ := hA (by omega)
      obtain ⟨y, he⟩ : ∃ e, p[k]? = some e := ⟨_, List.getElem?_eq_getElem (by omega)⟩
      obtain ⟨c0, c1⟩ := (hrow.below hbw hB).kat he
      have hbl : b < wr.heap.size := Nat.lt_of_lt_of_le hB hbw.size
      have HST := Lib.hid (horner_take x p k y he)
      have HPW := Lib.hid (kpow_succ x k)
      generalize horner x (p.take k) = s at *
      generalize kpow x k = z at *
      clear he hrow hA
      have hoo := ho
      obtain ⟨o0, o1, o2, o3, o4⟩ := hoo
      have hxx := hx
      obtain ⟨x0, x1, x2, x3, x4⟩ := hxx
      have hpp := hp
      obtain ⟨p0, p1, p2, p3, p4⟩ := hpp
      go_wp2_with fail
      refine region_B (n := 10) (m := 11) (f := 10) (by kernel_rfl) (by kernel_rfl) rfl ?_
      refine WpH.takeB (i := 0) (v := ?_) rfl (by kernel_rfl) (fun _ _ _ h => h) (.val rfl (fun wz hwz => ?_)) ?_
      rotate_left
      · go_simp; try (with_reducible rfl)
      (simp only [Act.put]); (try simp only [List.setIfInBounds_toArray]); (try simp only [List.set_cons_succ]); (try simp only [List.set_cons_zero])
      refine WpH.takeB (i := 1) (v := ?_) rfl (by kernel_rfl) (fun _ _ _ h => h) (.val rfl (fun wz hwz => ?_)) ?_
      rotate_left
      · (obtain ⟨hcz, hfz⟩ := bcell hwz; go_simp; try (with_reducible rfl))
      (simp only [Act.put]); (try simp only [List.setIfInBounds_toArray]); (try simp only [List.set_cons_succ]); (try simp only [List.set_cons_zero])
      refine WpH.takeB (i := 2) (v := ?_) rfl (by kernel_rfl) (fun _ _ _ h => h) (.val rfl (fun wz hwz => ?_)) ?_
      rotate_left
      · go_simp; try (with_reducible rfl)
      (simp only [Act.put]); (try simp only [List.setIfInBounds_toArray]); (try simp only [List.set_cons_succ]); (try simp only [List.set_cons_zero])
      refine WpH.takeB (i := 3) (v := ?_) rfl (by kernel_rfl) (fun _ _ _ h => h) (.val rfl (fun wz hwz => ?_)) ?_
      rotate_left
      · go_simp; try (with_reducible rfl)
      (simp only [Act.put]); (try simp only [List.setIfInBounds_toArray]); (try simp only [List.set_cons_succ]); (try simp only [List.set_cons_zero])
      refine WpH.takeB (i := 4) (v := ?_) rfl (by kernel_rfl) (fun _ _ _ h => h) (.val rfl (fun wz hwz => ?_)) ?_
      rotate_left
      · go_simp; try (with_reducible rfl)
      (simp only [Act.put]); (try simp only [List.setIfInBounds_toArray]); (try simp only [List.set_cons_succ]); (try simp only [List.set_cons_zero])
      refine WpH.takeB (i := 5) (v := ?_) rfl (by kernel_rfl) (fun _ _ _ h => h) (.val rfl (fun wz hwz => ?_)) ?_
      rotate_left
      · go_simp; try (with_reducible rfl)
      (simp only [Act.put]); (try simp only [List.setIfInBounds_toArray]); (try simp only [List.set_cons_succ]); (try simp only [List.set_cons_zero])
      refine WpH.takeB (i := 6) (v := ?_) rfl (by kernel_rfl) (fun _ _ _ h => h) (.val rfl (fun wz hwz => ?_)) ?_
      rotate_left
      · (obtain ⟨hcz, hfz⟩ := bcell hwz; go_simp; try (with_reducible rfl))
      (simp only [Act.put]); (try simp only [List.setIfInBounds_toArray]); (try simp only [List.set_cons_succ]); (try simp only [List.set_cons_zero])
      refine WpH.takeB (i := 7) (v := ?_) rfl (by kernel_rfl) (fun _ _ _ h => h) (.val rfl (fun wz hwz => ?_)) ?_
      rotate_left
      · (obtain ⟨hcz, hfz⟩ := bcell hwz; go_simp; try (with_reducible rfl))
      (simp only [Act.put]); (try simp only [List.setIfInBounds_toArray]); (try simp only [List.set_cons_succ]); (try simp only [List.set_cons_zero])
      refine WpH.takeB (i := 8) rfl (by kernel_rfl) (fun _ _ _ h => h) (.call rfl (fun wz hwz => ref_MulK hf y z wz) (fun wz hwz => ?_)) ?_
      · go_simp; try (with_reducible rfl)
      (simp only [Act.put]); (try simp only [List.setIfInBounds_toArray]); (try simp only [List.set_cons_succ]); (try simp only [List.set_cons_zero])
      refine WpH.takeB (i := 9) rfl (by kernel_rfl) (fun _ _ _ h => h) (.call rfl (fun wz hwz => ref_AddK hf s (y * z) wz) (fun wz hwz => ?_)) ?_
      · go_simp; try (with_reducible rfl)
      (simp only [Act.put]); (try simp only [List.setIfInBounds_toArray]); (try simp only [List.set_cons_succ]); (try simp only [List.set_cons_zero])
      refine WpH.doneB (by kernel_rfl) (fun w6 hw6 => ?_)
      (try simp only [List.drop_succ_cons]); (try simp only [List.drop_zero]); (try simp only [Nat.reduceSub]); (try simp only [List.take_succ_cons]); (try simp only [List.take_zero])
      replace ho := ho.call hw6
      replace hx := hx.call hw6
      replace hp := hp.call hw6
      replace hr := hr.call hw6
      replace hbw := bl_call hbw (Nat.le_refl _) hw6
      have hoo := ho
      clear o0 o1 o2 o3 o4 x0 x1 x2 x3 x4 p0 p1 p2 p3 p4 c0 c1 hbl
      obtain ⟨o0, o1, o2, o3, o4⟩ := hoo
      go_upto_region 7 with fail
      clear o0 o1 o2 o3 o4
      have hne : w1.heap.size ≠ w1.heap.size + 1 := by omega
      replace ho : V2 ((w6.setCell ⟨w1.heap.size, 0, none⟩ (.int .u64 (lo (s + y * z)))).setCell ⟨w1.heap.size, 1, none⟩ (.int .u64 (hi (s + y * z)))) (w1.heap.size) (.int .u64 (lo (s + y * z))) (.int .u64 (hi (s + y * z))) := V2.set ho _ _
      replace hx := V2.oth hx (b := w1.heap.size) (by omega) (.int .u64 (lo (s + y * z))) (.int .u64 (hi (s + y * z)))
      replace hp := V2.oth hp (b := w1.heap.size) (by omega) (.int .u64 (lo (s + y * z))) (.int .u64 (hi (s + y * z)))
      replace hr := V2.oth hr (b := w1.heap.size) (by omega) (.int .u64 (lo (s + y * z))) (.int .u64 (hi (s + y * z)))
      replace hbw := bl_st hbw (b := w1.heap.size) (by omega) (.int .u64 (lo (s + y * z))) (.int .u64 (hi (s + y * z)))
      generalize ((w6.setCell ⟨w1.heap.size, 0, none⟩ (.int .u64 (lo (s + y * z)))).setCell ⟨w1.heap.size, 1, none⟩ (.int .u64 (hi (s + y * z)))) = w7 at ho hx hp hr hbw ⊢
      have hxx := hx
      obtain ⟨x0, x1, x2, x3, x4⟩ := hxx
      obtain ⟨p0, p1, p2, p3, p4⟩ := hp
      go_wp2_with (go_at_call 111; refine (ref_MulK hf z x _).mono ?_; rintro e w8 ⟨rfl, hb8⟩; obtain ⟨p0, p1, p2, p3, p4⟩ := V2.call ⟨p0, p1, p2, p3, p4⟩ hb8; replace hx := hx.call hb8; replace ho := ho.call hb8; replace hr := hr.call hb8)
      go_roundw
      case rel => exact ⟨k + 1, by omega, by go_num, hx.oth (by omega) _ _, hr.oth (by omega) _ _, by rw [HST.out]; exact ho.oth (by omega) _ _, by rw [HPW.out]; exact V2.set ⟨p0, p1, p2, p3, p4⟩ _ _, by repeat (first | exact Below.refl _ _ | with_reducible assumption | (refine bl_alloc ?_ (Nat.le_refl _) _) | (refine bl_set ?_ (by dsimp only; omega) _) | (refine Below.drew ?_) | (refine bl_drewN ?_ _) | (refine bl_call ?_ (Nat.le_refl _) (by assumption)))⟩
      case measure => simp [intOf]; omega
    · obtain rfl : k = p.length := by omega
      rw [List.take_length] at ho
      obtain ⟨y0, y1, y2, y3, y4⟩ := ho
      obtain ⟨z0, z1, z2, z3, z4⟩ := hr
      go_wp2
      refine bodyPost_ret (results_v2 (b := w.heap.size + 1) (u := .int .u64 (lo (horner x p))) (v := .int .u64 (hi (horner x p))) ?_ rfl rfl) rfl ?_
      · exact V2.set ⟨z0, z1, z2, z3, z4⟩ _ _
      · exact ⟨rfl, by repeat (first | exact Below.refl _ _ | with_reducible assumption | (refine bl_alloc ?_ (Nat.le_refl _) _) | (refine bl_set ?_ (by dsimp only; omega) _) | (refine Below.drew ?_) | (refine bl_drewN ?_ _) | (refine bl_call ?_ (Nat.le_refl _) (by assumption)))⟩

end Go.Proofs.Ytgambjmjbmdciaa
