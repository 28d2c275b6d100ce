/-
  WALKS: tallymanlaw09.of; a gadget of too many numbers, or too few.
-/
import Derived.Test.YtgambjmjbmdciaaGadget
namespace Go.Proofs.Ytgambjmjbmdciaa
open Go.RowKit Fm
set_option linter.unusedVariables false
set_option maxRecDepth 100000

section
variable {f : Nat} (hf : IsF f)
include hf

set_option maxHeartbeats 4000000 in
theorem law09_of_pairs (w : World) (g : Gad f) (k : Int) (n : Int) (hk : (k == 2) = false) (vl : Value) (l : KL f) (hl : SlK w w.heap.size vl l) (q : Nat) (hq : l.length = 2 * q) (hq16 : q ≤ 16) (hv : gval g l = psum l q) :
    Calls Try.prog 35 #[.int .i64 f, .agg #[.int .u8 k, .slice none 0 0, .int .i64 n], vl] w (RetK (gval g l) w) := by
  rw [hv]
  obtain ⟨A, c, rfl, hc, hcm, hA⟩ := hl
  rw [hq] at hc
  rw [hq]
  have HQ := Lib.hid hq
  clear hq hv
  go_enter Try.func35, Try.ntmps35
  go_upto_region 1 with fail
  have hx := Vs.new w [.int .u8 k, .slice none 0 0, .int .i64 n] #[.int .u8 k, .slice none 0 0, .int .i64 n] 47 rfl
  replace hx := hx.alloc (.cells #[.int .u64 0, .int .u64 0] 41)
  have hr := V2.new (w.alloc (.cells #[.int .u8 k, .slice none 0 0, .int .i64 n] 47)) (.int .u64 0) (.int .u64 0) 41
  rw [World.size_alloc] at hr
  have hb00 : Below w.heap.size w ((w.alloc (.cells #[.int .u8 k, .slice none 0 0, .int .i64 n] 47)).alloc (.cells #[.int .u64 0, .int .u64 0] 41)) := by repeat (first | exact Below.refl _ _ | with_reducible assumption | (refine bl_alloc ?_ (Nat.le_refl _) _) | (refine bl_set ?_ (by dsimp only; omega) _) | (refine Below.drew ?_) | (refine bl_drewN ?_ _) | (refine bl_call ?_ (Nat.le_refl _) (by assumption)))
  generalize (w.alloc (.cells #[.int .u8 k, .slice none 0 0, .int .i64 n] 47)).alloc (.cells #[.int .u64 0, .int .u64 0] 41) = w3 at hx hr hb00 ⊢
  obtain ⟨c0, c1, c2, c3, c4, c5, c6⟩ := hx.get3
  have hz3 := hr.lt
  go_wp2_with fail
  go_loopw [8] (fun i wr => ∃ j : Nat, j ≤ q ∧ i = .int .i64 ((2 * j : Nat) : Int) ∧ V2 wr (w.heap.size + 1) (.int .u64 0) (.int .u64 0) ∧ V2 wr w3.heap.size (.int .u64 (lo (psum l j))) (.int .u64 (hi (psum l j))) ∧ Below w.heap.size w wr) (fun i _ => (2 * q + 1) - (intOf i).toNat)
  case atStart =>
    refine ⟨0, Nat.zero_le _, rfl, hr.alloc _, ?_, by repeat (first | exact Below.refl _ _ | with_reducible assumption | (refine bl_alloc ?_ (Nat.le_refl _) _) | (refine bl_set ?_ (by dsimp only; omega) _) | (refine Below.drew ?_) | (refine bl_drewN ?_ _) | (refine bl_call ?_ (Nat.le_refl _) (by assumption)))⟩
    rw [psum_zero, lo_zero, hi_zero]
    exact V2.new _ _ _ _
  case round =>
    clear hx hr hb00 c0 c1 c2 c3 c4 c5 c6
    obtain ⟨j, hj, rfl, hr, ho, hbw⟩ := hrel
    by_cases hlt : j < q
    · obtain ⟨b, o, rfl, hB, hrow⟩ := hA (by have := HQ.out; omega)
      obtain ⟨x, hx⟩ : ∃ e, l[2 * j]? = some e := ⟨_, List.getElem?_eq_getElem (by have := HQ.out; omega)⟩
      obtain ⟨y, hy⟩ : ∃ e, l[2 * j + 1]? = some e := ⟨_, List.getElem?_eq_getElem (by have := HQ.out; omega)⟩
      obtain ⟨c0, c1⟩ := (hrow.below hbw hB).kat hx
      obtain ⟨d0, d1⟩ := (hrow.below hbw hB).kat hy
      have hbl : b < wr.heap.size := Nat.lt_of_lt_of_le hB hbw.size
      have HST := Lib.hid (psum_succ l j x y hx hy)
      generalize psum l j = s at *
      have hj1 : 2 * j < 2 * q := by omega
      have hj2 : 2 * j + 1 < 2 * q := by omega
      have hj3 : 2 * j + 2 ≤ 2 * q := by omega
      generalize hjj : 2 * j = jj at *
      have HJJ := Lib.hid hjj
      generalize hqq : 2 * q = qq at *
      have HQQ := Lib.hid hqq
      have hqq32 : qq ≤ 32 := by omega
      clear hjj hqq hx hy hrow hA
      have hj4 : 0 ≤ (jj : Int) + 1 := by omega
      have hj5 : (jj : Int) + 1 < (qq : Int) := by omega
      have hw1 : IntKind.i64.wrap ((jj : Int) + 1) = (jj : Int) + 1 := IntWalk.i64_in _ (by omega)
      have hoo := ho
      obtain ⟨o0, o1, o2, o3, o4⟩ := hoo
      go_wp2_with fail
      refine region_B (n := 14) (m := 15) (f := 14) (by kernel_rfl) (by kernel_rfl) rfl ?_
      refine WpH.takeB (i := 0) (v := ?_) rfl (by kernel_rfl) (fun _ _ _ h => h) (.val rfl (fun wz hwz => ?_)) ?_
      rotate_left
      · go_simp; try (with_reducible rfl)
      (simp only [Act.put]); (try simp only [List.setIfInBounds_toArray]); (try simp only [List.set_cons_succ]); (try simp only [List.set_cons_zero])
      refine WpH.takeB (i := 1) (v := ?_) rfl (by kernel_rfl) (fun _ _ _ h => h) (.val rfl (fun wz hwz => ?_)) ?_
      rotate_left
      · (obtain ⟨hcz, hfz⟩ := bcell hwz; go_simp; try (with_reducible rfl))
      (simp only [Act.put]); (try simp only [List.setIfInBounds_toArray]); (try simp only [List.set_cons_succ]); (try simp only [List.set_cons_zero])
      refine WpH.takeB (i := 2) (v := ?_) rfl (by kernel_rfl) (fun _ _ _ h => h) (.val rfl (fun wz hwz => ?_)) ?_
      rotate_left
      · go_simp; try (with_reducible rfl)
      (simp only [Act.put]); (try simp only [List.setIfInBounds_toArray]); (try simp only [List.set_cons_succ]); (try simp only [List.set_cons_zero])
      refine WpH.takeB (i := 3) (v := ?_) rfl (by kernel_rfl) (fun _ _ _ h => h) (.val rfl (fun wz hwz => ?_)) ?_
      rotate_left
      · go_simp; try (with_reducible rfl)
      (simp only [Act.put]); (try simp only [List.setIfInBounds_toArray]); (try simp only [List.set_cons_succ]); (try simp only [List.set_cons_zero])
      refine WpH.takeB (i := 4) (v := ?_) rfl (by kernel_rfl) (fun _ _ _ h => h) (.val rfl (fun wz hwz => ?_)) ?_
      rotate_left
      · go_simp; try (with_reducible rfl)
      (simp only [Act.put]); (try simp only [List.setIfInBounds_toArray]); (try simp only [List.set_cons_succ]); (try simp only [List.set_cons_zero])
      refine WpH.takeB (i := 5) (v := ?_) rfl (by kernel_rfl) (fun _ _ _ h => h) (.val rfl (fun wz hwz => ?_)) ?_
      rotate_left
      · go_simp; try (with_reducible rfl)
      (simp only [Act.put]); (try simp only [List.setIfInBounds_toArray]); (try simp only [List.set_cons_succ]); (try simp only [List.set_cons_zero])
      refine WpH.takeB (i := 6) (v := ?_) rfl (by kernel_rfl) (fun _ _ _ h => h) (.val rfl (fun wz hwz => ?_)) ?_
      rotate_left
      · (obtain ⟨hcz, hfz⟩ := bcell hwz; go_simp; try (with_reducible rfl))
      (simp only [Act.put]); (try simp only [List.setIfInBounds_toArray]); (try simp only [List.set_cons_succ]); (try simp only [List.set_cons_zero])
      refine WpH.takeB (i := 7) (v := ?_) rfl (by kernel_rfl) (fun _ _ _ h => h) (.val rfl (fun wz hwz => ?_)) ?_
      rotate_left
      · go_simp; try (with_reducible rfl)
      (simp only [Act.put]); (try simp only [List.setIfInBounds_toArray]); (try simp only [List.set_cons_succ]); (try simp only [List.set_cons_zero])
      refine WpH.takeB (i := 8) (v := ?_) rfl (by kernel_rfl) (fun _ _ _ h => h) (.val rfl (fun wz hwz => ?_)) ?_
      rotate_left
      · go_simp; try (with_reducible rfl)
      (simp only [Act.put]); (try simp only [List.setIfInBounds_toArray]); (try simp only [List.set_cons_succ]); (try simp only [List.set_cons_zero])
      refine WpH.takeB (i := 9) (v := ?_) rfl (by kernel_rfl) (fun _ _ _ h => h) (.val rfl (fun wz hwz => ?_)) ?_
      rotate_left
      · go_simp; try (with_reducible rfl)
      (simp only [Act.put]); (try simp only [List.setIfInBounds_toArray]); (try simp only [List.set_cons_succ]); (try simp only [List.set_cons_zero])
      refine WpH.takeB (i := 10) (v := ?_) rfl (by kernel_rfl) (fun _ _ _ h => h) (.val rfl (fun wz hwz => ?_)) ?_
      rotate_left
      · go_simp; try (with_reducible rfl)
      (simp only [Act.put]); (try simp only [List.setIfInBounds_toArray]); (try simp only [List.set_cons_succ]); (try simp only [List.set_cons_zero])
      refine WpH.takeB (i := 11) (v := ?_) rfl (by kernel_rfl) (fun _ _ _ h => h) (.val rfl (fun wz hwz => ?_)) ?_
      rotate_left
      · (obtain ⟨hcz, hfz⟩ := bcell hwz; go_simp; try (with_reducible rfl))
      (simp only [Act.put]); (try simp only [List.setIfInBounds_toArray]); (try simp only [List.set_cons_succ]); (try simp only [List.set_cons_zero])
      refine WpH.takeB (i := 12) rfl (by kernel_rfl) (fun _ _ _ h => h) (.call rfl (fun wz hwz => ref_MulK hf x y wz) (fun wz hwz => ?_)) ?_
      · go_simp; try (with_reducible rfl)
      (simp only [Act.put]); (try simp only [List.setIfInBounds_toArray]); (try simp only [List.set_cons_succ]); (try simp only [List.set_cons_zero])
      refine WpH.takeB (i := 13) rfl (by kernel_rfl) (fun _ _ _ h => h) (.call rfl (fun wz hwz => ref_AddK hf s (x * y) wz) (fun wz hwz => ?_)) ?_
      · go_simp; try (with_reducible rfl)
      (simp only [Act.put]); (try simp only [List.setIfInBounds_toArray]); (try simp only [List.set_cons_succ]); (try simp only [List.set_cons_zero])
      refine WpH.doneB (by kernel_rfl) (fun w6 hw6 => ?_)
      (try simp only [List.drop_succ_cons]); (try simp only [List.drop_zero]); (try simp only [Nat.reduceSub]); (try simp only [List.take_succ_cons]); (try simp only [List.take_zero])
      replace ho := ho.call hw6
      replace hr := hr.call hw6
      obtain ⟨o0, o1, o2, o3, o4⟩ := ho
      clear hj4 hj5 hw1
      go_wp2_with fail
      go_roundw
      case rel => exact ⟨j + 1, by omega, by have := HJJ.out; have := HQQ.out; rw [show 2 * (j + 1) = jj + 2 by omega]; go_num, hr.oth (by omega) _ _, by rw [HST.out]; exact V2.set ⟨o0, o1, o2, o3, o4⟩ _ _, by repeat (first | exact Below.refl _ _ | with_reducible assumption | (refine bl_alloc ?_ (Nat.le_refl _) _) | (refine bl_set ?_ (by dsimp only; omega) _) | (refine Below.drew ?_) | (refine bl_drewN ?_ _) | (refine bl_call ?_ (Nat.le_refl _) (by assumption)))⟩
      case measure => simp [intOf]; omega
    · obtain rfl : j = q := by omega
      obtain ⟨y0, y1, y2, y3, y4⟩ := ho
      obtain ⟨z0, z1, z2, z3, z4⟩ := hr
      go_wp2
      refine bodyPost_ret (results_v2 (b := w.heap.size + 1) (u := .int .u64 (lo (psum l j))) (v := .int .u64 (hi (psum l j))) ?_ rfl rfl) rfl ?_
      · exact V2.set ⟨z0, z1, z2, z3, z4⟩ _ _
      · exact ⟨rfl, by repeat (first | exact Below.refl _ _ | with_reducible assumption | (refine bl_alloc ?_ (Nat.le_refl _) _) | (refine bl_set ?_ (by dsimp only; omega) _) | (refine Below.drew ?_) | (refine bl_drewN ?_ _) | (refine bl_call ?_ (Nat.le_refl _) (by assumption)))⟩

set_option maxHeartbeats 4000000 in
theorem law09_of (w : World) (g : Gad f) (k : Int) (sl : Value) (n : Int) (hg : RepG w w.heap.size k sl n g) (vl : Value) (l : KL f) (hl : SlK w w.heap.size vl l) (hq : l.length = g.arity) :
    Calls Try.prog 35 #[.int .i64 f, .agg #[.int .u8 k, sl, .int .i64 n], vl] w (RetK (gval g l) w) := by
  cases g with
  | mul =>
    obtain ⟨rfl, rfl, rfl⟩ := hg
    exact law09_of_pairs hf w .mul 1 0 rfl vl l hl 1 hq (by omega) rfl
  | par m =>
    obtain ⟨rfl, rfl, rfl, h1, h2⟩ := hg
    exact law09_of_pairs hf w (.par m) 3 m rfl vl l hl m hq h2 rfl
  | eval cs =>
    obtain ⟨rfl, rfl, hs, m, y, hm, hy, hy0, h1, h2⟩ := hg
    have hq1 : l.length = 1 := hq
    obtain ⟨A, c, rfl, hc, hcm, hA⟩ := hl
    obtain ⟨b, o, rfl, hB, hrow⟩ := hA (by omega)
    obtain ⟨x, hx⟩ : ∃ e, l[0]? = some e := ⟨_, List.getElem?_eq_getElem (by omega)⟩
    obtain ⟨c0, c1⟩ := hrow.kat hx
    rw [Nat.zero_mul, Nat.add_zero] at c0 c1
    have hgv : gval (.eval cs) l = horner x cs := by
      show horner (l.getD 0 0) cs = _
      rw [List.getD_eq_getElem?_getD, hx]
      rfl
    rw [hgv, hq1]
    rw [hq1] at hc
    have HP := Lib.hid (fun wz (h : Below w.heap.size w wz) => ref_At hf _ cs x wz (hs.later h) (by omega))
    have hs' := hs
    obtain ⟨A', c', rfl, hc', hcm', hA'⟩ := hs
    clear hA hA' hx hq hq1 hgv hy hm hrow
    go_enter Try.func35, Try.ntmps35
    go_upto_region 1 with fail
    have hx := Vs.new w [.int .u8 2, .slice A' cs.length c', .int .i64 0] #[.int .u8 2, .slice A' cs.length c', .int .i64 0] 47 rfl
    replace hx := hx.alloc (.cells #[.int .u64 0, .int .u64 0] 41)
    have hr := V2.new (w.alloc (.cells #[.int .u8 2, .slice A' cs.length c', .int .i64 0] 47)) (.int .u64 0) (.int .u64 0) 41
    rw [World.size_alloc] at hr
    have hb00 : Below w.heap.size w ((w.alloc (.cells #[.int .u8 2, .slice A' cs.length c', .int .i64 0] 47)).alloc (.cells #[.int .u64 0, .int .u64 0] 41)) := by repeat (first | exact Below.refl _ _ | with_reducible assumption | (refine bl_alloc ?_ (Nat.le_refl _) _) | (refine bl_set ?_ (by dsimp only; omega) _) | (refine Below.drew ?_) | (refine bl_drewN ?_ _) | (refine bl_call ?_ (Nat.le_refl _) (by assumption)))
    generalize (w.alloc (.cells #[.int .u8 2, .slice A' cs.length c', .int .i64 0] 47)).alloc (.cells #[.int .u64 0, .int .u64 0] 41) = w1 at hx hr hb00 ⊢
    obtain ⟨a0, a1, a2, a3, a4, a5, a6⟩ := hx.get3
    obtain ⟨hcb, hfb⟩ := bcell hb00
    have d0 := (hcb b o hB).trans c0
    have d1 := (hcb b (o + 1) hB).trans c1
    have hbl : b < w1.heap.size := Nat.lt_of_lt_of_le hB hb00.size
    clear hcb hfb c0 c1
    go_wp2_with fail
    refine region_B (n := 7) (m := 8) (f := 7) (by kernel_rfl) (by kernel_rfl) rfl ?_
    refine WpH.takeB (i := 0) (v := ?_) rfl (by kernel_rfl) (fun _ _ _ h => h) (.val rfl (fun wz hwz => ?_)) ?_
    rotate_left
    · go_simp; try (with_reducible rfl)
    (simp only [Act.put]); (try simp only [List.setIfInBounds_toArray]); (try simp only [List.set_cons_succ]); (try simp only [List.set_cons_zero])
    refine WpH.takeB (i := 1) (v := ?_) rfl (by kernel_rfl) (fun _ _ _ h => h) (.val rfl (fun wz hwz => ?_)) ?_
    rotate_left
    · go_simp; try (with_reducible rfl)
    (simp only [Act.put]); (try simp only [List.setIfInBounds_toArray]); (try simp only [List.set_cons_succ]); (try simp only [List.set_cons_zero])
    refine WpH.takeB (i := 2) (v := ?_) rfl (by kernel_rfl) (fun _ _ _ h => h) (.val rfl (fun wz hwz => ?_)) ?_
    rotate_left
    · (obtain ⟨hcz, hfz⟩ := bcell hwz; go_simp; try (with_reducible rfl))
    (simp only [Act.put]); (try simp only [List.setIfInBounds_toArray]); (try simp only [List.set_cons_succ]); (try simp only [List.set_cons_zero])
    refine WpH.takeB (i := 3) (v := ?_) rfl (by kernel_rfl) (fun _ _ _ h => h) (.val rfl (fun wz hwz => ?_)) ?_
    rotate_left
    · go_simp; try (with_reducible rfl)
    (simp only [Act.put]); (try simp only [List.setIfInBounds_toArray]); (try simp only [List.set_cons_succ]); (try simp only [List.set_cons_zero])
    refine WpH.takeB (i := 4) (v := ?_) rfl (by kernel_rfl) (fun _ _ _ h => h) (.val rfl (fun wz hwz => ?_)) ?_
    rotate_left
    · go_simp; try (with_reducible rfl)
    (simp only [Act.put]); (try simp only [List.setIfInBounds_toArray]); (try simp only [List.set_cons_succ]); (try simp only [List.set_cons_zero])
    refine WpH.takeB (i := 5) (v := ?_) rfl (by kernel_rfl) (fun _ _ _ h => h) (.val rfl (fun wz hwz => ?_)) ?_
    rotate_left
    · (obtain ⟨hcz, hfz⟩ := bcell hwz; go_simp; try (with_reducible rfl))
    (simp only [Act.put]); (try simp only [List.setIfInBounds_toArray]); (try simp only [List.set_cons_succ]); (try simp only [List.set_cons_zero])
    refine WpH.takeB (i := 6) rfl (by kernel_rfl) (fun _ _ _ h => h) (.call rfl (fun wz hwz => HP.out wz (hb00.trans (hwz.mono hb00.size))) (fun wz hwz => ?_)) ?_
    · go_simp; try (with_reducible rfl)
    (simp only [Act.put]); (try simp only [List.setIfInBounds_toArray]); (try simp only [List.set_cons_succ]); (try simp only [List.set_cons_zero])
    refine WpH.doneB (by kernel_rfl) (fun w6 hw6 => ?_)
    (try simp only [List.drop_succ_cons]); (try simp only [List.drop_zero]); (try simp only [Nat.reduceSub]); (try simp only [List.take_succ_cons]); (try simp only [List.take_zero])
    obtain ⟨o0, o1, o2, o3, o4⟩ := hr.call hw6
    go_wp2_with fail
    refine bodyPost_ret (results_v2 (b := w.heap.size + 1) (u := .int .u64 (lo (horner x cs))) (v := .int .u64 (hi (horner x cs))) ?_ rfl rfl) rfl ?_
    · exact V2.set ⟨o0, o1, o2, o3, o4⟩ _ _
    · exact ⟨rfl, by repeat (first | exact Below.refl _ _ | with_reducible assumption | (refine bl_alloc ?_ (Nat.le_refl _) _) | (refine bl_set ?_ (by dsimp only; omega) _) | (refine Below.drew ?_) | (refine bl_drewN ?_ _) | (refine bl_call ?_ (Nat.le_refl _) (by assumption)))⟩

set_option maxHeartbeats 4000000 in
/-- too many, too few -/
theorem gadget_Of_size (w : World) (g : Gad f) (k : Int) (sl : Value) (n : Int) (hg : RepG w w.heap.size k sl n g) (A : Option Addr) (len c : Nat) (hq : len ≠ g.arity) :
    Calls Try.prog 34 #[.agg #[.int .u8 k, sl, .int .i64 n], .int .u8 f, .slice A len c] w (fun e w' => e = .returned (.tuple #[.agg #[.int .u64 0, .int .u64 0], .int .i64 9]) ∧ Below w.heap.size w w') := by
  have HC := Lib.hid (fun wz (h : Below w.heap.size w wz) => gadget_Check hf wz g k _ n (hg.later h))
  have HAA := Lib.hid (fun wz (h : Below w.heap.size w wz) => gadget_Arity wz w.heap.size g k sl n (hg.below h))
  have hne : ((len : Int) != (g.arity : Int)) = true := by simp; omega
  have hsl : ∃ (A : Option Addr) (a b : Nat), sl = .slice A a b := by
    cases g with
    | mul => exact ⟨_, _, _, hg.2.1⟩
    | par m => exact ⟨_, _, _, hg.2.1⟩
    | eval cs =>
      obtain ⟨A, c, h, _⟩ := hg.2.2.1
      exact ⟨_, _, _, h⟩
  obtain ⟨A', l', c', rfl⟩ := hsl
  clear hg hq
  generalize g.arity = ar at *
  go_enter Try.func34, Try.ntmps34
  go_upto_region 1 with fail
  have hx := Vs.new w [.int .u8 k, .slice A' l' c', .int .i64 n] #[.int .u8 k, .slice A' l' c', .int .i64 n] 47 rfl
  replace hx := hx.alloc (.cells #[.int .u64 0, .int .u64 0] 41)
  have hr := V2.new (w.alloc (.cells #[.int .u8 k, .slice A' l' c', .int .i64 n] 47)) (.int .u64 0) (.int .u64 0) 41
  rw [World.size_alloc] at hr
  have hb00 : Below w.heap.size w ((w.alloc (.cells #[.int .u8 k, .slice A' l' c', .int .i64 n] 47)).alloc (.cells #[.int .u64 0, .int .u64 0] 41)) := by repeat (first | exact Below.refl _ _ | with_reducible assumption | (refine bl_alloc ?_ (Nat.le_refl _) _) | (refine bl_set ?_ (by dsimp only; omega) _) | (refine Below.drew ?_) | (refine bl_drewN ?_ _) | (refine bl_call ?_ (Nat.le_refl _) (by assumption)))
  generalize (w.alloc (.cells #[.int .u8 k, .slice A' l' c', .int .i64 n] 47)).alloc (.cells #[.int .u64 0, .int .u64 0] 41) = w1 at hx hr hb00 ⊢
  obtain ⟨a0, a1, a2, a3, a4, a5, a6⟩ := hx.get3
  obtain ⟨o0, o1, o2, o3, o4⟩ := V2.mk hr.c0 hr.c1 hr.f0 hr.f1 hr.lt
  go_wp2_with (first
    | (go_at_call 38; refine (HC.out _ hb00).mono ?_; rintro e w2 ⟨rfl, hb2⟩; replace hx := hx.call hb2; replace hr := hr.call hb2; replace hb00 := bl_call hb00 (Nat.le_refl _) hb2; obtain ⟨a0, a1, a2, a3, a4, a5, a6⟩ := hx.get3)
    | (go_at_call 32; refine (HAA.out _ hb00).mono ?_; rintro e w3 ⟨rfl, hb3⟩; replace hr := hr.call hb3; replace hb00 := bl_call hb00 (Nat.le_refl _) hb3; obtain ⟨o0, o1, o2, o3, o4⟩ := hr))
  refine bodyPost_ret (results_v2_tmp (b := w.heap.size + 1) (u := .int .u64 0) (v := .int .u64 0) ?_ rfl rfl) rfl ?_
  · exact V2.set ⟨o0, o1, o2, o3, o4⟩ _ _
  · exact ⟨rfl, by repeat (first | exact Below.refl _ _ | with_reducible assumption | (refine bl_alloc ?_ (Nat.le_refl _) _) | (refine bl_set ?_ (by dsimp only; omega) _) | (refine Below.drew ?_) | (refine bl_drewN ?_ _) | (refine bl_call ?_ (Nat.le_refl _) (by assumption)))⟩
end

end Go.Proofs.Ytgambjmjbmdciaa
