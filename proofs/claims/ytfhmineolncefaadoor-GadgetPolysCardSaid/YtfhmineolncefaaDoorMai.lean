/-
  WALKS: tallymanlaw09.of; a gadget of too many numbers, or too few.
-/
/-
  THE FRAME OF A LAW'S PROOF, once for every law of the seat: if the call returns true and nothing below the heap's old size has turned ('Below'), the law's post holds: each argument reads as it did.
-/
/-
  AN ARGUMENT THAT IS A SLICE OF ELEMENTS, OR AN ELEMENT, opened.
-/
/-
  THE PROOF OF TapeBack: for every input the law returns true, and the arguments read as they did. The walk (Awake; the law), the plain law on differences, the frame. Conditions: none.
-/
import Derived.Test.YtfhmineolncefaaDoorMah
import Derived.Test.YtfhmineolncefaaDoorRows
import Derived.WalkKit
import Derived.ProofKit
import Derived.OpenShut
import Derived.Test.YtfhmineolncefaaDoorMae
import Derived.Deep.Slices
import Derived.Test.YtfhmineolncefaaDoorMaf
namespace Go.Proofs.YtfhmineolncefaaDoor
open Go.RowKit Fm
set_option linter.unusedVariables false
set_option maxRecDepth 100000

section
variable {f : Nat} (hf : IsF f)
include hf

set_option maxHeartbeats 4000000 in
theorem law09_of_pairs (w : World) (g : Gad f) (k : Int) (n : Int) (hk : (k == 2) = false) (vl : Value) (l : KL f) (hl : SlK w w.heap.size vl l) (q : Nat) (hq : l.length = 2 * q) (hq16 : q ≤ 16) (hv : gval g l = psum l q) :
    Calls Tryd.prog 54 #[.int .i64 f, .agg #[.int .u8 k, .slice none 0 0, .int .i64 n], vl] w (RetK (gval g l) w) := by
  rw [hv]
  obtain ⟨A, c, rfl, hc, hcm, hA⟩ := hl
  rw [hq] at hc
  rw [hq]
  have HQ := Lib.hid hq
  clear hq hv
  go_enter Tryd.func54, Tryd.ntmps54
  go_upto_region 1 with fail
  have hx := Vs.new w [.int .u8 k, .slice none 0 0, .int .i64 n] #[.int .u8 k, .slice none 0 0, .int .i64 n] 68 rfl
  replace hx := hx.alloc (.cells #[.int .u64 0, .int .u64 0] 28)
  have hr := V2.new (w.alloc (.cells #[.int .u8 k, .slice none 0 0, .int .i64 n] 68)) (.int .u64 0) (.int .u64 0) 28
  rw [World.size_alloc] at hr
  have hb00 : Below w.heap.size w ((w.alloc (.cells #[.int .u8 k, .slice none 0 0, .int .i64 n] 68)).alloc (.cells #[.int .u64 0, .int .u64 0] 28)) := by repeat (first | exact Below.refl _ _ | with_reducible assumption | (refine bl_alloc ?_ (Nat.le_refl _) _) | (refine bl_set ?_ (by dsimp only; omega) _) | (refine Below.drew ?_) | (refine bl_drewN ?_ _) | (refine bl_call ?_ (Nat.le_refl _) (by assumption)))
  generalize (w.alloc (.cells #[.int .u8 k, .slice none 0 0, .int .i64 n] 68)).alloc (.cells #[.int .u64 0, .int .u64 0] 28) = w3 at hx hr hb00 ⊢
  obtain ⟨c0, c1, c2, c3, c4, c5, c6⟩ := hx.get3
  have hz3 := hr.lt
  go_wp2_with fail
  go_loopw [8] (fun i wr => ∃ j : Nat, j ≤ q ∧ i = .int .i64 ((2 * j : Nat) : Int) ∧ V2 wr (w.heap.size + 1) (.int .u64 0) (.int .u64 0) ∧ V2 wr w3.heap.size (.int .u64 (lo (psum l j))) (.int .u64 (hi (psum l j))) ∧ Below w.heap.size w wr) (fun i _ => (2 * q + 1) - (intOf i).toNat)
  case atStart =>
    refine ⟨0, Nat.zero_le _, rfl, hr.alloc _, ?_, by repeat (first | exact Below.refl _ _ | with_reducible assumption | (refine bl_alloc ?_ (Nat.le_refl _) _) | (refine bl_set ?_ (by dsimp only; omega) _) | (refine Below.drew ?_) | (refine bl_drewN ?_ _) | (refine bl_call ?_ (Nat.le_refl _) (by assumption)))⟩
    rw [psum_zero, lo_zero, hi_zero]
    exact V2.new _ _ _ _
  case round =>
    clear hx hr hb00 c0 c1 c2 c3 c4 c5 c6
    obtain ⟨j, hj, rfl, hr, ho, hbw⟩ := hrel
    by_cases hlt : j < q
    · obtain ⟨b, o, rfl, hB, hrow⟩ := hA (by have := HQ.out; omega)
      obtain ⟨x, hx⟩ : ∃ e, l[2 * j]? = some e := ⟨_, List.getElem?_eq_getElem (by have := HQ.out; omega)⟩
      obtain ⟨y, hy⟩ : ∃ e, l[2 * j + 1]? = some e := ⟨_, List.getElem?_eq_getElem (by have := HQ.out; omega)⟩
      obtain ⟨c0, c1⟩ := (hrow.below hbw hB).kat hx
      obtain ⟨d0, d1⟩ := (hrow.below hbw hB).kat hy
      have hbl : b < wr.heap.size := Nat.lt_of_lt_of_le hB hbw.size
      have HST := Lib.hid (psum_succ l j x y hx hy)
      generalize psum l j = s at *
      have hj1 : 2 * j < 2 * q := by omega
      have hj2 : 2 * j + 1 < 2 * q := by omega
      have hj3 : 2 * j + 2 ≤ 2 * q := by omega
      generalize hjj : 2 * j = jj at *
      have HJJ := Lib.hid hjj
      generalize hqq : 2 * q = qq at *
      have HQQ := Lib.hid hqq
      have hqq32 : qq ≤ 32 := by omega
      clear hjj hqq hx hy hrow hA
      have hj4 : 0 ≤ (jj : Int) + 1 := by omega
      have hj5 : (jj : Int) + 1 < (qq : Int) := by omega
      have hw1 : IntKind.i64.wrap ((jj : Int) + 1) = (jj : Int) + 1 := IntWalk.i64_in _ (by omega)
      have hoo := ho
      obtain ⟨o0, o1, o2, o3, o4⟩ := hoo
      go_wp2_with fail
      refine region_B (n := 14) (m := 15) (f := 14) (by kernel_rfl) (by kernel_rfl) rfl ?_
      refine WpH.takeB (i := 0) (v := ?_) rfl (by kernel_rfl) (fun _ _ _ h => h) (.val rfl (fun wz hwz => ?_)) ?_
      rotate_left
      · go_simp; try (with_reducible rfl)
      (simp only [Act.put]); (try simp only [List.setIfInBounds_toArray]); (try simp only [List.set_cons_succ]); (try simp only [List.set_cons_zero])
      refine WpH.takeB (i := 1) (v := ?_) rfl (by kernel_rfl) (fun _ _ _ h => h) (.val rfl (fun wz hwz => ?_)) ?_
      rotate_left
      · (obtain ⟨hcz, hfz⟩ := bcell hwz; go_simp; try (with_reducible rfl))
      (simp only [Act.put]); (try simp only [List.setIfInBounds_toArray]); (try simp only [List.set_cons_succ]); (try simp only [List.set_cons_zero])
      refine WpH.takeB (i := 2) (v := ?_) rfl (by kernel_rfl) (fun _ _ _ h => h) (.val rfl (fun wz hwz => ?_)) ?_
      rotate_left
      · go_simp; try (with_reducible rfl)
      (simp only [Act.put]); (try simp only [List.setIfInBounds_toArray]); (try simp only [List.set_cons_succ]); (try simp only [List.set_cons_zero])
      refine WpH.takeB (i := 3) (v := ?_) rfl (by kernel_rfl) (fun _ _ _ h => h) (.val rfl (fun wz hwz => ?_)) ?_
      rotate_left
      · go_simp; try (with_reducible rfl)
      (simp only [Act.put]); (try simp only [List.setIfInBounds_toArray]); (try simp only [List.set_cons_succ]); (try simp only [List.set_cons_zero])
      refine WpH.takeB (i := 4) (v := ?_) rfl (by kernel_rfl) (fun _ _ _ h => h) (.val rfl (fun wz hwz => ?_)) ?_
      rotate_left
      · go_simp; try (with_reducible rfl)
      (simp only [Act.put]); (try simp only [List.setIfInBounds_toArray]); (try simp only [List.set_cons_succ]); (try simp only [List.set_cons_zero])
      refine WpH.takeB (i := 5) (v := ?_) rfl (by kernel_rfl) (fun _ _ _ h => h) (.val rfl (fun wz hwz => ?_)) ?_
      rotate_left
      · go_simp; try (with_reducible rfl)
      (simp only [Act.put]); (try simp only [List.setIfInBounds_toArray]); (try simp only [List.set_cons_succ]); (try simp only [List.set_cons_zero])
      refine WpH.takeB (i := 6) (v := ?_) rfl (by kernel_rfl) (fun _ _ _ h => h) (.val rfl (fun wz hwz => ?_)) ?_
      rotate_left
      · (obtain ⟨hcz, hfz⟩ := bcell hwz; go_simp; try (with_reducible rfl))
      (simp only [Act.put]); (try simp only [List.setIfInBounds_toArray]); (try simp only [List.set_cons_succ]); (try simp only [List.set_cons_zero])
      refine WpH.takeB (i := 7) (v := ?_) rfl (by kernel_rfl) (fun _ _ _ h => h) (.val rfl (fun wz hwz => ?_)) ?_
      rotate_left
      · go_simp; try (with_reducible rfl)
      (simp only [Act.put]); (try simp only [List.setIfInBounds_toArray]); (try simp only [List.set_cons_succ]); (try simp only [List.set_cons_zero])
      refine WpH.takeB (i := 8) (v := ?_) rfl (by kernel_rfl) (fun _ _ _ h => h) (.val rfl (fun wz hwz => ?_)) ?_
      rotate_left
      · go_simp; try (with_reducible rfl)
      (simp only [Act.put]); (try simp only [List.setIfInBounds_toArray]); (try simp only [List.set_cons_succ]); (try simp only [List.set_cons_zero])
      refine WpH.takeB (i := 9) (v := ?_) rfl (by kernel_rfl) (fun _ _ _ h => h) (.val rfl (fun wz hwz => ?_)) ?_
      rotate_left
      · go_simp; try (with_reducible rfl)
      (simp only [Act.put]); (try simp only [List.setIfInBounds_toArray]); (try simp only [List.set_cons_succ]); (try simp only [List.set_cons_zero])
      refine WpH.takeB (i := 10) (v := ?_) rfl (by kernel_rfl) (fun _ _ _ h => h) (.val rfl (fun wz hwz => ?_)) ?_
      rotate_left
      · go_simp; try (with_reducible rfl)
      (simp only [Act.put]); (try simp only [List.setIfInBounds_toArray]); (try simp only [List.set_cons_succ]); (try simp only [List.set_cons_zero])
      refine WpH.takeB (i := 11) (v := ?_) rfl (by kernel_rfl) (fun _ _ _ h => h) (.val rfl (fun wz hwz => ?_)) ?_
      rotate_left
      · (obtain ⟨hcz, hfz⟩ := bcell hwz; go_simp; try (with_reducible rfl))
      (simp only [Act.put]); (try simp only [List.setIfInBounds_toArray]); (try simp only [List.set_cons_succ]); (try simp only [List.set_cons_zero])
      refine WpH.takeB (i := 12) rfl (by kernel_rfl) (fun _ _ _ h => h) (.call rfl (fun wz hwz => ref_MulK hf x y wz) (fun wz hwz => ?_)) ?_
      · go_simp; try (with_reducible rfl)
      (simp only [Act.put]); (try simp only [List.setIfInBounds_toArray]); (try simp only [List.set_cons_succ]); (try simp only [List.set_cons_zero])
      refine WpH.takeB (i := 13) rfl (by kernel_rfl) (fun _ _ _ h => h) (.call rfl (fun wz hwz => ref_AddK hf s (x * y) wz) (fun wz hwz => ?_)) ?_
      · go_simp; try (with_reducible rfl)
      (simp only [Act.put]); (try simp only [List.setIfInBounds_toArray]); (try simp only [List.set_cons_succ]); (try simp only [List.set_cons_zero])
      refine WpH.doneB (by kernel_rfl) (fun w6 hw6 => ?_)
      (try simp only [List.drop_succ_cons]); (try simp only [List.drop_zero]); (try simp only [Nat.reduceSub]); (try simp only [List.take_succ_cons]); (try simp only [List.take_zero])
      replace ho := ho.call hw6
      replace hr := hr.call hw6
      obtain ⟨o0, o1, o2, o3, o4⟩ := ho
      clear hj4 hj5 hw1
      go_wp2_with fail
      go_roundw
      case rel => exact ⟨j + 1, by omega, by have := HJJ.out; have := HQQ.out; rw [show 2 * (j + 1) = jj + 2 by omega]; go_num, hr.oth (by omega) _ _, by rw [HST.out]; exact V2.set ⟨o0, o1, o2, o3, o4⟩ _ _, by repeat (first | exact Below.refl _ _ | with_reducible assumption | (refine bl_alloc ?_ (Nat.le_refl _) _) | (refine bl_set ?_ (by dsimp only; omega) _) | (refine Below.drew ?_) | (refine bl_drewN ?_ _) | (refine bl_call ?_ (Nat.le_refl _) (by assumption)))⟩
      case measure => simp [intOf]; omega
    · obtain rfl : j = q := by omega
      obtain ⟨y0, y1, y2, y3, y4⟩ := ho
      obtain ⟨z0, z1, z2, z3, z4⟩ := hr
      go_wp2
      refine bodyPost_ret (results_v2 (b := w.heap.size + 1) (u := .int .u64 (lo (psum l j))) (v := .int .u64 (hi (psum l j))) ?_ rfl rfl) rfl ?_
      · exact V2.set ⟨z0, z1, z2, z3, z4⟩ _ _
      · exact ⟨rfl, by repeat (first | exact Below.refl _ _ | with_reducible assumption | (refine bl_alloc ?_ (Nat.le_refl _) _) | (refine bl_set ?_ (by dsimp only; omega) _) | (refine Below.drew ?_) | (refine bl_drewN ?_ _) | (refine bl_call ?_ (Nat.le_refl _) (by assumption)))⟩

set_option maxHeartbeats 4000000 in
theorem law09_of (w : World) (g : Gad f) (k : Int) (sl : Value) (n : Int) (hg : RepG w w.heap.size k sl n g) (vl : Value) (l : KL f) (hl : SlK w w.heap.size vl l) (hq : l.length = g.arity) :
    Calls Tryd.prog 54 #[.int .i64 f, .agg #[.int .u8 k, sl, .int .i64 n], vl] w (RetK (gval g l) w) := by
  cases g with
  | mul =>
    obtain ⟨rfl, rfl, rfl⟩ := hg
    exact law09_of_pairs hf w .mul 1 0 rfl vl l hl 1 hq (by omega) rfl
  | par m =>
    obtain ⟨rfl, rfl, rfl, h1, h2⟩ := hg
    exact law09_of_pairs hf w (.par m) 3 m rfl vl l hl m hq h2 rfl
  | eval cs =>
    obtain ⟨rfl, rfl, hs, m, y, hm, hy, hy0, h1, h2⟩ := hg
    have hq1 : l.length = 1 := hq
    obtain ⟨A, c, rfl, hc, hcm, hA⟩ := hl
    obtain ⟨b, o, rfl, hB, hrow⟩ := hA (by omega)
    obtain ⟨x, hx⟩ : ∃ e, l[0]? = some e := ⟨_, List.getElem?_eq_getElem (by omega)⟩
    obtain ⟨c0, c1⟩ := hrow.kat hx
    rw [Nat.zero_mul, Nat.add_zero] at c0 c1
    have hgv : gval (.eval cs) l = horner x cs := by
      show horner (l.getD 0 0) cs = _
      rw [List.getD_eq_getElem?_getD, hx]
      rfl
    rw [hgv, hq1]
    rw [hq1] at hc
    have HP := Lib.hid (fun wz (h : Below w.heap.size w wz) => ref_At hf _ cs x wz (hs.later h) (by omega))
    have hs' := hs
    obtain ⟨A', c', rfl, hc', hcm', hA'⟩ := hs
    clear hA hA' hx hq hq1 hgv hy hm hrow
    go_enter Tryd.func54, Tryd.ntmps54
    go_upto_region 1 with fail
    have hx := Vs.new w [.int .u8 2, .slice A' cs.length c', .int .i64 0] #[.int .u8 2, .slice A' cs.length c', .int .i64 0] 68 rfl
    replace hx := hx.alloc (.cells #[.int .u64 0, .int .u64 0] 28)
    have hr := V2.new (w.alloc (.cells #[.int .u8 2, .slice A' cs.length c', .int .i64 0] 68)) (.int .u64 0) (.int .u64 0) 28
    rw [World.size_alloc] at hr
    have hb00 : Below w.heap.size w ((w.alloc (.cells #[.int .u8 2, .slice A' cs.length c', .int .i64 0] 68)).alloc (.cells #[.int .u64 0, .int .u64 0] 28)) := by repeat (first | exact Below.refl _ _ | with_reducible assumption | (refine bl_alloc ?_ (Nat.le_refl _) _) | (refine bl_set ?_ (by dsimp only; omega) _) | (refine Below.drew ?_) | (refine bl_drewN ?_ _) | (refine bl_call ?_ (Nat.le_refl _) (by assumption)))
    generalize (w.alloc (.cells #[.int .u8 2, .slice A' cs.length c', .int .i64 0] 68)).alloc (.cells #[.int .u64 0, .int .u64 0] 28) = w1 at hx hr hb00 ⊢
    obtain ⟨a0, a1, a2, a3, a4, a5, a6⟩ := hx.get3
    obtain ⟨hcb, hfb⟩ := bcell hb00
    have d0 := (hcb b o hB).trans c0
    have d1 := (hcb b (o + 1) hB).trans c1
    have hbl : b < w1.heap.size := Nat.lt_of_lt_of_le hB hb00.size
    clear hcb hfb c0 c1
    go_wp2_with fail
    refine region_B (n := 7) (m := 8) (f := 7) (by kernel_rfl) (by kernel_rfl) rfl ?_
    refine WpH.takeB (i := 0) (v := ?_) rfl (by kernel_rfl) (fun _ _ _ h => h) (.val rfl (fun wz hwz => ?_)) ?_
    rotate_left
    · go_simp; try (with_reducible rfl)
    (simp only [Act.put]); (try simp only [List.setIfInBounds_toArray]); (try simp only [List.set_cons_succ]); (try simp only [List.set_cons_zero])
    refine WpH.takeB (i := 1) (v := ?_) rfl (by kernel_rfl) (fun _ _ _ h => h) (.val rfl (fun wz hwz => ?_)) ?_
    rotate_left
    · go_simp; try (with_reducible rfl)
    (simp only [Act.put]); (try simp only [List.setIfInBounds_toArray]); (try simp only [List.set_cons_succ]); (try simp only [List.set_cons_zero])
    refine WpH.takeB (i := 2) (v := ?_) rfl (by kernel_rfl) (fun _ _ _ h => h) (.val rfl (fun wz hwz => ?_)) ?_
    rotate_left
    · (obtain ⟨hcz, hfz⟩ := bcell hwz; go_simp; try (with_reducible rfl))
    (simp only [Act.put]); (try simp only [List.setIfInBounds_toArray]); (try simp only [List.set_cons_succ]); (try simp only [List.set_cons_zero])
    refine WpH.takeB (i := 3) (v := ?_) rfl (by kernel_rfl) (fun _ _ _ h => h) (.val rfl (fun wz hwz => ?_)) ?_
    rotate_left
    · go_simp; try (with_reducible rfl)
    (simp only [Act.put]); (try simp only [List.setIfInBounds_toArray]); (try simp only [List.set_cons_succ]); (try simp only [List.set_cons_zero])
    refine WpH.takeB (i := 4) (v := ?_) rfl (by kernel_rfl) (fun _ _ _ h => h) (.val rfl (fun wz hwz => ?_)) ?_
    rotate_left
    · go_simp; try (with_reducible rfl)
    (simp only [Act.put]); (try simp only [List.setIfInBounds_toArray]); (try simp only [List.set_cons_succ]); (try simp only [List.set_cons_zero])
    refine WpH.takeB (i := 5) (v := ?_) rfl (by kernel_rfl) (fun _ _ _ h => h) (.val rfl (fun wz hwz => ?_)) ?_
    rotate_left
    · (obtain ⟨hcz, hfz⟩ := bcell hwz; go_simp; try (with_reducible rfl))
    (simp only [Act.put]); (try simp only [List.setIfInBounds_toArray]); (try simp only [List.set_cons_succ]); (try simp only [List.set_cons_zero])
    refine WpH.takeB (i := 6) rfl (by kernel_rfl) (fun _ _ _ h => h) (.call rfl (fun wz hwz => HP.out wz (hb00.trans (hwz.mono hb00.size))) (fun wz hwz => ?_)) ?_
    · go_simp; try (with_reducible rfl)
    (simp only [Act.put]); (try simp only [List.setIfInBounds_toArray]); (try simp only [List.set_cons_succ]); (try simp only [List.set_cons_zero])
    refine WpH.doneB (by kernel_rfl) (fun w6 hw6 => ?_)
    (try simp only [List.drop_succ_cons]); (try simp only [List.drop_zero]); (try simp only [Nat.reduceSub]); (try simp only [List.take_succ_cons]); (try simp only [List.take_zero])
    obtain ⟨o0, o1, o2, o3, o4⟩ := hr.call hw6
    go_wp2_with fail
    refine bodyPost_ret (results_v2 (b := w.heap.size + 1) (u := .int .u64 (lo (horner x cs))) (v := .int .u64 (hi (horner x cs))) ?_ rfl rfl) rfl ?_
    · exact V2.set ⟨o0, o1, o2, o3, o4⟩ _ _
    · exact ⟨rfl, by repeat (first | exact Below.refl _ _ | with_reducible assumption | (refine bl_alloc ?_ (Nat.le_refl _) _) | (refine bl_set ?_ (by dsimp only; omega) _) | (refine Below.drew ?_) | (refine bl_drewN ?_ _) | (refine bl_call ?_ (Nat.le_refl _) (by assumption)))⟩

set_option maxHeartbeats 4000000 in
/-- too many, too few -/
theorem gadget_Of_size (w : World) (g : Gad f) (k : Int) (sl : Value) (n : Int) (hg : RepG w w.heap.size k sl n g) (A : Option Addr) (len c : Nat) (hq : len ≠ g.arity) :
    Calls Tryd.prog 49 #[.agg #[.int .u8 k, sl, .int .i64 n], .int .u8 f, .slice A len c] w (fun e w' => e = .returned (.tuple #[.agg #[.int .u64 0, .int .u64 0], .int .i64 9]) ∧ Below w.heap.size w w') := by
  have HC := Lib.hid (fun wz (h : Below w.heap.size w wz) => gadget_Check hf wz g k _ n (hg.later h))
  have HAA := Lib.hid (fun wz (h : Below w.heap.size w wz) => gadget_Arity wz w.heap.size g k sl n (hg.below h))
  have hne : ((len : Int) != (g.arity : Int)) = true := by simp; omega
  have hsl : ∃ (A : Option Addr) (a b : Nat), sl = .slice A a b := by
    cases g with
    | mul => exact ⟨_, _, _, hg.2.1⟩
    | par m => exact ⟨_, _, _, hg.2.1⟩
    | eval cs =>
      obtain ⟨A, c, h, _⟩ := hg.2.2.1
      exact ⟨_, _, _, h⟩
  obtain ⟨A', l', c', rfl⟩ := hsl
  clear hg hq
  generalize g.arity = ar at *
  go_enter Tryd.func49, Tryd.ntmps49
  go_upto_region 1 with fail
  have hx := Vs.new w [.int .u8 k, .slice A' l' c', .int .i64 n] #[.int .u8 k, .slice A' l' c', .int .i64 n] 68 rfl
  replace hx := hx.alloc (.cells #[.int .u64 0, .int .u64 0] 28)
  have hr := V2.new (w.alloc (.cells #[.int .u8 k, .slice A' l' c', .int .i64 n] 68)) (.int .u64 0) (.int .u64 0) 28
  rw [World.size_alloc] at hr
  have hb00 : Below w.heap.size w ((w.alloc (.cells #[.int .u8 k, .slice A' l' c', .int .i64 n] 68)).alloc (.cells #[.int .u64 0, .int .u64 0] 28)) := by repeat (first | exact Below.refl _ _ | with_reducible assumption | (refine bl_alloc ?_ (Nat.le_refl _) _) | (refine bl_set ?_ (by dsimp only; omega) _) | (refine Below.drew ?_) | (refine bl_drewN ?_ _) | (refine bl_call ?_ (Nat.le_refl _) (by assumption)))
  generalize (w.alloc (.cells #[.int .u8 k, .slice A' l' c', .int .i64 n] 68)).alloc (.cells #[.int .u64 0, .int .u64 0] 28) = w1 at hx hr hb00 ⊢
  obtain ⟨a0, a1, a2, a3, a4, a5, a6⟩ := hx.get3
  obtain ⟨o0, o1, o2, o3, o4⟩ := V2.mk hr.c0 hr.c1 hr.f0 hr.f1 hr.lt
  go_wp2_with (first
    | (go_at_call 51; refine (HC.out _ hb00).mono ?_; rintro e w2 ⟨rfl, hb2⟩; replace hx := hx.call hb2; replace hr := hr.call hb2; replace hb00 := bl_call hb00 (Nat.le_refl _) hb2; obtain ⟨a0, a1, a2, a3, a4, a5, a6⟩ := hx.get3)
    | (go_at_call 53; refine (HAA.out _ hb00).mono ?_; rintro e w3 ⟨rfl, hb3⟩; replace hr := hr.call hb3; replace hb00 := bl_call hb00 (Nat.le_refl _) hb3; obtain ⟨o0, o1, o2, o3, o4⟩ := hr))
  refine bodyPost_ret (results_v2_tmp (b := w.heap.size + 1) (u := .int .u64 0) (v := .int .u64 0) ?_ rfl rfl) rfl ?_
  · exact V2.set ⟨o0, o1, o2, o3, o4⟩ _ _
  · exact ⟨rfl, by repeat (first | exact Below.refl _ _ | with_reducible assumption | (refine bl_alloc ?_ (Nat.le_refl _) _) | (refine bl_set ?_ (by dsimp only; omega) _) | (refine Below.drew ?_) | (refine bl_drewN ?_ _) | (refine bl_call ?_ (Nat.le_refl _) (by assumption)))⟩
end

end Go.Proofs.YtfhmineolncefaaDoor

namespace Go.Proofs.YtfhmineolncefaaDoor
open Go.ChangeShapes Go.WideShapes Go.ChangeAt Go.RowKit

theorem own_knob : ownKnob Tryd.prog.godebug = none := by kernel_rfl
theorem laid_out : laidOutB Tryd.prog = true := by kernel_rfl

theorem maps_rowed : mapsRowed Tryd.checked.prog = true := by kernel_rfl
theorem laid_out' : laidOutB Tryd.checked.prog = true := laid_out
theorem stops_heard : Program.stopsHeard Tryd.checked.prog = true := by kernel_rfl
theorem may_enter : Program.mayEnter Tryd.checked.prog = true := by kernel_rfl
theorem and_mk {a b : Bool} (h : a = true) (k : b = true) : (a && b) = true := by rw [h, k]; rfl

theorem trodAll_below {H : Type} {enc : TypeId × Value → H} {P : Program} {W W' : World} (hl : laidOutB P = true) (hb : Below W.heap.size W W') :
    ∀ (ts : List TypeId), ts.all (fun t => P.readableRec t && decide (t < P.types.size)) = true → ∀ (vs : List Value) (ds : List (DataW H)) (ps : List MemPlace),
      DataW.TrodAll enc P W 0 (fun _ => true) true ts vs ds ps → (∀ x ∈ ps, x.block < W.heap.size) → DataW.TrodAll enc P W' 0 (fun b => decide (b < W.heap.size)) true ts vs ds ps
  | [], _, [], [], ps, h, _ => h
  | [], _, _ :: _, _, _, h, _ => by cases h
  | [], _, [], _ :: _, _, h, _ => by cases h
  | _ :: _, _, [], _, _, h, _ => by cases h
  | _ :: _, _, _ :: _, [], _, h, _ => by cases h
  | t :: ts, hts, v :: vs, d :: ds, ps, h, hlt => by
    obtain ⟨p, q, h1, h2, rfl⟩ := h
    simp only [List.all_cons, Bool.and_eq_true, decide_eq_true_eq] at hts
    exact ⟨p, q, Below.trod hl hts.1.1 hts.1.2 h1 hb (fun x hx => hlt x (List.mem_append_left _ hx)), trodAll_below hl hb ts hts.2 vs ds q h2 (fun x hx => hlt x (List.mem_append_right _ hx)), rfl⟩

theorem trodAll_length {H : Type} {enc : TypeId × Value → H} {P : Program} {W : World} {b : Nat} {sp : Nat → Bool} {hd : Bool} :
    ∀ (ts : List TypeId) (vs : List Value) (ds : List (DataW H)) (ps : List MemPlace), DataW.TrodAll enc P W b sp hd ts vs ds ps → ds.length = ts.length
  | [], [], [], _, _ => rfl
  | [], _ :: _, _, _, h => by cases h
  | [], [], _ :: _, _, h => by cases h
  | _ :: _, [], _, _, h => by cases h
  | _ :: _, _ :: _, [], _, h => by cases h
  | _ :: ts, _ :: vs, _ :: ds, _, h => by
    obtain ⟨p, q, _, h2, _⟩ := h
    simp only [List.length_cons, trodAll_length ts vs ds q h2]

theorem law_post {H : Type} {enc : TypeId × Value → H} {P : Program} {fn : Func} {s : ChangeSpec} {W W' : World} {args : Array Value} {ds gs : List (DataW H)} {before : List MemPlace} {tb : TypeId}
    (hl : laidOutB P = true) (hts : fn.params.toList.all (fun t => P.readableRec t && decide (t < P.types.size)) = true)
    (hres : fn.resultTypes = #[tb]) (htb : P.underlying tb = some .bool) (hv : s.vars = [])
    (hs : ∀ ds : List (DataW H), ds.length = fn.params.toList.length → s.fn H ds = { results := [.lit (.bool true)], args := ds })
    (hW : DataW.Whole enc P fn.params.toList s.vars false W args.toList ds gs before) (hb : Below W.heap.size W W') :
    s.post enc P fn false true false false W args (.bool true) W' := by
  have hW' := hW
  obtain ⟨p, q, hA, hV, hpq, _, _⟩ := hW
  rw [hv] at hV
  obtain ⟨rfl, rfl⟩ := trodVars_none hV
  have hfn : s.fn H (ds ++ []) = { results := [.lit (.bool true)], args := ds } := by
    rw [List.append_nil]
    exact hs ds (trodAll_length _ _ _ _ hA)
  have hlt : ∀ x ∈ p, x.block < W.heap.size := fun x hx => hW'.lt x (by rw [hpq]; exact List.mem_append_left _ hx)
  refine ⟨ds, [], before, [], p, [], hW', ?_, ?_, ?_, ?_, fun h => by cases h⟩
  · rw [hfn, hres]
    exact trodAll_mk1 (shut_bool htb true)
  · rw [hfn]
    exact trodAll_below hl hb _ hts _ _ _ hA hlt
  · rw [hfn, hv]
    rfl
  · exact hb.frame _

end Go.Proofs.YtfhmineolncefaaDoor

namespace Go.Proofs.YtfhmineolncefaaDoor
open Go.RowKit Go.ChangeShapes Go.WideShapes Go.Deep
set_option linter.unusedVariables false
set_option maxRecDepth 100000

theorem cellsOf_elem : Tryd.prog.cellsOf 28 = 2 := by kernel_rfl
theorem cellsOf_u64 : Tryd.prog.cellsOf 26 = 1 := by kernel_rfl

section
variable {H : Type} {enc : TypeId × Value → H} {W : World} {base : Nat} {sp : Nat → Bool} {hd : Bool}

theorem wf_u64 {n : Int} (h : (Lit.int .u64 n).wf = true) : 0 ≤ n ∧ n ≤ 18446744073709551615 := by
  simpa [Lit.wf, IntKind.min, IntKind.max, IntKind.signed, IntKind.bits] using h

/-- the two cells of an element -/
theorem trod_elem {fuel : Nat} {cs : List Value} {x : DataW H × List MemPlace} (h : DataW.trod enc Tryd.prog W base sp hd fuel 28 cs = some x) :
    ∃ e : E, cs = [.int .u64 e.1, .int .u64 e.2] ∧ okE e := by
  obtain ⟨xs, m, _, _, hlen, hxl, hg⟩ := DataW.trod_array Tryd.underlying28 h
  rw [cellsOf_elem] at hlen
  rw [cellsOf_u64] at hg
  match cs, hlen with
  | [c0, c1], _ =>
    match xs, hxl with
    | [y0, y1], _ =>
      have h0 := hg 0 (by omega)
      have h1 := hg 1 (by omega)
      simp at h0 h1
      obtain ⟨n0, e0, _, w0⟩ := DataW.trod_int Tryd.underlying26 h0
      obtain ⟨n1, e1, _, w1⟩ := DataW.trod_int Tryd.underlying26 h1
      simp only [List.cons.injEq, and_true] at e0 e1
      subst e0
      subst e1
      obtain ⟨a0, a1⟩ := wf_u64 w0
      obtain ⟨b0, b1⟩ := wf_u64 w1
      exact ⟨(n0, n1), rfl, a0, a1, b0, b1⟩

theorem open_elems {r : Reach} {b0 : Nat} {v : Value} {d : DataW H} {ps : List MemPlace} (hval : Value.okWide Tryd.prog W r b0 22 v) (h : DataW.Trod enc Tryd.prog W base sp hd 22 v d ps) :
    ∃ xs : List E, SlE W W.heap.size v xs := by
  obtain ⟨a0, len, cap, rfl⟩ := okWide_slice Tryd.underlying22 hval
  obtain ⟨fuel, hf⟩ := h
  rcases open_slice Tryd.underlying22 hf with ⟨hcs, _⟩ | ⟨a, len', cap', m, n, D, Pl, hcs, _, hle, hcm, hm, _, hi⟩
  · simp only [Value.cells, List.cons.injEq, Value.slice.injEq, and_true] at hcs
    obtain ⟨rfl, rfl, rfl⟩ := hcs
    exact ⟨[], SlE.nil _ _⟩
  · simp only [Value.cells, List.cons.injEq, Value.slice.injEq, and_true] at hcs
    obtain ⟨rfl, rfl, rfl⟩ := hcs
    have hlm : len ≤ m := by rw [hm]; split <;> omega
    have key : ∀ i, i < len → ∃ e : E, W.cell? (a.add (i * 2)) = some (.int .u64 e.1) ∧ W.cell? (a.add (i * 2 + 1)) = some (.int .u64 e.2) ∧ okE e := by
      intro i hil
      obtain ⟨cs', hc, ht⟩ := hi i (by omega)
      rw [cellsOf_elem] at hc
      obtain ⟨e, rfl, hok⟩ := trod_elem ht
      obtain ⟨_, _, hat⟩ := World.cells?_some hc
      have h0 := hat 0 (by omega)
      have h1 := hat 1 (by omega)
      have e0 : (a.add (i * 2)).add 0 = a.add (i * 2) := rfl
      have e1 : (a.add (i * 2)).add 1 = a.add (i * 2 + 1) := by
        unfold Addr.add
        by_cases h : i * 2 = 0
        · simp [h]
        · simp [h, Nat.add_assoc]
      rw [e0] at h0
      rw [e1] at h1
      exact ⟨e, h0, h1, hok⟩
    have hex : ∃ f : Nat → E, ∀ i, i < len → W.cell? (a.add (i * 2)) = some (.int .u64 (f i).1) ∧ W.cell? (a.add (i * 2 + 1)) = some (.int .u64 (f i).2) ∧ okE (f i) := by
      refine ⟨fun i => if hil : i < len then Classical.choose (key i hil) else (0, 0), fun i hil => ?_⟩
      simp only [dif_pos hil]
      exact Classical.choose_spec (key i hil)
    obtain ⟨f, hfi⟩ := hex
    refine ⟨(List.range len).map f, ⟨⟨some a, cap, by simp, by simpa using hle, by unfold maxLen at hcm; omega, fun hn => ?_⟩, ?_⟩⟩
    · have hl0 : 0 < len := by simpa using hn
      have hc0 := (hfi 0 hl0).1
      have ha0 : a.add (0 * 2) = a := rfl
      rw [ha0] at hc0
      have hlt := lt_of_cell hc0
      obtain ⟨b, o, s⟩ := a
      have hs : s = none := by
        cases s with
        | none => rfl
        | some q => simp [World.cell?] at hc0; split at hc0 <;> simp_all
      subst hs
      refine ⟨b, o, rfl, hlt, fun i e hie => ?_⟩
      have hil : i < len := by
        have := (List.getElem?_eq_some_iff.1 hie).1
        simpa using this
      have hee : e = f i := by
        rw [List.getElem?_map, List.getElem?_range hil] at hie
        simpa using hie.symm
      subst hee
      obtain ⟨k0, k1, _⟩ := hfi i hil
      have ea : ∀ j, (⟨b, o, none⟩ : Addr).add j = ⟨b, o + j, none⟩ := by
        intro j
        unfold Addr.add
        split <;> simp_all
      rw [ea] at k0 k1
      exact ⟨k0, by rw [Nat.add_assoc]; exact k1⟩
    · intro e he
      rw [List.mem_map] at he
      obtain ⟨i, hir, rfl⟩ := he
      exact (hfi i (by simpa using hir)).2.2
end

end Go.Proofs.YtfhmineolncefaaDoor

namespace Go.Proofs.YtfhmineolncefaaDoor
open Go.RowKit Fm
set_option linter.unusedVariables false
set_option maxRecDepth 100000

/-! ### the plain law: differences in a field -/
abbrev zipS (f m : Int) (xs ys : List E) : List E := zipO (· - ·) f m xs ys

theorem zipS_length (f m : Int) (xs ys : List E) (h : xs.length = ys.length) : (zipS f m xs ys).length = xs.length := by
  unfold zipS zipO
  rw [List.length_zipWith, ← h, Nat.min_self]

theorem zipS_at {f m : Int} {xs ys : List E} {i : Nat} {a b : E} (ha : xs[i]? = some a) (hb : ys[i]? = some b) : (zipS f m xs ys)[i]? = some (eN ((nI f a.1 a.2 - nI f b.1 b.2) % m)) := by
  unfold zipS zipO
  rw [List.getElem?_zipWith, ha, hb]

theorem zipS_red {f m : Int} (hf : FM f m) (xs ys : List E) : ∀ e, e ∈ zipS f m xs ys → RedE m e := by
  intro e he
  unfold zipS zipO at he
  rw [List.mem_iff_getElem?] at he
  obtain ⟨i, hi⟩ := he
  rw [List.getElem?_zipWith] at hi
  split at hi
  · simp only [Option.some.injEq] at hi
    rw [← hi]
    exact redE_mod hf.pos.1
  · cases hi

theorem allIn_red {m : Int} {xs : List E} (h : ∀ e, e ∈ xs → RedE m e) : AllIn m xs := fun e he => (h e he).lt

theorem sub_back (p a b : Int) : (a - (a - b) % p) % p = b % p := by
  rw [Int.sub_emod, Int.emod_emod_of_dvd _ (Int.dvd_refl p), ← Int.sub_emod]
  congr 1
  omega

/-- what is taken from a, less what is left, is back -/
theorem zipS_back {f m : Int} (hf : FM f m) (os zs : List E) (h : os.length = zs.length) (hz : ∀ e, e ∈ zs → RedE m e) : zipS f m os (zipS f m os zs) = zs := by
  apply List.ext_getElem?
  intro i
  by_cases hi : i < zs.length
  · obtain ⟨o, ho⟩ : ∃ e, os[i]? = some e := ⟨_, List.getElem?_eq_getElem (by omega)⟩
    obtain ⟨z, hzi⟩ : ∃ e, zs[i]? = some e := ⟨_, List.getElem?_eq_getElem hi⟩
    rw [zipS_at ho (zipS_at ho hzi), hzi]
    obtain ⟨e1, e2, e3⟩ := (hz z (List.mem_of_getElem? hzi)).nI_eq hf
    have hp := hf.pos.1
    rw [nI_eN hf (Int.emod_nonneg _ (by omega)) (Int.emod_lt_of_pos _ hp), sub_back, Int.emod_eq_of_lt e2 e3, e1]
  · have hl : (zipS f m os (zipS f m os zs)).length = zs.length := by rw [zipS_length _ _ _ _ (by rw [zipS_length _ _ _ _ h]), h]
    rw [List.getElem?_eq_none (by omega), List.getElem?_eq_none (by omega)]

/-! ### Awake -/
theorem BlkE.new (w : World) (xs : List E) (cs : Array Value) (h : cs = (cellsE xs).toArray) : BlkE (w.alloc (.cells cs 28)) w.heap.size xs := by
  subst h
  exact heap_alloc_new w _

theorem awake31_val : zipS 1 18446744069414584321 [((7 : Int), (0 : Int))] (zipS 1 18446744069414584321 [((5 : Int), (0 : Int))] [((2 : Int), (0 : Int))]) = [(4, 0)] := by decide

/-! ### the law -/
theorem SlE.later {w w' : World} {v : Value} {xs : List E} (h : SlE w w.heap.size v xs) (hb : Below w.heap.size w w') : SlE w' w'.heap.size v xs := (h.below hb).mono hb.size
theorem SlE.ofB {w : World} {g : Nat} {xs : List E} (h : BlkE w g xs) (hn : xs.length ≤ 65536) (ok : ∀ e, e ∈ xs → okE e) : SlE w w.heap.size (.slice (some ⟨g, 0, none⟩) xs.length xs.length) xs := h.sl (by omega) ok h.lt

theorem ref_Same_eq (va vb : Value) (xs ys : List E) (w : World) (hx : SlE w w.heap.size va xs) (hy : SlE w w.heap.size vb ys) (h : xs = ys) :
    Calls Tryd.prog 21 #[va, vb] w fun e w' => e = .returned (.bool true) ∧ Below w.heap.size w w' := by
  have hs := ref_Same va vb xs ys w hx hy
  rwa [decide_eq_true h] at hs

end Go.Proofs.YtfhmineolncefaaDoor
