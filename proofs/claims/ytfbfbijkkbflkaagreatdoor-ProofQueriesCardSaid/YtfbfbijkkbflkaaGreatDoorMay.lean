/-
 PAdd, PfM, AppZ, PMul, PfP, PfQ: what the statements of this layer share.
-/
import Derived.Lib.AppendZerosOnto
import Derived.Test.YtfbfbijkkbflkaaGreatDoorMax
namespace Go.Proofs.YtfbfbijkkbflkaaGreatDoor
open Go.RowKit Fm
set_option linter.unusedVariables false
set_option maxRecDepth 100000

section
variable {f : Nat} (hf : IsF f)
include hf

set_option maxHeartbeats 8000000 in
theorem poly_Add (va vb : Value) (a b : KL f) (w : World) (ha : SlK w w.heap.size va a) (hb : SlK w w.heap.size vb b) (hal : a.length ≤ 400000) (hbl : b.length ≤ 400000) :
  Calls Tryz.prog 117 #[.int .u8 f, va, vb] w (RetOwn (padd a b) w) := by
 have hfb0 : (1 : Int) ≤ (f : Int) := by rcases hf.or with rfl | rfl <;> omega
 have hfb1 : (f : Int) ≤ 2 := by rcases hf.or with rfl | rfl <;> omega
 have HADD := Lib.hid (fun x y wz => field_AddK hf x y wz)
 obtain ⟨A, c, rfl, hc, hcm, hA⟩ := ha
 obtain ⟨B, d, rfl, hd, hdm, hB⟩ := hb
 obtain ⟨N, hN⟩ : ∃ N, max a.length b.length = N := ⟨_, rfl⟩
 have hNi : max (a.length : Int) (b.length : Int) = (N : Int) := by omega
 have hNa : a.length ≤ N := by omega
 have hNb : b.length ≤ N := by omega
 have hNm : N ≤ 400000 := by omega
 have hmk := make_elem N (by omega)
 have HEND : Hid (∀ S : KL f, S.length = N → (∀ j, j < N → S.getD j 0 = a.getD j 0 + b.getD j 0) → trim S = padd a b) := fun S h1 h2 => by
  unfold padd
  rw [hN, ← eq_ofF h1 h2]
 have HA := Lib.hid hA
 have HB := Lib.hid hB
 clear hA hB hN
 go_enter Tryz.func117, Tryz.ntmps117
 go_upto_region 3 with fail
 have hB0 := RwK.new w (List.replicate N (0 : Fin (Pm f))) (cellsE (List.replicate N (0, 0))).toArray (by unfold esK; rw [List.map_replicate, eK_zero]) 36
 have hb00 : Below w.heap.size w (w.alloc (.cells (cellsE (List.replicate N (0, 0))).toArray 36)) := by repeat (first | exact bA | with_reducible assumption | apply bB | (refine bC ?_ (by dsimp only; omega)) | apply bD | apply bE | (refine bF ?_ (by assumption)))
 generalize w.alloc (.cells (cellsE (List.replicate N (0, 0))).toArray 36) = w1 at hB0 hb00 ⊢
 clear hmk
 go_wp2_with fail
 go_loopw [19] (fun kv wr => ∃ (k : Nat) (S : KL f), k ≤ N ∧ kv = .int .i64 k ∧ Hid (S.length = N ∧ (∀ j, j < k → S.getD j 0 = a.getD j 0 + b.getD j 0) ∧ ∀ j, k ≤ j → S.getD j 0 = 0) ∧ RwK wr w.heap.size S ∧ Below w.heap.size w wr) (fun kv _ => N - (intOf kv).toNat)
 case atStart => exact ⟨0, _, Nat.zero_le _, rfl, ⟨List.length_replicate .., fun j h => absurd h (Nat.not_lt_zero _), fun j _ => getD_zeros _ _⟩, hB0, hb00⟩
 case round =>
  clear hB0 hb00
  obtain ⟨k, S, hk, rfl, hS, hR, hb00⟩ := hrel
  by_cases hkN : k < N
  ·have g1 : (0 : Int) ≤ (k : Int) := by omega
   have g3 : (k : Int) < (N : Int) := by omega
   have HSL : Hid (S.length = N) := hS.out.1
   have HS1 : Hid (∀ j, j < k → S.getD j 0 = a.getD j 0 + b.getD j 0) := hS.out.2.1
   have HS2 : Hid (∀ j, k < j → S.getD j 0 = 0) := fun j hj => hS.out.2.2 j (by omega)
   obtain ⟨x, hx⟩ : ∃ x, S[k]? = some x := ⟨_, List.getElem?_eq_getElem (by have := HSL.out; omega)⟩
   have hx0 : x = 0 := by
    have h := hS.out.2.2 k (Nat.le_refl _)
    rw [List.getD_eq_getElem?_getD, hx] at h
    exact h
   clear hS
   by_cases hka : k < a.length
   ·obtain ⟨b1, o1, hAe, hbw1, hrow1⟩ := HA.out (by omega)
    obtain ⟨z, hz⟩ : ∃ z, a[k]? = some z := ⟨_, List.getElem?_eq_getElem hka⟩
    have HXA : Hid (a.getD k 0 = z) := by show _ = _; rw [List.getD_eq_getElem?_getD, hz]; rfl
    obtain ⟨d0, d1⟩ := (hrow1.below hb00 hbw1).kat hz
    obtain ⟨c0, c1⟩ := hR.at hx
    obtain ⟨f0, f1⟩ := hR.frz (i := k) (by have := HSL.out; omega)
    have g6 : (k : Int) < (a.length : Int) := by omega
    have g9 := hR.lt
    subst hAe
    clear hz hx0 hx hrow1
    go_upto_region 8 with fail
    replace hR := hR.set k (by have := HSL.out; omega) z
    replace hb00 := bl_set (p := ⟨w.heap.size, k * 2 + 1, none⟩) (bl_set (p := ⟨w.heap.size, k * 2, none⟩) hb00 (by dsimp only; omega) (.int .u64 (lo z))) (by dsimp only; omega) (.int .u64 (hi z))
    generalize (wr.setCell ⟨w.heap.size, k * 2, none⟩ (.int .u64 (lo z))).setCell ⟨w.heap.size, k * 2 + 1, none⟩ (.int .u64 (hi z)) = w5 at hR hb00 ⊢
    replace HS1 : Hid (∀ j, j < k → (S.set k z).getD j 0 = a.getD j 0 + b.getD j 0) := fun j hj => by rw [set_getD _ _ _ (by have := HSL.out; omega), if_neg (by omega)]; exact HS1.out j hj
    replace HS2 : Hid (∀ j, k < j → (S.set k z).getD j 0 = 0) := fun j hj => by rw [set_getD _ _ _ (by have := HSL.out; omega), if_neg (by omega)]; exact HS2.out j hj
    have HX : Hid ((S.set k z)[k]? = some z) := List.getElem?_set_self (by have := HSL.out; omega)
    replace HSL : Hid ((S.set k z).length = N) := by show _ = _; rw [List.length_set]; exact HSL.out
    generalize S.set k z = S2 at *
    clear S x c0 c1 d0 d1 f0 f1 g9 g6
    obtain ⟨S, hS9⟩ : ∃ S : KL f, S = S2 := ⟨_, rfl⟩
    obtain ⟨x, hx9⟩ : ∃ x : Fin (Pm f), x = z := ⟨_, rfl⟩
    subst hS9
    subst hx9
    by_cases hkb : k < b.length
    ·obtain ⟨b2, o2, hBe, hbw2, hrow2⟩ := HB.out (by omega)
     obtain ⟨y, hy⟩ : ∃ y, b[k]? = some y := ⟨_, List.getElem?_eq_getElem hkb⟩
     have hyd : b.getD k 0 = y := by rw [List.getD_eq_getElem?_getD, hy]; rfl
     obtain ⟨d0, d1⟩ := (hrow2.below hb00 hbw2).kat hy
     obtain ⟨c0, c1⟩ := hR.at HX.out
     have g6 : (k : Int) < (b.length : Int) := by omega
     have hbl2 : b2 < w5.heap.size := Nat.lt_of_lt_of_le hbw2 hb00.size
     have g9 := hR.lt
     have HYD := Lib.hid hyd
     subst hBe
     clear hy hyd hrow2
     go_upto_region 9 with fail
     refine region_B (n := 12) (m := 14) (f := 12) (by kernel_rfl) (by kernel_rfl) rfl ?_
     refine WpH.vD 0 (some 37) ?_ rfl rfl (by kernel_rfl) (fun _ _ _ h => h) rfl (fun wz hwz => ?_) ?_
     rotate_left
     ·go_simp; try (with_reducible rfl)
     simp only [Zp, Zq, Zr, Zs]
     refine WpH.vD 1 (some 38) ?_ rfl rfl (by kernel_rfl) (fun _ _ _ h => h) rfl (fun wz hwz => ?_) ?_
     rotate_left
     ·go_simp; try (with_reducible rfl)
     simp only [Zp, Zq, Zr, Zs]
     refine WpH.vD 2 (some 39) ?_ rfl rfl (by kernel_rfl) (fun _ _ _ h => h) rfl (fun wz hwz => ?_) ?_
     rotate_left
     ·go_simp; try (with_reducible rfl)
     simp only [Zp, Zq, Zr, Zs]
     refine WpH.vD 3 (some 40) ?_ rfl rfl (by kernel_rfl) (fun _ _ _ h => h) rfl (fun wz hwz => ?_) ?_
     rotate_left
     ·go_simp; try (with_reducible rfl)
     simp only [Zp, Zq, Zr, Zs]
     refine WpH.vD 4 (some 41) ?_ rfl rfl (by kernel_rfl) (fun _ _ _ h => h) rfl (fun wz hwz => ?_) ?_
     rotate_left
     ·go_simp; try (with_reducible rfl)
     simp only [Zp, Zq, Zr, Zs]
     refine WpH.vD 5 (some 42) ?_ rfl rfl (by kernel_rfl) (fun _ _ _ h => h) rfl (fun wz hwz => ?_) ?_
     rotate_left
     ·go_simp; try (with_reducible rfl)
     simp only [Zp, Zq, Zr, Zs]
     refine WpH.vD 6 (some 43) ?_ rfl rfl (by kernel_rfl) (fun _ _ _ h => h) rfl (fun wz hwz => ?_) ?_
     rotate_left
     ·(obtain ⟨hcz, hfz⟩ := bcell hwz; go_simp; try (with_reducible rfl))
     simp only [Zp, Zq, Zr, Zs]
     refine WpH.vD 7 (some 44) ?_ rfl rfl (by kernel_rfl) (fun _ _ _ h => h) rfl (fun wz hwz => ?_) ?_
     rotate_left
     ·go_simp; try (with_reducible rfl)
     simp only [Zp, Zq, Zr, Zs]
     refine WpH.vD 8 (some 45) ?_ rfl rfl (by kernel_rfl) (fun _ _ _ h => h) rfl (fun wz hwz => ?_) ?_
     rotate_left
     ·go_simp; try (with_reducible rfl)
     simp only [Zp, Zq, Zr, Zs]
     refine WpH.vD 9 (some 46) ?_ rfl rfl (by kernel_rfl) (fun _ _ _ h => h) rfl (fun wz hwz => ?_) ?_
     rotate_left
     ·go_simp; try (with_reducible rfl)
     simp only [Zp, Zq, Zr, Zs]
     refine WpH.vD 10 (some 47) ?_ rfl rfl (by kernel_rfl) (fun _ _ _ h => h) rfl (fun wz hwz => ?_) ?_
     rotate_left
     ·(obtain ⟨hcz, hfz⟩ := bcell hwz; go_simp; try (with_reducible rfl))
     simp only [Zp, Zq, Zr, Zs]
     refine WpH.takeD 11 (some 48) rfl rfl (by kernel_rfl) (fun _ _ _ h => h) (.call rfl (fun wz hwz => HADD.out x y wz) (fun wz hwz => ?_)) ?_
     ·go_simp; try (with_reducible rfl)
     simp only [Zp, Zq, Zr, Zs]
     refine WpH.doneB (by kernel_rfl) (fun w6 hw6 => ?_)
     (try simp only [List.drop_succ_cons]); (try simp only [List.drop_zero]); (try simp only [Nat.reduceSub]); (try simp only [List.take_succ_cons]); (try simp only [List.take_zero])
     clear c0 c1 d0 d1 hbl2 g9
     replace hb00 := bl_call hb00 (Nat.le_refl _) hw6
     replace hR := hR.call hw6
     clear hw6
     obtain ⟨c0, c1⟩ := hR.at HX.out
     obtain ⟨f0, f1⟩ := hR.frz (i := k) (by have := HSL.out; omega)
     have g9 := hR.lt
     go_wp2_with fail
     go_roundw
     case rel => exact ⟨k + 1, _, by omega, by go_num, ⟨by rw [List.length_set]; exact HSL.out, fun j hj => by
      rw [set_getD _ _ _ (by have := HSL.out; omega)]
      by_cases he : j = k
      ·rw [if_pos he, he, HYD.out, HXA.out]
      ·rw [if_neg he]
       exact HS1.out j (by omega), fun j hj => by
      rw [set_getD _ _ _ (by have := HSL.out; omega), if_neg (by omega)]
      exact HS2.out j (by omega)⟩, hR.set k (by have := HSL.out; omega) (x + y), by repeat (first | exact bA | with_reducible assumption | apply bB | (refine bC ?_ (by dsimp only; omega)) | apply bD | apply bE | (refine bF ?_ (by assumption)))⟩
     case measure => simp [intOf]; omega
    ·have HYD : Hid (b.getD k 0 = 0) := Fm.getD_end (by omega)
     have HXD : Hid (S.getD k 0 = x) := by show _ = _; rw [List.getD_eq_getElem?_getD, HX.out]; rfl
     go_wp2_with fail
     go_roundw
     case rel => exact ⟨k + 1, _, by omega, by go_num, ⟨HSL.out, fun j hj => by
      by_cases he : j = k
      ·rw [he, HYD.out, HXA.out, HXD.out]
       grind
      ·exact HS1.out j (by omega), fun j hj => HS2.out j (by omega)⟩, hR, hb00⟩
     case measure => simp [intOf]; omega
   ·have HXA : Hid (a.getD k 0 = x) := by show _ = _; rw [hx0]; exact Fm.getD_end (by omega)
    have HX := Lib.hid hx
    clear hx hx0
    by_cases hkb : k < b.length
    ·obtain ⟨b2, o2, hBe, hbw2, hrow2⟩ := HB.out (by omega)
     obtain ⟨y, hy⟩ : ∃ y, b[k]? = some y := ⟨_, List.getElem?_eq_getElem hkb⟩
     have hyd : b.getD k 0 = y := by rw [List.getD_eq_getElem?_getD, hy]; rfl
     obtain ⟨d0, d1⟩ := (hrow2.below hb00 hbw2).kat hy
     obtain ⟨c0, c1⟩ := hR.at HX.out
     have g6 : (k : Int) < (b.length : Int) := by omega
     have hbl2 : b2 < wr.heap.size := Nat.lt_of_lt_of_le hbw2 hb00.size
     have g9 := hR.lt
     have HYD := Lib.hid hyd
     subst hBe
     clear hy hyd hrow2
     go_upto_region 9 with fail
     refine region_B (n := 12) (m := 14) (f := 12) (by kernel_rfl) (by kernel_rfl) rfl ?_
     refine WpH.vD 0 (some 37) ?_ rfl rfl (by kernel_rfl) (fun _ _ _ h => h) rfl (fun wz hwz => ?_) ?_
     rotate_left
     ·go_simp; try (with_reducible rfl)
     simp only [Zp, Zq, Zr, Zs]
     refine WpH.vD 1 (some 38) ?_ rfl rfl (by kernel_rfl) (fun _ _ _ h => h) rfl (fun wz hwz => ?_) ?_
     rotate_left
     ·go_simp; try (with_reducible rfl)
     simp only [Zp, Zq, Zr, Zs]
     refine WpH.vD 2 (some 39) ?_ rfl rfl (by kernel_rfl) (fun _ _ _ h => h) rfl (fun wz hwz => ?_) ?_
     rotate_left
     ·go_simp; try (with_reducible rfl)
     simp only [Zp, Zq, Zr, Zs]
     refine WpH.vD 3 (some 40) ?_ rfl rfl (by kernel_rfl) (fun _ _ _ h => h) rfl (fun wz hwz => ?_) ?_
     rotate_left
     ·go_simp; try (with_reducible rfl)
     simp only [Zp, Zq, Zr, Zs]
     refine WpH.vD 4 (some 41) ?_ rfl rfl (by kernel_rfl) (fun _ _ _ h => h) rfl (fun wz hwz => ?_) ?_
     rotate_left
     ·go_simp; try (with_reducible rfl)
     simp only [Zp, Zq, Zr, Zs]
     refine WpH.vD 5 (some 42) ?_ rfl rfl (by kernel_rfl) (fun _ _ _ h => h) rfl (fun wz hwz => ?_) ?_
     rotate_left
     ·go_simp; try (with_reducible rfl)
     simp only [Zp, Zq, Zr, Zs]
     refine WpH.vD 6 (some 43) ?_ rfl rfl (by kernel_rfl) (fun _ _ _ h => h) rfl (fun wz hwz => ?_) ?_
     rotate_left
     ·(obtain ⟨hcz, hfz⟩ := bcell hwz; go_simp; try (with_reducible rfl))
     simp only [Zp, Zq, Zr, Zs]
     refine WpH.vD 7 (some 44) ?_ rfl rfl (by kernel_rfl) (fun _ _ _ h => h) rfl (fun wz hwz => ?_) ?_
     rotate_left
     ·go_simp; try (with_reducible rfl)
     simp only [Zp, Zq, Zr, Zs]
     refine WpH.vD 8 (some 45) ?_ rfl rfl (by kernel_rfl) (fun _ _ _ h => h) rfl (fun wz hwz => ?_) ?_
     rotate_left
     ·go_simp; try (with_reducible rfl)
     simp only [Zp, Zq, Zr, Zs]
     refine WpH.vD 9 (some 46) ?_ rfl rfl (by kernel_rfl) (fun _ _ _ h => h) rfl (fun wz hwz => ?_) ?_
     rotate_left
     ·go_simp; try (with_reducible rfl)
     simp only [Zp, Zq, Zr, Zs]
     refine WpH.vD 10 (some 47) ?_ rfl rfl (by kernel_rfl) (fun _ _ _ h => h) rfl (fun wz hwz => ?_) ?_
     rotate_left
     ·(obtain ⟨hcz, hfz⟩ := bcell hwz; go_simp; try (with_reducible rfl))
     simp only [Zp, Zq, Zr, Zs]
     refine WpH.takeD 11 (some 48) rfl rfl (by kernel_rfl) (fun _ _ _ h => h) (.call rfl (fun wz hwz => HADD.out x y wz) (fun wz hwz => ?_)) ?_
     ·go_simp; try (with_reducible rfl)
     simp only [Zp, Zq, Zr, Zs]
     refine WpH.doneB (by kernel_rfl) (fun w6 hw6 => ?_)
     (try simp only [List.drop_succ_cons]); (try simp only [List.drop_zero]); (try simp only [Nat.reduceSub]); (try simp only [List.take_succ_cons]); (try simp only [List.take_zero])
     clear c0 c1 d0 d1 hbl2 g9
     replace hb00 := bl_call hb00 (Nat.le_refl _) hw6
     replace hR := hR.call hw6
     clear hw6
     obtain ⟨c0, c1⟩ := hR.at HX.out
     obtain ⟨f0, f1⟩ := hR.frz (i := k) (by have := HSL.out; omega)
     have g9 := hR.lt
     go_wp2_with fail
     go_roundw
     case rel => exact ⟨k + 1, _, by omega, by go_num, ⟨by rw [List.length_set]; exact HSL.out, fun j hj => by
      rw [set_getD _ _ _ (by have := HSL.out; omega)]
      by_cases he : j = k
      ·rw [if_pos he, he, HYD.out, HXA.out]
      ·rw [if_neg he]
       exact HS1.out j (by omega), fun j hj => by
      rw [set_getD _ _ _ (by have := HSL.out; omega), if_neg (by omega)]
      exact HS2.out j (by omega)⟩, hR.set k (by have := HSL.out; omega) (x + y), by repeat (first | exact bA | with_reducible assumption | apply bB | (refine bC ?_ (by dsimp only; omega)) | apply bD | apply bE | (refine bF ?_ (by assumption)))⟩
     case measure => simp [intOf]; omega
    ·have HYD : Hid (b.getD k 0 = 0) := Fm.getD_end (by omega)
     have HXD : Hid (S.getD k 0 = x) := by show _ = _; rw [List.getD_eq_getElem?_getD, HX.out]; rfl
     go_wp2_with fail
     go_roundw
     case rel => exact ⟨k + 1, _, by omega, by go_num, ⟨HSL.out, fun j hj => by
      by_cases he : j = k
      ·rw [he, HYD.out, HXA.out, HXD.out]
       grind
      ·exact HS1.out j (by omega), fun j hj => HS2.out j (by omega)⟩, hR, hb00⟩
     case measure => simp [intOf]; omega
  ·obtain rfl : k = N := by omega
   have HT := Lib.hid (HEND.out S hS.out.1 hS.out.2.1)
   have hs := hR.sl hS.out.1 (Nat.le_refl _) (by omega)
   have hsl : S.length ≤ 1000000 := by have := hS.out.1; omega
   clear hS hR HEND HA HB
   go_wp2_with fail
   refine (poly_Trim _ S _ hs hsl).mono ?_
   rintro e w7 ⟨v, rfl, ho, hb7⟩
   go_wp2
   go_ret
   exact ⟨_, rfl, by rw [← HT.out]; exact own_mono ho hb00.size, bl_call hb00 (Nat.le_refl _) hb7⟩

set_option maxHeartbeats 8000000 in
theorem poly_direct (va vb : Value) (a b : KL f) (w : World) (ha : SlK w w.heap.size va a) (hb : SlK w w.heap.size vb b) (ha0 : 0 < a.length) (hb0 : 0 < b.length) (hal : a.length ≤ 400000) (hbl : b.length ≤ 400000) :
  Calls Tryz.prog 136 #[.int .u8 f, va, vb] w (RetBlk (prodL a b) w) := by
 have hfb0 : (1 : Int) ≤ (f : Int) := by rcases hf.or with rfl | rfl <;> omega
 have hfb1 : (f : Int) ≤ 2 := by rcases hf.or with rfl | rfl <;> omega
 have HADD := Lib.hid (fun x y wz => field_AddK hf x y wz)
 have HMU := Lib.hid (fun x y wz => field_MulK hf x y wz)
 obtain ⟨A, c, rfl, hc, hcm, hA⟩ := ha
 obtain ⟨B, d, rfl, hd, hdm, hB⟩ := hb
 obtain ⟨b1, o1, rfl, hbw1, hrow1⟩ := hA ha0
 obtain ⟨b2, o2, rfl, hbw2, hrow2⟩ := hB hb0
 obtain ⟨N, hN⟩ : ∃ N, a.length + b.length - 1 = N := ⟨_, rfl⟩
 have hN1 : (a.length : Int) + (b.length : Int) - 1 = (N : Int) := by omega
 have hN2 : N + 1 = a.length + b.length := by omega
 have hmk := make_elem N (by omega)
 have HDL : Hid (∀ I K, (dl a b I K).length = N) := fun I K => by rw [dl_length, hN]
 have HPL : Hid ((prodL a b).length = N) := by show _ = _; rw [prodL_length, hN]
 have HZ : Hid (List.replicate N 0 = dl a b 0 0) := by show _ = _; rw [dl_zero, hN]
 have HNX := Lib.hid (fun I K z h1 h2 h3 => dl_next a b I K h1 h2 z h3)
 have HRO := Lib.hid (fun I => dl_row a b I)
 have HEN := Lib.hid (dl_end a b)
 have HR1 := Lib.hid hrow1
 have HR2 := Lib.hid hrow2
 clear hA hB hN hrow1 hrow2
 go_enter Tryz.func136, Tryz.ntmps136
 go_upto_region 2 with fail
 have hB0 := RwK.new w (List.replicate N (0 : Fin (Pm f))) (cellsE (List.replicate N (0, 0))).toArray (by unfold esK; rw [List.map_replicate, eK_zero]) 36
 rw [HZ.out] at hB0
 have hb00 : Below w.heap.size w (w.alloc (.cells (cellsE (List.replicate N (0, 0))).toArray 36)) := by repeat (first | exact bA | with_reducible assumption | apply bB | (refine bC ?_ (by dsimp only; omega)) | apply bD | apply bE | (refine bF ?_ (by assumption)))
 generalize w.alloc (.cells (cellsE (List.replicate N (0, 0))).toArray 36) = w1 at hB0 hb00 ⊢
 clear hmk HZ
 go_wp2_with fail
 go_loopw [21] (fun kv wr => ∃ I : Nat, I ≤ a.length ∧ kv = .int .i64 I ∧ RwK wr w.heap.size (dl a b I 0) ∧ Below w.heap.size w wr) (fun kv _ => a.length - (intOf kv).toNat)
 case atStart => exact ⟨0, Nat.zero_le _, rfl, hB0, hb00⟩
 case round =>
  clear hB0 hb00
  obtain ⟨I, hI, rfl, hR, hb00⟩ := hrel
  by_cases hIa : I < a.length
  ·obtain ⟨x, hx⟩ : ∃ x, a[I]? = some x := ⟨_, List.getElem?_eq_getElem hIa⟩
   have HXA : Hid (a.getD I 0 = x) := by show _ = _; rw [List.getD_eq_getElem?_getD, hx]; rfl
   obtain ⟨d0, d1⟩ := (HR1.out.below hb00 hbw1).kat hx
   have hrl := hR.lt
   clear hx
   go_upto_region 5 with fail
   have x0 := V2.new wr (.int .u64 (lo x)) (.int .u64 (hi x)) 36
   have hbA : Below wr.heap.size wr (wr.alloc (.cells #[.int .u64 (lo x), .int .u64 (hi x)] 36)) := by repeat (first | exact bA | with_reducible assumption | apply bB)
   replace hb00 := bl_call hb00 (Nat.le_refl _) hbA
   replace hR := hR.call hbA
   clear hbA
   generalize wr.alloc (.cells #[.int .u64 (lo x), .int .u64 (hi x)] 36) = w5 at hb00 hR x0 ⊢
   obtain ⟨xb, hxb⟩ : ∃ q, wr.heap.size = q := ⟨_, rfl⟩
   rw [hxb] at x0 hrl
   simp only [hxb]
   clear hxb d0 d1
   go_wp2_with fail
   go_loopw [28] (fun kv wi => ∃ K : Nat, K ≤ b.length ∧ kv = .int .i64 K ∧ RwK wi w.heap.size (dl a b I K) ∧ V2 wi xb (.int .u64 (lo x)) (.int .u64 (hi x)) ∧ Below w.heap.size w wi) (fun kv _ => b.length - (intOf kv).toNat)
   case atStart => exact ⟨0, Nat.zero_le _, rfl, hR, x0, hb00⟩
   case round =>
    clear hR x0 hb00
    obtain ⟨K, hK, rfl, hR, x0, hb00⟩ := hrel
    by_cases hKb : K < b.length
    ·obtain ⟨y, hy⟩ : ∃ y, b[K]? = some y := ⟨_, List.getElem?_eq_getElem hKb⟩
     have HYB : Hid (b.getD K 0 = y) := by show _ = _; rw [List.getD_eq_getElem?_getD, hy]; rfl
     obtain ⟨d0, d1⟩ := (HR2.out.below hb00 hbw2).kat hy
     obtain ⟨q, hq⟩ : ∃ q, I + K = q := ⟨_, rfl⟩
     have hqN : q < N := by omega
     obtain ⟨z, hz⟩ : ∃ z, (dl a b I K)[q]? = some z := ⟨_, List.getElem?_eq_getElem (by rw [HDL.out]; exact hqN)⟩
     have HZD : Hid ((dl a b I K).set q (z + x * y) = dl a b I (K + 1)) := by
      show _ = _
      rw [← hq]
      refine HNX.out I K _ hIa hKb ?_
      rw [HXA.out, HYB.out, hq, List.getD_eq_getElem?_getD, hz]
      rfl
     have HZX := Lib.hid hz
     have v1 : IntKind.i64.wrap (q : Int) = (q : Int) := IntWalk.i64_in _ (by omega)
     have v2 : (I : Int) + (K : Int) = (q : Int) := by omega
     have g1 : (0 : Int) ≤ (q : Int) := by omega
     have g3 : (q : Int) < (N : Int) := by omega
     clear hy hz hq
     go_upto_region 8 with fail
     have y0 := V2.new wr (.int .u64 (lo y)) (.int .u64 (hi y)) 36
     have hbA : Below wr.heap.size wr (wr.alloc (.cells #[.int .u64 (lo y), .int .u64 (hi y)] 36)) := by repeat (first | exact bA | with_reducible assumption | apply bB)
     replace hb00 := bl_call hb00 (Nat.le_refl _) hbA
     replace hR := hR.call hbA
     replace x0 := x0.call hbA
     clear hbA
     generalize wr.alloc (.cells #[.int .u64 (lo y), .int .u64 (hi y)] 36) = w6 at hb00 hR x0 y0 ⊢
     clear d0 d1
     obtain ⟨c0, c1⟩ := hR.at HZX.out
     have g9 := hR.lt
     obtain ⟨x00, x01, x02, x03, x04⟩ := V2.mk x0.c0 x0.c1 x0.f0 x0.f1 x0.lt
     obtain ⟨y00, y01, y02, y03, y04⟩ := V2.mk y0.c0 y0.c1 y0.f0 y0.f1 y0.lt
     refine region_B (n := 16) (m := 18) (f := 16) (by kernel_rfl) (by kernel_rfl) rfl ?_
     refine WpH.vD 0 (some 33) ?_ rfl rfl (by kernel_rfl) (fun _ _ _ h => h) rfl (fun wz hwz => ?_) ?_
     rotate_left
     ·go_simp; try (with_reducible rfl)
     simp only [Zp, Zq, Zr, Zs]
     refine WpH.vD 1 (some 34) ?_ rfl rfl (by kernel_rfl) (fun _ _ _ h => h) rfl (fun wz hwz => ?_) ?_
     rotate_left
     ·go_simp; try (with_reducible rfl)
     simp only [Zp, Zq, Zr, Zs]
     refine WpH.vD 2 (some 35) ?_ rfl rfl (by kernel_rfl) (fun _ _ _ h => h) rfl (fun wz hwz => ?_) ?_
     rotate_left
     ·go_simp; try (with_reducible rfl)
     simp only [Zp, Zq, Zr, Zs]
     refine WpH.vD 3 (some 36) ?_ rfl rfl (by kernel_rfl) (fun _ _ _ h => h) rfl (fun wz hwz => ?_) ?_
     rotate_left
     ·go_simp; try (with_reducible rfl)
     simp only [Zp, Zq, Zr, Zs]
     refine WpH.vD 4 (some 37) ?_ rfl rfl (by kernel_rfl) (fun _ _ _ h => h) rfl (fun wz hwz => ?_) ?_
     rotate_left
     ·go_simp; try (with_reducible rfl)
     simp only [Zp, Zq, Zr, Zs]
     refine WpH.vD 5 (some 38) ?_ rfl rfl (by kernel_rfl) (fun _ _ _ h => h) rfl (fun wz hwz => ?_) ?_
     rotate_left
     ·go_simp; try (with_reducible rfl)
     simp only [Zp, Zq, Zr, Zs]
     refine WpH.vD 6 (some 39) ?_ rfl rfl (by kernel_rfl) (fun _ _ _ h => h) rfl (fun wz hwz => ?_) ?_
     rotate_left
     ·go_simp; try (with_reducible rfl)
     simp only [Zp, Zq, Zr, Zs]
     refine WpH.vD 7 (some 40) ?_ rfl rfl (by kernel_rfl) (fun _ _ _ h => h) rfl (fun wz hwz => ?_) ?_
     rotate_left
     ·go_simp; try (with_reducible rfl)
     simp only [Zp, Zq, Zr, Zs]
     refine WpH.vD 8 (some 41) ?_ rfl rfl (by kernel_rfl) (fun _ _ _ h => h) rfl (fun wz hwz => ?_) ?_
     rotate_left
     ·go_simp; try (with_reducible rfl)
     simp only [Zp, Zq, Zr, Zs]
     refine WpH.vD 9 (some 42) ?_ rfl rfl (by kernel_rfl) (fun _ _ _ h => h) rfl (fun wz hwz => ?_) ?_
     rotate_left
     ·go_simp; try (with_reducible rfl)
     simp only [Zp, Zq, Zr, Zs]
     refine WpH.vD 10 (some 43) ?_ rfl rfl (by kernel_rfl) (fun _ _ _ h => h) rfl (fun wz hwz => ?_) ?_
     rotate_left
     ·(obtain ⟨hcz, hfz⟩ := bcell hwz; go_simp; try (with_reducible rfl))
     simp only [Zp, Zq, Zr, Zs]
     refine WpH.vD 11 (some 44) ?_ rfl rfl (by kernel_rfl) (fun _ _ _ h => h) rfl (fun wz hwz => ?_) ?_
     rotate_left
     ·go_simp; try (with_reducible rfl)
     simp only [Zp, Zq, Zr, Zs]
     refine WpH.vD 12 (some 45) ?_ rfl rfl (by kernel_rfl) (fun _ _ _ h => h) rfl (fun wz hwz => ?_) ?_
     rotate_left
     ·(obtain ⟨hcz, hfz⟩ := bcell hwz; go_simp; try (with_reducible rfl))
     simp only [Zp, Zq, Zr, Zs]
     refine WpH.vD 13 (some 46) ?_ rfl rfl (by kernel_rfl) (fun _ _ _ h => h) rfl (fun wz hwz => ?_) ?_
     rotate_left
     ·(obtain ⟨hcz, hfz⟩ := bcell hwz; go_simp; try (with_reducible rfl))
     simp only [Zp, Zq, Zr, Zs]
     refine WpH.takeD 14 (some 47) rfl rfl (by kernel_rfl) (fun _ _ _ h => h) (.call rfl (fun wz hwz => HMU.out x y wz) (fun wz hwz => ?_)) ?_
     ·go_simp; try (with_reducible rfl)
     simp only [Zp, Zq, Zr, Zs]
     refine WpH.takeD 15 (some 48) rfl rfl (by kernel_rfl) (fun _ _ _ h => h) (.call rfl (fun wz hwz => HADD.out z (x * y) wz) (fun wz hwz => ?_)) ?_
     ·go_simp; try (with_reducible rfl)
     simp only [Zp, Zq, Zr, Zs]
     refine WpH.doneB (by kernel_rfl) (fun w7 hw7 => ?_)
     (try simp only [List.drop_succ_cons]); (try simp only [List.drop_zero]); (try simp only [Nat.reduceSub]); (try simp only [List.take_succ_cons]); (try simp only [List.take_zero])
     clear x00 x01 x02 x03 x04 y00 y01 y02 y03 y04
     clear c0 c1 g9
     replace hb00 := bl_call hb00 (Nat.le_refl _) hw7
     replace hR := hR.call hw7
     replace x0 := x0.call hw7
     clear hw7 y0
     obtain ⟨c0, c1⟩ := hR.at HZX.out
     obtain ⟨f0, f1⟩ := hR.frz (i := q) (by rw [HDL.out]; exact hqN)
     have g9 := hR.lt
     go_wp2_with fail
     go_roundw
     case rel =>
      have h := hR.set q (by rw [HDL.out]; exact hqN) (z + x * y)
      rw [HZD.out] at h
      exact ⟨K + 1, by omega, by go_num, h, V2.setOther (V2.setOther x0 (by dsimp only; omega) _) (by dsimp only; omega) _, by repeat (first | exact bA | with_reducible assumption | apply bB | (refine bC ?_ (by dsimp only; omega)) | apply bD | apply bE | (refine bF ?_ (by assumption)))⟩
     case measure => simp [intOf]; omega
    ·obtain hKe : K = b.length := by omega
     subst hKe
     rw [HRO.out] at hR
     go_wp2_with fail
     go_roundw
     case rel => exact ⟨I + 1, by omega, by go_num, hR, hb00⟩
     case measure => simp [intOf]; omega
  ·obtain hIe : I = a.length := by omega
   subst hIe
   rw [HEN.out] at hR
   have HRR := Lib.hid hR
   clear hR
   go_wp2_with fail
   go_ret
   exact ⟨w.heap.size, by rw [HPL.out]; rfl, HRR.out, Nat.le_refl _, hb00⟩
end

end Go.Proofs.YtfbfbijkkbflkaaGreatDoor

namespace Go.Proofs.YtfbfbijkkbflkaaGreatDoor
open Go.RowKit Fm
set_option linter.unusedVariables false
set_option maxRecDepth 100000

section
variable {f : Nat}
def lineA (s : Fin (Pm f)) (args : Nat → KL f) (i n : Nat) : KL f := s :: (List.range n).map fun t => (args t).getD i 0
theorem lineA_length (s : Fin (Pm f)) (args : Nat → KL f) (i n : Nat) : (lineA s args i n).length = n + 1 := by
 unfold lineA
 rw [List.length_cons, List.length_map, List.length_range]
theorem lineA_succ (s : Fin (Pm f)) (args : Nat → KL f) (i n : Nat) : lineA s args i (n + 1) = lineA s args i n ++ [(args n).getD i 0] := by
 unfold lineA
 rw [List.range_succ, List.map_append]
 rfl
def padTo (L : Nat) (l : KL f) : KL f := l ++ List.replicate (2 ^ L - l.length) 0
def polysA (L : Nat) (seeds : KL f) (args : Nat → KL f) (n a : Nat) : List (KL f) := (List.range a).map fun i => coefsK L (padTo L (lineA (seeds.getD i 0) args i n))
theorem polysA_length (L : Nat) (seeds : KL f) (args : Nat → KL f) (n a : Nat) : (polysA L seeds args n a).length = a := by
 unfold polysA
 rw [List.length_map, List.length_range]
end

end Go.Proofs.YtfbfbijkkbflkaaGreatDoor

namespace Go.Proofs.YtfbfbijkkbflkaaGreatDoor
open Go.RowKit Fm
set_option linter.unusedVariables false
set_option maxRecDepth 100000

theorem zeroCells_elem (n : Nat) : Builtin.zeroCells #[.int .u64 0, .int .u64 0] n = (cellsE (List.replicate n (0, 0))).toArray := by
 rw [← madeCells_elem]
 simp [Builtin.zeroCells, madeCells]

theorem run_append_zroom {P : Program} {w : World} (t tn ty e : TypeId) (i : TypeInfo) (z : Value) (kq kn : IntKind) (ht : P.underlying t = some (.slice e)) (htn : P.underlying tn = some (.int kn)) (hi : P.info? e = some i) (hz : i.zero = some z)
  (g sLen sCap : Nat) (cur : Array Value) (hg : w.heap[g]? = some (.cells cur e (0, 0))) (k : Nat) (h63 : (k : Int) ≤ 9223372036854775807) (h48 : k * i.bytes ≤ 281474976710656)
  (h1 : ∀ u ∈ (Builtin.zeroCells z.cells k).toList, u.oneCell' = true) (hk0 : ¬ (k * i.size = 0)) (hroom : sLen + k ≤ sCap) (hfit : sLen * i.size + (Builtin.zeroCells z.cells k).toList.length ≤ cur.size) :
  (Builtin.append_ #[t, tn] ty #[.slice (some ⟨g, 0, none⟩) sLen sCap, .int kq k]).run P w =
   .ok (.slice (some ⟨g, 0, none⟩) (sLen + k) sCap) (w.setRow g (cur.toList.take (sLen * i.size) ++ (Builtin.zeroCells z.cells k).toList ++ cur.toList.drop (sLen * i.size + (Builtin.zeroCells z.cells k).toList.length)).toArray) := by
 have hst := run_storeCells_at P g (sLen * i.size) e (Builtin.zeroCells z.cells k).toList 0 cur w hg (by simpa using hfit) h1
 simp only [Nat.add_zero] at hst
 have hw : IntKind.i64.wrap (k : Int) = k := by rw [IntKind.wrap_i64]; omega
 have h48i : ¬ (281474976710656 < (k : Int) * (i.bytes : Int)) := by
  rw [← Int.natCast_mul]
  omega
 have hneg : ¬ ((k : Int) < 0) := by omega
 simp [Builtin.append_, run_underlying ht, run_underlying htn, sizeOf, typeInfo, zeroValue, hi, hz, asInt, asIntOf, hw, hneg, h48i, hk0, hroom, Addr.add_lit, hst]

theorem own_far {S : Nat → Prop} {w w' : World} {base : Nat} {e : TypeId} {size g n c : Nat} {xs : List Value} (h : w.ownsRow base e size (.slice (some ⟨g, 0, none⟩) n c) n xs) (hn : ¬ S g) (hb : Exc S w.heap.size w w') : w'.ownsRow base e size (.slice (some ⟨g, 0, none⟩) n c) n xs := by
 refine ⟨h.1, ?_⟩
 rcases h.2 with ⟨h, _⟩ | ⟨g', cap, cur, h1, h2, h3, h4⟩
 ·cases h
 ·injection h1 with e1 e2 e3
  injection e1 with e1
  injection e1 with e1
  subst e1
  subst e3
  have hlt := (Array.getElem?_eq_some_iff.1 h3).1
  exact .inr ⟨_, _, cur, rfl, h2, (hb.block _ hlt hn).trans h3, h4⟩
theorem Exc.belowB2 {w w' : World} {g B : Nat} (h : Exc (fun q => q = g) w.heap.size w w') (hg : B ≤ g) (hB : B ≤ w.heap.size) : Below B w w' :=
 ⟨h.os, h.tape, h.output, h.size, fun k hk => h.block k (by omega) (fun e => by have : k = g := e; omega)⟩
theorem RwK.exc {f : Nat} {S : Nat → Prop} {w w' : World} {g : Nat} {l : KL f} (h : RwK w g l) (hn : ¬ S g) (hb : Exc S w.heap.size w w') : RwK w' g l := Vs.exc h hn hb

theorem run_append_Z {f : Nat} (w : World) (base g n c k : Nat) (ty : TypeId) (l : KL f) (hl : l.length = n) (hown : w.ownsRow base 36 2 (.slice (some ⟨g, 0, none⟩) n c) n (cellsE (esK l))) (hbase : base ≤ w.heap.size) (hk : n + k ≤ 1099511627776) :
  ∃ g' c' w', (Builtin.append_ #[24, 3] ty #[.slice (some ⟨g, 0, none⟩) n c, .int .i64 (k : Int)]).run Tryz.prog w = .ok (.slice (some ⟨g', 0, none⟩) (n + k) c') w' ∧
   w'.ownsRow base 36 2 (.slice (some ⟨g', 0, none⟩) (n + k) c') (n + k) (cellsE (esK (l ++ List.replicate k 0))) ∧ Exc (fun q => q = g) w.heap.size w w' ∧ (g' = g ∨ w.heap.size ≤ g') := by
 subst hl
 obtain ⟨i, hi, hz, h1, h2⟩ := info_parts info_elem
 have hzz : esK (l ++ List.replicate k 0) = esK l ++ List.replicate k (0, 0) := by
  rw [esK_append]
  congr 1
  unfold esK
  rw [List.map_replicate, eK_zero]
 have hel := esK_length l
 rw [hzz, cellsE_append]
 have hown0 := hown
 rcases hown.2 with ⟨hv, _⟩ | ⟨g0, cap, cur, hv, hbg, hgg, hnc, hcm, hcs, htake⟩
 ·cases hv
 injection hv with e1 e2 e3
 injection e1 with e1
 injection e1 with e1
 subst e1
 subst e3
 have hlenz : (cellsE (List.replicate k ((0 : Int), (0 : Int)))).length = k * 2 := by rw [length_cellsE, List.length_replicate]
 have hlt := (Array.getElem?_eq_some_iff.1 hgg).1
 by_cases hk0 : k = 0
 ·subst hk0
  refine ⟨g, c, w, ?_, ?_, exc_of (Below.refl _ _), .inl rfl⟩
  ·simp [Builtin.append_, run_underlying Tryz.underlying24, run_underlying Tryz.underlying3, sizeOf, typeInfo, hi, asInt, asIntOf, hnc, storeCells, IntKind.wrap_i64]
  ·simpa [cellsE] using hown0
 have hz0 : Builtin.zeroCells (Value.agg #[.int .u64 0, .int .u64 0]).cells k = (cellsE (List.replicate k (0, 0))).toArray := zeroCells_elem k
 have hzl : (Builtin.zeroCells (Value.agg #[.int .u64 0, .int .u64 0]).cells k).toList = cellsE (List.replicate k (0, 0)) := by rw [hz0]
 by_cases hroom : l.length + k ≤ c
 ·have hr := run_append_zroom (P := Tryz.prog) (w := w) 24 3 ty 36 i _ .i64 .i64 Tryz.underlying24 Tryz.underlying3 hi hz g l.length c cur hgg k (by omega) (by rw [h2]; omega) (by rw [hzl]; exact oneCell_cellsE _) (by rw [h1]; omega) hroom (by rw [h1, hzl, hlenz, hcs]; omega)
  rw [h1, hzl, hlenz] at hr
  have hset := setRow_heap w g cur (cur.toList.take (l.length * 2) ++ cellsE (List.replicate k (0, 0)) ++ cur.toList.drop (l.length * 2 + k * 2)).toArray 36 (0, 0) hgg
  have hE : Exc (fun q => q = g) w.heap.size w (w.setRow g (cur.toList.take (l.length * 2) ++ cellsE (List.replicate k (0, 0)) ++ cur.toList.drop (l.length * 2 + k * 2)).toArray) :=
   ⟨rfl, rfl, rfl, by simp, fun k hk hne => setRow_other w g k _ hne⟩
  have hcl : cur.toList.length = c * 2 := by rw [Array.length_toList]; exact hcs
  have htl : (cur.toList.take (l.length * 2)).length = l.length * 2 := by rw [List.length_take, hcl]; omega
  refine ⟨g, c, _, hr, ⟨?_, .inr ⟨g, c, _, rfl, hbg, hset, hroom, hcm, ?_, ?_⟩⟩, hE, .inl rfl⟩
  ·rw [List.length_append, hlenz, length_cellsE, hel, Nat.add_mul]
  ·simp only [List.size_toArray, List.length_append, htl, hlenz, List.length_drop, hcl]
   omega
  ·show List.take _ (_ ++ _ ++ _) = _
   rw [List.take_append_of_le_length (by rw [List.length_append, htl, hlenz]; omega), List.take_of_length_le (by rw [List.length_append, htl, hlenz]; omega), htake]
 ·have hcells := hown0.cells rfl
  have hold : (Builtin.firstCells i.size l.length (.slice (some ⟨g, 0, none⟩) l.length c)).run Tryz.prog w.drew = .ok (cellsE (esK l)).toArray w.drew :=
   run_firstCells_some (P := Tryz.prog) (w := w.drew) i.size l.length ⟨g, 0, none⟩ l.length c (cellsE (esK l)) (by rw [length_cellsE, hel, h1]) (fun j u hj => hcells j u hj)
  have hr := Lib.run_append_grow_zeros (P := Tryz.prog) w 24 3 ty 36 i _ .i64 .i64 Tryz.underlying24 Tryz.underlying3 hi hz (some ⟨g, 0, none⟩) l.length c (cellsE (esK l)) hold k (by omega) (by omega) (by omega) (by omega) (by rw [h2]; omega) (growslice_fits (by omega) (by rw [h2]; omega))
  refine ⟨w.heap.size, _, _, hr, ⟨by rw [List.length_append, hlenz, length_cellsE, hel, Nat.add_mul], .inr ⟨w.heap.size, _, _, rfl, hbase, heap_alloc_new w.drew _, ?_, ?_, ?_, ?_⟩⟩, exc_of (undrew ((Below.refl _ _).alloc (Nat.le_refl _) _)), .inr (Nat.le_refl _)⟩
  ·exact grownCap_ge _ _ _ _
  ·exact grownCap_le_maxLen _ _ _ _ (by unfold maxLen; omega)
  ·have hge := grownCap_ge w (l.length + k) c 36
   rw [hz0]
   simp only [zeroCells_elem, Value.cells, Array.size_append, List.size_toArray, hlenz, length_cellsE, hel, List.length_replicate]
   omega
  ·rw [hz0]
   simp only [Array.toList_append, List.append_toArray]
   rw [List.take_append_of_le_length (by simp [length_cellsE, hel]; omega), List.take_of_length_le (by simp [length_cellsE, hel]; omega)]

end Go.Proofs.YtfbfbijkkbflkaaGreatDoor

namespace Go.Proofs.YtfbfbijkkbflkaaGreatDoor
open Go.RowKit Fm
set_option linter.unusedVariables false
set_option maxRecDepth 100000

theorem nextP_pow (n : Nat) (h : n ≤ 1024) : ∃ L, L ≤ 10 ∧ nextP n = 2 ^ L ∧ n ≤ 2 ^ L := by
 unfold nextP
 repeat' split
 ·exact ⟨0, by omega, rfl, by omega⟩
 ·exact ⟨1, by omega, rfl, by omega⟩
 ·exact ⟨2, by omega, rfl, by omega⟩
 ·exact ⟨3, by omega, rfl, by omega⟩
 ·exact ⟨4, by omega, rfl, by omega⟩
 ·exact ⟨5, by omega, rfl, by omega⟩
 ·exact ⟨6, by omega, rfl, by omega⟩
 ·exact ⟨7, by omega, rfl, by omega⟩
 ·exact ⟨8, by omega, rfl, by omega⟩
 ·exact ⟨9, by omega, rfl, by omega⟩
 ·exact ⟨10, by omega, rfl, by omega⟩

section
variable {f : Nat}
def mulV (L : Nat) (x y : KL f) : KL f := ofF (2 ^ L) fun k => x.getD k 0 * y.getD k 0
theorem mul_ntt {L : Nat} (hL : L ≤ 32) (a b : KL f) (ha : a.length ≤ 400000) (hb : b.length ≤ 400000) (h : (trim a).length + (trim b).length ≤ 2 ^ L + 1) :
  trim (coefsK L (mulV L (valsK L (trim a ++ List.replicate (2 ^ L - (trim a).length) 0)) (valsK L (trim b ++ List.replicate (2 ^ L - (trim b).length) 0)))) = pmul a b := by
 unfold mulV
 rw [prod_vals hL (trim a) (trim b) h, trim_pad, ← pmul_trim ha hb]
 rfl
end

section
variable {f : Nat} (hf : IsF f)
include hf

set_option maxHeartbeats 16000000 in
theorem poly_Mul (va vb : Value) (a b : KL f) (w : World) (hT : TabW w) (ha : SlK w w.heap.size va a) (hb : SlK w w.heap.size vb b) (hal : a.length ≤ 400000) (hbl : b.length ≤ 400000) (hn : (trim a).length + (trim b).length ≤ 1025) :
  Calls Tryz.prog 116 #[.int .u8 f, va, vb] w (RetOwn0 (pmul a b) w) := by
 have HVA := Lib.hid (fun wz => field_ValidT hf wz)
 have HTA : Hid (Calls Tryz.prog 135 #[va] w (RetOwn (trim a) w)) := poly_Trim va a w ha (by omega)
 have HTB := Lib.hid (fun wz (h : SlK wz wz.heap.size vb b) => poly_Trim vb b wz h (by omega))
 have HB0 := Lib.hid hb
 have HPM := Lib.hid (pmul_trim (a := a) (b := b) hal hbl)
 have HT0 := Lib.hid hT
 have hfb0 : (1 : Int) ≤ (f : Int) := by rcases hf.or with rfl | rfl <;> omega
 have hfb1 : (f : Int) ≤ 2 := by rcases hf.or with rfl | rfl <;> omega
 have HDI := Lib.hid (fun va vb (a b : KL f) wz h1 h2 h3 h4 h5 h6 => poly_direct hf va vb a b wz h1 h2 h3 h4 h5 h6)
 have HNT := Lib.hid (fun L (hL : L ≤ 32) h => mul_ntt (f := f) (L := L) hL a b hal hbl h)
 have HVV := Lib.hid (fun L (hL : L ≤ 10) v (l : KL f) hl wz h1 h2 => ntt_Values hf L hL v l hl wz h1 h2)
 have HCC := Lib.hid (fun L (hL : L ≤ 10) v (l : KL f) hl wz h1 h2 => ntt_Coefs hf L hL v l hl wz h1 h2)
 have HMU := Lib.hid (fun x y wz => field_MulK hf x y wz)
 obtain ⟨A, ca, rfl, _, _, _⟩ := ha
 obtain ⟨B, cb, rfl, _, _, _⟩ := hb
 have hta := trim_le a
 have htb := trim_le b
 generalize trim a = ta at *
 generalize trim b = tb at *
 obtain ⟨na, hna⟩ : ∃ n, a.length = n := ⟨_, rfl⟩
 obtain ⟨nb, hnb⟩ : ∃ n, b.length = n := ⟨_, rfl⟩
 rw [hna] at hal hta HTA ⊢
 rw [hnb] at hbl htb HTB HB0 ⊢
 clear hna hnb hT
 have hb00 : Below w.heap.size w w := Below.refl _ _
 go_enter Tryz.func116, Tryz.ntmps116
 go_wp2_with fail
 refine (HVA.out _).mono ?_
 rintro e w' ⟨rfl, rfl⟩
 go_wp2_with fail
 refine HTA.out.mono ?_
 rintro e w1 ⟨v1, rfl, ho1, hb1⟩
 have HLT1 : Hid (∀ q, v1.ownBlock = some q → q < w1.heap.size) := fun q hq => (ho1.lt q hq).2
 replace hb00 := bl_call hb00 (Nat.le_refl _) hb1
 go_wp2_with fail
 refine (HTB.out _ (HB0.out.later hb00)).mono ?_
 rintro e w2 ⟨v2, rfl, ho2, hb2⟩
 replace ho1 := own_call ho1 hb2
 have hb12' := hb00.size
 have hb12 := hb1.size
 have HC1 := Lib.hid (own_cases ho1)
 have HC2 := Lib.hid (own_cases ho2)
 replace hb00 := bl_call hb00 (Nat.le_refl _) hb2
 clear hb1 hb2 HB0 HTA HTB
 have hs2 := hb00.size
 obtain ⟨A1, c1, e1⟩ := own_shape ho1
 obtain ⟨A2, c2, e2⟩ := own_shape ho2
 obtain ⟨la, hla⟩ : ∃ n, ta.length = n := ⟨_, rfl⟩
 obtain ⟨lb, hlb⟩ : ∃ n, tb.length = n := ⟨_, rfl⟩
 rw [hla] at hn hta e1 ho1 HC1
 rw [hlb] at hn htb e2 ho2 HC2
 have HLA := Lib.hid hla
 have HLB := Lib.hid hlb
 subst e1
 subst e2
 clear hla hlb
 by_cases ha0 : la = 0
 ·subst ha0
  have HPN : Hid (pmul a b = []) := by
   show _ = _
   rw [← HPM.out, List.length_eq_zero_iff.1 HLA.out]
   exact pmul_nil_left _
  clear ho1 ho2 HC1 HC2
  go_wp2_with fail
  go_ret2
  exact ⟨_, rfl, by rw [HPN.out]; exact World.ownsRow_nil _ _ _ _, hb00⟩
 by_cases hb0 : lb = 0
 ·subst hb0
  have HPN : Hid (pmul a b = []) := by
   show _ = _
   rw [← HPM.out, List.length_eq_zero_iff.1 HLB.out]
   exact pmul_nil_right _
  have t1 : ¬ (la = 0) := ha0
  clear ho1 ho2 HC1 HC2
  go_wp2_with fail
  go_ret2
  exact ⟨_, rfl, by rw [HPN.out]; exact World.ownsRow_nil _ _ _ _, hb00⟩
 obtain ⟨ga, ka, eA, ra, hga, hka, hkam⟩ : ∃ g c, Value.slice A1 la c1 = .slice (some ⟨g, 0, none⟩) la c ∧ RwK w2 g ta ∧ w.heap.size ≤ g ∧ la ≤ c ∧ c ≤ 9223372036854775807 := by
  rcases HC1.out with ⟨h, h2⟩ | h
  ·exact absurd (by rw [← HLA.out, h2]; rfl) ha0
  ·exact h
 obtain ⟨gb, kb, eB, rb, hgb, hkb, hkbm⟩ : ∃ g c, Value.slice A2 lb c2 = .slice (some ⟨g, 0, none⟩) lb c ∧ RwK w2 g tb ∧ w1.heap.size ≤ g ∧ lb ≤ c ∧ c ≤ 9223372036854775807 := by
  rcases HC2.out with ⟨h, h2⟩ | h
  ·exact absurd (by rw [← HLB.out, h2]; rfl) hb0
  ·exact h
 injection eA with eA1 _ eA2
 injection eB with eB1 _ eB2
 subst eA1
 subst eA2
 subst eB1
 subst eB2
 have t1 : ¬ (la = 0) := ha0
 have t2 : ¬ (lb = 0) := hb0
 have t3 : ((la : Int) == 0) = false := by rw [beq_eq_false_iff_ne]; omega
 have t4 : ((lb : Int) == 0) = false := by rw [beq_eq_false_iff_ne]; omega
 obtain ⟨n, hn1⟩ : ∃ n, la + lb - 1 = n := ⟨_, rfl⟩
 have hni : (la : Int) + (lb : Int) - 1 = (n : Int) := by omega
 have hn2 : (n : Int) ≤ 1024 := by omega
 have hn3 : n + 1 = la + lb := by omega
 have hn4 : n ≤ 1024 := by omega
 obtain ⟨mn, hmn⟩ : ∃ n, min la lb = n := ⟨_, rfl⟩
 have hmi : min (la : Int) (lb : Int) = (mn : Int) := by omega
 clear hn1 HC1 HC2
 by_cases h16 : mn ≤ 16
 ·have HTR : Hid (trim (prodL ta tb) = pmul a b) := HPM.out
  have HPL : Hid ((prodL ta tb).length ≤ 1000000) := by show _ ≤ _; rw [prodL_length, HLA.out, HLB.out]; omega
  have sa := ra.sl HLA.out hka (by omega)
  have sb := rb.sl HLB.out hkb (by omega)
  clear ra rb ho1 ho2 hmn
  go_wp2_with fail
  refine (HDI.out _ _ ta tb _ sa sb (by rw [HLA.out]; omega) (by rw [HLB.out]; omega) (by rw [HLA.out]; omega) (by rw [HLB.out]; omega)).mono ?_
  rintro e w3 ⟨g, rfl, hR, _, hb3⟩
  replace hb00 := bl_call hb00 (Nat.le_refl _) hb3
  clear hb3
  have ss := hR.sl (n := (prodL ta tb).length) (c := (prodL ta tb).length) rfl (Nat.le_refl _) (by have := HPL.out; omega)
  clear hR
  go_wp2_with fail
  refine (poly_Trim _ (prodL ta tb) _ ss HPL.out).mono ?_
  rintro e w4 ⟨v, rfl, ho, hb4⟩
  rw [HTR.out] at ho
  go_wp2_with fail
  go_ret2
  exact ⟨v, rfl, own_mono ho hb00.size, bl_call hb00 (Nat.le_refl _) hb4⟩
 ·obtain ⟨L, hL, hLn, hLs⟩ := nextP_pow n hn4
  have HNX : Hid (∀ wz, Calls Tryz.prog 72 #[.int .i64 n] wz fun e w' => e = .returned (.int .i64 ((2 ^ L : Nat) : Int)) ∧ wz = w') := fun wz => by rw [← hLn]; exact ntt_Next n hn4 wz
  have hL2 : 2 ^ L ≤ 1024 := by rw [← hLn]; exact (nextP_le n).2
  have HRES : Hid (trim (coefsK L (mulV L (valsK L (ta ++ List.replicate (2 ^ L - la) 0)) (valsK L (tb ++ List.replicate (2 ^ L - lb) 0)))) = pmul a b) := by
   have h := HNT.out L (by omega) (by rw [HLA.out, HLB.out]; omega)
   rwa [HLA.out, HLB.out] at h
  have HMV : Hid (∀ x y k, k < 2 ^ L → (mulV (f := f) L x y).getD k 0 = x.getD k 0 * y.getD k 0) := fun x y k hk => by
   unfold mulV
   rw [ofF_getD, if_pos hk]
  have HML : Hid (∀ x y, (mulV (f := f) L x y).length = 2 ^ L) := fun x y => ofF_length ..
  have HVL := Lib.hid (fun l => valsK_length (f := f) L l)
  have HCL := Lib.hid (fun l => coefsK_length (f := f) L l)
  replace HVV : Hid (∀ v (l : KL f), l.length = 2 ^ L → ∀ wz, TabW wz → SlK wz wz.heap.size v l → Calls Tryz.prog 137 #[.int .u8 f, v] wz (RetBlk0 (valsK L l) wz)) := fun v l hl wz h1 h2 => HVV.out L hL v l hl wz h1 h2
  replace HCC : Hid (∀ v (l : KL f), l.length = 2 ^ L → ∀ wz, TabW wz → SlK wz wz.heap.size v l → Calls Tryz.prog 35 #[.int .u8 f, v] wz (RetBlk0 (coefsK L l) wz)) := fun v l hl wz h1 h2 => HCC.out L hL v l hl wz h1 h2
  clear hLn
  obtain ⟨N, hN⟩ : ∃ N, 2 ^ L = N := ⟨_, rfl⟩
  rw [hN] at HNX hL2 hLs HRES HMV HML HVL HCL HVV HCC
  clear hN HNT HDI HPM
  obtain ⟨k1, hk1⟩ : ∃ k, N - la = k := ⟨_, rfl⟩
  obtain ⟨k2, hk2⟩ : ∃ k, N - lb = k := ⟨_, rfl⟩
  rw [hk1, hk2] at HRES
  have hi1 : (N : Int) - (la : Int) = (k1 : Int) := by omega
  have hi2 : (N : Int) - (lb : Int) = (k2 : Int) := by omega
  have hs1 : la + k1 = N := by omega
  have hs2' : lb + k2 = N := by omega
  have h16' : ¬ (mn ≤ 16) := h16
  have hgab : ga ≠ gb := by have := HLT1.out ga rfl; omega
  clear hk1 hk2 hmn
  have HOA := Lib.hid ho1
  have HOB := Lib.hid ho2
  clear ho1 ho2 ra rb
  go_wp2_with fail
  refine (HNX.out _).mono ?_
  rintro e w' ⟨rfl, rfl⟩
  obtain ⟨g3, c3, w3, hr3, ho3, he3, hg3⟩ := run_append_Z w2 w.heap.size ga la c1 k1 24 ta HLA.out (own_mono HOA.out (Nat.le_refl _)) hs2 (by omega)
  have hr3' := Lib.hid hr3
  clear hr3
  go_wp2_with (at_builtin; refine Lib.wpList_append_run _ rfl _ _ _ _ rfl _ _ rfl rfl _ _ hr3'.out ?_)
  have hb3 : Below w.heap.size w2 w3 := he3.belowB2 hga hs2
  have hob3 := own_far HOB.out (fun e => hgab e.symm) he3
  have HOB3 := Lib.hid hob3
  replace hb00 : Below w.heap.size w w3 := hb00.trans hb3
  have hsz3 := he3.size
  obtain ⟨rx3, _, hc3, hcm3, hlen3⟩ := own_rw ho3
  have sx3 := rx3.sl hlen3 hc3 hcm3
  rw [hs1] at sx3
  have HL3 : Hid ((ta ++ List.replicate k1 0).length = N) := hlen3.trans hs1
  have hg3b : gb ≠ g3 := by
   have h1 := HLT1.out ga rfl
   have h2 := (HOB.out.lt gb rfl).2
   rcases hg3 with h | h
   ·omega
   ·omega
  clear hob3 he3 hb3 ho3 rx3 hc3 hcm3 hlen3 hg3 hr3' HOA
  go_wp2_with fail
  refine (HVV.out _ _ HL3.out _ (HT0.out.call hb00) sx3).mono ?_
  rintro e w4 ⟨gx, rfl, rx, hgx, hb4⟩
  have hobl := (HOB3.out.lt gb rfl).2
  have hob4 := own_call HOB3.out hb4
  rw [HVL.out]
  replace hb00 := bl_call hb00 (Nat.le_refl _) hb4
  have hs4 := hb00.size
  have hgxb : gx ≠ gb := by omega
  have HOB4 := Lib.hid hob4
  clear hob4 HOB3 HOB hb4 sx3
  have hgbw : w.heap.size ≤ gb := by omega
  obtain ⟨g5, c5, w5, hr5, ho5, he5, hg5⟩ := run_append_Z w4 w.heap.size gb lb c2 k2 24 tb HLB.out (own_mono HOB4.out hb12') hs4 (by omega)
  have hr5' := Lib.hid hr5
  clear hr5
  go_wp2_with (at_builtin; refine Lib.wpList_append_run _ rfl _ _ _ _ rfl _ _ rfl rfl _ _ hr5'.out ?_)
  have hb5 : Below w.heap.size w4 w5 := he5.belowB2 hgbw hs4
  replace rx := rx.exc hgxb he5
  replace hb00 : Below w.heap.size w w5 := hb00.trans hb5
  have hsz5 := he5.size
  obtain ⟨rx5, _, hc5, hcm5, hlen5⟩ := own_rw ho5
  have sx5 := rx5.sl hlen5 hc5 hcm5
  rw [hs2'] at sx5
  have HL5 : Hid ((tb ++ List.replicate k2 0).length = N) := hlen5.trans hs2'
  clear he5 hb5 ho5 rx5 hc5 hcm5 hlen5 hg5 hr5' HOB4
  go_wp2_with fail
  refine (HVV.out _ _ HL5.out _ (HT0.out.call hb00) sx5).mono ?_
  rintro e w6 ⟨gy, rfl, ry, hgy, hb6⟩
  have hgxy : gx < gy := Nat.lt_of_lt_of_le rx.lt hgy
  rw [HVL.out]
  replace hb00 := bl_call hb00 (Nat.le_refl _) hb6
  replace rx := rx.call hb6
  have hgxw : w.heap.size ≤ gx := by omega
  clear hb6 sx5
  have HXL := Lib.hid (HVL.out (ta ++ List.replicate k1 0))
  have HYL := Lib.hid (HVL.out (tb ++ List.replicate k2 0))
  generalize valsK L (ta ++ List.replicate k1 0) = X at *
  generalize valsK L (tb ++ List.replicate k2 0) = Y at *
  have HM1 := Lib.hid (fun k hk => HMV.out X Y k hk)
  have HM2 := Lib.hid (HML.out X Y)
  generalize mulV L X Y = M at *
  go_wp2_with fail
  go_loopw [81] (fun kv wr => ∃ (k : Nat) (S : KL f), k ≤ N ∧ kv = .int .i64 k ∧ RwK wr gx S ∧ RwK wr gy Y ∧ Hid (S.length = N ∧ (∀ j, j < k → S.getD j 0 = M.getD j 0) ∧ ∀ j, k ≤ j → S.getD j 0 = X.getD j 0) ∧ Below w.heap.size w wr) (fun kv _ => N - (intOf kv).toNat)
  case atStart => exact ⟨0, X, Nat.zero_le _, rfl, rx, ry, ⟨HXL.out, fun j h => absurd h (Nat.not_lt_zero _), fun _ _ => rfl⟩, hb00⟩
  case round =>
   clear rx ry hb00
   obtain ⟨k, S, hk, rfl, rx, ry, hS, hb00⟩ := hrel
   by_cases hkN : k < N
   ·have g1 : (0 : Int) ≤ (k : Int) := by omega
    have g3 : (k : Int) < (N : Int) := by omega
    have HSL : Hid (S.length = N) := hS.out.1
    have HS1 : Hid (∀ j, j < k → S.getD j 0 = M.getD j 0) := hS.out.2.1
    have HS2 : Hid (∀ j, k < j → S.getD j 0 = X.getD j 0) := fun j hj => hS.out.2.2 j (by omega)
    obtain ⟨x, hx⟩ : ∃ x, S[k]? = some x := ⟨_, List.getElem?_eq_getElem (by have := HSL.out; omega)⟩
    obtain ⟨y, hy⟩ : ∃ y, Y[k]? = some y := ⟨_, List.getElem?_eq_getElem (by have := HYL.out; omega)⟩
    have HXY : Hid (M.getD k 0 = x * y) := by
     show _ = _
     have h1 := hS.out.2.2 k (Nat.le_refl _)
     rw [List.getD_eq_getElem?_getD, hx] at h1
     have h2 : Y.getD k 0 = y := by rw [List.getD_eq_getElem?_getD, hy]; rfl
     rw [HM1.out k hkN, ← h1, h2]
     rfl
    obtain ⟨c0, c1⟩ := rx.at hx
    obtain ⟨d0, d1⟩ := ry.at hy
    have g8 := rx.lt
    have g9 := ry.lt
    clear hx hy hS
    go_upto_region 21 with fail
    refine region_B (n := 12) (m := 14) (f := 12) (by kernel_rfl) (by kernel_rfl) rfl ?_
    refine WpH.vD 0 (some 84) ?_ rfl rfl (by kernel_rfl) (fun _ _ _ h => h) rfl (fun wz hwz => ?_) ?_
    rotate_left
    ·go_simp; try (with_reducible rfl)
    simp only [Zp, Zq, Zr, Zs]
    refine WpH.vD 1 (some 85) ?_ rfl rfl (by kernel_rfl) (fun _ _ _ h => h) rfl (fun wz hwz => ?_) ?_
    rotate_left
    ·go_simp; try (with_reducible rfl)
    simp only [Zp, Zq, Zr, Zs]
    refine WpH.vD 2 (some 86) ?_ rfl rfl (by kernel_rfl) (fun _ _ _ h => h) rfl (fun wz hwz => ?_) ?_
    rotate_left
    ·go_simp; try (with_reducible rfl)
    simp only [Zp, Zq, Zr, Zs]
    refine WpH.vD 3 (some 87) ?_ rfl rfl (by kernel_rfl) (fun _ _ _ h => h) rfl (fun wz hwz => ?_) ?_
    rotate_left
    ·go_simp; try (with_reducible rfl)
    simp only [Zp, Zq, Zr, Zs]
    refine WpH.vD 4 (some 88) ?_ rfl rfl (by kernel_rfl) (fun _ _ _ h => h) rfl (fun wz hwz => ?_) ?_
    rotate_left
    ·go_simp; try (with_reducible rfl)
    simp only [Zp, Zq, Zr, Zs]
    refine WpH.vD 5 (some 89) ?_ rfl rfl (by kernel_rfl) (fun _ _ _ h => h) rfl (fun wz hwz => ?_) ?_
    rotate_left
    ·go_simp; try (with_reducible rfl)
    simp only [Zp, Zq, Zr, Zs]
    refine WpH.vD 6 (some 90) ?_ rfl rfl (by kernel_rfl) (fun _ _ _ h => h) rfl (fun wz hwz => ?_) ?_
    rotate_left
    ·(obtain ⟨hcz, hfz⟩ := bcell hwz; go_simp; try (with_reducible rfl))
    simp only [Zp, Zq, Zr, Zs]
    refine WpH.vD 7 (some 91) ?_ rfl rfl (by kernel_rfl) (fun _ _ _ h => h) rfl (fun wz hwz => ?_) ?_
    rotate_left
    ·go_simp; try (with_reducible rfl)
    simp only [Zp, Zq, Zr, Zs]
    refine WpH.vD 8 (some 92) ?_ rfl rfl (by kernel_rfl) (fun _ _ _ h => h) rfl (fun wz hwz => ?_) ?_
    rotate_left
    ·go_simp; try (with_reducible rfl)
    simp only [Zp, Zq, Zr, Zs]
    refine WpH.vD 9 (some 93) ?_ rfl rfl (by kernel_rfl) (fun _ _ _ h => h) rfl (fun wz hwz => ?_) ?_
    rotate_left
    ·go_simp; try (with_reducible rfl)
    simp only [Zp, Zq, Zr, Zs]
    refine WpH.vD 10 (some 94) ?_ rfl rfl (by kernel_rfl) (fun _ _ _ h => h) rfl (fun wz hwz => ?_) ?_
    rotate_left
    ·(obtain ⟨hcz, hfz⟩ := bcell hwz; go_simp; try (with_reducible rfl))
    simp only [Zp, Zq, Zr, Zs]
    refine WpH.takeD 11 (some 95) rfl rfl (by kernel_rfl) (fun _ _ _ h => h) (.call rfl (fun wz hwz => HMU.out x y wz) (fun wz hwz => ?_)) ?_
    ·go_simp; try (with_reducible rfl)
    simp only [Zp, Zq, Zr, Zs]
    refine WpH.doneB (by kernel_rfl) (fun w7 hw7 => ?_)
    (try simp only [List.drop_succ_cons]); (try simp only [List.drop_zero]); (try simp only [Nat.reduceSub]); (try simp only [List.take_succ_cons]); (try simp only [List.take_zero])
    clear c0 c1 d0 d1 g8 g9
    replace hb00 := bl_call hb00 (Nat.le_refl _) hw7
    replace rx := rx.call hw7
    replace ry := ry.call hw7
    clear hw7
    obtain ⟨x9, hx9⟩ : ∃ x, S[k]? = some x := ⟨_, List.getElem?_eq_getElem (by have := HSL.out; omega)⟩
    obtain ⟨c0, c1⟩ := rx.at hx9
    obtain ⟨f0, f1⟩ := rx.frz (i := k) (by have := HSL.out; omega)
    have g8 := rx.lt
    clear hx9
    go_wp2_with fail
    go_roundw
    case rel => exact ⟨k + 1, _, by omega, by go_num, rx.set k (by have := HSL.out; omega) (x * y), (ry.far (by dsimp only; omega) _).far (by dsimp only; omega) _, ⟨by rw [List.length_set]; exact HSL.out, fun j hj => by
     rw [set_getD _ _ _ (by have := HSL.out; omega)]
     by_cases he : j = k
     ·rw [if_pos he, he, HXY.out]
     ·rw [if_neg he]
      exact HS1.out j (by omega), fun j hj => by
     rw [set_getD _ _ _ (by have := HSL.out; omega), if_neg (by omega)]
     exact HS2.out j (by omega)⟩, by repeat (first | exact bA | with_reducible assumption | apply bB | (refine bC ?_ (by dsimp only; omega)) | apply bD | apply bE | (refine bF ?_ (by assumption)))⟩
    case measure => simp [intOf]; omega
   ·obtain rfl : k = N := by omega
    have hSM : S = M := ext_getD (by rw [hS.out.1, HM2.out]) fun i => by
     by_cases hi : i < k
     ·exact hS.out.2.1 i hi
     ·rw [Fm.getD_end (by have := hS.out.1; omega), Fm.getD_end (by have := HM2.out; omega)]
    subst hSM
    have sx := rx.sl hS.out.1 (Nat.le_refl _) (by omega)
    have HSL : Hid (S.length = k) := hS.out.1
    have hT9 := HT0.out.call hb00
    have HT9 := Lib.hid hT9
    clear rx ry hS hT9
    go_wp2_with fail
    refine (HCC.out _ S HSL.out _ HT9.out sx).mono ?_
    rintro e w8 ⟨gc, rfl, rc, _, hb8⟩
    rw [HCL.out]
    replace hb00 := bl_call hb00 (Nat.le_refl _) hb8
    have sc := rc.sl (HCL.out S) (Nat.le_refl _) (by omega)
    have HCB : Hid ((coefsK L S).length ≤ 1000000) := by show _ ≤ _; rw [HCL.out]; omega
    clear rc hb8 sx
    go_wp2_with fail
    refine (poly_Trim _ (coefsK L S) _ sc HCB.out).mono ?_
    rintro e w9 ⟨v, rfl, ho, hb9⟩
    rw [HRES.out] at ho
    go_wp2_with fail
    go_ret2
    exact ⟨v, rfl, own_mono ho hb00.size, bl_call hb00 (Nat.le_refl _) hb9⟩
end

end Go.Proofs.YtfbfbijkkbflkaaGreatDoor

namespace Go.Proofs.YtfbfbijkkbflkaaGreatDoor
open Go.RowKit Fm
set_option linter.unusedVariables false
set_option maxRecDepth 100000

theorem argOf_lenP {f : Nat} (y : CK) (v j : KL f) (part : Fin (Pm f)) (k : Nat) : (argOf y v j part k).length = (y.gad f).arity := by
 cases y with
 | count => rfl
 | sum b => rfl
 | vec b l c => exact argL_length _ _ _ _ _
 | hist l c => exact argL_length _ _ _ _ _
 | multi l m c => exact argL_length _ _ _ _ _

section
variable {f : Nat}
def linesA (seeds : KL f) (args : Nat → KL f) (a k : Nat) : List (KL f) := (List.range a).map fun i => lineA (seeds.getD i 0) args i k
theorem linesA_length (seeds : KL f) (args : Nat → KL f) (a k : Nat) : (linesA seeds args a k).length = a := by simp [linesA]
theorem linesA_at (seeds : KL f) (args : Nat → KL f) (a k i : Nat) (x : KL f) (h : (linesA seeds args a k)[i]? = some x) : x.length = k + 1 := by
 unfold linesA at h
 rw [List.getElem?_map] at h
 cases hr : (List.range a)[i]? with
 | none => rw [hr] at h; cases h
 | some j =>
  rw [hr] at h
  injection h with h
  rw [← h, lineA_length]
theorem linesA_step (seeds : KL f) (args : Nat → KL f) (a k : Nat) : apn (linesA seeds args a k) (args k) (linesA seeds args a k).length = linesA seeds args a (k + 1) := by
 rw [linesA_length]
 refine List.ext_getElem? fun j => ?_
 rw [apn_at]
 unfold linesA
 rw [List.getElem?_map, List.getElem?_map]
 by_cases hj : j < a
 ·rw [List.getElem?_range hj]
  simp only [Option.map_some, if_pos hj, Option.some.injEq]
  rw [lineA_succ]
 ·rw [List.getElem?_eq_none (by simpa using hj)]
  rfl
theorem linesA_zero (seeds : KL f) (args : Nat → KL f) (a : Nat) (h : seeds.length = a) : linesA seeds args a 0 = seeds.map fun x => [x] := by
 subst h
 refine List.ext_getElem? fun j => ?_
 unfold linesA
 rw [List.getElem?_map, List.getElem?_map]
 by_cases hj : j < seeds.length
 ·rw [List.getElem?_range hj, List.getElem?_eq_getElem hj]
  simp [lineA, List.getD_eq_getElem?_getD, hj]
 ·rw [List.getElem?_eq_none (by simpa using hj), List.getElem?_eq_none (by simpa using hj)]
  rfl
def prvA (L : Nat) (gd : Gad f) (seeds : KL f) (args : Nat → KL f) (n : Nat) : KL f := seeds ++ gpoly gd (polysA L seeds args n gd.arity)
def prvL (L : Nat) (gd : Gad f) (seeds : KL f) (args : Nat → KL f) (n tot : Nat) : KL f := prvA L gd seeds args n ++ List.replicate (tot - (prvA L gd seeds args n).length) 0
theorem linesA_polys (L : Nat) (seeds : KL f) (args : Nat → KL f) (a k : Nat) : ((linesA seeds args a k).map fun l => l ++ List.replicate (2 ^ L - (k + 1)) 0).map (coefsK L) = polysA L seeds args k a := by
 unfold linesA polysA padTo
 rw [List.map_map, List.map_map]
 refine List.map_congr_left fun i _ => ?_
 simp only [Function.comp_apply, lineA_length]
end

section
variable {f : Nat} (hf : IsF f)
include hf
theorem asked_prove (y : CK) (hy : y.ok) (hcl : y.calls ≤ 511) (v j seeds : KL f) (E : Nat → Prop) (wE : World) (pb gb yb wb : Nat) (kd : Int) (sl : Value) (nn : Int)
  (hC : CapP E wE pb gb yb wb kd sl nn [.int .u8 (y.k : Nat), .int .u8 f, .int .i64 (y.b : Nat), .int .i64 (y.l : Nat), .int .i64 (y.m : Nat), .int .i64 (y.c : Nat)] (y.gad f)) (ha : (y.gad f).arity = y.arity) :
  Asked y v j 1 84 #[.pointer (some ⟨pb, 0, none⟩), .pointer (some ⟨gb, 0, none⟩), .pointer (some ⟨yb, 0, none⟩)] (InvW wb (nextP (y.calls + 1)) E (Agr E wE) (linesA seeds (argOf y v j 1) (y.gad f).arity)) (fun k => gval (y.gad f) (argOf y v j 1 k)) 0 := by
 refine ⟨fun args w => by kernel_rfl, fun k D w va hk hst hv => ?_⟩
 obtain ⟨L, hL, hN, hN2⟩ := nextP_pow (y.calls + 1) (by omega)
 have hN4 := (nextP_le (y.calls + 1)).2
 have hal := CK.arity_le hy
 exact prove_closure hf E wE pb gb yb wb (nextP (y.calls + 1)) kd sl nn _ _ _ _ _ (y.gad f) hC _ k (argOf y v j 1 k) (fun i x h => linesA_at _ _ _ _ _ _ h) (by rw [hN]; omega) (by omega) (linesA_length _ _ _ _) (argOf_lenP y v j 1 k) (by rw [ha]; exact hal.1) (by rw [ha]; exact hal.2) (linesA_step _ _ _ _) D w va hst hv
end

end Go.Proofs.YtfbfbijkkbflkaaGreatDoor

namespace Go.Proofs.YtfbfbijkkbflkaaGreatDoor
open Go.RowKit Fm
set_option linter.unusedVariables false
set_option maxRecDepth 100000

theorem SlK.same {f : Nat} {w w' : World} {v : Value} {l : KL f} (h : SlK w w.heap.size v l) (hs : ∀ (p : Addr) (a c : Nat), v = .slice (some p) a c → w'.heap[p.block]? = w.heap[p.block]? ∧ p.block < w'.heap.size) : SlK w' w'.heap.size v l := by
 obtain ⟨A, c, hv, k1, k2, k3⟩ := h
 refine ⟨A, c, hv, k1, k2, fun hl => ?_⟩
 obtain ⟨b, o, e1, e2, e3⟩ := k3 hl
 subst e1
 obtain ⟨q1, q2⟩ := hs _ _ _ hv
 exact ⟨b, o, rfl, q2, fun i e hi => ⟨(World.cell?_of_block (w := w) (a := ⟨b, o + i * 2, none⟩) q1).trans (e3 i e hi).1, (World.cell?_of_block (w := w) (a := ⟨b, o + i * 2 + 1, none⟩) q1).trans (e3 i e hi).2⟩⟩

structure CapQ {f : Nat} (E : Nat → Prop) (wE : World) (pb fb qb tb wb : Nat) (vp vt : Value) (P T : KL f) : Prop where
 p : Vs wE pb [.pointer (some ⟨wb, 0, none⟩)]
 f : Vs wE fb [.int .u8 f]
 q : Vs wE qb [vp]
 t : Vs wE tb [vt]
 sp : SlK wE wE.heap.size vp P
 st : SlK wE wE.heap.size vt T
 ep : E pb
 ef : E fb
 eq : E qb
 et : E tb
 bp : ∀ (p : Addr) (a c : Nat), vp = .slice (some p) a c → E p.block
 bt : ∀ (p : Addr) (a c : Nat), vt = .slice (some p) a c → E p.block
 lt : ∀ q, E q → q < wE.heap.size
theorem CapQ.at {f : Nat} {E : Nat → Prop} {wE w : World} {pb fb qb tb wb : Nat} {vp vt : Value} {P T : KL f} (h : CapQ E wE pb fb qb tb wb vp vt P T) (ha : Agr E wE w) :
  Vs w pb [.pointer (some ⟨wb, 0, none⟩)] ∧ Vs w fb [.int .u8 f] ∧ Vs w qb [vp] ∧ Vs w tb [vt] ∧ SlK w w.heap.size vp P ∧ SlK w w.heap.size vt T :=
 ⟨h.p.sameW (ha _ h.ep), h.f.sameW (ha _ h.ef), h.q.sameW (ha _ h.eq), h.t.sameW (ha _ h.et), h.sp.same fun p a c hs => ⟨ha _ (h.bp p a c hs), ha.lt (h.bp p a c hs) (h.lt _ (h.bp p a c hs))⟩, h.st.same fun p a c hs => ⟨ha _ (h.bt p a c hs), ha.lt (h.bt p a c hs) (h.lt _ (h.bt p a c hs))⟩⟩

def InvQ {f : Nat} (wb sz cb : Nat) (E : Nat → Prop) (wE : World) (lsOf : Nat → List (KL f)) (k : Nat) : (Nat → Prop) → World → Prop :=
 InvW wb sz (fun q => q = cb ∨ E q) (fun w => Agr E wE w ∧ Vs w cb [.int .i64 (k : Nat)]) lsOf k
theorem InvQ.st {f : Nat} {wb sz cb : Nat} {E : Nat → Prop} {wE w : World} {lsOf : Nat → List (KL f)} {k : Nat} {D : Nat → Prop} (h : InvQ wb sz cb E wE lsOf k D w) (hl : ∀ q, E q → q < wE.heap.size) : St (InvQ wb sz cb E wE lsOf k) D w :=
 InvW.st h (fun w h q hq => by
  rcases hq with rfl | hq
  ·exact h.2.lt
  ·exact h.1.lt hq (hl q hq)) (fun w w' h hb => ⟨fun q hq => (hb q (.inr hq)).trans (h.1 q hq), h.2.sameW (hb cb (.inl rfl))⟩)

section
variable {f : Nat} (hf : IsF f)
include hf

end

end Go.Proofs.YtfbfbijkkbflkaaGreatDoor
