/-
  WALK: tallymanlaw09.GadgetChecks.
-/
import Derived.Test.YtfhmineolncefaaDoorMba
import Derived.Test.YtfhmineolncefaaDoorMag
namespace Go.Proofs.YtfhmineolncefaaDoor
open Go.RowKit Fm
set_option linter.unusedVariables false
set_option maxRecDepth 100000

section
theorem gadget_Arity_mul (n : Int) (sl : Value) (w : World) : Calls Tryd.prog 53 #[vG 1 sl n] w (RetI0 ((2 : Nat) : Int) w) := by
  go_enter Tryd.func53, Tryd.ntmps53
  go_wp2
  go_ret
  exact ⟨rfl, by repeat (first | exact Below.refl _ _ | with_reducible assumption | (refine bl_alloc ?_ (Nat.le_refl _) _) | (refine bl_set ?_ (by dsimp only; omega) _) | (refine Below.drew ?_) | (refine bl_drewN ?_ _) | (refine bl_call ?_ (Nat.le_refl _) (by assumption)))⟩
theorem gadget_Arity_eval (n : Int) (sl : Value) (w : World) : Calls Tryd.prog 53 #[vG 2 sl n] w (RetI0 ((1 : Nat) : Int) w) := by
  go_enter Tryd.func53, Tryd.ntmps53
  go_wp2
  go_ret
  exact ⟨rfl, by repeat (first | exact Below.refl _ _ | with_reducible assumption | (refine bl_alloc ?_ (Nat.le_refl _) _) | (refine bl_set ?_ (by dsimp only; omega) _) | (refine Below.drew ?_) | (refine bl_drewN ?_ _) | (refine bl_call ?_ (Nat.le_refl _) (by assumption)))⟩
theorem gadget_Arity_par (n : Nat) (hn : n ≤ 16) (sl : Value) (w : World) : Calls Tryd.prog 53 #[vG 3 sl n] w (RetI0 ((2 * n : Nat) : Int) w) := by
  have hmx : max (n : Int) 0 = (n : Int) := by omega
  go_enter Tryd.func53, Tryd.ntmps53
  go_wp2
  go_ret
  exact ⟨ret_int (show 2 * (n : Int) = ((2 * n : Nat) : Int) by omega), by repeat (first | exact Below.refl _ _ | with_reducible assumption | (refine bl_alloc ?_ (Nat.le_refl _) _) | (refine bl_set ?_ (by dsimp only; omega) _) | (refine Below.drew ?_) | (refine bl_drewN ?_ _) | (refine bl_call ?_ (Nat.le_refl _) (by assumption)))⟩
end

set_option maxHeartbeats 8000000 in
theorem walk_GadgetChecks (F k n : Int) (sl vl : Value) (C l : List E) (w : World) (hT : TabW w) (hF0 : 0 ≤ F ∧ F ≤ 255) (hk0 : 0 ≤ k ∧ k ≤ 255) (hs : SlE w w.heap.size sl C) (hl : SlE w w.heap.size vl l) :
    Calls Tryd.prog 12 #[.int .u8 F, vG k sl n, vl] w fun e w' => e = .returned (.bool true) ∧ Below w.heap.size w w' := by
  have heq := eql_elem
  have HAW := Lib.hid (fun wz => law09_Awake wz)
  have HS := Lib.hid hs
  have HL := Lib.hid hl
  have HTB := Lib.hid hT
  have hok : OkL C := hs.2
  have HOK := Lib.hid hok
  obtain ⟨A, c, rfl, hc1, hc2⟩ := hs.shape
  obtain ⟨A2, c2, rfl, hd1, hd2⟩ := hl.shape
  obtain ⟨mC, hmC⟩ : ∃ z, C.length = z := ⟨_, rfl⟩
  have HMC := Lib.hid hmC
  obtain ⟨m, hm⟩ : ∃ z, l.length = z := ⟨_, rfl⟩
  have HM := Lib.hid hm
  rw [hmC] at hc1 HS ⊢
  rw [hm] at hd1 HL ⊢
  clear hmC hm hok hs hl hT
  go_enter Tryd.func12, Tryd.ntmps12
  go_upto_region 1 with fail
  have hx := Vs.new w [.int .u8 k, .slice A mC c, .int .i64 n] #[.int .u8 k, .slice A mC c, .int .i64 n] 68 rfl
  have hb00 : Below w.heap.size w (w.alloc (.cells #[.int .u8 k, .slice A mC c, .int .i64 n] 68)) := by repeat (first | exact Below.refl _ _ | with_reducible assumption | (refine bl_alloc ?_ (Nat.le_refl _) _))
  have hszn : w.heap.size + 1 ≤ (w.alloc (.cells #[.int .u8 k, .slice A mC c, .int .i64 n] 68)).heap.size := by simp only [World.size_alloc]; omega
  generalize (w.alloc (.cells #[.int .u8 k, .slice A mC c, .int .i64 n] 68)) = w1 at hx hb00 hszn ⊢
  go_wp2_with fail
  refine (HAW.out _).mono ?_
  rintro e w2 ⟨rfl, hb2⟩
  replace hb00 := bl_call hb00 (Nat.le_refl _) hb2
  replace hx := hx.call hb2
  clear hb2 HAW
  by_cases h20 : 20 < mC
  · skip
    obtain ⟨x0, x1, x2, x3, x4, x5, x6⟩ := hx.get3
    go_wp2_with fail
    go_ret
    exact ⟨rfl, hb00⟩
  by_cases h40 : 40 < m
  · skip
    obtain ⟨x0, x1, x2, x3, x4, x5, x6⟩ := hx.get3
    go_wp2_with fail
    go_ret
    exact ⟨rfl, hb00⟩
  by_cases hFv : ¬ (F = 1) ∧ ¬ (F = 2)
  · have HCK : Hid (∀ wz, Below w.heap.size w wz → Calls Tryd.prog 51 #[vG k (.slice A mC c) n, .int .u8 F] wz (RetI0 10 wz)) := fun wz _ => gadget_Check_kind F hFv k n _ wz
    have HOF : Hid (∀ wz, Below w.heap.size w wz → Calls Tryd.prog 49 #[vG k (.slice A mC c) n, .int .u8 F, .slice A2 m c2] wz fun e w' => e = .returned (.tuple #[.agg #[.int .u64 0, .int .u64 0], .int .i64 10]) ∧ Below wz.heap.size wz w') := fun wz hb => gadget_Of_err F k n (.slice A mC c) wz 10 (by decide) (fun wy hy => HCK.out wy (hb.trans (hy.mono hb.size))) _
    have HPO : Hid (∀ wz v, Below w.heap.size w wz → Calls Tryd.prog 50 #[vG k (.slice A mC c) n, .int .u8 F, v] wz (RetE9 10 wz)) := fun wz v hb => gadget_Poly_err F k n (.slice A mC c) wz 10 (by decide) (fun wy hy => HCK.out wy (hb.trans (hy.mono hb.size))) v
    have t1 : (F == 1) = false := by rw [beq_eq_false_iff_ne]; exact hFv.1
    have t2 : (F != 1) = true := by rw [bne, t1]; rfl
    have t3 : (F == 2) = false := by rw [beq_eq_false_iff_ne]; exact hFv.2
    have t4 : (F != 2) = true := by rw [bne, t3]; rfl
    clear hFv
    obtain ⟨x0, x1, x2, x3, x4, x5, x6⟩ := hx.get3
    go_wp2_with fail
    refine (HOF.out _ hb00).mono ?_
    rintro e w3 ⟨rfl, hb3⟩
    clear x0 x1 x2 x3 x4 x5 x6
    replace hb00 := bl_call hb00 (Nat.le_refl _) hb3
    replace hx := hx.call hb3
    clear hb3
    obtain ⟨x0, x1, x2, x3, x4, x5, x6⟩ := hx.get3
    go_upto_region 25 with fail
    clear x0 x1 x2 x3 x4 x5 x6
    have zv := V2.new w3 (.int .u64 0) (.int .u64 0) 28
    have hbA : Below w3.heap.size w3 (w3.alloc (.cells #[.int .u64 0, .int .u64 0] 28)) := by repeat (first | exact Below.refl _ _ | with_reducible assumption | (refine bl_alloc ?_ (Nat.le_refl _) _))
    replace hb00 := bl_call hb00 (Nat.le_refl _) hbA
    replace hx := hx.call hbA
    clear hbA
    generalize w3.alloc (.cells #[.int .u64 0, .int .u64 0] 28) = w4 at hb00 hx zv ⊢
    obtain ⟨zb, hzb⟩ : ∃ z, w3.heap.size = z := ⟨_, rfl⟩
    rw [hzb] at zv
    simp only [hzb]
    clear hzb
    have hbA : Below w4.heap.size w4 (w4.alloc (.cells #[.slice A2 m c2] 22)) := (Below.refl _ _).alloc (Nat.le_refl _) _
    have hb5 := bl_call hb00 (Nat.le_refl _) hbA
    have hx5 := hx.call hbA
    have zv5 := zv.call hbA
    have HP5 := Lib.hid (HPO.out _ (.slice (some ⟨w4.heap.size, 0, none⟩) 1 1) hb5)
    clear hbA
    obtain ⟨x0, x1, x2, x3, x4, x5, x6⟩ := hx.get3
    go_wp2_with fail
    refine HP5.out.mono ?_
    rintro e w6 ⟨rfl, hb6⟩
    clear x0 x1 x2 x3 x4 x5 x6
    clear hx hb00 zv HP5
    replace hb5 := bl_call hb5 (Nat.le_refl _) hb6
    replace hx5 := hx5.call hb6
    replace zv5 := zv5.call hb6
    clear hb6
    obtain ⟨x50, x51, x52, x53, x54, x55, x56⟩ := hx5.get3
    go_wp2_with fail
    refine (HCK.out _ hb5).mono ?_
    rintro e w7 ⟨rfl, hb7⟩
    clear x50 x51 x52 x53 x54 x55 x56
    replace hb5 := bl_call hb5 (Nat.le_refl _) hb7
    replace hx5 := hx5.call hb7
    replace zv5 := zv5.call hb7
    clear hb7
    obtain ⟨zv50, zv51, zv52, zv53, zv54⟩ := V2.mk zv5.c0 zv5.c1 zv5.f0 zv5.f1 zv5.lt
    go_wp2_with fail
    go_ret
    exact ⟨rfl, hb5⟩
  · have hF12 : F = 1 ∨ F = 2 := by omega
    clear hFv
    rcases hF12 with hF1 | hF1
    · have HFF : Hid (F = ((1 : Nat) : Int)) := hF1
      have HFI : Hid (IsF 1) := isF1
      have t1 : (F == 1) = true := by rw [beq_iff_eq]; exact hF1
      have t2 : (F != 1) = false := by rw [bne, t1]; rfl
      clear hF1
      have HFM : Hid (∀ (e0 e1 : Int) wz, okE (e0, e1) → Calls Tryd.prog 48 #[.int .i64 F, .agg #[.int .u64 e0, .int .u64 e1]] wz fun e w' => e = .returned (.bool (inB 1 (e0, e1))) ∧ Below wz.heap.size wz w') := fun e0 e1 wz h => by
        rw [HFF.out]
        exact ref_In _ _ e0 e1 wz (FM.ofN HFI.out) h.1 h.2.1 h.2.2.1 h.2.2.2
      rcases (by omega : k = 1 ∨ k = 2 ∨ k = 3 ∨ (¬ (k = 1) ∧ ¬ (k = 2) ∧ ¬ (k = 3))) with hk | hk | hk | hk
      · subst hk
        have HCK : Hid (∀ wz, Below w.heap.size w wz → Calls Tryd.prog 51 #[vG 1 (.slice A mC c) n, .int .u8 F] wz (RetI0 0 wz)) := fun wz _ => by
          rw [HFF.out]
          exact gadget_Check_mul HFI.out n _ wz
        have HOF : Hid (∀ wz, Below w.heap.size w wz → Calls Tryd.prog 49 #[vG 1 (.slice A mC c) n, .int .u8 F, .slice A2 m c2] wz (RetEAny wz)) := fun wz hb => by
          by_cases hm2 : m = 2
          · have HC9 := HCK.out
            rw [HFF.out] at HC9 ⊢
            exact gadget_Of_pairsE HFI.out 1 n _ wz (fun wy hy => HC9 wy (hb.trans (hy.mono hb.size))) 2 (fun wy => gadget_Arity_mul n _ wy) rfl _ l (HL.out.later hb) 1 rfl (by rw [HM.out]; exact hm2) (by omega)
          · exact gadget_Of_sizeE F 1 n _ wz (fun wy hy => HCK.out wy (hb.trans (hy.mono hb.size))) 2 (fun wy => gadget_Arity_mul n _ wy) A2 m c2 hm2
        have HPO : Hid (∀ wz b, Below w.heap.size w wz → b < wz.heap.size → wz.cell? ⟨b, 0, none⟩ = some (.slice A2 m c2) → Calls Tryd.prog 50 #[vG 1 (.slice A mC c) n, .int .u8 F, .slice (some ⟨b, 0, none⟩) 1 1] wz (RetAny wz)) := fun wz b hb _ _ => gadget_Poly_size F 1 n _ wz (fun wy hy => HCK.out wy (hb.trans (hy.mono hb.size))) 2 (fun wy => gadget_Arity_mul n _ wy) _ 1 1 (by omega)
        obtain ⟨x0, x1, x2, x3, x4, x5, x6⟩ := hx.get3
        go_wp2_with fail
        refine (HOF.out _ hb00).mono ?_
        rintro e w3 ⟨z0, z1, c3, rfl, hb3⟩
        clear x0 x1 x2 x3 x4 x5 x6
        replace hb00 := bl_call hb00 (Nat.le_refl _) hb3
        replace hx := hx.call hb3
        clear hb3
        obtain ⟨x0, x1, x2, x3, x4, x5, x6⟩ := hx.get3
        go_upto_region 25 with fail
        clear x0 x1 x2 x3 x4 x5 x6
        have zv := V2.new w3 (.int .u64 z0) (.int .u64 z1) 28
        have hbA : Below w3.heap.size w3 (w3.alloc (.cells #[.int .u64 z0, .int .u64 z1] 28)) := by repeat (first | exact Below.refl _ _ | with_reducible assumption | (refine bl_alloc ?_ (Nat.le_refl _) _))
        replace hb00 := bl_call hb00 (Nat.le_refl _) hbA
        replace hx := hx.call hbA
        clear hbA
        generalize w3.alloc (.cells #[.int .u64 z0, .int .u64 z1] 28) = w4 at hb00 hx zv ⊢
        obtain ⟨zb, hzb⟩ : ∃ z, w3.heap.size = z := ⟨_, rfl⟩
        rw [hzb] at zv
        simp only [hzb]
        clear hzb
        have hA1 := Vs.new w4 [.slice A2 m c2] #[.slice A2 m c2] 22 rfl
        have hbA : Below w4.heap.size w4 (w4.alloc (.cells #[.slice A2 m c2] 22)) := (Below.refl _ _).alloc (Nat.le_refl _) _
        have hb5 := bl_call hb00 (Nat.le_refl _) hbA
        have hx5 := hx.call hbA
        have zv5 := zv.call hbA
        have HP5 := Lib.hid (HPO.out _ w4.heap.size hb5 hA1.lt (hA1.get1).1)
        clear hA1 hbA
        obtain ⟨x0, x1, x2, x3, x4, x5, x6⟩ := hx.get3
        go_wp2_with fail
        refine HP5.out.mono ?_
        rintro e w6 ⟨v6, c6, rfl, hb6⟩
        clear x0 x1 x2 x3 x4 x5 x6
        clear hx hb00 zv HP5
        replace hb5 := bl_call hb5 (Nat.le_refl _) hb6
        replace hx5 := hx5.call hb6
        replace zv5 := zv5.call hb6
        clear hb6
        obtain ⟨x50, x51, x52, x53, x54, x55, x56⟩ := hx5.get3
        go_wp2_with fail
        refine (HCK.out _ hb5).mono ?_
        rintro e w7 ⟨rfl, hb7⟩
        clear x50 x51 x52 x53 x54 x55 x56
        replace hb5 := bl_call hb5 (Nat.le_refl _) hb7
        replace hx5 := hx5.call hb7
        replace zv5 := zv5.call hb7
        clear hb7
        obtain ⟨zv50, zv51, zv52, zv53, zv54⟩ := V2.mk zv5.c0 zv5.c1 zv5.f0 zv5.f1 zv5.lt
        go_wp2_with fail
        go_ret
        exact ⟨rfl, hb5⟩
      · subst hk
        by_cases hm4 : mC < 2 ∨ 4 < mC
        · have HCK : Hid (∀ wz, Below w.heap.size w wz → Calls Tryd.prog 51 #[vG 2 (.slice A mC c) n, .int .u8 F] wz (RetI0 9 wz)) := fun wz _ => by
            rw [HFF.out]
            exact gadget_Check_len HFI.out A mC c n hm4 wz
          have HOF : Hid (∀ wz, Below w.heap.size w wz → Calls Tryd.prog 49 #[vG 2 (.slice A mC c) n, .int .u8 F, .slice A2 m c2] wz fun e w' => e = .returned (.tuple #[.agg #[.int .u64 0, .int .u64 0], .int .i64 9]) ∧ Below wz.heap.size wz w') := fun wz hb => gadget_Of_err F 2 n (.slice A mC c) wz 9 (by decide) (fun wy hy => HCK.out wy (hb.trans (hy.mono hb.size))) _
          have HPO : Hid (∀ wz v, Below w.heap.size w wz → Calls Tryd.prog 50 #[vG 2 (.slice A mC c) n, .int .u8 F, v] wz (RetE9 9 wz)) := fun wz v hb => gadget_Poly_err F 2 n (.slice A mC c) wz 9 (by decide) (fun wy hy => HCK.out wy (hb.trans (hy.mono hb.size))) v
          rcases hm4 with hm4 | hm4
          · skip
            obtain ⟨x0, x1, x2, x3, x4, x5, x6⟩ := hx.get3
            go_wp2_with fail
            refine (HOF.out _ hb00).mono ?_
            rintro e w3 ⟨rfl, hb3⟩
            clear x0 x1 x2 x3 x4 x5 x6
            replace hb00 := bl_call hb00 (Nat.le_refl _) hb3
            replace hx := hx.call hb3
            clear hb3
            obtain ⟨x0, x1, x2, x3, x4, x5, x6⟩ := hx.get3
            go_upto_region 25 with fail
            clear x0 x1 x2 x3 x4 x5 x6
            have zv := V2.new w3 (.int .u64 0) (.int .u64 0) 28
            have hbA : Below w3.heap.size w3 (w3.alloc (.cells #[.int .u64 0, .int .u64 0] 28)) := by repeat (first | exact Below.refl _ _ | with_reducible assumption | (refine bl_alloc ?_ (Nat.le_refl _) _))
            replace hb00 := bl_call hb00 (Nat.le_refl _) hbA
            replace hx := hx.call hbA
            clear hbA
            generalize w3.alloc (.cells #[.int .u64 0, .int .u64 0] 28) = w4 at hb00 hx zv ⊢
            obtain ⟨zb, hzb⟩ : ∃ z, w3.heap.size = z := ⟨_, rfl⟩
            rw [hzb] at zv
            simp only [hzb]
            clear hzb
            have hbA : Below w4.heap.size w4 (w4.alloc (.cells #[.slice A2 m c2] 22)) := (Below.refl _ _).alloc (Nat.le_refl _) _
            have hb5 := bl_call hb00 (Nat.le_refl _) hbA
            have hx5 := hx.call hbA
            have zv5 := zv.call hbA
            have HP5 := Lib.hid (HPO.out _ (.slice (some ⟨w4.heap.size, 0, none⟩) 1 1) hb5)
            clear hbA
            obtain ⟨x0, x1, x2, x3, x4, x5, x6⟩ := hx.get3
            go_wp2_with fail
            refine HP5.out.mono ?_
            rintro e w6 ⟨rfl, hb6⟩
            clear x0 x1 x2 x3 x4 x5 x6
            clear hx hb00 zv HP5
            replace hb5 := bl_call hb5 (Nat.le_refl _) hb6
            replace hx5 := hx5.call hb6
            replace zv5 := zv5.call hb6
            clear hb6
            obtain ⟨x50, x51, x52, x53, x54, x55, x56⟩ := hx5.get3
            go_wp2_with fail
            refine (HCK.out _ hb5).mono ?_
            rintro e w7 ⟨rfl, hb7⟩
            clear x50 x51 x52 x53 x54 x55 x56
            replace hb5 := bl_call hb5 (Nat.le_refl _) hb7
            replace hx5 := hx5.call hb7
            replace zv5 := zv5.call hb7
            clear hb7
            obtain ⟨zv50, zv51, zv52, zv53, zv54⟩ := V2.mk zv5.c0 zv5.c1 zv5.f0 zv5.f1 zv5.lt
            go_wp2_with fail
            go_ret
            exact ⟨rfl, hb5⟩
          · have hm5 : ¬ (mC < 2) := by omega
            obtain ⟨x0, x1, x2, x3, x4, x5, x6⟩ := hx.get3
            go_wp2_with fail
            refine (HOF.out _ hb00).mono ?_
            rintro e w3 ⟨rfl, hb3⟩
            clear x0 x1 x2 x3 x4 x5 x6
            replace hb00 := bl_call hb00 (Nat.le_refl _) hb3
            replace hx := hx.call hb3
            clear hb3
            obtain ⟨x0, x1, x2, x3, x4, x5, x6⟩ := hx.get3
            go_upto_region 25 with fail
            clear x0 x1 x2 x3 x4 x5 x6
            have zv := V2.new w3 (.int .u64 0) (.int .u64 0) 28
            have hbA : Below w3.heap.size w3 (w3.alloc (.cells #[.int .u64 0, .int .u64 0] 28)) := by repeat (first | exact Below.refl _ _ | with_reducible assumption | (refine bl_alloc ?_ (Nat.le_refl _) _))
            replace hb00 := bl_call hb00 (Nat.le_refl _) hbA
            replace hx := hx.call hbA
            clear hbA
            generalize w3.alloc (.cells #[.int .u64 0, .int .u64 0] 28) = w4 at hb00 hx zv ⊢
            obtain ⟨zb, hzb⟩ : ∃ z, w3.heap.size = z := ⟨_, rfl⟩
            rw [hzb] at zv
            simp only [hzb]
            clear hzb
            have hbA : Below w4.heap.size w4 (w4.alloc (.cells #[.slice A2 m c2] 22)) := (Below.refl _ _).alloc (Nat.le_refl _) _
            have hb5 := bl_call hb00 (Nat.le_refl _) hbA
            have hx5 := hx.call hbA
            have zv5 := zv.call hbA
            have HP5 := Lib.hid (HPO.out _ (.slice (some ⟨w4.heap.size, 0, none⟩) 1 1) hb5)
            clear hbA
            obtain ⟨x0, x1, x2, x3, x4, x5, x6⟩ := hx.get3
            go_wp2_with fail
            refine HP5.out.mono ?_
            rintro e w6 ⟨rfl, hb6⟩
            clear x0 x1 x2 x3 x4 x5 x6
            clear hx hb00 zv HP5
            replace hb5 := bl_call hb5 (Nat.le_refl _) hb6
            replace hx5 := hx5.call hb6
            replace zv5 := zv5.call hb6
            clear hb6
            obtain ⟨x50, x51, x52, x53, x54, x55, x56⟩ := hx5.get3
            go_wp2_with fail
            refine (HCK.out _ hb5).mono ?_
            rintro e w7 ⟨rfl, hb7⟩
            clear x50 x51 x52 x53 x54 x55 x56
            replace hb5 := bl_call hb5 (Nat.le_refl _) hb7
            replace hx5 := hx5.call hb7
            replace zv5 := zv5.call hb7
            clear hb7
            obtain ⟨zv50, zv51, zv52, zv53, zv54⟩ := V2.mk zv5.c0 zv5.c1 zv5.f0 zv5.f1 zv5.lt
            go_wp2_with fail
            go_ret
            exact ⟨rfl, hb5⟩
        · obtain ⟨q, hq⟩ : ∃ q, mC = q + 1 := ⟨mC - 1, by omega⟩
          subst hq
          have hq1 : 1 ≤ q := by omega
          have hq3 : q ≤ 3 := by omega
          obtain ⟨⟨y0, y1⟩, hy⟩ : ∃ y, C[q]? = some y := ⟨_, List.getElem?_eq_getElem (by rw [HMC.out]; omega)⟩
          have HCE : Hid (∀ wz, Below w.heap.size w wz → Calls Tryd.prog 51 #[vG 2 (.slice A (q + 1) c) n, .int .u8 F] wz (RetI0 (if (y0 == 0 && y1 == 0) = true then 9 else if ∀ e, e ∈ C → inB 1 e = true then 0 else 7) wz)) := fun wz hb => by
            rw [HFF.out]
            exact gadget_Check_eval HFI.out _ C n wz (HS.out.later hb) q HMC.out hq1 hq3 y0 y1 hy
          obtain ⟨bc, oc, hAe, hBc, hrow⟩ := HS.out.rowOf (by rw [HMC.out]; omega)
          subst hAe
          have HRW := Lib.hid hrow
          have hry := (hrow.below hb00 hBc) q _ hy
          dsimp only at hry
          obtain ⟨d0, d1⟩ := hry
          have hbl : bc < w2.heap.size := Nat.lt_of_lt_of_le hBc hb00.size
          clear hrow hy
          by_cases hd : (y0 == 0 && y1 == 0) = true
          · have HCK : Hid (∀ wz, Below w.heap.size w wz → Calls Tryd.prog 51 #[vG 2 (.slice (some ⟨bc, oc, none⟩) (q + 1) c) n, .int .u8 F] wz (RetI0 9 wz)) := fun wz hb => by
              have h := HCE.out wz hb
              rwa [if_pos hd] at h
            have HOF : Hid (∀ wz, Below w.heap.size w wz → Calls Tryd.prog 49 #[vG 2 (.slice (some ⟨bc, oc, none⟩) (q + 1) c) n, .int .u8 F, .slice A2 m c2] wz fun e w' => e = .returned (.tuple #[.agg #[.int .u64 0, .int .u64 0], .int .i64 9]) ∧ Below wz.heap.size wz w') := fun wz hb => gadget_Of_err F 2 n (.slice (some ⟨bc, oc, none⟩) (q + 1) c) wz 9 (by decide) (fun wy hy => HCK.out wy (hb.trans (hy.mono hb.size))) _
            have HPO : Hid (∀ wz v, Below w.heap.size w wz → Calls Tryd.prog 50 #[vG 2 (.slice (some ⟨bc, oc, none⟩) (q + 1) c) n, .int .u8 F, v] wz (RetE9 9 wz)) := fun wz v hb => gadget_Poly_err F 2 n (.slice (some ⟨bc, oc, none⟩) (q + 1) c) wz 9 (by decide) (fun wy hy => HCK.out wy (hb.trans (hy.mono hb.size))) v
            clear HCE
            obtain ⟨x0, x1, x2, x3, x4, x5, x6⟩ := hx.get3
            go_wp2_with fail
            refine (HOF.out _ hb00).mono ?_
            rintro e w3 ⟨rfl, hb3⟩
            clear x0 x1 x2 x3 x4 x5 x6
            replace hb00 := bl_call hb00 (Nat.le_refl _) hb3
            replace hx := hx.call hb3
            clear hb3
            obtain ⟨x0, x1, x2, x3, x4, x5, x6⟩ := hx.get3
            go_upto_region 25 with fail
            clear x0 x1 x2 x3 x4 x5 x6
            have zv := V2.new w3 (.int .u64 0) (.int .u64 0) 28
            have hbA : Below w3.heap.size w3 (w3.alloc (.cells #[.int .u64 0, .int .u64 0] 28)) := by repeat (first | exact Below.refl _ _ | with_reducible assumption | (refine bl_alloc ?_ (Nat.le_refl _) _))
            replace hb00 := bl_call hb00 (Nat.le_refl _) hbA
            replace hx := hx.call hbA
            clear hbA
            generalize w3.alloc (.cells #[.int .u64 0, .int .u64 0] 28) = w4 at hb00 hx zv ⊢
            obtain ⟨zb, hzb⟩ : ∃ z, w3.heap.size = z := ⟨_, rfl⟩
            rw [hzb] at zv
            simp only [hzb]
            clear hzb
            have hbA : Below w4.heap.size w4 (w4.alloc (.cells #[.slice A2 m c2] 22)) := (Below.refl _ _).alloc (Nat.le_refl _) _
            have hb5 := bl_call hb00 (Nat.le_refl _) hbA
            have hx5 := hx.call hbA
            have zv5 := zv.call hbA
            have HP5 := Lib.hid (HPO.out _ (.slice (some ⟨w4.heap.size, 0, none⟩) 1 1) hb5)
            clear hbA
            obtain ⟨x0, x1, x2, x3, x4, x5, x6⟩ := hx.get3
            go_wp2_with fail
            refine HP5.out.mono ?_
            rintro e w6 ⟨rfl, hb6⟩
            clear x0 x1 x2 x3 x4 x5 x6
            clear hx hb00 zv HP5
            replace hb5 := bl_call hb5 (Nat.le_refl _) hb6
            replace hx5 := hx5.call hb6
            replace zv5 := zv5.call hb6
            clear hb6
            obtain ⟨x50, x51, x52, x53, x54, x55, x56⟩ := hx5.get3
            go_wp2_with fail
            refine (HCK.out _ hb5).mono ?_
            rintro e w7 ⟨rfl, hb7⟩
            clear x50 x51 x52 x53 x54 x55 x56
            replace hb5 := bl_call hb5 (Nat.le_refl _) hb7
            replace hx5 := hx5.call hb7
            replace zv5 := zv5.call hb7
            clear hb7
            obtain ⟨zv50, zv51, zv52, zv53, zv54⟩ := V2.mk zv5.c0 zv5.c1 zv5.f0 zv5.f1 zv5.lt
            go_wp2_with fail
            go_ret
            exact ⟨rfl, hb5⟩
          · replace HCE : Hid (∀ wz, Below w.heap.size w wz → Calls Tryd.prog 51 #[vG 2 (.slice (some ⟨bc, oc, none⟩) (q + 1) c) n, .int .u8 F] wz (RetI0 (if ∀ e, e ∈ C → inB 1 e = true then 0 else 7) wz)) := fun wz hb => by
              have h := HCE.out wz hb
              rwa [if_neg hd] at h
            replace hd : (y0 == 0 && y1 == 0) = false := by simpa using hd
            have HAT : Hid (∀ j, j < q + 1 → ∃ e0 e1, C[j]? = some (e0, e1)) := fun j hj => ⟨(C[j]'(by have := HMC.out; omega)).1, (C[j]'(by have := HMC.out; omega)).2, List.getElem?_eq_getElem (by have := HMC.out; omega)⟩
            obtain ⟨x0, x1, x2, x3, x4, x5, x6⟩ := hx.get3
            go_wp2_with fail
            clear x0 x1 x2 x3 x4 x5 x6
            clear d0 d1 hbl hd
            go_loopw [7, 64] (fun wv iv wr => ∃ (j : Nat) (W : Int), j ≤ q + 1 ∧ iv = .int .i64 j ∧ wv = .int .i64 W ∧ Hid ((W = 0 ∧ ∀ (i : Nat) (e : E), i < j → C[i]? = some e → inB 1 e = true) ∨ (W = 7 ∧ ∃ (i : Nat) (e : E), C[i]? = some e ∧ inB 1 e = false)) ∧ Vs wr w.heap.size [.int .u8 2, .slice (some ⟨bc, oc, none⟩) (q + 1) c, .int .i64 n] ∧ Below w.heap.size w wr) (fun _ iv _ => q + 1 - (intOf iv).toNat)
            case atStart => exact ⟨0, 0, Nat.zero_le _, rfl, rfl, .inl ⟨rfl, fun i e h => absurd h (Nat.not_lt_zero _)⟩, hx, hb00⟩
            case round =>
              clear hx hb00
              obtain ⟨j, W, hjq, rfl, rfl, HW, hx, hb00⟩ := hrel
              by_cases hlt : j < q + 1
              · obtain ⟨e0, e1, he⟩ := HAT.out j hlt
                have hrb := (HRW.out.below hb00 hBc) j _ he
                dsimp only at hrb
                obtain ⟨d0, d1⟩ := hrb
                have HOE : Hid (okE (e0, e1)) := HOK.out.at he
                have HE := Lib.hid he
                obtain ⟨t, ht⟩ : ∃ t, inB 1 (e0, e1) = t := ⟨_, rfl⟩
                have HI1 : Hid (∀ wz, Calls Tryd.prog 48 #[.int .i64 F, .agg #[.int .u64 e0, .int .u64 e1]] wz fun e w' => e = .returned (.bool t) ∧ Below wz.heap.size wz w') := fun wz => by
                  have h := HFM.out e0 e1 wz HOE.out
                  rwa [ht] at h
                have HT := Lib.hid ht
                have g1 : (0 : Int) ≤ (j : Int) := by omega
                have g2 : (j : Int) < (q : Int) + 1 := by omega
                have g3 : (j : Int) < ((q + 1 : Nat) : Int) := by omega
                have hbl : bc < wr.heap.size := Nat.lt_of_lt_of_le hBc hb00.size
                clear he ht
                go_upto_region 17 with fail
                have ev := V2.new wr (.int .u64 e0) (.int .u64 e1) 28
                have hbA : Below wr.heap.size wr (wr.alloc (.cells #[.int .u64 e0, .int .u64 e1] 28)) := by repeat (first | exact Below.refl _ _ | with_reducible assumption | (refine bl_alloc ?_ (Nat.le_refl _) _))
                replace hb00 := bl_call hb00 (Nat.le_refl _) hbA
                replace hx := hx.call hbA
                clear hbA
                generalize wr.alloc (.cells #[.int .u64 e0, .int .u64 e1] 28) = w5 at hb00 hx ev ⊢
                clear d0 d1 hbl
                obtain ⟨ev0, ev1, ev2, ev3, ev4⟩ := V2.mk ev.c0 ev.c1 ev.f0 ev.f1 ev.lt
                go_wp2_with fail
                refine (HI1.out _).mono ?_
                rintro e w6 ⟨rfl, hb6⟩
                clear ev0 ev1 ev2 ev3 ev4
                replace hb00 := bl_call hb00 (Nat.le_refl _) hb6
                replace hx := hx.call hb6
                replace ev := ev.call hb6
                clear hb6 ev
                cases t with
                | true =>
                  go_wp2_with fail
                  go_roundw
                  case rel => exact ⟨j + 1, W, by omega, by go_num, rfl, by
                    rcases HW.out with ⟨h1, h2⟩ | h1
                    · exact .inl ⟨h1, fun i e hi hie => by
                        by_cases hij : i = j
                        · rw [hij, HE.out] at hie
                          rw [← Option.some.inj hie]
                          exact HT.out
                        · exact h2 i e (by omega) hie⟩
                    · exact .inr h1, hx, hb00⟩
                  case measure => simp [intOf]; omega
                | false =>
                  go_wp2_with fail
                  go_roundw
                  case rel => exact ⟨j + 1, 7, by omega, by go_num, rfl, .inr ⟨rfl, j, _, HE.out, HT.out⟩, hx, hb00⟩
                  case measure => simp [intOf]; omega
              · obtain hje : j = q + 1 := by omega
                subst hje
                have g3 : ¬ ((q : Int) + 1 < (q : Int) + 1) := by omega
                rcases HW.out with ⟨h1, h2⟩ | ⟨h1, i, e, h2, h3⟩
                · subst h1
                  have HCK : Hid (∀ wz, Below w.heap.size w wz → Calls Tryd.prog 51 #[vG 2 (.slice (some ⟨bc, oc, none⟩) (q + 1) c) n, .int .u8 F] wz (RetI0 0 wz)) := fun wz hb => by
                    have h := HCE.out wz hb
                    rwa [if_pos (fun e he => by
                      obtain ⟨i, hi⟩ := List.getElem?_of_mem he
                      refine h2 i e ?_ hi
                      have := HMC.out
                      obtain ⟨h3, _⟩ := List.getElem?_eq_some_iff.1 hi
                      omega)] at h
                  have HOF : Hid (∀ wz, Below w.heap.size w wz → Calls Tryd.prog 49 #[vG 2 (.slice (some ⟨bc, oc, none⟩) (q + 1) c) n, .int .u8 F, .slice A2 m c2] wz (RetEAny wz)) := fun wz hb => by
                    by_cases hm1 : m = 1
                    · have HC9 := HCK.out
                      rw [HFF.out] at HC9 ⊢
                      exact gadget_Of_evalE HFI.out 2 n _ wz (fun wy hy => HC9 wy (hb.trans (hy.mono hb.size))) 1 (fun wy => gadget_Arity_eval n _ wy) rfl C (HS.out.later hb) (by rw [HMC.out]; omega) _ l (HL.out.later hb) rfl (by rw [HM.out]; exact hm1)
                    · exact gadget_Of_sizeE F 2 n _ wz (fun wy hy => HCK.out wy (hb.trans (hy.mono hb.size))) 1 (fun wy => gadget_Arity_eval n _ wy) A2 m c2 hm1
                  have HPO : Hid (∀ wz b, Below w.heap.size w wz → b < wz.heap.size → wz.cell? ⟨b, 0, none⟩ = some (.slice A2 m c2) → Calls Tryd.prog 50 #[vG 2 (.slice (some ⟨bc, oc, none⟩) (q + 1) c) n, .int .u8 F, .slice (some ⟨b, 0, none⟩) 1 1] wz (RetAny wz)) := fun wz b hb h1 h2 => by
                    have HC9 := HCK.out
                    rw [HFF.out] at HC9 ⊢
                    exact gadget_Poly_evalE HFI.out n _ C _ l wz (HTB.out.call hb) (HS.out.later hb) (by rw [HMC.out]; omega) (HL.out.later hb) (by rw [HM.out]; omega) (fun wy hy => HC9 wy (hb.trans (hy.mono hb.size))) (fun wy => gadget_Arity_eval n _ wy) b h1 h2
                  clear h2 HCE HW
                  obtain ⟨x0, x1, x2, x3, x4, x5, x6⟩ := hx.get3
                  go_wp2_with fail
                  refine (HOF.out _ hb00).mono ?_
                  rintro e w3 ⟨z0, z1, c3, rfl, hb3⟩
                  clear x0 x1 x2 x3 x4 x5 x6
                  replace hb00 := bl_call hb00 (Nat.le_refl _) hb3
                  replace hx := hx.call hb3
                  clear hb3
                  obtain ⟨x0, x1, x2, x3, x4, x5, x6⟩ := hx.get3
                  go_upto_region 25 with fail
                  clear x0 x1 x2 x3 x4 x5 x6
                  have zv := V2.new w3 (.int .u64 z0) (.int .u64 z1) 28
                  have hbA : Below w3.heap.size w3 (w3.alloc (.cells #[.int .u64 z0, .int .u64 z1] 28)) := by repeat (first | exact Below.refl _ _ | with_reducible assumption | (refine bl_alloc ?_ (Nat.le_refl _) _))
                  replace hb00 := bl_call hb00 (Nat.le_refl _) hbA
                  replace hx := hx.call hbA
                  clear hbA
                  generalize w3.alloc (.cells #[.int .u64 z0, .int .u64 z1] 28) = w4 at hb00 hx zv ⊢
                  obtain ⟨zb, hzb⟩ : ∃ z, w3.heap.size = z := ⟨_, rfl⟩
                  rw [hzb] at zv
                  simp only [hzb]
                  clear hzb
                  have hA1 := Vs.new w4 [.slice A2 m c2] #[.slice A2 m c2] 22 rfl
                  have hbA : Below w4.heap.size w4 (w4.alloc (.cells #[.slice A2 m c2] 22)) := (Below.refl _ _).alloc (Nat.le_refl _) _
                  have hb5 := bl_call hb00 (Nat.le_refl _) hbA
                  have hx5 := hx.call hbA
                  have zv5 := zv.call hbA
                  have HP5 := Lib.hid (HPO.out _ w4.heap.size hb5 hA1.lt (hA1.get1).1)
                  clear hA1 hbA
                  obtain ⟨x0, x1, x2, x3, x4, x5, x6⟩ := hx.get3
                  go_wp2_with fail
                  refine HP5.out.mono ?_
                  rintro e w6 ⟨v6, c6, rfl, hb6⟩
                  clear x0 x1 x2 x3 x4 x5 x6
                  clear hx hb00 zv HP5
                  replace hb5 := bl_call hb5 (Nat.le_refl _) hb6
                  replace hx5 := hx5.call hb6
                  replace zv5 := zv5.call hb6
                  clear hb6
                  obtain ⟨x50, x51, x52, x53, x54, x55, x56⟩ := hx5.get3
                  go_wp2_with fail
                  refine (HCK.out _ hb5).mono ?_
                  rintro e w7 ⟨rfl, hb7⟩
                  clear x50 x51 x52 x53 x54 x55 x56
                  replace hb5 := bl_call hb5 (Nat.le_refl _) hb7
                  replace hx5 := hx5.call hb7
                  replace zv5 := zv5.call hb7
                  clear hb7
                  obtain ⟨zv50, zv51, zv52, zv53, zv54⟩ := V2.mk zv5.c0 zv5.c1 zv5.f0 zv5.f1 zv5.lt
                  go_wp2_with fail
                  go_ret
                  exact ⟨rfl, hb5⟩
                · subst h1
                  have HCK : Hid (∀ wz, Below w.heap.size w wz → Calls Tryd.prog 51 #[vG 2 (.slice (some ⟨bc, oc, none⟩) (q + 1) c) n, .int .u8 F] wz (RetI0 7 wz)) := fun wz hb => by
                    have h := HCE.out wz hb
                    rwa [if_neg (fun h => by
                      rw [h e (List.mem_of_getElem? h2)] at h3
                      cases h3)] at h
                  have HOF : Hid (∀ wz, Below w.heap.size w wz → Calls Tryd.prog 49 #[vG 2 (.slice (some ⟨bc, oc, none⟩) (q + 1) c) n, .int .u8 F, .slice A2 m c2] wz fun e w' => e = .returned (.tuple #[.agg #[.int .u64 0, .int .u64 0], .int .i64 7]) ∧ Below wz.heap.size wz w') := fun wz hb => gadget_Of_err F 2 n (.slice (some ⟨bc, oc, none⟩) (q + 1) c) wz 7 (by decide) (fun wy hy => HCK.out wy (hb.trans (hy.mono hb.size))) _
                  have HPO : Hid (∀ wz v, Below w.heap.size w wz → Calls Tryd.prog 50 #[vG 2 (.slice (some ⟨bc, oc, none⟩) (q + 1) c) n, .int .u8 F, v] wz (RetE9 7 wz)) := fun wz v hb => gadget_Poly_err F 2 n (.slice (some ⟨bc, oc, none⟩) (q + 1) c) wz 7 (by decide) (fun wy hy => HCK.out wy (hb.trans (hy.mono hb.size))) v
                  clear h2 h3 HCE HW
                  obtain ⟨x0, x1, x2, x3, x4, x5, x6⟩ := hx.get3
                  go_wp2_with fail
                  refine (HOF.out _ hb00).mono ?_
                  rintro e w3 ⟨rfl, hb3⟩
                  clear x0 x1 x2 x3 x4 x5 x6
                  replace hb00 := bl_call hb00 (Nat.le_refl _) hb3
                  replace hx := hx.call hb3
                  clear hb3
                  obtain ⟨x0, x1, x2, x3, x4, x5, x6⟩ := hx.get3
                  go_upto_region 25 with fail
                  clear x0 x1 x2 x3 x4 x5 x6
                  have zv := V2.new w3 (.int .u64 0) (.int .u64 0) 28
                  have hbA : Below w3.heap.size w3 (w3.alloc (.cells #[.int .u64 0, .int .u64 0] 28)) := by repeat (first | exact Below.refl _ _ | with_reducible assumption | (refine bl_alloc ?_ (Nat.le_refl _) _))
                  replace hb00 := bl_call hb00 (Nat.le_refl _) hbA
                  replace hx := hx.call hbA
                  clear hbA
                  generalize w3.alloc (.cells #[.int .u64 0, .int .u64 0] 28) = w4 at hb00 hx zv ⊢
                  obtain ⟨zb, hzb⟩ : ∃ z, w3.heap.size = z := ⟨_, rfl⟩
                  rw [hzb] at zv
                  simp only [hzb]
                  clear hzb
                  have hbA : Below w4.heap.size w4 (w4.alloc (.cells #[.slice A2 m c2] 22)) := (Below.refl _ _).alloc (Nat.le_refl _) _
                  have hb5 := bl_call hb00 (Nat.le_refl _) hbA
                  have hx5 := hx.call hbA
                  have zv5 := zv.call hbA
                  have HP5 := Lib.hid (HPO.out _ (.slice (some ⟨w4.heap.size, 0, none⟩) 1 1) hb5)
                  clear hbA
                  obtain ⟨x0, x1, x2, x3, x4, x5, x6⟩ := hx.get3
                  go_wp2_with fail
                  refine HP5.out.mono ?_
                  rintro e w6 ⟨rfl, hb6⟩
                  clear x0 x1 x2 x3 x4 x5 x6
                  clear hx hb00 zv HP5
                  replace hb5 := bl_call hb5 (Nat.le_refl _) hb6
                  replace hx5 := hx5.call hb6
                  replace zv5 := zv5.call hb6
                  clear hb6
                  obtain ⟨x50, x51, x52, x53, x54, x55, x56⟩ := hx5.get3
                  go_wp2_with fail
                  refine (HCK.out _ hb5).mono ?_
                  rintro e w7 ⟨rfl, hb7⟩
                  clear x50 x51 x52 x53 x54 x55 x56
                  replace hb5 := bl_call hb5 (Nat.le_refl _) hb7
                  replace hx5 := hx5.call hb7
                  replace zv5 := zv5.call hb7
                  clear hb7
                  obtain ⟨zv50, zv51, zv52, zv53, zv54⟩ := V2.mk zv5.c0 zv5.c1 zv5.f0 zv5.f1 zv5.lt
                  go_wp2_with fail
                  go_ret
                  exact ⟨rfl, hb5⟩
      · subst hk
        by_cases hn : 1 ≤ n ∧ n ≤ 16
        · obtain ⟨N, hN⟩ : ∃ N : Nat, n = (N : Int) := ⟨n.toNat, by omega⟩
          subst hN
          have hn1 : ¬ ((N : Int) < 1) := by omega
          have hn2 : ¬ (16 < (N : Int)) := by omega
          have HCK : Hid (∀ wz, Below w.heap.size w wz → Calls Tryd.prog 51 #[vG 3 (.slice A mC c) N, .int .u8 F] wz (RetI0 0 wz)) := fun wz _ => by
            rw [HFF.out]
            exact gadget_Check_par HFI.out N _ hn wz
          have HOF : Hid (∀ wz, Below w.heap.size w wz → Calls Tryd.prog 49 #[vG 3 (.slice A mC c) N, .int .u8 F, .slice A2 m c2] wz (RetEAny wz)) := fun wz hb => by
            by_cases hm2 : m = 2 * N
            · have HC9 := HCK.out
              rw [HFF.out] at HC9 ⊢
              exact gadget_Of_pairsE HFI.out 3 N _ wz (fun wy hy => HC9 wy (hb.trans (hy.mono hb.size))) (2 * N) (fun wy => gadget_Arity_par N (by omega) _ wy) rfl _ l (HL.out.later hb) N rfl (by rw [HM.out]; exact hm2) (by omega)
            · exact gadget_Of_sizeE F 3 N _ wz (fun wy hy => HCK.out wy (hb.trans (hy.mono hb.size))) (2 * N) (fun wy => gadget_Arity_par N (by omega) _ wy) A2 m c2 hm2
          have HPO : Hid (∀ wz b, Below w.heap.size w wz → b < wz.heap.size → wz.cell? ⟨b, 0, none⟩ = some (.slice A2 m c2) → Calls Tryd.prog 50 #[vG 3 (.slice A mC c) N, .int .u8 F, .slice (some ⟨b, 0, none⟩) 1 1] wz (RetAny wz)) := fun wz b hb _ _ => gadget_Poly_size F 3 N _ wz (fun wy hy => HCK.out wy (hb.trans (hy.mono hb.size))) (2 * N) (fun wy => gadget_Arity_par N (by omega) _ wy) _ 1 1 (by omega)
          obtain ⟨x0, x1, x2, x3, x4, x5, x6⟩ := hx.get3
          go_wp2_with fail
          refine (HOF.out _ hb00).mono ?_
          rintro e w3 ⟨z0, z1, c3, rfl, hb3⟩
          clear x0 x1 x2 x3 x4 x5 x6
          replace hb00 := bl_call hb00 (Nat.le_refl _) hb3
          replace hx := hx.call hb3
          clear hb3
          obtain ⟨x0, x1, x2, x3, x4, x5, x6⟩ := hx.get3
          go_upto_region 25 with fail
          clear x0 x1 x2 x3 x4 x5 x6
          have zv := V2.new w3 (.int .u64 z0) (.int .u64 z1) 28
          have hbA : Below w3.heap.size w3 (w3.alloc (.cells #[.int .u64 z0, .int .u64 z1] 28)) := by repeat (first | exact Below.refl _ _ | with_reducible assumption | (refine bl_alloc ?_ (Nat.le_refl _) _))
          replace hb00 := bl_call hb00 (Nat.le_refl _) hbA
          replace hx := hx.call hbA
          clear hbA
          generalize w3.alloc (.cells #[.int .u64 z0, .int .u64 z1] 28) = w4 at hb00 hx zv ⊢
          obtain ⟨zb, hzb⟩ : ∃ z, w3.heap.size = z := ⟨_, rfl⟩
          rw [hzb] at zv
          simp only [hzb]
          clear hzb
          have hA1 := Vs.new w4 [.slice A2 m c2] #[.slice A2 m c2] 22 rfl
          have hbA : Below w4.heap.size w4 (w4.alloc (.cells #[.slice A2 m c2] 22)) := (Below.refl _ _).alloc (Nat.le_refl _) _
          have hb5 := bl_call hb00 (Nat.le_refl _) hbA
          have hx5 := hx.call hbA
          have zv5 := zv.call hbA
          have HP5 := Lib.hid (HPO.out _ w4.heap.size hb5 hA1.lt (hA1.get1).1)
          clear hA1 hbA
          obtain ⟨x0, x1, x2, x3, x4, x5, x6⟩ := hx.get3
          go_wp2_with fail
          refine HP5.out.mono ?_
          rintro e w6 ⟨v6, c6, rfl, hb6⟩
          clear x0 x1 x2 x3 x4 x5 x6
          clear hx hb00 zv HP5
          replace hb5 := bl_call hb5 (Nat.le_refl _) hb6
          replace hx5 := hx5.call hb6
          replace zv5 := zv5.call hb6
          clear hb6
          obtain ⟨x50, x51, x52, x53, x54, x55, x56⟩ := hx5.get3
          go_wp2_with fail
          refine (HCK.out _ hb5).mono ?_
          rintro e w7 ⟨rfl, hb7⟩
          clear x50 x51 x52 x53 x54 x55 x56
          replace hb5 := bl_call hb5 (Nat.le_refl _) hb7
          replace hx5 := hx5.call hb7
          replace zv5 := zv5.call hb7
          clear hb7
          obtain ⟨zv50, zv51, zv52, zv53, zv54⟩ := V2.mk zv5.c0 zv5.c1 zv5.f0 zv5.f1 zv5.lt
          go_wp2_with fail
          go_ret
          exact ⟨rfl, hb5⟩
        · have hn2 : n < 1 ∨ 16 < n := by omega
          have HCK : Hid (∀ wz, Below w.heap.size w wz → Calls Tryd.prog 51 #[vG 3 (.slice A mC c) n, .int .u8 F] wz (RetI0 6 wz)) := fun wz _ => by
            rw [HFF.out]
            exact gadget_Check_range HFI.out n _ hn2 wz
          have HOF : Hid (∀ wz, Below w.heap.size w wz → Calls Tryd.prog 49 #[vG 3 (.slice A mC c) n, .int .u8 F, .slice A2 m c2] wz fun e w' => e = .returned (.tuple #[.agg #[.int .u64 0, .int .u64 0], .int .i64 6]) ∧ Below wz.heap.size wz w') := fun wz hb => gadget_Of_err F 3 n (.slice A mC c) wz 6 (by decide) (fun wy hy => HCK.out wy (hb.trans (hy.mono hb.size))) _
          have HPO : Hid (∀ wz v, Below w.heap.size w wz → Calls Tryd.prog 50 #[vG 3 (.slice A mC c) n, .int .u8 F, v] wz (RetE9 6 wz)) := fun wz v hb => gadget_Poly_err F 3 n (.slice A mC c) wz 6 (by decide) (fun wy hy => HCK.out wy (hb.trans (hy.mono hb.size))) v
          clear hn
          rcases hn2 with hn3 | hn3
          · skip
            obtain ⟨x0, x1, x2, x3, x4, x5, x6⟩ := hx.get3
            go_wp2_with fail
            refine (HOF.out _ hb00).mono ?_
            rintro e w3 ⟨rfl, hb3⟩
            clear x0 x1 x2 x3 x4 x5 x6
            replace hb00 := bl_call hb00 (Nat.le_refl _) hb3
            replace hx := hx.call hb3
            clear hb3
            obtain ⟨x0, x1, x2, x3, x4, x5, x6⟩ := hx.get3
            go_upto_region 25 with fail
            clear x0 x1 x2 x3 x4 x5 x6
            have zv := V2.new w3 (.int .u64 0) (.int .u64 0) 28
            have hbA : Below w3.heap.size w3 (w3.alloc (.cells #[.int .u64 0, .int .u64 0] 28)) := by repeat (first | exact Below.refl _ _ | with_reducible assumption | (refine bl_alloc ?_ (Nat.le_refl _) _))
            replace hb00 := bl_call hb00 (Nat.le_refl _) hbA
            replace hx := hx.call hbA
            clear hbA
            generalize w3.alloc (.cells #[.int .u64 0, .int .u64 0] 28) = w4 at hb00 hx zv ⊢
            obtain ⟨zb, hzb⟩ : ∃ z, w3.heap.size = z := ⟨_, rfl⟩
            rw [hzb] at zv
            simp only [hzb]
            clear hzb
            have hbA : Below w4.heap.size w4 (w4.alloc (.cells #[.slice A2 m c2] 22)) := (Below.refl _ _).alloc (Nat.le_refl _) _
            have hb5 := bl_call hb00 (Nat.le_refl _) hbA
            have hx5 := hx.call hbA
            have zv5 := zv.call hbA
            have HP5 := Lib.hid (HPO.out _ (.slice (some ⟨w4.heap.size, 0, none⟩) 1 1) hb5)
            clear hbA
            obtain ⟨x0, x1, x2, x3, x4, x5, x6⟩ := hx.get3
            go_wp2_with fail
            refine HP5.out.mono ?_
            rintro e w6 ⟨rfl, hb6⟩
            clear x0 x1 x2 x3 x4 x5 x6
            clear hx hb00 zv HP5
            replace hb5 := bl_call hb5 (Nat.le_refl _) hb6
            replace hx5 := hx5.call hb6
            replace zv5 := zv5.call hb6
            clear hb6
            obtain ⟨x50, x51, x52, x53, x54, x55, x56⟩ := hx5.get3
            go_wp2_with fail
            refine (HCK.out _ hb5).mono ?_
            rintro e w7 ⟨rfl, hb7⟩
            clear x50 x51 x52 x53 x54 x55 x56
            replace hb5 := bl_call hb5 (Nat.le_refl _) hb7
            replace hx5 := hx5.call hb7
            replace zv5 := zv5.call hb7
            clear hb7
            obtain ⟨zv50, zv51, zv52, zv53, zv54⟩ := V2.mk zv5.c0 zv5.c1 zv5.f0 zv5.f1 zv5.lt
            go_wp2_with fail
            go_ret
            exact ⟨rfl, hb5⟩
          · have hn4 : ¬ (n < 1) := by omega
            obtain ⟨x0, x1, x2, x3, x4, x5, x6⟩ := hx.get3
            go_wp2_with fail
            refine (HOF.out _ hb00).mono ?_
            rintro e w3 ⟨rfl, hb3⟩
            clear x0 x1 x2 x3 x4 x5 x6
            replace hb00 := bl_call hb00 (Nat.le_refl _) hb3
            replace hx := hx.call hb3
            clear hb3
            obtain ⟨x0, x1, x2, x3, x4, x5, x6⟩ := hx.get3
            go_upto_region 25 with fail
            clear x0 x1 x2 x3 x4 x5 x6
            have zv := V2.new w3 (.int .u64 0) (.int .u64 0) 28
            have hbA : Below w3.heap.size w3 (w3.alloc (.cells #[.int .u64 0, .int .u64 0] 28)) := by repeat (first | exact Below.refl _ _ | with_reducible assumption | (refine bl_alloc ?_ (Nat.le_refl _) _))
            replace hb00 := bl_call hb00 (Nat.le_refl _) hbA
            replace hx := hx.call hbA
            clear hbA
            generalize w3.alloc (.cells #[.int .u64 0, .int .u64 0] 28) = w4 at hb00 hx zv ⊢
            obtain ⟨zb, hzb⟩ : ∃ z, w3.heap.size = z := ⟨_, rfl⟩
            rw [hzb] at zv
            simp only [hzb]
            clear hzb
            have hbA : Below w4.heap.size w4 (w4.alloc (.cells #[.slice A2 m c2] 22)) := (Below.refl _ _).alloc (Nat.le_refl _) _
            have hb5 := bl_call hb00 (Nat.le_refl _) hbA
            have hx5 := hx.call hbA
            have zv5 := zv.call hbA
            have HP5 := Lib.hid (HPO.out _ (.slice (some ⟨w4.heap.size, 0, none⟩) 1 1) hb5)
            clear hbA
            obtain ⟨x0, x1, x2, x3, x4, x5, x6⟩ := hx.get3
            go_wp2_with fail
            refine HP5.out.mono ?_
            rintro e w6 ⟨rfl, hb6⟩
            clear x0 x1 x2 x3 x4 x5 x6
            clear hx hb00 zv HP5
            replace hb5 := bl_call hb5 (Nat.le_refl _) hb6
            replace hx5 := hx5.call hb6
            replace zv5 := zv5.call hb6
            clear hb6
            obtain ⟨x50, x51, x52, x53, x54, x55, x56⟩ := hx5.get3
            go_wp2_with fail
            refine (HCK.out _ hb5).mono ?_
            rintro e w7 ⟨rfl, hb7⟩
            clear x50 x51 x52 x53 x54 x55 x56
            replace hb5 := bl_call hb5 (Nat.le_refl _) hb7
            replace hx5 := hx5.call hb7
            replace zv5 := zv5.call hb7
            clear hb7
            obtain ⟨zv50, zv51, zv52, zv53, zv54⟩ := V2.mk zv5.c0 zv5.c1 zv5.f0 zv5.f1 zv5.lt
            go_wp2_with fail
            go_ret
            exact ⟨rfl, hb5⟩
      · have k1 : (k == 1) = false := by rw [beq_eq_false_iff_ne]; exact hk.1
        have k2 : (k == 2) = false := by rw [beq_eq_false_iff_ne]; exact hk.2.1
        have k3 : (k == 3) = false := by rw [beq_eq_false_iff_ne]; exact hk.2.2
        have HCK : Hid (∀ wz, Below w.heap.size w wz → Calls Tryd.prog 51 #[vG k (.slice A mC c) n, .int .u8 F] wz (RetI0 10 wz)) := fun wz _ => by
          rw [HFF.out]
          exact gadget_Check_other HFI.out k n _ k1 k2 k3 wz
        have HOF : Hid (∀ wz, Below w.heap.size w wz → Calls Tryd.prog 49 #[vG k (.slice A mC c) n, .int .u8 F, .slice A2 m c2] wz fun e w' => e = .returned (.tuple #[.agg #[.int .u64 0, .int .u64 0], .int .i64 10]) ∧ Below wz.heap.size wz w') := fun wz hb => gadget_Of_err F k n (.slice A mC c) wz 10 (by decide) (fun wy hy => HCK.out wy (hb.trans (hy.mono hb.size))) _
        have HPO : Hid (∀ wz v, Below w.heap.size w wz → Calls Tryd.prog 50 #[vG k (.slice A mC c) n, .int .u8 F, v] wz (RetE9 10 wz)) := fun wz v hb => gadget_Poly_err F k n (.slice A mC c) wz 10 (by decide) (fun wy hy => HCK.out wy (hb.trans (hy.mono hb.size))) v
        clear hk
        obtain ⟨x0, x1, x2, x3, x4, x5, x6⟩ := hx.get3
        go_wp2_with fail
        refine (HOF.out _ hb00).mono ?_
        rintro e w3 ⟨rfl, hb3⟩
        clear x0 x1 x2 x3 x4 x5 x6
        replace hb00 := bl_call hb00 (Nat.le_refl _) hb3
        replace hx := hx.call hb3
        clear hb3
        obtain ⟨x0, x1, x2, x3, x4, x5, x6⟩ := hx.get3
        go_upto_region 25 with fail
        clear x0 x1 x2 x3 x4 x5 x6
        have zv := V2.new w3 (.int .u64 0) (.int .u64 0) 28
        have hbA : Below w3.heap.size w3 (w3.alloc (.cells #[.int .u64 0, .int .u64 0] 28)) := by repeat (first | exact Below.refl _ _ | with_reducible assumption | (refine bl_alloc ?_ (Nat.le_refl _) _))
        replace hb00 := bl_call hb00 (Nat.le_refl _) hbA
        replace hx := hx.call hbA
        clear hbA
        generalize w3.alloc (.cells #[.int .u64 0, .int .u64 0] 28) = w4 at hb00 hx zv ⊢
        obtain ⟨zb, hzb⟩ : ∃ z, w3.heap.size = z := ⟨_, rfl⟩
        rw [hzb] at zv
        simp only [hzb]
        clear hzb
        have hbA : Below w4.heap.size w4 (w4.alloc (.cells #[.slice A2 m c2] 22)) := (Below.refl _ _).alloc (Nat.le_refl _) _
        have hb5 := bl_call hb00 (Nat.le_refl _) hbA
        have hx5 := hx.call hbA
        have zv5 := zv.call hbA
        have HP5 := Lib.hid (HPO.out _ (.slice (some ⟨w4.heap.size, 0, none⟩) 1 1) hb5)
        clear hbA
        obtain ⟨x0, x1, x2, x3, x4, x5, x6⟩ := hx.get3
        go_wp2_with fail
        refine HP5.out.mono ?_
        rintro e w6 ⟨rfl, hb6⟩
        clear x0 x1 x2 x3 x4 x5 x6
        clear hx hb00 zv HP5
        replace hb5 := bl_call hb5 (Nat.le_refl _) hb6
        replace hx5 := hx5.call hb6
        replace zv5 := zv5.call hb6
        clear hb6
        obtain ⟨x50, x51, x52, x53, x54, x55, x56⟩ := hx5.get3
        go_wp2_with fail
        refine (HCK.out _ hb5).mono ?_
        rintro e w7 ⟨rfl, hb7⟩
        clear x50 x51 x52 x53 x54 x55 x56
        replace hb5 := bl_call hb5 (Nat.le_refl _) hb7
        replace hx5 := hx5.call hb7
        replace zv5 := zv5.call hb7
        clear hb7
        obtain ⟨zv50, zv51, zv52, zv53, zv54⟩ := V2.mk zv5.c0 zv5.c1 zv5.f0 zv5.f1 zv5.lt
        go_wp2_with fail
        go_ret
        exact ⟨rfl, hb5⟩
    · have HFF : Hid (F = ((2 : Nat) : Int)) := hF1
      have HFI : Hid (IsF 2) := isF2
      have t1 : (F == 1) = false := by rw [beq_eq_false_iff_ne]; omega
      have t2 : (F != 1) = true := by rw [bne, t1]; rfl
      have t3 : (F == 2) = true := by rw [beq_iff_eq]; exact hF1
      have t4 : (F != 2) = false := by rw [bne, t3]; rfl
      clear hF1
      have HFM : Hid (∀ (e0 e1 : Int) wz, okE (e0, e1) → Calls Tryd.prog 48 #[.int .i64 F, .agg #[.int .u64 e0, .int .u64 e1]] wz fun e w' => e = .returned (.bool (inB 2 (e0, e1))) ∧ Below wz.heap.size wz w') := fun e0 e1 wz h => by
        rw [HFF.out]
        exact ref_In _ _ e0 e1 wz (FM.ofN HFI.out) h.1 h.2.1 h.2.2.1 h.2.2.2
      rcases (by omega : k = 1 ∨ k = 2 ∨ k = 3 ∨ (¬ (k = 1) ∧ ¬ (k = 2) ∧ ¬ (k = 3))) with hk | hk | hk | hk
      · subst hk
        have HCK : Hid (∀ wz, Below w.heap.size w wz → Calls Tryd.prog 51 #[vG 1 (.slice A mC c) n, .int .u8 F] wz (RetI0 0 wz)) := fun wz _ => by
          rw [HFF.out]
          exact gadget_Check_mul HFI.out n _ wz
        have HOF : Hid (∀ wz, Below w.heap.size w wz → Calls Tryd.prog 49 #[vG 1 (.slice A mC c) n, .int .u8 F, .slice A2 m c2] wz (RetEAny wz)) := fun wz hb => by
          by_cases hm2 : m = 2
          · have HC9 := HCK.out
            rw [HFF.out] at HC9 ⊢
            exact gadget_Of_pairsE HFI.out 1 n _ wz (fun wy hy => HC9 wy (hb.trans (hy.mono hb.size))) 2 (fun wy => gadget_Arity_mul n _ wy) rfl _ l (HL.out.later hb) 1 rfl (by rw [HM.out]; exact hm2) (by omega)
          · exact gadget_Of_sizeE F 1 n _ wz (fun wy hy => HCK.out wy (hb.trans (hy.mono hb.size))) 2 (fun wy => gadget_Arity_mul n _ wy) A2 m c2 hm2
        have HPO : Hid (∀ wz b, Below w.heap.size w wz → b < wz.heap.size → wz.cell? ⟨b, 0, none⟩ = some (.slice A2 m c2) → Calls Tryd.prog 50 #[vG 1 (.slice A mC c) n, .int .u8 F, .slice (some ⟨b, 0, none⟩) 1 1] wz (RetAny wz)) := fun wz b hb _ _ => gadget_Poly_size F 1 n _ wz (fun wy hy => HCK.out wy (hb.trans (hy.mono hb.size))) 2 (fun wy => gadget_Arity_mul n _ wy) _ 1 1 (by omega)
        obtain ⟨x0, x1, x2, x3, x4, x5, x6⟩ := hx.get3
        go_wp2_with fail
        refine (HOF.out _ hb00).mono ?_
        rintro e w3 ⟨z0, z1, c3, rfl, hb3⟩
        clear x0 x1 x2 x3 x4 x5 x6
        replace hb00 := bl_call hb00 (Nat.le_refl _) hb3
        replace hx := hx.call hb3
        clear hb3
        obtain ⟨x0, x1, x2, x3, x4, x5, x6⟩ := hx.get3
        go_upto_region 25 with fail
        clear x0 x1 x2 x3 x4 x5 x6
        have zv := V2.new w3 (.int .u64 z0) (.int .u64 z1) 28
        have hbA : Below w3.heap.size w3 (w3.alloc (.cells #[.int .u64 z0, .int .u64 z1] 28)) := by repeat (first | exact Below.refl _ _ | with_reducible assumption | (refine bl_alloc ?_ (Nat.le_refl _) _))
        replace hb00 := bl_call hb00 (Nat.le_refl _) hbA
        replace hx := hx.call hbA
        clear hbA
        generalize w3.alloc (.cells #[.int .u64 z0, .int .u64 z1] 28) = w4 at hb00 hx zv ⊢
        obtain ⟨zb, hzb⟩ : ∃ z, w3.heap.size = z := ⟨_, rfl⟩
        rw [hzb] at zv
        simp only [hzb]
        clear hzb
        have hA1 := Vs.new w4 [.slice A2 m c2] #[.slice A2 m c2] 22 rfl
        have hbA : Below w4.heap.size w4 (w4.alloc (.cells #[.slice A2 m c2] 22)) := (Below.refl _ _).alloc (Nat.le_refl _) _
        have hb5 := bl_call hb00 (Nat.le_refl _) hbA
        have hx5 := hx.call hbA
        have zv5 := zv.call hbA
        have HP5 := Lib.hid (HPO.out _ w4.heap.size hb5 hA1.lt (hA1.get1).1)
        clear hA1 hbA
        obtain ⟨x0, x1, x2, x3, x4, x5, x6⟩ := hx.get3
        go_wp2_with fail
        refine HP5.out.mono ?_
        rintro e w6 ⟨v6, c6, rfl, hb6⟩
        clear x0 x1 x2 x3 x4 x5 x6
        clear hx hb00 zv HP5
        replace hb5 := bl_call hb5 (Nat.le_refl _) hb6
        replace hx5 := hx5.call hb6
        replace zv5 := zv5.call hb6
        clear hb6
        obtain ⟨x50, x51, x52, x53, x54, x55, x56⟩ := hx5.get3
        go_wp2_with fail
        refine (HCK.out _ hb5).mono ?_
        rintro e w7 ⟨rfl, hb7⟩
        clear x50 x51 x52 x53 x54 x55 x56
        replace hb5 := bl_call hb5 (Nat.le_refl _) hb7
        replace hx5 := hx5.call hb7
        replace zv5 := zv5.call hb7
        clear hb7
        obtain ⟨zv50, zv51, zv52, zv53, zv54⟩ := V2.mk zv5.c0 zv5.c1 zv5.f0 zv5.f1 zv5.lt
        go_wp2_with fail
        go_ret
        exact ⟨rfl, hb5⟩
      · subst hk
        by_cases hm4 : mC < 2 ∨ 4 < mC
        · have HCK : Hid (∀ wz, Below w.heap.size w wz → Calls Tryd.prog 51 #[vG 2 (.slice A mC c) n, .int .u8 F] wz (RetI0 9 wz)) := fun wz _ => by
            rw [HFF.out]
            exact gadget_Check_len HFI.out A mC c n hm4 wz
          have HOF : Hid (∀ wz, Below w.heap.size w wz → Calls Tryd.prog 49 #[vG 2 (.slice A mC c) n, .int .u8 F, .slice A2 m c2] wz fun e w' => e = .returned (.tuple #[.agg #[.int .u64 0, .int .u64 0], .int .i64 9]) ∧ Below wz.heap.size wz w') := fun wz hb => gadget_Of_err F 2 n (.slice A mC c) wz 9 (by decide) (fun wy hy => HCK.out wy (hb.trans (hy.mono hb.size))) _
          have HPO : Hid (∀ wz v, Below w.heap.size w wz → Calls Tryd.prog 50 #[vG 2 (.slice A mC c) n, .int .u8 F, v] wz (RetE9 9 wz)) := fun wz v hb => gadget_Poly_err F 2 n (.slice A mC c) wz 9 (by decide) (fun wy hy => HCK.out wy (hb.trans (hy.mono hb.size))) v
          rcases hm4 with hm4 | hm4
          · skip
            obtain ⟨x0, x1, x2, x3, x4, x5, x6⟩ := hx.get3
            go_wp2_with fail
            refine (HOF.out _ hb00).mono ?_
            rintro e w3 ⟨rfl, hb3⟩
            clear x0 x1 x2 x3 x4 x5 x6
            replace hb00 := bl_call hb00 (Nat.le_refl _) hb3
            replace hx := hx.call hb3
            clear hb3
            obtain ⟨x0, x1, x2, x3, x4, x5, x6⟩ := hx.get3
            go_upto_region 25 with fail
            clear x0 x1 x2 x3 x4 x5 x6
            have zv := V2.new w3 (.int .u64 0) (.int .u64 0) 28
            have hbA : Below w3.heap.size w3 (w3.alloc (.cells #[.int .u64 0, .int .u64 0] 28)) := by repeat (first | exact Below.refl _ _ | with_reducible assumption | (refine bl_alloc ?_ (Nat.le_refl _) _))
            replace hb00 := bl_call hb00 (Nat.le_refl _) hbA
            replace hx := hx.call hbA
            clear hbA
            generalize w3.alloc (.cells #[.int .u64 0, .int .u64 0] 28) = w4 at hb00 hx zv ⊢
            obtain ⟨zb, hzb⟩ : ∃ z, w3.heap.size = z := ⟨_, rfl⟩
            rw [hzb] at zv
            simp only [hzb]
            clear hzb
            have hbA : Below w4.heap.size w4 (w4.alloc (.cells #[.slice A2 m c2] 22)) := (Below.refl _ _).alloc (Nat.le_refl _) _
            have hb5 := bl_call hb00 (Nat.le_refl _) hbA
            have hx5 := hx.call hbA
            have zv5 := zv.call hbA
            have HP5 := Lib.hid (HPO.out _ (.slice (some ⟨w4.heap.size, 0, none⟩) 1 1) hb5)
            clear hbA
            obtain ⟨x0, x1, x2, x3, x4, x5, x6⟩ := hx.get3
            go_wp2_with fail
            refine HP5.out.mono ?_
            rintro e w6 ⟨rfl, hb6⟩
            clear x0 x1 x2 x3 x4 x5 x6
            clear hx hb00 zv HP5
            replace hb5 := bl_call hb5 (Nat.le_refl _) hb6
            replace hx5 := hx5.call hb6
            replace zv5 := zv5.call hb6
            clear hb6
            obtain ⟨x50, x51, x52, x53, x54, x55, x56⟩ := hx5.get3
            go_wp2_with fail
            refine (HCK.out _ hb5).mono ?_
            rintro e w7 ⟨rfl, hb7⟩
            clear x50 x51 x52 x53 x54 x55 x56
            replace hb5 := bl_call hb5 (Nat.le_refl _) hb7
            replace hx5 := hx5.call hb7
            replace zv5 := zv5.call hb7
            clear hb7
            obtain ⟨zv50, zv51, zv52, zv53, zv54⟩ := V2.mk zv5.c0 zv5.c1 zv5.f0 zv5.f1 zv5.lt
            go_wp2_with fail
            go_ret
            exact ⟨rfl, hb5⟩
          · have hm5 : ¬ (mC < 2) := by omega
            obtain ⟨x0, x1, x2, x3, x4, x5, x6⟩ := hx.get3
            go_wp2_with fail
            refine (HOF.out _ hb00).mono ?_
            rintro e w3 ⟨rfl, hb3⟩
            clear x0 x1 x2 x3 x4 x5 x6
            replace hb00 := bl_call hb00 (Nat.le_refl _) hb3
            replace hx := hx.call hb3
            clear hb3
            obtain ⟨x0, x1, x2, x3, x4, x5, x6⟩ := hx.get3
            go_upto_region 25 with fail
            clear x0 x1 x2 x3 x4 x5 x6
            have zv := V2.new w3 (.int .u64 0) (.int .u64 0) 28
            have hbA : Below w3.heap.size w3 (w3.alloc (.cells #[.int .u64 0, .int .u64 0] 28)) := by repeat (first | exact Below.refl _ _ | with_reducible assumption | (refine bl_alloc ?_ (Nat.le_refl _) _))
            replace hb00 := bl_call hb00 (Nat.le_refl _) hbA
            replace hx := hx.call hbA
            clear hbA
            generalize w3.alloc (.cells #[.int .u64 0, .int .u64 0] 28) = w4 at hb00 hx zv ⊢
            obtain ⟨zb, hzb⟩ : ∃ z, w3.heap.size = z := ⟨_, rfl⟩
            rw [hzb] at zv
            simp only [hzb]
            clear hzb
            have hbA : Below w4.heap.size w4 (w4.alloc (.cells #[.slice A2 m c2] 22)) := (Below.refl _ _).alloc (Nat.le_refl _) _
            have hb5 := bl_call hb00 (Nat.le_refl _) hbA
            have hx5 := hx.call hbA
            have zv5 := zv.call hbA
            have HP5 := Lib.hid (HPO.out _ (.slice (some ⟨w4.heap.size, 0, none⟩) 1 1) hb5)
            clear hbA
            obtain ⟨x0, x1, x2, x3, x4, x5, x6⟩ := hx.get3
            go_wp2_with fail
            refine HP5.out.mono ?_
            rintro e w6 ⟨rfl, hb6⟩
            clear x0 x1 x2 x3 x4 x5 x6
            clear hx hb00 zv HP5
            replace hb5 := bl_call hb5 (Nat.le_refl _) hb6
            replace hx5 := hx5.call hb6
            replace zv5 := zv5.call hb6
            clear hb6
            obtain ⟨x50, x51, x52, x53, x54, x55, x56⟩ := hx5.get3
            go_wp2_with fail
            refine (HCK.out _ hb5).mono ?_
            rintro e w7 ⟨rfl, hb7⟩
            clear x50 x51 x52 x53 x54 x55 x56
            replace hb5 := bl_call hb5 (Nat.le_refl _) hb7
            replace hx5 := hx5.call hb7
            replace zv5 := zv5.call hb7
            clear hb7
            obtain ⟨zv50, zv51, zv52, zv53, zv54⟩ := V2.mk zv5.c0 zv5.c1 zv5.f0 zv5.f1 zv5.lt
            go_wp2_with fail
            go_ret
            exact ⟨rfl, hb5⟩
        · obtain ⟨q, hq⟩ : ∃ q, mC = q + 1 := ⟨mC - 1, by omega⟩
          subst hq
          have hq1 : 1 ≤ q := by omega
          have hq3 : q ≤ 3 := by omega
          obtain ⟨⟨y0, y1⟩, hy⟩ : ∃ y, C[q]? = some y := ⟨_, List.getElem?_eq_getElem (by rw [HMC.out]; omega)⟩
          have HCE : Hid (∀ wz, Below w.heap.size w wz → Calls Tryd.prog 51 #[vG 2 (.slice A (q + 1) c) n, .int .u8 F] wz (RetI0 (if (y0 == 0 && y1 == 0) = true then 9 else if ∀ e, e ∈ C → inB 2 e = true then 0 else 7) wz)) := fun wz hb => by
            rw [HFF.out]
            exact gadget_Check_eval HFI.out _ C n wz (HS.out.later hb) q HMC.out hq1 hq3 y0 y1 hy
          obtain ⟨bc, oc, hAe, hBc, hrow⟩ := HS.out.rowOf (by rw [HMC.out]; omega)
          subst hAe
          have HRW := Lib.hid hrow
          have hry := (hrow.below hb00 hBc) q _ hy
          dsimp only at hry
          obtain ⟨d0, d1⟩ := hry
          have hbl : bc < w2.heap.size := Nat.lt_of_lt_of_le hBc hb00.size
          clear hrow hy
          by_cases hd : (y0 == 0 && y1 == 0) = true
          · have HCK : Hid (∀ wz, Below w.heap.size w wz → Calls Tryd.prog 51 #[vG 2 (.slice (some ⟨bc, oc, none⟩) (q + 1) c) n, .int .u8 F] wz (RetI0 9 wz)) := fun wz hb => by
              have h := HCE.out wz hb
              rwa [if_pos hd] at h
            have HOF : Hid (∀ wz, Below w.heap.size w wz → Calls Tryd.prog 49 #[vG 2 (.slice (some ⟨bc, oc, none⟩) (q + 1) c) n, .int .u8 F, .slice A2 m c2] wz fun e w' => e = .returned (.tuple #[.agg #[.int .u64 0, .int .u64 0], .int .i64 9]) ∧ Below wz.heap.size wz w') := fun wz hb => gadget_Of_err F 2 n (.slice (some ⟨bc, oc, none⟩) (q + 1) c) wz 9 (by decide) (fun wy hy => HCK.out wy (hb.trans (hy.mono hb.size))) _
            have HPO : Hid (∀ wz v, Below w.heap.size w wz → Calls Tryd.prog 50 #[vG 2 (.slice (some ⟨bc, oc, none⟩) (q + 1) c) n, .int .u8 F, v] wz (RetE9 9 wz)) := fun wz v hb => gadget_Poly_err F 2 n (.slice (some ⟨bc, oc, none⟩) (q + 1) c) wz 9 (by decide) (fun wy hy => HCK.out wy (hb.trans (hy.mono hb.size))) v
            clear HCE
            obtain ⟨x0, x1, x2, x3, x4, x5, x6⟩ := hx.get3
            go_wp2_with fail
            refine (HOF.out _ hb00).mono ?_
            rintro e w3 ⟨rfl, hb3⟩
            clear x0 x1 x2 x3 x4 x5 x6
            replace hb00 := bl_call hb00 (Nat.le_refl _) hb3
            replace hx := hx.call hb3
            clear hb3
            obtain ⟨x0, x1, x2, x3, x4, x5, x6⟩ := hx.get3
            go_upto_region 25 with fail
            clear x0 x1 x2 x3 x4 x5 x6
            have zv := V2.new w3 (.int .u64 0) (.int .u64 0) 28
            have hbA : Below w3.heap.size w3 (w3.alloc (.cells #[.int .u64 0, .int .u64 0] 28)) := by repeat (first | exact Below.refl _ _ | with_reducible assumption | (refine bl_alloc ?_ (Nat.le_refl _) _))
            replace hb00 := bl_call hb00 (Nat.le_refl _) hbA
            replace hx := hx.call hbA
            clear hbA
            generalize w3.alloc (.cells #[.int .u64 0, .int .u64 0] 28) = w4 at hb00 hx zv ⊢
            obtain ⟨zb, hzb⟩ : ∃ z, w3.heap.size = z := ⟨_, rfl⟩
            rw [hzb] at zv
            simp only [hzb]
            clear hzb
            have hbA : Below w4.heap.size w4 (w4.alloc (.cells #[.slice A2 m c2] 22)) := (Below.refl _ _).alloc (Nat.le_refl _) _
            have hb5 := bl_call hb00 (Nat.le_refl _) hbA
            have hx5 := hx.call hbA
            have zv5 := zv.call hbA
            have HP5 := Lib.hid (HPO.out _ (.slice (some ⟨w4.heap.size, 0, none⟩) 1 1) hb5)
            clear hbA
            obtain ⟨x0, x1, x2, x3, x4, x5, x6⟩ := hx.get3
            go_wp2_with fail
            refine HP5.out.mono ?_
            rintro e w6 ⟨rfl, hb6⟩
            clear x0 x1 x2 x3 x4 x5 x6
            clear hx hb00 zv HP5
            replace hb5 := bl_call hb5 (Nat.le_refl _) hb6
            replace hx5 := hx5.call hb6
            replace zv5 := zv5.call hb6
            clear hb6
            obtain ⟨x50, x51, x52, x53, x54, x55, x56⟩ := hx5.get3
            go_wp2_with fail
            refine (HCK.out _ hb5).mono ?_
            rintro e w7 ⟨rfl, hb7⟩
            clear x50 x51 x52 x53 x54 x55 x56
            replace hb5 := bl_call hb5 (Nat.le_refl _) hb7
            replace hx5 := hx5.call hb7
            replace zv5 := zv5.call hb7
            clear hb7
            obtain ⟨zv50, zv51, zv52, zv53, zv54⟩ := V2.mk zv5.c0 zv5.c1 zv5.f0 zv5.f1 zv5.lt
            go_wp2_with fail
            go_ret
            exact ⟨rfl, hb5⟩
          · replace HCE : Hid (∀ wz, Below w.heap.size w wz → Calls Tryd.prog 51 #[vG 2 (.slice (some ⟨bc, oc, none⟩) (q + 1) c) n, .int .u8 F] wz (RetI0 (if ∀ e, e ∈ C → inB 2 e = true then 0 else 7) wz)) := fun wz hb => by
              have h := HCE.out wz hb
              rwa [if_neg hd] at h
            replace hd : (y0 == 0 && y1 == 0) = false := by simpa using hd
            have HAT : Hid (∀ j, j < q + 1 → ∃ e0 e1, C[j]? = some (e0, e1)) := fun j hj => ⟨(C[j]'(by have := HMC.out; omega)).1, (C[j]'(by have := HMC.out; omega)).2, List.getElem?_eq_getElem (by have := HMC.out; omega)⟩
            obtain ⟨x0, x1, x2, x3, x4, x5, x6⟩ := hx.get3
            go_wp2_with fail
            clear x0 x1 x2 x3 x4 x5 x6
            clear d0 d1 hbl hd
            go_loopw [7, 64] (fun wv iv wr => ∃ (j : Nat) (W : Int), j ≤ q + 1 ∧ iv = .int .i64 j ∧ wv = .int .i64 W ∧ Hid ((W = 0 ∧ ∀ (i : Nat) (e : E), i < j → C[i]? = some e → inB 2 e = true) ∨ (W = 7 ∧ ∃ (i : Nat) (e : E), C[i]? = some e ∧ inB 2 e = false)) ∧ Vs wr w.heap.size [.int .u8 2, .slice (some ⟨bc, oc, none⟩) (q + 1) c, .int .i64 n] ∧ Below w.heap.size w wr) (fun _ iv _ => q + 1 - (intOf iv).toNat)
            case atStart => exact ⟨0, 0, Nat.zero_le _, rfl, rfl, .inl ⟨rfl, fun i e h => absurd h (Nat.not_lt_zero _)⟩, hx, hb00⟩
            case round =>
              clear hx hb00
              obtain ⟨j, W, hjq, rfl, rfl, HW, hx, hb00⟩ := hrel
              by_cases hlt : j < q + 1
              · obtain ⟨e0, e1, he⟩ := HAT.out j hlt
                have hrb := (HRW.out.below hb00 hBc) j _ he
                dsimp only at hrb
                obtain ⟨d0, d1⟩ := hrb
                have HOE : Hid (okE (e0, e1)) := HOK.out.at he
                have HE := Lib.hid he
                obtain ⟨t, ht⟩ : ∃ t, inB 2 (e0, e1) = t := ⟨_, rfl⟩
                have HI1 : Hid (∀ wz, Calls Tryd.prog 48 #[.int .i64 F, .agg #[.int .u64 e0, .int .u64 e1]] wz fun e w' => e = .returned (.bool t) ∧ Below wz.heap.size wz w') := fun wz => by
                  have h := HFM.out e0 e1 wz HOE.out
                  rwa [ht] at h
                have HT := Lib.hid ht
                have g1 : (0 : Int) ≤ (j : Int) := by omega
                have g2 : (j : Int) < (q : Int) + 1 := by omega
                have g3 : (j : Int) < ((q + 1 : Nat) : Int) := by omega
                have hbl : bc < wr.heap.size := Nat.lt_of_lt_of_le hBc hb00.size
                clear he ht
                go_upto_region 17 with fail
                have ev := V2.new wr (.int .u64 e0) (.int .u64 e1) 28
                have hbA : Below wr.heap.size wr (wr.alloc (.cells #[.int .u64 e0, .int .u64 e1] 28)) := by repeat (first | exact Below.refl _ _ | with_reducible assumption | (refine bl_alloc ?_ (Nat.le_refl _) _))
                replace hb00 := bl_call hb00 (Nat.le_refl _) hbA
                replace hx := hx.call hbA
                clear hbA
                generalize wr.alloc (.cells #[.int .u64 e0, .int .u64 e1] 28) = w5 at hb00 hx ev ⊢
                clear d0 d1 hbl
                obtain ⟨ev0, ev1, ev2, ev3, ev4⟩ := V2.mk ev.c0 ev.c1 ev.f0 ev.f1 ev.lt
                go_wp2_with fail
                refine (HI1.out _).mono ?_
                rintro e w6 ⟨rfl, hb6⟩
                clear ev0 ev1 ev2 ev3 ev4
                replace hb00 := bl_call hb00 (Nat.le_refl _) hb6
                replace hx := hx.call hb6
                replace ev := ev.call hb6
                clear hb6 ev
                cases t with
                | true =>
                  go_wp2_with fail
                  go_roundw
                  case rel => exact ⟨j + 1, W, by omega, by go_num, rfl, by
                    rcases HW.out with ⟨h1, h2⟩ | h1
                    · exact .inl ⟨h1, fun i e hi hie => by
                        by_cases hij : i = j
                        · rw [hij, HE.out] at hie
                          rw [← Option.some.inj hie]
                          exact HT.out
                        · exact h2 i e (by omega) hie⟩
                    · exact .inr h1, hx, hb00⟩
                  case measure => simp [intOf]; omega
                | false =>
                  go_wp2_with fail
                  go_roundw
                  case rel => exact ⟨j + 1, 7, by omega, by go_num, rfl, .inr ⟨rfl, j, _, HE.out, HT.out⟩, hx, hb00⟩
                  case measure => simp [intOf]; omega
              · obtain hje : j = q + 1 := by omega
                subst hje
                have g3 : ¬ ((q : Int) + 1 < (q : Int) + 1) := by omega
                rcases HW.out with ⟨h1, h2⟩ | ⟨h1, i, e, h2, h3⟩
                · subst h1
                  have HCK : Hid (∀ wz, Below w.heap.size w wz → Calls Tryd.prog 51 #[vG 2 (.slice (some ⟨bc, oc, none⟩) (q + 1) c) n, .int .u8 F] wz (RetI0 0 wz)) := fun wz hb => by
                    have h := HCE.out wz hb
                    rwa [if_pos (fun e he => by
                      obtain ⟨i, hi⟩ := List.getElem?_of_mem he
                      refine h2 i e ?_ hi
                      have := HMC.out
                      obtain ⟨h3, _⟩ := List.getElem?_eq_some_iff.1 hi
                      omega)] at h
                  have HOF : Hid (∀ wz, Below w.heap.size w wz → Calls Tryd.prog 49 #[vG 2 (.slice (some ⟨bc, oc, none⟩) (q + 1) c) n, .int .u8 F, .slice A2 m c2] wz (RetEAny wz)) := fun wz hb => by
                    by_cases hm1 : m = 1
                    · have HC9 := HCK.out
                      rw [HFF.out] at HC9 ⊢
                      exact gadget_Of_evalE HFI.out 2 n _ wz (fun wy hy => HC9 wy (hb.trans (hy.mono hb.size))) 1 (fun wy => gadget_Arity_eval n _ wy) rfl C (HS.out.later hb) (by rw [HMC.out]; omega) _ l (HL.out.later hb) rfl (by rw [HM.out]; exact hm1)
                    · exact gadget_Of_sizeE F 2 n _ wz (fun wy hy => HCK.out wy (hb.trans (hy.mono hb.size))) 1 (fun wy => gadget_Arity_eval n _ wy) A2 m c2 hm1
                  have HPO : Hid (∀ wz b, Below w.heap.size w wz → b < wz.heap.size → wz.cell? ⟨b, 0, none⟩ = some (.slice A2 m c2) → Calls Tryd.prog 50 #[vG 2 (.slice (some ⟨bc, oc, none⟩) (q + 1) c) n, .int .u8 F, .slice (some ⟨b, 0, none⟩) 1 1] wz (RetAny wz)) := fun wz b hb h1 h2 => by
                    have HC9 := HCK.out
                    rw [HFF.out] at HC9 ⊢
                    exact gadget_Poly_evalE HFI.out n _ C _ l wz (HTB.out.call hb) (HS.out.later hb) (by rw [HMC.out]; omega) (HL.out.later hb) (by rw [HM.out]; omega) (fun wy hy => HC9 wy (hb.trans (hy.mono hb.size))) (fun wy => gadget_Arity_eval n _ wy) b h1 h2
                  clear h2 HCE HW
                  obtain ⟨x0, x1, x2, x3, x4, x5, x6⟩ := hx.get3
                  go_wp2_with fail
                  refine (HOF.out _ hb00).mono ?_
                  rintro e w3 ⟨z0, z1, c3, rfl, hb3⟩
                  clear x0 x1 x2 x3 x4 x5 x6
                  replace hb00 := bl_call hb00 (Nat.le_refl _) hb3
                  replace hx := hx.call hb3
                  clear hb3
                  obtain ⟨x0, x1, x2, x3, x4, x5, x6⟩ := hx.get3
                  go_upto_region 25 with fail
                  clear x0 x1 x2 x3 x4 x5 x6
                  have zv := V2.new w3 (.int .u64 z0) (.int .u64 z1) 28
                  have hbA : Below w3.heap.size w3 (w3.alloc (.cells #[.int .u64 z0, .int .u64 z1] 28)) := by repeat (first | exact Below.refl _ _ | with_reducible assumption | (refine bl_alloc ?_ (Nat.le_refl _) _))
                  replace hb00 := bl_call hb00 (Nat.le_refl _) hbA
                  replace hx := hx.call hbA
                  clear hbA
                  generalize w3.alloc (.cells #[.int .u64 z0, .int .u64 z1] 28) = w4 at hb00 hx zv ⊢
                  obtain ⟨zb, hzb⟩ : ∃ z, w3.heap.size = z := ⟨_, rfl⟩
                  rw [hzb] at zv
                  simp only [hzb]
                  clear hzb
                  have hA1 := Vs.new w4 [.slice A2 m c2] #[.slice A2 m c2] 22 rfl
                  have hbA : Below w4.heap.size w4 (w4.alloc (.cells #[.slice A2 m c2] 22)) := (Below.refl _ _).alloc (Nat.le_refl _) _
                  have hb5 := bl_call hb00 (Nat.le_refl _) hbA
                  have hx5 := hx.call hbA
                  have zv5 := zv.call hbA
                  have HP5 := Lib.hid (HPO.out _ w4.heap.size hb5 hA1.lt (hA1.get1).1)
                  clear hA1 hbA
                  obtain ⟨x0, x1, x2, x3, x4, x5, x6⟩ := hx.get3
                  go_wp2_with fail
                  refine HP5.out.mono ?_
                  rintro e w6 ⟨v6, c6, rfl, hb6⟩
                  clear x0 x1 x2 x3 x4 x5 x6
                  clear hx hb00 zv HP5
                  replace hb5 := bl_call hb5 (Nat.le_refl _) hb6
                  replace hx5 := hx5.call hb6
                  replace zv5 := zv5.call hb6
                  clear hb6
                  obtain ⟨x50, x51, x52, x53, x54, x55, x56⟩ := hx5.get3
                  go_wp2_with fail
                  refine (HCK.out _ hb5).mono ?_
                  rintro e w7 ⟨rfl, hb7⟩
                  clear x50 x51 x52 x53 x54 x55 x56
                  replace hb5 := bl_call hb5 (Nat.le_refl _) hb7
                  replace hx5 := hx5.call hb7
                  replace zv5 := zv5.call hb7
                  clear hb7
                  obtain ⟨zv50, zv51, zv52, zv53, zv54⟩ := V2.mk zv5.c0 zv5.c1 zv5.f0 zv5.f1 zv5.lt
                  go_wp2_with fail
                  go_ret
                  exact ⟨rfl, hb5⟩
                · subst h1
                  have HCK : Hid (∀ wz, Below w.heap.size w wz → Calls Tryd.prog 51 #[vG 2 (.slice (some ⟨bc, oc, none⟩) (q + 1) c) n, .int .u8 F] wz (RetI0 7 wz)) := fun wz hb => by
                    have h := HCE.out wz hb
                    rwa [if_neg (fun h => by
                      rw [h e (List.mem_of_getElem? h2)] at h3
                      cases h3)] at h
                  have HOF : Hid (∀ wz, Below w.heap.size w wz → Calls Tryd.prog 49 #[vG 2 (.slice (some ⟨bc, oc, none⟩) (q + 1) c) n, .int .u8 F, .slice A2 m c2] wz fun e w' => e = .returned (.tuple #[.agg #[.int .u64 0, .int .u64 0], .int .i64 7]) ∧ Below wz.heap.size wz w') := fun wz hb => gadget_Of_err F 2 n (.slice (some ⟨bc, oc, none⟩) (q + 1) c) wz 7 (by decide) (fun wy hy => HCK.out wy (hb.trans (hy.mono hb.size))) _
                  have HPO : Hid (∀ wz v, Below w.heap.size w wz → Calls Tryd.prog 50 #[vG 2 (.slice (some ⟨bc, oc, none⟩) (q + 1) c) n, .int .u8 F, v] wz (RetE9 7 wz)) := fun wz v hb => gadget_Poly_err F 2 n (.slice (some ⟨bc, oc, none⟩) (q + 1) c) wz 7 (by decide) (fun wy hy => HCK.out wy (hb.trans (hy.mono hb.size))) v
                  clear h2 h3 HCE HW
                  obtain ⟨x0, x1, x2, x3, x4, x5, x6⟩ := hx.get3
                  go_wp2_with fail
                  refine (HOF.out _ hb00).mono ?_
                  rintro e w3 ⟨rfl, hb3⟩
                  clear x0 x1 x2 x3 x4 x5 x6
                  replace hb00 := bl_call hb00 (Nat.le_refl _) hb3
                  replace hx := hx.call hb3
                  clear hb3
                  obtain ⟨x0, x1, x2, x3, x4, x5, x6⟩ := hx.get3
                  go_upto_region 25 with fail
                  clear x0 x1 x2 x3 x4 x5 x6
                  have zv := V2.new w3 (.int .u64 0) (.int .u64 0) 28
                  have hbA : Below w3.heap.size w3 (w3.alloc (.cells #[.int .u64 0, .int .u64 0] 28)) := by repeat (first | exact Below.refl _ _ | with_reducible assumption | (refine bl_alloc ?_ (Nat.le_refl _) _))
                  replace hb00 := bl_call hb00 (Nat.le_refl _) hbA
                  replace hx := hx.call hbA
                  clear hbA
                  generalize w3.alloc (.cells #[.int .u64 0, .int .u64 0] 28) = w4 at hb00 hx zv ⊢
                  obtain ⟨zb, hzb⟩ : ∃ z, w3.heap.size = z := ⟨_, rfl⟩
                  rw [hzb] at zv
                  simp only [hzb]
                  clear hzb
                  have hbA : Below w4.heap.size w4 (w4.alloc (.cells #[.slice A2 m c2] 22)) := (Below.refl _ _).alloc (Nat.le_refl _) _
                  have hb5 := bl_call hb00 (Nat.le_refl _) hbA
                  have hx5 := hx.call hbA
                  have zv5 := zv.call hbA
                  have HP5 := Lib.hid (HPO.out _ (.slice (some ⟨w4.heap.size, 0, none⟩) 1 1) hb5)
                  clear hbA
                  obtain ⟨x0, x1, x2, x3, x4, x5, x6⟩ := hx.get3
                  go_wp2_with fail
                  refine HP5.out.mono ?_
                  rintro e w6 ⟨rfl, hb6⟩
                  clear x0 x1 x2 x3 x4 x5 x6
                  clear hx hb00 zv HP5
                  replace hb5 := bl_call hb5 (Nat.le_refl _) hb6
                  replace hx5 := hx5.call hb6
                  replace zv5 := zv5.call hb6
                  clear hb6
                  obtain ⟨x50, x51, x52, x53, x54, x55, x56⟩ := hx5.get3
                  go_wp2_with fail
                  refine (HCK.out _ hb5).mono ?_
                  rintro e w7 ⟨rfl, hb7⟩
                  clear x50 x51 x52 x53 x54 x55 x56
                  replace hb5 := bl_call hb5 (Nat.le_refl _) hb7
                  replace hx5 := hx5.call hb7
                  replace zv5 := zv5.call hb7
                  clear hb7
                  obtain ⟨zv50, zv51, zv52, zv53, zv54⟩ := V2.mk zv5.c0 zv5.c1 zv5.f0 zv5.f1 zv5.lt
                  go_wp2_with fail
                  go_ret
                  exact ⟨rfl, hb5⟩
      · subst hk
        by_cases hn : 1 ≤ n ∧ n ≤ 16
        · obtain ⟨N, hN⟩ : ∃ N : Nat, n = (N : Int) := ⟨n.toNat, by omega⟩
          subst hN
          have hn1 : ¬ ((N : Int) < 1) := by omega
          have hn2 : ¬ (16 < (N : Int)) := by omega
          have HCK : Hid (∀ wz, Below w.heap.size w wz → Calls Tryd.prog 51 #[vG 3 (.slice A mC c) N, .int .u8 F] wz (RetI0 0 wz)) := fun wz _ => by
            rw [HFF.out]
            exact gadget_Check_par HFI.out N _ hn wz
          have HOF : Hid (∀ wz, Below w.heap.size w wz → Calls Tryd.prog 49 #[vG 3 (.slice A mC c) N, .int .u8 F, .slice A2 m c2] wz (RetEAny wz)) := fun wz hb => by
            by_cases hm2 : m = 2 * N
            · have HC9 := HCK.out
              rw [HFF.out] at HC9 ⊢
              exact gadget_Of_pairsE HFI.out 3 N _ wz (fun wy hy => HC9 wy (hb.trans (hy.mono hb.size))) (2 * N) (fun wy => gadget_Arity_par N (by omega) _ wy) rfl _ l (HL.out.later hb) N rfl (by rw [HM.out]; exact hm2) (by omega)
            · exact gadget_Of_sizeE F 3 N _ wz (fun wy hy => HCK.out wy (hb.trans (hy.mono hb.size))) (2 * N) (fun wy => gadget_Arity_par N (by omega) _ wy) A2 m c2 hm2
          have HPO : Hid (∀ wz b, Below w.heap.size w wz → b < wz.heap.size → wz.cell? ⟨b, 0, none⟩ = some (.slice A2 m c2) → Calls Tryd.prog 50 #[vG 3 (.slice A mC c) N, .int .u8 F, .slice (some ⟨b, 0, none⟩) 1 1] wz (RetAny wz)) := fun wz b hb _ _ => gadget_Poly_size F 3 N _ wz (fun wy hy => HCK.out wy (hb.trans (hy.mono hb.size))) (2 * N) (fun wy => gadget_Arity_par N (by omega) _ wy) _ 1 1 (by omega)
          obtain ⟨x0, x1, x2, x3, x4, x5, x6⟩ := hx.get3
          go_wp2_with fail
          refine (HOF.out _ hb00).mono ?_
          rintro e w3 ⟨z0, z1, c3, rfl, hb3⟩
          clear x0 x1 x2 x3 x4 x5 x6
          replace hb00 := bl_call hb00 (Nat.le_refl _) hb3
          replace hx := hx.call hb3
          clear hb3
          obtain ⟨x0, x1, x2, x3, x4, x5, x6⟩ := hx.get3
          go_upto_region 25 with fail
          clear x0 x1 x2 x3 x4 x5 x6
          have zv := V2.new w3 (.int .u64 z0) (.int .u64 z1) 28
          have hbA : Below w3.heap.size w3 (w3.alloc (.cells #[.int .u64 z0, .int .u64 z1] 28)) := by repeat (first | exact Below.refl _ _ | with_reducible assumption | (refine bl_alloc ?_ (Nat.le_refl _) _))
          replace hb00 := bl_call hb00 (Nat.le_refl _) hbA
          replace hx := hx.call hbA
          clear hbA
          generalize w3.alloc (.cells #[.int .u64 z0, .int .u64 z1] 28) = w4 at hb00 hx zv ⊢
          obtain ⟨zb, hzb⟩ : ∃ z, w3.heap.size = z := ⟨_, rfl⟩
          rw [hzb] at zv
          simp only [hzb]
          clear hzb
          have hA1 := Vs.new w4 [.slice A2 m c2] #[.slice A2 m c2] 22 rfl
          have hbA : Below w4.heap.size w4 (w4.alloc (.cells #[.slice A2 m c2] 22)) := (Below.refl _ _).alloc (Nat.le_refl _) _
          have hb5 := bl_call hb00 (Nat.le_refl _) hbA
          have hx5 := hx.call hbA
          have zv5 := zv.call hbA
          have HP5 := Lib.hid (HPO.out _ w4.heap.size hb5 hA1.lt (hA1.get1).1)
          clear hA1 hbA
          obtain ⟨x0, x1, x2, x3, x4, x5, x6⟩ := hx.get3
          go_wp2_with fail
          refine HP5.out.mono ?_
          rintro e w6 ⟨v6, c6, rfl, hb6⟩
          clear x0 x1 x2 x3 x4 x5 x6
          clear hx hb00 zv HP5
          replace hb5 := bl_call hb5 (Nat.le_refl _) hb6
          replace hx5 := hx5.call hb6
          replace zv5 := zv5.call hb6
          clear hb6
          obtain ⟨x50, x51, x52, x53, x54, x55, x56⟩ := hx5.get3
          go_wp2_with fail
          refine (HCK.out _ hb5).mono ?_
          rintro e w7 ⟨rfl, hb7⟩
          clear x50 x51 x52 x53 x54 x55 x56
          replace hb5 := bl_call hb5 (Nat.le_refl _) hb7
          replace hx5 := hx5.call hb7
          replace zv5 := zv5.call hb7
          clear hb7
          obtain ⟨zv50, zv51, zv52, zv53, zv54⟩ := V2.mk zv5.c0 zv5.c1 zv5.f0 zv5.f1 zv5.lt
          go_wp2_with fail
          go_ret
          exact ⟨rfl, hb5⟩
        · have hn2 : n < 1 ∨ 16 < n := by omega
          have HCK : Hid (∀ wz, Below w.heap.size w wz → Calls Tryd.prog 51 #[vG 3 (.slice A mC c) n, .int .u8 F] wz (RetI0 6 wz)) := fun wz _ => by
            rw [HFF.out]
            exact gadget_Check_range HFI.out n _ hn2 wz
          have HOF : Hid (∀ wz, Below w.heap.size w wz → Calls Tryd.prog 49 #[vG 3 (.slice A mC c) n, .int .u8 F, .slice A2 m c2] wz fun e w' => e = .returned (.tuple #[.agg #[.int .u64 0, .int .u64 0], .int .i64 6]) ∧ Below wz.heap.size wz w') := fun wz hb => gadget_Of_err F 3 n (.slice A mC c) wz 6 (by decide) (fun wy hy => HCK.out wy (hb.trans (hy.mono hb.size))) _
          have HPO : Hid (∀ wz v, Below w.heap.size w wz → Calls Tryd.prog 50 #[vG 3 (.slice A mC c) n, .int .u8 F, v] wz (RetE9 6 wz)) := fun wz v hb => gadget_Poly_err F 3 n (.slice A mC c) wz 6 (by decide) (fun wy hy => HCK.out wy (hb.trans (hy.mono hb.size))) v
          clear hn
          rcases hn2 with hn3 | hn3
          · skip
            obtain ⟨x0, x1, x2, x3, x4, x5, x6⟩ := hx.get3
            go_wp2_with fail
            refine (HOF.out _ hb00).mono ?_
            rintro e w3 ⟨rfl, hb3⟩
            clear x0 x1 x2 x3 x4 x5 x6
            replace hb00 := bl_call hb00 (Nat.le_refl _) hb3
            replace hx := hx.call hb3
            clear hb3
            obtain ⟨x0, x1, x2, x3, x4, x5, x6⟩ := hx.get3
            go_upto_region 25 with fail
            clear x0 x1 x2 x3 x4 x5 x6
            have zv := V2.new w3 (.int .u64 0) (.int .u64 0) 28
            have hbA : Below w3.heap.size w3 (w3.alloc (.cells #[.int .u64 0, .int .u64 0] 28)) := by repeat (first | exact Below.refl _ _ | with_reducible assumption | (refine bl_alloc ?_ (Nat.le_refl _) _))
            replace hb00 := bl_call hb00 (Nat.le_refl _) hbA
            replace hx := hx.call hbA
            clear hbA
            generalize w3.alloc (.cells #[.int .u64 0, .int .u64 0] 28) = w4 at hb00 hx zv ⊢
            obtain ⟨zb, hzb⟩ : ∃ z, w3.heap.size = z := ⟨_, rfl⟩
            rw [hzb] at zv
            simp only [hzb]
            clear hzb
            have hbA : Below w4.heap.size w4 (w4.alloc (.cells #[.slice A2 m c2] 22)) := (Below.refl _ _).alloc (Nat.le_refl _) _
            have hb5 := bl_call hb00 (Nat.le_refl _) hbA
            have hx5 := hx.call hbA
            have zv5 := zv.call hbA
            have HP5 := Lib.hid (HPO.out _ (.slice (some ⟨w4.heap.size, 0, none⟩) 1 1) hb5)
            clear hbA
            obtain ⟨x0, x1, x2, x3, x4, x5, x6⟩ := hx.get3
            go_wp2_with fail
            refine HP5.out.mono ?_
            rintro e w6 ⟨rfl, hb6⟩
            clear x0 x1 x2 x3 x4 x5 x6
            clear hx hb00 zv HP5
            replace hb5 := bl_call hb5 (Nat.le_refl _) hb6
            replace hx5 := hx5.call hb6
            replace zv5 := zv5.call hb6
            clear hb6
            obtain ⟨x50, x51, x52, x53, x54, x55, x56⟩ := hx5.get3
            go_wp2_with fail
            refine (HCK.out _ hb5).mono ?_
            rintro e w7 ⟨rfl, hb7⟩
            clear x50 x51 x52 x53 x54 x55 x56
            replace hb5 := bl_call hb5 (Nat.le_refl _) hb7
            replace hx5 := hx5.call hb7
            replace zv5 := zv5.call hb7
            clear hb7
            obtain ⟨zv50, zv51, zv52, zv53, zv54⟩ := V2.mk zv5.c0 zv5.c1 zv5.f0 zv5.f1 zv5.lt
            go_wp2_with fail
            go_ret
            exact ⟨rfl, hb5⟩
          · have hn4 : ¬ (n < 1) := by omega
            obtain ⟨x0, x1, x2, x3, x4, x5, x6⟩ := hx.get3
            go_wp2_with fail
            refine (HOF.out _ hb00).mono ?_
            rintro e w3 ⟨rfl, hb3⟩
            clear x0 x1 x2 x3 x4 x5 x6
            replace hb00 := bl_call hb00 (Nat.le_refl _) hb3
            replace hx := hx.call hb3
            clear hb3
            obtain ⟨x0, x1, x2, x3, x4, x5, x6⟩ := hx.get3
            go_upto_region 25 with fail
            clear x0 x1 x2 x3 x4 x5 x6
            have zv := V2.new w3 (.int .u64 0) (.int .u64 0) 28
            have hbA : Below w3.heap.size w3 (w3.alloc (.cells #[.int .u64 0, .int .u64 0] 28)) := by repeat (first | exact Below.refl _ _ | with_reducible assumption | (refine bl_alloc ?_ (Nat.le_refl _) _))
            replace hb00 := bl_call hb00 (Nat.le_refl _) hbA
            replace hx := hx.call hbA
            clear hbA
            generalize w3.alloc (.cells #[.int .u64 0, .int .u64 0] 28) = w4 at hb00 hx zv ⊢
            obtain ⟨zb, hzb⟩ : ∃ z, w3.heap.size = z := ⟨_, rfl⟩
            rw [hzb] at zv
            simp only [hzb]
            clear hzb
            have hbA : Below w4.heap.size w4 (w4.alloc (.cells #[.slice A2 m c2] 22)) := (Below.refl _ _).alloc (Nat.le_refl _) _
            have hb5 := bl_call hb00 (Nat.le_refl _) hbA
            have hx5 := hx.call hbA
            have zv5 := zv.call hbA
            have HP5 := Lib.hid (HPO.out _ (.slice (some ⟨w4.heap.size, 0, none⟩) 1 1) hb5)
            clear hbA
            obtain ⟨x0, x1, x2, x3, x4, x5, x6⟩ := hx.get3
            go_wp2_with fail
            refine HP5.out.mono ?_
            rintro e w6 ⟨rfl, hb6⟩
            clear x0 x1 x2 x3 x4 x5 x6
            clear hx hb00 zv HP5
            replace hb5 := bl_call hb5 (Nat.le_refl _) hb6
            replace hx5 := hx5.call hb6
            replace zv5 := zv5.call hb6
            clear hb6
            obtain ⟨x50, x51, x52, x53, x54, x55, x56⟩ := hx5.get3
            go_wp2_with fail
            refine (HCK.out _ hb5).mono ?_
            rintro e w7 ⟨rfl, hb7⟩
            clear x50 x51 x52 x53 x54 x55 x56
            replace hb5 := bl_call hb5 (Nat.le_refl _) hb7
            replace hx5 := hx5.call hb7
            replace zv5 := zv5.call hb7
            clear hb7
            obtain ⟨zv50, zv51, zv52, zv53, zv54⟩ := V2.mk zv5.c0 zv5.c1 zv5.f0 zv5.f1 zv5.lt
            go_wp2_with fail
            go_ret
            exact ⟨rfl, hb5⟩
      · have k1 : (k == 1) = false := by rw [beq_eq_false_iff_ne]; exact hk.1
        have k2 : (k == 2) = false := by rw [beq_eq_false_iff_ne]; exact hk.2.1
        have k3 : (k == 3) = false := by rw [beq_eq_false_iff_ne]; exact hk.2.2
        have HCK : Hid (∀ wz, Below w.heap.size w wz → Calls Tryd.prog 51 #[vG k (.slice A mC c) n, .int .u8 F] wz (RetI0 10 wz)) := fun wz _ => by
          rw [HFF.out]
          exact gadget_Check_other HFI.out k n _ k1 k2 k3 wz
        have HOF : Hid (∀ wz, Below w.heap.size w wz → Calls Tryd.prog 49 #[vG k (.slice A mC c) n, .int .u8 F, .slice A2 m c2] wz fun e w' => e = .returned (.tuple #[.agg #[.int .u64 0, .int .u64 0], .int .i64 10]) ∧ Below wz.heap.size wz w') := fun wz hb => gadget_Of_err F k n (.slice A mC c) wz 10 (by decide) (fun wy hy => HCK.out wy (hb.trans (hy.mono hb.size))) _
        have HPO : Hid (∀ wz v, Below w.heap.size w wz → Calls Tryd.prog 50 #[vG k (.slice A mC c) n, .int .u8 F, v] wz (RetE9 10 wz)) := fun wz v hb => gadget_Poly_err F k n (.slice A mC c) wz 10 (by decide) (fun wy hy => HCK.out wy (hb.trans (hy.mono hb.size))) v
        clear hk
        obtain ⟨x0, x1, x2, x3, x4, x5, x6⟩ := hx.get3
        go_wp2_with fail
        refine (HOF.out _ hb00).mono ?_
        rintro e w3 ⟨rfl, hb3⟩
        clear x0 x1 x2 x3 x4 x5 x6
        replace hb00 := bl_call hb00 (Nat.le_refl _) hb3
        replace hx := hx.call hb3
        clear hb3
        obtain ⟨x0, x1, x2, x3, x4, x5, x6⟩ := hx.get3
        go_upto_region 25 with fail
        clear x0 x1 x2 x3 x4 x5 x6
        have zv := V2.new w3 (.int .u64 0) (.int .u64 0) 28
        have hbA : Below w3.heap.size w3 (w3.alloc (.cells #[.int .u64 0, .int .u64 0] 28)) := by repeat (first | exact Below.refl _ _ | with_reducible assumption | (refine bl_alloc ?_ (Nat.le_refl _) _))
        replace hb00 := bl_call hb00 (Nat.le_refl _) hbA
        replace hx := hx.call hbA
        clear hbA
        generalize w3.alloc (.cells #[.int .u64 0, .int .u64 0] 28) = w4 at hb00 hx zv ⊢
        obtain ⟨zb, hzb⟩ : ∃ z, w3.heap.size = z := ⟨_, rfl⟩
        rw [hzb] at zv
        simp only [hzb]
        clear hzb
        have hbA : Below w4.heap.size w4 (w4.alloc (.cells #[.slice A2 m c2] 22)) := (Below.refl _ _).alloc (Nat.le_refl _) _
        have hb5 := bl_call hb00 (Nat.le_refl _) hbA
        have hx5 := hx.call hbA
        have zv5 := zv.call hbA
        have HP5 := Lib.hid (HPO.out _ (.slice (some ⟨w4.heap.size, 0, none⟩) 1 1) hb5)
        clear hbA
        obtain ⟨x0, x1, x2, x3, x4, x5, x6⟩ := hx.get3
        go_wp2_with fail
        refine HP5.out.mono ?_
        rintro e w6 ⟨rfl, hb6⟩
        clear x0 x1 x2 x3 x4 x5 x6
        clear hx hb00 zv HP5
        replace hb5 := bl_call hb5 (Nat.le_refl _) hb6
        replace hx5 := hx5.call hb6
        replace zv5 := zv5.call hb6
        clear hb6
        obtain ⟨x50, x51, x52, x53, x54, x55, x56⟩ := hx5.get3
        go_wp2_with fail
        refine (HCK.out _ hb5).mono ?_
        rintro e w7 ⟨rfl, hb7⟩
        clear x50 x51 x52 x53 x54 x55 x56
        replace hb5 := bl_call hb5 (Nat.le_refl _) hb7
        replace hx5 := hx5.call hb7
        replace zv5 := zv5.call hb7
        clear hb7
        obtain ⟨zv50, zv51, zv52, zv53, zv54⟩ := V2.mk zv5.c0 zv5.c1 zv5.f0 zv5.f1 zv5.lt
        go_wp2_with fail
        go_ret
        exact ⟨rfl, hb5⟩

end Go.Proofs.YtfhmineolncefaaDoor
