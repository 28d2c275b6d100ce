/-
  WALK: tallymanlaw05.PolyNone.
-/
import Derived.Test.YtfhmineolncefaaDoorMay
import Derived.Test.YtfhmineolncefaaDoorMau
import Derived.Test.YtfhmineolncefaaDoorMag
namespace Go.Proofs.YtfhmineolncefaaDoor
open Go.RowKit Fm
set_option linter.unusedVariables false
set_option maxRecDepth 100000

theorem poly_Weights_err (F k c x0 x1 : Int) (hc : (c == 0) = false) (hP : ∀ wz, Calls Tryd.prog 23 #[.int .u8 F, .int .i64 k] wz (RetE9 c wz)) (w : World) :
    Calls Tryd.prog 45 #[.int .u8 F, .int .i64 k, .agg #[.int .u64 x0, .int .u64 x1]] w (RetE9 c w) := by
  have HP := Lib.hid hP
  have hc2 : (c != 0) = true := by rw [bne, hc]; rfl
  clear hP
  go_enter Tryd.func45, Tryd.ntmps45
  go_upto_region 1 with fail
  have q0 := V2.new w (.int .u64 x0) (.int .u64 x1) 28
  have hb00 : Below w.heap.size w (w.alloc (.cells #[(.int .u64 x0), (.int .u64 x1)] 28)) := by repeat (first | exact Below.refl _ _ | with_reducible assumption | (refine bl_alloc ?_ (Nat.le_refl _) _))
  have hsz : w.heap.size + 1 ≤ (w.alloc (.cells #[(.int .u64 x0), (.int .u64 x1)] 28)).heap.size := by simp only [World.size_alloc]; omega
  generalize (w.alloc (.cells #[(.int .u64 x0), (.int .u64 x1)] 28)) = w1 at q0 hb00 hsz ⊢
  go_wp2_with fail
  refine (HP.out _).mono ?_
  rintro e w2 ⟨rfl, hb2⟩
  replace hb00 := bl_call hb00 (Nat.le_refl _) hb2
  replace q0 := q0.call hb2
  clear hb2
  go_wp2_with fail
  go_ret2
  exact ⟨rfl, hb00⟩

section
variable (F : Int) (hF : ¬ (F = 1) ∧ ¬ (F = 2))
include hF
theorem poly_Mul_kind (va vb : Value) (w : World) : Calls Tryd.prog 29 #[.int .u8 F, va, vb] w (RetE9 10 w) := by
  have HV := Lib.hid (fun wz => ntt_inval F hF wz)
  go_enter Tryd.func29, Tryd.ntmps29
  go_wp2_with fail
  refine (HV.out _).mono ?_
  rintro e w' ⟨rfl, rfl⟩
  go_wp2_with fail
  go_ret2
  exact ⟨rfl, Below.refl _ _⟩
theorem poly_Through_kind (va vb : Value) (w : World) : Calls Tryd.prog 42 #[.int .u8 F, va, vb] w (RetE9 10 w) := by
  have HV := Lib.hid (fun wz => ntt_inval F hF wz)
  go_enter Tryd.func42, Tryd.ntmps42
  go_wp2_with fail
  refine (HV.out _).mono ?_
  rintro e w' ⟨rfl, rfl⟩
  go_wp2_with fail
  go_ret2
  exact ⟨rfl, Below.refl _ _⟩
end

section
variable {f : Nat} (hf : IsF f)
include hf
theorem poly_Through_many (A B : Option Addr) (n c d : Nat) (hn : 64 < n) (w : World) :
    Calls Tryd.prog 42 #[.int .u8 f, .slice A n c, .slice B n d] w (RetE9 5 w) := by
  have HVA := Lib.hid (fun wz => field_ValidT hf wz)
  go_enter Tryd.func42, Tryd.ntmps42
  go_wp2_with fail
  refine (HVA.out _).mono ?_
  rintro e w' ⟨rfl, rfl⟩
  go_wp2_with fail
  go_ret2
  exact ⟨rfl, Below.refl _ _⟩
omit hf in
theorem poly_Lagrange_size (A : Option Addr) (n c : Nat) (h : ∀ k : Nat, k ≤ 10 → n ≠ 2 ^ k) (x0 x1 : Int) (w : World) :
    Calls Tryd.prog 44 #[.int .u8 f, .slice A n c, .agg #[.int .u64 x0, .int .u64 x1]] w fun e w' => e = .returned (.tuple #[.agg #[.int .u64 0, .int .u64 0], .int .i64 9]) ∧ Below w.heap.size w w' := by
  have HL := Lib.hid (fun wz => ntt_Log_no (n : Int) wz (fun k hk he => h k hk (by exact_mod_cast he)))
  clear h
  go_enter Tryd.func44, Tryd.ntmps44
  go_upto_region 1 with fail
  have q0 := (V2.new w (.int .u64 x0) (.int .u64 x1) 28).alloc (.cells #[(.int .u64 0), (.int .u64 0)] 28)
  have s0 := V2.new (w.alloc (.cells #[(.int .u64 x0), (.int .u64 x1)] 28)) (.int .u64 0) (.int .u64 0) 28
  simp only [World.size_alloc] at s0
  have hb00 : Below w.heap.size w ((w.alloc (.cells #[(.int .u64 x0), (.int .u64 x1)] 28)).alloc (.cells #[(.int .u64 0), (.int .u64 0)] 28)) := by repeat (first | exact Below.refl _ _ | with_reducible assumption | (refine bl_alloc ?_ (Nat.le_refl _) _))
  have hsz : w.heap.size + 2 ≤ ((w.alloc (.cells #[(.int .u64 x0), (.int .u64 x1)] 28)).alloc (.cells #[(.int .u64 0), (.int .u64 0)] 28)).heap.size := by simp only [World.size_alloc]; omega
  generalize ((w.alloc (.cells #[(.int .u64 x0), (.int .u64 x1)] 28)).alloc (.cells #[(.int .u64 0), (.int .u64 0)] 28)) = w1 at q0 s0 hb00 hsz ⊢
  obtain ⟨q00, q01, q02, q03, q04⟩ := V2.mk q0.c0 q0.c1 q0.f0 q0.f1 q0.lt
  go_wp2_with fail
  refine (HL.out _).mono ?_
  rintro e w' ⟨rfl, rfl⟩
  clear q00 q01 q02 q03 q04
  obtain ⟨s00, s01, s02, s03, s04⟩ := V2.mk s0.c0 s0.c1 s0.f0 s0.f1 s0.lt
  go_wp2_with fail
  refine bodyPost_ret (results_v2_tmp (b := w.heap.size + 1) (u := .int .u64 0) (v := .int .u64 0) ?_ rfl rfl) rfl ?_
  · first | exact V2.set s0 _ _ | exact s0
  · exact ⟨rfl, by repeat (first | exact Below.refl _ _ | with_reducible assumption | (refine bl_alloc ?_ (Nat.le_refl _) _) | (refine bl_set ?_ (by dsimp only; omega) _) | (refine Below.drew ?_) | (refine bl_drewN ?_ _) | (refine bl_call ?_ (Nat.le_refl _) (by assumption)))⟩
end

theorem three_no : ∀ k : Nat, k ≤ 10 → 3 ≠ 2 ^ k := fun k hk h => by
  rcases k with _ | _ | k
  · omega
  · omega
  · have := Nat.pow_le_pow_right (n := 2) (by omega) (show 2 ≤ k + 2 by omega)
    omega

set_option maxHeartbeats 4000000 in
theorem walk_PolyNone (F : Int) (vl : Value) (k many : Int) (l : List E) (x : E) (w : World) (hT : TabW w) (hF0 : 0 ≤ F ∧ F ≤ 255) (hl : SlE w w.heap.size vl l) (hk9 : -9223372036854775808 ≤ k ∧ k ≤ 9223372036854775807) (hx : okE x) (hm : 0 ≤ many ∧ many ≤ 255) :
    Calls Tryd.prog 14 #[.int .u8 F, vl, .int .i64 k, .agg #[.int .u64 x.1, .int .u64 x.2], .int .u8 many] w fun e w' => e = .returned (.bool true) ∧ Below w.heap.size w w' := by
  obtain ⟨x0, x1⟩ := x
  dsimp only
  clear hk9
  have HAW := Lib.hid (fun wz h => law05_Awake wz h)
  have HL := Lib.hid hl
  have HX := Lib.hid hx
  have HTB := Lib.hid hT
  obtain ⟨A, c, rfl, hc1, hc2⟩ := hl.shape
  obtain ⟨m, hm⟩ : ∃ m, l.length = m := ⟨_, rfl⟩
  have HM := Lib.hid hm
  rw [hm] at hc1 HL ⊢
  obtain ⟨M, hM⟩ : ∃ M : Nat, many = (M : Int) := ⟨many.toNat, by omega⟩
  subst hM
  obtain ⟨N, hN⟩ : ∃ N : Nat, 65 + M = N := ⟨_, rfl⟩
  have hNi : (65 : Int) + (M : Int) = (N : Int) := by omega
  have hN1 : N ≤ 320 := by omega
  have hN2 : 64 < N := by omega
  have hmk := make_elem N (by omega)
  have hM255 : (M : Int) ≤ 255 := by omega
  clear hm hl hx hN
  have hb00 : Below w.heap.size w w := Below.refl _ _
  go_enter Tryd.func14, Tryd.ntmps14
  go_upto_region 1 with fail
  clear hb00
  have q0 := V2.new w (.int .u64 x0) (.int .u64 x1) 28
  have hb00 : Below w.heap.size w (w.alloc (.cells #[(.int .u64 x0), (.int .u64 x1)] 28)) := by repeat (first | exact Below.refl _ _ | with_reducible assumption | (refine bl_alloc ?_ (Nat.le_refl _) _))
  have hsz : w.heap.size + 1 ≤ (w.alloc (.cells #[(.int .u64 x0), (.int .u64 x1)] 28)).heap.size := by simp only [World.size_alloc]; omega
  generalize (w.alloc (.cells #[(.int .u64 x0), (.int .u64 x1)] 28)) = w1 at q0 hb00 hsz ⊢
  go_wp2_with fail
  refine (HAW.out _ (HTB.out.call hb00)).mono ?_
  rintro e w2 ⟨rfl, hb2⟩
  replace hb00 := bl_call hb00 (Nat.le_refl _) hb2
  replace q0 := q0.call hb2
  clear hb2 hT HAW
  by_cases h40 : 40 < m
  · go_wp2_with fail
    go_ret
    exact ⟨rfl, hb00⟩
  have HCASE : Hid ((F = 1 ∨ F = 2) ∨ (¬ (F = 1) ∧ ¬ (F = 2))) := by show _ ∨ _; omega
  rcases HCASE.out with (hF1 | hF1) | hF1
  · have HFF : Hid (F = ((1 : Nat) : Int)) := hF1
    have HFI : Hid (IsF 1) := isF1
    have t1 : (F == 1) = true := by rw [beq_iff_eq]; exact hF1
    have t2 : (F != 1) = false := by rw [bne, t1]; rfl
    clear hF1
    have HMUL : Hid (∀ wz, Below w.heap.size w wz → Calls Tryd.prog 29 #[.int .u8 F, .slice A m c, .slice A m c] wz (RetMulE m m wz)) := fun wz hb => by
      rw [HFF.out]
      have h := poly_Mul_E HFI.out (.slice A m c) (.slice A m c) l l wz (HTB.out.call hb) (HL.out.later hb) (HL.out.later hb) (by rw [HM.out]; omega)
      rwa [HM.out] at h
    have HTHR : Hid (∀ wz, Below w.heap.size w wz → Calls Tryd.prog 42 #[.int .u8 F, .slice A m c, .slice A m c] wz (RetAny wz)) := fun wz hb => by
      rw [HFF.out]
      exact poly_Through_E HFI.out (.slice A m c) l wz (HTB.out.call hb) (HL.out.later hb) (by rw [HM.out]; omega)
    have HWT : Hid (∃ cw : Int, ((0 ≤ k ∧ k ≤ 10) ∨ (k < 0 ∧ cw = 6) ∨ (10 < k ∧ cw = 6)) ∧ ∀ wz, Calls Tryd.prog 45 #[.int .u8 F, .int .i64 k, .agg #[.int .u64 x0, .int .u64 x1]] wz (fun e w' => ∃ v : Value, e = .returned (.tuple #[v, .int .i64 cw]) ∧ Below wz.heap.size wz w')) := by
      rw [HFF.out]
      by_cases hk : 0 ≤ k ∧ k ≤ 10
      · obtain ⟨L, hL⟩ : ∃ L : Nat, k = (L : Int) := ⟨k.toNat, by omega⟩
        subst hL
        by_cases h1 : Fm.kpow (kL 1 x0 x1) (2 ^ L) = 1
        · refine ⟨12, .inl hk, fun wz => (poly_WeightsL HFI.out L (by omega) x0 x1 HX.out wz).mono fun e w' h => ?_⟩
          rcases h with ⟨_, h2, h3⟩ | ⟨h2, _⟩
          · exact ⟨_, h2, h3⟩
          · exact absurd h1 h2
        · refine ⟨0, .inl hk, fun wz => (poly_WeightsL HFI.out L (by omega) x0 x1 HX.out wz).mono fun e w' h => ?_⟩
          rcases h with ⟨h2, _⟩ | ⟨_, v, h2, _, h3⟩
          · exact absurd h2 h1
          · exact ⟨v, h2, h3⟩
      · refine ⟨6, by omega, fun wz => (poly_Weights_err ((1 : Nat) : Int) k 6 x0 x1 (by decide) (fun wz => ntt_Points_range HFI.out k (by omega) wz) wz).mono fun e w' h => ⟨_, h.1, h.2⟩⟩
    have HTM : Hid (∀ A B c d wz, Calls Tryd.prog 42 #[.int .u8 F, .slice A N c, .slice B N d] wz (RetE9 5 wz)) := fun A B c d wz => by
      rw [HFF.out]
      exact poly_Through_many HFI.out A B N c d hN2 wz
    have HLS : Hid (∀ A c wz, Calls Tryd.prog 44 #[.int .u8 F, .slice A 3 c, .agg #[.int .u64 x0, .int .u64 x1]] wz fun e w' => e = .returned (.tuple #[.agg #[.int .u64 0, .int .u64 0], .int .i64 9]) ∧ Below wz.heap.size wz w') := fun A c wz => by
      rw [HFF.out]
      exact poly_Lagrange_size (f := 1) A 3 c three_no x0 x1 wz
    obtain ⟨cw, hcw, HW⟩ := HWT.out
    have HW := Lib.hid HW
    go_wp2_with fail
    refine (HMUL.out _ hb00).mono ?_
    rintro e w3 ⟨v3, S3, rfl, _, _, _, hb3⟩
    replace hb00 := bl_call hb00 (Nat.le_refl _) hb3
    replace q0 := q0.call hb3
    clear hb3
    go_wp2_with fail
    refine (HTHR.out _ hb00).mono ?_
    rintro e w4 ⟨v4, c4, rfl, hb4⟩
    replace hb00 := bl_call hb00 (Nat.le_refl _) hb4
    replace q0 := q0.call hb4
    clear hb4
    obtain ⟨q00, q01, q02, q03, q04⟩ := V2.mk q0.c0 q0.c1 q0.f0 q0.f1 q0.lt
    go_wp2_with fail
    refine (HW.out _).mono ?_
    rintro e w5 ⟨v5, rfl, hb5⟩
    clear q00 q01 q02 q03 q04
    replace hb00 := bl_call hb00 (Nat.le_refl _) hb5
    replace q0 := q0.call hb5
    clear hb5
    go_upto_region 12 with fail
    replace q0 := q0.alloc (.cells (cellsE (List.replicate N (0, 0))).toArray 28)
    replace hb00 : Below w.heap.size w (w5.alloc (.cells (cellsE (List.replicate N (0, 0))).toArray 28)) := hb00.alloc hb00.size _
    generalize w5.alloc (.cells (cellsE (List.replicate N (0, 0))).toArray 28) = w6 at q0 hb00 ⊢
    generalize w5.heap.size = lb
    clear hmk
    go_wp2_with fail
    refine (HTM.out _ _ _ _ _).mono ?_
    rintro e w7 ⟨rfl, hb7⟩
    replace hb00 := bl_call hb00 (Nat.le_refl _) hb7
    replace q0 := q0.call hb7
    clear hb7
    have hmk3 := make_elem 3 (by omega)
    obtain ⟨L3, hL3⟩ : ∃ L, List.replicate 3 ((0, 0) : E) = L := ⟨_, rfl⟩
    rw [hL3] at hmk3
    simp only [show ((3 : Nat) : Int) = 3 from rfl] at hmk3
    clear hL3
    go_upto_region 13 with fail
    obtain ⟨q00, q01, q02, q03, q04⟩ := V2.mk q0.c0 q0.c1 q0.f0 q0.f1 q0.lt
    refine region_G (n := 9) (m := 10) (f := 9) (by kernel_rfl) (by kernel_rfl) rfl ?_
    refine WpG.takeD 0 (some 78) (v := ?_) rfl rfl (by kernel_rfl) (fun _ _ _ h => h) (.val rfl (fun wz hwz => ?_)) ?_
    rotate_left
    · go_simp; try (with_reducible rfl)
    (simp only [Act.put]); (try simp only [List.setIfInBounds_toArray]); (try simp only [List.set_cons_succ]); (try simp only [List.set_cons_zero])
    refine WpG.takeD 2 (some 80) (v := ?_) rfl rfl (by kernel_rfl) (fun _ _ _ h => h) (.val rfl (fun wz hwz => ?_)) ?_
    rotate_left
    · (obtain ⟨hcz, hfz⟩ := bcell (hwz); go_simp; try (with_reducible rfl))
    (simp only [Act.put]); (try simp only [List.setIfInBounds_toArray]); (try simp only [List.set_cons_succ]); (try simp only [List.set_cons_zero])
    refine WpG.twoD 1 7 (some 79) (some 21) rfl rfl rfl rfl (by kernel_rfl) (fun b : Nat => Value.slice (some ⟨b, 0, none⟩) 3 3) (fun b wz => 0 ≤ b ∧ True) (fun _ _ _ h hb => h) (Fresh.slice 3 3 (cellsE L3) 28 rfl (fun wz hwz => Nat.zero_le _) (fun wz hwz => by go_simp; try (with_reducible rfl)) (B := 0) (R := fun b wz => True) (fun wz hwz => trivial)) (fun b : Nat => Value.pointer (some ⟨b, 0, none⟩)) (fun b wz => w7.heap.size ≤ b ∧ V2 wz b (.int .u64 0) (.int .u64 0)) (fun _ _ _ h hb => ⟨h.1, h.2.call hb⟩) (Fresh.var [.int .u64 0, .int .u64 0] 28 rfl (fun wz hwz => (hwz).size) (fun wz hwz => by go_simp; try (with_reducible rfl)) (R := fun b wz => V2 wz b (.int .u64 0) (.int .u64 0)) (fun wz hwz => V2.new wz _ _ _)) (fun u1 w0u1 hw0u1 hR0u1 => ?rg13_1a) (fun vb w0vb hw0vb hR0vb => ?rg13_1b)
    case' rg13_1a =>
      (simp only [Act.put]); (try simp only [List.setIfInBounds_toArray]); (try simp only [List.set_cons_succ]); (try simp only [List.set_cons_zero])
      refine WpG.takeD 3 (some 81) rfl rfl (by kernel_rfl) (fun _ _ _ h => h) (.call rfl (fun wz hwz => HLS.out (some ⟨u1, 0, none⟩) 3 wz) (fun wz hwz => ?_)) ?_
      · go_simp; try (with_reducible rfl)
      (simp only [Act.put]); (try simp only [List.setIfInBounds_toArray]); (try simp only [List.set_cons_succ]); (try simp only [List.set_cons_zero])
      refine WpG.takeD 4 (some 77) (v := ?_) rfl rfl (by kernel_rfl) (fun _ _ _ h => h) (.val rfl (fun wz hwz => ?_)) ?_
      rotate_left
      · go_simp; try (with_reducible rfl)
      (simp only [Act.put]); (try simp only [List.setIfInBounds_toArray]); (try simp only [List.set_cons_succ]); (try simp only [List.set_cons_zero])
      refine WpG.takeD 5 (some 82) (v := ?_) rfl rfl (by kernel_rfl) (fun _ _ _ h => h) (.val rfl (fun wz hwz => ?_)) ?_
      rotate_left
      · go_simp; try (with_reducible rfl)
      (simp only [Act.put]); (try simp only [List.setIfInBounds_toArray]); (try simp only [List.set_cons_succ]); (try simp only [List.set_cons_zero])
      refine WpG.takeD 6 (some 83) (v := ?_) rfl rfl (by kernel_rfl) (fun _ _ _ h => h) (.val rfl (fun wz hwz => ?_)) ?_
      rotate_left
      · go_simp; try (with_reducible rfl)
      (simp only [Act.put]); (try simp only [List.setIfInBounds_toArray]); (try simp only [List.set_cons_succ]); (try simp only [List.set_cons_zero])
      refine WpG.oneD 7 (some 21) rfl rfl (by kernel_rfl) (fun b : Nat => Value.pointer (some ⟨b, 0, none⟩)) (fun b wz => w7.heap.size ≤ b ∧ V2 wz b (.int .u64 0) (.int .u64 0)) (fun _ _ _ h hb => ⟨h.1, h.2.call hb⟩) (Fresh.var [.int .u64 0, .int .u64 0] 28 rfl (fun wz hwz => (hwz.1).size) (fun wz hwz => by go_simp; try (with_reducible rfl)) (R := fun b wz => V2 wz b (.int .u64 0) (.int .u64 0)) (fun wz hwz => V2.new wz _ _ _)) (fun vb w0vb hw0vb hR0vb => ?_)
      (simp only [Act.put]); (try simp only [List.setIfInBounds_toArray]); (try simp only [List.set_cons_succ]); (try simp only [List.set_cons_zero])
      refine WpG.oneSkip 8 none rfl rfl (by kernel_rfl) (fun _ => True) (fun _ _ _ _ => trivial) rfl (fun wz hwz => ?_) ?_
      · obtain ⟨hge, hVz⟩ := hwz.2; obtain ⟨z0, z1, z2, z3, z4⟩ := V2.mk hVz.c0 hVz.c1 hVz.f0 hVz.f1 hVz.lt; exact ⟨(wz.setCell ⟨vb, 0, none⟩ (.int .u64 0)).setCell ⟨vb, 1, none⟩ (.int .u64 0), by go_simp; try (with_reducible rfl), ⟨⟨bl_st (hwz.1.1) hge _ _, hwz.1.2⟩, ⟨hge, V2.set hVz _ _⟩⟩, trivial⟩
      (simp only [Act.put]); (try simp only [List.setIfInBounds_toArray]); (try simp only [List.set_cons_succ]); (try simp only [List.set_cons_zero])
      refine WpG.done (by kernel_rfl) (fun w8 hS => ?_)
      (try simp only [List.drop_succ_cons]); (try simp only [List.drop_zero]); (try simp only [Nat.reduceSub]); (try simp only [List.take_succ_cons]); (try simp only [List.take_zero])
    case' rg13_1b =>
      (simp only [Act.put]); (try simp only [List.setIfInBounds_toArray]); (try simp only [List.set_cons_succ]); (try simp only [List.set_cons_zero])
      refine WpG.oneD 1 (some 79) rfl rfl (by kernel_rfl) (fun b : Nat => Value.slice (some ⟨b, 0, none⟩) 3 3) (fun b wz => 0 ≤ b ∧ True) (fun _ _ _ h hb => h) (Fresh.slice 3 3 (cellsE L3) 28 rfl (fun wz hwz => Nat.zero_le _) (fun wz hwz => by go_simp; try (with_reducible rfl)) (B := 0) (R := fun b wz => True) (fun wz hwz => trivial)) (fun u1 w0u1 hw0u1 hR0u1 => ?_)
      (simp only [Act.put]); (try simp only [List.setIfInBounds_toArray]); (try simp only [List.set_cons_succ]); (try simp only [List.set_cons_zero])
      refine WpG.takeD 3 (some 81) rfl rfl (by kernel_rfl) (fun _ _ _ h => h) (.call rfl (fun wz hwz => HLS.out (some ⟨u1, 0, none⟩) 3 wz) (fun wz hwz => ?_)) ?_
      · go_simp; try (with_reducible rfl)
      (simp only [Act.put]); (try simp only [List.setIfInBounds_toArray]); (try simp only [List.set_cons_succ]); (try simp only [List.set_cons_zero])
      refine WpG.takeD 4 (some 77) (v := ?_) rfl rfl (by kernel_rfl) (fun _ _ _ h => h) (.val rfl (fun wz hwz => ?_)) ?_
      rotate_left
      · go_simp; try (with_reducible rfl)
      (simp only [Act.put]); (try simp only [List.setIfInBounds_toArray]); (try simp only [List.set_cons_succ]); (try simp only [List.set_cons_zero])
      refine WpG.takeD 5 (some 82) (v := ?_) rfl rfl (by kernel_rfl) (fun _ _ _ h => h) (.val rfl (fun wz hwz => ?_)) ?_
      rotate_left
      · go_simp; try (with_reducible rfl)
      (simp only [Act.put]); (try simp only [List.setIfInBounds_toArray]); (try simp only [List.set_cons_succ]); (try simp only [List.set_cons_zero])
      refine WpG.takeD 6 (some 83) (v := ?_) rfl rfl (by kernel_rfl) (fun _ _ _ h => h) (.val rfl (fun wz hwz => ?_)) ?_
      rotate_left
      · go_simp; try (with_reducible rfl)
      (simp only [Act.put]); (try simp only [List.setIfInBounds_toArray]); (try simp only [List.set_cons_succ]); (try simp only [List.set_cons_zero])
      refine WpG.oneSkip 8 none rfl rfl (by kernel_rfl) (fun _ => True) (fun _ _ _ _ => trivial) rfl (fun wz hwz => ?_) ?_
      · obtain ⟨hge, hVz⟩ := hwz.1.2; obtain ⟨z0, z1, z2, z3, z4⟩ := V2.mk hVz.c0 hVz.c1 hVz.f0 hVz.f1 hVz.lt; exact ⟨(wz.setCell ⟨vb, 0, none⟩ (.int .u64 0)).setCell ⟨vb, 1, none⟩ (.int .u64 0), by go_simp; try (with_reducible rfl), ⟨⟨bl_st (hwz.1.1) hge _ _, ⟨hge, V2.set hVz _ _⟩⟩, hwz.2⟩, trivial⟩
      (simp only [Act.put]); (try simp only [List.setIfInBounds_toArray]); (try simp only [List.set_cons_succ]); (try simp only [List.set_cons_zero])
      refine WpG.done (by kernel_rfl) (fun w8 hS => ?_)
      (try simp only [List.drop_succ_cons]); (try simp only [List.drop_zero]); (try simp only [Nat.reduceSub]); (try simp only [List.take_succ_cons]); (try simp only [List.take_zero])
    all_goals have hS2 : Below w7.heap.size w7 w8 ∧ w7.heap.size ≤ vb ∧ V2 w8 vb (.int .u64 0) (.int .u64 0) := by first | exact ⟨hS.1.1.1, hS.1.2.1, hS.1.2.2⟩ | exact ⟨hS.1.1.1, hS.1.1.2.1, hS.1.1.2.2⟩
    all_goals clear hS
    all_goals (
      obtain ⟨hb8, hvb, gv⟩ := hS2
      clear q00 q01 q02 q03 q04
      have hvb2 := Nat.le_trans hb00.size hvb
      replace hb00 := bl_call hb00 (Nat.le_refl _) hb8
      clear hb8 q0
      obtain ⟨gv0, gv1, gv2, gv3, gv4⟩ := V2.mk gv.c0 gv.c1 gv.f0 gv.f1 gv.lt
      rcases hcw with ⟨hk1, hk2⟩ | ⟨hk1, hk2⟩ | ⟨hk1, hk2⟩
      · go_wp2_with fail
        go_ret
        exact ⟨rfl, hb00⟩
      · subst hk2
        have hk3 : ¬ (0 ≤ k) := by omega
        go_wp2_with fail
        go_ret
        exact ⟨rfl, hb00⟩
      · subst hk2
        have hk3 : 0 ≤ k := by omega
        have hk4 : ¬ (k ≤ 10) := by omega
        go_wp2_with fail
        go_ret
        exact ⟨rfl, hb00⟩)
  · have HFF : Hid (F = ((2 : Nat) : Int)) := hF1
    have HFI : Hid (IsF 2) := isF2
    have t1 : (F == 1) = false := by rw [beq_eq_false_iff_ne]; omega
    have t2 : (F != 1) = true := by rw [bne, t1]; rfl
    have t3 : (F == 2) = true := by rw [beq_iff_eq]; exact hF1
    have t4 : (F != 2) = false := by rw [bne, t3]; rfl
    clear hF1
    have HMUL : Hid (∀ wz, Below w.heap.size w wz → Calls Tryd.prog 29 #[.int .u8 F, .slice A m c, .slice A m c] wz (RetMulE m m wz)) := fun wz hb => by
      rw [HFF.out]
      have h := poly_Mul_E HFI.out (.slice A m c) (.slice A m c) l l wz (HTB.out.call hb) (HL.out.later hb) (HL.out.later hb) (by rw [HM.out]; omega)
      rwa [HM.out] at h
    have HTHR : Hid (∀ wz, Below w.heap.size w wz → Calls Tryd.prog 42 #[.int .u8 F, .slice A m c, .slice A m c] wz (RetAny wz)) := fun wz hb => by
      rw [HFF.out]
      exact poly_Through_E HFI.out (.slice A m c) l wz (HTB.out.call hb) (HL.out.later hb) (by rw [HM.out]; omega)
    have HWT : Hid (∃ cw : Int, ((0 ≤ k ∧ k ≤ 10) ∨ (k < 0 ∧ cw = 6) ∨ (10 < k ∧ cw = 6)) ∧ ∀ wz, Calls Tryd.prog 45 #[.int .u8 F, .int .i64 k, .agg #[.int .u64 x0, .int .u64 x1]] wz (fun e w' => ∃ v : Value, e = .returned (.tuple #[v, .int .i64 cw]) ∧ Below wz.heap.size wz w')) := by
      rw [HFF.out]
      by_cases hk : 0 ≤ k ∧ k ≤ 10
      · obtain ⟨L, hL⟩ : ∃ L : Nat, k = (L : Int) := ⟨k.toNat, by omega⟩
        subst hL
        by_cases h1 : Fm.kpow (kL 2 x0 x1) (2 ^ L) = 1
        · refine ⟨12, .inl hk, fun wz => (poly_WeightsL HFI.out L (by omega) x0 x1 HX.out wz).mono fun e w' h => ?_⟩
          rcases h with ⟨_, h2, h3⟩ | ⟨h2, _⟩
          · exact ⟨_, h2, h3⟩
          · exact absurd h1 h2
        · refine ⟨0, .inl hk, fun wz => (poly_WeightsL HFI.out L (by omega) x0 x1 HX.out wz).mono fun e w' h => ?_⟩
          rcases h with ⟨h2, _⟩ | ⟨_, v, h2, _, h3⟩
          · exact absurd h2 h1
          · exact ⟨v, h2, h3⟩
      · refine ⟨6, by omega, fun wz => (poly_Weights_err ((2 : Nat) : Int) k 6 x0 x1 (by decide) (fun wz => ntt_Points_range HFI.out k (by omega) wz) wz).mono fun e w' h => ⟨_, h.1, h.2⟩⟩
    have HTM : Hid (∀ A B c d wz, Calls Tryd.prog 42 #[.int .u8 F, .slice A N c, .slice B N d] wz (RetE9 5 wz)) := fun A B c d wz => by
      rw [HFF.out]
      exact poly_Through_many HFI.out A B N c d hN2 wz
    have HLS : Hid (∀ A c wz, Calls Tryd.prog 44 #[.int .u8 F, .slice A 3 c, .agg #[.int .u64 x0, .int .u64 x1]] wz fun e w' => e = .returned (.tuple #[.agg #[.int .u64 0, .int .u64 0], .int .i64 9]) ∧ Below wz.heap.size wz w') := fun A c wz => by
      rw [HFF.out]
      exact poly_Lagrange_size (f := 2) A 3 c three_no x0 x1 wz
    obtain ⟨cw, hcw, HW⟩ := HWT.out
    have HW := Lib.hid HW
    go_wp2_with fail
    refine (HMUL.out _ hb00).mono ?_
    rintro e w3 ⟨v3, S3, rfl, _, _, _, hb3⟩
    replace hb00 := bl_call hb00 (Nat.le_refl _) hb3
    replace q0 := q0.call hb3
    clear hb3
    go_wp2_with fail
    refine (HTHR.out _ hb00).mono ?_
    rintro e w4 ⟨v4, c4, rfl, hb4⟩
    replace hb00 := bl_call hb00 (Nat.le_refl _) hb4
    replace q0 := q0.call hb4
    clear hb4
    obtain ⟨q00, q01, q02, q03, q04⟩ := V2.mk q0.c0 q0.c1 q0.f0 q0.f1 q0.lt
    go_wp2_with fail
    refine (HW.out _).mono ?_
    rintro e w5 ⟨v5, rfl, hb5⟩
    clear q00 q01 q02 q03 q04
    replace hb00 := bl_call hb00 (Nat.le_refl _) hb5
    replace q0 := q0.call hb5
    clear hb5
    go_upto_region 12 with fail
    replace q0 := q0.alloc (.cells (cellsE (List.replicate N (0, 0))).toArray 28)
    replace hb00 : Below w.heap.size w (w5.alloc (.cells (cellsE (List.replicate N (0, 0))).toArray 28)) := hb00.alloc hb00.size _
    generalize w5.alloc (.cells (cellsE (List.replicate N (0, 0))).toArray 28) = w6 at q0 hb00 ⊢
    generalize w5.heap.size = lb
    clear hmk
    go_wp2_with fail
    refine (HTM.out _ _ _ _ _).mono ?_
    rintro e w7 ⟨rfl, hb7⟩
    replace hb00 := bl_call hb00 (Nat.le_refl _) hb7
    replace q0 := q0.call hb7
    clear hb7
    have hmk3 := make_elem 3 (by omega)
    obtain ⟨L3, hL3⟩ : ∃ L, List.replicate 3 ((0, 0) : E) = L := ⟨_, rfl⟩
    rw [hL3] at hmk3
    simp only [show ((3 : Nat) : Int) = 3 from rfl] at hmk3
    clear hL3
    go_upto_region 13 with fail
    obtain ⟨q00, q01, q02, q03, q04⟩ := V2.mk q0.c0 q0.c1 q0.f0 q0.f1 q0.lt
    refine region_G (n := 9) (m := 10) (f := 9) (by kernel_rfl) (by kernel_rfl) rfl ?_
    refine WpG.takeD 0 (some 78) (v := ?_) rfl rfl (by kernel_rfl) (fun _ _ _ h => h) (.val rfl (fun wz hwz => ?_)) ?_
    rotate_left
    · go_simp; try (with_reducible rfl)
    (simp only [Act.put]); (try simp only [List.setIfInBounds_toArray]); (try simp only [List.set_cons_succ]); (try simp only [List.set_cons_zero])
    refine WpG.takeD 2 (some 80) (v := ?_) rfl rfl (by kernel_rfl) (fun _ _ _ h => h) (.val rfl (fun wz hwz => ?_)) ?_
    rotate_left
    · (obtain ⟨hcz, hfz⟩ := bcell (hwz); go_simp; try (with_reducible rfl))
    (simp only [Act.put]); (try simp only [List.setIfInBounds_toArray]); (try simp only [List.set_cons_succ]); (try simp only [List.set_cons_zero])
    refine WpG.twoD 1 7 (some 79) (some 21) rfl rfl rfl rfl (by kernel_rfl) (fun b : Nat => Value.slice (some ⟨b, 0, none⟩) 3 3) (fun b wz => 0 ≤ b ∧ True) (fun _ _ _ h hb => h) (Fresh.slice 3 3 (cellsE L3) 28 rfl (fun wz hwz => Nat.zero_le _) (fun wz hwz => by go_simp; try (with_reducible rfl)) (B := 0) (R := fun b wz => True) (fun wz hwz => trivial)) (fun b : Nat => Value.pointer (some ⟨b, 0, none⟩)) (fun b wz => w7.heap.size ≤ b ∧ V2 wz b (.int .u64 0) (.int .u64 0)) (fun _ _ _ h hb => ⟨h.1, h.2.call hb⟩) (Fresh.var [.int .u64 0, .int .u64 0] 28 rfl (fun wz hwz => (hwz).size) (fun wz hwz => by go_simp; try (with_reducible rfl)) (R := fun b wz => V2 wz b (.int .u64 0) (.int .u64 0)) (fun wz hwz => V2.new wz _ _ _)) (fun u1 w0u1 hw0u1 hR0u1 => ?rg13_2a) (fun vb w0vb hw0vb hR0vb => ?rg13_2b)
    case' rg13_2a =>
      (simp only [Act.put]); (try simp only [List.setIfInBounds_toArray]); (try simp only [List.set_cons_succ]); (try simp only [List.set_cons_zero])
      refine WpG.takeD 3 (some 81) rfl rfl (by kernel_rfl) (fun _ _ _ h => h) (.call rfl (fun wz hwz => HLS.out (some ⟨u1, 0, none⟩) 3 wz) (fun wz hwz => ?_)) ?_
      · go_simp; try (with_reducible rfl)
      (simp only [Act.put]); (try simp only [List.setIfInBounds_toArray]); (try simp only [List.set_cons_succ]); (try simp only [List.set_cons_zero])
      refine WpG.takeD 4 (some 77) (v := ?_) rfl rfl (by kernel_rfl) (fun _ _ _ h => h) (.val rfl (fun wz hwz => ?_)) ?_
      rotate_left
      · go_simp; try (with_reducible rfl)
      (simp only [Act.put]); (try simp only [List.setIfInBounds_toArray]); (try simp only [List.set_cons_succ]); (try simp only [List.set_cons_zero])
      refine WpG.takeD 5 (some 82) (v := ?_) rfl rfl (by kernel_rfl) (fun _ _ _ h => h) (.val rfl (fun wz hwz => ?_)) ?_
      rotate_left
      · go_simp; try (with_reducible rfl)
      (simp only [Act.put]); (try simp only [List.setIfInBounds_toArray]); (try simp only [List.set_cons_succ]); (try simp only [List.set_cons_zero])
      refine WpG.takeD 6 (some 83) (v := ?_) rfl rfl (by kernel_rfl) (fun _ _ _ h => h) (.val rfl (fun wz hwz => ?_)) ?_
      rotate_left
      · go_simp; try (with_reducible rfl)
      (simp only [Act.put]); (try simp only [List.setIfInBounds_toArray]); (try simp only [List.set_cons_succ]); (try simp only [List.set_cons_zero])
      refine WpG.oneD 7 (some 21) rfl rfl (by kernel_rfl) (fun b : Nat => Value.pointer (some ⟨b, 0, none⟩)) (fun b wz => w7.heap.size ≤ b ∧ V2 wz b (.int .u64 0) (.int .u64 0)) (fun _ _ _ h hb => ⟨h.1, h.2.call hb⟩) (Fresh.var [.int .u64 0, .int .u64 0] 28 rfl (fun wz hwz => (hwz.1).size) (fun wz hwz => by go_simp; try (with_reducible rfl)) (R := fun b wz => V2 wz b (.int .u64 0) (.int .u64 0)) (fun wz hwz => V2.new wz _ _ _)) (fun vb w0vb hw0vb hR0vb => ?_)
      (simp only [Act.put]); (try simp only [List.setIfInBounds_toArray]); (try simp only [List.set_cons_succ]); (try simp only [List.set_cons_zero])
      refine WpG.oneSkip 8 none rfl rfl (by kernel_rfl) (fun _ => True) (fun _ _ _ _ => trivial) rfl (fun wz hwz => ?_) ?_
      · obtain ⟨hge, hVz⟩ := hwz.2; obtain ⟨z0, z1, z2, z3, z4⟩ := V2.mk hVz.c0 hVz.c1 hVz.f0 hVz.f1 hVz.lt; exact ⟨(wz.setCell ⟨vb, 0, none⟩ (.int .u64 0)).setCell ⟨vb, 1, none⟩ (.int .u64 0), by go_simp; try (with_reducible rfl), ⟨⟨bl_st (hwz.1.1) hge _ _, hwz.1.2⟩, ⟨hge, V2.set hVz _ _⟩⟩, trivial⟩
      (simp only [Act.put]); (try simp only [List.setIfInBounds_toArray]); (try simp only [List.set_cons_succ]); (try simp only [List.set_cons_zero])
      refine WpG.done (by kernel_rfl) (fun w8 hS => ?_)
      (try simp only [List.drop_succ_cons]); (try simp only [List.drop_zero]); (try simp only [Nat.reduceSub]); (try simp only [List.take_succ_cons]); (try simp only [List.take_zero])
    case' rg13_2b =>
      (simp only [Act.put]); (try simp only [List.setIfInBounds_toArray]); (try simp only [List.set_cons_succ]); (try simp only [List.set_cons_zero])
      refine WpG.oneD 1 (some 79) rfl rfl (by kernel_rfl) (fun b : Nat => Value.slice (some ⟨b, 0, none⟩) 3 3) (fun b wz => 0 ≤ b ∧ True) (fun _ _ _ h hb => h) (Fresh.slice 3 3 (cellsE L3) 28 rfl (fun wz hwz => Nat.zero_le _) (fun wz hwz => by go_simp; try (with_reducible rfl)) (B := 0) (R := fun b wz => True) (fun wz hwz => trivial)) (fun u1 w0u1 hw0u1 hR0u1 => ?_)
      (simp only [Act.put]); (try simp only [List.setIfInBounds_toArray]); (try simp only [List.set_cons_succ]); (try simp only [List.set_cons_zero])
      refine WpG.takeD 3 (some 81) rfl rfl (by kernel_rfl) (fun _ _ _ h => h) (.call rfl (fun wz hwz => HLS.out (some ⟨u1, 0, none⟩) 3 wz) (fun wz hwz => ?_)) ?_
      · go_simp; try (with_reducible rfl)
      (simp only [Act.put]); (try simp only [List.setIfInBounds_toArray]); (try simp only [List.set_cons_succ]); (try simp only [List.set_cons_zero])
      refine WpG.takeD 4 (some 77) (v := ?_) rfl rfl (by kernel_rfl) (fun _ _ _ h => h) (.val rfl (fun wz hwz => ?_)) ?_
      rotate_left
      · go_simp; try (with_reducible rfl)
      (simp only [Act.put]); (try simp only [List.setIfInBounds_toArray]); (try simp only [List.set_cons_succ]); (try simp only [List.set_cons_zero])
      refine WpG.takeD 5 (some 82) (v := ?_) rfl rfl (by kernel_rfl) (fun _ _ _ h => h) (.val rfl (fun wz hwz => ?_)) ?_
      rotate_left
      · go_simp; try (with_reducible rfl)
      (simp only [Act.put]); (try simp only [List.setIfInBounds_toArray]); (try simp only [List.set_cons_succ]); (try simp only [List.set_cons_zero])
      refine WpG.takeD 6 (some 83) (v := ?_) rfl rfl (by kernel_rfl) (fun _ _ _ h => h) (.val rfl (fun wz hwz => ?_)) ?_
      rotate_left
      · go_simp; try (with_reducible rfl)
      (simp only [Act.put]); (try simp only [List.setIfInBounds_toArray]); (try simp only [List.set_cons_succ]); (try simp only [List.set_cons_zero])
      refine WpG.oneSkip 8 none rfl rfl (by kernel_rfl) (fun _ => True) (fun _ _ _ _ => trivial) rfl (fun wz hwz => ?_) ?_
      · obtain ⟨hge, hVz⟩ := hwz.1.2; obtain ⟨z0, z1, z2, z3, z4⟩ := V2.mk hVz.c0 hVz.c1 hVz.f0 hVz.f1 hVz.lt; exact ⟨(wz.setCell ⟨vb, 0, none⟩ (.int .u64 0)).setCell ⟨vb, 1, none⟩ (.int .u64 0), by go_simp; try (with_reducible rfl), ⟨⟨bl_st (hwz.1.1) hge _ _, ⟨hge, V2.set hVz _ _⟩⟩, hwz.2⟩, trivial⟩
      (simp only [Act.put]); (try simp only [List.setIfInBounds_toArray]); (try simp only [List.set_cons_succ]); (try simp only [List.set_cons_zero])
      refine WpG.done (by kernel_rfl) (fun w8 hS => ?_)
      (try simp only [List.drop_succ_cons]); (try simp only [List.drop_zero]); (try simp only [Nat.reduceSub]); (try simp only [List.take_succ_cons]); (try simp only [List.take_zero])
    all_goals have hS2 : Below w7.heap.size w7 w8 ∧ w7.heap.size ≤ vb ∧ V2 w8 vb (.int .u64 0) (.int .u64 0) := by first | exact ⟨hS.1.1.1, hS.1.2.1, hS.1.2.2⟩ | exact ⟨hS.1.1.1, hS.1.1.2.1, hS.1.1.2.2⟩
    all_goals clear hS
    all_goals (
      obtain ⟨hb8, hvb, gv⟩ := hS2
      clear q00 q01 q02 q03 q04
      have hvb2 := Nat.le_trans hb00.size hvb
      replace hb00 := bl_call hb00 (Nat.le_refl _) hb8
      clear hb8 q0
      obtain ⟨gv0, gv1, gv2, gv3, gv4⟩ := V2.mk gv.c0 gv.c1 gv.f0 gv.f1 gv.lt
      rcases hcw with ⟨hk1, hk2⟩ | ⟨hk1, hk2⟩ | ⟨hk1, hk2⟩
      · go_wp2_with fail
        go_ret
        exact ⟨rfl, hb00⟩
      · subst hk2
        have hk3 : ¬ (0 ≤ k) := by omega
        go_wp2_with fail
        go_ret
        exact ⟨rfl, hb00⟩
      · subst hk2
        have hk3 : 0 ≤ k := by omega
        have hk4 : ¬ (k ≤ 10) := by omega
        go_wp2_with fail
        go_ret
        exact ⟨rfl, hb00⟩)
  · have t1 : (F == 1) = false := by rw [beq_eq_false_iff_ne]; exact hF1.1
    have t2 : (F != 1) = true := by rw [bne, t1]; rfl
    have t3 : (F == 2) = false := by rw [beq_eq_false_iff_ne]; exact hF1.2
    have t4 : (F != 2) = true := by rw [bne, t3]; rfl
    have HM9 := Lib.hid (fun va vb wz => poly_Mul_kind F hF1 va vb wz)
    have HT9 := Lib.hid (fun va vb wz => poly_Through_kind F hF1 va vb wz)
    have HW9 := Lib.hid (fun wz => poly_Weights_err F k 10 x0 x1 (by decide) (fun wz => ntt_Points_kind F hF1 k wz) wz)
    clear hF1 hmk
    go_wp2_with fail
    refine (HM9.out _ _ _).mono ?_
    rintro e w3 ⟨rfl, hb3⟩
    replace hb00 := bl_call hb00 (Nat.le_refl _) hb3
    replace q0 := q0.call hb3
    clear hb3
    go_wp2_with fail
    refine (HT9.out _ _ _).mono ?_
    rintro e w4 ⟨rfl, hb4⟩
    replace hb00 := bl_call hb00 (Nat.le_refl _) hb4
    replace q0 := q0.call hb4
    clear hb4
    obtain ⟨q00, q01, q02, q03, q04⟩ := V2.mk q0.c0 q0.c1 q0.f0 q0.f1 q0.lt
    go_wp2_with fail
    refine (HW9.out _).mono ?_
    rintro e w5 ⟨rfl, hb5⟩
    clear q00 q01 q02 q03 q04
    replace hb00 := bl_call hb00 (Nat.le_refl _) hb5
    replace q0 := q0.call hb5
    clear hb5
    go_wp2_with fail
    go_ret
    exact ⟨rfl, hb00⟩

end Go.Proofs.YtfhmineolncefaaDoor
