/-
  WALK: tallymanlaw10.Small.Circuit.
-/
/-
  BOTH CHECKS of any circuit say the same; where they say 0 it is one in range, of few calls.
-/
/-
  ARGUMENTS that are structs of numbers, opened: circuit.Circuit, tallymanlaw10.Small.
-/
/-
  WHAT IS KNOWN OF A CIRCUIT whose check says n; a circuit in range as six numbers.
-/
import Derived.Test.YtiphahbeedeebaaMap
import Derived.Test.YtiphahbeedeebaaMaa
import Derived.Lib.SmallJoins
namespace Go.Proofs.Ytiphahbeedeebaa
open Go.RowKit Fm
set_option linter.unusedVariables false
set_option maxRecDepth 100000

/-- a circuit of few elements -/
structure CK.small (y : CK) : Prop where
  ok : y.ok
  nin : y.nin ≤ 12
  calls : ¬ 511 < y.calls

theorem CK.calls_le {y : CK} (h : y.ok) : y.calls ≤ y.nin := by
  cases y with
  | count => exact Nat.le_refl _
  | sum b => exact Nat.le_refl _
  | vec b l c => exact ceil_le h.2.2.1
  | hist l c => exact ceil_le h.2.1
  | multi l m c => exact ceil_le h.2.2.1
theorem CK.small_of {y : CK} (h : y.ok) (hn : y.nin ≤ 12) : y.small := ⟨h, hn, by have := CK.calls_le h; omega⟩

theorem bitLen_5 : ∀ m : Nat, m ≤ 5 → Lib.bitLen m ≤ 3 := by decide +kernel

theorem Vs.set6 {w : World} {b : Nat} {p q r s t u : Value} (h : Vs w b [p, q, r, s, t, u]) (x0 x1 x2 x3 x4 x5 : Value) :
    Vs ((((((w.setCell ⟨b, 0, none⟩ x0).setCell ⟨b, 1, none⟩ x1).setCell ⟨b, 2, none⟩ x2).setCell ⟨b, 3, none⟩ x3).setCell ⟨b, 4, none⟩ x4).setCell ⟨b, 5, none⟩ x5) b [x0, x1, x2, x3, x4, x5] :=
  (((((h.put 0 (by simp) x0).put 1 (by simp) x1).put 2 (by simp) x2).put 3 (by simp) x3).put 4 (by simp) x4).put 5 (by simp) x5

/-- what is known while the circuit's numbers are laid -/
def SmS (w : World) (k f b l m c K F : Int) (wz : World) : Prop :=
  Below w.heap.size w wz ∧ Vs wz w.heap.size [.int .u8 k, .int .u8 f, .int .u8 b, .int .u8 l, .int .u8 m, .int .u8 c] ∧ Vs wz (w.heap.size + 1) [.int .u8 0, .int .u8 0, .int .i64 0, .int .i64 0, .int .i64 0, .int .i64 0] ∧
    ∃ x2 x3 x5 : Value, Vs wz (w.heap.size + 1 + 1) [.int .u8 K, .int .u8 F, x2, x3, .int .i64 0, x5]
theorem SmS.clo (w : World) (k f b l m c K F : Int) : Clo (SmS w k f b l m c K F) :=
  fun _ _ h hb => ⟨bl_call h.1 (Nat.le_refl _) hb, h.2.1.call hb, h.2.2.1.call hb, let ⟨x, y, z, hv⟩ := h.2.2.2; ⟨x, y, z, hv.call hb⟩⟩

set_option maxHeartbeats 4000000 in
theorem law10_Circuit (k f b l m c : Int) (hk0 : 0 ≤ k) (hk1 : k ≤ 255) (hf0 : 0 ≤ f) (hf1 : f ≤ 255) (hb0 : 0 ≤ b) (hb1 : b ≤ 255) (hl0 : 0 ≤ l) (hl1 : l ≤ 255) (hm0 : 0 ≤ m) (hm1 : m ≤ 255) (hc0 : 0 ≤ c) (hc1 : c ≤ 255) :
    ∃ (F : Nat) (y : CK), IsF F ∧ y.small ∧ ∀ w, Calls Try.prog 36 #[.agg #[.int .u8 k, .int .u8 f, .int .u8 b, .int .u8 l, .int .u8 m, .int .u8 c]] w fun e w' => e = .returned (y.val F) ∧ Below w.heap.size w w' := by
  obtain ⟨F, hF, hF0⟩ : ∃ F : Nat, IsF F ∧ 1 + f % 2 = (F : Int) := by
    have h : f % 2 = 0 ∨ f % 2 = 1 := by omega
    rcases h with h | h
    · exact ⟨1, isF1, by omega⟩
    · exact ⟨2, isF2, by omega⟩
  have hF' : f % 2 + 1 = (F : Int) := by omega
  obtain ⟨B, hB, hB1, hB4⟩ : ∃ B : Nat, 1 + b % 4 = (B : Int) ∧ 1 ≤ B ∧ B ≤ 4 := ⟨(1 + b % 4).toNat, by omega, by omega, by omega⟩
  obtain ⟨L, hL, hL1, hL5⟩ : ∃ L : Nat, 1 + l % 5 = (L : Int) ∧ 1 ≤ L ∧ L ≤ 5 := ⟨(1 + l % 5).toNat, by omega, by omega, by omega⟩
  obtain ⟨C, hC, hC1, hC4⟩ : ∃ C : Nat, 1 + c % 4 = (C : Int) ∧ 1 ≤ C ∧ C ≤ 4 := ⟨(1 + c % 4).toNat, by omega, by omega, by omega⟩
  have hB' : b % 4 + 1 = (B : Int) := by omega
  have hL' : l % 5 + 1 = (L : Int) := by omega
  have hC' : c % 4 + 1 = (C : Int) := by omega
  obtain ⟨LT, hLT, hLT2⟩ : ∃ LT : Nat, l.tmod 5 = (LT : Int) ∧ (1 : Int) + (LT : Int) = (L : Int) := ⟨(l % 5).toNat, by rw [Int.tmod_eq_emod_of_nonneg hl0]; omega, by omega⟩
  obtain ⟨BT, hBT, hBT2⟩ : ∃ BT : Nat, b.tmod 4 = (BT : Int) ∧ (1 : Int) + (BT : Int) = (B : Int) := ⟨(b % 4).toNat, by rw [Int.tmod_eq_emod_of_nonneg hb0]; omega, by omega⟩
  have hwL : IntKind.i64.wrap (L : Int) = (L : Int) := IntWalk.i64_in _ (by omega)
  have hwB : IntKind.i64.wrap (B : Int) = (B : Int) := IntWalk.i64_in _ (by omega)
  have hwLT : IntKind.i64.wrap (LT : Int) = (LT : Int) := IntWalk.i64_in _ (by omega)
  have hwBT : IntKind.i64.wrap (BT : Int) = (BT : Int) := IntWalk.i64_in _ (by omega)
  have hk5 : k % 5 = 0 ∨ k % 5 = 1 ∨ k % 5 = 2 ∨ k % 5 = 3 ∨ k % 5 = 4 := by omega
  rcases hk5 with hk | hk | hk | hk | hk
  · refine ⟨F, .count, hF, CK.small_of trivial (by show 1 ≤ 12; omega), fun w => ?_⟩
    rw [val_count]
    go_enter Try.func36, Try.ntmps36
    go_upto_region 2 with fail
    have hs := ((Vs.new w [.int .u8 k, .int .u8 f, .int .u8 b, .int .u8 l, .int .u8 m, .int .u8 c] #[.int .u8 k, .int .u8 f, .int .u8 b, .int .u8 l, .int .u8 m, .int .u8 c] 62 rfl).alloc (.cells #[.int .u8 0, .int .u8 0, .int .i64 0, .int .i64 0, .int .i64 0, .int .i64 0] 60)).alloc (.cells #[.int .u8 1, .int .u8 F, .int .i64 0, .int .i64 0, .int .i64 0, .int .i64 0] 60)
    have hr := (Vs.new (w.alloc (.cells #[.int .u8 k, .int .u8 f, .int .u8 b, .int .u8 l, .int .u8 m, .int .u8 c] 62)) [.int .u8 0, .int .u8 0, .int .i64 0, .int .i64 0, .int .i64 0, .int .i64 0] #[.int .u8 0, .int .u8 0, .int .i64 0, .int .i64 0, .int .i64 0, .int .i64 0] 60 rfl).alloc (.cells #[.int .u8 1, .int .u8 F, .int .i64 0, .int .i64 0, .int .i64 0, .int .i64 0] 60)
    have hv := Vs.new ((w.alloc (.cells #[.int .u8 k, .int .u8 f, .int .u8 b, .int .u8 l, .int .u8 m, .int .u8 c] 62)).alloc (.cells #[.int .u8 0, .int .u8 0, .int .i64 0, .int .i64 0, .int .i64 0, .int .i64 0] 60)) [.int .u8 1, .int .u8 F, .int .i64 0, .int .i64 0, .int .i64 0, .int .i64 0] #[.int .u8 1, .int .u8 F, .int .i64 0, .int .i64 0, .int .i64 0, .int .i64 0] 60 rfl
    simp only [World.size_alloc] at hr hv
    have hbw : Below w.heap.size w (((w.alloc (.cells #[.int .u8 k, .int .u8 f, .int .u8 b, .int .u8 l, .int .u8 m, .int .u8 c] 62)).alloc (.cells #[.int .u8 0, .int .u8 0, .int .i64 0, .int .i64 0, .int .i64 0, .int .i64 0] 60)).alloc (.cells #[.int .u8 1, .int .u8 F, .int .i64 0, .int .i64 0, .int .i64 0, .int .i64 0] 60)) := by repeat (first | exact Below.refl _ _ | with_reducible assumption | (refine bl_alloc ?_ (Nat.le_refl _) _) | (refine bl_set ?_ (by dsimp only; omega) _) | (refine Below.drew ?_) | (refine bl_drewN ?_ _) | (refine bl_call ?_ (Nat.le_refl _) (by assumption)))
    generalize ((w.alloc (.cells #[.int .u8 k, .int .u8 f, .int .u8 b, .int .u8 l, .int .u8 m, .int .u8 c] 62)).alloc (.cells #[.int .u8 0, .int .u8 0, .int .i64 0, .int .i64 0, .int .i64 0, .int .i64 0] 60)).alloc (.cells #[.int .u8 1, .int .u8 F, .int .i64 0, .int .i64 0, .int .i64 0, .int .i64 0] 60) = w1 at hs hr hv hbw ⊢
    obtain ⟨⟨s0, s1, s2, s3, s4, s5⟩, ⟨s6, s7, s8, s9, s10, s11⟩, s12⟩ := hs.get6
    obtain ⟨⟨r0, r1, r2, r3, r4, r5⟩, ⟨r6, r7, r8, r9, r10, r11⟩, r12⟩ := hr.get6
    obtain ⟨⟨v0, v1, v2, v3, v4, v5⟩, ⟨v6, v7, v8, v9, v10, v11⟩, v12⟩ := hv.get6
    refine region_B (n := 11) (m := 12) (f := 11) (by kernel_rfl) (by kernel_rfl) rfl ?_
    refine WpH.takeD 0 (some 15) (v := ?_) rfl rfl (by kernel_rfl) (fun _ _ _ h => h) (.val rfl (fun wz hwz => ?_)) ?_
    rotate_left
    · go_simp; try (with_reducible rfl)
    (simp only [Act.put]); (try simp only [List.setIfInBounds_toArray]); (try simp only [List.set_cons_succ]); (try simp only [List.set_cons_zero])
    refine WpH.takeD 1 (some 16) (v := ?_) rfl rfl (by kernel_rfl) (fun _ _ _ h => h) (.val rfl (fun wz hwz => ?_)) ?_
    rotate_left
    · (obtain ⟨hcz, hfz⟩ := bcell hwz; go_simp; try (with_reducible rfl))
    (simp only [Act.put]); (try simp only [List.setIfInBounds_toArray]); (try simp only [List.set_cons_succ]); (try simp only [List.set_cons_zero])
    refine WpH.takeD 2 (some 17) (v := ?_) rfl rfl (by kernel_rfl) (fun _ _ _ h => h) (.val rfl (fun wz hwz => ?_)) ?_
    rotate_left
    · go_simp; try (with_reducible rfl)
    (simp only [Act.put]); (try simp only [List.setIfInBounds_toArray]); (try simp only [List.set_cons_succ]); (try simp only [List.set_cons_zero])
    refine WpH.takeD 3 (some 18) (v := ?_) rfl rfl (by kernel_rfl) (fun _ _ _ h => h) (.val rfl (fun wz hwz => ?_)) ?_
    rotate_left
    · go_simp; try (with_reducible rfl)
    (simp only [Act.put]); (try simp only [List.setIfInBounds_toArray]); (try simp only [List.set_cons_succ]); (try simp only [List.set_cons_zero])
    refine WpH.takeD 4 (some 19) (v := ?_) rfl rfl (by kernel_rfl) (fun _ _ _ h => h) (.val rfl (fun wz hwz => ?_)) ?_
    rotate_left
    · go_simp; try (with_reducible rfl)
    (simp only [Act.put]); (try simp only [List.setIfInBounds_toArray]); (try simp only [List.set_cons_succ]); (try simp only [List.set_cons_zero])
    refine WpH.takeD 5 (some 20) (v := ?_) rfl rfl (by kernel_rfl) (fun _ _ _ h => h) (.val rfl (fun wz hwz => ?_)) ?_
    rotate_left
    · go_simp; try (with_reducible rfl)
    (simp only [Act.put]); (try simp only [List.setIfInBounds_toArray]); (try simp only [List.set_cons_succ]); (try simp only [List.set_cons_zero])
    refine WpH.takeD 6 (some 21) (v := ?_) rfl rfl (by kernel_rfl) (fun _ _ _ h => h) (.val rfl (fun wz hwz => ?_)) ?_
    rotate_left
    · (obtain ⟨hcz, hfz⟩ := bcell hwz; go_simp; try (with_reducible rfl))
    (simp only [Act.put]); (try simp only [List.setIfInBounds_toArray]); (try simp only [List.set_cons_succ]); (try simp only [List.set_cons_zero])
    refine WpH.takeD 7 (some 22) (v := ?_) rfl rfl (by kernel_rfl) (fun _ _ _ h => h) (.val rfl (fun wz hwz => ?_)) ?_
    rotate_left
    · go_simp; try (with_reducible rfl)
    (simp only [Act.put]); (try simp only [List.setIfInBounds_toArray]); (try simp only [List.set_cons_succ]); (try simp only [List.set_cons_zero])
    refine WpH.takeD 8 (some 23) (v := ?_) rfl rfl (by kernel_rfl) (fun _ _ _ h => h) (.val rfl (fun wz hwz => ?_)) ?_
    rotate_left
    · go_simp; try (with_reducible rfl)
    (simp only [Act.put]); (try simp only [List.setIfInBounds_toArray]); (try simp only [List.set_cons_succ]); (try simp only [List.set_cons_zero])
    refine WpH.takeD 9 (some 24) (v := ?_) rfl rfl (by kernel_rfl) (fun _ _ _ h => h) (.val rfl (fun wz hwz => ?_)) ?_
    rotate_left
    · go_simp; try (with_reducible rfl)
    (simp only [Act.put]); (try simp only [List.setIfInBounds_toArray]); (try simp only [List.set_cons_succ]); (try simp only [List.set_cons_zero])
    refine WpH.takeD 10 (some 4) (v := ?_) rfl rfl (by kernel_rfl) (fun _ _ _ h => h) (.val rfl (fun wz hwz => ?_)) ?_
    rotate_left
    · go_simp; try (with_reducible rfl)
    (simp only [Act.put]); (try simp only [List.setIfInBounds_toArray]); (try simp only [List.set_cons_succ]); (try simp only [List.set_cons_zero])
    refine WpH.doneB (by kernel_rfl) (fun w2 hw2 => ?_)
    (try simp only [List.drop_succ_cons]); (try simp only [List.drop_zero]); (try simp only [Nat.reduceSub]); (try simp only [List.take_succ_cons]); (try simp only [List.take_zero])
    clear s0 s1 s2 s3 s4 s5 s6 s7 s8 s9 s10 s11 s12 r0 r1 r2 r3 r4 r5 r6 r7 r8 r9 r10 r11 r12 v0 v1 v2 v3 v4 v5 v6 v7 v8 v9 v10 v11 v12
    replace hbw := bl_call hbw (Nat.le_refl _) hw2
    replace hs := hs.call hw2
    replace hr := hr.call hw2
    replace hv := hv.call hw2
    obtain ⟨⟨s0, s1, s2, s3, s4, s5⟩, ⟨s6, s7, s8, s9, s10, s11⟩, s12⟩ := hs.get6
    obtain ⟨⟨r0, r1, r2, r3, r4, r5⟩, ⟨r6, r7, r8, r9, r10, r11⟩, r12⟩ := hr.get6
    obtain ⟨⟨v0, v1, v2, v3, v4, v5⟩, ⟨v6, v7, v8, v9, v10, v11⟩, v12⟩ := hv.get6
    go_wp2
    have hres := Vs.set6 hr (.int .u8 1) (.int .u8 F) (.int .i64 0) (.int .i64 0) (.int .i64 0) (.int .i64 0)
    have hble : w.heap.size ≤ w.heap.size + 1 := by omega
    have hbr := bl_set (p := ⟨w.heap.size + 1, 5, none⟩) (bl_set (p := ⟨w.heap.size + 1, 4, none⟩) (bl_set (p := ⟨w.heap.size + 1, 3, none⟩) (bl_set (p := ⟨w.heap.size + 1, 2, none⟩) (bl_set (p := ⟨w.heap.size + 1, 1, none⟩) (bl_set (p := ⟨w.heap.size + 1, 0, none⟩) hbw hble (.int .u8 1)) hble (.int .u8 F)) hble (.int .i64 0)) hble (.int .i64 0)) hble (.int .i64 0)) hble (.int .i64 0)
    exact bodyPost_ret (results_cir hres rfl rfl) rfl ⟨rfl, hbr⟩
  · refine ⟨F, .sum B, hF, CK.small_of ⟨hB1, by omega⟩ (by show B ≤ 12; omega), fun w => ?_⟩
    rw [val_sum]
    go_enter Try.func36, Try.ntmps36
    go_upto_region 2 with fail
    have hs := ((Vs.new w [.int .u8 k, .int .u8 f, .int .u8 b, .int .u8 l, .int .u8 m, .int .u8 c] #[.int .u8 k, .int .u8 f, .int .u8 b, .int .u8 l, .int .u8 m, .int .u8 c] 62 rfl).alloc (.cells #[.int .u8 0, .int .u8 0, .int .i64 0, .int .i64 0, .int .i64 0, .int .i64 0] 60)).alloc (.cells #[.int .u8 2, .int .u8 F, .int .i64 0, .int .i64 0, .int .i64 0, .int .i64 0] 60)
    have hr := (Vs.new (w.alloc (.cells #[.int .u8 k, .int .u8 f, .int .u8 b, .int .u8 l, .int .u8 m, .int .u8 c] 62)) [.int .u8 0, .int .u8 0, .int .i64 0, .int .i64 0, .int .i64 0, .int .i64 0] #[.int .u8 0, .int .u8 0, .int .i64 0, .int .i64 0, .int .i64 0, .int .i64 0] 60 rfl).alloc (.cells #[.int .u8 2, .int .u8 F, .int .i64 0, .int .i64 0, .int .i64 0, .int .i64 0] 60)
    have hv := Vs.new ((w.alloc (.cells #[.int .u8 k, .int .u8 f, .int .u8 b, .int .u8 l, .int .u8 m, .int .u8 c] 62)).alloc (.cells #[.int .u8 0, .int .u8 0, .int .i64 0, .int .i64 0, .int .i64 0, .int .i64 0] 60)) [.int .u8 2, .int .u8 F, .int .i64 0, .int .i64 0, .int .i64 0, .int .i64 0] #[.int .u8 2, .int .u8 F, .int .i64 0, .int .i64 0, .int .i64 0, .int .i64 0] 60 rfl
    simp only [World.size_alloc] at hr hv
    have hbw : Below w.heap.size w (((w.alloc (.cells #[.int .u8 k, .int .u8 f, .int .u8 b, .int .u8 l, .int .u8 m, .int .u8 c] 62)).alloc (.cells #[.int .u8 0, .int .u8 0, .int .i64 0, .int .i64 0, .int .i64 0, .int .i64 0] 60)).alloc (.cells #[.int .u8 2, .int .u8 F, .int .i64 0, .int .i64 0, .int .i64 0, .int .i64 0] 60)) := by repeat (first | exact Below.refl _ _ | with_reducible assumption | (refine bl_alloc ?_ (Nat.le_refl _) _) | (refine bl_set ?_ (by dsimp only; omega) _) | (refine Below.drew ?_) | (refine bl_drewN ?_ _) | (refine bl_call ?_ (Nat.le_refl _) (by assumption)))
    generalize ((w.alloc (.cells #[.int .u8 k, .int .u8 f, .int .u8 b, .int .u8 l, .int .u8 m, .int .u8 c] 62)).alloc (.cells #[.int .u8 0, .int .u8 0, .int .i64 0, .int .i64 0, .int .i64 0, .int .i64 0] 60)).alloc (.cells #[.int .u8 2, .int .u8 F, .int .i64 0, .int .i64 0, .int .i64 0, .int .i64 0] 60) = w1 at hs hr hv hbw ⊢
    obtain ⟨⟨s0, s1, s2, s3, s4, s5⟩, ⟨s6, s7, s8, s9, s10, s11⟩, s12⟩ := hs.get6
    obtain ⟨⟨r0, r1, r2, r3, r4, r5⟩, ⟨r6, r7, r8, r9, r10, r11⟩, r12⟩ := hr.get6
    obtain ⟨⟨v0, v1, v2, v3, v4, v5⟩, ⟨v6, v7, v8, v9, v10, v11⟩, v12⟩ := hv.get6
    refine region_B (n := 11) (m := 12) (f := 11) (by kernel_rfl) (by kernel_rfl) rfl ?_
    refine WpH.takeD 0 (some 15) (v := ?_) rfl rfl (by kernel_rfl) (fun _ _ _ h => h) (.val rfl (fun wz hwz => ?_)) ?_
    rotate_left
    · go_simp; try (with_reducible rfl)
    (simp only [Act.put]); (try simp only [List.setIfInBounds_toArray]); (try simp only [List.set_cons_succ]); (try simp only [List.set_cons_zero])
    refine WpH.takeD 1 (some 16) (v := ?_) rfl rfl (by kernel_rfl) (fun _ _ _ h => h) (.val rfl (fun wz hwz => ?_)) ?_
    rotate_left
    · (obtain ⟨hcz, hfz⟩ := bcell hwz; go_simp; try (with_reducible rfl))
    (simp only [Act.put]); (try simp only [List.setIfInBounds_toArray]); (try simp only [List.set_cons_succ]); (try simp only [List.set_cons_zero])
    refine WpH.takeD 2 (some 17) (v := ?_) rfl rfl (by kernel_rfl) (fun _ _ _ h => h) (.val rfl (fun wz hwz => ?_)) ?_
    rotate_left
    · go_simp; try (with_reducible rfl)
    (simp only [Act.put]); (try simp only [List.setIfInBounds_toArray]); (try simp only [List.set_cons_succ]); (try simp only [List.set_cons_zero])
    refine WpH.takeD 3 (some 18) (v := ?_) rfl rfl (by kernel_rfl) (fun _ _ _ h => h) (.val rfl (fun wz hwz => ?_)) ?_
    rotate_left
    · go_simp; try (with_reducible rfl)
    (simp only [Act.put]); (try simp only [List.setIfInBounds_toArray]); (try simp only [List.set_cons_succ]); (try simp only [List.set_cons_zero])
    refine WpH.takeD 4 (some 19) (v := ?_) rfl rfl (by kernel_rfl) (fun _ _ _ h => h) (.val rfl (fun wz hwz => ?_)) ?_
    rotate_left
    · go_simp; try (with_reducible rfl)
    (simp only [Act.put]); (try simp only [List.setIfInBounds_toArray]); (try simp only [List.set_cons_succ]); (try simp only [List.set_cons_zero])
    refine WpH.takeD 5 (some 20) (v := ?_) rfl rfl (by kernel_rfl) (fun _ _ _ h => h) (.val rfl (fun wz hwz => ?_)) ?_
    rotate_left
    · go_simp; try (with_reducible rfl)
    (simp only [Act.put]); (try simp only [List.setIfInBounds_toArray]); (try simp only [List.set_cons_succ]); (try simp only [List.set_cons_zero])
    refine WpH.takeD 6 (some 21) (v := ?_) rfl rfl (by kernel_rfl) (fun _ _ _ h => h) (.val rfl (fun wz hwz => ?_)) ?_
    rotate_left
    · (obtain ⟨hcz, hfz⟩ := bcell hwz; go_simp; try (with_reducible rfl))
    (simp only [Act.put]); (try simp only [List.setIfInBounds_toArray]); (try simp only [List.set_cons_succ]); (try simp only [List.set_cons_zero])
    refine WpH.takeD 7 (some 22) (v := ?_) rfl rfl (by kernel_rfl) (fun _ _ _ h => h) (.val rfl (fun wz hwz => ?_)) ?_
    rotate_left
    · go_simp; try (with_reducible rfl)
    (simp only [Act.put]); (try simp only [List.setIfInBounds_toArray]); (try simp only [List.set_cons_succ]); (try simp only [List.set_cons_zero])
    refine WpH.takeD 8 (some 23) (v := ?_) rfl rfl (by kernel_rfl) (fun _ _ _ h => h) (.val rfl (fun wz hwz => ?_)) ?_
    rotate_left
    · go_simp; try (with_reducible rfl)
    (simp only [Act.put]); (try simp only [List.setIfInBounds_toArray]); (try simp only [List.set_cons_succ]); (try simp only [List.set_cons_zero])
    refine WpH.takeD 9 (some 24) (v := ?_) rfl rfl (by kernel_rfl) (fun _ _ _ h => h) (.val rfl (fun wz hwz => ?_)) ?_
    rotate_left
    · go_simp; try (with_reducible rfl)
    (simp only [Act.put]); (try simp only [List.setIfInBounds_toArray]); (try simp only [List.set_cons_succ]); (try simp only [List.set_cons_zero])
    refine WpH.takeD 10 (some 4) (v := ?_) rfl rfl (by kernel_rfl) (fun _ _ _ h => h) (.val rfl (fun wz hwz => ?_)) ?_
    rotate_left
    · go_simp; try (with_reducible rfl)
    (simp only [Act.put]); (try simp only [List.setIfInBounds_toArray]); (try simp only [List.set_cons_succ]); (try simp only [List.set_cons_zero])
    refine WpH.doneB (by kernel_rfl) (fun w2 hw2 => ?_)
    (try simp only [List.drop_succ_cons]); (try simp only [List.drop_zero]); (try simp only [Nat.reduceSub]); (try simp only [List.take_succ_cons]); (try simp only [List.take_zero])
    clear s0 s1 s2 s3 s4 s5 s6 s7 s8 s9 s10 s11 s12 r0 r1 r2 r3 r4 r5 r6 r7 r8 r9 r10 r11 r12 v0 v1 v2 v3 v4 v5 v6 v7 v8 v9 v10 v11 v12
    replace hbw := bl_call hbw (Nat.le_refl _) hw2
    replace hs := hs.call hw2
    replace hr := hr.call hw2
    replace hv := hv.call hw2
    obtain ⟨⟨s0, s1, s2, s3, s4, s5⟩, ⟨s6, s7, s8, s9, s10, s11⟩, s12⟩ := hs.get6
    obtain ⟨⟨r0, r1, r2, r3, r4, r5⟩, ⟨r6, r7, r8, r9, r10, r11⟩, r12⟩ := hr.get6
    obtain ⟨⟨v0, v1, v2, v3, v4, v5⟩, ⟨v6, v7, v8, v9, v10, v11⟩, v12⟩ := hv.get6
    go_wp2
    have hvv := hv.put 2 (by simp) (.int .i64 B)
    have hrr := hr.far (p := ⟨w.heap.size + 1 + 1, 2, none⟩) (by simp) (.int .i64 B)
    have hbw2 := bl_set (p := ⟨w.heap.size + 1 + 1, 2, none⟩) hbw (by simp; omega) (.int .i64 B)
    have hres := Vs.set6 hrr (.int .u8 2) (.int .u8 F) (.int .i64 B) (.int .i64 0) (.int .i64 0) (.int .i64 0)
    have hble : w.heap.size ≤ w.heap.size + 1 := by omega
    have hbr := bl_set (p := ⟨w.heap.size + 1, 5, none⟩) (bl_set (p := ⟨w.heap.size + 1, 4, none⟩) (bl_set (p := ⟨w.heap.size + 1, 3, none⟩) (bl_set (p := ⟨w.heap.size + 1, 2, none⟩) (bl_set (p := ⟨w.heap.size + 1, 1, none⟩) (bl_set (p := ⟨w.heap.size + 1, 0, none⟩) hbw2 hble (.int .u8 2)) hble (.int .u8 F)) hble (.int .i64 B)) hble (.int .i64 0)) hble (.int .i64 0)) hble (.int .i64 0)
    exact bodyPost_ret (results_cir hres rfl rfl) rfl ⟨rfl, hbr⟩
  · obtain ⟨L3, hL3, h31, h33⟩ : ∃ L3 : Nat, 1 + (L : Int) % 3 = (L3 : Int) ∧ 1 ≤ L3 ∧ L3 ≤ 3 := ⟨(1 + (L : Int) % 3).toNat, by omega, by omega, by omega⟩
    have hL3' : (L : Int) % 3 + 1 = (L3 : Int) := by omega
    refine ⟨F, .vec B L3 C, hF, CK.small_of ⟨⟨hB1, by omega⟩, ⟨h31, by omega⟩, ⟨hC1, by omega⟩⟩ (Nat.le_trans (mul_small h33 hB4) (by omega)), fun w => ?_⟩
    rw [val_vec]
    go_enter Try.func36, Try.ntmps36
    go_upto_region 2 with fail
    have hs := ((Vs.new w [.int .u8 k, .int .u8 f, .int .u8 b, .int .u8 l, .int .u8 m, .int .u8 c] #[.int .u8 k, .int .u8 f, .int .u8 b, .int .u8 l, .int .u8 m, .int .u8 c] 62 rfl).alloc (.cells #[.int .u8 0, .int .u8 0, .int .i64 0, .int .i64 0, .int .i64 0, .int .i64 0] 60)).alloc (.cells #[.int .u8 3, .int .u8 F, .int .i64 0, .int .i64 0, .int .i64 0, .int .i64 0] 60)
    have hr := (Vs.new (w.alloc (.cells #[.int .u8 k, .int .u8 f, .int .u8 b, .int .u8 l, .int .u8 m, .int .u8 c] 62)) [.int .u8 0, .int .u8 0, .int .i64 0, .int .i64 0, .int .i64 0, .int .i64 0] #[.int .u8 0, .int .u8 0, .int .i64 0, .int .i64 0, .int .i64 0, .int .i64 0] 60 rfl).alloc (.cells #[.int .u8 3, .int .u8 F, .int .i64 0, .int .i64 0, .int .i64 0, .int .i64 0] 60)
    have hv := Vs.new ((w.alloc (.cells #[.int .u8 k, .int .u8 f, .int .u8 b, .int .u8 l, .int .u8 m, .int .u8 c] 62)).alloc (.cells #[.int .u8 0, .int .u8 0, .int .i64 0, .int .i64 0, .int .i64 0, .int .i64 0] 60)) [.int .u8 3, .int .u8 F, .int .i64 0, .int .i64 0, .int .i64 0, .int .i64 0] #[.int .u8 3, .int .u8 F, .int .i64 0, .int .i64 0, .int .i64 0, .int .i64 0] 60 rfl
    simp only [World.size_alloc] at hr hv
    have hbw : Below w.heap.size w (((w.alloc (.cells #[.int .u8 k, .int .u8 f, .int .u8 b, .int .u8 l, .int .u8 m, .int .u8 c] 62)).alloc (.cells #[.int .u8 0, .int .u8 0, .int .i64 0, .int .i64 0, .int .i64 0, .int .i64 0] 60)).alloc (.cells #[.int .u8 3, .int .u8 F, .int .i64 0, .int .i64 0, .int .i64 0, .int .i64 0] 60)) := by repeat (first | exact Below.refl _ _ | with_reducible assumption | (refine bl_alloc ?_ (Nat.le_refl _) _) | (refine bl_set ?_ (by dsimp only; omega) _) | (refine Below.drew ?_) | (refine bl_drewN ?_ _) | (refine bl_call ?_ (Nat.le_refl _) (by assumption)))
    generalize ((w.alloc (.cells #[.int .u8 k, .int .u8 f, .int .u8 b, .int .u8 l, .int .u8 m, .int .u8 c] 62)).alloc (.cells #[.int .u8 0, .int .u8 0, .int .i64 0, .int .i64 0, .int .i64 0, .int .i64 0] 60)).alloc (.cells #[.int .u8 3, .int .u8 F, .int .i64 0, .int .i64 0, .int .i64 0, .int .i64 0] 60) = w1 at hs hr hv hbw ⊢
    obtain ⟨⟨s0, s1, s2, s3, s4, s5⟩, ⟨s6, s7, s8, s9, s10, s11⟩, s12⟩ := hs.get6
    obtain ⟨⟨r0, r1, r2, r3, r4, r5⟩, ⟨r6, r7, r8, r9, r10, r11⟩, r12⟩ := hr.get6
    obtain ⟨⟨v0, v1, v2, v3, v4, v5⟩, ⟨v6, v7, v8, v9, v10, v11⟩, v12⟩ := hv.get6
    refine region_B (n := 11) (m := 12) (f := 11) (by kernel_rfl) (by kernel_rfl) rfl ?_
    refine WpH.takeD 0 (some 15) (v := ?_) rfl rfl (by kernel_rfl) (fun _ _ _ h => h) (.val rfl (fun wz hwz => ?_)) ?_
    rotate_left
    · go_simp; try (with_reducible rfl)
    (simp only [Act.put]); (try simp only [List.setIfInBounds_toArray]); (try simp only [List.set_cons_succ]); (try simp only [List.set_cons_zero])
    refine WpH.takeD 1 (some 16) (v := ?_) rfl rfl (by kernel_rfl) (fun _ _ _ h => h) (.val rfl (fun wz hwz => ?_)) ?_
    rotate_left
    · (obtain ⟨hcz, hfz⟩ := bcell hwz; go_simp; try (with_reducible rfl))
    (simp only [Act.put]); (try simp only [List.setIfInBounds_toArray]); (try simp only [List.set_cons_succ]); (try simp only [List.set_cons_zero])
    refine WpH.takeD 2 (some 17) (v := ?_) rfl rfl (by kernel_rfl) (fun _ _ _ h => h) (.val rfl (fun wz hwz => ?_)) ?_
    rotate_left
    · go_simp; try (with_reducible rfl)
    (simp only [Act.put]); (try simp only [List.setIfInBounds_toArray]); (try simp only [List.set_cons_succ]); (try simp only [List.set_cons_zero])
    refine WpH.takeD 3 (some 18) (v := ?_) rfl rfl (by kernel_rfl) (fun _ _ _ h => h) (.val rfl (fun wz hwz => ?_)) ?_
    rotate_left
    · go_simp; try (with_reducible rfl)
    (simp only [Act.put]); (try simp only [List.setIfInBounds_toArray]); (try simp only [List.set_cons_succ]); (try simp only [List.set_cons_zero])
    refine WpH.takeD 4 (some 19) (v := ?_) rfl rfl (by kernel_rfl) (fun _ _ _ h => h) (.val rfl (fun wz hwz => ?_)) ?_
    rotate_left
    · go_simp; try (with_reducible rfl)
    (simp only [Act.put]); (try simp only [List.setIfInBounds_toArray]); (try simp only [List.set_cons_succ]); (try simp only [List.set_cons_zero])
    refine WpH.takeD 5 (some 20) (v := ?_) rfl rfl (by kernel_rfl) (fun _ _ _ h => h) (.val rfl (fun wz hwz => ?_)) ?_
    rotate_left
    · go_simp; try (with_reducible rfl)
    (simp only [Act.put]); (try simp only [List.setIfInBounds_toArray]); (try simp only [List.set_cons_succ]); (try simp only [List.set_cons_zero])
    refine WpH.takeD 6 (some 21) (v := ?_) rfl rfl (by kernel_rfl) (fun _ _ _ h => h) (.val rfl (fun wz hwz => ?_)) ?_
    rotate_left
    · (obtain ⟨hcz, hfz⟩ := bcell hwz; go_simp; try (with_reducible rfl))
    (simp only [Act.put]); (try simp only [List.setIfInBounds_toArray]); (try simp only [List.set_cons_succ]); (try simp only [List.set_cons_zero])
    refine WpH.takeD 7 (some 22) (v := ?_) rfl rfl (by kernel_rfl) (fun _ _ _ h => h) (.val rfl (fun wz hwz => ?_)) ?_
    rotate_left
    · go_simp; try (with_reducible rfl)
    (simp only [Act.put]); (try simp only [List.setIfInBounds_toArray]); (try simp only [List.set_cons_succ]); (try simp only [List.set_cons_zero])
    refine WpH.takeD 8 (some 23) (v := ?_) rfl rfl (by kernel_rfl) (fun _ _ _ h => h) (.val rfl (fun wz hwz => ?_)) ?_
    rotate_left
    · go_simp; try (with_reducible rfl)
    (simp only [Act.put]); (try simp only [List.setIfInBounds_toArray]); (try simp only [List.set_cons_succ]); (try simp only [List.set_cons_zero])
    refine WpH.takeD 9 (some 24) (v := ?_) rfl rfl (by kernel_rfl) (fun _ _ _ h => h) (.val rfl (fun wz hwz => ?_)) ?_
    rotate_left
    · go_simp; try (with_reducible rfl)
    (simp only [Act.put]); (try simp only [List.setIfInBounds_toArray]); (try simp only [List.set_cons_succ]); (try simp only [List.set_cons_zero])
    refine WpH.takeD 10 (some 4) (v := ?_) rfl rfl (by kernel_rfl) (fun _ _ _ h => h) (.val rfl (fun wz hwz => ?_)) ?_
    rotate_left
    · go_simp; try (with_reducible rfl)
    (simp only [Act.put]); (try simp only [List.setIfInBounds_toArray]); (try simp only [List.set_cons_succ]); (try simp only [List.set_cons_zero])
    refine WpH.doneB (by kernel_rfl) (fun w2 hw2 => ?_)
    (try simp only [List.drop_succ_cons]); (try simp only [List.drop_zero]); (try simp only [Nat.reduceSub]); (try simp only [List.take_succ_cons]); (try simp only [List.take_zero])
    clear s0 s1 s2 s3 s4 s5 s6 s7 s8 s9 s10 s11 s12 r0 r1 r2 r3 r4 r5 r6 r7 r8 r9 r10 r11 r12 v0 v1 v2 v3 v4 v5 v6 v7 v8 v9 v10 v11 v12
    replace hbw := bl_call hbw (Nat.le_refl _) hw2
    replace hs := hs.call hw2
    replace hr := hr.call hw2
    replace hv := hv.call hw2
    obtain ⟨⟨s0, s1, s2, s3, s4, s5⟩, ⟨s6, s7, s8, s9, s10, s11⟩, s12⟩ := hs.get6
    obtain ⟨⟨r0, r1, r2, r3, r4, r5⟩, ⟨r6, r7, r8, r9, r10, r11⟩, r12⟩ := hr.get6
    obtain ⟨⟨v0, v1, v2, v3, v4, v5⟩, ⟨v6, v7, v8, v9, v10, v11⟩, v12⟩ := hv.get6
    go_wp2
    have hS7 : SmS w k f b l m c 3 F w2.drew := ⟨hbw.drew, hs.drew, hr.drew, _, _, _, hv.drew⟩
    obtain ⟨T, hT, hT2⟩ : ∃ T : Nat, (L : Int).tmod 3 = (T : Int) ∧ (1 : Int) + (T : Int) = (L3 : Int) := ⟨((L : Int) % 3).toNat, by rw [Int.tmod_eq_emod_of_nonneg (by omega)]; omega, by omega⟩
    obtain ⟨CT, hCT, hCT2⟩ : ∃ CT : Nat, c.tmod 4 = (CT : Int) ∧ (1 : Int) + (CT : Int) = (C : Int) := ⟨(c % 4).toNat, by rw [Int.tmod_eq_emod_of_nonneg hc0]; omega, by omega⟩
    have hwT : IntKind.i64.wrap (T : Int) = (T : Int) := IntWalk.i64_in _ (by omega)
    have hwL3 : IntKind.i64.wrap (L3 : Int) = (L3 : Int) := IntWalk.i64_in _ (by omega)
    have hwCT : IntKind.i64.wrap (CT : Int) = (CT : Int) := IntWalk.i64_in _ (by omega)
    have hwC : IntKind.i64.wrap (C : Int) = (C : Int) := IntWalk.i64_in _ (by omega)
    clear s0 s1 s2 s3 s4 s5 s6 s7 s8 s9 s10 s11 s12 r0 r1 r2 r3 r4 r5 r6 r7 r8 r9 r10 r11 r12 v0 v1 v2 v3 v4 v5 v6 v7 v8 v9 v10 v11 v12
    refine region_GS (SmS w k f b l m c 3 F) (SmS.clo w k f b l m c 3 F) hS7 (n := 13) (m := 15) (f := 13) (by kernel_rfl) (by kernel_rfl) rfl ?_
    refine WpG.takeD 0 (some 33) (v := ?_) rfl rfl (by kernel_rfl) (fun _ _ _ h => h) (.val rfl (fun wz hwz => ?_)) ?_
    rotate_left
    · go_simp; try (with_reducible rfl)
    (simp only [Act.put]); (try simp only [List.setIfInBounds_toArray]); (try simp only [List.set_cons_succ]); (try simp only [List.set_cons_zero])
    refine WpG.takeD 1 (some 34) (v := ?_) rfl rfl (by kernel_rfl) (fun _ _ _ h => h) (.val rfl (fun wz hwz => ?_)) ?_
    rotate_left
    · go_simp; try (with_reducible rfl)
    (simp only [Act.put]); (try simp only [List.setIfInBounds_toArray]); (try simp only [List.set_cons_succ]); (try simp only [List.set_cons_zero])
    refine WpG.takeD 2 (some 35) (v := ?_) rfl rfl (by kernel_rfl) (fun _ _ _ h => h) (.val rfl (fun wz hwz => ?_)) ?_
    rotate_left
    · go_simp; try (with_reducible rfl)
    (simp only [Act.put]); (try simp only [List.setIfInBounds_toArray]); (try simp only [List.set_cons_succ]); (try simp only [List.set_cons_zero])
    refine WpG.takeD 3 (some 36) (v := ?_) rfl rfl (by kernel_rfl) (fun _ _ _ h => h) (.val rfl (fun wz hwz => ?_)) ?_
    rotate_left
    · go_simp; try (with_reducible rfl)
    (simp only [Act.put]); (try simp only [List.setIfInBounds_toArray]); (try simp only [List.set_cons_succ]); (try simp only [List.set_cons_zero])
    refine WpG.takeD 4 (some 37) (v := ?_) rfl rfl (by kernel_rfl) (fun _ _ _ h => h) (.val rfl (fun wz hwz => ?_)) ?_
    rotate_left
    · go_simp; try (with_reducible rfl)
    (simp only [Act.put]); (try simp only [List.setIfInBounds_toArray]); (try simp only [List.set_cons_succ]); (try simp only [List.set_cons_zero])
    refine WpG.takeD 5 (some 38) (v := ?_) rfl rfl (by kernel_rfl) (fun _ _ _ h => h) (.val rfl (fun wz hwz => ?_)) ?_
    rotate_left
    · (obtain ⟨_, hsz, _, _⟩ := hwz; obtain ⟨⟨s0, s1, s2, s3, s4, s5⟩, _, s12⟩ := hsz.get6; go_simp; try (with_reducible rfl))
    (simp only [Act.put]); (try simp only [List.setIfInBounds_toArray]); (try simp only [List.set_cons_succ]); (try simp only [List.set_cons_zero])
    refine WpG.takeD 6 (some 39) (v := ?_) rfl rfl (by kernel_rfl) (fun _ _ _ h => h) (.val rfl (fun wz hwz => ?_)) ?_
    rotate_left
    · go_simp; try (with_reducible rfl)
    (simp only [Act.put]); (try simp only [List.setIfInBounds_toArray]); (try simp only [List.set_cons_succ]); (try simp only [List.set_cons_zero])
    refine WpG.takeD 7 (some 40) (v := ?_) rfl rfl (by kernel_rfl) (fun _ _ _ h => h) (.val rfl (fun wz hwz => ?_)) ?_
    rotate_left
    · go_simp; try (with_reducible rfl)
    (simp only [Act.put]); (try simp only [List.setIfInBounds_toArray]); (try simp only [List.set_cons_succ]); (try simp only [List.set_cons_zero])
    refine WpG.takeD 8 (some 41) (v := ?_) rfl rfl (by kernel_rfl) (fun _ _ _ h => h) (.val rfl (fun wz hwz => ?_)) ?_
    rotate_left
    · go_simp; try (with_reducible rfl)
    (simp only [Act.put]); (try simp only [List.setIfInBounds_toArray]); (try simp only [List.set_cons_succ]); (try simp only [List.set_cons_zero])
    refine WpG.takeD 9 (some 42) (v := ?_) rfl rfl (by kernel_rfl) (fun _ _ _ h => h) (.val rfl (fun wz hwz => ?_)) ?_
    rotate_left
    · go_simp; try (with_reducible rfl)
    (simp only [Act.put]); (try simp only [List.setIfInBounds_toArray]); (try simp only [List.set_cons_succ]); (try simp only [List.set_cons_zero])
    refine WpG.oneSkip 10 none rfl rfl (by kernel_rfl) (fun wz => ∃ x3 x5 : Value, Vs wz (w.heap.size + 1 + 1) [.int .u8 3, .int .u8 F, .int .i64 B, x3, .int .i64 0, x5]) (fun _ _ h hb => let ⟨y, z, hv⟩ := h; ⟨y, z, hv.call hb⟩) rfl (fun wz hwz => ?_) ?_
    · obtain ⟨hbz, hsz, hrz, x2, x3, x5, hvz⟩ := hwz; obtain ⟨⟨v0, v1, v2, v3, v4, v5⟩, ⟨v6, v7, v8, v9, v10, v11⟩, v12⟩ := hvz.get6; exact ⟨wz.setCell ⟨w.heap.size + 1 + 1, 2, none⟩ (.int .i64 B), by go_simp; try (with_reducible rfl), ⟨bl_set hbz (by dsimp only; omega) _, hsz.far (by simp; omega) _, hrz.far (by simp) _, _, _, _, hvz.put 2 (by simp) _⟩, _, _, hvz.put 2 (by simp) _⟩
    (simp only [Act.put]); (try simp only [List.setIfInBounds_toArray]); (try simp only [List.set_cons_succ]); (try simp only [List.set_cons_zero])
    refine WpG.takeD 11 (some 43) (v := ?_) rfl rfl (by kernel_rfl) (fun _ _ _ h => h) (.val rfl (fun wz hwz => ?_)) ?_
    rotate_left
    · go_simp; try (with_reducible rfl)
    (simp only [Act.put]); (try simp only [List.setIfInBounds_toArray]); (try simp only [List.set_cons_succ]); (try simp only [List.set_cons_zero])
    refine WpG.oneSkip 12 none rfl rfl (by kernel_rfl) (fun wz => ∃ x5 : Value, Vs wz (w.heap.size + 1 + 1) [.int .u8 3, .int .u8 F, .int .i64 B, .int .i64 L3, .int .i64 0, x5]) (fun _ _ h hb => let ⟨z, hv⟩ := h; ⟨z, hv.call hb⟩) rfl (fun wz hwz => ?_) ?_
    · obtain ⟨⟨hbz, hsz, hrz, _⟩, x3, x5, hvz⟩ := hwz; obtain ⟨⟨v0, v1, v2, v3, v4, v5⟩, ⟨v6, v7, v8, v9, v10, v11⟩, v12⟩ := hvz.get6; exact ⟨wz.setCell ⟨w.heap.size + 1 + 1, 3, none⟩ (.int .i64 L3), by go_simp; try (with_reducible rfl), ⟨⟨bl_set hbz (by dsimp only; omega) _, hsz.far (by simp; omega) _, hrz.far (by simp) _, _, _, _, hvz.put 3 (by simp) _⟩, _, _, hvz.put 3 (by simp) _⟩, _, hvz.put 3 (by simp) _⟩
    (simp only [Act.put]); (try simp only [List.setIfInBounds_toArray]); (try simp only [List.set_cons_succ]); (try simp only [List.set_cons_zero])
    refine WpG.done (by kernel_rfl) (fun w5 hS => ?_)
    (try simp only [List.drop_succ_cons]); (try simp only [List.drop_zero]); (try simp only [Nat.reduceSub]); (try simp only [List.take_succ_cons]); (try simp only [List.take_zero])
    obtain ⟨⟨⟨hb5, hs5, hr5, _⟩, _⟩, x5, hv5⟩ := hS
    have hrr := hr5.far (p := ⟨w.heap.size + 1 + 1, 5, none⟩) (by simp) (.int .i64 C)
    have hbw2 := bl_set (p := ⟨w.heap.size + 1 + 1, 5, none⟩) hb5 (by simp; omega) (.int .i64 C)
    clear hs hr hv hbw hS7 hw2
    obtain ⟨⟨v0, v1, v2, v3, v4, v5⟩, ⟨v6, v7, v8, v9, v10, v11⟩, v12⟩ := hv5.get6
    obtain ⟨⟨r0, r1, r2, r3, r4, r5⟩, ⟨r6, r7, r8, r9, r10, r11⟩, r12⟩ := hr5.get6
    go_wp2
    have hres := Vs.set6 hrr (.int .u8 3) (.int .u8 F) (.int .i64 B) (.int .i64 L3) (.int .i64 0) (.int .i64 C)
    have hble : w.heap.size ≤ w.heap.size + 1 := by omega
    have hbr := bl_set (p := ⟨w.heap.size + 1, 5, none⟩) (bl_set (p := ⟨w.heap.size + 1, 4, none⟩) (bl_set (p := ⟨w.heap.size + 1, 3, none⟩) (bl_set (p := ⟨w.heap.size + 1, 2, none⟩) (bl_set (p := ⟨w.heap.size + 1, 1, none⟩) (bl_set (p := ⟨w.heap.size + 1, 0, none⟩) hbw2 hble (.int .u8 3)) hble (.int .u8 F)) hble (.int .i64 B)) hble (.int .i64 L3)) hble (.int .i64 0)) hble (.int .i64 C)
    exact bodyPost_ret (results_cir hres rfl rfl) rfl ⟨rfl, hbr⟩
  · refine ⟨F, .hist L C, hF, CK.small_of ⟨⟨hL1, by omega⟩, ⟨hC1, by omega⟩⟩ (by show L ≤ 12; omega), fun w => ?_⟩
    rw [val_hist]
    go_enter Try.func36, Try.ntmps36
    go_upto_region 2 with fail
    have hs := ((Vs.new w [.int .u8 k, .int .u8 f, .int .u8 b, .int .u8 l, .int .u8 m, .int .u8 c] #[.int .u8 k, .int .u8 f, .int .u8 b, .int .u8 l, .int .u8 m, .int .u8 c] 62 rfl).alloc (.cells #[.int .u8 0, .int .u8 0, .int .i64 0, .int .i64 0, .int .i64 0, .int .i64 0] 60)).alloc (.cells #[.int .u8 4, .int .u8 F, .int .i64 0, .int .i64 0, .int .i64 0, .int .i64 0] 60)
    have hr := (Vs.new (w.alloc (.cells #[.int .u8 k, .int .u8 f, .int .u8 b, .int .u8 l, .int .u8 m, .int .u8 c] 62)) [.int .u8 0, .int .u8 0, .int .i64 0, .int .i64 0, .int .i64 0, .int .i64 0] #[.int .u8 0, .int .u8 0, .int .i64 0, .int .i64 0, .int .i64 0, .int .i64 0] 60 rfl).alloc (.cells #[.int .u8 4, .int .u8 F, .int .i64 0, .int .i64 0, .int .i64 0, .int .i64 0] 60)
    have hv := Vs.new ((w.alloc (.cells #[.int .u8 k, .int .u8 f, .int .u8 b, .int .u8 l, .int .u8 m, .int .u8 c] 62)).alloc (.cells #[.int .u8 0, .int .u8 0, .int .i64 0, .int .i64 0, .int .i64 0, .int .i64 0] 60)) [.int .u8 4, .int .u8 F, .int .i64 0, .int .i64 0, .int .i64 0, .int .i64 0] #[.int .u8 4, .int .u8 F, .int .i64 0, .int .i64 0, .int .i64 0, .int .i64 0] 60 rfl
    simp only [World.size_alloc] at hr hv
    have hbw : Below w.heap.size w (((w.alloc (.cells #[.int .u8 k, .int .u8 f, .int .u8 b, .int .u8 l, .int .u8 m, .int .u8 c] 62)).alloc (.cells #[.int .u8 0, .int .u8 0, .int .i64 0, .int .i64 0, .int .i64 0, .int .i64 0] 60)).alloc (.cells #[.int .u8 4, .int .u8 F, .int .i64 0, .int .i64 0, .int .i64 0, .int .i64 0] 60)) := by repeat (first | exact Below.refl _ _ | with_reducible assumption | (refine bl_alloc ?_ (Nat.le_refl _) _) | (refine bl_set ?_ (by dsimp only; omega) _) | (refine Below.drew ?_) | (refine bl_drewN ?_ _) | (refine bl_call ?_ (Nat.le_refl _) (by assumption)))
    generalize ((w.alloc (.cells #[.int .u8 k, .int .u8 f, .int .u8 b, .int .u8 l, .int .u8 m, .int .u8 c] 62)).alloc (.cells #[.int .u8 0, .int .u8 0, .int .i64 0, .int .i64 0, .int .i64 0, .int .i64 0] 60)).alloc (.cells #[.int .u8 4, .int .u8 F, .int .i64 0, .int .i64 0, .int .i64 0, .int .i64 0] 60) = w1 at hs hr hv hbw ⊢
    obtain ⟨⟨s0, s1, s2, s3, s4, s5⟩, ⟨s6, s7, s8, s9, s10, s11⟩, s12⟩ := hs.get6
    obtain ⟨⟨r0, r1, r2, r3, r4, r5⟩, ⟨r6, r7, r8, r9, r10, r11⟩, r12⟩ := hr.get6
    obtain ⟨⟨v0, v1, v2, v3, v4, v5⟩, ⟨v6, v7, v8, v9, v10, v11⟩, v12⟩ := hv.get6
    refine region_B (n := 11) (m := 12) (f := 11) (by kernel_rfl) (by kernel_rfl) rfl ?_
    refine WpH.takeD 0 (some 15) (v := ?_) rfl rfl (by kernel_rfl) (fun _ _ _ h => h) (.val rfl (fun wz hwz => ?_)) ?_
    rotate_left
    · go_simp; try (with_reducible rfl)
    (simp only [Act.put]); (try simp only [List.setIfInBounds_toArray]); (try simp only [List.set_cons_succ]); (try simp only [List.set_cons_zero])
    refine WpH.takeD 1 (some 16) (v := ?_) rfl rfl (by kernel_rfl) (fun _ _ _ h => h) (.val rfl (fun wz hwz => ?_)) ?_
    rotate_left
    · (obtain ⟨hcz, hfz⟩ := bcell hwz; go_simp; try (with_reducible rfl))
    (simp only [Act.put]); (try simp only [List.setIfInBounds_toArray]); (try simp only [List.set_cons_succ]); (try simp only [List.set_cons_zero])
    refine WpH.takeD 2 (some 17) (v := ?_) rfl rfl (by kernel_rfl) (fun _ _ _ h => h) (.val rfl (fun wz hwz => ?_)) ?_
    rotate_left
    · go_simp; try (with_reducible rfl)
    (simp only [Act.put]); (try simp only [List.setIfInBounds_toArray]); (try simp only [List.set_cons_succ]); (try simp only [List.set_cons_zero])
    refine WpH.takeD 3 (some 18) (v := ?_) rfl rfl (by kernel_rfl) (fun _ _ _ h => h) (.val rfl (fun wz hwz => ?_)) ?_
    rotate_left
    · go_simp; try (with_reducible rfl)
    (simp only [Act.put]); (try simp only [List.setIfInBounds_toArray]); (try simp only [List.set_cons_succ]); (try simp only [List.set_cons_zero])
    refine WpH.takeD 4 (some 19) (v := ?_) rfl rfl (by kernel_rfl) (fun _ _ _ h => h) (.val rfl (fun wz hwz => ?_)) ?_
    rotate_left
    · go_simp; try (with_reducible rfl)
    (simp only [Act.put]); (try simp only [List.setIfInBounds_toArray]); (try simp only [List.set_cons_succ]); (try simp only [List.set_cons_zero])
    refine WpH.takeD 5 (some 20) (v := ?_) rfl rfl (by kernel_rfl) (fun _ _ _ h => h) (.val rfl (fun wz hwz => ?_)) ?_
    rotate_left
    · go_simp; try (with_reducible rfl)
    (simp only [Act.put]); (try simp only [List.setIfInBounds_toArray]); (try simp only [List.set_cons_succ]); (try simp only [List.set_cons_zero])
    refine WpH.takeD 6 (some 21) (v := ?_) rfl rfl (by kernel_rfl) (fun _ _ _ h => h) (.val rfl (fun wz hwz => ?_)) ?_
    rotate_left
    · (obtain ⟨hcz, hfz⟩ := bcell hwz; go_simp; try (with_reducible rfl))
    (simp only [Act.put]); (try simp only [List.setIfInBounds_toArray]); (try simp only [List.set_cons_succ]); (try simp only [List.set_cons_zero])
    refine WpH.takeD 7 (some 22) (v := ?_) rfl rfl (by kernel_rfl) (fun _ _ _ h => h) (.val rfl (fun wz hwz => ?_)) ?_
    rotate_left
    · go_simp; try (with_reducible rfl)
    (simp only [Act.put]); (try simp only [List.setIfInBounds_toArray]); (try simp only [List.set_cons_succ]); (try simp only [List.set_cons_zero])
    refine WpH.takeD 8 (some 23) (v := ?_) rfl rfl (by kernel_rfl) (fun _ _ _ h => h) (.val rfl (fun wz hwz => ?_)) ?_
    rotate_left
    · go_simp; try (with_reducible rfl)
    (simp only [Act.put]); (try simp only [List.setIfInBounds_toArray]); (try simp only [List.set_cons_succ]); (try simp only [List.set_cons_zero])
    refine WpH.takeD 9 (some 24) (v := ?_) rfl rfl (by kernel_rfl) (fun _ _ _ h => h) (.val rfl (fun wz hwz => ?_)) ?_
    rotate_left
    · go_simp; try (with_reducible rfl)
    (simp only [Act.put]); (try simp only [List.setIfInBounds_toArray]); (try simp only [List.set_cons_succ]); (try simp only [List.set_cons_zero])
    refine WpH.takeD 10 (some 4) (v := ?_) rfl rfl (by kernel_rfl) (fun _ _ _ h => h) (.val rfl (fun wz hwz => ?_)) ?_
    rotate_left
    · go_simp; try (with_reducible rfl)
    (simp only [Act.put]); (try simp only [List.setIfInBounds_toArray]); (try simp only [List.set_cons_succ]); (try simp only [List.set_cons_zero])
    refine WpH.doneB (by kernel_rfl) (fun w2 hw2 => ?_)
    (try simp only [List.drop_succ_cons]); (try simp only [List.drop_zero]); (try simp only [Nat.reduceSub]); (try simp only [List.take_succ_cons]); (try simp only [List.take_zero])
    clear s0 s1 s2 s3 s4 s5 s6 s7 s8 s9 s10 s11 s12 r0 r1 r2 r3 r4 r5 r6 r7 r8 r9 r10 r11 r12 v0 v1 v2 v3 v4 v5 v6 v7 v8 v9 v10 v11 v12
    replace hbw := bl_call hbw (Nat.le_refl _) hw2
    replace hs := hs.call hw2
    replace hr := hr.call hw2
    replace hv := hv.call hw2
    obtain ⟨⟨s0, s1, s2, s3, s4, s5⟩, ⟨s6, s7, s8, s9, s10, s11⟩, s12⟩ := hs.get6
    obtain ⟨⟨r0, r1, r2, r3, r4, r5⟩, ⟨r6, r7, r8, r9, r10, r11⟩, r12⟩ := hr.get6
    obtain ⟨⟨v0, v1, v2, v3, v4, v5⟩, ⟨v6, v7, v8, v9, v10, v11⟩, v12⟩ := hv.get6
    go_wp2
    have hS7 : SmS w k f b l m c 4 F w2.drew := ⟨hbw.drew, hs.drew, hr.drew, _, _, _, hv.drew⟩
    obtain ⟨CT, hCT, hCT2⟩ : ∃ CT : Nat, c.tmod 4 = (CT : Int) ∧ (1 : Int) + (CT : Int) = (C : Int) := ⟨(c % 4).toNat, by rw [Int.tmod_eq_emod_of_nonneg hc0]; omega, by omega⟩
    have hwCT : IntKind.i64.wrap (CT : Int) = (CT : Int) := IntWalk.i64_in _ (by omega)
    have hwC : IntKind.i64.wrap (C : Int) = (C : Int) := IntWalk.i64_in _ (by omega)
    have hSH : Clo (fun wz => SmS w k f b l m c 4 F wz ∧ ∃ x3 x5 : Value, Vs wz (w.heap.size + 1 + 1) [.int .u8 4, .int .u8 F, .int .i64 0, x3, .int .i64 0, x5]) := (SmS.clo w k f b l m c 4 F).and fun _ _ h hb => let ⟨y, z, hv⟩ := h; ⟨y, z, hv.call hb⟩
    have hS8 : SmS w k f b l m c 4 F w2.drew ∧ ∃ x3 x5 : Value, Vs w2.drew (w.heap.size + 1 + 1) [.int .u8 4, .int .u8 F, .int .i64 0, x3, .int .i64 0, x5] := ⟨hS7, _, _, hv.drew⟩
    clear s0 s1 s2 s3 s4 s5 s6 s7 s8 s9 s10 s11 s12 r0 r1 r2 r3 r4 r5 r6 r7 r8 r9 r10 r11 r12 v0 v1 v2 v3 v4 v5 v6 v7 v8 v9 v10 v11 v12
    refine region_GS _ hSH hS8 (n := 8) (m := 10) (f := 8) (by kernel_rfl) (by kernel_rfl) rfl ?_
    refine WpG.takeD 0 (some 47) (v := ?_) rfl rfl (by kernel_rfl) (fun _ _ _ h => h) (.val rfl (fun wz hwz => ?_)) ?_
    rotate_left
    · go_simp; try (with_reducible rfl)
    (simp only [Act.put]); (try simp only [List.setIfInBounds_toArray]); (try simp only [List.set_cons_succ]); (try simp only [List.set_cons_zero])
    refine WpG.takeD 1 (some 48) (v := ?_) rfl rfl (by kernel_rfl) (fun _ _ _ h => h) (.val rfl (fun wz hwz => ?_)) ?_
    rotate_left
    · go_simp; try (with_reducible rfl)
    (simp only [Act.put]); (try simp only [List.setIfInBounds_toArray]); (try simp only [List.set_cons_succ]); (try simp only [List.set_cons_zero])
    refine WpG.takeD 2 (some 49) (v := ?_) rfl rfl (by kernel_rfl) (fun _ _ _ h => h) (.val rfl (fun wz hwz => ?_)) ?_
    rotate_left
    · (obtain ⟨⟨_, hsz, _, _⟩, _⟩ := hwz; obtain ⟨⟨s0, s1, s2, s3, s4, s5⟩, _, s12⟩ := hsz.get6; go_simp; try (with_reducible rfl))
    (simp only [Act.put]); (try simp only [List.setIfInBounds_toArray]); (try simp only [List.set_cons_succ]); (try simp only [List.set_cons_zero])
    refine WpG.takeD 3 (some 50) (v := ?_) rfl rfl (by kernel_rfl) (fun _ _ _ h => h) (.val rfl (fun wz hwz => ?_)) ?_
    rotate_left
    · go_simp; try (with_reducible rfl)
    (simp only [Act.put]); (try simp only [List.setIfInBounds_toArray]); (try simp only [List.set_cons_succ]); (try simp only [List.set_cons_zero])
    refine WpG.takeD 4 (some 51) (v := ?_) rfl rfl (by kernel_rfl) (fun _ _ _ h => h) (.val rfl (fun wz hwz => ?_)) ?_
    rotate_left
    · go_simp; try (with_reducible rfl)
    (simp only [Act.put]); (try simp only [List.setIfInBounds_toArray]); (try simp only [List.set_cons_succ]); (try simp only [List.set_cons_zero])
    refine WpG.takeD 5 (some 52) (v := ?_) rfl rfl (by kernel_rfl) (fun _ _ _ h => h) (.val rfl (fun wz hwz => ?_)) ?_
    rotate_left
    · go_simp; try (with_reducible rfl)
    (simp only [Act.put]); (try simp only [List.setIfInBounds_toArray]); (try simp only [List.set_cons_succ]); (try simp only [List.set_cons_zero])
    refine WpG.takeD 6 (some 53) (v := ?_) rfl rfl (by kernel_rfl) (fun _ _ _ h => h) (.val rfl (fun wz hwz => ?_)) ?_
    rotate_left
    · go_simp; try (with_reducible rfl)
    (simp only [Act.put]); (try simp only [List.setIfInBounds_toArray]); (try simp only [List.set_cons_succ]); (try simp only [List.set_cons_zero])
    refine WpG.oneSkip 7 none rfl rfl (by kernel_rfl) (fun wz => ∃ x5 : Value, Vs wz (w.heap.size + 1 + 1) [.int .u8 4, .int .u8 F, .int .i64 0, .int .i64 L, .int .i64 0, x5]) (fun _ _ h hb => let ⟨z, hv⟩ := h; ⟨z, hv.call hb⟩) rfl (fun wz hwz => ?_) ?_
    · obtain ⟨⟨hbz, hsz, hrz, _⟩, x3, x5, hvz⟩ := hwz; obtain ⟨⟨v0, v1, v2, v3, v4, v5⟩, ⟨v6, v7, v8, v9, v10, v11⟩, v12⟩ := hvz.get6; exact ⟨wz.setCell ⟨w.heap.size + 1 + 1, 3, none⟩ (.int .i64 L), by go_simp; try (with_reducible rfl), ⟨⟨bl_set hbz (by dsimp only; omega) _, hsz.far (by simp; omega) _, hrz.far (by simp) _, _, _, _, hvz.put 3 (by simp) _⟩, _, _, hvz.put 3 (by simp) _⟩, _, hvz.put 3 (by simp) _⟩
    (simp only [Act.put]); (try simp only [List.setIfInBounds_toArray]); (try simp only [List.set_cons_succ]); (try simp only [List.set_cons_zero])
    refine WpG.done (by kernel_rfl) (fun w5 hS => ?_)
    (try simp only [List.drop_succ_cons]); (try simp only [List.drop_zero]); (try simp only [Nat.reduceSub]); (try simp only [List.take_succ_cons]); (try simp only [List.take_zero])
    obtain ⟨⟨⟨hb5, hs5, hr5, _⟩, _⟩, x5, hv5⟩ := hS
    have hrr := hr5.far (p := ⟨w.heap.size + 1 + 1, 5, none⟩) (by simp) (.int .i64 C)
    have hbw2 := bl_set (p := ⟨w.heap.size + 1 + 1, 5, none⟩) hb5 (by simp; omega) (.int .i64 C)
    clear hs hr hv hbw hS7 hw2
    obtain ⟨⟨v0, v1, v2, v3, v4, v5⟩, ⟨v6, v7, v8, v9, v10, v11⟩, v12⟩ := hv5.get6
    obtain ⟨⟨r0, r1, r2, r3, r4, r5⟩, ⟨r6, r7, r8, r9, r10, r11⟩, r12⟩ := hr5.get6
    go_wp2
    have hres := Vs.set6 hrr (.int .u8 4) (.int .u8 F) (.int .i64 0) (.int .i64 L) (.int .i64 0) (.int .i64 C)
    have hble : w.heap.size ≤ w.heap.size + 1 := by omega
    have hbr := bl_set (p := ⟨w.heap.size + 1, 5, none⟩) (bl_set (p := ⟨w.heap.size + 1, 4, none⟩) (bl_set (p := ⟨w.heap.size + 1, 3, none⟩) (bl_set (p := ⟨w.heap.size + 1, 2, none⟩) (bl_set (p := ⟨w.heap.size + 1, 1, none⟩) (bl_set (p := ⟨w.heap.size + 1, 0, none⟩) hbw2 hble (.int .u8 4)) hble (.int .u8 F)) hble (.int .i64 0)) hble (.int .i64 L)) hble (.int .i64 0)) hble (.int .i64 C)
    exact bodyPost_ret (results_cir hres rfl rfl) rfl ⟨rfl, hbr⟩
  · have hmod : 0 ≤ m % (L : Int) ∧ m % (L : Int) < (L : Int) := ⟨Int.emod_nonneg _ (by omega), Int.emod_lt_of_pos _ (by omega)⟩
    obtain ⟨M, hM, hM1, hML⟩ : ∃ M : Nat, 1 + m % (L : Int) = (M : Int) ∧ 1 ≤ M ∧ M ≤ L := ⟨(1 + m % (L : Int)).toNat, by omega, by omega, by omega⟩
    have hM' : m % (L : Int) + 1 = (M : Int) := by omega
    have hb3 := bitLen_5 M (by omega)
    refine ⟨F, .multi L M C, hF, CK.small_of ⟨⟨hL1, by omega⟩, ⟨hM1, hML⟩, ⟨hC1, by omega⟩⟩ (by show L + Lib.bitLen M ≤ 12; omega), fun w => ?_⟩
    have hL0 : ¬ (L = 0) := by omega
    rw [val_multi]
    clear hb3
    go_enter Try.func36, Try.ntmps36
    go_upto_region 2 with fail
    have hs := ((Vs.new w [.int .u8 k, .int .u8 f, .int .u8 b, .int .u8 l, .int .u8 m, .int .u8 c] #[.int .u8 k, .int .u8 f, .int .u8 b, .int .u8 l, .int .u8 m, .int .u8 c] 62 rfl).alloc (.cells #[.int .u8 0, .int .u8 0, .int .i64 0, .int .i64 0, .int .i64 0, .int .i64 0] 60)).alloc (.cells #[.int .u8 5, .int .u8 F, .int .i64 0, .int .i64 0, .int .i64 0, .int .i64 0] 60)
    have hr := (Vs.new (w.alloc (.cells #[.int .u8 k, .int .u8 f, .int .u8 b, .int .u8 l, .int .u8 m, .int .u8 c] 62)) [.int .u8 0, .int .u8 0, .int .i64 0, .int .i64 0, .int .i64 0, .int .i64 0] #[.int .u8 0, .int .u8 0, .int .i64 0, .int .i64 0, .int .i64 0, .int .i64 0] 60 rfl).alloc (.cells #[.int .u8 5, .int .u8 F, .int .i64 0, .int .i64 0, .int .i64 0, .int .i64 0] 60)
    have hv := Vs.new ((w.alloc (.cells #[.int .u8 k, .int .u8 f, .int .u8 b, .int .u8 l, .int .u8 m, .int .u8 c] 62)).alloc (.cells #[.int .u8 0, .int .u8 0, .int .i64 0, .int .i64 0, .int .i64 0, .int .i64 0] 60)) [.int .u8 5, .int .u8 F, .int .i64 0, .int .i64 0, .int .i64 0, .int .i64 0] #[.int .u8 5, .int .u8 F, .int .i64 0, .int .i64 0, .int .i64 0, .int .i64 0] 60 rfl
    simp only [World.size_alloc] at hr hv
    have hbw : Below w.heap.size w (((w.alloc (.cells #[.int .u8 k, .int .u8 f, .int .u8 b, .int .u8 l, .int .u8 m, .int .u8 c] 62)).alloc (.cells #[.int .u8 0, .int .u8 0, .int .i64 0, .int .i64 0, .int .i64 0, .int .i64 0] 60)).alloc (.cells #[.int .u8 5, .int .u8 F, .int .i64 0, .int .i64 0, .int .i64 0, .int .i64 0] 60)) := by repeat (first | exact Below.refl _ _ | with_reducible assumption | (refine bl_alloc ?_ (Nat.le_refl _) _) | (refine bl_set ?_ (by dsimp only; omega) _) | (refine Below.drew ?_) | (refine bl_drewN ?_ _) | (refine bl_call ?_ (Nat.le_refl _) (by assumption)))
    generalize ((w.alloc (.cells #[.int .u8 k, .int .u8 f, .int .u8 b, .int .u8 l, .int .u8 m, .int .u8 c] 62)).alloc (.cells #[.int .u8 0, .int .u8 0, .int .i64 0, .int .i64 0, .int .i64 0, .int .i64 0] 60)).alloc (.cells #[.int .u8 5, .int .u8 F, .int .i64 0, .int .i64 0, .int .i64 0, .int .i64 0] 60) = w1 at hs hr hv hbw ⊢
    obtain ⟨⟨s0, s1, s2, s3, s4, s5⟩, ⟨s6, s7, s8, s9, s10, s11⟩, s12⟩ := hs.get6
    obtain ⟨⟨r0, r1, r2, r3, r4, r5⟩, ⟨r6, r7, r8, r9, r10, r11⟩, r12⟩ := hr.get6
    obtain ⟨⟨v0, v1, v2, v3, v4, v5⟩, ⟨v6, v7, v8, v9, v10, v11⟩, v12⟩ := hv.get6
    refine region_B (n := 11) (m := 12) (f := 11) (by kernel_rfl) (by kernel_rfl) rfl ?_
    refine WpH.takeD 0 (some 15) (v := ?_) rfl rfl (by kernel_rfl) (fun _ _ _ h => h) (.val rfl (fun wz hwz => ?_)) ?_
    rotate_left
    · go_simp; try (with_reducible rfl)
    (simp only [Act.put]); (try simp only [List.setIfInBounds_toArray]); (try simp only [List.set_cons_succ]); (try simp only [List.set_cons_zero])
    refine WpH.takeD 1 (some 16) (v := ?_) rfl rfl (by kernel_rfl) (fun _ _ _ h => h) (.val rfl (fun wz hwz => ?_)) ?_
    rotate_left
    · (obtain ⟨hcz, hfz⟩ := bcell hwz; go_simp; try (with_reducible rfl))
    (simp only [Act.put]); (try simp only [List.setIfInBounds_toArray]); (try simp only [List.set_cons_succ]); (try simp only [List.set_cons_zero])
    refine WpH.takeD 2 (some 17) (v := ?_) rfl rfl (by kernel_rfl) (fun _ _ _ h => h) (.val rfl (fun wz hwz => ?_)) ?_
    rotate_left
    · go_simp; try (with_reducible rfl)
    (simp only [Act.put]); (try simp only [List.setIfInBounds_toArray]); (try simp only [List.set_cons_succ]); (try simp only [List.set_cons_zero])
    refine WpH.takeD 3 (some 18) (v := ?_) rfl rfl (by kernel_rfl) (fun _ _ _ h => h) (.val rfl (fun wz hwz => ?_)) ?_
    rotate_left
    · go_simp; try (with_reducible rfl)
    (simp only [Act.put]); (try simp only [List.setIfInBounds_toArray]); (try simp only [List.set_cons_succ]); (try simp only [List.set_cons_zero])
    refine WpH.takeD 4 (some 19) (v := ?_) rfl rfl (by kernel_rfl) (fun _ _ _ h => h) (.val rfl (fun wz hwz => ?_)) ?_
    rotate_left
    · go_simp; try (with_reducible rfl)
    (simp only [Act.put]); (try simp only [List.setIfInBounds_toArray]); (try simp only [List.set_cons_succ]); (try simp only [List.set_cons_zero])
    refine WpH.takeD 5 (some 20) (v := ?_) rfl rfl (by kernel_rfl) (fun _ _ _ h => h) (.val rfl (fun wz hwz => ?_)) ?_
    rotate_left
    · go_simp; try (with_reducible rfl)
    (simp only [Act.put]); (try simp only [List.setIfInBounds_toArray]); (try simp only [List.set_cons_succ]); (try simp only [List.set_cons_zero])
    refine WpH.takeD 6 (some 21) (v := ?_) rfl rfl (by kernel_rfl) (fun _ _ _ h => h) (.val rfl (fun wz hwz => ?_)) ?_
    rotate_left
    · (obtain ⟨hcz, hfz⟩ := bcell hwz; go_simp; try (with_reducible rfl))
    (simp only [Act.put]); (try simp only [List.setIfInBounds_toArray]); (try simp only [List.set_cons_succ]); (try simp only [List.set_cons_zero])
    refine WpH.takeD 7 (some 22) (v := ?_) rfl rfl (by kernel_rfl) (fun _ _ _ h => h) (.val rfl (fun wz hwz => ?_)) ?_
    rotate_left
    · go_simp; try (with_reducible rfl)
    (simp only [Act.put]); (try simp only [List.setIfInBounds_toArray]); (try simp only [List.set_cons_succ]); (try simp only [List.set_cons_zero])
    refine WpH.takeD 8 (some 23) (v := ?_) rfl rfl (by kernel_rfl) (fun _ _ _ h => h) (.val rfl (fun wz hwz => ?_)) ?_
    rotate_left
    · go_simp; try (with_reducible rfl)
    (simp only [Act.put]); (try simp only [List.setIfInBounds_toArray]); (try simp only [List.set_cons_succ]); (try simp only [List.set_cons_zero])
    refine WpH.takeD 9 (some 24) (v := ?_) rfl rfl (by kernel_rfl) (fun _ _ _ h => h) (.val rfl (fun wz hwz => ?_)) ?_
    rotate_left
    · go_simp; try (with_reducible rfl)
    (simp only [Act.put]); (try simp only [List.setIfInBounds_toArray]); (try simp only [List.set_cons_succ]); (try simp only [List.set_cons_zero])
    refine WpH.takeD 10 (some 4) (v := ?_) rfl rfl (by kernel_rfl) (fun _ _ _ h => h) (.val rfl (fun wz hwz => ?_)) ?_
    rotate_left
    · go_simp; try (with_reducible rfl)
    (simp only [Act.put]); (try simp only [List.setIfInBounds_toArray]); (try simp only [List.set_cons_succ]); (try simp only [List.set_cons_zero])
    refine WpH.doneB (by kernel_rfl) (fun w2 hw2 => ?_)
    (try simp only [List.drop_succ_cons]); (try simp only [List.drop_zero]); (try simp only [Nat.reduceSub]); (try simp only [List.take_succ_cons]); (try simp only [List.take_zero])
    clear s0 s1 s2 s3 s4 s5 s6 s7 s8 s9 s10 s11 s12 r0 r1 r2 r3 r4 r5 r6 r7 r8 r9 r10 r11 r12 v0 v1 v2 v3 v4 v5 v6 v7 v8 v9 v10 v11 v12
    replace hbw := bl_call hbw (Nat.le_refl _) hw2
    replace hs := hs.call hw2
    replace hr := hr.call hw2
    replace hv := hv.call hw2
    obtain ⟨⟨s0, s1, s2, s3, s4, s5⟩, ⟨s6, s7, s8, s9, s10, s11⟩, s12⟩ := hs.get6
    obtain ⟨⟨r0, r1, r2, r3, r4, r5⟩, ⟨r6, r7, r8, r9, r10, r11⟩, r12⟩ := hr.get6
    obtain ⟨⟨v0, v1, v2, v3, v4, v5⟩, ⟨v6, v7, v8, v9, v10, v11⟩, v12⟩ := hv.get6
    go_wp2
    have hS7 : SmS w k f b l m c 5 F w2.drew := ⟨hbw.drew, hs.drew, hr.drew, _, _, _, hv.drew⟩
    obtain ⟨CT, hCT, hCT2⟩ : ∃ CT : Nat, c.tmod 4 = (CT : Int) ∧ (1 : Int) + (CT : Int) = (C : Int) := ⟨(c % 4).toNat, by rw [Int.tmod_eq_emod_of_nonneg hc0]; omega, by omega⟩
    have hwCT : IntKind.i64.wrap (CT : Int) = (CT : Int) := IntWalk.i64_in _ (by omega)
    have hwC : IntKind.i64.wrap (C : Int) = (C : Int) := IntWalk.i64_in _ (by omega)
    have hSH : Clo (fun wz => SmS w k f b l m c 5 F wz ∧ ∃ x3 x5 : Value, Vs wz (w.heap.size + 1 + 1) [.int .u8 5, .int .u8 F, .int .i64 0, x3, .int .i64 0, x5]) := (SmS.clo w k f b l m c 5 F).and fun _ _ h hb => let ⟨y, z, hv⟩ := h; ⟨y, z, hv.call hb⟩
    have hS8 : SmS w k f b l m c 5 F w2.drew ∧ ∃ x3 x5 : Value, Vs w2.drew (w.heap.size + 1 + 1) [.int .u8 5, .int .u8 F, .int .i64 0, x3, .int .i64 0, x5] := ⟨hS7, _, _, hv.drew⟩
    clear s0 s1 s2 s3 s4 s5 s6 s7 s8 s9 s10 s11 s12 r0 r1 r2 r3 r4 r5 r6 r7 r8 r9 r10 r11 r12 v0 v1 v2 v3 v4 v5 v6 v7 v8 v9 v10 v11 v12
    refine region_GS _ hSH hS8 (n := 8) (m := 10) (f := 8) (by kernel_rfl) (by kernel_rfl) rfl ?_
    refine WpG.takeD 0 (some 57) (v := ?_) rfl rfl (by kernel_rfl) (fun _ _ _ h => h) (.val rfl (fun wz hwz => ?_)) ?_
    rotate_left
    · go_simp; try (with_reducible rfl)
    (simp only [Act.put]); (try simp only [List.setIfInBounds_toArray]); (try simp only [List.set_cons_succ]); (try simp only [List.set_cons_zero])
    refine WpG.takeD 1 (some 58) (v := ?_) rfl rfl (by kernel_rfl) (fun _ _ _ h => h) (.val rfl (fun wz hwz => ?_)) ?_
    rotate_left
    · go_simp; try (with_reducible rfl)
    (simp only [Act.put]); (try simp only [List.setIfInBounds_toArray]); (try simp only [List.set_cons_succ]); (try simp only [List.set_cons_zero])
    refine WpG.takeD 2 (some 59) (v := ?_) rfl rfl (by kernel_rfl) (fun _ _ _ h => h) (.val rfl (fun wz hwz => ?_)) ?_
    rotate_left
    · (obtain ⟨⟨_, hsz, _, _⟩, _⟩ := hwz; obtain ⟨⟨s0, s1, s2, s3, s4, s5⟩, _, s12⟩ := hsz.get6; go_simp; try (with_reducible rfl))
    (simp only [Act.put]); (try simp only [List.setIfInBounds_toArray]); (try simp only [List.set_cons_succ]); (try simp only [List.set_cons_zero])
    refine WpG.takeD 3 (some 60) (v := ?_) rfl rfl (by kernel_rfl) (fun _ _ _ h => h) (.val rfl (fun wz hwz => ?_)) ?_
    rotate_left
    · go_simp; try (with_reducible rfl)
    (simp only [Act.put]); (try simp only [List.setIfInBounds_toArray]); (try simp only [List.set_cons_succ]); (try simp only [List.set_cons_zero])
    refine WpG.takeD 4 (some 61) (v := ?_) rfl rfl (by kernel_rfl) (fun _ _ _ h => h) (.val rfl (fun wz hwz => ?_)) ?_
    rotate_left
    · go_simp; try (with_reducible rfl)
    (simp only [Act.put]); (try simp only [List.setIfInBounds_toArray]); (try simp only [List.set_cons_succ]); (try simp only [List.set_cons_zero])
    refine WpG.takeD 5 (some 62) (v := ?_) rfl rfl (by kernel_rfl) (fun _ _ _ h => h) (.val rfl (fun wz hwz => ?_)) ?_
    rotate_left
    · go_simp; try (with_reducible rfl)
    (simp only [Act.put]); (try simp only [List.setIfInBounds_toArray]); (try simp only [List.set_cons_succ]); (try simp only [List.set_cons_zero])
    refine WpG.takeD 6 (some 63) (v := ?_) rfl rfl (by kernel_rfl) (fun _ _ _ h => h) (.val rfl (fun wz hwz => ?_)) ?_
    rotate_left
    · go_simp; try (with_reducible rfl)
    (simp only [Act.put]); (try simp only [List.setIfInBounds_toArray]); (try simp only [List.set_cons_succ]); (try simp only [List.set_cons_zero])
    refine WpG.oneSkip 7 none rfl rfl (by kernel_rfl) (fun wz => ∃ x5 : Value, Vs wz (w.heap.size + 1 + 1) [.int .u8 5, .int .u8 F, .int .i64 0, .int .i64 L, .int .i64 0, x5]) (fun _ _ h hb => let ⟨z, hv⟩ := h; ⟨z, hv.call hb⟩) rfl (fun wz hwz => ?_) ?_
    · obtain ⟨⟨hbz, hsz, hrz, _⟩, x3, x5, hvz⟩ := hwz; obtain ⟨⟨v0, v1, v2, v3, v4, v5⟩, ⟨v6, v7, v8, v9, v10, v11⟩, v12⟩ := hvz.get6; exact ⟨wz.setCell ⟨w.heap.size + 1 + 1, 3, none⟩ (.int .i64 L), by go_simp; try (with_reducible rfl), ⟨⟨bl_set hbz (by dsimp only; omega) _, hsz.far (by simp; omega) _, hrz.far (by simp) _, _, _, _, hvz.put 3 (by simp) _⟩, _, _, hvz.put 3 (by simp) _⟩, _, hvz.put 3 (by simp) _⟩
    (simp only [Act.put]); (try simp only [List.setIfInBounds_toArray]); (try simp only [List.set_cons_succ]); (try simp only [List.set_cons_zero])
    refine WpG.done (by kernel_rfl) (fun w5 hS => ?_)
    (try simp only [List.drop_succ_cons]); (try simp only [List.drop_zero]); (try simp only [Nat.reduceSub]); (try simp only [List.take_succ_cons]); (try simp only [List.take_zero])
    obtain ⟨⟨⟨hb5, hs5, hr5, _⟩, _⟩, x5, hv5⟩ := hS
    have hrr := (hr5.far (p := ⟨w.heap.size + 1 + 1, 5, none⟩) (by simp) (.int .i64 C)).far (p := ⟨w.heap.size + 1 + 1, 4, none⟩) (by simp) (.int .i64 M)
    have hbw2 := bl_set (p := ⟨w.heap.size + 1 + 1, 4, none⟩) (bl_set (p := ⟨w.heap.size + 1 + 1, 5, none⟩) hb5 (by simp; omega) (.int .i64 C)) (by simp; omega) (.int .i64 M)
    clear hs hr hv hbw hS7 hw2 hS8
    obtain ⟨⟨v0, v1, v2, v3, v4, v5⟩, ⟨v6, v7, v8, v9, v10, v11⟩, v12⟩ := hv5.get6
    obtain ⟨⟨r0, r1, r2, r3, r4, r5⟩, ⟨r6, r7, r8, r9, r10, r11⟩, r12⟩ := hr5.get6
    obtain ⟨⟨s0, s1, s2, s3, s4, s5⟩, ⟨s6, s7, s8, s9, s10, s11⟩, s12⟩ := hs5.get6
    go_wp2
    have hres := Vs.set6 hrr (.int .u8 5) (.int .u8 F) (.int .i64 0) (.int .i64 L) (.int .i64 M) (.int .i64 C)
    have hble : w.heap.size ≤ w.heap.size + 1 := by omega
    have hbr := bl_set (p := ⟨w.heap.size + 1, 5, none⟩) (bl_set (p := ⟨w.heap.size + 1, 4, none⟩) (bl_set (p := ⟨w.heap.size + 1, 3, none⟩) (bl_set (p := ⟨w.heap.size + 1, 2, none⟩) (bl_set (p := ⟨w.heap.size + 1, 1, none⟩) (bl_set (p := ⟨w.heap.size + 1, 0, none⟩) hbw2 hble (.int .u8 5)) hble (.int .u8 F)) hble (.int .i64 0)) hble (.int .i64 L)) hble (.int .i64 M)) hble (.int .i64 C)
    exact bodyPost_ret (results_cir hres rfl rfl) rfl ⟨rfl, hbr⟩

end Go.Proofs.Ytiphahbeedeebaa

namespace Go.Proofs.Ytiphahbeedeebaa
open Go.RowKit Fm
set_option linter.unusedVariables false
set_option maxRecDepth 100000

/-- a circuit's six numbers, whatever they are -/
structure Raw where
  k : Int
  f : Int
  b : Int
  l : Int
  m : Int
  c : Int
def Raw.val (x : Raw) : Value := .agg #[.int .u8 x.k, .int .u8 x.f, .int .i64 x.b, .int .i64 x.l, .int .i64 x.m, .int .i64 x.c]
def Raw.rval (x : Raw) : Value := .agg #[.int .i64 x.k, .int .i64 x.f, .int .i64 x.b, .int .i64 x.l, .int .i64 x.m, .int .i64 x.c]
/-- it is this circuit in range -/
structure Raw.Is (x : Raw) (F : Nat) (y : CK) : Prop where
  fld : IsF F
  ok : y.ok
  calls : ¬ 511 < y.calls
  val : x.val = y.val F
  rval : x.rval = y.rval F

theorem raw_checks (x : Raw) : ∃ n : Int, (n = 0 ∨ n = 5 ∨ n = 6 ∨ n = 7 ∨ n = 10) ∧ (∀ w, Calls Try.prog 59 #[x.val] w (RetC n w)) ∧ (∀ w, Calls Try.prog 49 #[x.rval] w (RetC n w)) ∧
    (n = 0 → ∃ F y, x.Is F y) := by
  obtain ⟨k, f, b, l, m, c⟩ := x
  by_cases hf : (f == 1 || f == 2) = true
  · obtain ⟨F, hF, rfl⟩ : ∃ F : Nat, IsF F ∧ f = (F : Int) := by
      rw [Bool.or_eq_true, beq_iff_eq, beq_iff_eq] at hf
      rcases hf with rfl | rfl
      · exact ⟨1, isF1, rfl⟩
      · exact ⟨2, isF2, rfl⟩
    by_cases hk : 1 ≤ k ∧ k ≤ 5
    · cases hr : rangeB k b l m c
      · exact ⟨6, by omega, fun w => circuit_Check_range hF k b l m c hk hr w, fun w => ref9_Check_range hF k b l m c hk hr w, fun h => by omega⟩
      · obtain ⟨y, hy, rfl, rfl, rfl, rfl, rfl⟩ := cir_range hk hr
        by_cases hc : 511 < y.calls
        · refine ⟨5, by omega, fun w => ?_, fun w => ?_, fun h => by omega⟩
          · have h := circuit_Check_ok hF y hy w
            rwa [CK.code_no hc] at h
          · have h := ref9_Check_ok hF y hy w
            rwa [CK.code_no hc] at h
        · refine ⟨0, by omega, fun w => ?_, fun w => ?_, fun _ => ⟨F, y, hF, hy, hc, rfl, rfl⟩⟩
          · have h := circuit_Check_ok hF y hy w
            rwa [CK.code_ok hc] at h
          · have h := ref9_Check_ok hF y hy w
            rwa [CK.code_ok hc] at h
    · exact ⟨10, by omega, fun w => circuit_Check_kind hF k b l m c (by omega) w, fun w => ref9_Check_kind hF k b l m c (by omega) w, fun h => by omega⟩
  · have hf' : (f == 1 || f == 2) = false := by simpa using hf
    exact ⟨7, by omega, fun w => circuit_Check_field k f b l m c hf' w, fun w => ref9_Check_field k f b l m c hf' w, fun h => by omega⟩

end Go.Proofs.Ytiphahbeedeebaa

namespace Go.Proofs.Ytiphahbeedeebaa
open Go.RowKit Go.Joins Go.ChangeShapes Go.WideShapes Go.Deep
set_option linter.unusedVariables false
set_option maxRecDepth 100000

section
variable {H : Type} {enc : TypeId × Value → H} {P : Program} {W : World} {base : Nat} {sp : Nat → Bool} {hd : Bool}
theorem open_fields {r : Reach} {b0 : Nat} {t : TypeId} {fs : Array Field} {v : Value} {d : DataW H} {ps : List MemPlace} (hs : P.underlying t = some (.struct fs)) (hone : oneCellFields P fs = true) (hC : P.cellsOf t = fs.size)
    (hval : Value.okWide P W r b0 t v) (h : DataW.Trod enc P W base sp hd t v d ps) :
    ∃ cs : List Value, v = .agg cs.toArray ∧ cs.length = fs.size ∧ ∀ (j : Nat) (f : Field), fs[j]? = some f → ∃ (x : Value) (y : DataW H × List MemPlace) (n : Nat), cs[j]? = some x ∧ DataW.trod enc P W base sp hd n f.type [x] = some y := by
  obtain ⟨cs, rfl, hsz⟩ := okWide_struct hs hval
  obtain ⟨l⟩ := cs
  have hl : l.length = fs.size := hsz.trans hC
  obtain ⟨fuel, hf⟩ := h
  obtain ⟨ys, n, _, _, _, hyl, hg⟩ := DataW.trod_struct hs hf
  refine ⟨l, rfl, hl, fun j f hj => ?_⟩
  obtain ⟨ho, hk⟩ := hone_of hone j f hj
  have hjl : j < fs.size := (Array.getElem?_eq_some_iff.1 hj).1
  have h1 := hg j f hj
  rw [ho, hk] at h1
  have hone' : (l.drop j).take 1 = [l[j]'(by omega)] := by
    rw [List.drop_eq_getElem_cons (by omega)]
    rfl
  have h2 : DataW.trod enc P W base sp hd n f.type [l[j]'(by omega)] = ys[j]? := by
    rw [← hone']
    exact h1
  have hys : ys[j]? = some (ys[j]'(by omega)) := List.getElem?_eq_getElem (by omega)
  exact ⟨_, _, n, List.getElem?_eq_getElem (by omega), h2.trans hys⟩
end

section
variable {H : Type} {enc : TypeId × Value → H} {W : World} {base : Nat} {sp : Nat → Bool} {hd : Bool}
theorem wf8 {n : Int} (h : (Lit.int .u8 n).wf = true) : 0 ≤ n ∧ n ≤ 255 := by
  simpa [Lit.wf, IntKind.min, IntKind.max, IntKind.signed, IntKind.bits] using h

theorem open_cir {r : Reach} {b0 : Nat} {v : Value} {d : DataW H} {ps : List MemPlace} (hval : Value.okWide Try.prog W r b0 60 v) (h : DataW.Trod enc Try.prog W base sp hd 60 v d ps) :
    ∃ x : Raw, v = x.val ∧ (0 ≤ x.k ∧ x.k ≤ 255) ∧ (0 ≤ x.f ∧ x.f ≤ 255) ∧ (Lit.int .i64 x.b).wf = true ∧ (Lit.int .i64 x.l).wf = true ∧ (Lit.int .i64 x.m).wf = true ∧ (Lit.int .i64 x.c).wf = true := by
  obtain ⟨cs, rfl, hlen, hg⟩ := open_fields Try.underlying60 (by kernel_rfl) (by kernel_rfl) hval h
  obtain ⟨x0, y0, n0, e0, t0⟩ := hg 0 _ rfl
  obtain ⟨x1, y1, n1, e1, t1⟩ := hg 1 _ rfl
  obtain ⟨x2, y2, n2, e2, t2⟩ := hg 2 _ rfl
  obtain ⟨x3, y3, n3, e3, t3⟩ := hg 3 _ rfl
  obtain ⟨x4, y4, n4, e4, t4⟩ := hg 4 _ rfl
  obtain ⟨x5, y5, n5, e5, t5⟩ := hg 5 _ rfl
  obtain ⟨k, ek, _, wk⟩ := DataW.trod_int Try.underlying58 t0
  obtain ⟨f, ef, _, wf⟩ := DataW.trod_int Try.underlying24 t1
  obtain ⟨b, eb, _, wb⟩ := DataW.trod_int Try.underlying3 t2
  obtain ⟨l, el, _, wl⟩ := DataW.trod_int Try.underlying3 t3
  obtain ⟨m, em, _, wm⟩ := DataW.trod_int Try.underlying3 t4
  obtain ⟨c, ec, _, wc⟩ := DataW.trod_int Try.underlying3 t5
  simp only [List.cons.injEq, and_true] at ek ef eb el em ec
  subst ek ef eb el em ec
  match cs, hlen with
  | [a0, a1, a2, a3, a4, a5], _ =>
    simp at e0 e1 e2 e3 e4 e5
    subst e0 e1 e2 e3 e4 e5
    exact ⟨⟨k, f, b, l, m, c⟩, rfl, wf8 wk, wf8 wf, wb, wl, wm, wc⟩

theorem open_small10 {r : Reach} {b0 : Nat} {v : Value} {d : DataW H} {ps : List MemPlace} (hval : Value.okWide Try.prog W r b0 62 v) (h : DataW.Trod enc Try.prog W base sp hd 62 v d ps) :
    ∃ k f b l m c : Int, v = .agg #[.int .u8 k, .int .u8 f, .int .u8 b, .int .u8 l, .int .u8 m, .int .u8 c] ∧ (0 ≤ k ∧ k ≤ 255) ∧ (0 ≤ f ∧ f ≤ 255) ∧ (0 ≤ b ∧ b ≤ 255) ∧ (0 ≤ l ∧ l ≤ 255) ∧ (0 ≤ m ∧ m ≤ 255) ∧ (0 ≤ c ∧ c ≤ 255) := by
  obtain ⟨cs, rfl, hlen, hg⟩ := open_fields Try.underlying62 (by kernel_rfl) (by kernel_rfl) hval h
  obtain ⟨x0, y0, n0, e0, t0⟩ := hg 0 _ rfl
  obtain ⟨x1, y1, n1, e1, t1⟩ := hg 1 _ rfl
  obtain ⟨x2, y2, n2, e2, t2⟩ := hg 2 _ rfl
  obtain ⟨x3, y3, n3, e3, t3⟩ := hg 3 _ rfl
  obtain ⟨x4, y4, n4, e4, t4⟩ := hg 4 _ rfl
  obtain ⟨x5, y5, n5, e5, t5⟩ := hg 5 _ rfl
  obtain ⟨k, ek, _, wk⟩ := DataW.trod_int Try.underlying5 t0
  obtain ⟨f, ef, _, wf⟩ := DataW.trod_int Try.underlying5 t1
  obtain ⟨b, eb, _, wb⟩ := DataW.trod_int Try.underlying5 t2
  obtain ⟨l, el, _, wl⟩ := DataW.trod_int Try.underlying5 t3
  obtain ⟨m, em, _, wm⟩ := DataW.trod_int Try.underlying5 t4
  obtain ⟨c, ec, _, wc⟩ := DataW.trod_int Try.underlying5 t5
  simp only [List.cons.injEq, and_true] at ek ef eb el em ec
  subst ek ef eb el em ec
  match cs, hlen with
  | [a0, a1, a2, a3, a4, a5], _ =>
    simp at e0 e1 e2 e3 e4 e5
    subst e0 e1 e2 e3 e4 e5
    exact ⟨k, f, b, l, m, c, rfl, wf8 wk, wf8 wf, wf8 wb, wf8 wl, wf8 wm, wf8 wc⟩
end

end Go.Proofs.Ytiphahbeedeebaa

namespace Go.Proofs.Ytiphahbeedeebaa
open Go.RowKit Fm
set_option linter.unusedVariables false
set_option maxRecDepth 100000

/-- what is known of a circuit whose check says n -/
structure Raw.Said (x : Raw) (n : Int) : Prop where
  chk : ∀ w, Calls Try.prog 49 #[x.rval] w (RetC n w)
  own : ∀ w, Calls Try.prog 59 #[x.val] w (RetC n w)
  is : n = 0 → ∃ F y, x.Is F y
  k0 : 0 ≤ x.k
  k1 : x.k ≤ 255
  f0 : 0 ≤ x.f
  f1 : x.f ≤ 255

/-- a circuit in range, as six numbers -/
def CK.raw (y : CK) (F : Nat) : Raw := ⟨y.k, F, y.b, y.l, y.m, y.c⟩
theorem CK.raw_is {y : CK} {F : Nat} (hF : IsF F) (hy : y.ok) (hc : ¬ 511 < y.calls) : (y.raw F).Is F y := ⟨hF, hy, hc, rfl, rfl⟩
theorem CK.k_le (y : CK) : 1 ≤ y.k ∧ y.k ≤ 5 := by cases y <;> exact ⟨Nat.le_of_ble_eq_true rfl, Nat.le_of_ble_eq_true rfl⟩
theorem CK.raw_said {y : CK} {F : Nat} (hF : IsF F) (hy : y.ok) (hc : ¬ 511 < y.calls) : (y.raw F).Said 0 := by
  have hk := y.k_le
  have hf : F = 1 ∨ F = 2 := hF.or
  refine ⟨fun w => ?_, fun w => ?_, fun _ => ⟨F, y, CK.raw_is hF hy hc⟩, ?_, ?_, ?_, ?_⟩
  · have h := ref9_Check_ok hF y hy w
    rwa [CK.code_ok hc] at h
  · have h := circuit_Check_ok hF y hy w
    rwa [CK.code_ok hc] at h
  · show (0 : Int) ≤ ((y.k : Nat) : Int); omega
  · show ((y.k : Nat) : Int) ≤ 255; omega
  · show (0 : Int) ≤ ((F : Nat) : Int); omega
  · show ((F : Nat) : Int) ≤ 255; omega

end Go.Proofs.Ytiphahbeedeebaa
