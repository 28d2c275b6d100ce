/-
 Small10, Both, RefV, RunM, Exc, Said, Run: what the statements of this layer share.
-/
import Derived.Test.YtfbfbijkkbflkaaGreatDoorMan
namespace Go.Proofs.YtfbfbijkkbflkaaGreatDoor
open Go.RowKit Fm
set_option linter.unusedVariables false
set_option maxRecDepth 100000

structure CK.small (y : CK) : Prop where
 ok : y.ok
 nin : y.nin ≤ 12
 calls : ¬ 511 < y.calls

theorem CK.calls_le {y : CK} (h : y.ok) : y.calls ≤ y.nin := by
 cases y with
 | count => exact Nat.le_refl _
 | sum b => exact Nat.le_refl _
 | vec b l c => exact ceil_le h.2.2.1
 | hist l c => exact ceil_le h.2.1
 | multi l m c => exact ceil_le h.2.2.1
theorem CK.small_of {y : CK} (h : y.ok) (hn : y.nin ≤ 12) : y.small := ⟨h, hn, by have := CK.calls_le h; omega⟩

theorem bitLen_5 : ∀ m : Nat, m ≤ 5 → Lib.bitLen m ≤ 3 := by decide +kernel

theorem Vs.set6 {w : World} {b : Nat} {p q r s t u : Value} (h : Vs w b [p, q, r, s, t, u]) (x0 x1 x2 x3 x4 x5 : Value) :
  Vs ((((((w.setCell ⟨b, 0, none⟩ x0).setCell ⟨b, 1, none⟩ x1).setCell ⟨b, 2, none⟩ x2).setCell ⟨b, 3, none⟩ x3).setCell ⟨b, 4, none⟩ x4).setCell ⟨b, 5, none⟩ x5) b [x0, x1, x2, x3, x4, x5] :=
 (((((h.put 0 (by simp) x0).put 1 (by simp) x1).put 2 (by simp) x2).put 3 (by simp) x3).put 4 (by simp) x4).put 5 (by simp) x5

def SmS (w : World) (k f b l m c K F : Int) (wz : World) : Prop :=
 Below w.heap.size w wz ∧ Vs wz w.heap.size [.int .u8 k, .int .u8 f, .int .u8 b, .int .u8 l, .int .u8 m, .int .u8 c] ∧ Vs wz (w.heap.size + 1) [.int .u8 0, .int .u8 0, .int .i64 0, .int .i64 0, .int .i64 0, .int .i64 0] ∧
  ∃ x2 x3 x5 : Value, Vs wz (w.heap.size + 1 + 1) [.int .u8 K, .int .u8 F, x2, x3, .int .i64 0, x5]
theorem SmS.clo (w : World) (k f b l m c K F : Int) : Clo (SmS w k f b l m c K F) :=
 fun _ _ h hb => ⟨bl_call h.1 (Nat.le_refl _) hb, h.2.1.call hb, h.2.2.1.call hb, let ⟨x, y, z, hv⟩ := h.2.2.2; ⟨x, y, z, hv.call hb⟩⟩

set_option maxHeartbeats 4000000 in
theorem law10_Circuit (k f b l m c : Int) (hk0 : 0 ≤ k) (hk1 : k ≤ 255) (hf0 : 0 ≤ f) (hf1 : f ≤ 255) (hb0 : 0 ≤ b) (hb1 : b ≤ 255) (hl0 : 0 ≤ l) (hl1 : l ≤ 255) (hm0 : 0 ≤ m) (hm1 : m ≤ 255) (hc0 : 0 ≤ c) (hc1 : c ≤ 255) :
  ∃ (F : Nat) (y : CK), IsF F ∧ y.small ∧ ∀ w, Calls Tryz.prog 11 #[.agg #[.int .u8 k, .int .u8 f, .int .u8 b, .int .u8 l, .int .u8 m, .int .u8 c]] w fun e w' => e = .returned (y.val F) ∧ Below w.heap.size w w' := by
 obtain ⟨F, hF, hF0⟩ : ∃ F : Nat, IsF F ∧ 1 + f % 2 = (F : Int) := by
  have h : f % 2 = 0 ∨ f % 2 = 1 := by omega
  rcases h with h | h
  ·exact ⟨1, isF1, by omega⟩
  ·exact ⟨2, isF2, by omega⟩
 have hF' : f % 2 + 1 = (F : Int) := by omega
 obtain ⟨B, hB, hB1, hB4⟩ : ∃ B : Nat, 1 + b % 4 = (B : Int) ∧ 1 ≤ B ∧ B ≤ 4 := ⟨(1 + b % 4).toNat, by omega, by omega, by omega⟩
 obtain ⟨L, hL, hL1, hL5⟩ : ∃ L : Nat, 1 + l % 5 = (L : Int) ∧ 1 ≤ L ∧ L ≤ 5 := ⟨(1 + l % 5).toNat, by omega, by omega, by omega⟩
 obtain ⟨C, hC, hC1, hC4⟩ : ∃ C : Nat, 1 + c % 4 = (C : Int) ∧ 1 ≤ C ∧ C ≤ 4 := ⟨(1 + c % 4).toNat, by omega, by omega, by omega⟩
 have hB' : b % 4 + 1 = (B : Int) := by omega
 have hL' : l % 5 + 1 = (L : Int) := by omega
 have hC' : c % 4 + 1 = (C : Int) := by omega
 obtain ⟨LT, hLT, hLT2⟩ : ∃ LT : Nat, l.tmod 5 = (LT : Int) ∧ (1 : Int) + (LT : Int) = (L : Int) := ⟨(l % 5).toNat, by rw [Int.tmod_eq_emod_of_nonneg hl0]; omega, by omega⟩
 obtain ⟨BT, hBT, hBT2⟩ : ∃ BT : Nat, b.tmod 4 = (BT : Int) ∧ (1 : Int) + (BT : Int) = (B : Int) := ⟨(b % 4).toNat, by rw [Int.tmod_eq_emod_of_nonneg hb0]; omega, by omega⟩
 have hwL : IntKind.i64.wrap (L : Int) = (L : Int) := IntWalk.i64_in _ (by omega)
 have hwB : IntKind.i64.wrap (B : Int) = (B : Int) := IntWalk.i64_in _ (by omega)
 have hwLT : IntKind.i64.wrap (LT : Int) = (LT : Int) := IntWalk.i64_in _ (by omega)
 have hwBT : IntKind.i64.wrap (BT : Int) = (BT : Int) := IntWalk.i64_in _ (by omega)
 have hk5 : k % 5 = 0 ∨ k % 5 = 1 ∨ k % 5 = 2 ∨ k % 5 = 3 ∨ k % 5 = 4 := by omega
 rcases hk5 with hk | hk | hk | hk | hk
 ·refine ⟨F, .count, hF, CK.small_of trivial (by show 1 ≤ 12; omega), fun w => ?_⟩
  rw [val_count]
  go_enter Tryz.func11, Tryz.ntmps11
  go_upto_region 2 with fail
  have hs := ((Vs.new w [.int .u8 k, .int .u8 f, .int .u8 b, .int .u8 l, .int .u8 m, .int .u8 c] #[.int .u8 k, .int .u8 f, .int .u8 b, .int .u8 l, .int .u8 m, .int .u8 c] 23 rfl).alloc (.cells #[.int .u8 0, .int .u8 0, .int .i64 0, .int .i64 0, .int .i64 0, .int .i64 0] 30)).alloc (.cells #[.int .u8 1, .int .u8 F, .int .i64 0, .int .i64 0, .int .i64 0, .int .i64 0] 30)
  have hr := (Vs.new (w.alloc (.cells #[.int .u8 k, .int .u8 f, .int .u8 b, .int .u8 l, .int .u8 m, .int .u8 c] 23)) [.int .u8 0, .int .u8 0, .int .i64 0, .int .i64 0, .int .i64 0, .int .i64 0] #[.int .u8 0, .int .u8 0, .int .i64 0, .int .i64 0, .int .i64 0, .int .i64 0] 30 rfl).alloc (.cells #[.int .u8 1, .int .u8 F, .int .i64 0, .int .i64 0, .int .i64 0, .int .i64 0] 30)
  have hv := Vs.new ((w.alloc (.cells #[.int .u8 k, .int .u8 f, .int .u8 b, .int .u8 l, .int .u8 m, .int .u8 c] 23)).alloc (.cells #[.int .u8 0, .int .u8 0, .int .i64 0, .int .i64 0, .int .i64 0, .int .i64 0] 30)) [.int .u8 1, .int .u8 F, .int .i64 0, .int .i64 0, .int .i64 0, .int .i64 0] #[.int .u8 1, .int .u8 F, .int .i64 0, .int .i64 0, .int .i64 0, .int .i64 0] 30 rfl
  simp only [World.size_alloc] at hr hv
  have hbw : Below w.heap.size w (((w.alloc (.cells #[.int .u8 k, .int .u8 f, .int .u8 b, .int .u8 l, .int .u8 m, .int .u8 c] 23)).alloc (.cells #[.int .u8 0, .int .u8 0, .int .i64 0, .int .i64 0, .int .i64 0, .int .i64 0] 30)).alloc (.cells #[.int .u8 1, .int .u8 F, .int .i64 0, .int .i64 0, .int .i64 0, .int .i64 0] 30)) := by repeat (first | exact bA | with_reducible assumption | apply bB | (refine bC ?_ (by dsimp only; omega)) | apply bD | apply bE | (refine bF ?_ (by assumption)))
  generalize ((w.alloc (.cells #[.int .u8 k, .int .u8 f, .int .u8 b, .int .u8 l, .int .u8 m, .int .u8 c] 23)).alloc (.cells #[.int .u8 0, .int .u8 0, .int .i64 0, .int .i64 0, .int .i64 0, .int .i64 0] 30)).alloc (.cells #[.int .u8 1, .int .u8 F, .int .i64 0, .int .i64 0, .int .i64 0, .int .i64 0] 30) = w1 at hs hr hv hbw ⊢
  obtain ⟨⟨s0, s1, s2, s3, s4, s5⟩, ⟨s6, s7, s8, s9, s10, s11⟩, s12⟩ := hs.get6
  obtain ⟨⟨r0, r1, r2, r3, r4, r5⟩, ⟨r6, r7, r8, r9, r10, r11⟩, r12⟩ := hr.get6
  obtain ⟨⟨v0, v1, v2, v3, v4, v5⟩, ⟨v6, v7, v8, v9, v10, v11⟩, v12⟩ := hv.get6
  refine region_B (n := 11) (m := 12) (f := 11) (by kernel_rfl) (by kernel_rfl) rfl ?_
  refine WpH.vD 0 (some 15) ?_ rfl rfl (by kernel_rfl) (fun _ _ _ h => h) rfl (fun wz hwz => ?_) ?_
  rotate_left
  ·go_simp; try (with_reducible rfl)
  simp only [Zp, Zq, Zr, Zs]
  refine WpH.vD 1 (some 16) ?_ rfl rfl (by kernel_rfl) (fun _ _ _ h => h) rfl (fun wz hwz => ?_) ?_
  rotate_left
  ·(obtain ⟨hcz, hfz⟩ := bcell hwz; go_simp; try (with_reducible rfl))
  simp only [Zp, Zq, Zr, Zs]
  refine WpH.vD 2 (some 17) ?_ rfl rfl (by kernel_rfl) (fun _ _ _ h => h) rfl (fun wz hwz => ?_) ?_
  rotate_left
  ·go_simp; try (with_reducible rfl)
  simp only [Zp, Zq, Zr, Zs]
  refine WpH.vD 3 (some 18) ?_ rfl rfl (by kernel_rfl) (fun _ _ _ h => h) rfl (fun wz hwz => ?_) ?_
  rotate_left
  ·go_simp; try (with_reducible rfl)
  simp only [Zp, Zq, Zr, Zs]
  refine WpH.vD 4 (some 19) ?_ rfl rfl (by kernel_rfl) (fun _ _ _ h => h) rfl (fun wz hwz => ?_) ?_
  rotate_left
  ·go_simp; try (with_reducible rfl)
  simp only [Zp, Zq, Zr, Zs]
  refine WpH.vD 5 (some 20) ?_ rfl rfl (by kernel_rfl) (fun _ _ _ h => h) rfl (fun wz hwz => ?_) ?_
  rotate_left
  ·go_simp; try (with_reducible rfl)
  simp only [Zp, Zq, Zr, Zs]
  refine WpH.vD 6 (some 21) ?_ rfl rfl (by kernel_rfl) (fun _ _ _ h => h) rfl (fun wz hwz => ?_) ?_
  rotate_left
  ·(obtain ⟨hcz, hfz⟩ := bcell hwz; go_simp; try (with_reducible rfl))
  simp only [Zp, Zq, Zr, Zs]
  refine WpH.vD 7 (some 22) ?_ rfl rfl (by kernel_rfl) (fun _ _ _ h => h) rfl (fun wz hwz => ?_) ?_
  rotate_left
  ·go_simp; try (with_reducible rfl)
  simp only [Zp, Zq, Zr, Zs]
  refine WpH.vD 8 (some 23) ?_ rfl rfl (by kernel_rfl) (fun _ _ _ h => h) rfl (fun wz hwz => ?_) ?_
  rotate_left
  ·go_simp; try (with_reducible rfl)
  simp only [Zp, Zq, Zr, Zs]
  refine WpH.vD 9 (some 24) ?_ rfl rfl (by kernel_rfl) (fun _ _ _ h => h) rfl (fun wz hwz => ?_) ?_
  rotate_left
  ·go_simp; try (with_reducible rfl)
  simp only [Zp, Zq, Zr, Zs]
  refine WpH.vD 10 (some 4) ?_ rfl rfl (by kernel_rfl) (fun _ _ _ h => h) rfl (fun wz hwz => ?_) ?_
  rotate_left
  ·go_simp; try (with_reducible rfl)
  simp only [Zp, Zq, Zr, Zs]
  refine WpH.doneB (by kernel_rfl) (fun w2 hw2 => ?_)
  (try simp only [List.drop_succ_cons]); (try simp only [List.drop_zero]); (try simp only [Nat.reduceSub]); (try simp only [List.take_succ_cons]); (try simp only [List.take_zero])
  clear s0 s1 s2 s3 s4 s5 s6 s7 s8 s9 s10 s11 s12 r0 r1 r2 r3 r4 r5 r6 r7 r8 r9 r10 r11 r12 v0 v1 v2 v3 v4 v5 v6 v7 v8 v9 v10 v11 v12
  replace hbw := bl_call hbw (Nat.le_refl _) hw2
  replace hs := hs.call hw2
  replace hr := hr.call hw2
  replace hv := hv.call hw2
  obtain ⟨⟨s0, s1, s2, s3, s4, s5⟩, ⟨s6, s7, s8, s9, s10, s11⟩, s12⟩ := hs.get6
  obtain ⟨⟨r0, r1, r2, r3, r4, r5⟩, ⟨r6, r7, r8, r9, r10, r11⟩, r12⟩ := hr.get6
  obtain ⟨⟨v0, v1, v2, v3, v4, v5⟩, ⟨v6, v7, v8, v9, v10, v11⟩, v12⟩ := hv.get6
  go_wp2
  have hres := Vs.set6 hr (.int .u8 1) (.int .u8 F) (.int .i64 0) (.int .i64 0) (.int .i64 0) (.int .i64 0)
  have hble : w.heap.size ≤ w.heap.size + 1 := by omega
  have hbr := bl_set (p := ⟨w.heap.size + 1, 5, none⟩) (bl_set (p := ⟨w.heap.size + 1, 4, none⟩) (bl_set (p := ⟨w.heap.size + 1, 3, none⟩) (bl_set (p := ⟨w.heap.size + 1, 2, none⟩) (bl_set (p := ⟨w.heap.size + 1, 1, none⟩) (bl_set (p := ⟨w.heap.size + 1, 0, none⟩) hbw hble (.int .u8 1)) hble (.int .u8 F)) hble (.int .i64 0)) hble (.int .i64 0)) hble (.int .i64 0)) hble (.int .i64 0)
  exact bodyPost_ret (results_cir hres rfl rfl) rfl ⟨rfl, hbr⟩
 ·refine ⟨F, .sum B, hF, CK.small_of ⟨hB1, by omega⟩ (by show B ≤ 12; omega), fun w => ?_⟩
  rw [val_sum]
  go_enter Tryz.func11, Tryz.ntmps11
  go_upto_region 2 with fail
  have hs := ((Vs.new w [.int .u8 k, .int .u8 f, .int .u8 b, .int .u8 l, .int .u8 m, .int .u8 c] #[.int .u8 k, .int .u8 f, .int .u8 b, .int .u8 l, .int .u8 m, .int .u8 c] 23 rfl).alloc (.cells #[.int .u8 0, .int .u8 0, .int .i64 0, .int .i64 0, .int .i64 0, .int .i64 0] 30)).alloc (.cells #[.int .u8 2, .int .u8 F, .int .i64 0, .int .i64 0, .int .i64 0, .int .i64 0] 30)
  have hr := (Vs.new (w.alloc (.cells #[.int .u8 k, .int .u8 f, .int .u8 b, .int .u8 l, .int .u8 m, .int .u8 c] 23)) [.int .u8 0, .int .u8 0, .int .i64 0, .int .i64 0, .int .i64 0, .int .i64 0] #[.int .u8 0, .int .u8 0, .int .i64 0, .int .i64 0, .int .i64 0, .int .i64 0] 30 rfl).alloc (.cells #[.int .u8 2, .int .u8 F, .int .i64 0, .int .i64 0, .int .i64 0, .int .i64 0] 30)
  have hv := Vs.new ((w.alloc (.cells #[.int .u8 k, .int .u8 f, .int .u8 b, .int .u8 l, .int .u8 m, .int .u8 c] 23)).alloc (.cells #[.int .u8 0, .int .u8 0, .int .i64 0, .int .i64 0, .int .i64 0, .int .i64 0] 30)) [.int .u8 2, .int .u8 F, .int .i64 0, .int .i64 0, .int .i64 0, .int .i64 0] #[.int .u8 2, .int .u8 F, .int .i64 0, .int .i64 0, .int .i64 0, .int .i64 0] 30 rfl
  simp only [World.size_alloc] at hr hv
  have hbw : Below w.heap.size w (((w.alloc (.cells #[.int .u8 k, .int .u8 f, .int .u8 b, .int .u8 l, .int .u8 m, .int .u8 c] 23)).alloc (.cells #[.int .u8 0, .int .u8 0, .int .i64 0, .int .i64 0, .int .i64 0, .int .i64 0] 30)).alloc (.cells #[.int .u8 2, .int .u8 F, .int .i64 0, .int .i64 0, .int .i64 0, .int .i64 0] 30)) := by repeat (first | exact bA | with_reducible assumption | apply bB | (refine bC ?_ (by dsimp only; omega)) | apply bD | apply bE | (refine bF ?_ (by assumption)))
  generalize ((w.alloc (.cells #[.int .u8 k, .int .u8 f, .int .u8 b, .int .u8 l, .int .u8 m, .int .u8 c] 23)).alloc (.cells #[.int .u8 0, .int .u8 0, .int .i64 0, .int .i64 0, .int .i64 0, .int .i64 0] 30)).alloc (.cells #[.int .u8 2, .int .u8 F, .int .i64 0, .int .i64 0, .int .i64 0, .int .i64 0] 30) = w1 at hs hr hv hbw ⊢
  obtain ⟨⟨s0, s1, s2, s3, s4, s5⟩, ⟨s6, s7, s8, s9, s10, s11⟩, s12⟩ := hs.get6
  obtain ⟨⟨r0, r1, r2, r3, r4, r5⟩, ⟨r6, r7, r8, r9, r10, r11⟩, r12⟩ := hr.get6
  obtain ⟨⟨v0, v1, v2, v3, v4, v5⟩, ⟨v6, v7, v8, v9, v10, v11⟩, v12⟩ := hv.get6
  refine region_B (n := 11) (m := 12) (f := 11) (by kernel_rfl) (by kernel_rfl) rfl ?_
  refine WpH.vD 0 (some 15) ?_ rfl rfl (by kernel_rfl) (fun _ _ _ h => h) rfl (fun wz hwz => ?_) ?_
  rotate_left
  ·go_simp; try (with_reducible rfl)
  simp only [Zp, Zq, Zr, Zs]
  refine WpH.vD 1 (some 16) ?_ rfl rfl (by kernel_rfl) (fun _ _ _ h => h) rfl (fun wz hwz => ?_) ?_
  rotate_left
  ·(obtain ⟨hcz, hfz⟩ := bcell hwz; go_simp; try (with_reducible rfl))
  simp only [Zp, Zq, Zr, Zs]
  refine WpH.vD 2 (some 17) ?_ rfl rfl (by kernel_rfl) (fun _ _ _ h => h) rfl (fun wz hwz => ?_) ?_
  rotate_left
  ·go_simp; try (with_reducible rfl)
  simp only [Zp, Zq, Zr, Zs]
  refine WpH.vD 3 (some 18) ?_ rfl rfl (by kernel_rfl) (fun _ _ _ h => h) rfl (fun wz hwz => ?_) ?_
  rotate_left
  ·go_simp; try (with_reducible rfl)
  simp only [Zp, Zq, Zr, Zs]
  refine WpH.vD 4 (some 19) ?_ rfl rfl (by kernel_rfl) (fun _ _ _ h => h) rfl (fun wz hwz => ?_) ?_
  rotate_left
  ·go_simp; try (with_reducible rfl)
  simp only [Zp, Zq, Zr, Zs]
  refine WpH.vD 5 (some 20) ?_ rfl rfl (by kernel_rfl) (fun _ _ _ h => h) rfl (fun wz hwz => ?_) ?_
  rotate_left
  ·go_simp; try (with_reducible rfl)
  simp only [Zp, Zq, Zr, Zs]
  refine WpH.vD 6 (some 21) ?_ rfl rfl (by kernel_rfl) (fun _ _ _ h => h) rfl (fun wz hwz => ?_) ?_
  rotate_left
  ·(obtain ⟨hcz, hfz⟩ := bcell hwz; go_simp; try (with_reducible rfl))
  simp only [Zp, Zq, Zr, Zs]
  refine WpH.vD 7 (some 22) ?_ rfl rfl (by kernel_rfl) (fun _ _ _ h => h) rfl (fun wz hwz => ?_) ?_
  rotate_left
  ·go_simp; try (with_reducible rfl)
  simp only [Zp, Zq, Zr, Zs]
  refine WpH.vD 8 (some 23) ?_ rfl rfl (by kernel_rfl) (fun _ _ _ h => h) rfl (fun wz hwz => ?_) ?_
  rotate_left
  ·go_simp; try (with_reducible rfl)
  simp only [Zp, Zq, Zr, Zs]
  refine WpH.vD 9 (some 24) ?_ rfl rfl (by kernel_rfl) (fun _ _ _ h => h) rfl (fun wz hwz => ?_) ?_
  rotate_left
  ·go_simp; try (with_reducible rfl)
  simp only [Zp, Zq, Zr, Zs]
  refine WpH.vD 10 (some 4) ?_ rfl rfl (by kernel_rfl) (fun _ _ _ h => h) rfl (fun wz hwz => ?_) ?_
  rotate_left
  ·go_simp; try (with_reducible rfl)
  simp only [Zp, Zq, Zr, Zs]
  refine WpH.doneB (by kernel_rfl) (fun w2 hw2 => ?_)
  (try simp only [List.drop_succ_cons]); (try simp only [List.drop_zero]); (try simp only [Nat.reduceSub]); (try simp only [List.take_succ_cons]); (try simp only [List.take_zero])
  clear s0 s1 s2 s3 s4 s5 s6 s7 s8 s9 s10 s11 s12 r0 r1 r2 r3 r4 r5 r6 r7 r8 r9 r10 r11 r12 v0 v1 v2 v3 v4 v5 v6 v7 v8 v9 v10 v11 v12
  replace hbw := bl_call hbw (Nat.le_refl _) hw2
  replace hs := hs.call hw2
  replace hr := hr.call hw2
  replace hv := hv.call hw2
  obtain ⟨⟨s0, s1, s2, s3, s4, s5⟩, ⟨s6, s7, s8, s9, s10, s11⟩, s12⟩ := hs.get6
  obtain ⟨⟨r0, r1, r2, r3, r4, r5⟩, ⟨r6, r7, r8, r9, r10, r11⟩, r12⟩ := hr.get6
  obtain ⟨⟨v0, v1, v2, v3, v4, v5⟩, ⟨v6, v7, v8, v9, v10, v11⟩, v12⟩ := hv.get6
  go_wp2
  have hvv := hv.put 2 (by simp) (.int .i64 B)
  have hrr := hr.far (p := ⟨w.heap.size + 1 + 1, 2, none⟩) (by simp) (.int .i64 B)
  have hbw2 := bl_set (p := ⟨w.heap.size + 1 + 1, 2, none⟩) hbw (by simp; omega) (.int .i64 B)
  have hres := Vs.set6 hrr (.int .u8 2) (.int .u8 F) (.int .i64 B) (.int .i64 0) (.int .i64 0) (.int .i64 0)
  have hble : w.heap.size ≤ w.heap.size + 1 := by omega
  have hbr := bl_set (p := ⟨w.heap.size + 1, 5, none⟩) (bl_set (p := ⟨w.heap.size + 1, 4, none⟩) (bl_set (p := ⟨w.heap.size + 1, 3, none⟩) (bl_set (p := ⟨w.heap.size + 1, 2, none⟩) (bl_set (p := ⟨w.heap.size + 1, 1, none⟩) (bl_set (p := ⟨w.heap.size + 1, 0, none⟩) hbw2 hble (.int .u8 2)) hble (.int .u8 F)) hble (.int .i64 B)) hble (.int .i64 0)) hble (.int .i64 0)) hble (.int .i64 0)
  exact bodyPost_ret (results_cir hres rfl rfl) rfl ⟨rfl, hbr⟩
 ·obtain ⟨L3, hL3, h31, h33⟩ : ∃ L3 : Nat, 1 + (L : Int) % 3 = (L3 : Int) ∧ 1 ≤ L3 ∧ L3 ≤ 3 := ⟨(1 + (L : Int) % 3).toNat, by omega, by omega, by omega⟩
  have hL3' : (L : Int) % 3 + 1 = (L3 : Int) := by omega
  refine ⟨F, .vec B L3 C, hF, CK.small_of ⟨⟨hB1, by omega⟩, ⟨h31, by omega⟩, ⟨hC1, by omega⟩⟩ (Nat.le_trans (mul_small h33 hB4) (by omega)), fun w => ?_⟩
  rw [val_vec]
  go_enter Tryz.func11, Tryz.ntmps11
  go_upto_region 2 with fail
  have hs := ((Vs.new w [.int .u8 k, .int .u8 f, .int .u8 b, .int .u8 l, .int .u8 m, .int .u8 c] #[.int .u8 k, .int .u8 f, .int .u8 b, .int .u8 l, .int .u8 m, .int .u8 c] 23 rfl).alloc (.cells #[.int .u8 0, .int .u8 0, .int .i64 0, .int .i64 0, .int .i64 0, .int .i64 0] 30)).alloc (.cells #[.int .u8 3, .int .u8 F, .int .i64 0, .int .i64 0, .int .i64 0, .int .i64 0] 30)
  have hr := (Vs.new (w.alloc (.cells #[.int .u8 k, .int .u8 f, .int .u8 b, .int .u8 l, .int .u8 m, .int .u8 c] 23)) [.int .u8 0, .int .u8 0, .int .i64 0, .int .i64 0, .int .i64 0, .int .i64 0] #[.int .u8 0, .int .u8 0, .int .i64 0, .int .i64 0, .int .i64 0, .int .i64 0] 30 rfl).alloc (.cells #[.int .u8 3, .int .u8 F, .int .i64 0, .int .i64 0, .int .i64 0, .int .i64 0] 30)
  have hv := Vs.new ((w.alloc (.cells #[.int .u8 k, .int .u8 f, .int .u8 b, .int .u8 l, .int .u8 m, .int .u8 c] 23)).alloc (.cells #[.int .u8 0, .int .u8 0, .int .i64 0, .int .i64 0, .int .i64 0, .int .i64 0] 30)) [.int .u8 3, .int .u8 F, .int .i64 0, .int .i64 0, .int .i64 0, .int .i64 0] #[.int .u8 3, .int .u8 F, .int .i64 0, .int .i64 0, .int .i64 0, .int .i64 0] 30 rfl
  simp only [World.size_alloc] at hr hv
  have hbw : Below w.heap.size w (((w.alloc (.cells #[.int .u8 k, .int .u8 f, .int .u8 b, .int .u8 l, .int .u8 m, .int .u8 c] 23)).alloc (.cells #[.int .u8 0, .int .u8 0, .int .i64 0, .int .i64 0, .int .i64 0, .int .i64 0] 30)).alloc (.cells #[.int .u8 3, .int .u8 F, .int .i64 0, .int .i64 0, .int .i64 0, .int .i64 0] 30)) := by repeat (first | exact bA | with_reducible assumption | apply bB | (refine bC ?_ (by dsimp only; omega)) | apply bD | apply bE | (refine bF ?_ (by assumption)))
  generalize ((w.alloc (.cells #[.int .u8 k, .int .u8 f, .int .u8 b, .int .u8 l, .int .u8 m, .int .u8 c] 23)).alloc (.cells #[.int .u8 0, .int .u8 0, .int .i64 0, .int .i64 0, .int .i64 0, .int .i64 0] 30)).alloc (.cells #[.int .u8 3, .int .u8 F, .int .i64 0, .int .i64 0, .int .i64 0, .int .i64 0] 30) = w1 at hs hr hv hbw ⊢
  obtain ⟨⟨s0, s1, s2, s3, s4, s5⟩, ⟨s6, s7, s8, s9, s10, s11⟩, s12⟩ := hs.get6
  obtain ⟨⟨r0, r1, r2, r3, r4, r5⟩, ⟨r6, r7, r8, r9, r10, r11⟩, r12⟩ := hr.get6
  obtain ⟨⟨v0, v1, v2, v3, v4, v5⟩, ⟨v6, v7, v8, v9, v10, v11⟩, v12⟩ := hv.get6
  refine region_B (n := 11) (m := 12) (f := 11) (by kernel_rfl) (by kernel_rfl) rfl ?_
  refine WpH.vD 0 (some 15) ?_ rfl rfl (by kernel_rfl) (fun _ _ _ h => h) rfl (fun wz hwz => ?_) ?_
  rotate_left
  ·go_simp; try (with_reducible rfl)
  simp only [Zp, Zq, Zr, Zs]
  refine WpH.vD 1 (some 16) ?_ rfl rfl (by kernel_rfl) (fun _ _ _ h => h) rfl (fun wz hwz => ?_) ?_
  rotate_left
  ·(obtain ⟨hcz, hfz⟩ := bcell hwz; go_simp; try (with_reducible rfl))
  simp only [Zp, Zq, Zr, Zs]
  refine WpH.vD 2 (some 17) ?_ rfl rfl (by kernel_rfl) (fun _ _ _ h => h) rfl (fun wz hwz => ?_) ?_
  rotate_left
  ·go_simp; try (with_reducible rfl)
  simp only [Zp, Zq, Zr, Zs]
  refine WpH.vD 3 (some 18) ?_ rfl rfl (by kernel_rfl) (fun _ _ _ h => h) rfl (fun wz hwz => ?_) ?_
  rotate_left
  ·go_simp; try (with_reducible rfl)
  simp only [Zp, Zq, Zr, Zs]
  refine WpH.vD 4 (some 19) ?_ rfl rfl (by kernel_rfl) (fun _ _ _ h => h) rfl (fun wz hwz => ?_) ?_
  rotate_left
  ·go_simp; try (with_reducible rfl)
  simp only [Zp, Zq, Zr, Zs]
  refine WpH.vD 5 (some 20) ?_ rfl rfl (by kernel_rfl) (fun _ _ _ h => h) rfl (fun wz hwz => ?_) ?_
  rotate_left
  ·go_simp; try (with_reducible rfl)
  simp only [Zp, Zq, Zr, Zs]
  refine WpH.vD 6 (some 21) ?_ rfl rfl (by kernel_rfl) (fun _ _ _ h => h) rfl (fun wz hwz => ?_) ?_
  rotate_left
  ·(obtain ⟨hcz, hfz⟩ := bcell hwz; go_simp; try (with_reducible rfl))
  simp only [Zp, Zq, Zr, Zs]
  refine WpH.vD 7 (some 22) ?_ rfl rfl (by kernel_rfl) (fun _ _ _ h => h) rfl (fun wz hwz => ?_) ?_
  rotate_left
  ·go_simp; try (with_reducible rfl)
  simp only [Zp, Zq, Zr, Zs]
  refine WpH.vD 8 (some 23) ?_ rfl rfl (by kernel_rfl) (fun _ _ _ h => h) rfl (fun wz hwz => ?_) ?_
  rotate_left
  ·go_simp; try (with_reducible rfl)
  simp only [Zp, Zq, Zr, Zs]
  refine WpH.vD 9 (some 24) ?_ rfl rfl (by kernel_rfl) (fun _ _ _ h => h) rfl (fun wz hwz => ?_) ?_
  rotate_left
  ·go_simp; try (with_reducible rfl)
  simp only [Zp, Zq, Zr, Zs]
  refine WpH.vD 10 (some 4) ?_ rfl rfl (by kernel_rfl) (fun _ _ _ h => h) rfl (fun wz hwz => ?_) ?_
  rotate_left
  ·go_simp; try (with_reducible rfl)
  simp only [Zp, Zq, Zr, Zs]
  refine WpH.doneB (by kernel_rfl) (fun w2 hw2 => ?_)
  (try simp only [List.drop_succ_cons]); (try simp only [List.drop_zero]); (try simp only [Nat.reduceSub]); (try simp only [List.take_succ_cons]); (try simp only [List.take_zero])
  clear s0 s1 s2 s3 s4 s5 s6 s7 s8 s9 s10 s11 s12 r0 r1 r2 r3 r4 r5 r6 r7 r8 r9 r10 r11 r12 v0 v1 v2 v3 v4 v5 v6 v7 v8 v9 v10 v11 v12
  replace hbw := bl_call hbw (Nat.le_refl _) hw2
  replace hs := hs.call hw2
  replace hr := hr.call hw2
  replace hv := hv.call hw2
  obtain ⟨⟨s0, s1, s2, s3, s4, s5⟩, ⟨s6, s7, s8, s9, s10, s11⟩, s12⟩ := hs.get6
  obtain ⟨⟨r0, r1, r2, r3, r4, r5⟩, ⟨r6, r7, r8, r9, r10, r11⟩, r12⟩ := hr.get6
  obtain ⟨⟨v0, v1, v2, v3, v4, v5⟩, ⟨v6, v7, v8, v9, v10, v11⟩, v12⟩ := hv.get6
  go_wp2
  have hS7 : SmS w k f b l m c 3 F w2.drew := ⟨hbw.drew, hs.drew, hr.drew, _, _, _, hv.drew⟩
  obtain ⟨T, hT, hT2⟩ : ∃ T : Nat, (L : Int).tmod 3 = (T : Int) ∧ (1 : Int) + (T : Int) = (L3 : Int) := ⟨((L : Int) % 3).toNat, by rw [Int.tmod_eq_emod_of_nonneg (by omega)]; omega, by omega⟩
  obtain ⟨CT, hCT, hCT2⟩ : ∃ CT : Nat, c.tmod 4 = (CT : Int) ∧ (1 : Int) + (CT : Int) = (C : Int) := ⟨(c % 4).toNat, by rw [Int.tmod_eq_emod_of_nonneg hc0]; omega, by omega⟩
  have hwT : IntKind.i64.wrap (T : Int) = (T : Int) := IntWalk.i64_in _ (by omega)
  have hwL3 : IntKind.i64.wrap (L3 : Int) = (L3 : Int) := IntWalk.i64_in _ (by omega)
  have hwCT : IntKind.i64.wrap (CT : Int) = (CT : Int) := IntWalk.i64_in _ (by omega)
  have hwC : IntKind.i64.wrap (C : Int) = (C : Int) := IntWalk.i64_in _ (by omega)
  clear s0 s1 s2 s3 s4 s5 s6 s7 s8 s9 s10 s11 s12 r0 r1 r2 r3 r4 r5 r6 r7 r8 r9 r10 r11 r12 v0 v1 v2 v3 v4 v5 v6 v7 v8 v9 v10 v11 v12
  refine region_GS (SmS w k f b l m c 3 F) (SmS.clo w k f b l m c 3 F) hS7 (n := 13) (m := 15) (f := 13) (by kernel_rfl) (by kernel_rfl) rfl ?_
  refine WpG.vD 0 (some 33) ?_ rfl rfl (by kernel_rfl) (fun _ _ _ h => h) rfl (fun wz hwz => ?_) ?_
  rotate_left
  ·go_simp; try (with_reducible rfl)
  simp only [Zp, Zq, Zr, Zs]
  refine WpG.vD 1 (some 34) ?_ rfl rfl (by kernel_rfl) (fun _ _ _ h => h) rfl (fun wz hwz => ?_) ?_
  rotate_left
  ·go_simp; try (with_reducible rfl)
  simp only [Zp, Zq, Zr, Zs]
  refine WpG.vD 2 (some 35) ?_ rfl rfl (by kernel_rfl) (fun _ _ _ h => h) rfl (fun wz hwz => ?_) ?_
  rotate_left
  ·go_simp; try (with_reducible rfl)
  simp only [Zp, Zq, Zr, Zs]
  refine WpG.vD 3 (some 36) ?_ rfl rfl (by kernel_rfl) (fun _ _ _ h => h) rfl (fun wz hwz => ?_) ?_
  rotate_left
  ·go_simp; try (with_reducible rfl)
  simp only [Zp, Zq, Zr, Zs]
  refine WpG.vD 4 (some 37) ?_ rfl rfl (by kernel_rfl) (fun _ _ _ h => h) rfl (fun wz hwz => ?_) ?_
  rotate_left
  ·go_simp; try (with_reducible rfl)
  simp only [Zp, Zq, Zr, Zs]
  refine WpG.vD 5 (some 38) ?_ rfl rfl (by kernel_rfl) (fun _ _ _ h => h) rfl (fun wz hwz => ?_) ?_
  rotate_left
  ·(obtain ⟨_, hsz, _, _⟩ := hwz; obtain ⟨⟨s0, s1, s2, s3, s4, s5⟩, _, s12⟩ := hsz.get6; go_simp; try (with_reducible rfl))
  simp only [Zp, Zq, Zr, Zs]
  refine WpG.vD 6 (some 39) ?_ rfl rfl (by kernel_rfl) (fun _ _ _ h => h) rfl (fun wz hwz => ?_) ?_
  rotate_left
  ·go_simp; try (with_reducible rfl)
  simp only [Zp, Zq, Zr, Zs]
  refine WpG.vD 7 (some 40) ?_ rfl rfl (by kernel_rfl) (fun _ _ _ h => h) rfl (fun wz hwz => ?_) ?_
  rotate_left
  ·go_simp; try (with_reducible rfl)
  simp only [Zp, Zq, Zr, Zs]
  refine WpG.vD 8 (some 41) ?_ rfl rfl (by kernel_rfl) (fun _ _ _ h => h) rfl (fun wz hwz => ?_) ?_
  rotate_left
  ·go_simp; try (with_reducible rfl)
  simp only [Zp, Zq, Zr, Zs]
  refine WpG.vD 9 (some 42) ?_ rfl rfl (by kernel_rfl) (fun _ _ _ h => h) rfl (fun wz hwz => ?_) ?_
  rotate_left
  ·go_simp; try (with_reducible rfl)
  simp only [Zp, Zq, Zr, Zs]
  refine WpG.oneSkip 10 none rfl rfl (by kernel_rfl) (fun wz => ∃ x3 x5 : Value, Vs wz (w.heap.size + 1 + 1) [.int .u8 3, .int .u8 F, .int .i64 B, x3, .int .i64 0, x5]) (fun _ _ h hb => let ⟨y, z, hv⟩ := h; ⟨y, z, hv.call hb⟩) rfl (fun wz hwz => ?_) ?_
  ·obtain ⟨hbz, hsz, hrz, x2, x3, x5, hvz⟩ := hwz; obtain ⟨⟨v0, v1, v2, v3, v4, v5⟩, ⟨v6, v7, v8, v9, v10, v11⟩, v12⟩ := hvz.get6; exact ⟨wz.setCell ⟨w.heap.size + 1 + 1, 2, none⟩ (.int .i64 B), by go_simp; try (with_reducible rfl), ⟨bl_set hbz (by dsimp only; omega) _, hsz.far (by simp; omega) _, hrz.far (by simp) _, _, _, _, hvz.put 2 (by simp) _⟩, _, _, hvz.put 2 (by simp) _⟩
  simp only [Act.put]
  refine WpG.vD 11 (some 43) ?_ rfl rfl (by kernel_rfl) (fun _ _ _ h => h) rfl (fun wz hwz => ?_) ?_
  rotate_left
  ·go_simp; try (with_reducible rfl)
  simp only [Zp, Zq, Zr, Zs]
  refine WpG.oneSkip 12 none rfl rfl (by kernel_rfl) (fun wz => ∃ x5 : Value, Vs wz (w.heap.size + 1 + 1) [.int .u8 3, .int .u8 F, .int .i64 B, .int .i64 L3, .int .i64 0, x5]) (fun _ _ h hb => let ⟨z, hv⟩ := h; ⟨z, hv.call hb⟩) rfl (fun wz hwz => ?_) ?_
  ·obtain ⟨⟨hbz, hsz, hrz, _⟩, x3, x5, hvz⟩ := hwz; obtain ⟨⟨v0, v1, v2, v3, v4, v5⟩, ⟨v6, v7, v8, v9, v10, v11⟩, v12⟩ := hvz.get6; exact ⟨wz.setCell ⟨w.heap.size + 1 + 1, 3, none⟩ (.int .i64 L3), by go_simp; try (with_reducible rfl), ⟨⟨bl_set hbz (by dsimp only; omega) _, hsz.far (by simp; omega) _, hrz.far (by simp) _, _, _, _, hvz.put 3 (by simp) _⟩, _, _, hvz.put 3 (by simp) _⟩, _, hvz.put 3 (by simp) _⟩
  simp only [Act.put]
  refine WpG.done (by kernel_rfl) (fun w5 hS => ?_)
  (try simp only [List.drop_succ_cons]); (try simp only [List.drop_zero]); (try simp only [Nat.reduceSub]); (try simp only [List.take_succ_cons]); (try simp only [List.take_zero])
  obtain ⟨⟨⟨hb5, hs5, hr5, _⟩, _⟩, x5, hv5⟩ := hS
  have hrr := hr5.far (p := ⟨w.heap.size + 1 + 1, 5, none⟩) (by simp) (.int .i64 C)
  have hbw2 := bl_set (p := ⟨w.heap.size + 1 + 1, 5, none⟩) hb5 (by simp; omega) (.int .i64 C)
  clear hs hr hv hbw hS7 hw2
  obtain ⟨⟨v0, v1, v2, v3, v4, v5⟩, ⟨v6, v7, v8, v9, v10, v11⟩, v12⟩ := hv5.get6
  obtain ⟨⟨r0, r1, r2, r3, r4, r5⟩, ⟨r6, r7, r8, r9, r10, r11⟩, r12⟩ := hr5.get6
  go_wp2
  have hres := Vs.set6 hrr (.int .u8 3) (.int .u8 F) (.int .i64 B) (.int .i64 L3) (.int .i64 0) (.int .i64 C)
  have hble : w.heap.size ≤ w.heap.size + 1 := by omega
  have hbr := bl_set (p := ⟨w.heap.size + 1, 5, none⟩) (bl_set (p := ⟨w.heap.size + 1, 4, none⟩) (bl_set (p := ⟨w.heap.size + 1, 3, none⟩) (bl_set (p := ⟨w.heap.size + 1, 2, none⟩) (bl_set (p := ⟨w.heap.size + 1, 1, none⟩) (bl_set (p := ⟨w.heap.size + 1, 0, none⟩) hbw2 hble (.int .u8 3)) hble (.int .u8 F)) hble (.int .i64 B)) hble (.int .i64 L3)) hble (.int .i64 0)) hble (.int .i64 C)
  exact bodyPost_ret (results_cir hres rfl rfl) rfl ⟨rfl, hbr⟩
 ·refine ⟨F, .hist L C, hF, CK.small_of ⟨⟨hL1, by omega⟩, ⟨hC1, by omega⟩⟩ (by show L ≤ 12; omega), fun w => ?_⟩
  rw [val_hist]
  go_enter Tryz.func11, Tryz.ntmps11
  go_upto_region 2 with fail
  have hs := ((Vs.new w [.int .u8 k, .int .u8 f, .int .u8 b, .int .u8 l, .int .u8 m, .int .u8 c] #[.int .u8 k, .int .u8 f, .int .u8 b, .int .u8 l, .int .u8 m, .int .u8 c] 23 rfl).alloc (.cells #[.int .u8 0, .int .u8 0, .int .i64 0, .int .i64 0, .int .i64 0, .int .i64 0] 30)).alloc (.cells #[.int .u8 4, .int .u8 F, .int .i64 0, .int .i64 0, .int .i64 0, .int .i64 0] 30)
  have hr := (Vs.new (w.alloc (.cells #[.int .u8 k, .int .u8 f, .int .u8 b, .int .u8 l, .int .u8 m, .int .u8 c] 23)) [.int .u8 0, .int .u8 0, .int .i64 0, .int .i64 0, .int .i64 0, .int .i64 0] #[.int .u8 0, .int .u8 0, .int .i64 0, .int .i64 0, .int .i64 0, .int .i64 0] 30 rfl).alloc (.cells #[.int .u8 4, .int .u8 F, .int .i64 0, .int .i64 0, .int .i64 0, .int .i64 0] 30)
  have hv := Vs.new ((w.alloc (.cells #[.int .u8 k, .int .u8 f, .int .u8 b, .int .u8 l, .int .u8 m, .int .u8 c] 23)).alloc (.cells #[.int .u8 0, .int .u8 0, .int .i64 0, .int .i64 0, .int .i64 0, .int .i64 0] 30)) [.int .u8 4, .int .u8 F, .int .i64 0, .int .i64 0, .int .i64 0, .int .i64 0] #[.int .u8 4, .int .u8 F, .int .i64 0, .int .i64 0, .int .i64 0, .int .i64 0] 30 rfl
  simp only [World.size_alloc] at hr hv
  have hbw : Below w.heap.size w (((w.alloc (.cells #[.int .u8 k, .int .u8 f, .int .u8 b, .int .u8 l, .int .u8 m, .int .u8 c] 23)).alloc (.cells #[.int .u8 0, .int .u8 0, .int .i64 0, .int .i64 0, .int .i64 0, .int .i64 0] 30)).alloc (.cells #[.int .u8 4, .int .u8 F, .int .i64 0, .int .i64 0, .int .i64 0, .int .i64 0] 30)) := by repeat (first | exact bA | with_reducible assumption | apply bB | (refine bC ?_ (by dsimp only; omega)) | apply bD | apply bE | (refine bF ?_ (by assumption)))
  generalize ((w.alloc (.cells #[.int .u8 k, .int .u8 f, .int .u8 b, .int .u8 l, .int .u8 m, .int .u8 c] 23)).alloc (.cells #[.int .u8 0, .int .u8 0, .int .i64 0, .int .i64 0, .int .i64 0, .int .i64 0] 30)).alloc (.cells #[.int .u8 4, .int .u8 F, .int .i64 0, .int .i64 0, .int .i64 0, .int .i64 0] 30) = w1 at hs hr hv hbw ⊢
  obtain ⟨⟨s0, s1, s2, s3, s4, s5⟩, ⟨s6, s7, s8, s9, s10, s11⟩, s12⟩ := hs.get6
  obtain ⟨⟨r0, r1, r2, r3, r4, r5⟩, ⟨r6, r7, r8, r9, r10, r11⟩, r12⟩ := hr.get6
  obtain ⟨⟨v0, v1, v2, v3, v4, v5⟩, ⟨v6, v7, v8, v9, v10, v11⟩, v12⟩ := hv.get6
  refine region_B (n := 11) (m := 12) (f := 11) (by kernel_rfl) (by kernel_rfl) rfl ?_
  refine WpH.vD 0 (some 15) ?_ rfl rfl (by kernel_rfl) (fun _ _ _ h => h) rfl (fun wz hwz => ?_) ?_
  rotate_left
  ·go_simp; try (with_reducible rfl)
  simp only [Zp, Zq, Zr, Zs]
  refine WpH.vD 1 (some 16) ?_ rfl rfl (by kernel_rfl) (fun _ _ _ h => h) rfl (fun wz hwz => ?_) ?_
  rotate_left
  ·(obtain ⟨hcz, hfz⟩ := bcell hwz; go_simp; try (with_reducible rfl))
  simp only [Zp, Zq, Zr, Zs]
  refine WpH.vD 2 (some 17) ?_ rfl rfl (by kernel_rfl) (fun _ _ _ h => h) rfl (fun wz hwz => ?_) ?_
  rotate_left
  ·go_simp; try (with_reducible rfl)
  simp only [Zp, Zq, Zr, Zs]
  refine WpH.vD 3 (some 18) ?_ rfl rfl (by kernel_rfl) (fun _ _ _ h => h) rfl (fun wz hwz => ?_) ?_
  rotate_left
  ·go_simp; try (with_reducible rfl)
  simp only [Zp, Zq, Zr, Zs]
  refine WpH.vD 4 (some 19) ?_ rfl rfl (by kernel_rfl) (fun _ _ _ h => h) rfl (fun wz hwz => ?_) ?_
  rotate_left
  ·go_simp; try (with_reducible rfl)
  simp only [Zp, Zq, Zr, Zs]
  refine WpH.vD 5 (some 20) ?_ rfl rfl (by kernel_rfl) (fun _ _ _ h => h) rfl (fun wz hwz => ?_) ?_
  rotate_left
  ·go_simp; try (with_reducible rfl)
  simp only [Zp, Zq, Zr, Zs]
  refine WpH.vD 6 (some 21) ?_ rfl rfl (by kernel_rfl) (fun _ _ _ h => h) rfl (fun wz hwz => ?_) ?_
  rotate_left
  ·(obtain ⟨hcz, hfz⟩ := bcell hwz; go_simp; try (with_reducible rfl))
  simp only [Zp, Zq, Zr, Zs]
  refine WpH.vD 7 (some 22) ?_ rfl rfl (by kernel_rfl) (fun _ _ _ h => h) rfl (fun wz hwz => ?_) ?_
  rotate_left
  ·go_simp; try (with_reducible rfl)
  simp only [Zp, Zq, Zr, Zs]
  refine WpH.vD 8 (some 23) ?_ rfl rfl (by kernel_rfl) (fun _ _ _ h => h) rfl (fun wz hwz => ?_) ?_
  rotate_left
  ·go_simp; try (with_reducible rfl)
  simp only [Zp, Zq, Zr, Zs]
  refine WpH.vD 9 (some 24) ?_ rfl rfl (by kernel_rfl) (fun _ _ _ h => h) rfl (fun wz hwz => ?_) ?_
  rotate_left
  ·go_simp; try (with_reducible rfl)
  simp only [Zp, Zq, Zr, Zs]
  refine WpH.vD 10 (some 4) ?_ rfl rfl (by kernel_rfl) (fun _ _ _ h => h) rfl (fun wz hwz => ?_) ?_
  rotate_left
  ·go_simp; try (with_reducible rfl)
  simp only [Zp, Zq, Zr, Zs]
  refine WpH.doneB (by kernel_rfl) (fun w2 hw2 => ?_)
  (try simp only [List.drop_succ_cons]); (try simp only [List.drop_zero]); (try simp only [Nat.reduceSub]); (try simp only [List.take_succ_cons]); (try simp only [List.take_zero])
  clear s0 s1 s2 s3 s4 s5 s6 s7 s8 s9 s10 s11 s12 r0 r1 r2 r3 r4 r5 r6 r7 r8 r9 r10 r11 r12 v0 v1 v2 v3 v4 v5 v6 v7 v8 v9 v10 v11 v12
  replace hbw := bl_call hbw (Nat.le_refl _) hw2
  replace hs := hs.call hw2
  replace hr := hr.call hw2
  replace hv := hv.call hw2
  obtain ⟨⟨s0, s1, s2, s3, s4, s5⟩, ⟨s6, s7, s8, s9, s10, s11⟩, s12⟩ := hs.get6
  obtain ⟨⟨r0, r1, r2, r3, r4, r5⟩, ⟨r6, r7, r8, r9, r10, r11⟩, r12⟩ := hr.get6
  obtain ⟨⟨v0, v1, v2, v3, v4, v5⟩, ⟨v6, v7, v8, v9, v10, v11⟩, v12⟩ := hv.get6
  go_wp2
  have hS7 : SmS w k f b l m c 4 F w2.drew := ⟨hbw.drew, hs.drew, hr.drew, _, _, _, hv.drew⟩
  obtain ⟨CT, hCT, hCT2⟩ : ∃ CT : Nat, c.tmod 4 = (CT : Int) ∧ (1 : Int) + (CT : Int) = (C : Int) := ⟨(c % 4).toNat, by rw [Int.tmod_eq_emod_of_nonneg hc0]; omega, by omega⟩
  have hwCT : IntKind.i64.wrap (CT : Int) = (CT : Int) := IntWalk.i64_in _ (by omega)
  have hwC : IntKind.i64.wrap (C : Int) = (C : Int) := IntWalk.i64_in _ (by omega)
  have hSH : Clo (fun wz => SmS w k f b l m c 4 F wz ∧ ∃ x3 x5 : Value, Vs wz (w.heap.size + 1 + 1) [.int .u8 4, .int .u8 F, .int .i64 0, x3, .int .i64 0, x5]) := (SmS.clo w k f b l m c 4 F).and fun _ _ h hb => let ⟨y, z, hv⟩ := h; ⟨y, z, hv.call hb⟩
  have hS8 : SmS w k f b l m c 4 F w2.drew ∧ ∃ x3 x5 : Value, Vs w2.drew (w.heap.size + 1 + 1) [.int .u8 4, .int .u8 F, .int .i64 0, x3, .int .i64 0, x5] := ⟨hS7, _, _, hv.drew⟩
  clear s0 s1 s2 s3 s4 s5 s6 s7 s8 s9 s10 s11 s12 r0 r1 r2 r3 r4 r5 r6 r7 r8 r9 r10 r11 r12 v0 v1 v2 v3 v4 v5 v6 v7 v8 v9 v10 v11 v12
  refine region_GS _ hSH hS8 (n := 8) (m := 10) (f := 8) (by kernel_rfl) (by kernel_rfl) rfl ?_
  refine WpG.vD 0 (some 47) ?_ rfl rfl (by kernel_rfl) (fun _ _ _ h => h) rfl (fun wz hwz => ?_) ?_
  rotate_left
  ·go_simp; try (with_reducible rfl)
  simp only [Zp, Zq, Zr, Zs]
  refine WpG.vD 1 (some 48) ?_ rfl rfl (by kernel_rfl) (fun _ _ _ h => h) rfl (fun wz hwz => ?_) ?_
  rotate_left
  ·go_simp; try (with_reducible rfl)
  simp only [Zp, Zq, Zr, Zs]
  refine WpG.vD 2 (some 49) ?_ rfl rfl (by kernel_rfl) (fun _ _ _ h => h) rfl (fun wz hwz => ?_) ?_
  rotate_left
  ·(obtain ⟨⟨_, hsz, _, _⟩, _⟩ := hwz; obtain ⟨⟨s0, s1, s2, s3, s4, s5⟩, _, s12⟩ := hsz.get6; go_simp; try (with_reducible rfl))
  simp only [Zp, Zq, Zr, Zs]
  refine WpG.vD 3 (some 50) ?_ rfl rfl (by kernel_rfl) (fun _ _ _ h => h) rfl (fun wz hwz => ?_) ?_
  rotate_left
  ·go_simp; try (with_reducible rfl)
  simp only [Zp, Zq, Zr, Zs]
  refine WpG.vD 4 (some 51) ?_ rfl rfl (by kernel_rfl) (fun _ _ _ h => h) rfl (fun wz hwz => ?_) ?_
  rotate_left
  ·go_simp; try (with_reducible rfl)
  simp only [Zp, Zq, Zr, Zs]
  refine WpG.vD 5 (some 52) ?_ rfl rfl (by kernel_rfl) (fun _ _ _ h => h) rfl (fun wz hwz => ?_) ?_
  rotate_left
  ·go_simp; try (with_reducible rfl)
  simp only [Zp, Zq, Zr, Zs]
  refine WpG.vD 6 (some 53) ?_ rfl rfl (by kernel_rfl) (fun _ _ _ h => h) rfl (fun wz hwz => ?_) ?_
  rotate_left
  ·go_simp; try (with_reducible rfl)
  simp only [Zp, Zq, Zr, Zs]
  refine WpG.oneSkip 7 none rfl rfl (by kernel_rfl) (fun wz => ∃ x5 : Value, Vs wz (w.heap.size + 1 + 1) [.int .u8 4, .int .u8 F, .int .i64 0, .int .i64 L, .int .i64 0, x5]) (fun _ _ h hb => let ⟨z, hv⟩ := h; ⟨z, hv.call hb⟩) rfl (fun wz hwz => ?_) ?_
  ·obtain ⟨⟨hbz, hsz, hrz, _⟩, x3, x5, hvz⟩ := hwz; obtain ⟨⟨v0, v1, v2, v3, v4, v5⟩, ⟨v6, v7, v8, v9, v10, v11⟩, v12⟩ := hvz.get6; exact ⟨wz.setCell ⟨w.heap.size + 1 + 1, 3, none⟩ (.int .i64 L), by go_simp; try (with_reducible rfl), ⟨⟨bl_set hbz (by dsimp only; omega) _, hsz.far (by simp; omega) _, hrz.far (by simp) _, _, _, _, hvz.put 3 (by simp) _⟩, _, _, hvz.put 3 (by simp) _⟩, _, hvz.put 3 (by simp) _⟩
  simp only [Act.put]
  refine WpG.done (by kernel_rfl) (fun w5 hS => ?_)
  (try simp only [List.drop_succ_cons]); (try simp only [List.drop_zero]); (try simp only [Nat.reduceSub]); (try simp only [List.take_succ_cons]); (try simp only [List.take_zero])
  obtain ⟨⟨⟨hb5, hs5, hr5, _⟩, _⟩, x5, hv5⟩ := hS
  have hrr := hr5.far (p := ⟨w.heap.size + 1 + 1, 5, none⟩) (by simp) (.int .i64 C)
  have hbw2 := bl_set (p := ⟨w.heap.size + 1 + 1, 5, none⟩) hb5 (by simp; omega) (.int .i64 C)
  clear hs hr hv hbw hS7 hw2
  obtain ⟨⟨v0, v1, v2, v3, v4, v5⟩, ⟨v6, v7, v8, v9, v10, v11⟩, v12⟩ := hv5.get6
  obtain ⟨⟨r0, r1, r2, r3, r4, r5⟩, ⟨r6, r7, r8, r9, r10, r11⟩, r12⟩ := hr5.get6
  go_wp2
  have hres := Vs.set6 hrr (.int .u8 4) (.int .u8 F) (.int .i64 0) (.int .i64 L) (.int .i64 0) (.int .i64 C)
  have hble : w.heap.size ≤ w.heap.size + 1 := by omega
  have hbr := bl_set (p := ⟨w.heap.size + 1, 5, none⟩) (bl_set (p := ⟨w.heap.size + 1, 4, none⟩) (bl_set (p := ⟨w.heap.size + 1, 3, none⟩) (bl_set (p := ⟨w.heap.size + 1, 2, none⟩) (bl_set (p := ⟨w.heap.size + 1, 1, none⟩) (bl_set (p := ⟨w.heap.size + 1, 0, none⟩) hbw2 hble (.int .u8 4)) hble (.int .u8 F)) hble (.int .i64 0)) hble (.int .i64 L)) hble (.int .i64 0)) hble (.int .i64 C)
  exact bodyPost_ret (results_cir hres rfl rfl) rfl ⟨rfl, hbr⟩
 ·have hmod : 0 ≤ m % (L : Int) ∧ m % (L : Int) < (L : Int) := ⟨Int.emod_nonneg _ (by omega), Int.emod_lt_of_pos _ (by omega)⟩
  obtain ⟨M, hM, hM1, hML⟩ : ∃ M : Nat, 1 + m % (L : Int) = (M : Int) ∧ 1 ≤ M ∧ M ≤ L := ⟨(1 + m % (L : Int)).toNat, by omega, by omega, by omega⟩
  have hM' : m % (L : Int) + 1 = (M : Int) := by omega
  have hb3 := bitLen_5 M (by omega)
  refine ⟨F, .multi L M C, hF, CK.small_of ⟨⟨hL1, by omega⟩, ⟨hM1, hML⟩, ⟨hC1, by omega⟩⟩ (by show L + Lib.bitLen M ≤ 12; omega), fun w => ?_⟩
  have hL0 : ¬ (L = 0) := by omega
  rw [val_multi]
  clear hb3
  go_enter Tryz.func11, Tryz.ntmps11
  go_upto_region 2 with fail
  have hs := ((Vs.new w [.int .u8 k, .int .u8 f, .int .u8 b, .int .u8 l, .int .u8 m, .int .u8 c] #[.int .u8 k, .int .u8 f, .int .u8 b, .int .u8 l, .int .u8 m, .int .u8 c] 23 rfl).alloc (.cells #[.int .u8 0, .int .u8 0, .int .i64 0, .int .i64 0, .int .i64 0, .int .i64 0] 30)).alloc (.cells #[.int .u8 5, .int .u8 F, .int .i64 0, .int .i64 0, .int .i64 0, .int .i64 0] 30)
  have hr := (Vs.new (w.alloc (.cells #[.int .u8 k, .int .u8 f, .int .u8 b, .int .u8 l, .int .u8 m, .int .u8 c] 23)) [.int .u8 0, .int .u8 0, .int .i64 0, .int .i64 0, .int .i64 0, .int .i64 0] #[.int .u8 0, .int .u8 0, .int .i64 0, .int .i64 0, .int .i64 0, .int .i64 0] 30 rfl).alloc (.cells #[.int .u8 5, .int .u8 F, .int .i64 0, .int .i64 0, .int .i64 0, .int .i64 0] 30)
  have hv := Vs.new ((w.alloc (.cells #[.int .u8 k, .int .u8 f, .int .u8 b, .int .u8 l, .int .u8 m, .int .u8 c] 23)).alloc (.cells #[.int .u8 0, .int .u8 0, .int .i64 0, .int .i64 0, .int .i64 0, .int .i64 0] 30)) [.int .u8 5, .int .u8 F, .int .i64 0, .int .i64 0, .int .i64 0, .int .i64 0] #[.int .u8 5, .int .u8 F, .int .i64 0, .int .i64 0, .int .i64 0, .int .i64 0] 30 rfl
  simp only [World.size_alloc] at hr hv
  have hbw : Below w.heap.size w (((w.alloc (.cells #[.int .u8 k, .int .u8 f, .int .u8 b, .int .u8 l, .int .u8 m, .int .u8 c] 23)).alloc (.cells #[.int .u8 0, .int .u8 0, .int .i64 0, .int .i64 0, .int .i64 0, .int .i64 0] 30)).alloc (.cells #[.int .u8 5, .int .u8 F, .int .i64 0, .int .i64 0, .int .i64 0, .int .i64 0] 30)) := by repeat (first | exact bA | with_reducible assumption | apply bB | (refine bC ?_ (by dsimp only; omega)) | apply bD | apply bE | (refine bF ?_ (by assumption)))
  generalize ((w.alloc (.cells #[.int .u8 k, .int .u8 f, .int .u8 b, .int .u8 l, .int .u8 m, .int .u8 c] 23)).alloc (.cells #[.int .u8 0, .int .u8 0, .int .i64 0, .int .i64 0, .int .i64 0, .int .i64 0] 30)).alloc (.cells #[.int .u8 5, .int .u8 F, .int .i64 0, .int .i64 0, .int .i64 0, .int .i64 0] 30) = w1 at hs hr hv hbw ⊢
  obtain ⟨⟨s0, s1, s2, s3, s4, s5⟩, ⟨s6, s7, s8, s9, s10, s11⟩, s12⟩ := hs.get6
  obtain ⟨⟨r0, r1, r2, r3, r4, r5⟩, ⟨r6, r7, r8, r9, r10, r11⟩, r12⟩ := hr.get6
  obtain ⟨⟨v0, v1, v2, v3, v4, v5⟩, ⟨v6, v7, v8, v9, v10, v11⟩, v12⟩ := hv.get6
  refine region_B (n := 11) (m := 12) (f := 11) (by kernel_rfl) (by kernel_rfl) rfl ?_
  refine WpH.vD 0 (some 15) ?_ rfl rfl (by kernel_rfl) (fun _ _ _ h => h) rfl (fun wz hwz => ?_) ?_
  rotate_left
  ·go_simp; try (with_reducible rfl)
  simp only [Zp, Zq, Zr, Zs]
  refine WpH.vD 1 (some 16) ?_ rfl rfl (by kernel_rfl) (fun _ _ _ h => h) rfl (fun wz hwz => ?_) ?_
  rotate_left
  ·(obtain ⟨hcz, hfz⟩ := bcell hwz; go_simp; try (with_reducible rfl))
  simp only [Zp, Zq, Zr, Zs]
  refine WpH.vD 2 (some 17) ?_ rfl rfl (by kernel_rfl) (fun _ _ _ h => h) rfl (fun wz hwz => ?_) ?_
  rotate_left
  ·go_simp; try (with_reducible rfl)
  simp only [Zp, Zq, Zr, Zs]
  refine WpH.vD 3 (some 18) ?_ rfl rfl (by kernel_rfl) (fun _ _ _ h => h) rfl (fun wz hwz => ?_) ?_
  rotate_left
  ·go_simp; try (with_reducible rfl)
  simp only [Zp, Zq, Zr, Zs]
  refine WpH.vD 4 (some 19) ?_ rfl rfl (by kernel_rfl) (fun _ _ _ h => h) rfl (fun wz hwz => ?_) ?_
  rotate_left
  ·go_simp; try (with_reducible rfl)
  simp only [Zp, Zq, Zr, Zs]
  refine WpH.vD 5 (some 20) ?_ rfl rfl (by kernel_rfl) (fun _ _ _ h => h) rfl (fun wz hwz => ?_) ?_
  rotate_left
  ·go_simp; try (with_reducible rfl)
  simp only [Zp, Zq, Zr, Zs]
  refine WpH.vD 6 (some 21) ?_ rfl rfl (by kernel_rfl) (fun _ _ _ h => h) rfl (fun wz hwz => ?_) ?_
  rotate_left
  ·(obtain ⟨hcz, hfz⟩ := bcell hwz; go_simp; try (with_reducible rfl))
  simp only [Zp, Zq, Zr, Zs]
  refine WpH.vD 7 (some 22) ?_ rfl rfl (by kernel_rfl) (fun _ _ _ h => h) rfl (fun wz hwz => ?_) ?_
  rotate_left
  ·go_simp; try (with_reducible rfl)
  simp only [Zp, Zq, Zr, Zs]
  refine WpH.vD 8 (some 23) ?_ rfl rfl (by kernel_rfl) (fun _ _ _ h => h) rfl (fun wz hwz => ?_) ?_
  rotate_left
  ·go_simp; try (with_reducible rfl)
  simp only [Zp, Zq, Zr, Zs]
  refine WpH.vD 9 (some 24) ?_ rfl rfl (by kernel_rfl) (fun _ _ _ h => h) rfl (fun wz hwz => ?_) ?_
  rotate_left
  ·go_simp; try (with_reducible rfl)
  simp only [Zp, Zq, Zr, Zs]
  refine WpH.vD 10 (some 4) ?_ rfl rfl (by kernel_rfl) (fun _ _ _ h => h) rfl (fun wz hwz => ?_) ?_
  rotate_left
  ·go_simp; try (with_reducible rfl)
  simp only [Zp, Zq, Zr, Zs]
  refine WpH.doneB (by kernel_rfl) (fun w2 hw2 => ?_)
  (try simp only [List.drop_succ_cons]); (try simp only [List.drop_zero]); (try simp only [Nat.reduceSub]); (try simp only [List.take_succ_cons]); (try simp only [List.take_zero])
  clear s0 s1 s2 s3 s4 s5 s6 s7 s8 s9 s10 s11 s12 r0 r1 r2 r3 r4 r5 r6 r7 r8 r9 r10 r11 r12 v0 v1 v2 v3 v4 v5 v6 v7 v8 v9 v10 v11 v12
  replace hbw := bl_call hbw (Nat.le_refl _) hw2
  replace hs := hs.call hw2
  replace hr := hr.call hw2
  replace hv := hv.call hw2
  obtain ⟨⟨s0, s1, s2, s3, s4, s5⟩, ⟨s6, s7, s8, s9, s10, s11⟩, s12⟩ := hs.get6
  obtain ⟨⟨r0, r1, r2, r3, r4, r5⟩, ⟨r6, r7, r8, r9, r10, r11⟩, r12⟩ := hr.get6
  obtain ⟨⟨v0, v1, v2, v3, v4, v5⟩, ⟨v6, v7, v8, v9, v10, v11⟩, v12⟩ := hv.get6
  go_wp2
  have hS7 : SmS w k f b l m c 5 F w2.drew := ⟨hbw.drew, hs.drew, hr.drew, _, _, _, hv.drew⟩
  obtain ⟨CT, hCT, hCT2⟩ : ∃ CT : Nat, c.tmod 4 = (CT : Int) ∧ (1 : Int) + (CT : Int) = (C : Int) := ⟨(c % 4).toNat, by rw [Int.tmod_eq_emod_of_nonneg hc0]; omega, by omega⟩
  have hwCT : IntKind.i64.wrap (CT : Int) = (CT : Int) := IntWalk.i64_in _ (by omega)
  have hwC : IntKind.i64.wrap (C : Int) = (C : Int) := IntWalk.i64_in _ (by omega)
  have hSH : Clo (fun wz => SmS w k f b l m c 5 F wz ∧ ∃ x3 x5 : Value, Vs wz (w.heap.size + 1 + 1) [.int .u8 5, .int .u8 F, .int .i64 0, x3, .int .i64 0, x5]) := (SmS.clo w k f b l m c 5 F).and fun _ _ h hb => let ⟨y, z, hv⟩ := h; ⟨y, z, hv.call hb⟩
  have hS8 : SmS w k f b l m c 5 F w2.drew ∧ ∃ x3 x5 : Value, Vs w2.drew (w.heap.size + 1 + 1) [.int .u8 5, .int .u8 F, .int .i64 0, x3, .int .i64 0, x5] := ⟨hS7, _, _, hv.drew⟩
  clear s0 s1 s2 s3 s4 s5 s6 s7 s8 s9 s10 s11 s12 r0 r1 r2 r3 r4 r5 r6 r7 r8 r9 r10 r11 r12 v0 v1 v2 v3 v4 v5 v6 v7 v8 v9 v10 v11 v12
  refine region_GS _ hSH hS8 (n := 8) (m := 10) (f := 8) (by kernel_rfl) (by kernel_rfl) rfl ?_
  refine WpG.vD 0 (some 57) ?_ rfl rfl (by kernel_rfl) (fun _ _ _ h => h) rfl (fun wz hwz => ?_) ?_
  rotate_left
  ·go_simp; try (with_reducible rfl)
  simp only [Zp, Zq, Zr, Zs]
  refine WpG.vD 1 (some 58) ?_ rfl rfl (by kernel_rfl) (fun _ _ _ h => h) rfl (fun wz hwz => ?_) ?_
  rotate_left
  ·go_simp; try (with_reducible rfl)
  simp only [Zp, Zq, Zr, Zs]
  refine WpG.vD 2 (some 59) ?_ rfl rfl (by kernel_rfl) (fun _ _ _ h => h) rfl (fun wz hwz => ?_) ?_
  rotate_left
  ·(obtain ⟨⟨_, hsz, _, _⟩, _⟩ := hwz; obtain ⟨⟨s0, s1, s2, s3, s4, s5⟩, _, s12⟩ := hsz.get6; go_simp; try (with_reducible rfl))
  simp only [Zp, Zq, Zr, Zs]
  refine WpG.vD 3 (some 60) ?_ rfl rfl (by kernel_rfl) (fun _ _ _ h => h) rfl (fun wz hwz => ?_) ?_
  rotate_left
  ·go_simp; try (with_reducible rfl)
  simp only [Zp, Zq, Zr, Zs]
  refine WpG.vD 4 (some 61) ?_ rfl rfl (by kernel_rfl) (fun _ _ _ h => h) rfl (fun wz hwz => ?_) ?_
  rotate_left
  ·go_simp; try (with_reducible rfl)
  simp only [Zp, Zq, Zr, Zs]
  refine WpG.vD 5 (some 62) ?_ rfl rfl (by kernel_rfl) (fun _ _ _ h => h) rfl (fun wz hwz => ?_) ?_
  rotate_left
  ·go_simp; try (with_reducible rfl)
  simp only [Zp, Zq, Zr, Zs]
  refine WpG.vD 6 (some 63) ?_ rfl rfl (by kernel_rfl) (fun _ _ _ h => h) rfl (fun wz hwz => ?_) ?_
  rotate_left
  ·go_simp; try (with_reducible rfl)
  simp only [Zp, Zq, Zr, Zs]
  refine WpG.oneSkip 7 none rfl rfl (by kernel_rfl) (fun wz => ∃ x5 : Value, Vs wz (w.heap.size + 1 + 1) [.int .u8 5, .int .u8 F, .int .i64 0, .int .i64 L, .int .i64 0, x5]) (fun _ _ h hb => let ⟨z, hv⟩ := h; ⟨z, hv.call hb⟩) rfl (fun wz hwz => ?_) ?_
  ·obtain ⟨⟨hbz, hsz, hrz, _⟩, x3, x5, hvz⟩ := hwz; obtain ⟨⟨v0, v1, v2, v3, v4, v5⟩, ⟨v6, v7, v8, v9, v10, v11⟩, v12⟩ := hvz.get6; exact ⟨wz.setCell ⟨w.heap.size + 1 + 1, 3, none⟩ (.int .i64 L), by go_simp; try (with_reducible rfl), ⟨⟨bl_set hbz (by dsimp only; omega) _, hsz.far (by simp; omega) _, hrz.far (by simp) _, _, _, _, hvz.put 3 (by simp) _⟩, _, _, hvz.put 3 (by simp) _⟩, _, hvz.put 3 (by simp) _⟩
  simp only [Act.put]
  refine WpG.done (by kernel_rfl) (fun w5 hS => ?_)
  (try simp only [List.drop_succ_cons]); (try simp only [List.drop_zero]); (try simp only [Nat.reduceSub]); (try simp only [List.take_succ_cons]); (try simp only [List.take_zero])
  obtain ⟨⟨⟨hb5, hs5, hr5, _⟩, _⟩, x5, hv5⟩ := hS
  have hrr := (hr5.far (p := ⟨w.heap.size + 1 + 1, 5, none⟩) (by simp) (.int .i64 C)).far (p := ⟨w.heap.size + 1 + 1, 4, none⟩) (by simp) (.int .i64 M)
  have hbw2 := bl_set (p := ⟨w.heap.size + 1 + 1, 4, none⟩) (bl_set (p := ⟨w.heap.size + 1 + 1, 5, none⟩) hb5 (by simp; omega) (.int .i64 C)) (by simp; omega) (.int .i64 M)
  clear hs hr hv hbw hS7 hw2 hS8
  obtain ⟨⟨v0, v1, v2, v3, v4, v5⟩, ⟨v6, v7, v8, v9, v10, v11⟩, v12⟩ := hv5.get6
  obtain ⟨⟨r0, r1, r2, r3, r4, r5⟩, ⟨r6, r7, r8, r9, r10, r11⟩, r12⟩ := hr5.get6
  obtain ⟨⟨s0, s1, s2, s3, s4, s5⟩, ⟨s6, s7, s8, s9, s10, s11⟩, s12⟩ := hs5.get6
  go_wp2
  have hres := Vs.set6 hrr (.int .u8 5) (.int .u8 F) (.int .i64 0) (.int .i64 L) (.int .i64 M) (.int .i64 C)
  have hble : w.heap.size ≤ w.heap.size + 1 := by omega
  have hbr := bl_set (p := ⟨w.heap.size + 1, 5, none⟩) (bl_set (p := ⟨w.heap.size + 1, 4, none⟩) (bl_set (p := ⟨w.heap.size + 1, 3, none⟩) (bl_set (p := ⟨w.heap.size + 1, 2, none⟩) (bl_set (p := ⟨w.heap.size + 1, 1, none⟩) (bl_set (p := ⟨w.heap.size + 1, 0, none⟩) hbw2 hble (.int .u8 5)) hble (.int .u8 F)) hble (.int .i64 0)) hble (.int .i64 L)) hble (.int .i64 M)) hble (.int .i64 C)
  exact bodyPost_ret (results_cir hres rfl rfl) rfl ⟨rfl, hbr⟩

end Go.Proofs.YtfbfbijkkbflkaaGreatDoor

namespace Go.Proofs.YtfbfbijkkbflkaaGreatDoor
open Go.RowKit Fm
set_option linter.unusedVariables false
set_option maxRecDepth 100000

structure Raw where
 k : Int
 f : Int
 b : Int
 l : Int
 m : Int
 c : Int
def Raw.val (x : Raw) : Value := .agg #[.int .u8 x.k, .int .u8 x.f, .int .i64 x.b, .int .i64 x.l, .int .i64 x.m, .int .i64 x.c]
def Raw.rval (x : Raw) : Value := .agg #[.int .i64 x.k, .int .i64 x.f, .int .i64 x.b, .int .i64 x.l, .int .i64 x.m, .int .i64 x.c]
structure Raw.Is (x : Raw) (F : Nat) (y : CK) : Prop where
 fld : IsF F
 ok : y.ok
 calls : ¬ 511 < y.calls
 val : x.val = y.val F
 rval : x.rval = y.rval F

end Go.Proofs.YtfbfbijkkbflkaaGreatDoor

namespace Go.Proofs.YtfbfbijkkbflkaaGreatDoor
open Go.RowKit Fm
set_option linter.unusedVariables false
set_option maxRecDepth 100000

theorem nK_small {f : Nat} (hf : IsF f) {a b : Nat} (ha : a < 4294967296) (hb : b < 4294967296) (h : nK f a = nK f b) : a = b := by
 have h1 := congrArg (fun x : Fin (Pm f) => ((x.val : Nat) : Int)) h
 simp only [nK_kI, kI_val] at h1
 rcases hf.or with rfl | rfl
 ·rw [show ((Pm 1 : Nat) : Int) = 18446744069414584321 from rfl] at h1
  omega
 ·rw [show ((Pm 2 : Nat) : Int) = 340282366920938462946865773367900766209 from rfl] at h1
  omega

def Cnt {f : Nat} (l : KL f) (N k s : Nat) : Prop := nK f s = ksum (l.take (min k N))
theorem Cnt.zero {f : Nat} (l : KL f) (N : Nat) : Cnt l N 0 0 := by
 unfold Cnt
 rw [nK_zero, Nat.zero_min]
 rfl
theorem Cnt.out {f : Nat} {l : KL f} {N k s : Nat} (h : Cnt l N k s) (hk : ¬ k < N) : Cnt l N (k + 1) s := by
 unfold Cnt at *
 rw [show min (k + 1) N = min k N by omega]
 exact h
theorem Cnt.no {f : Nat} {l : KL f} {N k s : Nat} (h : Cnt l N k s) (hx : l[k]? = some 0) : Cnt l N (k + 1) s := by
 by_cases hk : k < N
 ·unfold Cnt at *
  rw [show min (k + 1) N = k + 1 by omega, ksum_take l k _ hx, h, show min k N = k by omega]
  grind
 ·exact h.out hk
def Num {f : Nat} (l : KL f) (j v : Nat) : Prop := nK f v = knum (l.take j) ∧ v < 2 ^ j
theorem Num.zero {f : Nat} (l : KL f) : Num l 0 0 := ⟨by rw [nK_zero]; rfl, by decide⟩
theorem Num.no {f : Nat} {l : KL f} {j v : Nat} (h : Num l j v) (hx : l[j]? = some 0) : Num l (j + 1) v := by
 refine ⟨?_, ?_⟩
 ·rw [knum_take l j _ hx, ← h.1]
  grind
 ·have := h.2
  rw [Nat.pow_succ]
  omega
section
variable {f : Nat} (hf : IsF f)
include hf

end

end Go.Proofs.YtfbfbijkkbflkaaGreatDoor

namespace Go.Proofs.YtfbfbijkkbflkaaGreatDoor
open Go.RowKit Fm
set_option linter.unusedVariables false
set_option maxRecDepth 100000

theorem SlK.cells {f : Nat} {w : World} {B b o n c k : Nat} {l : KL f} {x : Fin (Pm f)} (h : SlK w B (.slice (some ⟨b, o, none⟩) n c) l) (hk : l[k]? = some x) : b < B ∧ w.cell? ⟨b, o + k * 2, none⟩ = some (.int .u64 (lo x)) ∧ w.cell? ⟨b, o + k * 2 + 1, none⟩ = some (.int .u64 (hi x)) := by
 obtain ⟨A', c', hv, h1, h2, h3⟩ := h
 obtain ⟨b', o', k1, k2, k4⟩ := h3 (by have := (List.getElem?_eq_some_iff.1 hk).1; omega)
 injection hv with e1 e2 e3
 rw [k1] at e1
 injection e1 with e1
 injection e1 with e4 e5 e6
 subst e4
 subst e5
 exact ⟨k2, (k4.kat hk).1, (k4.kat hk).2⟩

def acc {f : Nat} (g : Nat → Fin (Pm f)) : Nat → Fin (Pm f)
 | 0 => 0
 | n + 1 => acc g n + g n

theorem acc_congr {f : Nat} {g h : Nat → Fin (Pm f)} : ∀ n, (∀ i, i < n → g i = h i) → acc g n = acc h n
 | 0, _ => rfl
 | n + 1, H => by
  show acc g n + g n = acc h n + h n
  rw [acc_congr n (fun i hi => H i (by omega)), H n (by omega)]
theorem acc_zero {f : Nat} (g : Nat → Fin (Pm f)) (m : Nat) : ∀ n, (∀ i, m ≤ i → i < m + n → g i = 0) → acc g (m + n) = acc g m
 | 0, _ => rfl
 | n + 1, H => by
  show acc g (m + n) + g (m + n) = _
  rw [acc_zero g m n (fun i h1 h2 => H i h1 (by omega)), H (m + n) (by omega) (by omega)]
  grind
theorem acc_shift {f : Nat} (g : Nat → Fin (Pm f)) (m : Nat) : ∀ n, acc g (m + n) = acc g m + acc (fun i => g (m + i)) n
 | 0 => by
  show acc g m = acc g m + 0
  grind
 | n + 1 => by
  show acc g (m + n) + g (m + n) = acc g m + (acc (fun i => g (m + i)) n + g (m + n))
  rw [acc_shift g m n]
  grind
theorem acc_flat {f : Nat} (h : Nat → Fin (Pm f)) (C : Nat) : ∀ q, acc (fun k => acc (fun i => h (k * C + i)) C) q = acc h (q * C)
 | 0 => by rw [Nat.zero_mul]; rfl
 | q + 1 => by
  show acc (fun k => acc (fun i => h (k * C + i)) C) q + acc (fun i => h (q * C + i)) C = _
  rw [acc_flat h C q, Nat.succ_mul, acc_shift]

theorem kpw_kpow {f : Nat} (x : Fin (Pm f)) : ∀ n, kpw x n = Fm.kpow x n
 | 0 => rfl
 | n + 1 => by rw [kpw, kpw_kpow x n, Fm.kpow_succ]
theorem mul_kinvK {f : Nat} (x : Fin (Pm f)) (hx : x ≠ 0) : x * kinv x = 1 := by
 have h := Fm.mul_kinv x hx
 unfold kinv
 rw [kpw_kpow]
 exact h
theorem kinv_one {f : Nat} : kinv (1 : Fin (Pm f)) = 1 := by
 have h := mul_kinvK (1 : Fin (Pm f)) k_one_ne
 grind
theorem kinv_two {f : Nat} (hf : IsF f) : nK f 2 ≠ 0 ∧ kinv (nK f 2) + kinv (nK f 2) = 1 := by
 have h0 : nK f 2 ≠ 0 := fun h => by
  have := nK_small hf (a := 2) (b := 0) (by decide) (by decide) (by rw [h, nK_zero])
  omega
 refine ⟨h0, ?_⟩
 have h := mul_kinvK (nK f 2) h0
 have h2 : nK f 2 = 1 + 1 := by rw [show 2 = 1 + 1 from rfl, nK_add, nK_one]
 generalize kinv (nK f 2) = k at h ⊢
 rw [h2] at h
 grind

def pairL {f : Nat} (v : KL f) (r part : Fin (Pm f)) (s i : Nat) : KL f :=
 if s + i < v.length then [kpw r (i + 1) * v.getD (s + i) 0, v.getD (s + i) 0 - part] else [0, 0]
def argL {f : Nat} (v : KL f) (r part : Fin (Pm f)) (s : Nat) : Nat → KL f
 | 0 => []
 | i + 1 => argL v r part s i ++ pairL v r part s i
theorem pairL_length {f : Nat} (v : KL f) (r part : Fin (Pm f)) (s i : Nat) : (pairL v r part s i).length = 2 := by unfold pairL; split <;> rfl
theorem argL_length {f : Nat} (v : KL f) (r part : Fin (Pm f)) (s : Nat) : ∀ i, (argL v r part s i).length = 2 * i
 | 0 => rfl
 | i + 1 => by
  show (argL v r part s i ++ pairL v r part s i).length = _
  rw [List.length_append, argL_length v r part s i, pairL_length]
  omega
theorem pairL_in {f : Nat} {v : KL f} {r part x : Fin (Pm f)} {s i : Nat} (h : v[s + i]? = some x) : pairL v r part s i = [kpw r (i + 1) * x, x - part] := by
 obtain ⟨hlt, he⟩ := List.getElem?_eq_some_iff.1 h
 unfold pairL
 rw [if_pos hlt, List.getD_eq_getElem?_getD, h]
 rfl
theorem pairL_out {f : Nat} {v : KL f} {r part : Fin (Pm f)} {s i : Nat} (h : ¬ s + i < v.length) : pairL v r part s i = [0, 0] := by
 unfold pairL
 rw [if_neg h]

def argOf {f : Nat} (y : CK) (v j : KL f) (part : Fin (Pm f)) (k : Nat) : KL f :=
 match y with
 | .count => [v.getD 0 0, v.getD 0 0]
 | .sum _ => [v.getD k 0]
 | .vec _ _ c => argL v (j.getD k 0) part (k * c) c
 | .hist _ c => argL v (j.getD k 0) part (k * c) c
 | .multi _ _ c => argL v (j.getD k 0) part (k * c) c

theorem getD_of {f : Nat} {l : KL f} {i : Nat} {x : Fin (Pm f)} (h : l[i]? = some x) : l.getD i 0 = x := by
 rw [List.getD_eq_getElem?_getD, h]
 rfl

def bitsF {f : Nat} (ans : Nat → Fin (Pm f)) (r : Fin (Pm f)) (n : Nat) : Fin (Pm f) := acc (fun i => kpw r (i + 1) * ans i) n
theorem bitsF_zero {f : Nat} (ans : Nat → Fin (Pm f)) (r : Fin (Pm f)) : bitsF ans r 0 = 0 := rfl
def runF {f : Nat} (y : CK) (v j : KL f) (part : Fin (Pm f)) (ans : Nat → Fin (Pm f)) : Fin (Pm f) :=
 match y with
 | .count => ans 0 - v.getD 0 0
 | .sum b => bitsF ans (j.getD 0 0) b
 | .vec b l c => acc ans (CK.vec b l c).calls
 | .hist l c => acc ans (CK.hist l c).calls + j.getD (j.length - 1) 0 * (ksum (v.take l) - part)
 | .multi l m c => acc ans (CK.multi l m c).calls + j.getD (j.length - 1) 0 * (ksum (v.take l) - knum (v.drop l) + nK f (offN m) * part)

/-! ### shares -/
def SumL {f : Nat} (a b v : KL f) : Prop := a.length = v.length ∧ b.length = v.length ∧ ∀ (i : Nat) (x y z : Fin (Pm f)), a[i]? = some x → b[i]? = some y → v[i]? = some z → x + y = z
theorem SumL.at {f : Nat} {a b v : KL f} (h : SumL a b v) {i : Nat} (hi : i < v.length) : ∃ x y, a[i]? = some x ∧ b[i]? = some y ∧ v[i]? = some (x + y) := by
 obtain ⟨x, h1⟩ : ∃ x, a[i]? = some x := ⟨_, List.getElem?_eq_getElem (by rw [h.1]; exact hi)⟩
 obtain ⟨y, h2⟩ : ∃ x, b[i]? = some x := ⟨_, List.getElem?_eq_getElem (by rw [h.2.1]; exact hi)⟩
 have h3 : v[i]? = some v[i] := List.getElem?_eq_getElem hi
 have h4 := h.2.2 i _ _ _ h1 h2 h3
 exact ⟨_, _, h1, h2, by rw [h3, h4]⟩
theorem SumL.ksum {f : Nat} {a b v : KL f} (h : SumL a b v) : ∀ n, n ≤ v.length → ksum (a.take n) + ksum (b.take n) = ksum (v.take n)
 | 0, _ => by
  show (0 : Fin (Pm f)) + 0 = 0
  grind
 | n + 1, hn => by
  obtain ⟨x, y, h1, h2, h3⟩ := h.at (i := n) (by omega)
  rw [ksum_take _ _ _ h1, ksum_take _ _ _ h2, ksum_take _ _ _ h3, ← SumL.ksum h n (by omega)]
  grind
theorem SumL.knum {f : Nat} {a b v : KL f} (h : SumL a b v) : ∀ d, d ≤ v.length → knum (a.drop (v.length - d)) + knum (b.drop (v.length - d)) = knum (v.drop (v.length - d))
 | 0, _ => by
  rw [Nat.sub_zero, List.drop_length, show a.drop v.length = [] by rw [← h.1]; exact List.drop_length, show b.drop v.length = [] by rw [← h.2.1]; exact List.drop_length]
  show (0 : Fin (Pm f)) + 0 = 0
  grind
 | d + 1, hd => by
  obtain ⟨x, y, h1, h2, h3⟩ := h.at (i := v.length - (d + 1)) (by omega)
  have ih := SumL.knum h d (by omega)
  rw [knum_drop _ _ _ h1, knum_drop _ _ _ h2, knum_drop _ _ _ h3, show v.length - (d + 1) + 1 = v.length - d by omega, ← ih]
  grind

/-! ### directly -/
def dirG {f : Nat} (v j : KL f) (s i : Nat) : Fin (Pm f) := kpw (j.getD (i / s) 0) (i % s + 1) * (v.getD i 0 * (v.getD i 0 - 1))
def CK.size : CK → Nat
 | .sum b => b
 | y => y.c
def dirF {f : Nat} (y : CK) (v j : KL f) : Fin (Pm f) :=
 match y with
 | .count => v.getD 0 0 * v.getD 0 0 - v.getD 0 0
 | .sum b => acc (dirG v j b) b
 | .vec b l c => acc (dirG v j c) (l * b)
 | .hist l c => acc (dirG v j c) l + j.getD (j.length - 1) 0 * (ksum (v.take l) - 1)
 | .multi l m c => acc (dirG v j c) (l + Lib.bitLen m) + j.getD (j.length - 1) 0 * (ksum (v.take l) + nK f (offN m) - knum (v.drop l))

theorem psum_append {f : Nat} (l m : KL f) : ∀ i, 2 * i ≤ l.length → psum (l ++ m) i = psum l i
 | 0, _ => rfl
 | i + 1, h => by
  show psum (l ++ m) i + (l ++ m).getD (2 * i) 0 * (l ++ m).getD (2 * i + 1) 0 = psum l i + l.getD (2 * i) 0 * l.getD (2 * i + 1) 0
  rw [psum_append l m i (by omega)]
  simp only [List.getD_eq_getElem?_getD]
  rw [List.getElem?_append_left (by omega), List.getElem?_append_left (by omega)]
theorem psum_argL {f : Nat} (v : KL f) (r : Fin (Pm f)) (s : Nat) : ∀ i, psum (argL v r 1 s i) i = acc (fun i => if s + i < v.length then kpw r (i + 1) * (v.getD (s + i) 0 * (v.getD (s + i) 0 - 1)) else 0) i
 | 0 => rfl
 | i + 1 => by
  have hl := argL_length v r 1 s i
  show psum (argL v r 1 s i ++ pairL v r 1 s i) i + (argL v r 1 s i ++ pairL v r 1 s i).getD (2 * i) 0 * (argL v r 1 s i ++ pairL v r 1 s i).getD (2 * i + 1) 0 = _ + _
  rw [psum_append _ _ _ (by omega), psum_argL v r s i]
  simp only [List.getD_eq_getElem?_getD]
  rw [List.getElem?_append_right (by omega), List.getElem?_append_right (by omega), hl, show 2 * i - 2 * i = 0 by omega, show 2 * i + 1 - 2 * i = 1 by omega]
  unfold pairL
  by_cases hlt : s + i < v.length
  ·rw [if_pos hlt, if_pos hlt]
   simp only [List.getD_eq_getElem?_getD, List.getElem?_cons_zero, List.getElem?_cons_succ, Option.getD_some]
   grind
  ·rw [if_neg hlt, if_neg hlt]
   simp only [List.getElem?_cons_zero, List.getElem?_cons_succ, Option.getD_some]
   grind

theorem chunks_dir {f : Nat} (v j : KL f) (c : Nat) (hc : 1 ≤ c) (q : Nat) (hq : v.length ≤ q * c) : acc (fun k => psum (argL v (j.getD k 0) 1 (k * c) c) c) q = acc (dirG v j c) v.length := by
 have h1 : acc (fun k => psum (argL v (j.getD k 0) 1 (k * c) c) c) q = acc (fun k => acc (fun i => (fun n => if n < v.length then dirG v j c n else 0) (k * c + i)) c) q := by
  refine acc_congr q fun k hk => ?_
  rw [psum_argL]
  refine acc_congr c fun i hi => ?_
  have e1 : (k * c + i) / c = k := by rw [Nat.mul_comm, Nat.mul_add_div (by omega), Nat.div_eq_of_lt hi, Nat.add_zero]
  have e2 : (k * c + i) % c = i := by rw [Nat.mul_comm, Nat.mul_add_mod, Nat.mod_eq_of_lt hi]
  show (if k * c + i < v.length then _ else _) = if k * c + i < v.length then dirG v j c (k * c + i) else 0
  unfold dirG
  rw [e1, e2]
 rw [h1, acc_flat (fun n => if n < v.length then dirG v j c n else 0) c q]
 obtain ⟨d, hd⟩ : ∃ d, q * c = v.length + d := ⟨q * c - v.length, by omega⟩
 rw [hd, acc_zero _ _ d (fun i h1 h2 => if_neg (by omega))]
 exact acc_congr _ fun i hi => if_pos hi

theorem runF_dir {f : Nat} (y : CK) (hy : y.ok) (v j : KL f) (hl : v.length = y.nin) : runF y v j 1 (fun k => gval (y.gad f) (argOf y v j 1 k)) = dirF y v j := by
 cases y with
 | count =>
  show (0 : Fin (Pm f)) + v.getD 0 0 * v.getD 0 0 - v.getD 0 0 = v.getD 0 0 * v.getD 0 0 - v.getD 0 0
  grind
 | sum b =>
  refine acc_congr b fun i hi => ?_
  show kpw (j.getD 0 0) (i + 1) * (((0 * v.getD i 0 + 1) * v.getD i 0 + -1) * v.getD i 0 + 0) = kpw (j.getD (i / b) 0) (i % b + 1) * (v.getD i 0 * (v.getD i 0 - 1))
  rw [Nat.div_eq_of_lt hi, Nat.mod_eq_of_lt hi]
  grind
 | vec bb l c =>
  have h := chunks_dir v j c hy.2.2.1 (CK.vec bb l c).calls (by rw [hl]; exact ceil_spec hy.2.2.1)
  rw [hl] at h
  exact h
 | hist l c =>
  have h := chunks_dir v j c hy.2.1 (CK.hist l c).calls (by rw [hl]; exact ceil_spec hy.2.1)
  rw [hl] at h
  show acc _ _ + _ = acc (dirG v j c) l + _
  exact congrArg (· + j.getD (j.length - 1) 0 * (ksum (v.take l) - 1)) h
 | multi l m c =>
  have h := chunks_dir v j c hy.2.2.1 (CK.multi l m c).calls (by rw [hl]; exact ceil_spec hy.2.2.1)
  rw [hl] at h
  refine (congrArg (· + j.getD (j.length - 1) 0 * (ksum (v.take l) - knum (v.drop l) + nK f (offN m) * 1)) h).trans ?_
  show acc (dirG v j c) (l + Lib.bitLen m) + _ = acc (dirG v j c) (l + Lib.bitLen m) + _
  grind

end Go.Proofs.YtfbfbijkkbflkaaGreatDoor

namespace Go.Proofs.YtfbfbijkkbflkaaGreatDoor
open Go.RowKit Fm
set_option linter.unusedVariables false
set_option maxRecDepth 100000

structure Exc (S : Nat → Prop) (B : Nat) (w w' : World) : Prop where
 os : w'.os = w.os
 tape : w'.tape = w.tape
 output : w'.output = w.output
 size : w.heap.size ≤ w'.heap.size
 block : ∀ k, k < B → ¬ S k → w'.heap[k]? = w.heap[k]?

section
variable {S : Nat → Prop} {B : Nat} {a w w' w'' : World}
theorem exc_of (h : Below B w w') : Exc S B w w' := ⟨h.os, h.tape, h.output, h.size, fun k hk _ => h.block k hk⟩
theorem Exc.trans (h : Exc S B w w') (k : Exc S B w' w'') : Exc S B w w'' :=
 ⟨k.os.trans h.os, k.tape.trans h.tape, k.output.trans h.output, Nat.le_trans h.size k.size, fun i hi hn => (k.block i hi hn).trans (h.block i hi hn)⟩
theorem Exc.mono {B' : Nat} (h : Exc S B w w') (hB : B' ≤ B) : Exc S B' w w' := ⟨h.os, h.tape, h.output, h.size, fun k hk => h.block k (by omega)⟩
theorem Exc.less {T : Nat → Prop} (h : Exc S B w w') (hT : ∀ k, k < B → S k → T k) : Exc T B w w' := ⟨h.os, h.tape, h.output, h.size, fun k hk hn => h.block k hk fun hs => hn (hT k hk hs)⟩
theorem Exc.below (h : Exc S B w w') (hn : ∀ k, k < B → ¬ S k) : Below B w w' := ⟨h.os, h.tape, h.output, h.size, fun k hk => h.block k hk (hn k hk)⟩
theorem Exc.cell (h : Exc S B w w') {p : Addr} (hp : p.block < B) (hn : ¬ S p.block) : w'.cell? p = w.cell? p := World.cell?_of_block (h.block _ hp hn)
theorem Exc.frozen (h : Exc S B w w') {p : Addr} (hp : p.block < B) (hn : ¬ S p.block) : w'.frozen? p = w.frozen? p := World.frozen?_of_block (h.block _ hp hn)

theorem Exc.call (h : Exc S a.heap.size a w) (k : Below w.heap.size w w') : Exc S a.heap.size a w' := h.trans ((exc_of k).mono h.size)
theorem Exc.more {T : Nat → Prop} (h : Exc S a.heap.size a w) (k : Exc T w.heap.size w w') (hT : ∀ q, T q → S q ∨ a.heap.size ≤ q) : Exc S a.heap.size a w' :=
 h.trans ((k.mono h.size).less fun q hq ht => (hT q ht).resolve_right (by omega))
theorem Exc.st {b : Nat} (h : Exc S B a w) (hp : B ≤ b) (x y : Value) : Exc S B a ((w.setCell ⟨b, 0, none⟩ x).setCell ⟨b, 1, none⟩ y) := h.trans (exc_of (bl_st (Below.refl B w) hp x y))

theorem Exc.one {S' : Nat → Prop} (w : World) {b : Nat} (hb : S' b) (x y : Value) : Exc S' w.heap.size w ((w.setCell ⟨b, 0, none⟩ x).setCell ⟨b, 1, none⟩ y) :=
 ⟨rfl, rfl, rfl, by simp [World.setCell], fun k hk hn => by
  have hne : k ≠ b := fun e => hn (e ▸ hb)
  rw [Below.heap_setCell _ _ y k hne, Below.heap_setCell _ _ x k hne]⟩

theorem Exc.two (w : World) (b b' : Nat) (x y x' y' : Value) : Exc (fun q => q = b ∨ q = b') w.heap.size w ((((w.setCell ⟨b, 0, none⟩ x).setCell ⟨b, 1, none⟩ y).setCell ⟨b', 0, none⟩ x').setCell ⟨b', 1, none⟩ y') :=
 ⟨rfl, rfl, rfl, by simp [World.setCell], fun k hk hn => by
  have h1 : k ≠ b := fun e => hn (.inl e)
  have h2 : k ≠ b' := fun e => hn (.inr e)
  rw [Below.heap_setCell _ _ y' k h2, Below.heap_setCell _ _ x' k h2, Below.heap_setCell _ _ y k h1, Below.heap_setCell _ _ x k h1]⟩
def Onl (g : Nat) (w w' : World) : Prop := Exc (fun q => q = g) w.heap.size w w'
theorem Onl.clo (g : Nat) (w : World) : Clo (Onl g w) := fun _ _ h hb => Exc.trans h ((exc_of hb).mono h.size)
theorem Onl.drew (g : Nat) (w : World) : Onl g w w.drew := exc_of ((Below.refl _ _).drew)
theorem Onl.more {g : Nat} (h : Onl g a w) (k : Exc (fun q => q = g) w.heap.size w w') : Onl g a w' := Exc.trans h (k.mono h.size)

structure St (I : (Nat → Prop) → World → Prop) (D : Nat → Prop) (w : World) : Prop where
 here : I D w
 lt : ∀ q, D q → q < w.heap.size
 keep : ∀ w w', I D w → (∀ q, D q → w'.heap[q]? = w.heap[q]?) → I D w'
theorem St.of {I : (Nat → Prop) → World → Prop} {D : Nat → Prop} (h : St I D w) (hs : w.heap.size ≤ w'.heap.size) (hb : ∀ q, D q → w'.heap[q]? = w.heap[q]?) : St I D w' :=
 ⟨h.keep _ _ h.here hb, fun q hq => Nat.lt_of_lt_of_le (h.lt q hq) hs, h.keep⟩
theorem St.call {I : (Nat → Prop) → World → Prop} {D : Nat → Prop} (h : St I D w) (hb : Below w.heap.size w w') : St I D w' := h.of hb.size fun q hq => hb.block q (h.lt q hq)
theorem St.exc {I : (Nat → Prop) → World → Prop} {D : Nat → Prop} (h : St I D w) (hn : ∀ q, D q → ¬ S q) (hb : Exc S w.heap.size w w') : St I D w' := h.of hb.size fun q hq => hb.block q (h.lt q hq) (hn q hq)
theorem St.st {I : (Nat → Prop) → World → Prop} {D : Nat → Prop} (h : St I D w) {b : Nat} (hn : ¬ D b) (x y : Value) : St I D ((w.setCell ⟨b, 0, none⟩ x).setCell ⟨b, 1, none⟩ y) :=
 h.of (by simp [World.setCell]) fun q hq => by
  have hne : q ≠ b := fun e => hn (e ▸ hq)
  rw [Below.heap_setCell _ _ y q hne, Below.heap_setCell _ _ x q hne]

theorem cell_exc {p : Addr} {v : Value} (h : w.cell? p = some v) (hn : ¬ S p.block) (hb : Exc S w.heap.size w w') : w'.cell? p = some v := (hb.cell (lt_of_cell h) hn).trans h
theorem V2.exc {b : Nat} {u v : Value} (h : V2 w b u v) (hn : ¬ S b) (hb : Exc S w.heap.size w w') : V2 w' b u v :=
 ⟨cell_exc h.c0 hn hb, cell_exc h.c1 hn hb, (hb.frozen (p := ⟨b, 0, none⟩) h.lt hn).trans h.f0, (hb.frozen (p := ⟨b, 1, none⟩) h.lt hn).trans h.f1, Nat.lt_of_lt_of_le h.lt hb.size⟩
theorem Vs.exc {b : Nat} {cs : List Value} (h : Vs w b cs) (hn : ¬ S b) (hb : Exc S w.heap.size w w') : Vs w' b cs :=
 ⟨fun i v hi => cell_exc (h.cell i v hi) hn hb, fun i hi => (hb.frozen (p := ⟨b, i, none⟩) h.lt hn).trans (h.frz i hi), Nat.lt_of_lt_of_le h.lt hb.size⟩
theorem V2.ask {T : Nat → Prop} {b : Nat} {u v : Value} (h : V2 w b u v) (hn : ¬ S b) (hb : Exc S w.heap.size w w') (hT : ∀ q, T q → S q ∨ w.heap.size ≤ q) : V2 w' b u v ∧ ¬ T b :=
 ⟨h.exc hn hb, fun ht => (hT b ht).elim hn fun h2 => by have := h.lt; omega⟩
theorem Vs.ask {T : Nat → Prop} {b : Nat} {cs : List Value} (h : Vs w b cs) (hn : ¬ S b) (hb : Exc S w.heap.size w w') (hT : ∀ q, T q → S q ∨ w.heap.size ≤ q) : Vs w' b cs ∧ ¬ T b :=
 ⟨h.exc hn hb, fun ht => (hT b ht).elim hn fun h2 => by have := h.lt; omega⟩
theorem BlkE.exc {b : Nat} {xs : List E} (h : BlkE w b xs) (hn : ¬ S b) (hb : Exc S w.heap.size w w') : BlkE w' b xs := (hb.block b h.lt hn).trans h
theorem V2.onl {g b : Nat} {u v : Value} (h : V2 w b u v) (hn : b ≠ g) (hb : Onl g w w') : V2 w' b u v := h.exc hn hb
theorem Vs.onl {g b : Nat} {cs : List Value} (h : Vs w b cs) (hn : b ≠ g) (hb : Onl g w w') : Vs w' b cs := h.exc hn hb
theorem RowE.exc {b o : Nat} {xs : List E} (h : RowE w b o xs) (hn : ¬ S b) (hb : Exc S w.heap.size w w') : RowE w' b o xs :=
 fun i e hi => ⟨cell_exc (h i e hi).1 hn hb, cell_exc (h i e hi).2 hn hb⟩

def SlX {f : Nat} (S : Nat → Prop) (w : World) (v : Value) (l : KL f) : Prop :=
 ∃ (A : Option Addr) (c : Nat), v = .slice A l.length c ∧ l.length ≤ c ∧ c ≤ 9223372036854775807 ∧ (0 < l.length → ∃ b o, A = some ⟨b, o, none⟩ ∧ b < w.heap.size ∧ ¬ S b ∧ RowE w b o (esK l))

variable {f : Nat} {v : Value} {l : KL f}
theorem SlX.toK (h : SlX S w v l) : SlK w w.heap.size v l := by
 obtain ⟨A, c, hv, h1, h2, h3⟩ := h
 refine ⟨A, c, hv, h1, h2, fun hl => ?_⟩
 obtain ⟨b, o, k1, k2, _, k3⟩ := h3 hl
 exact ⟨b, o, k1, k2, k3⟩
theorem SlX.exc (h : SlX S w v l) (hb : Exc S w.heap.size w w') : SlX S w' v l := by
 obtain ⟨A, c, hv, h1, h2, h3⟩ := h
 refine ⟨A, c, hv, h1, h2, fun hl => ?_⟩
 obtain ⟨b, o, k1, k2, k3, k4⟩ := h3 hl
 exact ⟨b, o, k1, Nat.lt_of_lt_of_le k2 hb.size, k3, k4.exc k3 hb⟩
theorem SlX.call (h : SlX S w v l) (hb : Below w.heap.size w w') : SlX S w' v l := h.exc (exc_of hb)
theorem SlK.out {B : Nat} (h : SlK w B v l) (hB : B ≤ w.heap.size) (hS : ∀ b, S b → B ≤ b) : SlX S w v l := by
 obtain ⟨A, c, hv, h1, h2, h3⟩ := h
 refine ⟨A, c, hv, h1, h2, fun hl => ?_⟩
 obtain ⟨b, o, k1, k2, k3⟩ := h3 hl
 exact ⟨b, o, k1, by omega, fun hs => by have := hS b hs; omega, k3⟩
theorem SlX.at {A : Option Addr} {n c k : Nat} {x : Fin (Pm f)} (h : SlX S w (.slice A n c) l) (hk : l[k]? = some x) : ∃ b o, A = some ⟨b, o, none⟩ ∧ b < w.heap.size ∧ w.cell? ⟨b, o + k * 2, none⟩ = some (.int .u64 (lo x)) ∧ w.cell? ⟨b, o + k * 2 + 1, none⟩ = some (.int .u64 (hi x)) := by
 obtain ⟨A', c', hv, h1, h2, h3⟩ := h
 obtain ⟨b, o, k1, k2, _, k4⟩ := h3 (by have := (List.getElem?_eq_some_iff.1 hk).1; omega)
 injection hv with e1 e2 e3
 exact ⟨b, o, e1.trans k1, k2, (k4.kat hk).1, (k4.kat hk).2⟩
theorem SlX.ofK {b o n c : Nat} (h : SlK w w.heap.size (.slice (some ⟨b, o, none⟩) n c) l) (hS : ¬ S b) : SlX S w (.slice (some ⟨b, o, none⟩) n c) l := by
 obtain ⟨A, c', hv, h1, h2, h3⟩ := h
 injection hv with e1 e2 e3
 subst e1
 subst e2
 subst e3
 refine ⟨_, _, rfl, h1, h2, fun hl => ?_⟩
 obtain ⟨b', o', k1, k2, k3⟩ := h3 hl
 injection k1 with k1
 injection k1 with k4 k5 k6
 subst k4
 subst k5
 exact ⟨_, _, rfl, k2, hS, k3⟩
theorem SlX.of {b o n c : Nat} (hn : l.length = n) (hc : n ≤ c) (hm : c ≤ 9223372036854775807) (hb : b < w.heap.size) (hS : ¬ S b) (hr : RowE w b o (esK l)) : SlX S w (.slice (some ⟨b, o, none⟩) n c) l := by
 subst hn
 exact ⟨_, _, rfl, hc, hm, fun _ => ⟨b, o, rfl, hb, hS, hr⟩⟩
end

structure Asked {f : Nat} (y : CK) (v j : KL f) (part : Fin (Pm f)) (g : Nat) (cap : Array Value) (Inv : Nat → (Nat → Prop) → World → Prop) (ans : Nat → Fin (Pm f)) (cd : Int) : Prop where
 ent : ∀ (args : Array Value) (w : World), (callFunc g args).run Tryz.prog w = .ok (.enter g args) w
 run : ∀ k D w va, k < y.calls → St (Inv k) D w → SlX D w va (argOf y v j part k) → Calls Tryz.prog g (#[va] ++ cap) w fun e w' => e = .returned (.tuple #[vK (ans k), .int .i64 cd]) ∧
  ∃ D', St (Inv (k + 1)) D' w' ∧ (∀ q, D' q → D q ∨ w.heap.size ≤ q) ∧ Exc D w.heap.size w w'

/-! ### what is known of worlds within a region in which the gadget is asked -/
section
variable {D D1 : Nat → Prop} {w0 w w' : World} {I : (Nat → Prop) → World → Prop}
def Rg (D : Nat → Prop) (w0 : World) (I : (Nat → Prop) → World → Prop) (w : World) : Prop := Exc D w0.heap.size w0 w ∧ St I D w
def Rh (D : Nat → Prop) (w0 : World) (I : (Nat → Prop) → World → Prop) (D1 : Nat → Prop) (w : World) : Prop := Exc D w0.heap.size w0 w ∧ St I D1 w ∧ ∀ q, D1 q → D q ∨ w0.heap.size ≤ q
def Nv (D : Nat → Prop) (w0 : World) (c : Nat) (w : World) : Prop := ¬ D c ∧ w0.heap.size ≤ c ∧ V2 w c (.int .u64 0) (.int .u64 0)
def Nw (D : Nat → Prop) (w0 : World) (c : Nat) (x y : Value) (w : World) : Prop := ¬ D c ∧ w0.heap.size ≤ c ∧ V2 w c x y
def Nb (D : Nat → Prop) (w0 : World) (b : Nat) (l : List E) (w : World) : Prop := ¬ D b ∧ w0.heap.size ≤ b ∧ BlkE w b l
theorem Exc.later (h : Exc D w0.heap.size w0 w) (hb : Below w.heap.size w w') : Exc D w0.heap.size w0 w' := h.trans ((exc_of hb).mono h.size)
theorem Rg.clo (D : Nat → Prop) (w0 : World) (I : (Nat → Prop) → World → Prop) : Clo (Rg D w0 I) := fun _ _ h hb => ⟨h.1.later hb, h.2.call hb⟩
theorem Rh.clo (D : Nat → Prop) (w0 : World) (I : (Nat → Prop) → World → Prop) (D1 : Nat → Prop) : Clo (Rh D w0 I D1) := fun _ _ h hb => ⟨h.1.later hb, h.2.1.call hb, h.2.2⟩
theorem Nv.clo (D : Nat → Prop) (w0 : World) (c : Nat) : Clo (Nv D w0 c) := fun _ _ h hb => ⟨h.1, h.2.1, h.2.2.call hb⟩
theorem Nb.clo (D : Nat → Prop) (w0 : World) (b : Nat) (l : List E) : Clo (Nb D w0 b l) := fun _ _ h hb => ⟨h.1, h.2.1, h.2.2.call hb⟩
theorem Nw.clo (D : Nat → Prop) (w0 : World) (c : Nat) (x y : Value) : Clo (Nw D w0 c x y) := fun _ _ h hb => ⟨h.1, h.2.1, h.2.2.call hb⟩
theorem Nv.write {c : Nat} (h : Rh D w0 I D1 w ∧ Nv D1 w0 c w) (x y : Value) : Rh D w0 I D1 ((w.setCell ⟨c, 0, none⟩ x).setCell ⟨c, 1, none⟩ y) ∧ Nw D1 w0 c x y ((w.setCell ⟨c, 0, none⟩ x).setCell ⟨c, 1, none⟩ y) :=
 ⟨⟨h.1.1.st h.2.2.1 x y, h.1.2.1.st h.2.1 x y, h.1.2.2⟩, h.2.1, h.2.2.1, h.2.2.2.set x y⟩
theorem Rg.start (h : St I D w) : Rg D w I w.drew := ⟨exc_of ((Below.refl _ _).drew), h.of (Nat.le_refl _) fun _ _ => rfl⟩
theorem Nv.new (hs : w0.heap.size ≤ w.heap.size) (hD : ∀ q, D q → q < w.heap.size) : Nv D w0 w.heap.size (w.alloc (.cells #[.int .u64 0, .int .u64 0] 36)) :=
 ⟨fun h => by have := hD _ h; omega, hs, V2.new w _ _ _⟩
theorem Nb.new (hs : w0.heap.size ≤ w.heap.size) (hD : ∀ q, D q → q < w.heap.size) (l : List E) (cs : Array Value) (h : cs = (cellsE l).toArray) : Nb D w0 w.heap.size l (w.alloc (.cells cs 36)) :=
 ⟨fun h => by have := hD _ h; omega, hs, BlkE.new w l cs h⟩
theorem Rg.asked {I' : (Nat → Prop) → World → Prop} (h : Rg D w0 I w) (hst : St I' D1 w') (hT : ∀ q, D1 q → D q ∨ w.heap.size ≤ q) (hE : Exc D w.heap.size w w') : Rh D w0 I' D1 w' :=
 ⟨h.1.more hE fun q hq => .inl hq, hst, fun q hq => (hT q hq).imp_right fun h2 => Nat.le_trans h.1.size h2⟩
theorem Nv.asked {c : Nat} (h : Nv D w0 c w) (hT : ∀ q, D1 q → D q ∨ w.heap.size ≤ q) (hE : Exc D w.heap.size w w') : Nv D1 w0 c w' := by
 obtain ⟨h1, h2, h3⟩ := h
 obtain ⟨k1, k2⟩ := h3.ask h1 hE hT
 exact ⟨k2, h2, k1⟩
end

def RetRun {f : Nat} (x : Fin (Pm f)) (n : Nat) (cd : Int) (Inv : Nat → (Nat → Prop) → World → Prop) (D : Nat → Prop) (w : World) (e : Ending) (w' : World) : Prop :=
 ((cd = 0 ∧ e = .returned (.tuple #[vK x, .int .i64 0]) ∧ ∃ D', St (Inv n) D' w' ∧ ∀ q, D' q → D q ∨ w.heap.size ≤ q) ∨ (cd ≠ 0 ∧ e = .returned (.tuple #[.agg #[.int .u64 0, .int .u64 0], .int .i64 cd]) ∧ ∃ D', St (Inv 1) D' w' ∧ ∀ q, D' q → D q ∨ w.heap.size ≤ q)) ∧ Exc D w.heap.size w w'

def cdx {f : Nat} (x : Fin (Pm f)) (cd : Int) : Fin (Pm f) := if cd = 0 then x else 0
def Jn (Inv : Nat → (Nat → Prop) → World → Prop) (n : Nat) (cd : Int) : (Nat → Prop) → World → Prop := if cd = 0 then Inv n else Inv 1
def Rd (D : Nat → Prop) (w0 : World) (I : (Nat → Prop) → World → Prop) (w : World) : Prop := Exc D w0.heap.size w0 w ∧ ∃ D' : Nat → Prop, St I D' w ∧ ∀ q, D' q → D q ∨ w0.heap.size ≤ q
theorem Rd.clo (D : Nat → Prop) (w0 : World) (I : (Nat → Prop) → World → Prop) : Clo (Rd D w0 I) := fun _ _ h hb => ⟨h.1.later hb, by
 obtain ⟨D', h1, h2⟩ := h.2
 exact ⟨D', h1.call hb, h2⟩⟩
theorem Rd.from {D : Nat → Prop} {w0 w w' : World} {I : (Nat → Prop) → World → Prop} (h : Rd D w I w') (k : Exc D w0.heap.size w0 w) : Rd D w0 I w' := ⟨k.more h.1 fun _ hq => .inl hq, by
 obtain ⟨D', h1, h2⟩ := h.2
 exact ⟨D', h1, fun q hq => (h2 q hq).imp_right fun h3 => Nat.le_trans k.size h3⟩⟩
theorem RetRun.uni {f : Nat} {x : Fin (Pm f)} {n : Nat} {cd : Int} {Inv : Nat → (Nat → Prop) → World → Prop} {D : Nat → Prop} {w w' : World} {e : Ending} (h : RetRun x n cd Inv D w e w') :
  e = .returned (.tuple #[vK (cdx x cd), .int .i64 cd]) ∧ Rd D w (Jn Inv n cd) w' := by
 obtain ⟨⟨rfl, rfl, hD⟩ | ⟨hc, rfl, hD⟩, hE⟩ := h
 ·exact ⟨rfl, hE, hD⟩
 ·refine ⟨?_, hE, ?_⟩
  ·unfold cdx
   rw [if_neg hc, vK_zero]
  ·unfold Jn
   rw [if_neg hc]
   exact hD
theorem RetRun.ofUni {f : Nat} {x : Fin (Pm f)} {n : Nat} {cd : Int} {Inv : Nat → (Nat → Prop) → World → Prop} {D : Nat → Prop} {w w' : World} {e : Ending} (he : e = .returned (.tuple #[vK (cdx x cd), .int .i64 cd])) (h : Rd D w (Jn Inv n cd) w') :
  RetRun x n cd Inv D w e w' := by
 subst he
 refine ⟨?_, h.1⟩
 by_cases hc : cd = 0
 ·subst hc
  exact .inl ⟨rfl, rfl, h.2⟩
 ·have h2 := h.2
  unfold Jn at h2
  rw [if_neg hc] at h2
  refine .inr ⟨hc, ?_, h2⟩
  unfold cdx
  rw [if_neg hc, vK_zero]
theorem Rd.fin {D : Nat → Prop} {w0 w w' : World} {I : (Nat → Prop) → World → Prop} (h : Rd D w I w') (k : Exc D w0.heap.size w0 w) {b : Nat} (hb : w0.heap.size ≤ b) (hb' : b < w.heap.size) (hn : ¬ D b) (x y : Value) : Rd D w0 I ((w'.setCell ⟨b, 0, none⟩ x).setCell ⟨b, 1, none⟩ y) :=
 ⟨(k.more h.1 fun _ hq => .inl hq).st hb x y, by
  obtain ⟨D', h1, h2⟩ := h.2
  exact ⟨D', h1.st (fun hq => (h2 _ hq).elim hn fun h3 => by omega) x y, fun q hq => (h2 q hq).imp_right fun h3 => Nat.le_trans k.size h3⟩⟩
theorem Rd.call {D : Nat → Prop} {w0 w w' : World} {I : (Nat → Prop) → World → Prop} (h : Rd D w0 I w) (hb : Below w.heap.size w w') : Rd D w0 I w' := Rd.clo _ _ _ _ _ h hb

end Go.Proofs.YtfbfbijkkbflkaaGreatDoor

namespace Go.Proofs.YtfbfbijkkbflkaaGreatDoor
open Go.RowKit Fm
set_option linter.unusedVariables false
set_option maxRecDepth 100000

structure Raw.Said (x : Raw) (n : Int) : Prop where
 chk : ∀ w, Calls Tryz.prog 41 #[x.rval] w (RetC n w)
 own : ∀ w, Calls Tryz.prog 48 #[x.val] w (RetC n w)
 is : n = 0 → ∃ F y, x.Is F y
 k0 : 0 ≤ x.k
 k1 : x.k ≤ 255
 f0 : 0 ≤ x.f
 f1 : x.f ≤ 255

end Go.Proofs.YtfbfbijkkbflkaaGreatDoor

namespace Go.Proofs.YtfbfbijkkbflkaaGreatDoor
open Go.RowKit Fm
set_option linter.unusedVariables false
set_option maxRecDepth 100000

theorem equalIn_func (d : Nat) (fn : Fn) (first cap : Array Value) (w : World) : (Op.equalIn (d + 1) 106 (.func fn first cap) .nilFunc).run Tryz.prog w = .ok false w := by
 simp [Op.equalIn, Sem.run_bind, run_underlying Tryz.underlying106]

theorem eql_func (fn : Fn) (first cap : Array Value) (w : World) : (binOp .eql 106 (.func fn first cap) .nilFunc).run Tryz.prog w = .ok (.bool false) w := by
 have h := equalIn_func 9999 fn first cap w
 simp only [binOp, Op.equal, Sem.run_bind]
 rw [show Op.maxDepth = 9999 + 1 from rfl, h]
 rfl

end Go.Proofs.YtfbfbijkkbflkaaGreatDoor
