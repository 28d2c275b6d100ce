/-
  THE LAW ON REGIONS from whatever is known; what is known may be given up for less at a store (into an older block).
-/
/-
  WALK: tallymanlaw10.Small.Circuit.
-/
/-
  BOTH CHECKS of any circuit say the same; where they say 0 it is one in range, of few calls.
-/
/-
  WALK: the reference's Valid.
-/
import Derived.Test.YtiphahbeedeebaaMah
import Derived.Test.YtiphahbeedeebaaMao
namespace Go.Proofs.Ytiphahbeedeebaa
open Go Go.RowKit

section
variable {P : Program} {Q : Exit → Act → World → Prop}

theorem region_GS {id n m f : Nat} {l : List Oper} {a : Act} {w : World} (S : World → Prop) (hC : Clo S) (hS : S w.drew) (hm : P.follows .mixedOrders = true) (hB : partsB .any l.toArray n m (Array.replicate l.length false) = true) (hf : f + (m - n) = l.length)
    (h : WpG P .any l.toArray Q n m (wpList P l.toArray Q ((l.drop n).take (m - n))) f (Array.replicate l.length false) a S) : (Code.region id l.toArray true).wp P Q a w := by
  refine wp_region_any hm ?_
  have := any_G (w := w.drew) hB hC hS h
  rw [hf] at this
  simpa using this
end

end Go.Proofs.Ytiphahbeedeebaa

namespace Go.Proofs.Ytiphahbeedeebaa
open Go.RowKit Fm
set_option linter.unusedVariables false
set_option maxRecDepth 100000

/-- a circuit of few elements -/
structure CK.small (y : CK) : Prop where
  ok : y.ok
  nin : y.nin ≤ 12
  calls : ¬ 511 < y.calls

theorem CK.calls_le {y : CK} (h : y.ok) : y.calls ≤ y.nin := by
  cases y with
  | count => exact Nat.le_refl _
  | sum b => exact Nat.le_refl _
  | vec b l c => exact ceil_le h.2.2.1
  | hist l c => exact ceil_le h.2.1
  | multi l m c => exact ceil_le h.2.2.1
theorem CK.small_of {y : CK} (h : y.ok) (hn : y.nin ≤ 12) : y.small := ⟨h, hn, by have := CK.calls_le h; omega⟩

theorem bitLen_5 : ∀ m : Nat, m ≤ 5 → Lib.bitLen m ≤ 3 := by decide +kernel

theorem Vs.set6 {w : World} {b : Nat} {p q r s t u : Value} (h : Vs w b [p, q, r, s, t, u]) (x0 x1 x2 x3 x4 x5 : Value) :
    Vs ((((((w.setCell ⟨b, 0, none⟩ x0).setCell ⟨b, 1, none⟩ x1).setCell ⟨b, 2, none⟩ x2).setCell ⟨b, 3, none⟩ x3).setCell ⟨b, 4, none⟩ x4).setCell ⟨b, 5, none⟩ x5) b [x0, x1, x2, x3, x4, x5] :=
  (((((h.put 0 (by simp) x0).put 1 (by simp) x1).put 2 (by simp) x2).put 3 (by simp) x3).put 4 (by simp) x4).put 5 (by simp) x5

/-- what is known while the circuit's numbers are laid -/
def SmS (w : World) (k f b l m c K F : Int) (wz : World) : Prop :=
  Below w.heap.size w wz ∧ Vs wz w.heap.size [.int .u8 k, .int .u8 f, .int .u8 b, .int .u8 l, .int .u8 m, .int .u8 c] ∧ Vs wz (w.heap.size + 1) [.int .u8 0, .int .u8 0, .int .i64 0, .int .i64 0, .int .i64 0, .int .i64 0] ∧
    ∃ x2 x3 x5 : Value, Vs wz (w.heap.size + 1 + 1) [.int .u8 K, .int .u8 F, x2, x3, .int .i64 0, x5]
theorem SmS.clo (w : World) (k f b l m c K F : Int) : Clo (SmS w k f b l m c K F) :=
  fun _ _ h hb => ⟨bl_call h.1 (Nat.le_refl _) hb, h.2.1.call hb, h.2.2.1.call hb, let ⟨x, y, z, hv⟩ := h.2.2.2; ⟨x, y, z, hv.call hb⟩⟩

set_option maxHeartbeats 4000000 in
theorem law10_Circuit (k f b l m c : Int) (hk0 : 0 ≤ k) (hk1 : k ≤ 255) (hf0 : 0 ≤ f) (hf1 : f ≤ 255) (hb0 : 0 ≤ b) (hb1 : b ≤ 255) (hl0 : 0 ≤ l) (hl1 : l ≤ 255) (hm0 : 0 ≤ m) (hm1 : m ≤ 255) (hc0 : 0 ≤ c) (hc1 : c ≤ 255) :
    ∃ (F : Nat) (y : CK), IsF F ∧ y.small ∧ ∀ w, Calls Try.prog 36 #[.agg #[.int .u8 k, .int .u8 f, .int .u8 b, .int .u8 l, .int .u8 m, .int .u8 c]] w fun e w' => e = .returned (y.val F) ∧ Below w.heap.size w w' := by
  obtain ⟨F, hF, hF0⟩ : ∃ F : Nat, IsF F ∧ 1 + f % 2 = (F : Int) := by
    have h : f % 2 = 0 ∨ f % 2 = 1 := by omega
    rcases h with h | h
    · exact ⟨1, isF1, by omega⟩
    · exact ⟨2, isF2, by omega⟩
  have hF' : f % 2 + 1 = (F : Int) := by omega
  obtain ⟨B, hB, hB1, hB4⟩ : ∃ B : Nat, 1 + b % 4 = (B : Int) ∧ 1 ≤ B ∧ B ≤ 4 := ⟨(1 + b % 4).toNat, by omega, by omega, by omega⟩
  obtain ⟨L, hL, hL1, hL5⟩ : ∃ L : Nat, 1 + l % 5 = (L : Int) ∧ 1 ≤ L ∧ L ≤ 5 := ⟨(1 + l % 5).toNat, by omega, by omega, by omega⟩
  obtain ⟨C, hC, hC1, hC4⟩ : ∃ C : Nat, 1 + c % 4 = (C : Int) ∧ 1 ≤ C ∧ C ≤ 4 := ⟨(1 + c % 4).toNat, by omega, by omega, by omega⟩
  have hB' : b % 4 + 1 = (B : Int) := by omega
  have hL' : l % 5 + 1 = (L : Int) := by omega
  have hC' : c % 4 + 1 = (C : Int) := by omega
  obtain ⟨LT, hLT, hLT2⟩ : ∃ LT : Nat, l.tmod 5 = (LT : Int) ∧ (1 : Int) + (LT : Int) = (L : Int) := ⟨(l % 5).toNat, by rw [Int.tmod_eq_emod_of_nonneg hl0]; omega, by omega⟩
  obtain ⟨BT, hBT, hBT2⟩ : ∃ BT : Nat, b.tmod 4 = (BT : Int) ∧ (1 : Int) + (BT : Int) = (B : Int) := ⟨(b % 4).toNat, by rw [Int.tmod_eq_emod_of_nonneg hb0]; omega, by omega⟩
  have hwL : IntKind.i64.wrap (L : Int) = (L : Int) := IntWalk.i64_in _ (by omega)
  have hwB : IntKind.i64.wrap (B : Int) = (B : Int) := IntWalk.i64_in _ (by omega)
  have hwLT : IntKind.i64.wrap (LT : Int) = (LT : Int) := IntWalk.i64_in _ (by omega)
  have hwBT : IntKind.i64.wrap (BT : Int) = (BT : Int) := IntWalk.i64_in _ (by omega)
  have hk5 : k % 5 = 0 ∨ k % 5 = 1 ∨ k % 5 = 2 ∨ k % 5 = 3 ∨ k % 5 = 4 := by omega
  rcases hk5 with hk | hk | hk | hk | hk
  · refine ⟨F, .count, hF, CK.small_of trivial (by show 1 ≤ 12; omega), fun w => ?_⟩
    rw [val_count]
    go_enter Try.func36, Try.ntmps36
    go_upto_region 2 with fail
    have hs := ((Vs.new w [.int .u8 k, .int .u8 f, .int .u8 b, .int .u8 l, .int .u8 m, .int .u8 c] #[.int .u8 k, .int .u8 f, .int .u8 b, .int .u8 l, .int .u8 m, .int .u8 c] 62 rfl).alloc (.cells #[.int .u8 0, .int .u8 0, .int .i64 0, .int .i64 0, .int .i64 0, .int .i64 0] 60)).alloc (.cells #[.int .u8 1, .int .u8 F, .int .i64 0, .int .i64 0, .int .i64 0, .int .i64 0] 60)
    have hr := (Vs.new (w.alloc (.cells #[.int .u8 k, .int .u8 f, .int .u8 b, .int .u8 l, .int .u8 m, .int .u8 c] 62)) [.int .u8 0, .int .u8 0, .int .i64 0, .int .i64 0, .int .i64 0, .int .i64 0] #[.int .u8 0, .int .u8 0, .int .i64 0, .int .i64 0, .int .i64 0, .int .i64 0] 60 rfl).alloc (.cells #[.int .u8 1, .int .u8 F, .int .i64 0, .int .i64 0, .int .i64 0, .int .i64 0] 60)
    have hv := Vs.new ((w.alloc (.cells #[.int .u8 k, .int .u8 f, .int .u8 b, .int .u8 l, .int .u8 m, .int .u8 c] 62)).alloc (.cells #[.int .u8 0, .int .u8 0, .int .i64 0, .int .i64 0, .int .i64 0, .int .i64 0] 60)) [.int .u8 1, .int .u8 F, .int .i64 0, .int .i64 0, .int .i64 0, .int .i64 0] #[.int .u8 1, .int .u8 F, .int .i64 0, .int .i64 0, .int .i64 0, .int .i64 0] 60 rfl
    simp only [World.size_alloc] at hr hv
    have hbw : Below w.heap.size w (((w.alloc (.cells #[.int .u8 k, .int .u8 f, .int .u8 b, .int .u8 l, .int .u8 m, .int .u8 c] 62)).alloc (.cells #[.int .u8 0, .int .u8 0, .int .i64 0, .int .i64 0, .int .i64 0, .int .i64 0] 60)).alloc (.cells #[.int .u8 1, .int .u8 F, .int .i64 0, .int .i64 0, .int .i64 0, .int .i64 0] 60)) := by repeat (first | exact Below.refl _ _ | with_reducible assumption | (refine bl_alloc ?_ (Nat.le_refl _) _) | (refine bl_set ?_ (by dsimp only; omega) _) | (refine Below.drew ?_) | (refine bl_drewN ?_ _) | (refine bl_call ?_ (Nat.le_refl _) (by assumption)))
    generalize ((w.alloc (.cells #[.int .u8 k, .int .u8 f, .int .u8 b, .int .u8 l, .int .u8 m, .int .u8 c] 62)).alloc (.cells #[.int .u8 0, .int .u8 0, .int .i64 0, .int .i64 0, .int .i64 0, .int .i64 0] 60)).alloc (.cells #[.int .u8 1, .int .u8 F, .int .i64 0, .int .i64 0, .int .i64 0, .int .i64 0] 60) = w1 at hs hr hv hbw ⊢
    obtain ⟨⟨s0, s1, s2, s3, s4, s5⟩, ⟨s6, s7, s8, s9, s10, s11⟩, s12⟩ := hs.get6
    obtain ⟨⟨r0, r1, r2, r3, r4, r5⟩, ⟨r6, r7, r8, r9, r10, r11⟩, r12⟩ := hr.get6
    obtain ⟨⟨v0, v1, v2, v3, v4, v5⟩, ⟨v6, v7, v8, v9, v10, v11⟩, v12⟩ := hv.get6
    refine region_B (n := 11) (m := 12) (f := 11) (by kernel_rfl) (by kernel_rfl) rfl ?_
    refine WpH.takeD 0 (some 15) (v := ?_) rfl rfl (by kernel_rfl) (fun _ _ _ h => h) (.val rfl (fun wz hwz => ?_)) ?_
    rotate_left
    · go_simp; try (with_reducible rfl)
    (simp only [Act.put]); (try simp only [List.setIfInBounds_toArray]); (try simp only [List.set_cons_succ]); (try simp only [List.set_cons_zero])
    refine WpH.takeD 1 (some 16) (v := ?_) rfl rfl (by kernel_rfl) (fun _ _ _ h => h) (.val rfl (fun wz hwz => ?_)) ?_
    rotate_left
    · (obtain ⟨hcz, hfz⟩ := bcell hwz; go_simp; try (with_reducible rfl))
    (simp only [Act.put]); (try simp only [List.setIfInBounds_toArray]); (try simp only [List.set_cons_succ]); (try simp only [List.set_cons_zero])
    refine WpH.takeD 2 (some 17) (v := ?_) rfl rfl (by kernel_rfl) (fun _ _ _ h => h) (.val rfl (fun wz hwz => ?_)) ?_
    rotate_left
    · go_simp; try (with_reducible rfl)
    (simp only [Act.put]); (try simp only [List.setIfInBounds_toArray]); (try simp only [List.set_cons_succ]); (try simp only [List.set_cons_zero])
    refine WpH.takeD 3 (some 18) (v := ?_) rfl rfl (by kernel_rfl) (fun _ _ _ h => h) (.val rfl (fun wz hwz => ?_)) ?_
    rotate_left
    · go_simp; try (with_reducible rfl)
    (simp only [Act.put]); (try simp only [List.setIfInBounds_toArray]); (try simp only [List.set_cons_succ]); (try simp only [List.set_cons_zero])
    refine WpH.takeD 4 (some 19) (v := ?_) rfl rfl (by kernel_rfl) (fun _ _ _ h => h) (.val rfl (fun wz hwz => ?_)) ?_
    rotate_left
    · go_simp; try (with_reducible rfl)
    (simp only [Act.put]); (try simp only [List.setIfInBounds_toArray]); (try simp only [List.set_cons_succ]); (try simp only [List.set_cons_zero])
    refine WpH.takeD 5 (some 20) (v := ?_) rfl rfl (by kernel_rfl) (fun _ _ _ h => h) (.val rfl (fun wz hwz => ?_)) ?_
    rotate_left
    · go_simp; try (with_reducible rfl)
    (simp only [Act.put]); (try simp only [List.setIfInBounds_toArray]); (try simp only [List.set_cons_succ]); (try simp only [List.set_cons_zero])
    refine WpH.takeD 6 (some 21) (v := ?_) rfl rfl (by kernel_rfl) (fun _ _ _ h => h) (.val rfl (fun wz hwz => ?_)) ?_
    rotate_left
    · (obtain ⟨hcz, hfz⟩ := bcell hwz; go_simp; try (with_reducible rfl))
    (simp only [Act.put]); (try simp only [List.setIfInBounds_toArray]); (try simp only [List.set_cons_succ]); (try simp only [List.set_cons_zero])
    refine WpH.takeD 7 (some 22) (v := ?_) rfl rfl (by kernel_rfl) (fun _ _ _ h => h) (.val rfl (fun wz hwz => ?_)) ?_
    rotate_left
    · go_simp; try (with_reducible rfl)
    (simp only [Act.put]); (try simp only [List.setIfInBounds_toArray]); (try simp only [List.set_cons_succ]); (try simp only [List.set_cons_zero])
    refine WpH.takeD 8 (some 23) (v := ?_) rfl rfl (by kernel_rfl) (fun _ _ _ h => h) (.val rfl (fun wz hwz => ?_)) ?_
    rotate_left
    · go_simp; try (with_reducible rfl)
    (simp only [Act.put]); (try simp only [List.setIfInBounds_toArray]); (try simp only [List.set_cons_succ]); (try simp only [List.set_cons_zero])
    refine WpH.takeD 9 (some 24) (v := ?_) rfl rfl (by kernel_rfl) (fun _ _ _ h => h) (.val rfl (fun wz hwz => ?_)) ?_
    rotate_left
    · go_simp; try (with_reducible rfl)
    (simp only [Act.put]); (try simp only [List.setIfInBounds_toArray]); (try simp only [List.set_cons_succ]); (try simp only [List.set_cons_zero])
    refine WpH.takeD 10 (some 4) (v := ?_) rfl rfl (by kernel_rfl) (fun _ _ _ h => h) (.val rfl (fun wz hwz => ?_)) ?_
    rotate_left
    · go_simp; try (with_reducible rfl)
    (simp only [Act.put]); (try simp only [List.setIfInBounds_toArray]); (try simp only [List.set_cons_succ]); (try simp only [List.set_cons_zero])
    refine WpH.doneB (by kernel_rfl) (fun w2 hw2 => ?_)
    (try simp only [List.drop_succ_cons]); (try simp only [List.drop_zero]); (try simp only [Nat.reduceSub]); (try simp only [List.take_succ_cons]); (try simp only [List.take_zero])
    clear s0 s1 s2 s3 s4 s5 s6 s7 s8 s9 s10 s11 s12 r0 r1 r2 r3 r4 r5 r6 r7 r8 r9 r10 r11 r12 v0 v1 v2 v3 v4 v5 v6 v7 v8 v9 v10 v11 v12
    replace hbw := bl_call hbw (Nat.le_refl _) hw2
    replace hs := hs.call hw2
    replace hr := hr.call hw2
    replace hv := hv.call hw2
    obtain ⟨⟨s0, s1, s2, s3, s4, s5⟩, ⟨s6, s7, s8, s9, s10, s11⟩, s12⟩ := hs.get6
    obtain ⟨⟨r0, r1, r2, r3, r4, r5⟩, ⟨r6, r7, r8, r9, r10, r11⟩, r12⟩ := hr.get6
    obtain ⟨⟨v0, v1, v2, v3, v4, v5⟩, ⟨v6, v7, v8, v9, v10, v11⟩, v12⟩ := hv.get6
    go_wp2
    have hres := Vs.set6 hr (.int .u8 1) (.int .u8 F) (.int .i64 0) (.int .i64 0) (.int .i64 0) (.int .i64 0)
    have hble : w.heap.size ≤ w.heap.size + 1 := by omega
    have hbr := bl_set (p := ⟨w.heap.size + 1, 5, none⟩) (bl_set (p := ⟨w.heap.size + 1, 4, none⟩) (bl_set (p := ⟨w.heap.size + 1, 3, none⟩) (bl_set (p := ⟨w.heap.size + 1, 2, none⟩) (bl_set (p := ⟨w.heap.size + 1, 1, none⟩) (bl_set (p := ⟨w.heap.size + 1, 0, none⟩) hbw hble (.int .u8 1)) hble (.int .u8 F)) hble (.int .i64 0)) hble (.int .i64 0)) hble (.int .i64 0)) hble (.int .i64 0)
    exact bodyPost_ret (results_cir hres rfl rfl) rfl ⟨rfl, hbr⟩
  · refine ⟨F, .sum B, hF, CK.small_of ⟨hB1, by omega⟩ (by show B ≤ 12; omega), fun w => ?_⟩
    rw [val_sum]
    go_enter Try.func36, Try.ntmps36
    go_upto_region 2 with fail
    have hs := ((Vs.new w [.int .u8 k, .int .u8 f, .int .u8 b, .int .u8 l, .int .u8 m, .int .u8 c] #[.int .u8 k, .int .u8 f, .int .u8 b, .int .u8 l, .int .u8 m, .int .u8 c] 62 rfl).alloc (.cells #[.int .u8 0, .int .u8 0, .int .i64 0, .int .i64 0, .int .i64 0, .int .i64 0] 60)).alloc (.cells #[.int .u8 2, .int .u8 F, .int .i64 0, .int .i64 0, .int .i64 0, .int .i64 0] 60)
    have hr := (Vs.new (w.alloc (.cells #[.int .u8 k, .int .u8 f, .int .u8 b, .int .u8 l, .int .u8 m, .int .u8 c] 62)) [.int .u8 0, .int .u8 0, .int .i64 0, .int .i64 0, .int .i64 0, .int .i64 0] #[.int .u8 0, .int .u8 0, .int .i64 0, .int .i64 0, .int .i64 0, .int .i64 0] 60 rfl).alloc (.cells #[.int .u8 2, .int .u8 F, .int .i64 0, .int .i64 0, .int .i64 0, .int .i64 0] 60)
    have hv := Vs.new ((w.alloc (.cells #[.int .u8 k, .int .u8 f, .int .u8 b, .int .u8 l, .int .u8 m, .int .u8 c] 62)).alloc (.cells #[.int .u8 0, .int .u8 0, .int .i64 0, .int .i64 0, .int .i64 0, .int .i64 0] 60)) [.int .u8 2, .int .u8 F, .int .i64 0, .int .i64 0, .int .i64 0, .int .i64 0] #[.int .u8 2, .int .u8 F, .int .i64 0, .int .i64 0, .int .i64 0, .int .i64 0] 60 rfl
    simp only [World.size_alloc] at hr hv
    have hbw : Below w.heap.size w (((w.alloc (.cells #[.int .u8 k, .int .u8 f, .int .u8 b, .int .u8 l, .int .u8 m, .int .u8 c] 62)).alloc (.cells #[.int .u8 0, .int .u8 0, .int .i64 0, .int .i64 0, .int .i64 0, .int .i64 0] 60)).alloc (.cells #[.int .u8 2, .int .u8 F, .int .i64 0, .int .i64 0, .int .i64 0, .int .i64 0] 60)) := by repeat (first | exact Below.refl _ _ | with_reducible assumption | (refine bl_alloc ?_ (Nat.le_refl _) _) | (refine bl_set ?_ (by dsimp only; omega) _) | (refine Below.drew ?_) | (refine bl_drewN ?_ _) | (refine bl_call ?_ (Nat.le_refl _) (by assumption)))
    generalize ((w.alloc (.cells #[.int .u8 k, .int .u8 f, .int .u8 b, .int .u8 l, .int .u8 m, .int .u8 c] 62)).alloc (.cells #[.int .u8 0, .int .u8 0, .int .i64 0, .int .i64 0, .int .i64 0, .int .i64 0] 60)).alloc (.cells #[.int .u8 2, .int .u8 F, .int .i64 0, .int .i64 0, .int .i64 0, .int .i64 0] 60) = w1 at hs hr hv hbw ⊢
    obtain ⟨⟨s0, s1, s2, s3, s4, s5⟩, ⟨s6, s7, s8, s9, s10, s11⟩, s12⟩ := hs.get6
    obtain ⟨⟨r0, r1, r2, r3, r4, r5⟩, ⟨r6, r7, r8, r9, r10, r11⟩, r12⟩ := hr.get6
    obtain ⟨⟨v0, v1, v2, v3, v4, v5⟩, ⟨v6, v7, v8, v9, v10, v11⟩, v12⟩ := hv.get6
    refine region_B (n := 11) (m := 12) (f := 11) (by kernel_rfl) (by kernel_rfl) rfl ?_
    refine WpH.takeD 0 (some 15) (v := ?_) rfl rfl (by kernel_rfl) (fun _ _ _ h => h) (.val rfl (fun wz hwz => ?_)) ?_
    rotate_left
    · go_simp; try (with_reducible rfl)
    (simp only [Act.put]); (try simp only [List.setIfInBounds_toArray]); (try simp only [List.set_cons_succ]); (try simp only [List.set_cons_zero])
    refine WpH.takeD 1 (some 16) (v := ?_) rfl rfl (by kernel_rfl) (fun _ _ _ h => h) (.val rfl (fun wz hwz => ?_)) ?_
    rotate_left
    · (obtain ⟨hcz, hfz⟩ := bcell hwz; go_simp; try (with_reducible rfl))
    (simp only [Act.put]); (try simp only [List.setIfInBounds_toArray]); (try simp only [List.set_cons_succ]); (try simp only [List.set_cons_zero])
    refine WpH.takeD 2 (some 17) (v := ?_) rfl rfl (by kernel_rfl) (fun _ _ _ h => h) (.val rfl (fun wz hwz => ?_)) ?_
    rotate_left
    · go_simp; try (with_reducible rfl)
    (simp only [Act.put]); (try simp only [List.setIfInBounds_toArray]); (try simp only [List.set_cons_succ]); (try simp only [List.set_cons_zero])
    refine WpH.takeD 3 (some 18) (v := ?_) rfl rfl (by kernel_rfl) (fun _ _ _ h => h) (.val rfl (fun wz hwz => ?_)) ?_
    rotate_left
    · go_simp; try (with_reducible rfl)
    (simp only [Act.put]); (try simp only [List.setIfInBounds_toArray]); (try simp only [List.set_cons_succ]); (try simp only [List.set_cons_zero])
    refine WpH.takeD 4 (some 19) (v := ?_) rfl rfl (by kernel_rfl) (fun _ _ _ h => h) (.val rfl (fun wz hwz => ?_)) ?_
    rotate_left
    · go_simp; try (with_reducible rfl)
    (simp only [Act.put]); (try simp only [List.setIfInBounds_toArray]); (try simp only [List.set_cons_succ]); (try simp only [List.set_cons_zero])
    refine WpH.takeD 5 (some 20) (v := ?_) rfl rfl (by kernel_rfl) (fun _ _ _ h => h) (.val rfl (fun wz hwz => ?_)) ?_
    rotate_left
    · go_simp; try (with_reducible rfl)
    (simp only [Act.put]); (try simp only [List.setIfInBounds_toArray]); (try simp only [List.set_cons_succ]); (try simp only [List.set_cons_zero])
    refine WpH.takeD 6 (some 21) (v := ?_) rfl rfl (by kernel_rfl) (fun _ _ _ h => h) (.val rfl (fun wz hwz => ?_)) ?_
    rotate_left
    · (obtain ⟨hcz, hfz⟩ := bcell hwz; go_simp; try (with_reducible rfl))
    (simp only [Act.put]); (try simp only [List.setIfInBounds_toArray]); (try simp only [List.set_cons_succ]); (try simp only [List.set_cons_zero])
    refine WpH.takeD 7 (some 22) (v := ?_) rfl rfl (by kernel_rfl) (fun _ _ _ h => h) (.val rfl (fun wz hwz => ?_)) ?_
    rotate_left
    · go_simp; try (with_reducible rfl)
    (simp only [Act.put]); (try simp only [List.setIfInBounds_toArray]); (try simp only [List.set_cons_succ]); (try simp only [List.set_cons_zero])
    refine WpH.takeD 8 (some 23) (v := ?_) rfl rfl (by kernel_rfl) (fun _ _ _ h => h) (.val rfl (fun wz hwz => ?_)) ?_
    rotate_left
    · go_simp; try (with_reducible rfl)
    (simp only [Act.put]); (try simp only [List.setIfInBounds_toArray]); (try simp only [List.set_cons_succ]); (try simp only [List.set_cons_zero])
    refine WpH.takeD 9 (some 24) (v := ?_) rfl rfl (by kernel_rfl) (fun _ _ _ h => h) (.val rfl (fun wz hwz => ?_)) ?_
    rotate_left
    · go_simp; try (with_reducible rfl)
    (simp only [Act.put]); (try simp only [List.setIfInBounds_toArray]); (try simp only [List.set_cons_succ]); (try simp only [List.set_cons_zero])
    refine WpH.takeD 10 (some 4) (v := ?_) rfl rfl (by kernel_rfl) (fun _ _ _ h => h) (.val rfl (fun wz hwz => ?_)) ?_
    rotate_left
    · go_simp; try (with_reducible rfl)
    (simp only [Act.put]); (try simp only [List.setIfInBounds_toArray]); (try simp only [List.set_cons_succ]); (try simp only [List.set_cons_zero])
    refine WpH.doneB (by kernel_rfl) (fun w2 hw2 => ?_)
    (try simp only [List.drop_succ_cons]); (try simp only [List.drop_zero]); (try simp only [Nat.reduceSub]); (try simp only [List.take_succ_cons]); (try simp only [List.take_zero])
    clear s0 s1 s2 s3 s4 s5 s6 s7 s8 s9 s10 s11 s12 r0 r1 r2 r3 r4 r5 r6 r7 r8 r9 r10 r11 r12 v0 v1 v2 v3 v4 v5 v6 v7 v8 v9 v10 v11 v12
    replace hbw := bl_call hbw (Nat.le_refl _) hw2
    replace hs := hs.call hw2
    replace hr := hr.call hw2
    replace hv := hv.call hw2
    obtain ⟨⟨s0, s1, s2, s3, s4, s5⟩, ⟨s6, s7, s8, s9, s10, s11⟩, s12⟩ := hs.get6
    obtain ⟨⟨r0, r1, r2, r3, r4, r5⟩, ⟨r6, r7, r8, r9, r10, r11⟩, r12⟩ := hr.get6
    obtain ⟨⟨v0, v1, v2, v3, v4, v5⟩, ⟨v6, v7, v8, v9, v10, v11⟩, v12⟩ := hv.get6
    go_wp2
    have hvv := hv.put 2 (by simp) (.int .i64 B)
    have hrr := hr.far (p := ⟨w.heap.size + 1 + 1, 2, none⟩) (by simp) (.int .i64 B)
    have hbw2 := bl_set (p := ⟨w.heap.size + 1 + 1, 2, none⟩) hbw (by simp; omega) (.int .i64 B)
    have hres := Vs.set6 hrr (.int .u8 2) (.int .u8 F) (.int .i64 B) (.int .i64 0) (.int .i64 0) (.int .i64 0)
    have hble : w.heap.size ≤ w.heap.size + 1 := by omega
    have hbr := bl_set (p := ⟨w.heap.size + 1, 5, none⟩) (bl_set (p := ⟨w.heap.size + 1, 4, none⟩) (bl_set (p := ⟨w.heap.size + 1, 3, none⟩) (bl_set (p := ⟨w.heap.size + 1, 2, none⟩) (bl_set (p := ⟨w.heap.size + 1, 1, none⟩) (bl_set (p := ⟨w.heap.size + 1, 0, none⟩) hbw2 hble (.int .u8 2)) hble (.int .u8 F)) hble (.int .i64 B)) hble (.int .i64 0)) hble (.int .i64 0)) hble (.int .i64 0)
    exact bodyPost_ret (results_cir hres rfl rfl) rfl ⟨rfl, hbr⟩
  · obtain ⟨L3, hL3, h31, h33⟩ : ∃ L3 : Nat, 1 + (L : Int) % 3 = (L3 : Int) ∧ 1 ≤ L3 ∧ L3 ≤ 3 := ⟨(1 + (L : Int) % 3).toNat, by omega, by omega, by omega⟩
    have hL3' : (L : Int) % 3 + 1 = (L3 : Int) := by omega
    refine ⟨F, .vec B L3 C, hF, CK.small_of ⟨⟨hB1, by omega⟩, ⟨h31, by omega⟩, ⟨hC1, by omega⟩⟩ (Nat.le_trans (mul_small h33 hB4) (by omega)), fun w => ?_⟩
    rw [val_vec]
    go_enter Try.func36, Try.ntmps36
    go_upto_region 2 with fail
    have hs := ((Vs.new w [.int .u8 k, .int .u8 f, .int .u8 b, .int .u8 l, .int .u8 m, .int .u8 c] #[.int .u8 k, .int .u8 f, .int .u8 b, .int .u8 l, .int .u8 m, .int .u8 c] 62 rfl).alloc (.cells #[.int .u8 0, .int .u8 0, .int .i64 0, .int .i64 0, .int .i64 0, .int .i64 0] 60)).alloc (.cells #[.int .u8 3, .int .u8 F, .int .i64 0, .int .i64 0, .int .i64 0, .int .i64 0] 60)
    have hr := (Vs.new (w.alloc (.cells #[.int .u8 k, .int .u8 f, .int .u8 b, .int .u8 l, .int .u8 m, .int .u8 c] 62)) [.int .u8 0, .int .u8 0, .int .i64 0, .int .i64 0, .int .i64 0, .int .i64 0] #[.int .u8 0, .int .u8 0, .int .i64 0, .int .i64 0, .int .i64 0, .int .i64 0] 60 rfl).alloc (.cells #[.int .u8 3, .int .u8 F, .int .i64 0, .int .i64 0, .int .i64 0, .int .i64 0] 60)
    have hv := Vs.new ((w.alloc (.cells #[.int .u8 k, .int .u8 f, .int .u8 b, .int .u8 l, .int .u8 m, .int .u8 c] 62)).alloc (.cells #[.int .u8 0, .int .u8 0, .int .i64 0, .int .i64 0, .int .i64 0, .int .i64 0] 60)) [.int .u8 3, .int .u8 F, .int .i64 0, .int .i64 0, .int .i64 0, .int .i64 0] #[.int .u8 3, .int .u8 F, .int .i64 0, .int .i64 0, .int .i64 0, .int .i64 0] 60 rfl
    simp only [World.size_alloc] at hr hv
    have hbw : Below w.heap.size w (((w.alloc (.cells #[.int .u8 k, .int .u8 f, .int .u8 b, .int .u8 l, .int .u8 m, .int .u8 c] 62)).alloc (.cells #[.int .u8 0, .int .u8 0, .int .i64 0, .int .i64 0, .int .i64 0, .int .i64 0] 60)).alloc (.cells #[.int .u8 3, .int .u8 F, .int .i64 0, .int .i64 0, .int .i64 0, .int .i64 0] 60)) := by repeat (first | exact Below.refl _ _ | with_reducible assumption | (refine bl_alloc ?_ (Nat.le_refl _) _) | (refine bl_set ?_ (by dsimp only; omega) _) | (refine Below.drew ?_) | (refine bl_drewN ?_ _) | (refine bl_call ?_ (Nat.le_refl _) (by assumption)))
    generalize ((w.alloc (.cells #[.int .u8 k, .int .u8 f, .int .u8 b, .int .u8 l, .int .u8 m, .int .u8 c] 62)).alloc (.cells #[.int .u8 0, .int .u8 0, .int .i64 0, .int .i64 0, .int .i64 0, .int .i64 0] 60)).alloc (.cells #[.int .u8 3, .int .u8 F, .int .i64 0, .int .i64 0, .int .i64 0, .int .i64 0] 60) = w1 at hs hr hv hbw ⊢
    obtain ⟨⟨s0, s1, s2, s3, s4, s5⟩, ⟨s6, s7, s8, s9, s10, s11⟩, s12⟩ := hs.get6
    obtain ⟨⟨r0, r1, r2, r3, r4, r5⟩, ⟨r6, r7, r8, r9, r10, r11⟩, r12⟩ := hr.get6
    obtain ⟨⟨v0, v1, v2, v3, v4, v5⟩, ⟨v6, v7, v8, v9, v10, v11⟩, v12⟩ := hv.get6
    refine region_B (n := 11) (m := 12) (f := 11) (by kernel_rfl) (by kernel_rfl) rfl ?_
    refine WpH.takeD 0 (some 15) (v := ?_) rfl rfl (by kernel_rfl) (fun _ _ _ h => h) (.val rfl (fun wz hwz => ?_)) ?_
    rotate_left
    · go_simp; try (with_reducible rfl)
    (simp only [Act.put]); (try simp only [List.setIfInBounds_toArray]); (try simp only [List.set_cons_succ]); (try simp only [List.set_cons_zero])
    refine WpH.takeD 1 (some 16) (v := ?_) rfl rfl (by kernel_rfl) (fun _ _ _ h => h) (.val rfl (fun wz hwz => ?_)) ?_
    rotate_left
    · (obtain ⟨hcz, hfz⟩ := bcell hwz; go_simp; try (with_reducible rfl))
    (simp only [Act.put]); (try simp only [List.setIfInBounds_toArray]); (try simp only [List.set_cons_succ]); (try simp only [List.set_cons_zero])
    refine WpH.takeD 2 (some 17) (v := ?_) rfl rfl (by kernel_rfl) (fun _ _ _ h => h) (.val rfl (fun wz hwz => ?_)) ?_
    rotate_left
    · go_simp; try (with_reducible rfl)
    (simp only [Act.put]); (try simp only [List.setIfInBounds_toArray]); (try simp only [List.set_cons_succ]); (try simp only [List.set_cons_zero])
    refine WpH.takeD 3 (some 18) (v := ?_) rfl rfl (by kernel_rfl) (fun _ _ _ h => h) (.val rfl (fun wz hwz => ?_)) ?_
    rotate_left
    · go_simp; try (with_reducible rfl)
    (simp only [Act.put]); (try simp only [List.setIfInBounds_toArray]); (try simp only [List.set_cons_succ]); (try simp only [List.set_cons_zero])
    refine WpH.takeD 4 (some 19) (v := ?_) rfl rfl (by kernel_rfl) (fun _ _ _ h => h) (.val rfl (fun wz hwz => ?_)) ?_
    rotate_left
    · go_simp; try (with_reducible rfl)
    (simp only [Act.put]); (try simp only [List.setIfInBounds_toArray]); (try simp only [List.set_cons_succ]); (try simp only [List.set_cons_zero])
    refine WpH.takeD 5 (some 20) (v := ?_) rfl rfl (by kernel_rfl) (fun _ _ _ h => h) (.val rfl (fun wz hwz => ?_)) ?_
    rotate_left
    · go_simp; try (with_reducible rfl)
    (simp only [Act.put]); (try simp only [List.setIfInBounds_toArray]); (try simp only [List.set_cons_succ]); (try simp only [List.set_cons_zero])
    refine WpH.takeD 6 (some 21) (v := ?_) rfl rfl (by kernel_rfl) (fun _ _ _ h => h) (.val rfl (fun wz hwz => ?_)) ?_
    rotate_left
    · (obtain ⟨hcz, hfz⟩ := bcell hwz; go_simp; try (with_reducible rfl))
    (simp only [Act.put]); (try simp only [List.setIfInBounds_toArray]); (try simp only [List.set_cons_succ]); (try simp only [List.set_cons_zero])
    refine WpH.takeD 7 (some 22) (v := ?_) rfl rfl (by kernel_rfl) (fun _ _ _ h => h) (.val rfl (fun wz hwz => ?_)) ?_
    rotate_left
    · go_simp; try (with_reducible rfl)
    (simp only [Act.put]); (try simp only [List.setIfInBounds_toArray]); (try simp only [List.set_cons_succ]); (try simp only [List.set_cons_zero])
    refine WpH.takeD 8 (some 23) (v := ?_) rfl rfl (by kernel_rfl) (fun _ _ _ h => h) (.val rfl (fun wz hwz => ?_)) ?_
    rotate_left
    · go_simp; try (with_reducible rfl)
    (simp only [Act.put]); (try simp only [List.setIfInBounds_toArray]); (try simp only [List.set_cons_succ]); (try simp only [List.set_cons_zero])
    refine WpH.takeD 9 (some 24) (v := ?_) rfl rfl (by kernel_rfl) (fun _ _ _ h => h) (.val rfl (fun wz hwz => ?_)) ?_
    rotate_left
    · go_simp; try (with_reducible rfl)
    (simp only [Act.put]); (try simp only [List.setIfInBounds_toArray]); (try simp only [List.set_cons_succ]); (try simp only [List.set_cons_zero])
    refine WpH.takeD 10 (some 4) (v := ?_) rfl rfl (by kernel_rfl) (fun _ _ _ h => h) (.val rfl (fun wz hwz => ?_)) ?_
    rotate_left
    · go_simp; try (with_reducible rfl)
    (simp only [Act.put]); (try simp only [List.setIfInBounds_toArray]); (try simp only [List.set_cons_succ]); (try simp only [List.set_cons_zero])
    refine WpH.doneB (by kernel_rfl) (fun w2 hw2 => ?_)
    (try simp only [List.drop_succ_cons]); (try simp only [List.drop_zero]); (try simp only [Nat.reduceSub]); (try simp only [List.take_succ_cons]); (try simp only [List.take_zero])
    clear s0 s1 s2 s3 s4 s5 s6 s7 s8 s9 s10 s11 s12 r0 r1 r2 r3 r4 r5 r6 r7 r8 r9 r10 r11 r12 v0 v1 v2 v3 v4 v5 v6 v7 v8 v9 v10 v11 v12
    replace hbw := bl_call hbw (Nat.le_refl _) hw2
    replace hs := hs.call hw2
    replace hr := hr.call hw2
    replace hv := hv.call hw2
    obtain ⟨⟨s0, s1, s2, s3, s4, s5⟩, ⟨s6, s7, s8, s9, s10, s11⟩, s12⟩ := hs.get6
    obtain ⟨⟨r0, r1, r2, r3, r4, r5⟩, ⟨r6, r7, r8, r9, r10, r11⟩, r12⟩ := hr.get6
    obtain ⟨⟨v0, v1, v2, v3, v4, v5⟩, ⟨v6, v7, v8, v9, v10, v11⟩, v12⟩ := hv.get6
    go_wp2
    have hS7 : SmS w k f b l m c 3 F w2.drew := ⟨hbw.drew, hs.drew, hr.drew, _, _, _, hv.drew⟩
    obtain ⟨T, hT, hT2⟩ : ∃ T : Nat, (L : Int).tmod 3 = (T : Int) ∧ (1 : Int) + (T : Int) = (L3 : Int) := ⟨((L : Int) % 3).toNat, by rw [Int.tmod_eq_emod_of_nonneg (by omega)]; omega, by omega⟩
    obtain ⟨CT, hCT, hCT2⟩ : ∃ CT : Nat, c.tmod 4 = (CT : Int) ∧ (1 : Int) + (CT : Int) = (C : Int) := ⟨(c % 4).toNat, by rw [Int.tmod_eq_emod_of_nonneg hc0]; omega, by omega⟩
    have hwT : IntKind.i64.wrap (T : Int) = (T : Int) := IntWalk.i64_in _ (by omega)
    have hwL3 : IntKind.i64.wrap (L3 : Int) = (L3 : Int) := IntWalk.i64_in _ (by omega)
    have hwCT : IntKind.i64.wrap (CT : Int) = (CT : Int) := IntWalk.i64_in _ (by omega)
    have hwC : IntKind.i64.wrap (C : Int) = (C : Int) := IntWalk.i64_in _ (by omega)
    clear s0 s1 s2 s3 s4 s5 s6 s7 s8 s9 s10 s11 s12 r0 r1 r2 r3 r4 r5 r6 r7 r8 r9 r10 r11 r12 v0 v1 v2 v3 v4 v5 v6 v7 v8 v9 v10 v11 v12
    refine region_GS (SmS w k f b l m c 3 F) (SmS.clo w k f b l m c 3 F) hS7 (n := 13) (m := 15) (f := 13) (by kernel_rfl) (by kernel_rfl) rfl ?_
    refine WpG.takeD 0 (some 33) (v := ?_) rfl rfl (by kernel_rfl) (fun _ _ _ h => h) (.val rfl (fun wz hwz => ?_)) ?_
    rotate_left
    · go_simp; try (with_reducible rfl)
    (simp only [Act.put]); (try simp only [List.setIfInBounds_toArray]); (try simp only [List.set_cons_succ]); (try simp only [List.set_cons_zero])
    refine WpG.takeD 1 (some 34) (v := ?_) rfl rfl (by kernel_rfl) (fun _ _ _ h => h) (.val rfl (fun wz hwz => ?_)) ?_
    rotate_left
    · go_simp; try (with_reducible rfl)
    (simp only [Act.put]); (try simp only [List.setIfInBounds_toArray]); (try simp only [List.set_cons_succ]); (try simp only [List.set_cons_zero])
    refine WpG.takeD 2 (some 35) (v := ?_) rfl rfl (by kernel_rfl) (fun _ _ _ h => h) (.val rfl (fun wz hwz => ?_)) ?_
    rotate_left
    · go_simp; try (with_reducible rfl)
    (simp only [Act.put]); (try simp only [List.setIfInBounds_toArray]); (try simp only [List.set_cons_succ]); (try simp only [List.set_cons_zero])
    refine WpG.takeD 3 (some 36) (v := ?_) rfl rfl (by kernel_rfl) (fun _ _ _ h => h) (.val rfl (fun wz hwz => ?_)) ?_
    rotate_left
    · go_simp; try (with_reducible rfl)
    (simp only [Act.put]); (try simp only [List.setIfInBounds_toArray]); (try simp only [List.set_cons_succ]); (try simp only [List.set_cons_zero])
    refine WpG.takeD 4 (some 37) (v := ?_) rfl rfl (by kernel_rfl) (fun _ _ _ h => h) (.val rfl (fun wz hwz => ?_)) ?_
    rotate_left
    · go_simp; try (with_reducible rfl)
    (simp only [Act.put]); (try simp only [List.setIfInBounds_toArray]); (try simp only [List.set_cons_succ]); (try simp only [List.set_cons_zero])
    refine WpG.takeD 5 (some 38) (v := ?_) rfl rfl (by kernel_rfl) (fun _ _ _ h => h) (.val rfl (fun wz hwz => ?_)) ?_
    rotate_left
    · (obtain ⟨_, hsz, _, _⟩ := hwz; obtain ⟨⟨s0, s1, s2, s3, s4, s5⟩, _, s12⟩ := hsz.get6; go_simp; try (with_reducible rfl))
    (simp only [Act.put]); (try simp only [List.setIfInBounds_toArray]); (try simp only [List.set_cons_succ]); (try simp only [List.set_cons_zero])
    refine WpG.takeD 6 (some 39) (v := ?_) rfl rfl (by kernel_rfl) (fun _ _ _ h => h) (.val rfl (fun wz hwz => ?_)) ?_
    rotate_left
    · go_simp; try (with_reducible rfl)
    (simp only [Act.put]); (try simp only [List.setIfInBounds_toArray]); (try simp only [List.set_cons_succ]); (try simp only [List.set_cons_zero])
    refine WpG.takeD 7 (some 40) (v := ?_) rfl rfl (by kernel_rfl) (fun _ _ _ h => h) (.val rfl (fun wz hwz => ?_)) ?_
    rotate_left
    · go_simp; try (with_reducible rfl)
    (simp only [Act.put]); (try simp only [List.setIfInBounds_toArray]); (try simp only [List.set_cons_succ]); (try simp only [List.set_cons_zero])
    refine WpG.takeD 8 (some 41) (v := ?_) rfl rfl (by kernel_rfl) (fun _ _ _ h => h) (.val rfl (fun wz hwz => ?_)) ?_
    rotate_left
    · go_simp; try (with_reducible rfl)
    (simp only [Act.put]); (try simp only [List.setIfInBounds_toArray]); (try simp only [List.set_cons_succ]); (try simp only [List.set_cons_zero])
    refine WpG.takeD 9 (some 42) (v := ?_) rfl rfl (by kernel_rfl) (fun _ _ _ h => h) (.val rfl (fun wz hwz => ?_)) ?_
    rotate_left
    · go_simp; try (with_reducible rfl)
    (simp only [Act.put]); (try simp only [List.setIfInBounds_toArray]); (try simp only [List.set_cons_succ]); (try simp only [List.set_cons_zero])
    refine WpG.oneSkip 10 none rfl rfl (by kernel_rfl) (fun wz => ∃ x3 x5 : Value, Vs wz (w.heap.size + 1 + 1) [.int .u8 3, .int .u8 F, .int .i64 B, x3, .int .i64 0, x5]) (fun _ _ h hb => let ⟨y, z, hv⟩ := h; ⟨y, z, hv.call hb⟩) rfl (fun wz hwz => ?_) ?_
    · obtain ⟨hbz, hsz, hrz, x2, x3, x5, hvz⟩ := hwz; obtain ⟨⟨v0, v1, v2, v3, v4, v5⟩, ⟨v6, v7, v8, v9, v10, v11⟩, v12⟩ := hvz.get6; exact ⟨wz.setCell ⟨w.heap.size + 1 + 1, 2, none⟩ (.int .i64 B), by go_simp; try (with_reducible rfl), ⟨bl_set hbz (by dsimp only; omega) _, hsz.far (by simp; omega) _, hrz.far (by simp) _, _, _, _, hvz.put 2 (by simp) _⟩, _, _, hvz.put 2 (by simp) _⟩
    (simp only [Act.put]); (try simp only [List.setIfInBounds_toArray]); (try simp only [List.set_cons_succ]); (try simp only [List.set_cons_zero])
    refine WpG.takeD 11 (some 43) (v := ?_) rfl rfl (by kernel_rfl) (fun _ _ _ h => h) (.val rfl (fun wz hwz => ?_)) ?_
    rotate_left
    · go_simp; try (with_reducible rfl)
    (simp only [Act.put]); (try simp only [List.setIfInBounds_toArray]); (try simp only [List.set_cons_succ]); (try simp only [List.set_cons_zero])
    refine WpG.oneSkip 12 none rfl rfl (by kernel_rfl) (fun wz => ∃ x5 : Value, Vs wz (w.heap.size + 1 + 1) [.int .u8 3, .int .u8 F, .int .i64 B, .int .i64 L3, .int .i64 0, x5]) (fun _ _ h hb => let ⟨z, hv⟩ := h; ⟨z, hv.call hb⟩) rfl (fun wz hwz => ?_) ?_
    · obtain ⟨⟨hbz, hsz, hrz, _⟩, x3, x5, hvz⟩ := hwz; obtain ⟨⟨v0, v1, v2, v3, v4, v5⟩, ⟨v6, v7, v8, v9, v10, v11⟩, v12⟩ := hvz.get6; exact ⟨wz.setCell ⟨w.heap.size + 1 + 1, 3, none⟩ (.int .i64 L3), by go_simp; try (with_reducible rfl), ⟨⟨bl_set hbz (by dsimp only; omega) _, hsz.far (by simp; omega) _, hrz.far (by simp) _, _, _, _, hvz.put 3 (by simp) _⟩, _, _, hvz.put 3 (by simp) _⟩, _, hvz.put 3 (by simp) _⟩
    (simp only [Act.put]); (try simp only [List.setIfInBounds_toArray]); (try simp only [List.set_cons_succ]); (try simp only [List.set_cons_zero])
    refine WpG.done (by kernel_rfl) (fun w5 hS => ?_)
    (try simp only [List.drop_succ_cons]); (try simp only [List.drop_zero]); (try simp only [Nat.reduceSub]); (try simp only [List.take_succ_cons]); (try simp only [List.take_zero])
    obtain ⟨⟨⟨hb5, hs5, hr5, _⟩, _⟩, x5, hv5⟩ := hS
    have hrr := hr5.far (p := ⟨w.heap.size + 1 + 1, 5, none⟩) (by simp) (.int .i64 C)
    have hbw2 := bl_set (p := ⟨w.heap.size + 1 + 1, 5, none⟩) hb5 (by simp; omega) (.int .i64 C)
    clear hs hr hv hbw hS7 hw2
    obtain ⟨⟨v0, v1, v2, v3, v4, v5⟩, ⟨v6, v7, v8, v9, v10, v11⟩, v12⟩ := hv5.get6
    obtain ⟨⟨r0, r1, r2, r3, r4, r5⟩, ⟨r6, r7, r8, r9, r10, r11⟩, r12⟩ := hr5.get6
    go_wp2
    have hres := Vs.set6 hrr (.int .u8 3) (.int .u8 F) (.int .i64 B) (.int .i64 L3) (.int .i64 0) (.int .i64 C)
    have hble : w.heap.size ≤ w.heap.size + 1 := by omega
    have hbr := bl_set (p := ⟨w.heap.size + 1, 5, none⟩) (bl_set (p := ⟨w.heap.size + 1, 4, none⟩) (bl_set (p := ⟨w.heap.size + 1, 3, none⟩) (bl_set (p := ⟨w.heap.size + 1, 2, none⟩) (bl_set (p := ⟨w.heap.size + 1, 1, none⟩) (bl_set (p := ⟨w.heap.size + 1, 0, none⟩) hbw2 hble (.int .u8 3)) hble (.int .u8 F)) hble (.int .i64 B)) hble (.int .i64 L3)) hble (.int .i64 0)) hble (.int .i64 C)
    exact bodyPost_ret (results_cir hres rfl rfl) rfl ⟨rfl, hbr⟩
  · refine ⟨F, .hist L C, hF, CK.small_of ⟨⟨hL1, by omega⟩, ⟨hC1, by omega⟩⟩ (by show L ≤ 12; omega), fun w => ?_⟩
    rw [val_hist]
    go_enter Try.func36, Try.ntmps36
    go_upto_region 2 with fail
    have hs := ((Vs.new w [.int .u8 k, .int .u8 f, .int .u8 b, .int .u8 l, .int .u8 m, .int .u8 c] #[.int .u8 k, .int .u8 f, .int .u8 b, .int .u8 l, .int .u8 m, .int .u8 c] 62 rfl).alloc (.cells #[.int .u8 0, .int .u8 0, .int .i64 0, .int .i64 0, .int .i64 0, .int .i64 0] 60)).alloc (.cells #[.int .u8 4, .int .u8 F, .int .i64 0, .int .i64 0, .int .i64 0, .int .i64 0] 60)
    have hr := (Vs.new (w.alloc (.cells #[.int .u8 k, .int .u8 f, .int .u8 b, .int .u8 l, .int .u8 m, .int .u8 c] 62)) [.int .u8 0, .int .u8 0, .int .i64 0, .int .i64 0, .int .i64 0, .int .i64 0] #[.int .u8 0, .int .u8 0, .int .i64 0, .int .i64 0, .int .i64 0, .int .i64 0] 60 rfl).alloc (.cells #[.int .u8 4, .int .u8 F, .int .i64 0, .int .i64 0, .int .i64 0, .int .i64 0] 60)
    have hv := Vs.new ((w.alloc (.cells #[.int .u8 k, .int .u8 f, .int .u8 b, .int .u8 l, .int .u8 m, .int .u8 c] 62)).alloc (.cells #[.int .u8 0, .int .u8 0, .int .i64 0, .int .i64 0, .int .i64 0, .int .i64 0] 60)) [.int .u8 4, .int .u8 F, .int .i64 0, .int .i64 0, .int .i64 0, .int .i64 0] #[.int .u8 4, .int .u8 F, .int .i64 0, .int .i64 0, .int .i64 0, .int .i64 0] 60 rfl
    simp only [World.size_alloc] at hr hv
    have hbw : Below w.heap.size w (((w.alloc (.cells #[.int .u8 k, .int .u8 f, .int .u8 b, .int .u8 l, .int .u8 m, .int .u8 c] 62)).alloc (.cells #[.int .u8 0, .int .u8 0, .int .i64 0, .int .i64 0, .int .i64 0, .int .i64 0] 60)).alloc (.cells #[.int .u8 4, .int .u8 F, .int .i64 0, .int .i64 0, .int .i64 0, .int .i64 0] 60)) := by repeat (first | exact Below.refl _ _ | with_reducible assumption | (refine bl_alloc ?_ (Nat.le_refl _) _) | (refine bl_set ?_ (by dsimp only; omega) _) | (refine Below.drew ?_) | (refine bl_drewN ?_ _) | (refine bl_call ?_ (Nat.le_refl _) (by assumption)))
    generalize ((w.alloc (.cells #[.int .u8 k, .int .u8 f, .int .u8 b, .int .u8 l, .int .u8 m, .int .u8 c] 62)).alloc (.cells #[.int .u8 0, .int .u8 0, .int .i64 0, .int .i64 0, .int .i64 0, .int .i64 0] 60)).alloc (.cells #[.int .u8 4, .int .u8 F, .int .i64 0, .int .i64 0, .int .i64 0, .int .i64 0] 60) = w1 at hs hr hv hbw ⊢
    obtain ⟨⟨s0, s1, s2, s3, s4, s5⟩, ⟨s6, s7, s8, s9, s10, s11⟩, s12⟩ := hs.get6
    obtain ⟨⟨r0, r1, r2, r3, r4, r5⟩, ⟨r6, r7, r8, r9, r10, r11⟩, r12⟩ := hr.get6
    obtain ⟨⟨v0, v1, v2, v3, v4, v5⟩, ⟨v6, v7, v8, v9, v10, v11⟩, v12⟩ := hv.get6
    refine region_B (n := 11) (m := 12) (f := 11) (by kernel_rfl) (by kernel_rfl) rfl ?_
    refine WpH.takeD 0 (some 15) (v := ?_) rfl rfl (by kernel_rfl) (fun _ _ _ h => h) (.val rfl (fun wz hwz => ?_)) ?_
    rotate_left
    · go_simp; try (with_reducible rfl)
    (simp only [Act.put]); (try simp only [List.setIfInBounds_toArray]); (try simp only [List.set_cons_succ]); (try simp only [List.set_cons_zero])
    refine WpH.takeD 1 (some 16) (v := ?_) rfl rfl (by kernel_rfl) (fun _ _ _ h => h) (.val rfl (fun wz hwz => ?_)) ?_
    rotate_left
    · (obtain ⟨hcz, hfz⟩ := bcell hwz; go_simp; try (with_reducible rfl))
    (simp only [Act.put]); (try simp only [List.setIfInBounds_toArray]); (try simp only [List.set_cons_succ]); (try simp only [List.set_cons_zero])
    refine WpH.takeD 2 (some 17) (v := ?_) rfl rfl (by kernel_rfl) (fun _ _ _ h => h) (.val rfl (fun wz hwz => ?_)) ?_
    rotate_left
    · go_simp; try (with_reducible rfl)
    (simp only [Act.put]); (try simp only [List.setIfInBounds_toArray]); (try simp only [List.set_cons_succ]); (try simp only [List.set_cons_zero])
    refine WpH.takeD 3 (some 18) (v := ?_) rfl rfl (by kernel_rfl) (fun _ _ _ h => h) (.val rfl (fun wz hwz => ?_)) ?_
    rotate_left
    · go_simp; try (with_reducible rfl)
    (simp only [Act.put]); (try simp only [List.setIfInBounds_toArray]); (try simp only [List.set_cons_succ]); (try simp only [List.set_cons_zero])
    refine WpH.takeD 4 (some 19) (v := ?_) rfl rfl (by kernel_rfl) (fun _ _ _ h => h) (.val rfl (fun wz hwz => ?_)) ?_
    rotate_left
    · go_simp; try (with_reducible rfl)
    (simp only [Act.put]); (try simp only [List.setIfInBounds_toArray]); (try simp only [List.set_cons_succ]); (try simp only [List.set_cons_zero])
    refine WpH.takeD 5 (some 20) (v := ?_) rfl rfl (by kernel_rfl) (fun _ _ _ h => h) (.val rfl (fun wz hwz => ?_)) ?_
    rotate_left
    · go_simp; try (with_reducible rfl)
    (simp only [Act.put]); (try simp only [List.setIfInBounds_toArray]); (try simp only [List.set_cons_succ]); (try simp only [List.set_cons_zero])
    refine WpH.takeD 6 (some 21) (v := ?_) rfl rfl (by kernel_rfl) (fun _ _ _ h => h) (.val rfl (fun wz hwz => ?_)) ?_
    rotate_left
    · (obtain ⟨hcz, hfz⟩ := bcell hwz; go_simp; try (with_reducible rfl))
    (simp only [Act.put]); (try simp only [List.setIfInBounds_toArray]); (try simp only [List.set_cons_succ]); (try simp only [List.set_cons_zero])
    refine WpH.takeD 7 (some 22) (v := ?_) rfl rfl (by kernel_rfl) (fun _ _ _ h => h) (.val rfl (fun wz hwz => ?_)) ?_
    rotate_left
    · go_simp; try (with_reducible rfl)
    (simp only [Act.put]); (try simp only [List.setIfInBounds_toArray]); (try simp only [List.set_cons_succ]); (try simp only [List.set_cons_zero])
    refine WpH.takeD 8 (some 23) (v := ?_) rfl rfl (by kernel_rfl) (fun _ _ _ h => h) (.val rfl (fun wz hwz => ?_)) ?_
    rotate_left
    · go_simp; try (with_reducible rfl)
    (simp only [Act.put]); (try simp only [List.setIfInBounds_toArray]); (try simp only [List.set_cons_succ]); (try simp only [List.set_cons_zero])
    refine WpH.takeD 9 (some 24) (v := ?_) rfl rfl (by kernel_rfl) (fun _ _ _ h => h) (.val rfl (fun wz hwz => ?_)) ?_
    rotate_left
    · go_simp; try (with_reducible rfl)
    (simp only [Act.put]); (try simp only [List.setIfInBounds_toArray]); (try simp only [List.set_cons_succ]); (try simp only [List.set_cons_zero])
    refine WpH.takeD 10 (some 4) (v := ?_) rfl rfl (by kernel_rfl) (fun _ _ _ h => h) (.val rfl (fun wz hwz => ?_)) ?_
    rotate_left
    · go_simp; try (with_reducible rfl)
    (simp only [Act.put]); (try simp only [List.setIfInBounds_toArray]); (try simp only [List.set_cons_succ]); (try simp only [List.set_cons_zero])
    refine WpH.doneB (by kernel_rfl) (fun w2 hw2 => ?_)
    (try simp only [List.drop_succ_cons]); (try simp only [List.drop_zero]); (try simp only [Nat.reduceSub]); (try simp only [List.take_succ_cons]); (try simp only [List.take_zero])
    clear s0 s1 s2 s3 s4 s5 s6 s7 s8 s9 s10 s11 s12 r0 r1 r2 r3 r4 r5 r6 r7 r8 r9 r10 r11 r12 v0 v1 v2 v3 v4 v5 v6 v7 v8 v9 v10 v11 v12
    replace hbw := bl_call hbw (Nat.le_refl _) hw2
    replace hs := hs.call hw2
    replace hr := hr.call hw2
    replace hv := hv.call hw2
    obtain ⟨⟨s0, s1, s2, s3, s4, s5⟩, ⟨s6, s7, s8, s9, s10, s11⟩, s12⟩ := hs.get6
    obtain ⟨⟨r0, r1, r2, r3, r4, r5⟩, ⟨r6, r7, r8, r9, r10, r11⟩, r12⟩ := hr.get6
    obtain ⟨⟨v0, v1, v2, v3, v4, v5⟩, ⟨v6, v7, v8, v9, v10, v11⟩, v12⟩ := hv.get6
    go_wp2
    have hS7 : SmS w k f b l m c 4 F w2.drew := ⟨hbw.drew, hs.drew, hr.drew, _, _, _, hv.drew⟩
    obtain ⟨CT, hCT, hCT2⟩ : ∃ CT : Nat, c.tmod 4 = (CT : Int) ∧ (1 : Int) + (CT : Int) = (C : Int) := ⟨(c % 4).toNat, by rw [Int.tmod_eq_emod_of_nonneg hc0]; omega, by omega⟩
    have hwCT : IntKind.i64.wrap (CT : Int) = (CT : Int) := IntWalk.i64_in _ (by omega)
    have hwC : IntKind.i64.wrap (C : Int) = (C : Int) := IntWalk.i64_in _ (by omega)
    have hSH : Clo (fun wz => SmS w k f b l m c 4 F wz ∧ ∃ x3 x5 : Value, Vs wz (w.heap.size + 1 + 1) [.int .u8 4, .int .u8 F, .int .i64 0, x3, .int .i64 0, x5]) := (SmS.clo w k f b l m c 4 F).and fun _ _ h hb => let ⟨y, z, hv⟩ := h; ⟨y, z, hv.call hb⟩
    have hS8 : SmS w k f b l m c 4 F w2.drew ∧ ∃ x3 x5 : Value, Vs w2.drew (w.heap.size + 1 + 1) [.int .u8 4, .int .u8 F, .int .i64 0, x3, .int .i64 0, x5] := ⟨hS7, _, _, hv.drew⟩
    clear s0 s1 s2 s3 s4 s5 s6 s7 s8 s9 s10 s11 s12 r0 r1 r2 r3 r4 r5 r6 r7 r8 r9 r10 r11 r12 v0 v1 v2 v3 v4 v5 v6 v7 v8 v9 v10 v11 v12
    refine region_GS _ hSH hS8 (n := 8) (m := 10) (f := 8) (by kernel_rfl) (by kernel_rfl) rfl ?_
    refine WpG.takeD 0 (some 47) (v := ?_) rfl rfl (by kernel_rfl) (fun _ _ _ h => h) (.val rfl (fun wz hwz => ?_)) ?_
    rotate_left
    · go_simp; try (with_reducible rfl)
    (simp only [Act.put]); (try simp only [List.setIfInBounds_toArray]); (try simp only [List.set_cons_succ]); (try simp only [List.set_cons_zero])
    refine WpG.takeD 1 (some 48) (v := ?_) rfl rfl (by kernel_rfl) (fun _ _ _ h => h) (.val rfl (fun wz hwz => ?_)) ?_
    rotate_left
    · go_simp; try (with_reducible rfl)
    (simp only [Act.put]); (try simp only [List.setIfInBounds_toArray]); (try simp only [List.set_cons_succ]); (try simp only [List.set_cons_zero])
    refine WpG.takeD 2 (some 49) (v := ?_) rfl rfl (by kernel_rfl) (fun _ _ _ h => h) (.val rfl (fun wz hwz => ?_)) ?_
    rotate_left
    · (obtain ⟨⟨_, hsz, _, _⟩, _⟩ := hwz; obtain ⟨⟨s0, s1, s2, s3, s4, s5⟩, _, s12⟩ := hsz.get6; go_simp; try (with_reducible rfl))
    (simp only [Act.put]); (try simp only [List.setIfInBounds_toArray]); (try simp only [List.set_cons_succ]); (try simp only [List.set_cons_zero])
    refine WpG.takeD 3 (some 50) (v := ?_) rfl rfl (by kernel_rfl) (fun _ _ _ h => h) (.val rfl (fun wz hwz => ?_)) ?_
    rotate_left
    · go_simp; try (with_reducible rfl)
    (simp only [Act.put]); (try simp only [List.setIfInBounds_toArray]); (try simp only [List.set_cons_succ]); (try simp only [List.set_cons_zero])
    refine WpG.takeD 4 (some 51) (v := ?_) rfl rfl (by kernel_rfl) (fun _ _ _ h => h) (.val rfl (fun wz hwz => ?_)) ?_
    rotate_left
    · go_simp; try (with_reducible rfl)
    (simp only [Act.put]); (try simp only [List.setIfInBounds_toArray]); (try simp only [List.set_cons_succ]); (try simp only [List.set_cons_zero])
    refine WpG.takeD 5 (some 52) (v := ?_) rfl rfl (by kernel_rfl) (fun _ _ _ h => h) (.val rfl (fun wz hwz => ?_)) ?_
    rotate_left
    · go_simp; try (with_reducible rfl)
    (simp only [Act.put]); (try simp only [List.setIfInBounds_toArray]); (try simp only [List.set_cons_succ]); (try simp only [List.set_cons_zero])
    refine WpG.takeD 6 (some 53) (v := ?_) rfl rfl (by kernel_rfl) (fun _ _ _ h => h) (.val rfl (fun wz hwz => ?_)) ?_
    rotate_left
    · go_simp; try (with_reducible rfl)
    (simp only [Act.put]); (try simp only [List.setIfInBounds_toArray]); (try simp only [List.set_cons_succ]); (try simp only [List.set_cons_zero])
    refine WpG.oneSkip 7 none rfl rfl (by kernel_rfl) (fun wz => ∃ x5 : Value, Vs wz (w.heap.size + 1 + 1) [.int .u8 4, .int .u8 F, .int .i64 0, .int .i64 L, .int .i64 0, x5]) (fun _ _ h hb => let ⟨z, hv⟩ := h; ⟨z, hv.call hb⟩) rfl (fun wz hwz => ?_) ?_
    · obtain ⟨⟨hbz, hsz, hrz, _⟩, x3, x5, hvz⟩ := hwz; obtain ⟨⟨v0, v1, v2, v3, v4, v5⟩, ⟨v6, v7, v8, v9, v10, v11⟩, v12⟩ := hvz.get6; exact ⟨wz.setCell ⟨w.heap.size + 1 + 1, 3, none⟩ (.int .i64 L), by go_simp; try (with_reducible rfl), ⟨⟨bl_set hbz (by dsimp only; omega) _, hsz.far (by simp; omega) _, hrz.far (by simp) _, _, _, _, hvz.put 3 (by simp) _⟩, _, _, hvz.put 3 (by simp) _⟩, _, hvz.put 3 (by simp) _⟩
    (simp only [Act.put]); (try simp only [List.setIfInBounds_toArray]); (try simp only [List.set_cons_succ]); (try simp only [List.set_cons_zero])
    refine WpG.done (by kernel_rfl) (fun w5 hS => ?_)
    (try simp only [List.drop_succ_cons]); (try simp only [List.drop_zero]); (try simp only [Nat.reduceSub]); (try simp only [List.take_succ_cons]); (try simp only [List.take_zero])
    obtain ⟨⟨⟨hb5, hs5, hr5, _⟩, _⟩, x5, hv5⟩ := hS
    have hrr := hr5.far (p := ⟨w.heap.size + 1 + 1, 5, none⟩) (by simp) (.int .i64 C)
    have hbw2 := bl_set (p := ⟨w.heap.size + 1 + 1, 5, none⟩) hb5 (by simp; omega) (.int .i64 C)
    clear hs hr hv hbw hS7 hw2
    obtain ⟨⟨v0, v1, v2, v3, v4, v5⟩, ⟨v6, v7, v8, v9, v10, v11⟩, v12⟩ := hv5.get6
    obtain ⟨⟨r0, r1, r2, r3, r4, r5⟩, ⟨r6, r7, r8, r9, r10, r11⟩, r12⟩ := hr5.get6
    go_wp2
    have hres := Vs.set6 hrr (.int .u8 4) (.int .u8 F) (.int .i64 0) (.int .i64 L) (.int .i64 0) (.int .i64 C)
    have hble : w.heap.size ≤ w.heap.size + 1 := by omega
    have hbr := bl_set (p := ⟨w.heap.size + 1, 5, none⟩) (bl_set (p := ⟨w.heap.size + 1, 4, none⟩) (bl_set (p := ⟨w.heap.size + 1, 3, none⟩) (bl_set (p := ⟨w.heap.size + 1, 2, none⟩) (bl_set (p := ⟨w.heap.size + 1, 1, none⟩) (bl_set (p := ⟨w.heap.size + 1, 0, none⟩) hbw2 hble (.int .u8 4)) hble (.int .u8 F)) hble (.int .i64 0)) hble (.int .i64 L)) hble (.int .i64 0)) hble (.int .i64 C)
    exact bodyPost_ret (results_cir hres rfl rfl) rfl ⟨rfl, hbr⟩
  · have hmod : 0 ≤ m % (L : Int) ∧ m % (L : Int) < (L : Int) := ⟨Int.emod_nonneg _ (by omega), Int.emod_lt_of_pos _ (by omega)⟩
    obtain ⟨M, hM, hM1, hML⟩ : ∃ M : Nat, 1 + m % (L : Int) = (M : Int) ∧ 1 ≤ M ∧ M ≤ L := ⟨(1 + m % (L : Int)).toNat, by omega, by omega, by omega⟩
    have hM' : m % (L : Int) + 1 = (M : Int) := by omega
    have hb3 := bitLen_5 M (by omega)
    refine ⟨F, .multi L M C, hF, CK.small_of ⟨⟨hL1, by omega⟩, ⟨hM1, hML⟩, ⟨hC1, by omega⟩⟩ (by show L + Lib.bitLen M ≤ 12; omega), fun w => ?_⟩
    have hL0 : ¬ (L = 0) := by omega
    rw [val_multi]
    clear hb3
    go_enter Try.func36, Try.ntmps36
    go_upto_region 2 with fail
    have hs := ((Vs.new w [.int .u8 k, .int .u8 f, .int .u8 b, .int .u8 l, .int .u8 m, .int .u8 c] #[.int .u8 k, .int .u8 f, .int .u8 b, .int .u8 l, .int .u8 m, .int .u8 c] 62 rfl).alloc (.cells #[.int .u8 0, .int .u8 0, .int .i64 0, .int .i64 0, .int .i64 0, .int .i64 0] 60)).alloc (.cells #[.int .u8 5, .int .u8 F, .int .i64 0, .int .i64 0, .int .i64 0, .int .i64 0] 60)
    have hr := (Vs.new (w.alloc (.cells #[.int .u8 k, .int .u8 f, .int .u8 b, .int .u8 l, .int .u8 m, .int .u8 c] 62)) [.int .u8 0, .int .u8 0, .int .i64 0, .int .i64 0, .int .i64 0, .int .i64 0] #[.int .u8 0, .int .u8 0, .int .i64 0, .int .i64 0, .int .i64 0, .int .i64 0] 60 rfl).alloc (.cells #[.int .u8 5, .int .u8 F, .int .i64 0, .int .i64 0, .int .i64 0, .int .i64 0] 60)
    have hv := Vs.new ((w.alloc (.cells #[.int .u8 k, .int .u8 f, .int .u8 b, .int .u8 l, .int .u8 m, .int .u8 c] 62)).alloc (.cells #[.int .u8 0, .int .u8 0, .int .i64 0, .int .i64 0, .int .i64 0, .int .i64 0] 60)) [.int .u8 5, .int .u8 F, .int .i64 0, .int .i64 0, .int .i64 0, .int .i64 0] #[.int .u8 5, .int .u8 F, .int .i64 0, .int .i64 0, .int .i64 0, .int .i64 0] 60 rfl
    simp only [World.size_alloc] at hr hv
    have hbw : Below w.heap.size w (((w.alloc (.cells #[.int .u8 k, .int .u8 f, .int .u8 b, .int .u8 l, .int .u8 m, .int .u8 c] 62)).alloc (.cells #[.int .u8 0, .int .u8 0, .int .i64 0, .int .i64 0, .int .i64 0, .int .i64 0] 60)).alloc (.cells #[.int .u8 5, .int .u8 F, .int .i64 0, .int .i64 0, .int .i64 0, .int .i64 0] 60)) := by repeat (first | exact Below.refl _ _ | with_reducible assumption | (refine bl_alloc ?_ (Nat.le_refl _) _) | (refine bl_set ?_ (by dsimp only; omega) _) | (refine Below.drew ?_) | (refine bl_drewN ?_ _) | (refine bl_call ?_ (Nat.le_refl _) (by assumption)))
    generalize ((w.alloc (.cells #[.int .u8 k, .int .u8 f, .int .u8 b, .int .u8 l, .int .u8 m, .int .u8 c] 62)).alloc (.cells #[.int .u8 0, .int .u8 0, .int .i64 0, .int .i64 0, .int .i64 0, .int .i64 0] 60)).alloc (.cells #[.int .u8 5, .int .u8 F, .int .i64 0, .int .i64 0, .int .i64 0, .int .i64 0] 60) = w1 at hs hr hv hbw ⊢
    obtain ⟨⟨s0, s1, s2, s3, s4, s5⟩, ⟨s6, s7, s8, s9, s10, s11⟩, s12⟩ := hs.get6
    obtain ⟨⟨r0, r1, r2, r3, r4, r5⟩, ⟨r6, r7, r8, r9, r10, r11⟩, r12⟩ := hr.get6
    obtain ⟨⟨v0, v1, v2, v3, v4, v5⟩, ⟨v6, v7, v8, v9, v10, v11⟩, v12⟩ := hv.get6
    refine region_B (n := 11) (m := 12) (f := 11) (by kernel_rfl) (by kernel_rfl) rfl ?_
    refine WpH.takeD 0 (some 15) (v := ?_) rfl rfl (by kernel_rfl) (fun _ _ _ h => h) (.val rfl (fun wz hwz => ?_)) ?_
    rotate_left
    · go_simp; try (with_reducible rfl)
    (simp only [Act.put]); (try simp only [List.setIfInBounds_toArray]); (try simp only [List.set_cons_succ]); (try simp only [List.set_cons_zero])
    refine WpH.takeD 1 (some 16) (v := ?_) rfl rfl (by kernel_rfl) (fun _ _ _ h => h) (.val rfl (fun wz hwz => ?_)) ?_
    rotate_left
    · (obtain ⟨hcz, hfz⟩ := bcell hwz; go_simp; try (with_reducible rfl))
    (simp only [Act.put]); (try simp only [List.setIfInBounds_toArray]); (try simp only [List.set_cons_succ]); (try simp only [List.set_cons_zero])
    refine WpH.takeD 2 (some 17) (v := ?_) rfl rfl (by kernel_rfl) (fun _ _ _ h => h) (.val rfl (fun wz hwz => ?_)) ?_
    rotate_left
    · go_simp; try (with_reducible rfl)
    (simp only [Act.put]); (try simp only [List.setIfInBounds_toArray]); (try simp only [List.set_cons_succ]); (try simp only [List.set_cons_zero])
    refine WpH.takeD 3 (some 18) (v := ?_) rfl rfl (by kernel_rfl) (fun _ _ _ h => h) (.val rfl (fun wz hwz => ?_)) ?_
    rotate_left
    · go_simp; try (with_reducible rfl)
    (simp only [Act.put]); (try simp only [List.setIfInBounds_toArray]); (try simp only [List.set_cons_succ]); (try simp only [List.set_cons_zero])
    refine WpH.takeD 4 (some 19) (v := ?_) rfl rfl (by kernel_rfl) (fun _ _ _ h => h) (.val rfl (fun wz hwz => ?_)) ?_
    rotate_left
    · go_simp; try (with_reducible rfl)
    (simp only [Act.put]); (try simp only [List.setIfInBounds_toArray]); (try simp only [List.set_cons_succ]); (try simp only [List.set_cons_zero])
    refine WpH.takeD 5 (some 20) (v := ?_) rfl rfl (by kernel_rfl) (fun _ _ _ h => h) (.val rfl (fun wz hwz => ?_)) ?_
    rotate_left
    · go_simp; try (with_reducible rfl)
    (simp only [Act.put]); (try simp only [List.setIfInBounds_toArray]); (try simp only [List.set_cons_succ]); (try simp only [List.set_cons_zero])
    refine WpH.takeD 6 (some 21) (v := ?_) rfl rfl (by kernel_rfl) (fun _ _ _ h => h) (.val rfl (fun wz hwz => ?_)) ?_
    rotate_left
    · (obtain ⟨hcz, hfz⟩ := bcell hwz; go_simp; try (with_reducible rfl))
    (simp only [Act.put]); (try simp only [List.setIfInBounds_toArray]); (try simp only [List.set_cons_succ]); (try simp only [List.set_cons_zero])
    refine WpH.takeD 7 (some 22) (v := ?_) rfl rfl (by kernel_rfl) (fun _ _ _ h => h) (.val rfl (fun wz hwz => ?_)) ?_
    rotate_left
    · go_simp; try (with_reducible rfl)
    (simp only [Act.put]); (try simp only [List.setIfInBounds_toArray]); (try simp only [List.set_cons_succ]); (try simp only [List.set_cons_zero])
    refine WpH.takeD 8 (some 23) (v := ?_) rfl rfl (by kernel_rfl) (fun _ _ _ h => h) (.val rfl (fun wz hwz => ?_)) ?_
    rotate_left
    · go_simp; try (with_reducible rfl)
    (simp only [Act.put]); (try simp only [List.setIfInBounds_toArray]); (try simp only [List.set_cons_succ]); (try simp only [List.set_cons_zero])
    refine WpH.takeD 9 (some 24) (v := ?_) rfl rfl (by kernel_rfl) (fun _ _ _ h => h) (.val rfl (fun wz hwz => ?_)) ?_
    rotate_left
    · go_simp; try (with_reducible rfl)
    (simp only [Act.put]); (try simp only [List.setIfInBounds_toArray]); (try simp only [List.set_cons_succ]); (try simp only [List.set_cons_zero])
    refine WpH.takeD 10 (some 4) (v := ?_) rfl rfl (by kernel_rfl) (fun _ _ _ h => h) (.val rfl (fun wz hwz => ?_)) ?_
    rotate_left
    · go_simp; try (with_reducible rfl)
    (simp only [Act.put]); (try simp only [List.setIfInBounds_toArray]); (try simp only [List.set_cons_succ]); (try simp only [List.set_cons_zero])
    refine WpH.doneB (by kernel_rfl) (fun w2 hw2 => ?_)
    (try simp only [List.drop_succ_cons]); (try simp only [List.drop_zero]); (try simp only [Nat.reduceSub]); (try simp only [List.take_succ_cons]); (try simp only [List.take_zero])
    clear s0 s1 s2 s3 s4 s5 s6 s7 s8 s9 s10 s11 s12 r0 r1 r2 r3 r4 r5 r6 r7 r8 r9 r10 r11 r12 v0 v1 v2 v3 v4 v5 v6 v7 v8 v9 v10 v11 v12
    replace hbw := bl_call hbw (Nat.le_refl _) hw2
    replace hs := hs.call hw2
    replace hr := hr.call hw2
    replace hv := hv.call hw2
    obtain ⟨⟨s0, s1, s2, s3, s4, s5⟩, ⟨s6, s7, s8, s9, s10, s11⟩, s12⟩ := hs.get6
    obtain ⟨⟨r0, r1, r2, r3, r4, r5⟩, ⟨r6, r7, r8, r9, r10, r11⟩, r12⟩ := hr.get6
    obtain ⟨⟨v0, v1, v2, v3, v4, v5⟩, ⟨v6, v7, v8, v9, v10, v11⟩, v12⟩ := hv.get6
    go_wp2
    have hS7 : SmS w k f b l m c 5 F w2.drew := ⟨hbw.drew, hs.drew, hr.drew, _, _, _, hv.drew⟩
    obtain ⟨CT, hCT, hCT2⟩ : ∃ CT : Nat, c.tmod 4 = (CT : Int) ∧ (1 : Int) + (CT : Int) = (C : Int) := ⟨(c % 4).toNat, by rw [Int.tmod_eq_emod_of_nonneg hc0]; omega, by omega⟩
    have hwCT : IntKind.i64.wrap (CT : Int) = (CT : Int) := IntWalk.i64_in _ (by omega)
    have hwC : IntKind.i64.wrap (C : Int) = (C : Int) := IntWalk.i64_in _ (by omega)
    have hSH : Clo (fun wz => SmS w k f b l m c 5 F wz ∧ ∃ x3 x5 : Value, Vs wz (w.heap.size + 1 + 1) [.int .u8 5, .int .u8 F, .int .i64 0, x3, .int .i64 0, x5]) := (SmS.clo w k f b l m c 5 F).and fun _ _ h hb => let ⟨y, z, hv⟩ := h; ⟨y, z, hv.call hb⟩
    have hS8 : SmS w k f b l m c 5 F w2.drew ∧ ∃ x3 x5 : Value, Vs w2.drew (w.heap.size + 1 + 1) [.int .u8 5, .int .u8 F, .int .i64 0, x3, .int .i64 0, x5] := ⟨hS7, _, _, hv.drew⟩
    clear s0 s1 s2 s3 s4 s5 s6 s7 s8 s9 s10 s11 s12 r0 r1 r2 r3 r4 r5 r6 r7 r8 r9 r10 r11 r12 v0 v1 v2 v3 v4 v5 v6 v7 v8 v9 v10 v11 v12
    refine region_GS _ hSH hS8 (n := 8) (m := 10) (f := 8) (by kernel_rfl) (by kernel_rfl) rfl ?_
    refine WpG.takeD 0 (some 57) (v := ?_) rfl rfl (by kernel_rfl) (fun _ _ _ h => h) (.val rfl (fun wz hwz => ?_)) ?_
    rotate_left
    · go_simp; try (with_reducible rfl)
    (simp only [Act.put]); (try simp only [List.setIfInBounds_toArray]); (try simp only [List.set_cons_succ]); (try simp only [List.set_cons_zero])
    refine WpG.takeD 1 (some 58) (v := ?_) rfl rfl (by kernel_rfl) (fun _ _ _ h => h) (.val rfl (fun wz hwz => ?_)) ?_
    rotate_left
    · go_simp; try (with_reducible rfl)
    (simp only [Act.put]); (try simp only [List.setIfInBounds_toArray]); (try simp only [List.set_cons_succ]); (try simp only [List.set_cons_zero])
    refine WpG.takeD 2 (some 59) (v := ?_) rfl rfl (by kernel_rfl) (fun _ _ _ h => h) (.val rfl (fun wz hwz => ?_)) ?_
    rotate_left
    · (obtain ⟨⟨_, hsz, _, _⟩, _⟩ := hwz; obtain ⟨⟨s0, s1, s2, s3, s4, s5⟩, _, s12⟩ := hsz.get6; go_simp; try (with_reducible rfl))
    (simp only [Act.put]); (try simp only [List.setIfInBounds_toArray]); (try simp only [List.set_cons_succ]); (try simp only [List.set_cons_zero])
    refine WpG.takeD 3 (some 60) (v := ?_) rfl rfl (by kernel_rfl) (fun _ _ _ h => h) (.val rfl (fun wz hwz => ?_)) ?_
    rotate_left
    · go_simp; try (with_reducible rfl)
    (simp only [Act.put]); (try simp only [List.setIfInBounds_toArray]); (try simp only [List.set_cons_succ]); (try simp only [List.set_cons_zero])
    refine WpG.takeD 4 (some 61) (v := ?_) rfl rfl (by kernel_rfl) (fun _ _ _ h => h) (.val rfl (fun wz hwz => ?_)) ?_
    rotate_left
    · go_simp; try (with_reducible rfl)
    (simp only [Act.put]); (try simp only [List.setIfInBounds_toArray]); (try simp only [List.set_cons_succ]); (try simp only [List.set_cons_zero])
    refine WpG.takeD 5 (some 62) (v := ?_) rfl rfl (by kernel_rfl) (fun _ _ _ h => h) (.val rfl (fun wz hwz => ?_)) ?_
    rotate_left
    · go_simp; try (with_reducible rfl)
    (simp only [Act.put]); (try simp only [List.setIfInBounds_toArray]); (try simp only [List.set_cons_succ]); (try simp only [List.set_cons_zero])
    refine WpG.takeD 6 (some 63) (v := ?_) rfl rfl (by kernel_rfl) (fun _ _ _ h => h) (.val rfl (fun wz hwz => ?_)) ?_
    rotate_left
    · go_simp; try (with_reducible rfl)
    (simp only [Act.put]); (try simp only [List.setIfInBounds_toArray]); (try simp only [List.set_cons_succ]); (try simp only [List.set_cons_zero])
    refine WpG.oneSkip 7 none rfl rfl (by kernel_rfl) (fun wz => ∃ x5 : Value, Vs wz (w.heap.size + 1 + 1) [.int .u8 5, .int .u8 F, .int .i64 0, .int .i64 L, .int .i64 0, x5]) (fun _ _ h hb => let ⟨z, hv⟩ := h; ⟨z, hv.call hb⟩) rfl (fun wz hwz => ?_) ?_
    · obtain ⟨⟨hbz, hsz, hrz, _⟩, x3, x5, hvz⟩ := hwz; obtain ⟨⟨v0, v1, v2, v3, v4, v5⟩, ⟨v6, v7, v8, v9, v10, v11⟩, v12⟩ := hvz.get6; exact ⟨wz.setCell ⟨w.heap.size + 1 + 1, 3, none⟩ (.int .i64 L), by go_simp; try (with_reducible rfl), ⟨⟨bl_set hbz (by dsimp only; omega) _, hsz.far (by simp; omega) _, hrz.far (by simp) _, _, _, _, hvz.put 3 (by simp) _⟩, _, _, hvz.put 3 (by simp) _⟩, _, hvz.put 3 (by simp) _⟩
    (simp only [Act.put]); (try simp only [List.setIfInBounds_toArray]); (try simp only [List.set_cons_succ]); (try simp only [List.set_cons_zero])
    refine WpG.done (by kernel_rfl) (fun w5 hS => ?_)
    (try simp only [List.drop_succ_cons]); (try simp only [List.drop_zero]); (try simp only [Nat.reduceSub]); (try simp only [List.take_succ_cons]); (try simp only [List.take_zero])
    obtain ⟨⟨⟨hb5, hs5, hr5, _⟩, _⟩, x5, hv5⟩ := hS
    have hrr := (hr5.far (p := ⟨w.heap.size + 1 + 1, 5, none⟩) (by simp) (.int .i64 C)).far (p := ⟨w.heap.size + 1 + 1, 4, none⟩) (by simp) (.int .i64 M)
    have hbw2 := bl_set (p := ⟨w.heap.size + 1 + 1, 4, none⟩) (bl_set (p := ⟨w.heap.size + 1 + 1, 5, none⟩) hb5 (by simp; omega) (.int .i64 C)) (by simp; omega) (.int .i64 M)
    clear hs hr hv hbw hS7 hw2 hS8
    obtain ⟨⟨v0, v1, v2, v3, v4, v5⟩, ⟨v6, v7, v8, v9, v10, v11⟩, v12⟩ := hv5.get6
    obtain ⟨⟨r0, r1, r2, r3, r4, r5⟩, ⟨r6, r7, r8, r9, r10, r11⟩, r12⟩ := hr5.get6
    obtain ⟨⟨s0, s1, s2, s3, s4, s5⟩, ⟨s6, s7, s8, s9, s10, s11⟩, s12⟩ := hs5.get6
    go_wp2
    have hres := Vs.set6 hrr (.int .u8 5) (.int .u8 F) (.int .i64 0) (.int .i64 L) (.int .i64 M) (.int .i64 C)
    have hble : w.heap.size ≤ w.heap.size + 1 := by omega
    have hbr := bl_set (p := ⟨w.heap.size + 1, 5, none⟩) (bl_set (p := ⟨w.heap.size + 1, 4, none⟩) (bl_set (p := ⟨w.heap.size + 1, 3, none⟩) (bl_set (p := ⟨w.heap.size + 1, 2, none⟩) (bl_set (p := ⟨w.heap.size + 1, 1, none⟩) (bl_set (p := ⟨w.heap.size + 1, 0, none⟩) hbw2 hble (.int .u8 5)) hble (.int .u8 F)) hble (.int .i64 0)) hble (.int .i64 L)) hble (.int .i64 M)) hble (.int .i64 C)
    exact bodyPost_ret (results_cir hres rfl rfl) rfl ⟨rfl, hbr⟩

end Go.Proofs.Ytiphahbeedeebaa

namespace Go.Proofs.Ytiphahbeedeebaa
open Go.RowKit Fm
set_option linter.unusedVariables false
set_option maxRecDepth 100000

/-- a circuit's six numbers, whatever they are -/
structure Raw where
  k : Int
  f : Int
  b : Int
  l : Int
  m : Int
  c : Int
def Raw.val (x : Raw) : Value := .agg #[.int .u8 x.k, .int .u8 x.f, .int .i64 x.b, .int .i64 x.l, .int .i64 x.m, .int .i64 x.c]
def Raw.rval (x : Raw) : Value := .agg #[.int .i64 x.k, .int .i64 x.f, .int .i64 x.b, .int .i64 x.l, .int .i64 x.m, .int .i64 x.c]
/-- it is this circuit in range -/
structure Raw.Is (x : Raw) (F : Nat) (y : CK) : Prop where
  fld : IsF F
  ok : y.ok
  calls : ¬ 511 < y.calls
  val : x.val = y.val F
  rval : x.rval = y.rval F

theorem raw_checks (x : Raw) : ∃ n : Int, (n = 0 ∨ n = 5 ∨ n = 6 ∨ n = 7 ∨ n = 10) ∧ (∀ w, Calls Try.prog 59 #[x.val] w (RetC n w)) ∧ (∀ w, Calls Try.prog 49 #[x.rval] w (RetC n w)) ∧
    (n = 0 → ∃ F y, x.Is F y) := by
  obtain ⟨k, f, b, l, m, c⟩ := x
  by_cases hf : (f == 1 || f == 2) = true
  · obtain ⟨F, hF, rfl⟩ : ∃ F : Nat, IsF F ∧ f = (F : Int) := by
      rw [Bool.or_eq_true, beq_iff_eq, beq_iff_eq] at hf
      rcases hf with rfl | rfl
      · exact ⟨1, isF1, rfl⟩
      · exact ⟨2, isF2, rfl⟩
    by_cases hk : 1 ≤ k ∧ k ≤ 5
    · cases hr : rangeB k b l m c
      · exact ⟨6, by omega, fun w => circuit_Check_range hF k b l m c hk hr w, fun w => ref9_Check_range hF k b l m c hk hr w, fun h => by omega⟩
      · obtain ⟨y, hy, rfl, rfl, rfl, rfl, rfl⟩ := cir_range hk hr
        by_cases hc : 511 < y.calls
        · refine ⟨5, by omega, fun w => ?_, fun w => ?_, fun h => by omega⟩
          · have h := circuit_Check_ok hF y hy w
            rwa [CK.code_no hc] at h
          · have h := ref9_Check_ok hF y hy w
            rwa [CK.code_no hc] at h
        · refine ⟨0, by omega, fun w => ?_, fun w => ?_, fun _ => ⟨F, y, hF, hy, hc, rfl, rfl⟩⟩
          · have h := circuit_Check_ok hF y hy w
            rwa [CK.code_ok hc] at h
          · have h := ref9_Check_ok hF y hy w
            rwa [CK.code_ok hc] at h
    · exact ⟨10, by omega, fun w => circuit_Check_kind hF k b l m c (by omega) w, fun w => ref9_Check_kind hF k b l m c (by omega) w, fun h => by omega⟩
  · have hf' : (f == 1 || f == 2) = false := by simpa using hf
    exact ⟨7, by omega, fun w => circuit_Check_field k f b l m c hf' w, fun w => ref9_Check_field k f b l m c hf' w, fun h => by omega⟩

end Go.Proofs.Ytiphahbeedeebaa

namespace Go.Proofs.Ytiphahbeedeebaa
open Go.RowKit Fm
set_option linter.unusedVariables false
set_option maxRecDepth 100000

/-- small numbers are told apart by their elements -/
theorem nK_small {f : Nat} (hf : IsF f) {a b : Nat} (ha : a < 4294967296) (hb : b < 4294967296) (h : nK f a = nK f b) : a = b := by
  have h1 := congrArg (fun x : Fin (Pm f) => ((x.val : Nat) : Int)) h
  simp only [nK_kI, kI_val] at h1
  rcases hf.or with rfl | rfl
  · rw [show ((Pm 1 : Nat) : Int) = 18446744069414584321 from rfl] at h1
    omega
  · rw [show ((Pm 2 : Nat) : Int) = 340282366920938462946865773367900766209 from rfl] at h1
    omega

/-- so many of the first N are 1 -/
def Cnt {f : Nat} (l : KL f) (N k s : Nat) : Prop := nK f s = ksum (l.take (min k N))
theorem Cnt.zero {f : Nat} (l : KL f) (N : Nat) : Cnt l N 0 0 := by
  unfold Cnt
  rw [nK_zero, Nat.zero_min]
  rfl
theorem Cnt.out {f : Nat} {l : KL f} {N k s : Nat} (h : Cnt l N k s) (hk : ¬ k < N) : Cnt l N (k + 1) s := by
  unfold Cnt at *
  rw [show min (k + 1) N = min k N by omega]
  exact h
theorem Cnt.no {f : Nat} {l : KL f} {N k s : Nat} (h : Cnt l N k s) (hx : l[k]? = some 0) : Cnt l N (k + 1) s := by
  by_cases hk : k < N
  · unfold Cnt at *
    rw [show min (k + 1) N = k + 1 by omega, ksum_take l k _ hx, h, show min k N = k by omega]
    grind
  · exact h.out hk
theorem Cnt.yes {f : Nat} {l : KL f} {N k s : Nat} (h : Cnt l N k s) (hk : k < N) (hx : l[k]? = some 1) : Cnt l N (k + 1) (s + 1) := by
  unfold Cnt at *
  rw [show min (k + 1) N = k + 1 by omega, ksum_take l k _ hx, nK_add, nK_one, h, show min k N = k by omega]

theorem kpow_nK (f : Nat) : ∀ j, kpow f j = nK f (2 ^ j)
  | 0 => (nK_one f).symm
  | j + 1 => by rw [kpow, kpow_nK f j, Nat.pow_succ, Nat.mul_two, nK_add]

/-- the number that the first j of some bits make -/
def Num {f : Nat} (l : KL f) (j v : Nat) : Prop := nK f v = knum (l.take j) ∧ v < 2 ^ j
theorem Num.zero {f : Nat} (l : KL f) : Num l 0 0 := ⟨by rw [nK_zero]; rfl, by decide⟩
theorem Num.no {f : Nat} {l : KL f} {j v : Nat} (h : Num l j v) (hx : l[j]? = some 0) : Num l (j + 1) v := by
  refine ⟨?_, ?_⟩
  · rw [knum_take l j _ hx, ← h.1]
    grind
  · have := h.2
    rw [Nat.pow_succ]
    omega
theorem Num.yes {f : Nat} {l : KL f} {j v : Nat} (h : Num l j v) (hx : l[j]? = some 1) : Num l (j + 1) (v + 2 ^ j) := by
  refine ⟨?_, ?_⟩
  · rw [knum_take l j _ hx, nK_add, ← h.1, kpow_nK]
    grind
  · have := h.2
    rw [Nat.pow_succ]
    omega

section
variable {f : Nat} (hf : IsF f)
include hf

set_option maxHeartbeats 8000000 in
theorem ref9_Valid (y : CK) (hy : y.ok) (hcalls : ¬ 511 < y.calls) (vl : Value) (l : KL f) (w : World) (hl : SlK w w.heap.size vl l) (hlen : l.length = y.nin) :
    Calls Try.prog 46 #[y.rval f, vl] w (RetTest (okVec y l) w) := by
  have HC : Hid (∀ wz, Calls Try.prog 49 #[y.rval f] wz (RetC 0 wz)) := by
    intro wz
    have h := ref9_Check_ok hf y hy wz
    rwa [CK.code_ok hcalls] at h
  have HI := Lib.hid (fun wz => ref9_In f y hy wz)
  have hnin := CK.nin_le hy
  have heq := eql_elem
  have hneq := neq_elem
  have hfb0 : (1 : Int) ≤ (f : Int) := by rcases hf.or with rfl | rfl <;> omega
  have hfb1 : (f : Int) ≤ 2 := by rcases hf.or with rfl | rfl <;> omega
  obtain ⟨A, cc, rfl, hcc, hcm, hA⟩ := hl
  have HL := Lib.hid hlen
  unfold CK.rval at HC HI ⊢
  obtain ⟨K, hK⟩ : ∃ K : Int, ((y.k : Nat) : Int) = K := ⟨_, rfl⟩
  obtain ⟨B, hB⟩ : ∃ K : Int, ((y.b : Nat) : Int) = K := ⟨_, rfl⟩
  obtain ⟨N, hN⟩ : ∃ K : Nat, y.l = K := ⟨_, rfl⟩
  obtain ⟨M, hM⟩ : ∃ K : Int, ((y.m : Nat) : Int) = K := ⟨_, rfl⟩
  obtain ⟨C, hC⟩ : ∃ K : Int, ((y.c : Nat) : Int) = K := ⟨_, rfl⟩
  rw [hK, hB, hN, hM, hC] at HC HI ⊢
  have HK := Lib.hid hK
  have HB := Lib.hid hB
  have HN := Lib.hid hN
  have HM := Lib.hid hM
  have HCC := Lib.hid hC
  rw [← hlen] at HI
  have hll : l.length ≤ 2048 := by rw [hlen]; exact hnin
  clear hK hB hN hM hC hlen hnin hcalls
  have hb00 : Below w.heap.size w w := Below.refl _ _
  go_enter Try.func46, Try.ntmps46
  go_upto_region 1 with fail
  have hx := Vs.new w [.int .i64 K, .int .i64 f, .int .i64 B, .int .i64 N, .int .i64 M, .int .i64 C] #[.int .i64 K, .int .i64 f, .int .i64 B, .int .i64 N, .int .i64 M, .int .i64 C] 72 rfl
  have hbA : Below w.heap.size w (w.alloc (.cells #[.int .i64 K, .int .i64 f, .int .i64 B, .int .i64 N, .int .i64 M, .int .i64 C] 72)) := by repeat (first | exact Below.refl _ _ | with_reducible assumption | (refine bl_alloc ?_ (Nat.le_refl _) _))
  replace hb00 := bl_call hb00 (Nat.le_refl _) hbA
  clear hbA
  generalize w.alloc (.cells #[.int .i64 K, .int .i64 f, .int .i64 B, .int .i64 N, .int .i64 M, .int .i64 C] 72) = w1 at hb00 hx ⊢
  obtain ⟨⟨x0, x1, x2, x3, x4, x5⟩, ⟨x6, x7, x8, x9, x10, x11⟩, x12⟩ := hx.get6
  go_wp2_with (first
    | (go_at_call 49; refine (HC.out _).mono ?_; rintro e w2 ⟨rfl, hb2⟩; replace hb00 := bl_call hb00 (Nat.le_refl _) hb2; replace hx := hx.call hb2; obtain ⟨⟨x0, x1, x2, x3, x4, x5⟩, ⟨x6, x7, x8, x9, x10, x11⟩, x12⟩ := hx.get6)
    | (go_at_call 61; refine (HI.out _).mono ?_; rintro e w3 ⟨rfl, hb3⟩; replace hb00 := bl_call hb00 (Nat.le_refl _) hb3; replace hx := hx.call hb3; obtain ⟨⟨x0, x1, x2, x3, x4, x5⟩, ⟨x6, x7, x8, x9, x10, x11⟩, x12⟩ := hx.get6))
  clear HC HI hb2 hb3
  clear x0 x1 x2 x3 x4 x5 x6 x7 x8 x9 x10 x11 x12
  go_loopw [5, 6] (fun s i wr => ∃ k n : Nat, k ≤ l.length ∧ i = .int .i64 k ∧ s = .int .i64 n ∧ n ≤ k ∧ Hid (okBits (l.take k)) ∧ Hid (Cnt l N k n) ∧ Vs wr w.heap.size [.int .i64 K, .int .i64 f, .int .i64 B, .int .i64 N, .int .i64 M, .int .i64 C] ∧ Below w.heap.size w wr) (fun _ i _ => l.length - (intOf i).toNat)
  case atStart => exact ⟨0, 0, Nat.zero_le _, rfl, rfl, Nat.le_refl _, fun x h => (by simp at h), Cnt.zero l N, hx, hb00⟩
  case round =>
    clear hx hb00
    obtain ⟨k, n, hk, rfl, rfl, hnk, hbits, hcnt, hx, hbw⟩ := hrel
    obtain ⟨⟨x0, x1, x2, x3, x4, x5⟩, ⟨x6, x7, x8, x9, x10, x11⟩, x12⟩ := hx.get6
    by_cases hlt : k < l.length
    · obtain ⟨b, o, rfl, hBb, hr⟩ := hA (by omega)
      obtain ⟨x, he⟩ : ∃ e, l[k]? = some e := ⟨_, List.getElem?_eq_getElem hlt⟩
      obtain ⟨d0, d1⟩ := (hr.below hbw hBb).kat he
      have hbl : b < wr.heap.size := Nat.lt_of_lt_of_le hBb hbw.size
      have HE := Lib.hid he
      have HNX := Lib.hid (fun h => okBits_take he hbits.out h)
      clear he hr hA
      have hl0 := lohi_zero x
      have hl1 := lohi_eq x 1
      rw [lo_one, hi_one] at hl1
      by_cases h0 : x = 0
      · have HX := Lib.hid (HNX.out (.inl h0))
        have HCX := Lib.hid (hcnt.out.no (by rw [HE.out, h0]))
        rw [decide_eq_true h0] at hl0
        rw [decide_eq_false (by rw [h0]; exact k_one_ne.symm)] at hl1
        clear h0
        by_cases hkN : k < N
        · go_wp2
          go_roundw
          case rel => exact ⟨k + 1, n, by omega, by go_num, rfl, by omega, HX.out, HCX.out, hx, hbw⟩
          case measure => simp [intOf]; omega
        · have hd : decide ((k : Int) < (N : Int)) = false := decide_eq_false (by omega)
          go_wp2
          go_roundw
          case rel => exact ⟨k + 1, n, by omega, by go_num, rfl, by omega, HX.out, HCX.out, hx, hbw⟩
          case measure => simp [intOf]; omega
      · rw [decide_eq_false h0] at hl0
        by_cases h1 : x = 1
        · have HX := Lib.hid (HNX.out (.inr h1))
          rw [decide_eq_true h1] at hl1
          by_cases hkN : k < N
          · have HCX := Lib.hid (hcnt.out.yes hkN (by rw [HE.out, h1]))
            clear h0 h1
            go_wp2
            go_roundw
            case rel => exact ⟨k + 1, n + 1, by omega, by go_num, by go_num, by omega, HX.out, HCX.out, hx, hbw⟩
            case measure => simp [intOf]; omega
          · have HCX := Lib.hid (hcnt.out.out hkN)
            have hd : decide ((k : Int) < (N : Int)) = false := decide_eq_false (by omega)
            clear h0 h1
            go_wp2
            go_roundw
            case rel => exact ⟨k + 1, n, by omega, by go_num, rfl, by omega, HX.out, HCX.out, hx, hbw⟩
            case measure => simp [intOf]; omega
        · rw [decide_eq_false h1] at hl1
          have hbad : ¬ okVec y l := fun h => (h.1 x (List.mem_of_getElem? HE.out)).elim h0 h1
          have HBAD := Lib.hid hbad
          clear h0 h1 hbad
          go_wp2
          go_ret
          exact ⟨⟨false, rfl, by simp; exact HBAD.out⟩, hbw⟩
    · obtain rfl : k = l.length := by omega
      rw [List.take_length] at hbits
      clear hlt
      cases y with
      | count =>
        obtain rfl : K = 1 := HK.out.symm
        go_wp2_with fail
        go_ret
        exact ⟨⟨true, rfl, by simp; exact ⟨hbits.out, trivial⟩⟩, hbw⟩
      | sum _ =>
        obtain rfl : K = 2 := HK.out.symm
        go_wp2_with fail
        go_ret
        exact ⟨⟨true, rfl, by simp; exact ⟨hbits.out, trivial⟩⟩, hbw⟩
      | vec _ _ _ =>
        obtain rfl : K = 3 := HK.out.symm
        go_wp2_with fail
        go_ret
        exact ⟨⟨true, rfl, by simp; exact ⟨hbits.out, trivial⟩⟩, hbw⟩
      | hist n' c =>
        obtain rfl : K = 4 := HK.out.symm
        obtain rfl : N = n' := HN.out.symm
        have hS : Hid (okVec (.hist N c) l ↔ n = 1) := by
          show okVec (.hist N c) l ↔ n = 1
          have h1 : nK f n = ksum l := by
            have h := hcnt.out
            unfold Cnt at h
            rwa [HL.out, show min (CK.hist N c).nin N = (CK.hist N c).nin from Nat.min_self N, ← HL.out, List.take_length] at h
          constructor
          · intro h
            have h2 : ksum l = 1 := h.2
            exact nK_small hf (by omega) (by omega) (by rw [h1, h2, nK_one])
          · rintro rfl
            exact ⟨hbits.out, by show ksum l = 1; rw [← h1, nK_one]⟩
        go_wp2_with fail
        go_ret
        exact ⟨⟨_, rfl, by rw [hS.out]; simp; omega⟩, hbw⟩
      | multi n' m c =>
        obtain rfl : K = 5 := HK.out.symm
        obtain rfl : N = n' := HN.out.symm
        obtain rfl : M = (m : Int) := HM.out.symm
        have hm64 : m ≤ 64 := Nat.le_trans hy.2.1.2 hy.1.2
        have hN64 : N ≤ 64 := hy.1.2
        have hlq : l.length = N + Lib.bitLen m := HL.out
        have hq7 := (bitLen_small m hm64).1
        have HOFF := Lib.hid (fun wz => ref9_Offset 5 f B N C m hm64 wz)
        have hoff : offN m ≤ 128 := by
          have h2 : 2 ^ Lib.bitLen m ≤ 2 ^ 7 := Nat.pow_le_pow_right (by omega) hq7
          have h3 : (2 : Nat) ^ 7 = 128 := rfl
          show 2 ^ Lib.bitLen m - 1 - m ≤ 128
          omega
        have HOK : Hid (∀ v, Num (l.drop N) (l.length - N) v → (okVec (.multi N m c) l ↔ n + offN m = v)) := by
          intro v hv
          have h1 : nK f n = ksum (l.take N) := by
            have h := hcnt.out
            unfold Cnt at h
            rwa [show min l.length N = N by omega] at h
          have h2 : nK f v = knum (l.drop N) := by
            rw [hv.1, List.take_of_length_le (by rw [List.length_drop]; exact Nat.le_refl _)]
          have h3 : v < 4294967296 := by
            have h4 := hv.2
            have h5 : 2 ^ (l.length - N) ≤ 2 ^ 7 := Nat.pow_le_pow_right (by omega) (by omega)
            have h6 : (2 : Nat) ^ 7 = 128 := rfl
            omega
          constructor
          · intro h
            have h4 : ksum (l.take N) + nK f (offN m) = knum (l.drop N) := h.2
            exact nK_small hf (by omega) h3 (by rw [nK_add, h1, h2, h4])
          · intro h
            refine ⟨hbits.out, ?_⟩
            show ksum (l.take N) + nK f (offN m) = knum (l.drop N)
            rw [← h1, ← h2, ← nK_add, h]
        have hNl : N ≤ l.length := by omega
        have hl7 : l.length - N ≤ 7 := by omega
        have hnl : n ≤ 2048 := by omega
        generalize offN m = of at *
        clear hlq hq7
        obtain ⟨wo, hwo⟩ : ∃ wo : World, wo = wr := ⟨_, rfl⟩
        subst hwo
        go_wp2_with fail
        go_loopw [7, 8, 9] (fun v7 v8 i wi => ∃ e j v p : Nat, Hid (e = N + j) ∧ N ≤ e ∧ e ≤ l.length ∧ i = .int .i64 e ∧ v7 = .int .i64 v ∧ v8 = .int .i64 p ∧ Hid (p = 2 ^ j) ∧ p ≤ 128 ∧ v ≤ 128 ∧ Hid (Num (l.drop N) j v) ∧
          Vs wi w.heap.size [.int .i64 5, .int .i64 f, .int .i64 B, .int .i64 N, .int .i64 m, .int .i64 C] ∧ Below w.heap.size w wi) (fun _ _ i _ => l.length - (intOf i).toNat)
        case atStart => exact ⟨N, 0, 0, 1, rfl, Nat.le_refl _, hNl, rfl, rfl, rfl, rfl, by omega, by omega, Num.zero _, hx, hbw⟩
        case round =>
          clear hx hbw
          obtain ⟨e, j, v, p, he, hNe, hel, rfl, rfl, rfl, hp, hp7, hv7, hnum, hx, hbw⟩ := hrel
          obtain ⟨⟨x0, x1, x2, x3, x4, x5⟩, ⟨x6, x7, x8, x9, x10, x11⟩, x12⟩ := hx.get6
          by_cases hlt : e < l.length
          · obtain ⟨b, o, rfl, hBb, hr⟩ := hA (by omega)
            obtain ⟨x, hex⟩ : ∃ x, l[e]? = some x := ⟨_, List.getElem?_eq_getElem hlt⟩
            obtain ⟨d0, d1⟩ := (hr.below hbw hBb).kat hex
            have hbl : b < wr.heap.size := Nat.lt_of_lt_of_le hBb hbw.size
            have hj7 : 2 ^ (j + 1) ≤ 2 ^ 7 := Nat.pow_le_pow_right (by omega) (by have := he.out; omega)
            have h27 : (2 : Nat) ^ 7 = 128 := rfl
            have hpj := hp.out
            have h2j : 2 ^ (j + 1) = 2 * p := by rw [Nat.pow_succ, hpj]; omega
            have hdr : (l.drop N)[j]? = some x := by rw [List.getElem?_drop, ← he.out]; exact hex
            have HP2 : Hid (2 * p = 2 ^ (j + 1)) := h2j.symm
            have hp27 : 2 * p ≤ 128 := by omega
            have hv27 : v + p ≤ 128 := by have h := hnum.out.2; omega
            have HE1 : Hid (e + 1 = N + (j + 1)) := by show e + 1 = N + (j + 1); have := he.out; omega
            rcases hbits.out x (List.mem_of_getElem? hex) with h | h
            · subst h
              have HN1 := Lib.hid (hnum.out.no hdr)
              rw [lo_zero] at d0
              clear hex hr hA hdr hpj h2j hj7 h27 d1
              go_wp2
              go_roundw
              case rel => exact ⟨e + 1, j + 1, v, 2 * p, HE1.out, by omega, by omega, by go_num, rfl, by go_num, HP2.out, hp27, by omega, HN1.out, hx, hbw⟩
              case measure => simp [intOf]; omega
            · subst h
              have HN1 : Hid (Num (l.drop N) (j + 1) (v + p)) := by rw [hpj]; exact hnum.out.yes hdr
              rw [lo_one] at d0
              clear hex hr hA hdr hpj h2j hj7 h27 d1
              go_wp2
              go_roundw
              case rel => exact ⟨e + 1, j + 1, v + p, 2 * p, HE1.out, by omega, by omega, by go_num, by go_num, by go_num, HP2.out, hp27, hv27, HN1.out, hx, hbw⟩
              case measure => simp [intOf]; omega
          · obtain rfl : e = l.length := by omega
            have hjl : l.length - N = j := by have := he.out; omega
            have HF := Lib.hid (HOK.out v (by rw [hjl]; exact hnum.out))
            clear hjl
            go_wp2_with (first
              | (go_at_call 99; refine (HOFF.out _).mono ?_; rintro e w5 ⟨rfl, hb5⟩; replace hbw := bl_call hbw (Nat.le_refl _) hb5; replace hx := hx.call hb5))
            go_ret
            exact ⟨⟨_, rfl, by rw [HF.out]; simp; omega⟩, hbw⟩
end

end Go.Proofs.Ytiphahbeedeebaa
