/-
 RegD2, Small10, Both, Decode, Task, Bytes, Swap: what the statements of this layer share.
-/
import Derived.BigQuiet
import Derived.Laws.BytesArg
import Derived.Test.YtpggflcapfkgpaaMak
namespace Go.Proofs.Ytpggflcapfkgpaa
open Go Go.RowKit

section
variable {P : Program} {Q : Exit → Act → World → Prop}

theorem region_GS {id n m f : Nat} {l : List Oper} {a : Act} {w : World} (S : World → Prop) (hC : Clo S) (hS : S w.drew) (hm : P.follows .mixedOrders = true) (hB : partsB .any l.toArray n m (Array.replicate l.length false) = true) (hf : f + (m - n) = l.length)
  (h : WpG P .any l.toArray Q n m (wpList P l.toArray Q ((l.drop n).take (m - n))) f (Array.replicate l.length false) a S) : (Code.region id l.toArray true).wp P Q a w := by
 refine wp_region_any hm ?_
 have := any_G (w := w.drew) hB hC hS h
 rw [hf] at this
 simpa using this
end

end Go.Proofs.Ytpggflcapfkgpaa

namespace Go.Proofs.Ytpggflcapfkgpaa
open Go.RowKit Fm
set_option linter.unusedVariables false
set_option maxRecDepth 100000

structure CK.small (y : CK) : Prop where
 ok : y.ok
 nin : y.nin ≤ 12
 calls : ¬ 511 < y.calls

theorem CK.calls_le {y : CK} (h : y.ok) : y.calls ≤ y.nin := by
 cases y with
 | count => exact Nat.le_refl _
 | sum b => exact Nat.le_refl _
 | vec b l c => exact ceil_le h.2.2.1
 | hist l c => exact ceil_le h.2.1
 | multi l m c => exact ceil_le h.2.2.1
theorem CK.small_of {y : CK} (h : y.ok) (hn : y.nin ≤ 12) : y.small := ⟨h, hn, by have := CK.calls_le h; omega⟩

theorem bitLen_5 : ∀ m : Nat, m ≤ 5 → Lib.bitLen m ≤ 3 := by decide +kernel

theorem Vs.set6 {w : World} {b : Nat} {p q r s t u : Value} (h : Vs w b [p, q, r, s, t, u]) (x0 x1 x2 x3 x4 x5 : Value) :
  Vs ((((((w.setCell ⟨b, 0, none⟩ x0).setCell ⟨b, 1, none⟩ x1).setCell ⟨b, 2, none⟩ x2).setCell ⟨b, 3, none⟩ x3).setCell ⟨b, 4, none⟩ x4).setCell ⟨b, 5, none⟩ x5) b [x0, x1, x2, x3, x4, x5] :=
 (((((h.put 0 (by simp) x0).put 1 (by simp) x1).put 2 (by simp) x2).put 3 (by simp) x3).put 4 (by simp) x4).put 5 (by simp) x5

def SmS (w : World) (k f b l m c K F : Int) (wz : World) : Prop :=
 Below w.heap.size w wz ∧ Vs wz w.heap.size [.int .u8 k, .int .u8 f, .int .u8 b, .int .u8 l, .int .u8 m, .int .u8 c] ∧ Vs wz (w.heap.size + 1) [.int .u8 0, .int .u8 0, .int .i64 0, .int .i64 0, .int .i64 0, .int .i64 0] ∧
  ∃ x2 x3 x5 : Value, Vs wz (w.heap.size + 1 + 1) [.int .u8 K, .int .u8 F, x2, x3, .int .i64 0, x5]
theorem SmS.clo (w : World) (k f b l m c K F : Int) : Clo (SmS w k f b l m c K F) :=
 fun _ _ h hb => ⟨bl_call h.1 (Nat.le_refl _) hb, h.2.1.call hb, h.2.2.1.call hb, let ⟨x, y, z, hv⟩ := h.2.2.2; ⟨x, y, z, hv.call hb⟩⟩

set_option maxHeartbeats 4000000 in
theorem law10_Circuit (k f b l m c : Int) (hk0 : 0 ≤ k) (hk1 : k ≤ 255) (hf0 : 0 ≤ f) (hf1 : f ≤ 255) (hb0 : 0 ≤ b) (hb1 : b ≤ 255) (hl0 : 0 ≤ l) (hl1 : l ≤ 255) (hm0 : 0 ≤ m) (hm1 : m ≤ 255) (hc0 : 0 ≤ c) (hc1 : c ≤ 255) :
  ∃ (F : Nat) (y : CK), IsF F ∧ y.small ∧ ∀ w, Calls Try.prog 14 #[.agg #[.int .u8 k, .int .u8 f, .int .u8 b, .int .u8 l, .int .u8 m, .int .u8 c]] w fun e w' => e = .returned (y.val F) ∧ Below w.heap.size w w' := by
 obtain ⟨F, hF, hF0⟩ : ∃ F : Nat, IsF F ∧ 1 + f % 2 = (F : Int) := by
  have h : f % 2 = 0 ∨ f % 2 = 1 := by omega
  rcases h with h | h
  ·exact ⟨1, isF1, by omega⟩
  ·exact ⟨2, isF2, by omega⟩
 have hF' : f % 2 + 1 = (F : Int) := by omega
 obtain ⟨B, hB, hB1, hB4⟩ : ∃ B : Nat, 1 + b % 4 = (B : Int) ∧ 1 ≤ B ∧ B ≤ 4 := ⟨(1 + b % 4).toNat, by omega, by omega, by omega⟩
 obtain ⟨L, hL, hL1, hL5⟩ : ∃ L : Nat, 1 + l % 5 = (L : Int) ∧ 1 ≤ L ∧ L ≤ 5 := ⟨(1 + l % 5).toNat, by omega, by omega, by omega⟩
 obtain ⟨C, hC, hC1, hC4⟩ : ∃ C : Nat, 1 + c % 4 = (C : Int) ∧ 1 ≤ C ∧ C ≤ 4 := ⟨(1 + c % 4).toNat, by omega, by omega, by omega⟩
 have hB' : b % 4 + 1 = (B : Int) := by omega
 have hL' : l % 5 + 1 = (L : Int) := by omega
 have hC' : c % 4 + 1 = (C : Int) := by omega
 obtain ⟨LT, hLT, hLT2⟩ : ∃ LT : Nat, l.tmod 5 = (LT : Int) ∧ (1 : Int) + (LT : Int) = (L : Int) := ⟨(l % 5).toNat, by rw [Int.tmod_eq_emod_of_nonneg hl0]; omega, by omega⟩
 obtain ⟨BT, hBT, hBT2⟩ : ∃ BT : Nat, b.tmod 4 = (BT : Int) ∧ (1 : Int) + (BT : Int) = (B : Int) := ⟨(b % 4).toNat, by rw [Int.tmod_eq_emod_of_nonneg hb0]; omega, by omega⟩
 have hwL : IntKind.i64.wrap (L : Int) = (L : Int) := IntWalk.i64_in _ (by omega)
 have hwB : IntKind.i64.wrap (B : Int) = (B : Int) := IntWalk.i64_in _ (by omega)
 have hwLT : IntKind.i64.wrap (LT : Int) = (LT : Int) := IntWalk.i64_in _ (by omega)
 have hwBT : IntKind.i64.wrap (BT : Int) = (BT : Int) := IntWalk.i64_in _ (by omega)
 have hk5 : k % 5 = 0 ∨ k % 5 = 1 ∨ k % 5 = 2 ∨ k % 5 = 3 ∨ k % 5 = 4 := by omega
 rcases hk5 with hk | hk | hk | hk | hk
 ·refine ⟨F, .count, hF, CK.small_of trivial (by show 1 ≤ 12; omega), fun w => ?_⟩
  rw [val_count]
  go_enter Try.func14, Try.ntmps14
  go_upto_region 2 with fail
  have hs := ((Vs.new w [.int .u8 k, .int .u8 f, .int .u8 b, .int .u8 l, .int .u8 m, .int .u8 c] #[.int .u8 k, .int .u8 f, .int .u8 b, .int .u8 l, .int .u8 m, .int .u8 c] 23 rfl).alloc (.cells #[.int .u8 0, .int .u8 0, .int .i64 0, .int .i64 0, .int .i64 0, .int .i64 0] 32)).alloc (.cells #[.int .u8 1, .int .u8 F, .int .i64 0, .int .i64 0, .int .i64 0, .int .i64 0] 32)
  have hr := (Vs.new (w.alloc (.cells #[.int .u8 k, .int .u8 f, .int .u8 b, .int .u8 l, .int .u8 m, .int .u8 c] 23)) [.int .u8 0, .int .u8 0, .int .i64 0, .int .i64 0, .int .i64 0, .int .i64 0] #[.int .u8 0, .int .u8 0, .int .i64 0, .int .i64 0, .int .i64 0, .int .i64 0] 32 rfl).alloc (.cells #[.int .u8 1, .int .u8 F, .int .i64 0, .int .i64 0, .int .i64 0, .int .i64 0] 32)
  have hv := Vs.new ((w.alloc (.cells #[.int .u8 k, .int .u8 f, .int .u8 b, .int .u8 l, .int .u8 m, .int .u8 c] 23)).alloc (.cells #[.int .u8 0, .int .u8 0, .int .i64 0, .int .i64 0, .int .i64 0, .int .i64 0] 32)) [.int .u8 1, .int .u8 F, .int .i64 0, .int .i64 0, .int .i64 0, .int .i64 0] #[.int .u8 1, .int .u8 F, .int .i64 0, .int .i64 0, .int .i64 0, .int .i64 0] 32 rfl
  simp only [World.size_alloc] at hr hv
  have hbw : Below w.heap.size w (((w.alloc (.cells #[.int .u8 k, .int .u8 f, .int .u8 b, .int .u8 l, .int .u8 m, .int .u8 c] 23)).alloc (.cells #[.int .u8 0, .int .u8 0, .int .i64 0, .int .i64 0, .int .i64 0, .int .i64 0] 32)).alloc (.cells #[.int .u8 1, .int .u8 F, .int .i64 0, .int .i64 0, .int .i64 0, .int .i64 0] 32)) := by repeat (first | exact bA | with_reducible assumption | apply bB | (refine bC ?_ (by dsimp only; omega)) | apply bD | apply bE | (refine bF ?_ (by assumption)))
  generalize ((w.alloc (.cells #[.int .u8 k, .int .u8 f, .int .u8 b, .int .u8 l, .int .u8 m, .int .u8 c] 23)).alloc (.cells #[.int .u8 0, .int .u8 0, .int .i64 0, .int .i64 0, .int .i64 0, .int .i64 0] 32)).alloc (.cells #[.int .u8 1, .int .u8 F, .int .i64 0, .int .i64 0, .int .i64 0, .int .i64 0] 32) = w1 at hs hr hv hbw ⊢
  obtain ⟨⟨s0, s1, s2, s3, s4, s5⟩, ⟨s6, s7, s8, s9, s10, s11⟩, s12⟩ := hs.get6
  obtain ⟨⟨r0, r1, r2, r3, r4, r5⟩, ⟨r6, r7, r8, r9, r10, r11⟩, r12⟩ := hr.get6
  obtain ⟨⟨v0, v1, v2, v3, v4, v5⟩, ⟨v6, v7, v8, v9, v10, v11⟩, v12⟩ := hv.get6
  refine region_B (n := 11) (m := 12) (f := 11) (by kernel_rfl) (by kernel_rfl) rfl ?_
  refine WpH.vD 0 (some 15) ?_ rfl rfl (by kernel_rfl) (fun _ _ _ h => h) rfl (fun wz hwz => ?_) ?_
  rotate_left
  ·go_simp; try (with_reducible rfl)
  simp only [Zp, Zq, Zr, Zs]
  refine WpH.vD 1 (some 16) ?_ rfl rfl (by kernel_rfl) (fun _ _ _ h => h) rfl (fun wz hwz => ?_) ?_
  rotate_left
  ·(obtain ⟨hcz, hfz⟩ := bcell hwz; go_simp; try (with_reducible rfl))
  simp only [Zp, Zq, Zr, Zs]
  refine WpH.vD 2 (some 17) ?_ rfl rfl (by kernel_rfl) (fun _ _ _ h => h) rfl (fun wz hwz => ?_) ?_
  rotate_left
  ·go_simp; try (with_reducible rfl)
  simp only [Zp, Zq, Zr, Zs]
  refine WpH.vD 3 (some 18) ?_ rfl rfl (by kernel_rfl) (fun _ _ _ h => h) rfl (fun wz hwz => ?_) ?_
  rotate_left
  ·go_simp; try (with_reducible rfl)
  simp only [Zp, Zq, Zr, Zs]
  refine WpH.vD 4 (some 19) ?_ rfl rfl (by kernel_rfl) (fun _ _ _ h => h) rfl (fun wz hwz => ?_) ?_
  rotate_left
  ·go_simp; try (with_reducible rfl)
  simp only [Zp, Zq, Zr, Zs]
  refine WpH.vD 5 (some 20) ?_ rfl rfl (by kernel_rfl) (fun _ _ _ h => h) rfl (fun wz hwz => ?_) ?_
  rotate_left
  ·go_simp; try (with_reducible rfl)
  simp only [Zp, Zq, Zr, Zs]
  refine WpH.vD 6 (some 21) ?_ rfl rfl (by kernel_rfl) (fun _ _ _ h => h) rfl (fun wz hwz => ?_) ?_
  rotate_left
  ·(obtain ⟨hcz, hfz⟩ := bcell hwz; go_simp; try (with_reducible rfl))
  simp only [Zp, Zq, Zr, Zs]
  refine WpH.vD 7 (some 22) ?_ rfl rfl (by kernel_rfl) (fun _ _ _ h => h) rfl (fun wz hwz => ?_) ?_
  rotate_left
  ·go_simp; try (with_reducible rfl)
  simp only [Zp, Zq, Zr, Zs]
  refine WpH.vD 8 (some 23) ?_ rfl rfl (by kernel_rfl) (fun _ _ _ h => h) rfl (fun wz hwz => ?_) ?_
  rotate_left
  ·go_simp; try (with_reducible rfl)
  simp only [Zp, Zq, Zr, Zs]
  refine WpH.vD 9 (some 24) ?_ rfl rfl (by kernel_rfl) (fun _ _ _ h => h) rfl (fun wz hwz => ?_) ?_
  rotate_left
  ·go_simp; try (with_reducible rfl)
  simp only [Zp, Zq, Zr, Zs]
  refine WpH.vD 10 (some 4) ?_ rfl rfl (by kernel_rfl) (fun _ _ _ h => h) rfl (fun wz hwz => ?_) ?_
  rotate_left
  ·go_simp; try (with_reducible rfl)
  simp only [Zp, Zq, Zr, Zs]
  refine WpH.doneB (by kernel_rfl) (fun w2 hw2 => ?_)
  (try simp only [List.drop_succ_cons]); (try simp only [List.drop_zero]); (try simp only [Nat.reduceSub]); (try simp only [List.take_succ_cons]); (try simp only [List.take_zero])
  clear s0 s1 s2 s3 s4 s5 s6 s7 s8 s9 s10 s11 s12 r0 r1 r2 r3 r4 r5 r6 r7 r8 r9 r10 r11 r12 v0 v1 v2 v3 v4 v5 v6 v7 v8 v9 v10 v11 v12
  replace hbw := bl_call hbw (Nat.le_refl _) hw2
  replace hs := hs.call hw2
  replace hr := hr.call hw2
  replace hv := hv.call hw2
  obtain ⟨⟨s0, s1, s2, s3, s4, s5⟩, ⟨s6, s7, s8, s9, s10, s11⟩, s12⟩ := hs.get6
  obtain ⟨⟨r0, r1, r2, r3, r4, r5⟩, ⟨r6, r7, r8, r9, r10, r11⟩, r12⟩ := hr.get6
  obtain ⟨⟨v0, v1, v2, v3, v4, v5⟩, ⟨v6, v7, v8, v9, v10, v11⟩, v12⟩ := hv.get6
  go_wp2
  have hres := Vs.set6 hr (.int .u8 1) (.int .u8 F) (.int .i64 0) (.int .i64 0) (.int .i64 0) (.int .i64 0)
  have hble : w.heap.size ≤ w.heap.size + 1 := by omega
  have hbr := bl_set (p := ⟨w.heap.size + 1, 5, none⟩) (bl_set (p := ⟨w.heap.size + 1, 4, none⟩) (bl_set (p := ⟨w.heap.size + 1, 3, none⟩) (bl_set (p := ⟨w.heap.size + 1, 2, none⟩) (bl_set (p := ⟨w.heap.size + 1, 1, none⟩) (bl_set (p := ⟨w.heap.size + 1, 0, none⟩) hbw hble (.int .u8 1)) hble (.int .u8 F)) hble (.int .i64 0)) hble (.int .i64 0)) hble (.int .i64 0)) hble (.int .i64 0)
  exact bodyPost_ret (results_cir hres rfl rfl) rfl ⟨rfl, hbr⟩
 ·refine ⟨F, .sum B, hF, CK.small_of ⟨hB1, by omega⟩ (by show B ≤ 12; omega), fun w => ?_⟩
  rw [val_sum]
  go_enter Try.func14, Try.ntmps14
  go_upto_region 2 with fail
  have hs := ((Vs.new w [.int .u8 k, .int .u8 f, .int .u8 b, .int .u8 l, .int .u8 m, .int .u8 c] #[.int .u8 k, .int .u8 f, .int .u8 b, .int .u8 l, .int .u8 m, .int .u8 c] 23 rfl).alloc (.cells #[.int .u8 0, .int .u8 0, .int .i64 0, .int .i64 0, .int .i64 0, .int .i64 0] 32)).alloc (.cells #[.int .u8 2, .int .u8 F, .int .i64 0, .int .i64 0, .int .i64 0, .int .i64 0] 32)
  have hr := (Vs.new (w.alloc (.cells #[.int .u8 k, .int .u8 f, .int .u8 b, .int .u8 l, .int .u8 m, .int .u8 c] 23)) [.int .u8 0, .int .u8 0, .int .i64 0, .int .i64 0, .int .i64 0, .int .i64 0] #[.int .u8 0, .int .u8 0, .int .i64 0, .int .i64 0, .int .i64 0, .int .i64 0] 32 rfl).alloc (.cells #[.int .u8 2, .int .u8 F, .int .i64 0, .int .i64 0, .int .i64 0, .int .i64 0] 32)
  have hv := Vs.new ((w.alloc (.cells #[.int .u8 k, .int .u8 f, .int .u8 b, .int .u8 l, .int .u8 m, .int .u8 c] 23)).alloc (.cells #[.int .u8 0, .int .u8 0, .int .i64 0, .int .i64 0, .int .i64 0, .int .i64 0] 32)) [.int .u8 2, .int .u8 F, .int .i64 0, .int .i64 0, .int .i64 0, .int .i64 0] #[.int .u8 2, .int .u8 F, .int .i64 0, .int .i64 0, .int .i64 0, .int .i64 0] 32 rfl
  simp only [World.size_alloc] at hr hv
  have hbw : Below w.heap.size w (((w.alloc (.cells #[.int .u8 k, .int .u8 f, .int .u8 b, .int .u8 l, .int .u8 m, .int .u8 c] 23)).alloc (.cells #[.int .u8 0, .int .u8 0, .int .i64 0, .int .i64 0, .int .i64 0, .int .i64 0] 32)).alloc (.cells #[.int .u8 2, .int .u8 F, .int .i64 0, .int .i64 0, .int .i64 0, .int .i64 0] 32)) := by repeat (first | exact bA | with_reducible assumption | apply bB | (refine bC ?_ (by dsimp only; omega)) | apply bD | apply bE | (refine bF ?_ (by assumption)))
  generalize ((w.alloc (.cells #[.int .u8 k, .int .u8 f, .int .u8 b, .int .u8 l, .int .u8 m, .int .u8 c] 23)).alloc (.cells #[.int .u8 0, .int .u8 0, .int .i64 0, .int .i64 0, .int .i64 0, .int .i64 0] 32)).alloc (.cells #[.int .u8 2, .int .u8 F, .int .i64 0, .int .i64 0, .int .i64 0, .int .i64 0] 32) = w1 at hs hr hv hbw ⊢
  obtain ⟨⟨s0, s1, s2, s3, s4, s5⟩, ⟨s6, s7, s8, s9, s10, s11⟩, s12⟩ := hs.get6
  obtain ⟨⟨r0, r1, r2, r3, r4, r5⟩, ⟨r6, r7, r8, r9, r10, r11⟩, r12⟩ := hr.get6
  obtain ⟨⟨v0, v1, v2, v3, v4, v5⟩, ⟨v6, v7, v8, v9, v10, v11⟩, v12⟩ := hv.get6
  refine region_B (n := 11) (m := 12) (f := 11) (by kernel_rfl) (by kernel_rfl) rfl ?_
  refine WpH.vD 0 (some 15) ?_ rfl rfl (by kernel_rfl) (fun _ _ _ h => h) rfl (fun wz hwz => ?_) ?_
  rotate_left
  ·go_simp; try (with_reducible rfl)
  simp only [Zp, Zq, Zr, Zs]
  refine WpH.vD 1 (some 16) ?_ rfl rfl (by kernel_rfl) (fun _ _ _ h => h) rfl (fun wz hwz => ?_) ?_
  rotate_left
  ·(obtain ⟨hcz, hfz⟩ := bcell hwz; go_simp; try (with_reducible rfl))
  simp only [Zp, Zq, Zr, Zs]
  refine WpH.vD 2 (some 17) ?_ rfl rfl (by kernel_rfl) (fun _ _ _ h => h) rfl (fun wz hwz => ?_) ?_
  rotate_left
  ·go_simp; try (with_reducible rfl)
  simp only [Zp, Zq, Zr, Zs]
  refine WpH.vD 3 (some 18) ?_ rfl rfl (by kernel_rfl) (fun _ _ _ h => h) rfl (fun wz hwz => ?_) ?_
  rotate_left
  ·go_simp; try (with_reducible rfl)
  simp only [Zp, Zq, Zr, Zs]
  refine WpH.vD 4 (some 19) ?_ rfl rfl (by kernel_rfl) (fun _ _ _ h => h) rfl (fun wz hwz => ?_) ?_
  rotate_left
  ·go_simp; try (with_reducible rfl)
  simp only [Zp, Zq, Zr, Zs]
  refine WpH.vD 5 (some 20) ?_ rfl rfl (by kernel_rfl) (fun _ _ _ h => h) rfl (fun wz hwz => ?_) ?_
  rotate_left
  ·go_simp; try (with_reducible rfl)
  simp only [Zp, Zq, Zr, Zs]
  refine WpH.vD 6 (some 21) ?_ rfl rfl (by kernel_rfl) (fun _ _ _ h => h) rfl (fun wz hwz => ?_) ?_
  rotate_left
  ·(obtain ⟨hcz, hfz⟩ := bcell hwz; go_simp; try (with_reducible rfl))
  simp only [Zp, Zq, Zr, Zs]
  refine WpH.vD 7 (some 22) ?_ rfl rfl (by kernel_rfl) (fun _ _ _ h => h) rfl (fun wz hwz => ?_) ?_
  rotate_left
  ·go_simp; try (with_reducible rfl)
  simp only [Zp, Zq, Zr, Zs]
  refine WpH.vD 8 (some 23) ?_ rfl rfl (by kernel_rfl) (fun _ _ _ h => h) rfl (fun wz hwz => ?_) ?_
  rotate_left
  ·go_simp; try (with_reducible rfl)
  simp only [Zp, Zq, Zr, Zs]
  refine WpH.vD 9 (some 24) ?_ rfl rfl (by kernel_rfl) (fun _ _ _ h => h) rfl (fun wz hwz => ?_) ?_
  rotate_left
  ·go_simp; try (with_reducible rfl)
  simp only [Zp, Zq, Zr, Zs]
  refine WpH.vD 10 (some 4) ?_ rfl rfl (by kernel_rfl) (fun _ _ _ h => h) rfl (fun wz hwz => ?_) ?_
  rotate_left
  ·go_simp; try (with_reducible rfl)
  simp only [Zp, Zq, Zr, Zs]
  refine WpH.doneB (by kernel_rfl) (fun w2 hw2 => ?_)
  (try simp only [List.drop_succ_cons]); (try simp only [List.drop_zero]); (try simp only [Nat.reduceSub]); (try simp only [List.take_succ_cons]); (try simp only [List.take_zero])
  clear s0 s1 s2 s3 s4 s5 s6 s7 s8 s9 s10 s11 s12 r0 r1 r2 r3 r4 r5 r6 r7 r8 r9 r10 r11 r12 v0 v1 v2 v3 v4 v5 v6 v7 v8 v9 v10 v11 v12
  replace hbw := bl_call hbw (Nat.le_refl _) hw2
  replace hs := hs.call hw2
  replace hr := hr.call hw2
  replace hv := hv.call hw2
  obtain ⟨⟨s0, s1, s2, s3, s4, s5⟩, ⟨s6, s7, s8, s9, s10, s11⟩, s12⟩ := hs.get6
  obtain ⟨⟨r0, r1, r2, r3, r4, r5⟩, ⟨r6, r7, r8, r9, r10, r11⟩, r12⟩ := hr.get6
  obtain ⟨⟨v0, v1, v2, v3, v4, v5⟩, ⟨v6, v7, v8, v9, v10, v11⟩, v12⟩ := hv.get6
  go_wp2
  have hvv := hv.put 2 (by simp) (.int .i64 B)
  have hrr := hr.far (p := ⟨w.heap.size + 1 + 1, 2, none⟩) (by simp) (.int .i64 B)
  have hbw2 := bl_set (p := ⟨w.heap.size + 1 + 1, 2, none⟩) hbw (by simp; omega) (.int .i64 B)
  have hres := Vs.set6 hrr (.int .u8 2) (.int .u8 F) (.int .i64 B) (.int .i64 0) (.int .i64 0) (.int .i64 0)
  have hble : w.heap.size ≤ w.heap.size + 1 := by omega
  have hbr := bl_set (p := ⟨w.heap.size + 1, 5, none⟩) (bl_set (p := ⟨w.heap.size + 1, 4, none⟩) (bl_set (p := ⟨w.heap.size + 1, 3, none⟩) (bl_set (p := ⟨w.heap.size + 1, 2, none⟩) (bl_set (p := ⟨w.heap.size + 1, 1, none⟩) (bl_set (p := ⟨w.heap.size + 1, 0, none⟩) hbw2 hble (.int .u8 2)) hble (.int .u8 F)) hble (.int .i64 B)) hble (.int .i64 0)) hble (.int .i64 0)) hble (.int .i64 0)
  exact bodyPost_ret (results_cir hres rfl rfl) rfl ⟨rfl, hbr⟩
 ·obtain ⟨L3, hL3, h31, h33⟩ : ∃ L3 : Nat, 1 + (L : Int) % 3 = (L3 : Int) ∧ 1 ≤ L3 ∧ L3 ≤ 3 := ⟨(1 + (L : Int) % 3).toNat, by omega, by omega, by omega⟩
  have hL3' : (L : Int) % 3 + 1 = (L3 : Int) := by omega
  refine ⟨F, .vec B L3 C, hF, CK.small_of ⟨⟨hB1, by omega⟩, ⟨h31, by omega⟩, ⟨hC1, by omega⟩⟩ (Nat.le_trans (mul_small h33 hB4) (by omega)), fun w => ?_⟩
  rw [val_vec]
  go_enter Try.func14, Try.ntmps14
  go_upto_region 2 with fail
  have hs := ((Vs.new w [.int .u8 k, .int .u8 f, .int .u8 b, .int .u8 l, .int .u8 m, .int .u8 c] #[.int .u8 k, .int .u8 f, .int .u8 b, .int .u8 l, .int .u8 m, .int .u8 c] 23 rfl).alloc (.cells #[.int .u8 0, .int .u8 0, .int .i64 0, .int .i64 0, .int .i64 0, .int .i64 0] 32)).alloc (.cells #[.int .u8 3, .int .u8 F, .int .i64 0, .int .i64 0, .int .i64 0, .int .i64 0] 32)
  have hr := (Vs.new (w.alloc (.cells #[.int .u8 k, .int .u8 f, .int .u8 b, .int .u8 l, .int .u8 m, .int .u8 c] 23)) [.int .u8 0, .int .u8 0, .int .i64 0, .int .i64 0, .int .i64 0, .int .i64 0] #[.int .u8 0, .int .u8 0, .int .i64 0, .int .i64 0, .int .i64 0, .int .i64 0] 32 rfl).alloc (.cells #[.int .u8 3, .int .u8 F, .int .i64 0, .int .i64 0, .int .i64 0, .int .i64 0] 32)
  have hv := Vs.new ((w.alloc (.cells #[.int .u8 k, .int .u8 f, .int .u8 b, .int .u8 l, .int .u8 m, .int .u8 c] 23)).alloc (.cells #[.int .u8 0, .int .u8 0, .int .i64 0, .int .i64 0, .int .i64 0, .int .i64 0] 32)) [.int .u8 3, .int .u8 F, .int .i64 0, .int .i64 0, .int .i64 0, .int .i64 0] #[.int .u8 3, .int .u8 F, .int .i64 0, .int .i64 0, .int .i64 0, .int .i64 0] 32 rfl
  simp only [World.size_alloc] at hr hv
  have hbw : Below w.heap.size w (((w.alloc (.cells #[.int .u8 k, .int .u8 f, .int .u8 b, .int .u8 l, .int .u8 m, .int .u8 c] 23)).alloc (.cells #[.int .u8 0, .int .u8 0, .int .i64 0, .int .i64 0, .int .i64 0, .int .i64 0] 32)).alloc (.cells #[.int .u8 3, .int .u8 F, .int .i64 0, .int .i64 0, .int .i64 0, .int .i64 0] 32)) := by repeat (first | exact bA | with_reducible assumption | apply bB | (refine bC ?_ (by dsimp only; omega)) | apply bD | apply bE | (refine bF ?_ (by assumption)))
  generalize ((w.alloc (.cells #[.int .u8 k, .int .u8 f, .int .u8 b, .int .u8 l, .int .u8 m, .int .u8 c] 23)).alloc (.cells #[.int .u8 0, .int .u8 0, .int .i64 0, .int .i64 0, .int .i64 0, .int .i64 0] 32)).alloc (.cells #[.int .u8 3, .int .u8 F, .int .i64 0, .int .i64 0, .int .i64 0, .int .i64 0] 32) = w1 at hs hr hv hbw ⊢
  obtain ⟨⟨s0, s1, s2, s3, s4, s5⟩, ⟨s6, s7, s8, s9, s10, s11⟩, s12⟩ := hs.get6
  obtain ⟨⟨r0, r1, r2, r3, r4, r5⟩, ⟨r6, r7, r8, r9, r10, r11⟩, r12⟩ := hr.get6
  obtain ⟨⟨v0, v1, v2, v3, v4, v5⟩, ⟨v6, v7, v8, v9, v10, v11⟩, v12⟩ := hv.get6
  refine region_B (n := 11) (m := 12) (f := 11) (by kernel_rfl) (by kernel_rfl) rfl ?_
  refine WpH.vD 0 (some 15) ?_ rfl rfl (by kernel_rfl) (fun _ _ _ h => h) rfl (fun wz hwz => ?_) ?_
  rotate_left
  ·go_simp; try (with_reducible rfl)
  simp only [Zp, Zq, Zr, Zs]
  refine WpH.vD 1 (some 16) ?_ rfl rfl (by kernel_rfl) (fun _ _ _ h => h) rfl (fun wz hwz => ?_) ?_
  rotate_left
  ·(obtain ⟨hcz, hfz⟩ := bcell hwz; go_simp; try (with_reducible rfl))
  simp only [Zp, Zq, Zr, Zs]
  refine WpH.vD 2 (some 17) ?_ rfl rfl (by kernel_rfl) (fun _ _ _ h => h) rfl (fun wz hwz => ?_) ?_
  rotate_left
  ·go_simp; try (with_reducible rfl)
  simp only [Zp, Zq, Zr, Zs]
  refine WpH.vD 3 (some 18) ?_ rfl rfl (by kernel_rfl) (fun _ _ _ h => h) rfl (fun wz hwz => ?_) ?_
  rotate_left
  ·go_simp; try (with_reducible rfl)
  simp only [Zp, Zq, Zr, Zs]
  refine WpH.vD 4 (some 19) ?_ rfl rfl (by kernel_rfl) (fun _ _ _ h => h) rfl (fun wz hwz => ?_) ?_
  rotate_left
  ·go_simp; try (with_reducible rfl)
  simp only [Zp, Zq, Zr, Zs]
  refine WpH.vD 5 (some 20) ?_ rfl rfl (by kernel_rfl) (fun _ _ _ h => h) rfl (fun wz hwz => ?_) ?_
  rotate_left
  ·go_simp; try (with_reducible rfl)
  simp only [Zp, Zq, Zr, Zs]
  refine WpH.vD 6 (some 21) ?_ rfl rfl (by kernel_rfl) (fun _ _ _ h => h) rfl (fun wz hwz => ?_) ?_
  rotate_left
  ·(obtain ⟨hcz, hfz⟩ := bcell hwz; go_simp; try (with_reducible rfl))
  simp only [Zp, Zq, Zr, Zs]
  refine WpH.vD 7 (some 22) ?_ rfl rfl (by kernel_rfl) (fun _ _ _ h => h) rfl (fun wz hwz => ?_) ?_
  rotate_left
  ·go_simp; try (with_reducible rfl)
  simp only [Zp, Zq, Zr, Zs]
  refine WpH.vD 8 (some 23) ?_ rfl rfl (by kernel_rfl) (fun _ _ _ h => h) rfl (fun wz hwz => ?_) ?_
  rotate_left
  ·go_simp; try (with_reducible rfl)
  simp only [Zp, Zq, Zr, Zs]
  refine WpH.vD 9 (some 24) ?_ rfl rfl (by kernel_rfl) (fun _ _ _ h => h) rfl (fun wz hwz => ?_) ?_
  rotate_left
  ·go_simp; try (with_reducible rfl)
  simp only [Zp, Zq, Zr, Zs]
  refine WpH.vD 10 (some 4) ?_ rfl rfl (by kernel_rfl) (fun _ _ _ h => h) rfl (fun wz hwz => ?_) ?_
  rotate_left
  ·go_simp; try (with_reducible rfl)
  simp only [Zp, Zq, Zr, Zs]
  refine WpH.doneB (by kernel_rfl) (fun w2 hw2 => ?_)
  (try simp only [List.drop_succ_cons]); (try simp only [List.drop_zero]); (try simp only [Nat.reduceSub]); (try simp only [List.take_succ_cons]); (try simp only [List.take_zero])
  clear s0 s1 s2 s3 s4 s5 s6 s7 s8 s9 s10 s11 s12 r0 r1 r2 r3 r4 r5 r6 r7 r8 r9 r10 r11 r12 v0 v1 v2 v3 v4 v5 v6 v7 v8 v9 v10 v11 v12
  replace hbw := bl_call hbw (Nat.le_refl _) hw2
  replace hs := hs.call hw2
  replace hr := hr.call hw2
  replace hv := hv.call hw2
  obtain ⟨⟨s0, s1, s2, s3, s4, s5⟩, ⟨s6, s7, s8, s9, s10, s11⟩, s12⟩ := hs.get6
  obtain ⟨⟨r0, r1, r2, r3, r4, r5⟩, ⟨r6, r7, r8, r9, r10, r11⟩, r12⟩ := hr.get6
  obtain ⟨⟨v0, v1, v2, v3, v4, v5⟩, ⟨v6, v7, v8, v9, v10, v11⟩, v12⟩ := hv.get6
  go_wp2
  have hS7 : SmS w k f b l m c 3 F w2.drew := ⟨hbw.drew, hs.drew, hr.drew, _, _, _, hv.drew⟩
  obtain ⟨T, hT, hT2⟩ : ∃ T : Nat, (L : Int).tmod 3 = (T : Int) ∧ (1 : Int) + (T : Int) = (L3 : Int) := ⟨((L : Int) % 3).toNat, by rw [Int.tmod_eq_emod_of_nonneg (by omega)]; omega, by omega⟩
  obtain ⟨CT, hCT, hCT2⟩ : ∃ CT : Nat, c.tmod 4 = (CT : Int) ∧ (1 : Int) + (CT : Int) = (C : Int) := ⟨(c % 4).toNat, by rw [Int.tmod_eq_emod_of_nonneg hc0]; omega, by omega⟩
  have hwT : IntKind.i64.wrap (T : Int) = (T : Int) := IntWalk.i64_in _ (by omega)
  have hwL3 : IntKind.i64.wrap (L3 : Int) = (L3 : Int) := IntWalk.i64_in _ (by omega)
  have hwCT : IntKind.i64.wrap (CT : Int) = (CT : Int) := IntWalk.i64_in _ (by omega)
  have hwC : IntKind.i64.wrap (C : Int) = (C : Int) := IntWalk.i64_in _ (by omega)
  clear s0 s1 s2 s3 s4 s5 s6 s7 s8 s9 s10 s11 s12 r0 r1 r2 r3 r4 r5 r6 r7 r8 r9 r10 r11 r12 v0 v1 v2 v3 v4 v5 v6 v7 v8 v9 v10 v11 v12
  refine region_GS (SmS w k f b l m c 3 F) (SmS.clo w k f b l m c 3 F) hS7 (n := 13) (m := 15) (f := 13) (by kernel_rfl) (by kernel_rfl) rfl ?_
  refine WpG.vD 0 (some 33) ?_ rfl rfl (by kernel_rfl) (fun _ _ _ h => h) rfl (fun wz hwz => ?_) ?_
  rotate_left
  ·go_simp; try (with_reducible rfl)
  simp only [Zp, Zq, Zr, Zs]
  refine WpG.vD 1 (some 34) ?_ rfl rfl (by kernel_rfl) (fun _ _ _ h => h) rfl (fun wz hwz => ?_) ?_
  rotate_left
  ·go_simp; try (with_reducible rfl)
  simp only [Zp, Zq, Zr, Zs]
  refine WpG.vD 2 (some 35) ?_ rfl rfl (by kernel_rfl) (fun _ _ _ h => h) rfl (fun wz hwz => ?_) ?_
  rotate_left
  ·go_simp; try (with_reducible rfl)
  simp only [Zp, Zq, Zr, Zs]
  refine WpG.vD 3 (some 36) ?_ rfl rfl (by kernel_rfl) (fun _ _ _ h => h) rfl (fun wz hwz => ?_) ?_
  rotate_left
  ·go_simp; try (with_reducible rfl)
  simp only [Zp, Zq, Zr, Zs]
  refine WpG.vD 4 (some 37) ?_ rfl rfl (by kernel_rfl) (fun _ _ _ h => h) rfl (fun wz hwz => ?_) ?_
  rotate_left
  ·go_simp; try (with_reducible rfl)
  simp only [Zp, Zq, Zr, Zs]
  refine WpG.vD 5 (some 38) ?_ rfl rfl (by kernel_rfl) (fun _ _ _ h => h) rfl (fun wz hwz => ?_) ?_
  rotate_left
  ·(obtain ⟨_, hsz, _, _⟩ := hwz; obtain ⟨⟨s0, s1, s2, s3, s4, s5⟩, _, s12⟩ := hsz.get6; go_simp; try (with_reducible rfl))
  simp only [Zp, Zq, Zr, Zs]
  refine WpG.vD 6 (some 39) ?_ rfl rfl (by kernel_rfl) (fun _ _ _ h => h) rfl (fun wz hwz => ?_) ?_
  rotate_left
  ·go_simp; try (with_reducible rfl)
  simp only [Zp, Zq, Zr, Zs]
  refine WpG.vD 7 (some 40) ?_ rfl rfl (by kernel_rfl) (fun _ _ _ h => h) rfl (fun wz hwz => ?_) ?_
  rotate_left
  ·go_simp; try (with_reducible rfl)
  simp only [Zp, Zq, Zr, Zs]
  refine WpG.vD 8 (some 41) ?_ rfl rfl (by kernel_rfl) (fun _ _ _ h => h) rfl (fun wz hwz => ?_) ?_
  rotate_left
  ·go_simp; try (with_reducible rfl)
  simp only [Zp, Zq, Zr, Zs]
  refine WpG.vD 9 (some 42) ?_ rfl rfl (by kernel_rfl) (fun _ _ _ h => h) rfl (fun wz hwz => ?_) ?_
  rotate_left
  ·go_simp; try (with_reducible rfl)
  simp only [Zp, Zq, Zr, Zs]
  refine WpG.oneSkip 10 none rfl rfl (by kernel_rfl) (fun wz => ∃ x3 x5 : Value, Vs wz (w.heap.size + 1 + 1) [.int .u8 3, .int .u8 F, .int .i64 B, x3, .int .i64 0, x5]) (fun _ _ h hb => let ⟨y, z, hv⟩ := h; ⟨y, z, hv.call hb⟩) rfl (fun wz hwz => ?_) ?_
  ·obtain ⟨hbz, hsz, hrz, x2, x3, x5, hvz⟩ := hwz; obtain ⟨⟨v0, v1, v2, v3, v4, v5⟩, ⟨v6, v7, v8, v9, v10, v11⟩, v12⟩ := hvz.get6; exact ⟨wz.setCell ⟨w.heap.size + 1 + 1, 2, none⟩ (.int .i64 B), by go_simp; try (with_reducible rfl), ⟨bl_set hbz (by dsimp only; omega) _, hsz.far (by simp; omega) _, hrz.far (by simp) _, _, _, _, hvz.put 2 (by simp) _⟩, _, _, hvz.put 2 (by simp) _⟩
  simp only [Act.put]
  refine WpG.vD 11 (some 43) ?_ rfl rfl (by kernel_rfl) (fun _ _ _ h => h) rfl (fun wz hwz => ?_) ?_
  rotate_left
  ·go_simp; try (with_reducible rfl)
  simp only [Zp, Zq, Zr, Zs]
  refine WpG.oneSkip 12 none rfl rfl (by kernel_rfl) (fun wz => ∃ x5 : Value, Vs wz (w.heap.size + 1 + 1) [.int .u8 3, .int .u8 F, .int .i64 B, .int .i64 L3, .int .i64 0, x5]) (fun _ _ h hb => let ⟨z, hv⟩ := h; ⟨z, hv.call hb⟩) rfl (fun wz hwz => ?_) ?_
  ·obtain ⟨⟨hbz, hsz, hrz, _⟩, x3, x5, hvz⟩ := hwz; obtain ⟨⟨v0, v1, v2, v3, v4, v5⟩, ⟨v6, v7, v8, v9, v10, v11⟩, v12⟩ := hvz.get6; exact ⟨wz.setCell ⟨w.heap.size + 1 + 1, 3, none⟩ (.int .i64 L3), by go_simp; try (with_reducible rfl), ⟨⟨bl_set hbz (by dsimp only; omega) _, hsz.far (by simp; omega) _, hrz.far (by simp) _, _, _, _, hvz.put 3 (by simp) _⟩, _, _, hvz.put 3 (by simp) _⟩, _, hvz.put 3 (by simp) _⟩
  simp only [Act.put]
  refine WpG.done (by kernel_rfl) (fun w5 hS => ?_)
  (try simp only [List.drop_succ_cons]); (try simp only [List.drop_zero]); (try simp only [Nat.reduceSub]); (try simp only [List.take_succ_cons]); (try simp only [List.take_zero])
  obtain ⟨⟨⟨hb5, hs5, hr5, _⟩, _⟩, x5, hv5⟩ := hS
  have hrr := hr5.far (p := ⟨w.heap.size + 1 + 1, 5, none⟩) (by simp) (.int .i64 C)
  have hbw2 := bl_set (p := ⟨w.heap.size + 1 + 1, 5, none⟩) hb5 (by simp; omega) (.int .i64 C)
  clear hs hr hv hbw hS7 hw2
  obtain ⟨⟨v0, v1, v2, v3, v4, v5⟩, ⟨v6, v7, v8, v9, v10, v11⟩, v12⟩ := hv5.get6
  obtain ⟨⟨r0, r1, r2, r3, r4, r5⟩, ⟨r6, r7, r8, r9, r10, r11⟩, r12⟩ := hr5.get6
  go_wp2
  have hres := Vs.set6 hrr (.int .u8 3) (.int .u8 F) (.int .i64 B) (.int .i64 L3) (.int .i64 0) (.int .i64 C)
  have hble : w.heap.size ≤ w.heap.size + 1 := by omega
  have hbr := bl_set (p := ⟨w.heap.size + 1, 5, none⟩) (bl_set (p := ⟨w.heap.size + 1, 4, none⟩) (bl_set (p := ⟨w.heap.size + 1, 3, none⟩) (bl_set (p := ⟨w.heap.size + 1, 2, none⟩) (bl_set (p := ⟨w.heap.size + 1, 1, none⟩) (bl_set (p := ⟨w.heap.size + 1, 0, none⟩) hbw2 hble (.int .u8 3)) hble (.int .u8 F)) hble (.int .i64 B)) hble (.int .i64 L3)) hble (.int .i64 0)) hble (.int .i64 C)
  exact bodyPost_ret (results_cir hres rfl rfl) rfl ⟨rfl, hbr⟩
 ·refine ⟨F, .hist L C, hF, CK.small_of ⟨⟨hL1, by omega⟩, ⟨hC1, by omega⟩⟩ (by show L ≤ 12; omega), fun w => ?_⟩
  rw [val_hist]
  go_enter Try.func14, Try.ntmps14
  go_upto_region 2 with fail
  have hs := ((Vs.new w [.int .u8 k, .int .u8 f, .int .u8 b, .int .u8 l, .int .u8 m, .int .u8 c] #[.int .u8 k, .int .u8 f, .int .u8 b, .int .u8 l, .int .u8 m, .int .u8 c] 23 rfl).alloc (.cells #[.int .u8 0, .int .u8 0, .int .i64 0, .int .i64 0, .int .i64 0, .int .i64 0] 32)).alloc (.cells #[.int .u8 4, .int .u8 F, .int .i64 0, .int .i64 0, .int .i64 0, .int .i64 0] 32)
  have hr := (Vs.new (w.alloc (.cells #[.int .u8 k, .int .u8 f, .int .u8 b, .int .u8 l, .int .u8 m, .int .u8 c] 23)) [.int .u8 0, .int .u8 0, .int .i64 0, .int .i64 0, .int .i64 0, .int .i64 0] #[.int .u8 0, .int .u8 0, .int .i64 0, .int .i64 0, .int .i64 0, .int .i64 0] 32 rfl).alloc (.cells #[.int .u8 4, .int .u8 F, .int .i64 0, .int .i64 0, .int .i64 0, .int .i64 0] 32)
  have hv := Vs.new ((w.alloc (.cells #[.int .u8 k, .int .u8 f, .int .u8 b, .int .u8 l, .int .u8 m, .int .u8 c] 23)).alloc (.cells #[.int .u8 0, .int .u8 0, .int .i64 0, .int .i64 0, .int .i64 0, .int .i64 0] 32)) [.int .u8 4, .int .u8 F, .int .i64 0, .int .i64 0, .int .i64 0, .int .i64 0] #[.int .u8 4, .int .u8 F, .int .i64 0, .int .i64 0, .int .i64 0, .int .i64 0] 32 rfl
  simp only [World.size_alloc] at hr hv
  have hbw : Below w.heap.size w (((w.alloc (.cells #[.int .u8 k, .int .u8 f, .int .u8 b, .int .u8 l, .int .u8 m, .int .u8 c] 23)).alloc (.cells #[.int .u8 0, .int .u8 0, .int .i64 0, .int .i64 0, .int .i64 0, .int .i64 0] 32)).alloc (.cells #[.int .u8 4, .int .u8 F, .int .i64 0, .int .i64 0, .int .i64 0, .int .i64 0] 32)) := by repeat (first | exact bA | with_reducible assumption | apply bB | (refine bC ?_ (by dsimp only; omega)) | apply bD | apply bE | (refine bF ?_ (by assumption)))
  generalize ((w.alloc (.cells #[.int .u8 k, .int .u8 f, .int .u8 b, .int .u8 l, .int .u8 m, .int .u8 c] 23)).alloc (.cells #[.int .u8 0, .int .u8 0, .int .i64 0, .int .i64 0, .int .i64 0, .int .i64 0] 32)).alloc (.cells #[.int .u8 4, .int .u8 F, .int .i64 0, .int .i64 0, .int .i64 0, .int .i64 0] 32) = w1 at hs hr hv hbw ⊢
  obtain ⟨⟨s0, s1, s2, s3, s4, s5⟩, ⟨s6, s7, s8, s9, s10, s11⟩, s12⟩ := hs.get6
  obtain ⟨⟨r0, r1, r2, r3, r4, r5⟩, ⟨r6, r7, r8, r9, r10, r11⟩, r12⟩ := hr.get6
  obtain ⟨⟨v0, v1, v2, v3, v4, v5⟩, ⟨v6, v7, v8, v9, v10, v11⟩, v12⟩ := hv.get6
  refine region_B (n := 11) (m := 12) (f := 11) (by kernel_rfl) (by kernel_rfl) rfl ?_
  refine WpH.vD 0 (some 15) ?_ rfl rfl (by kernel_rfl) (fun _ _ _ h => h) rfl (fun wz hwz => ?_) ?_
  rotate_left
  ·go_simp; try (with_reducible rfl)
  simp only [Zp, Zq, Zr, Zs]
  refine WpH.vD 1 (some 16) ?_ rfl rfl (by kernel_rfl) (fun _ _ _ h => h) rfl (fun wz hwz => ?_) ?_
  rotate_left
  ·(obtain ⟨hcz, hfz⟩ := bcell hwz; go_simp; try (with_reducible rfl))
  simp only [Zp, Zq, Zr, Zs]
  refine WpH.vD 2 (some 17) ?_ rfl rfl (by kernel_rfl) (fun _ _ _ h => h) rfl (fun wz hwz => ?_) ?_
  rotate_left
  ·go_simp; try (with_reducible rfl)
  simp only [Zp, Zq, Zr, Zs]
  refine WpH.vD 3 (some 18) ?_ rfl rfl (by kernel_rfl) (fun _ _ _ h => h) rfl (fun wz hwz => ?_) ?_
  rotate_left
  ·go_simp; try (with_reducible rfl)
  simp only [Zp, Zq, Zr, Zs]
  refine WpH.vD 4 (some 19) ?_ rfl rfl (by kernel_rfl) (fun _ _ _ h => h) rfl (fun wz hwz => ?_) ?_
  rotate_left
  ·go_simp; try (with_reducible rfl)
  simp only [Zp, Zq, Zr, Zs]
  refine WpH.vD 5 (some 20) ?_ rfl rfl (by kernel_rfl) (fun _ _ _ h => h) rfl (fun wz hwz => ?_) ?_
  rotate_left
  ·go_simp; try (with_reducible rfl)
  simp only [Zp, Zq, Zr, Zs]
  refine WpH.vD 6 (some 21) ?_ rfl rfl (by kernel_rfl) (fun _ _ _ h => h) rfl (fun wz hwz => ?_) ?_
  rotate_left
  ·(obtain ⟨hcz, hfz⟩ := bcell hwz; go_simp; try (with_reducible rfl))
  simp only [Zp, Zq, Zr, Zs]
  refine WpH.vD 7 (some 22) ?_ rfl rfl (by kernel_rfl) (fun _ _ _ h => h) rfl (fun wz hwz => ?_) ?_
  rotate_left
  ·go_simp; try (with_reducible rfl)
  simp only [Zp, Zq, Zr, Zs]
  refine WpH.vD 8 (some 23) ?_ rfl rfl (by kernel_rfl) (fun _ _ _ h => h) rfl (fun wz hwz => ?_) ?_
  rotate_left
  ·go_simp; try (with_reducible rfl)
  simp only [Zp, Zq, Zr, Zs]
  refine WpH.vD 9 (some 24) ?_ rfl rfl (by kernel_rfl) (fun _ _ _ h => h) rfl (fun wz hwz => ?_) ?_
  rotate_left
  ·go_simp; try (with_reducible rfl)
  simp only [Zp, Zq, Zr, Zs]
  refine WpH.vD 10 (some 4) ?_ rfl rfl (by kernel_rfl) (fun _ _ _ h => h) rfl (fun wz hwz => ?_) ?_
  rotate_left
  ·go_simp; try (with_reducible rfl)
  simp only [Zp, Zq, Zr, Zs]
  refine WpH.doneB (by kernel_rfl) (fun w2 hw2 => ?_)
  (try simp only [List.drop_succ_cons]); (try simp only [List.drop_zero]); (try simp only [Nat.reduceSub]); (try simp only [List.take_succ_cons]); (try simp only [List.take_zero])
  clear s0 s1 s2 s3 s4 s5 s6 s7 s8 s9 s10 s11 s12 r0 r1 r2 r3 r4 r5 r6 r7 r8 r9 r10 r11 r12 v0 v1 v2 v3 v4 v5 v6 v7 v8 v9 v10 v11 v12
  replace hbw := bl_call hbw (Nat.le_refl _) hw2
  replace hs := hs.call hw2
  replace hr := hr.call hw2
  replace hv := hv.call hw2
  obtain ⟨⟨s0, s1, s2, s3, s4, s5⟩, ⟨s6, s7, s8, s9, s10, s11⟩, s12⟩ := hs.get6
  obtain ⟨⟨r0, r1, r2, r3, r4, r5⟩, ⟨r6, r7, r8, r9, r10, r11⟩, r12⟩ := hr.get6
  obtain ⟨⟨v0, v1, v2, v3, v4, v5⟩, ⟨v6, v7, v8, v9, v10, v11⟩, v12⟩ := hv.get6
  go_wp2
  have hS7 : SmS w k f b l m c 4 F w2.drew := ⟨hbw.drew, hs.drew, hr.drew, _, _, _, hv.drew⟩
  obtain ⟨CT, hCT, hCT2⟩ : ∃ CT : Nat, c.tmod 4 = (CT : Int) ∧ (1 : Int) + (CT : Int) = (C : Int) := ⟨(c % 4).toNat, by rw [Int.tmod_eq_emod_of_nonneg hc0]; omega, by omega⟩
  have hwCT : IntKind.i64.wrap (CT : Int) = (CT : Int) := IntWalk.i64_in _ (by omega)
  have hwC : IntKind.i64.wrap (C : Int) = (C : Int) := IntWalk.i64_in _ (by omega)
  have hSH : Clo (fun wz => SmS w k f b l m c 4 F wz ∧ ∃ x3 x5 : Value, Vs wz (w.heap.size + 1 + 1) [.int .u8 4, .int .u8 F, .int .i64 0, x3, .int .i64 0, x5]) := (SmS.clo w k f b l m c 4 F).and fun _ _ h hb => let ⟨y, z, hv⟩ := h; ⟨y, z, hv.call hb⟩
  have hS8 : SmS w k f b l m c 4 F w2.drew ∧ ∃ x3 x5 : Value, Vs w2.drew (w.heap.size + 1 + 1) [.int .u8 4, .int .u8 F, .int .i64 0, x3, .int .i64 0, x5] := ⟨hS7, _, _, hv.drew⟩
  clear s0 s1 s2 s3 s4 s5 s6 s7 s8 s9 s10 s11 s12 r0 r1 r2 r3 r4 r5 r6 r7 r8 r9 r10 r11 r12 v0 v1 v2 v3 v4 v5 v6 v7 v8 v9 v10 v11 v12
  refine region_GS _ hSH hS8 (n := 8) (m := 10) (f := 8) (by kernel_rfl) (by kernel_rfl) rfl ?_
  refine WpG.vD 0 (some 47) ?_ rfl rfl (by kernel_rfl) (fun _ _ _ h => h) rfl (fun wz hwz => ?_) ?_
  rotate_left
  ·go_simp; try (with_reducible rfl)
  simp only [Zp, Zq, Zr, Zs]
  refine WpG.vD 1 (some 48) ?_ rfl rfl (by kernel_rfl) (fun _ _ _ h => h) rfl (fun wz hwz => ?_) ?_
  rotate_left
  ·go_simp; try (with_reducible rfl)
  simp only [Zp, Zq, Zr, Zs]
  refine WpG.vD 2 (some 49) ?_ rfl rfl (by kernel_rfl) (fun _ _ _ h => h) rfl (fun wz hwz => ?_) ?_
  rotate_left
  ·(obtain ⟨⟨_, hsz, _, _⟩, _⟩ := hwz; obtain ⟨⟨s0, s1, s2, s3, s4, s5⟩, _, s12⟩ := hsz.get6; go_simp; try (with_reducible rfl))
  simp only [Zp, Zq, Zr, Zs]
  refine WpG.vD 3 (some 50) ?_ rfl rfl (by kernel_rfl) (fun _ _ _ h => h) rfl (fun wz hwz => ?_) ?_
  rotate_left
  ·go_simp; try (with_reducible rfl)
  simp only [Zp, Zq, Zr, Zs]
  refine WpG.vD 4 (some 51) ?_ rfl rfl (by kernel_rfl) (fun _ _ _ h => h) rfl (fun wz hwz => ?_) ?_
  rotate_left
  ·go_simp; try (with_reducible rfl)
  simp only [Zp, Zq, Zr, Zs]
  refine WpG.vD 5 (some 52) ?_ rfl rfl (by kernel_rfl) (fun _ _ _ h => h) rfl (fun wz hwz => ?_) ?_
  rotate_left
  ·go_simp; try (with_reducible rfl)
  simp only [Zp, Zq, Zr, Zs]
  refine WpG.vD 6 (some 53) ?_ rfl rfl (by kernel_rfl) (fun _ _ _ h => h) rfl (fun wz hwz => ?_) ?_
  rotate_left
  ·go_simp; try (with_reducible rfl)
  simp only [Zp, Zq, Zr, Zs]
  refine WpG.oneSkip 7 none rfl rfl (by kernel_rfl) (fun wz => ∃ x5 : Value, Vs wz (w.heap.size + 1 + 1) [.int .u8 4, .int .u8 F, .int .i64 0, .int .i64 L, .int .i64 0, x5]) (fun _ _ h hb => let ⟨z, hv⟩ := h; ⟨z, hv.call hb⟩) rfl (fun wz hwz => ?_) ?_
  ·obtain ⟨⟨hbz, hsz, hrz, _⟩, x3, x5, hvz⟩ := hwz; obtain ⟨⟨v0, v1, v2, v3, v4, v5⟩, ⟨v6, v7, v8, v9, v10, v11⟩, v12⟩ := hvz.get6; exact ⟨wz.setCell ⟨w.heap.size + 1 + 1, 3, none⟩ (.int .i64 L), by go_simp; try (with_reducible rfl), ⟨⟨bl_set hbz (by dsimp only; omega) _, hsz.far (by simp; omega) _, hrz.far (by simp) _, _, _, _, hvz.put 3 (by simp) _⟩, _, _, hvz.put 3 (by simp) _⟩, _, hvz.put 3 (by simp) _⟩
  simp only [Act.put]
  refine WpG.done (by kernel_rfl) (fun w5 hS => ?_)
  (try simp only [List.drop_succ_cons]); (try simp only [List.drop_zero]); (try simp only [Nat.reduceSub]); (try simp only [List.take_succ_cons]); (try simp only [List.take_zero])
  obtain ⟨⟨⟨hb5, hs5, hr5, _⟩, _⟩, x5, hv5⟩ := hS
  have hrr := hr5.far (p := ⟨w.heap.size + 1 + 1, 5, none⟩) (by simp) (.int .i64 C)
  have hbw2 := bl_set (p := ⟨w.heap.size + 1 + 1, 5, none⟩) hb5 (by simp; omega) (.int .i64 C)
  clear hs hr hv hbw hS7 hw2
  obtain ⟨⟨v0, v1, v2, v3, v4, v5⟩, ⟨v6, v7, v8, v9, v10, v11⟩, v12⟩ := hv5.get6
  obtain ⟨⟨r0, r1, r2, r3, r4, r5⟩, ⟨r6, r7, r8, r9, r10, r11⟩, r12⟩ := hr5.get6
  go_wp2
  have hres := Vs.set6 hrr (.int .u8 4) (.int .u8 F) (.int .i64 0) (.int .i64 L) (.int .i64 0) (.int .i64 C)
  have hble : w.heap.size ≤ w.heap.size + 1 := by omega
  have hbr := bl_set (p := ⟨w.heap.size + 1, 5, none⟩) (bl_set (p := ⟨w.heap.size + 1, 4, none⟩) (bl_set (p := ⟨w.heap.size + 1, 3, none⟩) (bl_set (p := ⟨w.heap.size + 1, 2, none⟩) (bl_set (p := ⟨w.heap.size + 1, 1, none⟩) (bl_set (p := ⟨w.heap.size + 1, 0, none⟩) hbw2 hble (.int .u8 4)) hble (.int .u8 F)) hble (.int .i64 0)) hble (.int .i64 L)) hble (.int .i64 0)) hble (.int .i64 C)
  exact bodyPost_ret (results_cir hres rfl rfl) rfl ⟨rfl, hbr⟩
 ·have hmod : 0 ≤ m % (L : Int) ∧ m % (L : Int) < (L : Int) := ⟨Int.emod_nonneg _ (by omega), Int.emod_lt_of_pos _ (by omega)⟩
  obtain ⟨M, hM, hM1, hML⟩ : ∃ M : Nat, 1 + m % (L : Int) = (M : Int) ∧ 1 ≤ M ∧ M ≤ L := ⟨(1 + m % (L : Int)).toNat, by omega, by omega, by omega⟩
  have hM' : m % (L : Int) + 1 = (M : Int) := by omega
  have hb3 := bitLen_5 M (by omega)
  refine ⟨F, .multi L M C, hF, CK.small_of ⟨⟨hL1, by omega⟩, ⟨hM1, hML⟩, ⟨hC1, by omega⟩⟩ (by show L + Lib.bitLen M ≤ 12; omega), fun w => ?_⟩
  have hL0 : ¬ (L = 0) := by omega
  rw [val_multi]
  clear hb3
  go_enter Try.func14, Try.ntmps14
  go_upto_region 2 with fail
  have hs := ((Vs.new w [.int .u8 k, .int .u8 f, .int .u8 b, .int .u8 l, .int .u8 m, .int .u8 c] #[.int .u8 k, .int .u8 f, .int .u8 b, .int .u8 l, .int .u8 m, .int .u8 c] 23 rfl).alloc (.cells #[.int .u8 0, .int .u8 0, .int .i64 0, .int .i64 0, .int .i64 0, .int .i64 0] 32)).alloc (.cells #[.int .u8 5, .int .u8 F, .int .i64 0, .int .i64 0, .int .i64 0, .int .i64 0] 32)
  have hr := (Vs.new (w.alloc (.cells #[.int .u8 k, .int .u8 f, .int .u8 b, .int .u8 l, .int .u8 m, .int .u8 c] 23)) [.int .u8 0, .int .u8 0, .int .i64 0, .int .i64 0, .int .i64 0, .int .i64 0] #[.int .u8 0, .int .u8 0, .int .i64 0, .int .i64 0, .int .i64 0, .int .i64 0] 32 rfl).alloc (.cells #[.int .u8 5, .int .u8 F, .int .i64 0, .int .i64 0, .int .i64 0, .int .i64 0] 32)
  have hv := Vs.new ((w.alloc (.cells #[.int .u8 k, .int .u8 f, .int .u8 b, .int .u8 l, .int .u8 m, .int .u8 c] 23)).alloc (.cells #[.int .u8 0, .int .u8 0, .int .i64 0, .int .i64 0, .int .i64 0, .int .i64 0] 32)) [.int .u8 5, .int .u8 F, .int .i64 0, .int .i64 0, .int .i64 0, .int .i64 0] #[.int .u8 5, .int .u8 F, .int .i64 0, .int .i64 0, .int .i64 0, .int .i64 0] 32 rfl
  simp only [World.size_alloc] at hr hv
  have hbw : Below w.heap.size w (((w.alloc (.cells #[.int .u8 k, .int .u8 f, .int .u8 b, .int .u8 l, .int .u8 m, .int .u8 c] 23)).alloc (.cells #[.int .u8 0, .int .u8 0, .int .i64 0, .int .i64 0, .int .i64 0, .int .i64 0] 32)).alloc (.cells #[.int .u8 5, .int .u8 F, .int .i64 0, .int .i64 0, .int .i64 0, .int .i64 0] 32)) := by repeat (first | exact bA | with_reducible assumption | apply bB | (refine bC ?_ (by dsimp only; omega)) | apply bD | apply bE | (refine bF ?_ (by assumption)))
  generalize ((w.alloc (.cells #[.int .u8 k, .int .u8 f, .int .u8 b, .int .u8 l, .int .u8 m, .int .u8 c] 23)).alloc (.cells #[.int .u8 0, .int .u8 0, .int .i64 0, .int .i64 0, .int .i64 0, .int .i64 0] 32)).alloc (.cells #[.int .u8 5, .int .u8 F, .int .i64 0, .int .i64 0, .int .i64 0, .int .i64 0] 32) = w1 at hs hr hv hbw ⊢
  obtain ⟨⟨s0, s1, s2, s3, s4, s5⟩, ⟨s6, s7, s8, s9, s10, s11⟩, s12⟩ := hs.get6
  obtain ⟨⟨r0, r1, r2, r3, r4, r5⟩, ⟨r6, r7, r8, r9, r10, r11⟩, r12⟩ := hr.get6
  obtain ⟨⟨v0, v1, v2, v3, v4, v5⟩, ⟨v6, v7, v8, v9, v10, v11⟩, v12⟩ := hv.get6
  refine region_B (n := 11) (m := 12) (f := 11) (by kernel_rfl) (by kernel_rfl) rfl ?_
  refine WpH.vD 0 (some 15) ?_ rfl rfl (by kernel_rfl) (fun _ _ _ h => h) rfl (fun wz hwz => ?_) ?_
  rotate_left
  ·go_simp; try (with_reducible rfl)
  simp only [Zp, Zq, Zr, Zs]
  refine WpH.vD 1 (some 16) ?_ rfl rfl (by kernel_rfl) (fun _ _ _ h => h) rfl (fun wz hwz => ?_) ?_
  rotate_left
  ·(obtain ⟨hcz, hfz⟩ := bcell hwz; go_simp; try (with_reducible rfl))
  simp only [Zp, Zq, Zr, Zs]
  refine WpH.vD 2 (some 17) ?_ rfl rfl (by kernel_rfl) (fun _ _ _ h => h) rfl (fun wz hwz => ?_) ?_
  rotate_left
  ·go_simp; try (with_reducible rfl)
  simp only [Zp, Zq, Zr, Zs]
  refine WpH.vD 3 (some 18) ?_ rfl rfl (by kernel_rfl) (fun _ _ _ h => h) rfl (fun wz hwz => ?_) ?_
  rotate_left
  ·go_simp; try (with_reducible rfl)
  simp only [Zp, Zq, Zr, Zs]
  refine WpH.vD 4 (some 19) ?_ rfl rfl (by kernel_rfl) (fun _ _ _ h => h) rfl (fun wz hwz => ?_) ?_
  rotate_left
  ·go_simp; try (with_reducible rfl)
  simp only [Zp, Zq, Zr, Zs]
  refine WpH.vD 5 (some 20) ?_ rfl rfl (by kernel_rfl) (fun _ _ _ h => h) rfl (fun wz hwz => ?_) ?_
  rotate_left
  ·go_simp; try (with_reducible rfl)
  simp only [Zp, Zq, Zr, Zs]
  refine WpH.vD 6 (some 21) ?_ rfl rfl (by kernel_rfl) (fun _ _ _ h => h) rfl (fun wz hwz => ?_) ?_
  rotate_left
  ·(obtain ⟨hcz, hfz⟩ := bcell hwz; go_simp; try (with_reducible rfl))
  simp only [Zp, Zq, Zr, Zs]
  refine WpH.vD 7 (some 22) ?_ rfl rfl (by kernel_rfl) (fun _ _ _ h => h) rfl (fun wz hwz => ?_) ?_
  rotate_left
  ·go_simp; try (with_reducible rfl)
  simp only [Zp, Zq, Zr, Zs]
  refine WpH.vD 8 (some 23) ?_ rfl rfl (by kernel_rfl) (fun _ _ _ h => h) rfl (fun wz hwz => ?_) ?_
  rotate_left
  ·go_simp; try (with_reducible rfl)
  simp only [Zp, Zq, Zr, Zs]
  refine WpH.vD 9 (some 24) ?_ rfl rfl (by kernel_rfl) (fun _ _ _ h => h) rfl (fun wz hwz => ?_) ?_
  rotate_left
  ·go_simp; try (with_reducible rfl)
  simp only [Zp, Zq, Zr, Zs]
  refine WpH.vD 10 (some 4) ?_ rfl rfl (by kernel_rfl) (fun _ _ _ h => h) rfl (fun wz hwz => ?_) ?_
  rotate_left
  ·go_simp; try (with_reducible rfl)
  simp only [Zp, Zq, Zr, Zs]
  refine WpH.doneB (by kernel_rfl) (fun w2 hw2 => ?_)
  (try simp only [List.drop_succ_cons]); (try simp only [List.drop_zero]); (try simp only [Nat.reduceSub]); (try simp only [List.take_succ_cons]); (try simp only [List.take_zero])
  clear s0 s1 s2 s3 s4 s5 s6 s7 s8 s9 s10 s11 s12 r0 r1 r2 r3 r4 r5 r6 r7 r8 r9 r10 r11 r12 v0 v1 v2 v3 v4 v5 v6 v7 v8 v9 v10 v11 v12
  replace hbw := bl_call hbw (Nat.le_refl _) hw2
  replace hs := hs.call hw2
  replace hr := hr.call hw2
  replace hv := hv.call hw2
  obtain ⟨⟨s0, s1, s2, s3, s4, s5⟩, ⟨s6, s7, s8, s9, s10, s11⟩, s12⟩ := hs.get6
  obtain ⟨⟨r0, r1, r2, r3, r4, r5⟩, ⟨r6, r7, r8, r9, r10, r11⟩, r12⟩ := hr.get6
  obtain ⟨⟨v0, v1, v2, v3, v4, v5⟩, ⟨v6, v7, v8, v9, v10, v11⟩, v12⟩ := hv.get6
  go_wp2
  have hS7 : SmS w k f b l m c 5 F w2.drew := ⟨hbw.drew, hs.drew, hr.drew, _, _, _, hv.drew⟩
  obtain ⟨CT, hCT, hCT2⟩ : ∃ CT : Nat, c.tmod 4 = (CT : Int) ∧ (1 : Int) + (CT : Int) = (C : Int) := ⟨(c % 4).toNat, by rw [Int.tmod_eq_emod_of_nonneg hc0]; omega, by omega⟩
  have hwCT : IntKind.i64.wrap (CT : Int) = (CT : Int) := IntWalk.i64_in _ (by omega)
  have hwC : IntKind.i64.wrap (C : Int) = (C : Int) := IntWalk.i64_in _ (by omega)
  have hSH : Clo (fun wz => SmS w k f b l m c 5 F wz ∧ ∃ x3 x5 : Value, Vs wz (w.heap.size + 1 + 1) [.int .u8 5, .int .u8 F, .int .i64 0, x3, .int .i64 0, x5]) := (SmS.clo w k f b l m c 5 F).and fun _ _ h hb => let ⟨y, z, hv⟩ := h; ⟨y, z, hv.call hb⟩
  have hS8 : SmS w k f b l m c 5 F w2.drew ∧ ∃ x3 x5 : Value, Vs w2.drew (w.heap.size + 1 + 1) [.int .u8 5, .int .u8 F, .int .i64 0, x3, .int .i64 0, x5] := ⟨hS7, _, _, hv.drew⟩
  clear s0 s1 s2 s3 s4 s5 s6 s7 s8 s9 s10 s11 s12 r0 r1 r2 r3 r4 r5 r6 r7 r8 r9 r10 r11 r12 v0 v1 v2 v3 v4 v5 v6 v7 v8 v9 v10 v11 v12
  refine region_GS _ hSH hS8 (n := 8) (m := 10) (f := 8) (by kernel_rfl) (by kernel_rfl) rfl ?_
  refine WpG.vD 0 (some 57) ?_ rfl rfl (by kernel_rfl) (fun _ _ _ h => h) rfl (fun wz hwz => ?_) ?_
  rotate_left
  ·go_simp; try (with_reducible rfl)
  simp only [Zp, Zq, Zr, Zs]
  refine WpG.vD 1 (some 58) ?_ rfl rfl (by kernel_rfl) (fun _ _ _ h => h) rfl (fun wz hwz => ?_) ?_
  rotate_left
  ·go_simp; try (with_reducible rfl)
  simp only [Zp, Zq, Zr, Zs]
  refine WpG.vD 2 (some 59) ?_ rfl rfl (by kernel_rfl) (fun _ _ _ h => h) rfl (fun wz hwz => ?_) ?_
  rotate_left
  ·(obtain ⟨⟨_, hsz, _, _⟩, _⟩ := hwz; obtain ⟨⟨s0, s1, s2, s3, s4, s5⟩, _, s12⟩ := hsz.get6; go_simp; try (with_reducible rfl))
  simp only [Zp, Zq, Zr, Zs]
  refine WpG.vD 3 (some 60) ?_ rfl rfl (by kernel_rfl) (fun _ _ _ h => h) rfl (fun wz hwz => ?_) ?_
  rotate_left
  ·go_simp; try (with_reducible rfl)
  simp only [Zp, Zq, Zr, Zs]
  refine WpG.vD 4 (some 61) ?_ rfl rfl (by kernel_rfl) (fun _ _ _ h => h) rfl (fun wz hwz => ?_) ?_
  rotate_left
  ·go_simp; try (with_reducible rfl)
  simp only [Zp, Zq, Zr, Zs]
  refine WpG.vD 5 (some 62) ?_ rfl rfl (by kernel_rfl) (fun _ _ _ h => h) rfl (fun wz hwz => ?_) ?_
  rotate_left
  ·go_simp; try (with_reducible rfl)
  simp only [Zp, Zq, Zr, Zs]
  refine WpG.vD 6 (some 63) ?_ rfl rfl (by kernel_rfl) (fun _ _ _ h => h) rfl (fun wz hwz => ?_) ?_
  rotate_left
  ·go_simp; try (with_reducible rfl)
  simp only [Zp, Zq, Zr, Zs]
  refine WpG.oneSkip 7 none rfl rfl (by kernel_rfl) (fun wz => ∃ x5 : Value, Vs wz (w.heap.size + 1 + 1) [.int .u8 5, .int .u8 F, .int .i64 0, .int .i64 L, .int .i64 0, x5]) (fun _ _ h hb => let ⟨z, hv⟩ := h; ⟨z, hv.call hb⟩) rfl (fun wz hwz => ?_) ?_
  ·obtain ⟨⟨hbz, hsz, hrz, _⟩, x3, x5, hvz⟩ := hwz; obtain ⟨⟨v0, v1, v2, v3, v4, v5⟩, ⟨v6, v7, v8, v9, v10, v11⟩, v12⟩ := hvz.get6; exact ⟨wz.setCell ⟨w.heap.size + 1 + 1, 3, none⟩ (.int .i64 L), by go_simp; try (with_reducible rfl), ⟨⟨bl_set hbz (by dsimp only; omega) _, hsz.far (by simp; omega) _, hrz.far (by simp) _, _, _, _, hvz.put 3 (by simp) _⟩, _, _, hvz.put 3 (by simp) _⟩, _, hvz.put 3 (by simp) _⟩
  simp only [Act.put]
  refine WpG.done (by kernel_rfl) (fun w5 hS => ?_)
  (try simp only [List.drop_succ_cons]); (try simp only [List.drop_zero]); (try simp only [Nat.reduceSub]); (try simp only [List.take_succ_cons]); (try simp only [List.take_zero])
  obtain ⟨⟨⟨hb5, hs5, hr5, _⟩, _⟩, x5, hv5⟩ := hS
  have hrr := (hr5.far (p := ⟨w.heap.size + 1 + 1, 5, none⟩) (by simp) (.int .i64 C)).far (p := ⟨w.heap.size + 1 + 1, 4, none⟩) (by simp) (.int .i64 M)
  have hbw2 := bl_set (p := ⟨w.heap.size + 1 + 1, 4, none⟩) (bl_set (p := ⟨w.heap.size + 1 + 1, 5, none⟩) hb5 (by simp; omega) (.int .i64 C)) (by simp; omega) (.int .i64 M)
  clear hs hr hv hbw hS7 hw2 hS8
  obtain ⟨⟨v0, v1, v2, v3, v4, v5⟩, ⟨v6, v7, v8, v9, v10, v11⟩, v12⟩ := hv5.get6
  obtain ⟨⟨r0, r1, r2, r3, r4, r5⟩, ⟨r6, r7, r8, r9, r10, r11⟩, r12⟩ := hr5.get6
  obtain ⟨⟨s0, s1, s2, s3, s4, s5⟩, ⟨s6, s7, s8, s9, s10, s11⟩, s12⟩ := hs5.get6
  go_wp2
  have hres := Vs.set6 hrr (.int .u8 5) (.int .u8 F) (.int .i64 0) (.int .i64 L) (.int .i64 M) (.int .i64 C)
  have hble : w.heap.size ≤ w.heap.size + 1 := by omega
  have hbr := bl_set (p := ⟨w.heap.size + 1, 5, none⟩) (bl_set (p := ⟨w.heap.size + 1, 4, none⟩) (bl_set (p := ⟨w.heap.size + 1, 3, none⟩) (bl_set (p := ⟨w.heap.size + 1, 2, none⟩) (bl_set (p := ⟨w.heap.size + 1, 1, none⟩) (bl_set (p := ⟨w.heap.size + 1, 0, none⟩) hbw2 hble (.int .u8 5)) hble (.int .u8 F)) hble (.int .i64 0)) hble (.int .i64 L)) hble (.int .i64 M)) hble (.int .i64 C)
  exact bodyPost_ret (results_cir hres rfl rfl) rfl ⟨rfl, hbr⟩

end Go.Proofs.Ytpggflcapfkgpaa

namespace Go.Proofs.Ytpggflcapfkgpaa
open Go.RowKit Fm
set_option linter.unusedVariables false
set_option maxRecDepth 100000

structure Raw where
 k : Int
 f : Int
 b : Int
 l : Int
 m : Int
 c : Int
def Raw.val (x : Raw) : Value := .agg #[.int .u8 x.k, .int .u8 x.f, .int .i64 x.b, .int .i64 x.l, .int .i64 x.m, .int .i64 x.c]
def Raw.rval (x : Raw) : Value := .agg #[.int .i64 x.k, .int .i64 x.f, .int .i64 x.b, .int .i64 x.l, .int .i64 x.m, .int .i64 x.c]
structure Raw.Is (x : Raw) (F : Nat) (y : CK) : Prop where
 fld : IsF F
 ok : y.ok
 calls : ¬ 511 < y.calls
 val : x.val = y.val F
 rval : x.rval = y.rval F

end Go.Proofs.Ytpggflcapfkgpaa

namespace Go.Proofs.Ytpggflcapfkgpaa
open Go.RowKit Fm
set_option linter.unusedVariables false
set_option maxRecDepth 100000

def RetNil (n : Int) (w : World) (e : Ending) (w' : World) : Prop := e = .returned (.tuple #[.slice none 0 0, .int .i64 n]) ∧ Below w.heap.size w w'

end Go.Proofs.Ytpggflcapfkgpaa

namespace Go.Proofs.Ytpggflcapfkgpaa
open Go.RowKit Fm
set_option linter.unusedVariables false
set_option maxRecDepth 100000

theorem Vs.get4 {w : World} {b : Nat} {x y z p : Value} (h : Vs w b [x, y, z, p]) : (w.cell? ⟨b, 0, none⟩ = some x ∧ w.cell? ⟨b, 1, none⟩ = some y ∧ w.cell? ⟨b, 2, none⟩ = some z ∧ w.cell? ⟨b, 3, none⟩ = some p) ∧
  (w.frozen? ⟨b, 0, none⟩ = false ∧ w.frozen? ⟨b, 1, none⟩ = false ∧ w.frozen? ⟨b, 2, none⟩ = false ∧ w.frozen? ⟨b, 3, none⟩ = false) ∧ b < w.heap.size :=
 ⟨⟨h.cell 0 _ rfl, h.cell 1 _ rfl, h.cell 2 _ rfl, h.cell 3 _ rfl⟩, ⟨h.frz 0 (by simp), h.frz 1 (by simp), h.frz 2 (by simp), h.frz 3 (by simp)⟩, h.lt⟩
theorem Vs.get8 {w : World} {b : Nat} {x y z p q r s t : Value} (h : Vs w b [x, y, z, p, q, r, s, t]) : (w.cell? ⟨b, 0, none⟩ = some x ∧ w.cell? ⟨b, 1, none⟩ = some y ∧ w.cell? ⟨b, 2, none⟩ = some z ∧ w.cell? ⟨b, 3, none⟩ = some p ∧ w.cell? ⟨b, 4, none⟩ = some q ∧ w.cell? ⟨b, 5, none⟩ = some r ∧ w.cell? ⟨b, 6, none⟩ = some s ∧ w.cell? ⟨b, 7, none⟩ = some t) ∧
  (w.frozen? ⟨b, 0, none⟩ = false ∧ w.frozen? ⟨b, 1, none⟩ = false ∧ w.frozen? ⟨b, 2, none⟩ = false ∧ w.frozen? ⟨b, 3, none⟩ = false ∧ w.frozen? ⟨b, 4, none⟩ = false ∧ w.frozen? ⟨b, 5, none⟩ = false ∧ w.frozen? ⟨b, 6, none⟩ = false ∧ w.frozen? ⟨b, 7, none⟩ = false) ∧ b < w.heap.size :=
 ⟨⟨h.cell 0 _ rfl, h.cell 1 _ rfl, h.cell 2 _ rfl, h.cell 3 _ rfl, h.cell 4 _ rfl, h.cell 5 _ rfl, h.cell 6 _ rfl, h.cell 7 _ rfl⟩, ⟨h.frz 0 (by simp), h.frz 1 (by simp), h.frz 2 (by simp), h.frz 3 (by simp), h.frz 4 (by simp), h.frz 5 (by simp), h.frz 6 (by simp), h.frz 7 (by simp)⟩, h.lt⟩

structure RawT where
 c : Raw
 p : Int
 s : ByteArray
def RawT.val (t : RawT) : Value := .agg #[.int .u8 t.c.k, .int .u8 t.c.f, .int .i64 t.c.b, .int .i64 t.c.l, .int .i64 t.c.m, .int .i64 t.c.c, .int .i64 t.p, .string t.s]

set_option maxHeartbeats 2000000 in
theorem task_Check_of (t : RawT) (n : Int) (HC : ∀ wz, Calls Try.prog 15 #[t.c.val] wz (RetC n wz)) (w : World) :
  Calls Try.prog 27 #[t.val] w (RetC (if n = 0 then (if t.p < 1 ∨ 3 < t.p ∨ 32 < t.s.size then 6 else 0) else n) w) := by
 have HC := Lib.hid HC
 obtain ⟨⟨k, f, b, l, m, c⟩, p, s⟩ := t
 unfold Raw.val at HC
 unfold RawT.val
 dsimp only at HC ⊢
 have hb00 : Below w.heap.size w w := Below.refl _ _
 by_cases hn : n = 0
 ·subst hn
  rw [if_pos rfl]
  by_cases h1 : p < 1
  ·rw [if_pos (.inl h1)]
   go_enter Try.func27, Try.ntmps27
   go_upto_region 1 with fail
   have hx := Vs.new w [.int .u8 k, .int .u8 f, .int .i64 b, .int .i64 l, .int .i64 m, .int .i64 c, .int .i64 p, .string s] #[.int .u8 k, .int .u8 f, .int .i64 b, .int .i64 l, .int .i64 m, .int .i64 c, .int .i64 p, .string s] 34 rfl
   have hbA : Below w.heap.size w (w.alloc (.cells #[.int .u8 k, .int .u8 f, .int .i64 b, .int .i64 l, .int .i64 m, .int .i64 c, .int .i64 p, .string s] 34)) := by repeat (first | exact bA | with_reducible assumption | apply bB)
   replace hb00 := bl_call hb00 (Nat.le_refl _) hbA
   clear hbA
   generalize w.alloc (.cells #[.int .u8 k, .int .u8 f, .int .i64 b, .int .i64 l, .int .i64 m, .int .i64 c, .int .i64 p, .string s] 34) = w1 at hb00 hx ⊢
   obtain ⟨⟨x0, x1, x2, x3, x4, x5, x6, x7⟩, ⟨x8, x9, x10, x11, x12, x13, x14, x15⟩, x16⟩ := hx.get8
   go_wp2_with (first
    | (go_at_call 15; refine (HC.out _).mono ?_; rintro e w2 ⟨rfl, hb2⟩; replace hb00 := bl_call hb00 (Nat.le_refl _) hb2; replace hx := hx.call hb2; clear x0 x1 x2 x3 x4 x5 x6 x7 x8 x9 x10 x11 x12 x13 x14 x15 x16; clear hb2; obtain ⟨⟨x0, x1, x2, x3, x4, x5, x6, x7⟩, ⟨x8, x9, x10, x11, x12, x13, x14, x15⟩, x16⟩ := hx.get8))
   go_ret
   exact ⟨rfl, hb00⟩
  ·by_cases h2 : 3 < p
   ·rw [if_pos (.inr (.inl h2))]
    go_enter Try.func27, Try.ntmps27
    go_upto_region 1 with fail
    have hx := Vs.new w [.int .u8 k, .int .u8 f, .int .i64 b, .int .i64 l, .int .i64 m, .int .i64 c, .int .i64 p, .string s] #[.int .u8 k, .int .u8 f, .int .i64 b, .int .i64 l, .int .i64 m, .int .i64 c, .int .i64 p, .string s] 34 rfl
    have hbA : Below w.heap.size w (w.alloc (.cells #[.int .u8 k, .int .u8 f, .int .i64 b, .int .i64 l, .int .i64 m, .int .i64 c, .int .i64 p, .string s] 34)) := by repeat (first | exact bA | with_reducible assumption | apply bB)
    replace hb00 := bl_call hb00 (Nat.le_refl _) hbA
    clear hbA
    generalize w.alloc (.cells #[.int .u8 k, .int .u8 f, .int .i64 b, .int .i64 l, .int .i64 m, .int .i64 c, .int .i64 p, .string s] 34) = w1 at hb00 hx ⊢
    obtain ⟨⟨x0, x1, x2, x3, x4, x5, x6, x7⟩, ⟨x8, x9, x10, x11, x12, x13, x14, x15⟩, x16⟩ := hx.get8
    go_wp2_with (first
     | (go_at_call 15; refine (HC.out _).mono ?_; rintro e w2 ⟨rfl, hb2⟩; replace hb00 := bl_call hb00 (Nat.le_refl _) hb2; replace hx := hx.call hb2; clear x0 x1 x2 x3 x4 x5 x6 x7 x8 x9 x10 x11 x12 x13 x14 x15 x16; clear hb2; obtain ⟨⟨x0, x1, x2, x3, x4, x5, x6, x7⟩, ⟨x8, x9, x10, x11, x12, x13, x14, x15⟩, x16⟩ := hx.get8))
    go_ret
    exact ⟨rfl, hb00⟩
   ·by_cases h3 : 32 < s.size
    ·rw [if_pos (.inr (.inr h3))]
     go_enter Try.func27, Try.ntmps27
     go_upto_region 1 with fail
     have hx := Vs.new w [.int .u8 k, .int .u8 f, .int .i64 b, .int .i64 l, .int .i64 m, .int .i64 c, .int .i64 p, .string s] #[.int .u8 k, .int .u8 f, .int .i64 b, .int .i64 l, .int .i64 m, .int .i64 c, .int .i64 p, .string s] 34 rfl
     have hbA : Below w.heap.size w (w.alloc (.cells #[.int .u8 k, .int .u8 f, .int .i64 b, .int .i64 l, .int .i64 m, .int .i64 c, .int .i64 p, .string s] 34)) := by repeat (first | exact bA | with_reducible assumption | apply bB)
     replace hb00 := bl_call hb00 (Nat.le_refl _) hbA
     clear hbA
     generalize w.alloc (.cells #[.int .u8 k, .int .u8 f, .int .i64 b, .int .i64 l, .int .i64 m, .int .i64 c, .int .i64 p, .string s] 34) = w1 at hb00 hx ⊢
     obtain ⟨⟨x0, x1, x2, x3, x4, x5, x6, x7⟩, ⟨x8, x9, x10, x11, x12, x13, x14, x15⟩, x16⟩ := hx.get8
     go_wp2_with (first
      | (go_at_call 15; refine (HC.out _).mono ?_; rintro e w2 ⟨rfl, hb2⟩; replace hb00 := bl_call hb00 (Nat.le_refl _) hb2; replace hx := hx.call hb2; clear x0 x1 x2 x3 x4 x5 x6 x7 x8 x9 x10 x11 x12 x13 x14 x15 x16; clear hb2; obtain ⟨⟨x0, x1, x2, x3, x4, x5, x6, x7⟩, ⟨x8, x9, x10, x11, x12, x13, x14, x15⟩, x16⟩ := hx.get8))
     go_ret
     exact ⟨rfl, hb00⟩
    ·rw [if_neg (by omega)]
     go_enter Try.func27, Try.ntmps27
     go_upto_region 1 with fail
     have hx := Vs.new w [.int .u8 k, .int .u8 f, .int .i64 b, .int .i64 l, .int .i64 m, .int .i64 c, .int .i64 p, .string s] #[.int .u8 k, .int .u8 f, .int .i64 b, .int .i64 l, .int .i64 m, .int .i64 c, .int .i64 p, .string s] 34 rfl
     have hbA : Below w.heap.size w (w.alloc (.cells #[.int .u8 k, .int .u8 f, .int .i64 b, .int .i64 l, .int .i64 m, .int .i64 c, .int .i64 p, .string s] 34)) := by repeat (first | exact bA | with_reducible assumption | apply bB)
     replace hb00 := bl_call hb00 (Nat.le_refl _) hbA
     clear hbA
     generalize w.alloc (.cells #[.int .u8 k, .int .u8 f, .int .i64 b, .int .i64 l, .int .i64 m, .int .i64 c, .int .i64 p, .string s] 34) = w1 at hb00 hx ⊢
     obtain ⟨⟨x0, x1, x2, x3, x4, x5, x6, x7⟩, ⟨x8, x9, x10, x11, x12, x13, x14, x15⟩, x16⟩ := hx.get8
     go_wp2_with (first
      | (go_at_call 15; refine (HC.out _).mono ?_; rintro e w2 ⟨rfl, hb2⟩; replace hb00 := bl_call hb00 (Nat.le_refl _) hb2; replace hx := hx.call hb2; clear x0 x1 x2 x3 x4 x5 x6 x7 x8 x9 x10 x11 x12 x13 x14 x15 x16; clear hb2; obtain ⟨⟨x0, x1, x2, x3, x4, x5, x6, x7⟩, ⟨x8, x9, x10, x11, x12, x13, x14, x15⟩, x16⟩ := hx.get8))
     go_ret
     exact ⟨rfl, hb00⟩
 ·rw [if_neg hn]
  have hn1 : (n == 0) = false := by simpa using hn
  have hn2 : (n != 0) = true := by simpa using hn
  clear hn
  go_enter Try.func27, Try.ntmps27
  go_upto_region 1 with fail
  have hx := Vs.new w [.int .u8 k, .int .u8 f, .int .i64 b, .int .i64 l, .int .i64 m, .int .i64 c, .int .i64 p, .string s] #[.int .u8 k, .int .u8 f, .int .i64 b, .int .i64 l, .int .i64 m, .int .i64 c, .int .i64 p, .string s] 34 rfl
  have hbA : Below w.heap.size w (w.alloc (.cells #[.int .u8 k, .int .u8 f, .int .i64 b, .int .i64 l, .int .i64 m, .int .i64 c, .int .i64 p, .string s] 34)) := by repeat (first | exact bA | with_reducible assumption | apply bB)
  replace hb00 := bl_call hb00 (Nat.le_refl _) hbA
  clear hbA
  generalize w.alloc (.cells #[.int .u8 k, .int .u8 f, .int .i64 b, .int .i64 l, .int .i64 m, .int .i64 c, .int .i64 p, .string s] 34) = w1 at hb00 hx ⊢
  obtain ⟨⟨x0, x1, x2, x3, x4, x5, x6, x7⟩, ⟨x8, x9, x10, x11, x12, x13, x14, x15⟩, x16⟩ := hx.get8
  go_wp2_with (first
   | (go_at_call 15; refine (HC.out _).mono ?_; rintro e w2 ⟨rfl, hb2⟩; replace hb00 := bl_call hb00 (Nat.le_refl _) hb2; replace hx := hx.call hb2; clear x0 x1 x2 x3 x4 x5 x6 x7 x8 x9 x10 x11 x12 x13 x14 x15 x16; clear hb2; obtain ⟨⟨x0, x1, x2, x3, x4, x5, x6, x7⟩, ⟨x8, x9, x10, x11, x12, x13, x14, x15⟩, x16⟩ := hx.get8))
  go_ret
  exact ⟨rfl, hb00⟩

theorem load_report {w : World} {b : Nat} {p q r s : Value} (h : Vs w b [p, q, r, s]) : (loadVar 48 ⟨b, 0, none⟩).run Try.prog w = .ok (.agg #[p, q, r, s]) w := by
 obtain ⟨⟨c0, c1, c2, c3⟩, _⟩ := h.get4
 simp [loadVar, go_sem, c0, c1, c2, c3]
theorem load_draws {w : World} {b : Nat} {p q : Value} (h : V2 w b p q) : (loadVar 44 ⟨b, 0, none⟩).run Try.prog w = .ok (.agg #[p, q]) w := by
 simp [loadVar, go_sem, h.c0, h.c1]
theorem results_report {fn : Func} {p e : Tmp} {tmps : Array Value} {w : World} {b : Nat} {x y z u : Value} (hv : Vs w b [x, y, z, u]) (h : fn.results = #[.cell p 48, .tmp e]) (hp : tmps.getD p undef = .pointer (some ⟨b, 0, none⟩)) :
  (results fn tmps).run Try.prog w = .ok (.tuple #[.agg #[x, y, z, u], tmps.getD e undef]) w := by
 have hl := load_report hv
 rw [results_cell_tmp h, hp]
 simp only [asAddr, Sem.run_pure, Result.andThen, hl]
theorem results_draws {fn : Func} {p e : Tmp} {tmps : Array Value} {w : World} {b : Nat} {x y : Value} (hv : V2 w b x y) (h : fn.results = #[.cell p 44, .tmp e]) (hp : tmps.getD p undef = .pointer (some ⟨b, 0, none⟩)) :
  (results fn tmps).run Try.prog w = .ok (.tuple #[.agg #[x, y], tmps.getD e undef]) w := by
 have hl := load_draws hv
 rw [results_cell_tmp h, hp]
 simp only [asAddr, Sem.run_pure, Result.andThen, hl]

theorem Vs.set4 {w : World} {b : Nat} {p q r s : Value} (h : Vs w b [p, q, r, s]) (x0 x1 x2 x3 : Value) :
  Vs ((((w.setCell ⟨b, 0, none⟩ x0).setCell ⟨b, 1, none⟩ x1).setCell ⟨b, 2, none⟩ x2).setCell ⟨b, 3, none⟩ x3) b [x0, x1, x2, x3] :=
 (((h.put 0 (by simp) x0).put 1 (by simp) x1).put 2 (by simp) x2).put 3 (by simp) x3

section
variable {f : Nat} (hf : IsF f)
include hf

end

end Go.Proofs.Ytpggflcapfkgpaa

namespace Go.Proofs.Ytpggflcapfkgpaa
open Go.RowKit Fm
set_option linter.unusedVariables false
set_option maxRecDepth 100000

def cells8 (xs : List Int) : List Value := xs.map (.int .u8)
end Go.Proofs.Ytpggflcapfkgpaa

namespace Go.Proofs.Ytpggflcapfkgpaa
open Go.RowKit Fm Go.ChangeShapes Go.WideShapes Go.Deep
set_option linter.unusedVariables false
set_option maxRecDepth 100000

def RowB (w : World) (b o : Nat) (xs : List Int) : Prop := ∀ (i : Nat) (e : Int), xs[i]? = some e → w.cell? ⟨b, o + i, none⟩ = some (.int .u8 e)
theorem RowB.cells {w : World} {b o : Nat} {xs : List Int} (h : RowB w b o xs) (j : Nat) (u : Value) (hu : (cells8 xs)[j]? = some u) : w.cell? ((⟨b, o, none⟩ : Addr).add j) = some u := by
 have ha : (⟨b, o, none⟩ : Addr).add j = ⟨b, o + j, none⟩ := by
  unfold Addr.add
  split <;> simp_all
 rw [ha]
 unfold cells8 at hu
 rw [List.getElem?_map] at hu
 cases hx : xs[j]? with
 | none => rw [hx] at hu; cases hu
 | some e =>
  rw [hx] at hu
  injection hu with hu
  subst hu
  exact h j e hx

section
variable {f : Nat} (hf : IsF f)
include hf

omit hf in
theorem zip_esK (op : Int → Int → Int) (ok : Fin (Pm f) → Fin (Pm f) → Fin (Pm f)) (h : ∀ x y : Int, kI (Pm f) (op x y) = ok (kI (Pm f) x) (kI (Pm f) y)) (m : Int) (hm : m = (Pm f : Int)) :
  ∀ (a b : KL f), zipO op f m (esK a) (esK b) = esK (List.zipWith ok a b)
 | [], _ => rfl
 | _ :: _, [] => rfl
 | x :: a, y :: b => by
  have ih := zip_esK op ok h m hm a b
  unfold zipO at ih ⊢
  rw [esK_cons, esK_cons, List.zipWith_cons_cons, List.zipWith_cons_cons, esK_cons, ih]
  congr 1
  have h1 : nI (f : Int) (eK x).1 (eK x).2 = nI (f : Int) (lo x) (hi x) := rfl
  have h2 : nI (f : Int) (eK y).1 (eK y).2 = nI (f : Int) (lo y) (hi y) := rfl
  rw [h1, h2, hm, ← eK_kI, h, kI_nI, kI_nI, kL_lohi, kL_lohi]
def subL (a b : KL f) : KL f := List.zipWith (· - ·) a b
omit hf in
theorem zip_subL (a b : KL f) : zipO (· - ·) f (Pm f : Int) (esK a) (esK b) = esK (subL a b) := zip_esK _ _ (fun x y => kI_sub x y) _ rfl a b
omit hf in
theorem subL_length (a b : KL f) (h : a.length = b.length) : (subL a b).length = a.length := by unfold subL; rw [List.length_zipWith]; omega
omit hf in
theorem allIn_esK (l : KL f) : AllIn ((Pm f : Nat) : Int) (esK l) := by
 intro e he
 unfold esK at he
 obtain ⟨x, _, rfl⟩ := List.mem_map.1 he
 have h1 := val_lohi x
 have h2 := x.isLt
 show lo x + 18446744073709551616 * hi x < _
 omega

def RetSK (zs : KL f) (w : World) (e : Ending) (w' : World) : Prop :=
 ∃ g, e = .returned (.tuple #[.slice (some ⟨g, 0, none⟩) zs.length zs.length, .int .i64 0]) ∧ BlkE w' g (esK zs) ∧ w.heap.size ≤ g ∧ Below w.heap.size w w'

theorem tape_RetapeK (va vo vb : Value) (a o b : KL f) (w : World) (ha : SlK w w.heap.size va a) (ho : SlK w w.heap.size vo o) (hb : SlK w w.heap.size vb b) (hl : a.length = b.length) (hl2 : o.length = b.length) (hn : a.length ≤ 1000000) :
  Calls Try.prog 13 #[.int .u8 f, va, vo, vb] w (RetSK (subL o (subL a b)) w) :=
 (tape_Retape f _ (FM.ofN hf) va vo vb (esK a) (esK o) (esK b) w ha.toE ho.toE hb.toE (by rw [esK_length, esK_length, hl]) (by rw [esK_length, esK_length, hl2]) (by rw [esK_length]; omega) (allIn_esK a) (allIn_esK o) (allIn_esK b)).mono fun e w' ⟨g, he, hB, h1, h2⟩ => by
  rw [zip_subL, zip_subL] at he hB
  exact ⟨g, by rw [← esK_length]; exact he, hB, h1, h2⟩
end

end Go.Proofs.Ytpggflcapfkgpaa
