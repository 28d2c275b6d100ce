/-
 PkD, PkE, PkF, PkG, PkH, PkI, PkK: for CollectRight.
-/
import Derived.BigQuiet
import Derived.Deep.MidRow
import Derived.WalkLawsBesides
import Derived.Recover
import Derived.Test.YtbakkmfjamcbfaaUac
namespace Go.Proofs.Ytbakkmfjamcbfaa
open Go.RowKit Fm
set_option linter.unusedVariables false
set_option maxRecDepth 100000

theorem list16p {l : List Int} (h : l.length = 16) : ∃ b0 b1 b2 b3 b4 b5 b6 b7 b8 b9 ba bb bc bd be bf, l = [b0, b1, b2, b3, b4, b5, b6, b7, b8, b9, ba, bb, bc, bd, be, bf] := by
 match l, h with
 | [b0, b1, b2, b3, b4, b5, b6, b7, b8, b9, ba, bb, bc, bd, be, bf], _ => exact ⟨_, _, _, _, _, _, _, _, _, _, _, _, _, _, _, _, rfl⟩

set_option maxHeartbeats 4000000 in
theorem wide_Take (bs : List Int) (hl : bs.length = 16) (h8 : B8 bs) (w : World) :
  Calls Try.prog 125 #[.agg (cells8 bs).toArray] w fun e w' => ∃ (v0 v1 : Nat) (c : Int), e = .returned (.tuple #[.agg #[.int .u64 (v0 : Int), .int .u64 (v1 : Int)], .int .i64 c]) ∧ Below w.heap.size w w' ∧
   ((valB (bs.take 8) : Nat) + 18446744073709551616 * valB (bs.drop 8) < 340282366920938462946865773367900766209 ∧ c = 0 ∧ v0 = valB (bs.take 8) ∧ v1 = valB (bs.drop 8) ∨ ¬ valB (bs.take 8) + 18446744073709551616 * valB (bs.drop 8) < 340282366920938462946865773367900766209 ∧ c = 7 ∧ v0 = 0 ∧ v1 = 0) := by
 have hl1 : (bs.take 8).length = 8 := by rw [List.length_take]; omega
 have hl2 : (bs.drop 8).length = 8 := by rw [List.length_drop]; omega
 have hb1 : B8 (bs.take 8) := fun x hx => h8 x (List.mem_of_mem_take hx)
 have hb2 : B8 (bs.drop 8) := fun x hx => h8 x (List.mem_of_mem_drop hx)
 have hlt := valB_lt _ hb1
 rw [hl1] at hlt
 have hlt2 : valB (bs.take 8) < 18446744073709551616 := hlt
 have HIN := Lib.hid (wide_In ((valB (bs.take 8) : Nat) : Int) ((valB (bs.drop 8) : Nat) : Int) · (by omega) (by omega))
 have hidx : ∀ k : Nat, k < 16 → ∀ w, (Instr.index 23 (.agg (cells8 bs).toArray) (.int .i64 (k : Int))).run Try.prog w = .ok (.int .u8 (bs.getD k 0)) w := by
  obtain ⟨b0, b1, b2, b3, b4, b5, b6, b7, b8, b9, ba, bb, bc, bd, be, bf, rfl⟩ := list16p hl
  intro k hk w
  obtain rfl | rfl | rfl | rfl | rfl | rfl | rfl | rfl | rfl | rfl | rfl | rfl | rfl | rfl | rfl | rfl : k = 0 ∨ k = 1 ∨ k = 2 ∨ k = 3 ∨ k = 4 ∨ k = 5 ∨ k = 6 ∨ k = 7 ∨ k = 8 ∨ k = 9 ∨ k = 10 ∨ k = 11 ∨ k = 12 ∨ k = 13 ∨ k = 14 ∨ k = 15 := by omega
  all_goals kernel_rfl
 have HLD : Hid (∀ wz bk, Vs wz bk (cells8 bs) → (Instr.loadAt 23 (.pointer (some ⟨bk, 0, none⟩))).run Try.prog wz = .ok (.agg (cells8 bs).toArray) wz) := by
  obtain ⟨b0, b1, b2, b3, b4, b5, b6, b7, b8, b9, ba, bb, bc, bd, be, bf, rfl⟩ := list16p hl
  intro wz bk h
  exact load_b16 h
 have HIDX := Lib.hid hidx
 have HL := Lib.hid hl
 have H8 := Lib.hid h8
 have HA : Hid (∀ k, k < 8 → ∃ c, bs.getD k 0 = c ∧ (0 ≤ c ∧ c ≤ 255) ∧ valB ((bs.take 8).take k) < 2 ^ (8 * k) ∧ valB ((bs.take 8).take (k + 1)) = valB ((bs.take 8).take k) + c.toNat * 2 ^ (8 * k)) := fun k hk => by
  have hat : (bs.take 8)[k]? = some (bs.getD k 0) := by rw [List.getD_eq_getElem?_getD, List.getElem?_take_of_lt hk, List.getElem?_eq_getElem (by rw [HL.out]; omega)]; rfl
  refine ⟨_, rfl, hb1 _ (List.mem_of_getElem? hat), ?_, valB_take _ k _ hat⟩
  have ha := valB_lt ((bs.take 8).take k) (fun x hx => hb1 x (List.mem_of_mem_take hx))
  rwa [List.length_take, hl1, Nat.min_eq_left (by omega), show (256 : Nat) = 2 ^ 8 from rfl, ← Nat.pow_mul] at ha
 have HB : Hid (∀ k, k < 8 → ∃ c, bs.getD (8 + k) 0 = c ∧ (0 ≤ c ∧ c ≤ 255) ∧ valB ((bs.drop 8).take k) < 2 ^ (8 * k) ∧ valB ((bs.drop 8).take (k + 1)) = valB ((bs.drop 8).take k) + c.toNat * 2 ^ (8 * k)) := fun k hk => by
  have hat : (bs.drop 8)[k]? = some (bs.getD (8 + k) 0) := by rw [List.getD_eq_getElem?_getD, List.getElem?_drop, List.getElem?_eq_getElem (by rw [HL.out]; omega)]; rfl
  refine ⟨_, rfl, hb2 _ (List.mem_of_getElem? hat), ?_, valB_take _ k _ hat⟩
  have ha := valB_lt ((bs.drop 8).take k) (fun x hx => hb2 x (List.mem_of_mem_take hx))
  rwa [List.length_take, hl2, Nat.min_eq_left (by omega), show (256 : Nat) = 2 ^ 8 from rfl, ← Nat.pow_mul] at ha
 have HL1 := Lib.hid hl1
 have HL2 := Lib.hid hl2
 clear hlt hidx hl h8 hl1 hl2 hb1 hb2
 generalize hT : bs.take 8 = lo8 at *
 generalize hD : bs.drop 8 = hi8 at *
 clear hT hD
 go_enter Try.func125, Try.ntmps125
 go_upto_region 2 with fail
 have hx := ((Vs.new w (cells8 bs) ((cells8 bs).toArray) 23 rfl).alloc (.cells #[.int .u64 0, .int .u64 0] 99)).alloc (.cells #[.int .u64 0, .int .u64 0] 99)
 have hs := (V2.new (w.alloc (.cells (cells8 bs).toArray 23)) (.int .u64 0) (.int .u64 0) 99).alloc (.cells #[.int .u64 0, .int .u64 0] 99)
 have he := V2.new ((w.alloc (.cells (cells8 bs).toArray 23)).alloc (.cells #[.int .u64 0, .int .u64 0] 99)) (.int .u64 0) (.int .u64 0) 99
 simp only [World.size_alloc] at hs he
 have hb00 : Below w.heap.size w (((w.alloc (.cells (cells8 bs).toArray 23)).alloc (.cells #[.int .u64 0, .int .u64 0] 99)).alloc (.cells #[.int .u64 0, .int .u64 0] 99)) := by repeat (first | exact bA | with_reducible assumption | apply bB)
 have hszn : w.heap.size + 3 ≤ (((w.alloc (.cells (cells8 bs).toArray 23)).alloc (.cells #[.int .u64 0, .int .u64 0] 99)).alloc (.cells #[.int .u64 0, .int .u64 0] 99)).heap.size := by simp only [World.size_alloc]; omega
 generalize (((w.alloc (.cells (cells8 bs).toArray 23)).alloc (.cells #[.int .u64 0, .int .u64 0] 99)).alloc (.cells #[.int .u64 0, .int .u64 0] 99)) = w1 at hx hs he hb00 hszn ⊢
 have hs0 := hs
 have he0 := he
 clear hs he
 refine wp_region_lit ?_
 refine wpList_valD (some 7) rfl rfl (exec_load rfl (by kernel_rfl) (HLD.out _ _ hx)) ?_
 simp only [Zp, Zq, Zr, Zs]
 refine wpList_valD (some 8) rfl rfl (by (go_simp; first | with_reducible rfl | exact ⟨rfl, rfl⟩ | (trace_state; fail))) ?_
 simp only [Zp, Zq, Zr, Zs]
 clear hx HLD
 go_wp2_with fail
 go_loopw [8] (fun v8 wr => ∃ k : Nat, k ≤ 16 ∧ v8 = .int .i64 k ∧ Below w.heap.size w wr ∧ V2 wr (w.heap.size + 1) (.int .u64 0) (.int .u64 0) ∧ V2 wr (w.heap.size + 1 + 1) (.int .u64 ((valB (lo8.take k) : Nat) : Int)) (.int .u64 ((valB (hi8.take (k - 8)) : Nat) : Int))) (fun v8 _ => 16 - (intOf v8).toNat)
 case atStart => exact ⟨0, by omega, rfl, hb00, hs0, he0⟩
 case round =>
  clear hb00 hs0 he0
  obtain ⟨k, hk, rfl, hbw, hsv, hev⟩ := hrel
  by_cases hlt : k < 16
  ·have hi := HIDX.out k hlt
   by_cases h8 : k < 8
   ·obtain ⟨c, hc, ⟨r0, r1⟩, ha, hv⟩ := HA.out k h8
    rw [hc] at hi
    rw [show k - 8 = 0 by omega] at hev
    have HV := Lib.hid hv
    have HK0 : Hid (k + 1 - 8 = 0) := by show k + 1 - 8 = 0; omega
    have HH8 : Hid (k < 8) := Lib.hid h8
    generalize valB (lo8.take k) = a at *
    obtain ⟨s, hs⟩ : ∃ s, 8 * k = s := ⟨_, rfl⟩
    rw [hs] at ha HV
    have hsi : (8 : Int) * (k : Int) = (s : Int) := by omega
    have hs64 : s ≤ 56 := by omega
    have hs0 : (0 : Int) ≤ (s : Int) := by omega
    have hor := or_byte a s c ha ⟨r0, r1⟩ hs64
    have hw8 : IntKind.i64.wrap (s : Int) = (s : Int) := IntWalk.i64_in _ (by omega)
    obtain ⟨d, hd⟩ : ∃ d, a + c.toNat * 2 ^ s = d := ⟨_, rfl⟩
    rw [hd] at hor HV
    have hk0 : (0 : Int) ≤ (k : Int) := by omega
    have hq1 : (k : Int) / 8 = 0 := by omega
    have hq2 : (k : Int).tdiv 8 = 0 := by rw [Int.tdiv_eq_ediv_of_nonneg hk0]; exact hq1
    have hm1 : (k : Int) % 8 = (k : Int) := by omega
    have hm2 : (k : Int).tmod 8 = (k : Int) := by rw [Int.tmod_eq_emod_of_nonneg hk0]; exact hm1
    have hw0 : IntKind.i64.wrap 0 = 0 := rfl
    have hwk : IntKind.i64.wrap (k : Int) = (k : Int) := IntWalk.i64_in _ (by omega)
    have hwc : IntKind.u64.wrap c = c := IntWalk.u64_in _ (by omega)
    have HSV := Lib.hid hsv
    have HBW := Lib.hid hbw
    have HEV := Lib.hid hev
    obtain ⟨ev0, ev1, ev2, ev3, ev4⟩ := V2.mk hev.c0 hev.c1 hev.f0 hev.f1 hev.lt
    clear hs hd ha hc hv h8 hev
    go_upto_region 5 with fail
    refine region_B (n := 12) (m := 13) (f := 12) (by kernel_rfl) (by kernel_rfl) rfl ?_
    refine WpH.vD 0 (some 12) ?_ rfl rfl (by kernel_rfl) (fun _ _ _ h => h) rfl (fun wz hwz => ?_) ?_
    rotate_left
    ·go_simp; try (with_reducible rfl)
    simp only [Zp, Zq, Zr, Zs]
    refine WpH.vD 1 (some 13) ?_ rfl rfl (by kernel_rfl) (fun _ _ _ h => h) rfl (fun wz hwz => ?_) ?_
    rotate_left
    ·go_simp; try (with_reducible rfl)
    simp only [Zp, Zq, Zr, Zs]
    refine WpH.vD 2 (some 14) ?_ rfl rfl (by kernel_rfl) (fun _ _ _ h => h) rfl (fun wz hwz => ?_) ?_
    rotate_left
    ·go_simp; try (with_reducible rfl)
    simp only [Zp, Zq, Zr, Zs]
    refine WpH.vD 3 (some 15) ?_ rfl rfl (by kernel_rfl) (fun _ _ _ h => h) rfl (fun wz hwz => ?_) ?_
    rotate_left
    ·(obtain ⟨hcz, hfz⟩ := bcell hwz; go_simp; try (with_reducible rfl))
    simp only [Zp, Zq, Zr, Zs]
    refine WpH.vD 4 (some 16) ?_ rfl rfl (by kernel_rfl) (fun _ _ _ h => h) rfl (fun wz hwz => ?_) ?_
    rotate_left
    ·go_simp; try (with_reducible rfl)
    simp only [Zp, Zq, Zr, Zs]
    refine WpH.vD 5 (some 17) ?_ rfl rfl (by kernel_rfl) (fun _ _ _ h => h) rfl (fun wz hwz => ?_) ?_
    rotate_left
    ·go_simp; try (with_reducible rfl)
    simp only [Zp, Zq, Zr, Zs]
    refine WpH.vD 6 (some 18) ?_ rfl rfl (by kernel_rfl) (fun _ _ _ h => h) rfl (fun wz hwz => ?_) ?_
    rotate_left
    ·go_simp; try (with_reducible rfl)
    simp only [Zp, Zq, Zr, Zs]
    refine WpH.vD 7 (some 19) ?_ rfl rfl (by kernel_rfl) (fun _ _ _ h => h) rfl (fun wz hwz => ?_) ?_
    rotate_left
    ·go_simp; try (with_reducible rfl)
    simp only [Zp, Zq, Zr, Zs]
    refine WpH.vD 8 (some 20) ?_ rfl rfl (by kernel_rfl) (fun _ _ _ h => h) rfl (fun wz hwz => ?_) ?_
    rotate_left
    ·go_simp; try (with_reducible rfl)
    simp only [Zp, Zq, Zr, Zs]
    refine WpH.vD 9 (some 21) ?_ rfl rfl (by kernel_rfl) (fun _ _ _ h => h) rfl (fun wz hwz => ?_) ?_
    rotate_left
    ·go_simp; try (with_reducible rfl)
    simp only [Zp, Zq, Zr, Zs]
    refine WpH.vD 10 (some 22) ?_ rfl rfl (by kernel_rfl) (fun _ _ _ h => h) rfl (fun wz hwz => ?_) ?_
    rotate_left
    ·go_simp; try (with_reducible rfl)
    simp only [Zp, Zq, Zr, Zs]
    refine WpH.vD 11 (some 23) ?_ rfl rfl (by kernel_rfl) (fun _ _ _ h => h) rfl (fun wz hwz => ?_) ?_
    rotate_left
    ·go_simp; try (with_reducible rfl)
    simp only [Zp, Zq, Zr, Zs]
    refine WpH.doneB (by kernel_rfl) (fun w4 hw4 => ?_)
    (try simp only [List.drop_succ_cons]); (try simp only [List.drop_zero]); (try simp only [Nat.reduceSub]); (try simp only [List.take_succ_cons]); (try simp only [List.take_zero])
    have hev4 := HEV.out.call hw4
    have HEV5 := Lib.hid ((Vs.of2 hev4).put 0 (by simp) (.int .u64 (d : Int))).to2
    have HSV5 := Lib.hid ((HSV.out.call hw4).setOther (p := ⟨w.heap.size + 1 + 1, 0, none⟩) (by dsimp only; omega) (.int .u64 (d : Int)))
    have HBW5 := Lib.hid (bl_set (p := ⟨w.heap.size + 1 + 1, 0, none⟩) (bl_call HBW.out (Nat.le_refl _) hw4) (by dsimp only; omega) (.int .u64 (d : Int)))
    clear ev0 ev1 ev2 ev3 ev4 hw4 HEV HSV HBW
    obtain ⟨ev40, ev41, ev42, ev43, ev44⟩ := V2.mk hev4.c0 hev4.c1 hev4.f0 hev4.f1 hev4.lt
    go_wp2_with fail
    go_roundw
    case rel => exact ⟨k + 1, by omega, by go_num, HBW5.out, HSV5.out, by rw [HK0.out, HV.out]; exact HEV5.out⟩
    case measure => simp [intOf]; omega
   ·obtain ⟨c, hc, ⟨r0, r1⟩, ha, hv⟩ := HB.out (k - 8) (by omega)
    rw [show 8 + (k - 8) = k by omega] at hc
    rw [hc] at hi
    rw [List.take_of_length_le (by rw [HL1.out]; omega)] at hev
    have HV := Lib.hid hv
    have HK0 : Hid (k + 1 - 8 = k - 8 + 1) := by show k + 1 - 8 = k - 8 + 1; omega
    have HH8 : Hid (8 ≤ k) := Lib.hid (by omega)
    generalize valB (hi8.take (k - 8)) = a at *
    obtain ⟨s, hs⟩ : ∃ s, 8 * (k - 8) = s := ⟨_, rfl⟩
    rw [hs] at ha HV
    obtain ⟨r, hr⟩ : ∃ r : Nat, k - 8 = r := ⟨_, rfl⟩
    have hsi : (8 : Int) * (r : Int) = (s : Int) := by omega
    have hs64 : s ≤ 56 := by omega
    have hs0 : (0 : Int) ≤ (s : Int) := by omega
    have hor := or_byte a s c ha ⟨r0, r1⟩ hs64
    have hw8 : IntKind.i64.wrap (s : Int) = (s : Int) := IntWalk.i64_in _ (by omega)
    obtain ⟨d, hd⟩ : ∃ d, a + c.toNat * 2 ^ s = d := ⟨_, rfl⟩
    rw [hd] at hor HV
    have hk0 : (0 : Int) ≤ (k : Int) := by omega
    have hq1 : (k : Int) / 8 = 1 := by omega
    have hq2 : (k : Int).tdiv 8 = 1 := by rw [Int.tdiv_eq_ediv_of_nonneg hk0]; exact hq1
    have hm1 : (k : Int) % 8 = (r : Int) := by omega
    have hm2 : (k : Int).tmod 8 = (r : Int) := by rw [Int.tmod_eq_emod_of_nonneg hk0]; exact hm1
    have hw0 : IntKind.i64.wrap 1 = 1 := rfl
    have hwk : IntKind.i64.wrap (r : Int) = (r : Int) := IntWalk.i64_in _ (by omega)
    have hwc : IntKind.u64.wrap c = c := IntWalk.u64_in _ (by omega)
    have HSV := Lib.hid hsv
    have HBW := Lib.hid hbw
    have HEV := Lib.hid hev
    obtain ⟨ev0, ev1, ev2, ev3, ev4⟩ := V2.mk hev.c0 hev.c1 hev.f0 hev.f1 hev.lt
    clear hs hd ha hc hv hr h8 hev
    go_upto_region 5 with fail
    refine region_B (n := 12) (m := 13) (f := 12) (by kernel_rfl) (by kernel_rfl) rfl ?_
    refine WpH.vD 0 (some 12) ?_ rfl rfl (by kernel_rfl) (fun _ _ _ h => h) rfl (fun wz hwz => ?_) ?_
    rotate_left
    ·go_simp; try (with_reducible rfl)
    simp only [Zp, Zq, Zr, Zs]
    refine WpH.vD 1 (some 13) ?_ rfl rfl (by kernel_rfl) (fun _ _ _ h => h) rfl (fun wz hwz => ?_) ?_
    rotate_left
    ·go_simp; try (with_reducible rfl)
    simp only [Zp, Zq, Zr, Zs]
    refine WpH.vD 2 (some 14) ?_ rfl rfl (by kernel_rfl) (fun _ _ _ h => h) rfl (fun wz hwz => ?_) ?_
    rotate_left
    ·go_simp; try (with_reducible rfl)
    simp only [Zp, Zq, Zr, Zs]
    refine WpH.vD 3 (some 15) ?_ rfl rfl (by kernel_rfl) (fun _ _ _ h => h) rfl (fun wz hwz => ?_) ?_
    rotate_left
    ·(obtain ⟨hcz, hfz⟩ := bcell hwz; go_simp; try (with_reducible rfl))
    simp only [Zp, Zq, Zr, Zs]
    refine WpH.vD 4 (some 16) ?_ rfl rfl (by kernel_rfl) (fun _ _ _ h => h) rfl (fun wz hwz => ?_) ?_
    rotate_left
    ·go_simp; try (with_reducible rfl)
    simp only [Zp, Zq, Zr, Zs]
    refine WpH.vD 5 (some 17) ?_ rfl rfl (by kernel_rfl) (fun _ _ _ h => h) rfl (fun wz hwz => ?_) ?_
    rotate_left
    ·go_simp; try (with_reducible rfl)
    simp only [Zp, Zq, Zr, Zs]
    refine WpH.vD 6 (some 18) ?_ rfl rfl (by kernel_rfl) (fun _ _ _ h => h) rfl (fun wz hwz => ?_) ?_
    rotate_left
    ·go_simp; try (with_reducible rfl)
    simp only [Zp, Zq, Zr, Zs]
    refine WpH.vD 7 (some 19) ?_ rfl rfl (by kernel_rfl) (fun _ _ _ h => h) rfl (fun wz hwz => ?_) ?_
    rotate_left
    ·go_simp; try (with_reducible rfl)
    simp only [Zp, Zq, Zr, Zs]
    refine WpH.vD 8 (some 20) ?_ rfl rfl (by kernel_rfl) (fun _ _ _ h => h) rfl (fun wz hwz => ?_) ?_
    rotate_left
    ·go_simp; try (with_reducible rfl)
    simp only [Zp, Zq, Zr, Zs]
    refine WpH.vD 9 (some 21) ?_ rfl rfl (by kernel_rfl) (fun _ _ _ h => h) rfl (fun wz hwz => ?_) ?_
    rotate_left
    ·go_simp; try (with_reducible rfl)
    simp only [Zp, Zq, Zr, Zs]
    refine WpH.vD 10 (some 22) ?_ rfl rfl (by kernel_rfl) (fun _ _ _ h => h) rfl (fun wz hwz => ?_) ?_
    rotate_left
    ·go_simp; try (with_reducible rfl)
    simp only [Zp, Zq, Zr, Zs]
    refine WpH.vD 11 (some 23) ?_ rfl rfl (by kernel_rfl) (fun _ _ _ h => h) rfl (fun wz hwz => ?_) ?_
    rotate_left
    ·go_simp; try (with_reducible rfl)
    simp only [Zp, Zq, Zr, Zs]
    refine WpH.doneB (by kernel_rfl) (fun w4 hw4 => ?_)
    (try simp only [List.drop_succ_cons]); (try simp only [List.drop_zero]); (try simp only [Nat.reduceSub]); (try simp only [List.take_succ_cons]); (try simp only [List.take_zero])
    have hev4 := HEV.out.call hw4
    have HEV5 := Lib.hid ((Vs.of2 hev4).put 1 (by simp) (.int .u64 (d : Int))).to2
    have HSV5 := Lib.hid ((HSV.out.call hw4).setOther (p := ⟨w.heap.size + 1 + 1, 1, none⟩) (by dsimp only; omega) (.int .u64 (d : Int)))
    have HBW5 := Lib.hid (bl_set (p := ⟨w.heap.size + 1 + 1, 1, none⟩) (bl_call HBW.out (Nat.le_refl _) hw4) (by dsimp only; omega) (.int .u64 (d : Int)))
    clear ev0 ev1 ev2 ev3 ev4 hw4 HEV HSV HBW
    obtain ⟨ev40, ev41, ev42, ev43, ev44⟩ := V2.mk hev4.c0 hev4.c1 hev4.f0 hev4.f1 hev4.lt
    go_wp2_with fail
    go_roundw
    case rel => exact ⟨k + 1, by omega, by go_num, HBW5.out, HSV5.out, by rw [HK0.out, HV.out, List.take_of_length_le (by rw [HL1.out]; have := HH8.out; omega)]; exact HEV5.out⟩
    case measure => simp [intOf]; omega
  ·obtain rfl : k = 16 := by omega
   rw [List.take_of_length_le (by rw [HL1.out]; omega), List.take_of_length_le (by rw [HL2.out]; omega)] at hev
   by_cases hp : valB lo8 + 18446744073709551616 * valB hi8 < 340282366920938462946865773367900766209
   ·have hd : decide (((valB lo8 : Nat) : Int) + 18446744073709551616 * ((valB hi8 : Nat) : Int) < 340282366920938462946865773367900766209) = true := decide_eq_true (by omega)
    rw [hd] at HIN
    have HP := Lib.hid hp
    have hb00 := hbw
    clear hp hd hlt2 hbw
    obtain ⟨sv0, sv1, sv2, sv3, sv4⟩ := V2.mk hsv.c0 hsv.c1 hsv.f0 hsv.f1 hsv.lt
    obtain ⟨ev0, ev1, ev2, ev3, ev4⟩ := V2.mk hev.c0 hev.c1 hev.f0 hev.f1 hev.lt
    go_wp2_with (first
     | (go_at_call 121; refine (HIN.out _).mono ?_; rintro e w3 ⟨rfl, hb3⟩; replace hb00 := bl_call hb00 (Nat.le_refl _) hb3; replace hsv := hsv.call hb3; replace hev := hev.call hb3; clear sv0 sv1 sv2 sv3 sv4 ev0 ev1 ev2 ev3 ev4; clear hb3; obtain ⟨sv0, sv1, sv2, sv3, sv4⟩ := V2.mk hsv.c0 hsv.c1 hsv.f0 hsv.f1 hsv.lt; obtain ⟨ev0, ev1, ev2, ev3, ev4⟩ := V2.mk hev.c0 hev.c1 hev.f0 hev.f1 hev.lt))
    refine bodyPost_ret (results_v2_tmp (b := w.heap.size + 1) (u := .int .u64 ((valB lo8 : Nat) : Int)) (v := .int .u64 ((valB hi8 : Nat) : Int)) ?_ rfl rfl) rfl ?_
    ·exact V2.set hsv _ _
    ·exact ⟨_, _, _, rfl, by repeat (first | exact bA | with_reducible assumption | apply bB | (refine bC ?_ (by dsimp only; omega)) | apply bD | apply bE | (refine bF ?_ (by assumption))), .inl ⟨HP.out, rfl, rfl, rfl⟩⟩
   ·have hd : decide (((valB lo8 : Nat) : Int) + 18446744073709551616 * ((valB hi8 : Nat) : Int) < 340282366920938462946865773367900766209) = false := decide_eq_false (by omega)
    rw [hd] at HIN
    have HP := Lib.hid hp
    have hb00 := hbw
    clear hp hd hlt2 hbw
    obtain ⟨sv0, sv1, sv2, sv3, sv4⟩ := V2.mk hsv.c0 hsv.c1 hsv.f0 hsv.f1 hsv.lt
    obtain ⟨ev0, ev1, ev2, ev3, ev4⟩ := V2.mk hev.c0 hev.c1 hev.f0 hev.f1 hev.lt
    go_wp2_with (first
     | (go_at_call 121; refine (HIN.out _).mono ?_; rintro e w3 ⟨rfl, hb3⟩; replace hb00 := bl_call hb00 (Nat.le_refl _) hb3; replace hsv := hsv.call hb3; replace hev := hev.call hb3; clear sv0 sv1 sv2 sv3 sv4 ev0 ev1 ev2 ev3 ev4; clear hb3; obtain ⟨sv0, sv1, sv2, sv3, sv4⟩ := V2.mk hsv.c0 hsv.c1 hsv.f0 hsv.f1 hsv.lt; obtain ⟨ev0, ev1, ev2, ev3, ev4⟩ := V2.mk hev.c0 hev.c1 hev.f0 hev.f1 hev.lt))
    refine bodyPost_ret (results_v2_tmp (b := w.heap.size + 1) (u := .int .u64 ((0 : Nat) : Int)) (v := .int .u64 ((0 : Nat) : Int)) ?_ rfl rfl) rfl ?_
    ·first | exact V2.set hsv _ _ | exact hsv
    ·exact ⟨0, 0, _, rfl, by repeat (first | exact bA | with_reducible assumption | apply bB | (refine bC ?_ (by dsimp only; omega)) | apply bD | apply bE | (refine bF ?_ (by assumption))), .inr ⟨HP.out, rfl, rfl, rfl⟩⟩

end Go.Proofs.Ytbakkmfjamcbfaa

namespace Go.Proofs.Ytbakkmfjamcbfaa
open Go.RowKit Fm
set_option linter.unusedVariables false
set_option maxRecDepth 100000

theorem bytesN_cons (b v n : Nat) (hb : b < 256) : bytesN (b + 256 * v) (n + 1) = (b : Int) :: bytesN v n := by
 refine List.ext_getElem? fun i => ?_
 by_cases hi : i < n + 1
 ·rw [bytesN_at _ _ _ hi]
  match i, hi with
  | 0, _ =>
   show some ((byteN (b + 256 * v) 0 : Nat) : Int) = some (b : Int)
   rw [byteN_256, Nat.pow_zero, Nat.div_one, Nat.add_mul_mod_self_left, Nat.mod_eq_of_lt hb]
  | i + 1, hi =>
   rw [List.getElem?_cons_succ, bytesN_at _ _ _ (by omega), byteN_256, byteN_256, Nat.pow_succ, Nat.mul_comm (256 ^ i), ← Nat.div_div_eq_div_mul, Nat.add_mul_div_left _ _ (by omega), Nat.div_eq_of_lt hb, Nat.zero_add]
 ·rw [List.getElem?_eq_none (by rw [bytesN_length]; omega), List.getElem?_eq_none (by rw [List.length_cons, bytesN_length]; omega)]
theorem bytesN_valB : ∀ (l : List Int), B8 l → bytesN (valB l) l.length = l := by
 intro l
 induction l with
 | nil => intro _; rfl
 | cons a l ih =>
  intro h
  have h2 := h a (List.mem_cons_self ..)
  show bytesN (a.toNat + 256 * valB l) (l.length + 1) = a :: l
  rw [bytesN_cons _ _ _ (by omega), ih fun x hx => h x (List.mem_cons_of_mem _ hx)]
  congr 1
  omega

def TkE {f : Nat} (bs : List Int) (v : Value) (c : Int) : Prop := (∃ x : Fin (Pm f), bytesK x = bs ∧ v = vK x ∧ c = 0) ∨ ((∀ x : Fin (Pm f), bytesK x ≠ bs) ∧ v = .agg #[.int .u64 0, .int .u64 0] ∧ c = 7)

theorem tkE_gold (bs : List Int) (hl : bs.length = 8) (h8 : B8 bs) (v : Nat) (c : Int) (h : valB bs < 18446744069414584321 ∧ c = 0 ∧ v = valB bs ∨ ¬ valB bs < 18446744069414584321 ∧ c = 7 ∧ v = 0) : TkE (f := 1) bs (.agg #[.int .u64 (v : Int), .int .u64 0]) c := by
 have hp : Pm 1 = 18446744069414584321 := rfl
 rcases h with ⟨h1, rfl, rfl⟩ | ⟨h1, rfl, rfl⟩
 ·have hlo : ∀ x : Fin (Pm 1), x.val = valB bs → lo x = (valB bs : Int) ∧ hi x = 0 := fun x hx => by
   have h2 := val_lohi x
   have h3 := lo_0 x
   have h4 := lo_1 x
   have h5 := hi_0 x
   have h6 := x.isLt
   omega
  obtain ⟨k1, k2⟩ := hlo ⟨valB bs, by omega⟩ rfl
  refine .inl ⟨⟨valB bs, by omega⟩, ?_, ?_, rfl⟩
  ·unfold bytesK
   rw [if_pos rfl, k1, Int.toNat_natCast, ← hl, bytesN_valB bs h8]
  ·unfold vK
   rw [k1, k2]
 ·refine .inr ⟨fun x hx => h1 ?_, rfl, rfl⟩
  have h2 := val_lohi x
  have h3 := lo_0 x
  have h4 := lo_1 x
  have h5 := hi_0 x
  have h6 := x.isLt
  rw [← hx]
  unfold bytesK
  rw [if_pos rfl, valB_bytesN 8 _ (by show (lo x).toNat < 18446744073709551616; omega)]
  omega
theorem tkE_wide (bs : List Int) (hl : bs.length = 16) (h8 : B8 bs) (v0 v1 : Nat) (c : Int) (h : valB (bs.take 8) + 18446744073709551616 * valB (bs.drop 8) < 340282366920938462946865773367900766209 ∧ c = 0 ∧ v0 = valB (bs.take 8) ∧ v1 = valB (bs.drop 8) ∨ ¬ valB (bs.take 8) + 18446744073709551616 * valB (bs.drop 8) < 340282366920938462946865773367900766209 ∧ c = 7 ∧ v0 = 0 ∧ v1 = 0) : TkE (f := 2) bs (.agg #[.int .u64 (v0 : Int), .int .u64 (v1 : Int)]) c := by
 have hp : Pm 2 = 340282366920938462946865773367900766209 := rfl
 have hl1 : (bs.take 8).length = 8 := by rw [List.length_take]; omega
 have hl2 : (bs.drop 8).length = 8 := by rw [List.length_drop]; omega
 have hb1 : B8 (bs.take 8) := fun x hx => h8 x (List.mem_of_mem_take hx)
 have hb2 : B8 (bs.drop 8) := fun x hx => h8 x (List.mem_of_mem_drop hx)
 have hlt := valB_lt _ hb1
 rw [hl1] at hlt
 have hlt1 : valB (bs.take 8) < 18446744073709551616 := hlt
 have e1 := bytesN_valB _ hb1
 have e2 := bytesN_valB _ hb2
 rw [hl1] at e1
 rw [hl2] at e2
 rcases h with ⟨h1, rfl, rfl, rfl⟩ | ⟨h1, rfl, rfl, rfl⟩
 ·have hlo : ∀ x : Fin (Pm 2), x.val = valB (bs.take 8) + 18446744073709551616 * valB (bs.drop 8) → lo x = (valB (bs.take 8) : Int) ∧ hi x = (valB (bs.drop 8) : Int) := fun x hx => by
   have h2 := val_lohi x
   have h3 := lo_0 x
   have h4 := lo_1 x
   have h5 := hi_0 x
   have h6 := x.isLt
   omega
  obtain ⟨k1, k2⟩ := hlo ⟨valB (bs.take 8) + 18446744073709551616 * valB (bs.drop 8), by omega⟩ rfl
  refine .inl ⟨⟨valB (bs.take 8) + 18446744073709551616 * valB (bs.drop 8), by omega⟩, ?_, ?_, rfl⟩
  ·unfold bytesK
   rw [if_neg (by decide), k1, k2, Int.toNat_natCast, Int.toNat_natCast, e1, e2, List.take_append_drop]
  ·unfold vK
   rw [k1, k2]
 ·refine .inr ⟨fun x hx => h1 ?_, rfl, rfl⟩
  have h2 := val_lohi x
  have h3 := lo_0 x
  have h4 := lo_1 x
  have h5 := hi_0 x
  have h6 := x.isLt
  have hb : bytesK x = bytesN (lo x).toNat 8 ++ bytesN (hi x).toNat 8 := by
   unfold bytesK
   rw [if_neg (by decide)]
  rw [hb] at hx
  have t1 : bs.take 8 = bytesN (lo x).toNat 8 := by rw [← hx, List.take_append_of_le_length (by rw [bytesN_length]; exact Nat.le_refl _), List.take_of_length_le (by rw [bytesN_length]; exact Nat.le_refl _)]
  have t2 : bs.drop 8 = bytesN (hi x).toNat 8 := by
   have e := List.drop_left (l₁ := bytesN (lo x).toNat 8) (l₂ := bytesN (hi x).toNat 8)
   rw [bytesN_length, hx] at e
   exact e
  rw [t1, t2, valB_bytesN 8 _ (by show (lo x).toNat < 18446744073709551616; omega), valB_bytesN 8 _ (by show (hi x).toNat < 18446744073709551616; omega)]
  omega

theorem field_Size {f : Nat} (hf : IsF f) (w : World) : Calls Try.prog 81 #[.int .u8 f] w fun e w' => e = .returned (.int .i64 (sizeK f : Nat)) ∧ w = w' := by
 rcases hf.or with rfl | rfl
 ·go_enter Try.func81, Try.ntmps81
  go_wp2_with fail
  go_ret
  exact ⟨rfl, rfl⟩
 ·go_enter Try.func81, Try.ntmps81
  go_wp2_with fail
  go_ret
  exact ⟨rfl, rfl⟩

def RetTk (f : Nat) (bs : List Int) (w : World) (e : Ending) (w' : World) : Prop := ∃ (v : Value) (c : Int), e = .returned (.tuple #[v, .int .i64 c]) ∧ TkE (f := f) bs v c ∧ Below w.heap.size w w'

set_option maxHeartbeats 4000000 in
theorem field_Take1 (bs : List Int) (hl : bs.length = 8) (h8 : B8 bs) (b o c : Nat) (w : World) (hr : RowB w b o bs) (hlt : b < w.heap.size) :
  Calls Try.prog 110 #[.int .u8 1, .slice (some ⟨b, o, none⟩) 8 c] w (RetTk 1 bs w) := by
 have HV := Lib.hid (field_Valid 1)
 have HS := Lib.hid (field_Size (f := 1) ⟨.inl rfl⟩)
 have HG := Lib.hid (gold_Take bs hl h8)
 have HL := Lib.hid (show (Try.prog.info? 205).map (·.size) = some (cells8 bs).length by rw [cells8_length, hl]; kernel_rfl)
 have HR := Lib.hid hr
 have HT := Lib.hid (tkE_gold bs hl h8)
 clear hl h8 hr
 go_enter Try.func110, Try.ntmps110
 go_upto_region 1 with fail
 have he := V2.new w (.int .u64 0) (.int .u64 0) 99
 have hb00 : Below w.heap.size w (w.alloc (.cells #[.int .u64 0, .int .u64 0] 99)) := by repeat (first | exact bA | with_reducible assumption | apply bB)
 have hszn : w.heap.size + 1 ≤ (w.alloc (.cells #[.int .u64 0, .int .u64 0] 99)).heap.size := by simp only [World.size_alloc]; omega
 generalize (w.alloc (.cells #[.int .u64 0, .int .u64 0] 99)) = w1 at he hb00 hszn ⊢
 obtain ⟨e0, e1, e2, e3, e4⟩ := V2.mk he.c0 he.c1 he.f0 he.f1 he.lt
 have hRR := HR.out.belowB hb00 hlt
 have hra : w1.rangeAt b o (cells8 bs) := fun j v hj => by
  unfold cells8 at hj
  rw [List.getElem?_map] at hj
  cases hq : bs[j]? with
  | none => rw [hq] at hj; cases hj
  | some x =>
   rw [hq] at hj
   injection hj with hj
   subst hj
   exact hRR j x hq
 have hld := run_loadAt_mid w1 b o 205 (cells8 bs) _ hra Try.underlying205 rfl HL.out
 go_upto_region 6 with (first
  | (go_at_call 97; refine (HV.out _).mono ?_; rintro e w5 ⟨rfl, rfl⟩)
  | (go_at_call 81; refine (HS.out _).mono ?_; rintro e w5 ⟨rfl, rfl⟩))
 have hat : ∀ wz, (Instr.arrayAt 205 (.slice (some ⟨b, o, none⟩) 8 c)).run Try.prog wz = .ok (.pointer (some ⟨b, o, none⟩)) wz := fun wz => by kernel_rfl
 refine wp_region_lit ?_
 refine wpList_valD (some 21) rfl rfl (by (go_simp; first | with_reducible rfl | exact ⟨rfl, rfl⟩ | (trace_state; fail))) ?_
 simp only [Zp, Zq, Zr, Zs]
 refine wpList_valD (some 22) rfl rfl (by (have hz := hat w1; go_simp; first | with_reducible rfl | exact ⟨rfl, rfl⟩ | (trace_state; fail))) ?_
 simp only [Zp, Zq, Zr, Zs]
 refine wpList_valD (some 23) rfl rfl (exec_load rfl (by kernel_rfl) hld) ?_
 simp only [Zp, Zq, Zr, Zs]
 refine wpList_callD (some 24) rfl rfl 124 _ ?_ (HG.out _) ?_
 ·go_simp; try (with_reducible rfl)
 rintro e w5 ⟨v, cc, rfl, hb5, hv5⟩
 refine ⟨_, rfl, ?_⟩
 simp only [Zp, Zq, Zr, Zs]
 have HQ5 := Lib.hid hv5
 clear hv5 e0 e1 e2 e3 e4
 replace hb00 := bl_call hb00 (Nat.le_refl _) hb5
 replace he := he.call hb5
 refine wpList_valD (some 20) rfl rfl (by (go_simp; first | with_reducible rfl | exact ⟨rfl, rfl⟩ | (trace_state; fail))) ?_
 simp only [Zp, Zq, Zr, Zs]
 refine wpList_valD (some 25) rfl rfl (by (go_simp; first | with_reducible rfl | exact ⟨rfl, rfl⟩ | (trace_state; fail))) ?_
 simp only [Zp, Zq, Zr, Zs]
 refine wpList_valD (some 26) rfl rfl (by (go_simp; first | with_reducible rfl | exact ⟨rfl, rfl⟩ | (trace_state; fail))) ?_
 simp only [Zp, Zq, Zr, Zs]
 refine wpList_valD (some 6) rfl rfl (by (go_simp; first | with_reducible rfl | exact ⟨rfl, rfl⟩ | (trace_state; fail))) ?_
 simp only [Zp, Zq, Zr, Zs]
 refine wpList_valD (some 7) rfl rfl (by (go_simp; first | with_reducible rfl | exact ⟨rfl, rfl⟩ | (trace_state; fail))) ?_
 simp only [Zp, Zq, Zr, Zs]
 obtain ⟨e0, e1, e2, e3, e4⟩ := V2.mk he.c0 he.c1 he.f0 he.f1 he.lt
 have hbz := Lib.hid hb00
 clear hRR hra hld hat hb5
 go_wp2_with fail
 exact bodyPost_ret (results_v2_tmp (b := w.heap.size) (u := .int .u64 (v : Int)) (v := .int .u64 0) (V2.set he _ _) rfl rfl) rfl ⟨_, _, rfl, HT.out v cc HQ5.out, by repeat (first | exact bA | with_reducible assumption | apply bB | (refine bC ?_ (by dsimp only; omega)) | apply bD | apply bE | (refine bF ?_ (by assumption)))⟩

set_option maxHeartbeats 4000000 in
theorem field_Take2 (bs : List Int) (hl : bs.length = 16) (h8 : B8 bs) (b o c : Nat) (w : World) (hr : RowB w b o bs) (hlt : b < w.heap.size) :
  Calls Try.prog 110 #[.int .u8 2, .slice (some ⟨b, o, none⟩) 16 c] w (RetTk 2 bs w) := by
 have HV := Lib.hid (field_Valid 2)
 have HS := Lib.hid (field_Size (f := 2) ⟨.inr rfl⟩)
 have HG := Lib.hid (wide_Take bs hl h8)
 have HL := Lib.hid (show (Try.prog.info? 23).map (·.size) = some (cells8 bs).length by rw [cells8_length, hl]; kernel_rfl)
 have HR := Lib.hid hr
 have HT := Lib.hid (tkE_wide bs hl h8)
 clear hl h8 hr
 go_enter Try.func110, Try.ntmps110
 go_upto_region 1 with fail
 have he := V2.new w (.int .u64 0) (.int .u64 0) 99
 have hb00 : Below w.heap.size w (w.alloc (.cells #[.int .u64 0, .int .u64 0] 99)) := by repeat (first | exact bA | with_reducible assumption | apply bB)
 have hszn : w.heap.size + 1 ≤ (w.alloc (.cells #[.int .u64 0, .int .u64 0] 99)).heap.size := by simp only [World.size_alloc]; omega
 generalize (w.alloc (.cells #[.int .u64 0, .int .u64 0] 99)) = w1 at he hb00 hszn ⊢
 obtain ⟨e0, e1, e2, e3, e4⟩ := V2.mk he.c0 he.c1 he.f0 he.f1 he.lt
 have hRR := HR.out.belowB hb00 hlt
 have hra : w1.rangeAt b o (cells8 bs) := fun j v hj => by
  unfold cells8 at hj
  rw [List.getElem?_map] at hj
  cases hq : bs[j]? with
  | none => rw [hq] at hj; cases hj
  | some x =>
   rw [hq] at hj
   injection hj with hj
   subst hj
   exact hRR j x hq
 have hld := run_loadAt_mid w1 b o 23 (cells8 bs) _ hra Try.underlying23 rfl HL.out
 go_upto_region 8 with (first
  | (go_at_call 97; refine (HV.out _).mono ?_; rintro e w5 ⟨rfl, rfl⟩)
  | (go_at_call 81; refine (HS.out _).mono ?_; rintro e w5 ⟨rfl, rfl⟩))
 have hat : ∀ wz, (Instr.arrayAt 23 (.slice (some ⟨b, o, none⟩) 16 c)).run Try.prog wz = .ok (.pointer (some ⟨b, o, none⟩)) wz := fun wz => by kernel_rfl
 refine wp_region_lit ?_
 refine wpList_valD (some 30) rfl rfl (by (go_simp; first | with_reducible rfl | exact ⟨rfl, rfl⟩ | (trace_state; fail))) ?_
 simp only [Zp, Zq, Zr, Zs]
 refine wpList_valD (some 31) rfl rfl (by (have hz := hat w1; go_simp; first | with_reducible rfl | exact ⟨rfl, rfl⟩ | (trace_state; fail))) ?_
 simp only [Zp, Zq, Zr, Zs]
 refine wpList_valD (some 32) rfl rfl (exec_load rfl (by kernel_rfl) hld) ?_
 simp only [Zp, Zq, Zr, Zs]
 refine wpList_callD (some 33) rfl rfl 125 _ ?_ (HG.out _) ?_
 ·go_simp; try (with_reducible rfl)
 rintro e w5 ⟨v0, v1, cc, rfl, hb5, hv5⟩
 refine ⟨_, rfl, ?_⟩
 simp only [Zp, Zq, Zr, Zs]
 have HQ5 := Lib.hid hv5
 clear hv5 e0 e1 e2 e3 e4
 replace hb00 := bl_call hb00 (Nat.le_refl _) hb5
 replace he := he.call hb5
 have hbz := Lib.hid hb00
 obtain ⟨e0, e1, e2, e3, e4⟩ := V2.mk he.c0 he.c1 he.f0 he.f1 he.lt
 refine wpList_valD (some 34) rfl rfl (by (go_simp; first | with_reducible rfl | exact ⟨rfl, rfl⟩ | (trace_state; fail))) ?_
 simp only [Zp, Zq, Zr, Zs]
 refine wpList_valD (some 35) rfl rfl (by (go_simp; first | with_reducible rfl | exact ⟨rfl, rfl⟩ | (trace_state; fail))) ?_
 simp only [Zp, Zq, Zr, Zs]
 clear hRR hra hld hat hb5
 go_wp2_with fail
 exact bodyPost_ret (results_v2_tmp (b := w.heap.size) (u := .int .u64 (v0 : Int)) (v := .int .u64 (v1 : Int)) (V2.set he _ _) rfl rfl) rfl ⟨_, _, rfl, HT.out v0 v1 cc HQ5.out, by repeat (first | exact bA | with_reducible assumption | apply bB | (refine bC ?_ (by dsimp only; omega)) | apply bD | apply bE | (refine bF ?_ (by assumption)))⟩

theorem field_Take {f : Nat} (hf : IsF f) (bs : List Int) (hl : bs.length = sizeK f) (h8 : B8 bs) (b o n c : Nat) (hn : n = sizeK f) (w : World) (hr : RowB w b o bs) (hlt : b < w.heap.size) :
  Calls Try.prog 110 #[.int .u8 f, .slice (some ⟨b, o, none⟩) n c] w (RetTk f bs w) := by
 subst hn
 rcases hf.or with rfl | rfl
 ·exact field_Take1 bs hl h8 b o c w hr hlt
 ·exact field_Take2 bs hl h8 b o c w hr hlt

end Go.Proofs.Ytbakkmfjamcbfaa

namespace Go.Proofs.Ytbakkmfjamcbfaa
open Go.RowKit Fm
set_option linter.unusedVariables false
set_option maxRecDepth 100000

def RetTV (f n : Nat) (bs : List Int) (w : World) (e : Ending) (w' : World) : Prop :=
 (∃ (S : KL f) (A : Option Addr) (c : Nat), e = .returned (.tuple #[.slice A n c, .int .i64 0]) ∧ S.length = n ∧ vecB S = bs ∧ w'.ownsRow w.heap.size 99 2 (.slice A n c) n (cellsE (esK S)) ∧ Below w.heap.size w w') ∨
 (e = .returned (.tuple #[.slice none 0 0, .int .i64 7]) ∧ (∀ S : KL f, S.length = n → vecB S ≠ bs) ∧ Below w.heap.size w w')

theorem RowB.dropS {w : World} {b o : Nat} {xs : List Int} (h : RowB w b o xs) (s : Nat) : RowB w b (o + s) (xs.drop s) := fun i e hi => by
 rw [List.getElem?_drop] at hi
 have := h _ _ hi
 rwa [Nat.add_assoc]
theorem RowB.takeS {w : World} {b o : Nat} {xs : List Int} (h : RowB w b o xs) (s : Nat) : RowB w b o (xs.take s) := fun i e hi => h i e (by
 rw [List.getElem?_take] at hi
 split at hi
 ·exact hi
 ·cases hi)
theorem vecB_snoc {f : Nat} (l : KL f) (x : Fin (Pm f)) : vecB (l ++ [x]) = vecB l ++ bytesK x := by
 unfold vecB
 rw [List.flatMap_append]
 simp

theorem vecB_miss {f : Nat} (l T : KL f) (rest : List Int) (S : Nat) (hS : sizeK f = S) (h : vecB T = vecB l ++ rest) (hk : l.length < T.length) : ∃ y : Fin (Pm f), bytesK y = rest.take S := by
 have h1 : vecB (T.take l.length) ++ vecB (T.drop l.length) = vecB l ++ rest := by
  rw [← h]
  unfold vecB
  rw [← List.flatMap_append, List.take_append_drop]
 have h2 := (List.append_inj h1 (by rw [vecB_length, vecB_length, List.length_take, Nat.min_eq_left (by omega)])).2
 obtain ⟨y, T', hy⟩ : ∃ y T', T.drop l.length = y :: T' := by
  cases hd : T.drop l.length with
  | nil =>
   have := List.drop_eq_nil_iff.1 hd
   omega
  | cons y T' => exact ⟨y, T', rfl⟩
 refine ⟨y, ?_⟩
 rw [← h2, hy]
 have e : vecB (y :: T') = bytesK y ++ vecB T' := by
  unfold vecB
  rw [List.flatMap_cons]
 rw [e, List.take_append_of_le_length (by rw [bytesK_length, hS]; exact Nat.le_refl _), List.take_of_length_le (by rw [bytesK_length, hS]; exact Nat.le_refl _)]

theorem tkE_shape {f : Nat} {bs : List Int} {v : Value} {c : Int} (h : TkE (f := f) bs v c) : ∃ v0 v1 : Int, v = .agg #[.int .u64 v0, .int .u64 v1] ∧ ((∃ x : Fin (Pm f), bytesK x = bs ∧ v0 = lo x ∧ v1 = hi x ∧ c = 0) ∨ ((∀ x : Fin (Pm f), bytesK x ≠ bs) ∧ c = 7)) := by
 rcases h with ⟨x, hx, rfl, rfl⟩ | ⟨h, rfl, rfl⟩
 ·exact ⟨_, _, rfl, .inl ⟨x, hx, rfl, rfl, rfl⟩⟩
 ·exact ⟨_, _, rfl, .inr ⟨h, rfl⟩⟩

section
variable {f : Nat} (hf : IsF f)
include hf

set_option maxHeartbeats 8000000 in
theorem field_TakeVec (bs : List Int) (n m : Nat) (hm : bs.length = m) (hmn : m = n * sizeK f) (hn : n ≤ 4096) (h8 : B8 bs) (A : Option Addr) (c : Nat) (hc : m ≤ c ∧ c ≤ 9223372036854775807) (w : World) (hr : 0 < m → ∃ b o, A = some ⟨b, o, none⟩ ∧ RowB w b o bs ∧ b < w.heap.size) :
  Calls Try.prog 80 #[.int .u8 f, .slice A m c, .int .i64 n] w (RetTV f n bs w) := by
 have HV := Lib.hid (field_ValidK hf)
 have HSZ := Lib.hid (field_Size hf)
 have HTK := Lib.hid (field_Take hf)
 have hsk : sizeK f ≤ 16 ∧ 1 ≤ sizeK f := by unfold sizeK; split <;> omega
 have hm4 : m ≤ 4096 * 16 := by rw [hmn]; exact Nat.mul_le_mul hn hsk.1
 have HBK := Lib.hid (fun x : Fin (Pm f) => bytesK_length x)
 obtain ⟨S, hS⟩ : ∃ S, sizeK f = S := ⟨_, rfl⟩
 rw [hS] at HSZ hsk hmn HTK HBK
 have hmul : (n : Int) * (S : Int) = (m : Int) := by rw [hmn, Int.natCast_mul]
 have hwm : IntKind.i64.wrap (m : Int) = (m : Int) := IntWalk.i64_in _ (by omega)
 have HS := Lib.hid hS
 have HMN := Lib.hid hmn
 have HM := Lib.hid hm
 have H8 := Lib.hid h8
 have HR := Lib.hid hr
 have hfb0 : (1 : Int) ≤ (f : Int) := by rcases hf.or with rfl | rfl <;> omega
 have hfb1 : (f : Int) ≤ 2 := by rcases hf.or with rfl | rfl <;> omega
 clear hS hmn hm h8 hr
 go_enter Try.func80, Try.ntmps80
 go_wp2_with (first
  | (go_at_call 97; refine (HV.out _).mono ?_; rintro e w5 ⟨rfl, rfl⟩)
  | (go_at_call 81; refine (HSZ.out _).mono ?_; rintro e w5 ⟨rfl, rfl⟩))
 go_loopw [1, 8] (fun v1 v8 wr => ∃ (l : KL f) (rest : List Int) (A1 : Option Addr) (j q c1 : Nat) (A8 : Option Addr) (k c8 : Nat), l.length = k ∧ k + j = n ∧ bs = vecB l ++ rest ∧ rest.length = q ∧ q = j * S ∧ q ≤ c1 ∧ c1 ≤ 9223372036854775807 ∧ v1 = .slice A1 q c1 ∧ v8 = .slice A8 k c8 ∧ (0 < q → ∃ b o, A1 = some ⟨b, o, none⟩ ∧ RowB w b o rest ∧ b < w.heap.size) ∧ wr.ownsRow w.heap.size 99 2 (.slice A8 k c8) k (cellsE (esK l)) ∧ Below w.heap.size w wr) (fun v1 _ wr => match v1 with | .slice _ q _ => q | _ => 0)
 case atStart => exact ⟨[], bs, A, n, m, c, none, 0, 0, rfl, by omega, rfl, HM.out, HMN.out, hc.1, hc.2, rfl, rfl, HR.out, World.ownsRow_nil _ _ _ _, Below.refl _ _⟩
 case round =>
  obtain ⟨l, rest, A1, j, q, c1, A8, k, c8, hlk, hkj, hbs, hrl, hqj, hqc, hc1, rfl, rfl, hrow, hown, hbw⟩ := hrel
  have HOWN := Lib.hid hown
  have HBS := Lib.hid hbs
  have HLK := Lib.hid hlk
  have HRL := Lib.hid hrl
  by_cases hq : 0 < q
  ·obtain ⟨b, o, rfl, hrb, hblt⟩ := hrow hq
   obtain ⟨j1, rfl⟩ : ∃ j1, j = j1 + 1 := by
    cases j with
    | zero => rw [Nat.zero_mul] at hqj; omega
    | succ j1 => exact ⟨j1, rfl⟩
   rw [Nat.succ_mul] at hqj
   obtain ⟨q1, hq1⟩ : ∃ q1, j1 * S = q1 := ⟨_, rfl⟩
   rw [hq1] at hqj
   have HQ1 := Lib.hid hq1
   have hSq : (S : Int) ≤ (q : Int) := by omega
   have hSc : (S : Int) ≤ (c1 : Int) := by omega
   have hS0 : (0 : Int) ≤ (S : Int) := by omega
   have HT9 := Lib.hid (HTK.out (rest.take S) (by rw [List.length_take, hrl]; omega) (fun x hx => H8.out x (by rw [hbs]; exact List.mem_append_right _ (List.mem_of_mem_take hx))) b o S c1 rfl wr (hrb.takeS S |>.belowB hbw hblt) (Nat.lt_of_lt_of_le hblt hbw.size))
   have HRB := Lib.hid hrb
   have HQJ := Lib.hid hqj
   have HROW := Lib.hid hrow
   clear hq1 hbs hlk hrl hrow hown hrb hqj
   go_upto_region 10 with fail
   go_upto_region 11 with (first
    | (go_at_call 81; refine (HSZ.out _).mono ?_; rintro e w5 ⟨rfl, rfl⟩)
    | (go_at_call 110; refine HT9.out.mono ?_; rintro e w5 ⟨v, cc, rfl, hT5, hb5⟩; obtain ⟨v0, v1, rfl, hT6⟩ := tkE_shape hT5; have HT6 := Lib.hid hT6; clear hT5 hT6))
   rcases HT6.out with ⟨x, hx, rfl, rfl, rfl⟩ | ⟨hno, rfl⟩
   ·have HX := Lib.hid hx
    clear HT6 hx HT9
    have hbw5 := bl_call hbw (Nat.le_refl _) hb5
    have hown5 := own_call HOWN.out hb5
    clear hbw hb5
    have hbA := (Below.refl w5.heap.size w5).alloc (Nat.le_refl _) (.cells #[.int .u64 (lo x), .int .u64 (hi x)] 99)
    have he : V2 (w5.alloc (.cells #[.int .u64 (lo x), .int .u64 (hi x)] 99)) w5.heap.size (.int .u64 (lo x)) (.int .u64 (hi x)) := V2.new _ _ _ _
    have hown6 := own_call hown5 hbA
    have hbw6 := bl_call hbw5 (Nat.le_refl _) hbA
    clear hbA hown5 hbw5
    have hsz6 := hbw6.size
    generalize w5.alloc (.cells #[.int .u64 (lo x), .int .u64 (hi x)] 99) = w6 at he hown6 hbw6 hsz6 ⊢
    generalize w5.heap.size = eb at he ⊢
    obtain ⟨e0, e1, e2, e3, e4⟩ := V2.mk he.c0 he.c1 he.f0 he.f1 he.lt
    have hal := (Below.refl w6.heap.size w6).alloc (Nat.le_refl _) (.cells #[.int .u64 (lo x), .int .u64 (hi x)] 99)
    have HOW7 := Lib.hid (own_call hown6 hal)
    have HBW7 := Lib.hid (bl_call hbw6 (Nat.le_refl _) hal)
    have hE : BlkE (w6.alloc (.cells #[.int .u64 (lo x), .int .u64 (hi x)] 99)) w6.heap.size [eK x] := BlkE.new w6 [eK x] _ rfl
    have HR1 := Lib.hid (show 0 < 1 → ∃ b o, (some ⟨w6.heap.size, 0, none⟩ : Option Addr) = some ⟨b, o, none⟩ ∧ RowE (w6.alloc (.cells #[.int .u64 (lo x), .int .u64 (hi x)] 99)) b o [eK x] from fun _ => ⟨_, _, rfl, hE.rowE⟩)
    have hk1 : k + 1 ≤ 1099511627776 := by omega
    have hbase : w.heap.size ≤ (w6.alloc (.cells #[.int .u64 (lo x), .int .u64 (hi x)] 99)).heap.size := Nat.le_trans hsz6 hal.size
    have HKJ := Lib.hid hkj
    have HBN := Lib.hid (show q1 ≤ c1 - S ∧ c1 - S ≤ 9223372036854775807 by have := HQJ.out; omega)
    have HQS := Lib.hid (show q - S = q1 by have := HQJ.out; omega)
    clear hal hown6 hbw6 hE hsz6 hkj
    go_wp2_with (first
     | (go_at_call 81; refine (HSZ.out _).mono ?_; rintro e w5 ⟨rfl, rfl⟩)
     | (at_builtin; (refine wpList_append_E rfl (.tmp 49) (.tmp 51) rfl w.heap.size _ k (esK l) rfl HOW7.out (some ⟨w6.heap.size, 0, none⟩) 1 1 [eK x] rfl rfl HR1.out hk1 hbase ?_; intro v2 w7 hown7 hg7 hat7; have hb7 : Below w.heap.size _ w7 := (Below.refl _ _).grown hg7 hbase (fun q hq => (HOW7.out.lt q hq).1); obtain ⟨g2, cap2, hv2⟩ := own_slice hown7; rw [hv2])))
    rw [hv2] at hown7
    have e9 : esK (l ++ [x]) = esK l ++ [eK x] := by rw [esK_append]; rfl
    refine ⟨⟨l ++ [x], rest.drop S, _, j1, q1, c1 - S, some ⟨g2, 0, none⟩, k + 1, cap2, ?_, ?_, ?_, ?_, HQ1.out.symm, HBN.out.1, HBN.out.2, by rw [HQS.out], rfl, ?_, by rw [e9]; exact hown7, HBW7.out.trans hb7⟩, ?_⟩
    ·rw [List.length_append, HLK.out]; rfl
    ·have := HKJ.out; omega
    ·rw [vecB_snoc, HX.out, List.append_assoc, List.take_append_drop]; exact HBS.out
    ·rw [List.length_drop, HRL.out]; exact HQS.out
    ·intro hp
     have h1 := HQJ.out
     have h2 := HBN.out.1
     exact ⟨b, o + S, by rw [if_neg (by omega)], HRB.out.dropS S, hblt⟩
    ·show q - S < q
     omega
   ·have HNO := Lib.hid hno
    have HBW := Lib.hid (bl_call hbw (Nat.le_refl _) hb5)
    have HKJ := Lib.hid hkj
    clear HT6 hno HT9 hbw hb5 hkj
    go_wp2_with fail
    go_ret2
    refine .inr ⟨rfl, fun T hT hv => ?_, by have hb9 := HBW.out; repeat (first | assumption | (refine bl_alloc ?_ (Nat.le_refl _) _))⟩
    obtain ⟨y, hy⟩ := vecB_miss l T rest S HS.out (hv.trans HBS.out) (by rw [HLK.out, hT]; have := HKJ.out; omega)
    exact HNO.out y hy
  ·have hj0 : j = 0 := by
    cases j with
    | zero => rfl
    | succ j1 => rw [Nat.succ_mul] at hqj; omega
   subst hj0
   obtain rfl : k = n := by omega
   obtain rfl : q = 0 := by omega
   have HBW := Lib.hid hbw
   obtain rfl : rest = [] := List.eq_nil_of_length_eq_zero hrl
   clear hbw hown hrow hbs hlk hrl hqj
   go_wp2_with fail
   go_ret2
   exact .inl ⟨l, A8, c8, rfl, HLK.out, by have h := HBS.out; rw [List.append_nil] at h; exact h.symm, HOWN.out, HBW.out⟩
end

end Go.Proofs.Ytbakkmfjamcbfaa

namespace Go.Proofs.Ytbakkmfjamcbfaa
open Go.RowKit Fm
set_option linter.unusedVariables false
set_option maxRecDepth 100000

structure RdL (w : World) (rb : Nat) (B : Nat) (xs : List Int) : Prop where
 ex : ∃ (A : Option Addr) (c : Nat), Vs w rb [.slice A xs.length c, .bool true] ∧ xs.length ≤ c ∧ c ≤ 9223372036854775807 ∧ (0 < xs.length → ∃ b o, A = some ⟨b, o, none⟩ ∧ b < B ∧ RowB w b o xs)
 l : B ≤ rb
theorem RdL.call {w w' : World} {rb B : Nat} {xs : List Int} (h : RdL w rb B xs) (hb : Below w.heap.size w w') : RdL w' rb B xs := by
 obtain ⟨⟨A, c, h1, h2, h3, h4⟩, h5⟩ := h
 refine ⟨⟨A, c, h1.call hb, h2, h3, fun hp => ?_⟩, h5⟩
 obtain ⟨b, o, e1, e2, e3⟩ := h4 hp
 have hlt := h1.lt
 exact ⟨b, o, e1, e2, fun i e hi => (hb.cell (p := ⟨b, o + i, none⟩) (by dsimp only; omega)).trans (e3 i e hi)⟩

set_option maxHeartbeats 4000000 in
theorem reader_Fail (rb B : Nat) (xs : List Int) (e : Int) (he : (e != 0) = true) (w : World) (h : RdL w rb B xs) :
  Calls Try.prog 82 #[.pointer (some ⟨rb, 0, none⟩), .int .i64 e] w fun en w' => en = .panicked [{ v := .iface 192 (.agg #[.int .i64 e]), recovered := false }] ∧ w' = w := by
 obtain ⟨⟨A, c, hV, _, _, _⟩, _⟩ := h
 have V0 := hV.cell 0 _ rfl
 have V1 := hV.cell 1 _ rfl
 go_enter Try.func82, Try.ntmps82
 go_wp2_with fail
 exact ⟨rfl, rfl, rfl⟩

set_option maxHeartbeats 4000000 in
theorem reader_Fail0 (rb B : Nat) (xs : List Int) (w : World) (h : RdL w rb B xs) :
  Calls Try.prog 82 #[.pointer (some ⟨rb, 0, none⟩), .int .i64 0] w fun en w' => en = .returned (.tuple #[]) ∧ w' = w := by
 obtain ⟨⟨A, c, hV, _, _, _⟩, _⟩ := h
 have V0 := hV.cell 0 _ rfl
 have V1 := hV.cell 1 _ rfl
 go_enter Try.func82, Try.ntmps82
 go_wp2_with fail
 exact end_none Try.results82 rfl ⟨rfl, rfl⟩

def RetRd (rb B : Nat) (bs rest : List Int) (w : World) (e : Ending) (w' : World) : Prop :=
 ∃ (A : Option Addr) (c : Nat), e = .returned (.slice A bs.length c) ∧ w'.ownsRow w.heap.size 5 1 (.slice A bs.length c) bs.length (cells8 bs) ∧ RdL w' rb B rest ∧ Exc (fun q => q = rb) w.heap.size w w'

set_option maxHeartbeats 4000000 in
theorem reader_Raw (rb B : Nat) (xs : List Int) (m : Nat) (hm : m ≤ xs.length) (hm9 : m ≤ 1000000000) (w : World) (h : RdL w rb B xs) :
  Calls Try.prog 79 #[.pointer (some ⟨rb, 0, none⟩), .int .i64 m] w (RetRd rb B (xs.take m) (xs.drop m) w) := by
 obtain ⟨⟨A, c, hV, hc, hc9, hr⟩, hB⟩ := h
 obtain ⟨q, hq⟩ : ∃ q, xs.length = q := ⟨_, rfl⟩
 rw [hq] at hm hV hc hr
 have HQ := Lib.hid hq
 have HR := Lib.hid hr
 have hb1 : Below w.heap.size w (w.alloc (.cells #[] 5)) := (Below.refl _ _).alloc (Nat.le_refl _) _
 have hown0 : (w.alloc (.cells #[] 5)).ownsRow w.heap.size 5 1 (.slice (some ⟨w.heap.size, 0, none⟩) 0 0) 0 (cells8 []) := World.ownsRow_made w #[] 0 (Nat.le_refl _) (by unfold maxLen; omega) rfl
 have HW := Lib.hid hown0
 have hlt := hV.lt
 have HSRC := Lib.hid (show 0 < m → ∃ b o, A = some ⟨b, o, none⟩ ∧ RowB (w.alloc (.cells #[] 5)) b o (xs.take m) from fun hp => by
  obtain ⟨b, o, e1, e2, e3⟩ := hr (by omega)
  exact ⟨b, o, e1, (e3.takeS m).belowB hb1 (by omega)⟩)
 have HML := Lib.hid (show (xs.take m).length = m by rw [List.length_take, hq]; omega)
 have hk1 : 0 + m ≤ 1099511627776 := by omega
 have V0 := hV.cell 0 _ rfl
 have V1 := hV.cell 1 _ rfl
 have F0 := hV.frz 0 (by simp)
 clear hown0 hq hr
 go_enter Try.func79, Try.ntmps79
 go_upto_region 5 with fail
 go_wp2_with (at_builtin; (refine wpList_append_B rfl (.tmp 28) (.tmp 34) rfl w.heap.size _ 0 [] rfl HW.out A m c (xs.take m) rfl HML.out HSRC.out hk1 (by simp) ?_; intro v2 w2 hown2 hg2 hat2; have hb2 : Below w.heap.size w w2 := hb1.trans ((Below.refl _ _).grown hg2 (by simp) (fun k hk => Nat.le_of_eq (Option.some.inj hk))); rw [Nat.zero_add, List.nil_append] at hown2; obtain ⟨g2, cap2, hv2⟩ := own_shape hown2; subst hv2; have hV2 := hV.call hb2; clear V0 V1 F0; have V0 := hV2.cell 0 _ rfl; have V1 := hV2.cell 1 _ rfl; have F0 := hV2.frz 0 (by simp)))
 ·have hx : Exc (fun q => q = rb) w.heap.size w (w2.setCell ⟨rb, 0, none⟩ (.slice A (q - m) 0)) := exc_sc (S := fun q => q = rb) (exc_of hb2) (.inl rfl) 0 _
  have hv := hV2.put 0 (by simp) (.slice A (q - m) 0)
  have hdl : (xs.drop m).length = q - m := by rw [List.length_drop, HQ.out]
  go_ret
  refine ⟨g2, cap2, by rw [HML.out]; rfl, ?_, ⟨⟨A, 0, ?_, ?_, ?_, ?_⟩, hB⟩, hx⟩
  ·rw [HML.out]
   exact own_other hown2 (exc_sc (S := fun q => q = rb) (exc_of (Below.refl _ _)) (.inl rfl) 0 _) (fun g hg (e : g = rb) => by
    have := (hown2.lt g hg).1
    omega)
  ·rw [hdl]
   exact hv
  ·rw [hdl]
   omega
  ·omega
  ·intro hp
   rw [hdl] at hp
   omega
 ·have hx : Exc (fun q => q = rb) w.heap.size w (w2.setCell ⟨rb, 0, none⟩ (.slice (Option.map (fun x => x.add m) A) (q - m) (c - m))) := exc_sc (S := fun q => q = rb) (exc_of hb2) (.inl rfl) 0 _
  have hv := hV2.put 0 (by simp) (.slice (Option.map (fun x => x.add m) A) (q - m) (c - m))
  have hdl : (xs.drop m).length = q - m := by rw [List.length_drop, HQ.out]
  go_ret
  refine ⟨g2, cap2, by rw [HML.out]; rfl, ?_, ⟨⟨(Option.map (fun x => x.add m) A), c - m, ?_, ?_, ?_, ?_⟩, hB⟩, hx⟩
  ·rw [HML.out]
   exact own_other hown2 (exc_sc (S := fun q => q = rb) (exc_of (Below.refl _ _)) (.inl rfl) 0 _) (fun g hg (e : g = rb) => by
    have := (hown2.lt g hg).1
    omega)
  ·rw [hdl]
   exact hv
  ·rw [hdl]
   omega
  ·omega
  ·intro hp
   rw [hdl] at hp
   obtain ⟨b, o, rfl, e2, e3⟩ := HR.out (by omega)
   refine ⟨b, o + m, ?_, e2, fun i e hi => ?_⟩
   ·show some ((⟨b, o, none⟩ : Addr).add m) = _
    rw [Addr.add_mid]
   ·exact (hx.cell (p := ⟨b, o + m + i, none⟩) (by dsimp only; omega) (by dsimp only; omega)).trans (e3.dropS m i e hi)

end Go.Proofs.Ytbakkmfjamcbfaa

namespace Go.Proofs.Ytbakkmfjamcbfaa
open Go.RowKit Fm
set_option linter.unusedVariables false
set_option maxRecDepth 100000

def RetPan (c : Int) (rb B : Nat) (w : World) (e : Ending) (w' : World) : Prop :=
 e = .panicked [{ v := .iface 192 (.agg #[.int .i64 c]), recovered := false }] ∧ (∃ xs, RdL w' rb B xs) ∧ Exc (fun q => q = rb) w.heap.size w w'

set_option maxHeartbeats 4000000 in
theorem reader_RawS (rb B : Nat) (xs : List Int) (m : Nat) (hm : xs.length < m) (hm9 : m ≤ 1000000000) (w : World) (h : RdL w rb B xs) :
  Calls Try.prog 79 #[.pointer (some ⟨rb, 0, none⟩), .int .i64 m] w (RetPan 3 rb B w) := by
 have HH := Lib.hid h
 have HF := Lib.hid (reader_Fail rb B xs 3 rfl w h)
 obtain ⟨⟨A, c, hV, hc, hc9, hr⟩, hB⟩ := h
 have V0 := hV.cell 0 _ rfl
 have V1 := hV.cell 1 _ rfl
 clear hr
 go_enter Try.func79, Try.ntmps79
 go_wp2_with (go_at_call 82; refine HF.out.mono ?_; rintro e w5 ⟨rfl, rfl⟩)
 exact ⟨rfl, rfl, ⟨_, HH.out⟩, exc_of (Below.refl _ _)⟩

set_option maxHeartbeats 4000000 in
theorem reader_UintS (rb B : Nat) (xs : List Int) (hm : xs.length < 4) (w : World) (h : RdL w rb B xs) :
  Calls Try.prog 109 #[.pointer (some ⟨rb, 0, none⟩), .int .i64 4] w (RetPan 3 rb B w) := by
 have HF := Lib.hid (reader_RawS rb B xs 4 hm (by omega) w h)
 clear h
 go_enter Try.func109, Try.ntmps109
 go_wp2_with (go_at_call 79; refine HF.out.mono ?_; rintro e w5 ⟨rfl, hR, hx⟩)
 exact ⟨rfl, rfl, hR, hx⟩

set_option maxHeartbeats 4000000 in
theorem reader_Uint (rb B : Nat) (xs : List Int) (hm : 4 ≤ xs.length) (h8 : B8 xs) (w : World) (h : RdL w rb B xs) :
  Calls Try.prog 109 #[.pointer (some ⟨rb, 0, none⟩), .int .i64 4] w fun e w' => e = .returned (.int .u64 (valB (xs.take 4) : Nat)) ∧ RdL w' rb B (xs.drop 4) ∧ Exc (fun q => q = rb) w.heap.size w w' := by
 have HF := Lib.hid (reader_Raw rb B xs 4 hm (by omega) w h)
 have hl4 : (xs.take 4).length = 4 := by rw [List.length_take]; omega
 have hb4 : B8 (xs.take 4) := fun x hx => h8 x (List.mem_of_mem_take hx)
 clear h h8
 generalize xs.take 4 = bs at *
 have HL := Lib.hid hl4
 have H8 := Lib.hid hb4
 clear hl4 hb4
 go_enter Try.func109, Try.ntmps109
 go_wp2_with (go_at_call 79; refine HF.out.mono ?_; rintro e w5 ⟨A5, c5, rfl, hown5, hR5, hx5⟩; rw [HL.out] at hown5 ⊢)
 obtain ⟨b, o, rfl, hrow⟩ := own_srcB hown5 (by omega)
 have HROW := Lib.hid hrow
 have HR5 := Lib.hid hR5
 have HX5 := Lib.hid hx5
 have hblt : b < w5.heap.size := (hown5.lt b rfl).2
 clear hrow hR5 hx5 hown5 HF
 go_loopw [5, 14] (fun v5 v14 wr => ∃ k : Nat, k ≤ 4 ∧ v14 = .int .i64 k ∧ v5 = .int .u64 ((valB (bs.take k) : Nat) : Int) ∧ wr = w5) (fun _ v14 _ => 4 - (intOf v14).toNat)
 case atStart => exact ⟨0, by omega, rfl, rfl, rfl⟩
 case round =>
  obtain ⟨k, hk, rfl, rfl, rfl⟩ := hrel
  by_cases hlt : k < 4
  ·have hat : bs[k]? = some (bs.getD k 0) := by rw [List.getD_eq_getElem?_getD, List.getElem?_eq_getElem (by rw [HL.out]; exact hlt)]; rfl
   obtain ⟨r0, r1⟩ := H8.out _ (List.mem_of_getElem? hat)
   have hcell := HROW.out k _ hat
   have ha := valB_lt (bs.take k) (fun x hx => H8.out x (List.mem_of_mem_take hx))
   rw [List.length_take, HL.out, Nat.min_eq_left hk, show (256 : Nat) = 2 ^ 8 from rfl, ← Nat.pow_mul] at ha
   have HV := Lib.hid (valB_take bs k _ hat)
   generalize valB (bs.take k) = a at *
   generalize bs.getD k 0 = c at *
   obtain ⟨s, hs⟩ : ∃ s, 8 * k = s := ⟨_, rfl⟩
   rw [hs] at HV ha
   have hsi : (8 : Int) * (k : Int) = (s : Int) := by omega
   have hs64 : s ≤ 56 := by omega
   have hs0 : (0 : Int) ≤ (s : Int) := by omega
   have hor := or_byte a s c ha ⟨r0, r1⟩ hs64
   have hw8 : IntKind.i64.wrap (s : Int) = (s : Int) := IntWalk.i64_in _ (by omega)
   obtain ⟨d, hd⟩ : ∃ d, a + c.toNat * 2 ^ s = d := ⟨_, rfl⟩
   rw [hd] at hor
   have HD : Hid (valB (bs.take (k + 1)) = d) := Lib.hid (HV.out.trans hd)
   clear hs hd hat ha HV
   go_wp2_with fail
   go_roundw
   case rel => exact ⟨k + 1, by omega, by go_num, by rw [HD.out], trivial⟩
   case measure => simp [intOf]; omega
  ·obtain rfl : k = 4 := by omega
   rw [List.take_of_length_le (by rw [HL.out]; exact Nat.le_refl _)]
   go_wp2_with fail
   go_ret
   exact ⟨rfl, HR5.out, HX5.out⟩

end Go.Proofs.Ytbakkmfjamcbfaa

namespace Go.Proofs.Ytbakkmfjamcbfaa
open Go.RowKit Fm
set_option linter.unusedVariables false
set_option maxRecDepth 100000

set_option maxHeartbeats 4000000 in
theorem reader_CountS (rb B : Nat) (xs : List Int) (hm : xs.length < 4) (w : World) (h : RdL w rb B xs) :
  Calls Try.prog 78 #[.pointer (some ⟨rb, 0, none⟩), .int .i64 4, .int .u64 256] w (RetPan 3 rb B w) := by
 have HF := Lib.hid (reader_UintS rb B xs hm w h)
 clear h
 go_enter Try.func78, Try.ntmps78
 go_wp2_with (go_at_call 109; refine HF.out.mono ?_; rintro e w5 ⟨rfl, hR, hx⟩)
 exact ⟨rfl, rfl, hR, hx⟩

set_option maxHeartbeats 4000000 in
theorem reader_Count (rb B : Nat) (xs : List Int) (hm : 4 ≤ xs.length) (h8 : B8 xs) (hv : valB (xs.take 4) ≤ 256) (w : World) (h : RdL w rb B xs) :
  Calls Try.prog 78 #[.pointer (some ⟨rb, 0, none⟩), .int .i64 4, .int .u64 256] w fun e w' => e = .returned (.int .i64 (valB (xs.take 4) : Nat)) ∧ RdL w' rb B (xs.drop 4) ∧ Exc (fun q => q = rb) w.heap.size w w' := by
 have HF := Lib.hid (reader_Uint rb B xs hm h8 w h)
 clear h h8
 generalize valB (xs.take 4) = v at *
 have hd : (256 : Int) < (v : Int) ↔ False := by simp; omega
 have hdd : decide ((256 : Int) < (v : Int)) = false := by simp; omega
 have hw : IntKind.i64.wrap (v : Int) = (v : Int) := IntWalk.i64_in _ (by omega)
 clear hd
 go_enter Try.func78, Try.ntmps78
 go_wp2_with (go_at_call 109; refine HF.out.mono ?_; rintro e w5 ⟨rfl, hR, hx⟩)
 go_ret
 exact ⟨rfl, hR, hx⟩

set_option maxHeartbeats 4000000 in
theorem reader_CountB (rb B : Nat) (xs : List Int) (hm : 4 ≤ xs.length) (h8 : B8 xs) (hv : ¬ valB (xs.take 4) ≤ 256) (w : World) (h : RdL w rb B xs) :
  Calls Try.prog 78 #[.pointer (some ⟨rb, 0, none⟩), .int .i64 4, .int .u64 256] w (RetPan 6 rb B w) := by
 have HF := Lib.hid (reader_Uint rb B xs hm h8 w h)
 have HP := Lib.hid (fun wz (hz : RdL wz rb B (xs.drop 4)) => reader_Fail rb B (xs.drop 4) 6 rfl wz hz)
 clear h h8
 generalize valB (xs.take 4) = v at *
 have hdd : decide ((256 : Int) < (v : Int)) = true := by simp; omega
 go_enter Try.func78, Try.ntmps78
 go_wp2_with (first
  | (go_at_call 109; refine HF.out.mono ?_; rintro e w5 ⟨rfl, hR, hx⟩; have HPP := Lib.hid (HP.out w5 hR); have HRR := Lib.hid hR; clear hR)
  | (go_at_call 82; refine HPP.out.mono ?_; rintro e w6 ⟨rfl, rfl⟩))
 exact ⟨rfl, rfl, ⟨_, HRR.out⟩, hx⟩

end Go.Proofs.Ytbakkmfjamcbfaa

namespace Go.Proofs.Ytbakkmfjamcbfaa
open Go.RowKit Fm
set_option linter.unusedVariables false
set_option maxRecDepth 100000

theorem rd_equalIn_func (d : Nat) (fn : Fn) (first cap : Array Value) (w : World) : (Op.equalIn (d + 1) 168 (.func fn first cap) .nilFunc).run Try.prog w = .ok false w := by
 simp [Op.equalIn, Sem.run_bind, run_underlying Try.underlying168]
theorem rd_eql_func (fn : Fn) (first cap : Array Value) (w : World) : (binOp .eql 168 (.func fn first cap) .nilFunc).run Try.prog w = .ok (.bool false) w := by
 have h := rd_equalIn_func 9999 fn first cap w
 simp only [binOp, Op.equal, Sem.run_bind]
 rw [show Op.maxDepth = 9999 + 1 from rfl, h]
 rfl

theorem rd_assert (w : World) (v : Value) : (Instr.typeAssert (.iface 192 v) 20 192 true).run Try.prog w = .ok (.tuple #[v, .bool true]) w := by kernel_rfl

set_option maxHeartbeats 4000000 in
theorem catch_stop (pb rb eb : Nat) (c x : Int) (v1 : Value) (older : List PanicEntry) (w : World) (hP : Vs w pb [.pointer (some ⟨rb, 0, none⟩)]) (hR : Vs w rb [v1, .bool true]) (hE : Vs w eb [.int .i64 x]) (hne : eb ≠ rb) :
  CallsD Try.prog 108 #[.pointer (some ⟨pb, 0, none⟩), .pointer (some ⟨eb, 0, none⟩)] (.panicking ({ v := .iface 192 (.agg #[.int .i64 c]), recovered := false } :: older)) w fun e u' w' =>
   e = .returned (.tuple #[]) ∧ u' = .panicking ({ v := .iface 192 (.agg #[.int .i64 c]), recovered := true } :: older) ∧ Exc (fun q => q = rb ∨ q = eb) w.heap.size w w' ∧ Vs w' eb [.int .i64 c] := by
 have P0 := hP.cell 0 _ rfl
 have R1 := hR.cell 1 _ rfl
 have R1f := hR.frz 1 (by simp)
 have E0 := hE.cell 0 _ rfl
 have E0f := hE.frz 0 (by simp)
 have hrl := hR.lt
 have hel := hE.lt
 refine callsD_of_wpS Try.func108 rfl fun c₀ cs hu => ?_
 apply wpS_seq
 apply wpS_region
 simp [wpOpsS, go_sem, P0, R1, R1f, Try.ntmps108, Exit.thenS]
 apply wpS_seq
 apply wpS_region
 simp [wpOpsS, go_sem, recoverD, hu, Exit.thenS]
 refine wpS_of_wp ?_
 change Code.wp _ _ _ { tmps := #[.pointer (some ⟨pb, 0, none⟩), .pointer (some ⟨eb, 0, none⟩), undef, undef, undef, .pointer (some ⟨rb, 0, none⟩), .pointer (some ⟨rb, 0, none⟩), .pointer (some ⟨rb, 1, none⟩), .iface 192 (.agg #[.int .i64 c]), undef, undef, undef, undef, undef, undef, undef], defers := [] } _
 have E1 : (w.setCell ⟨rb, 1, none⟩ (.bool false)).cell? ⟨eb, 0, none⟩ = some (.int .i64 x) := (hE.far (p := ⟨rb, 1, none⟩) (by dsimp only; omega) (.bool false)).cell 0 _ rfl
 have hta := rd_assert
 go_wp2_with fail
 have hx1 : Exc (fun q => q = rb ∨ q = eb) w.heap.size w ((w.setCell ⟨rb, 1, none⟩ (.bool false)).setCell ⟨eb, 0, none⟩ (.int .i64 c)) := exc_sc (S := fun q => q = rb ∨ q = eb) (exc_sc (S := fun q => q = rb ∨ q = eb) (exc_of (Below.refl _ _)) (.inl (.inl rfl)) 1 _) (.inl (.inr rfl)) 0 _
 have hv1 : Vs ((w.setCell ⟨rb, 1, none⟩ (.bool false)).setCell ⟨eb, 0, none⟩ (.int .i64 c)) eb [.int .i64 c] := Vs.put (hE.far (p := ⟨rb, 1, none⟩) (by dsimp only; omega) (.bool false)) 0 (by simp) (.int .i64 c)
 have hb1 : Below ((w.setCell ⟨rb, 1, none⟩ (.bool false)).setCell ⟨eb, 0, none⟩ (.int .i64 c)).heap.size ((w.setCell ⟨rb, 1, none⟩ (.bool false)).setCell ⟨eb, 0, none⟩ (.int .i64 c)) (((w.setCell ⟨rb, 1, none⟩ (.bool false)).setCell ⟨eb, 0, none⟩ (.int .i64 c)).alloc (.cells #[.int .i64 c] 192)) := (Below.refl _ _).alloc (Nat.le_refl _) _
 refine ⟨rfl, _, rfl, _, ?_, rfl, rfl, hx1.call hb1, hv1.call hb1⟩
 simp [results, Try.results108, go_sem]

set_option maxHeartbeats 4000000 in
theorem catch_none (pb rb eb : Nat) (x : Int) (v1 : Value) (w : World) (hP : Vs w pb [.pointer (some ⟨rb, 0, none⟩)]) (hR : Vs w rb [v1, .bool true]) (hE : Vs w eb [.int .i64 x]) (hne : eb ≠ rb) :
  CallsD Try.prog 108 #[.pointer (some ⟨pb, 0, none⟩), .pointer (some ⟨eb, 0, none⟩)] .returning w fun e u' w' =>
   e = .returned (.tuple #[]) ∧ u' = .returning ∧ Exc (fun q => q = rb ∨ q = eb) w.heap.size w w' ∧ Vs w' eb [.int .i64 x] := by
 have P0 := hP.cell 0 _ rfl
 have R1 := hR.cell 1 _ rfl
 have R1f := hR.frz 1 (by simp)
 have hrl := hR.lt
 have hel := hE.lt
 refine callsD_of_wpS Try.func108 rfl fun c₀ cs hu => ?_
 apply wpS_seq
 apply wpS_region
 simp [wpOpsS, go_sem, P0, R1, R1f, Try.ntmps108, Exit.thenS]
 apply wpS_seq
 apply wpS_region
 simp [wpOpsS, go_sem, recoverD, hu, Exit.thenS]
 refine wpS_of_wp ?_
 change Code.wp _ _ _ { tmps := #[.pointer (some ⟨pb, 0, none⟩), .pointer (some ⟨eb, 0, none⟩), undef, undef, undef, .pointer (some ⟨rb, 0, none⟩), .pointer (some ⟨rb, 0, none⟩), .pointer (some ⟨rb, 1, none⟩), .nilIface, undef, undef, undef, undef, undef, undef, undef], defers := [] } _
 go_wp2_with fail
 have hx1 : Exc (fun q => q = rb ∨ q = eb) w.heap.size w (w.setCell ⟨rb, 1, none⟩ (.bool false)) := exc_sc (S := fun q => q = rb ∨ q = eb) (exc_of (Below.refl _ _)) (.inl (.inl rfl)) 1 _
 refine ⟨rfl, .returning, by rw [← hu], _, ?_, rfl, rfl, hx1, hE.far (p := ⟨rb, 1, none⟩) (by dsimp only; omega) (.bool false)⟩
 simp [results, Try.results108, go_sem]

def RetRead (S : Nat → Prop) (T : Nat → Int → World → Prop) (U : Nat → List Int → World → Prop) (w : World) (e : Ending) (w' : World) : Prop :=
 ∃ (code : Int) (B0 : Nat), e = .returned (.int .i64 code) ∧ w.heap.size ≤ B0 ∧ Exc S w.heap.size w w' ∧ (T B0 code w' ∨ ∃ rest, U B0 rest w' ∧ code = if rest.length = 0 then 0 else 27)
def CloTk (S : Nat → Prop) (T : Nat → Int → World → Prop) (U : Nat → List Int → World → Prop) (rb B : Nat) (w : World) (e : Ending) (w' : World) : Prop :=
 Exc (fun q => q = rb ∨ S q) w.heap.size w w' ∧
 ((∃ c, e = .panicked [{ v := .iface 192 (.agg #[.int .i64 c]), recovered := false }] ∧ (∃ xs, RdL w' rb B xs) ∧ T w.heap.size c w') ∨
  (e = .returned (.tuple #[]) ∧ ∃ rest, RdL w' rb B rest ∧ U w.heap.size rest w'))

set_option maxHeartbeats 4000000 in
theorem pack_Read (S : Nat → Prop) (T : Nat → Int → World → Prop) (U : Nat → List Int → World → Prop) (g : FuncId) (cap : Array Value) (A : Option Addr) (bs : List Int) (c : Nat) (w : World) (B : Nat) (hBw : B ≤ w.heap.size)
  (hent : ∀ args wz, (callFunc g args).run Try.prog wz = .ok (.enter g args) wz)
  (hc : bs.length ≤ c ∧ c ≤ 9223372036854775807) (hrow : 0 < bs.length → ∃ b o, A = some ⟨b, o, none⟩ ∧ b < B ∧ RowB w b o bs)
  (hS : ∀ q, S q → q < w.heap.size)
  (hT : ∀ B0 c w1 w2, w.heap.size ≤ B0 → T B0 c w1 → Exc (fun q => w.heap.size ≤ q ∧ q < B0) w1.heap.size w1 w2 → T B0 c w2)
  (hU : ∀ B0 r w1 w2, w.heap.size ≤ B0 → U B0 r w1 → Exc (fun q => w.heap.size ≤ q ∧ q < B0) w1.heap.size w1 w2 → U B0 r w2)
  (H : ∀ wz rb, w.heap.size ≤ rb → Below w.heap.size w wz → RdL wz rb B bs → Calls Try.prog g (#[.pointer (some ⟨rb, 0, none⟩)] ++ cap) wz (CloTk S T U rb B wz)) :
  Calls Try.prog 76 #[.slice A bs.length c, .func (.func g) #[] cap] w (RetRead S T U w) := by
 have hmf : ∀ (fn : Fn) (first cap : Array Value) (w : World), (Instr.makeFunc fn first cap).run Try.prog w = .ok (.func fn first cap) w := fun _ _ _ _ => rfl
 have heq := rd_eql_func (.func g) #[] cap
 have HROW := Lib.hid hrow
 have HS := Lib.hid hS
 have HT := Lib.hid hT
 have HU := Lib.hid hU
 have HH := Lib.hid H
 have HC := Lib.hid hc
 obtain ⟨ln, hln⟩ : ∃ z, bs.length = z := ⟨_, rfl⟩
 have HLN := Lib.hid hln
 rw [hln]
 clear hrow hS hT hU H hc hln
 have hb00 : Below w.heap.size w w := Below.refl _ _
 go_enter_defers Try.func76, Try.ntmps76
 go_upto_region 3 with fail
 have hE := Vs.new w [.int .i64 0] #[.int .i64 0] 24 rfl
 have hbA : Below w.heap.size w (w.alloc (.cells #[.int .i64 0] 24)) := by repeat (first | exact bA | with_reducible assumption | apply bB)
 replace hb00 := bl_call hb00 (Nat.le_refl _) hbA
 clear hbA
 generalize w.alloc (.cells #[.int .i64 0] 24) = w1 at hb00 hE ⊢
 go_upto_region 4 with fail
 have hR := (Vs.new w1 ([.slice A ln c, .bool true]) (#[.slice A ln c, .bool true]) 190 rfl).alloc (.cells #[.pointer (some ⟨w1.heap.size, 0, none⟩)] 163)
 have hP := Vs.new (w1.alloc (.cells #[.slice A ln c, .bool true] 190)) [.pointer (some ⟨w1.heap.size, 0, none⟩)] #[.pointer (some ⟨w1.heap.size, 0, none⟩)] 163 rfl
 simp only [World.size_alloc] at hP
 have hb12 : Below w1.heap.size w1 ((w1.alloc (.cells #[.slice A ln c, .bool true] 190)).alloc (.cells #[.pointer (some ⟨w1.heap.size, 0, none⟩)] 163)) := by repeat (first | exact bA | with_reducible assumption | apply bB)
 have hszn : w1.heap.size + 2 ≤ ((w1.alloc (.cells #[.slice A ln c, .bool true] 190)).alloc (.cells #[.pointer (some ⟨w1.heap.size, 0, none⟩)] 163)).heap.size := by simp only [World.size_alloc]; omega
 generalize ((w1.alloc (.cells #[.slice A ln c, .bool true] 190)).alloc (.cells #[.pointer (some ⟨w1.heap.size, 0, none⟩)] 163)) = w2 at hR hP hb12 hszn ⊢
 have hE2 := hE.call hb12
 have hel := hE.lt
 have hb02 := bl_call hb00 (Nat.le_refl _) hb12
 have hsz1 := hb00.size
 clear hE hb00 hb12
 obtain ⟨rb, hrb⟩ : ∃ z, w1.heap.size = z := ⟨_, rfl⟩
 rw [hrb] at hR hP hel hsz1
 simp only [hrb]
 clear hrb hszn
 have hRd : RdL w2 rb B bs := ⟨⟨A, c, by rw [HLN.out]; exact hR, HC.out.1, HC.out.2, fun hp => by
  obtain ⟨b, o, e1, e2, e3⟩ := HROW.out hp
  exact ⟨b, o, e1, e2, e3.belowB hb02 (by omega)⟩⟩, Nat.le_trans hBw hsz1⟩
 have HCL := Lib.hid (HH.out w2 rb hsz1 hb02 hRd)
 have hP0 := hP.cell 0 _ rfl
 have hplt := hP.lt
 clear HH hR hRd
 have hE9 : ¬ (w.heap.size = rb ∨ S w.heap.size) := fun h => by
  rcases h with h | h
  ·omega
  ·have := HS.out _ h
   omega
 have hP9 : ¬ (rb + 1 = rb ∨ S (rb + 1)) := fun h => by
  rcases h with h | h
  ·omega
  ·have := HS.out _ h
   omega
 have hs2 := hb02.size
 have HX2 : Hid (∀ wz, Exc (fun q => q = rb ∨ S q) w2.heap.size w2 wz → Exc S w.heap.size w wz) := Lib.hid fun wz h => (exc_of hb02).trans ((h.mono hs2).less fun q hq h => by
  rcases h with h | h
  ·omega
  ·exact h)
 go_wp2_with fail
 refine HCL.out.mono ?_
 rintro e w3 ⟨hx3, h3⟩
 have hE3 := hE2.exc hE9 hx3
 have hP3 := hP.exc hP9 hx3
 have HX3 := Lib.hid (HX2.out w3 hx3)
 have hs3 := hx3.size
 clear hE2 hP hP0 hx3 HX2 hb02 HCL
 rcases h3 with ⟨cd, rfl, ⟨xs, hRx⟩, hTx⟩ | ⟨rfl, rest, hRx, hUx⟩
 ·obtain ⟨⟨A3, c3, hV3, _⟩, _⟩ := hRx
  refine leaves_cons (f := 108) (args := #[.pointer (some ⟨rb + 1, 0, none⟩), .pointer (some ⟨w.heap.size, 0, none⟩)]) (by simp) (by simp [go_sem]) ?_
  refine (catch_stop (rb + 1) rb w.heap.size cd 0 _ [] w3 hP3 hV3 hE3 (by omega)).mono ?_
  rintro e u' w4 ⟨rfl, rfl, hx4, hE4⟩
  have hE40 := hE4.cell 0 _ rfl
  refine ⟨.int .i64 cd, by simp [results, Try.results76, go_sem, hE40], cd, w2.heap.size, rfl, hs2, HX3.out.trans ((hx4.mono (by omega)).less fun q hq h => by omega), .inl (HT.out _ _ _ _ hs2 hTx (hx4.less fun q hq h => by omega))⟩
 ·obtain ⟨⟨A3, c3, hV3, _⟩, _⟩ := hRx
  have r0 := hV3.cell 0 _ rfl
  have p0 := hP3.cell 0 _ rfl
  have e0 := hE3.cell 0 _ rfl
  have e1 := hE3.frz 0 (by simp)
  obtain ⟨q, hq⟩ : ∃ q, rest.length = q := ⟨_, rfl⟩
  rw [hq] at r0 hV3
  have HQ := Lib.hid hq
  clear hq
  by_cases hz : q = 0
  ·subst hz
   go_wp2_with fail
   have hE4 : Vs (w3.setCell ⟨w.heap.size, 0, none⟩ (.int .i64 0)) w.heap.size [.int .i64 0] := hE3.put 0 (by simp) _
   have hx4 : Exc (fun q => q = w.heap.size) w3.heap.size w3 (w3.setCell ⟨w.heap.size, 0, none⟩ (.int .i64 0)) := exc_sc (S := fun q => q = w.heap.size) (exc_of (Below.refl _ _)) (.inl rfl) 0 _
   have hV4 := hV3.exc (S := fun q => q = w.heap.size) (fun e => by omega) hx4
   have hP4 := hP3.exc (S := fun q => q = w.heap.size) (fun e => by omega) hx4
   have HX4 := Lib.hid (HX3.out.trans ((hx4.mono (by omega)).less (T := S) fun q hq h => by omega))
   have HU4 := Lib.hid (HU.out _ _ _ _ hs2 hUx (hx4.less fun q hq h => by omega))
   have hs4 := hx4.size
   clear hx4 hV3 hP3 hE3 e0 e1 r0 p0 HX3 hUx
   generalize w3.setCell ⟨w.heap.size, 0, none⟩ (.int .i64 0) = w4 at hE4 hV4 hP4 HX4 HU4 hs4 ⊢
   refine leaves_cons (f := 108) (args := #[.pointer (some ⟨rb + 1, 0, none⟩), .pointer (some ⟨w.heap.size, 0, none⟩)]) (by simp) (by simp [go_sem]) ?_
   refine (catch_none (rb + 1) rb w.heap.size 0 _ w4 hP4 hV4 hE4 (by omega)).mono ?_
   rintro e u' w5 ⟨rfl, rfl, hx5, hE5⟩
   have hE50 := hE5.cell 0 _ rfl
   refine ⟨.int .i64 0, by simp [results, Try.results76, go_sem, hE50], 0, w2.heap.size, rfl, hs2, HX4.out.trans ((hx5.mono (by omega)).less fun q hq h => by omega), .inr ⟨rest, HU.out _ _ _ _ hs2 HU4.out (hx5.less fun q hq h => by omega), ?_⟩⟩
   rw [HQ.out]
   rfl
  ·have hz2 : 0 < q := by omega
   clear hz
   go_wp2_with fail
   have hE4 : Vs (w3.setCell ⟨w.heap.size, 0, none⟩ (.int .i64 27)) w.heap.size [.int .i64 27] := hE3.put 0 (by simp) _
   have hx4 : Exc (fun q => q = w.heap.size) w3.heap.size w3 (w3.setCell ⟨w.heap.size, 0, none⟩ (.int .i64 27)) := exc_sc (S := fun q => q = w.heap.size) (exc_of (Below.refl _ _)) (.inl rfl) 0 _
   have hV4 := hV3.exc (S := fun q => q = w.heap.size) (fun e => by omega) hx4
   have hP4 := hP3.exc (S := fun q => q = w.heap.size) (fun e => by omega) hx4
   have HX4 := Lib.hid (HX3.out.trans ((hx4.mono (by omega)).less (T := S) fun q hq h => by omega))
   have HU4 := Lib.hid (HU.out _ _ _ _ hs2 hUx (hx4.less fun q hq h => by omega))
   have hs4 := hx4.size
   clear hx4 hV3 hP3 hE3 e0 e1 r0 p0 HX3 hUx
   generalize w3.setCell ⟨w.heap.size, 0, none⟩ (.int .i64 27) = w4 at hE4 hV4 hP4 HX4 HU4 hs4 ⊢
   refine leaves_cons (f := 108) (args := #[.pointer (some ⟨rb + 1, 0, none⟩), .pointer (some ⟨w.heap.size, 0, none⟩)]) (by simp) (by simp [go_sem]) ?_
   refine (catch_none (rb + 1) rb w.heap.size 27 _ w4 hP4 hV4 hE4 (by omega)).mono ?_
   rintro e u' w5 ⟨rfl, rfl, hx5, hE5⟩
   have hE50 := hE5.cell 0 _ rfl
   refine ⟨.int .i64 27, by simp [results, Try.results76, go_sem, hE50], 27, w2.heap.size, rfl, hs2, HX4.out.trans ((hx5.mono (by omega)).less fun q hq h => by omega), .inr ⟨rest, HU.out _ _ _ _ hs2 HU4.out (hx5.less fun q hq h => by omega), ?_⟩⟩
   rw [HQ.out]
   rw [if_neg (by omega)]

end Go.Proofs.Ytbakkmfjamcbfaa
