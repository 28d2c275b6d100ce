/-
  WALK: tallymanlaw04.NttSizes.
-/
import Derived.Test.YtfhmineolncefaaDoorMaw
import Derived.Test.YtfhmineolncefaaDoorMar
import Derived.Test.YtfhmineolncefaaDoorMag
namespace Go.Proofs.YtfhmineolncefaaDoor
open Go.RowKit Fm
set_option linter.unusedVariables false
set_option maxRecDepth 100000

set_option maxHeartbeats 16000000 in
theorem walk_NttSizes (n k F : Int) (vl : Value) (l : List E) (w : World) (hT : TabW w) (hn9 : -9223372036854775808 ≤ n ∧ n ≤ 9223372036854775807) (hk9 : -9223372036854775808 ≤ k ∧ k ≤ 9223372036854775807) (hF0 : 0 ≤ F ∧ F ≤ 255) (hl : SlE w w.heap.size vl l) :
    Calls Tryd.prog 5 #[.int .i64 n, .int .i64 k, .int .u8 F, vl] w fun e w' => e = .returned (.bool true) ∧ Below w.heap.size w w' := by
  clear hn9 hk9
  have HAW := Lib.hid (fun wz h => law04_Awake wz h)
  have HNX := Lib.hid (fun wz => ntt_NextI n wz)
  have HL := Lib.hid hl
  have HTB := Lib.hid hT
  have HLA : Hid (∀ a : Option Addr, True) := fun _ => trivial
  obtain ⟨A, c, rfl, hc1, hc2⟩ := hl.shape
  obtain ⟨m, hm⟩ : ∃ m, l.length = m := ⟨_, rfl⟩
  have HM := Lib.hid hm
  rw [hm] at hc1 HL ⊢
  clear hm hl HLA
  have hb00 : Below w.heap.size w w := Below.refl _ _
  by_cases h70 : 70 < m
  · go_enter Tryd.func5, Tryd.ntmps5
    go_wp2_with fail
    refine (HAW.out _ hT).mono ?_
    rintro e w2 ⟨rfl, hb2⟩
    replace hb00 := bl_call hb00 (Nat.le_refl _) hb2
    go_wp2_with fail
    go_ret
    exact ⟨rfl, hb00⟩
  have HC1 : Hid (∀ p : Nat, 1 ≤ p → p < cutN n → (p : Int) < n ∧ p < 1024) := fun p h1 h2 => cutN_lt h1 h2
  have HC2 : Hid (∀ p : Nat, 1 ≤ p → ¬ (p < cutN n) → p ≤ 1024 → ¬ ((p : Int) < n) ∨ p = 1024) := fun p h1 h2 h3 => cutN_ge h1 h2 h3
  have HC3 : Hid (cutN n ≤ 1024) := cutN_le n
  obtain ⟨X, hX⟩ : ∃ X, nextP (cutN n) = X := ⟨_, rfl⟩
  rw [hX] at HNX
  have HX := Lib.hid hX
  clear hX
  generalize cutN n = cn at *
  go_enter Tryd.func5, Tryd.ntmps5
  go_wp2_with fail
  refine (HAW.out _ hT).mono ?_
  rintro e w2 ⟨rfl, hb2⟩
  replace hb00 := bl_call hb00 (Nat.le_refl _) hb2
  clear hb2 hT HAW
  have HCASE : Hid ((F = 1 ∨ F = 2) ∨ (¬ (F = 1) ∧ ¬ (F = 2))) := by show _ ∨ _; omega
  have HV3 := Lib.hid (fun hF wz => ntt_Values_kind F hF (.slice A m c) wz)
  have HC9 := Lib.hid (fun hF wz => ntt_Coefs_kind F hF (.slice A m c) wz)
  have HP9 := Lib.hid (fun hF wz => ntt_Points_kind F hF k wz)
  by_cases hp : ∃ i : Nat, i ≤ 10 ∧ n = ((2 ^ i : Nat) : Int)
  · obtain ⟨i, hi, hni⟩ := hp
    have HL1 : Hid (∀ wz, Below w.heap.size w wz → Calls Tryd.prog 26 #[.int .i64 n] wz fun e w' => e = .returned (.tuple #[.int .i64 i, .bool true]) ∧ wz = w') := fun wz hb => by rw [hni]; exact ntt_Log_ok i hi wz (HTB.out.call hb)
    have HL2 : Hid (∀ wz, Calls Tryd.prog 24 #[.int .i64 n] wz fun e w' => e = .returned (.int .i64 i) ∧ wz = w') := fun wz => by rw [hni]; exact law04_log_ok i hi wz
    clear hni
    go_wp2_with fail
    refine (HL1.out _ hb00).mono ?_
    rintro e w' ⟨rfl, rfl⟩
    go_wp2_with fail
    refine (HL2.out _).mono ?_
    rintro e w' ⟨rfl, rfl⟩
    go_wp2_with fail
    go_loopw [12] (fun o wr => ∃ p : Nat, o = .int .i64 p ∧ Hid (OnWay cn p) ∧ p ≤ 1024 ∧ Below w.heap.size w wr) (fun o _ => 1024 - (intOf o).toNat)
    case atStart => exact ⟨1, rfl, onWay_one cn, by omega, hb00⟩
    case round =>
      clear hb00
      obtain ⟨p, rfl, hp, hp2, hb00⟩ := hrel
      have h4 := (onWay_le hp.out).1
      by_cases hlt : p < cn
      · obtain ⟨h0, h1⟩ := HC1.out p h4 hlt
        have h2 := onWay_next hp.out hlt h1
        have h3 := (onWay_le h2).2
        have H2 := Lib.hid h2
        clear h2
        go_wp2_with fail
        go_roundw
        case rel => exact ⟨2 * p, by go_num, H2.out, h3, hb00⟩
        case measure => simp [intOf]; omega
      · have hpX : p = X := (onWay_end hp.out HC3.out hlt).symm.trans HX.out
        have HOUT := Lib.hid (HC2.out p h4 hlt hp2)
        subst hpX
        clear hlt
        by_cases h8 : (p : Int) < n
        · have h7 : ¬ (p < 1024) := by have := HOUT.out; omega
          rcases HCASE.out with (hF1 | hF1) | hF1
          · have HFF : Hid (F = ((1 : Nat) : Int)) := hF1
            have HFI : Hid (IsF 1) := isF1
            have t1 : (F == 1) = true := by rw [beq_iff_eq]; exact hF1
            have t2 : (F != 1) = false := by rw [bne, t1]; rfl
            clear hF1
            by_cases hk : 0 ≤ k ∧ k ≤ 10
            · obtain ⟨L, hL⟩ : ∃ L : Nat, k = (L : Int) := ⟨k.toNat, by omega⟩
              have hL10 : L ≤ 10 := by omega
              have HPT : Hid (∀ wz, Calls Tryd.prog 23 #[.int .u8 F, .int .i64 k] wz fun e w' => ∃ (A : Option Addr) (c : Nat), e = .returned (.tuple #[.slice A (2 ^ L) c, .int .i64 0]) ∧ Below wz.heap.size wz w') := fun wz => by
                rw [HFF.out, hL]
                refine (ntt_Points HFI.out L hL10 wz).mono ?_
                rintro e w' ⟨v, rfl, ho, hb⟩
                rw [pows_length] at ho
                obtain ⟨A, c, rfl⟩ := own_shape ho
                exact ⟨A, c, rfl, hb⟩
              have hp : 2 ^ L ≤ 2 ^ 10 := Nat.pow_le_pow_right (by omega) hL10
              have hpi : (2 : Int) ^ L = ((2 ^ L : Nat) : Int) := by rw [Int.natCast_pow]; rfl
              have g1 : ¬ (k < 0) := by omega
              have g2 : ¬ (10 < k) := by omega
              subst hL
              obtain ⟨N, hN⟩ : ∃ N, 2 ^ L = N := ⟨_, rfl⟩
              rw [hN] at HPT hp hpi
              clear hN hk
              go_wp2_with fail
              refine (HPT.out _).mono ?_
              rintro e w3 ⟨A3, c3, rfl, hb3⟩
              replace hb00 := bl_call hb00 (Nat.le_refl _) hb3
              clear hb3
              go_wp2_with fail
              refine (HNX.out _).mono ?_
              rintro e w' ⟨rfl, rfl⟩
              by_cases hz : ∃ i : Nat, i ≤ 10 ∧ m = 2 ^ i
              · obtain ⟨i9, hi9, hmz⟩ := hz
                have HVV : Hid (∀ wz, Below w.heap.size w wz → Calls Tryd.prog 18 #[.int .u8 F, .slice A m c] wz (RetBlkE0 (2 ^ i9) wz)) := fun wz hb => by
                  rw [HFF.out]
                  exact ntt_Values_E HFI.out i9 hi9 _ l (by rw [HM.out]; exact hmz) wz (HTB.out.call hb) (HL.out.later hb)
                have HCC : Hid (∀ wz, Below w.heap.size w wz → Calls Tryd.prog 20 #[.int .u8 F, .slice A m c] wz (RetBlkE0 (2 ^ i9) wz)) := fun wz hb => by
                  rw [HFF.out]
                  exact ntt_Coefs_E HFI.out i9 hi9 _ l (by rw [HM.out]; exact hmz) wz (HTB.out.call hb) (HL.out.later hb)
                have HLN : Hid (∀ wz, Calls Tryd.prog 24 #[.int .i64 m] wz fun e w' => e = .returned (.int .i64 i9) ∧ wz = w') := fun wz => by rw [hmz]; exact law04_log_ok i9 hi9 wz
                clear hmz
                go_wp2_with fail
                refine (HVV.out _ hb00).mono ?_
                rintro e w5 ⟨g5, S5, rfl, _, _, _, _, hb5⟩
                replace hb00 := bl_call hb00 (Nat.le_refl _) hb5
                clear hb5
                go_wp2_with fail
                refine (HCC.out _ hb00).mono ?_
                rintro e w6 ⟨g6, S6, rfl, _, _, _, _, hb6⟩
                replace hb00 := bl_call hb00 (Nat.le_refl _) hb6
                clear hb6
                go_wp2_with fail
                refine (HLN.out _).mono ?_
                rintro e w' ⟨rfl, rfl⟩
                go_wp2_with fail
                go_ret
                exact ⟨rfl, hb00⟩
              · have HZ : ∀ i : Nat, i ≤ 10 → m ≠ 2 ^ i := fun i h1 h2 => hz ⟨i, h1, h2⟩
                have HVV : Hid (∀ wz, Calls Tryd.prog 18 #[.int .u8 F, .slice A m c] wz (RetE9 9 wz)) := fun wz => by
                  rw [HFF.out]
                  exact ntt_Values_size HFI.out A m c HZ wz
                have HCC : Hid (∀ wz, Calls Tryd.prog 20 #[.int .u8 F, .slice A m c] wz (RetE9 9 wz)) := fun wz => by
                  rw [HFF.out]
                  exact ntt_Coefs_size HFI.out A m c HZ wz
                have HLN : Hid (∀ wz, Calls Tryd.prog 24 #[.int .i64 m] wz fun e w' => e = .returned (.int .i64 (-1)) ∧ wz = w') := fun wz => law04_log_no m wz (fun i h1 h2 => HZ i h1 (by exact_mod_cast h2))
                clear hz HZ
                go_wp2_with fail
                refine (HVV.out _).mono ?_
                rintro e w5 ⟨rfl, hb5⟩
                replace hb00 := bl_call hb00 (Nat.le_refl _) hb5
                clear hb5
                go_wp2_with fail
                refine (HCC.out _).mono ?_
                rintro e w6 ⟨rfl, hb6⟩
                replace hb00 := bl_call hb00 (Nat.le_refl _) hb6
                clear hb6
                go_wp2_with fail
                refine (HLN.out _).mono ?_
                rintro e w' ⟨rfl, rfl⟩
                go_wp2_with fail
                go_ret
                exact ⟨rfl, hb00⟩
            · have HPT : Hid (∀ wz, Calls Tryd.prog 23 #[.int .u8 F, .int .i64 k] wz (RetE9 6 wz)) := fun wz => by
                rw [HFF.out]
                exact ntt_Points_range HFI.out k (by omega) wz
              have hk2 : k < 0 ∨ 10 < k := by omega
              clear hk
              go_wp2_with fail
              refine (HPT.out _).mono ?_
              rintro e w3 ⟨rfl, hb3⟩
              replace hb00 := bl_call hb00 (Nat.le_refl _) hb3
              clear hb3
              rcases hk2 with hk | hk
              · go_wp2_with fail
                refine (HNX.out _).mono ?_
                rintro e w' ⟨rfl, rfl⟩
                by_cases hz : ∃ i : Nat, i ≤ 10 ∧ m = 2 ^ i
                · obtain ⟨i9, hi9, hmz⟩ := hz
                  have HVV : Hid (∀ wz, Below w.heap.size w wz → Calls Tryd.prog 18 #[.int .u8 F, .slice A m c] wz (RetBlkE0 (2 ^ i9) wz)) := fun wz hb => by
                    rw [HFF.out]
                    exact ntt_Values_E HFI.out i9 hi9 _ l (by rw [HM.out]; exact hmz) wz (HTB.out.call hb) (HL.out.later hb)
                  have HCC : Hid (∀ wz, Below w.heap.size w wz → Calls Tryd.prog 20 #[.int .u8 F, .slice A m c] wz (RetBlkE0 (2 ^ i9) wz)) := fun wz hb => by
                    rw [HFF.out]
                    exact ntt_Coefs_E HFI.out i9 hi9 _ l (by rw [HM.out]; exact hmz) wz (HTB.out.call hb) (HL.out.later hb)
                  have HLN : Hid (∀ wz, Calls Tryd.prog 24 #[.int .i64 m] wz fun e w' => e = .returned (.int .i64 i9) ∧ wz = w') := fun wz => by rw [hmz]; exact law04_log_ok i9 hi9 wz
                  clear hmz
                  go_wp2_with fail
                  refine (HVV.out _ hb00).mono ?_
                  rintro e w5 ⟨g5, S5, rfl, _, _, _, _, hb5⟩
                  replace hb00 := bl_call hb00 (Nat.le_refl _) hb5
                  clear hb5
                  go_wp2_with fail
                  refine (HCC.out _ hb00).mono ?_
                  rintro e w6 ⟨g6, S6, rfl, _, _, _, _, hb6⟩
                  replace hb00 := bl_call hb00 (Nat.le_refl _) hb6
                  clear hb6
                  go_wp2_with fail
                  refine (HLN.out _).mono ?_
                  rintro e w' ⟨rfl, rfl⟩
                  go_wp2_with fail
                  go_ret
                  exact ⟨rfl, hb00⟩
                · have HZ : ∀ i : Nat, i ≤ 10 → m ≠ 2 ^ i := fun i h1 h2 => hz ⟨i, h1, h2⟩
                  have HVV : Hid (∀ wz, Calls Tryd.prog 18 #[.int .u8 F, .slice A m c] wz (RetE9 9 wz)) := fun wz => by
                    rw [HFF.out]
                    exact ntt_Values_size HFI.out A m c HZ wz
                  have HCC : Hid (∀ wz, Calls Tryd.prog 20 #[.int .u8 F, .slice A m c] wz (RetE9 9 wz)) := fun wz => by
                    rw [HFF.out]
                    exact ntt_Coefs_size HFI.out A m c HZ wz
                  have HLN : Hid (∀ wz, Calls Tryd.prog 24 #[.int .i64 m] wz fun e w' => e = .returned (.int .i64 (-1)) ∧ wz = w') := fun wz => law04_log_no m wz (fun i h1 h2 => HZ i h1 (by exact_mod_cast h2))
                  clear hz HZ
                  go_wp2_with fail
                  refine (HVV.out _).mono ?_
                  rintro e w5 ⟨rfl, hb5⟩
                  replace hb00 := bl_call hb00 (Nat.le_refl _) hb5
                  clear hb5
                  go_wp2_with fail
                  refine (HCC.out _).mono ?_
                  rintro e w6 ⟨rfl, hb6⟩
                  replace hb00 := bl_call hb00 (Nat.le_refl _) hb6
                  clear hb6
                  go_wp2_with fail
                  refine (HLN.out _).mono ?_
                  rintro e w' ⟨rfl, rfl⟩
                  go_wp2_with fail
                  go_ret
                  exact ⟨rfl, hb00⟩
              · have hk3 : ¬ (k < 0) := by omega
                go_wp2_with fail
                refine (HNX.out _).mono ?_
                rintro e w' ⟨rfl, rfl⟩
                by_cases hz : ∃ i : Nat, i ≤ 10 ∧ m = 2 ^ i
                · obtain ⟨i9, hi9, hmz⟩ := hz
                  have HVV : Hid (∀ wz, Below w.heap.size w wz → Calls Tryd.prog 18 #[.int .u8 F, .slice A m c] wz (RetBlkE0 (2 ^ i9) wz)) := fun wz hb => by
                    rw [HFF.out]
                    exact ntt_Values_E HFI.out i9 hi9 _ l (by rw [HM.out]; exact hmz) wz (HTB.out.call hb) (HL.out.later hb)
                  have HCC : Hid (∀ wz, Below w.heap.size w wz → Calls Tryd.prog 20 #[.int .u8 F, .slice A m c] wz (RetBlkE0 (2 ^ i9) wz)) := fun wz hb => by
                    rw [HFF.out]
                    exact ntt_Coefs_E HFI.out i9 hi9 _ l (by rw [HM.out]; exact hmz) wz (HTB.out.call hb) (HL.out.later hb)
                  have HLN : Hid (∀ wz, Calls Tryd.prog 24 #[.int .i64 m] wz fun e w' => e = .returned (.int .i64 i9) ∧ wz = w') := fun wz => by rw [hmz]; exact law04_log_ok i9 hi9 wz
                  clear hmz
                  go_wp2_with fail
                  refine (HVV.out _ hb00).mono ?_
                  rintro e w5 ⟨g5, S5, rfl, _, _, _, _, hb5⟩
                  replace hb00 := bl_call hb00 (Nat.le_refl _) hb5
                  clear hb5
                  go_wp2_with fail
                  refine (HCC.out _ hb00).mono ?_
                  rintro e w6 ⟨g6, S6, rfl, _, _, _, _, hb6⟩
                  replace hb00 := bl_call hb00 (Nat.le_refl _) hb6
                  clear hb6
                  go_wp2_with fail
                  refine (HLN.out _).mono ?_
                  rintro e w' ⟨rfl, rfl⟩
                  go_wp2_with fail
                  go_ret
                  exact ⟨rfl, hb00⟩
                · have HZ : ∀ i : Nat, i ≤ 10 → m ≠ 2 ^ i := fun i h1 h2 => hz ⟨i, h1, h2⟩
                  have HVV : Hid (∀ wz, Calls Tryd.prog 18 #[.int .u8 F, .slice A m c] wz (RetE9 9 wz)) := fun wz => by
                    rw [HFF.out]
                    exact ntt_Values_size HFI.out A m c HZ wz
                  have HCC : Hid (∀ wz, Calls Tryd.prog 20 #[.int .u8 F, .slice A m c] wz (RetE9 9 wz)) := fun wz => by
                    rw [HFF.out]
                    exact ntt_Coefs_size HFI.out A m c HZ wz
                  have HLN : Hid (∀ wz, Calls Tryd.prog 24 #[.int .i64 m] wz fun e w' => e = .returned (.int .i64 (-1)) ∧ wz = w') := fun wz => law04_log_no m wz (fun i h1 h2 => HZ i h1 (by exact_mod_cast h2))
                  clear hz HZ
                  go_wp2_with fail
                  refine (HVV.out _).mono ?_
                  rintro e w5 ⟨rfl, hb5⟩
                  replace hb00 := bl_call hb00 (Nat.le_refl _) hb5
                  clear hb5
                  go_wp2_with fail
                  refine (HCC.out _).mono ?_
                  rintro e w6 ⟨rfl, hb6⟩
                  replace hb00 := bl_call hb00 (Nat.le_refl _) hb6
                  clear hb6
                  go_wp2_with fail
                  refine (HLN.out _).mono ?_
                  rintro e w' ⟨rfl, rfl⟩
                  go_wp2_with fail
                  go_ret
                  exact ⟨rfl, hb00⟩
          · have HFF : Hid (F = ((2 : Nat) : Int)) := hF1
            have HFI : Hid (IsF 2) := isF2
            have t1 : (F == 1) = false := by rw [beq_eq_false_iff_ne]; omega
            have t2 : (F != 1) = true := by rw [bne, t1]; rfl
            have t3 : (F == 2) = true := by rw [beq_iff_eq]; exact hF1
            have t4 : (F != 2) = false := by rw [bne, t3]; rfl
            clear hF1
            by_cases hk : 0 ≤ k ∧ k ≤ 10
            · obtain ⟨L, hL⟩ : ∃ L : Nat, k = (L : Int) := ⟨k.toNat, by omega⟩
              have hL10 : L ≤ 10 := by omega
              have HPT : Hid (∀ wz, Calls Tryd.prog 23 #[.int .u8 F, .int .i64 k] wz fun e w' => ∃ (A : Option Addr) (c : Nat), e = .returned (.tuple #[.slice A (2 ^ L) c, .int .i64 0]) ∧ Below wz.heap.size wz w') := fun wz => by
                rw [HFF.out, hL]
                refine (ntt_Points HFI.out L hL10 wz).mono ?_
                rintro e w' ⟨v, rfl, ho, hb⟩
                rw [pows_length] at ho
                obtain ⟨A, c, rfl⟩ := own_shape ho
                exact ⟨A, c, rfl, hb⟩
              have hp : 2 ^ L ≤ 2 ^ 10 := Nat.pow_le_pow_right (by omega) hL10
              have hpi : (2 : Int) ^ L = ((2 ^ L : Nat) : Int) := by rw [Int.natCast_pow]; rfl
              have g1 : ¬ (k < 0) := by omega
              have g2 : ¬ (10 < k) := by omega
              subst hL
              obtain ⟨N, hN⟩ : ∃ N, 2 ^ L = N := ⟨_, rfl⟩
              rw [hN] at HPT hp hpi
              clear hN hk
              go_wp2_with fail
              refine (HPT.out _).mono ?_
              rintro e w3 ⟨A3, c3, rfl, hb3⟩
              replace hb00 := bl_call hb00 (Nat.le_refl _) hb3
              clear hb3
              go_wp2_with fail
              refine (HNX.out _).mono ?_
              rintro e w' ⟨rfl, rfl⟩
              by_cases hz : ∃ i : Nat, i ≤ 10 ∧ m = 2 ^ i
              · obtain ⟨i9, hi9, hmz⟩ := hz
                have HVV : Hid (∀ wz, Below w.heap.size w wz → Calls Tryd.prog 18 #[.int .u8 F, .slice A m c] wz (RetBlkE0 (2 ^ i9) wz)) := fun wz hb => by
                  rw [HFF.out]
                  exact ntt_Values_E HFI.out i9 hi9 _ l (by rw [HM.out]; exact hmz) wz (HTB.out.call hb) (HL.out.later hb)
                have HCC : Hid (∀ wz, Below w.heap.size w wz → Calls Tryd.prog 20 #[.int .u8 F, .slice A m c] wz (RetBlkE0 (2 ^ i9) wz)) := fun wz hb => by
                  rw [HFF.out]
                  exact ntt_Coefs_E HFI.out i9 hi9 _ l (by rw [HM.out]; exact hmz) wz (HTB.out.call hb) (HL.out.later hb)
                have HLN : Hid (∀ wz, Calls Tryd.prog 24 #[.int .i64 m] wz fun e w' => e = .returned (.int .i64 i9) ∧ wz = w') := fun wz => by rw [hmz]; exact law04_log_ok i9 hi9 wz
                clear hmz
                go_wp2_with fail
                refine (HVV.out _ hb00).mono ?_
                rintro e w5 ⟨g5, S5, rfl, _, _, _, _, hb5⟩
                replace hb00 := bl_call hb00 (Nat.le_refl _) hb5
                clear hb5
                go_wp2_with fail
                refine (HCC.out _ hb00).mono ?_
                rintro e w6 ⟨g6, S6, rfl, _, _, _, _, hb6⟩
                replace hb00 := bl_call hb00 (Nat.le_refl _) hb6
                clear hb6
                go_wp2_with fail
                refine (HLN.out _).mono ?_
                rintro e w' ⟨rfl, rfl⟩
                go_wp2_with fail
                go_ret
                exact ⟨rfl, hb00⟩
              · have HZ : ∀ i : Nat, i ≤ 10 → m ≠ 2 ^ i := fun i h1 h2 => hz ⟨i, h1, h2⟩
                have HVV : Hid (∀ wz, Calls Tryd.prog 18 #[.int .u8 F, .slice A m c] wz (RetE9 9 wz)) := fun wz => by
                  rw [HFF.out]
                  exact ntt_Values_size HFI.out A m c HZ wz
                have HCC : Hid (∀ wz, Calls Tryd.prog 20 #[.int .u8 F, .slice A m c] wz (RetE9 9 wz)) := fun wz => by
                  rw [HFF.out]
                  exact ntt_Coefs_size HFI.out A m c HZ wz
                have HLN : Hid (∀ wz, Calls Tryd.prog 24 #[.int .i64 m] wz fun e w' => e = .returned (.int .i64 (-1)) ∧ wz = w') := fun wz => law04_log_no m wz (fun i h1 h2 => HZ i h1 (by exact_mod_cast h2))
                clear hz HZ
                go_wp2_with fail
                refine (HVV.out _).mono ?_
                rintro e w5 ⟨rfl, hb5⟩
                replace hb00 := bl_call hb00 (Nat.le_refl _) hb5
                clear hb5
                go_wp2_with fail
                refine (HCC.out _).mono ?_
                rintro e w6 ⟨rfl, hb6⟩
                replace hb00 := bl_call hb00 (Nat.le_refl _) hb6
                clear hb6
                go_wp2_with fail
                refine (HLN.out _).mono ?_
                rintro e w' ⟨rfl, rfl⟩
                go_wp2_with fail
                go_ret
                exact ⟨rfl, hb00⟩
            · have HPT : Hid (∀ wz, Calls Tryd.prog 23 #[.int .u8 F, .int .i64 k] wz (RetE9 6 wz)) := fun wz => by
                rw [HFF.out]
                exact ntt_Points_range HFI.out k (by omega) wz
              have hk2 : k < 0 ∨ 10 < k := by omega
              clear hk
              go_wp2_with fail
              refine (HPT.out _).mono ?_
              rintro e w3 ⟨rfl, hb3⟩
              replace hb00 := bl_call hb00 (Nat.le_refl _) hb3
              clear hb3
              rcases hk2 with hk | hk
              · go_wp2_with fail
                refine (HNX.out _).mono ?_
                rintro e w' ⟨rfl, rfl⟩
                by_cases hz : ∃ i : Nat, i ≤ 10 ∧ m = 2 ^ i
                · obtain ⟨i9, hi9, hmz⟩ := hz
                  have HVV : Hid (∀ wz, Below w.heap.size w wz → Calls Tryd.prog 18 #[.int .u8 F, .slice A m c] wz (RetBlkE0 (2 ^ i9) wz)) := fun wz hb => by
                    rw [HFF.out]
                    exact ntt_Values_E HFI.out i9 hi9 _ l (by rw [HM.out]; exact hmz) wz (HTB.out.call hb) (HL.out.later hb)
                  have HCC : Hid (∀ wz, Below w.heap.size w wz → Calls Tryd.prog 20 #[.int .u8 F, .slice A m c] wz (RetBlkE0 (2 ^ i9) wz)) := fun wz hb => by
                    rw [HFF.out]
                    exact ntt_Coefs_E HFI.out i9 hi9 _ l (by rw [HM.out]; exact hmz) wz (HTB.out.call hb) (HL.out.later hb)
                  have HLN : Hid (∀ wz, Calls Tryd.prog 24 #[.int .i64 m] wz fun e w' => e = .returned (.int .i64 i9) ∧ wz = w') := fun wz => by rw [hmz]; exact law04_log_ok i9 hi9 wz
                  clear hmz
                  go_wp2_with fail
                  refine (HVV.out _ hb00).mono ?_
                  rintro e w5 ⟨g5, S5, rfl, _, _, _, _, hb5⟩
                  replace hb00 := bl_call hb00 (Nat.le_refl _) hb5
                  clear hb5
                  go_wp2_with fail
                  refine (HCC.out _ hb00).mono ?_
                  rintro e w6 ⟨g6, S6, rfl, _, _, _, _, hb6⟩
                  replace hb00 := bl_call hb00 (Nat.le_refl _) hb6
                  clear hb6
                  go_wp2_with fail
                  refine (HLN.out _).mono ?_
                  rintro e w' ⟨rfl, rfl⟩
                  go_wp2_with fail
                  go_ret
                  exact ⟨rfl, hb00⟩
                · have HZ : ∀ i : Nat, i ≤ 10 → m ≠ 2 ^ i := fun i h1 h2 => hz ⟨i, h1, h2⟩
                  have HVV : Hid (∀ wz, Calls Tryd.prog 18 #[.int .u8 F, .slice A m c] wz (RetE9 9 wz)) := fun wz => by
                    rw [HFF.out]
                    exact ntt_Values_size HFI.out A m c HZ wz
                  have HCC : Hid (∀ wz, Calls Tryd.prog 20 #[.int .u8 F, .slice A m c] wz (RetE9 9 wz)) := fun wz => by
                    rw [HFF.out]
                    exact ntt_Coefs_size HFI.out A m c HZ wz
                  have HLN : Hid (∀ wz, Calls Tryd.prog 24 #[.int .i64 m] wz fun e w' => e = .returned (.int .i64 (-1)) ∧ wz = w') := fun wz => law04_log_no m wz (fun i h1 h2 => HZ i h1 (by exact_mod_cast h2))
                  clear hz HZ
                  go_wp2_with fail
                  refine (HVV.out _).mono ?_
                  rintro e w5 ⟨rfl, hb5⟩
                  replace hb00 := bl_call hb00 (Nat.le_refl _) hb5
                  clear hb5
                  go_wp2_with fail
                  refine (HCC.out _).mono ?_
                  rintro e w6 ⟨rfl, hb6⟩
                  replace hb00 := bl_call hb00 (Nat.le_refl _) hb6
                  clear hb6
                  go_wp2_with fail
                  refine (HLN.out _).mono ?_
                  rintro e w' ⟨rfl, rfl⟩
                  go_wp2_with fail
                  go_ret
                  exact ⟨rfl, hb00⟩
              · have hk3 : ¬ (k < 0) := by omega
                go_wp2_with fail
                refine (HNX.out _).mono ?_
                rintro e w' ⟨rfl, rfl⟩
                by_cases hz : ∃ i : Nat, i ≤ 10 ∧ m = 2 ^ i
                · obtain ⟨i9, hi9, hmz⟩ := hz
                  have HVV : Hid (∀ wz, Below w.heap.size w wz → Calls Tryd.prog 18 #[.int .u8 F, .slice A m c] wz (RetBlkE0 (2 ^ i9) wz)) := fun wz hb => by
                    rw [HFF.out]
                    exact ntt_Values_E HFI.out i9 hi9 _ l (by rw [HM.out]; exact hmz) wz (HTB.out.call hb) (HL.out.later hb)
                  have HCC : Hid (∀ wz, Below w.heap.size w wz → Calls Tryd.prog 20 #[.int .u8 F, .slice A m c] wz (RetBlkE0 (2 ^ i9) wz)) := fun wz hb => by
                    rw [HFF.out]
                    exact ntt_Coefs_E HFI.out i9 hi9 _ l (by rw [HM.out]; exact hmz) wz (HTB.out.call hb) (HL.out.later hb)
                  have HLN : Hid (∀ wz, Calls Tryd.prog 24 #[.int .i64 m] wz fun e w' => e = .returned (.int .i64 i9) ∧ wz = w') := fun wz => by rw [hmz]; exact law04_log_ok i9 hi9 wz
                  clear hmz
                  go_wp2_with fail
                  refine (HVV.out _ hb00).mono ?_
                  rintro e w5 ⟨g5, S5, rfl, _, _, _, _, hb5⟩
                  replace hb00 := bl_call hb00 (Nat.le_refl _) hb5
                  clear hb5
                  go_wp2_with fail
                  refine (HCC.out _ hb00).mono ?_
                  rintro e w6 ⟨g6, S6, rfl, _, _, _, _, hb6⟩
                  replace hb00 := bl_call hb00 (Nat.le_refl _) hb6
                  clear hb6
                  go_wp2_with fail
                  refine (HLN.out _).mono ?_
                  rintro e w' ⟨rfl, rfl⟩
                  go_wp2_with fail
                  go_ret
                  exact ⟨rfl, hb00⟩
                · have HZ : ∀ i : Nat, i ≤ 10 → m ≠ 2 ^ i := fun i h1 h2 => hz ⟨i, h1, h2⟩
                  have HVV : Hid (∀ wz, Calls Tryd.prog 18 #[.int .u8 F, .slice A m c] wz (RetE9 9 wz)) := fun wz => by
                    rw [HFF.out]
                    exact ntt_Values_size HFI.out A m c HZ wz
                  have HCC : Hid (∀ wz, Calls Tryd.prog 20 #[.int .u8 F, .slice A m c] wz (RetE9 9 wz)) := fun wz => by
                    rw [HFF.out]
                    exact ntt_Coefs_size HFI.out A m c HZ wz
                  have HLN : Hid (∀ wz, Calls Tryd.prog 24 #[.int .i64 m] wz fun e w' => e = .returned (.int .i64 (-1)) ∧ wz = w') := fun wz => law04_log_no m wz (fun i h1 h2 => HZ i h1 (by exact_mod_cast h2))
                  clear hz HZ
                  go_wp2_with fail
                  refine (HVV.out _).mono ?_
                  rintro e w5 ⟨rfl, hb5⟩
                  replace hb00 := bl_call hb00 (Nat.le_refl _) hb5
                  clear hb5
                  go_wp2_with fail
                  refine (HCC.out _).mono ?_
                  rintro e w6 ⟨rfl, hb6⟩
                  replace hb00 := bl_call hb00 (Nat.le_refl _) hb6
                  clear hb6
                  go_wp2_with fail
                  refine (HLN.out _).mono ?_
                  rintro e w' ⟨rfl, rfl⟩
                  go_wp2_with fail
                  go_ret
                  exact ⟨rfl, hb00⟩
          · have t1 : (F == 1) = false := by rw [beq_eq_false_iff_ne]; exact hF1.1
            have t2 : (F != 1) = true := by rw [bne, t1]; rfl
            have t3 : (F == 2) = false := by rw [beq_eq_false_iff_ne]; exact hF1.2
            have t4 : (F != 2) = true := by rw [bne, t3]; rfl
            have HP9 := Lib.hid (HP9.out hF1)
            have HV3 := Lib.hid (HV3.out hF1)
            have HC9 := Lib.hid (HC9.out hF1)
            clear hF1
            go_wp2_with fail
            refine (HP9.out _).mono ?_
            rintro e w3 ⟨rfl, hb3⟩
            replace hb00 := bl_call hb00 (Nat.le_refl _) hb3
            clear hb3
            go_wp2_with fail
            refine (HNX.out _).mono ?_
            rintro e w' ⟨rfl, rfl⟩
            go_wp2_with fail
            refine (HV3.out _).mono ?_
            rintro e w5 ⟨rfl, hb5⟩
            replace hb00 := bl_call hb00 (Nat.le_refl _) hb5
            clear hb5
            go_wp2_with fail
            refine (HC9.out _).mono ?_
            rintro e w6 ⟨rfl, hb6⟩
            replace hb00 := bl_call hb00 (Nat.le_refl _) hb6
            clear hb6
            go_wp2_with fail
            go_ret
            exact ⟨rfl, hb00⟩
        · skip
          rcases HCASE.out with (hF1 | hF1) | hF1
          · have HFF : Hid (F = ((1 : Nat) : Int)) := hF1
            have HFI : Hid (IsF 1) := isF1
            have t1 : (F == 1) = true := by rw [beq_iff_eq]; exact hF1
            have t2 : (F != 1) = false := by rw [bne, t1]; rfl
            clear hF1
            by_cases hk : 0 ≤ k ∧ k ≤ 10
            · obtain ⟨L, hL⟩ : ∃ L : Nat, k = (L : Int) := ⟨k.toNat, by omega⟩
              have hL10 : L ≤ 10 := by omega
              have HPT : Hid (∀ wz, Calls Tryd.prog 23 #[.int .u8 F, .int .i64 k] wz fun e w' => ∃ (A : Option Addr) (c : Nat), e = .returned (.tuple #[.slice A (2 ^ L) c, .int .i64 0]) ∧ Below wz.heap.size wz w') := fun wz => by
                rw [HFF.out, hL]
                refine (ntt_Points HFI.out L hL10 wz).mono ?_
                rintro e w' ⟨v, rfl, ho, hb⟩
                rw [pows_length] at ho
                obtain ⟨A, c, rfl⟩ := own_shape ho
                exact ⟨A, c, rfl, hb⟩
              have hp : 2 ^ L ≤ 2 ^ 10 := Nat.pow_le_pow_right (by omega) hL10
              have hpi : (2 : Int) ^ L = ((2 ^ L : Nat) : Int) := by rw [Int.natCast_pow]; rfl
              have g1 : ¬ (k < 0) := by omega
              have g2 : ¬ (10 < k) := by omega
              subst hL
              obtain ⟨N, hN⟩ : ∃ N, 2 ^ L = N := ⟨_, rfl⟩
              rw [hN] at HPT hp hpi
              clear hN hk
              go_wp2_with fail
              refine (HPT.out _).mono ?_
              rintro e w3 ⟨A3, c3, rfl, hb3⟩
              replace hb00 := bl_call hb00 (Nat.le_refl _) hb3
              clear hb3
              go_wp2_with fail
              refine (HNX.out _).mono ?_
              rintro e w' ⟨rfl, rfl⟩
              by_cases hz : ∃ i : Nat, i ≤ 10 ∧ m = 2 ^ i
              · obtain ⟨i9, hi9, hmz⟩ := hz
                have HVV : Hid (∀ wz, Below w.heap.size w wz → Calls Tryd.prog 18 #[.int .u8 F, .slice A m c] wz (RetBlkE0 (2 ^ i9) wz)) := fun wz hb => by
                  rw [HFF.out]
                  exact ntt_Values_E HFI.out i9 hi9 _ l (by rw [HM.out]; exact hmz) wz (HTB.out.call hb) (HL.out.later hb)
                have HCC : Hid (∀ wz, Below w.heap.size w wz → Calls Tryd.prog 20 #[.int .u8 F, .slice A m c] wz (RetBlkE0 (2 ^ i9) wz)) := fun wz hb => by
                  rw [HFF.out]
                  exact ntt_Coefs_E HFI.out i9 hi9 _ l (by rw [HM.out]; exact hmz) wz (HTB.out.call hb) (HL.out.later hb)
                have HLN : Hid (∀ wz, Calls Tryd.prog 24 #[.int .i64 m] wz fun e w' => e = .returned (.int .i64 i9) ∧ wz = w') := fun wz => by rw [hmz]; exact law04_log_ok i9 hi9 wz
                clear hmz
                go_wp2_with fail
                refine (HVV.out _ hb00).mono ?_
                rintro e w5 ⟨g5, S5, rfl, _, _, _, _, hb5⟩
                replace hb00 := bl_call hb00 (Nat.le_refl _) hb5
                clear hb5
                go_wp2_with fail
                refine (HCC.out _ hb00).mono ?_
                rintro e w6 ⟨g6, S6, rfl, _, _, _, _, hb6⟩
                replace hb00 := bl_call hb00 (Nat.le_refl _) hb6
                clear hb6
                go_wp2_with fail
                refine (HLN.out _).mono ?_
                rintro e w' ⟨rfl, rfl⟩
                go_wp2_with fail
                go_ret
                exact ⟨rfl, hb00⟩
              · have HZ : ∀ i : Nat, i ≤ 10 → m ≠ 2 ^ i := fun i h1 h2 => hz ⟨i, h1, h2⟩
                have HVV : Hid (∀ wz, Calls Tryd.prog 18 #[.int .u8 F, .slice A m c] wz (RetE9 9 wz)) := fun wz => by
                  rw [HFF.out]
                  exact ntt_Values_size HFI.out A m c HZ wz
                have HCC : Hid (∀ wz, Calls Tryd.prog 20 #[.int .u8 F, .slice A m c] wz (RetE9 9 wz)) := fun wz => by
                  rw [HFF.out]
                  exact ntt_Coefs_size HFI.out A m c HZ wz
                have HLN : Hid (∀ wz, Calls Tryd.prog 24 #[.int .i64 m] wz fun e w' => e = .returned (.int .i64 (-1)) ∧ wz = w') := fun wz => law04_log_no m wz (fun i h1 h2 => HZ i h1 (by exact_mod_cast h2))
                clear hz HZ
                go_wp2_with fail
                refine (HVV.out _).mono ?_
                rintro e w5 ⟨rfl, hb5⟩
                replace hb00 := bl_call hb00 (Nat.le_refl _) hb5
                clear hb5
                go_wp2_with fail
                refine (HCC.out _).mono ?_
                rintro e w6 ⟨rfl, hb6⟩
                replace hb00 := bl_call hb00 (Nat.le_refl _) hb6
                clear hb6
                go_wp2_with fail
                refine (HLN.out _).mono ?_
                rintro e w' ⟨rfl, rfl⟩
                go_wp2_with fail
                go_ret
                exact ⟨rfl, hb00⟩
            · have HPT : Hid (∀ wz, Calls Tryd.prog 23 #[.int .u8 F, .int .i64 k] wz (RetE9 6 wz)) := fun wz => by
                rw [HFF.out]
                exact ntt_Points_range HFI.out k (by omega) wz
              have hk2 : k < 0 ∨ 10 < k := by omega
              clear hk
              go_wp2_with fail
              refine (HPT.out _).mono ?_
              rintro e w3 ⟨rfl, hb3⟩
              replace hb00 := bl_call hb00 (Nat.le_refl _) hb3
              clear hb3
              rcases hk2 with hk | hk
              · go_wp2_with fail
                refine (HNX.out _).mono ?_
                rintro e w' ⟨rfl, rfl⟩
                by_cases hz : ∃ i : Nat, i ≤ 10 ∧ m = 2 ^ i
                · obtain ⟨i9, hi9, hmz⟩ := hz
                  have HVV : Hid (∀ wz, Below w.heap.size w wz → Calls Tryd.prog 18 #[.int .u8 F, .slice A m c] wz (RetBlkE0 (2 ^ i9) wz)) := fun wz hb => by
                    rw [HFF.out]
                    exact ntt_Values_E HFI.out i9 hi9 _ l (by rw [HM.out]; exact hmz) wz (HTB.out.call hb) (HL.out.later hb)
                  have HCC : Hid (∀ wz, Below w.heap.size w wz → Calls Tryd.prog 20 #[.int .u8 F, .slice A m c] wz (RetBlkE0 (2 ^ i9) wz)) := fun wz hb => by
                    rw [HFF.out]
                    exact ntt_Coefs_E HFI.out i9 hi9 _ l (by rw [HM.out]; exact hmz) wz (HTB.out.call hb) (HL.out.later hb)
                  have HLN : Hid (∀ wz, Calls Tryd.prog 24 #[.int .i64 m] wz fun e w' => e = .returned (.int .i64 i9) ∧ wz = w') := fun wz => by rw [hmz]; exact law04_log_ok i9 hi9 wz
                  clear hmz
                  go_wp2_with fail
                  refine (HVV.out _ hb00).mono ?_
                  rintro e w5 ⟨g5, S5, rfl, _, _, _, _, hb5⟩
                  replace hb00 := bl_call hb00 (Nat.le_refl _) hb5
                  clear hb5
                  go_wp2_with fail
                  refine (HCC.out _ hb00).mono ?_
                  rintro e w6 ⟨g6, S6, rfl, _, _, _, _, hb6⟩
                  replace hb00 := bl_call hb00 (Nat.le_refl _) hb6
                  clear hb6
                  go_wp2_with fail
                  refine (HLN.out _).mono ?_
                  rintro e w' ⟨rfl, rfl⟩
                  go_wp2_with fail
                  go_ret
                  exact ⟨rfl, hb00⟩
                · have HZ : ∀ i : Nat, i ≤ 10 → m ≠ 2 ^ i := fun i h1 h2 => hz ⟨i, h1, h2⟩
                  have HVV : Hid (∀ wz, Calls Tryd.prog 18 #[.int .u8 F, .slice A m c] wz (RetE9 9 wz)) := fun wz => by
                    rw [HFF.out]
                    exact ntt_Values_size HFI.out A m c HZ wz
                  have HCC : Hid (∀ wz, Calls Tryd.prog 20 #[.int .u8 F, .slice A m c] wz (RetE9 9 wz)) := fun wz => by
                    rw [HFF.out]
                    exact ntt_Coefs_size HFI.out A m c HZ wz
                  have HLN : Hid (∀ wz, Calls Tryd.prog 24 #[.int .i64 m] wz fun e w' => e = .returned (.int .i64 (-1)) ∧ wz = w') := fun wz => law04_log_no m wz (fun i h1 h2 => HZ i h1 (by exact_mod_cast h2))
                  clear hz HZ
                  go_wp2_with fail
                  refine (HVV.out _).mono ?_
                  rintro e w5 ⟨rfl, hb5⟩
                  replace hb00 := bl_call hb00 (Nat.le_refl _) hb5
                  clear hb5
                  go_wp2_with fail
                  refine (HCC.out _).mono ?_
                  rintro e w6 ⟨rfl, hb6⟩
                  replace hb00 := bl_call hb00 (Nat.le_refl _) hb6
                  clear hb6
                  go_wp2_with fail
                  refine (HLN.out _).mono ?_
                  rintro e w' ⟨rfl, rfl⟩
                  go_wp2_with fail
                  go_ret
                  exact ⟨rfl, hb00⟩
              · have hk3 : ¬ (k < 0) := by omega
                go_wp2_with fail
                refine (HNX.out _).mono ?_
                rintro e w' ⟨rfl, rfl⟩
                by_cases hz : ∃ i : Nat, i ≤ 10 ∧ m = 2 ^ i
                · obtain ⟨i9, hi9, hmz⟩ := hz
                  have HVV : Hid (∀ wz, Below w.heap.size w wz → Calls Tryd.prog 18 #[.int .u8 F, .slice A m c] wz (RetBlkE0 (2 ^ i9) wz)) := fun wz hb => by
                    rw [HFF.out]
                    exact ntt_Values_E HFI.out i9 hi9 _ l (by rw [HM.out]; exact hmz) wz (HTB.out.call hb) (HL.out.later hb)
                  have HCC : Hid (∀ wz, Below w.heap.size w wz → Calls Tryd.prog 20 #[.int .u8 F, .slice A m c] wz (RetBlkE0 (2 ^ i9) wz)) := fun wz hb => by
                    rw [HFF.out]
                    exact ntt_Coefs_E HFI.out i9 hi9 _ l (by rw [HM.out]; exact hmz) wz (HTB.out.call hb) (HL.out.later hb)
                  have HLN : Hid (∀ wz, Calls Tryd.prog 24 #[.int .i64 m] wz fun e w' => e = .returned (.int .i64 i9) ∧ wz = w') := fun wz => by rw [hmz]; exact law04_log_ok i9 hi9 wz
                  clear hmz
                  go_wp2_with fail
                  refine (HVV.out _ hb00).mono ?_
                  rintro e w5 ⟨g5, S5, rfl, _, _, _, _, hb5⟩
                  replace hb00 := bl_call hb00 (Nat.le_refl _) hb5
                  clear hb5
                  go_wp2_with fail
                  refine (HCC.out _ hb00).mono ?_
                  rintro e w6 ⟨g6, S6, rfl, _, _, _, _, hb6⟩
                  replace hb00 := bl_call hb00 (Nat.le_refl _) hb6
                  clear hb6
                  go_wp2_with fail
                  refine (HLN.out _).mono ?_
                  rintro e w' ⟨rfl, rfl⟩
                  go_wp2_with fail
                  go_ret
                  exact ⟨rfl, hb00⟩
                · have HZ : ∀ i : Nat, i ≤ 10 → m ≠ 2 ^ i := fun i h1 h2 => hz ⟨i, h1, h2⟩
                  have HVV : Hid (∀ wz, Calls Tryd.prog 18 #[.int .u8 F, .slice A m c] wz (RetE9 9 wz)) := fun wz => by
                    rw [HFF.out]
                    exact ntt_Values_size HFI.out A m c HZ wz
                  have HCC : Hid (∀ wz, Calls Tryd.prog 20 #[.int .u8 F, .slice A m c] wz (RetE9 9 wz)) := fun wz => by
                    rw [HFF.out]
                    exact ntt_Coefs_size HFI.out A m c HZ wz
                  have HLN : Hid (∀ wz, Calls Tryd.prog 24 #[.int .i64 m] wz fun e w' => e = .returned (.int .i64 (-1)) ∧ wz = w') := fun wz => law04_log_no m wz (fun i h1 h2 => HZ i h1 (by exact_mod_cast h2))
                  clear hz HZ
                  go_wp2_with fail
                  refine (HVV.out _).mono ?_
                  rintro e w5 ⟨rfl, hb5⟩
                  replace hb00 := bl_call hb00 (Nat.le_refl _) hb5
                  clear hb5
                  go_wp2_with fail
                  refine (HCC.out _).mono ?_
                  rintro e w6 ⟨rfl, hb6⟩
                  replace hb00 := bl_call hb00 (Nat.le_refl _) hb6
                  clear hb6
                  go_wp2_with fail
                  refine (HLN.out _).mono ?_
                  rintro e w' ⟨rfl, rfl⟩
                  go_wp2_with fail
                  go_ret
                  exact ⟨rfl, hb00⟩
          · have HFF : Hid (F = ((2 : Nat) : Int)) := hF1
            have HFI : Hid (IsF 2) := isF2
            have t1 : (F == 1) = false := by rw [beq_eq_false_iff_ne]; omega
            have t2 : (F != 1) = true := by rw [bne, t1]; rfl
            have t3 : (F == 2) = true := by rw [beq_iff_eq]; exact hF1
            have t4 : (F != 2) = false := by rw [bne, t3]; rfl
            clear hF1
            by_cases hk : 0 ≤ k ∧ k ≤ 10
            · obtain ⟨L, hL⟩ : ∃ L : Nat, k = (L : Int) := ⟨k.toNat, by omega⟩
              have hL10 : L ≤ 10 := by omega
              have HPT : Hid (∀ wz, Calls Tryd.prog 23 #[.int .u8 F, .int .i64 k] wz fun e w' => ∃ (A : Option Addr) (c : Nat), e = .returned (.tuple #[.slice A (2 ^ L) c, .int .i64 0]) ∧ Below wz.heap.size wz w') := fun wz => by
                rw [HFF.out, hL]
                refine (ntt_Points HFI.out L hL10 wz).mono ?_
                rintro e w' ⟨v, rfl, ho, hb⟩
                rw [pows_length] at ho
                obtain ⟨A, c, rfl⟩ := own_shape ho
                exact ⟨A, c, rfl, hb⟩
              have hp : 2 ^ L ≤ 2 ^ 10 := Nat.pow_le_pow_right (by omega) hL10
              have hpi : (2 : Int) ^ L = ((2 ^ L : Nat) : Int) := by rw [Int.natCast_pow]; rfl
              have g1 : ¬ (k < 0) := by omega
              have g2 : ¬ (10 < k) := by omega
              subst hL
              obtain ⟨N, hN⟩ : ∃ N, 2 ^ L = N := ⟨_, rfl⟩
              rw [hN] at HPT hp hpi
              clear hN hk
              go_wp2_with fail
              refine (HPT.out _).mono ?_
              rintro e w3 ⟨A3, c3, rfl, hb3⟩
              replace hb00 := bl_call hb00 (Nat.le_refl _) hb3
              clear hb3
              go_wp2_with fail
              refine (HNX.out _).mono ?_
              rintro e w' ⟨rfl, rfl⟩
              by_cases hz : ∃ i : Nat, i ≤ 10 ∧ m = 2 ^ i
              · obtain ⟨i9, hi9, hmz⟩ := hz
                have HVV : Hid (∀ wz, Below w.heap.size w wz → Calls Tryd.prog 18 #[.int .u8 F, .slice A m c] wz (RetBlkE0 (2 ^ i9) wz)) := fun wz hb => by
                  rw [HFF.out]
                  exact ntt_Values_E HFI.out i9 hi9 _ l (by rw [HM.out]; exact hmz) wz (HTB.out.call hb) (HL.out.later hb)
                have HCC : Hid (∀ wz, Below w.heap.size w wz → Calls Tryd.prog 20 #[.int .u8 F, .slice A m c] wz (RetBlkE0 (2 ^ i9) wz)) := fun wz hb => by
                  rw [HFF.out]
                  exact ntt_Coefs_E HFI.out i9 hi9 _ l (by rw [HM.out]; exact hmz) wz (HTB.out.call hb) (HL.out.later hb)
                have HLN : Hid (∀ wz, Calls Tryd.prog 24 #[.int .i64 m] wz fun e w' => e = .returned (.int .i64 i9) ∧ wz = w') := fun wz => by rw [hmz]; exact law04_log_ok i9 hi9 wz
                clear hmz
                go_wp2_with fail
                refine (HVV.out _ hb00).mono ?_
                rintro e w5 ⟨g5, S5, rfl, _, _, _, _, hb5⟩
                replace hb00 := bl_call hb00 (Nat.le_refl _) hb5
                clear hb5
                go_wp2_with fail
                refine (HCC.out _ hb00).mono ?_
                rintro e w6 ⟨g6, S6, rfl, _, _, _, _, hb6⟩
                replace hb00 := bl_call hb00 (Nat.le_refl _) hb6
                clear hb6
                go_wp2_with fail
                refine (HLN.out _).mono ?_
                rintro e w' ⟨rfl, rfl⟩
                go_wp2_with fail
                go_ret
                exact ⟨rfl, hb00⟩
              · have HZ : ∀ i : Nat, i ≤ 10 → m ≠ 2 ^ i := fun i h1 h2 => hz ⟨i, h1, h2⟩
                have HVV : Hid (∀ wz, Calls Tryd.prog 18 #[.int .u8 F, .slice A m c] wz (RetE9 9 wz)) := fun wz => by
                  rw [HFF.out]
                  exact ntt_Values_size HFI.out A m c HZ wz
                have HCC : Hid (∀ wz, Calls Tryd.prog 20 #[.int .u8 F, .slice A m c] wz (RetE9 9 wz)) := fun wz => by
                  rw [HFF.out]
                  exact ntt_Coefs_size HFI.out A m c HZ wz
                have HLN : Hid (∀ wz, Calls Tryd.prog 24 #[.int .i64 m] wz fun e w' => e = .returned (.int .i64 (-1)) ∧ wz = w') := fun wz => law04_log_no m wz (fun i h1 h2 => HZ i h1 (by exact_mod_cast h2))
                clear hz HZ
                go_wp2_with fail
                refine (HVV.out _).mono ?_
                rintro e w5 ⟨rfl, hb5⟩
                replace hb00 := bl_call hb00 (Nat.le_refl _) hb5
                clear hb5
                go_wp2_with fail
                refine (HCC.out _).mono ?_
                rintro e w6 ⟨rfl, hb6⟩
                replace hb00 := bl_call hb00 (Nat.le_refl _) hb6
                clear hb6
                go_wp2_with fail
                refine (HLN.out _).mono ?_
                rintro e w' ⟨rfl, rfl⟩
                go_wp2_with fail
                go_ret
                exact ⟨rfl, hb00⟩
            · have HPT : Hid (∀ wz, Calls Tryd.prog 23 #[.int .u8 F, .int .i64 k] wz (RetE9 6 wz)) := fun wz => by
                rw [HFF.out]
                exact ntt_Points_range HFI.out k (by omega) wz
              have hk2 : k < 0 ∨ 10 < k := by omega
              clear hk
              go_wp2_with fail
              refine (HPT.out _).mono ?_
              rintro e w3 ⟨rfl, hb3⟩
              replace hb00 := bl_call hb00 (Nat.le_refl _) hb3
              clear hb3
              rcases hk2 with hk | hk
              · go_wp2_with fail
                refine (HNX.out _).mono ?_
                rintro e w' ⟨rfl, rfl⟩
                by_cases hz : ∃ i : Nat, i ≤ 10 ∧ m = 2 ^ i
                · obtain ⟨i9, hi9, hmz⟩ := hz
                  have HVV : Hid (∀ wz, Below w.heap.size w wz → Calls Tryd.prog 18 #[.int .u8 F, .slice A m c] wz (RetBlkE0 (2 ^ i9) wz)) := fun wz hb => by
                    rw [HFF.out]
                    exact ntt_Values_E HFI.out i9 hi9 _ l (by rw [HM.out]; exact hmz) wz (HTB.out.call hb) (HL.out.later hb)
                  have HCC : Hid (∀ wz, Below w.heap.size w wz → Calls Tryd.prog 20 #[.int .u8 F, .slice A m c] wz (RetBlkE0 (2 ^ i9) wz)) := fun wz hb => by
                    rw [HFF.out]
                    exact ntt_Coefs_E HFI.out i9 hi9 _ l (by rw [HM.out]; exact hmz) wz (HTB.out.call hb) (HL.out.later hb)
                  have HLN : Hid (∀ wz, Calls Tryd.prog 24 #[.int .i64 m] wz fun e w' => e = .returned (.int .i64 i9) ∧ wz = w') := fun wz => by rw [hmz]; exact law04_log_ok i9 hi9 wz
                  clear hmz
                  go_wp2_with fail
                  refine (HVV.out _ hb00).mono ?_
                  rintro e w5 ⟨g5, S5, rfl, _, _, _, _, hb5⟩
                  replace hb00 := bl_call hb00 (Nat.le_refl _) hb5
                  clear hb5
                  go_wp2_with fail
                  refine (HCC.out _ hb00).mono ?_
                  rintro e w6 ⟨g6, S6, rfl, _, _, _, _, hb6⟩
                  replace hb00 := bl_call hb00 (Nat.le_refl _) hb6
                  clear hb6
                  go_wp2_with fail
                  refine (HLN.out _).mono ?_
                  rintro e w' ⟨rfl, rfl⟩
                  go_wp2_with fail
                  go_ret
                  exact ⟨rfl, hb00⟩
                · have HZ : ∀ i : Nat, i ≤ 10 → m ≠ 2 ^ i := fun i h1 h2 => hz ⟨i, h1, h2⟩
                  have HVV : Hid (∀ wz, Calls Tryd.prog 18 #[.int .u8 F, .slice A m c] wz (RetE9 9 wz)) := fun wz => by
                    rw [HFF.out]
                    exact ntt_Values_size HFI.out A m c HZ wz
                  have HCC : Hid (∀ wz, Calls Tryd.prog 20 #[.int .u8 F, .slice A m c] wz (RetE9 9 wz)) := fun wz => by
                    rw [HFF.out]
                    exact ntt_Coefs_size HFI.out A m c HZ wz
                  have HLN : Hid (∀ wz, Calls Tryd.prog 24 #[.int .i64 m] wz fun e w' => e = .returned (.int .i64 (-1)) ∧ wz = w') := fun wz => law04_log_no m wz (fun i h1 h2 => HZ i h1 (by exact_mod_cast h2))
                  clear hz HZ
                  go_wp2_with fail
                  refine (HVV.out _).mono ?_
                  rintro e w5 ⟨rfl, hb5⟩
                  replace hb00 := bl_call hb00 (Nat.le_refl _) hb5
                  clear hb5
                  go_wp2_with fail
                  refine (HCC.out _).mono ?_
                  rintro e w6 ⟨rfl, hb6⟩
                  replace hb00 := bl_call hb00 (Nat.le_refl _) hb6
                  clear hb6
                  go_wp2_with fail
                  refine (HLN.out _).mono ?_
                  rintro e w' ⟨rfl, rfl⟩
                  go_wp2_with fail
                  go_ret
                  exact ⟨rfl, hb00⟩
              · have hk3 : ¬ (k < 0) := by omega
                go_wp2_with fail
                refine (HNX.out _).mono ?_
                rintro e w' ⟨rfl, rfl⟩
                by_cases hz : ∃ i : Nat, i ≤ 10 ∧ m = 2 ^ i
                · obtain ⟨i9, hi9, hmz⟩ := hz
                  have HVV : Hid (∀ wz, Below w.heap.size w wz → Calls Tryd.prog 18 #[.int .u8 F, .slice A m c] wz (RetBlkE0 (2 ^ i9) wz)) := fun wz hb => by
                    rw [HFF.out]
                    exact ntt_Values_E HFI.out i9 hi9 _ l (by rw [HM.out]; exact hmz) wz (HTB.out.call hb) (HL.out.later hb)
                  have HCC : Hid (∀ wz, Below w.heap.size w wz → Calls Tryd.prog 20 #[.int .u8 F, .slice A m c] wz (RetBlkE0 (2 ^ i9) wz)) := fun wz hb => by
                    rw [HFF.out]
                    exact ntt_Coefs_E HFI.out i9 hi9 _ l (by rw [HM.out]; exact hmz) wz (HTB.out.call hb) (HL.out.later hb)
                  have HLN : Hid (∀ wz, Calls Tryd.prog 24 #[.int .i64 m] wz fun e w' => e = .returned (.int .i64 i9) ∧ wz = w') := fun wz => by rw [hmz]; exact law04_log_ok i9 hi9 wz
                  clear hmz
                  go_wp2_with fail
                  refine (HVV.out _ hb00).mono ?_
                  rintro e w5 ⟨g5, S5, rfl, _, _, _, _, hb5⟩
                  replace hb00 := bl_call hb00 (Nat.le_refl _) hb5
                  clear hb5
                  go_wp2_with fail
                  refine (HCC.out _ hb00).mono ?_
                  rintro e w6 ⟨g6, S6, rfl, _, _, _, _, hb6⟩
                  replace hb00 := bl_call hb00 (Nat.le_refl _) hb6
                  clear hb6
                  go_wp2_with fail
                  refine (HLN.out _).mono ?_
                  rintro e w' ⟨rfl, rfl⟩
                  go_wp2_with fail
                  go_ret
                  exact ⟨rfl, hb00⟩
                · have HZ : ∀ i : Nat, i ≤ 10 → m ≠ 2 ^ i := fun i h1 h2 => hz ⟨i, h1, h2⟩
                  have HVV : Hid (∀ wz, Calls Tryd.prog 18 #[.int .u8 F, .slice A m c] wz (RetE9 9 wz)) := fun wz => by
                    rw [HFF.out]
                    exact ntt_Values_size HFI.out A m c HZ wz
                  have HCC : Hid (∀ wz, Calls Tryd.prog 20 #[.int .u8 F, .slice A m c] wz (RetE9 9 wz)) := fun wz => by
                    rw [HFF.out]
                    exact ntt_Coefs_size HFI.out A m c HZ wz
                  have HLN : Hid (∀ wz, Calls Tryd.prog 24 #[.int .i64 m] wz fun e w' => e = .returned (.int .i64 (-1)) ∧ wz = w') := fun wz => law04_log_no m wz (fun i h1 h2 => HZ i h1 (by exact_mod_cast h2))
                  clear hz HZ
                  go_wp2_with fail
                  refine (HVV.out _).mono ?_
                  rintro e w5 ⟨rfl, hb5⟩
                  replace hb00 := bl_call hb00 (Nat.le_refl _) hb5
                  clear hb5
                  go_wp2_with fail
                  refine (HCC.out _).mono ?_
                  rintro e w6 ⟨rfl, hb6⟩
                  replace hb00 := bl_call hb00 (Nat.le_refl _) hb6
                  clear hb6
                  go_wp2_with fail
                  refine (HLN.out _).mono ?_
                  rintro e w' ⟨rfl, rfl⟩
                  go_wp2_with fail
                  go_ret
                  exact ⟨rfl, hb00⟩
          · have t1 : (F == 1) = false := by rw [beq_eq_false_iff_ne]; exact hF1.1
            have t2 : (F != 1) = true := by rw [bne, t1]; rfl
            have t3 : (F == 2) = false := by rw [beq_eq_false_iff_ne]; exact hF1.2
            have t4 : (F != 2) = true := by rw [bne, t3]; rfl
            have HP9 := Lib.hid (HP9.out hF1)
            have HV3 := Lib.hid (HV3.out hF1)
            have HC9 := Lib.hid (HC9.out hF1)
            clear hF1
            go_wp2_with fail
            refine (HP9.out _).mono ?_
            rintro e w3 ⟨rfl, hb3⟩
            replace hb00 := bl_call hb00 (Nat.le_refl _) hb3
            clear hb3
            go_wp2_with fail
            refine (HNX.out _).mono ?_
            rintro e w' ⟨rfl, rfl⟩
            go_wp2_with fail
            refine (HV3.out _).mono ?_
            rintro e w5 ⟨rfl, hb5⟩
            replace hb00 := bl_call hb00 (Nat.le_refl _) hb5
            clear hb5
            go_wp2_with fail
            refine (HC9.out _).mono ?_
            rintro e w6 ⟨rfl, hb6⟩
            replace hb00 := bl_call hb00 (Nat.le_refl _) hb6
            clear hb6
            go_wp2_with fail
            go_ret
            exact ⟨rfl, hb00⟩
  · have HL1 : Hid (∀ wz, Calls Tryd.prog 26 #[.int .i64 n] wz fun e w' => e = .returned (.tuple #[.int .i64 0, .bool false]) ∧ wz = w') := fun wz => ntt_Log_no n wz (fun k hk he => hp ⟨k, hk, he⟩)
    have HL2 : Hid (∀ wz, Calls Tryd.prog 24 #[.int .i64 n] wz fun e w' => e = .returned (.int .i64 (-1)) ∧ wz = w') := fun wz => law04_log_no n wz (fun k hk he => hp ⟨k, hk, he⟩)
    clear hp
    go_wp2_with fail
    refine (HL1.out _).mono ?_
    rintro e w' ⟨rfl, rfl⟩
    go_wp2_with fail
    refine (HL2.out _).mono ?_
    rintro e w' ⟨rfl, rfl⟩
    go_wp2_with fail
    go_loopw [12] (fun o wr => ∃ p : Nat, o = .int .i64 p ∧ Hid (OnWay cn p) ∧ p ≤ 1024 ∧ Below w.heap.size w wr) (fun o _ => 1024 - (intOf o).toNat)
    case atStart => exact ⟨1, rfl, onWay_one cn, by omega, hb00⟩
    case round =>
      clear hb00
      obtain ⟨p, rfl, hp, hp2, hb00⟩ := hrel
      have h4 := (onWay_le hp.out).1
      by_cases hlt : p < cn
      · obtain ⟨h0, h1⟩ := HC1.out p h4 hlt
        have h2 := onWay_next hp.out hlt h1
        have h3 := (onWay_le h2).2
        have H2 := Lib.hid h2
        clear h2
        go_wp2_with fail
        go_roundw
        case rel => exact ⟨2 * p, by go_num, H2.out, h3, hb00⟩
        case measure => simp [intOf]; omega
      · have hpX : p = X := (onWay_end hp.out HC3.out hlt).symm.trans HX.out
        have HOUT := Lib.hid (HC2.out p h4 hlt hp2)
        subst hpX
        clear hlt
        by_cases h8 : (p : Int) < n
        · have h7 : ¬ (p < 1024) := by have := HOUT.out; omega
          rcases HCASE.out with (hF1 | hF1) | hF1
          · have HFF : Hid (F = ((1 : Nat) : Int)) := hF1
            have HFI : Hid (IsF 1) := isF1
            have t1 : (F == 1) = true := by rw [beq_iff_eq]; exact hF1
            have t2 : (F != 1) = false := by rw [bne, t1]; rfl
            clear hF1
            by_cases hk : 0 ≤ k ∧ k ≤ 10
            · obtain ⟨L, hL⟩ : ∃ L : Nat, k = (L : Int) := ⟨k.toNat, by omega⟩
              have hL10 : L ≤ 10 := by omega
              have HPT : Hid (∀ wz, Calls Tryd.prog 23 #[.int .u8 F, .int .i64 k] wz fun e w' => ∃ (A : Option Addr) (c : Nat), e = .returned (.tuple #[.slice A (2 ^ L) c, .int .i64 0]) ∧ Below wz.heap.size wz w') := fun wz => by
                rw [HFF.out, hL]
                refine (ntt_Points HFI.out L hL10 wz).mono ?_
                rintro e w' ⟨v, rfl, ho, hb⟩
                rw [pows_length] at ho
                obtain ⟨A, c, rfl⟩ := own_shape ho
                exact ⟨A, c, rfl, hb⟩
              have hp : 2 ^ L ≤ 2 ^ 10 := Nat.pow_le_pow_right (by omega) hL10
              have hpi : (2 : Int) ^ L = ((2 ^ L : Nat) : Int) := by rw [Int.natCast_pow]; rfl
              have g1 : ¬ (k < 0) := by omega
              have g2 : ¬ (10 < k) := by omega
              subst hL
              obtain ⟨N, hN⟩ : ∃ N, 2 ^ L = N := ⟨_, rfl⟩
              rw [hN] at HPT hp hpi
              clear hN hk
              go_wp2_with fail
              refine (HPT.out _).mono ?_
              rintro e w3 ⟨A3, c3, rfl, hb3⟩
              replace hb00 := bl_call hb00 (Nat.le_refl _) hb3
              clear hb3
              go_wp2_with fail
              refine (HNX.out _).mono ?_
              rintro e w' ⟨rfl, rfl⟩
              by_cases hz : ∃ i : Nat, i ≤ 10 ∧ m = 2 ^ i
              · obtain ⟨i9, hi9, hmz⟩ := hz
                have HVV : Hid (∀ wz, Below w.heap.size w wz → Calls Tryd.prog 18 #[.int .u8 F, .slice A m c] wz (RetBlkE0 (2 ^ i9) wz)) := fun wz hb => by
                  rw [HFF.out]
                  exact ntt_Values_E HFI.out i9 hi9 _ l (by rw [HM.out]; exact hmz) wz (HTB.out.call hb) (HL.out.later hb)
                have HCC : Hid (∀ wz, Below w.heap.size w wz → Calls Tryd.prog 20 #[.int .u8 F, .slice A m c] wz (RetBlkE0 (2 ^ i9) wz)) := fun wz hb => by
                  rw [HFF.out]
                  exact ntt_Coefs_E HFI.out i9 hi9 _ l (by rw [HM.out]; exact hmz) wz (HTB.out.call hb) (HL.out.later hb)
                have HLN : Hid (∀ wz, Calls Tryd.prog 24 #[.int .i64 m] wz fun e w' => e = .returned (.int .i64 i9) ∧ wz = w') := fun wz => by rw [hmz]; exact law04_log_ok i9 hi9 wz
                clear hmz
                go_wp2_with fail
                refine (HVV.out _ hb00).mono ?_
                rintro e w5 ⟨g5, S5, rfl, _, _, _, _, hb5⟩
                replace hb00 := bl_call hb00 (Nat.le_refl _) hb5
                clear hb5
                go_wp2_with fail
                refine (HCC.out _ hb00).mono ?_
                rintro e w6 ⟨g6, S6, rfl, _, _, _, _, hb6⟩
                replace hb00 := bl_call hb00 (Nat.le_refl _) hb6
                clear hb6
                go_wp2_with fail
                refine (HLN.out _).mono ?_
                rintro e w' ⟨rfl, rfl⟩
                go_wp2_with fail
                go_ret
                exact ⟨rfl, hb00⟩
              · have HZ : ∀ i : Nat, i ≤ 10 → m ≠ 2 ^ i := fun i h1 h2 => hz ⟨i, h1, h2⟩
                have HVV : Hid (∀ wz, Calls Tryd.prog 18 #[.int .u8 F, .slice A m c] wz (RetE9 9 wz)) := fun wz => by
                  rw [HFF.out]
                  exact ntt_Values_size HFI.out A m c HZ wz
                have HCC : Hid (∀ wz, Calls Tryd.prog 20 #[.int .u8 F, .slice A m c] wz (RetE9 9 wz)) := fun wz => by
                  rw [HFF.out]
                  exact ntt_Coefs_size HFI.out A m c HZ wz
                have HLN : Hid (∀ wz, Calls Tryd.prog 24 #[.int .i64 m] wz fun e w' => e = .returned (.int .i64 (-1)) ∧ wz = w') := fun wz => law04_log_no m wz (fun i h1 h2 => HZ i h1 (by exact_mod_cast h2))
                clear hz HZ
                go_wp2_with fail
                refine (HVV.out _).mono ?_
                rintro e w5 ⟨rfl, hb5⟩
                replace hb00 := bl_call hb00 (Nat.le_refl _) hb5
                clear hb5
                go_wp2_with fail
                refine (HCC.out _).mono ?_
                rintro e w6 ⟨rfl, hb6⟩
                replace hb00 := bl_call hb00 (Nat.le_refl _) hb6
                clear hb6
                go_wp2_with fail
                refine (HLN.out _).mono ?_
                rintro e w' ⟨rfl, rfl⟩
                go_wp2_with fail
                go_ret
                exact ⟨rfl, hb00⟩
            · have HPT : Hid (∀ wz, Calls Tryd.prog 23 #[.int .u8 F, .int .i64 k] wz (RetE9 6 wz)) := fun wz => by
                rw [HFF.out]
                exact ntt_Points_range HFI.out k (by omega) wz
              have hk2 : k < 0 ∨ 10 < k := by omega
              clear hk
              go_wp2_with fail
              refine (HPT.out _).mono ?_
              rintro e w3 ⟨rfl, hb3⟩
              replace hb00 := bl_call hb00 (Nat.le_refl _) hb3
              clear hb3
              rcases hk2 with hk | hk
              · go_wp2_with fail
                refine (HNX.out _).mono ?_
                rintro e w' ⟨rfl, rfl⟩
                by_cases hz : ∃ i : Nat, i ≤ 10 ∧ m = 2 ^ i
                · obtain ⟨i9, hi9, hmz⟩ := hz
                  have HVV : Hid (∀ wz, Below w.heap.size w wz → Calls Tryd.prog 18 #[.int .u8 F, .slice A m c] wz (RetBlkE0 (2 ^ i9) wz)) := fun wz hb => by
                    rw [HFF.out]
                    exact ntt_Values_E HFI.out i9 hi9 _ l (by rw [HM.out]; exact hmz) wz (HTB.out.call hb) (HL.out.later hb)
                  have HCC : Hid (∀ wz, Below w.heap.size w wz → Calls Tryd.prog 20 #[.int .u8 F, .slice A m c] wz (RetBlkE0 (2 ^ i9) wz)) := fun wz hb => by
                    rw [HFF.out]
                    exact ntt_Coefs_E HFI.out i9 hi9 _ l (by rw [HM.out]; exact hmz) wz (HTB.out.call hb) (HL.out.later hb)
                  have HLN : Hid (∀ wz, Calls Tryd.prog 24 #[.int .i64 m] wz fun e w' => e = .returned (.int .i64 i9) ∧ wz = w') := fun wz => by rw [hmz]; exact law04_log_ok i9 hi9 wz
                  clear hmz
                  go_wp2_with fail
                  refine (HVV.out _ hb00).mono ?_
                  rintro e w5 ⟨g5, S5, rfl, _, _, _, _, hb5⟩
                  replace hb00 := bl_call hb00 (Nat.le_refl _) hb5
                  clear hb5
                  go_wp2_with fail
                  refine (HCC.out _ hb00).mono ?_
                  rintro e w6 ⟨g6, S6, rfl, _, _, _, _, hb6⟩
                  replace hb00 := bl_call hb00 (Nat.le_refl _) hb6
                  clear hb6
                  go_wp2_with fail
                  refine (HLN.out _).mono ?_
                  rintro e w' ⟨rfl, rfl⟩
                  go_wp2_with fail
                  go_ret
                  exact ⟨rfl, hb00⟩
                · have HZ : ∀ i : Nat, i ≤ 10 → m ≠ 2 ^ i := fun i h1 h2 => hz ⟨i, h1, h2⟩
                  have HVV : Hid (∀ wz, Calls Tryd.prog 18 #[.int .u8 F, .slice A m c] wz (RetE9 9 wz)) := fun wz => by
                    rw [HFF.out]
                    exact ntt_Values_size HFI.out A m c HZ wz
                  have HCC : Hid (∀ wz, Calls Tryd.prog 20 #[.int .u8 F, .slice A m c] wz (RetE9 9 wz)) := fun wz => by
                    rw [HFF.out]
                    exact ntt_Coefs_size HFI.out A m c HZ wz
                  have HLN : Hid (∀ wz, Calls Tryd.prog 24 #[.int .i64 m] wz fun e w' => e = .returned (.int .i64 (-1)) ∧ wz = w') := fun wz => law04_log_no m wz (fun i h1 h2 => HZ i h1 (by exact_mod_cast h2))
                  clear hz HZ
                  go_wp2_with fail
                  refine (HVV.out _).mono ?_
                  rintro e w5 ⟨rfl, hb5⟩
                  replace hb00 := bl_call hb00 (Nat.le_refl _) hb5
                  clear hb5
                  go_wp2_with fail
                  refine (HCC.out _).mono ?_
                  rintro e w6 ⟨rfl, hb6⟩
                  replace hb00 := bl_call hb00 (Nat.le_refl _) hb6
                  clear hb6
                  go_wp2_with fail
                  refine (HLN.out _).mono ?_
                  rintro e w' ⟨rfl, rfl⟩
                  go_wp2_with fail
                  go_ret
                  exact ⟨rfl, hb00⟩
              · have hk3 : ¬ (k < 0) := by omega
                go_wp2_with fail
                refine (HNX.out _).mono ?_
                rintro e w' ⟨rfl, rfl⟩
                by_cases hz : ∃ i : Nat, i ≤ 10 ∧ m = 2 ^ i
                · obtain ⟨i9, hi9, hmz⟩ := hz
                  have HVV : Hid (∀ wz, Below w.heap.size w wz → Calls Tryd.prog 18 #[.int .u8 F, .slice A m c] wz (RetBlkE0 (2 ^ i9) wz)) := fun wz hb => by
                    rw [HFF.out]
                    exact ntt_Values_E HFI.out i9 hi9 _ l (by rw [HM.out]; exact hmz) wz (HTB.out.call hb) (HL.out.later hb)
                  have HCC : Hid (∀ wz, Below w.heap.size w wz → Calls Tryd.prog 20 #[.int .u8 F, .slice A m c] wz (RetBlkE0 (2 ^ i9) wz)) := fun wz hb => by
                    rw [HFF.out]
                    exact ntt_Coefs_E HFI.out i9 hi9 _ l (by rw [HM.out]; exact hmz) wz (HTB.out.call hb) (HL.out.later hb)
                  have HLN : Hid (∀ wz, Calls Tryd.prog 24 #[.int .i64 m] wz fun e w' => e = .returned (.int .i64 i9) ∧ wz = w') := fun wz => by rw [hmz]; exact law04_log_ok i9 hi9 wz
                  clear hmz
                  go_wp2_with fail
                  refine (HVV.out _ hb00).mono ?_
                  rintro e w5 ⟨g5, S5, rfl, _, _, _, _, hb5⟩
                  replace hb00 := bl_call hb00 (Nat.le_refl _) hb5
                  clear hb5
                  go_wp2_with fail
                  refine (HCC.out _ hb00).mono ?_
                  rintro e w6 ⟨g6, S6, rfl, _, _, _, _, hb6⟩
                  replace hb00 := bl_call hb00 (Nat.le_refl _) hb6
                  clear hb6
                  go_wp2_with fail
                  refine (HLN.out _).mono ?_
                  rintro e w' ⟨rfl, rfl⟩
                  go_wp2_with fail
                  go_ret
                  exact ⟨rfl, hb00⟩
                · have HZ : ∀ i : Nat, i ≤ 10 → m ≠ 2 ^ i := fun i h1 h2 => hz ⟨i, h1, h2⟩
                  have HVV : Hid (∀ wz, Calls Tryd.prog 18 #[.int .u8 F, .slice A m c] wz (RetE9 9 wz)) := fun wz => by
                    rw [HFF.out]
                    exact ntt_Values_size HFI.out A m c HZ wz
                  have HCC : Hid (∀ wz, Calls Tryd.prog 20 #[.int .u8 F, .slice A m c] wz (RetE9 9 wz)) := fun wz => by
                    rw [HFF.out]
                    exact ntt_Coefs_size HFI.out A m c HZ wz
                  have HLN : Hid (∀ wz, Calls Tryd.prog 24 #[.int .i64 m] wz fun e w' => e = .returned (.int .i64 (-1)) ∧ wz = w') := fun wz => law04_log_no m wz (fun i h1 h2 => HZ i h1 (by exact_mod_cast h2))
                  clear hz HZ
                  go_wp2_with fail
                  refine (HVV.out _).mono ?_
                  rintro e w5 ⟨rfl, hb5⟩
                  replace hb00 := bl_call hb00 (Nat.le_refl _) hb5
                  clear hb5
                  go_wp2_with fail
                  refine (HCC.out _).mono ?_
                  rintro e w6 ⟨rfl, hb6⟩
                  replace hb00 := bl_call hb00 (Nat.le_refl _) hb6
                  clear hb6
                  go_wp2_with fail
                  refine (HLN.out _).mono ?_
                  rintro e w' ⟨rfl, rfl⟩
                  go_wp2_with fail
                  go_ret
                  exact ⟨rfl, hb00⟩
          · have HFF : Hid (F = ((2 : Nat) : Int)) := hF1
            have HFI : Hid (IsF 2) := isF2
            have t1 : (F == 1) = false := by rw [beq_eq_false_iff_ne]; omega
            have t2 : (F != 1) = true := by rw [bne, t1]; rfl
            have t3 : (F == 2) = true := by rw [beq_iff_eq]; exact hF1
            have t4 : (F != 2) = false := by rw [bne, t3]; rfl
            clear hF1
            by_cases hk : 0 ≤ k ∧ k ≤ 10
            · obtain ⟨L, hL⟩ : ∃ L : Nat, k = (L : Int) := ⟨k.toNat, by omega⟩
              have hL10 : L ≤ 10 := by omega
              have HPT : Hid (∀ wz, Calls Tryd.prog 23 #[.int .u8 F, .int .i64 k] wz fun e w' => ∃ (A : Option Addr) (c : Nat), e = .returned (.tuple #[.slice A (2 ^ L) c, .int .i64 0]) ∧ Below wz.heap.size wz w') := fun wz => by
                rw [HFF.out, hL]
                refine (ntt_Points HFI.out L hL10 wz).mono ?_
                rintro e w' ⟨v, rfl, ho, hb⟩
                rw [pows_length] at ho
                obtain ⟨A, c, rfl⟩ := own_shape ho
                exact ⟨A, c, rfl, hb⟩
              have hp : 2 ^ L ≤ 2 ^ 10 := Nat.pow_le_pow_right (by omega) hL10
              have hpi : (2 : Int) ^ L = ((2 ^ L : Nat) : Int) := by rw [Int.natCast_pow]; rfl
              have g1 : ¬ (k < 0) := by omega
              have g2 : ¬ (10 < k) := by omega
              subst hL
              obtain ⟨N, hN⟩ : ∃ N, 2 ^ L = N := ⟨_, rfl⟩
              rw [hN] at HPT hp hpi
              clear hN hk
              go_wp2_with fail
              refine (HPT.out _).mono ?_
              rintro e w3 ⟨A3, c3, rfl, hb3⟩
              replace hb00 := bl_call hb00 (Nat.le_refl _) hb3
              clear hb3
              go_wp2_with fail
              refine (HNX.out _).mono ?_
              rintro e w' ⟨rfl, rfl⟩
              by_cases hz : ∃ i : Nat, i ≤ 10 ∧ m = 2 ^ i
              · obtain ⟨i9, hi9, hmz⟩ := hz
                have HVV : Hid (∀ wz, Below w.heap.size w wz → Calls Tryd.prog 18 #[.int .u8 F, .slice A m c] wz (RetBlkE0 (2 ^ i9) wz)) := fun wz hb => by
                  rw [HFF.out]
                  exact ntt_Values_E HFI.out i9 hi9 _ l (by rw [HM.out]; exact hmz) wz (HTB.out.call hb) (HL.out.later hb)
                have HCC : Hid (∀ wz, Below w.heap.size w wz → Calls Tryd.prog 20 #[.int .u8 F, .slice A m c] wz (RetBlkE0 (2 ^ i9) wz)) := fun wz hb => by
                  rw [HFF.out]
                  exact ntt_Coefs_E HFI.out i9 hi9 _ l (by rw [HM.out]; exact hmz) wz (HTB.out.call hb) (HL.out.later hb)
                have HLN : Hid (∀ wz, Calls Tryd.prog 24 #[.int .i64 m] wz fun e w' => e = .returned (.int .i64 i9) ∧ wz = w') := fun wz => by rw [hmz]; exact law04_log_ok i9 hi9 wz
                clear hmz
                go_wp2_with fail
                refine (HVV.out _ hb00).mono ?_
                rintro e w5 ⟨g5, S5, rfl, _, _, _, _, hb5⟩
                replace hb00 := bl_call hb00 (Nat.le_refl _) hb5
                clear hb5
                go_wp2_with fail
                refine (HCC.out _ hb00).mono ?_
                rintro e w6 ⟨g6, S6, rfl, _, _, _, _, hb6⟩
                replace hb00 := bl_call hb00 (Nat.le_refl _) hb6
                clear hb6
                go_wp2_with fail
                refine (HLN.out _).mono ?_
                rintro e w' ⟨rfl, rfl⟩
                go_wp2_with fail
                go_ret
                exact ⟨rfl, hb00⟩
              · have HZ : ∀ i : Nat, i ≤ 10 → m ≠ 2 ^ i := fun i h1 h2 => hz ⟨i, h1, h2⟩
                have HVV : Hid (∀ wz, Calls Tryd.prog 18 #[.int .u8 F, .slice A m c] wz (RetE9 9 wz)) := fun wz => by
                  rw [HFF.out]
                  exact ntt_Values_size HFI.out A m c HZ wz
                have HCC : Hid (∀ wz, Calls Tryd.prog 20 #[.int .u8 F, .slice A m c] wz (RetE9 9 wz)) := fun wz => by
                  rw [HFF.out]
                  exact ntt_Coefs_size HFI.out A m c HZ wz
                have HLN : Hid (∀ wz, Calls Tryd.prog 24 #[.int .i64 m] wz fun e w' => e = .returned (.int .i64 (-1)) ∧ wz = w') := fun wz => law04_log_no m wz (fun i h1 h2 => HZ i h1 (by exact_mod_cast h2))
                clear hz HZ
                go_wp2_with fail
                refine (HVV.out _).mono ?_
                rintro e w5 ⟨rfl, hb5⟩
                replace hb00 := bl_call hb00 (Nat.le_refl _) hb5
                clear hb5
                go_wp2_with fail
                refine (HCC.out _).mono ?_
                rintro e w6 ⟨rfl, hb6⟩
                replace hb00 := bl_call hb00 (Nat.le_refl _) hb6
                clear hb6
                go_wp2_with fail
                refine (HLN.out _).mono ?_
                rintro e w' ⟨rfl, rfl⟩
                go_wp2_with fail
                go_ret
                exact ⟨rfl, hb00⟩
            · have HPT : Hid (∀ wz, Calls Tryd.prog 23 #[.int .u8 F, .int .i64 k] wz (RetE9 6 wz)) := fun wz => by
                rw [HFF.out]
                exact ntt_Points_range HFI.out k (by omega) wz
              have hk2 : k < 0 ∨ 10 < k := by omega
              clear hk
              go_wp2_with fail
              refine (HPT.out _).mono ?_
              rintro e w3 ⟨rfl, hb3⟩
              replace hb00 := bl_call hb00 (Nat.le_refl _) hb3
              clear hb3
              rcases hk2 with hk | hk
              · go_wp2_with fail
                refine (HNX.out _).mono ?_
                rintro e w' ⟨rfl, rfl⟩
                by_cases hz : ∃ i : Nat, i ≤ 10 ∧ m = 2 ^ i
                · obtain ⟨i9, hi9, hmz⟩ := hz
                  have HVV : Hid (∀ wz, Below w.heap.size w wz → Calls Tryd.prog 18 #[.int .u8 F, .slice A m c] wz (RetBlkE0 (2 ^ i9) wz)) := fun wz hb => by
                    rw [HFF.out]
                    exact ntt_Values_E HFI.out i9 hi9 _ l (by rw [HM.out]; exact hmz) wz (HTB.out.call hb) (HL.out.later hb)
                  have HCC : Hid (∀ wz, Below w.heap.size w wz → Calls Tryd.prog 20 #[.int .u8 F, .slice A m c] wz (RetBlkE0 (2 ^ i9) wz)) := fun wz hb => by
                    rw [HFF.out]
                    exact ntt_Coefs_E HFI.out i9 hi9 _ l (by rw [HM.out]; exact hmz) wz (HTB.out.call hb) (HL.out.later hb)
                  have HLN : Hid (∀ wz, Calls Tryd.prog 24 #[.int .i64 m] wz fun e w' => e = .returned (.int .i64 i9) ∧ wz = w') := fun wz => by rw [hmz]; exact law04_log_ok i9 hi9 wz
                  clear hmz
                  go_wp2_with fail
                  refine (HVV.out _ hb00).mono ?_
                  rintro e w5 ⟨g5, S5, rfl, _, _, _, _, hb5⟩
                  replace hb00 := bl_call hb00 (Nat.le_refl _) hb5
                  clear hb5
                  go_wp2_with fail
                  refine (HCC.out _ hb00).mono ?_
                  rintro e w6 ⟨g6, S6, rfl, _, _, _, _, hb6⟩
                  replace hb00 := bl_call hb00 (Nat.le_refl _) hb6
                  clear hb6
                  go_wp2_with fail
                  refine (HLN.out _).mono ?_
                  rintro e w' ⟨rfl, rfl⟩
                  go_wp2_with fail
                  go_ret
                  exact ⟨rfl, hb00⟩
                · have HZ : ∀ i : Nat, i ≤ 10 → m ≠ 2 ^ i := fun i h1 h2 => hz ⟨i, h1, h2⟩
                  have HVV : Hid (∀ wz, Calls Tryd.prog 18 #[.int .u8 F, .slice A m c] wz (RetE9 9 wz)) := fun wz => by
                    rw [HFF.out]
                    exact ntt_Values_size HFI.out A m c HZ wz
                  have HCC : Hid (∀ wz, Calls Tryd.prog 20 #[.int .u8 F, .slice A m c] wz (RetE9 9 wz)) := fun wz => by
                    rw [HFF.out]
                    exact ntt_Coefs_size HFI.out A m c HZ wz
                  have HLN : Hid (∀ wz, Calls Tryd.prog 24 #[.int .i64 m] wz fun e w' => e = .returned (.int .i64 (-1)) ∧ wz = w') := fun wz => law04_log_no m wz (fun i h1 h2 => HZ i h1 (by exact_mod_cast h2))
                  clear hz HZ
                  go_wp2_with fail
                  refine (HVV.out _).mono ?_
                  rintro e w5 ⟨rfl, hb5⟩
                  replace hb00 := bl_call hb00 (Nat.le_refl _) hb5
                  clear hb5
                  go_wp2_with fail
                  refine (HCC.out _).mono ?_
                  rintro e w6 ⟨rfl, hb6⟩
                  replace hb00 := bl_call hb00 (Nat.le_refl _) hb6
                  clear hb6
                  go_wp2_with fail
                  refine (HLN.out _).mono ?_
                  rintro e w' ⟨rfl, rfl⟩
                  go_wp2_with fail
                  go_ret
                  exact ⟨rfl, hb00⟩
              · have hk3 : ¬ (k < 0) := by omega
                go_wp2_with fail
                refine (HNX.out _).mono ?_
                rintro e w' ⟨rfl, rfl⟩
                by_cases hz : ∃ i : Nat, i ≤ 10 ∧ m = 2 ^ i
                · obtain ⟨i9, hi9, hmz⟩ := hz
                  have HVV : Hid (∀ wz, Below w.heap.size w wz → Calls Tryd.prog 18 #[.int .u8 F, .slice A m c] wz (RetBlkE0 (2 ^ i9) wz)) := fun wz hb => by
                    rw [HFF.out]
                    exact ntt_Values_E HFI.out i9 hi9 _ l (by rw [HM.out]; exact hmz) wz (HTB.out.call hb) (HL.out.later hb)
                  have HCC : Hid (∀ wz, Below w.heap.size w wz → Calls Tryd.prog 20 #[.int .u8 F, .slice A m c] wz (RetBlkE0 (2 ^ i9) wz)) := fun wz hb => by
                    rw [HFF.out]
                    exact ntt_Coefs_E HFI.out i9 hi9 _ l (by rw [HM.out]; exact hmz) wz (HTB.out.call hb) (HL.out.later hb)
                  have HLN : Hid (∀ wz, Calls Tryd.prog 24 #[.int .i64 m] wz fun e w' => e = .returned (.int .i64 i9) ∧ wz = w') := fun wz => by rw [hmz]; exact law04_log_ok i9 hi9 wz
                  clear hmz
                  go_wp2_with fail
                  refine (HVV.out _ hb00).mono ?_
                  rintro e w5 ⟨g5, S5, rfl, _, _, _, _, hb5⟩
                  replace hb00 := bl_call hb00 (Nat.le_refl _) hb5
                  clear hb5
                  go_wp2_with fail
                  refine (HCC.out _ hb00).mono ?_
                  rintro e w6 ⟨g6, S6, rfl, _, _, _, _, hb6⟩
                  replace hb00 := bl_call hb00 (Nat.le_refl _) hb6
                  clear hb6
                  go_wp2_with fail
                  refine (HLN.out _).mono ?_
                  rintro e w' ⟨rfl, rfl⟩
                  go_wp2_with fail
                  go_ret
                  exact ⟨rfl, hb00⟩
                · have HZ : ∀ i : Nat, i ≤ 10 → m ≠ 2 ^ i := fun i h1 h2 => hz ⟨i, h1, h2⟩
                  have HVV : Hid (∀ wz, Calls Tryd.prog 18 #[.int .u8 F, .slice A m c] wz (RetE9 9 wz)) := fun wz => by
                    rw [HFF.out]
                    exact ntt_Values_size HFI.out A m c HZ wz
                  have HCC : Hid (∀ wz, Calls Tryd.prog 20 #[.int .u8 F, .slice A m c] wz (RetE9 9 wz)) := fun wz => by
                    rw [HFF.out]
                    exact ntt_Coefs_size HFI.out A m c HZ wz
                  have HLN : Hid (∀ wz, Calls Tryd.prog 24 #[.int .i64 m] wz fun e w' => e = .returned (.int .i64 (-1)) ∧ wz = w') := fun wz => law04_log_no m wz (fun i h1 h2 => HZ i h1 (by exact_mod_cast h2))
                  clear hz HZ
                  go_wp2_with fail
                  refine (HVV.out _).mono ?_
                  rintro e w5 ⟨rfl, hb5⟩
                  replace hb00 := bl_call hb00 (Nat.le_refl _) hb5
                  clear hb5
                  go_wp2_with fail
                  refine (HCC.out _).mono ?_
                  rintro e w6 ⟨rfl, hb6⟩
                  replace hb00 := bl_call hb00 (Nat.le_refl _) hb6
                  clear hb6
                  go_wp2_with fail
                  refine (HLN.out _).mono ?_
                  rintro e w' ⟨rfl, rfl⟩
                  go_wp2_with fail
                  go_ret
                  exact ⟨rfl, hb00⟩
          · have t1 : (F == 1) = false := by rw [beq_eq_false_iff_ne]; exact hF1.1
            have t2 : (F != 1) = true := by rw [bne, t1]; rfl
            have t3 : (F == 2) = false := by rw [beq_eq_false_iff_ne]; exact hF1.2
            have t4 : (F != 2) = true := by rw [bne, t3]; rfl
            have HP9 := Lib.hid (HP9.out hF1)
            have HV3 := Lib.hid (HV3.out hF1)
            have HC9 := Lib.hid (HC9.out hF1)
            clear hF1
            go_wp2_with fail
            refine (HP9.out _).mono ?_
            rintro e w3 ⟨rfl, hb3⟩
            replace hb00 := bl_call hb00 (Nat.le_refl _) hb3
            clear hb3
            go_wp2_with fail
            refine (HNX.out _).mono ?_
            rintro e w' ⟨rfl, rfl⟩
            go_wp2_with fail
            refine (HV3.out _).mono ?_
            rintro e w5 ⟨rfl, hb5⟩
            replace hb00 := bl_call hb00 (Nat.le_refl _) hb5
            clear hb5
            go_wp2_with fail
            refine (HC9.out _).mono ?_
            rintro e w6 ⟨rfl, hb6⟩
            replace hb00 := bl_call hb00 (Nat.le_refl _) hb6
            clear hb6
            go_wp2_with fail
            go_ret
            exact ⟨rfl, hb00⟩
        · skip
          rcases HCASE.out with (hF1 | hF1) | hF1
          · have HFF : Hid (F = ((1 : Nat) : Int)) := hF1
            have HFI : Hid (IsF 1) := isF1
            have t1 : (F == 1) = true := by rw [beq_iff_eq]; exact hF1
            have t2 : (F != 1) = false := by rw [bne, t1]; rfl
            clear hF1
            by_cases hk : 0 ≤ k ∧ k ≤ 10
            · obtain ⟨L, hL⟩ : ∃ L : Nat, k = (L : Int) := ⟨k.toNat, by omega⟩
              have hL10 : L ≤ 10 := by omega
              have HPT : Hid (∀ wz, Calls Tryd.prog 23 #[.int .u8 F, .int .i64 k] wz fun e w' => ∃ (A : Option Addr) (c : Nat), e = .returned (.tuple #[.slice A (2 ^ L) c, .int .i64 0]) ∧ Below wz.heap.size wz w') := fun wz => by
                rw [HFF.out, hL]
                refine (ntt_Points HFI.out L hL10 wz).mono ?_
                rintro e w' ⟨v, rfl, ho, hb⟩
                rw [pows_length] at ho
                obtain ⟨A, c, rfl⟩ := own_shape ho
                exact ⟨A, c, rfl, hb⟩
              have hp : 2 ^ L ≤ 2 ^ 10 := Nat.pow_le_pow_right (by omega) hL10
              have hpi : (2 : Int) ^ L = ((2 ^ L : Nat) : Int) := by rw [Int.natCast_pow]; rfl
              have g1 : ¬ (k < 0) := by omega
              have g2 : ¬ (10 < k) := by omega
              subst hL
              obtain ⟨N, hN⟩ : ∃ N, 2 ^ L = N := ⟨_, rfl⟩
              rw [hN] at HPT hp hpi
              clear hN hk
              go_wp2_with fail
              refine (HPT.out _).mono ?_
              rintro e w3 ⟨A3, c3, rfl, hb3⟩
              replace hb00 := bl_call hb00 (Nat.le_refl _) hb3
              clear hb3
              go_wp2_with fail
              refine (HNX.out _).mono ?_
              rintro e w' ⟨rfl, rfl⟩
              by_cases hz : ∃ i : Nat, i ≤ 10 ∧ m = 2 ^ i
              · obtain ⟨i9, hi9, hmz⟩ := hz
                have HVV : Hid (∀ wz, Below w.heap.size w wz → Calls Tryd.prog 18 #[.int .u8 F, .slice A m c] wz (RetBlkE0 (2 ^ i9) wz)) := fun wz hb => by
                  rw [HFF.out]
                  exact ntt_Values_E HFI.out i9 hi9 _ l (by rw [HM.out]; exact hmz) wz (HTB.out.call hb) (HL.out.later hb)
                have HCC : Hid (∀ wz, Below w.heap.size w wz → Calls Tryd.prog 20 #[.int .u8 F, .slice A m c] wz (RetBlkE0 (2 ^ i9) wz)) := fun wz hb => by
                  rw [HFF.out]
                  exact ntt_Coefs_E HFI.out i9 hi9 _ l (by rw [HM.out]; exact hmz) wz (HTB.out.call hb) (HL.out.later hb)
                have HLN : Hid (∀ wz, Calls Tryd.prog 24 #[.int .i64 m] wz fun e w' => e = .returned (.int .i64 i9) ∧ wz = w') := fun wz => by rw [hmz]; exact law04_log_ok i9 hi9 wz
                clear hmz
                go_wp2_with fail
                refine (HVV.out _ hb00).mono ?_
                rintro e w5 ⟨g5, S5, rfl, _, _, _, _, hb5⟩
                replace hb00 := bl_call hb00 (Nat.le_refl _) hb5
                clear hb5
                go_wp2_with fail
                refine (HCC.out _ hb00).mono ?_
                rintro e w6 ⟨g6, S6, rfl, _, _, _, _, hb6⟩
                replace hb00 := bl_call hb00 (Nat.le_refl _) hb6
                clear hb6
                go_wp2_with fail
                refine (HLN.out _).mono ?_
                rintro e w' ⟨rfl, rfl⟩
                go_wp2_with fail
                go_ret
                exact ⟨rfl, hb00⟩
              · have HZ : ∀ i : Nat, i ≤ 10 → m ≠ 2 ^ i := fun i h1 h2 => hz ⟨i, h1, h2⟩
                have HVV : Hid (∀ wz, Calls Tryd.prog 18 #[.int .u8 F, .slice A m c] wz (RetE9 9 wz)) := fun wz => by
                  rw [HFF.out]
                  exact ntt_Values_size HFI.out A m c HZ wz
                have HCC : Hid (∀ wz, Calls Tryd.prog 20 #[.int .u8 F, .slice A m c] wz (RetE9 9 wz)) := fun wz => by
                  rw [HFF.out]
                  exact ntt_Coefs_size HFI.out A m c HZ wz
                have HLN : Hid (∀ wz, Calls Tryd.prog 24 #[.int .i64 m] wz fun e w' => e = .returned (.int .i64 (-1)) ∧ wz = w') := fun wz => law04_log_no m wz (fun i h1 h2 => HZ i h1 (by exact_mod_cast h2))
                clear hz HZ
                go_wp2_with fail
                refine (HVV.out _).mono ?_
                rintro e w5 ⟨rfl, hb5⟩
                replace hb00 := bl_call hb00 (Nat.le_refl _) hb5
                clear hb5
                go_wp2_with fail
                refine (HCC.out _).mono ?_
                rintro e w6 ⟨rfl, hb6⟩
                replace hb00 := bl_call hb00 (Nat.le_refl _) hb6
                clear hb6
                go_wp2_with fail
                refine (HLN.out _).mono ?_
                rintro e w' ⟨rfl, rfl⟩
                go_wp2_with fail
                go_ret
                exact ⟨rfl, hb00⟩
            · have HPT : Hid (∀ wz, Calls Tryd.prog 23 #[.int .u8 F, .int .i64 k] wz (RetE9 6 wz)) := fun wz => by
                rw [HFF.out]
                exact ntt_Points_range HFI.out k (by omega) wz
              have hk2 : k < 0 ∨ 10 < k := by omega
              clear hk
              go_wp2_with fail
              refine (HPT.out _).mono ?_
              rintro e w3 ⟨rfl, hb3⟩
              replace hb00 := bl_call hb00 (Nat.le_refl _) hb3
              clear hb3
              rcases hk2 with hk | hk
              · go_wp2_with fail
                refine (HNX.out _).mono ?_
                rintro e w' ⟨rfl, rfl⟩
                by_cases hz : ∃ i : Nat, i ≤ 10 ∧ m = 2 ^ i
                · obtain ⟨i9, hi9, hmz⟩ := hz
                  have HVV : Hid (∀ wz, Below w.heap.size w wz → Calls Tryd.prog 18 #[.int .u8 F, .slice A m c] wz (RetBlkE0 (2 ^ i9) wz)) := fun wz hb => by
                    rw [HFF.out]
                    exact ntt_Values_E HFI.out i9 hi9 _ l (by rw [HM.out]; exact hmz) wz (HTB.out.call hb) (HL.out.later hb)
                  have HCC : Hid (∀ wz, Below w.heap.size w wz → Calls Tryd.prog 20 #[.int .u8 F, .slice A m c] wz (RetBlkE0 (2 ^ i9) wz)) := fun wz hb => by
                    rw [HFF.out]
                    exact ntt_Coefs_E HFI.out i9 hi9 _ l (by rw [HM.out]; exact hmz) wz (HTB.out.call hb) (HL.out.later hb)
                  have HLN : Hid (∀ wz, Calls Tryd.prog 24 #[.int .i64 m] wz fun e w' => e = .returned (.int .i64 i9) ∧ wz = w') := fun wz => by rw [hmz]; exact law04_log_ok i9 hi9 wz
                  clear hmz
                  go_wp2_with fail
                  refine (HVV.out _ hb00).mono ?_
                  rintro e w5 ⟨g5, S5, rfl, _, _, _, _, hb5⟩
                  replace hb00 := bl_call hb00 (Nat.le_refl _) hb5
                  clear hb5
                  go_wp2_with fail
                  refine (HCC.out _ hb00).mono ?_
                  rintro e w6 ⟨g6, S6, rfl, _, _, _, _, hb6⟩
                  replace hb00 := bl_call hb00 (Nat.le_refl _) hb6
                  clear hb6
                  go_wp2_with fail
                  refine (HLN.out _).mono ?_
                  rintro e w' ⟨rfl, rfl⟩
                  go_wp2_with fail
                  go_ret
                  exact ⟨rfl, hb00⟩
                · have HZ : ∀ i : Nat, i ≤ 10 → m ≠ 2 ^ i := fun i h1 h2 => hz ⟨i, h1, h2⟩
                  have HVV : Hid (∀ wz, Calls Tryd.prog 18 #[.int .u8 F, .slice A m c] wz (RetE9 9 wz)) := fun wz => by
                    rw [HFF.out]
                    exact ntt_Values_size HFI.out A m c HZ wz
                  have HCC : Hid (∀ wz, Calls Tryd.prog 20 #[.int .u8 F, .slice A m c] wz (RetE9 9 wz)) := fun wz => by
                    rw [HFF.out]
                    exact ntt_Coefs_size HFI.out A m c HZ wz
                  have HLN : Hid (∀ wz, Calls Tryd.prog 24 #[.int .i64 m] wz fun e w' => e = .returned (.int .i64 (-1)) ∧ wz = w') := fun wz => law04_log_no m wz (fun i h1 h2 => HZ i h1 (by exact_mod_cast h2))
                  clear hz HZ
                  go_wp2_with fail
                  refine (HVV.out _).mono ?_
                  rintro e w5 ⟨rfl, hb5⟩
                  replace hb00 := bl_call hb00 (Nat.le_refl _) hb5
                  clear hb5
                  go_wp2_with fail
                  refine (HCC.out _).mono ?_
                  rintro e w6 ⟨rfl, hb6⟩
                  replace hb00 := bl_call hb00 (Nat.le_refl _) hb6
                  clear hb6
                  go_wp2_with fail
                  refine (HLN.out _).mono ?_
                  rintro e w' ⟨rfl, rfl⟩
                  go_wp2_with fail
                  go_ret
                  exact ⟨rfl, hb00⟩
              · have hk3 : ¬ (k < 0) := by omega
                go_wp2_with fail
                refine (HNX.out _).mono ?_
                rintro e w' ⟨rfl, rfl⟩
                by_cases hz : ∃ i : Nat, i ≤ 10 ∧ m = 2 ^ i
                · obtain ⟨i9, hi9, hmz⟩ := hz
                  have HVV : Hid (∀ wz, Below w.heap.size w wz → Calls Tryd.prog 18 #[.int .u8 F, .slice A m c] wz (RetBlkE0 (2 ^ i9) wz)) := fun wz hb => by
                    rw [HFF.out]
                    exact ntt_Values_E HFI.out i9 hi9 _ l (by rw [HM.out]; exact hmz) wz (HTB.out.call hb) (HL.out.later hb)
                  have HCC : Hid (∀ wz, Below w.heap.size w wz → Calls Tryd.prog 20 #[.int .u8 F, .slice A m c] wz (RetBlkE0 (2 ^ i9) wz)) := fun wz hb => by
                    rw [HFF.out]
                    exact ntt_Coefs_E HFI.out i9 hi9 _ l (by rw [HM.out]; exact hmz) wz (HTB.out.call hb) (HL.out.later hb)
                  have HLN : Hid (∀ wz, Calls Tryd.prog 24 #[.int .i64 m] wz fun e w' => e = .returned (.int .i64 i9) ∧ wz = w') := fun wz => by rw [hmz]; exact law04_log_ok i9 hi9 wz
                  clear hmz
                  go_wp2_with fail
                  refine (HVV.out _ hb00).mono ?_
                  rintro e w5 ⟨g5, S5, rfl, _, _, _, _, hb5⟩
                  replace hb00 := bl_call hb00 (Nat.le_refl _) hb5
                  clear hb5
                  go_wp2_with fail
                  refine (HCC.out _ hb00).mono ?_
                  rintro e w6 ⟨g6, S6, rfl, _, _, _, _, hb6⟩
                  replace hb00 := bl_call hb00 (Nat.le_refl _) hb6
                  clear hb6
                  go_wp2_with fail
                  refine (HLN.out _).mono ?_
                  rintro e w' ⟨rfl, rfl⟩
                  go_wp2_with fail
                  go_ret
                  exact ⟨rfl, hb00⟩
                · have HZ : ∀ i : Nat, i ≤ 10 → m ≠ 2 ^ i := fun i h1 h2 => hz ⟨i, h1, h2⟩
                  have HVV : Hid (∀ wz, Calls Tryd.prog 18 #[.int .u8 F, .slice A m c] wz (RetE9 9 wz)) := fun wz => by
                    rw [HFF.out]
                    exact ntt_Values_size HFI.out A m c HZ wz
                  have HCC : Hid (∀ wz, Calls Tryd.prog 20 #[.int .u8 F, .slice A m c] wz (RetE9 9 wz)) := fun wz => by
                    rw [HFF.out]
                    exact ntt_Coefs_size HFI.out A m c HZ wz
                  have HLN : Hid (∀ wz, Calls Tryd.prog 24 #[.int .i64 m] wz fun e w' => e = .returned (.int .i64 (-1)) ∧ wz = w') := fun wz => law04_log_no m wz (fun i h1 h2 => HZ i h1 (by exact_mod_cast h2))
                  clear hz HZ
                  go_wp2_with fail
                  refine (HVV.out _).mono ?_
                  rintro e w5 ⟨rfl, hb5⟩
                  replace hb00 := bl_call hb00 (Nat.le_refl _) hb5
                  clear hb5
                  go_wp2_with fail
                  refine (HCC.out _).mono ?_
                  rintro e w6 ⟨rfl, hb6⟩
                  replace hb00 := bl_call hb00 (Nat.le_refl _) hb6
                  clear hb6
                  go_wp2_with fail
                  refine (HLN.out _).mono ?_
                  rintro e w' ⟨rfl, rfl⟩
                  go_wp2_with fail
                  go_ret
                  exact ⟨rfl, hb00⟩
          · have HFF : Hid (F = ((2 : Nat) : Int)) := hF1
            have HFI : Hid (IsF 2) := isF2
            have t1 : (F == 1) = false := by rw [beq_eq_false_iff_ne]; omega
            have t2 : (F != 1) = true := by rw [bne, t1]; rfl
            have t3 : (F == 2) = true := by rw [beq_iff_eq]; exact hF1
            have t4 : (F != 2) = false := by rw [bne, t3]; rfl
            clear hF1
            by_cases hk : 0 ≤ k ∧ k ≤ 10
            · obtain ⟨L, hL⟩ : ∃ L : Nat, k = (L : Int) := ⟨k.toNat, by omega⟩
              have hL10 : L ≤ 10 := by omega
              have HPT : Hid (∀ wz, Calls Tryd.prog 23 #[.int .u8 F, .int .i64 k] wz fun e w' => ∃ (A : Option Addr) (c : Nat), e = .returned (.tuple #[.slice A (2 ^ L) c, .int .i64 0]) ∧ Below wz.heap.size wz w') := fun wz => by
                rw [HFF.out, hL]
                refine (ntt_Points HFI.out L hL10 wz).mono ?_
                rintro e w' ⟨v, rfl, ho, hb⟩
                rw [pows_length] at ho
                obtain ⟨A, c, rfl⟩ := own_shape ho
                exact ⟨A, c, rfl, hb⟩
              have hp : 2 ^ L ≤ 2 ^ 10 := Nat.pow_le_pow_right (by omega) hL10
              have hpi : (2 : Int) ^ L = ((2 ^ L : Nat) : Int) := by rw [Int.natCast_pow]; rfl
              have g1 : ¬ (k < 0) := by omega
              have g2 : ¬ (10 < k) := by omega
              subst hL
              obtain ⟨N, hN⟩ : ∃ N, 2 ^ L = N := ⟨_, rfl⟩
              rw [hN] at HPT hp hpi
              clear hN hk
              go_wp2_with fail
              refine (HPT.out _).mono ?_
              rintro e w3 ⟨A3, c3, rfl, hb3⟩
              replace hb00 := bl_call hb00 (Nat.le_refl _) hb3
              clear hb3
              go_wp2_with fail
              refine (HNX.out _).mono ?_
              rintro e w' ⟨rfl, rfl⟩
              by_cases hz : ∃ i : Nat, i ≤ 10 ∧ m = 2 ^ i
              · obtain ⟨i9, hi9, hmz⟩ := hz
                have HVV : Hid (∀ wz, Below w.heap.size w wz → Calls Tryd.prog 18 #[.int .u8 F, .slice A m c] wz (RetBlkE0 (2 ^ i9) wz)) := fun wz hb => by
                  rw [HFF.out]
                  exact ntt_Values_E HFI.out i9 hi9 _ l (by rw [HM.out]; exact hmz) wz (HTB.out.call hb) (HL.out.later hb)
                have HCC : Hid (∀ wz, Below w.heap.size w wz → Calls Tryd.prog 20 #[.int .u8 F, .slice A m c] wz (RetBlkE0 (2 ^ i9) wz)) := fun wz hb => by
                  rw [HFF.out]
                  exact ntt_Coefs_E HFI.out i9 hi9 _ l (by rw [HM.out]; exact hmz) wz (HTB.out.call hb) (HL.out.later hb)
                have HLN : Hid (∀ wz, Calls Tryd.prog 24 #[.int .i64 m] wz fun e w' => e = .returned (.int .i64 i9) ∧ wz = w') := fun wz => by rw [hmz]; exact law04_log_ok i9 hi9 wz
                clear hmz
                go_wp2_with fail
                refine (HVV.out _ hb00).mono ?_
                rintro e w5 ⟨g5, S5, rfl, _, _, _, _, hb5⟩
                replace hb00 := bl_call hb00 (Nat.le_refl _) hb5
                clear hb5
                go_wp2_with fail
                refine (HCC.out _ hb00).mono ?_
                rintro e w6 ⟨g6, S6, rfl, _, _, _, _, hb6⟩
                replace hb00 := bl_call hb00 (Nat.le_refl _) hb6
                clear hb6
                go_wp2_with fail
                refine (HLN.out _).mono ?_
                rintro e w' ⟨rfl, rfl⟩
                go_wp2_with fail
                go_ret
                exact ⟨rfl, hb00⟩
              · have HZ : ∀ i : Nat, i ≤ 10 → m ≠ 2 ^ i := fun i h1 h2 => hz ⟨i, h1, h2⟩
                have HVV : Hid (∀ wz, Calls Tryd.prog 18 #[.int .u8 F, .slice A m c] wz (RetE9 9 wz)) := fun wz => by
                  rw [HFF.out]
                  exact ntt_Values_size HFI.out A m c HZ wz
                have HCC : Hid (∀ wz, Calls Tryd.prog 20 #[.int .u8 F, .slice A m c] wz (RetE9 9 wz)) := fun wz => by
                  rw [HFF.out]
                  exact ntt_Coefs_size HFI.out A m c HZ wz
                have HLN : Hid (∀ wz, Calls Tryd.prog 24 #[.int .i64 m] wz fun e w' => e = .returned (.int .i64 (-1)) ∧ wz = w') := fun wz => law04_log_no m wz (fun i h1 h2 => HZ i h1 (by exact_mod_cast h2))
                clear hz HZ
                go_wp2_with fail
                refine (HVV.out _).mono ?_
                rintro e w5 ⟨rfl, hb5⟩
                replace hb00 := bl_call hb00 (Nat.le_refl _) hb5
                clear hb5
                go_wp2_with fail
                refine (HCC.out _).mono ?_
                rintro e w6 ⟨rfl, hb6⟩
                replace hb00 := bl_call hb00 (Nat.le_refl _) hb6
                clear hb6
                go_wp2_with fail
                refine (HLN.out _).mono ?_
                rintro e w' ⟨rfl, rfl⟩
                go_wp2_with fail
                go_ret
                exact ⟨rfl, hb00⟩
            · have HPT : Hid (∀ wz, Calls Tryd.prog 23 #[.int .u8 F, .int .i64 k] wz (RetE9 6 wz)) := fun wz => by
                rw [HFF.out]
                exact ntt_Points_range HFI.out k (by omega) wz
              have hk2 : k < 0 ∨ 10 < k := by omega
              clear hk
              go_wp2_with fail
              refine (HPT.out _).mono ?_
              rintro e w3 ⟨rfl, hb3⟩
              replace hb00 := bl_call hb00 (Nat.le_refl _) hb3
              clear hb3
              rcases hk2 with hk | hk
              · go_wp2_with fail
                refine (HNX.out _).mono ?_
                rintro e w' ⟨rfl, rfl⟩
                by_cases hz : ∃ i : Nat, i ≤ 10 ∧ m = 2 ^ i
                · obtain ⟨i9, hi9, hmz⟩ := hz
                  have HVV : Hid (∀ wz, Below w.heap.size w wz → Calls Tryd.prog 18 #[.int .u8 F, .slice A m c] wz (RetBlkE0 (2 ^ i9) wz)) := fun wz hb => by
                    rw [HFF.out]
                    exact ntt_Values_E HFI.out i9 hi9 _ l (by rw [HM.out]; exact hmz) wz (HTB.out.call hb) (HL.out.later hb)
                  have HCC : Hid (∀ wz, Below w.heap.size w wz → Calls Tryd.prog 20 #[.int .u8 F, .slice A m c] wz (RetBlkE0 (2 ^ i9) wz)) := fun wz hb => by
                    rw [HFF.out]
                    exact ntt_Coefs_E HFI.out i9 hi9 _ l (by rw [HM.out]; exact hmz) wz (HTB.out.call hb) (HL.out.later hb)
                  have HLN : Hid (∀ wz, Calls Tryd.prog 24 #[.int .i64 m] wz fun e w' => e = .returned (.int .i64 i9) ∧ wz = w') := fun wz => by rw [hmz]; exact law04_log_ok i9 hi9 wz
                  clear hmz
                  go_wp2_with fail
                  refine (HVV.out _ hb00).mono ?_
                  rintro e w5 ⟨g5, S5, rfl, _, _, _, _, hb5⟩
                  replace hb00 := bl_call hb00 (Nat.le_refl _) hb5
                  clear hb5
                  go_wp2_with fail
                  refine (HCC.out _ hb00).mono ?_
                  rintro e w6 ⟨g6, S6, rfl, _, _, _, _, hb6⟩
                  replace hb00 := bl_call hb00 (Nat.le_refl _) hb6
                  clear hb6
                  go_wp2_with fail
                  refine (HLN.out _).mono ?_
                  rintro e w' ⟨rfl, rfl⟩
                  go_wp2_with fail
                  go_ret
                  exact ⟨rfl, hb00⟩
                · have HZ : ∀ i : Nat, i ≤ 10 → m ≠ 2 ^ i := fun i h1 h2 => hz ⟨i, h1, h2⟩
                  have HVV : Hid (∀ wz, Calls Tryd.prog 18 #[.int .u8 F, .slice A m c] wz (RetE9 9 wz)) := fun wz => by
                    rw [HFF.out]
                    exact ntt_Values_size HFI.out A m c HZ wz
                  have HCC : Hid (∀ wz, Calls Tryd.prog 20 #[.int .u8 F, .slice A m c] wz (RetE9 9 wz)) := fun wz => by
                    rw [HFF.out]
                    exact ntt_Coefs_size HFI.out A m c HZ wz
                  have HLN : Hid (∀ wz, Calls Tryd.prog 24 #[.int .i64 m] wz fun e w' => e = .returned (.int .i64 (-1)) ∧ wz = w') := fun wz => law04_log_no m wz (fun i h1 h2 => HZ i h1 (by exact_mod_cast h2))
                  clear hz HZ
                  go_wp2_with fail
                  refine (HVV.out _).mono ?_
                  rintro e w5 ⟨rfl, hb5⟩
                  replace hb00 := bl_call hb00 (Nat.le_refl _) hb5
                  clear hb5
                  go_wp2_with fail
                  refine (HCC.out _).mono ?_
                  rintro e w6 ⟨rfl, hb6⟩
                  replace hb00 := bl_call hb00 (Nat.le_refl _) hb6
                  clear hb6
                  go_wp2_with fail
                  refine (HLN.out _).mono ?_
                  rintro e w' ⟨rfl, rfl⟩
                  go_wp2_with fail
                  go_ret
                  exact ⟨rfl, hb00⟩
              · have hk3 : ¬ (k < 0) := by omega
                go_wp2_with fail
                refine (HNX.out _).mono ?_
                rintro e w' ⟨rfl, rfl⟩
                by_cases hz : ∃ i : Nat, i ≤ 10 ∧ m = 2 ^ i
                · obtain ⟨i9, hi9, hmz⟩ := hz
                  have HVV : Hid (∀ wz, Below w.heap.size w wz → Calls Tryd.prog 18 #[.int .u8 F, .slice A m c] wz (RetBlkE0 (2 ^ i9) wz)) := fun wz hb => by
                    rw [HFF.out]
                    exact ntt_Values_E HFI.out i9 hi9 _ l (by rw [HM.out]; exact hmz) wz (HTB.out.call hb) (HL.out.later hb)
                  have HCC : Hid (∀ wz, Below w.heap.size w wz → Calls Tryd.prog 20 #[.int .u8 F, .slice A m c] wz (RetBlkE0 (2 ^ i9) wz)) := fun wz hb => by
                    rw [HFF.out]
                    exact ntt_Coefs_E HFI.out i9 hi9 _ l (by rw [HM.out]; exact hmz) wz (HTB.out.call hb) (HL.out.later hb)
                  have HLN : Hid (∀ wz, Calls Tryd.prog 24 #[.int .i64 m] wz fun e w' => e = .returned (.int .i64 i9) ∧ wz = w') := fun wz => by rw [hmz]; exact law04_log_ok i9 hi9 wz
                  clear hmz
                  go_wp2_with fail
                  refine (HVV.out _ hb00).mono ?_
                  rintro e w5 ⟨g5, S5, rfl, _, _, _, _, hb5⟩
                  replace hb00 := bl_call hb00 (Nat.le_refl _) hb5
                  clear hb5
                  go_wp2_with fail
                  refine (HCC.out _ hb00).mono ?_
                  rintro e w6 ⟨g6, S6, rfl, _, _, _, _, hb6⟩
                  replace hb00 := bl_call hb00 (Nat.le_refl _) hb6
                  clear hb6
                  go_wp2_with fail
                  refine (HLN.out _).mono ?_
                  rintro e w' ⟨rfl, rfl⟩
                  go_wp2_with fail
                  go_ret
                  exact ⟨rfl, hb00⟩
                · have HZ : ∀ i : Nat, i ≤ 10 → m ≠ 2 ^ i := fun i h1 h2 => hz ⟨i, h1, h2⟩
                  have HVV : Hid (∀ wz, Calls Tryd.prog 18 #[.int .u8 F, .slice A m c] wz (RetE9 9 wz)) := fun wz => by
                    rw [HFF.out]
                    exact ntt_Values_size HFI.out A m c HZ wz
                  have HCC : Hid (∀ wz, Calls Tryd.prog 20 #[.int .u8 F, .slice A m c] wz (RetE9 9 wz)) := fun wz => by
                    rw [HFF.out]
                    exact ntt_Coefs_size HFI.out A m c HZ wz
                  have HLN : Hid (∀ wz, Calls Tryd.prog 24 #[.int .i64 m] wz fun e w' => e = .returned (.int .i64 (-1)) ∧ wz = w') := fun wz => law04_log_no m wz (fun i h1 h2 => HZ i h1 (by exact_mod_cast h2))
                  clear hz HZ
                  go_wp2_with fail
                  refine (HVV.out _).mono ?_
                  rintro e w5 ⟨rfl, hb5⟩
                  replace hb00 := bl_call hb00 (Nat.le_refl _) hb5
                  clear hb5
                  go_wp2_with fail
                  refine (HCC.out _).mono ?_
                  rintro e w6 ⟨rfl, hb6⟩
                  replace hb00 := bl_call hb00 (Nat.le_refl _) hb6
                  clear hb6
                  go_wp2_with fail
                  refine (HLN.out _).mono ?_
                  rintro e w' ⟨rfl, rfl⟩
                  go_wp2_with fail
                  go_ret
                  exact ⟨rfl, hb00⟩
          · have t1 : (F == 1) = false := by rw [beq_eq_false_iff_ne]; exact hF1.1
            have t2 : (F != 1) = true := by rw [bne, t1]; rfl
            have t3 : (F == 2) = false := by rw [beq_eq_false_iff_ne]; exact hF1.2
            have t4 : (F != 2) = true := by rw [bne, t3]; rfl
            have HP9 := Lib.hid (HP9.out hF1)
            have HV3 := Lib.hid (HV3.out hF1)
            have HC9 := Lib.hid (HC9.out hF1)
            clear hF1
            go_wp2_with fail
            refine (HP9.out _).mono ?_
            rintro e w3 ⟨rfl, hb3⟩
            replace hb00 := bl_call hb00 (Nat.le_refl _) hb3
            clear hb3
            go_wp2_with fail
            refine (HNX.out _).mono ?_
            rintro e w' ⟨rfl, rfl⟩
            go_wp2_with fail
            refine (HV3.out _).mono ?_
            rintro e w5 ⟨rfl, hb5⟩
            replace hb00 := bl_call hb00 (Nat.le_refl _) hb5
            clear hb5
            go_wp2_with fail
            refine (HC9.out _).mono ?_
            rintro e w6 ⟨rfl, hb6⟩
            replace hb00 := bl_call hb00 (Nat.le_refl _) hb6
            clear hb6
            go_wp2_with fail
            go_ret
            exact ⟨rfl, hb00⟩

end Go.Proofs.YtfhmineolncefaaDoor
