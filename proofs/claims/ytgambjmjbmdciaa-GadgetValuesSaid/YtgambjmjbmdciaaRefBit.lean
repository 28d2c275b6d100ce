/-
  WALK: the reference's bit.
-/
import Derived.Test.YtgambjmjbmdciaaKit
namespace Go.Proofs.Ytgambjmjbmdciaa
open Go.RowKit Fm
set_option linter.unusedVariables false
set_option maxRecDepth 100000

/-- a bit of a number -/
def bitN (n : Nat) (i : Nat) : Bool := n / 2 ^ i % 2 == 1

set_option maxHeartbeats 1000000 in
theorem ref_bit {f : Nat} (x : Fin (Pm f)) (i : Nat) (hi128 : i < 128) (w : World) :
    Calls Try.prog 152 #[vK x, .int .i64 i] w fun e w' => e = .returned (.bool (bitN x.val i)) ∧ Below w.heap.size w w' := by
  obtain ⟨n, c, hn, hv, hq, hr⟩ : ∃ (n : Nat) (c : Nat), n ≤ 18446744073709551615 ∧ (if i < 64 then lo x else hi x) = (n : Int) ∧ c = i % 64 ∧ bitN x.val i = bitN n c := by
    have hl := val_lohi x
    have h0 := lo_0 x
    have h1 := lo_1 x
    have h2 := hi_0 x
    have h3 := hi_1 x
    by_cases h : i < 64
    · refine ⟨(lo x).toNat, i % 64, by omega, by rw [if_pos h]; omega, rfl, ?_⟩
      unfold bitN
      rw [Nat.mod_eq_of_lt h]
      have hx : x.val = (lo x).toNat + 2 ^ 64 * (hi x).toNat := by omega
      rw [hx, show 2 ^ 64 * (hi x).toNat = 2 ^ i * (2 * (2 ^ (63 - i) * (hi x).toNat)) by
        rw [← Nat.mul_assoc 2, ← Nat.pow_succ', ← Nat.mul_assoc, ← Nat.pow_add]
        congr 2
        omega, Nat.add_mul_div_left _ _ (Nat.two_pow_pos i), Nat.add_mul_mod_self_left]
    · refine ⟨(hi x).toNat, i % 64, by omega, by rw [if_neg h]; omega, rfl, ?_⟩
      unfold bitN
      have hx : x.val / 2 ^ 64 = (hi x).toNat := by omega
      rw [← hx, Nat.div_div_eq_div_mul, ← Nat.pow_add, show 64 + i % 64 = i by omega]
  rw [hr]
  have HQ := Lib.hid hq
  clear hq hr
  have hc : c < 64 := by have := HQ.out; omega
  have hir : ((i : Int) % 64) = (c : Int) := by have := HQ.out; omega
  go_enter Try.func152, Try.ntmps152
  go_upto_region 1 with fail
  go_cut [5] (fun t wx => t = .int .u64 n ∧ Below w.heap.size w wx)
  case first =>
    by_cases h : i < 64
    · rw [if_pos h] at hv
      have hq0 : (i : Int) / 64 = 0 := by omega
      have HV := Lib.hid hv
      clear hir hv
      go_wp2
      go_meet
      exact ⟨by rw [HV.out], by repeat (first | exact Below.refl _ _ | with_reducible assumption | (refine bl_alloc ?_ (Nat.le_refl _) _) | (refine bl_set ?_ (by dsimp only; omega) _) | (refine Below.drew ?_) | (refine bl_drewN ?_ _) | (refine bl_call ?_ (Nat.le_refl _) (by assumption)))⟩
    · rw [if_neg h] at hv
      have hq0 : (i : Int) / 64 = 1 := by omega
      have HV := Lib.hid hv
      clear hir hv
      go_wp2
      go_meet
      exact ⟨by rw [HV.out], by repeat (first | exact Below.refl _ _ | with_reducible assumption | (refine bl_alloc ?_ (Nat.le_refl _) _) | (refine bl_set ?_ (by dsimp only; omega) _) | (refine Below.drew ?_) | (refine bl_drewN ?_ _) | (refine bl_call ?_ (Nat.le_refl _) (by assumption)))⟩
  case rest =>
    obtain ⟨rfl, hb0⟩ := hcut
    clear hv
    go_wp2_with fail
    go_loop [5, 6] (fun t j => ∃ k : Nat, k ≤ c ∧ j = .int .i64 k ∧ ∃ m : Nat, t = .int .u64 m ∧ m ≤ 18446744073709551615 ∧ Hid (m = n / 2 ^ k)) (fun _ j => c - (intOf j).toNat)
    case atStart => exact ⟨0, Nat.zero_le _, rfl, n, rfl, hn, by show _ = _; rw [Nat.pow_zero, Nat.div_one]⟩
    case round =>
      obtain ⟨k, hk, rfl, m, rfl, hm, HM⟩ := hrel
      by_cases hlt : k < c
      · go_wp2
        go_round
        case rel => exact ⟨k + 1, by omega, by go_num, m / 2, by go_num, by omega, by show _ = _; rw [HM.out, Nat.div_div_eq_div_mul, Nat.pow_succ]⟩
        case measure => simp [intOf]; omega
      · obtain rfl : k = c := by omega
        go_wp2
        go_ret
        refine ⟨ret_bool ?_, by repeat (first | exact Below.refl _ _ | with_reducible assumption | (refine bl_alloc ?_ (Nat.le_refl _) _) | (refine bl_set ?_ (by dsimp only; omega) _) | (refine Below.drew ?_) | (refine bl_drewN ?_ _) | (refine bl_call ?_ (Nat.le_refl _) (by assumption)))⟩
        unfold bitN
        rw [← HM.out]
        by_cases h : m % 2 = 1
        · simp [h]
          omega
        · have h0 : m % 2 = 0 := by omega
          simp [h0]
          omega

end Go.Proofs.Ytgambjmjbmdciaa
