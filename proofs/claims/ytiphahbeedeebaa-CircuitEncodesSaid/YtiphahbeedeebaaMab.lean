/-
  WALKS: package gold; the intrinsics of math/bits.
-/
/-
  WALKS: package wide.
-/
/-
  WALKS: package wide, on.
-/
import Derived.Test.YtiphahbeedeebaaMaa
import Derived.Test.YtiphahbeedeebaaProg
import Derived.Shelf.Spec.BitsCarry
import Derived.Shelf.Bits.Mul64
namespace Go.Proofs.Ytiphahbeedeebaa
open Go.RowKit Fm
set_option linter.unusedVariables false
set_option maxRecDepth 100000

/-! ### math/bits: entries of the model -/
theorem add64 (x y c : Int) (w : World) (hx0 : 0 ≤ x) (hy0 : 0 ≤ y) (hx : x ≤ 18446744073709551615) (hy : y ≤ 18446744073709551615) (hc0 : 0 ≤ c) (hc : c ≤ 1) :
    (callFunc 124 #[.int .u64 x, .int .u64 y, .int .u64 c]).run Try.prog w =
      .ok (.value (.tuple #[.int .u64 ((x + y + c) % 18446744073709551616), .int .u64 ((x + y + c) / 18446744073709551616)])) w := by
  obtain ⟨x, rfl⟩ := Int.eq_ofNat_of_zero_le hx0
  obtain ⟨y, rfl⟩ := Int.eq_ofNat_of_zero_le hy0
  obtain ⟨c, rfl⟩ := Int.eq_ofNat_of_zero_le hc0
  rw [run_callFunc_extern Try.func124 (by kernel_rfl) (by kernel_rfl) (by kernel_rfl) (e := add64Entry) (by kernel_rfl), run_add64 x y c (by omega) (by omega) (by omega) (by omega)]
  rfl

theorem sub64 (x y b : Int) (w : World) (hx0 : 0 ≤ x) (hy0 : 0 ≤ y) (hx : x ≤ 18446744073709551615) (hy : y ≤ 18446744073709551615) (hb0 : 0 ≤ b) (hb : b ≤ 1) :
    (callFunc 141 #[.int .u64 x, .int .u64 y, .int .u64 b]).run Try.prog w =
      .ok (.value (.tuple #[.int .u64 ((x - y - b) % 18446744073709551616), .int .u64 (if x < y + b then 1 else 0)])) w := by
  obtain ⟨x, rfl⟩ := Int.eq_ofNat_of_zero_le hx0
  obtain ⟨y, rfl⟩ := Int.eq_ofNat_of_zero_le hy0
  obtain ⟨b, rfl⟩ := Int.eq_ofNat_of_zero_le hb0
  rw [run_callFunc_extern Try.func141 (by kernel_rfl) (by kernel_rfl) (by kernel_rfl) (e := sub64Entry) (by kernel_rfl), run_sub64 x y b (by omega)]
  simp only [Result.andThen]
  have e1 : (((x + 18446744073709551616 - y - b) % 18446744073709551616 : Nat) : Int) = ((x : Int) - y - b) % 18446744073709551616 := by omega
  have e2 : (((if x < y + b then 1 else 0 : Nat)) : Int) = if (x : Int) < (y : Int) + (b : Int) then 1 else 0 := by split <;> split <;> omega
  rw [e1, e2]

/-! ### gold -/
theorem gold_Of (a : Int) (w : World) (h0 : 0 ≤ a) (h1 : a ≤ 18446744073709551615) :
    Calls Try.prog 122 #[.int .u64 a] w fun e w' => e = .returned (.int .u64 (a % 18446744069414584321)) ∧ w = w' := by
  by_cases h : 18446744069414584321 ≤ a
  · go_enter Try.func122, Try.ntmps122
    go_wp2
    go_ret
    exact ⟨ret_int (by omega), rfl⟩
  · go_enter Try.func122, Try.ntmps122
    go_wp2
    go_ret
    exact ⟨ret_int (by omega), rfl⟩

theorem gold_In (a : Int) (w : World) (h0 : 0 ≤ a) (h1 : a ≤ 18446744073709551615) :
    Calls Try.prog 116 #[.int .u64 a] w fun e w' => e = .returned (.bool (decide (a < 18446744069414584321))) ∧ w = w' := by
  go_enter Try.func116, Try.ntmps116
  go_wp2
  go_ret
  exact ⟨rfl, rfl⟩

theorem gold_Neg (a : Int) (w : World) (h0 : 0 ≤ a) (h1 : a ≤ 18446744073709551615) :
    Calls Try.prog 132 #[.int .u64 a] w fun e w' => e = .returned (.int .u64 ((-a) % 18446744069414584321)) ∧ w = w' := by
  by_cases h : a % 18446744069414584321 = 0
  · have hb : (a % 18446744069414584321 == 0) = true := by simp [h]
    go_enter Try.func132, Try.ntmps132
    go_wp2_with (go_at_call 122; refine (gold_Of _ _ (by omega) (by omega)).mono ?_; rintro e w' ⟨rfl, rfl⟩)
    go_ret
    exact ⟨ret_int (by omega), rfl⟩
  · have hb : (a % 18446744069414584321 == 0) = false := by simp [h]
    go_enter Try.func132, Try.ntmps132
    go_wp2_with (go_at_call 122; refine (gold_Of _ _ (by omega) (by omega)).mono ?_; rintro e w' ⟨rfl, rfl⟩)
    go_ret
    exact ⟨ret_int (by omega), rfl⟩

theorem gold_Add (a b : Int) (w : World) (h0 : 0 ≤ a) (h1 : a ≤ 18446744073709551615) (g0 : 0 ≤ b) (g1 : b ≤ 18446744073709551615) :
    Calls Try.prog 105 #[.int .u64 a, .int .u64 b] w fun e w' => e = .returned (.int .u64 ((a + b) % 18446744069414584321)) ∧ w = w' := by
  go_enter Try.func105, Try.ntmps105
  go_wp2_with (go_at_call 122; refine (gold_Of _ _ (by omega) (by omega)).mono ?_; rintro e w' ⟨rfl, rfl⟩)
  rw [add64]
  case hx0 => omega
  case hy0 => omega
  case hx => omega
  case hy => omega
  case hc0 => omega
  case hc => omega
  go_wp2
  all_goals go_ret
  all_goals refine ⟨ret_int ?_, rfl⟩
  all_goals (try rw [IntKind.wrap_u64]); (try simp only [beq_iff_eq, beq_eq_false_iff_ne] at *); omega

theorem gold_Sub (a b : Int) (w : World) (h0 : 0 ≤ a) (h1 : a ≤ 18446744073709551615) (g0 : 0 ≤ b) (g1 : b ≤ 18446744073709551615) :
    Calls Try.prog 114 #[.int .u64 a, .int .u64 b] w fun e w' => e = .returned (.int .u64 ((a - b) % 18446744069414584321)) ∧ w = w' := by
  go_enter Try.func114, Try.ntmps114
  go_wp2_with (first
    | (go_at_call 132; refine (gold_Neg _ _ (by omega) (by omega)).mono ?_; rintro e w' ⟨rfl, rfl⟩)
    | (go_at_call 105; refine (gold_Add _ _ _ (by omega) (by omega) (by omega) (by omega)).mono ?_; rintro e w' ⟨rfl, rfl⟩))
  go_ret
  exact ⟨ret_int (by omega), rfl⟩

theorem bits_Mul64 (x y : Nat) (hx : x < 18446744073709551616) (hy : y < 18446744073709551616) (w : World) :
    Calls Try.prog 135 #[.int .u64 x, .int .u64 y] w fun e w' => e = .returned (.tuple #[.int .u64 ((x * y / 18446744073709551616 : Nat) : Int), .int .u64 ((x * y % 18446744073709551616 : Nat) : Int)]) ∧ w' = w := by
  obtain ⟨bd, bt, bw, hhi⟩ := Lib.mul64_hi x y hx hy
  have ba := Lib.half_mul_le (a := x / 4294967296) (b := y / 4294967296) (by omega) (by omega)
  have bb := Lib.half_mul_le (a := x / 4294967296) (b := y % 4294967296) (by omega) (by omega)
  have bc := Lib.half_mul_le (a := x % 4294967296) (b := y / 4294967296) (by omega) (by omega)
  have ba' : x / 4294967296 * (y / 4294967296) < 18446744073709551616 := by omega
  have bb' : x / 4294967296 * (y % 4294967296) < 18446744073709551616 := by omega
  have bc' : x % 4294967296 * (y / 4294967296) < 18446744073709551616 := by omega
  have bh1 : x / 4294967296 * (y / 4294967296) + (x / 4294967296 * (y % 4294967296) + x % 4294967296 * (y % 4294967296) / 4294967296) / 4294967296 < 18446744073709551616 := by omega
  have bh : x / 4294967296 * (y / 4294967296) + (x / 4294967296 * (y % 4294967296) + x % 4294967296 * (y % 4294967296) / 4294967296) / 4294967296 + ((x / 4294967296 * (y % 4294967296) + x % 4294967296 * (y % 4294967296) / 4294967296) % 4294967296 + x % 4294967296 * (y / 4294967296)) / 4294967296 < 18446744073709551616 := by omega
  go_enter Try.func135, Try.ntmps135
  go_wp2
  simp only [Mul64.maskN x hx, Mul64.maskN y hy, Mul64.divN, Mul64.mulN, Mul64.addN, Mul64.wrapN _ bd, Mul64.wrapN _ bb', Mul64.wrapN _ bt, Mul64.maskN _ bt, Mul64.wrapN _ bc', Mul64.wrapN _ bw, Mul64.wrapN _ ba', Mul64.wrapN _ bh1, Mul64.wrapN _ bh, Mul64.wrapM (x * y)]
  rw [hhi]
  go_ret2
  exact ⟨rfl, rfl⟩

/-- the product of two numbers of 64 bits: its upper and its lower half -/
theorem mul64 (x y : Int) (w : World) (hx0 : 0 ≤ x) (hx : x ≤ 18446744073709551615) (hy0 : 0 ≤ y) (hy : y ≤ 18446744073709551615) :
    Calls Try.prog 135 #[.int .u64 x, .int .u64 y] w fun e w' => ∃ hi lo : Int, e = .returned (.tuple #[.int .u64 hi, .int .u64 lo]) ∧ w = w' ∧
      (0 ≤ hi ∧ hi ≤ 18446744073709551615 ∧ 0 ≤ lo ∧ lo ≤ 18446744073709551615) ∧ Hid (hi * 18446744073709551616 + lo = x * y) := by
  obtain ⟨x, rfl⟩ := Int.eq_ofNat_of_zero_le hx0
  obtain ⟨y, rfl⟩ := Int.eq_ofNat_of_zero_le hy0
  refine (bits_Mul64 x y (by omega) (by omega) w).mono ?_
  rintro e w' ⟨rfl, rfl⟩
  have hm : x * y ≤ 18446744073709551615 * 18446744073709551615 := Nat.mul_le_mul (by omega) (by omega)
  refine ⟨_, _, rfl, rfl, ?_, ?_⟩
  · generalize x * y = z at *
    omega
  · show _ = _
    rw [← Int.natCast_mul]
    generalize x * y = z at *
    omega

theorem mask32 (a : Int) (h0 : 0 ≤ a) (h1 : a ≤ 18446744073709551615) : bits .and .u64 a 4294967295 = a % 4294967296 := by
  obtain ⟨a, rfl⟩ := Int.eq_ofNat_of_zero_le h0
  rw [Mul64.maskN a (by omega)]
  omega

theorem fold_law (hi lo n : Int) (h0 : 0 ≤ hi) (h1 : hi ≤ 18446744073709551615)
    (hn : n = lo - hi / 4294967296 ∨ n = lo - hi / 4294967296 + 18446744069414584321) :
    (n + hi % 4294967296 * 4294967295) % 18446744069414584321 = (hi * 18446744073709551616 + lo) % 18446744069414584321 := by
  have e : hi * 18446744073709551616 + lo = (lo - hi / 4294967296 + hi % 4294967296 * 4294967295) + 18446744069414584321 * (hi / 4294967296 * 4294967297 + hi % 4294967296) := by omega
  rw [e, Int.add_mul_emod_self_left]
  rcases hn with rfl | rfl
  · rfl
  · generalize hi % 4294967296 * 4294967295 = x
    generalize lo - hi / 4294967296 = y
    omega

theorem gold_fold (hi lo : Int) (w : World) (h0 : 0 ≤ hi) (h1 : hi ≤ 18446744073709551615) (g0 : 0 ≤ lo) (g1 : lo ≤ 18446744073709551615) :
    Calls Try.prog 136 #[.int .u64 hi, .int .u64 lo] w fun e w' => e = .returned (.int .u64 ((hi * 18446744073709551616 + lo) % 18446744069414584321)) ∧ w = w' := by
  have hm := mask32 hi h0 h1
  go_enter Try.func136, Try.ntmps136
  go_wp2_with fail
  rw [sub64]
  case hx0 => omega
  case hy0 => omega
  case hx => omega
  case hy => omega
  case hb0 => omega
  case hb => omega
  by_cases hlt : lo < hi / 4294967296
  · rw [if_pos (by omega)]
    go_wp2_with (go_at_call 105; refine (gold_Add _ _ _ (by omega) (by omega) (by omega) (by omega)).mono ?_; rintro e w' ⟨rfl, rfl⟩)
    go_ret
    exact ⟨ret_int (fold_law hi lo _ h0 h1 (.inr (by clear hm; omega))), rfl⟩
  · rw [if_neg (by omega)]
    go_wp2_with (go_at_call 105; refine (gold_Add _ _ _ (by omega) (by omega) (by omega) (by omega)).mono ?_; rintro e w' ⟨rfl, rfl⟩)
    go_ret
    exact ⟨ret_int (fold_law hi lo _ h0 h1 (.inl (by clear hm; omega))), rfl⟩

theorem gold_Mul (a b : Int) (w : World) (h0 : 0 ≤ a) (h1 : a ≤ 18446744073709551615) (g0 : 0 ≤ b) (g1 : b ≤ 18446744073709551615) :
    Calls Try.prog 118 #[.int .u64 a, .int .u64 b] w fun e w' => e = .returned (.int .u64 ((a * b) % 18446744069414584321)) ∧ w = w' := by
  go_enter Try.func118, Try.ntmps118
  go_wp2_with (first
    | (go_at_call 122; refine (gold_Of _ _ (by omega) (by omega)).mono ?_; rintro e w' ⟨rfl, rfl⟩)
    | (go_at_call 135; refine (mul64 _ _ _ (by omega) (by omega) (by omega) (by omega)).mono ?_; rintro e w' ⟨hi, lo, rfl, rfl, hb, HM⟩)
    | (go_at_call 136; refine (gold_fold _ _ _ (by omega) (by omega) (by omega) (by omega)).mono ?_; rintro e w' ⟨rfl, rfl⟩))
  go_ret
  refine ⟨ret_int ?_, rfl⟩
  rw [HM.out]
  exact (Int.mul_emod a b _).symm

/-- so many times by itself -/
def ipow (a : Int) : Nat → Int
  | 0 => 1
  | n + 1 => ipow a n * a

theorem ipow_add (a : Int) (m n : Nat) : ipow a (m + n) = ipow a m * ipow a n := by
  induction n with
  | zero => simp [ipow]
  | succ n ih => rw [← Nat.add_assoc]; simp only [ipow, ih, Int.mul_assoc]

theorem ipow_sq (a : Int) (n : Nat) : ipow (a * a) n = ipow a (n + n) := by
  induction n with
  | zero => rfl
  | succ n ih =>
    rw [show n + 1 + (n + 1) = (n + n) + 1 + 1 from by omega]
    simp only [ipow, ih, Int.mul_assoc]

theorem ipow_emod (a p : Int) (n : Nat) : ipow (a % p) n % p = ipow a n % p := by
  induction n with
  | zero => rfl
  | succ n ih => rw [ipow, ipow, Int.mul_emod, ih, Int.emod_emod_of_dvd _ (Int.dvd_refl p), ← Int.mul_emod]

theorem ipow_half (a : Int) (n : Nat) : ipow a n = ipow (a * a) (n / 2) * (if n % 2 = 1 then a else 1) := by
  rw [ipow_sq]
  by_cases h : n % 2 = 1
  · rw [if_pos h]
    conv => lhs; rw [show n = n / 2 + n / 2 + 1 from by omega]
    rfl
  · rw [if_neg h]
    conv => lhs; rw [show n = n / 2 + n / 2 from by omega]
    simp

/-- one round of squaring and multiplying -/
theorem pow_step (p a out : Int) (n : Nat) :
    ((if n % 2 = 1 then out * a % p else out) * ipow (a * a % p) (n / 2)) % p = (out * ipow a n) % p := by
  have e1 : ∀ x : Int, (x * ipow (a * a % p) (n / 2)) % p = (x * ipow (a * a) (n / 2)) % p := by
    intro x
    rw [Int.mul_emod, ipow_emod, ← Int.mul_emod]
  rw [e1, ipow_half a n]
  by_cases h : n % 2 = 1
  · rw [if_pos h, if_pos h, Int.mul_emod, Int.emod_emod_of_dvd _ (Int.dvd_refl p), ← Int.mul_emod]
    congr 1
    rw [Int.mul_assoc, Int.mul_comm a]
  · rw [if_neg h, if_neg h, Int.mul_one]

theorem and_one (n : Int) (h0 : 0 ≤ n) (h1 : n ≤ 18446744073709551615) : bits .and .u64 n 1 = n % 2 := by
  obtain ⟨n, rfl⟩ := Int.eq_ofNat_of_zero_le h0
  have h := bits_and_u64_nat n 1 (by omega) (by omega)
  have e : n &&& 1 = n % 2 := Nat.and_one_is_mod n
  rw [e] at h
  exact h.trans (by omega)

def gPowInv (a0 : Int) (n0 : Nat) (out a : Int) (n : Nat) : Prop := (out * ipow a n) % 18446744069414584321 = ipow a0 n0 % 18446744069414584321

theorem gPowInv_step {a0 : Int} {n0 : Nat} {out a : Int} {n : Nat} (h : gPowInv a0 n0 out a n) :
    gPowInv a0 n0 (if n % 2 = 1 then out * a % 18446744069414584321 else out) (a * a % 18446744069414584321) (n / 2) := by
  unfold gPowInv at h ⊢
  rw [pow_step]
  exact h

theorem gold_Pow (a n : Int) (w : World) (h0 : 0 ≤ a) (h1 : a ≤ 18446744073709551615) (g0 : 0 ≤ n) (g1 : n ≤ 18446744073709551615) :
    Calls Try.prog 144 #[.int .u64 a, .int .u64 n] w fun e w' => e = .returned (.int .u64 (ipow a n.toNat % 18446744069414584321)) ∧ w = w' := by
  go_enter Try.func144, Try.ntmps144
  go_wp2_with (first
    | (go_at_call 122; refine (gold_Of _ _ (by omega) (by omega)).mono ?_; rintro e w' ⟨rfl, rfl⟩))
  go_loop [0, 1, 5] (fun x m o => ∃ (b : Int) (k : Nat) (out : Int), x = .int .u64 b ∧ m = .int .u64 (k : Int) ∧ o = .int .u64 out ∧ 0 ≤ b ∧ b ≤ 18446744069414584320 ∧ 0 ≤ out ∧ out ≤ 18446744069414584320 ∧ k ≤ 18446744073709551615 ∧ Hid (gPowInv a n.toNat out b k))
    (fun _ m _ => (intOf m).toNat)
  case atStart =>
    refine ⟨_, n.toNat, _, rfl, ?_, rfl, by omega, by omega, by omega, by omega, by omega, ?_⟩
    · congr 1
      omega
    · show gPowInv _ _ _ _ _
      unfold gPowInv
      rw [Int.one_mul, ipow_emod]
  case round =>
    obtain ⟨b, k, out, rfl, rfl, rfl, b0, b1, o0, o1, hk, HI⟩ := hrel
    have hand := and_one (k : Int) (by omega) (by omega)
    by_cases hk0 : 0 < k
    · have hst := gPowInv_step HI.out
      by_cases hodd : k % 2 = 1
      · rw [if_pos hodd] at hst
        have HS := Lib.hid hst; clear hst
        have hb : (((k : Int) % 2) == 1) = true := by simp; omega
        go_wp2_with (first
          | (go_at_call 118; refine (gold_Mul _ _ _ (by omega) (by omega) (by omega) (by omega)).mono ?_; rintro e w' ⟨rfl, rfl⟩))
        go_round
        case rel => exact ⟨_, k / 2, _, rfl, by go_num, rfl, by omega, by omega, by omega, by omega, by omega, HS⟩
        case measure => simp [intOf]; omega
      · rw [if_neg hodd] at hst
        have HS := Lib.hid hst; clear hst
        have hb : (((k : Int) % 2) == 1) = false := by simp; omega
        go_wp2_with (first
          | (go_at_call 118; refine (gold_Mul _ _ _ (by omega) (by omega) (by omega) (by omega)).mono ?_; rintro e w' ⟨rfl, rfl⟩))
        go_round
        case rel => exact ⟨_, k / 2, _, rfl, by go_num, rfl, by omega, by omega, by omega, by omega, by omega, HS⟩
        case measure => simp [intOf]; omega
    · obtain rfl : k = 0 := by omega
      go_wp2
      go_ret
      refine ⟨ret_int ?_, rfl⟩
      have := HI.out
      unfold gPowInv at this
      rw [ipow, Int.mul_one] at this
      rw [← this]
      omega

end Go.Proofs.Ytiphahbeedeebaa

namespace Go.Proofs.Ytiphahbeedeebaa
open Go.RowKit Fm
set_option linter.unusedVariables false
set_option maxRecDepth 100000

/-- bounds of two limbs -/
def U64 (a : Int) : Prop := 0 ≤ a ∧ a ≤ 18446744073709551615

theorem wide_P (w : World) :
    Calls Try.prog 127 #[] w fun e w' => e = .returned (.agg #[.int .u64 1, .int .u64 18446744073709551588]) ∧ Below w.heap.size w w' := by
  go_enter Try.func127, Try.ntmps127
  go_wp2
  exact bodyPost_ret (v := .agg #[.int .u64 1, .int .u64 18446744073709551588]) (by simp [results, Try.results127, go_sem]) rfl ⟨rfl, (Below.refl _ _).alloc (Nat.le_refl _) _⟩

theorem bcell {W w1 : World} (hb : Below W.heap.size W w1) : (∀ b o, b < W.heap.size → w1.cell? ⟨b, o, none⟩ = W.cell? ⟨b, o, none⟩) ∧ (∀ b o, b < W.heap.size → w1.frozen? ⟨b, o, none⟩ = W.frozen? ⟨b, o, none⟩) :=
  ⟨fun b o h => hb.cell (p := ⟨b, o, none⟩) h, fun b o h => hb.frozen (p := ⟨b, o, none⟩) h⟩

theorem wide_less (a0 a1 b0 b1 : Int) (w : World) (h0 : 0 ≤ a0) (h1 : a0 ≤ 18446744073709551615) (g0 : 0 ≤ b0) (g1 : b0 ≤ 18446744073709551615) :
    Calls Try.prog 134 #[.agg #[.int .u64 a0, .int .u64 a1], .agg #[.int .u64 b0, .int .u64 b1]] w fun e w' => e = .returned (.bool (decide (a0 + 18446744073709551616 * a1 < b0 + 18446744073709551616 * b1))) ∧ Below w.heap.size w w' := by
  rcases Int.lt_trichotomy a1 b1 with h | h | h
  · have ht : decide (a0 + 18446744073709551616 * a1 < b0 + 18446744073709551616 * b1) = true := by simp; omega
    rw [ht]
    clear ht
    go_enter Try.func134, Try.ntmps134
    go_wp2
    go_ret
    exact ⟨rfl, by repeat (first | exact Below.refl _ _ | (refine bl_alloc ?_ (Nat.le_refl _) _) | (refine Below.drew ?_) | (refine bl_drewN ?_ _) | (refine bl_call ?_ (Nat.le_refl _) (by assumption)))⟩
  · subst h
    have ht : decide (a0 + 18446744073709551616 * a1 < b0 + 18446744073709551616 * a1) = decide (a0 < b0) := by congr 1; simp
    rw [ht]
    clear ht
    go_enter Try.func134, Try.ntmps134
    go_wp2
    all_goals go_ret
    all_goals exact ⟨rfl, by repeat (first | exact Below.refl _ _ | (refine bl_alloc ?_ (Nat.le_refl _) _) | (refine Below.drew ?_) | (refine bl_drewN ?_ _) | (refine bl_call ?_ (Nat.le_refl _) (by assumption)))⟩
  · have ht : decide (a0 + 18446744073709551616 * a1 < b0 + 18446744073709551616 * b1) = false := by simp; omega
    rw [ht]
    clear ht
    have hne : (a1 == b1) = false := by simp; omega
    have hnl : decide (a1 < b1) = false := by simp; omega
    go_enter Try.func134, Try.ntmps134
    go_wp2
    go_ret
    exact ⟨rfl, by repeat (first | exact Below.refl _ _ | (refine bl_alloc ?_ (Nat.le_refl _) _) | (refine Below.drew ?_) | (refine bl_drewN ?_ _) | (refine bl_call ?_ (Nat.le_refl _) (by assumption)))⟩

theorem wide_In (a0 a1 : Int) (w : World) (h0 : 0 ≤ a0) (h1 : a0 ≤ 18446744073709551615) :
    Calls Try.prog 117 #[.agg #[.int .u64 a0, .int .u64 a1]] w fun e w' => e = .returned (.bool (decide (a0 + 18446744073709551616 * a1 < 340282366920938462946865773367900766209))) ∧ Below w.heap.size w w' := by
  go_enter Try.func117, Try.ntmps117
  go_wp2_with fail
  go_region_with (first
    | (go_at_call 127; refine (wide_P _).mono ?_; rintro e w1 ⟨rfl, hb1⟩; obtain ⟨hc1, hf1⟩ := bcell hb1)
    | (go_at_call 134; refine (wide_less _ _ _ _ _ (by omega) (by omega) (by omega) (by omega)).mono ?_; rintro e w2 ⟨rfl, hb2⟩))
  all_goals
    go_wp2
    go_ret
    exact ⟨rfl, by repeat (first | exact Below.refl _ _ | (refine bl_alloc ?_ (Nat.le_refl _) _) | (refine Below.drew ?_) | (refine bl_drewN ?_ _) | (refine bl_call ?_ (Nat.le_refl _) (by assumption)))⟩

theorem wide_take (a0 a1 b0 b1 : Int) (w : World) (h0 : 0 ≤ a0) (h1 : a0 ≤ 18446744073709551615) (g0 : 0 ≤ b0) (g1 : b0 ≤ 18446744073709551615)
     (k0 : 0 ≤ a1) (k1 : a1 ≤ 18446744073709551615) (j0 : 0 ≤ b1) (j1 : b1 ≤ 18446744073709551615) (n : Int) (hn : Hid (n = (a0 + 18446744073709551616 * a1 - (b0 + 18446744073709551616 * b1)) % 340282366920938463463374607431768211456)) :
    Calls Try.prog 126 #[.agg #[.int .u64 a0, .int .u64 a1], .agg #[.int .u64 b0, .int .u64 b1]] w fun e w' =>
      e = .returned (.agg #[.int .u64 (n % 18446744073709551616), .int .u64 (n / 18446744073709551616)]) ∧ Below w.heap.size w w' := by
  go_enter Try.func126, Try.ntmps126
  go_wp2_with fail
  rw [sub64]
  case hx0 => omega
  case hy0 => omega
  case hx => omega
  case hy => omega
  case hb0 => omega
  case hb => omega
  by_cases hlt : a0 < b0
  · rw [if_pos (by omega)]
    go_wp2_with fail
    rw [sub64]
    case hx0 => omega
    case hy0 => omega
    case hx => omega
    case hy => omega
    case hb0 => omega
    case hb => omega
    go_wp2
    all_goals
      refine bodyPost_ret (by simp [results, Try.results126, go_sem]; rfl) rfl ?_
      refine ⟨ret_pair ?_ ?_, by repeat (first | exact Below.refl _ _ | (refine bl_alloc ?_ (Nat.le_refl _) _) | (refine Below.drew ?_) | (refine bl_drewN ?_ _) | (refine bl_call ?_ (Nat.le_refl _) (by assumption)))⟩
      · rw [hn.out]; omega
      · rw [hn.out]; omega
  · rw [if_neg (by omega)]
    go_wp2_with fail
    rw [sub64]
    case hx0 => omega
    case hy0 => omega
    case hx => omega
    case hy => omega
    case hb0 => omega
    case hb => omega
    go_wp2
    all_goals
      refine bodyPost_ret (by simp [results, Try.results126, go_sem]; rfl) rfl ?_
      refine ⟨ret_pair ?_ ?_, by repeat (first | exact Below.refl _ _ | (refine bl_alloc ?_ (Nat.le_refl _) _) | (refine Below.drew ?_) | (refine bl_drewN ?_ _) | (refine bl_call ?_ (Nat.le_refl _) (by assumption)))⟩
      · rw [hn.out]; omega
      · rw [hn.out]; omega

end Go.Proofs.Ytiphahbeedeebaa

namespace Go.Proofs.Ytiphahbeedeebaa
open Go.RowKit Fm
set_option linter.unusedVariables false
set_option maxRecDepth 100000

set_option maxHeartbeats 1000000 in
theorem wide_Of (a0 a1 : Int) (w : World) (h0 : 0 ≤ a0) (h1 : a0 ≤ 18446744073709551615) (k0 : 0 ≤ a1) (k1 : a1 ≤ 18446744073709551615) (n : Int)
    (hn : Hid (n = (a0 + 18446744073709551616 * a1) % 340282366920938462946865773367900766209)) :
    Calls Try.prog 125 #[.agg #[.int .u64 a0, .int .u64 a1]] w fun e w' =>
      e = .returned (.agg #[.int .u64 (n % 18446744073709551616), .int .u64 (n / 18446744073709551616)]) ∧ Below w.heap.size w w' := by
  by_cases hlt : a0 + 18446744073709551616 * a1 < 340282366920938462946865773367900766209
  · have hd : decide (a0 + 18446744073709551616 * a1 < 340282366920938462946865773367900766209) = true := by simp; omega
    go_enter Try.func125, Try.ntmps125
    go_wp2_with (go_at_call 117; refine (wide_In _ _ _ (by omega) (by omega)).mono ?_; rintro e w1 ⟨rfl, hb1⟩; obtain ⟨hc1, hf1⟩ := bcell hb1)
    refine bodyPost_ret (by simp [results, Try.results125, go_sem, hc1]; rfl) rfl ?_
    refine ⟨ret_pair ?_ ?_, by repeat (first | exact Below.refl _ _ | (refine bl_alloc ?_ (Nat.le_refl _) _) | (refine bl_set ?_ (by dsimp only; omega) _) | (refine Below.drew ?_) | (refine bl_drewN ?_ _) | (refine bl_call ?_ (Nat.le_refl _) (by assumption)))⟩
    · rw [hn.out, Int.emod_eq_of_lt (by omega) hlt]; omega
    · rw [hn.out, Int.emod_eq_of_lt (by omega) hlt]; omega
  · have hd : decide (a0 + 18446744073709551616 * a1 < 340282366920938462946865773367900766209) = false := by simp; omega
    have HT : Hid (n = (a0 + 18446744073709551616 * a1 - (1 + 18446744073709551616 * 18446744073709551588)) % 340282366920938463463374607431768211456) := by
      show _ = _
      rw [hn.out]
      omega
    go_enter Try.func125, Try.ntmps125
    go_wp2_with (go_at_call 117; refine (wide_In _ _ _ (by omega) (by omega)).mono ?_; rintro e w1 ⟨rfl, hb1⟩; obtain ⟨hc1, hf1⟩ := bcell hb1)
    have q1 := ((V2.new w (.int .u64 a0) (.int .u64 a1) 41).alloc (.cells #[.int .u64 0, .int .u64 0] 41)).call hb1
    have r1 := (V2.new (w.alloc (.cells #[.int .u64 a0, .int .u64 a1] 41)) (.int .u64 0) (.int .u64 0) 41).call hb1
    obtain ⟨c10, c11, f10, f11, l1⟩ := q1
    obtain ⟨d10, d11, g10, g11, m1⟩ := r1
    clear hc1 hf1
    simp only [World.size_alloc] at d10 d11 g10 g11 m1
    go_region_with (first
      | (go_at_call 127; refine (wide_P _).mono ?_; rintro e w2 ⟨rfl, hb2'⟩; have hb2 := undrew hb2'; clear hb2'; obtain ⟨c20, c21, f20, f21, l2⟩ := V2.call ⟨c10, c11, f10, f11, l1⟩ hb2; obtain ⟨d20, d21, g20, g21, m2⟩ := V2.call ⟨d10, d11, g10, g11, m1⟩ hb2)
      | (go_at_call 126; refine (wide_take _ _ _ _ _ (by omega) (by omega) (by omega) (by omega) (by omega) (by omega) (by omega) (by omega) n HT).mono ?_; rintro e w3 ⟨rfl, hb3⟩; have q3 := V2.call ⟨c20, c21, f20, f21, l2⟩ hb3; have q4 := V2.set q3 (.int .u64 (n % 18446744073709551616)) (.int .u64 (n / 18446744073709551616)); obtain ⟨c30, c31, f30, f31, l3⟩ := q3; obtain ⟨c40, c41, f40, f41, l4⟩ := q4; obtain ⟨d30, d31, g30, g31, m3⟩ := V2.call ⟨d20, d21, g20, g21, m2⟩ hb3))
    all_goals
      go_wp2
      refine bodyPost_ret (results_v2 (b := w.heap.size + 1) (u := .int .u64 (n % 18446744073709551616)) (v := .int .u64 (n / 18446744073709551616)) ?_ rfl rfl) rfl ?_
      · exact V2.set (V2.setOther (V2.setOther ⟨d30, d31, g30, g31, m3⟩ (by simp) _) (by simp) _) _ _
      · exact ⟨rfl, by repeat (first | exact Below.refl _ _ | (refine bl_alloc ?_ (Nat.le_refl _) _) | (refine bl_set ?_ (by dsimp only; omega) _) | (refine Below.drew ?_) | (refine bl_drewN ?_ _) | (refine bl_call ?_ (Nat.le_refl _) (by assumption)))⟩

end Go.Proofs.Ytiphahbeedeebaa
