/-
 Slice2, Gold, Wide4, Field, Pair, Append, K, Kit, WideMul, FieldM, Law9b, Ref9, Cir2: for TotalUnshards.
-/
import Derived.Test.YtbakkmfjamcbfaaProg
import Derived.Shelf.Spec.BitsCarry
import Derived.Shelf.Bits.Mul64
import Derived.Maps.AppendAt
import Derived.BigQuiet
import Derived.Laws.OwnMore
import Derived.Test.YtbakkmfjamcbfaaKah
namespace Go.Proofs.Ytbakkmfjamcbfaa
open Go.RowKit Fm
set_option linter.unusedVariables false
set_option maxRecDepth 100000

theorem cellsE_append (xs ys : List E) : cellsE (xs ++ ys) = cellsE xs ++ cellsE ys := by
 induction xs with
 | nil => rfl
 | cons x l ih => simp only [List.cons_append, cellsE, ih]

section
variable {w w' : World} {g : Nat} {xs : List E}
end

end Go.Proofs.Ytbakkmfjamcbfaa

namespace Go.Proofs.Ytbakkmfjamcbfaa
open Go.RowKit Fm
set_option linter.unusedVariables false
set_option maxRecDepth 100000

/-! ### math/bits: entries of the model -/
/-! ### gold -/
theorem gold_In (a : Int) (w : World) (h0 : 0 ≤ a) (h1 : a ≤ 18446744073709551615) :
  Calls Try.prog 120 #[.int .u64 a] w fun e w' => e = .returned (.bool (decide (a < 18446744069414584321))) ∧ w = w' := by
 go_enter Try.func120, Try.ntmps120
 go_wp2
 go_ret
 exact ⟨rfl, rfl⟩

theorem gold_Neg (a : Int) (w : World) (h0 : 0 ≤ a) (h1 : a ≤ 18446744073709551615) :
  Calls Try.prog 118 #[.int .u64 a] w fun e w' => e = .returned (.int .u64 ((-a) % 18446744069414584321)) ∧ w = w' := by
 by_cases h : a % 18446744069414584321 = 0
 ·have hb : (a % 18446744069414584321 == 0) = true := by simp [h]
  go_enter Try.func118, Try.ntmps118
  go_wp2_with (go_at_call 100; refine (gold_Of _ _ (by omega) (by omega)).mono ?_; rintro e w' ⟨rfl, rfl⟩)
  go_ret
  exact ⟨ret_int (by omega), rfl⟩
 ·have hb : (a % 18446744069414584321 == 0) = false := by simp [h]
  go_enter Try.func118, Try.ntmps118
  go_wp2_with (go_at_call 100; refine (gold_Of _ _ (by omega) (by omega)).mono ?_; rintro e w' ⟨rfl, rfl⟩)
  go_ret
  exact ⟨ret_int (by omega), rfl⟩

theorem gold_Sub (a b : Int) (w : World) (h0 : 0 ≤ a) (h1 : a ≤ 18446744073709551615) (g0 : 0 ≤ b) (g1 : b ≤ 18446744073709551615) :
  Calls Try.prog 102 #[.int .u64 a, .int .u64 b] w fun e w' => e = .returned (.int .u64 ((a - b) % 18446744069414584321)) ∧ w = w' := by
 go_enter Try.func102, Try.ntmps102
 go_wp2_with (first
  | (go_at_call 118; refine (gold_Neg _ _ (by omega) (by omega)).mono ?_; rintro e w' ⟨rfl, rfl⟩)
  | (go_at_call 114; refine (gold_Add _ _ _ (by omega) (by omega) (by omega) (by omega)).mono ?_; rintro e w' ⟨rfl, rfl⟩))
 go_ret
 exact ⟨ret_int (by omega), rfl⟩

end Go.Proofs.Ytbakkmfjamcbfaa

namespace Go.Proofs.Ytbakkmfjamcbfaa
open Go.RowKit Fm
set_option linter.unusedVariables false
set_option maxRecDepth 100000

theorem neg_fin (p n x r : Int) (hx : x = n % p) (hp : 0 < p) (hr : (x = 0 ∧ r = 0) ∨ (x ≠ 0 ∧ r = p - x)) : r = (-n) % p := by
 have h0 := Int.emod_nonneg n (b := p) (by omega)
 have h1 := Int.emod_lt_of_pos n hp
 have e : (-n) % p = (-x) % p := by
  have h : -n = -x + p * (-(n / p)) := by
   rw [hx, Int.emod_def, Int.mul_neg]
   omega
  rw [h, Int.add_mul_emod_self_left]
 rw [e]
 rcases hr with ⟨h, h'⟩ | ⟨h, h'⟩
 ·rw [h, h']; simp
 ·rw [h', ← Int.add_emod_left, Int.emod_eq_of_lt (by omega) (by omega)]
  omega

set_option maxHeartbeats 4000000 in
theorem wide_Neg (a0 a1 : Int) (w : World) (h0 : 0 ≤ a0) (h1 : a0 ≤ 18446744073709551615) (k0 : 0 ≤ a1) (k1 : a1 ≤ 18446744073709551615) :
  Calls Try.prog 119 #[.agg #[.int .u64 a0, .int .u64 a1]] w (RetE ((-(a0 + 18446744073709551616 * a1)) % 340282366920938462946865773367900766209) w) := by
 have heq := eql_elem
 go_enter Try.func119, Try.ntmps119
 go_wp2_with fail
 refine (Of_any a0 a1 _ h0 h1 k0 k1).mono ?_
 rintro e w1 ⟨x0, x1, rfl, ⟨hx0, hx1, hx2, hx3⟩, HX, hb1⟩
 have q1 := ((V2.new w (.int .u64 a0) (.int .u64 a1) 99).alloc (.cells #[.int .u64 0, .int .u64 0] 99)).call hb1
 have s0 := V2.new (w.alloc (.cells #[.int .u64 a0, .int .u64 a1] 99)) (.int .u64 0) (.int .u64 0) 99
 have s1 := s0.call hb1
 simp only [World.size_alloc] at s1
 clear s0
 have p1 := q1.set (.int .u64 x0) (.int .u64 x1)
 have s2 := V2.setOther (V2.setOther s1 (p := ⟨w.heap.size, 0, none⟩) (by dsimp only; omega) (.int .u64 x0)) (p := ⟨w.heap.size, 1, none⟩) (by dsimp only; omega) (.int .u64 x1)
 have hp := p1
 obtain ⟨c10, c11, c12, c13, c14⟩ := q1
 obtain ⟨c20, c21, c22, c23, c24⟩ := hp
 have hxm : x0 + 18446744073709551616 * x1 < 340282366920938462946865773367900766209 := by
  rw [HX.out]
  exact Int.emod_lt_of_pos _ (by omega)
 by_cases hz : x0 = 0 ∧ x1 = 0
 ·obtain ⟨rfl, rfl⟩ := hz
  have hs2 := s2
  obtain ⟨d20, d21, d22, d23, d24⟩ := hs2
  go_wp2
  refine bodyPost_ret (results_v2 (b := w.heap.size + 1) (u := .int .u64 0) (v := .int .u64 0) ?_ rfl rfl) rfl ?_
  ·exact V2.set s2 _ _
  ·exact ⟨_, _, rfl, by omega, neg_fin _ _ _ _ HX.out (by omega) (.inl ⟨by omega, by omega⟩), by repeat (first | exact bA | with_reducible assumption | apply bB | (refine bC ?_ (by dsimp only; omega)) | apply bD | apply bE | (refine bF ?_ (by assumption)))⟩
 ·have hne : (x0 == 0 && x1 == 0) = false := by
   rw [Bool.and_eq_false_iff, beq_eq_false_iff_ne, beq_eq_false_iff_ne]
   omega
  go_wp2_with fail
  go_region_with (first
   | (go_at_call 133; refine (wide_P _).mono ?_; rintro e w5 ⟨rfl, hb5'⟩; have hb5 := undrew hb5'; clear hb5'; have p5 := p1.call hb5; have s5 := s2.call hb5; obtain ⟨c50, c51, c52, c53, c54⟩ := p5)
   | (go_at_call 132; refine (take_any _ _ _ _ _ (by omega) (by omega) (by omega) (by omega) (by omega) (by omega) (by omega) (by omega)).mono ?_; rintro e w6 ⟨z0, z1, rfl, ⟨hz0, hz1, hz2, hz3⟩, HZ, hb6⟩; have s6 := s5.call hb6; obtain ⟨d60, d61, d62, d63, d64⟩ := s5.call hb6))
  all_goals
   go_wp2
   refine bodyPost_ret (results_v2 (b := w.heap.size + 1) (u := .int .u64 z0) (v := .int .u64 z1) ?_ rfl rfl) rfl ?_
   ·exact V2.set s6 _ _
   ·refine ⟨_, _, rfl, ⟨hz0, hz1, hz2, hz3⟩, ?_, by repeat (first | exact bA | with_reducible assumption | apply bB | (refine bC ?_ (by dsimp only; omega)) | apply bD | apply bE | (refine bF ?_ (by assumption)))⟩
    show _ = _
    have e := HZ.out
    rw [Int.emod_eq_of_lt (by omega) (by omega)] at e
    exact neg_fin _ _ _ _ HX.out (by omega) (.inr ⟨by omega, by omega⟩)

theorem sub_fin (p a b : Int) : (a + (-b) % p) % p = (a - b) % p := by
 rw [Int.add_emod, Int.emod_emod_of_dvd _ (Int.dvd_refl p), ← Int.add_emod, ← Int.sub_eq_add_neg]

set_option maxHeartbeats 4000000 in
theorem wide_Sub (a0 a1 b0 b1 : Int) (w : World) (h0 : 0 ≤ a0) (h1 : a0 ≤ 18446744073709551615) (k0 : 0 ≤ a1) (k1 : a1 ≤ 18446744073709551615)
  (g0 : 0 ≤ b0) (g1 : b0 ≤ 18446744073709551615) (j0 : 0 ≤ b1) (j1 : b1 ≤ 18446744073709551615) :
  Calls Try.prog 103 #[.agg #[.int .u64 a0, .int .u64 a1], .agg #[.int .u64 b0, .int .u64 b1]] w
   (RetE ((a0 + 18446744073709551616 * a1 - (b0 + 18446744073709551616 * b1)) % 340282366920938462946865773367900766209) w) := by
 have q0 := ((V2.new w (.int .u64 a0) (.int .u64 a1) 99).alloc (.cells #[.int .u64 b0, .int .u64 b1] 99)).alloc (.cells #[.int .u64 0, .int .u64 0] 99)
 have s0 := V2.new ((w.alloc (.cells #[.int .u64 a0, .int .u64 a1] 99)).alloc (.cells #[.int .u64 b0, .int .u64 b1] 99)) (.int .u64 0) (.int .u64 0) 99
 simp only [World.size_alloc] at s0
 go_enter Try.func103, Try.ntmps103
 go_wp2_with fail
 go_region_with (first
  | (go_at_call 119; refine (wide_Neg _ _ _ (by omega) (by omega) (by omega) (by omega)).mono ?_; rintro e w5 ⟨y0, y1, rfl, ⟨hy0, hy1, hy2, hy3⟩, HY, hb5'⟩; have hb5 := undrew hb5'; clear hb5'; have q5 := q0.call hb5; have s5 := s0.call hb5; obtain ⟨c50, c51, c52, c53, c54⟩ := q5)
  | (go_at_call 115; refine (wide_Add _ _ _ _ _ (by omega) (by omega) (by omega) (by omega) (by omega) (by omega) (by omega) (by omega)).mono ?_; rintro e w6 ⟨z0, z1, rfl, ⟨hz0, hz1, hz2, hz3⟩, HZ, hb6⟩; have s6 := s5.call hb6; obtain ⟨d60, d61, d62, d63, d64⟩ := s5.call hb6))
 all_goals
  go_wp2
  refine bodyPost_ret (results_v2 (b := w.heap.size + 1 + 1) (u := .int .u64 z0) (v := .int .u64 z1) ?_ rfl rfl) rfl ?_
  ·exact V2.set s6 _ _
  ·refine ⟨_, _, rfl, ⟨hz0, hz1, hz2, hz3⟩, ?_, by repeat (first | exact bA | with_reducible assumption | apply bB | (refine bC ?_ (by dsimp only; omega)) | apply bD | apply bE | (refine bF ?_ (by assumption)))⟩
   show _ = _
   rw [HZ.out, HY.out, sub_fin]

end Go.Proofs.Ytbakkmfjamcbfaa

namespace Go.Proofs.Ytbakkmfjamcbfaa
open Go.RowKit Fm
set_option linter.unusedVariables false
set_option maxRecDepth 100000

set_option maxHeartbeats 2000000 in
theorem field_Sub (f m a0 a1 b0 b1 : Int) (w : World) (hf : FM f m) (h0 : 0 ≤ a0) (h1 : a0 ≤ 18446744073709551615) (k0 : 0 ≤ a1) (k1 : a1 ≤ 18446744073709551615)
  (g0 : 0 ≤ b0) (g1 : b0 ≤ 18446744073709551615) (j0 : 0 ≤ b1) (j1 : b1 ≤ 18446744073709551615) :
  Calls Try.prog 69 #[.int .u8 f, .agg #[.int .u64 a0, .int .u64 a1], .agg #[.int .u64 b0, .int .u64 b1]] w (RetE ((nI f a0 a1 - nI f b0 b1) % m) w) := by
 rcases hf.or with ⟨rfl, rfl⟩ | ⟨rfl, rfl⟩
 ·have s0 := V2.new ((w.alloc (.cells #[.int .u64 a0, .int .u64 a1] 99)).alloc (.cells #[.int .u64 b0, .int .u64 b1] 99)) (.int .u64 0) (.int .u64 0) 99
  go_enter Try.func69, Try.ntmps69
  go_wp2_with (go_at_call 102; refine (gold_Sub _ _ _ (by omega) (by omega) (by omega) (by omega)).mono ?_; rintro e w' ⟨rfl, rfl⟩)
  refine bodyPost_ret (by simp [results, Try.results69, go_sem]; rfl) rfl ?_
  refine ⟨_, _, rfl, ?_, ?_, by repeat (first | exact bA | with_reducible assumption | apply bB | (refine bC ?_ (by dsimp only; omega)) | apply bD | apply bE | (refine bF ?_ (by assumption)))⟩
  ·omega
  ·show _ = _
   unfold nI
   simp
 ·go_enter Try.func69, Try.ntmps69
  go_wp2_with fail
  refine (wide_Sub _ _ _ _ _ h0 h1 k0 k1 g0 g1 j0 j1).mono ?_
  rintro e w6 ⟨z0, z1, rfl, ⟨hz0, hz1, hz2, hz3⟩, HZ, hb6⟩
  have s0 := V2.new ((w.alloc (.cells #[.int .u64 a0, .int .u64 a1] 99)).alloc (.cells #[.int .u64 b0, .int .u64 b1] 99)) (.int .u64 0) (.int .u64 0) 99
  have s6 := s0.call hb6
  simp only [World.size_alloc] at s6
  clear s0
  have hs6 := s6
  obtain ⟨d60, d61, d62, d63, d64⟩ := hs6
  go_wp2
  refine bodyPost_ret (results_v2 (b := w.heap.size + 1 + 1) (u := .int .u64 z0) (v := .int .u64 z1) ?_ rfl rfl) rfl ?_
  ·exact V2.set s6 _ _
  ·refine ⟨_, _, rfl, ⟨hz0, hz1, hz2, hz3⟩, ?_, by repeat (first | exact bA | with_reducible assumption | apply bB | (refine bC ?_ (by dsimp only; omega)) | apply bD | apply bE | (refine bF ?_ (by assumption)))⟩
   show _ = _
   rw [HZ.out]
   unfold nI
   simp

theorem field_In (f m a0 a1 : Int) (w : World) (hf : FM f m) (h0 : 0 ≤ a0) (h1 : a0 ≤ 18446744073709551615) (k0 : 0 ≤ a1) (k1 : a1 ≤ 18446744073709551615) :
  Calls Try.prog 104 #[.int .u8 f, .agg #[.int .u64 a0, .int .u64 a1]] w fun e w' => e = .returned (.bool (decide (a0 + 18446744073709551616 * a1 < m))) ∧ Below w.heap.size w w' := by
 rcases hf.or with ⟨rfl, rfl⟩ | ⟨rfl, rfl⟩
 ·by_cases hz : a1 = 0
  ·subst hz
   have hd : decide (a0 + 18446744073709551616 * 0 < 18446744069414584321) = decide (a0 < 18446744069414584321) := by congr 1; simp
   rw [hd]
   clear hd
   go_enter Try.func104, Try.ntmps104
   go_wp2_with (go_at_call 120; refine (gold_In _ _ (by omega) (by omega)).mono ?_; rintro e w' ⟨rfl, rfl⟩)
   go_ret
   exact ⟨rfl, by repeat (first | exact bA | with_reducible assumption | apply bB | (refine bC ?_ (by dsimp only; omega)) | apply bD | apply bE | (refine bF ?_ (by assumption)))⟩
  ·have hb : (a1 == 0) = false := by simp; omega
   have hd : decide (a0 + 18446744073709551616 * a1 < 18446744069414584321) = false := by simp; omega
   rw [hd]
   clear hd
   go_enter Try.func104, Try.ntmps104
   go_wp2
   go_ret
   exact ⟨rfl, by repeat (first | exact bA | with_reducible assumption | apply bB | (refine bC ?_ (by dsimp only; omega)) | apply bD | apply bE | (refine bF ?_ (by assumption)))⟩
 ·go_enter Try.func104, Try.ntmps104
  go_wp2_with (go_at_call 121; refine (wide_In _ _ _ (by omega) (by omega)).mono ?_; rintro e w6 ⟨rfl, hb6⟩)
  go_ret
  exact ⟨rfl, by repeat (first | exact bA | with_reducible assumption | apply bB | (refine bC ?_ (by dsimp only; omega)) | apply bD | apply bE | (refine bF ?_ (by assumption)))⟩

end Go.Proofs.Ytbakkmfjamcbfaa

namespace Go.Proofs.Ytbakkmfjamcbfaa
open Go.RowKit Fm
set_option linter.unusedVariables false
set_option maxRecDepth 100000

set_option maxHeartbeats 4000000 in
theorem pair_Sub (f m : Int) (hf : FM f m) (va vb : Value) (xs ys : List E) (w : World) (hx : SlE w w.heap.size va xs) (hy : SlE w w.heap.size vb ys) (hl : xs.length = ys.length) (hn : xs.length ≤ 1099511627776) :
  Calls Try.prog 68 #[va, vb, .func (.func 69) #[.int .u8 f] #[]] w (RetSl w (zipO (· - ·) f m xs ys)) := by
 obtain ⟨⟨A, c, rfl, hc, hcm, hA⟩, hokx⟩ := hx
 obtain ⟨⟨A', c', rfl, hc', hcm', hA'⟩, hoky⟩ := hy
 obtain ⟨zs, hzs⟩ : ∃ zs, zs = zipO (· - ·) f m xs ys := ⟨_, rfl⟩
 have hzl : zs.length = xs.length := by rw [hzs]; unfold zipO; rw [List.length_zipWith]; omega
 rw [← hzs]
 have HZS := Lib.hid hzs
 have HZL := Lib.hid hzl
 have HL := Lib.hid hl
 have hb : ((xs.length : Int) != (ys.length : Int)) = false := by simp; omega
 clear hzs hzl hl
 have hmk := make_elem xs.length hn
 go_enter Try.func68, Try.ntmps68
 go_wp2_with fail
 go_loopw [20] (fun i wr => ∃ k : Nat, k ≤ xs.length ∧ i = .int .i64 k ∧ BlkE wr w.heap.size (zs.take k ++ List.replicate (xs.length - k) (0, 0)) ∧ Below w.heap.size w wr) (fun i _ => xs.length - (intOf i).toNat)
 case atStart => exact ⟨0, Nat.zero_le _, rfl, heap_alloc_new w _, by repeat (first | exact bA | with_reducible assumption | apply bB | (refine bC ?_ (by dsimp only; omega)) | apply bD | apply bE | (refine bF ?_ (by assumption)))⟩
 case round =>
  obtain ⟨k, hk, rfl, HB, hbw⟩ := hrel
  by_cases hlt : k < xs.length
  ·obtain ⟨b, o, rfl, hB, hr⟩ := hA (by omega)
   obtain ⟨b', o', rfl, hB', hr'⟩ := hA' (by have := HL.out; omega)
   have hlt' : k < ys.length := by have := HL.out; omega
   obtain ⟨⟨x0, x1⟩, he⟩ : ∃ e, xs[k]? = some e := ⟨_, List.getElem?_eq_getElem hlt⟩
   obtain ⟨⟨y0, y1⟩, he'⟩ : ∃ e, ys[k]? = some e := ⟨_, List.getElem?_eq_getElem hlt'⟩
   have hkx := hokx _ (List.mem_of_getElem? he)
   have hky := hoky _ (List.mem_of_getElem? he')
   obtain ⟨hx0, hx1, hx2, hx3⟩ := hkx
   obtain ⟨hy0, hy1, hy2, hy3⟩ := hky
   dsimp only at hx0 hx1 hx2 hx3 hy0 hy1 hy2 hy3
   have hrw := hr.below hbw hB
   have hrw' := hr'.below hbw hB'
   obtain ⟨c0, c1⟩ := hrw k _ he
   obtain ⟨d0, d1⟩ := hrw' k _ he'
   dsimp only at c0 c1 d0 d1
   have hez : zs[k]? = some (eN ((nI f x0 x1 - nI f y0 y1) % m)) := by
    rw [HZS.out]
    unfold zipO
    rw [List.getElem?_zipWith, he, he']
   have HEZ := Lib.hid hez
   have hzk : ∃ u v : Value, wr.cell? ⟨w.heap.size, k * 2, none⟩ = some u ∧ wr.cell? ⟨w.heap.size, k * 2 + 1, none⟩ = some v := by
    have hlen : k < (zs.take k ++ List.replicate (xs.length - k) ((0, 0) : E)).length := by
     rw [List.length_append, List.length_take, List.length_replicate, HZL.out]
     omega
    obtain ⟨e1, e2⟩ := HB.row k _ (List.getElem?_eq_getElem hlen)
    exact ⟨_, _, e1, e2⟩
   obtain ⟨u, v, z0, z1⟩ := hzk
   have fz0 := HB.frozen (k * 2)
   have fz1 := HB.frozen (k * 2 + 1)
   have HBH := Lib.hid HB
   clear he he' hr hr' hA hA' hez hrw hrw' HB
   go_wp2_with fail
   go_region_with (first
    | (go_at_call 69; refine (field_Sub f m _ _ _ _ _ hf (by omega) (by omega) (by omega) (by omega) (by omega) (by omega) (by omega) (by omega)).mono ?_; rintro e w6 ⟨r0, r1, rfl, ⟨hr0, hr1, hr2, hr3⟩, HR, hb6'⟩; have hb6 := undrew hb6'; clear hb6'; have z60 := cell_call z0 hb6; have z61 := cell_call z1 hb6; have g60 := frozen_call (lt_of_cell z0) fz0 hb6; have g61 := frozen_call (lt_of_cell z1) fz1 hb6))
   all_goals
    go_wp2
    go_roundw
    case rel =>
     have h := (HBH.out.call hb6).set k r0 r1
     rw [fill_step zs _ _ k (r0, r1) HZL.out hlt (HEZ.out.trans (by rw [eN_of HR.out hr0 hr1]))] at h
     exact ⟨k + 1, by omega, by go_num, h, by repeat (first | exact bA | with_reducible assumption | apply bB | (refine bC ?_ (by dsimp only; omega)) | apply bD | apply bE | (refine bF ?_ (by assumption)))⟩
    case measure => simp [intOf]; omega
  ·obtain rfl : k = xs.length := by omega
   go_wp2
   go_ret2
   have h := HB
   rw [List.take_of_length_le (by rw [HZL.out]; exact Nat.le_refl _), Nat.sub_self, List.replicate_zero, List.append_nil] at h
   refine ⟨w.heap.size, ?_, h, Nat.le_refl _, by repeat (first | exact bA | with_reducible assumption | apply bB | (refine bC ?_ (by dsimp only; omega)) | apply bD | apply bE | (refine bF ?_ (by assumption)))⟩
   rw [HZL.out]
   rfl

def RetErr (n : Int) (w : World) (e : Ending) (w' : World) : Prop := e = .returned (.tuple #[.slice none 0 0, .int .i64 n]) ∧ Below w.heap.size w w'

theorem field_SubVec (f m : Int) (hf : FM f m) (va vb : Value) (xs ys : List E) (w : World) (hx : SlE w w.heap.size va xs) (hy : SlE w w.heap.size vb ys) (hl : xs.length = ys.length) (hn : xs.length ≤ 1099511627776) :
  Calls Try.prog 36 #[.int .u8 f, va, vb] w (RetSl w (zipO (· - ·) f m xs ys)) := by
 have hc := pair_Sub f m hf va vb xs ys w hx hy hl hn
 obtain ⟨⟨A, c, rfl, hc, hcm, hA⟩, hokx⟩ := hx
 obtain ⟨⟨A', c', rfl, hc', hcm', hA'⟩, hoky⟩ := hy
 have HC := Lib.hid hc
 clear hc hl
 have hmf : ∀ (fn : Fn) (first cap : Array Value) (w : World), (Instr.makeFunc fn first cap).run Try.prog w = .ok (.func fn first cap) w := fun _ _ _ _ => rfl
 go_enter Try.func36, Try.ntmps36
 go_wp2_with fail
 refine HC.out.mono ?_
 rintro e w1 ⟨g, rfl, hB, hg, hb⟩
 go_wp2
 go_ret2
 exact ⟨g, rfl, hB, hg, hb⟩

end Go.Proofs.Ytbakkmfjamcbfaa

namespace Go.Proofs.Ytbakkmfjamcbfaa
open Go.RowKit Fm
set_option linter.unusedVariables false
set_option maxRecDepth 100000

theorem oneCell_cellsE (xs : List E) : ∀ u, u ∈ cellsE xs → u.oneCell' = true := by
 induction xs with
 | nil => intro u h; cases h
 | cons e l ih =>
  intro u h
  simp only [cellsE, List.mem_cons] at h
  rcases h with rfl | rfl | h
  ·rfl
  ·rfl
  ·exact ih u h

theorem run_append_E (w : World) (base : Nat) (ty : TypeId) (v : Value) (n : Nat) (xs : List E) (hown : w.ownsRow base 99 2 v n (cellsE xs)) (A : Option Addr) (m c : Nat) (ys : List E)
  (hm : ys.length = m) (hy : 0 < m → ∃ b o, A = some ⟨b, o, none⟩ ∧ RowE w b o ys) (hbound : n + m ≤ 1099511627776) (hbase : base ≤ w.heap.size) :
  ∃ v' w', (Builtin.append_ #[73, 73] ty #[v, .slice A m c]).run Try.prog w = .ok v' w' ∧ w'.ownsRow base 99 2 v' (n + m) (cellsE (xs ++ ys)) ∧ w.grownBy w' v.ownBlock ∧
   (v'.ownBlock = v.ownBlock ∨ v'.ownBlock = some w.heap.size) := by
 obtain ⟨i, hi, hz, h1, h2⟩ := info_parts info_elem
 rw [cellsE_append]
 rcases A with _ | ad
 ·have hm0 : m = 0 := by
   rcases Nat.eq_zero_or_pos m with h0 | h0
   ·exact h0
   ·obtain ⟨b, o, h, _⟩ := hy h0
    cases h
  subst hm0
  obtain rfl : ys = [] := List.eq_nil_of_length_eq_zero hm
  refine ⟨v, w, ?_, by simpa [cellsE] using hown, World.grownBy.refl w _, .inl rfl⟩
  rcases hown.2 with ⟨rfl, rfl⟩ | ⟨g, cap, cur, rfl, _, _, hnc, _⟩
  ·simp [Builtin.append_, run_underlying Try.underlying73, sizeOf, typeInfo, hi, Builtin.lenOf, Builtin.firstCells]
  ·simp [Builtin.append_, run_underlying Try.underlying73, sizeOf, typeInfo, hi, Builtin.lenOf, Builtin.firstCells, hnc, storeCells]
 ·have hcells : ∀ j u, (cellsE ys)[j]? = some u → w.cell? (ad.add j) = some u := by
   intro j u hu
   rcases Nat.eq_zero_or_pos m with h0 | h0
   ·subst h0
    obtain rfl : ys = [] := List.eq_nil_of_length_eq_zero hm
    simp [cellsE] at hu
   ·obtain ⟨b, o, h, hr⟩ := hy h0
    injection h with h
    subst h
    exact hr.cells j u hu
  obtain ⟨v', w', hrun, h3, h4, _, h5⟩ := run_append_own_at (P := Try.prog) w base 73 ty 99 i _ 2 16 Try.underlying73 hi hz h1 h2 rfl (by omega) v n _ hown ad m c (cellsE ys)
   (by rw [length_cellsE, hm]) hcells (oneCell_cellsE ys) (by unfold maxLen; omega) (by omega) hbase
  exact ⟨v', w', hrun, h3, h4, h5⟩

theorem wpList_append_E {w : World} {ops : Array Oper} {rest : List Oper} {o : Oper} {a : Act} {Q : Exit → Act → World → Prop} (hgd : o.guard = none) (s x : Operand)
  (ho : o.op = .call { callee := .builtin .append, args := #[s, x], argTypes := #[73, 73] })
  (base : Nat) (v : Value) (n : Nat) (xs : List E) (hs : a.eval s = v) (hown : w.ownsRow base 99 2 v n (cellsE xs)) (A : Option Addr) (m c : Nat) (ys : List E) (hx : a.eval x = .slice A m c)
  (hm : ys.length = m) (hy : 0 < m → ∃ b o, A = some ⟨b, o, none⟩ ∧ RowE w b o ys) (hbound : n + m ≤ 1099511627776) (hbase : base ≤ w.heap.size)
  (h : ∀ v' w', w'.ownsRow base 99 2 v' (n + m) (cellsE (xs ++ ys)) → w.grownBy w' v.ownBlock → (v'.ownBlock = v.ownBlock ∨ v'.ownBlock = some w.heap.size) → wpList Try.prog ops Q rest (a.put o.dst v') w') : wpList Try.prog ops Q (o :: rest) a w := by
 obtain ⟨v', w', hrun, h2, h3, h4⟩ := run_append_E w base o.type v n xs hown A m c ys hm hy hbound hbase
 refine wpList_plain hgd fun K hK => ?_
 unfold Oper.wp execOp
 simp only [ho, resolve, invoke, builtin, Sem.run_bind, Sem.run_pure, Result.andThen_ok, List.map_toArray, List.map_cons, List.map_nil, hs, hx, hrun]
 exact hK _ _ (h v' w' h2 h3 h4)

theorem SlE.of_own {w : World} {base : Nat} {v : Value} {xs : List E} (h : w.ownsRow base 99 2 v xs.length (cellsE xs)) (ok : ∀ e, e ∈ xs → okE e) : SlE w w.heap.size v xs := by
 rcases h.2 with ⟨rfl, h0⟩ | ⟨g, cap, cur, rfl, hb, hg, hnc, hcm, hcs, htk⟩
 ·refine ⟨⟨none, 0, by rw [h0], by omega, by omega, fun hn => by omega⟩, ok⟩
 ·refine ⟨⟨some ⟨g, 0, none⟩, cap, rfl, hnc, by unfold maxLen at hcm; omega, fun _ => ⟨g, 0, rfl, (Array.getElem?_eq_some_iff.1 hg).1, fun i e hi => ?_⟩⟩, ok⟩
  obtain ⟨e1, e2⟩ := cellsE_at xs i e hi
  have hc := fun j u hu => h.cells (g := g) rfl j u hu
  have ha : ∀ j, (⟨g, 0, none⟩ : Addr).add j = ⟨g, 0 + j, none⟩ := by
   intro j
   unfold Addr.add
   split <;> simp_all
  have f1 := hc _ _ e1
  have f2 := hc _ _ e2
  rw [ha] at f1 f2
  exact ⟨f1, by rw [Nat.add_assoc]; exact f2⟩

end Go.Proofs.Ytbakkmfjamcbfaa

namespace Go.Proofs.Ytbakkmfjamcbfaa
open Go.RowKit Fm
set_option linter.unusedVariables false
set_option maxRecDepth 100000

theorem lo_zero {f : Nat} : lo (0 : Fin (Pm f)) = 0 := by unfold lo; rw [eK_zero]
theorem hi_zero {f : Nat} : hi (0 : Fin (Pm f)) = 0 := by unfold hi; rw [eK_zero]
theorem kL_one {f : Nat} : kL f 1 0 = 1 := kE_one

section
variable {f : Nat} (hf : IsF f)
include hf

theorem field_AddL (a0 a1 b0 b1 : Int) (w : World) (h0 : 0 ≤ a0) (h1 : a0 ≤ 18446744073709551615) (k0 : 0 ≤ a1) (k1 : a1 ≤ 18446744073709551615)
  (g0 : 0 ≤ b0) (g1 : b0 ≤ 18446744073709551615) (j0 : 0 ≤ b1) (j1 : b1 ≤ 18446744073709551615) :
  Calls Try.prog 96 #[.int .u8 f, .agg #[.int .u64 a0, .int .u64 a1], .agg #[.int .u64 b0, .int .u64 b1]] w (RetK (kL f a0 a1 + kL f b0 b1) w) :=
 (field_Add f _ a0 a1 b0 b1 w (FM.ofN hf) h0 h1 k0 k1 g0 g1 j0 j1).mono fun _ _ h => h.toK (by rw [kI_add, kI_nI, kI_nI])
theorem field_AddK (x y : Fin (Pm f)) (w : World) : Calls Try.prog 96 #[.int .u8 f, vK x, vK y] w (RetK (x + y) w) := by
 have h := field_AddL hf (lo x) (hi x) (lo y) (hi y) w (lo_0 x) (lo_1 x) (hi_0 x) (hi_1 x) (lo_0 y) (lo_1 y) (hi_0 y) (hi_1 y)
 rwa [kL_lohi, kL_lohi] at h
end

/-! ### lists of elements -/
theorem esK_append {f : Nat} (l m : KL f) : esK (l ++ m) = esK l ++ esK m := by unfold esK; rw [List.map_append]
end Go.Proofs.Ytbakkmfjamcbfaa

namespace Go.Proofs.Ytbakkmfjamcbfaa
open Go.RowKit Fm
set_option linter.unusedVariables false
set_option maxRecDepth 100000

theorem vK_of {f : Nat} {x : Fin (Pm f)} {z0 z1 : Int} (h : z0 + 18446744073709551616 * z1 = ((x.val : Nat) : Int)) (h0 : 0 ≤ z0) (h1 : z0 ≤ 18446744073709551615) : lo x = z0 ∧ hi x = z1 := by
 have h2 := val_lohi x
 have h3 := lo_0 x
 have h4 := lo_1 x
 omega
end Go.Proofs.Ytbakkmfjamcbfaa

namespace Go.Proofs.Ytbakkmfjamcbfaa
open Go.RowKit Fm
set_option linter.unusedVariables false
set_option maxRecDepth 100000



theorem P2_int : ((Pm 2 : Nat) : Int) = 340282366920938462946865773367900766209 := rfl
theorem nI2 (a0 a1 : Int) : nI ((2 : Nat) : Int) a0 a1 = a0 + 18446744073709551616 * a1 := by unfold nI; rw [if_neg (by omega)]

def numAt (w : World) (b : Nat) : Nat := ((intOf ((w.cell? ⟨b, 0, none⟩).getD undef)) + 18446744073709551616 * (intOf ((w.cell? ⟨b, 1, none⟩).getD undef)) + 340282366920938463463374607431768211456 * (intOf ((w.cell? ⟨b, 2, none⟩).getD undef)) + 6277101735386680763835789423207666416102355444464034512896 * (intOf ((w.cell? ⟨b, 3, none⟩).getD undef))).toNat
end Go.Proofs.Ytbakkmfjamcbfaa

namespace Go.Proofs.Ytbakkmfjamcbfaa
open Go.RowKit Fm
set_option linter.unusedVariables false
set_option maxRecDepth 100000

theorem field_Of {f : Nat} (hf : IsF f) (n : Int) (w : World) (h0 : 0 ≤ n) (h1 : n ≤ 18446744073709551615) :
  Calls Try.prog 63 #[.int .u8 f, .int .u64 n] w (RetK (kL f n 0) w) := by
 rcases hf.or with rfl | rfl
 ·have hv : vK (kL 1 n 0) = .agg #[.int .u64 (n % 18446744069414584321), .int .u64 0] := by
   have hp : ((Pm 1 : Nat) : Int) = 18446744069414584321 := rfl
   have h := vK_of (x := kL 1 n 0) (z0 := n % 18446744069414584321) (z1 := 0) (by rw [← kI_nI, val_kI, hp]; show _ = n % _; omega) (Int.emod_nonneg _ (by omega)) (by have := Int.emod_lt_of_pos n (show (0 : Int) < 18446744069414584321 by omega); omega)
   show Value.agg #[.int .u64 (lo _), .int .u64 (hi _)] = _
   rw [h.1, h.2]
  show Calls Try.prog 63 #[.int .u8 1, .int .u64 n] w (RetK (kL 1 n 0) w)
  go_enter Try.func63, Try.ntmps63
  go_wp2_with (go_at_call 100; refine (gold_Of _ _ (by omega) (by omega)).mono ?_; rintro e w' ⟨rfl, rfl⟩)
  refine bodyPost_ret (by simp [results, Try.results63, go_sem]; rfl) rfl ⟨by rw [hv], by repeat (first | exact bA | with_reducible assumption | apply bB | (refine bC ?_ (by dsimp only; omega)) | apply bD | apply bE | (refine bF ?_ (by assumption)))⟩
 ·have hv : vK (kL 2 n 0) = .agg #[.int .u64 n, .int .u64 0] := by
   have h := vK_of (x := kL 2 n 0) (z0 := n) (z1 := 0) (by rw [← kI_nI, val_kI, P2_int, nI2]; omega) h0 h1
   show Value.agg #[.int .u64 (lo _), .int .u64 (hi _)] = _
   rw [h.1, h.2]
  show Calls Try.prog 63 #[.int .u8 2, .int .u64 n] w (RetK (kL 2 n 0) w)
  go_enter Try.func63, Try.ntmps63
  go_wp2
  refine bodyPost_ret (by simp [results, Try.results63, go_sem]; rfl) rfl ⟨by rw [hv], by repeat (first | exact bA | with_reducible assumption | apply bB | (refine bC ?_ (by dsimp only; omega)) | apply bD | apply bE | (refine bF ?_ (by assumption)))⟩

theorem field_One {f : Nat} (hf : IsF f) (w : World) : Calls Try.prog 61 #[.int .u8 f] w (RetK (1 : Fin (Pm f)) w) := by
 have h := fun wz => field_Of hf 1 wz (by omega) (by omega)
 rw [kL_one] at h
 have H := Lib.hid h
 clear h
 go_enter Try.func61, Try.ntmps61
 go_upto_region 1 with fail
 have s0 := V2.new w (.int .u64 0) (.int .u64 0) 99
 have hb00 : Below w.heap.size w (w.alloc (.cells #[(.int .u64 0), (.int .u64 0)] 99)) := by repeat (first | exact bA | with_reducible assumption | apply bB)
 have hsz : w.heap.size + 1 ≤ (w.alloc (.cells #[(.int .u64 0), (.int .u64 0)] 99)).heap.size := by simp only [World.size_alloc]; omega
 generalize (w.alloc (.cells #[(.int .u64 0), (.int .u64 0)] 99)) = w1 at s0 hb00 hsz ⊢
 go_wp2_with (go_at_call 63; refine (H.out _).mono ?_; rintro e w5 ⟨rfl, hb5⟩; obtain ⟨e0, e1, e2, e3, e4⟩ := s0.call hb5)
 refine bodyPost_ret (results_v2 (b := w.heap.size) (u := .int .u64 (lo (1 : Fin (Pm f)))) (v := .int .u64 (hi (1 : Fin (Pm f)))) ?_ rfl rfl) rfl ⟨rfl, by repeat (first | exact bA | with_reducible assumption | apply bB | (refine bC ?_ (by dsimp only; omega)) | apply bD | apply bE | (refine bF ?_ (by assumption)))⟩
 exact V2.set ⟨e0, e1, e2, e3, e4⟩ _ _

section
variable {f : Nat} (hf : IsF f)
include hf
end

end Go.Proofs.Ytbakkmfjamcbfaa

namespace Go.Proofs.Ytbakkmfjamcbfaa
open Go.RowKit Fm
set_option linter.unusedVariables false
set_option maxRecDepth 100000

theorem Vs.belowB {w w' : World} {b B : Nat} {cs : List Value} (h : Vs w b cs) (hb : Below B w w') (hB : b < B) : Vs w' b cs :=
 ⟨fun i v hi => (hb.cell (p := ⟨b, i, none⟩) hB).trans (h.cell i v hi), fun i hi => (hb.frozen (p := ⟨b, i, none⟩) hB).trans (h.frz i hi), Nat.lt_of_lt_of_le h.lt hb.size⟩
theorem own_slice {w : World} {base : Nat} {e : TypeId} {size : Nat} {v : Value} {n : Nat} {xs : List Value} (h : w.ownsRow base e size v (n + 1) xs) : ∃ g cap, v = .slice (some ⟨g, 0, none⟩) (n + 1) cap := by
 rcases h.2 with h | ⟨g, cap, cur, h1, _⟩
 ·omega
 ·exact ⟨g, cap, h1⟩

section
variable {f : Nat} (hf : IsF f)
include hf

end

end Go.Proofs.Ytbakkmfjamcbfaa

namespace Go.Proofs.Ytbakkmfjamcbfaa
open Go.RowKit Fm
set_option linter.unusedVariables false
set_option maxRecDepth 100000

def offN (m : Nat) : Nat := 2 ^ Lib.bitLen m - 1 - m

end Go.Proofs.Ytbakkmfjamcbfaa

namespace Go.Proofs.Ytbakkmfjamcbfaa
open Go.RowKit Fm
set_option linter.unusedVariables false
set_option maxRecDepth 100000

section
variable (f : Nat) (y : CK) (hy : y.ok)
include hy

end

theorem circuit_offset (k f b l c : Int) (m : Nat) (h1 : m ≤ 64) (w : World) :
  Calls Try.prog 64 #[.agg #[.int .u8 k, .int .u8 f, .int .i64 b, .int .i64 l, .int .i64 m, .int .i64 c]] w fun e w' => e = .returned (.int .u64 (offN m : Int)) ∧ Below w.heap.size w w' := by
 have HW := Lib.hid (fun wz => circuit_weightBits k f b l c m h1 wz)
 have hs := bitLen_small m h1
 have HO : Hid ((2 ^ Lib.bitLen m : Nat) - 1 - m = offN m) := rfl
 generalize Lib.bitLen m = q at *
 have hmx : max (m : Int) 0 = (m : Int) := by omega
 obtain ⟨p, hp⟩ : ∃ p, 2 ^ q = p := ⟨_, rfl⟩
 have hp7 : 2 ^ q ≤ 2 ^ 7 := Nat.pow_le_pow_right (by omega) hs.1
 have hpm := hs.2.1
 rw [hp] at hp7 hpm HO
 have hpow : (2 : Int) ^ q = (p : Int) := by rw [← hp]; exact (Int.natCast_pow 2 q).symm
 have hq7 := hs.1
 have hpx : (2 : Nat) ^ 7 = 128 := rfl
 rw [hpx] at hp7
 have hb00 : Below w.heap.size w w := Below.refl _ _
 clear hs hpx hp
 go_enter Try.func64, Try.ntmps64
 go_upto_region 1 with fail
 have hx := Vs.new w [.int .u8 k, .int .u8 f, .int .i64 b, .int .i64 l, .int .i64 m, .int .i64 c] #[.int .u8 k, .int .u8 f, .int .i64 b, .int .i64 l, .int .i64 m, .int .i64 c] 60 rfl
 have hbA : Below w.heap.size w (w.alloc (.cells #[.int .u8 k, .int .u8 f, .int .i64 b, .int .i64 l, .int .i64 m, .int .i64 c] 60)) := by repeat (first | exact bA | with_reducible assumption | apply bB)
 replace hb00 := bl_call hb00 (Nat.le_refl _) hbA
 clear hbA
 generalize w.alloc (.cells #[.int .u8 k, .int .u8 f, .int .i64 b, .int .i64 l, .int .i64 m, .int .i64 c] 60) = w1 at hb00 hx ⊢
 obtain ⟨⟨x0, x1, x2, x3, x4, x5⟩, ⟨x6, x7, x8, x9, x10, x11⟩, x12⟩ := hx.get6
 refine region_B (n := 9) (m := 10) (f := 9) (by kernel_rfl) (by kernel_rfl) rfl ?_
 refine WpH.takeB (i := 0) (v := ?_) rfl (by kernel_rfl) (fun _ _ _ h => h) (.val rfl (fun wz hwz => ?_)) ?_
 rotate_left
 ·(obtain ⟨hcz, hfz⟩ := bcell hwz; go_simp; try (with_reducible rfl))
 (simp only [Act.put]); (try simp only [List.setIfInBounds_toArray]); (try simp only [List.set_cons_succ]); (try simp only [List.set_cons_zero])
 refine WpH.takeB (i := 1) rfl (by kernel_rfl) (fun _ _ _ h => h) (.call rfl (fun wz hwz => HW.out wz) (fun wz hwz => ?_)) ?_
 ·go_simp; try (with_reducible rfl)
 (simp only [Act.put]); (try simp only [List.setIfInBounds_toArray]); (try simp only [List.set_cons_succ]); (try simp only [List.set_cons_zero])
 refine WpH.takeB (i := 2) (v := ?_) rfl (by kernel_rfl) (fun _ _ _ h => h) (.val rfl (fun wz hwz => ?_)) ?_
 rotate_left
 ·go_simp; try (with_reducible rfl)
 (simp only [Act.put]); (try simp only [List.setIfInBounds_toArray]); (try simp only [List.set_cons_succ]); (try simp only [List.set_cons_zero])
 refine WpH.takeB (i := 3) (v := ?_) rfl (by kernel_rfl) (fun _ _ _ h => h) (.val rfl (fun wz hwz => ?_)) ?_
 rotate_left
 ·go_simp; try (with_reducible rfl)
 (simp only [Act.put]); (try simp only [List.setIfInBounds_toArray]); (try simp only [List.set_cons_succ]); (try simp only [List.set_cons_zero])
 refine WpH.takeB (i := 4) (v := ?_) rfl (by kernel_rfl) (fun _ _ _ h => h) (.val rfl (fun wz hwz => ?_)) ?_
 rotate_left
 ·go_simp; try (with_reducible rfl)
 (simp only [Act.put]); (try simp only [List.setIfInBounds_toArray]); (try simp only [List.set_cons_succ]); (try simp only [List.set_cons_zero])
 refine WpH.takeB (i := 5) (v := ?_) rfl (by kernel_rfl) (fun _ _ _ h => h) (.val rfl (fun wz hwz => ?_)) ?_
 rotate_left
 ·(obtain ⟨hcz, hfz⟩ := bcell hwz; go_simp; try (with_reducible rfl))
 (simp only [Act.put]); (try simp only [List.setIfInBounds_toArray]); (try simp only [List.set_cons_succ]); (try simp only [List.set_cons_zero])
 refine WpH.takeB (i := 6) (v := ?_) rfl (by kernel_rfl) (fun _ _ _ h => h) (.val rfl (fun wz hwz => ?_)) ?_
 rotate_left
 ·go_simp; try (with_reducible rfl)
 (simp only [Act.put]); (try simp only [List.setIfInBounds_toArray]); (try simp only [List.set_cons_succ]); (try simp only [List.set_cons_zero])
 refine WpH.takeB (i := 7) (v := ?_) rfl (by kernel_rfl) (fun _ _ _ h => h) (.val rfl (fun wz hwz => ?_)) ?_
 rotate_left
 ·go_simp; try (with_reducible rfl)
 (simp only [Act.put]); (try simp only [List.setIfInBounds_toArray]); (try simp only [List.set_cons_succ]); (try simp only [List.set_cons_zero])
 refine WpH.takeB (i := 8) (v := ?_) rfl (by kernel_rfl) (fun _ _ _ h => h) (.val rfl (fun wz hwz => ?_)) ?_
 rotate_left
 ·go_simp; try (with_reducible rfl)
 (simp only [Act.put]); (try simp only [List.setIfInBounds_toArray]); (try simp only [List.set_cons_succ]); (try simp only [List.set_cons_zero])
 refine WpH.doneB (by kernel_rfl) (fun w2 hw2 => ?_)
 (try simp only [List.drop_succ_cons]); (try simp only [List.drop_zero]); (try simp only [Nat.reduceSub]); (try simp only [List.take_succ_cons]); (try simp only [List.take_zero])
 replace hb00 := bl_call hb00 (Nat.le_refl _) hw2
 replace hx := hx.call hw2
 go_wp2_with fail
 go_ret
 exact ⟨ret_int (by have := HO.out; omega), hb00⟩

def RetU (n : Nat) (w : World) (e : Ending) (w' : World) : Prop := e = .returned (.int .u64 (n : Int)) ∧ Below w.heap.size w w'

theorem pow32 {b : Nat} (h : b ≤ 32) : 1 ≤ 2 ^ b ∧ 2 ^ b ≤ 4294967296 := ⟨Nat.one_le_two_pow, Nat.le_trans (Nat.pow_le_pow_right (by omega) h) (by decide)⟩

set_option maxHeartbeats 1000000 in
theorem circuit_Most (f : Nat) (y : CK) (hy : y.ok) (w : World) : Calls Try.prog 105 #[y.val f] w (RetU y.most w) := by
 cases y with
 | count =>
  rw [val_count]
  go_enter Try.func105, Try.ntmps105
  go_wp2
  go_ret
  exact ⟨rfl, by repeat (first | exact bA | with_reducible assumption | apply bB | (refine bC ?_ (by dsimp only; omega)) | apply bD | apply bE | (refine bF ?_ (by assumption)))⟩
 | sum b =>
  rw [val_sum, show CK.most (.sum b) = 2 ^ b - 1 from rfl]
  have hb := hy.2
  have hp2 := pow32 hb
  have hmx : max (b : Int) 0 = (b : Int) := by omega
  have hmn : min (b : Int) 63 = (b : Int) := by omega
  have hpow : (2 : Int) ^ b = ((2 ^ b : Nat) : Int) := (Int.natCast_pow 2 b).symm
  generalize 2 ^ b = p at *
  go_enter Try.func105, Try.ntmps105
  go_wp2
  go_ret
  exact ⟨ret_int (by omega), by repeat (first | exact bA | with_reducible assumption | apply bB | (refine bC ?_ (by dsimp only; omega)) | apply bD | apply bE | (refine bF ?_ (by assumption)))⟩
 | vec b l c =>
  rw [val_vec, show CK.most (.vec b l c) = 2 ^ b - 1 from rfl]
  have hb := hy.1.2
  have hp2 := pow32 hb
  have hmx : max (b : Int) 0 = (b : Int) := by omega
  have hmn : min (b : Int) 63 = (b : Int) := by omega
  have hpow : (2 : Int) ^ b = ((2 ^ b : Nat) : Int) := (Int.natCast_pow 2 b).symm
  generalize 2 ^ b = p at *
  go_enter Try.func105, Try.ntmps105
  go_wp2
  go_ret
  exact ⟨ret_int (by omega), by repeat (first | exact bA | with_reducible assumption | apply bB | (refine bC ?_ (by dsimp only; omega)) | apply bD | apply bE | (refine bF ?_ (by assumption)))⟩
 | hist l c =>
  rw [val_hist]
  go_enter Try.func105, Try.ntmps105
  go_wp2
  go_ret
  exact ⟨rfl, by repeat (first | exact bA | with_reducible assumption | apply bB | (refine bC ?_ (by dsimp only; omega)) | apply bD | apply bE | (refine bF ?_ (by assumption)))⟩
 | multi l m c =>
  rw [val_multi]
  go_enter Try.func105, Try.ntmps105
  go_wp2
  go_ret
  exact ⟨rfl, by repeat (first | exact bA | with_reducible assumption | apply bB | (refine bC ?_ (by dsimp only; omega)) | apply bD | apply bE | (refine bF ?_ (by assumption)))⟩

/-! ### the reference's circuit of a circuit -/
end Go.Proofs.Ytbakkmfjamcbfaa
