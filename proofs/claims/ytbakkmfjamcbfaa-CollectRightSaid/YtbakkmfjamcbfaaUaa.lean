/-
 Elem, Slice2, Gold, Wide4, Field, Pair, Append, K, Vs, Law9b, RegG, Cir2, Sums, Nums, BitsOf, EncM, Said, Decode, Task, ExcA: for CollectRight.
-/
import Derived.Test.YtbakkmfjamcbfaaProg
import Derived.Shelf.Spec.BitsCarry
import Derived.Shelf.Bits.Mul64
import Derived.Maps.AppendAt
import Derived.BigQuiet
import Derived.Laws.OwnMore
import Derived.Laws.Bits64b
import Derived.Test.YtbakkmfjamcbfaaKak
namespace Go.Proofs.Ytbakkmfjamcbfaa
open Go.RowKit

theorem results_v2_tmp {fn : Func} {p e : Tmp} {tmps : Array Value} {w : World} {b : Nat} {u v : Value} (hv : V2 w b u v) (h : fn.results = #[.cell p 99, .tmp e]) (hp : tmps.getD p undef = .pointer (some ⟨b, 0, none⟩)) :
  (results fn tmps).run Try.prog w = .ok (.tuple #[.agg #[u, v], tmps.getD e undef]) w := by
 have hl := load_elem hv
 rw [results_cell_tmp h, hp]
 simp only [asAddr, Sem.run_pure, Result.andThen, hl]

end Go.Proofs.Ytbakkmfjamcbfaa

namespace Go.Proofs.Ytbakkmfjamcbfaa
open Go.RowKit Fm
set_option linter.unusedVariables false
set_option maxRecDepth 100000

theorem cellsE_append (xs ys : List E) : cellsE (xs ++ ys) = cellsE xs ++ cellsE ys := by
 induction xs with
 | nil => rfl
 | cons x l ih => simp only [List.cons_append, cellsE, ih]

section
variable {w w' : World} {g : Nat} {xs : List E}
end

end Go.Proofs.Ytbakkmfjamcbfaa

namespace Go.Proofs.Ytbakkmfjamcbfaa
open Go.RowKit Fm
set_option linter.unusedVariables false
set_option maxRecDepth 100000

/-! ### math/bits: entries of the model -/
/-! ### gold -/
theorem gold_In (a : Int) (w : World) (h0 : 0 ≤ a) (h1 : a ≤ 18446744073709551615) :
  Calls Try.prog 120 #[.int .u64 a] w fun e w' => e = .returned (.bool (decide (a < 18446744069414584321))) ∧ w = w' := by
 go_enter Try.func120, Try.ntmps120
 go_wp2
 go_ret
 exact ⟨rfl, rfl⟩

theorem gold_Neg (a : Int) (w : World) (h0 : 0 ≤ a) (h1 : a ≤ 18446744073709551615) :
  Calls Try.prog 118 #[.int .u64 a] w fun e w' => e = .returned (.int .u64 ((-a) % 18446744069414584321)) ∧ w = w' := by
 by_cases h : a % 18446744069414584321 = 0
 ·have hb : (a % 18446744069414584321 == 0) = true := by simp [h]
  go_enter Try.func118, Try.ntmps118
  go_wp2_with (go_at_call 100; refine (gold_Of _ _ (by omega) (by omega)).mono ?_; rintro e w' ⟨rfl, rfl⟩)
  go_ret
  exact ⟨ret_int (by omega), rfl⟩
 ·have hb : (a % 18446744069414584321 == 0) = false := by simp [h]
  go_enter Try.func118, Try.ntmps118
  go_wp2_with (go_at_call 100; refine (gold_Of _ _ (by omega) (by omega)).mono ?_; rintro e w' ⟨rfl, rfl⟩)
  go_ret
  exact ⟨ret_int (by omega), rfl⟩

theorem gold_Sub (a b : Int) (w : World) (h0 : 0 ≤ a) (h1 : a ≤ 18446744073709551615) (g0 : 0 ≤ b) (g1 : b ≤ 18446744073709551615) :
  Calls Try.prog 102 #[.int .u64 a, .int .u64 b] w fun e w' => e = .returned (.int .u64 ((a - b) % 18446744069414584321)) ∧ w = w' := by
 go_enter Try.func102, Try.ntmps102
 go_wp2_with (first
  | (go_at_call 118; refine (gold_Neg _ _ (by omega) (by omega)).mono ?_; rintro e w' ⟨rfl, rfl⟩)
  | (go_at_call 114; refine (gold_Add _ _ _ (by omega) (by omega) (by omega) (by omega)).mono ?_; rintro e w' ⟨rfl, rfl⟩))
 go_ret
 exact ⟨ret_int (by omega), rfl⟩

end Go.Proofs.Ytbakkmfjamcbfaa

namespace Go.Proofs.Ytbakkmfjamcbfaa
open Go.RowKit Fm
set_option linter.unusedVariables false
set_option maxRecDepth 100000

theorem neg_fin (p n x r : Int) (hx : x = n % p) (hp : 0 < p) (hr : (x = 0 ∧ r = 0) ∨ (x ≠ 0 ∧ r = p - x)) : r = (-n) % p := by
 have h0 := Int.emod_nonneg n (b := p) (by omega)
 have h1 := Int.emod_lt_of_pos n hp
 have e : (-n) % p = (-x) % p := by
  have h : -n = -x + p * (-(n / p)) := by
   rw [hx, Int.emod_def, Int.mul_neg]
   omega
  rw [h, Int.add_mul_emod_self_left]
 rw [e]
 rcases hr with ⟨h, h'⟩ | ⟨h, h'⟩
 ·rw [h, h']; simp
 ·rw [h', ← Int.add_emod_left, Int.emod_eq_of_lt (by omega) (by omega)]
  omega

set_option maxHeartbeats 4000000 in
theorem wide_Neg (a0 a1 : Int) (w : World) (h0 : 0 ≤ a0) (h1 : a0 ≤ 18446744073709551615) (k0 : 0 ≤ a1) (k1 : a1 ≤ 18446744073709551615) :
  Calls Try.prog 119 #[.agg #[.int .u64 a0, .int .u64 a1]] w (RetE ((-(a0 + 18446744073709551616 * a1)) % 340282366920938462946865773367900766209) w) := by
 have heq := eql_elem
 go_enter Try.func119, Try.ntmps119
 go_wp2_with fail
 refine (Of_any a0 a1 _ h0 h1 k0 k1).mono ?_
 rintro e w1 ⟨x0, x1, rfl, ⟨hx0, hx1, hx2, hx3⟩, HX, hb1⟩
 have q1 := ((V2.new w (.int .u64 a0) (.int .u64 a1) 99).alloc (.cells #[.int .u64 0, .int .u64 0] 99)).call hb1
 have s0 := V2.new (w.alloc (.cells #[.int .u64 a0, .int .u64 a1] 99)) (.int .u64 0) (.int .u64 0) 99
 have s1 := s0.call hb1
 simp only [World.size_alloc] at s1
 clear s0
 have p1 := q1.set (.int .u64 x0) (.int .u64 x1)
 have s2 := V2.setOther (V2.setOther s1 (p := ⟨w.heap.size, 0, none⟩) (by dsimp only; omega) (.int .u64 x0)) (p := ⟨w.heap.size, 1, none⟩) (by dsimp only; omega) (.int .u64 x1)
 have hp := p1
 obtain ⟨c10, c11, c12, c13, c14⟩ := q1
 obtain ⟨c20, c21, c22, c23, c24⟩ := hp
 have hxm : x0 + 18446744073709551616 * x1 < 340282366920938462946865773367900766209 := by
  rw [HX.out]
  exact Int.emod_lt_of_pos _ (by omega)
 by_cases hz : x0 = 0 ∧ x1 = 0
 ·obtain ⟨rfl, rfl⟩ := hz
  have hs2 := s2
  obtain ⟨d20, d21, d22, d23, d24⟩ := hs2
  go_wp2
  refine bodyPost_ret (results_v2 (b := w.heap.size + 1) (u := .int .u64 0) (v := .int .u64 0) ?_ rfl rfl) rfl ?_
  ·exact V2.set s2 _ _
  ·exact ⟨_, _, rfl, by omega, neg_fin _ _ _ _ HX.out (by omega) (.inl ⟨by omega, by omega⟩), by repeat (first | exact bA | with_reducible assumption | apply bB | (refine bC ?_ (by dsimp only; omega)) | apply bD | apply bE | (refine bF ?_ (by assumption)))⟩
 ·have hne : (x0 == 0 && x1 == 0) = false := by
   rw [Bool.and_eq_false_iff, beq_eq_false_iff_ne, beq_eq_false_iff_ne]
   omega
  go_wp2_with fail
  go_region_with (first
   | (go_at_call 133; refine (wide_P _).mono ?_; rintro e w5 ⟨rfl, hb5'⟩; have hb5 := undrew hb5'; clear hb5'; have p5 := p1.call hb5; have s5 := s2.call hb5; obtain ⟨c50, c51, c52, c53, c54⟩ := p5)
   | (go_at_call 132; refine (take_any _ _ _ _ _ (by omega) (by omega) (by omega) (by omega) (by omega) (by omega) (by omega) (by omega)).mono ?_; rintro e w6 ⟨z0, z1, rfl, ⟨hz0, hz1, hz2, hz3⟩, HZ, hb6⟩; have s6 := s5.call hb6; obtain ⟨d60, d61, d62, d63, d64⟩ := s5.call hb6))
  all_goals
   go_wp2
   refine bodyPost_ret (results_v2 (b := w.heap.size + 1) (u := .int .u64 z0) (v := .int .u64 z1) ?_ rfl rfl) rfl ?_
   ·exact V2.set s6 _ _
   ·refine ⟨_, _, rfl, ⟨hz0, hz1, hz2, hz3⟩, ?_, by repeat (first | exact bA | with_reducible assumption | apply bB | (refine bC ?_ (by dsimp only; omega)) | apply bD | apply bE | (refine bF ?_ (by assumption)))⟩
    show _ = _
    have e := HZ.out
    rw [Int.emod_eq_of_lt (by omega) (by omega)] at e
    exact neg_fin _ _ _ _ HX.out (by omega) (.inr ⟨by omega, by omega⟩)

theorem sub_fin (p a b : Int) : (a + (-b) % p) % p = (a - b) % p := by
 rw [Int.add_emod, Int.emod_emod_of_dvd _ (Int.dvd_refl p), ← Int.add_emod, ← Int.sub_eq_add_neg]

set_option maxHeartbeats 4000000 in
theorem wide_Sub (a0 a1 b0 b1 : Int) (w : World) (h0 : 0 ≤ a0) (h1 : a0 ≤ 18446744073709551615) (k0 : 0 ≤ a1) (k1 : a1 ≤ 18446744073709551615)
  (g0 : 0 ≤ b0) (g1 : b0 ≤ 18446744073709551615) (j0 : 0 ≤ b1) (j1 : b1 ≤ 18446744073709551615) :
  Calls Try.prog 103 #[.agg #[.int .u64 a0, .int .u64 a1], .agg #[.int .u64 b0, .int .u64 b1]] w
   (RetE ((a0 + 18446744073709551616 * a1 - (b0 + 18446744073709551616 * b1)) % 340282366920938462946865773367900766209) w) := by
 have q0 := ((V2.new w (.int .u64 a0) (.int .u64 a1) 99).alloc (.cells #[.int .u64 b0, .int .u64 b1] 99)).alloc (.cells #[.int .u64 0, .int .u64 0] 99)
 have s0 := V2.new ((w.alloc (.cells #[.int .u64 a0, .int .u64 a1] 99)).alloc (.cells #[.int .u64 b0, .int .u64 b1] 99)) (.int .u64 0) (.int .u64 0) 99
 simp only [World.size_alloc] at s0
 go_enter Try.func103, Try.ntmps103
 go_wp2_with fail
 go_region_with (first
  | (go_at_call 119; refine (wide_Neg _ _ _ (by omega) (by omega) (by omega) (by omega)).mono ?_; rintro e w5 ⟨y0, y1, rfl, ⟨hy0, hy1, hy2, hy3⟩, HY, hb5'⟩; have hb5 := undrew hb5'; clear hb5'; have q5 := q0.call hb5; have s5 := s0.call hb5; obtain ⟨c50, c51, c52, c53, c54⟩ := q5)
  | (go_at_call 115; refine (wide_Add _ _ _ _ _ (by omega) (by omega) (by omega) (by omega) (by omega) (by omega) (by omega) (by omega)).mono ?_; rintro e w6 ⟨z0, z1, rfl, ⟨hz0, hz1, hz2, hz3⟩, HZ, hb6⟩; have s6 := s5.call hb6; obtain ⟨d60, d61, d62, d63, d64⟩ := s5.call hb6))
 all_goals
  go_wp2
  refine bodyPost_ret (results_v2 (b := w.heap.size + 1 + 1) (u := .int .u64 z0) (v := .int .u64 z1) ?_ rfl rfl) rfl ?_
  ·exact V2.set s6 _ _
  ·refine ⟨_, _, rfl, ⟨hz0, hz1, hz2, hz3⟩, ?_, by repeat (first | exact bA | with_reducible assumption | apply bB | (refine bC ?_ (by dsimp only; omega)) | apply bD | apply bE | (refine bF ?_ (by assumption)))⟩
   show _ = _
   rw [HZ.out, HY.out, sub_fin]

end Go.Proofs.Ytbakkmfjamcbfaa

namespace Go.Proofs.Ytbakkmfjamcbfaa
open Go.RowKit Fm
set_option linter.unusedVariables false
set_option maxRecDepth 100000

set_option maxHeartbeats 2000000 in
theorem field_Sub (f m a0 a1 b0 b1 : Int) (w : World) (hf : FM f m) (h0 : 0 ≤ a0) (h1 : a0 ≤ 18446744073709551615) (k0 : 0 ≤ a1) (k1 : a1 ≤ 18446744073709551615)
  (g0 : 0 ≤ b0) (g1 : b0 ≤ 18446744073709551615) (j0 : 0 ≤ b1) (j1 : b1 ≤ 18446744073709551615) :
  Calls Try.prog 69 #[.int .u8 f, .agg #[.int .u64 a0, .int .u64 a1], .agg #[.int .u64 b0, .int .u64 b1]] w (RetE ((nI f a0 a1 - nI f b0 b1) % m) w) := by
 rcases hf.or with ⟨rfl, rfl⟩ | ⟨rfl, rfl⟩
 ·have s0 := V2.new ((w.alloc (.cells #[.int .u64 a0, .int .u64 a1] 99)).alloc (.cells #[.int .u64 b0, .int .u64 b1] 99)) (.int .u64 0) (.int .u64 0) 99
  go_enter Try.func69, Try.ntmps69
  go_wp2_with (go_at_call 102; refine (gold_Sub _ _ _ (by omega) (by omega) (by omega) (by omega)).mono ?_; rintro e w' ⟨rfl, rfl⟩)
  refine bodyPost_ret (by simp [results, Try.results69, go_sem]; rfl) rfl ?_
  refine ⟨_, _, rfl, ?_, ?_, by repeat (first | exact bA | with_reducible assumption | apply bB | (refine bC ?_ (by dsimp only; omega)) | apply bD | apply bE | (refine bF ?_ (by assumption)))⟩
  ·omega
  ·show _ = _
   unfold nI
   simp
 ·go_enter Try.func69, Try.ntmps69
  go_wp2_with fail
  refine (wide_Sub _ _ _ _ _ h0 h1 k0 k1 g0 g1 j0 j1).mono ?_
  rintro e w6 ⟨z0, z1, rfl, ⟨hz0, hz1, hz2, hz3⟩, HZ, hb6⟩
  have s0 := V2.new ((w.alloc (.cells #[.int .u64 a0, .int .u64 a1] 99)).alloc (.cells #[.int .u64 b0, .int .u64 b1] 99)) (.int .u64 0) (.int .u64 0) 99
  have s6 := s0.call hb6
  simp only [World.size_alloc] at s6
  clear s0
  have hs6 := s6
  obtain ⟨d60, d61, d62, d63, d64⟩ := hs6
  go_wp2
  refine bodyPost_ret (results_v2 (b := w.heap.size + 1 + 1) (u := .int .u64 z0) (v := .int .u64 z1) ?_ rfl rfl) rfl ?_
  ·exact V2.set s6 _ _
  ·refine ⟨_, _, rfl, ⟨hz0, hz1, hz2, hz3⟩, ?_, by repeat (first | exact bA | with_reducible assumption | apply bB | (refine bC ?_ (by dsimp only; omega)) | apply bD | apply bE | (refine bF ?_ (by assumption)))⟩
   show _ = _
   rw [HZ.out]
   unfold nI
   simp

theorem field_In (f m a0 a1 : Int) (w : World) (hf : FM f m) (h0 : 0 ≤ a0) (h1 : a0 ≤ 18446744073709551615) (k0 : 0 ≤ a1) (k1 : a1 ≤ 18446744073709551615) :
  Calls Try.prog 104 #[.int .u8 f, .agg #[.int .u64 a0, .int .u64 a1]] w fun e w' => e = .returned (.bool (decide (a0 + 18446744073709551616 * a1 < m))) ∧ Below w.heap.size w w' := by
 rcases hf.or with ⟨rfl, rfl⟩ | ⟨rfl, rfl⟩
 ·by_cases hz : a1 = 0
  ·subst hz
   have hd : decide (a0 + 18446744073709551616 * 0 < 18446744069414584321) = decide (a0 < 18446744069414584321) := by congr 1; simp
   rw [hd]
   clear hd
   go_enter Try.func104, Try.ntmps104
   go_wp2_with (go_at_call 120; refine (gold_In _ _ (by omega) (by omega)).mono ?_; rintro e w' ⟨rfl, rfl⟩)
   go_ret
   exact ⟨rfl, by repeat (first | exact bA | with_reducible assumption | apply bB | (refine bC ?_ (by dsimp only; omega)) | apply bD | apply bE | (refine bF ?_ (by assumption)))⟩
  ·have hb : (a1 == 0) = false := by simp; omega
   have hd : decide (a0 + 18446744073709551616 * a1 < 18446744069414584321) = false := by simp; omega
   rw [hd]
   clear hd
   go_enter Try.func104, Try.ntmps104
   go_wp2
   go_ret
   exact ⟨rfl, by repeat (first | exact bA | with_reducible assumption | apply bB | (refine bC ?_ (by dsimp only; omega)) | apply bD | apply bE | (refine bF ?_ (by assumption)))⟩
 ·go_enter Try.func104, Try.ntmps104
  go_wp2_with (go_at_call 121; refine (wide_In _ _ _ (by omega) (by omega)).mono ?_; rintro e w6 ⟨rfl, hb6⟩)
  go_ret
  exact ⟨rfl, by repeat (first | exact bA | with_reducible assumption | apply bB | (refine bC ?_ (by dsimp only; omega)) | apply bD | apply bE | (refine bF ?_ (by assumption)))⟩

end Go.Proofs.Ytbakkmfjamcbfaa

namespace Go.Proofs.Ytbakkmfjamcbfaa
open Go.RowKit Fm
set_option linter.unusedVariables false
set_option maxRecDepth 100000

def RetErr (n : Int) (w : World) (e : Ending) (w' : World) : Prop := e = .returned (.tuple #[.slice none 0 0, .int .i64 n]) ∧ Below w.heap.size w w'

end Go.Proofs.Ytbakkmfjamcbfaa

namespace Go.Proofs.Ytbakkmfjamcbfaa
open Go.RowKit Fm
set_option linter.unusedVariables false
set_option maxRecDepth 100000

theorem oneCell_cellsE (xs : List E) : ∀ u, u ∈ cellsE xs → u.oneCell' = true := by
 induction xs with
 | nil => intro u h; cases h
 | cons e l ih =>
  intro u h
  simp only [cellsE, List.mem_cons] at h
  rcases h with rfl | rfl | h
  ·rfl
  ·rfl
  ·exact ih u h

theorem run_append_E (w : World) (base : Nat) (ty : TypeId) (v : Value) (n : Nat) (xs : List E) (hown : w.ownsRow base 99 2 v n (cellsE xs)) (A : Option Addr) (m c : Nat) (ys : List E)
  (hm : ys.length = m) (hy : 0 < m → ∃ b o, A = some ⟨b, o, none⟩ ∧ RowE w b o ys) (hbound : n + m ≤ 1099511627776) (hbase : base ≤ w.heap.size) :
  ∃ v' w', (Builtin.append_ #[73, 73] ty #[v, .slice A m c]).run Try.prog w = .ok v' w' ∧ w'.ownsRow base 99 2 v' (n + m) (cellsE (xs ++ ys)) ∧ w.grownBy w' v.ownBlock ∧
   (v'.ownBlock = v.ownBlock ∨ v'.ownBlock = some w.heap.size) := by
 obtain ⟨i, hi, hz, h1, h2⟩ := info_parts info_elem
 rw [cellsE_append]
 rcases A with _ | ad
 ·have hm0 : m = 0 := by
   rcases Nat.eq_zero_or_pos m with h0 | h0
   ·exact h0
   ·obtain ⟨b, o, h, _⟩ := hy h0
    cases h
  subst hm0
  obtain rfl : ys = [] := List.eq_nil_of_length_eq_zero hm
  refine ⟨v, w, ?_, by simpa [cellsE] using hown, World.grownBy.refl w _, .inl rfl⟩
  rcases hown.2 with ⟨rfl, rfl⟩ | ⟨g, cap, cur, rfl, _, _, hnc, _⟩
  ·simp [Builtin.append_, run_underlying Try.underlying73, sizeOf, typeInfo, hi, Builtin.lenOf, Builtin.firstCells]
  ·simp [Builtin.append_, run_underlying Try.underlying73, sizeOf, typeInfo, hi, Builtin.lenOf, Builtin.firstCells, hnc, storeCells]
 ·have hcells : ∀ j u, (cellsE ys)[j]? = some u → w.cell? (ad.add j) = some u := by
   intro j u hu
   rcases Nat.eq_zero_or_pos m with h0 | h0
   ·subst h0
    obtain rfl : ys = [] := List.eq_nil_of_length_eq_zero hm
    simp [cellsE] at hu
   ·obtain ⟨b, o, h, hr⟩ := hy h0
    injection h with h
    subst h
    exact hr.cells j u hu
  obtain ⟨v', w', hrun, h3, h4, _, h5⟩ := run_append_own_at (P := Try.prog) w base 73 ty 99 i _ 2 16 Try.underlying73 hi hz h1 h2 rfl (by omega) v n _ hown ad m c (cellsE ys)
   (by rw [length_cellsE, hm]) hcells (oneCell_cellsE ys) (by unfold maxLen; omega) (by omega) hbase
  exact ⟨v', w', hrun, h3, h4, h5⟩

theorem wpList_append_E {w : World} {ops : Array Oper} {rest : List Oper} {o : Oper} {a : Act} {Q : Exit → Act → World → Prop} (hgd : o.guard = none) (s x : Operand)
  (ho : o.op = .call { callee := .builtin .append, args := #[s, x], argTypes := #[73, 73] })
  (base : Nat) (v : Value) (n : Nat) (xs : List E) (hs : a.eval s = v) (hown : w.ownsRow base 99 2 v n (cellsE xs)) (A : Option Addr) (m c : Nat) (ys : List E) (hx : a.eval x = .slice A m c)
  (hm : ys.length = m) (hy : 0 < m → ∃ b o, A = some ⟨b, o, none⟩ ∧ RowE w b o ys) (hbound : n + m ≤ 1099511627776) (hbase : base ≤ w.heap.size)
  (h : ∀ v' w', w'.ownsRow base 99 2 v' (n + m) (cellsE (xs ++ ys)) → w.grownBy w' v.ownBlock → (v'.ownBlock = v.ownBlock ∨ v'.ownBlock = some w.heap.size) → wpList Try.prog ops Q rest (a.put o.dst v') w') : wpList Try.prog ops Q (o :: rest) a w := by
 obtain ⟨v', w', hrun, h2, h3, h4⟩ := run_append_E w base o.type v n xs hown A m c ys hm hy hbound hbase
 refine wpList_plain hgd fun K hK => ?_
 unfold Oper.wp execOp
 simp only [ho, resolve, invoke, builtin, Sem.run_bind, Sem.run_pure, Result.andThen_ok, List.map_toArray, List.map_cons, List.map_nil, hs, hx, hrun]
 exact hK _ _ (h v' w' h2 h3 h4)

theorem SlE.of_own {w : World} {base : Nat} {v : Value} {xs : List E} (h : w.ownsRow base 99 2 v xs.length (cellsE xs)) (ok : ∀ e, e ∈ xs → okE e) : SlE w w.heap.size v xs := by
 rcases h.2 with ⟨rfl, h0⟩ | ⟨g, cap, cur, rfl, hb, hg, hnc, hcm, hcs, htk⟩
 ·refine ⟨⟨none, 0, by rw [h0], by omega, by omega, fun hn => by omega⟩, ok⟩
 ·refine ⟨⟨some ⟨g, 0, none⟩, cap, rfl, hnc, by unfold maxLen at hcm; omega, fun _ => ⟨g, 0, rfl, (Array.getElem?_eq_some_iff.1 hg).1, fun i e hi => ?_⟩⟩, ok⟩
  obtain ⟨e1, e2⟩ := cellsE_at xs i e hi
  have hc := fun j u hu => h.cells (g := g) rfl j u hu
  have ha : ∀ j, (⟨g, 0, none⟩ : Addr).add j = ⟨g, 0 + j, none⟩ := by
   intro j
   unfold Addr.add
   split <;> simp_all
  have f1 := hc _ _ e1
  have f2 := hc _ _ e2
  rw [ha] at f1 f2
  exact ⟨f1, by rw [Nat.add_assoc]; exact f2⟩

end Go.Proofs.Ytbakkmfjamcbfaa

namespace Go.Proofs.Ytbakkmfjamcbfaa
open Go.RowKit Fm
set_option linter.unusedVariables false
set_option maxRecDepth 100000

theorem lohi_inj {f : Nat} {x y : Fin (Pm f)} (h : lo x = lo y) (h' : hi x = hi y) : x = y := eK_inj (Prod.ext h h')

section
variable {f : Nat} (hf : IsF f)
include hf

theorem field_SubL (a0 a1 b0 b1 : Int) (w : World) (h0 : 0 ≤ a0) (h1 : a0 ≤ 18446744073709551615) (k0 : 0 ≤ a1) (k1 : a1 ≤ 18446744073709551615)
  (g0 : 0 ≤ b0) (g1 : b0 ≤ 18446744073709551615) (j0 : 0 ≤ b1) (j1 : b1 ≤ 18446744073709551615) :
  Calls Try.prog 69 #[.int .u8 f, .agg #[.int .u64 a0, .int .u64 a1], .agg #[.int .u64 b0, .int .u64 b1]] w (RetK (kL f a0 a1 - kL f b0 b1) w) :=
 (field_Sub f _ a0 a1 b0 b1 w (FM.ofN hf) h0 h1 k0 k1 g0 g1 j0 j1).mono fun _ _ h => h.toK (by rw [kI_sub, kI_nI, kI_nI])

end

/-! ### lists of elements -/
theorem esK_append {f : Nat} (l m : KL f) : esK (l ++ m) = esK l ++ esK m := by unfold esK; rw [List.map_append]
end Go.Proofs.Ytbakkmfjamcbfaa

namespace Go.Proofs.Ytbakkmfjamcbfaa
open Go.RowKit Fm
set_option linter.unusedVariables false
set_option maxRecDepth 100000

section
variable {w w' : World} {b : Nat} {cs : List Value}
theorem Vs.of2 {u v : Value} (h : V2 w b u v) : Vs w b [u, v] := by
 refine ⟨fun i x hi => ?_, fun i hi => ?_, h.lt⟩
 ·match i, hi with
  | 0, hi => obtain rfl : u = x := by simpa using hi
             exact h.c0
  | 1, hi => obtain rfl : v = x := by simpa using hi
             exact h.c1
 ·match i, hi with
  | 0, _ => exact h.f0
  | 1, _ => exact h.f1
theorem Vs.to2 {u v : Value} (h : Vs w b [u, v]) : V2 w b u v := ⟨h.cell 0 _ rfl, h.cell 1 _ rfl, h.frz 0 (by simp), h.frz 1 (by simp), h.lt⟩
theorem Vs.get1 {x : Value} (h : Vs w b [x]) : w.cell? ⟨b, 0, none⟩ = some x ∧ w.frozen? ⟨b, 0, none⟩ = false ∧ b < w.heap.size := ⟨h.cell 0 _ rfl, h.frz 0 (by simp), h.lt⟩
end

end Go.Proofs.Ytbakkmfjamcbfaa

namespace Go.Proofs.Ytbakkmfjamcbfaa
open Go.RowKit Fm
set_option linter.unusedVariables false
set_option maxRecDepth 100000

theorem Vs.belowB {w w' : World} {b B : Nat} {cs : List Value} (h : Vs w b cs) (hb : Below B w w') (hB : b < B) : Vs w' b cs :=
 ⟨fun i v hi => (hb.cell (p := ⟨b, i, none⟩) hB).trans (h.cell i v hi), fun i hi => (hb.frozen (p := ⟨b, i, none⟩) hB).trans (h.frz i hi), Nat.lt_of_lt_of_le h.lt hb.size⟩
theorem own_slice {w : World} {base : Nat} {e : TypeId} {size : Nat} {v : Value} {n : Nat} {xs : List Value} (h : w.ownsRow base e size v (n + 1) xs) : ∃ g cap, v = .slice (some ⟨g, 0, none⟩) (n + 1) cap := by
 rcases h.2 with h | ⟨g, cap, cur, h1, _⟩
 ·omega
 ·exact ⟨g, cap, h1⟩

section
variable {f : Nat} (hf : IsF f)
include hf

end

end Go.Proofs.Ytbakkmfjamcbfaa

namespace Go.Proofs.Ytbakkmfjamcbfaa
open Go Go.RowKit

section
variable {P : Program} {ops : Array Oper} {Q : Exit → Act → World → Prop} {md : Region.Mode}

variable {n m : Nat} {L : Act → World → Prop} {S : World → Prop} {f : Nat} {listed : Array Bool} {a : Act}

end

section
variable {P : Program} {Q : Exit → Act → World → Prop}
theorem Fresh.var {ops : Array Oper} {S : World → Prop} {o : Oper} {a : Act} {B : Nat} (cs : List Value) (t : TypeId) (hw : Region.wanted o (yielded ops a.tmps) = true) (hB : ∀ w, S w → B ≤ w.heap.size)
  (h : ∀ w, S w → (execOp a.eval o).run P w = .ok (.value (.pointer (some ⟨w.heap.size, 0, none⟩))) (w.alloc (.cells cs.toArray t))) {R : Nat → World → Prop} (hR : ∀ w, S w → R w.heap.size (w.alloc (.cells cs.toArray t))) :
  Fresh P ops S (fun b : Nat => .pointer (some ⟨b, 0, none⟩)) (fun b w => B ≤ b ∧ R b w) o a :=
 ⟨hw, fun w hS => by rw [h w hS]; exact ⟨w.heap.size, rfl, ⟨hB w hS, hR w hS⟩, (Below.refl _ _).alloc (Nat.le_refl _) _⟩⟩
end

end Go.Proofs.Ytbakkmfjamcbfaa

namespace Go.Proofs.Ytbakkmfjamcbfaa
open Go.RowKit Fm
set_option linter.unusedVariables false
set_option maxRecDepth 100000

section
variable (f : Nat) (y : CK) (hy : y.ok)
include hy

end

def RetU (n : Nat) (w : World) (e : Ending) (w' : World) : Prop := e = .returned (.int .u64 (n : Int)) ∧ Below w.heap.size w w'

theorem pow32 {b : Nat} (h : b ≤ 32) : 1 ≤ 2 ^ b ∧ 2 ^ b ≤ 4294967296 := ⟨Nat.one_le_two_pow, Nat.le_trans (Nat.pow_le_pow_right (by omega) h) (by decide)⟩

set_option maxHeartbeats 1000000 in
theorem circuit_Most (f : Nat) (y : CK) (hy : y.ok) (w : World) : Calls Try.prog 105 #[y.val f] w (RetU y.most w) := by
 cases y with
 | count =>
  rw [val_count]
  go_enter Try.func105, Try.ntmps105
  go_wp2
  go_ret
  exact ⟨rfl, by repeat (first | exact bA | with_reducible assumption | apply bB | (refine bC ?_ (by dsimp only; omega)) | apply bD | apply bE | (refine bF ?_ (by assumption)))⟩
 | sum b =>
  rw [val_sum, show CK.most (.sum b) = 2 ^ b - 1 from rfl]
  have hb := hy.2
  have hp2 := pow32 hb
  have hmx : max (b : Int) 0 = (b : Int) := by omega
  have hmn : min (b : Int) 63 = (b : Int) := by omega
  have hpow : (2 : Int) ^ b = ((2 ^ b : Nat) : Int) := (Int.natCast_pow 2 b).symm
  generalize 2 ^ b = p at *
  go_enter Try.func105, Try.ntmps105
  go_wp2
  go_ret
  exact ⟨ret_int (by omega), by repeat (first | exact bA | with_reducible assumption | apply bB | (refine bC ?_ (by dsimp only; omega)) | apply bD | apply bE | (refine bF ?_ (by assumption)))⟩
 | vec b l c =>
  rw [val_vec, show CK.most (.vec b l c) = 2 ^ b - 1 from rfl]
  have hb := hy.1.2
  have hp2 := pow32 hb
  have hmx : max (b : Int) 0 = (b : Int) := by omega
  have hmn : min (b : Int) 63 = (b : Int) := by omega
  have hpow : (2 : Int) ^ b = ((2 ^ b : Nat) : Int) := (Int.natCast_pow 2 b).symm
  generalize 2 ^ b = p at *
  go_enter Try.func105, Try.ntmps105
  go_wp2
  go_ret
  exact ⟨ret_int (by omega), by repeat (first | exact bA | with_reducible assumption | apply bB | (refine bC ?_ (by dsimp only; omega)) | apply bD | apply bE | (refine bF ?_ (by assumption)))⟩
 | hist l c =>
  rw [val_hist]
  go_enter Try.func105, Try.ntmps105
  go_wp2
  go_ret
  exact ⟨rfl, by repeat (first | exact bA | with_reducible assumption | apply bB | (refine bC ?_ (by dsimp only; omega)) | apply bD | apply bE | (refine bF ?_ (by assumption)))⟩
 | multi l m c =>
  rw [val_multi]
  go_enter Try.func105, Try.ntmps105
  go_wp2
  go_ret
  exact ⟨rfl, by repeat (first | exact bA | with_reducible assumption | apply bB | (refine bC ?_ (by dsimp only; omega)) | apply bD | apply bE | (refine bF ?_ (by assumption)))⟩

/-! ### the reference's circuit of a circuit -/
end Go.Proofs.Ytbakkmfjamcbfaa

namespace Go.Proofs.Ytbakkmfjamcbfaa
open Go.RowKit Fm
set_option linter.unusedVariables false
set_option maxRecDepth 100000

theorem nK_kI (f n : Nat) : nK f n = kI (Pm f) (n : Int) := by
 unfold nK
 rw [← kI_nI]
 congr 1
 unfold nI
 split <;> omega
theorem nK_add (f m n : Nat) : nK f (m + n) = nK f m + nK f n := by rw [nK_kI, nK_kI, nK_kI, Int.natCast_add, kI_add]
theorem ksum_take {f : Nat} (l : KL f) (k : Nat) (x : Fin (Pm f)) (h : l[k]? = some x) : ksum (l.take (k + 1)) = ksum (l.take k) + x := by
 unfold ksum
 rw [List.take_add_one, h, List.foldl_append]
 rfl
def kpow (f : Nat) : Nat → Fin (Pm f)
 | 0 => 1
 | k + 1 => kpow f k + kpow f k
theorem knum_take {f : Nat} : ∀ (l : KL f) (k : Nat) (x : Fin (Pm f)), l[k]? = some x → knum (l.take (k + 1)) = knum (l.take k) + kpow f k * x
 | [], k, x, h => by simp at h
 | y :: l, 0, x, h => by
  obtain rfl : y = x := by simpa using h
  show (0 : Fin (Pm f)) + 0 + y = 0 + 1 * y
  grind
 | y :: l, k + 1, x, h => by
  have ih := knum_take l k x (by simpa using h)
  rw [List.take_succ_cons, List.take_succ_cons]
  show knum (l.take (k + 1)) + knum (l.take (k + 1)) + y = knum (l.take k) + knum (l.take k) + y + (kpow f k + kpow f k) * x
  rw [ih]
  grind

section
variable {f : Nat} (hf : IsF f)
include hf

end

end Go.Proofs.Ytbakkmfjamcbfaa

namespace Go.Proofs.Ytbakkmfjamcbfaa
open Go.RowKit Fm Go.ChangeShapes Go.WideShapes Go.Deep
set_option linter.unusedVariables false
set_option maxRecDepth 100000

theorem length_cellsU (xs : List Int) : (cellsU xs).length = xs.length := by unfold cellsU; rw [List.length_map]
theorem cellsU_at {xs : List Int} {i : Nat} {e : Int} (h : xs[i]? = some e) : (cellsU xs)[i]? = some (.int .u64 e) := by unfold cellsU; rw [List.getElem?_map, h]; rfl
theorem cellsU_append (xs ys : List Int) : cellsU (xs ++ ys) = cellsU xs ++ cellsU ys := by unfold cellsU; rw [List.map_append]

theorem infoU64 : (Try.prog.info? 22).map (fun i => (i.zero, i.size, i.bytes)) = some (some (.int .u64 0), 1, 8) := by kernel_rfl

theorem oneCell_cellsU (xs : List Int) : ∀ u, u ∈ cellsU xs → u.oneCell' = true := by
 intro u h
 unfold cellsU at h
 rw [List.mem_map] at h
 obtain ⟨e, _, rfl⟩ := h
 rfl

theorem run_append_U (w : World) (base : Nat) (ty : TypeId) (v : Value) (n : Nat) (xs : List Int) (hown : w.ownsRow base 22 1 v n (cellsU xs)) (A : Option Addr) (m c : Nat) (ys : List Int)
  (hm : ys.length = m) (hy : 0 < m → ∃ b o, A = some ⟨b, o, none⟩ ∧ RowU w b o ys) (hbound : n + m ≤ 1099511627776) (hbase : base ≤ w.heap.size) :
  ∃ v' w', (Builtin.append_ #[88, 88] ty #[v, .slice A m c]).run Try.prog w = .ok v' w' ∧ w'.ownsRow base 22 1 v' (n + m) (cellsU (xs ++ ys)) ∧ w.grownBy w' v.ownBlock ∧
   (v'.ownBlock = v.ownBlock ∨ v'.ownBlock = some w.heap.size) := by
 obtain ⟨i, hi, hz, h1, h2⟩ := info_parts infoU64
 rw [cellsU_append]
 rcases A with _ | ad
 ·have hm0 : m = 0 := by
   rcases Nat.eq_zero_or_pos m with h0 | h0
   ·exact h0
   ·obtain ⟨b, o, h, _⟩ := hy h0
    cases h
  subst hm0
  obtain rfl : ys = [] := List.eq_nil_of_length_eq_zero hm
  refine ⟨v, w, ?_, by simpa [cellsU] using hown, World.grownBy.refl w _, .inl rfl⟩
  rcases hown.2 with ⟨rfl, rfl⟩ | ⟨g, cap, cur, rfl, _, _, hnc, _⟩
  ·simp [Builtin.append_, run_underlying Try.underlying88, sizeOf, typeInfo, hi, Builtin.lenOf, Builtin.firstCells]
  ·simp [Builtin.append_, run_underlying Try.underlying88, sizeOf, typeInfo, hi, Builtin.lenOf, Builtin.firstCells, hnc, storeCells]
 ·have hcells : ∀ j u, (cellsU ys)[j]? = some u → w.cell? (ad.add j) = some u := by
   intro j u hu
   rcases Nat.eq_zero_or_pos m with h0 | h0
   ·subst h0
    obtain rfl : ys = [] := List.eq_nil_of_length_eq_zero hm
    simp [cellsU] at hu
   ·obtain ⟨b, o, h, hr⟩ := hy h0
    injection h with h
    subst h
    exact hr.cells j u hu
  obtain ⟨v', w', hrun, h3, h4, _, h5⟩ := run_append_own_at (P := Try.prog) w base 88 ty 22 i _ 1 8 Try.underlying88 hi hz h1 h2 rfl (by omega) v n _ hown ad m c (cellsU ys)
   (by rw [length_cellsU, hm, Nat.mul_one]) hcells (oneCell_cellsU ys) (by unfold maxLen; omega) (by omega) hbase
  exact ⟨v', w', hrun, h3, h4, h5⟩

theorem wpList_append_U {w : World} {ops : Array Oper} {rest : List Oper} {o : Oper} {a : Act} {Q : Exit → Act → World → Prop} (hgd : o.guard = none) (s x : Operand)
  (ho : o.op = .call { callee := .builtin .append, args := #[s, x], argTypes := #[88, 88] })
  (base : Nat) (v : Value) (n : Nat) (xs : List Int) (hs : a.eval s = v) (hown : w.ownsRow base 22 1 v n (cellsU xs)) (A : Option Addr) (m c : Nat) (ys : List Int) (hx : a.eval x = .slice A m c)
  (hm : ys.length = m) (hy : 0 < m → ∃ b o, A = some ⟨b, o, none⟩ ∧ RowU w b o ys) (hbound : n + m ≤ 1099511627776) (hbase : base ≤ w.heap.size)
  (h : ∀ v' w', w'.ownsRow base 22 1 v' (n + m) (cellsU (xs ++ ys)) → w.grownBy w' v.ownBlock → (v'.ownBlock = v.ownBlock ∨ v'.ownBlock = some w.heap.size) → wpList Try.prog ops Q rest (a.put o.dst v') w') : wpList Try.prog ops Q (o :: rest) a w := by
 obtain ⟨v', w', hrun, h2, h3, h4⟩ := run_append_U w base o.type v n xs hown A m c ys hm hy hbound hbase
 refine wpList_plain hgd fun K hK => ?_
 unfold Oper.wp execOp
 simp only [ho, resolve, invoke, builtin, Sem.run_bind, Sem.run_pure, Result.andThen_ok, List.map_toArray, List.map_cons, List.map_nil, hs, hx, hrun]
 exact hK _ _ (h v' w' h2 h3 h4)

theorem SlU.of_own {w : World} {base : Nat} {v : Value} {xs : List Int} (h : w.ownsRow base 22 1 v xs.length (cellsU xs)) (ok : ∀ e, e ∈ xs → okU e) : SlU w w.heap.size v xs := by
 rcases h.2 with ⟨rfl, h0⟩ | ⟨g, cap, cur, rfl, hb, hg, hnc, hcm, hcs, htk⟩
 ·refine ⟨⟨none, 0, by rw [h0], by omega, by omega, fun hn => by omega⟩, ok⟩
 ·refine ⟨⟨some ⟨g, 0, none⟩, cap, rfl, hnc, by unfold maxLen at hcm; omega, fun _ => ⟨g, 0, rfl, (Array.getElem?_eq_some_iff.1 hg).1, fun i e hi => ?_⟩⟩, ok⟩
  have f1 := h.cells (g := g) rfl i _ (cellsU_at hi)
  have ha : (⟨g, 0, none⟩ : Addr).add i = ⟨g, 0 + i, none⟩ := by
   unfold Addr.add
   split <;> simp_all
  rw [ha] at f1
  exact f1

section
variable {H : Type} {enc : TypeId × Value → H} {W : World} {base : Nat} {sp : Nat → Bool} {hd : Bool}
end

end Go.Proofs.Ytbakkmfjamcbfaa

namespace Go.Proofs.Ytbakkmfjamcbfaa
open Go.RowKit Fm
set_option linter.unusedVariables false
set_option maxRecDepth 100000

theorem own_sl {f : Nat} {w : World} {base : Nat} {v : Value} {n : Nat} {l : KL f} (hl : l.length = n) (h : w.ownsRow base 99 2 v n (cellsE (esK l))) : SlK w w.heap.size v l := by
 subst hl
 exact (SlE.of_own (xs := esK l) (by rw [esK_length]; exact h) (esK_ok l)).toK

section
variable {f : Nat} (hf : IsF f)
include hf

end

end Go.Proofs.Ytbakkmfjamcbfaa

namespace Go.Proofs.Ytbakkmfjamcbfaa
open Go.RowKit Fm
set_option linter.unusedVariables false
set_option maxRecDepth 100000

def natsI (ms : List Nat) : List Int := ms.map fun n : Nat => (n : Int)
theorem own_shape {w : World} {base : Nat} {e : TypeId} {size : Nat} {v : Value} {n : Nat} {xs : List Value} (h : w.ownsRow base e size v n xs) : ∃ (A : Option Addr) (cp : Nat), v = .slice A n cp := by
 rcases h.2 with ⟨hv, hn⟩ | ⟨g, cap, cur, hv, _⟩
 ·subst hn
  exact ⟨_, _, hv⟩
 ·exact ⟨_, _, hv⟩

section
variable {f : Nat} (hf : IsF f)
include hf

end

end Go.Proofs.Ytbakkmfjamcbfaa

namespace Go.Proofs.Ytbakkmfjamcbfaa
open Go.RowKit Fm
set_option linter.unusedVariables false
set_option maxRecDepth 100000

def CK.raw (y : CK) (F : Nat) : Raw := ⟨y.k, F, y.b, y.l, y.m, y.c⟩
end Go.Proofs.Ytbakkmfjamcbfaa

namespace Go.Proofs.Ytbakkmfjamcbfaa
open Go.RowKit Fm
set_option linter.unusedVariables false
set_option maxRecDepth 100000

def RetNil (n : Int) (w : World) (e : Ending) (w' : World) : Prop := e = .returned (.tuple #[.slice none 0 0, .int .i64 n]) ∧ Below w.heap.size w w'

def decBad (most : Nat) (k : Int) (e : E) : Bool := e.2 != 0 || decide (k * most < e.1)
def decN (y : CK) (l : List E) (k : Int) : Int := if l.length = y.nout then (if k < 0 ∨ 256 < k then 6 else if l.any (decBad y.most k) then 6 else 0) else 9
theorem CK.most_le {y : CK} (h : y.ok) : y.most ≤ 4294967296 := by
 cases y with
 | sum b => show 2 ^ b - 1 ≤ 4294967296; have := pow32 h.2; omega
 | vec b l c => show 2 ^ b - 1 ≤ 4294967296; have := pow32 h.1.2; omega
 | count => show 1 ≤ 4294967296; omega
 | hist l c => show 1 ≤ 4294967296; omega
 | multi l m c => show 1 ≤ 4294967296; omega

theorem Pm_ge {f : Nat} (hf : IsF f) : (1152921504606846976 : Int) ≤ ((Pm f : Nat) : Int) := by
 rcases hf.or with rfl | rfl <;> decide

theorem any_take {α : Type} {p : α → Bool} {l : List α} {q : Nat} {e : α} (h : l[q]? = some e) (ha : (l.take q).any p = false) (he : p e = false) : (l.take (q + 1)).any p = false := by
 rw [List.take_add_one, h, List.any_append, ha]
 simp [he]

end Go.Proofs.Ytbakkmfjamcbfaa

namespace Go.Proofs.Ytbakkmfjamcbfaa
open Go.RowKit Fm
set_option linter.unusedVariables false
set_option maxRecDepth 100000

theorem Vs.get4 {w : World} {b : Nat} {x y z p : Value} (h : Vs w b [x, y, z, p]) : (w.cell? ⟨b, 0, none⟩ = some x ∧ w.cell? ⟨b, 1, none⟩ = some y ∧ w.cell? ⟨b, 2, none⟩ = some z ∧ w.cell? ⟨b, 3, none⟩ = some p) ∧
  (w.frozen? ⟨b, 0, none⟩ = false ∧ w.frozen? ⟨b, 1, none⟩ = false ∧ w.frozen? ⟨b, 2, none⟩ = false ∧ w.frozen? ⟨b, 3, none⟩ = false) ∧ b < w.heap.size :=
 ⟨⟨h.cell 0 _ rfl, h.cell 1 _ rfl, h.cell 2 _ rfl, h.cell 3 _ rfl⟩, ⟨h.frz 0 (by simp), h.frz 1 (by simp), h.frz 2 (by simp), h.frz 3 (by simp)⟩, h.lt⟩
section
variable {f : Nat} (hf : IsF f)
include hf

end

end Go.Proofs.Ytbakkmfjamcbfaa

namespace Go.Proofs.Ytbakkmfjamcbfaa
open Go.RowKit Fm
set_option linter.unusedVariables false
set_option maxRecDepth 100000

section
variable {S : Nat → Prop} {B : Nat} {a w w' w'' : World}
theorem Exc.two (w : World) (b b' : Nat) (x y x' y' : Value) : Exc (fun q => q = b ∨ q = b') w.heap.size w ((((w.setCell ⟨b, 0, none⟩ x).setCell ⟨b, 1, none⟩ y).setCell ⟨b', 0, none⟩ x').setCell ⟨b', 1, none⟩ y') :=
 ⟨rfl, rfl, rfl, by simp [World.setCell], fun k hk hn => by
  have h1 : k ≠ b := fun e => hn (.inl e)
  have h2 : k ≠ b' := fun e => hn (.inr e)
  rw [Below.heap_setCell _ _ y' k h2, Below.heap_setCell _ _ x' k h2, Below.heap_setCell _ _ y k h1, Below.heap_setCell _ _ x k h1]⟩
variable {f : Nat} {v : Value} {l : KL f}
end

end Go.Proofs.Ytbakkmfjamcbfaa
