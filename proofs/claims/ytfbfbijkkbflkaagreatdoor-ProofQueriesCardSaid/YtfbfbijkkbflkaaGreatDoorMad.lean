/-
 ElemEq, Wide4, Quad, WideM: what the statements of this layer share.
-/
import Derived.Test.YtfbfbijkkbflkaaGreatDoorProg
import Derived.ChangeKeysEq
import Derived.BigQuiet
import Derived.Test.YtfbfbijkkbflkaaGreatDoorMac
namespace Go.Proofs.YtfbfbijkkbflkaaGreatDoor
open Go.RowKit

theorem cells_elem : Tryz.prog.cellsOf 25 = 1 := by kernel_rfl

theorem info_u64 : (Tryz.prog.info? 25).isSome = true := by kernel_rfl

theorem run_equalIn_elem (d : Nat) (a0 a1 b0 b1 : Int) (w : World) :
  (Op.equalIn (d + 2) 36 (.agg #[.int .u64 a0, .int .u64 a1]) (.agg #[.int .u64 b0, .int .u64 b1])).run Tryz.prog w = .ok (a0 == b0 && a1 == b1) w := by
 obtain ⟨i, hi⟩ : ∃ i, Tryz.prog.info? 25 = some i := Option.isSome_iff_exists.1 info_u64
 rw [run_equalIn_array w (d + 1) _ _ Tryz.underlying36 hi, cells_elem]
 have p0 : ∀ (x y : Int), (part 25 #[.int .u64 x, .int .u64 y] (0 * 1)).run Tryz.prog w = .ok (.int .u64 x) w := by
  intro x y
  simp [part, isAgg, run_underlying Tryz.underlying25]
 have p1 : ∀ (x y : Int), (part 25 #[.int .u64 x, .int .u64 y] (1 * 1)).run Tryz.prog w = .ok (.int .u64 y) w := by
  intro x y
  simp [part, isAgg, run_underlying Tryz.underlying25]
 have e0 : ∀ (x y : Int), (Op.equalIn (d + 1) 25 (.int .u64 x) (.int .u64 y)).run Tryz.prog w = .ok (x == y) w := fun x y => run_equalIn_int w d 25 .u64 .u64 x y Tryz.underlying25
 simp only [show List.range 2 = [0, 1] from rfl, Op.eqItems, Sem.run_bind, p0, e0, Result.andThen_ok]
 cases h : (a0 == b0) <;> simp [Sem.run_bind, p1, e0]
 cases h1 : (a1 == b1) <;> simp <;> simpa using h1

theorem eql_elem (a0 a1 b0 b1 : Int) (w : World) :
  (binOp .eql 36 (.agg #[.int .u64 a0, .int .u64 a1]) (.agg #[.int .u64 b0, .int .u64 b1])).run Tryz.prog w = .ok (.bool (a0 == b0 && a1 == b1)) w := by
 rw [run_eql_struct, run_equalIn_elem 9998]
 rfl

end Go.Proofs.YtfbfbijkkbflkaaGreatDoor

namespace Go.Proofs.YtfbfbijkkbflkaaGreatDoor
open Go.RowKit Fm
set_option linter.unusedVariables false
set_option maxRecDepth 100000

theorem neg_fin (p n x r : Int) (hx : x = n % p) (hp : 0 < p) (hr : (x = 0 ∧ r = 0) ∨ (x ≠ 0 ∧ r = p - x)) : r = (-n) % p := by
 have h0 := Int.emod_nonneg n (b := p) (by omega)
 have h1 := Int.emod_lt_of_pos n hp
 have e : (-n) % p = (-x) % p := by
  have h : -n = -x + p * (-(n / p)) := by
   rw [hx, Int.emod_def, Int.mul_neg]
   omega
  rw [h, Int.add_mul_emod_self_left]
 rw [e]
 rcases hr with ⟨h, h'⟩ | ⟨h, h'⟩
 ·rw [h, h']; simp
 ·rw [h', ← Int.add_emod_left, Int.emod_eq_of_lt (by omega) (by omega)]
  omega

set_option maxHeartbeats 4000000 in
theorem wide_Neg (a0 a1 : Int) (w : World) (h0 : 0 ≤ a0) (h1 : a0 ≤ 18446744073709551615) (k0 : 0 ≤ a1) (k1 : a1 ≤ 18446744073709551615) :
  Calls Tryz.prog 132 #[.agg #[.int .u64 a0, .int .u64 a1]] w (RetE ((-(a0 + 18446744073709551616 * a1)) % 340282366920938462946865773367900766209) w) := by
 have heq := eql_elem
 go_enter Tryz.func132, Tryz.ntmps132
 go_wp2_with fail
 refine (Of_any a0 a1 _ h0 h1 k0 k1).mono ?_
 rintro e w1 ⟨x0, x1, rfl, ⟨hx0, hx1, hx2, hx3⟩, HX, hb1⟩
 have q1 := ((V2.new w (.int .u64 a0) (.int .u64 a1) 36).alloc (.cells #[.int .u64 0, .int .u64 0] 36)).call hb1
 have s0 := V2.new (w.alloc (.cells #[.int .u64 a0, .int .u64 a1] 36)) (.int .u64 0) (.int .u64 0) 36
 have s1 := s0.call hb1
 simp only [World.size_alloc] at s1
 clear s0
 have p1 := q1.set (.int .u64 x0) (.int .u64 x1)
 have s2 := V2.setOther (V2.setOther s1 (p := ⟨w.heap.size, 0, none⟩) (by dsimp only; omega) (.int .u64 x0)) (p := ⟨w.heap.size, 1, none⟩) (by dsimp only; omega) (.int .u64 x1)
 have hp := p1
 obtain ⟨c10, c11, c12, c13, c14⟩ := q1
 obtain ⟨c20, c21, c22, c23, c24⟩ := hp
 have hxm : x0 + 18446744073709551616 * x1 < 340282366920938462946865773367900766209 := by
  rw [HX.out]
  exact Int.emod_lt_of_pos _ (by omega)
 by_cases hz : x0 = 0 ∧ x1 = 0
 ·obtain ⟨rfl, rfl⟩ := hz
  have hs2 := s2
  obtain ⟨d20, d21, d22, d23, d24⟩ := hs2
  go_wp2
  refine bodyPost_ret (results_v2 (b := w.heap.size + 1) (u := .int .u64 0) (v := .int .u64 0) ?_ rfl rfl) rfl ?_
  ·exact V2.set s2 _ _
  ·exact ⟨_, _, rfl, by omega, neg_fin _ _ _ _ HX.out (by omega) (.inl ⟨by omega, by omega⟩), by repeat (first | exact bA | with_reducible assumption | apply bB | (refine bC ?_ (by dsimp only; omega)) | apply bD | apply bE | (refine bF ?_ (by assumption)))⟩
 ·have hne : (x0 == 0 && x1 == 0) = false := by
   rw [Bool.and_eq_false_iff, beq_eq_false_iff_ne, beq_eq_false_iff_ne]
   omega
  go_wp2_with fail
  go_region_with (first
   | (go_at_call 126; refine (wide_P _).mono ?_; rintro e w5 ⟨rfl, hb5'⟩; have hb5 := undrew hb5'; clear hb5'; have p5 := p1.call hb5; have s5 := s2.call hb5; obtain ⟨c50, c51, c52, c53, c54⟩ := p5)
   | (go_at_call 125; refine (take_any _ _ _ _ _ (by omega) (by omega) (by omega) (by omega) (by omega) (by omega) (by omega) (by omega)).mono ?_; rintro e w6 ⟨z0, z1, rfl, ⟨hz0, hz1, hz2, hz3⟩, HZ, hb6⟩; have s6 := s5.call hb6; obtain ⟨d60, d61, d62, d63, d64⟩ := s5.call hb6))
  all_goals
   go_wp2
   refine bodyPost_ret (results_v2 (b := w.heap.size + 1) (u := .int .u64 z0) (v := .int .u64 z1) ?_ rfl rfl) rfl ?_
   ·exact V2.set s6 _ _
   ·refine ⟨_, _, rfl, ⟨hz0, hz1, hz2, hz3⟩, ?_, by repeat (first | exact bA | with_reducible assumption | apply bB | (refine bC ?_ (by dsimp only; omega)) | apply bD | apply bE | (refine bF ?_ (by assumption)))⟩
    show _ = _
    have e := HZ.out
    rw [Int.emod_eq_of_lt (by omega) (by omega)] at e
    exact neg_fin _ _ _ _ HX.out (by omega) (.inr ⟨by omega, by omega⟩)

theorem sub_fin (p a b : Int) : (a + (-b) % p) % p = (a - b) % p := by
 rw [Int.add_emod, Int.emod_emod_of_dvd _ (Int.dvd_refl p), ← Int.add_emod, ← Int.sub_eq_add_neg]

set_option maxHeartbeats 4000000 in
theorem wide_Sub (a0 a1 b0 b1 : Int) (w : World) (h0 : 0 ≤ a0) (h1 : a0 ≤ 18446744073709551615) (k0 : 0 ≤ a1) (k1 : a1 ≤ 18446744073709551615)
  (g0 : 0 ≤ b0) (g1 : b0 ≤ 18446744073709551615) (j0 : 0 ≤ b1) (j1 : b1 ≤ 18446744073709551615) :
  Calls Tryz.prog 103 #[.agg #[.int .u64 a0, .int .u64 a1], .agg #[.int .u64 b0, .int .u64 b1]] w
   (RetE ((a0 + 18446744073709551616 * a1 - (b0 + 18446744073709551616 * b1)) % 340282366920938462946865773367900766209) w) := by
 have q0 := ((V2.new w (.int .u64 a0) (.int .u64 a1) 36).alloc (.cells #[.int .u64 b0, .int .u64 b1] 36)).alloc (.cells #[.int .u64 0, .int .u64 0] 36)
 have s0 := V2.new ((w.alloc (.cells #[.int .u64 a0, .int .u64 a1] 36)).alloc (.cells #[.int .u64 b0, .int .u64 b1] 36)) (.int .u64 0) (.int .u64 0) 36
 simp only [World.size_alloc] at s0
 go_enter Tryz.func103, Tryz.ntmps103
 go_wp2_with fail
 go_region_with (first
  | (go_at_call 132; refine (wide_Neg _ _ _ (by omega) (by omega) (by omega) (by omega)).mono ?_; rintro e w5 ⟨y0, y1, rfl, ⟨hy0, hy1, hy2, hy3⟩, HY, hb5'⟩; have hb5 := undrew hb5'; clear hb5'; have q5 := q0.call hb5; have s5 := s0.call hb5; obtain ⟨c50, c51, c52, c53, c54⟩ := q5)
  | (go_at_call 97; refine (wide_Add _ _ _ _ _ (by omega) (by omega) (by omega) (by omega) (by omega) (by omega) (by omega) (by omega)).mono ?_; rintro e w6 ⟨z0, z1, rfl, ⟨hz0, hz1, hz2, hz3⟩, HZ, hb6⟩; have s6 := s5.call hb6; obtain ⟨d60, d61, d62, d63, d64⟩ := s5.call hb6))
 all_goals
  go_wp2
  refine bodyPost_ret (results_v2 (b := w.heap.size + 1 + 1) (u := .int .u64 z0) (v := .int .u64 z1) ?_ rfl rfl) rfl ?_
  ·exact V2.set s6 _ _
  ·refine ⟨_, _, rfl, ⟨hz0, hz1, hz2, hz3⟩, ?_, by repeat (first | exact bA | with_reducible assumption | apply bB | (refine bC ?_ (by dsimp only; omega)) | apply bD | apply bE | (refine bF ?_ (by assumption)))⟩
   show _ = _
   rw [HZ.out, HY.out, sub_fin]

end Go.Proofs.YtfbfbijkkbflkaaGreatDoor

namespace Go.Proofs.YtfbfbijkkbflkaaGreatDoor
open Go.RowKit
set_option linter.unusedVariables false
set_option maxRecDepth 100000

structure V4 (w : World) (b : Nat) (q0 q1 q2 q3 : Value) : Prop where
 c0 : w.cell? ⟨b, 0, none⟩ = some q0
 c1 : w.cell? ⟨b, 1, none⟩ = some q1
 c2 : w.cell? ⟨b, 2, none⟩ = some q2
 c3 : w.cell? ⟨b, 3, none⟩ = some q3
 f0 : w.frozen? ⟨b, 0, none⟩ = false
 f1 : w.frozen? ⟨b, 1, none⟩ = false
 f2 : w.frozen? ⟨b, 2, none⟩ = false
 f3 : w.frozen? ⟨b, 3, none⟩ = false
 lt : b < w.heap.size

section
variable {w w' : World} {b : Nat} {q0 q1 q2 q3 : Value}
theorem V4.call (h : V4 w b q0 q1 q2 q3) (hb : Below w.heap.size w w') : V4 w' b q0 q1 q2 q3 :=
 ⟨cell_call h.c0 hb, cell_call h.c1 hb, cell_call h.c2 hb, cell_call h.c3 hb, frozen_call h.lt h.f0 hb, frozen_call h.lt h.f1 hb, frozen_call h.lt h.f2 hb, frozen_call h.lt h.f3 hb, Nat.lt_of_lt_of_le h.lt hb.size⟩
theorem V4.alloc (h : V4 w b q0 q1 q2 q3) (o : Obj) : V4 (w.alloc o) b q0 q1 q2 q3 := h.call ((Below.refl _ _).alloc (Nat.le_refl _) o)
theorem V4.drew (h : V4 w b q0 q1 q2 q3) : V4 w.drew b q0 q1 q2 q3 := ⟨h.c0, h.c1, h.c2, h.c3, h.f0, h.f1, h.f2, h.f3, h.lt⟩
theorem V4.new (w : World) (q0 q1 q2 q3 : Value) (t : TypeId) : V4 (w.alloc (.cells #[q0, q1, q2, q3] t)) w.heap.size q0 q1 q2 q3 :=
 ⟨by rw [World.cell?_alloc_at _ _ _ _ rfl]; rfl, by rw [World.cell?_alloc_at _ _ _ _ rfl]; rfl, by rw [World.cell?_alloc_at _ _ _ _ rfl]; rfl, by rw [World.cell?_alloc_at _ _ _ _ rfl]; rfl,
  World.frozen?_alloc_at _ _ _ _ rfl, World.frozen?_alloc_at _ _ _ _ rfl, World.frozen?_alloc_at _ _ _ _ rfl, World.frozen?_alloc_at _ _ _ _ rfl, by simp⟩
theorem V4.far (h : V4 w b q0 q1 q2 q3) {p : Addr} (hp : p.block ≠ b) (x : Value) : V4 (w.setCell p x) b q0 q1 q2 q3 := by
 have hb : (w.setCell p x).heap[b]? = w.heap[b]? := Below.heap_setCell w p x b (fun e => hp e.symm)
 exact ⟨(World.cell?_of_block (w := w) (a := ⟨b, 0, none⟩) hb).trans h.c0, (World.cell?_of_block (w := w) (a := ⟨b, 1, none⟩) hb).trans h.c1, (World.cell?_of_block (w := w) (a := ⟨b, 2, none⟩) hb).trans h.c2, (World.cell?_of_block (w := w) (a := ⟨b, 3, none⟩) hb).trans h.c3,
  (World.frozen?_of_block (w := w) (a := ⟨b, 0, none⟩) hb).trans h.f0, (World.frozen?_of_block (w := w) (a := ⟨b, 1, none⟩) hb).trans h.f1, (World.frozen?_of_block (w := w) (a := ⟨b, 2, none⟩) hb).trans h.f2, (World.frozen?_of_block (w := w) (a := ⟨b, 3, none⟩) hb).trans h.f3, by simpa [World.setCell] using h.lt⟩

theorem cell_same {p : Addr} {v : Value} (h : w.cell? p = some v) (u : Value) : (w.setCell p u).cell? p = some u := World.cell?_setCell_same' _ _ _ (by rw [h]; rfl)
theorem cell_other {b i j : Nat} {v : Value} (h : w.cell? ⟨b, i, none⟩ = some v) (hij : i ≠ j) (u : Value) : (w.setCell ⟨b, j, none⟩ u).cell? ⟨b, i, none⟩ = some v := by
 rw [World.cell?_setCell_other _ _ _ _ (by simp)]
 exact h
theorem frozen_set {p r : Addr} (h : w.frozen? p = false) (u : Value) : (w.setCell r u).frozen? p = false := by simpa [go_sem] using h
theorem lt_set {r : Addr} (h : b < w.heap.size) (u : Value) : b < (w.setCell r u).heap.size := by simpa [World.setCell] using h

theorem V4.put0 (h : V4 w b q0 q1 q2 q3) (u : Value) : V4 (w.setCell ⟨b, 0, none⟩ u) b u q1 q2 q3 :=
 ⟨cell_same h.c0 u, cell_other h.c1 (by omega) u, cell_other h.c2 (by omega) u, cell_other h.c3 (by omega) u, frozen_set h.f0 u, frozen_set h.f1 u, frozen_set h.f2 u, frozen_set h.f3 u, lt_set h.lt u⟩
theorem V4.put1 (h : V4 w b q0 q1 q2 q3) (u : Value) : V4 (w.setCell ⟨b, 1, none⟩ u) b q0 u q2 q3 :=
 ⟨cell_other h.c0 (by omega) u, cell_same h.c1 u, cell_other h.c2 (by omega) u, cell_other h.c3 (by omega) u, frozen_set h.f0 u, frozen_set h.f1 u, frozen_set h.f2 u, frozen_set h.f3 u, lt_set h.lt u⟩
theorem V4.put2 (h : V4 w b q0 q1 q2 q3) (u : Value) : V4 (w.setCell ⟨b, 2, none⟩ u) b q0 q1 u q3 :=
 ⟨cell_other h.c0 (by omega) u, cell_other h.c1 (by omega) u, cell_same h.c2 u, cell_other h.c3 (by omega) u, frozen_set h.f0 u, frozen_set h.f1 u, frozen_set h.f2 u, frozen_set h.f3 u, lt_set h.lt u⟩
theorem V4.put3 (h : V4 w b q0 q1 q2 q3) (u : Value) : V4 (w.setCell ⟨b, 3, none⟩ u) b q0 q1 q2 u :=
 ⟨cell_other h.c0 (by omega) u, cell_other h.c1 (by omega) u, cell_other h.c2 (by omega) u, cell_same h.c3 u, frozen_set h.f0 u, frozen_set h.f1 u, frozen_set h.f2 u, frozen_set h.f3 u, lt_set h.lt u⟩
theorem V4.set (h : V4 w b q0 q1 q2 q3) (u0 u1 u2 u3 : Value) : V4 ((((w.setCell ⟨b, 0, none⟩ u0).setCell ⟨b, 1, none⟩ u1).setCell ⟨b, 2, none⟩ u2).setCell ⟨b, 3, none⟩ u3) b u0 u1 u2 u3 :=
 (((h.put0 u0).put1 u1).put2 u2).put3 u3
end

theorem load_quad {w : World} {b : Nat} {q0 q1 q2 q3 : Value} (h : V4 w b q0 q1 q2 q3) : (loadVar 141 ⟨b, 0, none⟩).run Tryz.prog w = .ok (.agg #[q0, q1, q2, q3]) w := by
 simp [loadVar, go_sem, h.c0, h.c1, h.c2, h.c3]

theorem results_v4 {fn : Func} {p : Tmp} {tmps : Array Value} {w : World} {b : Nat} {q0 q1 q2 q3 : Value} (hv : V4 w b q0 q1 q2 q3) (h : fn.results = #[.cell p 141]) (hp : tmps.getD p undef = .pointer (some ⟨b, 0, none⟩)) :
  (results fn tmps).run Tryz.prog w = .ok (.agg #[q0, q1, q2, q3]) w := by
 have hl := load_quad hv
 rw [Array.getD_eq_getD_getElem?] at hp
 simp only [results, h]
 simp [asAddr, hp, hl]

theorem V4.drewN {w : World} {b : Nat} {q0 q1 q2 q3 : Value} (h : V4 w b q0 q1 q2 q3) (n : Nat) : V4 (w.drewN n) b q0 q1 q2 q3 := ⟨h.c0, h.c1, h.c2, h.c3, h.f0, h.f1, h.f2, h.f3, h.lt⟩

/-! ### sums with what is left over -/
theorem mul64x (x y : Int) (hx0 : 0 ≤ x) (hx : x ≤ 18446744073709551615) (hy0 : 0 ≤ y) (hy : y ≤ 18446744073709551615) :
  ∃ hi lo : Int, (∀ w, Calls Tryz.prog 127 #[.int .u64 x, .int .u64 y] w fun e w' => e = .returned (.tuple #[.int .u64 hi, .int .u64 lo]) ∧ w' = w) ∧
   (0 ≤ hi ∧ hi ≤ 18446744073709551615 ∧ 0 ≤ lo ∧ lo ≤ 18446744073709551615) ∧ Hid (hi * 18446744073709551616 + lo = x * y) := by
 obtain ⟨x, rfl⟩ := Int.eq_ofNat_of_zero_le hx0
 obtain ⟨y, rfl⟩ := Int.eq_ofNat_of_zero_le hy0
 have hm : x * y ≤ 18446744073709551615 * 18446744073709551615 := Nat.mul_le_mul (by omega) (by omega)
 refine ⟨_, _, fun w => (bits_Mul64 x y (by omega) (by omega) w).mono (fun e w' h => ⟨h.1, h.2⟩), ?_, ?_⟩
 ·generalize x * y = z at *
  omega
 ·show _ = _
  rw [← Int.natCast_mul]
  generalize x * y = z at *
  omega


theorem add64x (x y c : Int) (hx0 : 0 ≤ x) (hy0 : 0 ≤ y) (hx : x ≤ 18446744073709551615) (hy : y ≤ 18446744073709551615) (hc0 : 0 ≤ c) (hc : c ≤ 1) :
  ∃ s d : Int, (∀ w, (callFunc 123 #[.int .u64 x, .int .u64 y, .int .u64 c]).run Tryz.prog w = .ok (.value (.tuple #[.int .u64 s, .int .u64 d])) w) ∧
   (0 ≤ s ∧ s ≤ 18446744073709551615 ∧ 0 ≤ d ∧ d ≤ 1) ∧ Hid (s + 18446744073709551616 * d = x + y + c) := by
 refine ⟨(x + y + c) % 18446744073709551616, (x + y + c) / 18446744073709551616, fun w => add64 x y c w hx0 hy0 hx hy hc0 hc, by omega, ?_⟩
 show _ = _
 omega

theorem sub64x (x y c : Int) (hx0 : 0 ≤ x) (hy0 : 0 ≤ y) (hx : x ≤ 18446744073709551615) (hy : y ≤ 18446744073709551615) (hc0 : 0 ≤ c) (hc : c ≤ 1) :
  ∃ s d : Int, (∀ w, (callFunc 143 #[.int .u64 x, .int .u64 y, .int .u64 c]).run Tryz.prog w = .ok (.value (.tuple #[.int .u64 s, .int .u64 d])) w) ∧
   (0 ≤ s ∧ s ≤ 18446744073709551615 ∧ 0 ≤ d ∧ d ≤ 1) ∧ Hid (s - 18446744073709551616 * d = x - y - c) := by
 by_cases h : x - y - c < 0
 ·refine ⟨x - y - c + 18446744073709551616, 1, fun w => ?_, by omega, by show _ = _; omega⟩
  rw [sub64]
  case hx0 => omega
  case hy0 => omega
  case hx => omega
  case hy => omega
  case hb0 => omega
  case hb => omega
  congr 5
  all_goals first | rfl | omega | skip
  all_goals (try simp)
  all_goals (try omega)
 ·refine ⟨x - y - c, 0, fun w => ?_, by omega, by show _ = _; omega⟩
  rw [sub64]
  case hx0 => omega
  case hy0 => omega
  case hx => omega
  case hy => omega
  case hb0 => omega
  case hb => omega
  congr 5
  all_goals first | rfl | omega | skip
  all_goals (try simp)
  all_goals (try omega)

end Go.Proofs.YtfbfbijkkbflkaaGreatDoor

namespace Go.Proofs.YtfbfbijkkbflkaaGreatDoor
open Go.RowKit
set_option linter.unusedVariables false
set_option maxRecDepth 100000

theorem mul_le (a b : Int) (h0 : 0 ≤ a) (h1 : a ≤ 18446744073709551615) (g0 : 0 ≤ b) (g1 : b ≤ 18446744073709551615) : 0 ≤ a * b ∧ a * b ≤ 18446744073709551615 * 18446744073709551615 := by
 refine ⟨Int.mul_nonneg h0 g0, ?_⟩
 have h := Int.mul_le_mul h1 g1 g0 (by omega)
 exact h

def Mid (a b c' d : Int) : Nat → Nat → Int → Int → Int → Int → Int → Prop
 | 0, 0, q0, q1, q2, q3, c => q0 = 0 ∧ q1 = 0 ∧ q2 = 0 ∧ q3 = 0 ∧ c = 0
 | 0, 1, q0, q1, q2, q3, c => q1 = 0 ∧ q2 = 0 ∧ q3 = 0 ∧ q0 + 18446744073709551616 * c = a
 | 0, 2, q0, q1, q2, q3, c => q2 = 0 ∧ q3 = 0 ∧ q0 + 18446744073709551616 * q1 + 340282366920938463463374607431768211456 * c = a + 18446744073709551616 * b
 | 1, 0, q0, q1, q2, q3, c => c = 0 ∧ q3 = 0 ∧ q0 + 18446744073709551616 * q1 + 340282366920938463463374607431768211456 * q2 = a + 18446744073709551616 * b
 | 1, 1, q0, q1, q2, q3, c => q3 = 0 ∧ q0 + 18446744073709551616 * q1 + 340282366920938463463374607431768211456 * (q2 + c) = a + 18446744073709551616 * b + 18446744073709551616 * c'
 | 1, 2, q0, q1, q2, q3, c => q3 = 0 ∧ q0 + 18446744073709551616 * q1 + 340282366920938463463374607431768211456 * q2 + 6277101735386680763835789423207666416102355444464034512896 * c = a + 18446744073709551616 * b + 18446744073709551616 * c' + 340282366920938463463374607431768211456 * d
 | 2, 0, q0, q1, q2, q3, c => q0 + 18446744073709551616 * q1 + 340282366920938463463374607431768211456 * q2 + 6277101735386680763835789423207666416102355444464034512896 * q3 = a + 18446744073709551616 * b + 18446744073709551616 * c' + 340282366920938463463374607431768211456 * d
 | _, _, _, _, _, _, _ => False

theorem mid01 {a b c' d q0 q1 q2 q3 c s h : Int} (m : Mid a b c' d 0 0 q0 q1 q2 q3 c) (u : s + 18446744073709551616 * h = a + q0 + c) : Mid a b c' d 0 1 s q1 q2 q3 h := by
 obtain ⟨m1, m2, m3, m4, m5⟩ := m
 exact ⟨m2, m3, m4, by omega⟩
theorem mid02 {a b c' d q0 q1 q2 q3 c s h : Int} (m : Mid a b c' d 0 1 q0 q1 q2 q3 c) (u : s + 18446744073709551616 * h = b + q1 + c) : Mid a b c' d 0 2 q0 s q2 q3 h := by
 obtain ⟨m1, m2, m3, m4⟩ := m
 exact ⟨m2, m3, by omega⟩
theorem mid10 {a b c' d q0 q1 q2 q3 c : Int} (m : Mid a b c' d 0 2 q0 q1 q2 q3 c) : Mid a b c' d 1 0 q0 q1 c q3 0 := by
 obtain ⟨m1, m2, m3⟩ := m
 exact ⟨rfl, m2, by omega⟩
theorem mid11 {a b c' d q0 q1 q2 q3 c s h : Int} (m : Mid a b c' d 1 0 q0 q1 q2 q3 c) (u : s + 18446744073709551616 * h = c' + q1 + c) : Mid a b c' d 1 1 q0 s q2 q3 h := by
 obtain ⟨m1, m2, m3⟩ := m
 exact ⟨m2, by omega⟩
theorem mid12 {a b c' d q0 q1 q2 q3 c s h : Int} (m : Mid a b c' d 1 1 q0 q1 q2 q3 c) (u : s + 18446744073709551616 * h = d + q2 + c) : Mid a b c' d 1 2 q0 q1 s q3 h := by
 obtain ⟨m1, m2⟩ := m
 exact ⟨m1, by omega⟩
theorem mid20 {a b c' d q0 q1 q2 q3 c : Int} (m : Mid a b c' d 1 2 q0 q1 q2 q3 c) : Mid a b c' d 2 0 q0 q1 q2 c 0 := by
 obtain ⟨m1, m2⟩ := m
 exact m2
theorem mid_end (a0 a1 b0 b1 : Int) {q0 q1 q2 q3 : Int} (m : Mid (a0 * b0) (a0 * b1) (a1 * b0) (a1 * b1) 2 0 q0 q1 q2 q3 0) :
  q0 + 18446744073709551616 * q1 + 340282366920938463463374607431768211456 * q2 + 6277101735386680763835789423207666416102355444464034512896 * q3 = (a0 + 18446744073709551616 * a1) * (b0 + 18446744073709551616 * b1) := by
 have m' : q0 + 18446744073709551616 * q1 + 340282366920938463463374607431768211456 * q2 + 6277101735386680763835789423207666416102355444464034512896 * q3 = a0 * b0 + 18446744073709551616 * (a0 * b1) + 18446744073709551616 * (a1 * b0) + 340282366920938463463374607431768211456 * (a1 * b1) := m
 rw [m', Int.add_mul, Int.mul_add, Int.mul_add, Int.mul_assoc, Int.mul_assoc, Int.mul_left_comm a0 18446744073709551616 b1, Int.mul_left_comm a1 18446744073709551616 b1]
 generalize a0 * b0 = x
 generalize a0 * b1 = y
 generalize a1 * b0 = z
 generalize a1 * b1 = t
 omega

def RetQ (n : Int) (w : World) (e : Ending) (w' : World) : Prop :=
 ∃ q0 q1 q2 q3 : Int, e = .returned (.agg #[.int .u64 q0, .int .u64 q1, .int .u64 q2, .int .u64 q3]) ∧ (0 ≤ q0 ∧ q0 ≤ 18446744073709551615 ∧ 0 ≤ q1 ∧ q1 ≤ 18446744073709551615 ∧ 0 ≤ q2 ∧ q2 ≤ 18446744073709551615 ∧ 0 ≤ q3 ∧ q3 ≤ 18446744073709551615) ∧
  Hid (q0 + 18446744073709551616 * q1 + 340282366920938463463374607431768211456 * q2 + 6277101735386680763835789423207666416102355444464034512896 * q3 = n) ∧ Below w.heap.size w w'

theorem step_in (hi lo o c s1 d1 s2 d2 p : Int) (hm : hi * 18446744073709551616 + lo = p) (hp : p ≤ 18446744073709551615 * 18446744073709551615) (ho : o ≤ 18446744073709551615) (hc : c ≤ 18446744073709551615) (h1 : s1 + 18446744073709551616 * d1 = lo + o + 0) (h2 : s2 + 18446744073709551616 * d2 = s1 + c + 0) (hs : 0 ≤ s2) (hs1 : 0 ≤ s1) (hd : 0 ≤ d2) :
  hi + d1 ≤ 18446744073709551615 ∧ hi + d1 + d2 ≤ 18446744073709551615 ∧ s2 + 18446744073709551616 * (hi + d1 + d2) = p + o + c := by omega

set_option maxHeartbeats 1000000 in
theorem wide_product (a0 a1 b0 b1 : Int) (w : World) (h0 : 0 ≤ a0) (h1 : a0 ≤ 18446744073709551615) (k0 : 0 ≤ a1) (k1 : a1 ≤ 18446744073709551615) (g0 : 0 ≤ b0) (g1 : b0 ≤ 18446744073709551615) (j0 : 0 ≤ b1) (j1 : b1 ≤ 18446744073709551615) :
  Calls Tryz.prog 129 #[.agg #[.int .u64 a0, .int .u64 a1], .agg #[.int .u64 b0, .int .u64 b1]] w (RetQ ((a0 + 18446744073709551616 * a1) * (b0 + 18446744073709551616 * b1)) w) := by
 go_enter Tryz.func129, Tryz.ntmps129
 go_wp2_with fail
 go_loopw [12] (fun i wr => ∃ (ii : Nat) (q0 q1 q2 q3 : Int), ii ≤ 2 ∧ i = .int .i64 ii ∧ V4 wr (w.heap.size + 3) (.int .u64 q0) (.int .u64 q1) (.int .u64 q2) (.int .u64 q3) ∧ V4 wr (w.heap.size + 2) (.int .u64 0) (.int .u64 0) (.int .u64 0) (.int .u64 0) ∧
   V2 wr w.heap.size (.int .u64 a0) (.int .u64 a1) ∧ V2 wr (w.heap.size + 1) (.int .u64 b0) (.int .u64 b1) ∧ Below w.heap.size w wr ∧
   (0 ≤ q0 ∧ q0 ≤ 18446744073709551615 ∧ 0 ≤ q1 ∧ q1 ≤ 18446744073709551615 ∧ 0 ≤ q2 ∧ q2 ≤ 18446744073709551615 ∧ 0 ≤ q3 ∧ q3 ≤ 18446744073709551615) ∧ Hid (Mid (a0 * b0) (a0 * b1) (a1 * b0) (a1 * b1) ii 0 q0 q1 q2 q3 0)) (fun i _ => 2 - (intOf i).toNat)
 case atStart =>
  have e1 := V2.new w (.int .u64 a0) (.int .u64 a1) 36
  have e2 := V2.new (w.alloc (.cells #[.int .u64 a0, .int .u64 a1] 36)) (.int .u64 b0) (.int .u64 b1) 36
  have e3 := V4.new ((w.alloc (.cells #[.int .u64 a0, .int .u64 a1] 36)).alloc (.cells #[.int .u64 b0, .int .u64 b1] 36)) (.int .u64 0) (.int .u64 0) (.int .u64 0) (.int .u64 0) 141
  have e4 := V4.new (((w.alloc (.cells #[.int .u64 a0, .int .u64 a1] 36)).alloc (.cells #[.int .u64 b0, .int .u64 b1] 36)).alloc (.cells #[.int .u64 0, .int .u64 0, .int .u64 0, .int .u64 0] 141)) (.int .u64 0) (.int .u64 0) (.int .u64 0) (.int .u64 0) 141
  simp only [World.size_alloc] at e2 e3 e4
  exact ⟨0, 0, 0, 0, 0, by omega, rfl, e4, e3.alloc _, ((e1.alloc _).alloc _).alloc _, (e2.alloc _).alloc _, by repeat (first | exact bA | with_reducible assumption | apply bB | (refine bC ?_ (by dsimp only; omega)) | apply bD | apply bE | (refine bF ?_ (by assumption))), by omega, ⟨rfl, rfl, rfl, rfl, rfl⟩⟩
 case round =>
  obtain ⟨ii, q0, q1, q2, q3, hii, rfl, hq, hz, ha, hb, hbw, ⟨b1', b2', b3', b4', b5', b6', b7', b8'⟩, HM⟩ := hrel
  by_cases hlt : ii < 2
  ·go_wp2_with fail
   obtain ⟨wo, hwo⟩ : ∃ wo : World, wo = wr := ⟨_, rfl⟩
   subst hwo
   go_loopw [15, 7] (fun k cv wi => ∃ (kk : Nat) (q0 q1 q2 q3 c : Int), kk ≤ 2 ∧ k = .int .i64 kk ∧ cv = .int .u64 c ∧ V4 wi (w.heap.size + 3) (.int .u64 q0) (.int .u64 q1) (.int .u64 q2) (.int .u64 q3) ∧ V4 wi (w.heap.size + 2) (.int .u64 0) (.int .u64 0) (.int .u64 0) (.int .u64 0) ∧
     V2 wi w.heap.size (.int .u64 a0) (.int .u64 a1) ∧ V2 wi (w.heap.size + 1) (.int .u64 b0) (.int .u64 b1) ∧ Below w.heap.size w wi ∧
     (0 ≤ q0 ∧ q0 ≤ 18446744073709551615 ∧ 0 ≤ q1 ∧ q1 ≤ 18446744073709551615 ∧ 0 ≤ q2 ∧ q2 ≤ 18446744073709551615 ∧ 0 ≤ q3 ∧ q3 ≤ 18446744073709551615) ∧ (0 ≤ c ∧ c ≤ 18446744073709551615) ∧ Hid (Mid (a0 * b0) (a0 * b1) (a1 * b0) (a1 * b1) ii kk q0 q1 q2 q3 c)) (fun k _ _ => 2 - (intOf k).toNat)
   case atStart => exact ⟨0, q0, q1, q2, q3, 0, by omega, rfl, rfl, hq, hz, ha, hb, hbw, by omega, by omega, HM⟩
   case round =>
    clear b1' b2' b3' b4' b5' b6' b7' b8' HM hq hz ha hb hbw
    obtain ⟨kk, q0, q1, q2, q3, c, hkk, rfl, rfl, hq, hz, ha, hb, hbw, ⟨b1', b2', b3', b4', b5', b6', b7', b8'⟩, ⟨hc0, hc1⟩, HM⟩ := hrel
    obtain ⟨ca0, ca1, ca2, ca3, ca4⟩ := ha
    obtain ⟨cb0, cb1, cb2, cb3, cb4⟩ := hb
    obtain ⟨cq0, cq1, cq2, cq3, cq4, cq5, cq6, cq7, cq8⟩ := hq
    by_cases hlk : kk < 2
    ·have hcase : (ii = 0 ∧ kk = 0) ∨ (ii = 0 ∧ kk = 1) ∨ (ii = 1 ∧ kk = 0) ∨ (ii = 1 ∧ kk = 1) := by omega
     rcases hcase with ⟨rfl, rfl⟩ | ⟨rfl, rfl⟩ | ⟨rfl, rfl⟩ | ⟨rfl, rfl⟩
     ·obtain ⟨hi, lo, HC, ⟨hh0, hh1, hl0, hl1⟩, HP⟩ := mul64x a0 b0 (by omega) (by omega) (by omega) (by omega)
      obtain ⟨s1, d1, hr1, ⟨hs10, hs11, hd10, hd11⟩, HE1⟩ := add64x lo q0 0 (by omega) (by omega) (by omega) (by omega) (by omega) (by omega)
      obtain ⟨s2, d2, hr2, ⟨hs20, hs21, hd20, hd21⟩, HE2⟩ := add64x s1 c 0 (by omega) (by omega) (by omega) (by omega) (by omega) (by omega)
      obtain ⟨hu1, hu2, hu3⟩ := step_in hi lo q0 c s1 d1 s2 d2 _ HP.out (mul_le a0 b0 (by omega) (by omega) (by omega) (by omega)).2 (by omega) (by omega) HE1.out HE2.out (by omega) (by omega) (by omega)
      have HU := Lib.hid hu3
      clear hu3 HE1 HE2 HP
      go_wp2_with fail
      go_quiet (first | (go_at_call 127; refine Calls.quiet_of_same (HC _)))
      go_wp2_with fail
      go_roundw
      case rel =>
       refine ⟨1, s2, q1, q2, q3, hi + d1 + d2, by omega, by go_num, by go_num, (V4.drewN ⟨cq0, cq1, cq2, cq3, cq4, cq5, cq6, cq7, cq8⟩ _).put0 _, V4.far (hz.drewN _) (by dsimp only; omega) _, V2.setOther (V2.drewN ⟨ca0, ca1, ca2, ca3, ca4⟩ _) (by dsimp only; omega) _, V2.setOther (V2.drewN ⟨cb0, cb1, cb2, cb3, cb4⟩ _) (by dsimp only; omega) _, by repeat (first | exact bA | with_reducible assumption | apply bB | (refine bC ?_ (by dsimp only; omega)) | apply bD | apply bE | (refine bF ?_ (by assumption))), by omega, by omega, ?_⟩
       exact mid01 HM.out HU.out
      case measure => simp [intOf]
     ·obtain ⟨hi, lo, HC, ⟨hh0, hh1, hl0, hl1⟩, HP⟩ := mul64x a0 b1 (by omega) (by omega) (by omega) (by omega)
      obtain ⟨s1, d1, hr1, ⟨hs10, hs11, hd10, hd11⟩, HE1⟩ := add64x lo q1 0 (by omega) (by omega) (by omega) (by omega) (by omega) (by omega)
      obtain ⟨s2, d2, hr2, ⟨hs20, hs21, hd20, hd21⟩, HE2⟩ := add64x s1 c 0 (by omega) (by omega) (by omega) (by omega) (by omega) (by omega)
      obtain ⟨hu1, hu2, hu3⟩ := step_in hi lo q1 c s1 d1 s2 d2 _ HP.out (mul_le a0 b1 (by omega) (by omega) (by omega) (by omega)).2 (by omega) (by omega) HE1.out HE2.out (by omega) (by omega) (by omega)
      have HU := Lib.hid hu3
      clear hu3 HE1 HE2 HP
      go_wp2_with fail
      go_quiet (first | (go_at_call 127; refine Calls.quiet_of_same (HC _)))
      go_wp2_with fail
      go_roundw
      case rel =>
       refine ⟨2, q0, s2, q2, q3, hi + d1 + d2, by omega, by go_num, by go_num, (V4.drewN ⟨cq0, cq1, cq2, cq3, cq4, cq5, cq6, cq7, cq8⟩ _).put1 _, V4.far (hz.drewN _) (by dsimp only; omega) _, V2.setOther (V2.drewN ⟨ca0, ca1, ca2, ca3, ca4⟩ _) (by dsimp only; omega) _, V2.setOther (V2.drewN ⟨cb0, cb1, cb2, cb3, cb4⟩ _) (by dsimp only; omega) _, by repeat (first | exact bA | with_reducible assumption | apply bB | (refine bC ?_ (by dsimp only; omega)) | apply bD | apply bE | (refine bF ?_ (by assumption))), by omega, by omega, ?_⟩
       exact mid02 HM.out HU.out
      case measure => simp [intOf]
     ·obtain ⟨hi, lo, HC, ⟨hh0, hh1, hl0, hl1⟩, HP⟩ := mul64x a1 b0 (by omega) (by omega) (by omega) (by omega)
      obtain ⟨s1, d1, hr1, ⟨hs10, hs11, hd10, hd11⟩, HE1⟩ := add64x lo q1 0 (by omega) (by omega) (by omega) (by omega) (by omega) (by omega)
      obtain ⟨s2, d2, hr2, ⟨hs20, hs21, hd20, hd21⟩, HE2⟩ := add64x s1 c 0 (by omega) (by omega) (by omega) (by omega) (by omega) (by omega)
      obtain ⟨hu1, hu2, hu3⟩ := step_in hi lo q1 c s1 d1 s2 d2 _ HP.out (mul_le a1 b0 (by omega) (by omega) (by omega) (by omega)).2 (by omega) (by omega) HE1.out HE2.out (by omega) (by omega) (by omega)
      have HU := Lib.hid hu3
      clear hu3 HE1 HE2 HP
      go_wp2_with fail
      go_quiet (first | (go_at_call 127; refine Calls.quiet_of_same (HC _)))
      go_wp2_with fail
      go_roundw
      case rel =>
       refine ⟨1, q0, s2, q2, q3, hi + d1 + d2, by omega, by go_num, by go_num, (V4.drewN ⟨cq0, cq1, cq2, cq3, cq4, cq5, cq6, cq7, cq8⟩ _).put1 _, V4.far (hz.drewN _) (by dsimp only; omega) _, V2.setOther (V2.drewN ⟨ca0, ca1, ca2, ca3, ca4⟩ _) (by dsimp only; omega) _, V2.setOther (V2.drewN ⟨cb0, cb1, cb2, cb3, cb4⟩ _) (by dsimp only; omega) _, by repeat (first | exact bA | with_reducible assumption | apply bB | (refine bC ?_ (by dsimp only; omega)) | apply bD | apply bE | (refine bF ?_ (by assumption))), by omega, by omega, ?_⟩
       exact mid11 HM.out HU.out
      case measure => simp [intOf]
     ·obtain ⟨hi, lo, HC, ⟨hh0, hh1, hl0, hl1⟩, HP⟩ := mul64x a1 b1 (by omega) (by omega) (by omega) (by omega)
      obtain ⟨s1, d1, hr1, ⟨hs10, hs11, hd10, hd11⟩, HE1⟩ := add64x lo q2 0 (by omega) (by omega) (by omega) (by omega) (by omega) (by omega)
      obtain ⟨s2, d2, hr2, ⟨hs20, hs21, hd20, hd21⟩, HE2⟩ := add64x s1 c 0 (by omega) (by omega) (by omega) (by omega) (by omega) (by omega)
      obtain ⟨hu1, hu2, hu3⟩ := step_in hi lo q2 c s1 d1 s2 d2 _ HP.out (mul_le a1 b1 (by omega) (by omega) (by omega) (by omega)).2 (by omega) (by omega) HE1.out HE2.out (by omega) (by omega) (by omega)
      have HU := Lib.hid hu3
      clear hu3 HE1 HE2 HP
      go_wp2_with fail
      go_quiet (first | (go_at_call 127; refine Calls.quiet_of_same (HC _)))
      go_wp2_with fail
      go_roundw
      case rel =>
       refine ⟨2, q0, q1, s2, q3, hi + d1 + d2, by omega, by go_num, by go_num, (V4.drewN ⟨cq0, cq1, cq2, cq3, cq4, cq5, cq6, cq7, cq8⟩ _).put2 _, V4.far (hz.drewN _) (by dsimp only; omega) _, V2.setOther (V2.drewN ⟨ca0, ca1, ca2, ca3, ca4⟩ _) (by dsimp only; omega) _, V2.setOther (V2.drewN ⟨cb0, cb1, cb2, cb3, cb4⟩ _) (by dsimp only; omega) _, by repeat (first | exact bA | with_reducible assumption | apply bB | (refine bC ?_ (by dsimp only; omega)) | apply bD | apply bE | (refine bF ?_ (by assumption))), by omega, by omega, ?_⟩
       exact mid12 HM.out HU.out
      case measure => simp [intOf]
    ·obtain rfl : kk = 2 := by omega
     have hcase : ii = 0 ∨ ii = 1 := by omega
     rcases hcase with rfl | rfl
     ·go_wp2_with fail
      go_roundw
      case rel =>
       refine ⟨1, q0, q1, c, q3, by omega, by go_num, V4.put2 ⟨cq0, cq1, cq2, cq3, cq4, cq5, cq6, cq7, cq8⟩ _, V4.far hz (by dsimp only; omega) _, V2.setOther ⟨ca0, ca1, ca2, ca3, ca4⟩ (by dsimp only; omega) _, V2.setOther ⟨cb0, cb1, cb2, cb3, cb4⟩ (by dsimp only; omega) _, by repeat (first | exact bA | with_reducible assumption | apply bB | (refine bC ?_ (by dsimp only; omega)) | apply bD | apply bE | (refine bF ?_ (by assumption))), by omega, ?_⟩
       exact mid10 HM.out
      case measure => simp [intOf]
     ·go_wp2_with fail
      go_roundw
      case rel =>
       refine ⟨2, q0, q1, q2, c, by omega, by go_num, V4.put3 ⟨cq0, cq1, cq2, cq3, cq4, cq5, cq6, cq7, cq8⟩ _, V4.far hz (by dsimp only; omega) _, V2.setOther ⟨ca0, ca1, ca2, ca3, ca4⟩ (by dsimp only; omega) _, V2.setOther ⟨cb0, cb1, cb2, cb3, cb4⟩ (by dsimp only; omega) _, by repeat (first | exact bA | with_reducible assumption | apply bB | (refine bC ?_ (by dsimp only; omega)) | apply bD | apply bE | (refine bF ?_ (by assumption))), by omega, ?_⟩
       exact mid20 HM.out
      case measure => simp [intOf]
  ·obtain rfl : ii = 2 := by omega
   obtain ⟨cz0, cz1, cz2, cz3, cz4, cz5, cz6, cz7, cz8⟩ := hz
   obtain ⟨cq0, cq1, cq2, cq3, cq4, cq5, cq6, cq7, cq8⟩ := hq
   go_wp2_with fail
   refine bodyPost_ret (results_v4 (b := w.heap.size + 2) (q0 := .int .u64 q0) (q1 := .int .u64 q1) (q2 := .int .u64 q2) (q3 := .int .u64 q3) ?_ rfl rfl) rfl ?_
   ·exact V4.set ⟨cz0, cz1, cz2, cz3, cz4, cz5, cz6, cz7, cz8⟩ _ _ _ _
   ·refine ⟨q0, q1, q2, q3, rfl, ⟨b1', b2', b3', b4', b5', b6', b7', b8'⟩, ?_, by repeat (first | exact bA | with_reducible assumption | apply bB | (refine bC ?_ (by dsimp only; omega)) | apply bD | apply bE | (refine bF ?_ (by assumption)))⟩
    exact mid_end a0 a1 b0 b1 HM.out

end Go.Proofs.YtfbfbijkkbflkaaGreatDoor
