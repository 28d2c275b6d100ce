/-
  A variable of four cells (a number of 256 bits), and the sums of the machine with what is left over.
-/
import Derived.Test.YtgambjmjbmdciaaWide4
namespace Go.Proofs.Ytgambjmjbmdciaa
open Go.RowKit
set_option linter.unusedVariables false
set_option maxRecDepth 100000

structure V4 (w : World) (b : Nat) (q0 q1 q2 q3 : Value) : Prop where
  c0 : w.cell? ⟨b, 0, none⟩ = some q0
  c1 : w.cell? ⟨b, 1, none⟩ = some q1
  c2 : w.cell? ⟨b, 2, none⟩ = some q2
  c3 : w.cell? ⟨b, 3, none⟩ = some q3
  f0 : w.frozen? ⟨b, 0, none⟩ = false
  f1 : w.frozen? ⟨b, 1, none⟩ = false
  f2 : w.frozen? ⟨b, 2, none⟩ = false
  f3 : w.frozen? ⟨b, 3, none⟩ = false
  lt : b < w.heap.size

section
variable {w w' : World} {b : Nat} {q0 q1 q2 q3 : Value}
theorem V4.call (h : V4 w b q0 q1 q2 q3) (hb : Below w.heap.size w w') : V4 w' b q0 q1 q2 q3 :=
  ⟨cell_call h.c0 hb, cell_call h.c1 hb, cell_call h.c2 hb, cell_call h.c3 hb, frozen_call h.lt h.f0 hb, frozen_call h.lt h.f1 hb, frozen_call h.lt h.f2 hb, frozen_call h.lt h.f3 hb, Nat.lt_of_lt_of_le h.lt hb.size⟩
theorem V4.alloc (h : V4 w b q0 q1 q2 q3) (o : Obj) : V4 (w.alloc o) b q0 q1 q2 q3 := h.call ((Below.refl _ _).alloc (Nat.le_refl _) o)
theorem V4.drew (h : V4 w b q0 q1 q2 q3) : V4 w.drew b q0 q1 q2 q3 := ⟨h.c0, h.c1, h.c2, h.c3, h.f0, h.f1, h.f2, h.f3, h.lt⟩
theorem V4.new (w : World) (q0 q1 q2 q3 : Value) (t : TypeId) : V4 (w.alloc (.cells #[q0, q1, q2, q3] t)) w.heap.size q0 q1 q2 q3 :=
  ⟨by rw [World.cell?_alloc_at _ _ _ _ rfl]; rfl, by rw [World.cell?_alloc_at _ _ _ _ rfl]; rfl, by rw [World.cell?_alloc_at _ _ _ _ rfl]; rfl, by rw [World.cell?_alloc_at _ _ _ _ rfl]; rfl,
    World.frozen?_alloc_at _ _ _ _ rfl, World.frozen?_alloc_at _ _ _ _ rfl, World.frozen?_alloc_at _ _ _ _ rfl, World.frozen?_alloc_at _ _ _ _ rfl, by simp⟩
theorem V4.far (h : V4 w b q0 q1 q2 q3) {p : Addr} (hp : p.block ≠ b) (x : Value) : V4 (w.setCell p x) b q0 q1 q2 q3 := by
  have hb : (w.setCell p x).heap[b]? = w.heap[b]? := Below.heap_setCell w p x b (fun e => hp e.symm)
  exact ⟨(World.cell?_of_block (w := w) (a := ⟨b, 0, none⟩) hb).trans h.c0, (World.cell?_of_block (w := w) (a := ⟨b, 1, none⟩) hb).trans h.c1, (World.cell?_of_block (w := w) (a := ⟨b, 2, none⟩) hb).trans h.c2, (World.cell?_of_block (w := w) (a := ⟨b, 3, none⟩) hb).trans h.c3,
    (World.frozen?_of_block (w := w) (a := ⟨b, 0, none⟩) hb).trans h.f0, (World.frozen?_of_block (w := w) (a := ⟨b, 1, none⟩) hb).trans h.f1, (World.frozen?_of_block (w := w) (a := ⟨b, 2, none⟩) hb).trans h.f2, (World.frozen?_of_block (w := w) (a := ⟨b, 3, none⟩) hb).trans h.f3, by simpa [World.setCell] using h.lt⟩

theorem cell_same {p : Addr} {v : Value} (h : w.cell? p = some v) (u : Value) : (w.setCell p u).cell? p = some u := World.cell?_setCell_same' _ _ _ (by rw [h]; rfl)
theorem cell_other {b i j : Nat} {v : Value} (h : w.cell? ⟨b, i, none⟩ = some v) (hij : i ≠ j) (u : Value) : (w.setCell ⟨b, j, none⟩ u).cell? ⟨b, i, none⟩ = some v := by
  rw [World.cell?_setCell_other _ _ _ _ (by simp)]
  exact h
theorem frozen_set {p r : Addr} (h : w.frozen? p = false) (u : Value) : (w.setCell r u).frozen? p = false := by simpa [go_sem] using h
theorem lt_set {r : Addr} (h : b < w.heap.size) (u : Value) : b < (w.setCell r u).heap.size := by simpa [World.setCell] using h

theorem V4.put0 (h : V4 w b q0 q1 q2 q3) (u : Value) : V4 (w.setCell ⟨b, 0, none⟩ u) b u q1 q2 q3 :=
  ⟨cell_same h.c0 u, cell_other h.c1 (by omega) u, cell_other h.c2 (by omega) u, cell_other h.c3 (by omega) u, frozen_set h.f0 u, frozen_set h.f1 u, frozen_set h.f2 u, frozen_set h.f3 u, lt_set h.lt u⟩
theorem V4.put1 (h : V4 w b q0 q1 q2 q3) (u : Value) : V4 (w.setCell ⟨b, 1, none⟩ u) b q0 u q2 q3 :=
  ⟨cell_other h.c0 (by omega) u, cell_same h.c1 u, cell_other h.c2 (by omega) u, cell_other h.c3 (by omega) u, frozen_set h.f0 u, frozen_set h.f1 u, frozen_set h.f2 u, frozen_set h.f3 u, lt_set h.lt u⟩
theorem V4.put2 (h : V4 w b q0 q1 q2 q3) (u : Value) : V4 (w.setCell ⟨b, 2, none⟩ u) b q0 q1 u q3 :=
  ⟨cell_other h.c0 (by omega) u, cell_other h.c1 (by omega) u, cell_same h.c2 u, cell_other h.c3 (by omega) u, frozen_set h.f0 u, frozen_set h.f1 u, frozen_set h.f2 u, frozen_set h.f3 u, lt_set h.lt u⟩
theorem V4.put3 (h : V4 w b q0 q1 q2 q3) (u : Value) : V4 (w.setCell ⟨b, 3, none⟩ u) b q0 q1 q2 u :=
  ⟨cell_other h.c0 (by omega) u, cell_other h.c1 (by omega) u, cell_other h.c2 (by omega) u, cell_same h.c3 u, frozen_set h.f0 u, frozen_set h.f1 u, frozen_set h.f2 u, frozen_set h.f3 u, lt_set h.lt u⟩
theorem V4.set (h : V4 w b q0 q1 q2 q3) (u0 u1 u2 u3 : Value) : V4 ((((w.setCell ⟨b, 0, none⟩ u0).setCell ⟨b, 1, none⟩ u1).setCell ⟨b, 2, none⟩ u2).setCell ⟨b, 3, none⟩ u3) b u0 u1 u2 u3 :=
  (((h.put0 u0).put1 u1).put2 u2).put3 u3
end

theorem load_quad {w : World} {b : Nat} {q0 q1 q2 q3 : Value} (h : V4 w b q0 q1 q2 q3) : (loadVar 206 ⟨b, 0, none⟩).run Try.prog w = .ok (.agg #[q0, q1, q2, q3]) w := by
  simp [loadVar, go_sem, h.c0, h.c1, h.c2, h.c3]

theorem results_v4 {fn : Func} {p : Tmp} {tmps : Array Value} {w : World} {b : Nat} {q0 q1 q2 q3 : Value} (hv : V4 w b q0 q1 q2 q3) (h : fn.results = #[.cell p 206]) (hp : tmps.getD p undef = .pointer (some ⟨b, 0, none⟩)) :
    (results fn tmps).run Try.prog w = .ok (.agg #[q0, q1, q2, q3]) w := by
  have hl := load_quad hv
  rw [Array.getD_eq_getD_getElem?] at hp
  simp only [results, h]
  simp [asAddr, hp, hl]

theorem V4.drewN {w : World} {b : Nat} {q0 q1 q2 q3 : Value} (h : V4 w b q0 q1 q2 q3) (n : Nat) : V4 (w.drewN n) b q0 q1 q2 q3 := ⟨h.c0, h.c1, h.c2, h.c3, h.f0, h.f1, h.f2, h.f3, h.lt⟩

/-! ### sums with what is left over -/
theorem mul64x (x y : Int) (hx0 : 0 ≤ x) (hx : x ≤ 18446744073709551615) (hy0 : 0 ≤ y) (hy : y ≤ 18446744073709551615) :
    ∃ hi lo : Int, (∀ w, Calls Try.prog 173 #[.int .u64 x, .int .u64 y] w fun e w' => e = .returned (.tuple #[.int .u64 hi, .int .u64 lo]) ∧ w' = w) ∧
      (0 ≤ hi ∧ hi ≤ 18446744073709551615 ∧ 0 ≤ lo ∧ lo ≤ 18446744073709551615) ∧ Hid (hi * 18446744073709551616 + lo = x * y) := by
  obtain ⟨x, rfl⟩ := Int.eq_ofNat_of_zero_le hx0
  obtain ⟨y, rfl⟩ := Int.eq_ofNat_of_zero_le hy0
  have hm : x * y ≤ 18446744073709551615 * 18446744073709551615 := Nat.mul_le_mul (by omega) (by omega)
  refine ⟨_, _, fun w => (bits_Mul64 x y (by omega) (by omega) w).mono (fun e w' h => ⟨h.1, h.2⟩), ?_, ?_⟩
  · generalize x * y = z at *
    omega
  · show _ = _
    rw [← Int.natCast_mul]
    generalize x * y = z at *
    omega


theorem add64x (x y c : Int) (hx0 : 0 ≤ x) (hy0 : 0 ≤ y) (hx : x ≤ 18446744073709551615) (hy : y ≤ 18446744073709551615) (hc0 : 0 ≤ c) (hc : c ≤ 1) :
    ∃ s d : Int, (∀ w, (callFunc 155 #[.int .u64 x, .int .u64 y, .int .u64 c]).run Try.prog w = .ok (.value (.tuple #[.int .u64 s, .int .u64 d])) w) ∧
      (0 ≤ s ∧ s ≤ 18446744073709551615 ∧ 0 ≤ d ∧ d ≤ 1) ∧ Hid (s + 18446744073709551616 * d = x + y + c) := by
  refine ⟨(x + y + c) % 18446744073709551616, (x + y + c) / 18446744073709551616, fun w => add64 x y c w hx0 hy0 hx hy hc0 hc, by omega, ?_⟩
  show _ = _
  omega

theorem sub64x (x y c : Int) (hx0 : 0 ≤ x) (hy0 : 0 ≤ y) (hx : x ≤ 18446744073709551615) (hy : y ≤ 18446744073709551615) (hc0 : 0 ≤ c) (hc : c ≤ 1) :
    ∃ s d : Int, (∀ w, (callFunc 179 #[.int .u64 x, .int .u64 y, .int .u64 c]).run Try.prog w = .ok (.value (.tuple #[.int .u64 s, .int .u64 d])) w) ∧
      (0 ≤ s ∧ s ≤ 18446744073709551615 ∧ 0 ≤ d ∧ d ≤ 1) ∧ Hid (s - 18446744073709551616 * d = x - y - c) := by
  by_cases h : x - y - c < 0
  · refine ⟨x - y - c + 18446744073709551616, 1, fun w => ?_, by omega, by show _ = _; omega⟩
    rw [sub64]
    case hx0 => omega
    case hy0 => omega
    case hx => omega
    case hy => omega
    case hb0 => omega
    case hb => omega
    congr 5
    all_goals first | rfl | omega | skip
    all_goals (try simp)
    all_goals (try omega)
  · refine ⟨x - y - c, 0, fun w => ?_, by omega, by show _ = _; omega⟩
    rw [sub64]
    case hx0 => omega
    case hy0 => omega
    case hx => omega
    case hy => omega
    case hb0 => omega
    case hb => omega
    congr 5
    all_goals first | rfl | omega | skip
    all_goals (try simp)
    all_goals (try omega)

end Go.Proofs.Ytgambjmjbmdciaa
