/-
 Slice, Slice2, RefA, Field, Pair, Append, Some: what the statements of this layer share.
-/
import Derived.Maps.AppendAt
import Derived.Test.YtfbfbijkkbflkaaGreatDoorMad
namespace Go.Proofs.YtfbfbijkkbflkaaGreatDoor
open Go.RowKit Fm
set_option linter.unusedVariables false
set_option maxRecDepth 100000

def RowE (w : World) (b o : Nat) (xs : List E) : Prop :=
 ∀ (i : Nat) (e : E), xs[i]? = some e → w.cell? ⟨b, o + i * 2, none⟩ = some (.int .u64 e.1) ∧ w.cell? ⟨b, o + i * 2 + 1, none⟩ = some (.int .u64 e.2)

structure SlE (w : World) (B : Nat) (v : Value) (xs : List E) : Prop where
 ex : ∃ (A : Option Addr) (c : Nat), v = .slice A xs.length c ∧ xs.length ≤ c ∧ c ≤ 9223372036854775807 ∧ (0 < xs.length → ∃ b o, A = some ⟨b, o, none⟩ ∧ b < B ∧ RowE w b o xs)
 ok : ∀ e, e ∈ xs → okE e

theorem RowE.call {w w' : World} {b o : Nat} {xs : List E} (h : RowE w b o xs) (hb : Below w.heap.size w w') : RowE w' b o xs :=
 fun i e hi => ⟨cell_call (h i e hi).1 hb, cell_call (h i e hi).2 hb⟩
theorem RowE.below {w w' : World} {B b o : Nat} {xs : List E} (h : RowE w b o xs) (hb : Below B w w') (hB : b < B) : RowE w' b o xs :=
 fun i e hi => ⟨(hb.cell (p := ⟨b, o + i * 2, none⟩) hB).trans (h i e hi).1, (hb.cell (p := ⟨b, o + i * 2 + 1, none⟩) hB).trans (h i e hi).2⟩
theorem SlE.below {w w' : World} {B : Nat} {v : Value} {xs : List E} (h : SlE w B v xs) (hb : Below B w w') : SlE w' B v xs := by
 obtain ⟨⟨A, c, hv, h1, h2, h3⟩, ok⟩ := h
 exact ⟨⟨A, c, hv, h1, h2, fun hn => let ⟨b, o, hA, hB, hr⟩ := h3 hn; ⟨b, o, hA, hB, hr.below hb hB⟩⟩, ok⟩
theorem SlE.mono {w : World} {B B' : Nat} {v : Value} {xs : List E} (h : SlE w B v xs) (hB : B ≤ B') : SlE w B' v xs := by
 obtain ⟨⟨A, c, hv, h1, h2, h3⟩, ok⟩ := h
 exact ⟨⟨A, c, hv, h1, h2, fun hn => let ⟨b, o, hA, hb, hr⟩ := h3 hn; ⟨b, o, hA, Nat.lt_of_lt_of_le hb hB, hr⟩⟩, ok⟩
theorem SlE.nil (w : World) (B : Nat) : SlE w B (.slice none 0 0) [] := ⟨⟨none, 0, rfl, Nat.le_refl _, by simp, fun h => absurd h (by simp)⟩, fun _ h => by cases h⟩

end Go.Proofs.YtfbfbijkkbflkaaGreatDoor

namespace Go.Proofs.YtfbfbijkkbflkaaGreatDoor
open Go.RowKit Fm
set_option linter.unusedVariables false
set_option maxRecDepth 100000

def cellsE : List E → List Value
 | [] => []
 | e :: l => .int .u64 e.1 :: .int .u64 e.2 :: cellsE l

theorem length_cellsE : ∀ xs : List E, (cellsE xs).length = xs.length * 2
 | [] => rfl
 | e :: l => by simp only [cellsE, List.length_cons, length_cellsE l]; omega

theorem cellsE_at : ∀ (xs : List E) (i : Nat) (e : E), xs[i]? = some e → (cellsE xs)[i * 2]? = some (.int .u64 e.1) ∧ (cellsE xs)[i * 2 + 1]? = some (.int .u64 e.2)
 | [], i, e, h => by simp at h
 | x :: l, 0, e, h => by
  simp only [List.getElem?_cons_zero, Option.some.injEq] at h
  subst h
  exact ⟨rfl, rfl⟩
 | x :: l, i + 1, e, h => by
  have ih := cellsE_at l i e (by simpa using h)
  rw [show (i + 1) * 2 = i * 2 + 1 + 1 from by omega]
  simpa only [cellsE, List.getElem?_cons_succ] using ih

theorem cellsE_set : ∀ (xs : List E) (i : Nat) (a b : Int), ((cellsE xs).set (i * 2) (.int .u64 a)).set (i * 2 + 1) (.int .u64 b) = cellsE (xs.set i (a, b))
 | [], i, a, b => by simp [cellsE]
 | x :: l, 0, a, b => by simp [cellsE]
 | x :: l, i + 1, a, b => by
  rw [show (i + 1) * 2 = i * 2 + 1 + 1 from by omega]
  simp only [cellsE, List.set_cons_succ, cellsE_set l i a b]

theorem cellsE_replicate (n : Nat) : cellsE (List.replicate n (0, 0)) = List.replicate (n * 2) (.int .u64 0) := by
 induction n with
 | zero => rfl
 | succ n ih => rw [List.replicate_succ, cellsE, ih, show (n + 1) * 2 = n * 2 + 1 + 1 from by omega, List.replicate_succ, List.replicate_succ]

theorem cellsE_append (xs ys : List E) : cellsE (xs ++ ys) = cellsE xs ++ cellsE ys := by
 induction xs with
 | nil => rfl
 | cons x l ih => simp only [List.cons_append, cellsE, ih]

def BlkE (w : World) (g : Nat) (xs : List E) : Prop := w.heap[g]? = some (.cells (cellsE xs).toArray 36 (0, 0))

section
variable {w w' : World} {g : Nat} {xs : List E}
theorem BlkE.lt (h : BlkE w g xs) : g < w.heap.size := by
 rcases Nat.lt_or_ge g w.heap.size with hlt | hge
 ·exact hlt
 ·unfold BlkE at h
  rw [Array.getElem?_eq_none hge] at h
  cases h
theorem BlkE.cell (h : BlkE w g xs) (i : Nat) : w.cell? ⟨g, i, none⟩ = (cellsE xs)[i]? := by
 rw [cell_of_row w g i _ _ (0, 0) h]
 simp
theorem BlkE.row (h : BlkE w g xs) (i : Nat) (e : E) (hi : xs[i]? = some e) : w.cell? ⟨g, i * 2, none⟩ = some (.int .u64 e.1) ∧ w.cell? ⟨g, i * 2 + 1, none⟩ = some (.int .u64 e.2) := by
 rw [h.cell, h.cell]
 exact cellsE_at xs i e hi
theorem BlkE.rowE (h : BlkE w g xs) : RowE w g 0 xs := fun i e hi => by
 rw [Nat.zero_add]
 exact h.row i e hi
theorem BlkE.frozen (h : BlkE w g xs) (i : Nat) : w.frozen? ⟨g, i, none⟩ = false := by
 unfold BlkE at h
 simp [World.frozen?, h]
theorem BlkE.drew (h : BlkE w g xs) : BlkE w.drew g xs := h
theorem BlkE.call (h : BlkE w g xs) (hb : Below w.heap.size w w') : BlkE w' g xs := (hb.block g h.lt).trans h
theorem BlkE.below {B : Nat} (h : BlkE w g xs) (hb : Below B w w') (hB : g < B) : BlkE w' g xs := (hb.block g hB).trans h
theorem BlkE.alloc (h : BlkE w g xs) (o : Obj) : BlkE (w.alloc o) g xs := (Below.heap_alloc w o g h.lt).trans h
theorem BlkE.far (h : BlkE w g xs) {p : Addr} (hp : g ≠ p.block) (u : Value) : BlkE (w.setCell p u) g xs := (Below.heap_setCell w p u g hp).trans h
theorem BlkE.set (h : BlkE w g xs) (k : Nat) (a b : Int) : BlkE ((w.setCell ⟨g, k * 2, none⟩ (.int .u64 a)).setCell ⟨g, k * 2 + 1, none⟩ (.int .u64 b)) g (xs.set k (a, b)) := by
 have h1 := heap_setCell_same w g (k * 2) _ _ (.int .u64 a) h
 have h2 := heap_setCell_same _ g (k * 2 + 1) _ _ (.int .u64 b) h1
 unfold BlkE
 rw [h2]
 simp only [List.setIfInBounds_toArray, cellsE_set]
theorem BlkE.sl (h : BlkE w g xs) (hn : xs.length ≤ 9223372036854775807) (ok : ∀ e, e ∈ xs → okE e) {B : Nat} (hB : g < B) : SlE w B (.slice (some ⟨g, 0, none⟩) xs.length xs.length) xs :=
 ⟨⟨some ⟨g, 0, none⟩, xs.length, rfl, Nat.le_refl _, hn, fun _ => ⟨g, 0, rfl, hB, h.rowE⟩⟩, ok⟩
end

theorem info_elem : (Tryz.prog.info? 36).map (fun i => (i.zero, i.size, i.bytes)) = some (some (.agg #[.int .u64 0, .int .u64 0]), 2, 16) := by kernel_rfl

theorem madeCells_elem (n : Nat) : madeCells #[.int .u64 0, .int .u64 0] (n * 2) = (cellsE (List.replicate n (0, 0))).toArray := by
 rw [cellsE_replicate]
 apply Array.ext
 ·simp [madeCells]
 ·intro i h1 h2
  simp only [madeCells, Array.getElem_map, Array.getElem_range]
  have h3 : i % 2 = 0 ∨ i % 2 = 1 := by omega
  simp only [List.getElem_toArray, List.getElem_replicate]
  rcases h3 with h3 | h3 <;> simp [h3]

theorem make_elem (n : Nat) (hn : n ≤ 1099511627776) (w : World) :
  (Instr.makeSlice 24 (.int .i64 (n : Int)) (.int .i64 (n : Int))).run Tryz.prog w = .ok (.slice (some ⟨w.heap.size, 0, none⟩) n n) (w.alloc (.cells (cellsE (List.replicate n (0, 0))).toArray 36)) := by
 obtain ⟨i, hi, hz, h1, h2⟩ := info_parts info_elem
 have hr := run_make (P := Tryz.prog) w 24 36 i _ Tryz.underlying24 hi hz .i64 .i64 n n (by omega) (by omega) (by rw [h2]; omega) (by omega)
 rw [hr, h1]
 simp only [Int.toNat_natCast, Value.cells, madeCells_elem]

end Go.Proofs.YtfbfbijkkbflkaaGreatDoor

namespace Go.Proofs.YtfbfbijkkbflkaaGreatDoor
open Go.RowKit Fm
set_option linter.unusedVariables false
set_option maxRecDepth 100000

structure RefM (f m p0 p1 : Int) : Prop where
 or : (f = 1 ∧ p0 = 18446744069414584321 ∧ p1 = 0 ∧ m = 18446744069414584321) ∨ (f ≠ 1 ∧ p0 = 1 ∧ p1 = 18446744073709551588 ∧ m = 340282366920938462946865773367900766209)

theorem ref_P (f m p0 p1 : Int) (w : World) (hm : RefM f m p0 p1) :
  Calls Tryz.prog 91 #[.int .i64 f] w fun e w' => e = .returned (.agg #[.int .u64 p0, .int .u64 p1]) ∧ Below w.heap.size w w' := by
 rcases hm.or with ⟨rfl, rfl, rfl, rfl⟩ | ⟨hf, rfl, rfl, rfl⟩
 ·go_enter Tryz.func91, Tryz.ntmps91
  go_wp2
  refine bodyPost_ret (results_v2 (b := w.heap.size) (u := .int .u64 18446744069414584321) (v := .int .u64 0) ?_ rfl rfl) rfl ?_
  ·exact V2.new w _ _ _
  ·exact ⟨rfl, by repeat (first | exact bA | with_reducible assumption | apply bB | (refine bC ?_ (by dsimp only; omega)) | apply bD | apply bE | (refine bF ?_ (by assumption)))⟩
 ·have hb : (f == 1) = false := by simp; omega
  go_enter Tryz.func91, Tryz.ntmps91
  go_wp2
  refine bodyPost_ret (results_v2 (b := w.heap.size) (u := .int .u64 1) (v := .int .u64 18446744073709551588) ?_ rfl rfl) rfl ?_
  ·exact V2.new w _ _ _
  ·exact ⟨rfl, by repeat (first | exact bA | with_reducible assumption | apply bB | (refine bC ?_ (by dsimp only; omega)) | apply bD | apply bE | (refine bF ?_ (by assumption)))⟩

theorem ref_Less (a0 a1 b0 b1 : Int) (w : World) (h0 : 0 ≤ a0) (h1 : a0 ≤ 18446744073709551615) (g0 : 0 ≤ b0) (g1 : b0 ≤ 18446744073709551615) :
  Calls Tryz.prog 90 #[.agg #[.int .u64 a0, .int .u64 a1], .agg #[.int .u64 b0, .int .u64 b1]] w fun e w' => e = .returned (.bool (decide (a0 + 18446744073709551616 * a1 < b0 + 18446744073709551616 * b1))) ∧ Below w.heap.size w w' := by
 by_cases h : a1 = b1
 ·subst h
  have ht : decide (a0 + 18446744073709551616 * a1 < b0 + 18446744073709551616 * a1) = decide (a0 < b0) := by congr 1; simp
  rw [ht]
  clear ht
  go_enter Tryz.func90, Tryz.ntmps90
  go_wp2
  all_goals go_ret
  all_goals exact ⟨rfl, by repeat (first | exact bA | with_reducible assumption | apply bB | (refine bC ?_ (by dsimp only; omega)) | apply bD | apply bE | (refine bF ?_ (by assumption)))⟩
 ·have hne : (a1 == b1) = false := by simp; omega
  have hne2 : (a1 != b1) = true := by simp; omega
  have ht : decide (a0 + 18446744073709551616 * a1 < b0 + 18446744073709551616 * b1) = decide (a1 < b1) := by congr 1; simp; omega
  rw [ht]
  clear ht
  go_enter Tryz.func90, Tryz.ntmps90
  go_wp2
  all_goals go_ret
  all_goals exact ⟨rfl, by repeat (first | exact bA | with_reducible assumption | apply bB | (refine bC ?_ (by dsimp only; omega)) | apply bD | apply bE | (refine bF ?_ (by assumption)))⟩

set_option maxHeartbeats 1000000 in
theorem ref_take (a0 a1 b0 b1 : Int) (w : World) (h0 : 0 ≤ a0) (h1 : a0 ≤ 18446744073709551615) (g0 : 0 ≤ b0) (g1 : b0 ≤ 18446744073709551615)
     (k0 : 0 ≤ a1) (k1 : a1 ≤ 18446744073709551615) (j0 : 0 ≤ b1) (j1 : b1 ≤ 18446744073709551615) :
  Calls Tryz.prog 92 #[.agg #[.int .u64 a0, .int .u64 a1], .agg #[.int .u64 b0, .int .u64 b1]] w
   (RetE ((a0 + 18446744073709551616 * a1 - (b0 + 18446744073709551616 * b1)) % 340282366920938463463374607431768211456) w) := by
 by_cases hlt : a0 < b0
 ·go_enter Tryz.func92, Tryz.ntmps92
  go_wp2
  refine bodyPost_ret (by simp [results, Tryz.results92, go_sem]; rfl) rfl ?_
  refine ⟨_, _, rfl, ?_, ?_, by repeat (first | exact bA | with_reducible assumption | apply bB | (refine bC ?_ (by dsimp only; omega)) | apply bD | apply bE | (refine bF ?_ (by assumption)))⟩
  ·simp only [IntKind.wrap_u64]; omega
  ·show _ = _
   simp only [IntKind.wrap_u64]; omega
 ·go_enter Tryz.func92, Tryz.ntmps92
  go_wp2
  refine bodyPost_ret (by simp [results, Tryz.results92, go_sem]; rfl) rfl ?_
  refine ⟨_, _, rfl, ?_, ?_, by repeat (first | exact bA | with_reducible assumption | apply bB | (refine bC ?_ (by dsimp only; omega)) | apply bD | apply bE | (refine bF ?_ (by assumption)))⟩
  ·simp only [IntKind.wrap_u64]; omega
  ·show _ = _
   simp only [IntKind.wrap_u64]; omega

def nI (f a0 a1 : Int) : Int := if f = 1 then a0 else a0 + 18446744073709551616 * a1

structure OfMid (f m a0 a1 : Int) (w wx : World) : Prop where
 ex : ∃ x0 x1 : Int, V2 wx w.heap.size (.int .u64 x0) (.int .u64 x1) ∧ (0 ≤ x0 ∧ x0 ≤ 18446744073709551615 ∧ 0 ≤ x1 ∧ x1 ≤ 18446744073709551615) ∧ Hid (x0 + 18446744073709551616 * x1 = nI f a0 a1) ∧ x0 + 18446744073709551616 * x1 < m + m
 res : V2 wx (w.heap.size + 1) (.int .u64 0) (.int .u64 0)
 below : Below w.heap.size w wx

set_option maxHeartbeats 2000000 in
theorem ref_Of (f m p0 p1 a0 a1 : Int) (w : World) (hm : RefM f m p0 p1) (h0 : 0 ≤ a0) (h1 : a0 ≤ 18446744073709551615) (k0 : 0 ≤ a1) (k1 : a1 ≤ 18446744073709551615) :
  Calls Tryz.prog 44 #[.int .i64 f, .agg #[.int .u64 a0, .int .u64 a1]] w (RetE (nI f a0 a1 % m) w) := by
 have hp : 0 ≤ p0 ∧ p0 ≤ 18446744073709551615 ∧ 0 ≤ p1 ∧ p1 ≤ 18446744073709551615 ∧ m = p0 + 18446744073709551616 * p1 := by
  rcases hm.or with ⟨_, rfl, rfl, rfl⟩ | ⟨_, rfl, rfl, rfl⟩ <;> omega
 obtain ⟨hp0, hp1, hp2, hp3, hpm'⟩ := hp
 have HPM := Lib.hid hpm'
 clear hpm'
 go_enter Tryz.func44, Tryz.ntmps44
 go_upto_if 6 with fail
 go_cut [] (fun wx => OfMid f m a0 a1 w wx)
 case first =>
  have q0 := (V2.new w (.int .u64 a0) (.int .u64 a1) 36).alloc (.cells #[.int .u64 0, .int .u64 0] 36)
  have s0 := V2.new (w.alloc (.cells #[.int .u64 a0, .int .u64 a1] 36)) (.int .u64 0) (.int .u64 0) 36
  simp only [World.size_alloc] at s0
  rcases hm.or with ⟨rfl, rfl, rfl, rfl⟩ | ⟨hf, rfl, rfl, rfl⟩
  ·go_wp2
   go_meet
   refine ⟨⟨a0, 0, (V2.new w (.int .u64 a0) (.int .u64 0) 36).alloc (.cells #[.int .u64 0, .int .u64 0] 36), by omega, by show _ = _; unfold nI; rw [if_pos rfl]; omega, by omega⟩, ?_, by repeat (first | exact bA | with_reducible assumption | apply bB | (refine bC ?_ (by dsimp only; omega)) | apply bD | apply bE | (refine bF ?_ (by assumption)))⟩
   have s1 := V2.new (w.alloc (.cells #[.int .u64 a0, .int .u64 0] 36)) (.int .u64 0) (.int .u64 0) 36
   simpa only [World.size_alloc] using s1
  ·have hb : (f == 1) = false := by simp; omega
   go_wp2
   go_meet
   exact ⟨⟨a0, a1, q0, by omega, by show _ = _; unfold nI; rw [if_neg hf], by omega⟩, s0, by repeat (first | exact bA | with_reducible assumption | apply bB | (refine bC ?_ (by dsimp only; omega)) | apply bD | apply bE | (refine bF ?_ (by assumption)))⟩
 case rest =>
  obtain ⟨⟨x0, x1, q1, ⟨hx0, hx1, hx2, hx3⟩, HX, hxm⟩, s1, hb0⟩ := hcut
  have hxm' : x0 + 18446744073709551616 * x1 < p0 + 18446744073709551616 * p1 + (p0 + 18446744073709551616 * p1) := by have := HPM.out; omega
  clear hxm
  have hq := q1
  obtain ⟨c10, c11, c12, c13, c14⟩ := hq
  by_cases hlt : x0 + 18446744073709551616 * x1 < p0 + 18446744073709551616 * p1
  ·have hd : decide (x0 + 18446744073709551616 * x1 < p0 + 18446744073709551616 * p1) = true := by simp; omega
   go_wp2_with fail
   go_region_with (first
    | (go_at_call 91; refine (ref_P f m p0 p1 _ hm).mono ?_; rintro e w2 ⟨rfl, hb2'⟩; have hb2 := undrew hb2'; clear hb2'; have q2 := q1.call hb2; have s2 := s1.call hb2; obtain ⟨c20, c21, c22, c23, c24⟩ := q2)
    | (go_at_call 90; refine (ref_Less _ _ _ _ _ (by omega) (by omega) (by omega) (by omega)).mono ?_; rintro e w3 ⟨rfl, hb3⟩; have q3 := V2.call ⟨c20, c21, c22, c23, c24⟩ hb3; have s3 := s2.call hb3; obtain ⟨c30, c31, c32, c33, c34⟩ := V2.call ⟨c20, c21, c22, c23, c24⟩ hb3; obtain ⟨d30, d31, d32, d33, d34⟩ := s2.call hb3))
   all_goals
    go_wp2
    refine bodyPost_ret (results_v2 (b := w.heap.size + 1) (u := .int .u64 x0) (v := .int .u64 x1) ?_ rfl rfl) rfl ?_
    ·exact V2.set ⟨d30, d31, d32, d33, d34⟩ _ _
    ·refine ⟨_, _, rfl, ⟨hx0, hx1, hx2, hx3⟩, ?_, by repeat (first | exact bA | with_reducible assumption | apply bB | (refine bC ?_ (by dsimp only; omega)) | apply bD | apply bE | (refine bF ?_ (by assumption)))⟩
     show _ = _
     rw [← HX.out, Int.emod_eq_of_lt (by omega) (by rw [HPM.out]; exact hlt)]
  ·have hd : decide (x0 + 18446744073709551616 * x1 < p0 + 18446744073709551616 * p1) = false := by simp; omega
   go_upto_region 3 with fail
   go_cut [12] (fun c wx => c = .bool true ∧ V2 wx w.heap.size (.int .u64 x0) (.int .u64 x1) ∧ V2 wx (w.heap.size + 1) (.int .u64 0) (.int .u64 0) ∧ Below w.heap.size w wx)
   case first =>
    go_region_with (first
    | (go_at_call 91; refine (ref_P f m p0 p1 _ hm).mono ?_; rintro e w2 ⟨rfl, hb2'⟩; have hb2 := undrew hb2'; clear hb2'; have q2 := q1.call hb2; have s2 := s1.call hb2; obtain ⟨c20, c21, c22, c23, c24⟩ := q2)
    | (go_at_call 90; refine (ref_Less _ _ _ _ _ (by omega) (by omega) (by omega) (by omega)).mono ?_; rintro e w3 ⟨rfl, hb3⟩; have q3 := V2.call ⟨c20, c21, c22, c23, c24⟩ hb3; have s3 := s2.call hb3; obtain ⟨c30, c31, c32, c33, c34⟩ := V2.call ⟨c20, c21, c22, c23, c24⟩ hb3; obtain ⟨d30, d31, d32, d33, d34⟩ := s2.call hb3))
    all_goals
     go_wp2
     go_meet
     exact ⟨rfl, q3, s3, by repeat (first | exact bA | with_reducible assumption | apply bB | (refine bC ?_ (by dsimp only; omega)) | apply bD | apply bE | (refine bF ?_ (by assumption)))⟩
   case rest =>
    obtain ⟨rfl, q4, s4, hb4⟩ := hcut
    have hq4 := q4
    obtain ⟨c40, c41, c42, c43, c44⟩ := hq4
    go_wp2_with fail
    go_region_with (first
    | (go_at_call 91; refine (ref_P f m p0 p1 _ hm).mono ?_; rintro e w5 ⟨rfl, hb5'⟩; have hb5 := undrew hb5'; clear hb5'; have q5 := q4.call hb5; have s5 := s4.call hb5; obtain ⟨c50, c51, c52, c53, c54⟩ := q5)
    | (go_at_call 92; refine (ref_take _ _ _ _ _ (by omega) (by omega) (by omega) (by omega) (by omega) (by omega) (by omega) (by omega)).mono ?_; rintro e w6 ⟨z0, z1, rfl, ⟨hz0, hz1, hz2, hz3⟩, HZ, hb6⟩; obtain ⟨d60, d61, d62, d63, d64⟩ := s5.call hb6))
    all_goals
     go_wp2
     refine bodyPost_ret (results_v2 (b := w.heap.size + 1) (u := .int .u64 z0) (v := .int .u64 z1) ?_ rfl rfl) rfl ?_
     ·exact V2.set ⟨d60, d61, d62, d63, d64⟩ _ _
     ·refine ⟨_, _, rfl, ⟨hz0, hz1, hz2, hz3⟩, ?_, by repeat (first | exact bA | with_reducible assumption | apply bB | (refine bC ?_ (by dsimp only; omega)) | apply bD | apply bE | (refine bF ?_ (by assumption)))⟩
      show _ = _
      have e := HZ.out
      rw [Int.emod_eq_of_lt (by omega) (by omega)] at e
      rw [← HX.out, HPM.out, e, ← Int.sub_emod_right, Int.emod_eq_of_lt (by omega) (by omega)]

end Go.Proofs.YtfbfbijkkbflkaaGreatDoor

namespace Go.Proofs.YtfbfbijkkbflkaaGreatDoor
open Go.RowKit Fm
set_option linter.unusedVariables false
set_option maxRecDepth 100000

theorem field_Valid (f : Int) (w : World) :
  Calls Tryz.prog 73 #[.int .u8 f] w fun e w' => e = .returned (.bool (f == 1 || f == 2)) ∧ w = w' := by
 by_cases h1 : f = 1
 ·subst h1
  go_enter Tryz.func73, Tryz.ntmps73
  go_wp2
  go_ret
  exact ⟨rfl, rfl⟩
 ·have hb1 : (f == 1) = false := by simp; omega
  by_cases h2 : f = 2
  ·subst h2
   go_enter Tryz.func73, Tryz.ntmps73
   go_wp2
   go_ret
   exact ⟨rfl, rfl⟩
  ·have hb2 : (f == 2) = false := by simp; omega
   go_enter Tryz.func73, Tryz.ntmps73
   go_wp2
   go_ret
   exact ⟨ret_bool (by rw [hb1, hb2]; rfl), rfl⟩

structure FM (f m : Int) : Prop where
 or : (f = 1 ∧ m = 18446744069414584321) ∨ (f = 2 ∧ m = 340282366920938462946865773367900766209)

set_option maxHeartbeats 2000000 in
theorem field_Add (f m a0 a1 b0 b1 : Int) (w : World) (hf : FM f m) (h0 : 0 ≤ a0) (h1 : a0 ≤ 18446744073709551615) (k0 : 0 ≤ a1) (k1 : a1 ≤ 18446744073709551615)
  (g0 : 0 ≤ b0) (g1 : b0 ≤ 18446744073709551615) (j0 : 0 ≤ b1) (j1 : b1 ≤ 18446744073709551615) :
  Calls Tryz.prog 51 #[.int .u8 f, .agg #[.int .u64 a0, .int .u64 a1], .agg #[.int .u64 b0, .int .u64 b1]] w (RetE ((nI f a0 a1 + nI f b0 b1) % m) w) := by
 rcases hf.or with ⟨rfl, rfl⟩ | ⟨rfl, rfl⟩
 ·have s0 := V2.new ((w.alloc (.cells #[.int .u64 a0, .int .u64 a1] 36)).alloc (.cells #[.int .u64 b0, .int .u64 b1] 36)) (.int .u64 0) (.int .u64 0) 36
  go_enter Tryz.func51, Tryz.ntmps51
  go_wp2_with (go_at_call 96; refine (gold_Add _ _ _ (by omega) (by omega) (by omega) (by omega)).mono ?_; rintro e w' ⟨rfl, rfl⟩)
  refine bodyPost_ret (by simp [results, Tryz.results51, go_sem]; rfl) rfl ?_
  refine ⟨_, _, rfl, ?_, ?_, by repeat (first | exact bA | with_reducible assumption | apply bB | (refine bC ?_ (by dsimp only; omega)) | apply bD | apply bE | (refine bF ?_ (by assumption)))⟩
  ·omega
  ·show _ = _
   unfold nI
   simp
 ·go_enter Tryz.func51, Tryz.ntmps51
  go_wp2_with fail
  refine (wide_Add _ _ _ _ _ h0 h1 k0 k1 g0 g1 j0 j1).mono ?_
  rintro e w6 ⟨z0, z1, rfl, ⟨hz0, hz1, hz2, hz3⟩, HZ, hb6⟩
  have s0 := V2.new ((w.alloc (.cells #[.int .u64 a0, .int .u64 a1] 36)).alloc (.cells #[.int .u64 b0, .int .u64 b1] 36)) (.int .u64 0) (.int .u64 0) 36
  have s6 := s0.call hb6
  simp only [World.size_alloc] at s6
  clear s0
  have hs6 := s6
  obtain ⟨d60, d61, d62, d63, d64⟩ := hs6
  go_wp2
  refine bodyPost_ret (results_v2 (b := w.heap.size + 1 + 1) (u := .int .u64 z0) (v := .int .u64 z1) ?_ rfl rfl) rfl ?_
  ·exact V2.set s6 _ _
  ·refine ⟨_, _, rfl, ⟨hz0, hz1, hz2, hz3⟩, ?_, by repeat (first | exact bA | with_reducible assumption | apply bB | (refine bC ?_ (by dsimp only; omega)) | apply bD | apply bE | (refine bF ?_ (by assumption)))⟩
   show _ = _
   rw [HZ.out]
   unfold nI
   simp

set_option maxHeartbeats 2000000 in
theorem field_Sub (f m a0 a1 b0 b1 : Int) (w : World) (hf : FM f m) (h0 : 0 ≤ a0) (h1 : a0 ≤ 18446744073709551615) (k0 : 0 ≤ a1) (k1 : a1 ≤ 18446744073709551615)
  (g0 : 0 ≤ b0) (g1 : b0 ≤ 18446744073709551615) (j0 : 0 ≤ b1) (j1 : b1 ≤ 18446744073709551615) :
  Calls Tryz.prog 62 #[.int .u8 f, .agg #[.int .u64 a0, .int .u64 a1], .agg #[.int .u64 b0, .int .u64 b1]] w (RetE ((nI f a0 a1 - nI f b0 b1) % m) w) := by
 rcases hf.or with ⟨rfl, rfl⟩ | ⟨rfl, rfl⟩
 ·have s0 := V2.new ((w.alloc (.cells #[.int .u64 a0, .int .u64 a1] 36)).alloc (.cells #[.int .u64 b0, .int .u64 b1] 36)) (.int .u64 0) (.int .u64 0) 36
  go_enter Tryz.func62, Tryz.ntmps62
  go_wp2_with (go_at_call 102; refine (gold_Sub _ _ _ (by omega) (by omega) (by omega) (by omega)).mono ?_; rintro e w' ⟨rfl, rfl⟩)
  refine bodyPost_ret (by simp [results, Tryz.results62, go_sem]; rfl) rfl ?_
  refine ⟨_, _, rfl, ?_, ?_, by repeat (first | exact bA | with_reducible assumption | apply bB | (refine bC ?_ (by dsimp only; omega)) | apply bD | apply bE | (refine bF ?_ (by assumption)))⟩
  ·omega
  ·show _ = _
   unfold nI
   simp
 ·go_enter Tryz.func62, Tryz.ntmps62
  go_wp2_with fail
  refine (wide_Sub _ _ _ _ _ h0 h1 k0 k1 g0 g1 j0 j1).mono ?_
  rintro e w6 ⟨z0, z1, rfl, ⟨hz0, hz1, hz2, hz3⟩, HZ, hb6⟩
  have s0 := V2.new ((w.alloc (.cells #[.int .u64 a0, .int .u64 a1] 36)).alloc (.cells #[.int .u64 b0, .int .u64 b1] 36)) (.int .u64 0) (.int .u64 0) 36
  have s6 := s0.call hb6
  simp only [World.size_alloc] at s6
  clear s0
  have hs6 := s6
  obtain ⟨d60, d61, d62, d63, d64⟩ := hs6
  go_wp2
  refine bodyPost_ret (results_v2 (b := w.heap.size + 1 + 1) (u := .int .u64 z0) (v := .int .u64 z1) ?_ rfl rfl) rfl ?_
  ·exact V2.set s6 _ _
  ·refine ⟨_, _, rfl, ⟨hz0, hz1, hz2, hz3⟩, ?_, by repeat (first | exact bA | with_reducible assumption | apply bB | (refine bC ?_ (by dsimp only; omega)) | apply bD | apply bE | (refine bF ?_ (by assumption)))⟩
   show _ = _
   rw [HZ.out]
   unfold nI
   simp

theorem field_In (f m a0 a1 : Int) (w : World) (hf : FM f m) (h0 : 0 ≤ a0) (h1 : a0 ≤ 18446744073709551615) (k0 : 0 ≤ a1) (k1 : a1 ≤ 18446744073709551615) :
  Calls Tryz.prog 114 #[.int .u8 f, .agg #[.int .u64 a0, .int .u64 a1]] w fun e w' => e = .returned (.bool (decide (a0 + 18446744073709551616 * a1 < m))) ∧ Below w.heap.size w w' := by
 rcases hf.or with ⟨rfl, rfl⟩ | ⟨rfl, rfl⟩
 ·by_cases hz : a1 = 0
  ·subst hz
   have hd : decide (a0 + 18446744073709551616 * 0 < 18446744069414584321) = decide (a0 < 18446744069414584321) := by congr 1; simp
   rw [hd]
   clear hd
   go_enter Tryz.func114, Tryz.ntmps114
   go_wp2_with (go_at_call 134; refine (gold_In _ _ (by omega) (by omega)).mono ?_; rintro e w' ⟨rfl, rfl⟩)
   go_ret
   exact ⟨rfl, by repeat (first | exact bA | with_reducible assumption | apply bB | (refine bC ?_ (by dsimp only; omega)) | apply bD | apply bE | (refine bF ?_ (by assumption)))⟩
  ·have hb : (a1 == 0) = false := by simp; omega
   have hd : decide (a0 + 18446744073709551616 * a1 < 18446744069414584321) = false := by simp; omega
   rw [hd]
   clear hd
   go_enter Tryz.func114, Tryz.ntmps114
   go_wp2
   go_ret
   exact ⟨rfl, by repeat (first | exact bA | with_reducible assumption | apply bB | (refine bC ?_ (by dsimp only; omega)) | apply bD | apply bE | (refine bF ?_ (by assumption)))⟩
 ·go_enter Tryz.func114, Tryz.ntmps114
  go_wp2_with (go_at_call 124; refine (wide_In _ _ _ (by omega) (by omega)).mono ?_; rintro e w6 ⟨rfl, hb6⟩)
  go_ret
  exact ⟨rfl, by repeat (first | exact bA | with_reducible assumption | apply bB | (refine bC ?_ (by dsimp only; omega)) | apply bD | apply bE | (refine bF ?_ (by assumption)))⟩

end Go.Proofs.YtfbfbijkkbflkaaGreatDoor

namespace Go.Proofs.YtfbfbijkkbflkaaGreatDoor
open Go.RowKit Fm
set_option linter.unusedVariables false
set_option maxRecDepth 100000

theorem eN_of {x0 x1 n : Int} (h : x0 + 18446744073709551616 * x1 = n) (h0 : 0 ≤ x0) (h1 : x0 ≤ 18446744073709551615) : (x0, x1) = eN n := by
 unfold eN
 rw [Prod.mk.injEq]
 omega

theorem FM.pos {f m : Int} (h : FM f m) : 0 < m ∧ m ≤ 340282366920938462946865773367900766209 := by
 rcases h.or with ⟨_, rfl⟩ | ⟨_, rfl⟩ <;> omega

end Go.Proofs.YtfbfbijkkbflkaaGreatDoor

namespace Go.Proofs.YtfbfbijkkbflkaaGreatDoor
open Go.RowKit Fm
set_option linter.unusedVariables false
set_option maxRecDepth 100000

theorem cellsE_pair : ∀ (xs : List E) (j : Nat) (u : Value), (cellsE xs)[j]? = some u → ∃ i e, xs[i]? = some e ∧ ((j = i * 2 ∧ u = .int .u64 e.1) ∨ (j = i * 2 + 1 ∧ u = .int .u64 e.2))
 | [], j, u, h => by simp [cellsE] at h
 | x :: l, 0, u, h => by
  simp only [cellsE, List.getElem?_cons_zero, Option.some.injEq] at h
  exact ⟨0, x, rfl, .inl ⟨rfl, h.symm⟩⟩
 | x :: l, 1, u, h => by
  simp only [cellsE, List.getElem?_cons_succ, List.getElem?_cons_zero, Option.some.injEq] at h
  exact ⟨0, x, rfl, .inr ⟨rfl, h.symm⟩⟩
 | x :: l, j + 2, u, h => by
  simp only [cellsE, List.getElem?_cons_succ] at h
  obtain ⟨i, e, hi, hor⟩ := cellsE_pair l j u h
  refine ⟨i + 1, e, by simpa using hi, ?_⟩
  rcases hor with ⟨rfl, hu⟩ | ⟨rfl, hu⟩
  ·exact .inl ⟨by omega, hu⟩
  ·exact .inr ⟨by omega, hu⟩

theorem RowE.cells {w : World} {b o : Nat} {xs : List E} (h : RowE w b o xs) (j : Nat) (u : Value) (hu : (cellsE xs)[j]? = some u) : w.cell? ((⟨b, o, none⟩ : Addr).add j) = some u := by
 have ha : (⟨b, o, none⟩ : Addr).add j = ⟨b, o + j, none⟩ := by
  unfold Addr.add
  split <;> simp_all
 rw [ha]
 obtain ⟨i, e, hi, hor⟩ := cellsE_pair xs j u hu
 rcases hor with ⟨rfl, rfl⟩ | ⟨rfl, rfl⟩
 ·exact (h i e hi).1
 ·rw [← Nat.add_assoc]
  exact (h i e hi).2

theorem oneCell_cellsE (xs : List E) : ∀ u, u ∈ cellsE xs → u.oneCell' = true := by
 induction xs with
 | nil => intro u h; cases h
 | cons e l ih =>
  intro u h
  simp only [cellsE, List.mem_cons] at h
  rcases h with rfl | rfl | h
  ·rfl
  ·rfl
  ·exact ih u h

theorem run_append_E (w : World) (base : Nat) (ty : TypeId) (v : Value) (n : Nat) (xs : List E) (hown : w.ownsRow base 36 2 v n (cellsE xs)) (A : Option Addr) (m c : Nat) (ys : List E)
  (hm : ys.length = m) (hy : 0 < m → ∃ b o, A = some ⟨b, o, none⟩ ∧ RowE w b o ys) (hbound : n + m ≤ 1099511627776) (hbase : base ≤ w.heap.size) :
  ∃ v' w', (Builtin.append_ #[24, 24] ty #[v, .slice A m c]).run Tryz.prog w = .ok v' w' ∧ w'.ownsRow base 36 2 v' (n + m) (cellsE (xs ++ ys)) ∧ w.grownBy w' v.ownBlock ∧
   (v'.ownBlock = v.ownBlock ∨ v'.ownBlock = some w.heap.size) := by
 obtain ⟨i, hi, hz, h1, h2⟩ := info_parts info_elem
 rw [cellsE_append]
 rcases A with _ | ad
 ·have hm0 : m = 0 := by
   rcases Nat.eq_zero_or_pos m with h0 | h0
   ·exact h0
   ·obtain ⟨b, o, h, _⟩ := hy h0
    cases h
  subst hm0
  obtain rfl : ys = [] := List.eq_nil_of_length_eq_zero hm
  refine ⟨v, w, ?_, by simpa [cellsE] using hown, World.grownBy.refl w _, .inl rfl⟩
  rcases hown.2 with ⟨rfl, rfl⟩ | ⟨g, cap, cur, rfl, _, _, hnc, _⟩
  ·simp [Builtin.append_, run_underlying Tryz.underlying24, sizeOf, typeInfo, hi, Builtin.lenOf, Builtin.firstCells]
  ·simp [Builtin.append_, run_underlying Tryz.underlying24, sizeOf, typeInfo, hi, Builtin.lenOf, Builtin.firstCells, hnc, storeCells]
 ·have hcells : ∀ j u, (cellsE ys)[j]? = some u → w.cell? (ad.add j) = some u := by
   intro j u hu
   rcases Nat.eq_zero_or_pos m with h0 | h0
   ·subst h0
    obtain rfl : ys = [] := List.eq_nil_of_length_eq_zero hm
    simp [cellsE] at hu
   ·obtain ⟨b, o, h, hr⟩ := hy h0
    injection h with h
    subst h
    exact hr.cells j u hu
  obtain ⟨v', w', hrun, h3, h4, _, h5⟩ := run_append_own_at (P := Tryz.prog) w base 24 ty 36 i _ 2 16 Tryz.underlying24 hi hz h1 h2 rfl (by omega) v n _ hown ad m c (cellsE ys)
   (by rw [length_cellsE, hm]) hcells (oneCell_cellsE ys) (by unfold maxLen; omega) (by omega) hbase
  exact ⟨v', w', hrun, h3, h4, h5⟩

theorem wpList_append_E {w : World} {ops : Array Oper} {rest : List Oper} {o : Oper} {a : Act} {Q : Exit → Act → World → Prop} (hgd : o.guard = none) (s x : Operand)
  (ho : o.op = .call { callee := .builtin .append, args := #[s, x], argTypes := #[24, 24] })
  (base : Nat) (v : Value) (n : Nat) (xs : List E) (hs : a.eval s = v) (hown : w.ownsRow base 36 2 v n (cellsE xs)) (A : Option Addr) (m c : Nat) (ys : List E) (hx : a.eval x = .slice A m c)
  (hm : ys.length = m) (hy : 0 < m → ∃ b o, A = some ⟨b, o, none⟩ ∧ RowE w b o ys) (hbound : n + m ≤ 1099511627776) (hbase : base ≤ w.heap.size)
  (h : ∀ v' w', w'.ownsRow base 36 2 v' (n + m) (cellsE (xs ++ ys)) → w.grownBy w' v.ownBlock → (v'.ownBlock = v.ownBlock ∨ v'.ownBlock = some w.heap.size) → wpList Tryz.prog ops Q rest (a.put o.dst v') w') : wpList Tryz.prog ops Q (o :: rest) a w := by
 obtain ⟨v', w', hrun, h2, h3, h4⟩ := run_append_E w base o.type v n xs hown A m c ys hm hy hbound hbase
 refine wpList_plain hgd fun K hK => ?_
 unfold Oper.wp execOp
 simp only [ho, resolve, invoke, builtin, Sem.run_bind, Sem.run_pure, Result.andThen_ok, List.map_toArray, List.map_cons, List.map_nil, hs, hx, hrun]
 exact hK _ _ (h v' w' h2 h3 h4)

theorem SlE.of_own {w : World} {base : Nat} {v : Value} {xs : List E} (h : w.ownsRow base 36 2 v xs.length (cellsE xs)) (ok : ∀ e, e ∈ xs → okE e) : SlE w w.heap.size v xs := by
 rcases h.2 with ⟨rfl, h0⟩ | ⟨g, cap, cur, rfl, hb, hg, hnc, hcm, hcs, htk⟩
 ·refine ⟨⟨none, 0, by rw [h0], by omega, by omega, fun hn => by omega⟩, ok⟩
 ·refine ⟨⟨some ⟨g, 0, none⟩, cap, rfl, hnc, by unfold maxLen at hcm; omega, fun _ => ⟨g, 0, rfl, (Array.getElem?_eq_some_iff.1 hg).1, fun i e hi => ?_⟩⟩, ok⟩
  obtain ⟨e1, e2⟩ := cellsE_at xs i e hi
  have hc := fun j u hu => h.cells (g := g) rfl j u hu
  have ha : ∀ j, (⟨g, 0, none⟩ : Addr).add j = ⟨g, 0 + j, none⟩ := by
   intro j
   unfold Addr.add
   split <;> simp_all
  have f1 := hc _ _ e1
  have f2 := hc _ _ e2
  rw [ha] at f1 f2
  exact ⟨f1, by rw [Nat.add_assoc]; exact f2⟩

end Go.Proofs.YtfbfbijkkbflkaaGreatDoor

namespace Go.Proofs.YtfbfbijkkbflkaaGreatDoor
open Go.RowKit Fm
set_option linter.unusedVariables false
set_option maxRecDepth 100000

theorem FM.ref {f m : Int} (h : FM f m) : ∃ p0 p1, RefM f m p0 p1 := by
 rcases h.or with ⟨rfl, rfl⟩ | ⟨rfl, rfl⟩
 ·exact ⟨_, _, ⟨.inl ⟨rfl, rfl, rfl, rfl⟩⟩⟩
 ·exact ⟨_, _, ⟨.inr ⟨by omega, rfl, rfl, rfl⟩⟩⟩

def RedE (m : Int) (e : E) : Prop := ∃ n : Int, 0 ≤ n ∧ n < m ∧ e = eN n
theorem RedE.lt {m : Int} {e : E} (h : RedE m e) : e.1 + 18446744073709551616 * e.2 < m := by
 obtain ⟨n, h0, h1, rfl⟩ := h
 unfold eN
 dsimp only
 omega
theorem RedE.ok {f m : Int} {e : E} (hf : FM f m) (h : RedE m e) : okE e := by
 obtain ⟨n, h0, h1, rfl⟩ := h
 have := hf.pos
 exact okE_eN _ h0 (by omega)

end Go.Proofs.YtfbfbijkkbflkaaGreatDoor
