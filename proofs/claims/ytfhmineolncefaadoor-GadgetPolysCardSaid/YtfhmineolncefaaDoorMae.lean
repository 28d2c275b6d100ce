/-
  SLICES OF ELEMENTS: what a slice value reads as; two lists of elements compared (tallymanref01.Same).
-/
/-
  A BLOCK OF ELEMENTS that the call itself has made ('make([]api.Elem, n)'): whole, not frozen; a store of one element.
-/
/-
  WALKS: tallymanref01: P, Less, take, plus, Of, In.
-/
/-
  WALKS: package field: Valid, In, Add, Sub. A field is 1 or 2; 'FM f m': f's modulus is m.
-/
/-
  WALKS: field.pair with Add and Sub: AddVec, SubVec.
-/
import Derived.Test.YtfhmineolncefaaDoorMaa
import Derived.Test.YtfhmineolncefaaDoorMab
import Derived.Test.YtfhmineolncefaaDoorMac
namespace Go.Proofs.YtfhmineolncefaaDoor
open Go.RowKit Fm
set_option linter.unusedVariables false
set_option maxRecDepth 100000

/-- the cells from ⟨b, o⟩ on hold the elements xs -/
def RowE (w : World) (b o : Nat) (xs : List E) : Prop :=
  ∀ (i : Nat) (e : E), xs[i]? = some e → w.cell? ⟨b, o + i * 2, none⟩ = some (.int .u64 e.1) ∧ w.cell? ⟨b, o + i * 2 + 1, none⟩ = some (.int .u64 e.2)

/-- a slice value reads as the elements xs; what it reads lies below block B -/
structure SlE (w : World) (B : Nat) (v : Value) (xs : List E) : Prop where
  ex : ∃ (A : Option Addr) (c : Nat), v = .slice A xs.length c ∧ xs.length ≤ c ∧ c ≤ 9223372036854775807 ∧ (0 < xs.length → ∃ b o, A = some ⟨b, o, none⟩ ∧ b < B ∧ RowE w b o xs)
  ok : ∀ e, e ∈ xs → okE e

theorem RowE.call {w w' : World} {b o : Nat} {xs : List E} (h : RowE w b o xs) (hb : Below w.heap.size w w') : RowE w' b o xs :=
  fun i e hi => ⟨cell_call (h i e hi).1 hb, cell_call (h i e hi).2 hb⟩
theorem RowE.below {w w' : World} {B b o : Nat} {xs : List E} (h : RowE w b o xs) (hb : Below B w w') (hB : b < B) : RowE w' b o xs :=
  fun i e hi => ⟨(hb.cell (p := ⟨b, o + i * 2, none⟩) hB).trans (h i e hi).1, (hb.cell (p := ⟨b, o + i * 2 + 1, none⟩) hB).trans (h i e hi).2⟩
theorem SlE.below {w w' : World} {B : Nat} {v : Value} {xs : List E} (h : SlE w B v xs) (hb : Below B w w') : SlE w' B v xs := by
  obtain ⟨⟨A, c, hv, h1, h2, h3⟩, ok⟩ := h
  exact ⟨⟨A, c, hv, h1, h2, fun hn => let ⟨b, o, hA, hB, hr⟩ := h3 hn; ⟨b, o, hA, hB, hr.below hb hB⟩⟩, ok⟩
theorem SlE.mono {w : World} {B B' : Nat} {v : Value} {xs : List E} (h : SlE w B v xs) (hB : B ≤ B') : SlE w B' v xs := by
  obtain ⟨⟨A, c, hv, h1, h2, h3⟩, ok⟩ := h
  exact ⟨⟨A, c, hv, h1, h2, fun hn => let ⟨b, o, hA, hb, hr⟩ := h3 hn; ⟨b, o, hA, Nat.lt_of_lt_of_le hb hB, hr⟩⟩, ok⟩
theorem SlE.nil (w : World) (B : Nat) : SlE w B (.slice none 0 0) [] := ⟨⟨none, 0, rfl, Nat.le_refl _, by simp, fun h => absurd h (by simp)⟩, fun _ h => by cases h⟩

theorem take_step {α : Type} {xs ys : List α} {k : Nat} {e : α} (h : xs.take k = ys.take k) (hx : xs[k]? = some e) (hy : ys[k]? = some e) : xs.take (k + 1) = ys.take (k + 1) := by
  rw [List.take_add_one, List.take_add_one, h, hx, hy]

set_option maxHeartbeats 1000000 in
theorem ref_Same (va vb : Value) (xs ys : List E) (w : World) (hx : SlE w w.heap.size va xs) (hy : SlE w w.heap.size vb ys) :
    Calls Tryd.prog 21 #[va, vb] w fun e w' => e = .returned (.bool (decide (xs = ys))) ∧ Below w.heap.size w w' := by
  obtain ⟨⟨A, c, rfl, hc, hcm, hA⟩, hokx⟩ := hx
  obtain ⟨⟨A', c', rfl, hc', hcm', hA'⟩, hoky⟩ := hy
  have hne := neq_elem
  by_cases hl : xs.length = ys.length
  · have hb : ((xs.length : Int) != (ys.length : Int)) = false := by simp; omega
    have HL := Lib.hid hl
    clear hl
    go_enter Tryd.func21, Tryd.ntmps21
    go_wp2
    go_loopw [5] (fun i wr => ∃ k : Nat, k ≤ xs.length ∧ i = .int .i64 k ∧ Hid (xs.take k = ys.take k) ∧ Below w.heap.size w wr) (fun i _ => xs.length - (intOf i).toNat)
    case atStart => exact ⟨0, Nat.zero_le _, rfl, rfl, Below.refl _ _⟩
    case round =>
      obtain ⟨k, hk, rfl, HT, hbw⟩ := hrel
      by_cases hlt : k < xs.length
      · obtain ⟨b, o, rfl, hB, hr⟩ := hA (by omega)
        obtain ⟨b', o', rfl, hB', hr'⟩ := hA' (by have := HL.out; omega)
        have hlt' : k < ys.length := by have := HL.out; omega
        obtain ⟨e, he⟩ : ∃ e, xs[k]? = some e := ⟨_, List.getElem?_eq_getElem hlt⟩
        obtain ⟨e', he'⟩ : ∃ e, ys[k]? = some e := ⟨_, List.getElem?_eq_getElem hlt'⟩
        obtain ⟨x0, x1⟩ := e
        obtain ⟨y0, y1⟩ := e'
        obtain ⟨c0, c1⟩ := (hr.below hbw hB) k _ he
        obtain ⟨d0, d1⟩ := (hr'.below hbw hB') k _ he'
        have HE := Lib.hid he
        have HE' := Lib.hid he'
        clear he he' hr hr' hA hA'
        by_cases heq : x0 = y0 ∧ x1 = y1
        · obtain ⟨rfl, rfl⟩ := heq
          go_wp2_with fail
          go_quiet (fail)
          go_wp2
          go_roundw
          case rel => exact ⟨k + 1, by omega, by go_num, take_step HT.out HE.out HE'.out, by repeat (first | exact Below.refl _ _ | with_reducible assumption | (refine bl_alloc ?_ (Nat.le_refl _) _) | (refine bl_set ?_ (by dsimp only; omega) _) | (refine Below.drew ?_) | (refine bl_drewN ?_ _) | (refine bl_call ?_ (Nat.le_refl _) (by assumption)))⟩
          case measure => simp [intOf]; omega
        · have hbn : (x0 == y0 && x1 == y1) = false := by
            rw [Bool.and_eq_false_iff, beq_eq_false_iff_ne, beq_eq_false_iff_ne]
            omega
          go_wp2_with fail
          go_quiet (fail)
          go_wp2
          go_ret
          refine ⟨ret_bool ?_, by repeat (first | exact Below.refl _ _ | with_reducible assumption | (refine bl_alloc ?_ (Nat.le_refl _) _) | (refine bl_set ?_ (by dsimp only; omega) _) | (refine Below.drew ?_) | (refine bl_drewN ?_ _) | (refine bl_call ?_ (Nat.le_refl _) (by assumption)))⟩
          rw [eq_comm, decide_eq_false_iff_not]
          rintro rfl
          have := HE.out.symm.trans HE'.out
          simp only [Option.some.injEq, Prod.mk.injEq] at this
          exact heq this
      · obtain rfl : k = xs.length := by omega
        go_wp2
        go_ret
        refine ⟨ret_bool ?_, by repeat (first | exact Below.refl _ _ | with_reducible assumption | (refine bl_alloc ?_ (Nat.le_refl _) _) | (refine bl_set ?_ (by dsimp only; omega) _) | (refine Below.drew ?_) | (refine bl_drewN ?_ _) | (refine bl_call ?_ (Nat.le_refl _) (by assumption)))⟩
        rw [eq_comm, decide_eq_true_eq]
        have h := HT.out
        rwa [List.take_of_length_le (Nat.le_refl _), List.take_of_length_le (by rw [HL.out]; exact Nat.le_refl _)] at h
  · have hb : ((xs.length : Int) != (ys.length : Int)) = true := by simp; omega
    have hd : decide (xs = ys) = false := by simp; intro h; exact hl (by rw [h])
    rw [hd]
    clear hd
    go_enter Tryd.func21, Tryd.ntmps21
    go_wp2
    go_ret
    exact ⟨rfl, by repeat (first | exact Below.refl _ _ | with_reducible assumption | (refine bl_alloc ?_ (Nat.le_refl _) _) | (refine bl_set ?_ (by dsimp only; omega) _) | (refine Below.drew ?_) | (refine bl_drewN ?_ _) | (refine bl_call ?_ (Nat.le_refl _) (by assumption)))⟩

end Go.Proofs.YtfhmineolncefaaDoor

namespace Go.Proofs.YtfhmineolncefaaDoor
open Go.RowKit Fm
set_option linter.unusedVariables false
set_option maxRecDepth 100000

def cellsE : List E → List Value
  | [] => []
  | e :: l => .int .u64 e.1 :: .int .u64 e.2 :: cellsE l

theorem length_cellsE : ∀ xs : List E, (cellsE xs).length = xs.length * 2
  | [] => rfl
  | e :: l => by simp only [cellsE, List.length_cons, length_cellsE l]; omega

theorem cellsE_at : ∀ (xs : List E) (i : Nat) (e : E), xs[i]? = some e → (cellsE xs)[i * 2]? = some (.int .u64 e.1) ∧ (cellsE xs)[i * 2 + 1]? = some (.int .u64 e.2)
  | [], i, e, h => by simp at h
  | x :: l, 0, e, h => by
    simp only [List.getElem?_cons_zero, Option.some.injEq] at h
    subst h
    exact ⟨rfl, rfl⟩
  | x :: l, i + 1, e, h => by
    have ih := cellsE_at l i e (by simpa using h)
    rw [show (i + 1) * 2 = i * 2 + 1 + 1 from by omega]
    simpa only [cellsE, List.getElem?_cons_succ] using ih

theorem cellsE_set : ∀ (xs : List E) (i : Nat) (a b : Int), ((cellsE xs).set (i * 2) (.int .u64 a)).set (i * 2 + 1) (.int .u64 b) = cellsE (xs.set i (a, b))
  | [], i, a, b => by simp [cellsE]
  | x :: l, 0, a, b => by simp [cellsE]
  | x :: l, i + 1, a, b => by
    rw [show (i + 1) * 2 = i * 2 + 1 + 1 from by omega]
    simp only [cellsE, List.set_cons_succ, cellsE_set l i a b]

theorem cellsE_replicate (n : Nat) : cellsE (List.replicate n (0, 0)) = List.replicate (n * 2) (.int .u64 0) := by
  induction n with
  | zero => rfl
  | succ n ih => rw [List.replicate_succ, cellsE, ih, show (n + 1) * 2 = n * 2 + 1 + 1 from by omega, List.replicate_succ, List.replicate_succ]

theorem cellsE_append (xs ys : List E) : cellsE (xs ++ ys) = cellsE xs ++ cellsE ys := by
  induction xs with
  | nil => rfl
  | cons x l ih => simp only [List.cons_append, cellsE, ih]

/-- block g holds the elements xs and nothing else, not frozen -/
def BlkE (w : World) (g : Nat) (xs : List E) : Prop := w.heap[g]? = some (.cells (cellsE xs).toArray 28 (0, 0))

section
variable {w w' : World} {g : Nat} {xs : List E}
theorem BlkE.lt (h : BlkE w g xs) : g < w.heap.size := by
  rcases Nat.lt_or_ge g w.heap.size with hlt | hge
  · exact hlt
  · unfold BlkE at h
    rw [Array.getElem?_eq_none hge] at h
    cases h
theorem BlkE.cell (h : BlkE w g xs) (i : Nat) : w.cell? ⟨g, i, none⟩ = (cellsE xs)[i]? := by
  rw [cell_of_row w g i _ _ (0, 0) h]
  simp
theorem BlkE.row (h : BlkE w g xs) (i : Nat) (e : E) (hi : xs[i]? = some e) : w.cell? ⟨g, i * 2, none⟩ = some (.int .u64 e.1) ∧ w.cell? ⟨g, i * 2 + 1, none⟩ = some (.int .u64 e.2) := by
  rw [h.cell, h.cell]
  exact cellsE_at xs i e hi
theorem BlkE.rowE (h : BlkE w g xs) : RowE w g 0 xs := fun i e hi => by
  rw [Nat.zero_add]
  exact h.row i e hi
theorem BlkE.frozen (h : BlkE w g xs) (i : Nat) : w.frozen? ⟨g, i, none⟩ = false := by
  unfold BlkE at h
  simp [World.frozen?, h]
theorem BlkE.drew (h : BlkE w g xs) : BlkE w.drew g xs := h
theorem BlkE.drewN (h : BlkE w g xs) (n : Nat) : BlkE (w.drewN n) g xs := h
theorem BlkE.call (h : BlkE w g xs) (hb : Below w.heap.size w w') : BlkE w' g xs := (hb.block g h.lt).trans h
theorem BlkE.below {B : Nat} (h : BlkE w g xs) (hb : Below B w w') (hB : g < B) : BlkE w' g xs := (hb.block g hB).trans h
theorem BlkE.alloc (h : BlkE w g xs) (o : Obj) : BlkE (w.alloc o) g xs := (Below.heap_alloc w o g h.lt).trans h
theorem BlkE.far (h : BlkE w g xs) {p : Addr} (hp : g ≠ p.block) (u : Value) : BlkE (w.setCell p u) g xs := (Below.heap_setCell w p u g hp).trans h
theorem BlkE.set (h : BlkE w g xs) (k : Nat) (a b : Int) : BlkE ((w.setCell ⟨g, k * 2, none⟩ (.int .u64 a)).setCell ⟨g, k * 2 + 1, none⟩ (.int .u64 b)) g (xs.set k (a, b)) := by
  have h1 := heap_setCell_same w g (k * 2) _ _ (.int .u64 a) h
  have h2 := heap_setCell_same _ g (k * 2 + 1) _ _ (.int .u64 b) h1
  unfold BlkE
  rw [h2]
  simp only [List.setIfInBounds_toArray, cellsE_set]
theorem BlkE.sl (h : BlkE w g xs) (hn : xs.length ≤ 9223372036854775807) (ok : ∀ e, e ∈ xs → okE e) {B : Nat} (hB : g < B) : SlE w B (.slice (some ⟨g, 0, none⟩) xs.length xs.length) xs :=
  ⟨⟨some ⟨g, 0, none⟩, xs.length, rfl, Nat.le_refl _, hn, fun _ => ⟨g, 0, rfl, hB, h.rowE⟩⟩, ok⟩
end

theorem info_elem : (Tryd.prog.info? 28).map (fun i => (i.zero, i.size, i.bytes)) = some (some (.agg #[.int .u64 0, .int .u64 0]), 2, 16) := by kernel_rfl

theorem madeCells_elem (n : Nat) : madeCells #[.int .u64 0, .int .u64 0] (n * 2) = (cellsE (List.replicate n (0, 0))).toArray := by
  rw [cellsE_replicate]
  apply Array.ext
  · simp [madeCells]
  · intro i h1 h2
    simp only [madeCells, Array.getElem_map, Array.getElem_range]
    have h3 : i % 2 = 0 ∨ i % 2 = 1 := by omega
    simp only [List.getElem_toArray, List.getElem_replicate]
    rcases h3 with h3 | h3 <;> simp [h3]

/-- 'make([]api.Elem, n)' -/
theorem make_elem (n : Nat) (hn : n ≤ 1099511627776) (w : World) :
    (Instr.makeSlice 22 (.int .i64 (n : Int)) (.int .i64 (n : Int))).run Tryd.prog w = .ok (.slice (some ⟨w.heap.size, 0, none⟩) n n) (w.alloc (.cells (cellsE (List.replicate n (0, 0))).toArray 28)) := by
  obtain ⟨i, hi, hz, h1, h2⟩ := info_parts info_elem
  have hr := run_make (P := Tryd.prog) w 22 28 i _ Tryd.underlying22 hi hz .i64 .i64 n n (by omega) (by omega) (by rw [h2]; omega) (by omega)
  rw [hr, h1]
  simp only [Int.toNat_natCast, Value.cells, madeCells_elem]

end Go.Proofs.YtfhmineolncefaaDoor

namespace Go.Proofs.YtfhmineolncefaaDoor
open Go.RowKit Fm
set_option linter.unusedVariables false
set_option maxRecDepth 100000

/-- field f's modulus m: its limbs -/
structure RefM (f m p0 p1 : Int) : Prop where
  or : (f = 1 ∧ p0 = 18446744069414584321 ∧ p1 = 0 ∧ m = 18446744069414584321) ∨ (f ≠ 1 ∧ p0 = 1 ∧ p1 = 18446744073709551588 ∧ m = 340282366920938462946865773367900766209)

theorem ref_P (f m p0 p1 : Int) (w : World) (hm : RefM f m p0 p1) :
    Calls Tryd.prog 57 #[.int .i64 f] w fun e w' => e = .returned (.agg #[.int .u64 p0, .int .u64 p1]) ∧ Below w.heap.size w w' := by
  rcases hm.or with ⟨rfl, rfl, rfl, rfl⟩ | ⟨hf, rfl, rfl, rfl⟩
  · go_enter Tryd.func57, Tryd.ntmps57
    go_wp2
    refine bodyPost_ret (results_v2 (b := w.heap.size) (u := .int .u64 18446744069414584321) (v := .int .u64 0) ?_ rfl rfl) rfl ?_
    · exact V2.new w _ _ _
    · exact ⟨rfl, by repeat (first | exact Below.refl _ _ | with_reducible assumption | (refine bl_alloc ?_ (Nat.le_refl _) _) | (refine bl_set ?_ (by dsimp only; omega) _) | (refine Below.drew ?_) | (refine bl_drewN ?_ _) | (refine bl_call ?_ (Nat.le_refl _) (by assumption)))⟩
  · have hb : (f == 1) = false := by simp; omega
    go_enter Tryd.func57, Tryd.ntmps57
    go_wp2
    refine bodyPost_ret (results_v2 (b := w.heap.size) (u := .int .u64 1) (v := .int .u64 18446744073709551588) ?_ rfl rfl) rfl ?_
    · exact V2.new w _ _ _
    · exact ⟨rfl, by repeat (first | exact Below.refl _ _ | with_reducible assumption | (refine bl_alloc ?_ (Nat.le_refl _) _) | (refine bl_set ?_ (by dsimp only; omega) _) | (refine Below.drew ?_) | (refine bl_drewN ?_ _) | (refine bl_call ?_ (Nat.le_refl _) (by assumption)))⟩

theorem ref_Less (a0 a1 b0 b1 : Int) (w : World) (h0 : 0 ≤ a0) (h1 : a0 ≤ 18446744073709551615) (g0 : 0 ≤ b0) (g1 : b0 ≤ 18446744073709551615) :
    Calls Tryd.prog 56 #[.agg #[.int .u64 a0, .int .u64 a1], .agg #[.int .u64 b0, .int .u64 b1]] w fun e w' => e = .returned (.bool (decide (a0 + 18446744073709551616 * a1 < b0 + 18446744073709551616 * b1))) ∧ Below w.heap.size w w' := by
  by_cases h : a1 = b1
  · subst h
    have ht : decide (a0 + 18446744073709551616 * a1 < b0 + 18446744073709551616 * a1) = decide (a0 < b0) := by congr 1; simp
    rw [ht]
    clear ht
    go_enter Tryd.func56, Tryd.ntmps56
    go_wp2
    all_goals go_ret
    all_goals exact ⟨rfl, by repeat (first | exact Below.refl _ _ | with_reducible assumption | (refine bl_alloc ?_ (Nat.le_refl _) _) | (refine bl_set ?_ (by dsimp only; omega) _) | (refine Below.drew ?_) | (refine bl_drewN ?_ _) | (refine bl_call ?_ (Nat.le_refl _) (by assumption)))⟩
  · have hne : (a1 == b1) = false := by simp; omega
    have hne2 : (a1 != b1) = true := by simp; omega
    have ht : decide (a0 + 18446744073709551616 * a1 < b0 + 18446744073709551616 * b1) = decide (a1 < b1) := by congr 1; simp; omega
    rw [ht]
    clear ht
    go_enter Tryd.func56, Tryd.ntmps56
    go_wp2
    all_goals go_ret
    all_goals exact ⟨rfl, by repeat (first | exact Below.refl _ _ | with_reducible assumption | (refine bl_alloc ?_ (Nat.le_refl _) _) | (refine bl_set ?_ (by dsimp only; omega) _) | (refine Below.drew ?_) | (refine bl_drewN ?_ _) | (refine bl_call ?_ (Nat.le_refl _) (by assumption)))⟩

theorem u64_sub (a b : Int) : IntKind.u64.wrap (a - b) = (a - b) % 18446744073709551616 := IntKind.wrap_u64 _

set_option maxHeartbeats 1000000 in
theorem ref_take (a0 a1 b0 b1 : Int) (w : World) (h0 : 0 ≤ a0) (h1 : a0 ≤ 18446744073709551615) (g0 : 0 ≤ b0) (g1 : b0 ≤ 18446744073709551615)
     (k0 : 0 ≤ a1) (k1 : a1 ≤ 18446744073709551615) (j0 : 0 ≤ b1) (j1 : b1 ≤ 18446744073709551615) :
    Calls Tryd.prog 58 #[.agg #[.int .u64 a0, .int .u64 a1], .agg #[.int .u64 b0, .int .u64 b1]] w
      (RetE ((a0 + 18446744073709551616 * a1 - (b0 + 18446744073709551616 * b1)) % 340282366920938463463374607431768211456) w) := by
  by_cases hlt : a0 < b0
  · go_enter Tryd.func58, Tryd.ntmps58
    go_wp2
    refine bodyPost_ret (by simp [results, Tryd.results58, go_sem]; rfl) rfl ?_
    refine ⟨_, _, rfl, ?_, ?_, by repeat (first | exact Below.refl _ _ | with_reducible assumption | (refine bl_alloc ?_ (Nat.le_refl _) _) | (refine bl_set ?_ (by dsimp only; omega) _) | (refine Below.drew ?_) | (refine bl_drewN ?_ _) | (refine bl_call ?_ (Nat.le_refl _) (by assumption)))⟩
    · simp only [IntKind.wrap_u64]; omega
    · show _ = _
      simp only [IntKind.wrap_u64]; omega
  · go_enter Tryd.func58, Tryd.ntmps58
    go_wp2
    refine bodyPost_ret (by simp [results, Tryd.results58, go_sem]; rfl) rfl ?_
    refine ⟨_, _, rfl, ?_, ?_, by repeat (first | exact Below.refl _ _ | with_reducible assumption | (refine bl_alloc ?_ (Nat.le_refl _) _) | (refine bl_set ?_ (by dsimp only; omega) _) | (refine Below.drew ?_) | (refine bl_drewN ?_ _) | (refine bl_call ?_ (Nat.le_refl _) (by assumption)))⟩
    · simp only [IntKind.wrap_u64]; omega
    · show _ = _
      simp only [IntKind.wrap_u64]; omega

set_option maxHeartbeats 1000000 in
theorem ref_plus (a0 a1 b0 b1 : Int) (w : World) (h0 : 0 ≤ a0) (h1 : a0 ≤ 18446744073709551615) (g0 : 0 ≤ b0) (g1 : b0 ≤ 18446744073709551615)
     (k0 : 0 ≤ a1) (k1 : a1 ≤ 18446744073709551615) (j0 : 0 ≤ b1) (j1 : b1 ≤ 18446744073709551615)
     (hsum : a0 + 18446744073709551616 * a1 + (b0 + 18446744073709551616 * b1) < 340282366920938463463374607431768211456) :
    Calls Tryd.prog 89 #[.agg #[.int .u64 a0, .int .u64 a1], .agg #[.int .u64 b0, .int .u64 b1]] w
      (RetE (a0 + 18446744073709551616 * a1 + (b0 + 18446744073709551616 * b1)) w) := by
  have hw : IntKind.u64.wrap (a0 + b0) = (a0 + b0) % 18446744073709551616 := IntKind.wrap_u64 _
  by_cases hlt : a0 + b0 ≤ 18446744073709551615
  · have hd : decide (a0 + b0 < a0) = false := by simp; omega
    go_enter Tryd.func89, Tryd.ntmps89
    go_wp2
    refine bodyPost_ret (by simp [results, Tryd.results89, go_sem]; rfl) rfl ?_
    refine ⟨_, _, rfl, ?_, ?_, by repeat (first | exact Below.refl _ _ | with_reducible assumption | (refine bl_alloc ?_ (Nat.le_refl _) _) | (refine bl_set ?_ (by dsimp only; omega) _) | (refine Below.drew ?_) | (refine bl_drewN ?_ _) | (refine bl_call ?_ (Nat.le_refl _) (by assumption)))⟩
    · omega
    · show _ = _
      omega
  · have hd : decide ((a0 + b0) % 18446744073709551616 < a0) = true := by simp; omega
    go_enter Tryd.func89, Tryd.ntmps89
    go_wp2
    refine bodyPost_ret (by simp [results, Tryd.results89, go_sem]; rfl) rfl ?_
    refine ⟨_, _, rfl, ?_, ?_, by repeat (first | exact Below.refl _ _ | with_reducible assumption | (refine bl_alloc ?_ (Nat.le_refl _) _) | (refine bl_set ?_ (by dsimp only; omega) _) | (refine Below.drew ?_) | (refine bl_drewN ?_ _) | (refine bl_call ?_ (Nat.le_refl _) (by assumption)))⟩
    · omega
    · show _ = _
      omega

/-- the number that field f sees in two limbs -/
def nI (f a0 a1 : Int) : Int := if f = 1 then a0 else a0 + 18446744073709551616 * a1

/-- behind the first 'if' of Of -/
structure OfMid (f m a0 a1 : Int) (w wx : World) : Prop where
  ex : ∃ x0 x1 : Int, V2 wx w.heap.size (.int .u64 x0) (.int .u64 x1) ∧ (0 ≤ x0 ∧ x0 ≤ 18446744073709551615 ∧ 0 ≤ x1 ∧ x1 ≤ 18446744073709551615) ∧ Hid (x0 + 18446744073709551616 * x1 = nI f a0 a1) ∧ x0 + 18446744073709551616 * x1 < m + m
  res : V2 wx (w.heap.size + 1) (.int .u64 0) (.int .u64 0)
  below : Below w.heap.size w wx

set_option maxHeartbeats 2000000 in
theorem ref_Of (f m p0 p1 a0 a1 : Int) (w : World) (hm : RefM f m p0 p1) (h0 : 0 ≤ a0) (h1 : a0 ≤ 18446744073709551615) (k0 : 0 ≤ a1) (k1 : a1 ≤ 18446744073709551615) :
    Calls Tryd.prog 17 #[.int .i64 f, .agg #[.int .u64 a0, .int .u64 a1]] w (RetE (nI f a0 a1 % m) w) := by
  have hp : 0 ≤ p0 ∧ p0 ≤ 18446744073709551615 ∧ 0 ≤ p1 ∧ p1 ≤ 18446744073709551615 ∧ m = p0 + 18446744073709551616 * p1 := by
    rcases hm.or with ⟨_, rfl, rfl, rfl⟩ | ⟨_, rfl, rfl, rfl⟩ <;> omega
  obtain ⟨hp0, hp1, hp2, hp3, hpm'⟩ := hp
  have HPM := Lib.hid hpm'
  clear hpm'
  go_enter Tryd.func17, Tryd.ntmps17
  go_upto_if 6 with fail
  go_cut [] (fun wx => OfMid f m a0 a1 w wx)
  case first =>
    have q0 := (V2.new w (.int .u64 a0) (.int .u64 a1) 28).alloc (.cells #[.int .u64 0, .int .u64 0] 28)
    have s0 := V2.new (w.alloc (.cells #[.int .u64 a0, .int .u64 a1] 28)) (.int .u64 0) (.int .u64 0) 28
    simp only [World.size_alloc] at s0
    rcases hm.or with ⟨rfl, rfl, rfl, rfl⟩ | ⟨hf, rfl, rfl, rfl⟩
    · go_wp2
      go_meet
      refine ⟨⟨a0, 0, (V2.new w (.int .u64 a0) (.int .u64 0) 28).alloc (.cells #[.int .u64 0, .int .u64 0] 28), by omega, by show _ = _; unfold nI; rw [if_pos rfl]; omega, by omega⟩, ?_, by repeat (first | exact Below.refl _ _ | with_reducible assumption | (refine bl_alloc ?_ (Nat.le_refl _) _) | (refine bl_set ?_ (by dsimp only; omega) _) | (refine Below.drew ?_) | (refine bl_drewN ?_ _) | (refine bl_call ?_ (Nat.le_refl _) (by assumption)))⟩
      have s1 := V2.new (w.alloc (.cells #[.int .u64 a0, .int .u64 0] 28)) (.int .u64 0) (.int .u64 0) 28
      simpa only [World.size_alloc] using s1
    · have hb : (f == 1) = false := by simp; omega
      go_wp2
      go_meet
      exact ⟨⟨a0, a1, q0, by omega, by show _ = _; unfold nI; rw [if_neg hf], by omega⟩, s0, by repeat (first | exact Below.refl _ _ | with_reducible assumption | (refine bl_alloc ?_ (Nat.le_refl _) _) | (refine bl_set ?_ (by dsimp only; omega) _) | (refine Below.drew ?_) | (refine bl_drewN ?_ _) | (refine bl_call ?_ (Nat.le_refl _) (by assumption)))⟩
  case rest =>
    obtain ⟨⟨x0, x1, q1, ⟨hx0, hx1, hx2, hx3⟩, HX, hxm⟩, s1, hb0⟩ := hcut
    have hxm' : x0 + 18446744073709551616 * x1 < p0 + 18446744073709551616 * p1 + (p0 + 18446744073709551616 * p1) := by have := HPM.out; omega
    clear hxm
    have hq := q1
    obtain ⟨c10, c11, c12, c13, c14⟩ := hq
    by_cases hlt : x0 + 18446744073709551616 * x1 < p0 + 18446744073709551616 * p1
    · have hd : decide (x0 + 18446744073709551616 * x1 < p0 + 18446744073709551616 * p1) = true := by simp; omega
      go_wp2_with fail
      go_region_with (first
        | (go_at_call 57; refine (ref_P f m p0 p1 _ hm).mono ?_; rintro e w2 ⟨rfl, hb2'⟩; have hb2 := undrew hb2'; clear hb2'; have q2 := q1.call hb2; have s2 := s1.call hb2; obtain ⟨c20, c21, c22, c23, c24⟩ := q2)
        | (go_at_call 56; refine (ref_Less _ _ _ _ _ (by omega) (by omega) (by omega) (by omega)).mono ?_; rintro e w3 ⟨rfl, hb3⟩; have q3 := V2.call ⟨c20, c21, c22, c23, c24⟩ hb3; have s3 := s2.call hb3; obtain ⟨c30, c31, c32, c33, c34⟩ := V2.call ⟨c20, c21, c22, c23, c24⟩ hb3; obtain ⟨d30, d31, d32, d33, d34⟩ := s2.call hb3))
      all_goals
        go_wp2
        refine bodyPost_ret (results_v2 (b := w.heap.size + 1) (u := .int .u64 x0) (v := .int .u64 x1) ?_ rfl rfl) rfl ?_
        · exact V2.set ⟨d30, d31, d32, d33, d34⟩ _ _
        · refine ⟨_, _, rfl, ⟨hx0, hx1, hx2, hx3⟩, ?_, by repeat (first | exact Below.refl _ _ | with_reducible assumption | (refine bl_alloc ?_ (Nat.le_refl _) _) | (refine bl_set ?_ (by dsimp only; omega) _) | (refine Below.drew ?_) | (refine bl_drewN ?_ _) | (refine bl_call ?_ (Nat.le_refl _) (by assumption)))⟩
          show _ = _
          rw [← HX.out, Int.emod_eq_of_lt (by omega) (by rw [HPM.out]; exact hlt)]
    · have hd : decide (x0 + 18446744073709551616 * x1 < p0 + 18446744073709551616 * p1) = false := by simp; omega
      go_upto_region 3 with fail
      go_cut [12] (fun c wx => c = .bool true ∧ V2 wx w.heap.size (.int .u64 x0) (.int .u64 x1) ∧ V2 wx (w.heap.size + 1) (.int .u64 0) (.int .u64 0) ∧ Below w.heap.size w wx)
      case first =>
        go_region_with (first
        | (go_at_call 57; refine (ref_P f m p0 p1 _ hm).mono ?_; rintro e w2 ⟨rfl, hb2'⟩; have hb2 := undrew hb2'; clear hb2'; have q2 := q1.call hb2; have s2 := s1.call hb2; obtain ⟨c20, c21, c22, c23, c24⟩ := q2)
        | (go_at_call 56; refine (ref_Less _ _ _ _ _ (by omega) (by omega) (by omega) (by omega)).mono ?_; rintro e w3 ⟨rfl, hb3⟩; have q3 := V2.call ⟨c20, c21, c22, c23, c24⟩ hb3; have s3 := s2.call hb3; obtain ⟨c30, c31, c32, c33, c34⟩ := V2.call ⟨c20, c21, c22, c23, c24⟩ hb3; obtain ⟨d30, d31, d32, d33, d34⟩ := s2.call hb3))
        all_goals
          go_wp2
          go_meet
          exact ⟨rfl, q3, s3, by repeat (first | exact Below.refl _ _ | with_reducible assumption | (refine bl_alloc ?_ (Nat.le_refl _) _) | (refine bl_set ?_ (by dsimp only; omega) _) | (refine Below.drew ?_) | (refine bl_drewN ?_ _) | (refine bl_call ?_ (Nat.le_refl _) (by assumption)))⟩
      case rest =>
        obtain ⟨rfl, q4, s4, hb4⟩ := hcut
        have hq4 := q4
        obtain ⟨c40, c41, c42, c43, c44⟩ := hq4
        go_wp2_with fail
        go_region_with (first
        | (go_at_call 57; refine (ref_P f m p0 p1 _ hm).mono ?_; rintro e w5 ⟨rfl, hb5'⟩; have hb5 := undrew hb5'; clear hb5'; have q5 := q4.call hb5; have s5 := s4.call hb5; obtain ⟨c50, c51, c52, c53, c54⟩ := q5)
        | (go_at_call 58; refine (ref_take _ _ _ _ _ (by omega) (by omega) (by omega) (by omega) (by omega) (by omega) (by omega) (by omega)).mono ?_; rintro e w6 ⟨z0, z1, rfl, ⟨hz0, hz1, hz2, hz3⟩, HZ, hb6⟩; obtain ⟨d60, d61, d62, d63, d64⟩ := s5.call hb6))
        all_goals
          go_wp2
          refine bodyPost_ret (results_v2 (b := w.heap.size + 1) (u := .int .u64 z0) (v := .int .u64 z1) ?_ rfl rfl) rfl ?_
          · exact V2.set ⟨d60, d61, d62, d63, d64⟩ _ _
          · refine ⟨_, _, rfl, ⟨hz0, hz1, hz2, hz3⟩, ?_, by repeat (first | exact Below.refl _ _ | with_reducible assumption | (refine bl_alloc ?_ (Nat.le_refl _) _) | (refine bl_set ?_ (by dsimp only; omega) _) | (refine Below.drew ?_) | (refine bl_drewN ?_ _) | (refine bl_call ?_ (Nat.le_refl _) (by assumption)))⟩
            show _ = _
            have e := HZ.out
            rw [Int.emod_eq_of_lt (by omega) (by omega)] at e
            rw [← HX.out, HPM.out, e, ← Int.sub_emod_right, Int.emod_eq_of_lt (by omega) (by omega)]

end Go.Proofs.YtfhmineolncefaaDoor

namespace Go.Proofs.YtfhmineolncefaaDoor
open Go.RowKit Fm
set_option linter.unusedVariables false
set_option maxRecDepth 100000

theorem field_Valid (f : Int) (w : World) :
    Calls Tryd.prog 59 #[.int .u8 f] w fun e w' => e = .returned (.bool (f == 1 || f == 2)) ∧ w = w' := by
  by_cases h1 : f = 1
  · subst h1
    go_enter Tryd.func59, Tryd.ntmps59
    go_wp2
    go_ret
    exact ⟨rfl, rfl⟩
  · have hb1 : (f == 1) = false := by simp; omega
    by_cases h2 : f = 2
    · subst h2
      go_enter Tryd.func59, Tryd.ntmps59
      go_wp2
      go_ret
      exact ⟨rfl, rfl⟩
    · have hb2 : (f == 2) = false := by simp; omega
      go_enter Tryd.func59, Tryd.ntmps59
      go_wp2
      go_ret
      exact ⟨ret_bool (by rw [hb1, hb2]; rfl), rfl⟩

/-- the small field, the large one -/
structure FM (f m : Int) : Prop where
  or : (f = 1 ∧ m = 18446744069414584321) ∨ (f = 2 ∧ m = 340282366920938462946865773367900766209)

set_option maxHeartbeats 2000000 in
theorem field_Add (f m a0 a1 b0 b1 : Int) (w : World) (hf : FM f m) (h0 : 0 ≤ a0) (h1 : a0 ≤ 18446744073709551615) (k0 : 0 ≤ a1) (k1 : a1 ≤ 18446744073709551615)
    (g0 : 0 ≤ b0) (g1 : b0 ≤ 18446744073709551615) (j0 : 0 ≤ b1) (j1 : b1 ≤ 18446744073709551615) :
    Calls Tryd.prog 63 #[.int .u8 f, .agg #[.int .u64 a0, .int .u64 a1], .agg #[.int .u64 b0, .int .u64 b1]] w (RetE ((nI f a0 a1 + nI f b0 b1) % m) w) := by
  rcases hf.or with ⟨rfl, rfl⟩ | ⟨rfl, rfl⟩
  · have s0 := V2.new ((w.alloc (.cells #[.int .u64 a0, .int .u64 a1] 28)).alloc (.cells #[.int .u64 b0, .int .u64 b1] 28)) (.int .u64 0) (.int .u64 0) 28
    go_enter Tryd.func63, Tryd.ntmps63
    go_wp2_with (go_at_call 84; refine (gold_Add _ _ _ (by omega) (by omega) (by omega) (by omega)).mono ?_; rintro e w' ⟨rfl, rfl⟩)
    refine bodyPost_ret (by simp [results, Tryd.results63, go_sem]; rfl) rfl ?_
    refine ⟨_, _, rfl, ?_, ?_, by repeat (first | exact Below.refl _ _ | with_reducible assumption | (refine bl_alloc ?_ (Nat.le_refl _) _) | (refine bl_set ?_ (by dsimp only; omega) _) | (refine Below.drew ?_) | (refine bl_drewN ?_ _) | (refine bl_call ?_ (Nat.le_refl _) (by assumption)))⟩
    · omega
    · show _ = _
      unfold nI
      simp
  · go_enter Tryd.func63, Tryd.ntmps63
    go_wp2_with fail
    refine (wide_Add _ _ _ _ _ h0 h1 k0 k1 g0 g1 j0 j1).mono ?_
    rintro e w6 ⟨z0, z1, rfl, ⟨hz0, hz1, hz2, hz3⟩, HZ, hb6⟩
    have s0 := V2.new ((w.alloc (.cells #[.int .u64 a0, .int .u64 a1] 28)).alloc (.cells #[.int .u64 b0, .int .u64 b1] 28)) (.int .u64 0) (.int .u64 0) 28
    have s6 := s0.call hb6
    simp only [World.size_alloc] at s6
    clear s0
    have hs6 := s6
    obtain ⟨d60, d61, d62, d63, d64⟩ := hs6
    go_wp2
    refine bodyPost_ret (results_v2 (b := w.heap.size + 1 + 1) (u := .int .u64 z0) (v := .int .u64 z1) ?_ rfl rfl) rfl ?_
    · exact V2.set s6 _ _
    · refine ⟨_, _, rfl, ⟨hz0, hz1, hz2, hz3⟩, ?_, by repeat (first | exact Below.refl _ _ | with_reducible assumption | (refine bl_alloc ?_ (Nat.le_refl _) _) | (refine bl_set ?_ (by dsimp only; omega) _) | (refine Below.drew ?_) | (refine bl_drewN ?_ _) | (refine bl_call ?_ (Nat.le_refl _) (by assumption)))⟩
      show _ = _
      rw [HZ.out]
      unfold nI
      simp

set_option maxHeartbeats 2000000 in
theorem field_Sub (f m a0 a1 b0 b1 : Int) (w : World) (hf : FM f m) (h0 : 0 ≤ a0) (h1 : a0 ≤ 18446744073709551615) (k0 : 0 ≤ a1) (k1 : a1 ≤ 18446744073709551615)
    (g0 : 0 ≤ b0) (g1 : b0 ≤ 18446744073709551615) (j0 : 0 ≤ b1) (j1 : b1 ≤ 18446744073709551615) :
    Calls Tryd.prog 72 #[.int .u8 f, .agg #[.int .u64 a0, .int .u64 a1], .agg #[.int .u64 b0, .int .u64 b1]] w (RetE ((nI f a0 a1 - nI f b0 b1) % m) w) := by
  rcases hf.or with ⟨rfl, rfl⟩ | ⟨rfl, rfl⟩
  · have s0 := V2.new ((w.alloc (.cells #[.int .u64 a0, .int .u64 a1] 28)).alloc (.cells #[.int .u64 b0, .int .u64 b1] 28)) (.int .u64 0) (.int .u64 0) 28
    go_enter Tryd.func72, Tryd.ntmps72
    go_wp2_with (go_at_call 97; refine (gold_Sub _ _ _ (by omega) (by omega) (by omega) (by omega)).mono ?_; rintro e w' ⟨rfl, rfl⟩)
    refine bodyPost_ret (by simp [results, Tryd.results72, go_sem]; rfl) rfl ?_
    refine ⟨_, _, rfl, ?_, ?_, by repeat (first | exact Below.refl _ _ | with_reducible assumption | (refine bl_alloc ?_ (Nat.le_refl _) _) | (refine bl_set ?_ (by dsimp only; omega) _) | (refine Below.drew ?_) | (refine bl_drewN ?_ _) | (refine bl_call ?_ (Nat.le_refl _) (by assumption)))⟩
    · omega
    · show _ = _
      unfold nI
      simp
  · go_enter Tryd.func72, Tryd.ntmps72
    go_wp2_with fail
    refine (wide_Sub _ _ _ _ _ h0 h1 k0 k1 g0 g1 j0 j1).mono ?_
    rintro e w6 ⟨z0, z1, rfl, ⟨hz0, hz1, hz2, hz3⟩, HZ, hb6⟩
    have s0 := V2.new ((w.alloc (.cells #[.int .u64 a0, .int .u64 a1] 28)).alloc (.cells #[.int .u64 b0, .int .u64 b1] 28)) (.int .u64 0) (.int .u64 0) 28
    have s6 := s0.call hb6
    simp only [World.size_alloc] at s6
    clear s0
    have hs6 := s6
    obtain ⟨d60, d61, d62, d63, d64⟩ := hs6
    go_wp2
    refine bodyPost_ret (results_v2 (b := w.heap.size + 1 + 1) (u := .int .u64 z0) (v := .int .u64 z1) ?_ rfl rfl) rfl ?_
    · exact V2.set s6 _ _
    · refine ⟨_, _, rfl, ⟨hz0, hz1, hz2, hz3⟩, ?_, by repeat (first | exact Below.refl _ _ | with_reducible assumption | (refine bl_alloc ?_ (Nat.le_refl _) _) | (refine bl_set ?_ (by dsimp only; omega) _) | (refine Below.drew ?_) | (refine bl_drewN ?_ _) | (refine bl_call ?_ (Nat.le_refl _) (by assumption)))⟩
      show _ = _
      rw [HZ.out]
      unfold nI
      simp

theorem field_In (f m a0 a1 : Int) (w : World) (hf : FM f m) (h0 : 0 ≤ a0) (h1 : a0 ≤ 18446744073709551615) (k0 : 0 ≤ a1) (k1 : a1 ≤ 18446744073709551615) :
    Calls Tryd.prog 80 #[.int .u8 f, .agg #[.int .u64 a0, .int .u64 a1]] w fun e w' => e = .returned (.bool (decide (a0 + 18446744073709551616 * a1 < m))) ∧ Below w.heap.size w w' := by
  rcases hf.or with ⟨rfl, rfl⟩ | ⟨rfl, rfl⟩
  · by_cases hz : a1 = 0
    · subst hz
      have hd : decide (a0 + 18446744073709551616 * 0 < 18446744069414584321) = decide (a0 < 18446744069414584321) := by congr 1; simp
      rw [hd]
      clear hd
      go_enter Tryd.func80, Tryd.ntmps80
      go_wp2_with (go_at_call 101; refine (gold_In _ _ (by omega) (by omega)).mono ?_; rintro e w' ⟨rfl, rfl⟩)
      go_ret
      exact ⟨rfl, by repeat (first | exact Below.refl _ _ | with_reducible assumption | (refine bl_alloc ?_ (Nat.le_refl _) _) | (refine bl_set ?_ (by dsimp only; omega) _) | (refine Below.drew ?_) | (refine bl_drewN ?_ _) | (refine bl_call ?_ (Nat.le_refl _) (by assumption)))⟩
    · have hb : (a1 == 0) = false := by simp; omega
      have hd : decide (a0 + 18446744073709551616 * a1 < 18446744069414584321) = false := by simp; omega
      rw [hd]
      clear hd
      go_enter Tryd.func80, Tryd.ntmps80
      go_wp2
      go_ret
      exact ⟨rfl, by repeat (first | exact Below.refl _ _ | with_reducible assumption | (refine bl_alloc ?_ (Nat.le_refl _) _) | (refine bl_set ?_ (by dsimp only; omega) _) | (refine Below.drew ?_) | (refine bl_drewN ?_ _) | (refine bl_call ?_ (Nat.le_refl _) (by assumption)))⟩
  · go_enter Tryd.func80, Tryd.ntmps80
    go_wp2_with (go_at_call 102; refine (wide_In _ _ _ (by omega) (by omega)).mono ?_; rintro e w6 ⟨rfl, hb6⟩)
    go_ret
    exact ⟨rfl, by repeat (first | exact Below.refl _ _ | with_reducible assumption | (refine bl_alloc ?_ (Nat.le_refl _) _) | (refine bl_set ?_ (by dsimp only; omega) _) | (refine Below.drew ?_) | (refine bl_drewN ?_ _) | (refine bl_call ?_ (Nat.le_refl _) (by assumption)))⟩

end Go.Proofs.YtfhmineolncefaaDoor

namespace Go.Proofs.YtfhmineolncefaaDoor
open Go.RowKit Fm
set_option linter.unusedVariables false
set_option maxRecDepth 100000

theorem eN_of {x0 x1 n : Int} (h : x0 + 18446744073709551616 * x1 = n) (h0 : 0 ≤ x0) (h1 : x0 ≤ 18446744073709551615) : (x0, x1) = eN n := by
  unfold eN
  rw [Prod.mk.injEq]
  omega

/-- place by place -/
def zipO (op : Int → Int → Int) (f m : Int) (xs ys : List E) : List E := List.zipWith (fun a b => eN (op (nI f a.1 a.2) (nI f b.1 b.2) % m)) xs ys

theorem FM.pos {f m : Int} (h : FM f m) : 0 < m ∧ m ≤ 340282366920938462946865773367900766209 := by
  rcases h.or with ⟨_, rfl⟩ | ⟨_, rfl⟩ <;> omega

theorem okE_eN' {n m : Int} (h : 0 < m ∧ m ≤ 340282366920938462946865773367900766209) : okE (eN (n % m)) := by
  have h1 := Int.emod_nonneg n (b := m) (by omega)
  have h2 := Int.emod_lt_of_pos n h.1
  exact okE_eN _ h1 (by omega)

theorem okE_zipO {op : Int → Int → Int} {f m : Int} (h : FM f m) (xs ys : List E) : ∀ e, e ∈ zipO op f m xs ys → okE e := by
  intro e he
  unfold zipO at he
  rw [List.mem_iff_getElem?] at he
  obtain ⟨i, hi⟩ := he
  rw [List.getElem?_zipWith] at hi
  split at hi
  · simp only [Option.some.injEq] at hi
    rw [← hi]
    exact okE_eN' h.pos
  · cases hi

theorem fill_step {α : Type} (zs : List α) (z : α) (n k : Nat) (e : α) (hz : zs.length = n) (hk : k < n) (he : zs[k]? = some e) :
    (zs.take k ++ List.replicate (n - k) z).set k e = zs.take (k + 1) ++ List.replicate (n - (k + 1)) z := by
  have hl : (zs.take k).length = k := by rw [List.length_take]; omega
  rw [List.take_add_one, he, List.set_append_right _ _ (by omega), hl, Nat.sub_self, show n - k = (n - (k + 1)) + 1 from by omega, List.replicate_succ, List.set_cons_zero]
  simp

/-- a slice of elements comes back, in a block of the call's own; no error -/
def RetSl (w : World) (zs : List E) (e : Ending) (w' : World) : Prop :=
  ∃ g, e = .returned (.tuple #[.slice (some ⟨g, 0, none⟩) zs.length zs.length, .int .i64 0]) ∧ BlkE w' g zs ∧ w.heap.size ≤ g ∧ Below w.heap.size w w'

set_option maxHeartbeats 4000000 in
theorem pair_Sub (f m : Int) (hf : FM f m) (va vb : Value) (xs ys : List E) (w : World) (hx : SlE w w.heap.size va xs) (hy : SlE w w.heap.size vb ys) (hl : xs.length = ys.length) (hn : xs.length ≤ 1099511627776) :
    Calls Tryd.prog 62 #[va, vb, .func (.func 72) #[.int .u8 f] #[]] w (RetSl w (zipO (· - ·) f m xs ys)) := by
  obtain ⟨⟨A, c, rfl, hc, hcm, hA⟩, hokx⟩ := hx
  obtain ⟨⟨A', c', rfl, hc', hcm', hA'⟩, hoky⟩ := hy
  obtain ⟨zs, hzs⟩ : ∃ zs, zs = zipO (· - ·) f m xs ys := ⟨_, rfl⟩
  have hzl : zs.length = xs.length := by rw [hzs]; unfold zipO; rw [List.length_zipWith]; omega
  rw [← hzs]
  have HZS := Lib.hid hzs
  have HZL := Lib.hid hzl
  have HL := Lib.hid hl
  have hb : ((xs.length : Int) != (ys.length : Int)) = false := by simp; omega
  clear hzs hzl hl
  have hmk := make_elem xs.length hn
  go_enter Tryd.func62, Tryd.ntmps62
  go_wp2_with fail
  go_loopw [20] (fun i wr => ∃ k : Nat, k ≤ xs.length ∧ i = .int .i64 k ∧ BlkE wr w.heap.size (zs.take k ++ List.replicate (xs.length - k) (0, 0)) ∧ Below w.heap.size w wr) (fun i _ => xs.length - (intOf i).toNat)
  case atStart => exact ⟨0, Nat.zero_le _, rfl, heap_alloc_new w _, by repeat (first | exact Below.refl _ _ | with_reducible assumption | (refine bl_alloc ?_ (Nat.le_refl _) _) | (refine bl_set ?_ (by dsimp only; omega) _) | (refine Below.drew ?_) | (refine bl_drewN ?_ _) | (refine bl_call ?_ (Nat.le_refl _) (by assumption)))⟩
  case round =>
    obtain ⟨k, hk, rfl, HB, hbw⟩ := hrel
    by_cases hlt : k < xs.length
    · obtain ⟨b, o, rfl, hB, hr⟩ := hA (by omega)
      obtain ⟨b', o', rfl, hB', hr'⟩ := hA' (by have := HL.out; omega)
      have hlt' : k < ys.length := by have := HL.out; omega
      obtain ⟨⟨x0, x1⟩, he⟩ : ∃ e, xs[k]? = some e := ⟨_, List.getElem?_eq_getElem hlt⟩
      obtain ⟨⟨y0, y1⟩, he'⟩ : ∃ e, ys[k]? = some e := ⟨_, List.getElem?_eq_getElem hlt'⟩
      have hkx := hokx _ (List.mem_of_getElem? he)
      have hky := hoky _ (List.mem_of_getElem? he')
      obtain ⟨hx0, hx1, hx2, hx3⟩ := hkx
      obtain ⟨hy0, hy1, hy2, hy3⟩ := hky
      dsimp only at hx0 hx1 hx2 hx3 hy0 hy1 hy2 hy3
      have hrw := hr.below hbw hB
      have hrw' := hr'.below hbw hB'
      obtain ⟨c0, c1⟩ := hrw k _ he
      obtain ⟨d0, d1⟩ := hrw' k _ he'
      dsimp only at c0 c1 d0 d1
      have hez : zs[k]? = some (eN ((nI f x0 x1 - nI f y0 y1) % m)) := by
        rw [HZS.out]
        unfold zipO
        rw [List.getElem?_zipWith, he, he']
      have HEZ := Lib.hid hez
      have hzk : ∃ u v : Value, wr.cell? ⟨w.heap.size, k * 2, none⟩ = some u ∧ wr.cell? ⟨w.heap.size, k * 2 + 1, none⟩ = some v := by
        have hlen : k < (zs.take k ++ List.replicate (xs.length - k) ((0, 0) : E)).length := by
          rw [List.length_append, List.length_take, List.length_replicate, HZL.out]
          omega
        obtain ⟨e1, e2⟩ := HB.row k _ (List.getElem?_eq_getElem hlen)
        exact ⟨_, _, e1, e2⟩
      obtain ⟨u, v, z0, z1⟩ := hzk
      have fz0 := HB.frozen (k * 2)
      have fz1 := HB.frozen (k * 2 + 1)
      have HBH := Lib.hid HB
      clear he he' hr hr' hA hA' hez hrw hrw' HB
      go_wp2_with fail
      go_region_with (first
        | (go_at_call 72; refine (field_Sub f m _ _ _ _ _ hf (by omega) (by omega) (by omega) (by omega) (by omega) (by omega) (by omega) (by omega)).mono ?_; rintro e w6 ⟨r0, r1, rfl, ⟨hr0, hr1, hr2, hr3⟩, HR, hb6'⟩; have hb6 := undrew hb6'; clear hb6'; have z60 := cell_call z0 hb6; have z61 := cell_call z1 hb6; have g60 := frozen_call (lt_of_cell z0) fz0 hb6; have g61 := frozen_call (lt_of_cell z1) fz1 hb6))
      all_goals
        go_wp2
        go_roundw
        case rel =>
          have h := (HBH.out.call hb6).set k r0 r1
          rw [fill_step zs _ _ k (r0, r1) HZL.out hlt (HEZ.out.trans (by rw [eN_of HR.out hr0 hr1]))] at h
          exact ⟨k + 1, by omega, by go_num, h, by repeat (first | exact Below.refl _ _ | with_reducible assumption | (refine bl_alloc ?_ (Nat.le_refl _) _) | (refine bl_set ?_ (by dsimp only; omega) _) | (refine Below.drew ?_) | (refine bl_drewN ?_ _) | (refine bl_call ?_ (Nat.le_refl _) (by assumption)))⟩
        case measure => simp [intOf]; omega
    · obtain rfl : k = xs.length := by omega
      go_wp2
      go_ret2
      have h := HB
      rw [List.take_of_length_le (by rw [HZL.out]; exact Nat.le_refl _), Nat.sub_self, List.replicate_zero, List.append_nil] at h
      refine ⟨w.heap.size, ?_, h, Nat.le_refl _, by repeat (first | exact Below.refl _ _ | with_reducible assumption | (refine bl_alloc ?_ (Nat.le_refl _) _) | (refine bl_set ?_ (by dsimp only; omega) _) | (refine Below.drew ?_) | (refine bl_drewN ?_ _) | (refine bl_call ?_ (Nat.le_refl _) (by assumption)))⟩
      rw [HZL.out]
      rfl

set_option maxHeartbeats 4000000 in
theorem pair_Add (f m : Int) (hf : FM f m) (va vb : Value) (xs ys : List E) (w : World) (hx : SlE w w.heap.size va xs) (hy : SlE w w.heap.size vb ys) (hl : xs.length = ys.length) (hn : xs.length ≤ 1099511627776) :
    Calls Tryd.prog 62 #[va, vb, .func (.func 63) #[.int .u8 f] #[]] w (RetSl w (zipO (· + ·) f m xs ys)) := by
  obtain ⟨⟨A, c, rfl, hc, hcm, hA⟩, hokx⟩ := hx
  obtain ⟨⟨A', c', rfl, hc', hcm', hA'⟩, hoky⟩ := hy
  obtain ⟨zs, hzs⟩ : ∃ zs, zs = zipO (· + ·) f m xs ys := ⟨_, rfl⟩
  have hzl : zs.length = xs.length := by rw [hzs]; unfold zipO; rw [List.length_zipWith]; omega
  rw [← hzs]
  have HZS := Lib.hid hzs
  have HZL := Lib.hid hzl
  have HL := Lib.hid hl
  have hb : ((xs.length : Int) != (ys.length : Int)) = false := by simp; omega
  clear hzs hzl hl
  have hmk := make_elem xs.length hn
  go_enter Tryd.func62, Tryd.ntmps62
  go_wp2_with fail
  go_loopw [20] (fun i wr => ∃ k : Nat, k ≤ xs.length ∧ i = .int .i64 k ∧ BlkE wr w.heap.size (zs.take k ++ List.replicate (xs.length - k) (0, 0)) ∧ Below w.heap.size w wr) (fun i _ => xs.length - (intOf i).toNat)
  case atStart => exact ⟨0, Nat.zero_le _, rfl, heap_alloc_new w _, by repeat (first | exact Below.refl _ _ | with_reducible assumption | (refine bl_alloc ?_ (Nat.le_refl _) _) | (refine bl_set ?_ (by dsimp only; omega) _) | (refine Below.drew ?_) | (refine bl_drewN ?_ _) | (refine bl_call ?_ (Nat.le_refl _) (by assumption)))⟩
  case round =>
    obtain ⟨k, hk, rfl, HB, hbw⟩ := hrel
    by_cases hlt : k < xs.length
    · obtain ⟨b, o, rfl, hB, hr⟩ := hA (by omega)
      obtain ⟨b', o', rfl, hB', hr'⟩ := hA' (by have := HL.out; omega)
      have hlt' : k < ys.length := by have := HL.out; omega
      obtain ⟨⟨x0, x1⟩, he⟩ : ∃ e, xs[k]? = some e := ⟨_, List.getElem?_eq_getElem hlt⟩
      obtain ⟨⟨y0, y1⟩, he'⟩ : ∃ e, ys[k]? = some e := ⟨_, List.getElem?_eq_getElem hlt'⟩
      have hkx := hokx _ (List.mem_of_getElem? he)
      have hky := hoky _ (List.mem_of_getElem? he')
      obtain ⟨hx0, hx1, hx2, hx3⟩ := hkx
      obtain ⟨hy0, hy1, hy2, hy3⟩ := hky
      dsimp only at hx0 hx1 hx2 hx3 hy0 hy1 hy2 hy3
      have hrw := hr.below hbw hB
      have hrw' := hr'.below hbw hB'
      obtain ⟨c0, c1⟩ := hrw k _ he
      obtain ⟨d0, d1⟩ := hrw' k _ he'
      dsimp only at c0 c1 d0 d1
      have hez : zs[k]? = some (eN ((nI f x0 x1 + nI f y0 y1) % m)) := by
        rw [HZS.out]
        unfold zipO
        rw [List.getElem?_zipWith, he, he']
      have HEZ := Lib.hid hez
      have hzk : ∃ u v : Value, wr.cell? ⟨w.heap.size, k * 2, none⟩ = some u ∧ wr.cell? ⟨w.heap.size, k * 2 + 1, none⟩ = some v := by
        have hlen : k < (zs.take k ++ List.replicate (xs.length - k) ((0, 0) : E)).length := by
          rw [List.length_append, List.length_take, List.length_replicate, HZL.out]
          omega
        obtain ⟨e1, e2⟩ := HB.row k _ (List.getElem?_eq_getElem hlen)
        exact ⟨_, _, e1, e2⟩
      obtain ⟨u, v, z0, z1⟩ := hzk
      have fz0 := HB.frozen (k * 2)
      have fz1 := HB.frozen (k * 2 + 1)
      have HBH := Lib.hid HB
      clear he he' hr hr' hA hA' hez hrw hrw' HB
      go_wp2_with fail
      go_region_with (first
        | (go_at_call 63; refine (field_Add f m _ _ _ _ _ hf (by omega) (by omega) (by omega) (by omega) (by omega) (by omega) (by omega) (by omega)).mono ?_; rintro e w6 ⟨r0, r1, rfl, ⟨hr0, hr1, hr2, hr3⟩, HR, hb6'⟩; have hb6 := undrew hb6'; clear hb6'; have z60 := cell_call z0 hb6; have z61 := cell_call z1 hb6; have g60 := frozen_call (lt_of_cell z0) fz0 hb6; have g61 := frozen_call (lt_of_cell z1) fz1 hb6))
      all_goals
        go_wp2
        go_roundw
        case rel =>
          have h := (HBH.out.call hb6).set k r0 r1
          rw [fill_step zs _ _ k (r0, r1) HZL.out hlt (HEZ.out.trans (by rw [eN_of HR.out hr0 hr1]))] at h
          exact ⟨k + 1, by omega, by go_num, h, by repeat (first | exact Below.refl _ _ | with_reducible assumption | (refine bl_alloc ?_ (Nat.le_refl _) _) | (refine bl_set ?_ (by dsimp only; omega) _) | (refine Below.drew ?_) | (refine bl_drewN ?_ _) | (refine bl_call ?_ (Nat.le_refl _) (by assumption)))⟩
        case measure => simp [intOf]; omega
    · obtain rfl : k = xs.length := by omega
      go_wp2
      go_ret2
      have h := HB
      rw [List.take_of_length_le (by rw [HZL.out]; exact Nat.le_refl _), Nat.sub_self, List.replicate_zero, List.append_nil] at h
      refine ⟨w.heap.size, ?_, h, Nat.le_refl _, by repeat (first | exact Below.refl _ _ | with_reducible assumption | (refine bl_alloc ?_ (Nat.le_refl _) _) | (refine bl_set ?_ (by dsimp only; omega) _) | (refine Below.drew ?_) | (refine bl_drewN ?_ _) | (refine bl_call ?_ (Nat.le_refl _) (by assumption)))⟩
      rw [HZL.out]
      rfl

/-- no slice, an error -/
def RetErr (n : Int) (w : World) (e : Ending) (w' : World) : Prop := e = .returned (.tuple #[.slice none 0 0, .int .i64 n]) ∧ Below w.heap.size w w'

theorem pair_size (va vb vf : Value) (xs ys : List E) (w : World) (hx : SlE w w.heap.size va xs) (hy : SlE w w.heap.size vb ys) (hl : xs.length ≠ ys.length) :
    Calls Tryd.prog 62 #[va, vb, vf] w (RetErr 9 w) := by
  obtain ⟨⟨A, c, rfl, hc, hcm, hA⟩, hokx⟩ := hx
  obtain ⟨⟨A', c', rfl, hc', hcm', hA'⟩, hoky⟩ := hy
  clear hA hA'
  have hb : ((xs.length : Int) != (ys.length : Int)) = true := by simp; omega
  go_enter Tryd.func62, Tryd.ntmps62
  go_wp2
  go_ret2
  exact ⟨rfl, by repeat (first | exact Below.refl _ _ | with_reducible assumption | (refine bl_alloc ?_ (Nat.le_refl _) _) | (refine bl_set ?_ (by dsimp only; omega) _) | (refine Below.drew ?_) | (refine bl_drewN ?_ _) | (refine bl_call ?_ (Nat.le_refl _) (by assumption)))⟩

theorem field_AddVec (f m : Int) (hf : FM f m) (va vb : Value) (xs ys : List E) (w : World) (hx : SlE w w.heap.size va xs) (hy : SlE w w.heap.size vb ys) (hl : xs.length = ys.length) (hn : xs.length ≤ 1099511627776) :
    Calls Tryd.prog 19 #[.int .u8 f, va, vb] w (RetSl w (zipO (· + ·) f m xs ys)) := by
  have hc := pair_Add f m hf va vb xs ys w hx hy hl hn
  obtain ⟨⟨A, c, rfl, hc, hcm, hA⟩, hokx⟩ := hx
  obtain ⟨⟨A', c', rfl, hc', hcm', hA'⟩, hoky⟩ := hy
  have HC := Lib.hid hc
  clear hc hl
  have hmf : ∀ (fn : Fn) (first cap : Array Value) (w : World), (Instr.makeFunc fn first cap).run Tryd.prog w = .ok (.func fn first cap) w := fun _ _ _ _ => rfl
  go_enter Tryd.func19, Tryd.ntmps19
  go_wp2_with fail
  refine HC.out.mono ?_
  rintro e w1 ⟨g, rfl, hB, hg, hb⟩
  go_wp2
  go_ret2
  exact ⟨g, rfl, hB, hg, hb⟩

theorem field_AddVec_size (f : Int) (va vb : Value) (xs ys : List E) (w : World) (hx : SlE w w.heap.size va xs) (hy : SlE w w.heap.size vb ys) (hl : xs.length ≠ ys.length) :
    Calls Tryd.prog 19 #[.int .u8 f, va, vb] w (RetErr 9 w) := by
  have hc := fun vf => pair_size va vb vf xs ys w hx hy hl
  obtain ⟨⟨A, c, rfl, hc, hcm, hA⟩, hokx⟩ := hx
  obtain ⟨⟨A', c', rfl, hc', hcm', hA'⟩, hoky⟩ := hy
  have HC := Lib.hid hc
  clear hc hl
  have hmf : ∀ (fn : Fn) (first cap : Array Value) (w : World), (Instr.makeFunc fn first cap).run Tryd.prog w = .ok (.func fn first cap) w := fun _ _ _ _ => rfl
  go_enter Tryd.func19, Tryd.ntmps19
  go_wp2_with fail
  refine (HC.out _).mono ?_
  rintro e w1 ⟨rfl, hb⟩
  go_wp2
  go_ret2
  exact ⟨rfl, hb⟩

end Go.Proofs.YtfhmineolncefaaDoor
