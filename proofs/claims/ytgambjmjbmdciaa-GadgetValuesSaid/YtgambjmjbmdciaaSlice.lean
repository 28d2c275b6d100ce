/-
  SLICES OF ELEMENTS: what a slice value reads as; two lists of elements compared (tallymanref01.Same).
-/
import Derived.Test.YtgambjmjbmdciaaEl
import Derived.Test.YtgambjmjbmdciaaElem
import Derived.Test.YtgambjmjbmdciaaElemEq
namespace Go.Proofs.Ytgambjmjbmdciaa
open Go.RowKit Fm
set_option linter.unusedVariables false
set_option maxRecDepth 100000

/-- the cells from ⟨b, o⟩ on hold the elements xs -/
def RowE (w : World) (b o : Nat) (xs : List E) : Prop :=
  ∀ (i : Nat) (e : E), xs[i]? = some e → w.cell? ⟨b, o + i * 2, none⟩ = some (.int .u64 e.1) ∧ w.cell? ⟨b, o + i * 2 + 1, none⟩ = some (.int .u64 e.2)

/-- a slice value reads as the elements xs; what it reads lies below block B -/
structure SlE (w : World) (B : Nat) (v : Value) (xs : List E) : Prop where
  ex : ∃ (A : Option Addr) (c : Nat), v = .slice A xs.length c ∧ xs.length ≤ c ∧ c ≤ 9223372036854775807 ∧ (0 < xs.length → ∃ b o, A = some ⟨b, o, none⟩ ∧ b < B ∧ RowE w b o xs)
  ok : ∀ e, e ∈ xs → okE e

theorem RowE.call {w w' : World} {b o : Nat} {xs : List E} (h : RowE w b o xs) (hb : Below w.heap.size w w') : RowE w' b o xs :=
  fun i e hi => ⟨cell_call (h i e hi).1 hb, cell_call (h i e hi).2 hb⟩
theorem RowE.below {w w' : World} {B b o : Nat} {xs : List E} (h : RowE w b o xs) (hb : Below B w w') (hB : b < B) : RowE w' b o xs :=
  fun i e hi => ⟨(hb.cell (p := ⟨b, o + i * 2, none⟩) hB).trans (h i e hi).1, (hb.cell (p := ⟨b, o + i * 2 + 1, none⟩) hB).trans (h i e hi).2⟩
theorem SlE.below {w w' : World} {B : Nat} {v : Value} {xs : List E} (h : SlE w B v xs) (hb : Below B w w') : SlE w' B v xs := by
  obtain ⟨⟨A, c, hv, h1, h2, h3⟩, ok⟩ := h
  exact ⟨⟨A, c, hv, h1, h2, fun hn => let ⟨b, o, hA, hB, hr⟩ := h3 hn; ⟨b, o, hA, hB, hr.below hb hB⟩⟩, ok⟩
theorem SlE.mono {w : World} {B B' : Nat} {v : Value} {xs : List E} (h : SlE w B v xs) (hB : B ≤ B') : SlE w B' v xs := by
  obtain ⟨⟨A, c, hv, h1, h2, h3⟩, ok⟩ := h
  exact ⟨⟨A, c, hv, h1, h2, fun hn => let ⟨b, o, hA, hb, hr⟩ := h3 hn; ⟨b, o, hA, Nat.lt_of_lt_of_le hb hB, hr⟩⟩, ok⟩
theorem SlE.nil (w : World) (B : Nat) : SlE w B (.slice none 0 0) [] := ⟨⟨none, 0, rfl, Nat.le_refl _, by simp, fun h => absurd h (by simp)⟩, fun _ h => by cases h⟩

theorem take_step {α : Type} {xs ys : List α} {k : Nat} {e : α} (h : xs.take k = ys.take k) (hx : xs[k]? = some e) (hy : ys[k]? = some e) : xs.take (k + 1) = ys.take (k + 1) := by
  rw [List.take_add_one, List.take_add_one, h, hx, hy]

set_option maxHeartbeats 1000000 in
theorem ref_Same (va vb : Value) (xs ys : List E) (w : World) (hx : SlE w w.heap.size va xs) (hy : SlE w w.heap.size vb ys) :
    Calls Try.prog 27 #[va, vb] w fun e w' => e = .returned (.bool (decide (xs = ys))) ∧ Below w.heap.size w w' := by
  obtain ⟨⟨A, c, rfl, hc, hcm, hA⟩, hokx⟩ := hx
  obtain ⟨⟨A', c', rfl, hc', hcm', hA'⟩, hoky⟩ := hy
  have hne := neq_elem
  by_cases hl : xs.length = ys.length
  · have hb : ((xs.length : Int) != (ys.length : Int)) = false := by simp; omega
    have HL := Lib.hid hl
    clear hl
    go_enter Try.func27, Try.ntmps27
    go_wp2
    go_loopw [5] (fun i wr => ∃ k : Nat, k ≤ xs.length ∧ i = .int .i64 k ∧ Hid (xs.take k = ys.take k) ∧ Below w.heap.size w wr) (fun i _ => xs.length - (intOf i).toNat)
    case atStart => exact ⟨0, Nat.zero_le _, rfl, rfl, Below.refl _ _⟩
    case round =>
      obtain ⟨k, hk, rfl, HT, hbw⟩ := hrel
      by_cases hlt : k < xs.length
      · obtain ⟨b, o, rfl, hB, hr⟩ := hA (by omega)
        obtain ⟨b', o', rfl, hB', hr'⟩ := hA' (by have := HL.out; omega)
        have hlt' : k < ys.length := by have := HL.out; omega
        obtain ⟨e, he⟩ : ∃ e, xs[k]? = some e := ⟨_, List.getElem?_eq_getElem hlt⟩
        obtain ⟨e', he'⟩ : ∃ e, ys[k]? = some e := ⟨_, List.getElem?_eq_getElem hlt'⟩
        obtain ⟨x0, x1⟩ := e
        obtain ⟨y0, y1⟩ := e'
        obtain ⟨c0, c1⟩ := (hr.below hbw hB) k _ he
        obtain ⟨d0, d1⟩ := (hr'.below hbw hB') k _ he'
        have HE := Lib.hid he
        have HE' := Lib.hid he'
        clear he he' hr hr' hA hA'
        by_cases heq : x0 = y0 ∧ x1 = y1
        · obtain ⟨rfl, rfl⟩ := heq
          go_wp2_with fail
          go_quiet (fail)
          go_wp2
          go_roundw
          case rel => exact ⟨k + 1, by omega, by go_num, take_step HT.out HE.out HE'.out, by repeat (first | exact Below.refl _ _ | with_reducible assumption | (refine bl_alloc ?_ (Nat.le_refl _) _) | (refine bl_set ?_ (by dsimp only; omega) _) | (refine Below.drew ?_) | (refine bl_drewN ?_ _) | (refine bl_call ?_ (Nat.le_refl _) (by assumption)))⟩
          case measure => simp [intOf]; omega
        · have hbn : (x0 == y0 && x1 == y1) = false := by
            rw [Bool.and_eq_false_iff, beq_eq_false_iff_ne, beq_eq_false_iff_ne]
            omega
          go_wp2_with fail
          go_quiet (fail)
          go_wp2
          go_ret
          refine ⟨ret_bool ?_, by repeat (first | exact Below.refl _ _ | with_reducible assumption | (refine bl_alloc ?_ (Nat.le_refl _) _) | (refine bl_set ?_ (by dsimp only; omega) _) | (refine Below.drew ?_) | (refine bl_drewN ?_ _) | (refine bl_call ?_ (Nat.le_refl _) (by assumption)))⟩
          rw [eq_comm, decide_eq_false_iff_not]
          rintro rfl
          have := HE.out.symm.trans HE'.out
          simp only [Option.some.injEq, Prod.mk.injEq] at this
          exact heq this
      · obtain rfl : k = xs.length := by omega
        go_wp2
        go_ret
        refine ⟨ret_bool ?_, by repeat (first | exact Below.refl _ _ | with_reducible assumption | (refine bl_alloc ?_ (Nat.le_refl _) _) | (refine bl_set ?_ (by dsimp only; omega) _) | (refine Below.drew ?_) | (refine bl_drewN ?_ _) | (refine bl_call ?_ (Nat.le_refl _) (by assumption)))⟩
        rw [eq_comm, decide_eq_true_eq]
        have h := HT.out
        rwa [List.take_of_length_le (Nat.le_refl _), List.take_of_length_le (by rw [HL.out]; exact Nat.le_refl _)] at h
  · have hb : ((xs.length : Int) != (ys.length : Int)) = true := by simp; omega
    have hd : decide (xs = ys) = false := by simp; intro h; exact hl (by rw [h])
    rw [hd]
    clear hd
    go_enter Try.func27, Try.ntmps27
    go_wp2
    go_ret
    exact ⟨rfl, by repeat (first | exact Below.refl _ _ | with_reducible assumption | (refine bl_alloc ?_ (Nat.le_refl _) _) | (refine bl_set ?_ (by dsimp only; omega) _) | (refine Below.drew ?_) | (refine bl_drewN ?_ _) | (refine bl_call ?_ (Nat.le_refl _) (by assumption)))⟩

end Go.Proofs.Ytgambjmjbmdciaa
