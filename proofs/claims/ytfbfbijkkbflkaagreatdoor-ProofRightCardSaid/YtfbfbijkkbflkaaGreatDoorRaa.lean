/-
 ElemEq, Slice, K, CirM, Open, TapeBack, Cir, Cir2, Cir3, Nums, BitsOf, EncM, Valid, RefV, RunM, Pl, Nt, Pd, Rt, Gp, Pow, Trunc: for ProofRight.
-/
import Derived.Test.YtfbfbijkkbflkaaGreatDoorProg
import Derived.ChangeKeysEq
import Derived.Lib.BitFns
import Derived.Deep.Slices
import Derived.Laws.Bits64b
import Derived.Test.YtfbfbijkkbflkaaGreatDoorMax
namespace Go.Proofs.YtfbfbijkkbflkaaGreatDoor
open Go.RowKit

theorem neq_elem (a0 a1 b0 b1 : Int) (w : World) :
  (binOp .neq 36 (.agg #[.int .u64 a0, .int .u64 a1]) (.agg #[.int .u64 b0, .int .u64 b1])).run Tryz.prog w = .ok (.bool (!(a0 == b0 && a1 == b1))) w := by
 rw [run_neq_struct, run_equalIn_elem 9998]
 rfl

end Go.Proofs.YtfbfbijkkbflkaaGreatDoor

namespace Go.Proofs.YtfbfbijkkbflkaaGreatDoor
open Go.RowKit Fm
set_option linter.unusedVariables false
set_option maxRecDepth 100000

theorem take_step {α : Type} {xs ys : List α} {k : Nat} {e : α} (h : xs.take k = ys.take k) (hx : xs[k]? = some e) (hy : ys[k]? = some e) : xs.take (k + 1) = ys.take (k + 1) := by
 rw [List.take_add_one, List.take_add_one, h, hx, hy]

set_option maxHeartbeats 1000000 in
theorem ref_Same (va vb : Value) (xs ys : List E) (w : World) (hx : SlE w w.heap.size va xs) (hy : SlE w w.heap.size vb ys) :
  Calls Tryz.prog 26 #[va, vb] w fun e w' => e = .returned (.bool (decide (xs = ys))) ∧ Below w.heap.size w w' := by
 obtain ⟨⟨A, c, rfl, hc, hcm, hA⟩, hokx⟩ := hx
 obtain ⟨⟨A', c', rfl, hc', hcm', hA'⟩, hoky⟩ := hy
 have hne := neq_elem
 by_cases hl : xs.length = ys.length
 ·have hb : ((xs.length : Int) != (ys.length : Int)) = false := by simp; omega
  have HL := Lib.hid hl
  clear hl
  go_enter Tryz.func26, Tryz.ntmps26
  go_wp2
  go_loopw [5] (fun i wr => ∃ k : Nat, k ≤ xs.length ∧ i = .int .i64 k ∧ Hid (xs.take k = ys.take k) ∧ Below w.heap.size w wr) (fun i _ => xs.length - (intOf i).toNat)
  case atStart => exact ⟨0, Nat.zero_le _, rfl, rfl, Below.refl _ _⟩
  case round =>
   obtain ⟨k, hk, rfl, HT, hbw⟩ := hrel
   by_cases hlt : k < xs.length
   ·obtain ⟨b, o, rfl, hB, hr⟩ := hA (by omega)
    obtain ⟨b', o', rfl, hB', hr'⟩ := hA' (by have := HL.out; omega)
    have hlt' : k < ys.length := by have := HL.out; omega
    obtain ⟨e, he⟩ : ∃ e, xs[k]? = some e := ⟨_, List.getElem?_eq_getElem hlt⟩
    obtain ⟨e', he'⟩ : ∃ e, ys[k]? = some e := ⟨_, List.getElem?_eq_getElem hlt'⟩
    obtain ⟨x0, x1⟩ := e
    obtain ⟨y0, y1⟩ := e'
    obtain ⟨c0, c1⟩ := (hr.below hbw hB) k _ he
    obtain ⟨d0, d1⟩ := (hr'.below hbw hB') k _ he'
    have HE := Lib.hid he
    have HE' := Lib.hid he'
    clear he he' hr hr' hA hA'
    by_cases heq : x0 = y0 ∧ x1 = y1
    ·obtain ⟨rfl, rfl⟩ := heq
     go_wp2_with fail
     go_quiet (fail)
     go_wp2
     go_roundw
     case rel => exact ⟨k + 1, by omega, by go_num, take_step HT.out HE.out HE'.out, by repeat (first | exact bA | with_reducible assumption | apply bB | (refine bC ?_ (by dsimp only; omega)) | apply bD | apply bE | (refine bF ?_ (by assumption)))⟩
     case measure => simp [intOf]; omega
    ·have hbn : (x0 == y0 && x1 == y1) = false := by
      rw [Bool.and_eq_false_iff, beq_eq_false_iff_ne, beq_eq_false_iff_ne]
      omega
     go_wp2_with fail
     go_quiet (fail)
     go_wp2
     go_ret
     refine ⟨ret_bool ?_, by repeat (first | exact bA | with_reducible assumption | apply bB | (refine bC ?_ (by dsimp only; omega)) | apply bD | apply bE | (refine bF ?_ (by assumption)))⟩
     rw [eq_comm, decide_eq_false_iff_not]
     rintro rfl
     have := HE.out.symm.trans HE'.out
     simp only [Option.some.injEq, Prod.mk.injEq] at this
     exact heq this
   ·obtain rfl : k = xs.length := by omega
    go_wp2
    go_ret
    refine ⟨ret_bool ?_, by repeat (first | exact bA | with_reducible assumption | apply bB | (refine bC ?_ (by dsimp only; omega)) | apply bD | apply bE | (refine bF ?_ (by assumption)))⟩
    rw [eq_comm, decide_eq_true_eq]
    have h := HT.out
    rwa [List.take_of_length_le (Nat.le_refl _), List.take_of_length_le (by rw [HL.out]; exact Nat.le_refl _)] at h
 ·have hb : ((xs.length : Int) != (ys.length : Int)) = true := by simp; omega
  have hd : decide (xs = ys) = false := by simp; intro h; exact hl (by rw [h])
  rw [hd]
  clear hd
  go_enter Tryz.func26, Tryz.ntmps26
  go_wp2
  go_ret
  exact ⟨rfl, by repeat (first | exact bA | with_reducible assumption | apply bB | (refine bC ?_ (by dsimp only; omega)) | apply bD | apply bE | (refine bF ?_ (by assumption)))⟩

end Go.Proofs.YtfbfbijkkbflkaaGreatDoor

namespace Go.Proofs.YtfbfbijkkbflkaaGreatDoor
open Go.RowKit Fm
set_option linter.unusedVariables false
set_option maxRecDepth 100000

section
variable {f : Nat} (hf : IsF f)
include hf

end

/-! ### lists of elements -/
theorem esK_nil {f : Nat} : esK ([] : KL f) = [] := rfl
theorem esK_cons {f : Nat} (x : Fin (Pm f)) (l : KL f) : esK (x :: l) = eK x :: esK l := rfl

end Go.Proofs.YtfbfbijkkbflkaaGreatDoor

namespace Go.Proofs.YtfbfbijkkbflkaaGreatDoor
open Go.RowKit Fm
set_option linter.unusedVariables false
set_option maxRecDepth 100000

namespace CK
def nout : CK → Nat
 | count => 1
 | sum _ => 1
 | vec _ l _ => l
 | hist l _ => l
 | multi l _ _ => l
end CK

/-! ### how many bits -/
namespace CK
end CK

/-! ### the least power of two that isn't below -/
end Go.Proofs.YtfbfbijkkbflkaaGreatDoor

namespace Go.Proofs.YtfbfbijkkbflkaaGreatDoor
open Go.RowKit Go.ChangeShapes Go.WideShapes Go.Deep
set_option linter.unusedVariables false
set_option maxRecDepth 100000

section
variable {H : Type} {enc : TypeId × Value → H} {W : World} {base : Nat} {sp : Nat → Bool} {hd : Bool}

theorem open_elems {r : Reach} {b0 : Nat} {v : Value} {d : DataW H} {ps : List MemPlace} (hval : Value.okWide Tryz.prog W r b0 24 v) (h : DataW.Trod enc Tryz.prog W base sp hd 24 v d ps) :
  ∃ xs : List E, SlE W W.heap.size v xs := by
 obtain ⟨a0, len, cap, rfl⟩ := okWide_slice Tryz.underlying24 hval
 obtain ⟨fuel, hf⟩ := h
 rcases open_slice Tryz.underlying24 hf with ⟨hcs, _⟩ | ⟨a, len', cap', m, n, D, Pl, hcs, _, hle, hcm, hm, _, hi⟩
 ·simp only [Value.cells, List.cons.injEq, Value.slice.injEq, and_true] at hcs
  obtain ⟨rfl, rfl, rfl⟩ := hcs
  exact ⟨[], SlE.nil _ _⟩
 ·simp only [Value.cells, List.cons.injEq, Value.slice.injEq, and_true] at hcs
  obtain ⟨rfl, rfl, rfl⟩ := hcs
  have hlm : len ≤ m := by rw [hm]; split <;> omega
  have key : ∀ i, i < len → ∃ e : E, W.cell? (a.add (i * 2)) = some (.int .u64 e.1) ∧ W.cell? (a.add (i * 2 + 1)) = some (.int .u64 e.2) ∧ okE e := by
   intro i hil
   obtain ⟨cs', hc, ht⟩ := hi i (by omega)
   rw [cellsOf_elem] at hc
   obtain ⟨e, rfl, hok⟩ := trod_elem ht
   obtain ⟨_, _, hat⟩ := World.cells?_some hc
   have h0 := hat 0 (by omega)
   have h1 := hat 1 (by omega)
   have e0 : (a.add (i * 2)).add 0 = a.add (i * 2) := rfl
   have e1 : (a.add (i * 2)).add 1 = a.add (i * 2 + 1) := by
    unfold Addr.add
    by_cases h : i * 2 = 0
    ·simp [h]
    ·simp [h, Nat.add_assoc]
   rw [e0] at h0
   rw [e1] at h1
   exact ⟨e, h0, h1, hok⟩
  have hex : ∃ f : Nat → E, ∀ i, i < len → W.cell? (a.add (i * 2)) = some (.int .u64 (f i).1) ∧ W.cell? (a.add (i * 2 + 1)) = some (.int .u64 (f i).2) ∧ okE (f i) := by
   refine ⟨fun i => if hil : i < len then Classical.choose (key i hil) else (0, 0), fun i hil => ?_⟩
   simp only [dif_pos hil]
   exact Classical.choose_spec (key i hil)
  obtain ⟨f, hfi⟩ := hex
  refine ⟨(List.range len).map f, ⟨⟨some a, cap, by simp, by simpa using hle, by unfold maxLen at hcm; omega, fun hn => ?_⟩, ?_⟩⟩
  ·have hl0 : 0 < len := by simpa using hn
   have hc0 := (hfi 0 hl0).1
   have ha0 : a.add (0 * 2) = a := rfl
   rw [ha0] at hc0
   have hlt := lt_of_cell hc0
   obtain ⟨b, o, s⟩ := a
   have hs : s = none := by
    cases s with
    | none => rfl
    | some q => simp [World.cell?] at hc0; split at hc0 <;> simp_all
   subst hs
   refine ⟨b, o, rfl, hlt, fun i e hie => ?_⟩
   have hil : i < len := by
    have := (List.getElem?_eq_some_iff.1 hie).1
    simpa using this
   have hee : e = f i := by
    rw [List.getElem?_map, List.getElem?_range hil] at hie
    simpa using hie.symm
   subst hee
   obtain ⟨k0, k1, _⟩ := hfi i hil
   have ea : ∀ j, (⟨b, o, none⟩ : Addr).add j = ⟨b, o + j, none⟩ := by
    intro j
    unfold Addr.add
    split <;> simp_all
   rw [ea] at k0 k1
   exact ⟨k0, by rw [Nat.add_assoc]; exact k1⟩
  ·intro e he
   rw [List.mem_map] at he
   obtain ⟨i, hir, rfl⟩ := he
   exact (hfi i (by simpa using hir)).2.2
end

end Go.Proofs.YtfbfbijkkbflkaaGreatDoor

namespace Go.Proofs.YtfbfbijkkbflkaaGreatDoor
open Go.RowKit Fm
set_option linter.unusedVariables false
set_option maxRecDepth 100000

/-! ### the plain law: differences in a field -/
/-! ### Awake -/
/-! ### the law -/
theorem ref_Same_eq (va vb : Value) (xs ys : List E) (w : World) (hx : SlE w w.heap.size va xs) (hy : SlE w w.heap.size vb ys) (h : xs = ys) :
  Calls Tryz.prog 26 #[va, vb] w fun e w' => e = .returned (.bool true) ∧ Below w.heap.size w w' := by
 have hs := ref_Same va vb xs ys w hx hy
 rwa [decide_eq_true h] at hs

end Go.Proofs.YtfbfbijkkbflkaaGreatDoor

namespace Go.Proofs.YtfbfbijkkbflkaaGreatDoor
open Go.RowKit Fm
set_option linter.unusedVariables false
set_option maxRecDepth 100000

set_option maxHeartbeats 1000000 in
theorem circuit_Out (f : Nat) (y : CK) (hy : y.ok) (w : World) : Calls Tryz.prog 93 #[y.val f] w (RetI y.nout w) := by
 cases y with
 | count =>
  rw [val_count]
  go_enter Tryz.func93, Tryz.ntmps93
  go_wp2
  go_ret
  exact ⟨rfl, by repeat (first | exact bA | with_reducible assumption | apply bB | (refine bC ?_ (by dsimp only; omega)) | apply bD | apply bE | (refine bF ?_ (by assumption)))⟩
 | sum b =>
  rw [val_sum]
  go_enter Tryz.func93, Tryz.ntmps93
  go_wp2
  go_ret
  exact ⟨rfl, by repeat (first | exact bA | with_reducible assumption | apply bB | (refine bC ?_ (by dsimp only; omega)) | apply bD | apply bE | (refine bF ?_ (by assumption)))⟩
 | vec b l c =>
  rw [val_vec]
  go_enter Tryz.func93, Tryz.ntmps93
  go_wp2
  go_ret
  exact ⟨rfl, by repeat (first | exact bA | with_reducible assumption | apply bB | (refine bC ?_ (by dsimp only; omega)) | apply bD | apply bE | (refine bF ?_ (by assumption)))⟩
 | hist l c =>
  rw [val_hist]
  go_enter Tryz.func93, Tryz.ntmps93
  go_wp2
  go_ret
  exact ⟨rfl, by repeat (first | exact bA | with_reducible assumption | apply bB | (refine bC ?_ (by dsimp only; omega)) | apply bD | apply bE | (refine bF ?_ (by assumption)))⟩
 | multi l m c =>
  rw [val_multi]
  go_enter Tryz.func93, Tryz.ntmps93
  go_wp2
  go_ret
  exact ⟨rfl, by repeat (first | exact bA | with_reducible assumption | apply bB | (refine bC ?_ (by dsimp only; omega)) | apply bD | apply bE | (refine bF ?_ (by assumption)))⟩

end Go.Proofs.YtfbfbijkkbflkaaGreatDoor

namespace Go.Proofs.YtfbfbijkkbflkaaGreatDoor
open Go.RowKit Fm
set_option linter.unusedVariables false
set_option maxRecDepth 100000

section
variable (f : Nat) (y : CK) (hy : y.ok)
include hy

end

theorem pow32 {b : Nat} (h : b ≤ 32) : 1 ≤ 2 ^ b ∧ 2 ^ b ≤ 4294967296 := ⟨Nat.one_le_two_pow, Nat.le_trans (Nat.pow_le_pow_right (by omega) h) (by decide)⟩

/-! ### the reference's circuit of a circuit -/
end Go.Proofs.YtfbfbijkkbflkaaGreatDoor

namespace Go.Proofs.YtfbfbijkkbflkaaGreatDoor
open Go.RowKit Fm
set_option linter.unusedVariables false
set_option maxRecDepth 100000

section
variable {f : Nat} (hf : IsF f)
include hf

set_option maxHeartbeats 2000000 in
theorem circuit_Verifier (y : CK) (hy : y.ok) (w : World) : Calls Tryz.prog 43 #[y.val f] w (RetI (y.arity + 2) w) := by
 have HG := Lib.hid (fun wz => circuit_Gadget hf y hy wz)
 have ha := gad_arity f y
 have hal := CK.arity_le hy
 unfold CK.val at HG ⊢
 generalize y.gad f = g at *
 generalize y.arity = r at *
 clear hy
 generalize ((y.k : Nat) : Int) = k at *
 generalize ((y.b : Nat) : Int) = b at *
 generalize ((y.l : Nat) : Int) = l at *
 generalize ((y.m : Nat) : Int) = m at *
 generalize ((y.c : Nat) : Int) = c at *
 have HAR : Hid (∀ (wz : World) (B : Nat) (k : Int) (sl : Value) (n : Int), RepG wz B k sl n g → Calls Tryz.prog 28 #[.agg #[.int .u8 k, sl, .int .i64 n]] wz (RetI r wz)) := by
  intro wz B k sl n hg
  have h := gadget_Arity wz B g k sl n hg
  rwa [ha] at h
 clear ha
 go_enter Tryz.func43, Tryz.ntmps43
 go_wp2_with (first
  | (go_at_call 27; refine (HG.out _).mono ?_; rintro e w2 ⟨gk, sl, gn, rfl, hg, hb2⟩)
  | (go_at_call 28; refine (HAR.out _ _ _ _ _ hg).mono ?_; rintro e w3 ⟨rfl, hb3⟩))
 go_ret
 exact ⟨ret_int (by omega), by repeat (first | exact bA | with_reducible assumption | apply bB | (refine bC ?_ (by dsimp only; omega)) | apply bD | apply bE | (refine bF ?_ (by assumption)))⟩
end

end Go.Proofs.YtfbfbijkkbflkaaGreatDoor

namespace Go.Proofs.YtfbfbijkkbflkaaGreatDoor
open Go.RowKit Fm Go.ChangeShapes Go.WideShapes Go.Deep
set_option linter.unusedVariables false
set_option maxRecDepth 100000

theorem length_cellsU (xs : List Int) : (cellsU xs).length = xs.length := by unfold cellsU; rw [List.length_map]
theorem cellsU_append (xs ys : List Int) : cellsU (xs ++ ys) = cellsU xs ++ cellsU ys := by unfold cellsU; rw [List.map_append]

theorem infoU64 : (Tryz.prog.info? 25).map (fun i => (i.zero, i.size, i.bytes)) = some (some (.int .u64 0), 1, 8) := by kernel_rfl

theorem oneCell_cellsU (xs : List Int) : ∀ u, u ∈ cellsU xs → u.oneCell' = true := by
 intro u h
 unfold cellsU at h
 rw [List.mem_map] at h
 obtain ⟨e, _, rfl⟩ := h
 rfl

section
variable {H : Type} {enc : TypeId × Value → H} {W : World} {base : Nat} {sp : Nat → Bool} {hd : Bool}
theorem open_nums {r : Reach} {b0 : Nat} {v : Value} {d : DataW H} {ps : List MemPlace} (hval : Value.okWide Tryz.prog W r b0 78 v) (h : DataW.Trod enc Tryz.prog W base sp hd 78 v d ps) :
  ∃ xs : List Int, SlU W W.heap.size v xs := by
 obtain ⟨a0, len, cap, rfl⟩ := okWide_slice Tryz.underlying78 hval
 obtain ⟨fuel, hf⟩ := h
 rcases open_slice Tryz.underlying78 hf with ⟨hcs, _⟩ | ⟨a, len', cap', m, n, D, Pl, hcs, _, hle, hcm, hm, _, hi⟩
 ·simp only [Value.cells, List.cons.injEq, Value.slice.injEq, and_true] at hcs
  obtain ⟨rfl, rfl, rfl⟩ := hcs
  exact ⟨[], SlU.nil _ _⟩
 ·simp only [Value.cells, List.cons.injEq, Value.slice.injEq, and_true] at hcs
  obtain ⟨rfl, rfl, rfl⟩ := hcs
  have hlm : len ≤ m := by rw [hm]; split <;> omega
  have key : ∀ i, i < len → ∃ e : Int, W.cell? (a.add i) = some (.int .u64 e) ∧ okU e := by
   intro i hil
   obtain ⟨cs', hc, ht⟩ := hi i (by omega)
   rw [cellsOf_u64] at hc
   obtain ⟨e, he, _, hw⟩ := DataW.trod_int Tryz.underlying25 ht
   subst he
   obtain ⟨_, _, hat⟩ := World.cells?_some hc
   have h0 := hat 0 (by omega)
   have e0 : (a.add (i * 1)).add 0 = a.add i := by rw [Nat.mul_one]; rfl
   rw [e0] at h0
   exact ⟨e, h0, wf_u64 hw⟩
  have hex : ∃ f : Nat → Int, ∀ i, i < len → W.cell? (a.add i) = some (.int .u64 (f i)) ∧ okU (f i) := by
   refine ⟨fun i => if hil : i < len then Classical.choose (key i hil) else 0, fun i hil => ?_⟩
   simp only [dif_pos hil]
   exact Classical.choose_spec (key i hil)
  obtain ⟨f, hfi⟩ := hex
  refine ⟨(List.range len).map f, ⟨⟨some a, cap, by simp, by simpa using hle, by unfold maxLen at hcm; omega, fun hn => ?_⟩, ?_⟩⟩
  ·have hl0 : 0 < len := by simpa using hn
   have hc0 := (hfi 0 hl0).1
   have ha0 : a.add 0 = a := rfl
   rw [ha0] at hc0
   have hlt := lt_of_cell hc0
   obtain ⟨b, o, s⟩ := a
   have hs : s = none := by
    cases s with
    | none => rfl
    | some q => simp [World.cell?] at hc0; split at hc0 <;> simp_all
   subst hs
   refine ⟨b, o, rfl, hlt, fun i e hie => ?_⟩
   have hil : i < len := by
    have := (List.getElem?_eq_some_iff.1 hie).1
    simpa using this
   have hee : e = f i := by
    rw [List.getElem?_map, List.getElem?_range hil] at hie
    simpa using hie.symm
   subst hee
   obtain ⟨k0, _⟩ := hfi i hil
   have ea : (⟨b, o, none⟩ : Addr).add i = ⟨b, o + i, none⟩ := by
    unfold Addr.add
    split <;> simp_all
   rw [ea] at k0
   exact k0
  ·intro e he
   rw [List.mem_map] at he
   obtain ⟨i, hir, rfl⟩ := he
   exact (hfi i (by simpa using hir)).2
end

end Go.Proofs.YtfbfbijkkbflkaaGreatDoor

namespace Go.Proofs.YtfbfbijkkbflkaaGreatDoor
open Go.RowKit Fm
set_option linter.unusedVariables false
set_option maxRecDepth 100000

def bitsL (n : Nat) : Nat → List Nat
 | 0 => []
 | q + 1 => bitsL n q ++ [n / 2 ^ q % 2]
theorem bitsL_length (n : Nat) : ∀ q, (bitsL n q).length = q
 | 0 => rfl
 | q + 1 => by rw [bitsL, List.length_append, bitsL_length n q]; rfl

section
variable {f : Nat} (hf : IsF f)
include hf

set_option maxHeartbeats 4000000 in
theorem circuit_bitsOf (k b l m c : Int) (n q : Nat) (hn : n ≤ 18446744073709551615) (hq : q ≤ 64) (w : World) :
  Calls Tryz.prog 94 #[.agg #[.int .u8 k, .int .u8 f, .int .i64 b, .int .i64 l, .int .i64 m, .int .i64 c], .int .u64 n, .int .i64 q] w (RetOwn ((bitsL n q).map (nK f)) w) := by
 have hfb0 : (1 : Int) ≤ (f : Int) := by rcases hf.or with rfl | rfl <;> omega
 have hfb1 : (f : Int) ≤ 2 := by rcases hf.or with rfl | rfl <;> omega
 have hb00 : Below w.heap.size w w := Below.refl _ _
 go_enter Tryz.func94, Tryz.ntmps94
 go_upto_region 2 with fail
 have hx := Vs.new w [.int .u8 k, .int .u8 f, .int .i64 b, .int .i64 l, .int .i64 m, .int .i64 c] #[.int .u8 k, .int .u8 f, .int .i64 b, .int .i64 l, .int .i64 m, .int .i64 c] 30 rfl
 have hbA : Below w.heap.size w (w.alloc (.cells #[.int .u8 k, .int .u8 f, .int .i64 b, .int .i64 l, .int .i64 m, .int .i64 c] 30)) := by repeat (first | exact bA | with_reducible assumption | apply bB)
 replace hb00 := bl_call hb00 (Nat.le_refl _) hbA
 clear hbA
 generalize w.alloc (.cells #[.int .u8 k, .int .u8 f, .int .i64 b, .int .i64 l, .int .i64 m, .int .i64 c] 30) = w1 at hb00 hx ⊢
 have hxl := hx.lt
 go_wp2
 go_loopw [7, 10] (fun vr i wr => ∃ (j : Nat) (A : Option Addr) (cp : Nat), j ≤ q ∧ i = .int .i64 j ∧ vr = .slice A j cp ∧ Vs wr w.heap.size [.int .u8 k, .int .u8 f, .int .i64 b, .int .i64 l, .int .i64 m, .int .i64 c] ∧ wr.ownsRow (w.heap.size + 1) 36 2 (.slice A j cp) j (cellsE (esK ((bitsL n j).map (nK f)))) ∧ Below w.heap.size w wr ∧ w.heap.size + 1 ≤ wr.heap.size) (fun _ i _ => q - (intOf i).toNat)
 case atStart => exact ⟨0, none, 0, Nat.zero_le _, rfl, rfl, hx, World.ownsRow_nil _ _ _ _, hb00, hxl⟩
 case round =>
  clear hx hb00 hxl
  obtain ⟨j, A, cp, hj, rfl, rfl, hx, hown, hbw, hsz⟩ := hrel
  by_cases hlt : j < q
  ·skip
   obtain ⟨⟨x0, x1, x2, x3, x4, x5⟩, ⟨x6, x7, x8, x9, x10, x11⟩, x12⟩ := hx.get6
   have hw1 : (0 : Int) ≤ (j : Int) := by omega
   have HZ : Hid ((bitsL n (j + 1)).map (nK f) = (bitsL n j).map (nK f) ++ [nK f (n / 2 ^ j % 2)]) := by show (bitsL n j ++ [n / 2 ^ j % 2]).map (nK f) = _; rw [List.map_append]; rfl
   obtain ⟨y, hy⟩ : ∃ y, nK f (n / 2 ^ j % 2) = y := ⟨_, rfl⟩
   obtain ⟨d, hd⟩ : ∃ d, n / 2 ^ j % 2 = d := ⟨_, rfl⟩
   have hd2 : d < 2 := by rw [← hd]; exact Nat.mod_lt _ (by omega)
   have HO : Hid (∀ wz, Calls Tryz.prog 52 #[.int .u8 f, .int .u64 d] wz (RetK y wz)) := by
    intro wz
    have h := field_Of hf (d : Int) wz (by omega) (by omega)
    rwa [show kL f (d : Int) 0 = y by rw [← hy, hd]; rfl] at h
   have hdi : (n : Int) / 2 ^ j % 2 = (d : Int) := by rw [← hd, Int.natCast_emod, Int.natCast_ediv, Int.natCast_pow]; rfl
   have hand : bits .and .u64 ((n : Int) / 2 ^ j) 1 = (d : Int) := by
    rw [show (n : Int) / 2 ^ j = ((n / 2 ^ j : Nat) : Int) by rw [Int.natCast_ediv, Int.natCast_pow]; rfl, show (1 : Int) = ((1 : Nat) : Int) from rfl,
     bits_and_u64_nat _ _ (Nat.lt_of_le_of_lt (Nat.div_le_self _ _) (by omega)) (by omega), Nat.and_one_is_mod, hd]
   rw [hd] at hy
   have HYY := Lib.hid hy
   rw [hd] at HZ
   clear hd hy
   go_upto_region 5 with fail
   refine region_G (n := 9) (m := 11) (f := 9) (by kernel_rfl) (by kernel_rfl) rfl ?_
   refine WpG.vD 0 (some 13) ?_ rfl rfl (by kernel_rfl) (fun _ _ _ h => h) rfl (fun wz hwz => ?_) ?_
   rotate_left
   ·go_simp; try (with_reducible rfl)
   simp only [Zp, Zq, Zr, Zs]
   refine WpG.vD 1 (some 14) ?_ rfl rfl (by kernel_rfl) (fun _ _ _ h => h) rfl (fun wz hwz => ?_) ?_
   rotate_left
   ·go_simp; try (with_reducible rfl)
   simp only [Zp, Zq, Zr, Zs]
   refine WpG.vD 2 (some 15) ?_ rfl rfl (by kernel_rfl) (fun _ _ _ h => h) rfl (fun wz hwz => ?_) ?_
   rotate_left
   ·(obtain ⟨hcz, hfz⟩ := bcell (hwz); go_simp; try (with_reducible rfl))
   simp only [Zp, Zq, Zr, Zs]
   refine WpG.vD 3 (some 16) ?_ rfl rfl (by kernel_rfl) (fun _ _ _ h => h) rfl (fun wz hwz => ?_) ?_
   rotate_left
   ·go_simp; try (with_reducible rfl)
   simp only [Zp, Zq, Zr, Zs]
   refine WpG.vD 4 (some 17) ?_ rfl rfl (by kernel_rfl) (fun _ _ _ h => h) rfl (fun wz hwz => ?_) ?_
   rotate_left
   ·go_simp; try (with_reducible rfl)
   simp only [Zp, Zq, Zr, Zs]
   refine WpG.vD 5 (some 18) ?_ rfl rfl (by kernel_rfl) (fun _ _ _ h => h) rfl (fun wz hwz => ?_) ?_
   rotate_left
   ·go_simp; try (with_reducible rfl)
   simp only [Zp, Zq, Zr, Zs]
   refine WpG.vD 6 (some 19) ?_ rfl rfl (by kernel_rfl) (fun _ _ _ h => h) rfl (fun wz hwz => ?_) ?_
   rotate_left
   ·go_simp; try (with_reducible rfl)
   simp only [Zp, Zq, Zr, Zs]
   refine WpG.takeD 7 (some 20) rfl rfl (by kernel_rfl) (fun _ _ _ h => h) (.call rfl (fun wz hwz => HO.out wz) (fun wz hwz => ?_)) ?_
   ·go_simp; try (with_reducible rfl)
   simp only [Zp, Zq, Zr, Zs]
   refine WpG.oneD 8 (some 21) rfl rfl (by kernel_rfl) (fun b : Nat => Value.slice (some ⟨b, 0, none⟩) 1 1) (fun b w => wr.heap.size ≤ b ∧ BlkE w b [eK y]) (fun x w w' h hb => ⟨h.1, h.2.call hb⟩) (Fresh.slice 1 1 [.int .u64 (lo y), .int .u64 (hi y)] 36 rfl (fun wz hwz => (hwz).size) (fun wz hwz => by go_simp; try (with_reducible rfl)) (fun wz hwz => BlkE.new wz [eK y] _ rfl)) (fun nb w0 hw0 hR0 => ?_)
   simp only [Zp, Zq, Zr, Zs]
   refine WpG.done (by kernel_rfl) (fun w6 hS => ?_)
   (try simp only [List.drop_succ_cons]); (try simp only [List.drop_zero]); (try simp only [Nat.reduceSub]); (try simp only [List.take_succ_cons]); (try simp only [List.take_zero])
   obtain ⟨hb6, hnb, hE⟩ := hS
   clear hR0 hw0 hdi
   clear x0 x1 x2 x3 x4 x5 x6 x7 x8 x9 x10 x11 x12
   have hown6 := own_call hown hb6
   replace hbw := bl_call hbw (Nat.le_refl _) hb6
   replace hx := hx.call hb6
   have hz6 := hb6.size
   have HOW := Lib.hid hown6
   have HR1 := Lib.hid (show 0 < 1 → ∃ b o, (some ⟨nb, 0, none⟩ : Option Addr) = some ⟨b, o, none⟩ ∧ RowE w6 b o [eK y] from fun _ => ⟨_, _, rfl, hE.rowE⟩)
   have hk1 : j + 1 ≤ 1099511627776 := by omega
   have hbase : w.heap.size + 1 ≤ w6.heap.size := by omega
   have hL := (bitsL_length n j)
   clear hown hown6 hb6 hL
   go_wp2_with (at_builtin; (refine wpList_append_E rfl (.tmp 13) (.tmp 21) rfl (w.heap.size + 1) _ j (esK ((bitsL n j).map (nK f))) rfl HOW.out (some ⟨nb, 0, none⟩) 1 1 [eK y] rfl rfl HR1.out hk1 hbase ?_; intro v2 w2 hown2 hg2 hat2; have hb2 : Below (w.heap.size + 1) w6 w2 := (Below.refl _ _).grown hg2 hbase (fun q hq => (HOW.out.lt q hq).1); obtain ⟨g2, cap2, hv2⟩ := own_slice hown2; rw [hv2]))
   rw [hv2, show (esK ((bitsL n j).map (nK f))) ++ [eK y] = esK ((bitsL n (j + 1)).map (nK f)) by rw [HZ.out, esK_append, HYY.out]; rfl] at hown2
   have hx2 := hx.belowB hb2 (by omega)
   have hbw2 : Below w.heap.size w w2 := hbw.trans (hb2.mono (by omega))
   have hz2 := hb2.size
   go_roundw
   case rel => exact ⟨j + 1, _, cap2, by omega, by go_num, rfl, hx2, hown2, hbw2, by omega⟩
   case measure => simp [intOf]; omega
  ·obtain rfl : j = q := by omega
   have hlen : ((bitsL n j).map (nK f)).length = j := by rw [List.length_map, bitsL_length]
   have HL := Lib.hid hlen
   have HW := Lib.hid hown
   clear hlen hown
   go_wp2
   go_ret
   exact ⟨_, rfl, by rw [HL.out]; exact own_mono HW.out (by omega), hbw⟩
end

end Go.Proofs.YtfbfbijkkbflkaaGreatDoor

namespace Go.Proofs.YtfbfbijkkbflkaaGreatDoor
open Go.RowKit Fm
set_option linter.unusedVariables false
set_option maxRecDepth 100000

def natsI (ms : List Nat) : List Int := ms.map fun n : Nat => (n : Int)
theorem natsI_length (ms : List Nat) : (natsI ms).length = ms.length := by unfold natsI; rw [List.length_map]
theorem natsI_at {ms : List Nat} {i n : Nat} (h : ms[i]? = some n) : (natsI ms)[i]? = some (n : Int) := by unfold natsI; rw [List.getElem?_map, h]; rfl

theorem sum_take {ms : List Nat} {k n : Nat} (h : ms[k]? = some n) : (ms.take (k + 1)).sum = (ms.take k).sum + n := by
 rw [List.take_add_one, h]
 simp
theorem all_take {ms : List Nat} {k n : Nat} {P : Nat → Prop} (h : ms[k]? = some n) (ha : ∀ x, x ∈ ms.take k → P x) (hn : P n) : ∀ x, x ∈ ms.take (k + 1) → P x := by
 intro x hx
 rw [List.take_add_one, h] at hx
 rcases List.mem_append.1 hx with h1 | h1
 ·exact ha x h1
 ·have : x = n := by simpa using h1
  subst this
  exact hn

def okMulti (m : Nat) (ms : List Nat) : Prop := (∀ x, x ∈ ms → x ≤ 1) ∧ ms.sum ≤ m
def encMulti (m : Nat) (ms : List Nat) : List Nat := ms ++ bitsL (ms.sum + offN m) (Lib.bitLen m)

def RetEnc {f : Nat} (ok : Prop) (l : KL f) (w : World) (e : Ending) (w' : World) : Prop :=
 (ok ∧ ∃ v, e = .returned (.tuple #[v, .int .i64 0]) ∧ w'.ownsRow w.heap.size 36 2 v l.length (cellsE (esK l)) ∧ Below w.heap.size w w') ∨
 (¬ ok ∧ e = .returned (.tuple #[.slice none 0 0, .int .i64 6]) ∧ Below w.heap.size w w')

section
variable {f : Nat} (hf : IsF f)
include hf

set_option maxHeartbeats 8000000 in
theorem circuit_Encode_multi (l m c : Nat) (hy : (CK.multi l m c).ok) (hcalls : ¬ 511 < (CK.multi l m c).calls) (vm : Value) (ms : List Nat) (w : World) (hm : SlU w w.heap.size vm (natsI ms)) (hl : ms.length = l) :
  Calls Tryz.prog 46 #[(CK.multi l m c).val f, vm] w (RetEnc (okMulti m ms) ((encMulti m ms).map (nK f)) w) := by
 have HC : Hid (∀ wz, Calls Tryz.prog 48 #[(CK.multi l m c).val f] wz (RetC 0 wz)) := by
  intro wz
  have h := circuit_Check_ok hf (.multi l m c) hy wz
  rwa [CK.code_ok hcalls] at h
 have HO := Lib.hid (fun wz => circuit_Out f (.multi l m c) hy wz)
 rw [show CK.nout (.multi l m c) = l from rfl] at HO
 rw [val_multi] at HC HO ⊢
 obtain ⟨⟨A, cc, rfl, hcc, hcm, hA⟩, hok⟩ := hm
 rw [natsI_length, hl] at hcc hA
 rw [natsI_length, hl]
 have hl64 : l ≤ 64 := hy.1.2
 have hl1 : 1 ≤ l := hy.1.1
 have hml : m ≤ l := hy.2.1.2
 have HOF := Lib.hid (fun (n : Nat) (hn : n ≤ 18446744073709551615) wz => field_Of hf (n : Int) wz (by omega) (by omega))
 have HL := Lib.hid hl
 have hfb0 : (1 : Int) ≤ (f : Int) := by rcases hf.or with rfl | rfl <;> omega
 have hfb1 : (f : Int) ≤ 2 := by rcases hf.or with rfl | rfl <;> omega
 have hb00 : Below w.heap.size w w := Below.refl _ _
 clear hl hok hy hcalls
 go_enter Tryz.func46, Tryz.ntmps46
 go_upto_region 1 with fail
 have hx := Vs.new w [.int .u8 5, .int .u8 f, .int .i64 0, .int .i64 l, .int .i64 m, .int .i64 c] #[.int .u8 5, .int .u8 f, .int .i64 0, .int .i64 l, .int .i64 m, .int .i64 c] 30 rfl
 have hbA : Below w.heap.size w (w.alloc (.cells #[.int .u8 5, .int .u8 f, .int .i64 0, .int .i64 l, .int .i64 m, .int .i64 c] 30)) := by repeat (first | exact bA | with_reducible assumption | apply bB)
 replace hb00 := bl_call hb00 (Nat.le_refl _) hbA
 clear hbA
 generalize w.alloc (.cells #[.int .u8 5, .int .u8 f, .int .i64 0, .int .i64 l, .int .i64 m, .int .i64 c] 30) = w1 at hb00 hx ⊢
 obtain ⟨⟨x0, x1, x2, x3, x4, x5⟩, ⟨x6, x7, x8, x9, x10, x11⟩, x12⟩ := hx.get6
 have hxl : w.heap.size < w1.heap.size := hx.lt
 go_upto_region 28 with (first
  | (go_at_call 48; refine (HC.out _).mono ?_; rintro e w2 ⟨rfl, hb2⟩; replace hb00 := bl_call hb00 (Nat.le_refl _) hb2; replace hx := hx.call hb2; obtain ⟨⟨x0, x1, x2, x3, x4, x5⟩, ⟨x6, x7, x8, x9, x10, x11⟩, x12⟩ := hx.get6)
  | (go_at_call 93; refine (HO.out _).mono ?_; rintro e w3 ⟨rfl, hb3⟩; replace hb00 := bl_call hb00 (Nat.le_refl _) hb3; replace hx := hx.call hb3; obtain ⟨⟨x0, x1, x2, x3, x4, x5⟩, ⟨x6, x7, x8, x9, x10, x11⟩, x12⟩ := hx.get6))
 have hsz : w.heap.size + 1 ≤ w3.heap.size := hx.lt
 clear HC HO hb2 hb3
 clear x0 x1 x2 x3 x4 x5 x6 x7 x8 x9 x10 x11 x12
 go_wp2_with fail
 go_loopw [8, 9, 76] (fun v8 v9 i wr => ∃ (k : Nat) (A' : Option Addr) (cp s : Nat), k ≤ l ∧ i = .int .i64 k ∧ v8 = .slice A' k cp ∧ v9 = .int .i64 s ∧ Hid ((ms.take k).sum = s) ∧ s ≤ k ∧ Hid (∀ x, x ∈ ms.take k → x ≤ 1) ∧
   Vs wr w.heap.size [.int .u8 5, .int .u8 f, .int .i64 0, .int .i64 l, .int .i64 m, .int .i64 c] ∧ wr.ownsRow (w.heap.size + 1) 36 2 (.slice A' k cp) k (cellsE (esK ((ms.take k).map (nK f)))) ∧ Below w.heap.size w wr ∧ w.heap.size + 1 ≤ wr.heap.size) (fun _ _ i _ => l - (intOf i).toNat)
 case atStart => exact ⟨0, none, 0, 0, Nat.zero_le _, rfl, rfl, rfl, rfl, Nat.le_refl _, fun x h => (by simp at h), hx, World.ownsRow_nil _ _ _ _, hb00, hsz⟩
 case round =>
  clear hx hb00 hsz hxl
  obtain ⟨k, A', cp, s, hk, rfl, rfl, rfl, hs, hsk, hall, hx, hown, hbw, hsz⟩ := hrel
  obtain ⟨⟨x0, x1, x2, x3, x4, x5⟩, ⟨x6, x7, x8, x9, x10, x11⟩, x12⟩ := hx.get6
  by_cases hlt : k < l
  ·obtain ⟨b, o, rfl, hB, hr⟩ := hA (by omega)
   obtain ⟨n, hn⟩ : ∃ n, ms[k]? = some n := ⟨_, List.getElem?_eq_getElem (by rw [HL.out]; exact hlt)⟩
   have d0 := (hr.below hbw hB) _ _ (natsI_at hn)
   have HN := Lib.hid hn
   clear hn hr hA
   by_cases hn1 : n ≤ 1
   ·have hn2 : n ≤ 18446744073709551615 := by omega
    have HS2 := Lib.hid (sum_take HN.out)
    have HA2 := Lib.hid (all_take HN.out hall.out hn1)
    have HT2 : Hid (esK ((ms.take (k + 1)).map (nK f)) = esK ((ms.take k).map (nK f)) ++ [eK (nK f n)]) := by
     show esK ((ms.take (k + 1)).map (nK f)) = _
     rw [List.take_add_one, HN.out, List.map_append, esK_append]
     rfl
    have hk1 : k + 1 ≤ 1099511627776 := by omega
    obtain ⟨y, hy⟩ : ∃ y, kL f (n : Int) 0 = y := ⟨_, rfl⟩
    have HOY : Hid (∀ wz, Calls Tryz.prog 52 #[.int .u8 f, .int .u64 n] wz (RetK y wz)) := by
     intro wz
     have h := HOF.out n hn2 wz
     rwa [hy] at h
    have HTY : Hid (esK ((ms.take (k + 1)).map (nK f)) = esK ((ms.take k).map (nK f)) ++ [eK y]) := by rw [← hy]; exact HT2.out
    clear HT2 hy
    go_wp2_with (first
     | (go_at_call 52; refine (HOY.out _).mono ?_; rintro e w6 ⟨rfl, hb6⟩; have hbw6 := bl_call hbw (Nat.le_refl _) hb6; have hx6 := hx.call hb6; have hown6 := own_call hown hb6; have hs6 := hb6.size; have HOW := Lib.hid (hown6.alloc (.cells #[.int .u64 (lo y), .int .u64 (hi y)] 36)); have hbase : w.heap.size + 1 ≤ (w6.alloc (.cells #[.int .u64 (lo y), .int .u64 (hi y)] 36)).heap.size := (by rw [World.size_alloc]; omega); have HR1 := Lib.hid (show 0 < 1 → ∃ b o, (some ⟨w6.heap.size, 0, none⟩ : Option Addr) = some ⟨b, o, none⟩ ∧ RowE (w6.alloc (.cells #[.int .u64 (lo y), .int .u64 (hi y)] 36)) b o [eK y] from fun _ => ⟨_, _, rfl, (BlkE.new w6 [eK y] _ rfl).rowE⟩); clear hown6)
     | (at_builtin; (refine wpList_append_E rfl (.tmp 86) (.tmp 91) rfl (w.heap.size + 1) _ k (esK ((ms.take k).map (nK f))) rfl HOW.out (some ⟨w6.heap.size, 0, none⟩) 1 1 [eK y] rfl rfl HR1.out hk1 hbase ?_; intro v2 w7 hown7 hg7 hat7; have hb7 : Below (w.heap.size + 1) (w6.alloc (.cells #[.int .u64 (lo y), .int .u64 (hi y)] 36)) w7 := (Below.refl _ _).grown hg7 hbase (fun q hq => (HOW.out.lt q hq).1); obtain ⟨g2, cap2, hv2⟩ := own_slice hown7; rw [hv2])))
    rw [hv2, ← HTY.out] at hown7
    have hx7 := (hx6.alloc (.cells #[.int .u64 (lo y), .int .u64 (hi y)] 36)).belowB hb7 (by omega)
    have hbw7 : Below w.heap.size w w7 := (hbw6.alloc (by omega) (.cells #[.int .u64 (lo y), .int .u64 (hi y)] 36)).trans (hb7.mono (by omega))
    have hz7 := hb7.size
    go_roundw
    case rel => exact ⟨k + 1, _, cap2, s + n, by omega, by go_num, rfl, by go_num, (by rw [HS2.out, hs.out] : (ms.take (k + 1)).sum = s + n), by omega, HA2.out, hx7, hown7, hbw7, by omega⟩
    case measure => simp [intOf]; omega
   ·have hbad : ¬ okMulti m ms := fun h => hn1 (h.1 n (List.mem_of_getElem? HN.out))
    have HBAD := Lib.hid hbad
    clear hbad
    go_wp2_with fail
    go_ret2
    exact .inr ⟨HBAD.out, rfl, hbw⟩
  ·obtain rfl : k = l := by omega
   rw [List.take_of_length_le (by rw [HL.out]; exact Nat.le_refl _)] at hs hall hown
   by_cases hsm : s ≤ m
   ·have hgood : okMulti m ms := ⟨hall.out, by rw [hs.out]; exact hsm⟩
    have HGOOD := Lib.hid hgood
    have hoff : offN m ≤ 128 := by
     have h1 := (bitLen_small m (by omega)).1
     have h2 : 2 ^ Lib.bitLen m ≤ 2 ^ 7 := Nat.pow_le_pow_right (by omega) h1
     have h3 : (2 : Nat) ^ 7 = 128 := rfl
     show 2 ^ Lib.bitLen m - 1 - m ≤ 128
     omega
    have hq7 := (bitLen_small m (by omega)).1
    have HOFF := Lib.hid (fun wz => circuit_offset 5 f 0 k c m (by omega) wz)
    have HWB := Lib.hid (fun wz => circuit_weightBits 5 f 0 k c m (by omega) wz)
    have HE : Hid (encMulti m ms = ms ++ bitsL (s + offN m) (Lib.bitLen m)) := by show encMulti m ms = _; unfold encMulti; rw [hs.out]
    have HBO := Lib.hid (fun (n q : Nat) (hn : n ≤ 18446744073709551615) (hq : q ≤ 64) wz => circuit_bitsOf hf 5 0 k m c n q hn hq wz)
    generalize offN m = of at *
    generalize Lib.bitLen m = q at *
    obtain ⟨N, hN⟩ : ∃ N, s + of = N := ⟨_, rfl⟩
    have hN2 : N ≤ 256 := by omega
    rw [hN] at HE
    have hNi : IntKind.u64.wrap (N : Int) = (N : Int) := IntWalk.u64_in _ (by omega)
    have hws : IntKind.u64.wrap (s : Int) = (s : Int) := IntWalk.u64_in _ (by omega)
    have hNi2 : (s : Int) + (of : Int) = (N : Int) := by omega
    have HBQ : Hid (∀ wz, Calls Tryz.prog 94 #[.agg #[.int .u8 5, .int .u8 f, .int .i64 0, .int .i64 k, .int .i64 m, .int .i64 c], .int .u64 N, .int .i64 q] wz fun e w' => ∃ x : Option Addr × Nat, e = .returned (Value.slice x.1 q x.2) ∧ SlK w' w'.heap.size (.slice x.1 q x.2) ((bitsL N q).map (nK f)) ∧ Below wz.heap.size wz w') := by
     intro wz
     refine (HBO.out N q (by omega) (by omega) wz).mono ?_
     rintro e w' ⟨v, rfl, hown', hb'⟩
     have hlen : ((bitsL N q).map (nK f)).length = q := by rw [List.length_map, bitsL_length]
     rw [hlen] at hown'
     obtain ⟨A9, c9, rfl⟩ := own_shape hown'
     exact ⟨(A9, c9), rfl, own_sl hlen hown', hb'⟩
    clear hgood hoff HBO hN
    go_upto_region 39 with fail
    refine region_G (n := 10) (m := 12) (f := 10) (by kernel_rfl) (by kernel_rfl) rfl ?_
    refine WpG.vD 0 (some 101) ?_ rfl rfl (by kernel_rfl) (fun _ _ _ h => h) rfl (fun wz hwz => ?_) ?_
    rotate_left
    ·go_simp; try (with_reducible rfl)
    (simp only [Act.put]); (try simp only [List.setIfInBounds_toArray]); (try simp only [List.set_cons_succ]); (try simp only [List.set_cons_zero])
    refine WpG.vD 1 (some 102) ?_ rfl rfl (by kernel_rfl) (fun _ _ _ h => h) rfl (fun wz hwz => ?_) ?_
    rotate_left
    ·(obtain ⟨hcz, hfz⟩ := bcell (hwz); go_simp; try (with_reducible rfl))
    (simp only [Act.put]); (try simp only [List.setIfInBounds_toArray]); (try simp only [List.set_cons_succ]); (try simp only [List.set_cons_zero])
    refine WpG.vD 2 (some 103) ?_ rfl rfl (by kernel_rfl) (fun _ _ _ h => h) rfl (fun wz hwz => ?_) ?_
    rotate_left
    ·go_simp; try (with_reducible rfl)
    (simp only [Act.put]); (try simp only [List.setIfInBounds_toArray]); (try simp only [List.set_cons_succ]); (try simp only [List.set_cons_zero])
    refine WpG.vD 3 (some 104) ?_ rfl rfl (by kernel_rfl) (fun _ _ _ h => h) rfl (fun wz hwz => ?_) ?_
    rotate_left
    ·go_simp; try (with_reducible rfl)
    (simp only [Act.put]); (try simp only [List.setIfInBounds_toArray]); (try simp only [List.set_cons_succ]); (try simp only [List.set_cons_zero])
    refine WpG.vD 4 (some 105) ?_ rfl rfl (by kernel_rfl) (fun _ _ _ h => h) rfl (fun wz hwz => ?_) ?_
    rotate_left
    ·(obtain ⟨hcz, hfz⟩ := bcell (hwz); go_simp; try (with_reducible rfl))
    (simp only [Act.put]); (try simp only [List.setIfInBounds_toArray]); (try simp only [List.set_cons_succ]); (try simp only [List.set_cons_zero])
    refine WpG.takeD 5 (some 106) rfl rfl (by kernel_rfl) (fun _ _ _ h => h) (.call rfl (fun wz hwz => HOFF.out wz) (fun wz hwz => ?_)) ?_
    ·go_simp; try (with_reducible rfl)
    (simp only [Act.put]); (try simp only [List.setIfInBounds_toArray]); (try simp only [List.set_cons_succ]); (try simp only [List.set_cons_zero])
    refine WpG.vD 6 (some 107) ?_ rfl rfl (by kernel_rfl) (fun _ _ _ h => h) rfl (fun wz hwz => ?_) ?_
    rotate_left
    ·go_simp; try (with_reducible rfl)
    (simp only [Act.put]); (try simp only [List.setIfInBounds_toArray]); (try simp only [List.set_cons_succ]); (try simp only [List.set_cons_zero])
    refine WpG.vD 7 (some 108) ?_ rfl rfl (by kernel_rfl) (fun _ _ _ h => h) rfl (fun wz hwz => ?_) ?_
    rotate_left
    ·(obtain ⟨hcz, hfz⟩ := bcell (hwz); go_simp; try (with_reducible rfl))
    (simp only [Act.put]); (try simp only [List.setIfInBounds_toArray]); (try simp only [List.set_cons_succ]); (try simp only [List.set_cons_zero])
    refine WpG.takeD 8 (some 109) rfl rfl (by kernel_rfl) (fun _ _ _ h => h) (.call rfl (fun wz hwz => HWB.out wz) (fun wz hwz => ?_)) ?_
    ·go_simp; try (with_reducible rfl)
    (simp only [Act.put]); (try simp only [List.setIfInBounds_toArray]); (try simp only [List.set_cons_succ]); (try simp only [List.set_cons_zero])
    refine WpG.oneD 9 (some 110) rfl rfl (by kernel_rfl) (fun x : Option Addr × Nat => Value.slice x.1 q x.2) (fun x w => SlK w w.heap.size (.slice x.1 q x.2) ((bitsL N q).map (nK f))) (fun _ _ _ h hb => h.later hb) (Fresh.call rfl (fun wz hwz => HBQ.out wz) (fun wz hwz => by go_simp; try (with_reducible rfl))) (fun xx w0 hw0 hR0 => ?_)
    simp only [Zp, Zq, Zr, Zs]
    refine WpG.done (by kernel_rfl) (fun w6 hS => ?_)
    (try simp only [List.drop_succ_cons]); (try simp only [List.drop_zero]); (try simp only [Nat.reduceSub]); (try simp only [List.take_succ_cons]); (try simp only [List.take_zero])
    obtain ⟨hb6, hE⟩ := hS
    obtain ⟨A9, c9⟩ := xx
    dsimp only at hE hR0
    clear x0 x1 x2 x3 x4 x5 x6 x7 x8 x9 x10 x11 x12
    have hown6 := own_call hown hb6
    replace hbw := bl_call hbw (Nat.le_refl _) hb6
    replace hx := hx.call hb6
    have hz6 := hb6.size
    have HOW := Lib.hid hown6
    have hlen : ((bitsL N q).map (nK f)).length = q := by rw [List.length_map, bitsL_length]
    have HR1 : Hid (0 < q → ∃ b o, A9 = some ⟨b, o, none⟩ ∧ RowE w6 b o (esK ((bitsL N q).map (nK f)))) := by
     intro hq0
     obtain ⟨A8, c8, h8, _, _, h9⟩ := hE
     rw [hlen] at h8 h9
     injection h8 with h1 h2 h3
     subst h1
     obtain ⟨b8, o8, e8, _, r8⟩ := h9 hq0
     exact ⟨b8, o8, e8, r8⟩
    have HM : Hid ((esK ((bitsL N q).map (nK f))).length = q) := by show (esK _).length = q; rw [esK_length, hlen]
    have hk1 : k + q ≤ 1099511627776 := by omega
    have hbase : w.heap.size + 1 ≤ w6.heap.size := by omega
    clear hown hown6 hb6 hE hR0 hw0 hlen hNi hNi2 hws
    go_wp2_with (at_builtin; (refine wpList_append_E rfl (.tmp 101) (.tmp 110) rfl (w.heap.size + 1) _ k (esK (ms.map (nK f))) rfl HOW.out A9 q c9 (esK ((bitsL N q).map (nK f))) rfl HM.out HR1.out hk1 hbase ?_; intro v2 w7 hown7 hg7 hat7; have hb7 : Below (w.heap.size + 1) w6 w7 := (Below.refl _ _).grown hg7 hbase (fun q hq => (HOW.out.lt q hq).1); obtain ⟨A7, cap7, hv7⟩ := own_shape hown7; rw [hv7]))
    go_ret2
    rw [hv7, ← esK_append, ← List.map_append, ← HE.out] at hown7
    refine .inl ⟨HGOOD.out, _, rfl, ?_, hbw.trans (hb7.mono (by omega))⟩
    have hlen2 : ((encMulti m ms).map (nK f)).length = k + q := by rw [HE.out, List.length_map, List.length_append, HL.out, bitsL_length]
    rw [hlen2]
    exact own_mono hown7 (by omega)
   ·have hbad : ¬ okMulti m ms := fun h => hsm (by rw [← hs.out]; exact h.2)
    have HBAD := Lib.hid hbad
    clear hbad
    go_wp2_with fail
    go_ret2
    exact .inr ⟨HBAD.out, rfl, hbw⟩
end

end Go.Proofs.YtfbfbijkkbflkaaGreatDoor

namespace Go.Proofs.YtfbfbijkkbflkaaGreatDoor
open Go.RowKit Fm
set_option linter.unusedVariables false
set_option maxRecDepth 100000

def okBits {f : Nat} (l : KL f) : Prop := ∀ x, x ∈ l → x = 0 ∨ x = 1
def okRest {f : Nat} (y : CK) (l : KL f) : Prop :=
 match y with
 | .hist _ _ => ksum l = 1
 | .multi n m _ => ksum (l.take n) + nK f (offN m) = knum (l.drop n)
 | _ => True
def okVec {f : Nat} (y : CK) (l : KL f) : Prop := okBits l ∧ okRest y l

section
variable {f : Nat} (hf : IsF f)
include hf

end

end Go.Proofs.YtfbfbijkkbflkaaGreatDoor

namespace Go.Proofs.YtfbfbijkkbflkaaGreatDoor
open Go.RowKit Fm
set_option linter.unusedVariables false
set_option maxRecDepth 100000

theorem kpow_nK (f : Nat) : ∀ j, kpow f j = nK f (2 ^ j)
 | 0 => (nK_one f).symm
 | j + 1 => by rw [kpow, kpow_nK f j, Nat.pow_succ, Nat.mul_two, nK_add]

section
variable {f : Nat} (hf : IsF f)
include hf

end

end Go.Proofs.YtfbfbijkkbflkaaGreatDoor

namespace Go.Proofs.YtfbfbijkkbflkaaGreatDoor
open Go.RowKit Fm
set_option linter.unusedVariables false
set_option maxRecDepth 100000

/-! ### shares -/
/-! ### directly -/
theorem dirF_ok {f : Nat} (y : CK) (hy : y.ok) (v j : KL f) (hl : v.length = y.nin) (hv : okVec y v) : dirF y v j = 0 := by
 have hz : ∀ s n, n ≤ v.length → acc (dirG v j s) n = 0 := fun s n hn => by
  have h := acc_zero (dirG v j s) 0 n (fun i _ hi => by
   have hx := hv.1 v[i] (List.getElem_mem (by omega))
   have he : v[i]? = some v[i] := List.getElem?_eq_getElem (by omega)
   unfold dirG
   rw [getD_of he]
   rcases hx with h | h
   ·rw [h]
    grind
   ·rw [h]
    grind)
  rw [Nat.zero_add] at h
  exact h
 have hn := CK.nin_pos hy
 cases y with
 | count =>
  have hx := hv.1 v[0] (List.getElem_mem (by omega))
  have he : v[0]? = some v[0] := List.getElem?_eq_getElem (by omega)
  show v.getD 0 0 * v.getD 0 0 - v.getD 0 0 = 0
  rw [getD_of he]
  rcases hx with h | h
  ·rw [h]
   grind
  ·rw [h]
   grind
 | sum b => exact hz b b (by rw [hl]; exact Nat.le_refl _)
 | vec bb l c => exact hz c (l * bb) (by rw [hl]; exact Nat.le_refl _)
 | hist l c =>
  show acc (dirG v j c) l + _ = 0
  rw [hz c l (by rw [hl]; exact Nat.le_refl _)]
  have h2 : ksum v = 1 := hv.2
  have h3 : v.take l = v := List.take_of_length_le (by rw [hl]; exact Nat.le_refl _)
  rw [h3, h2]
  grind
 | multi l m c =>
  show acc (dirG v j c) (l + Lib.bitLen m) + _ = 0
  rw [hz c _ (by rw [hl]; exact Nat.le_refl _)]
  have h2 : ksum (v.take l) + nK f (offN m) = knum (v.drop l) := hv.2
  rw [h2]
  grind

end Go.Proofs.YtfbfbijkkbflkaaGreatDoor

namespace Go.Proofs.YtfbfbijkkbflkaaGreatDoor.Fm
set_option linter.unusedVariables false

section
variable {f : Nat}

/-! ### without noughts at the end -/
/-! ### roots -/
/-! ### a list out of its coefficients -/
/-! ### sums, products -/
theorem ev_pmul (x : Fin (Pm f)) (p q : List (Fin (Pm f))) : ev x (pmul p q) = ev x p * ev x q := by unfold pmul; rw [ev_trim, prodL_ev]
end

end Go.Proofs.YtfbfbijkkbflkaaGreatDoor.Fm

namespace Go.Proofs.YtfbfbijkkbflkaaGreatDoor.Fm
set_option linter.unusedVariables false

section
variable {f : Nat}

/-! ### values, and back -/
theorem vals_coefs {r s m : Fin (Pm f)} {L : Nat} (hr : Rt r L) (hs : r * s = 1) (hm : nn f (2 ^ L) * m = 1) (v : List (Fin (Pm f))) (hv : v.length = 2 ^ L) : vals r (2 ^ L) (coefs s m (2 ^ L) v) = v := by
 refine (eq_ofF hv fun i hi => ?_).symm
 have h := round_trip (hr.inv hs) (s := r) (by grind) (fun j => v.getD j 0) i hi
 unfold coefs
 rw [ofF_ev, sm_congr (h := fun k => m * (sm (fun j => v.getD j 0 * kpow s (k * j)) (2 ^ L) * kpow r (i * k))) (fun k hk => by
  rw [ev_sm, hv, sm_congr (h := fun j => v.getD j 0 * kpow s (k * j)) (fun j _ => by rw [kpow_mul]), kpow_mul r i k]
  grind), sm_mul, h]
 unfold nn at hm
 grind
end

end Go.Proofs.YtfbfbijkkbflkaaGreatDoor.Fm

namespace Go.Proofs.YtfbfbijkkbflkaaGreatDoor.Fm
set_option linter.unusedVariables false

section
variable {f : Nat}

/-! ### what goes into what -/
/-! ### Lagrange -/
theorem lagrange {r s m x : Fin (Pm f)} {L : Nat} (hr : Rt r L) (hs : r * s = 1) (v : List (Fin (Pm f))) (hv : v.length = 2 ^ L) (d : Nat → Fin (Pm f)) (hd : ∀ k, k < 2 ^ L → (x - kpow r k) * d k = 1) :
  sm (fun k => (kpow x (2 ^ L) - 1) * m * kpow r k * d k * v.getD k 0) (2 ^ L) = ev x (coefs s m (2 ^ L) v) := by
 have e : ∀ n, kpow r n * kpow s n = 1 := fun n => by rw [← mul_kpow, hs, one_kpow]
 have hss := hr.inv hs
 unfold coefs
 have hR : sm (fun i => ev (kpow s i) v * m * kpow x i) (2 ^ L) = sm (fun i => sm (fun k => m * v.getD k 0 * kpow (x * kpow s k) i) (2 ^ L)) (2 ^ L) := sm_congr fun i hi => by
  rw [ev_sm, hv, ← sm_mulr, ← sm_mulr]
  refine sm_congr fun k _ => ?_
  rw [mul_kpow, ← kpow_mul, ← kpow_mul, Nat.mul_comm k i]
  grind
 rw [ofF_ev, hR, sm_swap]
 refine sm_congr fun k hk => ?_
 rw [sm_mul]
 have hg := geo (x * kpow s k) (2 ^ L)
 rw [mul_kpow, ← kpow_mul, Nat.mul_comm k, kpow_mul s, hss.one, one_kpow] at hg
 have h1 := e k
 have h2 := hd k hk
 have h3 : (x - kpow r k) * kpow s k = x * kpow s k - 1 := by grind
 have h4 : (x * kpow s k - 1) * (d k * kpow r k) = 1 := by
  rw [← h3]
  grind
 have hfin : ∀ S X rk dk vk xs : Fin (Pm f), (xs - 1) * S = X * 1 - 1 → (xs - 1) * (dk * rk) = 1 → (X - 1) * m * rk * dk * vk = m * vk * S := by
  intro S X rk dk vk xs a1 a2
  have a3 : X - 1 = (xs - 1) * S := by grind
  rw [a3]
  grind
 exact hfin _ _ _ _ _ _ hg h4
end

end Go.Proofs.YtfbfbijkkbflkaaGreatDoor.Fm

namespace Go.Proofs.YtfbfbijkkbflkaaGreatDoor.Fm
set_option linter.unusedVariables false

section
variable {f : Nat}
theorem valsK_coefs {L : Nat} (hL : L ≤ 32) (v : List (Fin (Pm f))) (hv : v.length = 2 ^ L) : valsK L (coefsK L v) = v :=
 vals_coefs (rt_root f L hL) (mul_kinv _ (rt_root f L hL).ne_zero) (mul_kinv _ (nn_ne f _ (Nat.two_pow_pos L) (two_pow_lt hL))) v hv
end

end Go.Proofs.YtfbfbijkkbflkaaGreatDoor.Fm

namespace Go.Proofs.YtfbfbijkkbflkaaGreatDoor
open Go.RowKit Fm
set_option linter.unusedVariables false
set_option maxRecDepth 100000

section
variable {f : Nat}
theorem ev_comp (x : Fin (Pm f)) (p : KL f) : ∀ cs : KL f, ev x (comp p cs) = ev (ev x p) cs
 | [] => rfl
 | c :: cs => by
  rw [comp, ev_padd, ev_pmul, ev_comp x p cs, ev_cons, ev_cons, ev_nil]
  grind
theorem getD_map_ev (x : Fin (Pm f)) (l : List (KL f)) (i : Nat) : (l.map (ev x)).getD i 0 = ev x (l.getD i []) := by
 rw [List.getD_eq_getElem?_getD, List.getElem?_map, List.getD_eq_getElem?_getD]
 cases l[i]? <;> rfl
theorem ev_ppsum (x : Fin (Pm f)) (l : List (KL f)) : ∀ k, ev x (ppsum l k) = psum (l.map (ev x)) k
 | 0 => rfl
 | k + 1 => by
  rw [ppsum, ev_padd, ev_pmul, ev_ppsum x l k]
  show _ = psum _ k + (l.map (ev x)).getD (2 * k) 0 * (l.map (ev x)).getD (2 * k + 1) 0
  rw [getD_map_ev, getD_map_ev]
theorem ev_gpoly (x : Fin (Pm f)) (g : Gad f) (l : List (KL f)) : ev x (gpoly g l) = gval g (l.map (ev x)) := by
 cases g with
 | mul => exact ev_ppsum x l 1
 | par n => exact ev_ppsum x l n
 | eval cs =>
  show ev x (comp _ cs) = ev ((l.map (ev x)).getD 0 0) cs
  rw [ev_comp, getD_map_ev]
end

end Go.Proofs.YtfbfbijkkbflkaaGreatDoor

namespace Go.Proofs.YtfbfbijkkbflkaaGreatDoor
open Go.RowKit Fm
set_option linter.unusedVariables false
set_option maxRecDepth 100000

theorem gold_PowL (a0 a1 : Int) (ha : okE (a0, a1)) (n : Nat) (hn : n ≤ 18446744073709551615) (w : World) : Calls Tryz.prog 55 #[.int .u64 a0, .int .u64 n] w fun e w' => e = .returned (.int .u64 (lo (Fm.kpow (kL 1 a0 a1) n))) ∧ w = w' := by
 have hp : ((Pm 1 : Nat) : Int) = 18446744069414584321 := rfl
 have h := gold_Pow a0 (n : Int) w ha.1 ha.2.1 (by omega) (by omega)
 have hk : kI (Pm 1) (ipow a0 n) = Fm.kpow (kL 1 a0 a1) n := by
  clear h hn
  induction n with
  | zero => exact kI_one
  | succ n ih =>
   rw [ipow, kI_mul, ih, Fm.kpow_succ]
   rfl
 rwa [Int.toNat_natCast, ← hp, ← val_kI, hk, ← (lo_small (Fm.kpow (kL 1 a0 a1) n)).1] at h

set_option maxHeartbeats 4000000 in
theorem field_PowL {f : Nat} (hf : IsF f) (a0 a1 : Int) (ha : okE (a0, a1)) (n : Nat) (hn : n ≤ 18446744073709551615) (w : World) :
  Calls Tryz.prog 15 #[.int .u8 f, .agg #[.int .u64 a0, .int .u64 a1], .int .u64 n] w (RetK (Fm.kpow (kL f a0 a1) n) w) := by
 rcases hf.or with rfl | rfl
 ·have HG := Lib.hid (fun wz => gold_PowL a0 a1 ha n hn wz)
  have HH : Hid (hi (Fm.kpow (kL 1 a0 a1) n) = 0) := (lo_small _).2
  obtain ⟨y, hy⟩ : ∃ y, Fm.kpow (kL 1 a0 a1) n = y := ⟨_, rfl⟩
  rw [hy] at HG HH ⊢
  clear hy
  go_enter Tryz.func15, Tryz.ntmps15
  go_upto_region 1 with fail
  have q0 := (V2.new w (.int .u64 a0) (.int .u64 a1) 36).alloc (.cells #[(.int .u64 0), (.int .u64 0)] 36)
  have s0 := V2.new (w.alloc (.cells #[(.int .u64 a0), (.int .u64 a1)] 36)) (.int .u64 0) (.int .u64 0) 36
  simp only [World.size_alloc] at s0
  have hb00 : Below w.heap.size w ((w.alloc (.cells #[(.int .u64 a0), (.int .u64 a1)] 36)).alloc (.cells #[(.int .u64 0), (.int .u64 0)] 36)) := by repeat (first | exact bA | with_reducible assumption | apply bB)
  have hsz : w.heap.size + 2 ≤ ((w.alloc (.cells #[(.int .u64 a0), (.int .u64 a1)] 36)).alloc (.cells #[(.int .u64 0), (.int .u64 0)] 36)).heap.size := by simp only [World.size_alloc]; omega
  generalize ((w.alloc (.cells #[(.int .u64 a0), (.int .u64 a1)] 36)).alloc (.cells #[(.int .u64 0), (.int .u64 0)] 36)) = w1 at q0 s0 hb00 hsz ⊢
  obtain ⟨q00, q01, q02, q03, q04⟩ := V2.mk q0.c0 q0.c1 q0.f0 q0.f1 q0.lt
  obtain ⟨s00, s01, s02, s03, s04⟩ := V2.mk s0.c0 s0.c1 s0.f0 s0.f1 s0.lt
  go_wp2_with fail
  refine (HG.out _).mono ?_
  rintro e w3 ⟨rfl, rfl⟩
  go_wp2_with fail
  refine bodyPost_ret (results_v2 (b := w.heap.size + 1) (u := .int .u64 (lo y)) (v := .int .u64 0) ?_ rfl rfl) rfl ?_
  ·exact V2.set s0 _ _
  ·exact ⟨by rw [← HH.out], by repeat (first | exact bA | with_reducible assumption | apply bB | (refine bC ?_ (by dsimp only; omega)) | apply bD | apply bE | (refine bF ?_ (by assumption)))⟩
 ·have HI : Hid (∀ wz, Calls Tryz.prog 56 #[.agg #[.int .u64 a0, .int .u64 a1], .agg #[.int .u64 n, .int .u64 0]] wz (RetK (Fm.kpow (kL 2 a0 a1) n) wz)) := fun wz => by
   have h := wide_Pow a0 a1 n 0 wz ha.1 ha.2.1 ha.2.2.1 ha.2.2.2 hn (by omega)
   rw [Nat.mul_zero, Nat.add_zero, kpw_fm] at h
   exact h
  obtain ⟨y, hy⟩ : ∃ y, Fm.kpow (kL 2 a0 a1) n = y := ⟨_, rfl⟩
  rw [hy] at HI ⊢
  clear hy
  go_enter Tryz.func15, Tryz.ntmps15
  go_upto_region 1 with fail
  have q0 := (V2.new w (.int .u64 a0) (.int .u64 a1) 36).alloc (.cells #[(.int .u64 0), (.int .u64 0)] 36)
  have s0 := V2.new (w.alloc (.cells #[(.int .u64 a0), (.int .u64 a1)] 36)) (.int .u64 0) (.int .u64 0) 36
  simp only [World.size_alloc] at s0
  have hb00 : Below w.heap.size w ((w.alloc (.cells #[(.int .u64 a0), (.int .u64 a1)] 36)).alloc (.cells #[(.int .u64 0), (.int .u64 0)] 36)) := by repeat (first | exact bA | with_reducible assumption | apply bB)
  have hsz : w.heap.size + 2 ≤ ((w.alloc (.cells #[(.int .u64 a0), (.int .u64 a1)] 36)).alloc (.cells #[(.int .u64 0), (.int .u64 0)] 36)).heap.size := by simp only [World.size_alloc]; omega
  generalize ((w.alloc (.cells #[(.int .u64 a0), (.int .u64 a1)] 36)).alloc (.cells #[(.int .u64 0), (.int .u64 0)] 36)) = w1 at q0 s0 hb00 hsz ⊢
  obtain ⟨q00, q01, q02, q03, q04⟩ := V2.mk q0.c0 q0.c1 q0.f0 q0.f1 q0.lt
  obtain ⟨s00, s01, s02, s03, s04⟩ := V2.mk s0.c0 s0.c1 s0.f0 s0.f1 s0.lt
  go_wp2_with fail
  refine (HI.out _).mono ?_
  rintro e w3 ⟨rfl, hb3⟩
  clear q00 q01 q02 q03 q04 s00 s01 s02 s03 s04
  replace hb00 := bl_call hb00 (Nat.le_refl _) hb3
  replace q0 := q0.call hb3
  replace s0 := s0.call hb3
  clear hb3
  obtain ⟨s00, s01, s02, s03, s04⟩ := V2.mk s0.c0 s0.c1 s0.f0 s0.f1 s0.lt
  go_wp2_with fail
  refine bodyPost_ret (results_v2 (b := w.heap.size + 1) (u := .int .u64 (lo y)) (v := .int .u64 (hi y)) ?_ rfl rfl) rfl ?_
  ·exact V2.set s0 _ _
  ·exact ⟨rfl, by repeat (first | exact bA | with_reducible assumption | apply bB | (refine bC ?_ (by dsimp only; omega)) | apply bD | apply bE | (refine bF ?_ (by assumption)))⟩

end Go.Proofs.YtfbfbijkkbflkaaGreatDoor

namespace Go.Proofs.YtfbfbijkkbflkaaGreatDoor
open Go.RowKit Fm
set_option linter.unusedVariables false
set_option maxRecDepth 100000

section
variable {f : Nat} (hf : IsF f)
include hf

omit hf in
theorem SlE.dropN {w : World} {B b o : Nat} {c : Nat} {l : List E} {n L : Nat} (h : SlE w B (.slice (some ⟨b, o, none⟩) L c) l) (hn : n < L) : SlE w B (.slice (some ⟨b, o + n * 2, none⟩) (L - n) (c - n)) (l.drop n) := by
 obtain ⟨⟨A', c', hh, h1, h2, h3⟩, hok⟩ := h
 injection hh with e1 e2 e3
 subst e1 e2 e3
 have hl : (l.drop n).length = l.length - n := List.length_drop
 refine ⟨⟨some ⟨b, o + n * 2, none⟩, c - n, by rw [hl], by omega, by omega, fun h0 => ?_⟩, fun e he => hok e (List.mem_of_mem_drop he)⟩
 obtain ⟨b', o', hA, hB, hr⟩ := h3 (by omega)
 injection hA with hA
 injection hA with hb ho
 subst hb
 subst ho
 refine ⟨b, o + n * 2, rfl, hB, fun i e hi => ?_⟩
 rw [List.getElem?_drop] at hi
 have h4 := hr (n + i) e hi
 rw [show o + n * 2 + i * 2 = o + (n + i) * 2 by omega]
 exact h4

end

end Go.Proofs.YtfbfbijkkbflkaaGreatDoor
