/-
 Elem, Slice2, Gold, Append, K, Vs, Law9b, Nums, BitsOf, EncM, Valid, Said, ExcA, Bytes, Vec, TaA, TaC, RwA, Exc, TaH, MsA, MsD, ClC, ClD, ClT, ClU, ClV, ClY: for TotalBytes.
-/
import Derived.Test.YtbakkmfjamcbfaaProg
import Derived.Shelf.Spec.BitsCarry
import Derived.Shelf.Bits.Mul64
import Derived.Maps.AppendAt
import Derived.BigQuiet
import Derived.Laws.OwnMore
import Derived.Laws.Bits64b
import Derived.Laws.BytesArg
import Derived.ChangeKeysEq
import Derived.IntWalk
import Derived.Test.YtbakkmfjamcbfaaKat
namespace Go.Proofs.Ytbakkmfjamcbfaa
open Go.RowKit

theorem results_v2_tmp {fn : Func} {p e : Tmp} {tmps : Array Value} {w : World} {b : Nat} {u v : Value} (hv : V2 w b u v) (h : fn.results = #[.cell p 99, .tmp e]) (hp : tmps.getD p undef = .pointer (some ⟨b, 0, none⟩)) :
  (results fn tmps).run Try.prog w = .ok (.tuple #[.agg #[u, v], tmps.getD e undef]) w := by
 have hl := load_elem hv
 rw [results_cell_tmp h, hp]
 simp only [asAddr, Sem.run_pure, Result.andThen, hl]

end Go.Proofs.Ytbakkmfjamcbfaa

namespace Go.Proofs.Ytbakkmfjamcbfaa
open Go.RowKit Fm
set_option linter.unusedVariables false
set_option maxRecDepth 100000

theorem cellsE_append (xs ys : List E) : cellsE (xs ++ ys) = cellsE xs ++ cellsE ys := by
 induction xs with
 | nil => rfl
 | cons x l ih => simp only [List.cons_append, cellsE, ih]

section
variable {w w' : World} {g : Nat} {xs : List E}
end

end Go.Proofs.Ytbakkmfjamcbfaa

namespace Go.Proofs.Ytbakkmfjamcbfaa
open Go.RowKit Fm
set_option linter.unusedVariables false
set_option maxRecDepth 100000

/-! ### math/bits: entries of the model -/
/-! ### gold -/
theorem gold_In (a : Int) (w : World) (h0 : 0 ≤ a) (h1 : a ≤ 18446744073709551615) :
  Calls Try.prog 120 #[.int .u64 a] w fun e w' => e = .returned (.bool (decide (a < 18446744069414584321))) ∧ w = w' := by
 go_enter Try.func120, Try.ntmps120
 go_wp2
 go_ret
 exact ⟨rfl, rfl⟩

end Go.Proofs.Ytbakkmfjamcbfaa

namespace Go.Proofs.Ytbakkmfjamcbfaa
open Go.RowKit Fm
set_option linter.unusedVariables false
set_option maxRecDepth 100000

theorem oneCell_cellsE (xs : List E) : ∀ u, u ∈ cellsE xs → u.oneCell' = true := by
 induction xs with
 | nil => intro u h; cases h
 | cons e l ih =>
  intro u h
  simp only [cellsE, List.mem_cons] at h
  rcases h with rfl | rfl | h
  ·rfl
  ·rfl
  ·exact ih u h

theorem run_append_E (w : World) (base : Nat) (ty : TypeId) (v : Value) (n : Nat) (xs : List E) (hown : w.ownsRow base 99 2 v n (cellsE xs)) (A : Option Addr) (m c : Nat) (ys : List E)
  (hm : ys.length = m) (hy : 0 < m → ∃ b o, A = some ⟨b, o, none⟩ ∧ RowE w b o ys) (hbound : n + m ≤ 1099511627776) (hbase : base ≤ w.heap.size) :
  ∃ v' w', (Builtin.append_ #[73, 73] ty #[v, .slice A m c]).run Try.prog w = .ok v' w' ∧ w'.ownsRow base 99 2 v' (n + m) (cellsE (xs ++ ys)) ∧ w.grownBy w' v.ownBlock ∧
   (v'.ownBlock = v.ownBlock ∨ v'.ownBlock = some w.heap.size) := by
 obtain ⟨i, hi, hz, h1, h2⟩ := info_parts info_elem
 rw [cellsE_append]
 rcases A with _ | ad
 ·have hm0 : m = 0 := by
   rcases Nat.eq_zero_or_pos m with h0 | h0
   ·exact h0
   ·obtain ⟨b, o, h, _⟩ := hy h0
    cases h
  subst hm0
  obtain rfl : ys = [] := List.eq_nil_of_length_eq_zero hm
  refine ⟨v, w, ?_, by simpa [cellsE] using hown, World.grownBy.refl w _, .inl rfl⟩
  rcases hown.2 with ⟨rfl, rfl⟩ | ⟨g, cap, cur, rfl, _, _, hnc, _⟩
  ·simp [Builtin.append_, run_underlying Try.underlying73, sizeOf, typeInfo, hi, Builtin.lenOf, Builtin.firstCells]
  ·simp [Builtin.append_, run_underlying Try.underlying73, sizeOf, typeInfo, hi, Builtin.lenOf, Builtin.firstCells, hnc, storeCells]
 ·have hcells : ∀ j u, (cellsE ys)[j]? = some u → w.cell? (ad.add j) = some u := by
   intro j u hu
   rcases Nat.eq_zero_or_pos m with h0 | h0
   ·subst h0
    obtain rfl : ys = [] := List.eq_nil_of_length_eq_zero hm
    simp [cellsE] at hu
   ·obtain ⟨b, o, h, hr⟩ := hy h0
    injection h with h
    subst h
    exact hr.cells j u hu
  obtain ⟨v', w', hrun, h3, h4, _, h5⟩ := run_append_own_at (P := Try.prog) w base 73 ty 99 i _ 2 16 Try.underlying73 hi hz h1 h2 rfl (by omega) v n _ hown ad m c (cellsE ys)
   (by rw [length_cellsE, hm]) hcells (oneCell_cellsE ys) (by unfold maxLen; omega) (by omega) hbase
  exact ⟨v', w', hrun, h3, h4, h5⟩

theorem wpList_append_E {w : World} {ops : Array Oper} {rest : List Oper} {o : Oper} {a : Act} {Q : Exit → Act → World → Prop} (hgd : o.guard = none) (s x : Operand)
  (ho : o.op = .call { callee := .builtin .append, args := #[s, x], argTypes := #[73, 73] })
  (base : Nat) (v : Value) (n : Nat) (xs : List E) (hs : a.eval s = v) (hown : w.ownsRow base 99 2 v n (cellsE xs)) (A : Option Addr) (m c : Nat) (ys : List E) (hx : a.eval x = .slice A m c)
  (hm : ys.length = m) (hy : 0 < m → ∃ b o, A = some ⟨b, o, none⟩ ∧ RowE w b o ys) (hbound : n + m ≤ 1099511627776) (hbase : base ≤ w.heap.size)
  (h : ∀ v' w', w'.ownsRow base 99 2 v' (n + m) (cellsE (xs ++ ys)) → w.grownBy w' v.ownBlock → (v'.ownBlock = v.ownBlock ∨ v'.ownBlock = some w.heap.size) → wpList Try.prog ops Q rest (a.put o.dst v') w') : wpList Try.prog ops Q (o :: rest) a w := by
 obtain ⟨v', w', hrun, h2, h3, h4⟩ := run_append_E w base o.type v n xs hown A m c ys hm hy hbound hbase
 refine wpList_plain hgd fun K hK => ?_
 unfold Oper.wp execOp
 simp only [ho, resolve, invoke, builtin, Sem.run_bind, Sem.run_pure, Result.andThen_ok, List.map_toArray, List.map_cons, List.map_nil, hs, hx, hrun]
 exact hK _ _ (h v' w' h2 h3 h4)

theorem SlE.of_own {w : World} {base : Nat} {v : Value} {xs : List E} (h : w.ownsRow base 99 2 v xs.length (cellsE xs)) (ok : ∀ e, e ∈ xs → okE e) : SlE w w.heap.size v xs := by
 rcases h.2 with ⟨rfl, h0⟩ | ⟨g, cap, cur, rfl, hb, hg, hnc, hcm, hcs, htk⟩
 ·refine ⟨⟨none, 0, by rw [h0], by omega, by omega, fun hn => by omega⟩, ok⟩
 ·refine ⟨⟨some ⟨g, 0, none⟩, cap, rfl, hnc, by unfold maxLen at hcm; omega, fun _ => ⟨g, 0, rfl, (Array.getElem?_eq_some_iff.1 hg).1, fun i e hi => ?_⟩⟩, ok⟩
  obtain ⟨e1, e2⟩ := cellsE_at xs i e hi
  have hc := fun j u hu => h.cells (g := g) rfl j u hu
  have ha : ∀ j, (⟨g, 0, none⟩ : Addr).add j = ⟨g, 0 + j, none⟩ := by
   intro j
   unfold Addr.add
   split <;> simp_all
  have f1 := hc _ _ e1
  have f2 := hc _ _ e2
  rw [ha] at f1 f2
  exact ⟨f1, by rw [Nat.add_assoc]; exact f2⟩

end Go.Proofs.Ytbakkmfjamcbfaa

namespace Go.Proofs.Ytbakkmfjamcbfaa
open Go.RowKit Fm
set_option linter.unusedVariables false
set_option maxRecDepth 100000

theorem lohi_inj {f : Nat} {x y : Fin (Pm f)} (h : lo x = lo y) (h' : hi x = hi y) : x = y := eK_inj (Prod.ext h h')

section
variable {f : Nat} (hf : IsF f)
include hf

end

/-! ### lists of elements -/
theorem esK_append {f : Nat} (l m : KL f) : esK (l ++ m) = esK l ++ esK m := by unfold esK; rw [List.map_append]
end Go.Proofs.Ytbakkmfjamcbfaa

namespace Go.Proofs.Ytbakkmfjamcbfaa
open Go.RowKit Fm
set_option linter.unusedVariables false
set_option maxRecDepth 100000

section
variable {w w' : World} {b : Nat} {cs : List Value}
theorem Vs.of2 {u v : Value} (h : V2 w b u v) : Vs w b [u, v] := by
 refine ⟨fun i x hi => ?_, fun i hi => ?_, h.lt⟩
 ·match i, hi with
  | 0, hi => obtain rfl : u = x := by simpa using hi
             exact h.c0
  | 1, hi => obtain rfl : v = x := by simpa using hi
             exact h.c1
 ·match i, hi with
  | 0, _ => exact h.f0
  | 1, _ => exact h.f1
theorem Vs.to2 {u v : Value} (h : Vs w b [u, v]) : V2 w b u v := ⟨h.cell 0 _ rfl, h.cell 1 _ rfl, h.frz 0 (by simp), h.frz 1 (by simp), h.lt⟩
theorem Vs.get1 {x : Value} (h : Vs w b [x]) : w.cell? ⟨b, 0, none⟩ = some x ∧ w.frozen? ⟨b, 0, none⟩ = false ∧ b < w.heap.size := ⟨h.cell 0 _ rfl, h.frz 0 (by simp), h.lt⟩
end

end Go.Proofs.Ytbakkmfjamcbfaa

namespace Go.Proofs.Ytbakkmfjamcbfaa
open Go.RowKit Fm
set_option linter.unusedVariables false
set_option maxRecDepth 100000

theorem Vs.belowB {w w' : World} {b B : Nat} {cs : List Value} (h : Vs w b cs) (hb : Below B w w') (hB : b < B) : Vs w' b cs :=
 ⟨fun i v hi => (hb.cell (p := ⟨b, i, none⟩) hB).trans (h.cell i v hi), fun i hi => (hb.frozen (p := ⟨b, i, none⟩) hB).trans (h.frz i hi), Nat.lt_of_lt_of_le h.lt hb.size⟩
theorem own_slice {w : World} {base : Nat} {e : TypeId} {size : Nat} {v : Value} {n : Nat} {xs : List Value} (h : w.ownsRow base e size v (n + 1) xs) : ∃ g cap, v = .slice (some ⟨g, 0, none⟩) (n + 1) cap := by
 rcases h.2 with h | ⟨g, cap, cur, h1, _⟩
 ·omega
 ·exact ⟨g, cap, h1⟩

section
variable {f : Nat} (hf : IsF f)
include hf

end

end Go.Proofs.Ytbakkmfjamcbfaa

namespace Go.Proofs.Ytbakkmfjamcbfaa
open Go.RowKit Fm Go.ChangeShapes Go.WideShapes Go.Deep
set_option linter.unusedVariables false
set_option maxRecDepth 100000

theorem cellsU_at {xs : List Int} {i : Nat} {e : Int} (h : xs[i]? = some e) : (cellsU xs)[i]? = some (.int .u64 e) := by unfold cellsU; rw [List.getElem?_map, h]; rfl
theorem SlU.of_own {w : World} {base : Nat} {v : Value} {xs : List Int} (h : w.ownsRow base 22 1 v xs.length (cellsU xs)) (ok : ∀ e, e ∈ xs → okU e) : SlU w w.heap.size v xs := by
 rcases h.2 with ⟨rfl, h0⟩ | ⟨g, cap, cur, rfl, hb, hg, hnc, hcm, hcs, htk⟩
 ·refine ⟨⟨none, 0, by rw [h0], by omega, by omega, fun hn => by omega⟩, ok⟩
 ·refine ⟨⟨some ⟨g, 0, none⟩, cap, rfl, hnc, by unfold maxLen at hcm; omega, fun _ => ⟨g, 0, rfl, (Array.getElem?_eq_some_iff.1 hg).1, fun i e hi => ?_⟩⟩, ok⟩
  have f1 := h.cells (g := g) rfl i _ (cellsU_at hi)
  have ha : (⟨g, 0, none⟩ : Addr).add i = ⟨g, 0 + i, none⟩ := by
   unfold Addr.add
   split <;> simp_all
  rw [ha] at f1
  exact f1

section
variable {H : Type} {enc : TypeId × Value → H} {W : World} {base : Nat} {sp : Nat → Bool} {hd : Bool}
end

end Go.Proofs.Ytbakkmfjamcbfaa

namespace Go.Proofs.Ytbakkmfjamcbfaa
open Go.RowKit Fm
set_option linter.unusedVariables false
set_option maxRecDepth 100000

theorem own_sl {f : Nat} {w : World} {base : Nat} {v : Value} {n : Nat} {l : KL f} (hl : l.length = n) (h : w.ownsRow base 99 2 v n (cellsE (esK l))) : SlK w w.heap.size v l := by
 subst hl
 exact (SlE.of_own (xs := esK l) (by rw [esK_length]; exact h) (esK_ok l)).toK

section
variable {f : Nat} (hf : IsF f)
include hf

end

end Go.Proofs.Ytbakkmfjamcbfaa

namespace Go.Proofs.Ytbakkmfjamcbfaa
open Go.RowKit Fm
set_option linter.unusedVariables false
set_option maxRecDepth 100000

theorem own_shape {w : World} {base : Nat} {e : TypeId} {size : Nat} {v : Value} {n : Nat} {xs : List Value} (h : w.ownsRow base e size v n xs) : ∃ (A : Option Addr) (cp : Nat), v = .slice A n cp := by
 rcases h.2 with ⟨hv, hn⟩ | ⟨g, cap, cur, hv, _⟩
 ·subst hn
  exact ⟨_, _, hv⟩
 ·exact ⟨_, _, hv⟩

section
variable {f : Nat} (hf : IsF f)
include hf

end

end Go.Proofs.Ytbakkmfjamcbfaa

namespace Go.Proofs.Ytbakkmfjamcbfaa
open Go.RowKit Fm
set_option linter.unusedVariables false
set_option maxRecDepth 100000

theorem SlK.takeN {f : Nat} {w : World} {B : Nat} {A : Option Addr} {c : Nat} {l : KL f} {n : Nat} (h : SlK w B (.slice A l.length c) l) (hn : n ≤ l.length) (v : Value) (hv : v = .slice A n c) : SlK w B v (l.take n) := by
 obtain ⟨A', c', hh, h1, h2, h3⟩ := h
 injection hh with e1 e2 e3
 subst e1
 subst e3
 have hl : (l.take n).length = n := by rw [List.length_take]; omega
 refine ⟨A, c, by rw [hl]; exact hv, by omega, h2, fun h0 => ?_⟩
 rw [hl] at h0
 obtain ⟨b, o, hA, hB, hr⟩ := h3 (by omega)
 refine ⟨b, o, hA, hB, fun i e hi => hr i e ?_⟩
 unfold esK at hi ⊢
 rw [List.map_take] at hi
 rw [← hi, List.getElem?_take]
 split
 ·rfl
 ·rename_i hge
  rw [List.getElem?_take, if_neg hge] at hi
  cases hi

section
variable {f : Nat} (hf : IsF f)
include hf

end

end Go.Proofs.Ytbakkmfjamcbfaa

namespace Go.Proofs.Ytbakkmfjamcbfaa
open Go.RowKit Fm
set_option linter.unusedVariables false
set_option maxRecDepth 100000

def CK.raw (y : CK) (F : Nat) : Raw := ⟨y.k, F, y.b, y.l, y.m, y.c⟩
end Go.Proofs.Ytbakkmfjamcbfaa

namespace Go.Proofs.Ytbakkmfjamcbfaa
open Go.RowKit Fm
set_option linter.unusedVariables false
set_option maxRecDepth 100000

section
variable {S : Nat → Prop} {B : Nat} {a w w' w'' : World}
theorem Exc.two (w : World) (b b' : Nat) (x y x' y' : Value) : Exc (fun q => q = b ∨ q = b') w.heap.size w ((((w.setCell ⟨b, 0, none⟩ x).setCell ⟨b, 1, none⟩ y).setCell ⟨b', 0, none⟩ x').setCell ⟨b', 1, none⟩ y') :=
 ⟨rfl, rfl, rfl, by simp [World.setCell], fun k hk hn => by
  have h1 : k ≠ b := fun e => hn (.inl e)
  have h2 : k ≠ b' := fun e => hn (.inr e)
  rw [Below.heap_setCell _ _ y' k h2, Below.heap_setCell _ _ x' k h2, Below.heap_setCell _ _ y k h1, Below.heap_setCell _ _ x k h1]⟩
variable {f : Nat} {v : Value} {l : KL f}
end

end Go.Proofs.Ytbakkmfjamcbfaa

namespace Go.Proofs.Ytbakkmfjamcbfaa
open Go.RowKit Fm
set_option linter.unusedVariables false
set_option maxRecDepth 100000

def byteN (x i : Nat) : Nat := x / 2 ^ (8 * i) % 256
def bytesN (x n : Nat) : List Int := (List.range n).map fun i => ((byteN x i : Nat) : Int)
theorem bytesN_length (x n : Nat) : (bytesN x n).length = n := by unfold bytesN; rw [List.length_map, List.length_range]
theorem bytesN_at (x n i : Nat) (h : i < n) : (bytesN x n)[i]? = some ((byteN x i : Nat) : Int) := by unfold bytesN; rw [List.getElem?_map, List.getElem?_range h]; rfl
theorem u8_wrap (n : Int) : IntKind.u8.wrap n = n % 256 := by
 first | rfl | simp [IntKind.wrap, IntKind.signed, IntKind.bits, IntKind.min, IntKind.max]
theorem byteN_wrap (x s : Nat) : IntKind.u8.wrap ((x : Int) / 2 ^ s) = ((x / 2 ^ s % 256 : Nat) : Int) := by
 rw [u8_wrap, Int.natCast_emod, Int.natCast_ediv, Int.natCast_pow]
 rfl

theorem fill_set {α : Type} (xs : List α) (z x : α) (n i : Nat) (hl : xs.length = n) (hi : i < n) (hx : xs[i]? = some x) :
  (xs.take i ++ List.replicate (n - i) z).set i x = xs.take (i + 1) ++ List.replicate (n - (i + 1)) z := by
 have h1 : (xs.take i).length = i := by rw [List.length_take]; omega
 rw [List.set_append_right _ _ (by rw [h1]; exact Nat.le_refl _), h1, Nat.sub_self, show n - i = (n - (i + 1)) + 1 by omega, List.replicate_succ, List.set_cons_zero, List.take_add_one, hx, List.append_assoc]
 rfl

theorem load_b8 {w : World} {b : Nat} {x0 x1 x2 x3 x4 x5 x6 x7 : Value} (h : Vs w b [x0, x1, x2, x3, x4, x5, x6, x7]) : (loadVar 205 ⟨b, 0, none⟩).run Try.prog w = .ok (.agg #[x0, x1, x2, x3, x4, x5, x6, x7]) w := by
 obtain ⟨⟨c0, c1, c2, c3, c4, c5, c6, c7⟩, _⟩ := h.get8
 simp [loadVar, go_sem, c0, c1, c2, c3, c4, c5, c6, c7]
theorem results_b8 {fn : Func} {p : Tmp} {tmps : Array Value} {w : World} {b : Nat} {x0 x1 x2 x3 x4 x5 x6 x7 : Value} (hv : Vs w b [x0, x1, x2, x3, x4, x5, x6, x7]) (h : fn.results = #[.cell p 205]) (hp : tmps.getD p undef = .pointer (some ⟨b, 0, none⟩)) :
  (results fn tmps).run Try.prog w = .ok (.agg #[x0, x1, x2, x3, x4, x5, x6, x7]) w := by
 have hl := load_b8 hv
 rw [Array.getD_eq_getD_getElem?] at hp
 simp only [results, h]
 simp [asAddr, hp, hl]
theorem Vs.set8 {w : World} {b : Nat} {p q r s t u v z : Value} (h : Vs w b [p, q, r, s, t, u, v, z]) (x0 x1 x2 x3 x4 x5 x6 x7 : Value) :
  Vs ((((((((w.setCell ⟨b, 0, none⟩ x0).setCell ⟨b, 1, none⟩ x1).setCell ⟨b, 2, none⟩ x2).setCell ⟨b, 3, none⟩ x3).setCell ⟨b, 4, none⟩ x4).setCell ⟨b, 5, none⟩ x5).setCell ⟨b, 6, none⟩ x6).setCell ⟨b, 7, none⟩ x7) b [x0, x1, x2, x3, x4, x5, x6, x7] :=
 (((((((h.put 0 (by simp) x0).put 1 (by simp) x1).put 2 (by simp) x2).put 3 (by simp) x3).put 4 (by simp) x4).put 5 (by simp) x5).put 6 (by simp) x6).put 7 (by simp) x7
theorem bl_set8 {B b : Nat} {a w : World} (h : Below B a w) (hp : B ≤ b) (x0 x1 x2 x3 x4 x5 x6 x7 : Value) :
  Below B a ((((((((w.setCell ⟨b, 0, none⟩ x0).setCell ⟨b, 1, none⟩ x1).setCell ⟨b, 2, none⟩ x2).setCell ⟨b, 3, none⟩ x3).setCell ⟨b, 4, none⟩ x4).setCell ⟨b, 5, none⟩ x5).setCell ⟨b, 6, none⟩ x6).setCell ⟨b, 7, none⟩ x7) :=
 bl_set (bl_set (bl_set (bl_set (bl_set (bl_set (bl_set (bl_set h hp x0) hp x1) hp x2) hp x3) hp x4) hp x5) hp x6) hp x7

set_option maxHeartbeats 4000000 in
theorem gold_Bytes (x : Nat) (hx : (x : Int) < 18446744069414584321) (w : World) :
  Calls Try.prog 122 #[.int .u64 x] w fun e w' => e = .returned (.agg #[.int .u8 (byteN x 0 : Nat), .int .u8 (byteN x 1 : Nat), .int .u8 (byteN x 2 : Nat), .int .u8 (byteN x 3 : Nat), .int .u8 (byteN x 4 : Nat), .int .u8 (byteN x 5 : Nat), .int .u8 (byteN x 6 : Nat), .int .u8 (byteN x 7 : Nat)]) ∧ Below w.heap.size w w' := by
 have HOF : Hid (∀ wz, Calls Try.prog 100 #[.int .u64 x] wz fun e w' => e = .returned (.int .u64 x) ∧ wz = w') := by
  intro wz
  have h := gold_Of (x : Int) wz (by omega) (by omega)
  rwa [Int.emod_eq_of_lt (by omega) hx] at h
 clear hx
 go_enter Try.func122, Try.ntmps122
 go_upto_region 3 with (go_at_call 100; refine (HOF.out _).mono ?_; rintro e w2 ⟨rfl, rfl⟩)
 have hr := (Vs.new w [.int .u8 0, .int .u8 0, .int .u8 0, .int .u8 0, .int .u8 0, .int .u8 0, .int .u8 0, .int .u8 0] #[.int .u8 0, .int .u8 0, .int .u8 0, .int .u8 0, .int .u8 0, .int .u8 0, .int .u8 0, .int .u8 0] 205 rfl).alloc (.cells #[.int .u8 0, .int .u8 0, .int .u8 0, .int .u8 0, .int .u8 0, .int .u8 0, .int .u8 0, .int .u8 0] 205)
 have hb := Vs.new (w.alloc (.cells #[.int .u8 0, .int .u8 0, .int .u8 0, .int .u8 0, .int .u8 0, .int .u8 0, .int .u8 0, .int .u8 0] 205)) [.int .u8 0, .int .u8 0, .int .u8 0, .int .u8 0, .int .u8 0, .int .u8 0, .int .u8 0, .int .u8 0] #[.int .u8 0, .int .u8 0, .int .u8 0, .int .u8 0, .int .u8 0, .int .u8 0, .int .u8 0, .int .u8 0] 205 rfl
 simp only [World.size_alloc] at hb
 have hb00 : Below w.heap.size w ((w.alloc (.cells #[.int .u8 0, .int .u8 0, .int .u8 0, .int .u8 0, .int .u8 0, .int .u8 0, .int .u8 0, .int .u8 0] 205)).alloc (.cells #[.int .u8 0, .int .u8 0, .int .u8 0, .int .u8 0, .int .u8 0, .int .u8 0, .int .u8 0, .int .u8 0] 205)) := by repeat (first | exact bA | with_reducible assumption | apply bB)
 have hszn : w.heap.size + 2 ≤ ((w.alloc (.cells #[.int .u8 0, .int .u8 0, .int .u8 0, .int .u8 0, .int .u8 0, .int .u8 0, .int .u8 0, .int .u8 0] 205)).alloc (.cells #[.int .u8 0, .int .u8 0, .int .u8 0, .int .u8 0, .int .u8 0, .int .u8 0, .int .u8 0, .int .u8 0] 205)).heap.size := by simp only [World.size_alloc]; omega
 generalize ((w.alloc (.cells #[.int .u8 0, .int .u8 0, .int .u8 0, .int .u8 0, .int .u8 0, .int .u8 0, .int .u8 0, .int .u8 0] 205)).alloc (.cells #[.int .u8 0, .int .u8 0, .int .u8 0, .int .u8 0, .int .u8 0, .int .u8 0, .int .u8 0, .int .u8 0] 205)) = w1 at hr hb hb00 hszn ⊢
 have HBL := Lib.hid (bytesN_length x 8)
 go_wp2_with fail
 go_loopw [7] (fun i wr => ∃ k : Nat, k ≤ 8 ∧ i = .int .i64 k ∧ Vs wr w.heap.size [.int .u8 0, .int .u8 0, .int .u8 0, .int .u8 0, .int .u8 0, .int .u8 0, .int .u8 0, .int .u8 0] ∧
  Vs wr (w.heap.size + 1) (cells8 ((bytesN x 8).take k ++ List.replicate (8 - k) 0)) ∧ Below w.heap.size w wr) (fun i _ => 8 - (intOf i).toNat)
 case atStart => exact ⟨0, by omega, rfl, hr, hb, hb00⟩
 case round =>
  clear hr hb hb00
  obtain ⟨k, hk, rfl, hr, hb, hbw⟩ := hrel
  by_cases hlt : k < 8
  ·obtain ⟨s, hs⟩ : ∃ s, 8 * k = s := ⟨_, rfl⟩
   have hsi : (8 : Int) * (k : Int) = (s : Int) := by omega
   have hs64 : s ≤ 56 := by omega
   have hs0 : (0 : Int) ≤ (s : Int) := by omega
   have hwr := byteN_wrap x s
   have hat : (bytesN x 8)[k]? = some ((x / 2 ^ s % 256 : Nat) : Int) := by rw [bytesN_at x 8 k hlt, ← hs]; rfl
   obtain ⟨d, hd⟩ : ∃ d, x / 2 ^ s % 256 = d := ⟨_, rfl⟩
   rw [hd] at hwr hat
   have hB2 := hb.put k (by rw [cells8_length, List.length_append, List.length_take, List.length_replicate, HBL.out]; omega) (.int .u8 (d : Int))
   have HL : Hid ((cells8 ((bytesN x 8).take k ++ List.replicate (8 - k) 0)).set k (.int .u8 (d : Int)) = cells8 ((bytesN x 8).take (k + 1) ++ List.replicate (8 - (k + 1)) 0)) := by
    show (cells8 _).set k _ = _
    unfold cells8
    rw [← List.map_set, fill_set (bytesN x 8) 0 (d : Int) 8 k HBL.out hlt hat]
   rw [HL.out] at hB2
   have HB2 := Lib.hid hB2
   have hlen : k < (cells8 ((bytesN x 8).take k ++ List.replicate (8 - k) 0)).length := by rw [cells8_length, List.length_append, List.length_take, List.length_replicate, HBL.out]; omega
   obtain ⟨v0, c0⟩ : ∃ v, wr.cell? ⟨w.heap.size + 1, k, none⟩ = some v := ⟨_, hb.cell k _ (List.getElem?_eq_getElem hlen)⟩
   have f0 := hb.frz k hlen
   have hblt := hb.lt
   have hR2 := hr.far (p := ⟨w.heap.size + 1, k, none⟩) (by dsimp only; omega) (.int .u8 (d : Int))
   have HR2 := Lib.hid hR2
   have hw8 : IntKind.i64.wrap (s : Int) = (s : Int) := IntWalk.i64_in _ (by omega)
   clear hs hd hat hB2 hlen hR2 hb hr
   go_wp2_with fail
   go_roundw
   case rel => exact ⟨k + 1, by omega, by go_num, HR2.out, HB2.out, by repeat (first | exact bA | with_reducible assumption | apply bB | (refine bC ?_ (by dsimp only; omega)) | apply bD | apply bE | (refine bF ?_ (by assumption)))⟩
   case measure => simp [intOf]; omega
  ·obtain rfl : k = 8 := by omega
   rw [List.take_of_length_le (by rw [HBL.out]; exact Nat.le_refl _), Nat.sub_self, List.replicate_zero, List.append_nil] at hb
   have hb' : Vs wr (w.heap.size + 1) [.int .u8 (byteN x 0 : Nat), .int .u8 (byteN x 1 : Nat), .int .u8 (byteN x 2 : Nat), .int .u8 (byteN x 3 : Nat), .int .u8 (byteN x 4 : Nat), .int .u8 (byteN x 5 : Nat), .int .u8 (byteN x 6 : Nat), .int .u8 (byteN x 7 : Nat)] := hb
   clear hb
   obtain ⟨⟨bq0, bq1, bq2, bq3, bq4, bq5, bq6, bq7⟩, ⟨bq8, bq9, bq10, bq11, bq12, bq13, bq14, bq15⟩, bq16⟩ := hb'.get8
   obtain ⟨⟨r0, r1, r2, r3, r4, r5, r6, r7⟩, ⟨r8, r9, r10, r11, r12, r13, r14, r15⟩, r16⟩ := hr.get8
   go_wp2_with fail
   have hS := Vs.set8 hr (.int .u8 (byteN x 0 : Nat)) (.int .u8 (byteN x 1 : Nat)) (.int .u8 (byteN x 2 : Nat)) (.int .u8 (byteN x 3 : Nat)) (.int .u8 (byteN x 4 : Nat)) (.int .u8 (byteN x 5 : Nat)) (.int .u8 (byteN x 6 : Nat)) (.int .u8 (byteN x 7 : Nat))
   refine bodyPost_ret (results_b8 (b := w.heap.size) hS rfl rfl) rfl ⟨rfl, ?_⟩
   exact bl_set8 hbw (Nat.le_refl _) _ _ _ _ _ _ _ _

theorem Vs.get16 {w : World} {b : Nat} {x0 x1 x2 x3 x4 x5 x6 x7 y0 y1 y2 y3 y4 y5 y6 y7 : Value} (h : Vs w b [x0, x1, x2, x3, x4, x5, x6, x7, y0, y1, y2, y3, y4, y5, y6, y7]) :
  (w.cell? ⟨b, 0, none⟩ = some x0 ∧ w.cell? ⟨b, 1, none⟩ = some x1 ∧ w.cell? ⟨b, 2, none⟩ = some x2 ∧ w.cell? ⟨b, 3, none⟩ = some x3 ∧ w.cell? ⟨b, 4, none⟩ = some x4 ∧ w.cell? ⟨b, 5, none⟩ = some x5 ∧ w.cell? ⟨b, 6, none⟩ = some x6 ∧ w.cell? ⟨b, 7, none⟩ = some x7 ∧ w.cell? ⟨b, 8, none⟩ = some y0 ∧ w.cell? ⟨b, 9, none⟩ = some y1 ∧ w.cell? ⟨b, 10, none⟩ = some y2 ∧ w.cell? ⟨b, 11, none⟩ = some y3 ∧ w.cell? ⟨b, 12, none⟩ = some y4 ∧ w.cell? ⟨b, 13, none⟩ = some y5 ∧ w.cell? ⟨b, 14, none⟩ = some y6 ∧ w.cell? ⟨b, 15, none⟩ = some y7) ∧ (w.frozen? ⟨b, 0, none⟩ = false ∧ w.frozen? ⟨b, 1, none⟩ = false ∧ w.frozen? ⟨b, 2, none⟩ = false ∧ w.frozen? ⟨b, 3, none⟩ = false ∧ w.frozen? ⟨b, 4, none⟩ = false ∧ w.frozen? ⟨b, 5, none⟩ = false ∧ w.frozen? ⟨b, 6, none⟩ = false ∧ w.frozen? ⟨b, 7, none⟩ = false ∧ w.frozen? ⟨b, 8, none⟩ = false ∧ w.frozen? ⟨b, 9, none⟩ = false ∧ w.frozen? ⟨b, 10, none⟩ = false ∧ w.frozen? ⟨b, 11, none⟩ = false ∧ w.frozen? ⟨b, 12, none⟩ = false ∧ w.frozen? ⟨b, 13, none⟩ = false ∧ w.frozen? ⟨b, 14, none⟩ = false ∧ w.frozen? ⟨b, 15, none⟩ = false) ∧ b < w.heap.size :=
 ⟨⟨h.cell 0 _ rfl, h.cell 1 _ rfl, h.cell 2 _ rfl, h.cell 3 _ rfl, h.cell 4 _ rfl, h.cell 5 _ rfl, h.cell 6 _ rfl, h.cell 7 _ rfl, h.cell 8 _ rfl, h.cell 9 _ rfl, h.cell 10 _ rfl, h.cell 11 _ rfl, h.cell 12 _ rfl, h.cell 13 _ rfl, h.cell 14 _ rfl, h.cell 15 _ rfl⟩, ⟨h.frz 0 (by simp), h.frz 1 (by simp), h.frz 2 (by simp), h.frz 3 (by simp), h.frz 4 (by simp), h.frz 5 (by simp), h.frz 6 (by simp), h.frz 7 (by simp), h.frz 8 (by simp), h.frz 9 (by simp), h.frz 10 (by simp), h.frz 11 (by simp), h.frz 12 (by simp), h.frz 13 (by simp), h.frz 14 (by simp), h.frz 15 (by simp)⟩, h.lt⟩
theorem load_b16 {w : World} {b : Nat} {x0 x1 x2 x3 x4 x5 x6 x7 y0 y1 y2 y3 y4 y5 y6 y7 : Value} (h : Vs w b [x0, x1, x2, x3, x4, x5, x6, x7, y0, y1, y2, y3, y4, y5, y6, y7]) : (loadVar 23 ⟨b, 0, none⟩).run Try.prog w = .ok (.agg #[x0, x1, x2, x3, x4, x5, x6, x7, y0, y1, y2, y3, y4, y5, y6, y7]) w := by
 obtain ⟨⟨c0, c1, c2, c3, c4, c5, c6, c7, d0, d1, d2, d3, d4, d5, d6, d7⟩, _⟩ := h.get16
 simp [loadVar, go_sem, c0, c1, c2, c3, c4, c5, c6, c7, d0, d1, d2, d3, d4, d5, d6, d7]

theorem results_b16 {fn : Func} {p : Tmp} {tmps : Array Value} {w : World} {b : Nat} {x0 x1 x2 x3 x4 x5 x6 x7 y0 y1 y2 y3 y4 y5 y6 y7 : Value} (hv : Vs w b [x0, x1, x2, x3, x4, x5, x6, x7, y0, y1, y2, y3, y4, y5, y6, y7]) (h : fn.results = #[.cell p 23]) (hp : tmps.getD p undef = .pointer (some ⟨b, 0, none⟩)) :
  (results fn tmps).run Try.prog w = .ok (.agg #[x0, x1, x2, x3, x4, x5, x6, x7, y0, y1, y2, y3, y4, y5, y6, y7]) w := by
 have hl := load_b16 hv
 rw [Array.getD_eq_getD_getElem?] at hp
 simp only [results, h]
 simp [asAddr, hp, hl]

set_option maxHeartbeats 4000000 in
theorem wide_Bytes (x y : Nat) (hx : (x : Int) ≤ 18446744073709551615) (hxy : (x : Int) + 18446744073709551616 * (y : Int) < 340282366920938462946865773367900766209) (w : World) :
  Calls Try.prog 123 #[.agg #[.int .u64 x, .int .u64 y]] w fun e w' => e = .returned (.agg #[.int .u8 (byteN x 0 : Nat), .int .u8 (byteN x 1 : Nat), .int .u8 (byteN x 2 : Nat), .int .u8 (byteN x 3 : Nat), .int .u8 (byteN x 4 : Nat), .int .u8 (byteN x 5 : Nat), .int .u8 (byteN x 6 : Nat), .int .u8 (byteN x 7 : Nat), .int .u8 (byteN y 0 : Nat), .int .u8 (byteN y 1 : Nat), .int .u8 (byteN y 2 : Nat), .int .u8 (byteN y 3 : Nat), .int .u8 (byteN y 4 : Nat), .int .u8 (byteN y 5 : Nat), .int .u8 (byteN y 6 : Nat), .int .u8 (byteN y 7 : Nat)]) ∧ Below w.heap.size w w' := by
 have HOF : Hid (∀ wz, Calls Try.prog 131 #[.agg #[.int .u64 x, .int .u64 y]] wz fun e w' => e = .returned (.agg #[.int .u64 x, .int .u64 y]) ∧ Below wz.heap.size wz w') := by
  intro wz
  have h := wide_Of (x : Int) (y : Int) wz (by omega) (by omega) (by omega) (by omega) ((x : Int) + 18446744073709551616 * (y : Int)) ((Int.emod_eq_of_lt (by omega) hxy).symm)
  rwa [show ((x : Int) + 18446744073709551616 * (y : Int)) % 18446744073709551616 = x by omega, show ((x : Int) + 18446744073709551616 * (y : Int)) / 18446744073709551616 = y by omega] at h
 clear hx hxy
 go_enter Try.func123, Try.ntmps123
 go_upto_region 1 with fail
 have hx := (V2.new w (.int .u64 x) (.int .u64 y) 99).alloc (.cells #[.int .u8 0, .int .u8 0, .int .u8 0, .int .u8 0, .int .u8 0, .int .u8 0, .int .u8 0, .int .u8 0, .int .u8 0, .int .u8 0, .int .u8 0, .int .u8 0, .int .u8 0, .int .u8 0, .int .u8 0, .int .u8 0] 23)
 have hr := Vs.new (w.alloc (.cells #[.int .u64 x, .int .u64 y] 99)) [.int .u8 0, .int .u8 0, .int .u8 0, .int .u8 0, .int .u8 0, .int .u8 0, .int .u8 0, .int .u8 0, .int .u8 0, .int .u8 0, .int .u8 0, .int .u8 0, .int .u8 0, .int .u8 0, .int .u8 0, .int .u8 0] #[.int .u8 0, .int .u8 0, .int .u8 0, .int .u8 0, .int .u8 0, .int .u8 0, .int .u8 0, .int .u8 0, .int .u8 0, .int .u8 0, .int .u8 0, .int .u8 0, .int .u8 0, .int .u8 0, .int .u8 0, .int .u8 0] 23 rfl
 simp only [World.size_alloc] at hr
 have hb00 : Below w.heap.size w ((w.alloc (.cells #[.int .u64 x, .int .u64 y] 99)).alloc (.cells #[.int .u8 0, .int .u8 0, .int .u8 0, .int .u8 0, .int .u8 0, .int .u8 0, .int .u8 0, .int .u8 0, .int .u8 0, .int .u8 0, .int .u8 0, .int .u8 0, .int .u8 0, .int .u8 0, .int .u8 0, .int .u8 0] 23)) := by repeat (first | exact bA | with_reducible assumption | apply bB)
 have hszn : w.heap.size + 2 ≤ ((w.alloc (.cells #[.int .u64 x, .int .u64 y] 99)).alloc (.cells #[.int .u8 0, .int .u8 0, .int .u8 0, .int .u8 0, .int .u8 0, .int .u8 0, .int .u8 0, .int .u8 0, .int .u8 0, .int .u8 0, .int .u8 0, .int .u8 0, .int .u8 0, .int .u8 0, .int .u8 0, .int .u8 0] 23)).heap.size := by simp only [World.size_alloc]; omega
 generalize ((w.alloc (.cells #[.int .u64 x, .int .u64 y] 99)).alloc (.cells #[.int .u8 0, .int .u8 0, .int .u8 0, .int .u8 0, .int .u8 0, .int .u8 0, .int .u8 0, .int .u8 0, .int .u8 0, .int .u8 0, .int .u8 0, .int .u8 0, .int .u8 0, .int .u8 0, .int .u8 0, .int .u8 0] 23)) = w1 at hx hr hb00 hszn ⊢
 obtain ⟨x0, x1, x2, x3, x4⟩ := V2.mk hx.c0 hx.c1 hx.f0 hx.f1 hx.lt
 go_upto_region 2 with (first
  | (go_at_call 131; refine (HOF.out _).mono ?_; rintro e w2 ⟨rfl, hb2⟩; replace hb00 := bl_call hb00 (Nat.le_refl _) hb2; replace hx := hx.call hb2; replace hr := hr.call hb2; clear x0 x1 x2 x3 x4; clear hb2; obtain ⟨x0, x1, x2, x3, x4⟩ := V2.mk hx.c0 hx.c1 hx.f0 hx.f1 hx.lt))
 clear x0 x1 x2 x3 x4
 replace hr := (hr.far (p := ⟨w.heap.size, 0, none⟩) (by dsimp only; omega) (.int .u64 x)).far (p := ⟨w.heap.size, 1, none⟩) (by dsimp only; omega) (.int .u64 y)
 replace hx := V2.set hx (.int .u64 x) (.int .u64 y)
 replace hb00 := bl_st hb00 (Nat.le_refl _) (.int .u64 x) (.int .u64 y)
 generalize (w2.setCell ⟨w.heap.size, 0, none⟩ (.int .u64 x)).setCell ⟨w.heap.size, 1, none⟩ (.int .u64 y) = w3 at hr hx hb00 ⊢
 have hgr : w.heap.size + 1 < w3.heap.size := hr.lt
 go_upto_region 3 with fail
 have hb := Vs.new w3 [.int .u8 0, .int .u8 0, .int .u8 0, .int .u8 0, .int .u8 0, .int .u8 0, .int .u8 0, .int .u8 0, .int .u8 0, .int .u8 0, .int .u8 0, .int .u8 0, .int .u8 0, .int .u8 0, .int .u8 0, .int .u8 0] #[.int .u8 0, .int .u8 0, .int .u8 0, .int .u8 0, .int .u8 0, .int .u8 0, .int .u8 0, .int .u8 0, .int .u8 0, .int .u8 0, .int .u8 0, .int .u8 0, .int .u8 0, .int .u8 0, .int .u8 0, .int .u8 0] 23 rfl
 have hbA : Below w3.heap.size w3 (w3.alloc (.cells #[.int .u8 0, .int .u8 0, .int .u8 0, .int .u8 0, .int .u8 0, .int .u8 0, .int .u8 0, .int .u8 0, .int .u8 0, .int .u8 0, .int .u8 0, .int .u8 0, .int .u8 0, .int .u8 0, .int .u8 0, .int .u8 0] 23)) := by repeat (first | exact bA | with_reducible assumption | apply bB)
 replace hb00 := bl_call hb00 (Nat.le_refl _) hbA
 replace hx := hx.call hbA
 replace hr := hr.call hbA
 clear hbA
 generalize w3.alloc (.cells #[.int .u8 0, .int .u8 0, .int .u8 0, .int .u8 0, .int .u8 0, .int .u8 0, .int .u8 0, .int .u8 0, .int .u8 0, .int .u8 0, .int .u8 0, .int .u8 0, .int .u8 0, .int .u8 0, .int .u8 0, .int .u8 0] 23) = w4 at hb00 hx hr hb ⊢
 have hgl : w3.heap.size < w4.heap.size := hb.lt
 generalize w3.heap.size = g at *
 have HBL : Hid ((bytesN x 8 ++ bytesN y 8).length = 16) := by show (_ : List Int).length = 16; rw [List.length_append, bytesN_length, bytesN_length]
 go_wp2_with fail
 go_loopw [7] (fun i wr => ∃ k : Nat, k ≤ 16 ∧ i = .int .i64 k ∧ V2 wr w.heap.size (.int .u64 x) (.int .u64 y) ∧ Vs wr (w.heap.size + 1) [.int .u8 0, .int .u8 0, .int .u8 0, .int .u8 0, .int .u8 0, .int .u8 0, .int .u8 0, .int .u8 0, .int .u8 0, .int .u8 0, .int .u8 0, .int .u8 0, .int .u8 0, .int .u8 0, .int .u8 0, .int .u8 0] ∧
  Vs wr g (cells8 ((bytesN x 8 ++ bytesN y 8).take k ++ List.replicate (16 - k) 0)) ∧ Below w.heap.size w wr) (fun i _ => 16 - (intOf i).toNat)
 case atStart => exact ⟨0, by omega, rfl, hx, hr, hb, hb00⟩
 case round =>
  clear hx hr hb hb00
  obtain ⟨k, hk, rfl, hx, hr, hb, hbw⟩ := hrel
  by_cases hlt : k < 16
  ·by_cases hk8 : k < 8
   ·have hq1 : (k : Int) / 8 = 0 := by omega
    have hq2 : (k : Int).tdiv 8 = 0 := by rw [Int.tdiv_eq_ediv_of_nonneg (by omega)]; exact hq1
    have hq3 : (k : Int) % 8 = (k : Int) := by omega
    have hq4 : (k : Int).tmod 8 = (k : Int) := by rw [Int.tmod_eq_emod_of_nonneg (by omega)]; exact hq3
    have hq5 : k / 8 = 0 := by omega
    have hq6 : k % 8 = k := by omega
    obtain ⟨s, hs⟩ : ∃ s, 8 * k = s := ⟨_, rfl⟩
    have hsi : (8 : Int) * (k : Int) = (s : Int) := by omega
    have hs64 : s ≤ 56 := by omega
    have hs0 : (0 : Int) ≤ (s : Int) := by omega
    have hwr := byteN_wrap x s
    have hat : (bytesN x 8 ++ bytesN y 8)[k]? = some ((x / 2 ^ s % 256 : Nat) : Int) := by
     rw [List.getElem?_append_left (by rw [bytesN_length]; exact hk8), bytesN_at x 8 k hk8, ← hs]
     rfl
    obtain ⟨d, hd⟩ : ∃ d, x / 2 ^ s % 256 = d := ⟨_, rfl⟩
    rw [hd] at hwr hat
    have hlen : k < (cells8 ((bytesN x 8 ++ bytesN y 8).take k ++ List.replicate (16 - k) 0)).length := by rw [cells8_length, List.length_append, List.length_take, List.length_replicate, HBL.out]; omega
    have hB2 := hb.put k hlen (.int .u8 (d : Int))
    have HL : Hid ((cells8 ((bytesN x 8 ++ bytesN y 8).take k ++ List.replicate (16 - k) 0)).set k (.int .u8 (d : Int)) = cells8 ((bytesN x 8 ++ bytesN y 8).take (k + 1) ++ List.replicate (16 - (k + 1)) 0)) := by
     show (cells8 _).set k _ = _
     unfold cells8
     rw [← List.map_set, fill_set (bytesN x 8 ++ bytesN y 8) 0 (d : Int) 16 k HBL.out hlt hat]
    rw [HL.out] at hB2
    have HB2 := Lib.hid hB2
    obtain ⟨v0, c0⟩ : ∃ v, wr.cell? ⟨g, k, none⟩ = some v := ⟨_, hb.cell k _ (List.getElem?_eq_getElem hlen)⟩
    have f0 := hb.frz k hlen
    have hblt := hb.lt
    have HR2 := Lib.hid (hr.far (p := ⟨g, k, none⟩) (by dsimp only; omega) (.int .u8 (d : Int)))
    have HX2 := Lib.hid (hx.setOther (p := ⟨g, k, none⟩) (by dsimp only; omega) (.int .u8 (d : Int)))
    have hw8 : IntKind.i64.wrap (s : Int) = (s : Int) := IntWalk.i64_in _ (by omega)
    have hwm : (0 : Int) ≤ (k : Int) := by omega
    obtain ⟨x0, x1, x2, x3, x4⟩ := V2.mk hx.c0 hx.c1 hx.f0 hx.f1 hx.lt
    clear hs hd hat hB2 hlen hb hr hx
    go_wp2_with fail
    go_roundw
    case rel => exact ⟨k + 1, by omega, by go_num, HX2.out, HR2.out, HB2.out, by repeat (first | exact bA | with_reducible assumption | apply bB | (refine bC ?_ (by dsimp only; omega)) | apply bD | apply bE | (refine bF ?_ (by assumption)))⟩
    case measure => simp [intOf]; omega
   ·obtain ⟨m, rfl⟩ : ∃ m, k = m + 8 := ⟨k - 8, by omega⟩
    have hq1 : ((m : Int) + 8) / 8 = 1 := by omega
    have hq2 : ((m : Int) + 8).tdiv 8 = 1 := by rw [Int.tdiv_eq_ediv_of_nonneg (by omega)]; exact hq1
    have hq3 : ((m : Int) + 8) % 8 = (m : Int) := by omega
    have hq4 : ((m : Int) + 8).tmod 8 = (m : Int) := by rw [Int.tmod_eq_emod_of_nonneg (by omega)]; exact hq3
    have hq5 : (m + 8) / 8 = 1 := by omega
    have hq6 : (m + 8) % 8 = m := by omega
    obtain ⟨k, hkm⟩ : ∃ k, m + 8 = k := ⟨_, rfl⟩
    have hkm2 : (m : Int) + 8 = (k : Int) := by omega
    rw [hkm] at hq5 hq6 hb hlt hk
    rw [hkm2] at hq1 hq2 hq3 hq4
    rw [show ((m + 8 : Nat) : Int) = (k : Int) by omega]
    obtain ⟨s, hs⟩ : ∃ s, 8 * m = s := ⟨_, rfl⟩
    have hsi : (8 : Int) * (m : Int) = (s : Int) := by omega
    have hs64 : s ≤ 56 := by omega
    have hs0 : (0 : Int) ≤ (s : Int) := by omega
    have hwr := byteN_wrap y s
    have hat : (bytesN x 8 ++ bytesN y 8)[k]? = some ((y / 2 ^ s % 256 : Nat) : Int) := by
     rw [List.getElem?_append_right (by rw [bytesN_length]; omega), bytesN_length, show k - 8 = m by omega, bytesN_at y 8 m (by omega), ← hs]
     rfl
    obtain ⟨d, hd⟩ : ∃ d, y / 2 ^ s % 256 = d := ⟨_, rfl⟩
    rw [hd] at hwr hat
    have hlen : k < (cells8 ((bytesN x 8 ++ bytesN y 8).take k ++ List.replicate (16 - k) 0)).length := by rw [cells8_length, List.length_append, List.length_take, List.length_replicate, HBL.out]; omega
    have hB2 := hb.put k hlen (.int .u8 (d : Int))
    have HL : Hid ((cells8 ((bytesN x 8 ++ bytesN y 8).take k ++ List.replicate (16 - k) 0)).set k (.int .u8 (d : Int)) = cells8 ((bytesN x 8 ++ bytesN y 8).take (k + 1) ++ List.replicate (16 - (k + 1)) 0)) := by
     show (cells8 _).set k _ = _
     unfold cells8
     rw [← List.map_set, fill_set (bytesN x 8 ++ bytesN y 8) 0 (d : Int) 16 k HBL.out hlt hat]
    rw [HL.out] at hB2
    have HB2 := Lib.hid hB2
    obtain ⟨v0, c0⟩ : ∃ v, wr.cell? ⟨g, k, none⟩ = some v := ⟨_, hb.cell k _ (List.getElem?_eq_getElem hlen)⟩
    have f0 := hb.frz k hlen
    have hblt := hb.lt
    have HR2 := Lib.hid (hr.far (p := ⟨g, k, none⟩) (by dsimp only; omega) (.int .u8 (d : Int)))
    have HX2 := Lib.hid (hx.setOther (p := ⟨g, k, none⟩) (by dsimp only; omega) (.int .u8 (d : Int)))
    have hw8 : IntKind.i64.wrap (s : Int) = (s : Int) := IntWalk.i64_in _ (by omega)
    have hwm : (0 : Int) ≤ (m : Int) := by omega
    obtain ⟨x0, x1, x2, x3, x4⟩ := V2.mk hx.c0 hx.c1 hx.f0 hx.f1 hx.lt
    clear hkm hkm2 hs hd hat hB2 hlen hb hr hx
    go_wp2_with fail
    go_roundw
    case rel => exact ⟨k + 1, by omega, by go_num, HX2.out, HR2.out, HB2.out, by repeat (first | exact bA | with_reducible assumption | apply bB | (refine bC ?_ (by dsimp only; omega)) | apply bD | apply bE | (refine bF ?_ (by assumption)))⟩
    case measure => simp [intOf]; omega
  ·obtain rfl : k = 16 := by omega
   rw [List.take_of_length_le (by rw [HBL.out]; exact Nat.le_refl _), Nat.sub_self, List.replicate_zero, List.append_nil] at hb
   have hb' : Vs wr g [.int .u8 (byteN x 0 : Nat), .int .u8 (byteN x 1 : Nat), .int .u8 (byteN x 2 : Nat), .int .u8 (byteN x 3 : Nat), .int .u8 (byteN x 4 : Nat), .int .u8 (byteN x 5 : Nat), .int .u8 (byteN x 6 : Nat), .int .u8 (byteN x 7 : Nat), .int .u8 (byteN y 0 : Nat), .int .u8 (byteN y 1 : Nat), .int .u8 (byteN y 2 : Nat), .int .u8 (byteN y 3 : Nat), .int .u8 (byteN y 4 : Nat), .int .u8 (byteN y 5 : Nat), .int .u8 (byteN y 6 : Nat), .int .u8 (byteN y 7 : Nat)] := hb
   clear hb
   obtain ⟨⟨bq0, bq1, bq2, bq3, bq4, bq5, bq6, bq7, bq8, bq9, bq10, bq11, bq12, bq13, bq14, bq15⟩, ⟨bq16, bq17, bq18, bq19, bq20, bq21, bq22, bq23, bq24, bq25, bq26, bq27, bq28, bq29, bq30, bq31⟩, bq32⟩ := hb'.get16
   obtain ⟨⟨r0, r1, r2, r3, r4, r5, r6, r7, r8, r9, r10, r11, r12, r13, r14, r15⟩, ⟨r16, r17, r18, r19, r20, r21, r22, r23, r24, r25, r26, r27, r28, r29, r30, r31⟩, r32⟩ := hr.get16
   go_wp2_with fail
   have hS := ((((((((((((((((hr.put 0 (by simp) (.int .u8 (byteN x 0 : Nat))).put 1 (by simp) (.int .u8 (byteN x 1 : Nat))).put 2 (by simp) (.int .u8 (byteN x 2 : Nat))).put 3 (by simp) (.int .u8 (byteN x 3 : Nat))).put 4 (by simp) (.int .u8 (byteN x 4 : Nat))).put 5 (by simp) (.int .u8 (byteN x 5 : Nat))).put 6 (by simp) (.int .u8 (byteN x 6 : Nat))).put 7 (by simp) (.int .u8 (byteN x 7 : Nat))).put 8 (by simp) (.int .u8 (byteN y 0 : Nat))).put 9 (by simp) (.int .u8 (byteN y 1 : Nat))).put 10 (by simp) (.int .u8 (byteN y 2 : Nat))).put 11 (by simp) (.int .u8 (byteN y 3 : Nat))).put 12 (by simp) (.int .u8 (byteN y 4 : Nat))).put 13 (by simp) (.int .u8 (byteN y 5 : Nat))).put 14 (by simp) (.int .u8 (byteN y 6 : Nat))).put 15 (by simp) (.int .u8 (byteN y 7 : Nat)))
   have hB := (bl_set (p := ⟨w.heap.size + 1, 15, none⟩) (bl_set (p := ⟨w.heap.size + 1, 14, none⟩) (bl_set (p := ⟨w.heap.size + 1, 13, none⟩) (bl_set (p := ⟨w.heap.size + 1, 12, none⟩) (bl_set (p := ⟨w.heap.size + 1, 11, none⟩) (bl_set (p := ⟨w.heap.size + 1, 10, none⟩) (bl_set (p := ⟨w.heap.size + 1, 9, none⟩) (bl_set (p := ⟨w.heap.size + 1, 8, none⟩) (bl_set (p := ⟨w.heap.size + 1, 7, none⟩) (bl_set (p := ⟨w.heap.size + 1, 6, none⟩) (bl_set (p := ⟨w.heap.size + 1, 5, none⟩) (bl_set (p := ⟨w.heap.size + 1, 4, none⟩) (bl_set (p := ⟨w.heap.size + 1, 3, none⟩) (bl_set (p := ⟨w.heap.size + 1, 2, none⟩) (bl_set (p := ⟨w.heap.size + 1, 1, none⟩) (bl_set (p := ⟨w.heap.size + 1, 0, none⟩) hbw (by dsimp only; omega) (.int .u8 (byteN x 0 : Nat))) (by dsimp only; omega) (.int .u8 (byteN x 1 : Nat))) (by dsimp only; omega) (.int .u8 (byteN x 2 : Nat))) (by dsimp only; omega) (.int .u8 (byteN x 3 : Nat))) (by dsimp only; omega) (.int .u8 (byteN x 4 : Nat))) (by dsimp only; omega) (.int .u8 (byteN x 5 : Nat))) (by dsimp only; omega) (.int .u8 (byteN x 6 : Nat))) (by dsimp only; omega) (.int .u8 (byteN x 7 : Nat))) (by dsimp only; omega) (.int .u8 (byteN y 0 : Nat))) (by dsimp only; omega) (.int .u8 (byteN y 1 : Nat))) (by dsimp only; omega) (.int .u8 (byteN y 2 : Nat))) (by dsimp only; omega) (.int .u8 (byteN y 3 : Nat))) (by dsimp only; omega) (.int .u8 (byteN y 4 : Nat))) (by dsimp only; omega) (.int .u8 (byteN y 5 : Nat))) (by dsimp only; omega) (.int .u8 (byteN y 6 : Nat))) (by dsimp only; omega) (.int .u8 (byteN y 7 : Nat)))
   refine bodyPost_ret (results_b16 (b := w.heap.size + 1) hS rfl rfl) rfl ⟨rfl, hB⟩

end Go.Proofs.Ytbakkmfjamcbfaa

namespace Go.Proofs.Ytbakkmfjamcbfaa
open Go.RowKit Fm
set_option linter.unusedVariables false
set_option maxRecDepth 100000

theorem bytes_eq : ∀ (n a b : Nat), a < 256 ^ n → b < 256 ^ n → (∀ i, i < n → a / 256 ^ i % 256 = b / 256 ^ i % 256) → a = b
 | 0, a, b, ha, hb, _ => by simp at ha hb; omega
 | n + 1, a, b, ha, hb, h => by
  have h0 := h 0 (by omega)
  simp only [Nat.pow_zero, Nat.div_one] at h0
  have h1 : a / 256 = b / 256 := by
   refine bytes_eq n _ _ ?_ ?_ fun i hi => ?_
   ·rw [Nat.pow_succ, Nat.mul_comm] at ha
    exact (Nat.div_lt_iff_lt_mul (by omega)).2 (by rwa [Nat.mul_comm])
   ·rw [Nat.pow_succ, Nat.mul_comm] at hb
    exact (Nat.div_lt_iff_lt_mul (by omega)).2 (by rwa [Nat.mul_comm])
   ·have h2 := h (i + 1) (by omega)
    rw [Nat.pow_succ, Nat.mul_comm, ← Nat.div_div_eq_div_mul, ← Nat.div_div_eq_div_mul] at h2
    exact h2
  omega
theorem byteN_256 (x i : Nat) : byteN x i = x / 256 ^ i % 256 := by
 unfold byteN
 rw [Nat.pow_mul]
theorem bytesN_inj {a b : Nat} (ha : a < 18446744073709551616) (hb : b < 18446744073709551616) (h : bytesN a 8 = bytesN b 8) : a = b := by
 refine bytes_eq 8 a b (by simpa using ha) (by simpa using hb) fun i hi => ?_
 have h1 := bytesN_at a 8 i hi
 rw [h, bytesN_at b 8 i hi] at h1
 have h2 : ((byteN b i : Nat) : Int) = ((byteN a i : Nat) : Int) := Option.some.inj h1
 rw [← byteN_256, ← byteN_256]
 omega

def bytesK {f : Nat} (x : Fin (Pm f)) : List Int := if f = 1 then bytesN (lo x).toNat 8 else bytesN (lo x).toNat 8 ++ bytesN (hi x).toNat 8
def sizeK (f : Nat) : Nat := if f = 1 then 8 else 16
theorem bytesK_length {f : Nat} (x : Fin (Pm f)) : (bytesK x).length = sizeK f := by
 unfold bytesK sizeK
 split
 ·exact bytesN_length _ _
 ·rw [List.length_append, bytesN_length, bytesN_length]
theorem bytesK_inj {f : Nat} (hf : IsF f) {x y : Fin (Pm f)} (h : bytesK x = bytesK y) : x = y := by
 have h0 := lo_0 x
 have h1 := lo_1 x
 have h2 := lo_0 y
 have h3 := lo_1 y
 have g0 := hi_0 x
 have g1 := hi_1 x
 have g2 := hi_0 y
 have g3 := hi_1 y
 unfold bytesK at h
 by_cases h1f : f = 1
 ·rw [if_pos h1f, if_pos h1f] at h
  have e := bytesN_inj (by omega) (by omega) h
  refine lohi_inj (by omega) ?_
  subst h1f
  have a1 := val_lohi x
  have a2 := val_lohi y
  have b1 := x.isLt
  have b2 := y.isLt
  have hp : Pm 1 = 18446744069414584321 := rfl
  omega
 ·rw [if_neg h1f, if_neg h1f] at h
  obtain ⟨e1, e2⟩ := List.append_inj h (by rw [bytesN_length, bytesN_length])
  have e3 := bytesN_inj (by omega) (by omega) e1
  have e4 := bytesN_inj (by omega) (by omega) e2
  exact lohi_inj (by omega) (by omega)
theorem bytesK_u8 {f : Nat} (x : Fin (Pm f)) : ∀ e, e ∈ bytesK x → 0 ≤ e ∧ e ≤ 255 := by
 have key : ∀ a n e, e ∈ bytesN a n → 0 ≤ e ∧ e ≤ 255 := by
  intro a n e he
  unfold bytesN at he
  obtain ⟨i, _, rfl⟩ := List.mem_map.1 he
  have : byteN a i < 256 := Nat.mod_lt _ (by omega)
  omega
 intro e he
 unfold bytesK at he
 split at he
 ·exact key _ _ e he
 ·rcases List.mem_append.1 he with h | h <;> exact key _ _ e h

def vecB {f : Nat} (l : KL f) : List Int := l.flatMap bytesK
theorem vecB_length {f : Nat} (l : KL f) : (vecB l).length = l.length * sizeK f := by
 unfold vecB
 induction l with
 | nil => simp
 | cons x l ih => rw [List.flatMap_cons, List.length_append, ih, bytesK_length, List.length_cons, Nat.succ_mul, Nat.add_comm]
theorem vecB_inj {f : Nat} (hf : IsF f) : ∀ {l m : KL f}, l.length = m.length → vecB l = vecB m → l = m
 | [], [], _, _ => rfl
 | [], _ :: _, h, _ => by simp at h
 | _ :: _, [], h, _ => by simp at h
 | x :: l, y :: m, hl, h => by
  unfold vecB at h
  rw [List.flatMap_cons, List.flatMap_cons] at h
  obtain ⟨e1, e2⟩ := List.append_inj h (by rw [bytesK_length, bytesK_length])
  rw [bytesK_inj hf e1, vecB_inj hf (by simpa using hl) e2]
theorem vecB_u8 {f : Nat} (l : KL f) : ∀ e, e ∈ vecB l → 0 ≤ e ∧ e ≤ 255 := by
 intro e he
 unfold vecB at he
 obtain ⟨x, _, h⟩ := List.mem_flatMap.1 he
 exact bytesK_u8 x e h
section
variable {f : Nat} (hf : IsF f)
include hf

set_option maxHeartbeats 4000000 in
theorem field_Bytes (x : Fin (Pm f)) (w : World) :
  Calls Try.prog 106 #[.int .u8 f, vK x] w fun e w' => ∃ g : Nat, e = .returned (.slice (some ⟨g, 0, none⟩) (sizeK f) (sizeK f)) ∧ Vs w' g (cells8 (bytesK x)) ∧ w.heap.size ≤ g ∧ Below w.heap.size w w' := by
 obtain ⟨a, ha⟩ : ∃ a : Nat, lo x = (a : Int) := ⟨(lo x).toNat, by have := lo_0 x; omega⟩
 obtain ⟨b, hb⟩ : ∃ b : Nat, hi x = (b : Int) := ⟨(hi x).toNat, by have := hi_0 x; omega⟩
 have h1 := lo_1 x
 have hv := val_lohi x
 have hlt := x.isLt
 have hv2 : vK x = .agg #[.int .u64 a, .int .u64 b] := by rw [← ha, ← hb]
 rw [hv2]
 have hta : (lo x).toNat = a := by omega
 have htb : (hi x).toNat = b := by omega
 have HBK : Hid (bytesK x = if f = 1 then bytesN a 8 else bytesN a 8 ++ bytesN b 8) := by
  show bytesK x = _
  unfold bytesK
  rw [hta, htb]
 rcases hf.or with rfl | rfl
 ·have HG := Lib.hid (fun wz => gold_Bytes a (by have hp : Pm 1 = 18446744069414584321 := rfl; omega) wz)
  rw [if_pos rfl] at HBK
  clear h1 hv hlt hv2 hta htb ha hb
  have hb00 : Below w.heap.size w w := Below.refl _ _
  go_enter Try.func106, Try.ntmps106
  go_upto_region 1 with fail
  have hx := V2.new w (.int .u64 a) (.int .u64 b) 99
  have hbA : Below w.heap.size w (w.alloc (.cells #[.int .u64 a, .int .u64 b] 99)) := by repeat (first | exact bA | with_reducible assumption | apply bB)
  replace hb00 := bl_call hb00 (Nat.le_refl _) hbA
  clear hbA
  generalize w.alloc (.cells #[.int .u64 a, .int .u64 b] 99) = w1 at hb00 hx ⊢
  obtain ⟨x0, x1, x2, x3, x4⟩ := V2.mk hx.c0 hx.c1 hx.f0 hx.f1 hx.lt
  go_upto_region 4 with (first
   | (go_at_call 122; refine (HG.out _).mono ?_; rintro e w2 ⟨rfl, hb2⟩; replace hb00 := bl_call hb00 (Nat.le_refl _) hb2; replace hx := hx.call hb2))
  clear x0 x1 x2 x3 x4
  have hz := hb00.size
  have hr := Vs.new w2 [.int .u8 (byteN a 0 : Nat), .int .u8 (byteN a 1 : Nat), .int .u8 (byteN a 2 : Nat), .int .u8 (byteN a 3 : Nat), .int .u8 (byteN a 4 : Nat), .int .u8 (byteN a 5 : Nat), .int .u8 (byteN a 6 : Nat), .int .u8 (byteN a 7 : Nat)] #[.int .u8 (byteN a 0 : Nat), .int .u8 (byteN a 1 : Nat), .int .u8 (byteN a 2 : Nat), .int .u8 (byteN a 3 : Nat), .int .u8 (byteN a 4 : Nat), .int .u8 (byteN a 5 : Nat), .int .u8 (byteN a 6 : Nat), .int .u8 (byteN a 7 : Nat)] 205 rfl
  have hbA : Below w2.heap.size w2 (w2.alloc (.cells #[.int .u8 (byteN a 0 : Nat), .int .u8 (byteN a 1 : Nat), .int .u8 (byteN a 2 : Nat), .int .u8 (byteN a 3 : Nat), .int .u8 (byteN a 4 : Nat), .int .u8 (byteN a 5 : Nat), .int .u8 (byteN a 6 : Nat), .int .u8 (byteN a 7 : Nat)] 205)) := by repeat (first | exact bA | with_reducible assumption | apply bB)
  replace hb00 := bl_call hb00 (Nat.le_refl _) hbA
  replace hx := hx.call hbA
  clear hbA
  generalize w2.alloc (.cells #[.int .u8 (byteN a 0 : Nat), .int .u8 (byteN a 1 : Nat), .int .u8 (byteN a 2 : Nat), .int .u8 (byteN a 3 : Nat), .int .u8 (byteN a 4 : Nat), .int .u8 (byteN a 5 : Nat), .int .u8 (byteN a 6 : Nat), .int .u8 (byteN a 7 : Nat)] 205) = w3 at hb00 hx hr ⊢
  go_wp2_with fail
  go_ret
  exact ⟨_, rfl, by rw [HBK.out]; exact hr, hz, hb00⟩
 ·have HG := Lib.hid (fun wz => wide_Bytes a b (by omega) (by have hp : Pm 2 = 340282366920938462946865773367900766209 := rfl; omega) wz)
  rw [if_neg (by decide)] at HBK
  clear h1 hv hlt hv2 hta htb ha hb
  have hb00 : Below w.heap.size w w := Below.refl _ _
  go_enter Try.func106, Try.ntmps106
  go_upto_region 1 with fail
  have hx := V2.new w (.int .u64 a) (.int .u64 b) 99
  have hbA : Below w.heap.size w (w.alloc (.cells #[.int .u64 a, .int .u64 b] 99)) := by repeat (first | exact bA | with_reducible assumption | apply bB)
  replace hb00 := bl_call hb00 (Nat.le_refl _) hbA
  clear hbA
  generalize w.alloc (.cells #[.int .u64 a, .int .u64 b] 99) = w1 at hb00 hx ⊢
  obtain ⟨x0, x1, x2, x3, x4⟩ := V2.mk hx.c0 hx.c1 hx.f0 hx.f1 hx.lt
  go_upto_region 7 with (first
   | (go_at_call 123; refine (HG.out _).mono ?_; rintro e w2 ⟨rfl, hb2⟩; replace hb00 := bl_call hb00 (Nat.le_refl _) hb2; replace hx := hx.call hb2))
  clear x0 x1 x2 x3 x4
  have hz := hb00.size
  have hr := Vs.new w2 [.int .u8 (byteN a 0 : Nat), .int .u8 (byteN a 1 : Nat), .int .u8 (byteN a 2 : Nat), .int .u8 (byteN a 3 : Nat), .int .u8 (byteN a 4 : Nat), .int .u8 (byteN a 5 : Nat), .int .u8 (byteN a 6 : Nat), .int .u8 (byteN a 7 : Nat), .int .u8 (byteN b 0 : Nat), .int .u8 (byteN b 1 : Nat), .int .u8 (byteN b 2 : Nat), .int .u8 (byteN b 3 : Nat), .int .u8 (byteN b 4 : Nat), .int .u8 (byteN b 5 : Nat), .int .u8 (byteN b 6 : Nat), .int .u8 (byteN b 7 : Nat)] #[.int .u8 (byteN a 0 : Nat), .int .u8 (byteN a 1 : Nat), .int .u8 (byteN a 2 : Nat), .int .u8 (byteN a 3 : Nat), .int .u8 (byteN a 4 : Nat), .int .u8 (byteN a 5 : Nat), .int .u8 (byteN a 6 : Nat), .int .u8 (byteN a 7 : Nat), .int .u8 (byteN b 0 : Nat), .int .u8 (byteN b 1 : Nat), .int .u8 (byteN b 2 : Nat), .int .u8 (byteN b 3 : Nat), .int .u8 (byteN b 4 : Nat), .int .u8 (byteN b 5 : Nat), .int .u8 (byteN b 6 : Nat), .int .u8 (byteN b 7 : Nat)] 23 rfl
  have hbA : Below w2.heap.size w2 (w2.alloc (.cells #[.int .u8 (byteN a 0 : Nat), .int .u8 (byteN a 1 : Nat), .int .u8 (byteN a 2 : Nat), .int .u8 (byteN a 3 : Nat), .int .u8 (byteN a 4 : Nat), .int .u8 (byteN a 5 : Nat), .int .u8 (byteN a 6 : Nat), .int .u8 (byteN a 7 : Nat), .int .u8 (byteN b 0 : Nat), .int .u8 (byteN b 1 : Nat), .int .u8 (byteN b 2 : Nat), .int .u8 (byteN b 3 : Nat), .int .u8 (byteN b 4 : Nat), .int .u8 (byteN b 5 : Nat), .int .u8 (byteN b 6 : Nat), .int .u8 (byteN b 7 : Nat)] 23)) := by repeat (first | exact bA | with_reducible assumption | apply bB)
  replace hb00 := bl_call hb00 (Nat.le_refl _) hbA
  replace hx := hx.call hbA
  clear hbA
  generalize w2.alloc (.cells #[.int .u8 (byteN a 0 : Nat), .int .u8 (byteN a 1 : Nat), .int .u8 (byteN a 2 : Nat), .int .u8 (byteN a 3 : Nat), .int .u8 (byteN a 4 : Nat), .int .u8 (byteN a 5 : Nat), .int .u8 (byteN a 6 : Nat), .int .u8 (byteN a 7 : Nat), .int .u8 (byteN b 0 : Nat), .int .u8 (byteN b 1 : Nat), .int .u8 (byteN b 2 : Nat), .int .u8 (byteN b 3 : Nat), .int .u8 (byteN b 4 : Nat), .int .u8 (byteN b 5 : Nat), .int .u8 (byteN b 6 : Nat), .int .u8 (byteN b 7 : Nat)] 23) = w3 at hb00 hx hr ⊢
  go_wp2_with fail
  go_ret
  exact ⟨_, rfl, by rw [HBK.out]; exact hr, hz, hb00⟩
end

end Go.Proofs.Ytbakkmfjamcbfaa

namespace Go.Proofs.Ytbakkmfjamcbfaa
open Go.RowKit Fm
set_option linter.unusedVariables false
set_option maxRecDepth 100000

/-! ### 'exclusive or' of bytes -/
/-! ### loads and stores of many cells at once -/
/-! ### a total's eighteen cells -/
section
variable {w : World} {b : Nat} {k : List Int} {v : Value} {m : Int}
end

theorem build_total0 (w : World) :
  (Instr.build 76 #[]).run Try.prog w = .ok (.agg (totL (.slice none 0 0) 0 z16).toArray) w := by kernel_rfl

/-! ### '==' of sixteen bytes -/
end Go.Proofs.Ytbakkmfjamcbfaa

namespace Go.Proofs.Ytbakkmfjamcbfaa
open Go.RowKit Fm
set_option linter.unusedVariables false
set_option maxRecDepth 100000

def RetT0 (c : Int) (w : World) (e : Ending) (w' : World) : Prop :=
 e = .returned (.tuple #[.agg (totL (.slice none 0 0) 0 z16).toArray, .int .i64 c]) ∧ Below w.heap.size w w'

end Go.Proofs.Ytbakkmfjamcbfaa

namespace Go.Proofs.Ytbakkmfjamcbfaa
open Go.RowKit Fm
set_option linter.unusedVariables false
set_option maxRecDepth 100000

section
variable {f : Nat}

theorem RwK.drew {w : World} {g : Nat} {l : KL f} (h : RwK w g l) : RwK w.drew g l := Vs.drew h
theorem RwK.belowB {w w' : World} {B g : Nat} {l : KL f} (h : RwK w g l) (hb : Below B w w') (hlt : g < B) : RwK w' g l := Vs.belowB h hb hlt
end

end Go.Proofs.Ytbakkmfjamcbfaa

namespace Go.Proofs.Ytbakkmfjamcbfaa
open Go.RowKit Fm
set_option linter.unusedVariables false
set_option maxRecDepth 100000

/-! ### what is known of worlds within a region in which the gadget is asked -/
section
variable {D D1 : Nat → Prop} {w0 w w' : World} {I : (Nat → Prop) → World → Prop}
end

theorem Rd.from {D : Nat → Prop} {w0 w w' : World} {I : (Nat → Prop) → World → Prop} (h : Rd D w I w') (k : Exc D w0.heap.size w0 w) : Rd D w0 I w' := ⟨k.more h.1 fun _ hq => .inl hq, by
 obtain ⟨D', h1, h2⟩ := h.2
 exact ⟨D', h1, fun q hq => (h2 q hq).imp_right fun h3 => Nat.le_trans k.size h3⟩⟩
end Go.Proofs.Ytbakkmfjamcbfaa

namespace Go.Proofs.Ytbakkmfjamcbfaa
open Go.RowKit Fm
set_option linter.unusedVariables false
set_option maxRecDepth 100000

section
variable {w w' : World} {b : Nat} {v : Value} {m : Int} {k : List Int}
theorem RowB.belowB {g o B : Nat} {xs : List Int} (h : RowB w g o xs) (hb : Below B w w') (hg : g < B) : RowB w' g o xs := fun i e hi => (hb.cell (p := ⟨g, o + i, none⟩) hg).trans (h i e hi)
end
end Go.Proofs.Ytbakkmfjamcbfaa

namespace Go.Proofs.Ytbakkmfjamcbfaa
open Go.RowKit Fm
set_option linter.unusedVariables false
set_option maxRecDepth 100000

def entL (id : List Int) (time : Int) (pu sh : Value) (code : Int) : List Value := cells8 id ++ [.int .u64 time, pu, sh, .int .i64 code]
def msgL (kind job start many : Int) (sum : List Int) (code : Int) (es : Value) : List Value := [.int .u8 kind, .int .u64 job, .int .u64 start, .int .i64 many] ++ (cells8 sum ++ [.int .i64 code, es])
section
variable {w : World} {b : Nat} {id sum : List Int} {time code kind job start many : Int} {pu sh es : Value}
end

end Go.Proofs.Ytbakkmfjamcbfaa

namespace Go.Proofs.Ytbakkmfjamcbfaa
open Go.RowKit Fm
set_option linter.unusedVariables false
set_option maxRecDepth 100000

section
variable {w : World} {b : Nat} {id sum sum' : List Int} {time code kind job start many kind' job' start' many' code' : Int} {pu sh es es' : Value}
end
structure ClE (B : Nat) (w' : World) (id : List Int) (time code : Int) (xs ys : List Int) (n n' : Nat) (v : Value) : Prop where
 ex : ∃ (A2 A3 : Option Addr) (c2 c3 g cg : Nat), v = .slice (some ⟨g, 0, none⟩) 1 cg ∧ B ≤ g ∧ Vs w' g (entL id time (.slice A2 n c2) (.slice A3 n' c3) code) ∧ w'.ownsRow B 5 1 (.slice A2 n c2) n (cells8 xs) ∧ w'.ownsRow B 5 1 (.slice A3 n' c3) n' (cells8 ys) ∧ ∀ q, (Value.slice A3 n' c3).ownBlock = some q → q ≠ g
theorem ClE.call {B : Nat} {w' w2 : World} {id : List Int} {time code : Int} {xs ys : List Int} {n n' : Nat} {v : Value} (h : ClE B w' id time code xs ys n n' v) (hb : Below w'.heap.size w' w2) : ClE B w2 id time code xs ys n n' v := by
 obtain ⟨A2, A3, c2, c3, g, cg, h1, h2, h3, h4, h5, h6⟩ := h
 exact ⟨A2, A3, c2, c3, g, cg, h1, h2, h3.call hb, own_call h4 hb, own_call h5 hb, h6⟩

end Go.Proofs.Ytbakkmfjamcbfaa

namespace Go.Proofs.Ytbakkmfjamcbfaa
open Go.RowKit Fm
set_option linter.unusedVariables false
set_option maxRecDepth 100000

def ReT (w0 : World) (cb : Nat) (o1 : Option Nat) (o2 : Option Value) (wz : World) : Prop := Exc (fun q => q = cb) w0.heap.size w0 wz
structure ReK (w0 : World) (cb : Nat) (ents : List Value) (Cl : World → Value → Prop) (old : List Value) (new : Value → List Value) (o1 : Option Nat) (o2 : Option Value) (s : Bool) (wz : World) : Prop where
 t : Exc (fun q => q = cb) w0.heap.size w0 wz
 l : cb < w0.heap.size
 a : ∀ g, o1 = some g → w0.heap.size ≤ g ∧ Vs wz g ents
 b : ∀ v, o2 = some v → Cl wz v
 v : s = false → Vs wz cb old
 u : s = true → ∀ x, o2 = some x → Vs wz cb (new x)
section
variable {w0 w w' : World} {cb : Nat} {ents old : List Value} {Cl : World → Value → Prop} {new : Value → List Value} {o1 : Option Nat} {o2 : Option Value} {s : Bool}
theorem ReK.weak (o1 : Option Nat) (o2 : Option Value) (s : Bool) (w : World) (h : ReK w0 cb ents Cl old new o1 o2 s w) : ReT w0 cb o1 o2 w := h.t
theorem ReK.clo (hC : ∀ v, Clo fun w => Cl w v) : Clo (ReK w0 cb ents Cl old new o1 o2 s) := fun w w' h hb => ⟨h.t.call hb, h.l, fun g e => ⟨(h.a g e).1, (h.a g e).2.call hb⟩, fun v e => hC v w w' (h.b v e) hb, fun e => (h.v e).call hb, fun e x e2 => (h.u e x e2).call hb⟩
theorem ReK.start (h : Vs w0 cb old) : ReK w0 cb ents Cl old new none none false w0.drew :=
 ⟨exc_of ((Below.refl _ _).drew), h.lt, fun _ e => (by cases e), fun _ e => (by cases e), fun _ => h.drew, fun e => (by cases e)⟩
theorem ReK.put {x : Value} {o : Nat} {l : List Value} (h : ReK w0 cb ents Cl old new o1 (some x) false w) (hn : Vs (w.setCells cb o l) cb (new x)) (hx : Cl (w.setCells cb o l) x) : ReK w0 cb ents Cl old new o1 (some x) true (w.setCells cb o l) := by
 have hl := h.l
 refine ⟨exc_setCells (S := fun q => q = cb) (B := w0.heap.size) cb rfl l o w h.t, h.l, fun g e => ⟨(h.a g e).1, Vs.farW (h.a g e).2 (b' := cb) (by have := (h.a g e).1; omega) o l⟩, fun v e => ?_, fun e => (by cases e), fun _ v e => ?_⟩
 ·injection e with e
  subst e
  exact hx
 ·injection e with e
  subst e
  exact hn
end

end Go.Proofs.Ytbakkmfjamcbfaa

namespace Go.Proofs.Ytbakkmfjamcbfaa
open Go.RowKit Fm
set_option linter.unusedVariables false
set_option maxRecDepth 100000

def RdB (w : World) (A : Option Addr) (n : Nat) (xs : List Int) : Prop := xs.length = n ∧ n ≤ 1000000 ∧ (0 < n → ∃ b o, A = some ⟨b, o, none⟩ ∧ b < w.heap.size ∧ RowB w b o xs)
theorem RdB.call {w w' : World} {A : Option Addr} {n : Nat} {xs : List Int} (h : RdB w A n xs) (hb : Below w.heap.size w w') : RdB w' A n xs :=
 ⟨h.1, h.2.1, fun hn => by
  obtain ⟨b, o, h1, h2, h3⟩ := h.2.2 hn
  exact ⟨b, o, h1, Nat.lt_of_lt_of_le h2 hb.size, h3.belowB hb h2⟩⟩

theorem ClE.mono {B B' : Nat} {w' : World} {id : List Int} {time code : Int} {xs ys : List Int} {n n' : Nat} {v : Value} (h : ClE B w' id time code xs ys n n' v) (hB : B' ≤ B) : ClE B' w' id time code xs ys n n' v := by
 obtain ⟨A2, A3, c2, c3, g, cg, h1, h2, h3, h4, h5, h6⟩ := h
 exact ⟨A2, A3, c2, c3, g, cg, h1, Nat.le_trans hB h2, h3, own_base9 h4 hB, own_base9 h5 hB, h6⟩
theorem ClE.exc {B b : Nat} {w w' : World} {id : List Int} {time code : Int} {xs ys : List Int} {n n' : Nat} {v : Value} (h : ClE B w id time code xs ys n n' v) (hb : b < B) (hex : Exc (fun q => q = b) w.heap.size w w') : ClE B w' id time code xs ys n n' v := by
 obtain ⟨A2, A3, c2, c3, g, cg, h1, h2, h3, h4, h5, h6⟩ := h
 exact ⟨A2, A3, c2, c3, g, cg, h1, h2, h3.exc (S := fun q => q = b) (fun h => by
  have h9 : g = b := h
  omega) hex, own_other h4 hex (fun q hq h => by
  have h9 : q = b := h
  have := (World.ownsRow.lt h4 q hq).1
  omega), own_other h5 hex (fun q hq h => by
  have h9 : q = b := h
  have := (World.ownsRow.lt h5 q hq).1
  omega), h6⟩
end Go.Proofs.Ytbakkmfjamcbfaa

namespace Go.Proofs.Ytbakkmfjamcbfaa
open Go.RowKit Fm
set_option linter.unusedVariables false
set_option maxRecDepth 100000

def ltL (tq : Int) (m : List Value) : List Value := .int .i64 tq :: m
end Go.Proofs.Ytbakkmfjamcbfaa

namespace Go.Proofs.Ytbakkmfjamcbfaa
open Go.RowKit Fm
set_option linter.unusedVariables false
set_option maxRecDepth 100000

theorem own_rdB {w : World} {base n c : Nat} {A : Option Addr} {xs : List Int} (h : w.ownsRow base 5 1 (.slice A n c) n (cells8 xs)) (hn : n ≤ 1000000) : RdB w A n xs := by
 have hl : xs.length = n := by
  have h1 := h.1
  rw [cells8_length] at h1
  omega
 refine ⟨hl, hn, fun hp => ?_⟩
 obtain ⟨g, cap, hg⟩ := own_sl9 h hp
 injection hg with e1 e2 e3
 subst e1
 have hr := own_rowB h
 exact ⟨g, 0, rfl, hr.2.1, hr.1⟩

end Go.Proofs.Ytbakkmfjamcbfaa

namespace Go.Proofs.Ytbakkmfjamcbfaa
open Go.RowKit Fm
set_option linter.unusedVariables false
set_option maxRecDepth 100000

structure ClI (lo hi : Nat) (w : World) (id : List Int) (tm : Int) (xs ys : List Int) (n n' : Nat) (v : Value) : Prop where
 ex : ∃ (A2 A3 : Option Addr) (c2 c3 g cg : Nat), v = .slice (some ⟨g, 0, none⟩) 1 cg ∧ (lo ≤ g ∧ g < hi) ∧ Vs w g (entL id tm (.slice A2 n c2) (.slice A3 n' c3) 0) ∧ w.ownsRow lo 5 1 (.slice A2 n c2) n (cells8 xs) ∧ w.ownsRow lo 5 1 (.slice A3 n' c3) n' (cells8 ys) ∧
  (∀ q, (Value.slice A2 n c2).ownBlock = some q → q < hi) ∧ (∀ q, (Value.slice A3 n' c3).ownBlock = some q → q < hi ∧ q ≠ g)
section
variable {B lo hi : Nat} {S : Nat → Prop} {w w' w2 w3 : World} {id : List Int} {tm : Int} {xs ys : List Int} {n n' : Nat} {v u v' : Value}
theorem ClI.exc (h : ClI lo hi w id tm xs ys n n' v) (hS : ∀ q, lo ≤ q → q < hi → ¬ S q) (hex : Exc S w.heap.size w w') : ClI lo hi w' id tm xs ys n n' v := by
 obtain ⟨A2, A3, c2, c3, g, cg, h1, h2, h3, h4, h5, h6, h7⟩ := h
 exact ⟨A2, A3, c2, c3, g, cg, h1, h2, h3.exc (hS g h2.1 h2.2) hex, own_other h4 hex (fun q hq => hS q (World.ownsRow.lt h4 q hq).1 (h6 q hq)), own_other h5 hex (fun q hq => hS q (World.ownsRow.lt h5 q hq).1 (h7 q hq).1), h6, h7⟩
theorem ClI.call (h : ClI lo hi w id tm xs ys n n' v) (hb : Below w.heap.size w w') : ClI lo hi w' id tm xs ys n n' v := h.exc (S := fun _ => False) (fun _ _ _ h => h) (exc_of hb)
def ltR (its : List (Int × List Int × Nat)) (ps : List (Value × Nat × Nat)) : List Value := (List.zipWith (fun it p => ltL it.1 (msgL 1 0 0 0 z16 0 p.1)) its ps).flatten
structure LtS (B : Nat) (w : World) (v : Value) (id : List Int) (tm : Int) (xs : List Int) (n : Nat) (its : List (Int × List Int × Nat)) (ps : List (Value × Nat × Nat)) : Prop where
 len : ps.length = its.length
 row : w.ownsRow B 42 23 v its.length (ltR its ps)
 each : ∀ (i : Nat) it p, its[i]? = some it → ps[i]? = some p → B ≤ p.2.1 ∧ ClI p.2.1 p.2.2 w id tm xs it.2.1 n it.2.2 p.1 ∧ (∀ q, v.ownBlock = some q → q < p.2.1 ∨ p.2.2 ≤ q) ∧ p.2.2 ≤ w.heap.size
 sep : ∀ (i j : Nat) p p', i < j → ps[i]? = some p → ps[j]? = some p' → p.2.2 ≤ p'.2.1
variable {its : List (Int × List Int × Nat)} {ps : List (Value × Nat × Nat)} {it : Int × List Int × Nat}
theorem LtS.exc (h : LtS B w v id tm xs n its ps) (hS : ∀ q, B ≤ q → ¬ S q) (hex : Exc S w.heap.size w w') : LtS B w' v id tm xs n its ps :=
 ⟨h.len, own_other h.row hex (fun q hq => hS q (World.ownsRow.lt h.row q hq).1), fun i it p h1 h2 => by
  obtain ⟨k1, k2, k3, k4⟩ := h.each i it p h1 h2
  exact ⟨k1, k2.exc (fun q hq _ => hS q (Nat.le_trans k1 hq)) hex, k3, Nat.le_trans k4 hex.size⟩, h.sep⟩
theorem LtS.call (h : LtS B w v id tm xs n its ps) (hb : Below w.heap.size w w') : LtS B w' v id tm xs n its ps := h.exc (S := fun _ => False) (fun _ _ h => h) (exc_of hb)
end

end Go.Proofs.Ytbakkmfjamcbfaa

namespace Go.Proofs.Ytbakkmfjamcbfaa
open Go.RowKit Fm
set_option linter.unusedVariables false
set_option maxRecDepth 100000

theorem rdB_conv {w : World} {A : Option Addr} {n c : Nat} {xs : List Int} (h : RdB w A n xs) : ∀ wz, Below w.heap.size w wz → (convert 28 9 (.slice A n c)).run Try.prog wz = .ok (.string (strOfNums xs)) wz := by
 intro wz hb
 obtain ⟨h1, h2, h3⟩ := h
 by_cases hn : 0 < n
 ·obtain ⟨b, o, rfl, hlt, hr⟩ := h3 hn
  refine run_convert_bytes_arg wz _ 5 Try.underlying28 Try.underlying5 b o n c xs h1 (fun i hi => ?_) _ Try.underlying9
  have hx : xs[i]? = some (xs.getD i 0) := by
   rw [List.getD_eq_getElem?_getD, List.getElem?_eq_getElem (by omega)]
   rfl
  exact (hb.cell (p := ⟨b, o + i, none⟩) hlt).trans (hr i _ hx)
 ·obtain rfl : n = 0 := by omega
  obtain rfl : xs = [] := List.eq_nil_of_length_eq_zero h1
  rw [run_convert_bytes_string wz _ _ _ _ 0 c Try.underlying28 Try.underlying5 Try.underlying9]
  cases A <;> simp [Conv.bytesToString, loadCells]
  all_goals rfl
theorem RdB.exc {S : Nat → Prop} {w w' : World} {A : Option Addr} {n : Nat} {xs : List Int} (h : RdB w A n xs) (hS : ∀ b o, 0 < n → A = some ⟨b, o, none⟩ → ¬ S b) (hb : Exc S w.heap.size w w') : RdB w' A n xs :=
 ⟨h.1, h.2.1, fun hn => by
  obtain ⟨b, o, h1, h2, h3⟩ := h.2.2 hn
  exact ⟨b, o, h1, Nat.lt_of_lt_of_le h2 hb.size, fun i e hi => cell_exc (h3 i e hi) (hS b o hn h1) hb⟩⟩

section
variable {w : World} {b : Nat} {id sum : List Int} {time code kind job start many : Int} {pu sh es : Value}
end

end Go.Proofs.Ytbakkmfjamcbfaa
