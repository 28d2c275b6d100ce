/-
 Reg2, RegD, Sums, Nums, RegD2, Small10: what the statements of this layer share.
-/
import Derived.BigQuiet
import Derived.Laws.Bits64b
import Derived.Test.YtbakkmfjamcbfaaKai
namespace Go.Proofs.Ytbakkmfjamcbfaa
open Go Go.RowKit

section
variable {P : Program} {ops : Array Oper} {Q : Exit → Act → World → Prop} {md : Region.Mode} {S : Array Bool → Act → World → Prop}

theorem WpH.two {n m : Nat} {L : Act → World → Prop} {i k : Nat} {f : Nat} {listed : Array Bool} {a : Act}
  (hB : (decide (i < n) && decide (k < n) && decide (Region.ready md ops listed = [i, k])) = true)
  (hi : ∀ w, S listed a w → wpOp P ops Q i (fun a' w' => S (listed.setIfInBounds i true) a' w' ∧ WpH P md ops Q n m S L f (listed.setIfInBounds i true) a') a w)
  (hk : ∀ w, S listed a w → wpOp P ops Q k (fun a' w' => S (listed.setIfInBounds k true) a' w' ∧ WpH P md ops Q n m S L f (listed.setIfInBounds k true) a') a w) : WpH P md ops Q n m S L (f + 1) listed a := by
 simp only [Bool.and_eq_true, decide_eq_true_eq] at hB
 obtain ⟨⟨hin, hkn⟩, hr⟩ := hB
 intro hp inv
 refine ⟨by rw [hr]; simp, fun j hj => ?_⟩
 have hj' : j = i ∨ j = k := by rw [hr] at hj; simpa using hj
 rcases hj' with rfl | rfl
 ·exact ⟨hin, fun w hS => wpOp_mono (fun a' w' h' => ⟨h'.1, h'.2 hp (inv.set hj hin hp.lt)⟩) (hi w hS)⟩
 ·exact ⟨hkn, fun w hS => wpOp_mono (fun a' w' h' => ⟨h'.1, h'.2 hp (inv.set hj hkn hp.lt)⟩) (hk w hS)⟩

end

end Go.Proofs.Ytbakkmfjamcbfaa

namespace Go.Proofs.Ytbakkmfjamcbfaa
open Go Go.RowKit

section
variable {P : Program} {ops : Array Oper} {Q : Exit → Act → World → Prop} {md : Region.Mode} {W : World} {n m f : Nat} {L : Act → World → Prop} {listed : Array Bool} {a : Act}

theorem WpH.takeD (i : Nat) (d : Option Tmp) {oi : Oper} {v : Value} (hi : ops[i]? = some oi) (hd : oi.dst = d)
  (hB : (decide (i < n) && Region.free md ops listed i && (Region.ready md ops listed).contains i) = true)
  (hQ : ∀ c a w, Q (.panic c) (a.put d v) w → Q (.panic c) a w)
  (hy : Det P ops (Below W.heap.size W) oi v a)
  (h : WpH P md ops Q n m (Flat (Below W.heap.size W)) L f (listed.setIfInBounds i true) (a.put d v)) : WpH P md ops Q n m (Flat (Below W.heap.size W)) L (f + 1) listed a := by
 subst hd
 exact WpH.takeB hi hB hQ hy h

theorem WpH.vD (i : Nat) (d : Option Tmp) (v : Value) {oi : Oper} (hi : ops[i]? = some oi) (hd : oi.dst = d)
  (hB : (decide (i < n) && Region.free md ops listed i && (Region.ready md ops listed).contains i) = true)
  (hQ : ∀ c a w, Q (.panic c) (a.put d v) w → Q (.panic c) a w)
  (hw : Region.wanted oi (yielded ops a.tmps) = true) (hv : ∀ w, Below W.heap.size W w → (execOp a.eval oi).run P w = .ok (.value v) w)
  (h : WpH P md ops Q n m (Flat (Below W.heap.size W)) L f (listed.setIfInBounds i true) (a.put d v)) : WpH P md ops Q n m (Flat (Below W.heap.size W)) L (f + 1) listed a :=
 WpH.takeD i d hi hd hB hQ (.val hw hv) h

variable {S : World → Prop}
theorem WpG.takeD (i : Nat) (d : Option Tmp) {oi : Oper} {v : Value} (hi : ops[i]? = some oi) (hd : oi.dst = d)
  (hB : (decide (i < n) && Region.free md ops listed i && (Region.ready md ops listed).contains i) = true)
  (hQ : ∀ c a w, Q (.panic c) (a.put d v) w → Q (.panic c) a w)
  (hy : Det P ops S oi v a)
  (h : WpG P md ops Q n m L f (listed.setIfInBounds i true) (a.put d v) S) : WpG P md ops Q n m L (f + 1) listed a S := by
 subst hd
 exact WpG.take hi hB hQ hy h

theorem WpG.vD (i : Nat) (d : Option Tmp) (v : Value) {oi : Oper} (hi : ops[i]? = some oi) (hd : oi.dst = d)
  (hB : (decide (i < n) && Region.free md ops listed i && (Region.ready md ops listed).contains i) = true)
  (hQ : ∀ c a w, Q (.panic c) (a.put d v) w → Q (.panic c) a w)
  (hw : Region.wanted oi (yielded ops a.tmps) = true) (hv : ∀ w, S w → (execOp a.eval oi).run P w = .ok (.value v) w)
  (h : WpG P md ops Q n m L f (listed.setIfInBounds i true) (a.put d v) S) : WpG P md ops Q n m L (f + 1) listed a S :=
 WpG.takeD i d hi hd hB hQ (.val hw hv) h

theorem WpG.oneD (i : Nat) (d : Option Tmp) {oi : Oper} (hi : ops[i]? = some oi) (hd : oi.dst = d) (hB : (decide (i < n) && decide (Region.ready md ops listed = [i])) = true)
  {ι : Type} (F : ι → Value) (R : ι → World → Prop) (hR : ∀ x, Clo (R x)) (hy : Fresh P ops S F R oi a)
  (h : ∀ x w0, S w0 → R x w0 → WpG P md ops Q n m L f (listed.setIfInBounds i true) (a.put d (F x)) (fun w => S w ∧ R x w)) : WpG P md ops Q n m L (f + 1) listed a S := by
 subst hd
 exact WpG.one hi hB F R hR hy h

theorem WpG.twoD (i k : Nat) (d d' : Option Tmp) {oi ok : Oper} (hi : ops[i]? = some oi) (hd : oi.dst = d) (hk : ops[k]? = some ok) (hd' : ok.dst = d') (hB : (decide (i < n) && decide (k < n) && decide (Region.ready md ops listed = [i, k])) = true)
  {ι κ : Type} (F : ι → Value) (R : ι → World → Prop) (hR : ∀ x, Clo (R x)) (hy : Fresh P ops S F R oi a)
  (F' : κ → Value) (R' : κ → World → Prop) (hR' : ∀ x, Clo (R' x)) (hy' : Fresh P ops S F' R' ok a)
  (h : ∀ x w0, S w0 → R x w0 → WpG P md ops Q n m L f (listed.setIfInBounds i true) (a.put d (F x)) (fun w => S w ∧ R x w))
  (h' : ∀ x w0, S w0 → R' x w0 → WpG P md ops Q n m L f (listed.setIfInBounds k true) (a.put d' (F' x)) (fun w => S w ∧ R' x w)) : WpG P md ops Q n m L (f + 1) listed a S := by
 subst hd
 subst hd'
 exact WpG.two hi hk hB F R hR hy F' R' hR' hy' h h'

theorem WpG.oneSkip (i : Nat) (d : Option Tmp) {oi : Oper} (hi : ops[i]? = some oi) (hd : oi.dst = d) (hB : (decide (i < n) && decide (Region.ready md ops listed = [i])) = true)
  (R : World → Prop) (hR : Clo R) (hw : Region.wanted oi (yielded ops a.tmps) = true) (hop : ∀ w, S w → ∃ w', (execOp a.eval oi).run P w = .ok .skip w' ∧ S w' ∧ R w')
  (h : WpG P md ops Q n m L f (listed.setIfInBounds i true) (a.put d undef) (fun w => S w ∧ R w)) : WpG P md ops Q n m L (f + 1) listed a S := by
 subst hd
 simp only [Bool.and_eq_true, decide_eq_true_eq] at hB
 obtain ⟨hin, hr⟩ := hB
 intro hC hp inv
 refine ⟨by rw [hr]; simp, fun j hj => ?_⟩
 have hj' : j = i := by rw [hr] at hj; simpa using hj
 subst hj'
 refine ⟨hin, fun w hS => ?_⟩
 obtain ⟨w', hrun, hS', hRw⟩ := hop w hS
 unfold Go.wpOp
 simp only [hi, hw, if_true]
 refine .inl ?_
 unfold Oper.wp
 rw [hrun]
 exact ⟨_, hC.and hR, fun _ hw => hw.1, ⟨hS', hRw⟩, h (hC.and hR) hp (inv.set hj hin hp.lt)⟩
end

end Go.Proofs.Ytbakkmfjamcbfaa

namespace Go.Proofs.Ytbakkmfjamcbfaa
open Go.RowKit Fm
set_option linter.unusedVariables false
set_option maxRecDepth 100000

def nK (f : Nat) (n : Nat) : Fin (Pm f) := kL f (n : Int) 0
theorem nK_zero (f : Nat) : nK f 0 = 0 := kL_zero
def ksum {f : Nat} (l : KL f) : Fin (Pm f) := l.foldl (· + ·) 0
def knum {f : Nat} (l : KL f) : Fin (Pm f) := l.foldr (fun a s => s + s + a) 0
section
variable {f : Nat} (hf : IsF f)
include hf

end

end Go.Proofs.Ytbakkmfjamcbfaa

namespace Go.Proofs.Ytbakkmfjamcbfaa
open Go.RowKit Fm Go.ChangeShapes Go.WideShapes Go.Deep
set_option linter.unusedVariables false
set_option maxRecDepth 100000

def RowU (w : World) (b o : Nat) (xs : List Int) : Prop := ∀ (i : Nat) (e : Int), xs[i]? = some e → w.cell? ⟨b, o + i, none⟩ = some (.int .u64 e)
def okU (e : Int) : Prop := 0 ≤ e ∧ e ≤ 18446744073709551615

structure SlU (w : World) (B : Nat) (v : Value) (xs : List Int) : Prop where
 ex : ∃ (A : Option Addr) (c : Nat), v = .slice A xs.length c ∧ xs.length ≤ c ∧ c ≤ 9223372036854775807 ∧ (0 < xs.length → ∃ b o, A = some ⟨b, o, none⟩ ∧ b < B ∧ RowU w b o xs)
 ok : ∀ e, e ∈ xs → okU e

theorem RowU.call {w w' : World} {b o : Nat} {xs : List Int} (h : RowU w b o xs) (hb : Below w.heap.size w w') : RowU w' b o xs := fun i e hi => cell_call (h i e hi) hb
theorem RowU.below {w w' : World} {B b o : Nat} {xs : List Int} (h : RowU w b o xs) (hb : Below B w w') (hB : b < B) : RowU w' b o xs := fun i e hi => (hb.cell (p := ⟨b, o + i, none⟩) hB).trans (h i e hi)
theorem SlU.below {w w' : World} {B : Nat} {v : Value} {xs : List Int} (h : SlU w B v xs) (hb : Below B w w') : SlU w' B v xs := by
 obtain ⟨⟨A, c, hv, h1, h2, h3⟩, ok⟩ := h
 exact ⟨⟨A, c, hv, h1, h2, fun hn => let ⟨b, o, hA, hB, hr⟩ := h3 hn; ⟨b, o, hA, hB, hr.below hb hB⟩⟩, ok⟩
theorem SlU.mono {w : World} {B B' : Nat} {v : Value} {xs : List Int} (h : SlU w B v xs) (hB : B ≤ B') : SlU w B' v xs := by
 obtain ⟨⟨A, c, hv, h1, h2, h3⟩, ok⟩ := h
 exact ⟨⟨A, c, hv, h1, h2, fun hn => let ⟨b, o, hA, hb, hr⟩ := h3 hn; ⟨b, o, hA, Nat.lt_of_lt_of_le hb hB, hr⟩⟩, ok⟩
theorem SlU.later {w w' : World} {v : Value} {xs : List Int} (h : SlU w w.heap.size v xs) (hb : Below w.heap.size w w') : SlU w' w'.heap.size v xs := (h.below hb).mono hb.size
theorem SlU.nil (w : World) (B : Nat) : SlU w B (.slice none 0 0) [] := ⟨⟨none, 0, rfl, Nat.le_refl _, by simp, fun h => absurd h (by simp)⟩, fun _ h => by cases h⟩

def cellsU (xs : List Int) : List Value := xs.map (.int .u64)
theorem RowU.cells {w : World} {b o : Nat} {xs : List Int} (h : RowU w b o xs) (j : Nat) (u : Value) (hu : (cellsU xs)[j]? = some u) : w.cell? ((⟨b, o, none⟩ : Addr).add j) = some u := by
 have ha : (⟨b, o, none⟩ : Addr).add j = ⟨b, o + j, none⟩ := by
  unfold Addr.add
  split <;> simp_all
 rw [ha]
 unfold cellsU at hu
 rw [List.getElem?_map] at hu
 cases hx : xs[j]? with
 | none => rw [hx] at hu; cases hu
 | some e =>
  rw [hx] at hu
  injection hu with hu
  subst hu
  exact h j e hx

section
variable {H : Type} {enc : TypeId × Value → H} {W : World} {base : Nat} {sp : Nat → Bool} {hd : Bool}
end

end Go.Proofs.Ytbakkmfjamcbfaa

namespace Go.Proofs.Ytbakkmfjamcbfaa
open Go Go.RowKit

section
variable {P : Program} {Q : Exit → Act → World → Prop}

theorem region_GS {id n m f : Nat} {l : List Oper} {a : Act} {w : World} (S : World → Prop) (hC : Clo S) (hS : S w.drew) (hm : P.follows .mixedOrders = true) (hB : partsB .any l.toArray n m (Array.replicate l.length false) = true) (hf : f + (m - n) = l.length)
  (h : WpG P .any l.toArray Q n m (wpList P l.toArray Q ((l.drop n).take (m - n))) f (Array.replicate l.length false) a S) : (Code.region id l.toArray true).wp P Q a w := by
 refine wp_region_any hm ?_
 have := any_G (w := w.drew) hB hC hS h
 rw [hf] at this
 simpa using this
end

end Go.Proofs.Ytbakkmfjamcbfaa

namespace Go.Proofs.Ytbakkmfjamcbfaa
open Go.RowKit Fm
set_option linter.unusedVariables false
set_option maxRecDepth 100000

structure CK.small (y : CK) : Prop where
 ok : y.ok
 nin : y.nin ≤ 12
 calls : ¬ 511 < y.calls

theorem CK.calls_le {y : CK} (h : y.ok) : y.calls ≤ y.nin := by
 cases y with
 | count => exact Nat.le_refl _
 | sum b => exact Nat.le_refl _
 | vec b l c => exact ceil_le h.2.2.1
 | hist l c => exact ceil_le h.2.1
 | multi l m c => exact ceil_le h.2.2.1
theorem CK.small_of {y : CK} (h : y.ok) (hn : y.nin ≤ 12) : y.small := ⟨h, hn, by have := CK.calls_le h; omega⟩

theorem bitLen_5 : ∀ m : Nat, m ≤ 5 → Lib.bitLen m ≤ 3 := by decide +kernel

theorem Vs.set6 {w : World} {b : Nat} {p q r s t u : Value} (h : Vs w b [p, q, r, s, t, u]) (x0 x1 x2 x3 x4 x5 : Value) :
  Vs ((((((w.setCell ⟨b, 0, none⟩ x0).setCell ⟨b, 1, none⟩ x1).setCell ⟨b, 2, none⟩ x2).setCell ⟨b, 3, none⟩ x3).setCell ⟨b, 4, none⟩ x4).setCell ⟨b, 5, none⟩ x5) b [x0, x1, x2, x3, x4, x5] :=
 (((((h.put 0 (by simp) x0).put 1 (by simp) x1).put 2 (by simp) x2).put 3 (by simp) x3).put 4 (by simp) x4).put 5 (by simp) x5

def SmS (w : World) (k f b l m c K F : Int) (wz : World) : Prop :=
 Below w.heap.size w wz ∧ Vs wz w.heap.size [.int .u8 k, .int .u8 f, .int .u8 b, .int .u8 l, .int .u8 m, .int .u8 c] ∧ Vs wz (w.heap.size + 1) [.int .u8 0, .int .u8 0, .int .i64 0, .int .i64 0, .int .i64 0, .int .i64 0] ∧
  ∃ x2 x3 x5 : Value, Vs wz (w.heap.size + 1 + 1) [.int .u8 K, .int .u8 F, x2, x3, .int .i64 0, x5]
theorem SmS.clo (w : World) (k f b l m c K F : Int) : Clo (SmS w k f b l m c K F) :=
 fun _ _ h hb => ⟨bl_call h.1 (Nat.le_refl _) hb, h.2.1.call hb, h.2.2.1.call hb, let ⟨x, y, z, hv⟩ := h.2.2.2; ⟨x, y, z, hv.call hb⟩⟩

set_option maxHeartbeats 4000000 in
theorem law10_CircuitX (k f b l m c : Int) (hk0 : 0 ≤ k) (hk1 : k ≤ 255) (hf0 : 0 ≤ f) (hf1 : f ≤ 255) (hb0 : 0 ≤ b) (hb1 : b ≤ 255) (hl0 : 0 ≤ l) (hl1 : l ≤ 255) (hm0 : 0 ≤ m) (hm1 : m ≤ 255) (hc0 : 0 ≤ c) (hc1 : c ≤ 255) :
  ∃ (F : Nat) (y : CK), IsF F ∧ y.small ∧ 1 + f % 2 = (F : Int) ∧ (k % 5 = 0 → y = .count) ∧ ∀ w, Calls Try.prog 52 #[.agg #[.int .u8 k, .int .u8 f, .int .u8 b, .int .u8 l, .int .u8 m, .int .u8 c]] w fun e w' => e = .returned (y.val F) ∧ Below w.heap.size w w' := by
 obtain ⟨F, hF, hF0⟩ : ∃ F : Nat, IsF F ∧ 1 + f % 2 = (F : Int) := by
  have h : f % 2 = 0 ∨ f % 2 = 1 := by omega
  rcases h with h | h
  ·exact ⟨1, isF1, by omega⟩
  ·exact ⟨2, isF2, by omega⟩
 have hF' : f % 2 + 1 = (F : Int) := by omega
 obtain ⟨B, hB, hB1, hB4⟩ : ∃ B : Nat, 1 + b % 4 = (B : Int) ∧ 1 ≤ B ∧ B ≤ 4 := ⟨(1 + b % 4).toNat, by omega, by omega, by omega⟩
 obtain ⟨L, hL, hL1, hL5⟩ : ∃ L : Nat, 1 + l % 5 = (L : Int) ∧ 1 ≤ L ∧ L ≤ 5 := ⟨(1 + l % 5).toNat, by omega, by omega, by omega⟩
 obtain ⟨C, hC, hC1, hC4⟩ : ∃ C : Nat, 1 + c % 4 = (C : Int) ∧ 1 ≤ C ∧ C ≤ 4 := ⟨(1 + c % 4).toNat, by omega, by omega, by omega⟩
 have hB' : b % 4 + 1 = (B : Int) := by omega
 have hL' : l % 5 + 1 = (L : Int) := by omega
 have hC' : c % 4 + 1 = (C : Int) := by omega
 obtain ⟨LT, hLT, hLT2⟩ : ∃ LT : Nat, l.tmod 5 = (LT : Int) ∧ (1 : Int) + (LT : Int) = (L : Int) := ⟨(l % 5).toNat, by rw [Int.tmod_eq_emod_of_nonneg hl0]; omega, by omega⟩
 obtain ⟨BT, hBT, hBT2⟩ : ∃ BT : Nat, b.tmod 4 = (BT : Int) ∧ (1 : Int) + (BT : Int) = (B : Int) := ⟨(b % 4).toNat, by rw [Int.tmod_eq_emod_of_nonneg hb0]; omega, by omega⟩
 have hwL : IntKind.i64.wrap (L : Int) = (L : Int) := IntWalk.i64_in _ (by omega)
 have hwB : IntKind.i64.wrap (B : Int) = (B : Int) := IntWalk.i64_in _ (by omega)
 have hwLT : IntKind.i64.wrap (LT : Int) = (LT : Int) := IntWalk.i64_in _ (by omega)
 have hwBT : IntKind.i64.wrap (BT : Int) = (BT : Int) := IntWalk.i64_in _ (by omega)
 have hk5 : k % 5 = 0 ∨ k % 5 = 1 ∨ k % 5 = 2 ∨ k % 5 = 3 ∨ k % 5 = 4 := by omega
 rcases hk5 with hk | hk | hk | hk | hk
 ·refine ⟨F, .count, hF, CK.small_of trivial (by show 1 ≤ 12; omega), hF0, fun _ => rfl, fun w => ?_⟩
  rw [val_count]
  go_enter Try.func52, Try.ntmps52
  go_upto_region 2 with fail
  have hs := ((Vs.new w [.int .u8 k, .int .u8 f, .int .u8 b, .int .u8 l, .int .u8 m, .int .u8 c] #[.int .u8 k, .int .u8 f, .int .u8 b, .int .u8 l, .int .u8 m, .int .u8 c] 64 rfl).alloc (.cells #[.int .u8 0, .int .u8 0, .int .i64 0, .int .i64 0, .int .i64 0, .int .i64 0] 60)).alloc (.cells #[.int .u8 1, .int .u8 F, .int .i64 0, .int .i64 0, .int .i64 0, .int .i64 0] 60)
  have hr := (Vs.new (w.alloc (.cells #[.int .u8 k, .int .u8 f, .int .u8 b, .int .u8 l, .int .u8 m, .int .u8 c] 64)) [.int .u8 0, .int .u8 0, .int .i64 0, .int .i64 0, .int .i64 0, .int .i64 0] #[.int .u8 0, .int .u8 0, .int .i64 0, .int .i64 0, .int .i64 0, .int .i64 0] 60 rfl).alloc (.cells #[.int .u8 1, .int .u8 F, .int .i64 0, .int .i64 0, .int .i64 0, .int .i64 0] 60)
  have hv := Vs.new ((w.alloc (.cells #[.int .u8 k, .int .u8 f, .int .u8 b, .int .u8 l, .int .u8 m, .int .u8 c] 64)).alloc (.cells #[.int .u8 0, .int .u8 0, .int .i64 0, .int .i64 0, .int .i64 0, .int .i64 0] 60)) [.int .u8 1, .int .u8 F, .int .i64 0, .int .i64 0, .int .i64 0, .int .i64 0] #[.int .u8 1, .int .u8 F, .int .i64 0, .int .i64 0, .int .i64 0, .int .i64 0] 60 rfl
  simp only [World.size_alloc] at hr hv
  have hbw : Below w.heap.size w (((w.alloc (.cells #[.int .u8 k, .int .u8 f, .int .u8 b, .int .u8 l, .int .u8 m, .int .u8 c] 64)).alloc (.cells #[.int .u8 0, .int .u8 0, .int .i64 0, .int .i64 0, .int .i64 0, .int .i64 0] 60)).alloc (.cells #[.int .u8 1, .int .u8 F, .int .i64 0, .int .i64 0, .int .i64 0, .int .i64 0] 60)) := by repeat (first | exact bA | with_reducible assumption | apply bB | (refine bC ?_ (by dsimp only; omega)) | apply bD | apply bE | (refine bF ?_ (by assumption)))
  generalize ((w.alloc (.cells #[.int .u8 k, .int .u8 f, .int .u8 b, .int .u8 l, .int .u8 m, .int .u8 c] 64)).alloc (.cells #[.int .u8 0, .int .u8 0, .int .i64 0, .int .i64 0, .int .i64 0, .int .i64 0] 60)).alloc (.cells #[.int .u8 1, .int .u8 F, .int .i64 0, .int .i64 0, .int .i64 0, .int .i64 0] 60) = w1 at hs hr hv hbw ⊢
  obtain ⟨⟨s0, s1, s2, s3, s4, s5⟩, ⟨s6, s7, s8, s9, s10, s11⟩, s12⟩ := hs.get6
  obtain ⟨⟨r0, r1, r2, r3, r4, r5⟩, ⟨r6, r7, r8, r9, r10, r11⟩, r12⟩ := hr.get6
  obtain ⟨⟨v0, v1, v2, v3, v4, v5⟩, ⟨v6, v7, v8, v9, v10, v11⟩, v12⟩ := hv.get6
  refine region_B (n := 11) (m := 12) (f := 11) (by kernel_rfl) (by kernel_rfl) rfl ?_
  refine WpH.vD 0 (some 15) ?_ rfl rfl (by kernel_rfl) (fun _ _ _ h => h) rfl (fun wz hwz => ?_) ?_
  rotate_left
  ·go_simp; try (with_reducible rfl)
  simp only [Zp, Zq, Zr, Zs]
  refine WpH.vD 1 (some 16) ?_ rfl rfl (by kernel_rfl) (fun _ _ _ h => h) rfl (fun wz hwz => ?_) ?_
  rotate_left
  ·(obtain ⟨hcz, hfz⟩ := bcell hwz; go_simp; try (with_reducible rfl))
  simp only [Zp, Zq, Zr, Zs]
  refine WpH.vD 2 (some 17) ?_ rfl rfl (by kernel_rfl) (fun _ _ _ h => h) rfl (fun wz hwz => ?_) ?_
  rotate_left
  ·go_simp; try (with_reducible rfl)
  simp only [Zp, Zq, Zr, Zs]
  refine WpH.vD 3 (some 18) ?_ rfl rfl (by kernel_rfl) (fun _ _ _ h => h) rfl (fun wz hwz => ?_) ?_
  rotate_left
  ·go_simp; try (with_reducible rfl)
  simp only [Zp, Zq, Zr, Zs]
  refine WpH.vD 4 (some 19) ?_ rfl rfl (by kernel_rfl) (fun _ _ _ h => h) rfl (fun wz hwz => ?_) ?_
  rotate_left
  ·go_simp; try (with_reducible rfl)
  simp only [Zp, Zq, Zr, Zs]
  refine WpH.vD 5 (some 20) ?_ rfl rfl (by kernel_rfl) (fun _ _ _ h => h) rfl (fun wz hwz => ?_) ?_
  rotate_left
  ·go_simp; try (with_reducible rfl)
  simp only [Zp, Zq, Zr, Zs]
  refine WpH.vD 6 (some 21) ?_ rfl rfl (by kernel_rfl) (fun _ _ _ h => h) rfl (fun wz hwz => ?_) ?_
  rotate_left
  ·(obtain ⟨hcz, hfz⟩ := bcell hwz; go_simp; try (with_reducible rfl))
  simp only [Zp, Zq, Zr, Zs]
  refine WpH.vD 7 (some 22) ?_ rfl rfl (by kernel_rfl) (fun _ _ _ h => h) rfl (fun wz hwz => ?_) ?_
  rotate_left
  ·go_simp; try (with_reducible rfl)
  simp only [Zp, Zq, Zr, Zs]
  refine WpH.vD 8 (some 23) ?_ rfl rfl (by kernel_rfl) (fun _ _ _ h => h) rfl (fun wz hwz => ?_) ?_
  rotate_left
  ·go_simp; try (with_reducible rfl)
  simp only [Zp, Zq, Zr, Zs]
  refine WpH.vD 9 (some 24) ?_ rfl rfl (by kernel_rfl) (fun _ _ _ h => h) rfl (fun wz hwz => ?_) ?_
  rotate_left
  ·go_simp; try (with_reducible rfl)
  simp only [Zp, Zq, Zr, Zs]
  refine WpH.vD 10 (some 4) ?_ rfl rfl (by kernel_rfl) (fun _ _ _ h => h) rfl (fun wz hwz => ?_) ?_
  rotate_left
  ·go_simp; try (with_reducible rfl)
  simp only [Zp, Zq, Zr, Zs]
  refine WpH.doneB (by kernel_rfl) (fun w2 hw2 => ?_)
  (try simp only [List.drop_succ_cons]); (try simp only [List.drop_zero]); (try simp only [Nat.reduceSub]); (try simp only [List.take_succ_cons]); (try simp only [List.take_zero])
  clear s0 s1 s2 s3 s4 s5 s6 s7 s8 s9 s10 s11 s12 r0 r1 r2 r3 r4 r5 r6 r7 r8 r9 r10 r11 r12 v0 v1 v2 v3 v4 v5 v6 v7 v8 v9 v10 v11 v12
  replace hbw := bl_call hbw (Nat.le_refl _) hw2
  replace hs := hs.call hw2
  replace hr := hr.call hw2
  replace hv := hv.call hw2
  obtain ⟨⟨s0, s1, s2, s3, s4, s5⟩, ⟨s6, s7, s8, s9, s10, s11⟩, s12⟩ := hs.get6
  obtain ⟨⟨r0, r1, r2, r3, r4, r5⟩, ⟨r6, r7, r8, r9, r10, r11⟩, r12⟩ := hr.get6
  obtain ⟨⟨v0, v1, v2, v3, v4, v5⟩, ⟨v6, v7, v8, v9, v10, v11⟩, v12⟩ := hv.get6
  go_wp2
  have hres := Vs.set6 hr (.int .u8 1) (.int .u8 F) (.int .i64 0) (.int .i64 0) (.int .i64 0) (.int .i64 0)
  have hble : w.heap.size ≤ w.heap.size + 1 := by omega
  have hbr := bl_set (p := ⟨w.heap.size + 1, 5, none⟩) (bl_set (p := ⟨w.heap.size + 1, 4, none⟩) (bl_set (p := ⟨w.heap.size + 1, 3, none⟩) (bl_set (p := ⟨w.heap.size + 1, 2, none⟩) (bl_set (p := ⟨w.heap.size + 1, 1, none⟩) (bl_set (p := ⟨w.heap.size + 1, 0, none⟩) hbw hble (.int .u8 1)) hble (.int .u8 F)) hble (.int .i64 0)) hble (.int .i64 0)) hble (.int .i64 0)) hble (.int .i64 0)
  exact bodyPost_ret (results_cir hres rfl rfl) rfl ⟨rfl, hbr⟩
 ·refine ⟨F, .sum B, hF, CK.small_of ⟨hB1, by omega⟩ (by show B ≤ 12; omega), hF0, fun h => absurd h (by omega), fun w => ?_⟩
  rw [val_sum]
  go_enter Try.func52, Try.ntmps52
  go_upto_region 2 with fail
  have hs := ((Vs.new w [.int .u8 k, .int .u8 f, .int .u8 b, .int .u8 l, .int .u8 m, .int .u8 c] #[.int .u8 k, .int .u8 f, .int .u8 b, .int .u8 l, .int .u8 m, .int .u8 c] 64 rfl).alloc (.cells #[.int .u8 0, .int .u8 0, .int .i64 0, .int .i64 0, .int .i64 0, .int .i64 0] 60)).alloc (.cells #[.int .u8 2, .int .u8 F, .int .i64 0, .int .i64 0, .int .i64 0, .int .i64 0] 60)
  have hr := (Vs.new (w.alloc (.cells #[.int .u8 k, .int .u8 f, .int .u8 b, .int .u8 l, .int .u8 m, .int .u8 c] 64)) [.int .u8 0, .int .u8 0, .int .i64 0, .int .i64 0, .int .i64 0, .int .i64 0] #[.int .u8 0, .int .u8 0, .int .i64 0, .int .i64 0, .int .i64 0, .int .i64 0] 60 rfl).alloc (.cells #[.int .u8 2, .int .u8 F, .int .i64 0, .int .i64 0, .int .i64 0, .int .i64 0] 60)
  have hv := Vs.new ((w.alloc (.cells #[.int .u8 k, .int .u8 f, .int .u8 b, .int .u8 l, .int .u8 m, .int .u8 c] 64)).alloc (.cells #[.int .u8 0, .int .u8 0, .int .i64 0, .int .i64 0, .int .i64 0, .int .i64 0] 60)) [.int .u8 2, .int .u8 F, .int .i64 0, .int .i64 0, .int .i64 0, .int .i64 0] #[.int .u8 2, .int .u8 F, .int .i64 0, .int .i64 0, .int .i64 0, .int .i64 0] 60 rfl
  simp only [World.size_alloc] at hr hv
  have hbw : Below w.heap.size w (((w.alloc (.cells #[.int .u8 k, .int .u8 f, .int .u8 b, .int .u8 l, .int .u8 m, .int .u8 c] 64)).alloc (.cells #[.int .u8 0, .int .u8 0, .int .i64 0, .int .i64 0, .int .i64 0, .int .i64 0] 60)).alloc (.cells #[.int .u8 2, .int .u8 F, .int .i64 0, .int .i64 0, .int .i64 0, .int .i64 0] 60)) := by repeat (first | exact bA | with_reducible assumption | apply bB | (refine bC ?_ (by dsimp only; omega)) | apply bD | apply bE | (refine bF ?_ (by assumption)))
  generalize ((w.alloc (.cells #[.int .u8 k, .int .u8 f, .int .u8 b, .int .u8 l, .int .u8 m, .int .u8 c] 64)).alloc (.cells #[.int .u8 0, .int .u8 0, .int .i64 0, .int .i64 0, .int .i64 0, .int .i64 0] 60)).alloc (.cells #[.int .u8 2, .int .u8 F, .int .i64 0, .int .i64 0, .int .i64 0, .int .i64 0] 60) = w1 at hs hr hv hbw ⊢
  obtain ⟨⟨s0, s1, s2, s3, s4, s5⟩, ⟨s6, s7, s8, s9, s10, s11⟩, s12⟩ := hs.get6
  obtain ⟨⟨r0, r1, r2, r3, r4, r5⟩, ⟨r6, r7, r8, r9, r10, r11⟩, r12⟩ := hr.get6
  obtain ⟨⟨v0, v1, v2, v3, v4, v5⟩, ⟨v6, v7, v8, v9, v10, v11⟩, v12⟩ := hv.get6
  refine region_B (n := 11) (m := 12) (f := 11) (by kernel_rfl) (by kernel_rfl) rfl ?_
  refine WpH.vD 0 (some 15) ?_ rfl rfl (by kernel_rfl) (fun _ _ _ h => h) rfl (fun wz hwz => ?_) ?_
  rotate_left
  ·go_simp; try (with_reducible rfl)
  simp only [Zp, Zq, Zr, Zs]
  refine WpH.vD 1 (some 16) ?_ rfl rfl (by kernel_rfl) (fun _ _ _ h => h) rfl (fun wz hwz => ?_) ?_
  rotate_left
  ·(obtain ⟨hcz, hfz⟩ := bcell hwz; go_simp; try (with_reducible rfl))
  simp only [Zp, Zq, Zr, Zs]
  refine WpH.vD 2 (some 17) ?_ rfl rfl (by kernel_rfl) (fun _ _ _ h => h) rfl (fun wz hwz => ?_) ?_
  rotate_left
  ·go_simp; try (with_reducible rfl)
  simp only [Zp, Zq, Zr, Zs]
  refine WpH.vD 3 (some 18) ?_ rfl rfl (by kernel_rfl) (fun _ _ _ h => h) rfl (fun wz hwz => ?_) ?_
  rotate_left
  ·go_simp; try (with_reducible rfl)
  simp only [Zp, Zq, Zr, Zs]
  refine WpH.vD 4 (some 19) ?_ rfl rfl (by kernel_rfl) (fun _ _ _ h => h) rfl (fun wz hwz => ?_) ?_
  rotate_left
  ·go_simp; try (with_reducible rfl)
  simp only [Zp, Zq, Zr, Zs]
  refine WpH.vD 5 (some 20) ?_ rfl rfl (by kernel_rfl) (fun _ _ _ h => h) rfl (fun wz hwz => ?_) ?_
  rotate_left
  ·go_simp; try (with_reducible rfl)
  simp only [Zp, Zq, Zr, Zs]
  refine WpH.vD 6 (some 21) ?_ rfl rfl (by kernel_rfl) (fun _ _ _ h => h) rfl (fun wz hwz => ?_) ?_
  rotate_left
  ·(obtain ⟨hcz, hfz⟩ := bcell hwz; go_simp; try (with_reducible rfl))
  simp only [Zp, Zq, Zr, Zs]
  refine WpH.vD 7 (some 22) ?_ rfl rfl (by kernel_rfl) (fun _ _ _ h => h) rfl (fun wz hwz => ?_) ?_
  rotate_left
  ·go_simp; try (with_reducible rfl)
  simp only [Zp, Zq, Zr, Zs]
  refine WpH.vD 8 (some 23) ?_ rfl rfl (by kernel_rfl) (fun _ _ _ h => h) rfl (fun wz hwz => ?_) ?_
  rotate_left
  ·go_simp; try (with_reducible rfl)
  simp only [Zp, Zq, Zr, Zs]
  refine WpH.vD 9 (some 24) ?_ rfl rfl (by kernel_rfl) (fun _ _ _ h => h) rfl (fun wz hwz => ?_) ?_
  rotate_left
  ·go_simp; try (with_reducible rfl)
  simp only [Zp, Zq, Zr, Zs]
  refine WpH.vD 10 (some 4) ?_ rfl rfl (by kernel_rfl) (fun _ _ _ h => h) rfl (fun wz hwz => ?_) ?_
  rotate_left
  ·go_simp; try (with_reducible rfl)
  simp only [Zp, Zq, Zr, Zs]
  refine WpH.doneB (by kernel_rfl) (fun w2 hw2 => ?_)
  (try simp only [List.drop_succ_cons]); (try simp only [List.drop_zero]); (try simp only [Nat.reduceSub]); (try simp only [List.take_succ_cons]); (try simp only [List.take_zero])
  clear s0 s1 s2 s3 s4 s5 s6 s7 s8 s9 s10 s11 s12 r0 r1 r2 r3 r4 r5 r6 r7 r8 r9 r10 r11 r12 v0 v1 v2 v3 v4 v5 v6 v7 v8 v9 v10 v11 v12
  replace hbw := bl_call hbw (Nat.le_refl _) hw2
  replace hs := hs.call hw2
  replace hr := hr.call hw2
  replace hv := hv.call hw2
  obtain ⟨⟨s0, s1, s2, s3, s4, s5⟩, ⟨s6, s7, s8, s9, s10, s11⟩, s12⟩ := hs.get6
  obtain ⟨⟨r0, r1, r2, r3, r4, r5⟩, ⟨r6, r7, r8, r9, r10, r11⟩, r12⟩ := hr.get6
  obtain ⟨⟨v0, v1, v2, v3, v4, v5⟩, ⟨v6, v7, v8, v9, v10, v11⟩, v12⟩ := hv.get6
  go_wp2
  have hvv := hv.put 2 (by simp) (.int .i64 B)
  have hrr := hr.far (p := ⟨w.heap.size + 1 + 1, 2, none⟩) (by simp) (.int .i64 B)
  have hbw2 := bl_set (p := ⟨w.heap.size + 1 + 1, 2, none⟩) hbw (by simp; omega) (.int .i64 B)
  have hres := Vs.set6 hrr (.int .u8 2) (.int .u8 F) (.int .i64 B) (.int .i64 0) (.int .i64 0) (.int .i64 0)
  have hble : w.heap.size ≤ w.heap.size + 1 := by omega
  have hbr := bl_set (p := ⟨w.heap.size + 1, 5, none⟩) (bl_set (p := ⟨w.heap.size + 1, 4, none⟩) (bl_set (p := ⟨w.heap.size + 1, 3, none⟩) (bl_set (p := ⟨w.heap.size + 1, 2, none⟩) (bl_set (p := ⟨w.heap.size + 1, 1, none⟩) (bl_set (p := ⟨w.heap.size + 1, 0, none⟩) hbw2 hble (.int .u8 2)) hble (.int .u8 F)) hble (.int .i64 B)) hble (.int .i64 0)) hble (.int .i64 0)) hble (.int .i64 0)
  exact bodyPost_ret (results_cir hres rfl rfl) rfl ⟨rfl, hbr⟩
 ·obtain ⟨L3, hL3, h31, h33⟩ : ∃ L3 : Nat, 1 + (L : Int) % 3 = (L3 : Int) ∧ 1 ≤ L3 ∧ L3 ≤ 3 := ⟨(1 + (L : Int) % 3).toNat, by omega, by omega, by omega⟩
  have hL3' : (L : Int) % 3 + 1 = (L3 : Int) := by omega
  refine ⟨F, .vec B L3 C, hF, CK.small_of ⟨⟨hB1, by omega⟩, ⟨h31, by omega⟩, ⟨hC1, by omega⟩⟩ (Nat.le_trans (mul_small h33 hB4) (by omega)), hF0, fun h => absurd h (by omega), fun w => ?_⟩
  rw [val_vec]
  go_enter Try.func52, Try.ntmps52
  go_upto_region 2 with fail
  have hs := ((Vs.new w [.int .u8 k, .int .u8 f, .int .u8 b, .int .u8 l, .int .u8 m, .int .u8 c] #[.int .u8 k, .int .u8 f, .int .u8 b, .int .u8 l, .int .u8 m, .int .u8 c] 64 rfl).alloc (.cells #[.int .u8 0, .int .u8 0, .int .i64 0, .int .i64 0, .int .i64 0, .int .i64 0] 60)).alloc (.cells #[.int .u8 3, .int .u8 F, .int .i64 0, .int .i64 0, .int .i64 0, .int .i64 0] 60)
  have hr := (Vs.new (w.alloc (.cells #[.int .u8 k, .int .u8 f, .int .u8 b, .int .u8 l, .int .u8 m, .int .u8 c] 64)) [.int .u8 0, .int .u8 0, .int .i64 0, .int .i64 0, .int .i64 0, .int .i64 0] #[.int .u8 0, .int .u8 0, .int .i64 0, .int .i64 0, .int .i64 0, .int .i64 0] 60 rfl).alloc (.cells #[.int .u8 3, .int .u8 F, .int .i64 0, .int .i64 0, .int .i64 0, .int .i64 0] 60)
  have hv := Vs.new ((w.alloc (.cells #[.int .u8 k, .int .u8 f, .int .u8 b, .int .u8 l, .int .u8 m, .int .u8 c] 64)).alloc (.cells #[.int .u8 0, .int .u8 0, .int .i64 0, .int .i64 0, .int .i64 0, .int .i64 0] 60)) [.int .u8 3, .int .u8 F, .int .i64 0, .int .i64 0, .int .i64 0, .int .i64 0] #[.int .u8 3, .int .u8 F, .int .i64 0, .int .i64 0, .int .i64 0, .int .i64 0] 60 rfl
  simp only [World.size_alloc] at hr hv
  have hbw : Below w.heap.size w (((w.alloc (.cells #[.int .u8 k, .int .u8 f, .int .u8 b, .int .u8 l, .int .u8 m, .int .u8 c] 64)).alloc (.cells #[.int .u8 0, .int .u8 0, .int .i64 0, .int .i64 0, .int .i64 0, .int .i64 0] 60)).alloc (.cells #[.int .u8 3, .int .u8 F, .int .i64 0, .int .i64 0, .int .i64 0, .int .i64 0] 60)) := by repeat (first | exact bA | with_reducible assumption | apply bB | (refine bC ?_ (by dsimp only; omega)) | apply bD | apply bE | (refine bF ?_ (by assumption)))
  generalize ((w.alloc (.cells #[.int .u8 k, .int .u8 f, .int .u8 b, .int .u8 l, .int .u8 m, .int .u8 c] 64)).alloc (.cells #[.int .u8 0, .int .u8 0, .int .i64 0, .int .i64 0, .int .i64 0, .int .i64 0] 60)).alloc (.cells #[.int .u8 3, .int .u8 F, .int .i64 0, .int .i64 0, .int .i64 0, .int .i64 0] 60) = w1 at hs hr hv hbw ⊢
  obtain ⟨⟨s0, s1, s2, s3, s4, s5⟩, ⟨s6, s7, s8, s9, s10, s11⟩, s12⟩ := hs.get6
  obtain ⟨⟨r0, r1, r2, r3, r4, r5⟩, ⟨r6, r7, r8, r9, r10, r11⟩, r12⟩ := hr.get6
  obtain ⟨⟨v0, v1, v2, v3, v4, v5⟩, ⟨v6, v7, v8, v9, v10, v11⟩, v12⟩ := hv.get6
  refine region_B (n := 11) (m := 12) (f := 11) (by kernel_rfl) (by kernel_rfl) rfl ?_
  refine WpH.vD 0 (some 15) ?_ rfl rfl (by kernel_rfl) (fun _ _ _ h => h) rfl (fun wz hwz => ?_) ?_
  rotate_left
  ·go_simp; try (with_reducible rfl)
  simp only [Zp, Zq, Zr, Zs]
  refine WpH.vD 1 (some 16) ?_ rfl rfl (by kernel_rfl) (fun _ _ _ h => h) rfl (fun wz hwz => ?_) ?_
  rotate_left
  ·(obtain ⟨hcz, hfz⟩ := bcell hwz; go_simp; try (with_reducible rfl))
  simp only [Zp, Zq, Zr, Zs]
  refine WpH.vD 2 (some 17) ?_ rfl rfl (by kernel_rfl) (fun _ _ _ h => h) rfl (fun wz hwz => ?_) ?_
  rotate_left
  ·go_simp; try (with_reducible rfl)
  simp only [Zp, Zq, Zr, Zs]
  refine WpH.vD 3 (some 18) ?_ rfl rfl (by kernel_rfl) (fun _ _ _ h => h) rfl (fun wz hwz => ?_) ?_
  rotate_left
  ·go_simp; try (with_reducible rfl)
  simp only [Zp, Zq, Zr, Zs]
  refine WpH.vD 4 (some 19) ?_ rfl rfl (by kernel_rfl) (fun _ _ _ h => h) rfl (fun wz hwz => ?_) ?_
  rotate_left
  ·go_simp; try (with_reducible rfl)
  simp only [Zp, Zq, Zr, Zs]
  refine WpH.vD 5 (some 20) ?_ rfl rfl (by kernel_rfl) (fun _ _ _ h => h) rfl (fun wz hwz => ?_) ?_
  rotate_left
  ·go_simp; try (with_reducible rfl)
  simp only [Zp, Zq, Zr, Zs]
  refine WpH.vD 6 (some 21) ?_ rfl rfl (by kernel_rfl) (fun _ _ _ h => h) rfl (fun wz hwz => ?_) ?_
  rotate_left
  ·(obtain ⟨hcz, hfz⟩ := bcell hwz; go_simp; try (with_reducible rfl))
  simp only [Zp, Zq, Zr, Zs]
  refine WpH.vD 7 (some 22) ?_ rfl rfl (by kernel_rfl) (fun _ _ _ h => h) rfl (fun wz hwz => ?_) ?_
  rotate_left
  ·go_simp; try (with_reducible rfl)
  simp only [Zp, Zq, Zr, Zs]
  refine WpH.vD 8 (some 23) ?_ rfl rfl (by kernel_rfl) (fun _ _ _ h => h) rfl (fun wz hwz => ?_) ?_
  rotate_left
  ·go_simp; try (with_reducible rfl)
  simp only [Zp, Zq, Zr, Zs]
  refine WpH.vD 9 (some 24) ?_ rfl rfl (by kernel_rfl) (fun _ _ _ h => h) rfl (fun wz hwz => ?_) ?_
  rotate_left
  ·go_simp; try (with_reducible rfl)
  simp only [Zp, Zq, Zr, Zs]
  refine WpH.vD 10 (some 4) ?_ rfl rfl (by kernel_rfl) (fun _ _ _ h => h) rfl (fun wz hwz => ?_) ?_
  rotate_left
  ·go_simp; try (with_reducible rfl)
  simp only [Zp, Zq, Zr, Zs]
  refine WpH.doneB (by kernel_rfl) (fun w2 hw2 => ?_)
  (try simp only [List.drop_succ_cons]); (try simp only [List.drop_zero]); (try simp only [Nat.reduceSub]); (try simp only [List.take_succ_cons]); (try simp only [List.take_zero])
  clear s0 s1 s2 s3 s4 s5 s6 s7 s8 s9 s10 s11 s12 r0 r1 r2 r3 r4 r5 r6 r7 r8 r9 r10 r11 r12 v0 v1 v2 v3 v4 v5 v6 v7 v8 v9 v10 v11 v12
  replace hbw := bl_call hbw (Nat.le_refl _) hw2
  replace hs := hs.call hw2
  replace hr := hr.call hw2
  replace hv := hv.call hw2
  obtain ⟨⟨s0, s1, s2, s3, s4, s5⟩, ⟨s6, s7, s8, s9, s10, s11⟩, s12⟩ := hs.get6
  obtain ⟨⟨r0, r1, r2, r3, r4, r5⟩, ⟨r6, r7, r8, r9, r10, r11⟩, r12⟩ := hr.get6
  obtain ⟨⟨v0, v1, v2, v3, v4, v5⟩, ⟨v6, v7, v8, v9, v10, v11⟩, v12⟩ := hv.get6
  go_wp2
  have hS7 : SmS w k f b l m c 3 F w2.drew := ⟨hbw.drew, hs.drew, hr.drew, _, _, _, hv.drew⟩
  obtain ⟨T, hT, hT2⟩ : ∃ T : Nat, (L : Int).tmod 3 = (T : Int) ∧ (1 : Int) + (T : Int) = (L3 : Int) := ⟨((L : Int) % 3).toNat, by rw [Int.tmod_eq_emod_of_nonneg (by omega)]; omega, by omega⟩
  obtain ⟨CT, hCT, hCT2⟩ : ∃ CT : Nat, c.tmod 4 = (CT : Int) ∧ (1 : Int) + (CT : Int) = (C : Int) := ⟨(c % 4).toNat, by rw [Int.tmod_eq_emod_of_nonneg hc0]; omega, by omega⟩
  have hwT : IntKind.i64.wrap (T : Int) = (T : Int) := IntWalk.i64_in _ (by omega)
  have hwL3 : IntKind.i64.wrap (L3 : Int) = (L3 : Int) := IntWalk.i64_in _ (by omega)
  have hwCT : IntKind.i64.wrap (CT : Int) = (CT : Int) := IntWalk.i64_in _ (by omega)
  have hwC : IntKind.i64.wrap (C : Int) = (C : Int) := IntWalk.i64_in _ (by omega)
  clear s0 s1 s2 s3 s4 s5 s6 s7 s8 s9 s10 s11 s12 r0 r1 r2 r3 r4 r5 r6 r7 r8 r9 r10 r11 r12 v0 v1 v2 v3 v4 v5 v6 v7 v8 v9 v10 v11 v12
  refine region_GS (SmS w k f b l m c 3 F) (SmS.clo w k f b l m c 3 F) hS7 (n := 13) (m := 15) (f := 13) (by kernel_rfl) (by kernel_rfl) rfl ?_
  refine WpG.vD 0 (some 33) ?_ rfl rfl (by kernel_rfl) (fun _ _ _ h => h) rfl (fun wz hwz => ?_) ?_
  rotate_left
  ·go_simp; try (with_reducible rfl)
  simp only [Zp, Zq, Zr, Zs]
  refine WpG.vD 1 (some 34) ?_ rfl rfl (by kernel_rfl) (fun _ _ _ h => h) rfl (fun wz hwz => ?_) ?_
  rotate_left
  ·go_simp; try (with_reducible rfl)
  simp only [Zp, Zq, Zr, Zs]
  refine WpG.vD 2 (some 35) ?_ rfl rfl (by kernel_rfl) (fun _ _ _ h => h) rfl (fun wz hwz => ?_) ?_
  rotate_left
  ·go_simp; try (with_reducible rfl)
  simp only [Zp, Zq, Zr, Zs]
  refine WpG.vD 3 (some 36) ?_ rfl rfl (by kernel_rfl) (fun _ _ _ h => h) rfl (fun wz hwz => ?_) ?_
  rotate_left
  ·go_simp; try (with_reducible rfl)
  simp only [Zp, Zq, Zr, Zs]
  refine WpG.vD 4 (some 37) ?_ rfl rfl (by kernel_rfl) (fun _ _ _ h => h) rfl (fun wz hwz => ?_) ?_
  rotate_left
  ·go_simp; try (with_reducible rfl)
  simp only [Zp, Zq, Zr, Zs]
  refine WpG.vD 5 (some 38) ?_ rfl rfl (by kernel_rfl) (fun _ _ _ h => h) rfl (fun wz hwz => ?_) ?_
  rotate_left
  ·(obtain ⟨_, hsz, _, _⟩ := hwz; obtain ⟨⟨s0, s1, s2, s3, s4, s5⟩, _, s12⟩ := hsz.get6; go_simp; try (with_reducible rfl))
  simp only [Zp, Zq, Zr, Zs]
  refine WpG.vD 6 (some 39) ?_ rfl rfl (by kernel_rfl) (fun _ _ _ h => h) rfl (fun wz hwz => ?_) ?_
  rotate_left
  ·go_simp; try (with_reducible rfl)
  simp only [Zp, Zq, Zr, Zs]
  refine WpG.vD 7 (some 40) ?_ rfl rfl (by kernel_rfl) (fun _ _ _ h => h) rfl (fun wz hwz => ?_) ?_
  rotate_left
  ·go_simp; try (with_reducible rfl)
  simp only [Zp, Zq, Zr, Zs]
  refine WpG.vD 8 (some 41) ?_ rfl rfl (by kernel_rfl) (fun _ _ _ h => h) rfl (fun wz hwz => ?_) ?_
  rotate_left
  ·go_simp; try (with_reducible rfl)
  simp only [Zp, Zq, Zr, Zs]
  refine WpG.vD 9 (some 42) ?_ rfl rfl (by kernel_rfl) (fun _ _ _ h => h) rfl (fun wz hwz => ?_) ?_
  rotate_left
  ·go_simp; try (with_reducible rfl)
  simp only [Zp, Zq, Zr, Zs]
  refine WpG.oneSkip 10 none rfl rfl (by kernel_rfl) (fun wz => ∃ x3 x5 : Value, Vs wz (w.heap.size + 1 + 1) [.int .u8 3, .int .u8 F, .int .i64 B, x3, .int .i64 0, x5]) (fun _ _ h hb => let ⟨y, z, hv⟩ := h; ⟨y, z, hv.call hb⟩) rfl (fun wz hwz => ?_) ?_
  ·obtain ⟨hbz, hsz, hrz, x2, x3, x5, hvz⟩ := hwz; obtain ⟨⟨v0, v1, v2, v3, v4, v5⟩, ⟨v6, v7, v8, v9, v10, v11⟩, v12⟩ := hvz.get6; exact ⟨wz.setCell ⟨w.heap.size + 1 + 1, 2, none⟩ (.int .i64 B), by go_simp; try (with_reducible rfl), ⟨bl_set hbz (by dsimp only; omega) _, hsz.far (by simp; omega) _, hrz.far (by simp) _, _, _, _, hvz.put 2 (by simp) _⟩, _, _, hvz.put 2 (by simp) _⟩
  simp only [Act.put]
  refine WpG.vD 11 (some 43) ?_ rfl rfl (by kernel_rfl) (fun _ _ _ h => h) rfl (fun wz hwz => ?_) ?_
  rotate_left
  ·go_simp; try (with_reducible rfl)
  simp only [Zp, Zq, Zr, Zs]
  refine WpG.oneSkip 12 none rfl rfl (by kernel_rfl) (fun wz => ∃ x5 : Value, Vs wz (w.heap.size + 1 + 1) [.int .u8 3, .int .u8 F, .int .i64 B, .int .i64 L3, .int .i64 0, x5]) (fun _ _ h hb => let ⟨z, hv⟩ := h; ⟨z, hv.call hb⟩) rfl (fun wz hwz => ?_) ?_
  ·obtain ⟨⟨hbz, hsz, hrz, _⟩, x3, x5, hvz⟩ := hwz; obtain ⟨⟨v0, v1, v2, v3, v4, v5⟩, ⟨v6, v7, v8, v9, v10, v11⟩, v12⟩ := hvz.get6; exact ⟨wz.setCell ⟨w.heap.size + 1 + 1, 3, none⟩ (.int .i64 L3), by go_simp; try (with_reducible rfl), ⟨⟨bl_set hbz (by dsimp only; omega) _, hsz.far (by simp; omega) _, hrz.far (by simp) _, _, _, _, hvz.put 3 (by simp) _⟩, _, _, hvz.put 3 (by simp) _⟩, _, hvz.put 3 (by simp) _⟩
  simp only [Act.put]
  refine WpG.done (by kernel_rfl) (fun w5 hS => ?_)
  (try simp only [List.drop_succ_cons]); (try simp only [List.drop_zero]); (try simp only [Nat.reduceSub]); (try simp only [List.take_succ_cons]); (try simp only [List.take_zero])
  obtain ⟨⟨⟨hb5, hs5, hr5, _⟩, _⟩, x5, hv5⟩ := hS
  have hrr := hr5.far (p := ⟨w.heap.size + 1 + 1, 5, none⟩) (by simp) (.int .i64 C)
  have hbw2 := bl_set (p := ⟨w.heap.size + 1 + 1, 5, none⟩) hb5 (by simp; omega) (.int .i64 C)
  clear hs hr hv hbw hS7 hw2
  obtain ⟨⟨v0, v1, v2, v3, v4, v5⟩, ⟨v6, v7, v8, v9, v10, v11⟩, v12⟩ := hv5.get6
  obtain ⟨⟨r0, r1, r2, r3, r4, r5⟩, ⟨r6, r7, r8, r9, r10, r11⟩, r12⟩ := hr5.get6
  go_wp2
  have hres := Vs.set6 hrr (.int .u8 3) (.int .u8 F) (.int .i64 B) (.int .i64 L3) (.int .i64 0) (.int .i64 C)
  have hble : w.heap.size ≤ w.heap.size + 1 := by omega
  have hbr := bl_set (p := ⟨w.heap.size + 1, 5, none⟩) (bl_set (p := ⟨w.heap.size + 1, 4, none⟩) (bl_set (p := ⟨w.heap.size + 1, 3, none⟩) (bl_set (p := ⟨w.heap.size + 1, 2, none⟩) (bl_set (p := ⟨w.heap.size + 1, 1, none⟩) (bl_set (p := ⟨w.heap.size + 1, 0, none⟩) hbw2 hble (.int .u8 3)) hble (.int .u8 F)) hble (.int .i64 B)) hble (.int .i64 L3)) hble (.int .i64 0)) hble (.int .i64 C)
  exact bodyPost_ret (results_cir hres rfl rfl) rfl ⟨rfl, hbr⟩
 ·refine ⟨F, .hist L C, hF, CK.small_of ⟨⟨hL1, by omega⟩, ⟨hC1, by omega⟩⟩ (by show L ≤ 12; omega), hF0, fun h => absurd h (by omega), fun w => ?_⟩
  rw [val_hist]
  go_enter Try.func52, Try.ntmps52
  go_upto_region 2 with fail
  have hs := ((Vs.new w [.int .u8 k, .int .u8 f, .int .u8 b, .int .u8 l, .int .u8 m, .int .u8 c] #[.int .u8 k, .int .u8 f, .int .u8 b, .int .u8 l, .int .u8 m, .int .u8 c] 64 rfl).alloc (.cells #[.int .u8 0, .int .u8 0, .int .i64 0, .int .i64 0, .int .i64 0, .int .i64 0] 60)).alloc (.cells #[.int .u8 4, .int .u8 F, .int .i64 0, .int .i64 0, .int .i64 0, .int .i64 0] 60)
  have hr := (Vs.new (w.alloc (.cells #[.int .u8 k, .int .u8 f, .int .u8 b, .int .u8 l, .int .u8 m, .int .u8 c] 64)) [.int .u8 0, .int .u8 0, .int .i64 0, .int .i64 0, .int .i64 0, .int .i64 0] #[.int .u8 0, .int .u8 0, .int .i64 0, .int .i64 0, .int .i64 0, .int .i64 0] 60 rfl).alloc (.cells #[.int .u8 4, .int .u8 F, .int .i64 0, .int .i64 0, .int .i64 0, .int .i64 0] 60)
  have hv := Vs.new ((w.alloc (.cells #[.int .u8 k, .int .u8 f, .int .u8 b, .int .u8 l, .int .u8 m, .int .u8 c] 64)).alloc (.cells #[.int .u8 0, .int .u8 0, .int .i64 0, .int .i64 0, .int .i64 0, .int .i64 0] 60)) [.int .u8 4, .int .u8 F, .int .i64 0, .int .i64 0, .int .i64 0, .int .i64 0] #[.int .u8 4, .int .u8 F, .int .i64 0, .int .i64 0, .int .i64 0, .int .i64 0] 60 rfl
  simp only [World.size_alloc] at hr hv
  have hbw : Below w.heap.size w (((w.alloc (.cells #[.int .u8 k, .int .u8 f, .int .u8 b, .int .u8 l, .int .u8 m, .int .u8 c] 64)).alloc (.cells #[.int .u8 0, .int .u8 0, .int .i64 0, .int .i64 0, .int .i64 0, .int .i64 0] 60)).alloc (.cells #[.int .u8 4, .int .u8 F, .int .i64 0, .int .i64 0, .int .i64 0, .int .i64 0] 60)) := by repeat (first | exact bA | with_reducible assumption | apply bB | (refine bC ?_ (by dsimp only; omega)) | apply bD | apply bE | (refine bF ?_ (by assumption)))
  generalize ((w.alloc (.cells #[.int .u8 k, .int .u8 f, .int .u8 b, .int .u8 l, .int .u8 m, .int .u8 c] 64)).alloc (.cells #[.int .u8 0, .int .u8 0, .int .i64 0, .int .i64 0, .int .i64 0, .int .i64 0] 60)).alloc (.cells #[.int .u8 4, .int .u8 F, .int .i64 0, .int .i64 0, .int .i64 0, .int .i64 0] 60) = w1 at hs hr hv hbw ⊢
  obtain ⟨⟨s0, s1, s2, s3, s4, s5⟩, ⟨s6, s7, s8, s9, s10, s11⟩, s12⟩ := hs.get6
  obtain ⟨⟨r0, r1, r2, r3, r4, r5⟩, ⟨r6, r7, r8, r9, r10, r11⟩, r12⟩ := hr.get6
  obtain ⟨⟨v0, v1, v2, v3, v4, v5⟩, ⟨v6, v7, v8, v9, v10, v11⟩, v12⟩ := hv.get6
  refine region_B (n := 11) (m := 12) (f := 11) (by kernel_rfl) (by kernel_rfl) rfl ?_
  refine WpH.vD 0 (some 15) ?_ rfl rfl (by kernel_rfl) (fun _ _ _ h => h) rfl (fun wz hwz => ?_) ?_
  rotate_left
  ·go_simp; try (with_reducible rfl)
  simp only [Zp, Zq, Zr, Zs]
  refine WpH.vD 1 (some 16) ?_ rfl rfl (by kernel_rfl) (fun _ _ _ h => h) rfl (fun wz hwz => ?_) ?_
  rotate_left
  ·(obtain ⟨hcz, hfz⟩ := bcell hwz; go_simp; try (with_reducible rfl))
  simp only [Zp, Zq, Zr, Zs]
  refine WpH.vD 2 (some 17) ?_ rfl rfl (by kernel_rfl) (fun _ _ _ h => h) rfl (fun wz hwz => ?_) ?_
  rotate_left
  ·go_simp; try (with_reducible rfl)
  simp only [Zp, Zq, Zr, Zs]
  refine WpH.vD 3 (some 18) ?_ rfl rfl (by kernel_rfl) (fun _ _ _ h => h) rfl (fun wz hwz => ?_) ?_
  rotate_left
  ·go_simp; try (with_reducible rfl)
  simp only [Zp, Zq, Zr, Zs]
  refine WpH.vD 4 (some 19) ?_ rfl rfl (by kernel_rfl) (fun _ _ _ h => h) rfl (fun wz hwz => ?_) ?_
  rotate_left
  ·go_simp; try (with_reducible rfl)
  simp only [Zp, Zq, Zr, Zs]
  refine WpH.vD 5 (some 20) ?_ rfl rfl (by kernel_rfl) (fun _ _ _ h => h) rfl (fun wz hwz => ?_) ?_
  rotate_left
  ·go_simp; try (with_reducible rfl)
  simp only [Zp, Zq, Zr, Zs]
  refine WpH.vD 6 (some 21) ?_ rfl rfl (by kernel_rfl) (fun _ _ _ h => h) rfl (fun wz hwz => ?_) ?_
  rotate_left
  ·(obtain ⟨hcz, hfz⟩ := bcell hwz; go_simp; try (with_reducible rfl))
  simp only [Zp, Zq, Zr, Zs]
  refine WpH.vD 7 (some 22) ?_ rfl rfl (by kernel_rfl) (fun _ _ _ h => h) rfl (fun wz hwz => ?_) ?_
  rotate_left
  ·go_simp; try (with_reducible rfl)
  simp only [Zp, Zq, Zr, Zs]
  refine WpH.vD 8 (some 23) ?_ rfl rfl (by kernel_rfl) (fun _ _ _ h => h) rfl (fun wz hwz => ?_) ?_
  rotate_left
  ·go_simp; try (with_reducible rfl)
  simp only [Zp, Zq, Zr, Zs]
  refine WpH.vD 9 (some 24) ?_ rfl rfl (by kernel_rfl) (fun _ _ _ h => h) rfl (fun wz hwz => ?_) ?_
  rotate_left
  ·go_simp; try (with_reducible rfl)
  simp only [Zp, Zq, Zr, Zs]
  refine WpH.vD 10 (some 4) ?_ rfl rfl (by kernel_rfl) (fun _ _ _ h => h) rfl (fun wz hwz => ?_) ?_
  rotate_left
  ·go_simp; try (with_reducible rfl)
  simp only [Zp, Zq, Zr, Zs]
  refine WpH.doneB (by kernel_rfl) (fun w2 hw2 => ?_)
  (try simp only [List.drop_succ_cons]); (try simp only [List.drop_zero]); (try simp only [Nat.reduceSub]); (try simp only [List.take_succ_cons]); (try simp only [List.take_zero])
  clear s0 s1 s2 s3 s4 s5 s6 s7 s8 s9 s10 s11 s12 r0 r1 r2 r3 r4 r5 r6 r7 r8 r9 r10 r11 r12 v0 v1 v2 v3 v4 v5 v6 v7 v8 v9 v10 v11 v12
  replace hbw := bl_call hbw (Nat.le_refl _) hw2
  replace hs := hs.call hw2
  replace hr := hr.call hw2
  replace hv := hv.call hw2
  obtain ⟨⟨s0, s1, s2, s3, s4, s5⟩, ⟨s6, s7, s8, s9, s10, s11⟩, s12⟩ := hs.get6
  obtain ⟨⟨r0, r1, r2, r3, r4, r5⟩, ⟨r6, r7, r8, r9, r10, r11⟩, r12⟩ := hr.get6
  obtain ⟨⟨v0, v1, v2, v3, v4, v5⟩, ⟨v6, v7, v8, v9, v10, v11⟩, v12⟩ := hv.get6
  go_wp2
  have hS7 : SmS w k f b l m c 4 F w2.drew := ⟨hbw.drew, hs.drew, hr.drew, _, _, _, hv.drew⟩
  obtain ⟨CT, hCT, hCT2⟩ : ∃ CT : Nat, c.tmod 4 = (CT : Int) ∧ (1 : Int) + (CT : Int) = (C : Int) := ⟨(c % 4).toNat, by rw [Int.tmod_eq_emod_of_nonneg hc0]; omega, by omega⟩
  have hwCT : IntKind.i64.wrap (CT : Int) = (CT : Int) := IntWalk.i64_in _ (by omega)
  have hwC : IntKind.i64.wrap (C : Int) = (C : Int) := IntWalk.i64_in _ (by omega)
  have hSH : Clo (fun wz => SmS w k f b l m c 4 F wz ∧ ∃ x3 x5 : Value, Vs wz (w.heap.size + 1 + 1) [.int .u8 4, .int .u8 F, .int .i64 0, x3, .int .i64 0, x5]) := (SmS.clo w k f b l m c 4 F).and fun _ _ h hb => let ⟨y, z, hv⟩ := h; ⟨y, z, hv.call hb⟩
  have hS8 : SmS w k f b l m c 4 F w2.drew ∧ ∃ x3 x5 : Value, Vs w2.drew (w.heap.size + 1 + 1) [.int .u8 4, .int .u8 F, .int .i64 0, x3, .int .i64 0, x5] := ⟨hS7, _, _, hv.drew⟩
  clear s0 s1 s2 s3 s4 s5 s6 s7 s8 s9 s10 s11 s12 r0 r1 r2 r3 r4 r5 r6 r7 r8 r9 r10 r11 r12 v0 v1 v2 v3 v4 v5 v6 v7 v8 v9 v10 v11 v12
  refine region_GS _ hSH hS8 (n := 8) (m := 10) (f := 8) (by kernel_rfl) (by kernel_rfl) rfl ?_
  refine WpG.vD 0 (some 47) ?_ rfl rfl (by kernel_rfl) (fun _ _ _ h => h) rfl (fun wz hwz => ?_) ?_
  rotate_left
  ·go_simp; try (with_reducible rfl)
  simp only [Zp, Zq, Zr, Zs]
  refine WpG.vD 1 (some 48) ?_ rfl rfl (by kernel_rfl) (fun _ _ _ h => h) rfl (fun wz hwz => ?_) ?_
  rotate_left
  ·go_simp; try (with_reducible rfl)
  simp only [Zp, Zq, Zr, Zs]
  refine WpG.vD 2 (some 49) ?_ rfl rfl (by kernel_rfl) (fun _ _ _ h => h) rfl (fun wz hwz => ?_) ?_
  rotate_left
  ·(obtain ⟨⟨_, hsz, _, _⟩, _⟩ := hwz; obtain ⟨⟨s0, s1, s2, s3, s4, s5⟩, _, s12⟩ := hsz.get6; go_simp; try (with_reducible rfl))
  simp only [Zp, Zq, Zr, Zs]
  refine WpG.vD 3 (some 50) ?_ rfl rfl (by kernel_rfl) (fun _ _ _ h => h) rfl (fun wz hwz => ?_) ?_
  rotate_left
  ·go_simp; try (with_reducible rfl)
  simp only [Zp, Zq, Zr, Zs]
  refine WpG.vD 4 (some 51) ?_ rfl rfl (by kernel_rfl) (fun _ _ _ h => h) rfl (fun wz hwz => ?_) ?_
  rotate_left
  ·go_simp; try (with_reducible rfl)
  simp only [Zp, Zq, Zr, Zs]
  refine WpG.vD 5 (some 52) ?_ rfl rfl (by kernel_rfl) (fun _ _ _ h => h) rfl (fun wz hwz => ?_) ?_
  rotate_left
  ·go_simp; try (with_reducible rfl)
  simp only [Zp, Zq, Zr, Zs]
  refine WpG.vD 6 (some 53) ?_ rfl rfl (by kernel_rfl) (fun _ _ _ h => h) rfl (fun wz hwz => ?_) ?_
  rotate_left
  ·go_simp; try (with_reducible rfl)
  simp only [Zp, Zq, Zr, Zs]
  refine WpG.oneSkip 7 none rfl rfl (by kernel_rfl) (fun wz => ∃ x5 : Value, Vs wz (w.heap.size + 1 + 1) [.int .u8 4, .int .u8 F, .int .i64 0, .int .i64 L, .int .i64 0, x5]) (fun _ _ h hb => let ⟨z, hv⟩ := h; ⟨z, hv.call hb⟩) rfl (fun wz hwz => ?_) ?_
  ·obtain ⟨⟨hbz, hsz, hrz, _⟩, x3, x5, hvz⟩ := hwz; obtain ⟨⟨v0, v1, v2, v3, v4, v5⟩, ⟨v6, v7, v8, v9, v10, v11⟩, v12⟩ := hvz.get6; exact ⟨wz.setCell ⟨w.heap.size + 1 + 1, 3, none⟩ (.int .i64 L), by go_simp; try (with_reducible rfl), ⟨⟨bl_set hbz (by dsimp only; omega) _, hsz.far (by simp; omega) _, hrz.far (by simp) _, _, _, _, hvz.put 3 (by simp) _⟩, _, _, hvz.put 3 (by simp) _⟩, _, hvz.put 3 (by simp) _⟩
  simp only [Act.put]
  refine WpG.done (by kernel_rfl) (fun w5 hS => ?_)
  (try simp only [List.drop_succ_cons]); (try simp only [List.drop_zero]); (try simp only [Nat.reduceSub]); (try simp only [List.take_succ_cons]); (try simp only [List.take_zero])
  obtain ⟨⟨⟨hb5, hs5, hr5, _⟩, _⟩, x5, hv5⟩ := hS
  have hrr := hr5.far (p := ⟨w.heap.size + 1 + 1, 5, none⟩) (by simp) (.int .i64 C)
  have hbw2 := bl_set (p := ⟨w.heap.size + 1 + 1, 5, none⟩) hb5 (by simp; omega) (.int .i64 C)
  clear hs hr hv hbw hS7 hw2
  obtain ⟨⟨v0, v1, v2, v3, v4, v5⟩, ⟨v6, v7, v8, v9, v10, v11⟩, v12⟩ := hv5.get6
  obtain ⟨⟨r0, r1, r2, r3, r4, r5⟩, ⟨r6, r7, r8, r9, r10, r11⟩, r12⟩ := hr5.get6
  go_wp2
  have hres := Vs.set6 hrr (.int .u8 4) (.int .u8 F) (.int .i64 0) (.int .i64 L) (.int .i64 0) (.int .i64 C)
  have hble : w.heap.size ≤ w.heap.size + 1 := by omega
  have hbr := bl_set (p := ⟨w.heap.size + 1, 5, none⟩) (bl_set (p := ⟨w.heap.size + 1, 4, none⟩) (bl_set (p := ⟨w.heap.size + 1, 3, none⟩) (bl_set (p := ⟨w.heap.size + 1, 2, none⟩) (bl_set (p := ⟨w.heap.size + 1, 1, none⟩) (bl_set (p := ⟨w.heap.size + 1, 0, none⟩) hbw2 hble (.int .u8 4)) hble (.int .u8 F)) hble (.int .i64 0)) hble (.int .i64 L)) hble (.int .i64 0)) hble (.int .i64 C)
  exact bodyPost_ret (results_cir hres rfl rfl) rfl ⟨rfl, hbr⟩
 ·have hmod : 0 ≤ m % (L : Int) ∧ m % (L : Int) < (L : Int) := ⟨Int.emod_nonneg _ (by omega), Int.emod_lt_of_pos _ (by omega)⟩
  obtain ⟨M, hM, hM1, hML⟩ : ∃ M : Nat, 1 + m % (L : Int) = (M : Int) ∧ 1 ≤ M ∧ M ≤ L := ⟨(1 + m % (L : Int)).toNat, by omega, by omega, by omega⟩
  have hM' : m % (L : Int) + 1 = (M : Int) := by omega
  have hb3 := bitLen_5 M (by omega)
  refine ⟨F, .multi L M C, hF, CK.small_of ⟨⟨hL1, by omega⟩, ⟨hM1, hML⟩, ⟨hC1, by omega⟩⟩ (by show L + Lib.bitLen M ≤ 12; omega), hF0, fun h => absurd h (by omega), fun w => ?_⟩
  have hL0 : ¬ (L = 0) := by omega
  rw [val_multi]
  clear hb3
  go_enter Try.func52, Try.ntmps52
  go_upto_region 2 with fail
  have hs := ((Vs.new w [.int .u8 k, .int .u8 f, .int .u8 b, .int .u8 l, .int .u8 m, .int .u8 c] #[.int .u8 k, .int .u8 f, .int .u8 b, .int .u8 l, .int .u8 m, .int .u8 c] 64 rfl).alloc (.cells #[.int .u8 0, .int .u8 0, .int .i64 0, .int .i64 0, .int .i64 0, .int .i64 0] 60)).alloc (.cells #[.int .u8 5, .int .u8 F, .int .i64 0, .int .i64 0, .int .i64 0, .int .i64 0] 60)
  have hr := (Vs.new (w.alloc (.cells #[.int .u8 k, .int .u8 f, .int .u8 b, .int .u8 l, .int .u8 m, .int .u8 c] 64)) [.int .u8 0, .int .u8 0, .int .i64 0, .int .i64 0, .int .i64 0, .int .i64 0] #[.int .u8 0, .int .u8 0, .int .i64 0, .int .i64 0, .int .i64 0, .int .i64 0] 60 rfl).alloc (.cells #[.int .u8 5, .int .u8 F, .int .i64 0, .int .i64 0, .int .i64 0, .int .i64 0] 60)
  have hv := Vs.new ((w.alloc (.cells #[.int .u8 k, .int .u8 f, .int .u8 b, .int .u8 l, .int .u8 m, .int .u8 c] 64)).alloc (.cells #[.int .u8 0, .int .u8 0, .int .i64 0, .int .i64 0, .int .i64 0, .int .i64 0] 60)) [.int .u8 5, .int .u8 F, .int .i64 0, .int .i64 0, .int .i64 0, .int .i64 0] #[.int .u8 5, .int .u8 F, .int .i64 0, .int .i64 0, .int .i64 0, .int .i64 0] 60 rfl
  simp only [World.size_alloc] at hr hv
  have hbw : Below w.heap.size w (((w.alloc (.cells #[.int .u8 k, .int .u8 f, .int .u8 b, .int .u8 l, .int .u8 m, .int .u8 c] 64)).alloc (.cells #[.int .u8 0, .int .u8 0, .int .i64 0, .int .i64 0, .int .i64 0, .int .i64 0] 60)).alloc (.cells #[.int .u8 5, .int .u8 F, .int .i64 0, .int .i64 0, .int .i64 0, .int .i64 0] 60)) := by repeat (first | exact bA | with_reducible assumption | apply bB | (refine bC ?_ (by dsimp only; omega)) | apply bD | apply bE | (refine bF ?_ (by assumption)))
  generalize ((w.alloc (.cells #[.int .u8 k, .int .u8 f, .int .u8 b, .int .u8 l, .int .u8 m, .int .u8 c] 64)).alloc (.cells #[.int .u8 0, .int .u8 0, .int .i64 0, .int .i64 0, .int .i64 0, .int .i64 0] 60)).alloc (.cells #[.int .u8 5, .int .u8 F, .int .i64 0, .int .i64 0, .int .i64 0, .int .i64 0] 60) = w1 at hs hr hv hbw ⊢
  obtain ⟨⟨s0, s1, s2, s3, s4, s5⟩, ⟨s6, s7, s8, s9, s10, s11⟩, s12⟩ := hs.get6
  obtain ⟨⟨r0, r1, r2, r3, r4, r5⟩, ⟨r6, r7, r8, r9, r10, r11⟩, r12⟩ := hr.get6
  obtain ⟨⟨v0, v1, v2, v3, v4, v5⟩, ⟨v6, v7, v8, v9, v10, v11⟩, v12⟩ := hv.get6
  refine region_B (n := 11) (m := 12) (f := 11) (by kernel_rfl) (by kernel_rfl) rfl ?_
  refine WpH.vD 0 (some 15) ?_ rfl rfl (by kernel_rfl) (fun _ _ _ h => h) rfl (fun wz hwz => ?_) ?_
  rotate_left
  ·go_simp; try (with_reducible rfl)
  simp only [Zp, Zq, Zr, Zs]
  refine WpH.vD 1 (some 16) ?_ rfl rfl (by kernel_rfl) (fun _ _ _ h => h) rfl (fun wz hwz => ?_) ?_
  rotate_left
  ·(obtain ⟨hcz, hfz⟩ := bcell hwz; go_simp; try (with_reducible rfl))
  simp only [Zp, Zq, Zr, Zs]
  refine WpH.vD 2 (some 17) ?_ rfl rfl (by kernel_rfl) (fun _ _ _ h => h) rfl (fun wz hwz => ?_) ?_
  rotate_left
  ·go_simp; try (with_reducible rfl)
  simp only [Zp, Zq, Zr, Zs]
  refine WpH.vD 3 (some 18) ?_ rfl rfl (by kernel_rfl) (fun _ _ _ h => h) rfl (fun wz hwz => ?_) ?_
  rotate_left
  ·go_simp; try (with_reducible rfl)
  simp only [Zp, Zq, Zr, Zs]
  refine WpH.vD 4 (some 19) ?_ rfl rfl (by kernel_rfl) (fun _ _ _ h => h) rfl (fun wz hwz => ?_) ?_
  rotate_left
  ·go_simp; try (with_reducible rfl)
  simp only [Zp, Zq, Zr, Zs]
  refine WpH.vD 5 (some 20) ?_ rfl rfl (by kernel_rfl) (fun _ _ _ h => h) rfl (fun wz hwz => ?_) ?_
  rotate_left
  ·go_simp; try (with_reducible rfl)
  simp only [Zp, Zq, Zr, Zs]
  refine WpH.vD 6 (some 21) ?_ rfl rfl (by kernel_rfl) (fun _ _ _ h => h) rfl (fun wz hwz => ?_) ?_
  rotate_left
  ·(obtain ⟨hcz, hfz⟩ := bcell hwz; go_simp; try (with_reducible rfl))
  simp only [Zp, Zq, Zr, Zs]
  refine WpH.vD 7 (some 22) ?_ rfl rfl (by kernel_rfl) (fun _ _ _ h => h) rfl (fun wz hwz => ?_) ?_
  rotate_left
  ·go_simp; try (with_reducible rfl)
  simp only [Zp, Zq, Zr, Zs]
  refine WpH.vD 8 (some 23) ?_ rfl rfl (by kernel_rfl) (fun _ _ _ h => h) rfl (fun wz hwz => ?_) ?_
  rotate_left
  ·go_simp; try (with_reducible rfl)
  simp only [Zp, Zq, Zr, Zs]
  refine WpH.vD 9 (some 24) ?_ rfl rfl (by kernel_rfl) (fun _ _ _ h => h) rfl (fun wz hwz => ?_) ?_
  rotate_left
  ·go_simp; try (with_reducible rfl)
  simp only [Zp, Zq, Zr, Zs]
  refine WpH.vD 10 (some 4) ?_ rfl rfl (by kernel_rfl) (fun _ _ _ h => h) rfl (fun wz hwz => ?_) ?_
  rotate_left
  ·go_simp; try (with_reducible rfl)
  simp only [Zp, Zq, Zr, Zs]
  refine WpH.doneB (by kernel_rfl) (fun w2 hw2 => ?_)
  (try simp only [List.drop_succ_cons]); (try simp only [List.drop_zero]); (try simp only [Nat.reduceSub]); (try simp only [List.take_succ_cons]); (try simp only [List.take_zero])
  clear s0 s1 s2 s3 s4 s5 s6 s7 s8 s9 s10 s11 s12 r0 r1 r2 r3 r4 r5 r6 r7 r8 r9 r10 r11 r12 v0 v1 v2 v3 v4 v5 v6 v7 v8 v9 v10 v11 v12
  replace hbw := bl_call hbw (Nat.le_refl _) hw2
  replace hs := hs.call hw2
  replace hr := hr.call hw2
  replace hv := hv.call hw2
  obtain ⟨⟨s0, s1, s2, s3, s4, s5⟩, ⟨s6, s7, s8, s9, s10, s11⟩, s12⟩ := hs.get6
  obtain ⟨⟨r0, r1, r2, r3, r4, r5⟩, ⟨r6, r7, r8, r9, r10, r11⟩, r12⟩ := hr.get6
  obtain ⟨⟨v0, v1, v2, v3, v4, v5⟩, ⟨v6, v7, v8, v9, v10, v11⟩, v12⟩ := hv.get6
  go_wp2
  have hS7 : SmS w k f b l m c 5 F w2.drew := ⟨hbw.drew, hs.drew, hr.drew, _, _, _, hv.drew⟩
  obtain ⟨CT, hCT, hCT2⟩ : ∃ CT : Nat, c.tmod 4 = (CT : Int) ∧ (1 : Int) + (CT : Int) = (C : Int) := ⟨(c % 4).toNat, by rw [Int.tmod_eq_emod_of_nonneg hc0]; omega, by omega⟩
  have hwCT : IntKind.i64.wrap (CT : Int) = (CT : Int) := IntWalk.i64_in _ (by omega)
  have hwC : IntKind.i64.wrap (C : Int) = (C : Int) := IntWalk.i64_in _ (by omega)
  have hSH : Clo (fun wz => SmS w k f b l m c 5 F wz ∧ ∃ x3 x5 : Value, Vs wz (w.heap.size + 1 + 1) [.int .u8 5, .int .u8 F, .int .i64 0, x3, .int .i64 0, x5]) := (SmS.clo w k f b l m c 5 F).and fun _ _ h hb => let ⟨y, z, hv⟩ := h; ⟨y, z, hv.call hb⟩
  have hS8 : SmS w k f b l m c 5 F w2.drew ∧ ∃ x3 x5 : Value, Vs w2.drew (w.heap.size + 1 + 1) [.int .u8 5, .int .u8 F, .int .i64 0, x3, .int .i64 0, x5] := ⟨hS7, _, _, hv.drew⟩
  clear s0 s1 s2 s3 s4 s5 s6 s7 s8 s9 s10 s11 s12 r0 r1 r2 r3 r4 r5 r6 r7 r8 r9 r10 r11 r12 v0 v1 v2 v3 v4 v5 v6 v7 v8 v9 v10 v11 v12
  refine region_GS _ hSH hS8 (n := 8) (m := 10) (f := 8) (by kernel_rfl) (by kernel_rfl) rfl ?_
  refine WpG.vD 0 (some 57) ?_ rfl rfl (by kernel_rfl) (fun _ _ _ h => h) rfl (fun wz hwz => ?_) ?_
  rotate_left
  ·go_simp; try (with_reducible rfl)
  simp only [Zp, Zq, Zr, Zs]
  refine WpG.vD 1 (some 58) ?_ rfl rfl (by kernel_rfl) (fun _ _ _ h => h) rfl (fun wz hwz => ?_) ?_
  rotate_left
  ·go_simp; try (with_reducible rfl)
  simp only [Zp, Zq, Zr, Zs]
  refine WpG.vD 2 (some 59) ?_ rfl rfl (by kernel_rfl) (fun _ _ _ h => h) rfl (fun wz hwz => ?_) ?_
  rotate_left
  ·(obtain ⟨⟨_, hsz, _, _⟩, _⟩ := hwz; obtain ⟨⟨s0, s1, s2, s3, s4, s5⟩, _, s12⟩ := hsz.get6; go_simp; try (with_reducible rfl))
  simp only [Zp, Zq, Zr, Zs]
  refine WpG.vD 3 (some 60) ?_ rfl rfl (by kernel_rfl) (fun _ _ _ h => h) rfl (fun wz hwz => ?_) ?_
  rotate_left
  ·go_simp; try (with_reducible rfl)
  simp only [Zp, Zq, Zr, Zs]
  refine WpG.vD 4 (some 61) ?_ rfl rfl (by kernel_rfl) (fun _ _ _ h => h) rfl (fun wz hwz => ?_) ?_
  rotate_left
  ·go_simp; try (with_reducible rfl)
  simp only [Zp, Zq, Zr, Zs]
  refine WpG.vD 5 (some 62) ?_ rfl rfl (by kernel_rfl) (fun _ _ _ h => h) rfl (fun wz hwz => ?_) ?_
  rotate_left
  ·go_simp; try (with_reducible rfl)
  simp only [Zp, Zq, Zr, Zs]
  refine WpG.vD 6 (some 63) ?_ rfl rfl (by kernel_rfl) (fun _ _ _ h => h) rfl (fun wz hwz => ?_) ?_
  rotate_left
  ·go_simp; try (with_reducible rfl)
  simp only [Zp, Zq, Zr, Zs]
  refine WpG.oneSkip 7 none rfl rfl (by kernel_rfl) (fun wz => ∃ x5 : Value, Vs wz (w.heap.size + 1 + 1) [.int .u8 5, .int .u8 F, .int .i64 0, .int .i64 L, .int .i64 0, x5]) (fun _ _ h hb => let ⟨z, hv⟩ := h; ⟨z, hv.call hb⟩) rfl (fun wz hwz => ?_) ?_
  ·obtain ⟨⟨hbz, hsz, hrz, _⟩, x3, x5, hvz⟩ := hwz; obtain ⟨⟨v0, v1, v2, v3, v4, v5⟩, ⟨v6, v7, v8, v9, v10, v11⟩, v12⟩ := hvz.get6; exact ⟨wz.setCell ⟨w.heap.size + 1 + 1, 3, none⟩ (.int .i64 L), by go_simp; try (with_reducible rfl), ⟨⟨bl_set hbz (by dsimp only; omega) _, hsz.far (by simp; omega) _, hrz.far (by simp) _, _, _, _, hvz.put 3 (by simp) _⟩, _, _, hvz.put 3 (by simp) _⟩, _, hvz.put 3 (by simp) _⟩
  simp only [Act.put]
  refine WpG.done (by kernel_rfl) (fun w5 hS => ?_)
  (try simp only [List.drop_succ_cons]); (try simp only [List.drop_zero]); (try simp only [Nat.reduceSub]); (try simp only [List.take_succ_cons]); (try simp only [List.take_zero])
  obtain ⟨⟨⟨hb5, hs5, hr5, _⟩, _⟩, x5, hv5⟩ := hS
  have hrr := (hr5.far (p := ⟨w.heap.size + 1 + 1, 5, none⟩) (by simp) (.int .i64 C)).far (p := ⟨w.heap.size + 1 + 1, 4, none⟩) (by simp) (.int .i64 M)
  have hbw2 := bl_set (p := ⟨w.heap.size + 1 + 1, 4, none⟩) (bl_set (p := ⟨w.heap.size + 1 + 1, 5, none⟩) hb5 (by simp; omega) (.int .i64 C)) (by simp; omega) (.int .i64 M)
  clear hs hr hv hbw hS7 hw2 hS8
  obtain ⟨⟨v0, v1, v2, v3, v4, v5⟩, ⟨v6, v7, v8, v9, v10, v11⟩, v12⟩ := hv5.get6
  obtain ⟨⟨r0, r1, r2, r3, r4, r5⟩, ⟨r6, r7, r8, r9, r10, r11⟩, r12⟩ := hr5.get6
  obtain ⟨⟨s0, s1, s2, s3, s4, s5⟩, ⟨s6, s7, s8, s9, s10, s11⟩, s12⟩ := hs5.get6
  go_wp2
  have hres := Vs.set6 hrr (.int .u8 5) (.int .u8 F) (.int .i64 0) (.int .i64 L) (.int .i64 M) (.int .i64 C)
  have hble : w.heap.size ≤ w.heap.size + 1 := by omega
  have hbr := bl_set (p := ⟨w.heap.size + 1, 5, none⟩) (bl_set (p := ⟨w.heap.size + 1, 4, none⟩) (bl_set (p := ⟨w.heap.size + 1, 3, none⟩) (bl_set (p := ⟨w.heap.size + 1, 2, none⟩) (bl_set (p := ⟨w.heap.size + 1, 1, none⟩) (bl_set (p := ⟨w.heap.size + 1, 0, none⟩) hbw2 hble (.int .u8 5)) hble (.int .u8 F)) hble (.int .i64 0)) hble (.int .i64 L)) hble (.int .i64 M)) hble (.int .i64 C)
  exact bodyPost_ret (results_cir hres rfl rfl) rfl ⟨rfl, hbr⟩

end Go.Proofs.Ytbakkmfjamcbfaa
