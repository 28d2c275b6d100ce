/-
  WALKS: field.Sum; circuit.number; the reference's Number.
-/
/-
  SLICES OF NUMBERS OF 64 BITS: what a slice value reads as; an argument opened; 'append' onto one that the call owns.
-/
/-
  WALK: circuit.bitsOf.
-/
/-
  WALK: circuit.Encode of a Multihot.
-/
import Derived.Test.YtfhmineolncefaaDoorMaj
import Derived.Test.YtfhmineolncefaaDoorMag
import Derived.Test.YtfhmineolncefaaDoorMah
import Derived.Test.YtfhmineolncefaaDoorMaf
import Derived.Test.YtfhmineolncefaaDoorMai
import Derived.Laws.Bits64b
import Derived.Test.YtfhmineolncefaaDoorMak
namespace Go.Proofs.YtfhmineolncefaaDoor
open Go.RowKit Fm
set_option linter.unusedVariables false
set_option maxRecDepth 100000

/-- a number as an element -/
def nK (f : Nat) (n : Nat) : Fin (Pm f) := kL f (n : Int) 0
theorem nK_kI (f n : Nat) : nK f n = kI (Pm f) (n : Int) := by
  unfold nK
  rw [← kI_nI]
  congr 1
  unfold nI
  split <;> omega
theorem nK_add (f m n : Nat) : nK f (m + n) = nK f m + nK f n := by rw [nK_kI, nK_kI, nK_kI, Int.natCast_add, kI_add]
theorem nK_zero (f : Nat) : nK f 0 = 0 := kL_zero
theorem nK_one (f : Nat) : nK f 1 = 1 := kL_one

/-- the sum of elements -/
def ksum {f : Nat} (l : KL f) : Fin (Pm f) := l.foldl (· + ·) 0
theorem ksum_take {f : Nat} (l : KL f) (k : Nat) (x : Fin (Pm f)) (h : l[k]? = some x) : ksum (l.take (k + 1)) = ksum (l.take k) + x := by
  unfold ksum
  rw [List.take_add_one, h, List.foldl_append]
  rfl
/-- bits' number -/
def knum {f : Nat} (l : KL f) : Fin (Pm f) := l.foldr (fun a s => s + s + a) 0
theorem knum_drop {f : Nat} (p : KL f) (k : Nat) (a : Fin (Pm f)) (h : p[k]? = some a) : knum (p.drop k) = knum (p.drop (k + 1)) + knum (p.drop (k + 1)) + a := by
  obtain ⟨hlt, rfl⟩ := List.getElem?_eq_some_iff.1 h
  rw [List.drop_eq_getElem_cons hlt]
  rfl
/-- powers of two -/
def kpow (f : Nat) : Nat → Fin (Pm f)
  | 0 => 1
  | k + 1 => kpow f k + kpow f k
theorem knum_take {f : Nat} : ∀ (l : KL f) (k : Nat) (x : Fin (Pm f)), l[k]? = some x → knum (l.take (k + 1)) = knum (l.take k) + kpow f k * x
  | [], k, x, h => by simp at h
  | y :: l, 0, x, h => by
    obtain rfl : y = x := by simpa using h
    show (0 : Fin (Pm f)) + 0 + y = 0 + 1 * y
    grind
  | y :: l, k + 1, x, h => by
    have ih := knum_take l k x (by simpa using h)
    rw [List.take_succ_cons, List.take_succ_cons]
    show knum (l.take (k + 1)) + knum (l.take (k + 1)) + y = knum (l.take k) + knum (l.take k) + y + (kpow f k + kpow f k) * x
    rw [ih]
    grind

section
variable {f : Nat} (hf : IsF f)
include hf

set_option maxHeartbeats 4000000 in
theorem field_SumK (vl : Value) (l : KL f) (w : World) (hl : SlK w w.heap.size vl l) (hn : l.length ≤ 1099511627776) :
    Calls Tryd.prog 78 #[.int .u8 f, vl] w (RetK (ksum l) w) := by
  have HADD := Lib.hid (fun (x y : Fin (Pm f)) wz => field_AddK hf x y wz)
  obtain ⟨A, c, rfl, hc, hcm, hA⟩ := hl
  go_enter Tryd.func78, Tryd.ntmps78
  go_wp2
  go_loopw [10] (fun i wr => ∃ k : Nat, k ≤ l.length ∧ i = .int .i64 k ∧ V2 wr w.heap.size (.int .u64 0) (.int .u64 0) ∧ V2 wr (w.heap.size + 1) (.int .u64 (lo (ksum (l.take k)))) (.int .u64 (hi (ksum (l.take k)))) ∧ Below w.heap.size w wr) (fun i _ => l.length - (intOf i).toNat)
  case atStart =>
    refine ⟨0, Nat.zero_le _, rfl, (V2.new w _ _ 28).alloc _, ?_, by repeat (first | exact Below.refl _ _ | with_reducible assumption | (refine bl_alloc ?_ (Nat.le_refl _) _) | (refine bl_set ?_ (by dsimp only; omega) _) | (refine Below.drew ?_) | (refine bl_drewN ?_ _) | (refine bl_call ?_ (Nat.le_refl _) (by assumption)))⟩
    rw [List.take_zero, show ksum ([] : KL f) = 0 from rfl, lo_zero, hi_zero]
    have h := V2.new (w.alloc (.cells #[.int .u64 0, .int .u64 0] 28)) (.int .u64 0) (.int .u64 0) 28
    simpa only [World.size_alloc] using h
  case round =>
    obtain ⟨k, hk, rfl, hz, hy, hbw⟩ := hrel
    by_cases hlt : k < l.length
    · obtain ⟨b, o, rfl, hB, hr⟩ := hA (by omega)
      obtain ⟨x, he⟩ : ∃ e, l[k]? = some e := ⟨_, List.getElem?_eq_getElem hlt⟩
      obtain ⟨d0, d1⟩ := (hr.below hbw hB).kat he
      have hbl : b < wr.heap.size := Nat.lt_of_lt_of_le hB hbw.size
      have HST := Lib.hid (ksum_take l k x he)
      generalize ksum (l.take k) = s at *
      clear he hr hA
      go_upto_region 5 with fail
      have hx := V2.new wr (.int .u64 (lo x)) (.int .u64 (hi x)) 28
      have hbA : Below wr.heap.size wr (wr.alloc (.cells #[.int .u64 (lo x), .int .u64 (hi x)] 28)) := by repeat (first | exact Below.refl _ _ | with_reducible assumption | (refine bl_alloc ?_ (Nat.le_refl _) _))
      replace hbw := bl_call hbw (Nat.le_refl _) hbA
      replace hz := hz.call hbA
      replace hy := hy.call hbA
      clear hbA
      generalize wr.alloc (.cells #[.int .u64 (lo x), .int .u64 (hi x)] 28) = w1 at hbw hz hy hx ⊢
      obtain ⟨z0, z1, z2, z3, z4⟩ := V2.mk hz.c0 hz.c1 hz.f0 hz.f1 hz.lt
      obtain ⟨y0, y1, y2, y3, y4⟩ := V2.mk hy.c0 hy.c1 hy.f0 hy.f1 hy.lt
      obtain ⟨x0, x1, x2, x3, x4⟩ := V2.mk hx.c0 hx.c1 hx.f0 hx.f1 hx.lt
      have hbx : wr.heap.size < w1.heap.size := hx.lt
      go_wp2_with (first
        | (go_at_call 63; refine (HADD.out s x _).mono ?_; rintro e w2 ⟨rfl, hb2⟩; replace hbw := bl_call hbw (Nat.le_refl _) hb2; replace hz := hz.call hb2; replace hy := hy.call hb2; replace hx := hx.call hb2; obtain ⟨z0, z1, z2, z3, z4⟩ := V2.mk hz.c0 hz.c1 hz.f0 hz.f1 hz.lt; obtain ⟨y0, y1, y2, y3, y4⟩ := V2.mk hy.c0 hy.c1 hy.f0 hy.f1 hy.lt))
      go_roundw
      case rel =>
        exact ⟨k + 1, by omega, by go_num, V2.oth hz (by omega) _ _, by rw [HST.out]; exact V2.set hy _ _, by repeat (first | exact Below.refl _ _ | with_reducible assumption | (refine bl_alloc ?_ (Nat.le_refl _) _) | (refine bl_set ?_ (by dsimp only; omega) _) | (refine Below.drew ?_) | (refine bl_drewN ?_ _) | (refine bl_call ?_ (Nat.le_refl _) (by assumption)))⟩
      case measure => simp [intOf]; omega
    · obtain rfl : k = l.length := by omega
      rw [List.take_length] at hy
      obtain ⟨z0, z1, z2, z3, z4⟩ := V2.mk hz.c0 hz.c1 hz.f0 hz.f1 hz.lt
      obtain ⟨y0, y1, y2, y3, y4⟩ := V2.mk hy.c0 hy.c1 hy.f0 hy.f1 hy.lt
      go_wp2
      refine bodyPost_ret (results_v2 (b := w.heap.size) (u := .int .u64 (lo (ksum l))) (v := .int .u64 (hi (ksum l))) ?_ rfl rfl) rfl ?_
      · exact V2.set hz _ _
      · exact ⟨rfl, by repeat (first | exact Below.refl _ _ | with_reducible assumption | (refine bl_alloc ?_ (Nat.le_refl _) _) | (refine bl_set ?_ (by dsimp only; omega) _) | (refine Below.drew ?_) | (refine bl_drewN ?_ _) | (refine bl_call ?_ (Nat.le_refl _) (by assumption)))⟩

end

end Go.Proofs.YtfhmineolncefaaDoor

namespace Go.Proofs.YtfhmineolncefaaDoor
open Go.RowKit Fm Go.ChangeShapes Go.WideShapes Go.Deep
set_option linter.unusedVariables false
set_option maxRecDepth 100000

/-- the cells from ⟨b, o⟩ on hold the numbers xs -/
def RowU (w : World) (b o : Nat) (xs : List Int) : Prop := ∀ (i : Nat) (e : Int), xs[i]? = some e → w.cell? ⟨b, o + i, none⟩ = some (.int .u64 e)
def okU (e : Int) : Prop := 0 ≤ e ∧ e ≤ 18446744073709551615

/-- a slice value reads as the numbers xs; what it reads lies below block B -/
structure SlU (w : World) (B : Nat) (v : Value) (xs : List Int) : Prop where
  ex : ∃ (A : Option Addr) (c : Nat), v = .slice A xs.length c ∧ xs.length ≤ c ∧ c ≤ 9223372036854775807 ∧ (0 < xs.length → ∃ b o, A = some ⟨b, o, none⟩ ∧ b < B ∧ RowU w b o xs)
  ok : ∀ e, e ∈ xs → okU e

theorem RowU.call {w w' : World} {b o : Nat} {xs : List Int} (h : RowU w b o xs) (hb : Below w.heap.size w w') : RowU w' b o xs := fun i e hi => cell_call (h i e hi) hb
theorem RowU.below {w w' : World} {B b o : Nat} {xs : List Int} (h : RowU w b o xs) (hb : Below B w w') (hB : b < B) : RowU w' b o xs := fun i e hi => (hb.cell (p := ⟨b, o + i, none⟩) hB).trans (h i e hi)
theorem SlU.below {w w' : World} {B : Nat} {v : Value} {xs : List Int} (h : SlU w B v xs) (hb : Below B w w') : SlU w' B v xs := by
  obtain ⟨⟨A, c, hv, h1, h2, h3⟩, ok⟩ := h
  exact ⟨⟨A, c, hv, h1, h2, fun hn => let ⟨b, o, hA, hB, hr⟩ := h3 hn; ⟨b, o, hA, hB, hr.below hb hB⟩⟩, ok⟩
theorem SlU.mono {w : World} {B B' : Nat} {v : Value} {xs : List Int} (h : SlU w B v xs) (hB : B ≤ B') : SlU w B' v xs := by
  obtain ⟨⟨A, c, hv, h1, h2, h3⟩, ok⟩ := h
  exact ⟨⟨A, c, hv, h1, h2, fun hn => let ⟨b, o, hA, hb, hr⟩ := h3 hn; ⟨b, o, hA, Nat.lt_of_lt_of_le hb hB, hr⟩⟩, ok⟩
theorem SlU.later {w w' : World} {v : Value} {xs : List Int} (h : SlU w w.heap.size v xs) (hb : Below w.heap.size w w') : SlU w' w'.heap.size v xs := (h.below hb).mono hb.size
theorem SlU.nil (w : World) (B : Nat) : SlU w B (.slice none 0 0) [] := ⟨⟨none, 0, rfl, Nat.le_refl _, by simp, fun h => absurd h (by simp)⟩, fun _ h => by cases h⟩

def cellsU (xs : List Int) : List Value := xs.map (.int .u64)
theorem length_cellsU (xs : List Int) : (cellsU xs).length = xs.length := by unfold cellsU; rw [List.length_map]
theorem cellsU_at {xs : List Int} {i : Nat} {e : Int} (h : xs[i]? = some e) : (cellsU xs)[i]? = some (.int .u64 e) := by unfold cellsU; rw [List.getElem?_map, h]; rfl
theorem cellsU_append (xs ys : List Int) : cellsU (xs ++ ys) = cellsU xs ++ cellsU ys := by unfold cellsU; rw [List.map_append]

theorem infoU64 : (Tryd.prog.info? 26).map (fun i => (i.zero, i.size, i.bytes)) = some (some (.int .u64 0), 1, 8) := by kernel_rfl

theorem RowU.cells {w : World} {b o : Nat} {xs : List Int} (h : RowU w b o xs) (j : Nat) (u : Value) (hu : (cellsU xs)[j]? = some u) : w.cell? ((⟨b, o, none⟩ : Addr).add j) = some u := by
  have ha : (⟨b, o, none⟩ : Addr).add j = ⟨b, o + j, none⟩ := by
    unfold Addr.add
    split <;> simp_all
  rw [ha]
  unfold cellsU at hu
  rw [List.getElem?_map] at hu
  cases hx : xs[j]? with
  | none => rw [hx] at hu; cases hu
  | some e =>
    rw [hx] at hu
    injection hu with hu
    subst hu
    exact h j e hx

theorem oneCell_cellsU (xs : List Int) : ∀ u, u ∈ cellsU xs → u.oneCell' = true := by
  intro u h
  unfold cellsU at h
  rw [List.mem_map] at h
  obtain ⟨e, _, rfl⟩ := h
  rfl

/-- what the call owns, as a slice of numbers -/
theorem SlU.of_own {w : World} {base : Nat} {v : Value} {xs : List Int} (h : w.ownsRow base 26 1 v xs.length (cellsU xs)) (ok : ∀ e, e ∈ xs → okU e) : SlU w w.heap.size v xs := by
  rcases h.2 with ⟨rfl, h0⟩ | ⟨g, cap, cur, rfl, hb, hg, hnc, hcm, hcs, htk⟩
  · refine ⟨⟨none, 0, by rw [h0], by omega, by omega, fun hn => by omega⟩, ok⟩
  · refine ⟨⟨some ⟨g, 0, none⟩, cap, rfl, hnc, by unfold maxLen at hcm; omega, fun _ => ⟨g, 0, rfl, (Array.getElem?_eq_some_iff.1 hg).1, fun i e hi => ?_⟩⟩, ok⟩
    have f1 := h.cells (g := g) rfl i _ (cellsU_at hi)
    have ha : (⟨g, 0, none⟩ : Addr).add i = ⟨g, 0 + i, none⟩ := by
      unfold Addr.add
      split <;> simp_all
    rw [ha] at f1
    exact f1

section
variable {H : Type} {enc : TypeId × Value → H} {W : World} {base : Nat} {sp : Nat → Bool} {hd : Bool}
end

end Go.Proofs.YtfhmineolncefaaDoor

namespace Go.Proofs.YtfhmineolncefaaDoor
open Go.RowKit Fm
set_option linter.unusedVariables false
set_option maxRecDepth 100000

/-- a number's bits, the lowest first -/
def bitsL (n : Nat) : Nat → List Nat
  | 0 => []
  | q + 1 => bitsL n q ++ [n / 2 ^ q % 2]
theorem bitsL_length (n : Nat) : ∀ q, (bitsL n q).length = q
  | 0 => rfl
  | q + 1 => by rw [bitsL, List.length_append, bitsL_length n q]; rfl

/-- elements come back, in a row of the call's own -/
def RetOwn {f : Nat} (l : KL f) (w : World) (e : Ending) (w' : World) : Prop :=
  ∃ v, e = .returned v ∧ w'.ownsRow w.heap.size 28 2 v l.length (cellsE (esK l)) ∧ Below w.heap.size w w'

theorem own_sl {f : Nat} {w : World} {base : Nat} {v : Value} {n : Nat} {l : KL f} (hl : l.length = n) (h : w.ownsRow base 28 2 v n (cellsE (esK l))) : SlK w w.heap.size v l := by
  subst hl
  exact (SlE.of_own (xs := esK l) (by rw [esK_length]; exact h) (esK_ok l)).toK

theorem own_mono {w : World} {base base' : Nat} {e : TypeId} {size : Nat} {v : Value} {n : Nat} {xs : List Value} (h : w.ownsRow base e size v n xs) (hB : base' ≤ base) : w.ownsRow base' e size v n xs := by
  refine ⟨h.1, ?_⟩
  rcases h.2 with h | ⟨g, cap, cur, h1, h2, h3⟩
  · exact .inl h
  · exact .inr ⟨g, cap, cur, h1, Nat.le_trans hB h2, h3⟩

section
variable {f : Nat} (hf : IsF f)
include hf

end

end Go.Proofs.YtfhmineolncefaaDoor

namespace Go.Proofs.YtfhmineolncefaaDoor
open Go.RowKit Fm
set_option linter.unusedVariables false
set_option maxRecDepth 100000

def natsI (ms : List Nat) : List Int := ms.map fun n : Nat => (n : Int)
theorem natsI_length (ms : List Nat) : (natsI ms).length = ms.length := by unfold natsI; rw [List.length_map]
theorem natsI_at {ms : List Nat} {i n : Nat} (h : ms[i]? = some n) : (natsI ms)[i]? = some (n : Int) := by unfold natsI; rw [List.getElem?_map, h]; rfl

theorem sum_take {ms : List Nat} {k n : Nat} (h : ms[k]? = some n) : (ms.take (k + 1)).sum = (ms.take k).sum + n := by
  rw [List.take_add_one, h]
  simp
theorem all_take {ms : List Nat} {k n : Nat} {P : Nat → Prop} (h : ms[k]? = some n) (ha : ∀ x, x ∈ ms.take k → P x) (hn : P n) : ∀ x, x ∈ ms.take (k + 1) → P x := by
  intro x hx
  rw [List.take_add_one, h] at hx
  rcases List.mem_append.1 hx with h1 | h1
  · exact ha x h1
  · have : x = n := by simpa using h1
    subst this
    exact hn

/-- each is 0 or 1, so many 1 at most -/
def okMulti (m : Nat) (ms : List Nat) : Prop := (∀ x, x ∈ ms → x ≤ 1) ∧ ms.sum ≤ m
def encMulti (m : Nat) (ms : List Nat) : List Nat := ms ++ bitsL (ms.sum + offN m) (Lib.bitLen m)

/-- a vector comes back, or an error -/
def RetEnc {f : Nat} (ok : Prop) (l : KL f) (w : World) (e : Ending) (w' : World) : Prop :=
  (ok ∧ ∃ v, e = .returned (.tuple #[v, .int .i64 0]) ∧ w'.ownsRow w.heap.size 28 2 v l.length (cellsE (esK l)) ∧ Below w.heap.size w w') ∨
  (¬ ok ∧ e = .returned (.tuple #[.slice none 0 0, .int .i64 6]) ∧ Below w.heap.size w w')

theorem own_shape {w : World} {base : Nat} {e : TypeId} {size : Nat} {v : Value} {n : Nat} {xs : List Value} (h : w.ownsRow base e size v n xs) : ∃ (A : Option Addr) (cp : Nat), v = .slice A n cp := by
  rcases h.2 with ⟨hv, hn⟩ | ⟨g, cap, cur, hv, _⟩
  · subst hn
    exact ⟨_, _, hv⟩
  · exact ⟨_, _, hv⟩

section
variable {f : Nat} (hf : IsF f)
include hf

end

end Go.Proofs.YtfhmineolncefaaDoor
