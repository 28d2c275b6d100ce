/-
  WALKS: circuit.number of whatever limbs; circuit.Truncate.
-/
/-
  WALKS: slices.Clone of elements, poly.Trim, poly.Degree; the reference's Trim.
-/
/-
  PURE MATHEMATICS: what stands in a product's list while it is made, coefficient by coefficient; sums and products of trimmed polynomials.
-/
/-
  WALKS: math/bits.TrailingZeros by its table, ntt.Log; math/bits.Reverse64 of small numbers, ntt.turned.
-/
/-
  WALKS: the roots of 1: gold.Root, wide.Root, field.Root; field.Powers.
-/
/-
  THE LAW ON REGIONS THAT DRAW, its ways met again: whatever the order, the frame behind is the same function of what is made anew.
-/
import Derived.Test.YtfhmineolncefaaDoorMao
import Derived.Test.YtfhmineolncefaaDoorMag
import Derived.Test.YtfhmineolncefaaDoorMan
import Derived.Test.YtfhmineolncefaaDoorMaf
import Derived.Test.YtfhmineolncefaaDoorMab
import Derived.WalkSpells
import Derived.Test.YtfhmineolncefaaDoorMam
import Derived.Shelf.Spec.TrailingZeros
namespace Go.Proofs.YtfhmineolncefaaDoor
open Go.RowKit Fm
set_option linter.unusedVariables false
set_option maxRecDepth 100000

/-- elements, as what they stand for -/
def kEs (f : Nat) (l : List E) : KL f := l.map (kE f)
theorem kEs_length (f : Nat) (l : List E) : (kEs f l).length = l.length := List.length_map ..
theorem kEs_at {f : Nat} {l : List E} {i : Nat} {e : E} (h : l[i]? = some e) : (kEs f l)[i]? = some (kE f e) := by unfold kEs; rw [List.getElem?_map, h]; rfl
theorem kEs_esK {f : Nat} (l : KL f) : kEs f (esK l) = l := by
  unfold kEs esK
  rw [List.map_map]
  conv => rhs; rw [← List.map_id l]
  exact List.map_congr_left fun x _ => kE_eK x

section
variable {f : Nat} (hf : IsF f)
include hf

/-- what is summed of a vector: numbers of b bits each -/
def numsE (b n : Nat) (l : List E) : List E := (List.range n).map fun i => eK (knum ((kEs f l).drop (i * b) |>.take b))
omit hf in
theorem numsE_length (b n : Nat) (l : List E) : (numsE (f := f) b n l).length = n := by unfold numsE; rw [List.length_map, List.length_range]
omit hf in
theorem numsE_at (b n : Nat) (l : List E) (i : Nat) (h : i < n) : (numsE (f := f) b n l)[i]? = some (eK (knum ((kEs f l).drop (i * b) |>.take b))) := by
  unfold numsE
  rw [List.getElem?_map, List.getElem?_range h]
  rfl
omit hf in
theorem numsE_ok (b n : Nat) (l : List E) : ∀ e, e ∈ numsE (f := f) b n l → okE e := by
  intro e he
  unfold numsE at he
  obtain ⟨i, _, rfl⟩ := List.mem_map.1 he
  exact okE_eK _

/-- what of a vector is summed -/
def truncE (f : Nat) (y : CK) (l : List E) : List E :=
  match y with
  | .sum b => numsE (f := f) b 1 l
  | .vec b n _ => numsE (f := f) b n l
  | _ => l.take y.nout
def lenV : Value → Nat
  | .slice _ n _ => n
  | _ => 0
/-- a slice of elements and no error come back -/
def RetSE (zs : List E) (w : World) (e : Ending) (w' : World) : Prop := ∃ v, e = .returned (.tuple #[v, .int .i64 0]) ∧ SlE w' w'.heap.size v zs ∧ Below w.heap.size w w'

omit hf in
theorem SlE.takeN {w : World} {B : Nat} {A : Option Addr} {c : Nat} {l : List E} {n L : Nat} (h : SlE w B (.slice A L c) l) (hn : n ≤ L) : SlE w B (.slice A n c) (l.take n) := by
  obtain ⟨⟨A', c', hh, h1, h2, h3⟩, hok⟩ := h
  injection hh with e1 e2 e3
  subst e1 e2 e3
  have hl : (l.take n).length = n := by rw [List.length_take]; omega
  refine ⟨⟨A, c, by rw [hl], by omega, h2, fun h0 => ?_⟩, fun e he => hok e (List.mem_of_mem_take he)⟩
  rw [hl] at h0
  obtain ⟨b, o, hA, hB, hr⟩ := h3 (by omega)
  refine ⟨b, o, hA, hB, fun i e hi => hr i e ?_⟩
  rw [List.getElem?_take] at hi
  split at hi
  · exact hi
  · cases hi
omit hf in
theorem SlE.dropN {w : World} {B b o : Nat} {c : Nat} {l : List E} {n L : Nat} (h : SlE w B (.slice (some ⟨b, o, none⟩) L c) l) (hn : n < L) : SlE w B (.slice (some ⟨b, o + n * 2, none⟩) (L - n) (c - n)) (l.drop n) := by
  obtain ⟨⟨A', c', hh, h1, h2, h3⟩, hok⟩ := h
  injection hh with e1 e2 e3
  subst e1 e2 e3
  have hl : (l.drop n).length = l.length - n := List.length_drop
  refine ⟨⟨some ⟨b, o + n * 2, none⟩, c - n, by rw [hl], by omega, by omega, fun h0 => ?_⟩, fun e he => hok e (List.mem_of_mem_drop he)⟩
  obtain ⟨b', o', hA, hB, hr⟩ := h3 (by omega)
  injection hA with hA
  injection hA with hb ho
  subst hb
  subst ho
  refine ⟨b, o + n * 2, rfl, hB, fun i e hi => ?_⟩
  rw [List.getElem?_drop] at hi
  have h4 := hr (n + i) e hi
  rw [show o + n * 2 + i * 2 = o + (n + i) * 2 by omega]
  exact h4

omit hf in
theorem CK.nout_nin (y : CK) (hk : ¬ (y.k = 2 ∨ y.k = 3)) : y.nout ≤ y.nin := by
  cases y with
  | count => exact Nat.le_refl _
  | sum b => exact absurd (.inl rfl) hk
  | vec b l c => exact absurd (.inr rfl) hk
  | hist l c => exact Nat.le_refl _
  | multi l m c => exact Nat.le_add_right _ _

end

end Go.Proofs.YtfhmineolncefaaDoor

namespace Go.Proofs.YtfhmineolncefaaDoor
open Go.RowKit Fm
set_option linter.unusedVariables false
set_option maxRecDepth 100000

section
variable {f : Nat}

/-- a slice of elements comes back -/
def RetSq (l : KL f) (w : World) (e : Ending) (w' : World) : Prop := ∃ q : Option Addr × Nat, e = .returned (.slice q.1 l.length q.2) ∧ SlK w' w'.heap.size (.slice q.1 l.length q.2) l ∧ Below w.heap.size w w'
theorem RetOwn.sq {l : KL f} {w w' : World} {e : Ending} (h : RetOwn l w e w') : RetSq l w e w' := by
  obtain ⟨v, rfl, ho, hb⟩ := h
  obtain ⟨A, c, rfl⟩ := own_shape ho
  exact ⟨(A, c), rfl, own_sl rfl ho, hb⟩

set_option maxHeartbeats 2000000 in
theorem slices_Clone (vl : Value) (l : KL f) (w : World) (hs : SlK w w.heap.size vl l) (hn : l.length ≤ 1000000) :
    Calls Tryd.prog 74 #[vl] w (RetOwn l w) := by
  obtain ⟨A, c, rfl, hc, hcm, hA⟩ := hs
  cases A with
  | none =>
    have hl : l = [] := by
      cases l with
      | nil => rfl
      | cons a l =>
        obtain ⟨b, o, h, _⟩ := hA (by simp)
        cases h
    subst hl
    have hnil := Lib.run_eql_slice_nil (P := Tryd.prog)
    go_enter Tryd.func74, Tryd.ntmps74
    go_wp2
    go_ret
    exact ⟨_, rfl, World.ownsRow_nil _ _ _ _, Below.refl _ _⟩
  | some p =>
    have hown0 : (w.alloc (.cells #[] 28)).ownsRow w.heap.size 28 2 (.slice (some ⟨w.heap.size, 0, none⟩) 0 0) 0 (cellsE []) := World.ownsRow_made w #[] 0 (Nat.le_refl _) (by unfold maxLen; omega) rfl
    have hb1 : Below w.heap.size w (w.alloc (.cells #[] 28)) := (Below.refl _ _).alloc (Nat.le_refl _) _
    have HYR : Hid (0 < l.length → ∃ b o, (some p : Option Addr) = some ⟨b, o, none⟩ ∧ RowE (w.alloc (.cells #[] 28)) b o (esK l)) := by
      intro h
      obtain ⟨b, o, h1, h2, h3⟩ := hA h
      exact ⟨b, o, h1, h3.below hb1 h2⟩
    have hnil := Lib.run_eql_slice_nil (P := Tryd.prog)
    have HEL := Lib.hid (esK_length l)
    have HW := Lib.hid hown0
    clear hA hown0
    go_enter Tryd.func74, Tryd.ntmps74
    go_wp2_with (at_builtin; (refine wpList_append_E rfl (.tmp 5) (.tmp 6) rfl w.heap.size _ 0 [] rfl HW.out (some p) l.length c (esK l) rfl HEL.out HYR.out (by omega) (by simp) ?_; intro v2 w2 hown2 hg2 hat2; have hb2 : Below w.heap.size w w2 := hb1.trans ((Below.refl _ _).grown hg2 (by simp) (fun k hk => Nat.le_of_eq (Option.some.inj hk)))))
    go_ret
    exact ⟨_, rfl, by simpa using hown2, hb2⟩

theorem SlK.takeK {w : World} {B : Nat} {A : Option Addr} {c n : Nat} {l : KL f} (h : SlK w B (.slice A l.length c) l) (hn : n ≤ l.length) : SlK w B (.slice A n c) (l.take n) := by
  have h1 := (h.toE.takeN hn)
  rw [show (esK l).take n = esK (l.take n) by unfold esK; rw [List.map_take]] at h1
  exact h1.toK

theorem vK_eq (x y : Fin (Pm f)) : (lo x == lo y && hi x == hi y) = decide (x = y) := by
  by_cases h : x = y
  · subst h
    simp
  · rw [decide_eq_false h]
    cases h1 : (lo x == lo y) with
    | false => rfl
    | true =>
      cases h2 : (hi x == hi y) with
      | false => rfl
      | true => exact absurd (lohi_inj (by simpa using h1) (by simpa using h2)) h
theorem vK_eq0 (x : Fin (Pm f)) : (lo x == 0 && hi x == 0) = decide (x = 0) := by
  have h := vK_eq x 0
  rwa [lo_zero, hi_zero] at h

set_option maxHeartbeats 4000000 in
theorem poly_Trim (vl : Value) (l : KL f) (w : World) (hs : SlK w w.heap.size vl l) (hn : l.length ≤ 1000000) :
    Calls Tryd.prog 40 #[vl] w (RetOwn (trim l) w) := by
  have H0 := Lib.hid hs
  have heq := eql_elem
  have HE := Lib.hid (vK_eq0 (f := f))
  obtain ⟨A, c, rfl, hc, hcm, hA⟩ := hs
  have HA := Lib.hid hA
  clear hA
  go_enter Tryd.func40, Tryd.ntmps40
  go_wp2
  go_loop [3] (fun nv => ∃ n : Nat, n ≤ l.length ∧ nv = .int .i64 n ∧ Hid (∀ i, n ≤ i → l.getD i 0 = 0)) (fun nv => (intOf nv).toNat)
  case atStart => exact ⟨l.length, Nat.le_refl _, rfl, fun i hi => Fm.getD_end hi⟩
  case round =>
    obtain ⟨n, hnl, rfl, hz⟩ := hrel
    by_cases hn0 : n = 0
    · subst hn0
      have HT : Hid (trim l = l.take 0) := trim_cut 0 (Nat.zero_le _) hz.out (.inl rfl)
      clear hz
      have HS : Hid (SlK w w.heap.size (.slice A 0 c) (l.take 0)) := H0.out.takeK hnl
      have HTL : Hid ((l.take 0).length ≤ 1000000) := by show _ ≤ _; rw [List.length_take]; omega
      go_wp2_with fail
      refine (slices_Clone _ (l.take 0) w HS.out HTL.out).mono ?_
      rintro e w1 ⟨v, rfl, ho, hb1⟩
      go_wp2
      go_ret
      exact ⟨_, rfl, by rw [HT.out]; exact ho, hb1⟩
    · obtain ⟨m, rfl⟩ : ∃ m, n = m + 1 := ⟨n - 1, by omega⟩
      obtain ⟨x, hx⟩ : ∃ x, l[m]? = some x := ⟨_, List.getElem?_eq_getElem (by omega)⟩
      have hxd : l.getD m 0 = x := by rw [List.getD_eq_getElem?_getD, hx]; rfl
      obtain ⟨b, o, hAe, hB, hrow⟩ := HA.out (by omega)
      obtain ⟨c0, c1⟩ := hrow.kat hx
      have hml : m < l.length := by omega
      have g1 : (0 : Int) ≤ (m : Int) := by omega
      have g2 : (m : Int) < (l.length : Int) := by omega
      have hbx := HE.out x
      by_cases hx0 : x = 0
      · rw [decide_eq_true hx0] at hbx
        have HZ : Hid (∀ i, m ≤ i → l.getD i 0 = 0) := fun i hi => by
          by_cases he : i = m
          · rw [he, hxd, hx0]
          · exact hz.out i (by omega)
        subst hAe
        clear hx0 hz hxd hx hrow
        go_wp2
        go_round
        case rel => exact ⟨m, by omega, by go_num, HZ.out⟩
        case measure => simp [intOf]
      · rw [decide_eq_false hx0] at hbx
        have HT : Hid (trim l = l.take (m + 1)) := trim_cut (m + 1) hnl hz.out (.inr (by rw [Nat.add_sub_cancel, hxd]; exact hx0))
        subst hAe
        clear hx0 hz hxd hx hrow
        have HS : Hid (SlK w w.heap.size (.slice (some ⟨b, o, none⟩) (m + 1) c) (l.take (m + 1))) := H0.out.takeK hnl
        have HTL : Hid ((l.take (m + 1)).length ≤ 1000000) := by show _ ≤ _; rw [List.length_take]; omega
        go_wp2_with fail
        refine (slices_Clone _ (l.take (m + 1)) w HS.out HTL.out).mono ?_
        rintro e w1 ⟨v, rfl, ho, hb1⟩
        go_wp2
        go_ret
        exact ⟨_, rfl, by rw [HT.out]; exact ho, hb1⟩

theorem poly_Degree (vl : Value) (l : KL f) (w : World) (hs : SlK w w.heap.size vl l) (hn : l.length ≤ 1000000) :
    Calls Tryd.prog 41 #[vl] w fun e w' => e = .returned (.int .i64 (((trim l).length : Int) - 1)) ∧ Below w.heap.size w w' := by
  have H := Lib.hid (poly_Trim vl l w hs hn)
  have htl := trim_le l
  generalize trim l = t at *
  have htb : t.length ≤ 1000000 := by omega
  clear hs hn htl
  go_enter Tryd.func41, Tryd.ntmps41
  go_wp2_with fail
  refine H.out.mono ?_
  rintro e w1 ⟨v, rfl, ho, hb1⟩
  obtain ⟨A, c, rfl⟩ := own_shape ho
  go_wp2
  go_ret
  exact ⟨rfl, hb1⟩

set_option maxHeartbeats 4000000 in
theorem ref_Trim (A : Option Addr) (c : Nat) (l : KL f) (w : World) (hs : SlK w w.heap.size (.slice A l.length c) l) (hn : l.length ≤ 1000000) :
    Calls Tryd.prog 34 #[.slice A l.length c] w fun e w' => e = .returned (.slice A (trim l).length c) ∧ w = w' := by
  have HE := Lib.hid (vK_eq0 (f := f))
  have heq := neq_elem
  obtain ⟨A', c', e0, hc, hcm, hA⟩ := id hs
  injection e0 with e1 e2 e3
  subst e1
  subst e3
  have HA := Lib.hid hA
  have HTL := Lib.hid (trim_take l)
  clear hA hs e2
  go_enter Tryd.func34, Tryd.ntmps34
  go_wp2
  go_loop [3, 4] (fun nv iv => ∃ n i : Nat, n ≤ i ∧ i ≤ l.length ∧ nv = .int .i64 n ∧ iv = .int .i64 i ∧ Hid ((∀ j, n ≤ j → j < i → l.getD j 0 = 0) ∧ (n = 0 ∨ l.getD (n - 1) 0 ≠ 0))) (fun _ iv => l.length - (intOf iv).toNat)
  case atStart => exact ⟨0, 0, Nat.le_refl _, Nat.zero_le _, rfl, rfl, fun j h1 h2 => absurd h2 (Nat.not_lt_zero _), .inl rfl⟩
  case round =>
    obtain ⟨n, i, hni, hil, rfl, rfl, hz⟩ := hrel
    by_cases hlt : i < l.length
    · obtain ⟨x, hx⟩ : ∃ x, l[i]? = some x := ⟨_, List.getElem?_eq_getElem hlt⟩
      have hxd : l.getD i 0 = x := by rw [List.getD_eq_getElem?_getD, hx]; rfl
      obtain ⟨b, o, hAe, hB, hrow⟩ := HA.out (by omega)
      obtain ⟨c0, c1⟩ := hrow.kat hx
      have g1 : (0 : Int) ≤ (i : Int) := by omega
      have g2 : (i : Int) < (l.length : Int) := by omega
      have hbx := HE.out x
      subst hAe
      by_cases hx0 : x = 0
      · rw [decide_eq_true hx0] at hbx
        have HZ : Hid ((∀ j, n ≤ j → j < i + 1 → l.getD j 0 = 0) ∧ (n = 0 ∨ l.getD (n - 1) 0 ≠ 0)) := ⟨fun j h1 h2 => by
          by_cases he : j = i
          · rw [he, hxd, hx0]
          · exact hz.out.1 j h1 (by omega), hz.out.2⟩
        clear hx0 hz hxd hx hrow
        go_wp2
        go_round
        case rel => exact ⟨n, i + 1, by omega, by omega, rfl, by go_num, HZ.out⟩
        case measure => simp [intOf]; omega
      · rw [decide_eq_false hx0] at hbx
        have HZ : Hid ((∀ j, i + 1 ≤ j → j < i + 1 → l.getD j 0 = 0) ∧ (i + 1 = 0 ∨ l.getD (i + 1 - 1) 0 ≠ 0)) := ⟨fun j h1 h2 => by omega, .inr (by rw [Nat.add_sub_cancel, hxd]; exact hx0)⟩
        clear hx0 hz hxd hx hrow
        go_wp2
        go_round
        case rel => exact ⟨i + 1, i + 1, by omega, by omega, by go_num, by go_num, HZ.out⟩
        case measure => simp [intOf]; omega
    · obtain rfl : i = l.length := by omega
      have hT := trim_cut n hni (fun j hj => by
        by_cases hjl : j < l.length
        · exact hz.out.1 j hj hjl
        · exact Fm.getD_end (by omega)) hz.out.2
      have HL : Hid ((trim l).length = n) := by show _ = _; rw [hT, List.length_take]; omega
      clear hz hT
      go_wp2
      go_ret
      rw [HL.out]
      exact ⟨rfl, rfl⟩
end

end Go.Proofs.YtfhmineolncefaaDoor

namespace Go.Proofs.YtfhmineolncefaaDoor.Fm
set_option linter.unusedVariables false

section
variable {f : Nat}
/-- the products of the first I of a with all of b, and of the next one with the first K of b -/
def dcv (a b : Nat → Fin (Pm f)) (I K m : Nat) : Fin (Pm f) :=
  sm (fun i => if i ≤ m then a i * b (m - i) else 0) I + if I ≤ m ∧ m < I + K then a I * b (m - I) else 0
theorem dcv_zero (a b : Nat → Fin (Pm f)) (m : Nat) : dcv a b 0 0 m = 0 := by
  unfold dcv
  rw [sm_zero, if_neg (by omega)]
  grind
theorem dcv_at (a b : Nat → Fin (Pm f)) (I K : Nat) : dcv a b I (K + 1) (I + K) = dcv a b I K (I + K) + a I * b K := by
  unfold dcv
  rw [if_pos (by omega), if_neg (by omega), Nat.add_sub_cancel_left]
  grind
theorem dcv_other (a b : Nat → Fin (Pm f)) (I K m : Nat) (h : m ≠ I + K) : dcv a b I (K + 1) m = dcv a b I K m := by
  unfold dcv
  by_cases h1 : I ≤ m ∧ m < I + K
  · rw [if_pos h1, if_pos (by omega)]
  · rw [if_neg h1, if_neg (by omega)]
theorem dcv_row (a b : Nat → Fin (Pm f)) (I lb m : Nat) (hb : ∀ j, lb ≤ j → b j = 0) : dcv a b I lb m = dcv a b (I + 1) 0 m := by
  unfold dcv
  rw [sm_succ, if_neg (c := I + 1 ≤ m ∧ m < I + 1 + 0) (by omega)]
  by_cases h1 : I ≤ m
  · rw [if_pos h1]
    by_cases h2 : m < I + lb
    · rw [if_pos ⟨h1, h2⟩]
      grind
    · rw [if_neg (by omega), hb (m - I) (by omega)]
      grind
  · rw [if_neg (c := I ≤ m) h1, if_neg (by omega)]
    grind
theorem dcv_end (a b : Nat → Fin (Pm f)) (la m : Nat) (ha : ∀ j, la ≤ j → a j = 0) : dcv a b la 0 m = cv a b m := by
  unfold dcv cv
  rw [if_neg (by omega)]
  have h1 : sm (fun i => if i ≤ m then a i * b (m - i) else 0) (la + (m + 1)) = sm (fun i => if i ≤ m then a i * b (m - i) else 0) la := sm_more (by omega) (fun i h1 h2 => by rw [ha i h1]; split <;> grind)
  have h2 : sm (fun i => if i ≤ m then a i * b (m - i) else 0) (la + (m + 1)) = sm (fun i => if i ≤ m then a i * b (m - i) else 0) (m + 1) := sm_more (by omega) (fun i h1 h2 => by rw [if_neg (by omega)])
  rw [← h1, h2, sm_congr (h := fun i => a i * b (m - i)) (fun i hi => by rw [if_pos (by omega)])]
  grind
/-- the list while it is made -/
def dl (a b : List (Fin (Pm f))) (I K : Nat) : List (Fin (Pm f)) := ofF (a.length + b.length - 1) (dcv (fun i => a.getD i 0) (fun i => b.getD i 0) I K)
theorem dl_length (a b : List (Fin (Pm f))) (I K : Nat) : (dl a b I K).length = a.length + b.length - 1 := ofF_length ..
theorem dl_zero (a b : List (Fin (Pm f))) : dl a b 0 0 = List.replicate (a.length + b.length - 1) 0 := by
  refine List.ext_getElem (by rw [dl_length, List.length_replicate]) fun i h1 h2 => ?_
  simp [dl, ofF, dcv_zero]
theorem dl_next (a b : List (Fin (Pm f))) (I K : Nat) (hI : I < a.length) (hK : K < b.length) (z : Fin (Pm f)) (hz : z = (dl a b I K).getD (I + K) 0 + a.getD I 0 * b.getD K 0) : (dl a b I K).set (I + K) z = dl a b I (K + 1) := by
  refine ofF_set _ _ _ _ _ ?_ fun m hm hne => dcv_other _ _ _ _ _ hne
  rw [dcv_at, hz]
  unfold dl
  rw [ofF_getD, if_pos (by omega)]
theorem dl_row (a b : List (Fin (Pm f))) (I : Nat) : dl a b I b.length = dl a b (I + 1) 0 := ofF_congr fun m _ => dcv_row _ _ _ _ _ fun j hj => getD_end hj
theorem dl_end (a b : List (Fin (Pm f))) : dl a b a.length 0 = prodL a b := ofF_congr fun m _ => dcv_end _ _ _ _ fun j hj => getD_end hj

theorem pmul_trim {a b : List (Fin (Pm f))} (ha : a.length ≤ 400000) (hb : b.length ≤ 400000) : pmul (trim a) (trim b) = pmul a b := by
  have h1 := trim_le a
  have h2 := trim_le b
  refine trim_ev (by rw [prodL_length]; omega) (by rw [prodL_length]; omega) fun x => ?_
  rw [prodL_ev, prodL_ev, ev_trim, ev_trim]
theorem pmul_nil_left (b : List (Fin (Pm f))) : pmul [] b = [] := trim_nil fun i => by
  unfold prodL
  rw [ofF_getD]
  split
  · exact sm_none fun i _ => by
      show (0 : Fin (Pm f)) * _ = 0
      grind
  · rfl
theorem pmul_nil_right (a : List (Fin (Pm f))) : pmul a [] = [] := trim_nil fun i => by
  unfold prodL
  rw [ofF_getD]
  split
  · exact sm_none fun i _ => by
      show _ * (0 : Fin (Pm f)) = 0
      grind
  · rfl
end

end Go.Proofs.YtfhmineolncefaaDoor.Fm

namespace Go.Proofs.YtfhmineolncefaaDoor
open Go.RowKit Fm
set_option linter.unusedVariables false
set_option maxRecDepth 100000

/-- the table lies in its variable -/
structure TabW (w : World) : Prop where
  tab : TabAt 1 Lib.deBruijn64tab w
  lt : 1 < w.heap.size
theorem TabW.call {w w' : World} (h : TabW w) (hb : Below w.heap.size w w') : TabW w' :=
  ⟨fun j hj => cell_call (h.tab j hj) hb, Nat.lt_of_lt_of_le h.lt hb.size⟩

set_option maxHeartbeats 1000000 in
theorem tz64_core (x k idx : Nat) (w : World) (hx0 : ((x : Int) == 0) = false)
    (key : IntKind.u64.wrap (bits BinOp.and IntKind.u64 (x : Int) (IntKind.u64.wrap (-(x : Int))) * 285870213051353865) / 288230376151711744 = (idx : Int))
    (hi : idx < 64) (hk : k < 64) (hcell : w.cell? ⟨1, idx, none⟩ = some (.int .u8 k)) :
    Calls Tryd.prog 91 #[.int .u64 x] w fun e w' => e = .returned (.int .i64 k) ∧ w = w' := by
  go_enter Tryd.func91, Tryd.ntmps91
  go_wp2_with (simp only [key])
  go_ret
  exact ⟨rfl, rfl⟩
theorem bits_Tz64 (x : Nat) (h0 : x ≠ 0) (hx : x < 18446744073709551616) (w : World) (hT : TabW w) :
    Calls Tryd.prog 91 #[.int .u64 x] w fun e w' => e = .returned (.int .i64 (Lib.ctz 64 x)) ∧ w = w' := by
  obtain ⟨hlow, hk⟩ := Lib.lowest_bit 64 x h0 hx
  obtain ⟨hi, htab⟩ := Lib.deBruijn64_at _ hk
  have hcell := hT.tab _ hi
  rw [htab] at hcell
  exact tz64_core x _ _ w (by simp; omega) (tz64_key x _ hx h0 hlow) hi hk hcell
theorem bits_Tz (x : Nat) (h0 : x ≠ 0) (hx : x < 18446744073709551616) (w : World) (hT : TabW w) :
    Calls Tryd.prog 68 #[.int .u64 x] w fun e w' => e = .returned (.int .i64 (Lib.ctz 64 x)) ∧ w = w' := by
  have H := Lib.hid (bits_Tz64 x h0 hx w hT)
  generalize Lib.ctz 64 x = k at *
  clear h0
  go_enter Tryd.func68, Tryd.ntmps68
  go_wp2_with fail
  refine H.out.mono ?_
  rintro e w' ⟨rfl, rfl⟩
  go_wp2
  go_ret
  exact ⟨rfl, rfl⟩

theorem ctz_two : ∀ k, k ≤ 10 → Lib.ctz 64 (2 ^ k) = k := by
  have h : ∀ k, k < 11 → Lib.ctz 64 (2 ^ k) = k := by decide +kernel
  exact fun k hk => h k (by omega)
theorem and_pred : ∀ n, n < 1025 → 1 ≤ n → n &&& (n - 1) = 0 → ∃ k, k < 11 ∧ n = 2 ^ k := by
  have h : ∀ n, n < 1025 → 1 ≤ n → n &&& (n - 1) = 0 → (List.range 11).any (fun k => n == 2 ^ k) = true := by decide +kernel
  intro n h1 h2 h3
  have := h n h1 h2 h3
  simp only [List.any_eq_true, List.mem_range, beq_iff_eq] at this
  exact this
theorem and_two : ∀ k, k < 11 → 2 ^ k &&& (2 ^ k - 1) = 0 := by decide +kernel
theorem bits_and_i64_nat (a b : Nat) (ha : a < 9223372036854775808) (hb : b < 9223372036854775808) : bits .and .i64 (a : Int) (b : Int) = ((a &&& b : Nat) : Int) := by
  have hx : a &&& b < 2 ^ 63 := Nat.and_lt_two_pow _ (by omega)
  have h1 : (BitVec.ofInt 64 (a : Int)).toNat = a := by
    rw [BitVec.ofInt_natCast, BitVec.toNat_ofNat]; exact Nat.mod_eq_of_lt (by omega)
  have h2 : (BitVec.ofInt 64 (b : Int)).toNat = b := by
    rw [BitVec.ofInt_natCast, BitVec.toNat_ofNat]; exact Nat.mod_eq_of_lt (by omega)
  show IntKind.i64.wrap ((BitVec.ofInt 64 (a : Int) &&& BitVec.ofInt 64 (b : Int)).toNat : Int) = _
  rw [BitVec.toNat_and, h1, h2]
  exact IntWalk.i64_in _ (by omega)

set_option maxHeartbeats 1000000 in
theorem ntt_Log_ok (k : Nat) (hk : k ≤ 10) (w : World) (hT : TabW w) :
    Calls Tryd.prog 26 #[.int .i64 ((2 ^ k : Nat) : Int)] w fun e w' => e = .returned (.tuple #[.int .i64 k, .bool true]) ∧ w = w' := by
  have hp := Nat.two_pow_pos k
  have hle : 2 ^ k ≤ 2 ^ 10 := Nat.pow_le_pow_right (by omega) hk
  have H := Lib.hid (bits_Tz (2 ^ k) (by omega) (by omega) w hT)
  rw [ctz_two k hk] at H
  have hand := bits_and_i64_nat (2 ^ k) (2 ^ k - 1) (by omega) (by omega)
  rw [and_two k (by omega), Int.ofNat_sub hp] at hand
  simp only [Int.cast_ofNat_Int, Int.natCast_one] at hand
  have hn1 : (1 : Int) ≤ ((2 ^ k : Nat) : Int) := by omega
  have hn2 : ((2 ^ k : Nat) : Int) ≤ 1024 := by omega
  clear hp hle
  generalize ((2 ^ k : Nat) : Int) = n at *
  go_enter Tryd.func26, Tryd.ntmps26
  go_wp2_with fail
  refine H.out.mono ?_
  rintro e w' ⟨rfl, rfl⟩
  go_wp2
  go_ret2
  exact ⟨rfl, rfl⟩

set_option maxHeartbeats 1000000 in
theorem ntt_Log_no (n : Int) (w : World) (h : ∀ k : Nat, k ≤ 10 → n ≠ ((2 ^ k : Nat) : Int)) :
    Calls Tryd.prog 26 #[.int .i64 n] w fun e w' => e = .returned (.tuple #[.int .i64 0, .bool false]) ∧ w = w' := by
  by_cases h1 : n < 1
  · clear h
    go_enter Tryd.func26, Tryd.ntmps26
    go_wp2
    go_ret2
    exact ⟨rfl, rfl⟩
  · by_cases h2 : 1024 < n
    · clear h
      go_enter Tryd.func26, Tryd.ntmps26
      go_wp2
      go_ret2
      exact ⟨rfl, rfl⟩
    · have h3 : (1 : Int) ≤ n := by omega
      have h4 : n ≤ 1024 := by omega
      obtain ⟨m, rfl⟩ : ∃ m : Nat, n = m := ⟨n.toNat, by omega⟩
      have hand := bits_and_i64_nat m (m - 1) (by omega) (by omega)
      rw [Int.ofNat_sub (by omega)] at hand
      simp only [Int.cast_ofNat_Int] at hand
      have hne : m &&& (m - 1) ≠ 0 := fun e => by
        obtain ⟨k, hk, he⟩ := and_pred m (by omega) (by omega) e
        exact h k (by omega) (by rw [he])
      clear h
      generalize m &&& (m - 1) = a at *
      have t1 : ((a : Int) != 0) = true := by simpa using hne
      have t2 : ((a : Int) == 0) = false := by simpa using hne
      have t3 : decide ((m : Int) < 1) = false := by simp; omega
      have t4 : decide ((1024 : Int) < (m : Int)) = false := by simp; omega
      clear hne h1 h2
      go_enter Tryd.func26, Tryd.ntmps26
      go_wp2
      go_ret2
      exact ⟨rfl, rfl⟩

/-! ### bits turned round -/
def rb (x s m : Nat) : Nat := (x / 2 ^ s &&& m) ||| ((x &&& m) * 2 ^ s)
def rev8 (x : Nat) : Nat := rb (rb (rb x 1 6148914691236517205) 2 3689348814741910323) 4 1085102592571150095
def rev64 (x : Nat) : Nat :=
  let a := rb (rb (rev8 x) 8 71777214294589695) 16 281470681808895
  a / 4294967296 ||| (a * 4294967296 % 18446744073709551616)
theorem rb_bits (x s m : Nat) (hx : x < 18446744073709551616) (hm : m * 2 ^ s < 18446744073709551616) :
    bits .or .u64 (bits .and .u64 ((x : Int) / ((2 ^ s : Nat) : Int)) (m : Int)) (bits .and .u64 (x : Int) (m : Int) * ((2 ^ s : Nat) : Int)) = (rb x s m : Int) ∧ bits .and .u64 (x : Int) (m : Int) = ((x &&& m : Nat) : Int) ∧ (x &&& m) * 2 ^ s ≤ 18446744073709551615 ∧ rb x s m < 18446744073709551616 := by
  have hp := Nat.two_pow_pos s
  have hm1 : m < 18446744073709551616 := Nat.lt_of_le_of_lt (Nat.le_mul_of_pos_right m hp) hm
  have hxs : x / 2 ^ s < 18446744073709551616 := Nat.lt_of_le_of_lt (Nat.div_le_self _ _) hx
  have h1 := bits_and_u64_nat (x / 2 ^ s) m hxs hm1
  have h2 := bits_and_u64_nat x m hx hm1
  have h3 : (x &&& m) ≤ m := Nat.and_le_right
  have h4 : (x &&& m) * 2 ^ s ≤ m * 2 ^ s := Nat.mul_le_mul_right _ h3
  have h5 : (x / 2 ^ s &&& m) < 18446744073709551616 := Nat.lt_of_le_of_lt Nat.and_le_right hm1
  refine ⟨?_, h2, by omega, ?_⟩
  · rw [← Int.natCast_ediv, h1, h2, ← Int.natCast_mul, bits_or_u64_nat _ _ h5 (by omega)]
    rfl
  · exact Nat.or_lt_two_pow (n := 64) h5 (by omega)

set_option maxHeartbeats 1000000 in
theorem bits_ReverseBytes64 (x : Nat) (hx : x < 18446744073709551616) (w : World) :
    Calls Tryd.prog 111 #[.int .u64 x] w fun e w' => e = .returned (.int .u64 ((rb (rb x 8 71777214294589695) 16 281470681808895 / 4294967296 ||| (rb (rb x 8 71777214294589695) 16 281470681808895 * 4294967296 % 18446744073709551616) : Nat) : Int)) ∧ w = w' := by
  obtain ⟨a1, a2, a3, a4⟩ := rb_bits x 8 71777214294589695 hx (by omega)
  generalize rb x 8 71777214294589695 = y at *
  obtain ⟨b1, b2, b3, b4⟩ := rb_bits y 16 281470681808895 a4 (by omega)
  generalize rb y 16 281470681808895 = z at *
  have hz1 : (0 : Int) ≤ (z : Int) := by omega
  have c1 : bits .or .u64 ((z : Int) / 4294967296) (IntKind.u64.wrap ((z : Int) * 4294967296)) = ((z / 4294967296 ||| (z * 4294967296 % 18446744073709551616) : Nat) : Int) := by
    rw [IntKind.wrap_u64, show (z : Int) / 4294967296 = ((z / 4294967296 : Nat) : Int) by omega, show (z : Int) * 4294967296 % 18446744073709551616 = ((z * 4294967296 % 18446744073709551616 : Nat) : Int) by omega,
      bits_or_u64_nat _ _ (by omega) (by omega)]
  generalize (z / 4294967296 ||| (z * 4294967296 % 18446744073709551616)) = r at *
  have d1 : IntKind.u64.wrap (((x &&& 71777214294589695 : Nat) : Int) * 256) = ((x &&& 71777214294589695 : Nat) : Int) * 256 := IntWalk.u64_in _ (by omega)
  have d2 : IntKind.u64.wrap (((y &&& 281470681808895 : Nat) : Int) * 65536) = ((y &&& 281470681808895 : Nat) : Int) * 65536 := IntWalk.u64_in _ (by omega)
  rw [a2] at a1
  rw [b2] at b1
  replace a1 : bits .or .u64 (bits .and .u64 ((x : Int) / 256) 71777214294589695) (((x &&& 71777214294589695 : Nat) : Int) * 256) = (y : Int) := a1
  replace b1 : bits .or .u64 (bits .and .u64 ((y : Int) / 65536) 281470681808895) (((y &&& 281470681808895 : Nat) : Int) * 65536) = (z : Int) := b1
  replace a2 : bits .and .u64 (x : Int) 71777214294589695 = ((x &&& 71777214294589695 : Nat) : Int) := a2
  replace b2 : bits .and .u64 (y : Int) 281470681808895 = ((y &&& 281470681808895 : Nat) : Int) := b2
  generalize x &&& 71777214294589695 = p at *
  generalize y &&& 281470681808895 = q at *
  have hx0 : (0 : Int) ≤ (x : Int) := by omega
  have hy0 : (0 : Int) ≤ (y : Int) := by omega
  go_enter Tryd.func111, Tryd.ntmps111
  go_wp2
  go_ret
  exact ⟨rfl, rfl⟩

set_option maxHeartbeats 1000000 in
theorem bits_Reverse64 (x : Nat) (hx : x < 18446744073709551616) (w : World) :
    Calls Tryd.prog 103 #[.int .u64 x] w fun e w' => e = .returned (.int .u64 (rev64 x : Nat)) ∧ w = w' := by
  obtain ⟨a1, a2, a3, a4⟩ := rb_bits x 1 6148914691236517205 hx (by omega)
  have hr : rev64 x = rb (rb (rb (rb (rb x 1 6148914691236517205) 2 3689348814741910323) 4 1085102592571150095) 8 71777214294589695) 16 281470681808895 / 4294967296 ||| (rb (rb (rb (rb (rb x 1 6148914691236517205) 2 3689348814741910323) 4 1085102592571150095) 8 71777214294589695) 16 281470681808895 * 4294967296 % 18446744073709551616) := rfl
  generalize rev64 x = r at *
  generalize rb x 1 6148914691236517205 = y at *
  obtain ⟨b1, b2, b3, b4⟩ := rb_bits y 2 3689348814741910323 a4 (by omega)
  generalize rb y 2 3689348814741910323 = z at *
  obtain ⟨c1, c2, c3, c4⟩ := rb_bits z 4 1085102592571150095 b4 (by omega)
  generalize rb z 4 1085102592571150095 = u at *
  have HB := Lib.hid (fun wz => bits_ReverseBytes64 u c4 wz)
  rw [← hr] at HB
  clear hr
  rw [a2] at a1
  rw [b2] at b1
  rw [c2] at c1
  replace a1 : bits .or .u64 (bits .and .u64 ((x : Int) / 2) 6148914691236517205) (((x &&& 6148914691236517205 : Nat) : Int) * 2) = (y : Int) := a1
  replace b1 : bits .or .u64 (bits .and .u64 ((y : Int) / 4) 3689348814741910323) (((y &&& 3689348814741910323 : Nat) : Int) * 4) = (z : Int) := b1
  replace c1 : bits .or .u64 (bits .and .u64 ((z : Int) / 16) 1085102592571150095) (((z &&& 1085102592571150095 : Nat) : Int) * 16) = (u : Int) := c1
  replace a2 : bits .and .u64 (x : Int) 6148914691236517205 = ((x &&& 6148914691236517205 : Nat) : Int) := a2
  replace b2 : bits .and .u64 (y : Int) 3689348814741910323 = ((y &&& 3689348814741910323 : Nat) : Int) := b2
  replace c2 : bits .and .u64 (z : Int) 1085102592571150095 = ((z &&& 1085102592571150095 : Nat) : Int) := c2
  have d1 : IntKind.u64.wrap (((x &&& 6148914691236517205 : Nat) : Int) * 2) = ((x &&& 6148914691236517205 : Nat) : Int) * 2 := IntWalk.u64_in _ (by omega)
  have d2 : IntKind.u64.wrap (((y &&& 3689348814741910323 : Nat) : Int) * 4) = ((y &&& 3689348814741910323 : Nat) : Int) * 4 := IntWalk.u64_in _ (by omega)
  have d3 : IntKind.u64.wrap (((z &&& 1085102592571150095 : Nat) : Int) * 16) = ((z &&& 1085102592571150095 : Nat) : Int) * 16 := IntWalk.u64_in _ (by omega)
  generalize x &&& 6148914691236517205 = p at *
  generalize y &&& 3689348814741910323 = q at *
  generalize z &&& 1085102592571150095 = s at *
  have hx0 : (0 : Int) ≤ (x : Int) := by omega
  have hy0 : (0 : Int) ≤ (y : Int) := by omega
  have hz0 : (0 : Int) ≤ (z : Int) := by omega
  go_enter Tryd.func103, Tryd.ntmps103
  go_wp2_with fail
  refine (HB.out _).mono ?_
  rintro e w' ⟨rfl, rfl⟩
  go_wp2
  go_ret
  exact ⟨rfl, rfl⟩

theorem rev64_lt (x : Nat) (hx : x < 18446744073709551616) : rev64 x < 18446744073709551616 := by
  obtain ⟨_, _, _, a4⟩ := rb_bits x 1 6148914691236517205 hx (by omega)
  obtain ⟨_, _, _, b4⟩ := rb_bits _ 2 3689348814741910323 a4 (by omega)
  obtain ⟨_, _, _, c4⟩ := rb_bits _ 4 1085102592571150095 b4 (by omega)
  obtain ⟨_, _, _, d4⟩ := rb_bits _ 8 71777214294589695 c4 (by omega)
  obtain ⟨_, _, _, e4⟩ := rb_bits _ 16 281470681808895 d4 (by omega)
  exact Nat.or_lt_two_pow (n := 64) (Nat.lt_of_le_of_lt (Nat.div_le_self _ _) e4) (Nat.mod_lt _ (by omega))
theorem rev64_rev : ∀ L, L ≤ 10 → 1 ≤ L → ∀ i, i < 2 ^ L → rev64 i / 2 ^ (64 - L) &&& (2 ^ L - 1) = rev L i := by
  have h : ∀ L, L < 11 → 1 ≤ L → ∀ i, i < 2 ^ L → rev64 i / 2 ^ (64 - L) &&& (2 ^ L - 1) = rev L i := by decide +kernel
  exact fun L h1 => h L (by omega)

set_option maxHeartbeats 1000000 in
theorem ntt_turned (i L : Nat) (hL : L ≤ 10) (hL1 : 1 ≤ L) (hi : i < 2 ^ L) (w : World) :
    Calls Tryd.prog 83 #[.int .i64 i, .int .i64 L] w (RetI (rev L i) w) := by
  have hp : 2 ^ L ≤ 2 ^ 10 := Nat.pow_le_pow_right (by omega) hL
  have hp0 := Nat.two_pow_pos L
  have HR : Hid (∀ wz, Calls Tryd.prog 103 #[.int .u64 i] wz fun e w' => e = .returned (.int .u64 (rev64 i : Nat)) ∧ Below wz.heap.size wz w') := fun wz => (bits_Reverse64 i (by omega) wz).mono fun _ _ h => ⟨h.1, h.2 ▸ Below.refl _ _⟩
  have hrl := rev64_lt i (by omega)
  have hre := rev64_rev L hL hL1 i hi
  have hlt := rev_lt L i
  generalize rev L i = q at *
  generalize rev64 i = r at *
  have hand := bits_and_u64_nat (r / 2 ^ (64 - L)) (2 ^ L - 1) (Nat.lt_of_le_of_lt (Nat.div_le_self _ _) hrl) (by omega)
  rw [hre] at hand
  rw [Int.natCast_ediv, Int.natCast_pow, Int.ofNat_sub hp0, Int.natCast_pow] at hand
  simp only [Int.cast_ofNat_Int, Int.natCast_one] at hand
  obtain ⟨c, hc⟩ : ∃ c, 64 - L = c := ⟨_, rfl⟩
  rw [hc] at hand
  have hs : 64 - (L : Int) = (c : Int) := by omega
  have hi2 : (i : Int) ≤ 1024 := by omega
  have hq2 : (q : Int) ≤ 1024 := by omega
  have hr2 : (r : Int) ≤ 18446744073709551615 := by omega
  have hpp : (2 : Int) ^ L ≤ 1024 := by have := Int.natCast_pow 2 L; simp only [Int.cast_ofNat_Int] at this; omega
  have hpp0 : (1 : Int) ≤ (2 : Int) ^ L := by have := Int.natCast_pow 2 L; simp only [Int.cast_ofNat_Int] at this; omega
  have w1 : IntKind.u64.wrap (i : Int) = (i : Int) := IntWalk.u64_in _ (by omega)
  have w2 : IntKind.i64.wrap (c : Int) = (c : Int) := IntWalk.i64_in _ (by omega)
  have w3 : IntKind.u64.wrap ((2 : Int) ^ L) = (2 : Int) ^ L := IntWalk.u64_in _ (by omega)
  have w4 : IntKind.u64.wrap ((2 : Int) ^ L - 1) = (2 : Int) ^ L - 1 := IntWalk.u64_in _ (by omega)
  have w5 : IntKind.i64.wrap (q : Int) = (q : Int) := IntWalk.i64_in _ (by omega)
  have hc0 : (0 : Int) ≤ (c : Int) := by omega
  have hc64 : (c : Int) < 64 := by omega
  have hL0 : (0 : Int) ≤ (L : Int) := by omega
  have hL64 : (L : Int) < 64 := by omega
  clear hre hc hp hp0 hlt hrl
  go_enter Tryd.func83, Tryd.ntmps83
  go_wp2_with fail
  refine region_B (n := 11) (m := 12) (f := 11) (by kernel_rfl) (by kernel_rfl) rfl ?_
  refine WpH.takeD 0 (some 5) (v := ?_) rfl rfl (by kernel_rfl) (fun _ _ _ h => h) (.val rfl (fun wz hwz => ?_)) ?_
  rotate_left
  · go_simp; try (with_reducible rfl)
  (simp only [Act.put]); (try simp only [List.setIfInBounds_toArray]); (try simp only [List.set_cons_succ]); (try simp only [List.set_cons_zero])
  refine WpH.takeD 1 (some 6) (v := ?_) rfl rfl (by kernel_rfl) (fun _ _ _ h => h) (.val rfl (fun wz hwz => ?_)) ?_
  rotate_left
  · go_simp; try (with_reducible rfl)
  (simp only [Act.put]); (try simp only [List.setIfInBounds_toArray]); (try simp only [List.set_cons_succ]); (try simp only [List.set_cons_zero])
  refine WpH.takeD 2 (some 7) rfl rfl (by kernel_rfl) (fun _ _ _ h => h) (.call rfl (fun wz hwz => HR.out wz) (fun wz hwz => ?_)) ?_
  · go_simp; try (with_reducible rfl)
  (simp only [Act.put]); (try simp only [List.setIfInBounds_toArray]); (try simp only [List.set_cons_succ]); (try simp only [List.set_cons_zero])
  refine WpH.takeD 3 (some 8) (v := ?_) rfl rfl (by kernel_rfl) (fun _ _ _ h => h) (.val rfl (fun wz hwz => ?_)) ?_
  rotate_left
  · go_simp; try (with_reducible rfl)
  (simp only [Act.put]); (try simp only [List.setIfInBounds_toArray]); (try simp only [List.set_cons_succ]); (try simp only [List.set_cons_zero])
  refine WpH.takeD 4 (some 9) (v := ?_) rfl rfl (by kernel_rfl) (fun _ _ _ h => h) (.val rfl (fun wz hwz => ?_)) ?_
  rotate_left
  · go_simp; try (with_reducible rfl)
  (simp only [Act.put]); (try simp only [List.setIfInBounds_toArray]); (try simp only [List.set_cons_succ]); (try simp only [List.set_cons_zero])
  refine WpH.takeD 5 (some 10) (v := ?_) rfl rfl (by kernel_rfl) (fun _ _ _ h => h) (.val rfl (fun wz hwz => ?_)) ?_
  rotate_left
  · go_simp; try (with_reducible rfl)
  (simp only [Act.put]); (try simp only [List.setIfInBounds_toArray]); (try simp only [List.set_cons_succ]); (try simp only [List.set_cons_zero])
  refine WpH.takeD 6 (some 11) (v := ?_) rfl rfl (by kernel_rfl) (fun _ _ _ h => h) (.val rfl (fun wz hwz => ?_)) ?_
  rotate_left
  · go_simp; try (with_reducible rfl)
  (simp only [Act.put]); (try simp only [List.setIfInBounds_toArray]); (try simp only [List.set_cons_succ]); (try simp only [List.set_cons_zero])
  refine WpH.takeD 7 (some 12) (v := ?_) rfl rfl (by kernel_rfl) (fun _ _ _ h => h) (.val rfl (fun wz hwz => ?_)) ?_
  rotate_left
  · go_simp; try (with_reducible rfl)
  (simp only [Act.put]); (try simp only [List.setIfInBounds_toArray]); (try simp only [List.set_cons_succ]); (try simp only [List.set_cons_zero])
  refine WpH.takeD 8 (some 13) (v := ?_) rfl rfl (by kernel_rfl) (fun _ _ _ h => h) (.val rfl (fun wz hwz => ?_)) ?_
  rotate_left
  · go_simp; try (with_reducible rfl)
  (simp only [Act.put]); (try simp only [List.setIfInBounds_toArray]); (try simp only [List.set_cons_succ]); (try simp only [List.set_cons_zero])
  refine WpH.takeD 9 (some 14) (v := ?_) rfl rfl (by kernel_rfl) (fun _ _ _ h => h) (.val rfl (fun wz hwz => ?_)) ?_
  rotate_left
  · go_simp; try (with_reducible rfl)
  (simp only [Act.put]); (try simp only [List.setIfInBounds_toArray]); (try simp only [List.set_cons_succ]); (try simp only [List.set_cons_zero])
  refine WpH.takeD 10 (some 15) (v := ?_) rfl rfl (by kernel_rfl) (fun _ _ _ h => h) (.val rfl (fun wz hwz => ?_)) ?_
  rotate_left
  · go_simp; try (with_reducible rfl)
  (simp only [Act.put]); (try simp only [List.setIfInBounds_toArray]); (try simp only [List.set_cons_succ]); (try simp only [List.set_cons_zero])
  refine WpH.doneB (by kernel_rfl) (fun w2 hw2 => ?_)
  (try simp only [List.drop_succ_cons]); (try simp only [List.drop_zero]); (try simp only [Nat.reduceSub]); (try simp only [List.take_succ_cons]); (try simp only [List.take_zero])
  go_wp2
  go_ret
  exact ⟨rfl, hw2⟩

end Go.Proofs.YtfhmineolncefaaDoor

namespace Go.Proofs.YtfhmineolncefaaDoor
open Go.RowKit Fm
set_option linter.unusedVariables false
set_option maxRecDepth 100000

theorem sq_down (f R k : Nat) (h : 2 ^ R ∣ Pm f - 1) (hk : k < R) : rootK f (R - k) * rootK f (R - k) = rootK f (R - (k + 1)) := by
  have h2 := root_sq_of f (R - (k + 1)) (Nat.dvd_trans (Nat.pow_dvd_pow 2 (by omega)) h)
  rwa [show R - (k + 1) + 1 = R - k by omega] at h2

/-- numbers of the small field -/
theorem lo_small (z : Fin (Pm 1)) : lo z = ((z.val : Nat) : Int) ∧ hi z = 0 := by
  have h1 := z.isLt
  have h2 : Pm 1 = 18446744069414584321 := rfl
  exact vK_of (by omega) (by omega) (by omega)
theorem gold_MulS (x y : Fin (Pm 1)) (w : World) : Calls Tryd.prog 70 #[.int .u64 (lo x), .int .u64 (lo y)] w fun e w' => e = .returned (.int .u64 (lo (x * y))) ∧ w = w' := by
  have hp : ((Pm 1 : Nat) : Int) = 18446744069414584321 := rfl
  rw [(lo_small (x * y)).1, val_mul, ← (lo_small x).1, ← (lo_small y).1, hp]
  exact gold_Mul _ _ w (lo_0 x) (lo_1 x) (lo_0 y) (lo_1 y)
theorem gold_PowS (x : Fin (Pm 1)) (n : Nat) (hn : n ≤ 18446744073709551615) (w : World) : Calls Tryd.prog 99 #[.int .u64 (lo x), .int .u64 n] w fun e w' => e = .returned (.int .u64 (lo (Fm.kpow x n))) ∧ w = w' := by
  have hp : ((Pm 1 : Nat) : Int) = 18446744069414584321 := rfl
  have h := gold_Pow (lo x) (n : Int) w (lo_0 x) (lo_1 x) (by omega) (by omega)
  rwa [(lo_small x).1, Int.toNat_natCast, ← hp, ← val_kI, ← kpw_ipow, kpw_fm, ← (lo_small x).1, ← (lo_small (Fm.kpow x n)).1] at h

set_option maxHeartbeats 2000000 in
theorem gold_Root (L : Nat) (hL : L ≤ 32) (w : World) :
    Calls Tryd.prog 81 #[.int .i64 L] w fun e w' => e = .returned (.tuple #[.int .u64 (lo (rootK 1 L)), .int .i64 0]) ∧ w = w' := by
  have HSQ := Lib.hid (fun k hk => sq_down 1 32 k (by decide) hk)
  have HP : Hid (∀ wz, Calls Tryd.prog 99 #[.int .u64 7, .int .u64 4294967295] wz fun e w' => e = .returned (.int .u64 (lo (rootK 1 32))) ∧ wz = w') := fun wz => by
    obtain ⟨en, hen⟩ : ∃ en : Nat, en = 4294967295 := ⟨_, rfl⟩
    have h7 : lo (seven 1) = 7 := (lo_small (seven 1)).1
    have h := gold_PowS (seven 1) en (by omega) wz
    have hr : rootK 1 32 = Fm.kpow (seven 1) en := by
      unfold rootK
      rw [show (Pm 1 - 1) / 2 ^ 32 = en by rw [hen]; decide]
    rw [h7, ← hr, show (en : Int) = 4294967295 by omega] at h
    exact h
  have HM := Lib.hid gold_MulS
  go_enter Tryd.func81, Tryd.ntmps81
  go_wp2_with fail
  refine (HP.out _).mono ?_
  rintro e w' ⟨rfl, rfl⟩
  go_wp2
  go_loop [4, 14] (fun r i => ∃ (k : Nat) (x : Fin (Pm 1)), k ≤ 32 - L ∧ i = .int .i64 k ∧ r = .int .u64 (lo x) ∧ Hid (x = rootK 1 (32 - k))) (fun _ i => 32 - (intOf i).toNat)
  case atStart => exact ⟨0, _, by omega, rfl, rfl, rfl⟩
  case round =>
    obtain ⟨k, x, hk, rfl, rfl, hx⟩ := hrel
    by_cases hlt : k < 32 - L
    · have HX : Hid (x * x = rootK 1 (32 - (k + 1))) := by show _ = _; rw [hx.out]; exact HSQ.out k (by omega)
      have t1 : decide ((k : Int) < 32 - (L : Int)) = true := by simp; omega
      go_wp2_with fail
      refine (HM.out x x _).mono ?_
      rintro e w' ⟨rfl, rfl⟩
      go_wp2
      go_round
      case rel => exact ⟨k + 1, _, by omega, by go_num, rfl, HX⟩
      case measure => simp [intOf]; omega
    · obtain rfl : k = 32 - L := by omega
      have t1 : decide (((32 - L : Nat) : Int) < 32 - (L : Int)) = false := by simp; omega
      go_wp2
      go_ret2
      have h := hx.out
      rw [show 32 - (32 - L) = L by omega] at h
      rw [h]
      exact ⟨rfl, rfl⟩

set_option maxHeartbeats 4000000 in
theorem wide_Root (L : Nat) (hL : L ≤ 66) (w : World) :
    Calls Tryd.prog 82 #[.int .i64 L] w fun e w' => e = .returned (.tuple #[vK (rootK 2 L), .int .i64 0]) ∧ Below w.heap.size w w' := by
  have HSQ := Lib.hid (fun k hk => sq_down 2 66 k (by decide) hk)
  have HP : Hid (∀ wz, Calls Tryd.prog 100 #[.agg #[.int .u64 7, .int .u64 0], .agg #[.int .u64 4611686018427387897, .int .u64 0]] wz (RetK (rootK 2 66) wz)) := fun wz => by
    obtain ⟨en, hen⟩ : ∃ en : Nat, en = 4611686018427387897 := ⟨_, rfl⟩
    have h := wide_Pow 7 0 en 0 wz (by omega) (by omega) (by omega) (by omega) (by omega) (by omega)
    have hr : rootK 2 66 = Fm.kpow (seven 2) en := by
      unfold rootK
      rw [show (Pm 2 - 1) / 2 ^ 66 = en by rw [hen]; decide]
    have h7 : kL 2 7 0 = seven 2 := by
      have h1 : lo (seven 2) = 7 ∧ hi (seven 2) = 0 := vK_of rfl (by omega) (by omega)
      have h2 := kL_lohi (seven 2)
      rwa [h1.1, h1.2] at h2
    rw [h7, kpw_fm, Nat.mul_zero, Nat.add_zero, ← hr, show (en : Int) = 4611686018427387897 by omega] at h
    exact h
  have HM : Hid (∀ (x y : Fin (Pm 2)) wz, Calls Tryd.prog 71 #[vK x, vK y] wz (RetK (x * y) wz)) := fun x y wz => by
    have h := wide_MulL (lo x) (hi x) (lo y) (hi y) wz (lo_0 x) (lo_1 x) (hi_0 x) (hi_1 x) (lo_0 y) (lo_1 y) (hi_0 y) (hi_1 y)
    rwa [kL_lohi, kL_lohi] at h
  have hb00 : Below w.heap.size w w := Below.refl _ _
  go_enter Tryd.func82, Tryd.ntmps82
  go_upto_region 1 with fail
  clear hb00
  have s0 := V2.new w (.int .u64 0) (.int .u64 0) 28
  have hb00 : Below w.heap.size w (w.alloc (.cells #[(.int .u64 0), (.int .u64 0)] 28)) := by repeat (first | exact Below.refl _ _ | with_reducible assumption | (refine bl_alloc ?_ (Nat.le_refl _) _))
  have hsz : w.heap.size + 1 ≤ (w.alloc (.cells #[(.int .u64 0), (.int .u64 0)] 28)).heap.size := by simp only [World.size_alloc]; omega
  generalize (w.alloc (.cells #[(.int .u64 0), (.int .u64 0)] 28)) = w1 at s0 hb00 hsz ⊢
  go_upto_region 4 with (first
    | (go_at_call 100; refine (HP.out _).mono ?_; rintro e w2 ⟨rfl, hb2⟩; replace hb00 := bl_call hb00 (Nat.le_refl _) hb2; replace s0 := s0.call hb2))
  obtain ⟨r0, hr0⟩ : ∃ r, rootK 2 66 = r := ⟨_, rfl⟩
  rw [hr0]
  have q0 := V2.new w2 (.int .u64 (lo r0)) (.int .u64 (hi r0)) 28
  have hbA : Below w2.heap.size w2 (w2.alloc (.cells #[.int .u64 (lo r0), .int .u64 (hi r0)] 28)) := by repeat (first | exact Below.refl _ _ | with_reducible assumption | (refine bl_alloc ?_ (Nat.le_refl _) _))
  replace hb00 := bl_call hb00 (Nat.le_refl _) hbA
  replace s0 := s0.call hbA
  clear hbA
  generalize w2.alloc (.cells #[.int .u64 (lo r0), .int .u64 (hi r0)] 28) = w3 at hb00 s0 q0 ⊢
  obtain ⟨ob, hob⟩ : ∃ z, w2.heap.size = z := ⟨_, rfl⟩
  have hsb := hb2.size
  rw [hob] at q0 hsb
  simp only [hob]
  clear hob hb2
  have HR0 := Lib.hid hr0
  clear hr0
  go_wp2
  go_loopw [17] (fun i wr => ∃ (k : Nat) (x : Fin (Pm 2)), k ≤ 66 - L ∧ i = .int .i64 k ∧ Hid (x = rootK 2 (66 - k)) ∧ V2 wr ob (.int .u64 (lo x)) (.int .u64 (hi x)) ∧ V2 wr w.heap.size (.int .u64 0) (.int .u64 0) ∧ Below w.heap.size w wr) (fun i _ => 66 - (intOf i).toNat)
  case atStart => exact ⟨0, r0, by omega, rfl, HR0.out.symm, q0, s0, hb00⟩
  case round =>
    clear q0 s0 hb00
    obtain ⟨k, x, hk, rfl, hx, q0, s0, hb00⟩ := hrel
    by_cases hlt : k < 66 - L
    · have HX : Hid (x * x = rootK 2 (66 - (k + 1))) := by show _ = _; rw [hx.out]; exact HSQ.out k (by omega)
      have t1 : decide ((k : Int) < 66 - (L : Int)) = true := by simp; omega
      obtain ⟨q00, q01, q02, q03, q04⟩ := V2.mk q0.c0 q0.c1 q0.f0 q0.f1 q0.lt
      go_upto_region 7 with (first
        | (go_at_call 71; refine (HM.out _ _ _).mono ?_; rintro e w5 ⟨rfl, hb5⟩; replace hb00 := bl_call hb00 (Nat.le_refl _) hb5; replace q0 := q0.call hb5; replace s0 := s0.call hb5; clear q00 q01 q02 q03 q04; clear hb5; obtain ⟨q00, q01, q02, q03, q04⟩ := V2.mk q0.c0 q0.c1 q0.f0 q0.f1 q0.lt))
      clear q00 q01 q02 q03 q04
      replace q0 : V2 ((w5.setCell ⟨ob, 0, none⟩ (.int .u64 (lo (x * x)))).setCell ⟨ob, 1, none⟩ (.int .u64 (hi (x * x)))) (ob) (.int .u64 (lo (x * x))) (.int .u64 (hi (x * x))) := V2.set q0 _ _
      replace s0 := V2.oth s0 (b := ob) (by omega) (.int .u64 (lo (x * x))) (.int .u64 (hi (x * x)))
      replace hb00 := bl_st hb00 (b := ob) (by omega) (.int .u64 (lo (x * x))) (.int .u64 (hi (x * x)))
      generalize ((w5.setCell ⟨ob, 0, none⟩ (.int .u64 (lo (x * x)))).setCell ⟨ob, 1, none⟩ (.int .u64 (hi (x * x)))) = w6 at q0 s0 hb00 ⊢
      go_wp2_with fail
      go_roundw
      case rel => exact ⟨k + 1, _, by omega, by go_num, HX, q0, s0, hb00⟩
      case measure => simp [intOf]; omega
    · obtain rfl : k = 66 - L := by omega
      have t1 : decide (((66 - L : Nat) : Int) < 66 - (L : Int)) = false := by simp; omega
      obtain ⟨q00, q01, q02, q03, q04⟩ := V2.mk q0.c0 q0.c1 q0.f0 q0.f1 q0.lt
      obtain ⟨s00, s01, s02, s03, s04⟩ := V2.mk s0.c0 s0.c1 s0.f0 s0.f1 s0.lt
      go_wp2_with fail
      have h := hx.out
      rw [show 66 - (66 - L) = L by omega] at h
      refine bodyPost_ret (results_v2_tmp (b := w.heap.size) (u := .int .u64 (lo x)) (v := .int .u64 (hi x)) ?_ rfl rfl) rfl ⟨by rw [← h]; rfl, by repeat (first | exact Below.refl _ _ | with_reducible assumption | (refine bl_alloc ?_ (Nat.le_refl _) _) | (refine bl_set ?_ (by dsimp only; omega) _) | (refine Below.drew ?_) | (refine bl_drewN ?_ _) | (refine bl_call ?_ (Nat.le_refl _) (by assumption)))⟩
      exact V2.set s0 _ _

/-- a root comes back -/
theorem rt_dvd {f : Nat} (hf : IsF f) : True := trivial

set_option maxHeartbeats 2000000 in
theorem field_Root {f : Nat} (hf : IsF f) (L : Nat) (hL : L ≤ 32) (w : World) :
    Calls Tryd.prog 60 #[.int .u8 f, .int .i64 L] w fun e w' => e = .returned (.tuple #[vK (rootK f L), .int .i64 0]) ∧ Below w.heap.size w w' := by
  have hb00 : Below w.heap.size w w := Below.refl _ _
  rcases hf.or with rfl | rfl
  · have HG := Lib.hid (fun wz => gold_Root L hL wz)
    have hh : hi (rootK 1 L) = 0 := (lo_small _).2
    show Calls Tryd.prog 60 _ w fun e w' => e = .returned (.tuple #[.agg #[.int .u64 (lo (rootK 1 L)), .int .u64 (hi (rootK 1 L))], .int .i64 0]) ∧ Below w.heap.size w w'
    rw [hh]
    generalize lo (rootK 1 L) = r at *
    clear hh
    go_enter Tryd.func60, Tryd.ntmps60
    go_upto_region 1 with fail
    clear hb00
    have s0 := V2.new w (.int .u64 0) (.int .u64 0) 28
    have hb00 : Below w.heap.size w (w.alloc (.cells #[(.int .u64 0), (.int .u64 0)] 28)) := by repeat (first | exact Below.refl _ _ | with_reducible assumption | (refine bl_alloc ?_ (Nat.le_refl _) _))
    have hsz : w.heap.size + 1 ≤ (w.alloc (.cells #[(.int .u64 0), (.int .u64 0)] 28)).heap.size := by simp only [World.size_alloc]; omega
    generalize (w.alloc (.cells #[(.int .u64 0), (.int .u64 0)] 28)) = w1 at s0 hb00 hsz ⊢
    obtain ⟨s00, s01, s02, s03, s04⟩ := V2.mk s0.c0 s0.c1 s0.f0 s0.f1 s0.lt
    go_wp2_with fail
    refine (HG.out _).mono ?_
    rintro e w3 ⟨rfl, rfl⟩
    go_wp2_with fail
    refine bodyPost_ret (results_v2_tmp (b := w.heap.size) (u := .int .u64 r) (v := .int .u64 0) ?_ rfl rfl) rfl ⟨rfl, by repeat (first | exact Below.refl _ _ | with_reducible assumption | (refine bl_alloc ?_ (Nat.le_refl _) _) | (refine bl_set ?_ (by dsimp only; omega) _) | (refine Below.drew ?_) | (refine bl_drewN ?_ _) | (refine bl_call ?_ (Nat.le_refl _) (by assumption)))⟩
    first | exact V2.set s0 _ _ | exact s0
  · have HG := Lib.hid (fun wz => wide_Root L (by omega) wz)
    generalize rootK 2 L = r at *
    go_enter Tryd.func60, Tryd.ntmps60
    go_upto_region 1 with fail
    clear hb00
    have s0 := V2.new w (.int .u64 0) (.int .u64 0) 28
    have hb00 : Below w.heap.size w (w.alloc (.cells #[(.int .u64 0), (.int .u64 0)] 28)) := by repeat (first | exact Below.refl _ _ | with_reducible assumption | (refine bl_alloc ?_ (Nat.le_refl _) _))
    have hsz : w.heap.size + 1 ≤ (w.alloc (.cells #[(.int .u64 0), (.int .u64 0)] 28)).heap.size := by simp only [World.size_alloc]; omega
    generalize (w.alloc (.cells #[(.int .u64 0), (.int .u64 0)] 28)) = w1 at s0 hb00 hsz ⊢
    go_wp2_with fail
    refine (HG.out _).mono ?_
    rintro e w3 ⟨rfl, hb3⟩
    replace hb00 := bl_call hb00 (Nat.le_refl _) hb3
    replace s0 := s0.call hb3
    obtain ⟨s00, s01, s02, s03, s04⟩ := V2.mk s0.c0 s0.c1 s0.f0 s0.f1 s0.lt
    go_wp2_with fail
    refine bodyPost_ret (results_v2_tmp (b := w.heap.size) (u := .int .u64 (lo r)) (v := .int .u64 (hi r)) ?_ rfl rfl) rfl ⟨rfl, by repeat (first | exact Below.refl _ _ | with_reducible assumption | (refine bl_alloc ?_ (Nat.le_refl _) _) | (refine bl_set ?_ (by dsimp only; omega) _) | (refine Below.drew ?_) | (refine bl_drewN ?_ _) | (refine bl_call ?_ (Nat.le_refl _) (by assumption)))⟩
    exact V2.set s0 _ _

/-- the powers of a number -/
def pows {f : Nat} (x : Fin (Pm f)) (n : Nat) : KL f := ofF n fun i => Fm.kpow x i
theorem pows_succ {f : Nat} (x : Fin (Pm f)) (n : Nat) : pows x (n + 1) = pows x n ++ [Fm.kpow x n] := by
  unfold pows ofF
  rw [List.range_succ, List.map_append]
  rfl
theorem pows_length {f : Nat} (x : Fin (Pm f)) (n : Nat) : (pows x n).length = n := ofF_length ..

set_option maxHeartbeats 4000000 in
theorem field_Powers {f : Nat} (hf : IsF f) (x : Fin (Pm f)) (n : Nat) (hn : n ≤ 4096) (w : World) :
    Calls Tryd.prog 66 #[.int .u8 f, vK x, .int .i64 n] w (RetOwn (pows x n) w) := by
  have HO := Lib.hid (fun wz => field_One hf wz)
  have HM := Lib.hid (fun y z wz => field_MulK hf y z wz)
  have hfb0 : (1 : Int) ≤ (f : Int) := by rcases hf.or with rfl | rfl <;> omega
  have hfb1 : (f : Int) ≤ 2 := by rcases hf.or with rfl | rfl <;> omega
  have hmx : max (n : Int) 0 = (n : Int) := by omega
  have hmn : min (n : Int) 4096 = (n : Int) := by omega
  have hb00 : Below w.heap.size w w := Below.refl _ _
  go_enter Tryd.func66, Tryd.ntmps66
  go_upto_region 1 with fail
  clear hb00
  have q0 := V2.new w (.int .u64 (lo x)) (.int .u64 (hi x)) 28
  have hb00 : Below w.heap.size w (w.alloc (.cells #[(.int .u64 (lo x)), (.int .u64 (hi x))] 28)) := by repeat (first | exact Below.refl _ _ | with_reducible assumption | (refine bl_alloc ?_ (Nat.le_refl _) _))
  have hsz : w.heap.size + 1 ≤ (w.alloc (.cells #[(.int .u64 (lo x)), (.int .u64 (hi x))] 28)).heap.size := by simp only [World.size_alloc]; omega
  generalize (w.alloc (.cells #[(.int .u64 (lo x)), (.int .u64 (hi x))] 28)) = w1 at q0 hb00 hsz ⊢
  go_upto_region 3 with (first
    | (go_at_call 75; refine (HO.out _).mono ?_; rintro e w2 ⟨rfl, hb2⟩; replace hb00 := bl_call hb00 (Nat.le_refl _) hb2; replace q0 := q0.call hb2))
  obtain ⟨r0, hr0⟩ : ∃ r : Fin (Pm f), 1 = r := ⟨_, rfl⟩
  rw [hr0]
  have o0 := V2.new w2 (.int .u64 (lo r0)) (.int .u64 (hi r0)) 28
  have hbA : Below w2.heap.size w2 (w2.alloc (.cells #[.int .u64 (lo r0), .int .u64 (hi r0)] 28)) := by repeat (first | exact Below.refl _ _ | with_reducible assumption | (refine bl_alloc ?_ (Nat.le_refl _) _))
  replace hb00 := bl_call hb00 (Nat.le_refl _) hbA
  replace q0 := q0.call hbA
  clear hbA
  generalize w2.alloc (.cells #[.int .u64 (lo r0), .int .u64 (hi r0)] 28) = w3 at hb00 q0 o0 ⊢
  obtain ⟨ob, hob⟩ : ∃ z, w2.heap.size = z := ⟨_, rfl⟩
  have hsb := hb2.size
  have hs3 := o0.lt
  rw [hob] at o0 hsb hs3
  simp only [hob]
  clear hob hb2
  have HR0 := Lib.hid hr0
  clear hr0
  go_wp2
  go_loopw [7, 14] (fun vr i wr => ∃ (j : Nat) (y : Fin (Pm f)) (A : Option Addr) (cp : Nat), j ≤ n ∧ i = .int .i64 j ∧ vr = .slice A j cp ∧ Hid (y = Fm.kpow x j) ∧ V2 wr ob (.int .u64 (lo y)) (.int .u64 (hi y)) ∧ V2 wr w.heap.size (.int .u64 (lo x)) (.int .u64 (hi x)) ∧
    wr.ownsRow (ob + 1) 28 2 (.slice A j cp) j (cellsE (esK (pows x j))) ∧ Below w.heap.size w wr ∧ ob + 1 ≤ wr.heap.size) (fun _ i _ => n - (intOf i).toNat)
  case atStart => exact ⟨0, r0, none, 0, Nat.zero_le _, rfl, rfl, HR0.out.symm, o0, q0, World.ownsRow_nil _ _ _ _, hb00, hs3⟩
  case round =>
    clear q0 o0 hb00 hs3
    obtain ⟨j, y, A, cp, hj, rfl, rfl, hy, o0, q0, hown, hb00, hsz⟩ := hrel
    by_cases hlt : j < n
    · have HZ : Hid (pows x (j + 1) = pows x j ++ [y]) := by show _ = _; rw [pows_succ, hy.out]
      have HY : Hid (y * x = Fm.kpow x (j + 1)) := by show _ = _; rw [hy.out, Fm.kpow_succ]
      have hbA : Below wr.heap.size wr (wr.alloc (.cells #[.int .u64 (lo y), .int .u64 (hi y)] 28)) := (Below.refl _ _).alloc (Nat.le_refl _) _
      have hE := BlkE.new wr [eK y] #[.int .u64 (lo y), .int .u64 (hi y)] rfl
      have HOW := Lib.hid (own_call hown hbA)
      have HR1 := Lib.hid (show 0 < 1 → ∃ b o, (some ⟨wr.heap.size, 0, none⟩ : Option Addr) = some ⟨b, o, none⟩ ∧ RowE (wr.alloc (.cells #[.int .u64 (lo y), .int .u64 (hi y)] 28)) b o [eK y] from fun _ => ⟨_, _, rfl, hE.rowE⟩)
      have hk1 : j + 1 ≤ 1099511627776 := by omega
      have hbase : ob + 1 ≤ (wr.alloc (.cells #[.int .u64 (lo y), .int .u64 (hi y)] 28)).heap.size := by rw [World.size_alloc]; omega
      clear hown hE hbA
      obtain ⟨o00, o01, o02, o03, o04⟩ := V2.mk o0.c0 o0.c1 o0.f0 o0.f1 o0.lt
      go_upto_region 6 with (at_builtin; (refine wpList_append_E rfl (.tmp 16) (.tmp 18) rfl (ob + 1) _ j (esK (pows x j)) rfl HOW.out (some ⟨wr.heap.size, 0, none⟩) 1 1 [eK y] rfl rfl HR1.out hk1 hbase ?_; intro v2 w2 hown2 hg2 hat2; have hb2 : Below (ob + 1) wr w2 := ((Below.refl _ _).alloc hsz _).trans ((Below.refl _ _).grown hg2 hbase (fun q hq => (HOW.out.lt q hq).1)); obtain ⟨g2, cap2, hv2⟩ := own_slice hown2; rw [hv2]))
      rw [hv2, show esK (pows x j) ++ [eK y] = esK (pows x (j + 1)) by rw [HZ.out, esK_append]; rfl] at hown2
      clear o00 o01 o02 o03 o04
      replace o0 := o0.belowB hb2 (by omega)
      replace q0 := q0.belowB hb2 (by omega)
      replace hb00 : Below w.heap.size w w2 := hb00.trans (hb2.mono (by omega))
      have hz2 := hb2.size
      clear hb2 hg2 hat2 hbase
      obtain ⟨q00, q01, q02, q03, q04⟩ := V2.mk q0.c0 q0.c1 q0.f0 q0.f1 q0.lt
      obtain ⟨o00, o01, o02, o03, o04⟩ := V2.mk o0.c0 o0.c1 o0.f0 o0.f1 o0.lt
      go_wp2_with fail
      refine (HM.out y x _).mono ?_
      rintro e w5 ⟨rfl, hb5⟩
      clear q00 q01 q02 q03 q04 o00 o01 o02 o03 o04
      replace hb00 := bl_call hb00 (Nat.le_refl _) hb5
      replace q0 := q0.call hb5
      replace o0 := o0.call hb5
      have hown5 := own_call hown2 hb5
      have hz5 := hb5.size
      clear hown2 hb5
      obtain ⟨o00, o01, o02, o03, o04⟩ := V2.mk o0.c0 o0.c1 o0.f0 o0.f1 o0.lt
      go_wp2_with fail
      go_roundw
      case rel => exact ⟨j + 1, _, _, cap2, by omega, by go_num, rfl, HY, V2.set o0 _ _, V2.oth q0 (b := ob) (by omega) _ _, own_st hown5 (by omega) _ _, bl_st hb00 (by omega) _ _, by rw [size_st]; omega⟩
      case measure => simp [intOf]; omega
    · obtain rfl : j = n := by omega
      have hlen := pows_length x j
      have HL := Lib.hid hlen
      have HW := Lib.hid hown
      clear hlen hown
      go_wp2
      go_ret
      exact ⟨_, rfl, by rw [HL.out]; exact own_mono HW.out (by omega), hb00⟩

end Go.Proofs.YtfhmineolncefaaDoor

namespace Go.Proofs.YtfhmineolncefaaDoor
open Go Go.RowKit

section
variable {P : Program} {ops : Array Oper} {Q : Exit → Act → World → Prop} {md : Region.Mode} {n m : Nat} {L L' : Act → World → Prop}

theorem wpG_monoL (hL : ∀ a w, L a w → L' a w) : ∀ (f : Nat) (listed : Array Bool) (a : Act) (S : World → Prop), wpG P md ops Q n m L f listed a S → wpG P md ops Q n m L' f listed a S
  | 0, listed, a, S, h => ⟨h.1, fun w hS => hL _ _ (h.2 w hS)⟩
  | f + 1, listed, a, S, h => ⟨h.1, fun i hi => ⟨(h.2 i hi).1, fun w hS => wpOp_mono (fun a' w' h' => by
      obtain ⟨S', h1, h2, h3, h4⟩ := h'
      exact ⟨S', h1, h2, h3, wpG_monoL hL f _ a' S' h4⟩) ((h.2 i hi).2 w hS)⟩⟩

theorem WpG.monoL {f : Nat} {listed : Array Bool} {a : Act} {S : World → Prop} (hL : ∀ a w, L a w → L' a w) (h : WpG P md ops Q n m L f listed a S) : WpG P md ops Q n m L' f listed a S :=
  fun hC hp inv => wpG_monoL hL f listed a S (h hC hp inv)
end

section
variable {P : Program} {Q : Exit → Act → World → Prop}

/-- four numbers are made anew -/
theorem region_G4 {id n m f : Nat} {l : List Oper} {a : Act} {w : World} (R : Nat → Nat → Nat → Nat → World → Prop) {E : Nat → Nat → Nat → Nat → Act} (hm : P.follows .mixedOrders = true) (hB : partsB .any l.toArray n m (Array.replicate l.length false) = true) (hf : f + (m - n) = l.length)
    (h : WpG P .any l.toArray Q n m (fun a w => ∃ x y z u, a = E x y z u ∧ R x y z u w) f (Array.replicate l.length false) a (Below w.heap.size w))
    (hc : ∀ x y z u w', R x y z u w' → wpList P l.toArray Q ((l.drop n).take (m - n)) (E x y z u) w') : (Code.region id l.toArray true).wp P Q a w :=
  region_G hm hB hf (h.monoL fun _ w ⟨x, y, z, u, e, hr⟩ => e ▸ hc x y z u w hr)

/-- two numbers are made anew -/
theorem region_G2 {id n m f : Nat} {l : List Oper} {a : Act} {w : World} (R : Nat → Nat → World → Prop) {E : Nat → Nat → Act} (hm : P.follows .mixedOrders = true) (hB : partsB .any l.toArray n m (Array.replicate l.length false) = true) (hf : f + (m - n) = l.length)
    (h : WpG P .any l.toArray Q n m (fun a w => ∃ x y, a = E x y ∧ R x y w) f (Array.replicate l.length false) a (Below w.heap.size w))
    (hc : ∀ x y w', R x y w' → wpList P l.toArray Q ((l.drop n).take (m - n)) (E x y) w') : (Code.region id l.toArray true).wp P Q a w :=
  region_G hm hB hf (h.monoL fun _ w ⟨x, y, e, hr⟩ => e ▸ hc x y w hr)
end

end Go.Proofs.YtfhmineolncefaaDoor
