/-
  WALKS: circuit.number of whatever limbs; circuit.Truncate.
-/
/-
  WALKS: slices.Clone of elements, poly.Trim, poly.Degree; the reference's Trim.
-/
/-
  PURE MATHEMATICS: what stands in a product's list while it is made, coefficient by coefficient; sums and products of trimmed polynomials.
-/
/-
  WALKS: poly.Add, poly.Scale, poly.direct.
-/
/-
  WALK: the reference's Valid.
-/
/-
  PURE: what circuit.Run says of a vector, the gadget being asked by calls.
-/
import Derived.Test.YtfhmineolncefaaDoorMar
import Derived.Test.YtfhmineolncefaaDoorMag
import Derived.Test.YtfhmineolncefaaDoorMao
import Derived.Test.YtfhmineolncefaaDoorMaf
import Derived.Test.YtfhmineolncefaaDoorMab
import Derived.WalkSpells
import Derived.Test.YtfhmineolncefaaDoorMap
import Derived.Test.YtfhmineolncefaaDoorMaq
import Derived.Test.YtfhmineolncefaaDoorMam
namespace Go.Proofs.YtfhmineolncefaaDoor
open Go.RowKit Fm
set_option linter.unusedVariables false
set_option maxRecDepth 100000

/-- elements, as what they stand for -/
def kEs (f : Nat) (l : List E) : KL f := l.map (kE f)
theorem kEs_length (f : Nat) (l : List E) : (kEs f l).length = l.length := List.length_map ..
theorem kEs_at {f : Nat} {l : List E} {i : Nat} {e : E} (h : l[i]? = some e) : (kEs f l)[i]? = some (kE f e) := by unfold kEs; rw [List.getElem?_map, h]; rfl
theorem kEs_esK {f : Nat} (l : KL f) : kEs f (esK l) = l := by
  unfold kEs esK
  rw [List.map_map]
  conv => rhs; rw [← List.map_id l]
  exact List.map_congr_left fun x _ => kE_eK x

section
variable {f : Nat} (hf : IsF f)
include hf

/-- what is summed of a vector: numbers of b bits each -/
def numsE (b n : Nat) (l : List E) : List E := (List.range n).map fun i => eK (knum ((kEs f l).drop (i * b) |>.take b))
omit hf in
theorem numsE_length (b n : Nat) (l : List E) : (numsE (f := f) b n l).length = n := by unfold numsE; rw [List.length_map, List.length_range]
omit hf in
theorem numsE_at (b n : Nat) (l : List E) (i : Nat) (h : i < n) : (numsE (f := f) b n l)[i]? = some (eK (knum ((kEs f l).drop (i * b) |>.take b))) := by
  unfold numsE
  rw [List.getElem?_map, List.getElem?_range h]
  rfl
omit hf in
theorem numsE_ok (b n : Nat) (l : List E) : ∀ e, e ∈ numsE (f := f) b n l → okE e := by
  intro e he
  unfold numsE at he
  obtain ⟨i, _, rfl⟩ := List.mem_map.1 he
  exact okE_eK _

/-- what of a vector is summed -/
def truncE (f : Nat) (y : CK) (l : List E) : List E :=
  match y with
  | .sum b => numsE (f := f) b 1 l
  | .vec b n _ => numsE (f := f) b n l
  | _ => l.take y.nout
def lenV : Value → Nat
  | .slice _ n _ => n
  | _ => 0
/-- a slice of elements and no error come back -/
def RetSE (zs : List E) (w : World) (e : Ending) (w' : World) : Prop := ∃ v, e = .returned (.tuple #[v, .int .i64 0]) ∧ SlE w' w'.heap.size v zs ∧ Below w.heap.size w w'

omit hf in
theorem SlE.takeN {w : World} {B : Nat} {A : Option Addr} {c : Nat} {l : List E} {n L : Nat} (h : SlE w B (.slice A L c) l) (hn : n ≤ L) : SlE w B (.slice A n c) (l.take n) := by
  obtain ⟨⟨A', c', hh, h1, h2, h3⟩, hok⟩ := h
  injection hh with e1 e2 e3
  subst e1 e2 e3
  have hl : (l.take n).length = n := by rw [List.length_take]; omega
  refine ⟨⟨A, c, by rw [hl], by omega, h2, fun h0 => ?_⟩, fun e he => hok e (List.mem_of_mem_take he)⟩
  rw [hl] at h0
  obtain ⟨b, o, hA, hB, hr⟩ := h3 (by omega)
  refine ⟨b, o, hA, hB, fun i e hi => hr i e ?_⟩
  rw [List.getElem?_take] at hi
  split at hi
  · exact hi
  · cases hi
omit hf in
theorem SlE.dropN {w : World} {B b o : Nat} {c : Nat} {l : List E} {n L : Nat} (h : SlE w B (.slice (some ⟨b, o, none⟩) L c) l) (hn : n < L) : SlE w B (.slice (some ⟨b, o + n * 2, none⟩) (L - n) (c - n)) (l.drop n) := by
  obtain ⟨⟨A', c', hh, h1, h2, h3⟩, hok⟩ := h
  injection hh with e1 e2 e3
  subst e1 e2 e3
  have hl : (l.drop n).length = l.length - n := List.length_drop
  refine ⟨⟨some ⟨b, o + n * 2, none⟩, c - n, by rw [hl], by omega, by omega, fun h0 => ?_⟩, fun e he => hok e (List.mem_of_mem_drop he)⟩
  obtain ⟨b', o', hA, hB, hr⟩ := h3 (by omega)
  injection hA with hA
  injection hA with hb ho
  subst hb
  subst ho
  refine ⟨b, o + n * 2, rfl, hB, fun i e hi => ?_⟩
  rw [List.getElem?_drop] at hi
  have h4 := hr (n + i) e hi
  rw [show o + n * 2 + i * 2 = o + (n + i) * 2 by omega]
  exact h4

omit hf in
theorem CK.nout_nin (y : CK) (hk : ¬ (y.k = 2 ∨ y.k = 3)) : y.nout ≤ y.nin := by
  cases y with
  | count => exact Nat.le_refl _
  | sum b => exact absurd (.inl rfl) hk
  | vec b l c => exact absurd (.inr rfl) hk
  | hist l c => exact Nat.le_refl _
  | multi l m c => exact Nat.le_add_right _ _

end

end Go.Proofs.YtfhmineolncefaaDoor

namespace Go.Proofs.YtfhmineolncefaaDoor
open Go.RowKit Fm
set_option linter.unusedVariables false
set_option maxRecDepth 100000

section
variable {f : Nat}

/-- a slice of elements comes back -/
def RetSq (l : KL f) (w : World) (e : Ending) (w' : World) : Prop := ∃ q : Option Addr × Nat, e = .returned (.slice q.1 l.length q.2) ∧ SlK w' w'.heap.size (.slice q.1 l.length q.2) l ∧ Below w.heap.size w w'
theorem RetOwn.sq {l : KL f} {w w' : World} {e : Ending} (h : RetOwn l w e w') : RetSq l w e w' := by
  obtain ⟨v, rfl, ho, hb⟩ := h
  obtain ⟨A, c, rfl⟩ := own_shape ho
  exact ⟨(A, c), rfl, own_sl rfl ho, hb⟩

set_option maxHeartbeats 2000000 in
theorem slices_Clone (vl : Value) (l : KL f) (w : World) (hs : SlK w w.heap.size vl l) (hn : l.length ≤ 1000000) :
    Calls Tryd.prog 74 #[vl] w (RetOwn l w) := by
  obtain ⟨A, c, rfl, hc, hcm, hA⟩ := hs
  cases A with
  | none =>
    have hl : l = [] := by
      cases l with
      | nil => rfl
      | cons a l =>
        obtain ⟨b, o, h, _⟩ := hA (by simp)
        cases h
    subst hl
    have hnil := Lib.run_eql_slice_nil (P := Tryd.prog)
    go_enter Tryd.func74, Tryd.ntmps74
    go_wp2
    go_ret
    exact ⟨_, rfl, World.ownsRow_nil _ _ _ _, Below.refl _ _⟩
  | some p =>
    have hown0 : (w.alloc (.cells #[] 28)).ownsRow w.heap.size 28 2 (.slice (some ⟨w.heap.size, 0, none⟩) 0 0) 0 (cellsE []) := World.ownsRow_made w #[] 0 (Nat.le_refl _) (by unfold maxLen; omega) rfl
    have hb1 : Below w.heap.size w (w.alloc (.cells #[] 28)) := (Below.refl _ _).alloc (Nat.le_refl _) _
    have HYR : Hid (0 < l.length → ∃ b o, (some p : Option Addr) = some ⟨b, o, none⟩ ∧ RowE (w.alloc (.cells #[] 28)) b o (esK l)) := by
      intro h
      obtain ⟨b, o, h1, h2, h3⟩ := hA h
      exact ⟨b, o, h1, h3.below hb1 h2⟩
    have hnil := Lib.run_eql_slice_nil (P := Tryd.prog)
    have HEL := Lib.hid (esK_length l)
    have HW := Lib.hid hown0
    clear hA hown0
    go_enter Tryd.func74, Tryd.ntmps74
    go_wp2_with (at_builtin; (refine wpList_append_E rfl (.tmp 5) (.tmp 6) rfl w.heap.size _ 0 [] rfl HW.out (some p) l.length c (esK l) rfl HEL.out HYR.out (by omega) (by simp) ?_; intro v2 w2 hown2 hg2 hat2; have hb2 : Below w.heap.size w w2 := hb1.trans ((Below.refl _ _).grown hg2 (by simp) (fun k hk => Nat.le_of_eq (Option.some.inj hk)))))
    go_ret
    exact ⟨_, rfl, by simpa using hown2, hb2⟩

theorem SlK.takeK {w : World} {B : Nat} {A : Option Addr} {c n : Nat} {l : KL f} (h : SlK w B (.slice A l.length c) l) (hn : n ≤ l.length) : SlK w B (.slice A n c) (l.take n) := by
  have h1 := (h.toE.takeN hn)
  rw [show (esK l).take n = esK (l.take n) by unfold esK; rw [List.map_take]] at h1
  exact h1.toK

theorem vK_eq (x y : Fin (Pm f)) : (lo x == lo y && hi x == hi y) = decide (x = y) := by
  by_cases h : x = y
  · subst h
    simp
  · rw [decide_eq_false h]
    cases h1 : (lo x == lo y) with
    | false => rfl
    | true =>
      cases h2 : (hi x == hi y) with
      | false => rfl
      | true => exact absurd (lohi_inj (by simpa using h1) (by simpa using h2)) h
theorem vK_eq0 (x : Fin (Pm f)) : (lo x == 0 && hi x == 0) = decide (x = 0) := by
  have h := vK_eq x 0
  rwa [lo_zero, hi_zero] at h

set_option maxHeartbeats 4000000 in
theorem poly_Trim (vl : Value) (l : KL f) (w : World) (hs : SlK w w.heap.size vl l) (hn : l.length ≤ 1000000) :
    Calls Tryd.prog 40 #[vl] w (RetOwn (trim l) w) := by
  have H0 := Lib.hid hs
  have heq := eql_elem
  have HE := Lib.hid (vK_eq0 (f := f))
  obtain ⟨A, c, rfl, hc, hcm, hA⟩ := hs
  have HA := Lib.hid hA
  clear hA
  go_enter Tryd.func40, Tryd.ntmps40
  go_wp2
  go_loop [3] (fun nv => ∃ n : Nat, n ≤ l.length ∧ nv = .int .i64 n ∧ Hid (∀ i, n ≤ i → l.getD i 0 = 0)) (fun nv => (intOf nv).toNat)
  case atStart => exact ⟨l.length, Nat.le_refl _, rfl, fun i hi => Fm.getD_end hi⟩
  case round =>
    obtain ⟨n, hnl, rfl, hz⟩ := hrel
    by_cases hn0 : n = 0
    · subst hn0
      have HT : Hid (trim l = l.take 0) := trim_cut 0 (Nat.zero_le _) hz.out (.inl rfl)
      clear hz
      have HS : Hid (SlK w w.heap.size (.slice A 0 c) (l.take 0)) := H0.out.takeK hnl
      have HTL : Hid ((l.take 0).length ≤ 1000000) := by show _ ≤ _; rw [List.length_take]; omega
      go_wp2_with fail
      refine (slices_Clone _ (l.take 0) w HS.out HTL.out).mono ?_
      rintro e w1 ⟨v, rfl, ho, hb1⟩
      go_wp2
      go_ret
      exact ⟨_, rfl, by rw [HT.out]; exact ho, hb1⟩
    · obtain ⟨m, rfl⟩ : ∃ m, n = m + 1 := ⟨n - 1, by omega⟩
      obtain ⟨x, hx⟩ : ∃ x, l[m]? = some x := ⟨_, List.getElem?_eq_getElem (by omega)⟩
      have hxd : l.getD m 0 = x := by rw [List.getD_eq_getElem?_getD, hx]; rfl
      obtain ⟨b, o, hAe, hB, hrow⟩ := HA.out (by omega)
      obtain ⟨c0, c1⟩ := hrow.kat hx
      have hml : m < l.length := by omega
      have g1 : (0 : Int) ≤ (m : Int) := by omega
      have g2 : (m : Int) < (l.length : Int) := by omega
      have hbx := HE.out x
      by_cases hx0 : x = 0
      · rw [decide_eq_true hx0] at hbx
        have HZ : Hid (∀ i, m ≤ i → l.getD i 0 = 0) := fun i hi => by
          by_cases he : i = m
          · rw [he, hxd, hx0]
          · exact hz.out i (by omega)
        subst hAe
        clear hx0 hz hxd hx hrow
        go_wp2
        go_round
        case rel => exact ⟨m, by omega, by go_num, HZ.out⟩
        case measure => simp [intOf]
      · rw [decide_eq_false hx0] at hbx
        have HT : Hid (trim l = l.take (m + 1)) := trim_cut (m + 1) hnl hz.out (.inr (by rw [Nat.add_sub_cancel, hxd]; exact hx0))
        subst hAe
        clear hx0 hz hxd hx hrow
        have HS : Hid (SlK w w.heap.size (.slice (some ⟨b, o, none⟩) (m + 1) c) (l.take (m + 1))) := H0.out.takeK hnl
        have HTL : Hid ((l.take (m + 1)).length ≤ 1000000) := by show _ ≤ _; rw [List.length_take]; omega
        go_wp2_with fail
        refine (slices_Clone _ (l.take (m + 1)) w HS.out HTL.out).mono ?_
        rintro e w1 ⟨v, rfl, ho, hb1⟩
        go_wp2
        go_ret
        exact ⟨_, rfl, by rw [HT.out]; exact ho, hb1⟩

theorem poly_Degree (vl : Value) (l : KL f) (w : World) (hs : SlK w w.heap.size vl l) (hn : l.length ≤ 1000000) :
    Calls Tryd.prog 41 #[vl] w fun e w' => e = .returned (.int .i64 (((trim l).length : Int) - 1)) ∧ Below w.heap.size w w' := by
  have H := Lib.hid (poly_Trim vl l w hs hn)
  have htl := trim_le l
  generalize trim l = t at *
  have htb : t.length ≤ 1000000 := by omega
  clear hs hn htl
  go_enter Tryd.func41, Tryd.ntmps41
  go_wp2_with fail
  refine H.out.mono ?_
  rintro e w1 ⟨v, rfl, ho, hb1⟩
  obtain ⟨A, c, rfl⟩ := own_shape ho
  go_wp2
  go_ret
  exact ⟨rfl, hb1⟩

set_option maxHeartbeats 4000000 in
theorem ref_Trim (A : Option Addr) (c : Nat) (l : KL f) (w : World) (hs : SlK w w.heap.size (.slice A l.length c) l) (hn : l.length ≤ 1000000) :
    Calls Tryd.prog 34 #[.slice A l.length c] w fun e w' => e = .returned (.slice A (trim l).length c) ∧ w = w' := by
  have HE := Lib.hid (vK_eq0 (f := f))
  have heq := neq_elem
  obtain ⟨A', c', e0, hc, hcm, hA⟩ := id hs
  injection e0 with e1 e2 e3
  subst e1
  subst e3
  have HA := Lib.hid hA
  have HTL := Lib.hid (trim_take l)
  clear hA hs e2
  go_enter Tryd.func34, Tryd.ntmps34
  go_wp2
  go_loop [3, 4] (fun nv iv => ∃ n i : Nat, n ≤ i ∧ i ≤ l.length ∧ nv = .int .i64 n ∧ iv = .int .i64 i ∧ Hid ((∀ j, n ≤ j → j < i → l.getD j 0 = 0) ∧ (n = 0 ∨ l.getD (n - 1) 0 ≠ 0))) (fun _ iv => l.length - (intOf iv).toNat)
  case atStart => exact ⟨0, 0, Nat.le_refl _, Nat.zero_le _, rfl, rfl, fun j h1 h2 => absurd h2 (Nat.not_lt_zero _), .inl rfl⟩
  case round =>
    obtain ⟨n, i, hni, hil, rfl, rfl, hz⟩ := hrel
    by_cases hlt : i < l.length
    · obtain ⟨x, hx⟩ : ∃ x, l[i]? = some x := ⟨_, List.getElem?_eq_getElem hlt⟩
      have hxd : l.getD i 0 = x := by rw [List.getD_eq_getElem?_getD, hx]; rfl
      obtain ⟨b, o, hAe, hB, hrow⟩ := HA.out (by omega)
      obtain ⟨c0, c1⟩ := hrow.kat hx
      have g1 : (0 : Int) ≤ (i : Int) := by omega
      have g2 : (i : Int) < (l.length : Int) := by omega
      have hbx := HE.out x
      subst hAe
      by_cases hx0 : x = 0
      · rw [decide_eq_true hx0] at hbx
        have HZ : Hid ((∀ j, n ≤ j → j < i + 1 → l.getD j 0 = 0) ∧ (n = 0 ∨ l.getD (n - 1) 0 ≠ 0)) := ⟨fun j h1 h2 => by
          by_cases he : j = i
          · rw [he, hxd, hx0]
          · exact hz.out.1 j h1 (by omega), hz.out.2⟩
        clear hx0 hz hxd hx hrow
        go_wp2
        go_round
        case rel => exact ⟨n, i + 1, by omega, by omega, rfl, by go_num, HZ.out⟩
        case measure => simp [intOf]; omega
      · rw [decide_eq_false hx0] at hbx
        have HZ : Hid ((∀ j, i + 1 ≤ j → j < i + 1 → l.getD j 0 = 0) ∧ (i + 1 = 0 ∨ l.getD (i + 1 - 1) 0 ≠ 0)) := ⟨fun j h1 h2 => by omega, .inr (by rw [Nat.add_sub_cancel, hxd]; exact hx0)⟩
        clear hx0 hz hxd hx hrow
        go_wp2
        go_round
        case rel => exact ⟨i + 1, i + 1, by omega, by omega, by go_num, by go_num, HZ.out⟩
        case measure => simp [intOf]; omega
    · obtain rfl : i = l.length := by omega
      have hT := trim_cut n hni (fun j hj => by
        by_cases hjl : j < l.length
        · exact hz.out.1 j hj hjl
        · exact Fm.getD_end (by omega)) hz.out.2
      have HL : Hid ((trim l).length = n) := by show _ = _; rw [hT, List.length_take]; omega
      clear hz hT
      go_wp2
      go_ret
      rw [HL.out]
      exact ⟨rfl, rfl⟩
end

end Go.Proofs.YtfhmineolncefaaDoor

namespace Go.Proofs.YtfhmineolncefaaDoor.Fm
set_option linter.unusedVariables false

section
variable {f : Nat}
/-- the products of the first I of a with all of b, and of the next one with the first K of b -/
def dcv (a b : Nat → Fin (Pm f)) (I K m : Nat) : Fin (Pm f) :=
  sm (fun i => if i ≤ m then a i * b (m - i) else 0) I + if I ≤ m ∧ m < I + K then a I * b (m - I) else 0
theorem dcv_zero (a b : Nat → Fin (Pm f)) (m : Nat) : dcv a b 0 0 m = 0 := by
  unfold dcv
  rw [sm_zero, if_neg (by omega)]
  grind
theorem dcv_at (a b : Nat → Fin (Pm f)) (I K : Nat) : dcv a b I (K + 1) (I + K) = dcv a b I K (I + K) + a I * b K := by
  unfold dcv
  rw [if_pos (by omega), if_neg (by omega), Nat.add_sub_cancel_left]
  grind
theorem dcv_other (a b : Nat → Fin (Pm f)) (I K m : Nat) (h : m ≠ I + K) : dcv a b I (K + 1) m = dcv a b I K m := by
  unfold dcv
  by_cases h1 : I ≤ m ∧ m < I + K
  · rw [if_pos h1, if_pos (by omega)]
  · rw [if_neg h1, if_neg (by omega)]
theorem dcv_row (a b : Nat → Fin (Pm f)) (I lb m : Nat) (hb : ∀ j, lb ≤ j → b j = 0) : dcv a b I lb m = dcv a b (I + 1) 0 m := by
  unfold dcv
  rw [sm_succ, if_neg (c := I + 1 ≤ m ∧ m < I + 1 + 0) (by omega)]
  by_cases h1 : I ≤ m
  · rw [if_pos h1]
    by_cases h2 : m < I + lb
    · rw [if_pos ⟨h1, h2⟩]
      grind
    · rw [if_neg (by omega), hb (m - I) (by omega)]
      grind
  · rw [if_neg (c := I ≤ m) h1, if_neg (by omega)]
    grind
theorem dcv_end (a b : Nat → Fin (Pm f)) (la m : Nat) (ha : ∀ j, la ≤ j → a j = 0) : dcv a b la 0 m = cv a b m := by
  unfold dcv cv
  rw [if_neg (by omega)]
  have h1 : sm (fun i => if i ≤ m then a i * b (m - i) else 0) (la + (m + 1)) = sm (fun i => if i ≤ m then a i * b (m - i) else 0) la := sm_more (by omega) (fun i h1 h2 => by rw [ha i h1]; split <;> grind)
  have h2 : sm (fun i => if i ≤ m then a i * b (m - i) else 0) (la + (m + 1)) = sm (fun i => if i ≤ m then a i * b (m - i) else 0) (m + 1) := sm_more (by omega) (fun i h1 h2 => by rw [if_neg (by omega)])
  rw [← h1, h2, sm_congr (h := fun i => a i * b (m - i)) (fun i hi => by rw [if_pos (by omega)])]
  grind
/-- the list while it is made -/
def dl (a b : List (Fin (Pm f))) (I K : Nat) : List (Fin (Pm f)) := ofF (a.length + b.length - 1) (dcv (fun i => a.getD i 0) (fun i => b.getD i 0) I K)
theorem dl_length (a b : List (Fin (Pm f))) (I K : Nat) : (dl a b I K).length = a.length + b.length - 1 := ofF_length ..
theorem dl_zero (a b : List (Fin (Pm f))) : dl a b 0 0 = List.replicate (a.length + b.length - 1) 0 := by
  refine List.ext_getElem (by rw [dl_length, List.length_replicate]) fun i h1 h2 => ?_
  simp [dl, ofF, dcv_zero]
theorem dl_next (a b : List (Fin (Pm f))) (I K : Nat) (hI : I < a.length) (hK : K < b.length) (z : Fin (Pm f)) (hz : z = (dl a b I K).getD (I + K) 0 + a.getD I 0 * b.getD K 0) : (dl a b I K).set (I + K) z = dl a b I (K + 1) := by
  refine ofF_set _ _ _ _ _ ?_ fun m hm hne => dcv_other _ _ _ _ _ hne
  rw [dcv_at, hz]
  unfold dl
  rw [ofF_getD, if_pos (by omega)]
theorem dl_row (a b : List (Fin (Pm f))) (I : Nat) : dl a b I b.length = dl a b (I + 1) 0 := ofF_congr fun m _ => dcv_row _ _ _ _ _ fun j hj => getD_end hj
theorem dl_end (a b : List (Fin (Pm f))) : dl a b a.length 0 = prodL a b := ofF_congr fun m _ => dcv_end _ _ _ _ fun j hj => getD_end hj

theorem pmul_trim {a b : List (Fin (Pm f))} (ha : a.length ≤ 400000) (hb : b.length ≤ 400000) : pmul (trim a) (trim b) = pmul a b := by
  have h1 := trim_le a
  have h2 := trim_le b
  refine trim_ev (by rw [prodL_length]; omega) (by rw [prodL_length]; omega) fun x => ?_
  rw [prodL_ev, prodL_ev, ev_trim, ev_trim]
theorem pmul_nil_left (b : List (Fin (Pm f))) : pmul [] b = [] := trim_nil fun i => by
  unfold prodL
  rw [ofF_getD]
  split
  · exact sm_none fun i _ => by
      show (0 : Fin (Pm f)) * _ = 0
      grind
  · rfl
theorem pmul_nil_right (a : List (Fin (Pm f))) : pmul a [] = [] := trim_nil fun i => by
  unfold prodL
  rw [ofF_getD]
  split
  · exact sm_none fun i _ => by
      show _ * (0 : Fin (Pm f)) = 0
      grind
  · rfl
end

end Go.Proofs.YtfhmineolncefaaDoor.Fm

namespace Go.Proofs.YtfhmineolncefaaDoor
open Go.RowKit Fm
set_option linter.unusedVariables false
set_option maxRecDepth 100000

theorem lenN_ne {α : Type} {l : List α} {n : Nat} (h : n < l.length) : 0 < l.length := by omega

section
variable {f : Nat} (hf : IsF f)
include hf

set_option maxHeartbeats 8000000 in
theorem poly_Add (va vb : Value) (a b : KL f) (w : World) (ha : SlK w w.heap.size va a) (hb : SlK w w.heap.size vb b) (hal : a.length ≤ 400000) (hbl : b.length ≤ 400000) :
    Calls Tryd.prog 38 #[.int .u8 f, va, vb] w (RetOwn (padd a b) w) := by
  have hfb0 : (1 : Int) ≤ (f : Int) := by rcases hf.or with rfl | rfl <;> omega
  have hfb1 : (f : Int) ≤ 2 := by rcases hf.or with rfl | rfl <;> omega
  have HADD := Lib.hid (fun x y wz => field_AddK hf x y wz)
  obtain ⟨A, c, rfl, hc, hcm, hA⟩ := ha
  obtain ⟨B, d, rfl, hd, hdm, hB⟩ := hb
  obtain ⟨N, hN⟩ : ∃ N, max a.length b.length = N := ⟨_, rfl⟩
  have hNi : max (a.length : Int) (b.length : Int) = (N : Int) := by omega
  have hNa : a.length ≤ N := by omega
  have hNb : b.length ≤ N := by omega
  have hNm : N ≤ 400000 := by omega
  have hmk := make_elem N (by omega)
  have HEND : Hid (∀ S : KL f, S.length = N → (∀ j, j < N → S.getD j 0 = a.getD j 0 + b.getD j 0) → trim S = padd a b) := fun S h1 h2 => by
    unfold padd
    rw [hN, ← eq_ofF h1 h2]
  have HA := Lib.hid hA
  have HB := Lib.hid hB
  clear hA hB hN
  go_enter Tryd.func38, Tryd.ntmps38
  go_upto_region 3 with fail
  have hB0 := RwK.new w (List.replicate N (0 : Fin (Pm f))) (cellsE (List.replicate N (0, 0))).toArray (by unfold esK; rw [List.map_replicate, eK_zero]) 28
  have hb00 : Below w.heap.size w (w.alloc (.cells (cellsE (List.replicate N (0, 0))).toArray 28)) := by repeat (first | exact Below.refl _ _ | with_reducible assumption | (refine bl_alloc ?_ (Nat.le_refl _) _) | (refine bl_set ?_ (by dsimp only; omega) _) | (refine Below.drew ?_) | (refine bl_drewN ?_ _) | (refine bl_call ?_ (Nat.le_refl _) (by assumption)))
  generalize w.alloc (.cells (cellsE (List.replicate N (0, 0))).toArray 28) = w1 at hB0 hb00 ⊢
  clear hmk
  go_wp2_with fail
  go_loopw [19] (fun kv wr => ∃ (k : Nat) (S : KL f), k ≤ N ∧ kv = .int .i64 k ∧ Hid (S.length = N ∧ (∀ j, j < k → S.getD j 0 = a.getD j 0 + b.getD j 0) ∧ ∀ j, k ≤ j → S.getD j 0 = 0) ∧ RwK wr w.heap.size S ∧ Below w.heap.size w wr) (fun kv _ => N - (intOf kv).toNat)
  case atStart => exact ⟨0, _, Nat.zero_le _, rfl, ⟨List.length_replicate .., fun j h => absurd h (Nat.not_lt_zero _), fun j _ => getD_zeros _ _⟩, hB0, hb00⟩
  case round =>
    clear hB0 hb00
    obtain ⟨k, S, hk, rfl, hS, hR, hb00⟩ := hrel
    by_cases hkN : k < N
    · have g1 : (0 : Int) ≤ (k : Int) := by omega
      have g3 : (k : Int) < (N : Int) := by omega
      have HSL : Hid (S.length = N) := hS.out.1
      have HS1 : Hid (∀ j, j < k → S.getD j 0 = a.getD j 0 + b.getD j 0) := hS.out.2.1
      have HS2 : Hid (∀ j, k < j → S.getD j 0 = 0) := fun j hj => hS.out.2.2 j (by omega)
      obtain ⟨x, hx⟩ : ∃ x, S[k]? = some x := ⟨_, List.getElem?_eq_getElem (by have := HSL.out; omega)⟩
      have hx0 : x = 0 := by
        have h := hS.out.2.2 k (Nat.le_refl _)
        rw [List.getD_eq_getElem?_getD, hx] at h
        exact h
      clear hS
      by_cases hka : k < a.length
      · obtain ⟨b1, o1, hAe, hbw1, hrow1⟩ := HA.out (by omega)
        obtain ⟨z, hz⟩ : ∃ z, a[k]? = some z := ⟨_, List.getElem?_eq_getElem hka⟩
        have HXA : Hid (a.getD k 0 = z) := by show _ = _; rw [List.getD_eq_getElem?_getD, hz]; rfl
        obtain ⟨d0, d1⟩ := (hrow1.below hb00 hbw1).kat hz
        obtain ⟨c0, c1⟩ := hR.at hx
        obtain ⟨f0, f1⟩ := hR.frz (i := k) (by have := HSL.out; omega)
        have g6 : (k : Int) < (a.length : Int) := by omega
        have g9 := hR.lt
        subst hAe
        clear hz hx0 hx hrow1
        go_upto_region 8 with fail
        replace hR := hR.set k (by have := HSL.out; omega) z
        replace hb00 := bl_set (p := ⟨w.heap.size, k * 2 + 1, none⟩) (bl_set (p := ⟨w.heap.size, k * 2, none⟩) hb00 (by dsimp only; omega) (.int .u64 (lo z))) (by dsimp only; omega) (.int .u64 (hi z))
        generalize (wr.setCell ⟨w.heap.size, k * 2, none⟩ (.int .u64 (lo z))).setCell ⟨w.heap.size, k * 2 + 1, none⟩ (.int .u64 (hi z)) = w5 at hR hb00 ⊢
        replace HS1 : Hid (∀ j, j < k → (S.set k z).getD j 0 = a.getD j 0 + b.getD j 0) := fun j hj => by rw [set_getD _ _ _ (by have := HSL.out; omega), if_neg (by omega)]; exact HS1.out j hj
        replace HS2 : Hid (∀ j, k < j → (S.set k z).getD j 0 = 0) := fun j hj => by rw [set_getD _ _ _ (by have := HSL.out; omega), if_neg (by omega)]; exact HS2.out j hj
        have HX : Hid ((S.set k z)[k]? = some z) := List.getElem?_set_self (by have := HSL.out; omega)
        replace HSL : Hid ((S.set k z).length = N) := by show _ = _; rw [List.length_set]; exact HSL.out
        generalize S.set k z = S2 at *
        clear S x c0 c1 d0 d1 f0 f1 g9 g6
        obtain ⟨S, hS9⟩ : ∃ S : KL f, S = S2 := ⟨_, rfl⟩
        obtain ⟨x, hx9⟩ : ∃ x : Fin (Pm f), x = z := ⟨_, rfl⟩
        subst hS9
        subst hx9
        by_cases hkb : k < b.length
        · obtain ⟨b2, o2, hBe, hbw2, hrow2⟩ := HB.out (by omega)
          obtain ⟨y, hy⟩ : ∃ y, b[k]? = some y := ⟨_, List.getElem?_eq_getElem hkb⟩
          have hyd : b.getD k 0 = y := by rw [List.getD_eq_getElem?_getD, hy]; rfl
          obtain ⟨d0, d1⟩ := (hrow2.below hb00 hbw2).kat hy
          obtain ⟨c0, c1⟩ := hR.at HX.out
          have g6 : (k : Int) < (b.length : Int) := by omega
          have hbl2 : b2 < w5.heap.size := Nat.lt_of_lt_of_le hbw2 hb00.size
          have g9 := hR.lt
          have HYD := Lib.hid hyd
          subst hBe
          clear hy hyd hrow2
          go_upto_region 9 with fail
          refine region_B (n := 12) (m := 14) (f := 12) (by kernel_rfl) (by kernel_rfl) rfl ?_
          refine WpH.takeD 0 (some 37) (v := ?_) rfl rfl (by kernel_rfl) (fun _ _ _ h => h) (.val rfl (fun wz hwz => ?_)) ?_
          rotate_left
          · go_simp; try (with_reducible rfl)
          (simp only [Act.put]); (try simp only [List.setIfInBounds_toArray]); (try simp only [List.set_cons_succ]); (try simp only [List.set_cons_zero])
          refine WpH.takeD 1 (some 38) (v := ?_) rfl rfl (by kernel_rfl) (fun _ _ _ h => h) (.val rfl (fun wz hwz => ?_)) ?_
          rotate_left
          · go_simp; try (with_reducible rfl)
          (simp only [Act.put]); (try simp only [List.setIfInBounds_toArray]); (try simp only [List.set_cons_succ]); (try simp only [List.set_cons_zero])
          refine WpH.takeD 2 (some 39) (v := ?_) rfl rfl (by kernel_rfl) (fun _ _ _ h => h) (.val rfl (fun wz hwz => ?_)) ?_
          rotate_left
          · go_simp; try (with_reducible rfl)
          (simp only [Act.put]); (try simp only [List.setIfInBounds_toArray]); (try simp only [List.set_cons_succ]); (try simp only [List.set_cons_zero])
          refine WpH.takeD 3 (some 40) (v := ?_) rfl rfl (by kernel_rfl) (fun _ _ _ h => h) (.val rfl (fun wz hwz => ?_)) ?_
          rotate_left
          · go_simp; try (with_reducible rfl)
          (simp only [Act.put]); (try simp only [List.setIfInBounds_toArray]); (try simp only [List.set_cons_succ]); (try simp only [List.set_cons_zero])
          refine WpH.takeD 4 (some 41) (v := ?_) rfl rfl (by kernel_rfl) (fun _ _ _ h => h) (.val rfl (fun wz hwz => ?_)) ?_
          rotate_left
          · go_simp; try (with_reducible rfl)
          (simp only [Act.put]); (try simp only [List.setIfInBounds_toArray]); (try simp only [List.set_cons_succ]); (try simp only [List.set_cons_zero])
          refine WpH.takeD 5 (some 42) (v := ?_) rfl rfl (by kernel_rfl) (fun _ _ _ h => h) (.val rfl (fun wz hwz => ?_)) ?_
          rotate_left
          · go_simp; try (with_reducible rfl)
          (simp only [Act.put]); (try simp only [List.setIfInBounds_toArray]); (try simp only [List.set_cons_succ]); (try simp only [List.set_cons_zero])
          refine WpH.takeD 6 (some 43) (v := ?_) rfl rfl (by kernel_rfl) (fun _ _ _ h => h) (.val rfl (fun wz hwz => ?_)) ?_
          rotate_left
          · (obtain ⟨hcz, hfz⟩ := bcell hwz; go_simp; try (with_reducible rfl))
          (simp only [Act.put]); (try simp only [List.setIfInBounds_toArray]); (try simp only [List.set_cons_succ]); (try simp only [List.set_cons_zero])
          refine WpH.takeD 7 (some 44) (v := ?_) rfl rfl (by kernel_rfl) (fun _ _ _ h => h) (.val rfl (fun wz hwz => ?_)) ?_
          rotate_left
          · go_simp; try (with_reducible rfl)
          (simp only [Act.put]); (try simp only [List.setIfInBounds_toArray]); (try simp only [List.set_cons_succ]); (try simp only [List.set_cons_zero])
          refine WpH.takeD 8 (some 45) (v := ?_) rfl rfl (by kernel_rfl) (fun _ _ _ h => h) (.val rfl (fun wz hwz => ?_)) ?_
          rotate_left
          · go_simp; try (with_reducible rfl)
          (simp only [Act.put]); (try simp only [List.setIfInBounds_toArray]); (try simp only [List.set_cons_succ]); (try simp only [List.set_cons_zero])
          refine WpH.takeD 9 (some 46) (v := ?_) rfl rfl (by kernel_rfl) (fun _ _ _ h => h) (.val rfl (fun wz hwz => ?_)) ?_
          rotate_left
          · go_simp; try (with_reducible rfl)
          (simp only [Act.put]); (try simp only [List.setIfInBounds_toArray]); (try simp only [List.set_cons_succ]); (try simp only [List.set_cons_zero])
          refine WpH.takeD 10 (some 47) (v := ?_) rfl rfl (by kernel_rfl) (fun _ _ _ h => h) (.val rfl (fun wz hwz => ?_)) ?_
          rotate_left
          · (obtain ⟨hcz, hfz⟩ := bcell hwz; go_simp; try (with_reducible rfl))
          (simp only [Act.put]); (try simp only [List.setIfInBounds_toArray]); (try simp only [List.set_cons_succ]); (try simp only [List.set_cons_zero])
          refine WpH.takeD 11 (some 48) rfl rfl (by kernel_rfl) (fun _ _ _ h => h) (.call rfl (fun wz hwz => HADD.out x y wz) (fun wz hwz => ?_)) ?_
          · go_simp; try (with_reducible rfl)
          (simp only [Act.put]); (try simp only [List.setIfInBounds_toArray]); (try simp only [List.set_cons_succ]); (try simp only [List.set_cons_zero])
          refine WpH.doneB (by kernel_rfl) (fun w6 hw6 => ?_)
          (try simp only [List.drop_succ_cons]); (try simp only [List.drop_zero]); (try simp only [Nat.reduceSub]); (try simp only [List.take_succ_cons]); (try simp only [List.take_zero])
          clear c0 c1 d0 d1 hbl2 g9
          replace hb00 := bl_call hb00 (Nat.le_refl _) hw6
          replace hR := hR.call hw6
          clear hw6
          obtain ⟨c0, c1⟩ := hR.at HX.out
          obtain ⟨f0, f1⟩ := hR.frz (i := k) (by have := HSL.out; omega)
          have g9 := hR.lt
          go_wp2_with fail
          go_roundw
          case rel => exact ⟨k + 1, _, by omega, by go_num, ⟨by rw [List.length_set]; exact HSL.out, fun j hj => by
            rw [set_getD _ _ _ (by have := HSL.out; omega)]
            by_cases he : j = k
            · rw [if_pos he, he, HYD.out, HXA.out]
            · rw [if_neg he]
              exact HS1.out j (by omega), fun j hj => by
            rw [set_getD _ _ _ (by have := HSL.out; omega), if_neg (by omega)]
            exact HS2.out j (by omega)⟩, hR.set k (by have := HSL.out; omega) (x + y), by repeat (first | exact Below.refl _ _ | with_reducible assumption | (refine bl_alloc ?_ (Nat.le_refl _) _) | (refine bl_set ?_ (by dsimp only; omega) _) | (refine Below.drew ?_) | (refine bl_drewN ?_ _) | (refine bl_call ?_ (Nat.le_refl _) (by assumption)))⟩
          case measure => simp [intOf]; omega
        · have HYD : Hid (b.getD k 0 = 0) := Fm.getD_end (by omega)
          have HXD : Hid (S.getD k 0 = x) := by show _ = _; rw [List.getD_eq_getElem?_getD, HX.out]; rfl
          go_wp2_with fail
          go_roundw
          case rel => exact ⟨k + 1, _, by omega, by go_num, ⟨HSL.out, fun j hj => by
            by_cases he : j = k
            · rw [he, HYD.out, HXA.out, HXD.out]
              grind
            · exact HS1.out j (by omega), fun j hj => HS2.out j (by omega)⟩, hR, hb00⟩
          case measure => simp [intOf]; omega
      · have HXA : Hid (a.getD k 0 = x) := by show _ = _; rw [hx0]; exact Fm.getD_end (by omega)
        have HX := Lib.hid hx
        clear hx hx0
        by_cases hkb : k < b.length
        · obtain ⟨b2, o2, hBe, hbw2, hrow2⟩ := HB.out (by omega)
          obtain ⟨y, hy⟩ : ∃ y, b[k]? = some y := ⟨_, List.getElem?_eq_getElem hkb⟩
          have hyd : b.getD k 0 = y := by rw [List.getD_eq_getElem?_getD, hy]; rfl
          obtain ⟨d0, d1⟩ := (hrow2.below hb00 hbw2).kat hy
          obtain ⟨c0, c1⟩ := hR.at HX.out
          have g6 : (k : Int) < (b.length : Int) := by omega
          have hbl2 : b2 < wr.heap.size := Nat.lt_of_lt_of_le hbw2 hb00.size
          have g9 := hR.lt
          have HYD := Lib.hid hyd
          subst hBe
          clear hy hyd hrow2
          go_upto_region 9 with fail
          refine region_B (n := 12) (m := 14) (f := 12) (by kernel_rfl) (by kernel_rfl) rfl ?_
          refine WpH.takeD 0 (some 37) (v := ?_) rfl rfl (by kernel_rfl) (fun _ _ _ h => h) (.val rfl (fun wz hwz => ?_)) ?_
          rotate_left
          · go_simp; try (with_reducible rfl)
          (simp only [Act.put]); (try simp only [List.setIfInBounds_toArray]); (try simp only [List.set_cons_succ]); (try simp only [List.set_cons_zero])
          refine WpH.takeD 1 (some 38) (v := ?_) rfl rfl (by kernel_rfl) (fun _ _ _ h => h) (.val rfl (fun wz hwz => ?_)) ?_
          rotate_left
          · go_simp; try (with_reducible rfl)
          (simp only [Act.put]); (try simp only [List.setIfInBounds_toArray]); (try simp only [List.set_cons_succ]); (try simp only [List.set_cons_zero])
          refine WpH.takeD 2 (some 39) (v := ?_) rfl rfl (by kernel_rfl) (fun _ _ _ h => h) (.val rfl (fun wz hwz => ?_)) ?_
          rotate_left
          · go_simp; try (with_reducible rfl)
          (simp only [Act.put]); (try simp only [List.setIfInBounds_toArray]); (try simp only [List.set_cons_succ]); (try simp only [List.set_cons_zero])
          refine WpH.takeD 3 (some 40) (v := ?_) rfl rfl (by kernel_rfl) (fun _ _ _ h => h) (.val rfl (fun wz hwz => ?_)) ?_
          rotate_left
          · go_simp; try (with_reducible rfl)
          (simp only [Act.put]); (try simp only [List.setIfInBounds_toArray]); (try simp only [List.set_cons_succ]); (try simp only [List.set_cons_zero])
          refine WpH.takeD 4 (some 41) (v := ?_) rfl rfl (by kernel_rfl) (fun _ _ _ h => h) (.val rfl (fun wz hwz => ?_)) ?_
          rotate_left
          · go_simp; try (with_reducible rfl)
          (simp only [Act.put]); (try simp only [List.setIfInBounds_toArray]); (try simp only [List.set_cons_succ]); (try simp only [List.set_cons_zero])
          refine WpH.takeD 5 (some 42) (v := ?_) rfl rfl (by kernel_rfl) (fun _ _ _ h => h) (.val rfl (fun wz hwz => ?_)) ?_
          rotate_left
          · go_simp; try (with_reducible rfl)
          (simp only [Act.put]); (try simp only [List.setIfInBounds_toArray]); (try simp only [List.set_cons_succ]); (try simp only [List.set_cons_zero])
          refine WpH.takeD 6 (some 43) (v := ?_) rfl rfl (by kernel_rfl) (fun _ _ _ h => h) (.val rfl (fun wz hwz => ?_)) ?_
          rotate_left
          · (obtain ⟨hcz, hfz⟩ := bcell hwz; go_simp; try (with_reducible rfl))
          (simp only [Act.put]); (try simp only [List.setIfInBounds_toArray]); (try simp only [List.set_cons_succ]); (try simp only [List.set_cons_zero])
          refine WpH.takeD 7 (some 44) (v := ?_) rfl rfl (by kernel_rfl) (fun _ _ _ h => h) (.val rfl (fun wz hwz => ?_)) ?_
          rotate_left
          · go_simp; try (with_reducible rfl)
          (simp only [Act.put]); (try simp only [List.setIfInBounds_toArray]); (try simp only [List.set_cons_succ]); (try simp only [List.set_cons_zero])
          refine WpH.takeD 8 (some 45) (v := ?_) rfl rfl (by kernel_rfl) (fun _ _ _ h => h) (.val rfl (fun wz hwz => ?_)) ?_
          rotate_left
          · go_simp; try (with_reducible rfl)
          (simp only [Act.put]); (try simp only [List.setIfInBounds_toArray]); (try simp only [List.set_cons_succ]); (try simp only [List.set_cons_zero])
          refine WpH.takeD 9 (some 46) (v := ?_) rfl rfl (by kernel_rfl) (fun _ _ _ h => h) (.val rfl (fun wz hwz => ?_)) ?_
          rotate_left
          · go_simp; try (with_reducible rfl)
          (simp only [Act.put]); (try simp only [List.setIfInBounds_toArray]); (try simp only [List.set_cons_succ]); (try simp only [List.set_cons_zero])
          refine WpH.takeD 10 (some 47) (v := ?_) rfl rfl (by kernel_rfl) (fun _ _ _ h => h) (.val rfl (fun wz hwz => ?_)) ?_
          rotate_left
          · (obtain ⟨hcz, hfz⟩ := bcell hwz; go_simp; try (with_reducible rfl))
          (simp only [Act.put]); (try simp only [List.setIfInBounds_toArray]); (try simp only [List.set_cons_succ]); (try simp only [List.set_cons_zero])
          refine WpH.takeD 11 (some 48) rfl rfl (by kernel_rfl) (fun _ _ _ h => h) (.call rfl (fun wz hwz => HADD.out x y wz) (fun wz hwz => ?_)) ?_
          · go_simp; try (with_reducible rfl)
          (simp only [Act.put]); (try simp only [List.setIfInBounds_toArray]); (try simp only [List.set_cons_succ]); (try simp only [List.set_cons_zero])
          refine WpH.doneB (by kernel_rfl) (fun w6 hw6 => ?_)
          (try simp only [List.drop_succ_cons]); (try simp only [List.drop_zero]); (try simp only [Nat.reduceSub]); (try simp only [List.take_succ_cons]); (try simp only [List.take_zero])
          clear c0 c1 d0 d1 hbl2 g9
          replace hb00 := bl_call hb00 (Nat.le_refl _) hw6
          replace hR := hR.call hw6
          clear hw6
          obtain ⟨c0, c1⟩ := hR.at HX.out
          obtain ⟨f0, f1⟩ := hR.frz (i := k) (by have := HSL.out; omega)
          have g9 := hR.lt
          go_wp2_with fail
          go_roundw
          case rel => exact ⟨k + 1, _, by omega, by go_num, ⟨by rw [List.length_set]; exact HSL.out, fun j hj => by
            rw [set_getD _ _ _ (by have := HSL.out; omega)]
            by_cases he : j = k
            · rw [if_pos he, he, HYD.out, HXA.out]
            · rw [if_neg he]
              exact HS1.out j (by omega), fun j hj => by
            rw [set_getD _ _ _ (by have := HSL.out; omega), if_neg (by omega)]
            exact HS2.out j (by omega)⟩, hR.set k (by have := HSL.out; omega) (x + y), by repeat (first | exact Below.refl _ _ | with_reducible assumption | (refine bl_alloc ?_ (Nat.le_refl _) _) | (refine bl_set ?_ (by dsimp only; omega) _) | (refine Below.drew ?_) | (refine bl_drewN ?_ _) | (refine bl_call ?_ (Nat.le_refl _) (by assumption)))⟩
          case measure => simp [intOf]; omega
        · have HYD : Hid (b.getD k 0 = 0) := Fm.getD_end (by omega)
          have HXD : Hid (S.getD k 0 = x) := by show _ = _; rw [List.getD_eq_getElem?_getD, HX.out]; rfl
          go_wp2_with fail
          go_roundw
          case rel => exact ⟨k + 1, _, by omega, by go_num, ⟨HSL.out, fun j hj => by
            by_cases he : j = k
            · rw [he, HYD.out, HXA.out, HXD.out]
              grind
            · exact HS1.out j (by omega), fun j hj => HS2.out j (by omega)⟩, hR, hb00⟩
          case measure => simp [intOf]; omega
    · obtain rfl : k = N := by omega
      have HT := Lib.hid (HEND.out S hS.out.1 hS.out.2.1)
      have hs := hR.sl hS.out.1 (Nat.le_refl _) (by omega)
      have hsl : S.length ≤ 1000000 := by have := hS.out.1; omega
      clear hS hR HEND HA HB
      go_wp2_with fail
      refine (poly_Trim _ S _ hs hsl).mono ?_
      rintro e w7 ⟨v, rfl, ho, hb7⟩
      go_wp2
      go_ret
      exact ⟨_, rfl, by rw [← HT.out]; exact own_mono ho hb00.size, bl_call hb00 (Nat.le_refl _) hb7⟩

set_option maxHeartbeats 8000000 in
theorem poly_Scale (va : Value) (a : KL f) (x : Fin (Pm f)) (w : World) (ha : SlK w w.heap.size va a) (hal : a.length ≤ 400000) :
    Calls Tryd.prog 39 #[.int .u8 f, va, vK x] w (RetOwn (pscale x a) w) := by
  have hfb0 : (1 : Int) ≤ (f : Int) := by rcases hf.or with rfl | rfl <;> omega
  have hfb1 : (f : Int) ≤ 2 := by rcases hf.or with rfl | rfl <;> omega
  have HMU := Lib.hid (fun y z wz => field_MulK hf y z wz)
  obtain ⟨A, c, rfl, hc, hcm, hA⟩ := ha
  have hmk := make_elem a.length (by omega)
  have HEND : Hid (∀ S : KL f, S.length = a.length → (∀ j, j < a.length → S.getD j 0 = a.getD j 0 * x) → trim S = pscale x a) := fun S h1 h2 => by
    unfold pscale
    congr 1
    refine ext_getD (by rw [h1, List.length_map]) fun i => ?_
    rw [map_getD]
    by_cases hi : i < a.length
    · exact h2 i hi
    · rw [Fm.getD_end (by omega), Fm.getD_end (by omega)]
      grind
  have HA := Lib.hid hA
  clear hA
  have hb00 : Below w.heap.size w w := Below.refl _ _
  go_enter Tryd.func39, Tryd.ntmps39
  go_upto_region 1 with fail
  clear hb00
  have q0 := V2.new w (.int .u64 (lo x)) (.int .u64 (hi x)) 28
  have hb00 : Below w.heap.size w (w.alloc (.cells #[(.int .u64 (lo x)), (.int .u64 (hi x))] 28)) := by repeat (first | exact Below.refl _ _ | with_reducible assumption | (refine bl_alloc ?_ (Nat.le_refl _) _))
  have hsz : w.heap.size + 1 ≤ (w.alloc (.cells #[(.int .u64 (lo x)), (.int .u64 (hi x))] 28)).heap.size := by simp only [World.size_alloc]; omega
  generalize (w.alloc (.cells #[(.int .u64 (lo x)), (.int .u64 (hi x))] 28)) = w1 at q0 hb00 hsz ⊢
  go_upto_region 2 with fail
  obtain ⟨g, hg⟩ : ∃ z, w1.heap.size = z := ⟨_, rfl⟩
  have hB0 := RwK.new w1 (List.replicate a.length (0 : Fin (Pm f))) (cellsE (List.replicate a.length (0, 0))).toArray (by unfold esK; rw [List.map_replicate, eK_zero]) 28
  rw [hg] at hB0
  replace q0 := q0.alloc (.cells (cellsE (List.replicate a.length (0, 0))).toArray 28)
  replace hb00 : Below w.heap.size w (w1.alloc (.cells (cellsE (List.replicate a.length (0, 0))).toArray 28)) := by repeat (first | exact Below.refl _ _ | with_reducible assumption | (refine bl_alloc ?_ (Nat.le_refl _) _) | (refine bl_set ?_ (by dsimp only; omega) _) | (refine Below.drew ?_) | (refine bl_drewN ?_ _) | (refine bl_call ?_ (Nat.le_refl _) (by assumption)))
  simp only [hg]
  have hgw : w.heap.size < g := by omega
  generalize w1.alloc (.cells (cellsE (List.replicate a.length (0, 0))).toArray 28) = w2 at hB0 hb00 q0 ⊢
  clear hmk hg hsz
  go_wp2_with fail
  go_loopw [15] (fun kv wr => ∃ (k : Nat) (S : KL f), k ≤ a.length ∧ kv = .int .i64 k ∧ Hid (S.length = a.length ∧ ∀ j, j < k → S.getD j 0 = a.getD j 0 * x) ∧ RwK wr g S ∧ V2 wr w.heap.size (.int .u64 (lo x)) (.int .u64 (hi x)) ∧ Below w.heap.size w wr) (fun kv _ => a.length - (intOf kv).toNat)
  case atStart => exact ⟨0, _, Nat.zero_le _, rfl, ⟨List.length_replicate .., fun j h => absurd h (Nat.not_lt_zero _)⟩, hB0, q0, hb00⟩
  case round =>
    clear hB0 hb00 q0
    obtain ⟨k, S, hk, rfl, hS, hR, q0, hb00⟩ := hrel
    by_cases hka : k < a.length
    · have g1 : (0 : Int) ≤ (k : Int) := by omega
      have g3 : (k : Int) < (a.length : Int) := by omega
      have HSL : Hid (S.length = a.length) := hS.out.1
      have HS1 : Hid (∀ j, j < k → S.getD j 0 = a.getD j 0 * x) := hS.out.2
      obtain ⟨b1, o1, hAe, hbw1, hrow1⟩ := HA.out (by omega)
      obtain ⟨z, hz⟩ : ∃ z, a[k]? = some z := ⟨_, List.getElem?_eq_getElem hka⟩
      have HXA : Hid (a.getD k 0 = z) := by show _ = _; rw [List.getD_eq_getElem?_getD, hz]; rfl
      obtain ⟨d0, d1⟩ := (hrow1.below hb00 hbw1).kat hz
      have hrl := hR.lt
      subst hAe
      clear hz hrow1 hS
      go_upto_region 5 with fail
      have z0 := V2.new wr (.int .u64 (lo z)) (.int .u64 (hi z)) 28
      have hbA : Below wr.heap.size wr (wr.alloc (.cells #[.int .u64 (lo z), .int .u64 (hi z)] 28)) := by repeat (first | exact Below.refl _ _ | with_reducible assumption | (refine bl_alloc ?_ (Nat.le_refl _) _))
      replace hb00 := bl_call hb00 (Nat.le_refl _) hbA
      replace hR := hR.call hbA
      replace q0 := q0.call hbA
      clear hbA
      generalize wr.alloc (.cells #[.int .u64 (lo z), .int .u64 (hi z)] 28) = w5 at hb00 hR q0 z0 ⊢
      obtain ⟨zb, hzb⟩ : ∃ q, wr.heap.size = q := ⟨_, rfl⟩
      rw [hzb] at z0 hrl
      simp only [hzb]
      clear hzb d0 d1
      obtain ⟨z00, z01, z02, z03, z04⟩ := V2.mk z0.c0 z0.c1 z0.f0 z0.f1 z0.lt
      obtain ⟨q00, q01, q02, q03, q04⟩ := V2.mk q0.c0 q0.c1 q0.f0 q0.f1 q0.lt
      go_wp2_with fail
      refine (HMU.out z x _).mono ?_
      rintro e w6 ⟨rfl, hb6⟩
      clear z00 z01 z02 z03 z04 q00 q01 q02 q03 q04
      replace hb00 := bl_call hb00 (Nat.le_refl _) hb6
      replace hR := hR.call hb6
      replace q0 := q0.call hb6
      replace z0 := z0.call hb6
      clear hb6
      obtain ⟨y9, hy9⟩ : ∃ x, S[k]? = some x := ⟨_, List.getElem?_eq_getElem (by have := HSL.out; omega)⟩
      obtain ⟨c0, c1⟩ := hR.at hy9
      obtain ⟨f0, f1⟩ := hR.frz (i := k) (by have := HSL.out; omega)
      have g9 := hR.lt
      clear hy9
      go_wp2_with fail
      go_roundw
      case rel => exact ⟨k + 1, _, by omega, by go_num, ⟨by rw [List.length_set]; exact HSL.out, fun j hj => by
        rw [set_getD _ _ _ (by have := HSL.out; omega)]
        by_cases he : j = k
        · rw [if_pos he, he, HXA.out]
        · rw [if_neg he]
          exact HS1.out j (by omega)⟩, hR.set k (by have := HSL.out; omega) (z * x), V2.setOther (V2.setOther q0 (by dsimp only; omega) _) (by dsimp only; omega) _, by repeat (first | exact Below.refl _ _ | with_reducible assumption | (refine bl_alloc ?_ (Nat.le_refl _) _) | (refine bl_set ?_ (by dsimp only; omega) _) | (refine Below.drew ?_) | (refine bl_drewN ?_ _) | (refine bl_call ?_ (Nat.le_refl _) (by assumption)))⟩
      case measure => simp [intOf]; omega
    · obtain hke : k = a.length := by omega
      subst hke
      have HT := Lib.hid (HEND.out S hS.out.1 hS.out.2)
      have hs := hR.sl hS.out.1 (Nat.le_refl _) (by omega)
      have hsl : S.length ≤ 1000000 := by have := hS.out.1; omega
      clear hS hR HEND HA q0
      go_wp2_with fail
      refine (poly_Trim _ S _ hs hsl).mono ?_
      rintro e w7 ⟨v, rfl, ho, hb7⟩
      go_wp2
      go_ret
      exact ⟨_, rfl, by rw [← HT.out]; exact own_mono ho hb00.size, bl_call hb00 (Nat.le_refl _) hb7⟩

set_option maxHeartbeats 8000000 in
theorem poly_direct (va vb : Value) (a b : KL f) (w : World) (ha : SlK w w.heap.size va a) (hb : SlK w w.heap.size vb b) (ha0 : 0 < a.length) (hb0 : 0 < b.length) (hal : a.length ≤ 400000) (hbl : b.length ≤ 400000) :
    Calls Tryd.prog 69 #[.int .u8 f, va, vb] w (RetBlk (prodL a b) w) := by
  have hfb0 : (1 : Int) ≤ (f : Int) := by rcases hf.or with rfl | rfl <;> omega
  have hfb1 : (f : Int) ≤ 2 := by rcases hf.or with rfl | rfl <;> omega
  have HADD := Lib.hid (fun x y wz => field_AddK hf x y wz)
  have HMU := Lib.hid (fun x y wz => field_MulK hf x y wz)
  obtain ⟨A, c, rfl, hc, hcm, hA⟩ := ha
  obtain ⟨B, d, rfl, hd, hdm, hB⟩ := hb
  obtain ⟨b1, o1, rfl, hbw1, hrow1⟩ := hA ha0
  obtain ⟨b2, o2, rfl, hbw2, hrow2⟩ := hB hb0
  obtain ⟨N, hN⟩ : ∃ N, a.length + b.length - 1 = N := ⟨_, rfl⟩
  have hN1 : (a.length : Int) + (b.length : Int) - 1 = (N : Int) := by omega
  have hN2 : N + 1 = a.length + b.length := by omega
  have hmk := make_elem N (by omega)
  have HDL : Hid (∀ I K, (dl a b I K).length = N) := fun I K => by rw [dl_length, hN]
  have HPL : Hid ((prodL a b).length = N) := by show _ = _; rw [prodL_length, hN]
  have HZ : Hid (List.replicate N 0 = dl a b 0 0) := by show _ = _; rw [dl_zero, hN]
  have HNX := Lib.hid (fun I K z h1 h2 h3 => dl_next a b I K h1 h2 z h3)
  have HRO := Lib.hid (fun I => dl_row a b I)
  have HEN := Lib.hid (dl_end a b)
  have HR1 := Lib.hid hrow1
  have HR2 := Lib.hid hrow2
  clear hA hB hN hrow1 hrow2
  go_enter Tryd.func69, Tryd.ntmps69
  go_upto_region 2 with fail
  have hB0 := RwK.new w (List.replicate N (0 : Fin (Pm f))) (cellsE (List.replicate N (0, 0))).toArray (by unfold esK; rw [List.map_replicate, eK_zero]) 28
  rw [HZ.out] at hB0
  have hb00 : Below w.heap.size w (w.alloc (.cells (cellsE (List.replicate N (0, 0))).toArray 28)) := by repeat (first | exact Below.refl _ _ | with_reducible assumption | (refine bl_alloc ?_ (Nat.le_refl _) _) | (refine bl_set ?_ (by dsimp only; omega) _) | (refine Below.drew ?_) | (refine bl_drewN ?_ _) | (refine bl_call ?_ (Nat.le_refl _) (by assumption)))
  generalize w.alloc (.cells (cellsE (List.replicate N (0, 0))).toArray 28) = w1 at hB0 hb00 ⊢
  clear hmk HZ
  go_wp2_with fail
  go_loopw [21] (fun kv wr => ∃ I : Nat, I ≤ a.length ∧ kv = .int .i64 I ∧ RwK wr w.heap.size (dl a b I 0) ∧ Below w.heap.size w wr) (fun kv _ => a.length - (intOf kv).toNat)
  case atStart => exact ⟨0, Nat.zero_le _, rfl, hB0, hb00⟩
  case round =>
    clear hB0 hb00
    obtain ⟨I, hI, rfl, hR, hb00⟩ := hrel
    by_cases hIa : I < a.length
    · obtain ⟨x, hx⟩ : ∃ x, a[I]? = some x := ⟨_, List.getElem?_eq_getElem hIa⟩
      have HXA : Hid (a.getD I 0 = x) := by show _ = _; rw [List.getD_eq_getElem?_getD, hx]; rfl
      obtain ⟨d0, d1⟩ := (HR1.out.below hb00 hbw1).kat hx
      have hrl := hR.lt
      clear hx
      go_upto_region 5 with fail
      have x0 := V2.new wr (.int .u64 (lo x)) (.int .u64 (hi x)) 28
      have hbA : Below wr.heap.size wr (wr.alloc (.cells #[.int .u64 (lo x), .int .u64 (hi x)] 28)) := by repeat (first | exact Below.refl _ _ | with_reducible assumption | (refine bl_alloc ?_ (Nat.le_refl _) _))
      replace hb00 := bl_call hb00 (Nat.le_refl _) hbA
      replace hR := hR.call hbA
      clear hbA
      generalize wr.alloc (.cells #[.int .u64 (lo x), .int .u64 (hi x)] 28) = w5 at hb00 hR x0 ⊢
      obtain ⟨xb, hxb⟩ : ∃ q, wr.heap.size = q := ⟨_, rfl⟩
      rw [hxb] at x0 hrl
      simp only [hxb]
      clear hxb d0 d1
      go_wp2_with fail
      go_loopw [28] (fun kv wi => ∃ K : Nat, K ≤ b.length ∧ kv = .int .i64 K ∧ RwK wi w.heap.size (dl a b I K) ∧ V2 wi xb (.int .u64 (lo x)) (.int .u64 (hi x)) ∧ Below w.heap.size w wi) (fun kv _ => b.length - (intOf kv).toNat)
      case atStart => exact ⟨0, Nat.zero_le _, rfl, hR, x0, hb00⟩
      case round =>
        clear hR x0 hb00
        obtain ⟨K, hK, rfl, hR, x0, hb00⟩ := hrel
        by_cases hKb : K < b.length
        · obtain ⟨y, hy⟩ : ∃ y, b[K]? = some y := ⟨_, List.getElem?_eq_getElem hKb⟩
          have HYB : Hid (b.getD K 0 = y) := by show _ = _; rw [List.getD_eq_getElem?_getD, hy]; rfl
          obtain ⟨d0, d1⟩ := (HR2.out.below hb00 hbw2).kat hy
          obtain ⟨q, hq⟩ : ∃ q, I + K = q := ⟨_, rfl⟩
          have hqN : q < N := by omega
          obtain ⟨z, hz⟩ : ∃ z, (dl a b I K)[q]? = some z := ⟨_, List.getElem?_eq_getElem (by rw [HDL.out]; exact hqN)⟩
          have HZD : Hid ((dl a b I K).set q (z + x * y) = dl a b I (K + 1)) := by
            show _ = _
            rw [← hq]
            refine HNX.out I K _ hIa hKb ?_
            rw [HXA.out, HYB.out, hq, List.getD_eq_getElem?_getD, hz]
            rfl
          have HZX := Lib.hid hz
          have v1 : IntKind.i64.wrap (q : Int) = (q : Int) := IntWalk.i64_in _ (by omega)
          have v2 : (I : Int) + (K : Int) = (q : Int) := by omega
          have g1 : (0 : Int) ≤ (q : Int) := by omega
          have g3 : (q : Int) < (N : Int) := by omega
          clear hy hz hq
          go_upto_region 8 with fail
          have y0 := V2.new wr (.int .u64 (lo y)) (.int .u64 (hi y)) 28
          have hbA : Below wr.heap.size wr (wr.alloc (.cells #[.int .u64 (lo y), .int .u64 (hi y)] 28)) := by repeat (first | exact Below.refl _ _ | with_reducible assumption | (refine bl_alloc ?_ (Nat.le_refl _) _))
          replace hb00 := bl_call hb00 (Nat.le_refl _) hbA
          replace hR := hR.call hbA
          replace x0 := x0.call hbA
          clear hbA
          generalize wr.alloc (.cells #[.int .u64 (lo y), .int .u64 (hi y)] 28) = w6 at hb00 hR x0 y0 ⊢
          clear d0 d1
          obtain ⟨c0, c1⟩ := hR.at HZX.out
          have g9 := hR.lt
          obtain ⟨x00, x01, x02, x03, x04⟩ := V2.mk x0.c0 x0.c1 x0.f0 x0.f1 x0.lt
          obtain ⟨y00, y01, y02, y03, y04⟩ := V2.mk y0.c0 y0.c1 y0.f0 y0.f1 y0.lt
          refine region_B (n := 16) (m := 18) (f := 16) (by kernel_rfl) (by kernel_rfl) rfl ?_
          refine WpH.takeD 0 (some 33) (v := ?_) rfl rfl (by kernel_rfl) (fun _ _ _ h => h) (.val rfl (fun wz hwz => ?_)) ?_
          rotate_left
          · go_simp; try (with_reducible rfl)
          (simp only [Act.put]); (try simp only [List.setIfInBounds_toArray]); (try simp only [List.set_cons_succ]); (try simp only [List.set_cons_zero])
          refine WpH.takeD 1 (some 34) (v := ?_) rfl rfl (by kernel_rfl) (fun _ _ _ h => h) (.val rfl (fun wz hwz => ?_)) ?_
          rotate_left
          · go_simp; try (with_reducible rfl)
          (simp only [Act.put]); (try simp only [List.setIfInBounds_toArray]); (try simp only [List.set_cons_succ]); (try simp only [List.set_cons_zero])
          refine WpH.takeD 2 (some 35) (v := ?_) rfl rfl (by kernel_rfl) (fun _ _ _ h => h) (.val rfl (fun wz hwz => ?_)) ?_
          rotate_left
          · go_simp; try (with_reducible rfl)
          (simp only [Act.put]); (try simp only [List.setIfInBounds_toArray]); (try simp only [List.set_cons_succ]); (try simp only [List.set_cons_zero])
          refine WpH.takeD 3 (some 36) (v := ?_) rfl rfl (by kernel_rfl) (fun _ _ _ h => h) (.val rfl (fun wz hwz => ?_)) ?_
          rotate_left
          · go_simp; try (with_reducible rfl)
          (simp only [Act.put]); (try simp only [List.setIfInBounds_toArray]); (try simp only [List.set_cons_succ]); (try simp only [List.set_cons_zero])
          refine WpH.takeD 4 (some 37) (v := ?_) rfl rfl (by kernel_rfl) (fun _ _ _ h => h) (.val rfl (fun wz hwz => ?_)) ?_
          rotate_left
          · go_simp; try (with_reducible rfl)
          (simp only [Act.put]); (try simp only [List.setIfInBounds_toArray]); (try simp only [List.set_cons_succ]); (try simp only [List.set_cons_zero])
          refine WpH.takeD 5 (some 38) (v := ?_) rfl rfl (by kernel_rfl) (fun _ _ _ h => h) (.val rfl (fun wz hwz => ?_)) ?_
          rotate_left
          · go_simp; try (with_reducible rfl)
          (simp only [Act.put]); (try simp only [List.setIfInBounds_toArray]); (try simp only [List.set_cons_succ]); (try simp only [List.set_cons_zero])
          refine WpH.takeD 6 (some 39) (v := ?_) rfl rfl (by kernel_rfl) (fun _ _ _ h => h) (.val rfl (fun wz hwz => ?_)) ?_
          rotate_left
          · go_simp; try (with_reducible rfl)
          (simp only [Act.put]); (try simp only [List.setIfInBounds_toArray]); (try simp only [List.set_cons_succ]); (try simp only [List.set_cons_zero])
          refine WpH.takeD 7 (some 40) (v := ?_) rfl rfl (by kernel_rfl) (fun _ _ _ h => h) (.val rfl (fun wz hwz => ?_)) ?_
          rotate_left
          · go_simp; try (with_reducible rfl)
          (simp only [Act.put]); (try simp only [List.setIfInBounds_toArray]); (try simp only [List.set_cons_succ]); (try simp only [List.set_cons_zero])
          refine WpH.takeD 8 (some 41) (v := ?_) rfl rfl (by kernel_rfl) (fun _ _ _ h => h) (.val rfl (fun wz hwz => ?_)) ?_
          rotate_left
          · go_simp; try (with_reducible rfl)
          (simp only [Act.put]); (try simp only [List.setIfInBounds_toArray]); (try simp only [List.set_cons_succ]); (try simp only [List.set_cons_zero])
          refine WpH.takeD 9 (some 42) (v := ?_) rfl rfl (by kernel_rfl) (fun _ _ _ h => h) (.val rfl (fun wz hwz => ?_)) ?_
          rotate_left
          · go_simp; try (with_reducible rfl)
          (simp only [Act.put]); (try simp only [List.setIfInBounds_toArray]); (try simp only [List.set_cons_succ]); (try simp only [List.set_cons_zero])
          refine WpH.takeD 10 (some 43) (v := ?_) rfl rfl (by kernel_rfl) (fun _ _ _ h => h) (.val rfl (fun wz hwz => ?_)) ?_
          rotate_left
          · (obtain ⟨hcz, hfz⟩ := bcell hwz; go_simp; try (with_reducible rfl))
          (simp only [Act.put]); (try simp only [List.setIfInBounds_toArray]); (try simp only [List.set_cons_succ]); (try simp only [List.set_cons_zero])
          refine WpH.takeD 11 (some 44) (v := ?_) rfl rfl (by kernel_rfl) (fun _ _ _ h => h) (.val rfl (fun wz hwz => ?_)) ?_
          rotate_left
          · go_simp; try (with_reducible rfl)
          (simp only [Act.put]); (try simp only [List.setIfInBounds_toArray]); (try simp only [List.set_cons_succ]); (try simp only [List.set_cons_zero])
          refine WpH.takeD 12 (some 45) (v := ?_) rfl rfl (by kernel_rfl) (fun _ _ _ h => h) (.val rfl (fun wz hwz => ?_)) ?_
          rotate_left
          · (obtain ⟨hcz, hfz⟩ := bcell hwz; go_simp; try (with_reducible rfl))
          (simp only [Act.put]); (try simp only [List.setIfInBounds_toArray]); (try simp only [List.set_cons_succ]); (try simp only [List.set_cons_zero])
          refine WpH.takeD 13 (some 46) (v := ?_) rfl rfl (by kernel_rfl) (fun _ _ _ h => h) (.val rfl (fun wz hwz => ?_)) ?_
          rotate_left
          · (obtain ⟨hcz, hfz⟩ := bcell hwz; go_simp; try (with_reducible rfl))
          (simp only [Act.put]); (try simp only [List.setIfInBounds_toArray]); (try simp only [List.set_cons_succ]); (try simp only [List.set_cons_zero])
          refine WpH.takeD 14 (some 47) rfl rfl (by kernel_rfl) (fun _ _ _ h => h) (.call rfl (fun wz hwz => HMU.out x y wz) (fun wz hwz => ?_)) ?_
          · go_simp; try (with_reducible rfl)
          (simp only [Act.put]); (try simp only [List.setIfInBounds_toArray]); (try simp only [List.set_cons_succ]); (try simp only [List.set_cons_zero])
          refine WpH.takeD 15 (some 48) rfl rfl (by kernel_rfl) (fun _ _ _ h => h) (.call rfl (fun wz hwz => HADD.out z (x * y) wz) (fun wz hwz => ?_)) ?_
          · go_simp; try (with_reducible rfl)
          (simp only [Act.put]); (try simp only [List.setIfInBounds_toArray]); (try simp only [List.set_cons_succ]); (try simp only [List.set_cons_zero])
          refine WpH.doneB (by kernel_rfl) (fun w7 hw7 => ?_)
          (try simp only [List.drop_succ_cons]); (try simp only [List.drop_zero]); (try simp only [Nat.reduceSub]); (try simp only [List.take_succ_cons]); (try simp only [List.take_zero])
          clear x00 x01 x02 x03 x04 y00 y01 y02 y03 y04
          clear c0 c1 g9
          replace hb00 := bl_call hb00 (Nat.le_refl _) hw7
          replace hR := hR.call hw7
          replace x0 := x0.call hw7
          clear hw7 y0
          obtain ⟨c0, c1⟩ := hR.at HZX.out
          obtain ⟨f0, f1⟩ := hR.frz (i := q) (by rw [HDL.out]; exact hqN)
          have g9 := hR.lt
          go_wp2_with fail
          go_roundw
          case rel =>
            have h := hR.set q (by rw [HDL.out]; exact hqN) (z + x * y)
            rw [HZD.out] at h
            exact ⟨K + 1, by omega, by go_num, h, V2.setOther (V2.setOther x0 (by dsimp only; omega) _) (by dsimp only; omega) _, by repeat (first | exact Below.refl _ _ | with_reducible assumption | (refine bl_alloc ?_ (Nat.le_refl _) _) | (refine bl_set ?_ (by dsimp only; omega) _) | (refine Below.drew ?_) | (refine bl_drewN ?_ _) | (refine bl_call ?_ (Nat.le_refl _) (by assumption)))⟩
          case measure => simp [intOf]; omega
        · obtain hKe : K = b.length := by omega
          subst hKe
          rw [HRO.out] at hR
          go_wp2_with fail
          go_roundw
          case rel => exact ⟨I + 1, by omega, by go_num, hR, hb00⟩
          case measure => simp [intOf]; omega
    · obtain hIe : I = a.length := by omega
      subst hIe
      rw [HEN.out] at hR
      have HRR := Lib.hid hR
      clear hR
      go_wp2_with fail
      go_ret
      exact ⟨w.heap.size, by rw [HPL.out]; rfl, HRR.out, Nat.le_refl _, hb00⟩
end

end Go.Proofs.YtfhmineolncefaaDoor

namespace Go.Proofs.YtfhmineolncefaaDoor
open Go.RowKit Fm
set_option linter.unusedVariables false
set_option maxRecDepth 100000

/-- small numbers are told apart by their elements -/
theorem nK_small {f : Nat} (hf : IsF f) {a b : Nat} (ha : a < 4294967296) (hb : b < 4294967296) (h : nK f a = nK f b) : a = b := by
  have h1 := congrArg (fun x : Fin (Pm f) => ((x.val : Nat) : Int)) h
  simp only [nK_kI, kI_val] at h1
  rcases hf.or with rfl | rfl
  · rw [show ((Pm 1 : Nat) : Int) = 18446744069414584321 from rfl] at h1
    omega
  · rw [show ((Pm 2 : Nat) : Int) = 340282366920938462946865773367900766209 from rfl] at h1
    omega

/-- so many of the first N are 1 -/
def Cnt {f : Nat} (l : KL f) (N k s : Nat) : Prop := nK f s = ksum (l.take (min k N))
theorem Cnt.zero {f : Nat} (l : KL f) (N : Nat) : Cnt l N 0 0 := by
  unfold Cnt
  rw [nK_zero, Nat.zero_min]
  rfl
theorem Cnt.out {f : Nat} {l : KL f} {N k s : Nat} (h : Cnt l N k s) (hk : ¬ k < N) : Cnt l N (k + 1) s := by
  unfold Cnt at *
  rw [show min (k + 1) N = min k N by omega]
  exact h
theorem Cnt.no {f : Nat} {l : KL f} {N k s : Nat} (h : Cnt l N k s) (hx : l[k]? = some 0) : Cnt l N (k + 1) s := by
  by_cases hk : k < N
  · unfold Cnt at *
    rw [show min (k + 1) N = k + 1 by omega, ksum_take l k _ hx, h, show min k N = k by omega]
    grind
  · exact h.out hk
theorem Cnt.yes {f : Nat} {l : KL f} {N k s : Nat} (h : Cnt l N k s) (hk : k < N) (hx : l[k]? = some 1) : Cnt l N (k + 1) (s + 1) := by
  unfold Cnt at *
  rw [show min (k + 1) N = k + 1 by omega, ksum_take l k _ hx, nK_add, nK_one, h, show min k N = k by omega]

theorem kpow_nK (f : Nat) : ∀ j, kpow f j = nK f (2 ^ j)
  | 0 => (nK_one f).symm
  | j + 1 => by rw [kpow, kpow_nK f j, Nat.pow_succ, Nat.mul_two, nK_add]

/-- the number that the first j of some bits make -/
def Num {f : Nat} (l : KL f) (j v : Nat) : Prop := nK f v = knum (l.take j) ∧ v < 2 ^ j
theorem Num.zero {f : Nat} (l : KL f) : Num l 0 0 := ⟨by rw [nK_zero]; rfl, by decide⟩
theorem Num.no {f : Nat} {l : KL f} {j v : Nat} (h : Num l j v) (hx : l[j]? = some 0) : Num l (j + 1) v := by
  refine ⟨?_, ?_⟩
  · rw [knum_take l j _ hx, ← h.1]
    grind
  · have := h.2
    rw [Nat.pow_succ]
    omega
theorem Num.yes {f : Nat} {l : KL f} {j v : Nat} (h : Num l j v) (hx : l[j]? = some 1) : Num l (j + 1) (v + 2 ^ j) := by
  refine ⟨?_, ?_⟩
  · rw [knum_take l j _ hx, nK_add, ← h.1, kpow_nK]
    grind
  · have := h.2
    rw [Nat.pow_succ]
    omega

section
variable {f : Nat} (hf : IsF f)
include hf

end

end Go.Proofs.YtfhmineolncefaaDoor

namespace Go.Proofs.YtfhmineolncefaaDoor
open Go.RowKit Fm
set_option linter.unusedVariables false
set_option maxRecDepth 100000

theorem SlK.cells {f : Nat} {w : World} {B b o n c k : Nat} {l : KL f} {x : Fin (Pm f)} (h : SlK w B (.slice (some ⟨b, o, none⟩) n c) l) (hk : l[k]? = some x) : b < B ∧ w.cell? ⟨b, o + k * 2, none⟩ = some (.int .u64 (lo x)) ∧ w.cell? ⟨b, o + k * 2 + 1, none⟩ = some (.int .u64 (hi x)) := by
  obtain ⟨A', c', hv, h1, h2, h3⟩ := h
  obtain ⟨b', o', k1, k2, k4⟩ := h3 (by have := (List.getElem?_eq_some_iff.1 hk).1; omega)
  injection hv with e1 e2 e3
  rw [k1] at e1
  injection e1 with e1
  injection e1 with e4 e5 e6
  subst e4
  subst e5
  exact ⟨k2, (k4.kat hk).1, (k4.kat hk).2⟩

/-- the sum of the first n of g -/
def acc {f : Nat} (g : Nat → Fin (Pm f)) : Nat → Fin (Pm f)
  | 0 => 0
  | n + 1 => acc g n + g n

theorem acc_congr {f : Nat} {g h : Nat → Fin (Pm f)} : ∀ n, (∀ i, i < n → g i = h i) → acc g n = acc h n
  | 0, _ => rfl
  | n + 1, H => by
    show acc g n + g n = acc h n + h n
    rw [acc_congr n (fun i hi => H i (by omega)), H n (by omega)]
theorem acc_add {f : Nat} (g h : Nat → Fin (Pm f)) : ∀ n, acc (fun i => g i + h i) n = acc g n + acc h n
  | 0 => by
    show (0 : Fin (Pm f)) = 0 + 0
    grind
  | n + 1 => by
    show acc (fun i => g i + h i) n + (g n + h n) = acc g n + g n + (acc h n + h n)
    rw [acc_add g h n]
    grind
theorem acc_zero {f : Nat} (g : Nat → Fin (Pm f)) (m : Nat) : ∀ n, (∀ i, m ≤ i → i < m + n → g i = 0) → acc g (m + n) = acc g m
  | 0, _ => rfl
  | n + 1, H => by
    show acc g (m + n) + g (m + n) = _
    rw [acc_zero g m n (fun i h1 h2 => H i h1 (by omega)), H (m + n) (by omega) (by omega)]
    grind
theorem acc_shift {f : Nat} (g : Nat → Fin (Pm f)) (m : Nat) : ∀ n, acc g (m + n) = acc g m + acc (fun i => g (m + i)) n
  | 0 => by
    show acc g m = acc g m + 0
    grind
  | n + 1 => by
    show acc g (m + n) + g (m + n) = acc g m + (acc (fun i => g (m + i)) n + g (m + n))
    rw [acc_shift g m n]
    grind
theorem acc_flat {f : Nat} (h : Nat → Fin (Pm f)) (C : Nat) : ∀ q, acc (fun k => acc (fun i => h (k * C + i)) C) q = acc h (q * C)
  | 0 => by rw [Nat.zero_mul]; rfl
  | q + 1 => by
    show acc (fun k => acc (fun i => h (k * C + i)) C) q + acc (fun i => h (q * C + i)) C = _
    rw [acc_flat h C q, Nat.succ_mul, acc_shift]

theorem kpw_kpow {f : Nat} (x : Fin (Pm f)) : ∀ n, kpw x n = Fm.kpow x n
  | 0 => rfl
  | n + 1 => by rw [kpw, kpw_kpow x n, Fm.kpow_succ]
theorem mul_kinvK {f : Nat} (x : Fin (Pm f)) (hx : x ≠ 0) : x * kinv x = 1 := by
  have h := Fm.mul_kinv x hx
  unfold kinv
  rw [kpw_kpow]
  exact h
theorem kinv_one {f : Nat} : kinv (1 : Fin (Pm f)) = 1 := by
  have h := mul_kinvK (1 : Fin (Pm f)) k_one_ne
  grind
theorem kinv_two {f : Nat} (hf : IsF f) : nK f 2 ≠ 0 ∧ kinv (nK f 2) + kinv (nK f 2) = 1 := by
  have h0 : nK f 2 ≠ 0 := fun h => by
    have := nK_small hf (a := 2) (b := 0) (by decide) (by decide) (by rw [h, nK_zero])
    omega
  refine ⟨h0, ?_⟩
  have h := mul_kinvK (nK f 2) h0
  have h2 : nK f 2 = 1 + 1 := by rw [show 2 = 1 + 1 from rfl, nK_add, nK_one]
  generalize kinv (nK f 2) = k at h ⊢
  rw [h2] at h
  grind

/-- one pair of a chunk -/
def pairL {f : Nat} (v : KL f) (r part : Fin (Pm f)) (s i : Nat) : KL f :=
  if s + i < v.length then [kpw r (i + 1) * v.getD (s + i) 0, v.getD (s + i) 0 - part] else [0, 0]
/-- a chunk's first i pairs -/
def argL {f : Nat} (v : KL f) (r part : Fin (Pm f)) (s : Nat) : Nat → KL f
  | 0 => []
  | i + 1 => argL v r part s i ++ pairL v r part s i
theorem pairL_length {f : Nat} (v : KL f) (r part : Fin (Pm f)) (s i : Nat) : (pairL v r part s i).length = 2 := by unfold pairL; split <;> rfl
theorem argL_length {f : Nat} (v : KL f) (r part : Fin (Pm f)) (s : Nat) : ∀ i, (argL v r part s i).length = 2 * i
  | 0 => rfl
  | i + 1 => by
    show (argL v r part s i ++ pairL v r part s i).length = _
    rw [List.length_append, argL_length v r part s i, pairL_length]
    omega
theorem pairL_in {f : Nat} {v : KL f} {r part x : Fin (Pm f)} {s i : Nat} (h : v[s + i]? = some x) : pairL v r part s i = [kpw r (i + 1) * x, x - part] := by
  obtain ⟨hlt, he⟩ := List.getElem?_eq_some_iff.1 h
  unfold pairL
  rw [if_pos hlt, List.getD_eq_getElem?_getD, h]
  rfl
theorem pairL_out {f : Nat} {v : KL f} {r part : Fin (Pm f)} {s i : Nat} (h : ¬ s + i < v.length) : pairL v r part s i = [0, 0] := by
  unfold pairL
  rw [if_neg h]

/-- what is asked by the k-th call -/
def argOf {f : Nat} (y : CK) (v j : KL f) (part : Fin (Pm f)) (k : Nat) : KL f :=
  match y with
  | .count => [v.getD 0 0, v.getD 0 0]
  | .sum _ => [v.getD k 0]
  | .vec _ _ c => argL v (j.getD k 0) part (k * c) c
  | .hist _ c => argL v (j.getD k 0) part (k * c) c
  | .multi _ _ c => argL v (j.getD k 0) part (k * c) c

theorem getD_of {f : Nat} {l : KL f} {i : Nat} {x : Fin (Pm f)} (h : l[i]? = some x) : l.getD i 0 = x := by
  rw [List.getD_eq_getElem?_getD, h]
  rfl

/-- what the bits come to -/
def bitsF {f : Nat} (ans : Nat → Fin (Pm f)) (r : Fin (Pm f)) (n : Nat) : Fin (Pm f) := acc (fun i => kpw r (i + 1) * ans i) n
theorem bitsF_zero {f : Nat} (ans : Nat → Fin (Pm f)) (r : Fin (Pm f)) : bitsF ans r 0 = 0 := rfl
theorem bitsF_succ {f : Nat} (ans : Nat → Fin (Pm f)) (r : Fin (Pm f)) (n : Nat) : bitsF ans r (n + 1) = bitsF ans r n + kpw r (n + 1) * ans n := rfl

/-- what is said of a vector -/
def runF {f : Nat} (y : CK) (v j : KL f) (part : Fin (Pm f)) (ans : Nat → Fin (Pm f)) : Fin (Pm f) :=
  match y with
  | .count => ans 0 - v.getD 0 0
  | .sum b => bitsF ans (j.getD 0 0) b
  | .vec b l c => acc ans (CK.vec b l c).calls
  | .hist l c => acc ans (CK.hist l c).calls + j.getD (j.length - 1) 0 * (ksum (v.take l) - part)
  | .multi l m c => acc ans (CK.multi l m c).calls + j.getD (j.length - 1) 0 * (ksum (v.take l) - knum (v.drop l) + nK f (offN m) * part)

/-! ### shares -/
theorem bitsF_sum {f : Nat} (p q r : Nat → Fin (Pm f)) (x : Fin (Pm f)) : ∀ n, (∀ i, i < n → p i + q i = r i) → bitsF p x n + bitsF q x n = bitsF r x n
  | 0, _ => by
    show (0 : Fin (Pm f)) + 0 = 0
    grind
  | n + 1, H => by
    have ih := bitsF_sum p q r x n (fun i hi => H i (by omega))
    have h := H n (by omega)
    show bitsF p x n + kpw x (n + 1) * p n + (bitsF q x n + kpw x (n + 1) * q n) = bitsF r x n + kpw x (n + 1) * r n
    rw [← ih, ← h]
    grind
theorem acc_sum {f : Nat} (p q r : Nat → Fin (Pm f)) (n : Nat) (H : ∀ i, i < n → p i + q i = r i) : acc p n + acc q n = acc r n := by
  rw [← acc_add]
  exact acc_congr n H

/-- a and b add up to v -/
def SumL {f : Nat} (a b v : KL f) : Prop := a.length = v.length ∧ b.length = v.length ∧ ∀ (i : Nat) (x y z : Fin (Pm f)), a[i]? = some x → b[i]? = some y → v[i]? = some z → x + y = z
theorem SumL.at {f : Nat} {a b v : KL f} (h : SumL a b v) {i : Nat} (hi : i < v.length) : ∃ x y, a[i]? = some x ∧ b[i]? = some y ∧ v[i]? = some (x + y) := by
  obtain ⟨x, h1⟩ : ∃ x, a[i]? = some x := ⟨_, List.getElem?_eq_getElem (by rw [h.1]; exact hi)⟩
  obtain ⟨y, h2⟩ : ∃ x, b[i]? = some x := ⟨_, List.getElem?_eq_getElem (by rw [h.2.1]; exact hi)⟩
  have h3 : v[i]? = some v[i] := List.getElem?_eq_getElem hi
  have h4 := h.2.2 i _ _ _ h1 h2 h3
  exact ⟨_, _, h1, h2, by rw [h3, h4]⟩
theorem SumL.ksum {f : Nat} {a b v : KL f} (h : SumL a b v) : ∀ n, n ≤ v.length → ksum (a.take n) + ksum (b.take n) = ksum (v.take n)
  | 0, _ => by
    show (0 : Fin (Pm f)) + 0 = 0
    grind
  | n + 1, hn => by
    obtain ⟨x, y, h1, h2, h3⟩ := h.at (i := n) (by omega)
    rw [ksum_take _ _ _ h1, ksum_take _ _ _ h2, ksum_take _ _ _ h3, ← SumL.ksum h n (by omega)]
    grind
theorem SumL.knum {f : Nat} {a b v : KL f} (h : SumL a b v) : ∀ d, d ≤ v.length → knum (a.drop (v.length - d)) + knum (b.drop (v.length - d)) = knum (v.drop (v.length - d))
  | 0, _ => by
    rw [Nat.sub_zero, List.drop_length, show a.drop v.length = [] by rw [← h.1]; exact List.drop_length, show b.drop v.length = [] by rw [← h.2.1]; exact List.drop_length]
    show (0 : Fin (Pm f)) + 0 = 0
    grind
  | d + 1, hd => by
    obtain ⟨x, y, h1, h2, h3⟩ := h.at (i := v.length - (d + 1)) (by omega)
    have ih := SumL.knum h d (by omega)
    rw [knum_drop _ _ _ h1, knum_drop _ _ _ h2, knum_drop _ _ _ h3, show v.length - (d + 1) + 1 = v.length - d by omega, ← ih]
    grind

theorem runF_sum {f : Nat} (y : CK) (hy : y.ok) (v a b j : KL f) (hl : v.length = y.nin) (hs : SumL a b v) (h : Fin (Pm f)) (hh : h + h = 1) (p q r : Nat → Fin (Pm f)) (H : ∀ k, k < y.calls → p k + q k = r k) :
    runF y a j h p + runF y b j h q = runF y v j 1 r := by
  have hn := CK.nin_pos hy
  obtain ⟨x0, y0, h1, h2, h3⟩ := hs.at (i := 0) (by omega)
  cases y with
  | count =>
    show p 0 - a.getD 0 0 + (q 0 - b.getD 0 0) = r 0 - v.getD 0 0
    rw [getD_of h1, getD_of h2, getD_of h3, ← H 0 (by decide)]
    grind
  | sum b => exact bitsF_sum p q r _ b H
  | vec bb l c => exact acc_sum p q r _ H
  | hist l c =>
    show acc p (CK.hist l c).calls + j.getD (j.length - 1) 0 * (Go.Proofs.YtfhmineolncefaaDoor.ksum (a.take l) - h) + (acc q (CK.hist l c).calls + j.getD (j.length - 1) 0 * (Go.Proofs.YtfhmineolncefaaDoor.ksum (b.take l) - h)) = acc r (CK.hist l c).calls + j.getD (j.length - 1) 0 * (Go.Proofs.YtfhmineolncefaaDoor.ksum (v.take l) - 1)
    have hl2 : v.length = l := hl
    have e1 := acc_sum p q r _ H
    have e2 := hs.ksum l (by omega)
    rw [← e1, ← e2, ← hh]
    grind
  | multi l m c =>
    show acc p (CK.multi l m c).calls + j.getD (j.length - 1) 0 * (Go.Proofs.YtfhmineolncefaaDoor.ksum (a.take l) - Go.Proofs.YtfhmineolncefaaDoor.knum (a.drop l) + nK f (offN m) * h) + (acc q (CK.multi l m c).calls + j.getD (j.length - 1) 0 * (Go.Proofs.YtfhmineolncefaaDoor.ksum (b.take l) - Go.Proofs.YtfhmineolncefaaDoor.knum (b.drop l) + nK f (offN m) * h)) = acc r (CK.multi l m c).calls + j.getD (j.length - 1) 0 * (Go.Proofs.YtfhmineolncefaaDoor.ksum (v.take l) - Go.Proofs.YtfhmineolncefaaDoor.knum (v.drop l) + nK f (offN m) * 1)
    have hl2 : v.length = l + Lib.bitLen m := hl
    have e1 := acc_sum p q r _ H
    have e2 := hs.ksum l (by omega)
    have e3 := hs.knum (Lib.bitLen m) (by omega)
    rw [show v.length - Lib.bitLen m = l by omega] at e3
    rw [← e1, ← e2, ← e3, ← hh]
    grind

/-! ### directly -/
/-- what the reference adds up -/
def dirG {f : Nat} (v j : KL f) (s i : Nat) : Fin (Pm f) := kpw (j.getD (i / s) 0) (i % s + 1) * (v.getD i 0 * (v.getD i 0 - 1))
def CK.size : CK → Nat
  | .sum b => b
  | y => y.c
def dirF {f : Nat} (y : CK) (v j : KL f) : Fin (Pm f) :=
  match y with
  | .count => v.getD 0 0 * v.getD 0 0 - v.getD 0 0
  | .sum b => acc (dirG v j b) b
  | .vec b l c => acc (dirG v j c) (l * b)
  | .hist l c => acc (dirG v j c) l + j.getD (j.length - 1) 0 * (ksum (v.take l) - 1)
  | .multi l m c => acc (dirG v j c) (l + Lib.bitLen m) + j.getD (j.length - 1) 0 * (ksum (v.take l) + nK f (offN m) - knum (v.drop l))

theorem psum_append {f : Nat} (l m : KL f) : ∀ i, 2 * i ≤ l.length → psum (l ++ m) i = psum l i
  | 0, _ => rfl
  | i + 1, h => by
    show psum (l ++ m) i + (l ++ m).getD (2 * i) 0 * (l ++ m).getD (2 * i + 1) 0 = psum l i + l.getD (2 * i) 0 * l.getD (2 * i + 1) 0
    rw [psum_append l m i (by omega)]
    simp only [List.getD_eq_getElem?_getD]
    rw [List.getElem?_append_left (by omega), List.getElem?_append_left (by omega)]
theorem psum_argL {f : Nat} (v : KL f) (r : Fin (Pm f)) (s : Nat) : ∀ i, psum (argL v r 1 s i) i = acc (fun i => if s + i < v.length then kpw r (i + 1) * (v.getD (s + i) 0 * (v.getD (s + i) 0 - 1)) else 0) i
  | 0 => rfl
  | i + 1 => by
    have hl := argL_length v r 1 s i
    show psum (argL v r 1 s i ++ pairL v r 1 s i) i + (argL v r 1 s i ++ pairL v r 1 s i).getD (2 * i) 0 * (argL v r 1 s i ++ pairL v r 1 s i).getD (2 * i + 1) 0 = _ + _
    rw [psum_append _ _ _ (by omega), psum_argL v r s i]
    simp only [List.getD_eq_getElem?_getD]
    rw [List.getElem?_append_right (by omega), List.getElem?_append_right (by omega), hl, show 2 * i - 2 * i = 0 by omega, show 2 * i + 1 - 2 * i = 1 by omega]
    unfold pairL
    by_cases hlt : s + i < v.length
    · rw [if_pos hlt, if_pos hlt]
      simp only [List.getD_eq_getElem?_getD, List.getElem?_cons_zero, List.getElem?_cons_succ, Option.getD_some]
      grind
    · rw [if_neg hlt, if_neg hlt]
      simp only [List.getElem?_cons_zero, List.getElem?_cons_succ, Option.getD_some]
      grind

theorem chunks_dir {f : Nat} (v j : KL f) (c : Nat) (hc : 1 ≤ c) (q : Nat) (hq : v.length ≤ q * c) : acc (fun k => psum (argL v (j.getD k 0) 1 (k * c) c) c) q = acc (dirG v j c) v.length := by
  have h1 : acc (fun k => psum (argL v (j.getD k 0) 1 (k * c) c) c) q = acc (fun k => acc (fun i => (fun n => if n < v.length then dirG v j c n else 0) (k * c + i)) c) q := by
    refine acc_congr q fun k hk => ?_
    rw [psum_argL]
    refine acc_congr c fun i hi => ?_
    have e1 : (k * c + i) / c = k := by rw [Nat.mul_comm, Nat.mul_add_div (by omega), Nat.div_eq_of_lt hi, Nat.add_zero]
    have e2 : (k * c + i) % c = i := by rw [Nat.mul_comm, Nat.mul_add_mod, Nat.mod_eq_of_lt hi]
    show (if k * c + i < v.length then _ else _) = if k * c + i < v.length then dirG v j c (k * c + i) else 0
    unfold dirG
    rw [e1, e2]
  rw [h1, acc_flat (fun n => if n < v.length then dirG v j c n else 0) c q]
  obtain ⟨d, hd⟩ : ∃ d, q * c = v.length + d := ⟨q * c - v.length, by omega⟩
  rw [hd, acc_zero _ _ d (fun i h1 h2 => if_neg (by omega))]
  exact acc_congr _ fun i hi => if_pos hi

/-- what is said of a vector, the gadget being asked itself, is as the document has it -/
theorem runF_dir {f : Nat} (y : CK) (hy : y.ok) (v j : KL f) (hl : v.length = y.nin) : runF y v j 1 (fun k => gval (y.gad f) (argOf y v j 1 k)) = dirF y v j := by
  cases y with
  | count =>
    show (0 : Fin (Pm f)) + v.getD 0 0 * v.getD 0 0 - v.getD 0 0 = v.getD 0 0 * v.getD 0 0 - v.getD 0 0
    grind
  | sum b =>
    refine acc_congr b fun i hi => ?_
    show kpw (j.getD 0 0) (i + 1) * (((0 * v.getD i 0 + 1) * v.getD i 0 + -1) * v.getD i 0 + 0) = kpw (j.getD (i / b) 0) (i % b + 1) * (v.getD i 0 * (v.getD i 0 - 1))
    rw [Nat.div_eq_of_lt hi, Nat.mod_eq_of_lt hi]
    grind
  | vec bb l c =>
    have h := chunks_dir v j c hy.2.2.1 (CK.vec bb l c).calls (by rw [hl]; exact ceil_spec hy.2.2.1)
    rw [hl] at h
    exact h
  | hist l c =>
    have h := chunks_dir v j c hy.2.1 (CK.hist l c).calls (by rw [hl]; exact ceil_spec hy.2.1)
    rw [hl] at h
    show acc _ _ + _ = acc (dirG v j c) l + _
    exact congrArg (· + j.getD (j.length - 1) 0 * (ksum (v.take l) - 1)) h
  | multi l m c =>
    have h := chunks_dir v j c hy.2.2.1 (CK.multi l m c).calls (by rw [hl]; exact ceil_spec hy.2.2.1)
    rw [hl] at h
    refine (congrArg (· + j.getD (j.length - 1) 0 * (ksum (v.take l) - knum (v.drop l) + nK f (offN m) * 1)) h).trans ?_
    show acc (dirG v j c) (l + Lib.bitLen m) + _ = acc (dirG v j c) (l + Lib.bitLen m) + _
    grind

/-- nought is said of a right one -/
theorem dirF_ok {f : Nat} (y : CK) (hy : y.ok) (v j : KL f) (hl : v.length = y.nin) (hv : okVec y v) : dirF y v j = 0 := by
  have hz : ∀ s n, n ≤ v.length → acc (dirG v j s) n = 0 := fun s n hn => by
    have h := acc_zero (dirG v j s) 0 n (fun i _ hi => by
      have hx := hv.1 v[i] (List.getElem_mem (by omega))
      have he : v[i]? = some v[i] := List.getElem?_eq_getElem (by omega)
      unfold dirG
      rw [getD_of he]
      rcases hx with h | h
      · rw [h]
        grind
      · rw [h]
        grind)
    rw [Nat.zero_add] at h
    exact h
  have hn := CK.nin_pos hy
  cases y with
  | count =>
    have hx := hv.1 v[0] (List.getElem_mem (by omega))
    have he : v[0]? = some v[0] := List.getElem?_eq_getElem (by omega)
    show v.getD 0 0 * v.getD 0 0 - v.getD 0 0 = 0
    rw [getD_of he]
    rcases hx with h | h
    · rw [h]
      grind
    · rw [h]
      grind
  | sum b => exact hz b b (by rw [hl]; exact Nat.le_refl _)
  | vec bb l c => exact hz c (l * bb) (by rw [hl]; exact Nat.le_refl _)
  | hist l c =>
    show acc (dirG v j c) l + _ = 0
    rw [hz c l (by rw [hl]; exact Nat.le_refl _)]
    have h2 : ksum v = 1 := hv.2
    have h3 : v.take l = v := List.take_of_length_le (by rw [hl]; exact Nat.le_refl _)
    rw [h3, h2]
    grind
  | multi l m c =>
    show acc (dirG v j c) (l + Lib.bitLen m) + _ = 0
    rw [hz c _ (by rw [hl]; exact Nat.le_refl _)]
    have h2 : ksum (v.take l) + nK f (offN m) = knum (v.drop l) := hv.2
    rw [h2]
    grind

end Go.Proofs.YtfhmineolncefaaDoor
