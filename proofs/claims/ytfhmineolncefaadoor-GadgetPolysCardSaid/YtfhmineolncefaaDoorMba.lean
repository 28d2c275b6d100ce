/-
  WALK: the reference's In.
-/
/-
  WALKS: gadget.Check, Of, Poly of any gadget at all; tallymanlaw09.GadgetChecks.
-/
/-
  WALK: tallymanlaw09.Awake, GadgetBits.
-/
import Derived.Test.YtfhmineolncefaaDoorMai
import Derived.Test.YtfhmineolncefaaDoorMaj
import Derived.Test.YtfhmineolncefaaDoorMay
import Derived.Test.YtfhmineolncefaaDoorMag
namespace Go.Proofs.YtfhmineolncefaaDoor
open Go.RowKit Fm
set_option linter.unusedVariables false
set_option maxRecDepth 100000

set_option maxHeartbeats 2000000 in
theorem ref_In (f m a0 a1 : Int) (w : World) (hf : FM f m) (h0 : 0 ≤ a0) (h1 : a0 ≤ 18446744073709551615) (k0 : 0 ≤ a1) (k1 : a1 ≤ 18446744073709551615) :
    Calls Tryd.prog 48 #[.int .i64 f, .agg #[.int .u64 a0, .int .u64 a1]] w fun e w' => e = .returned (.bool (decide (a0 + 18446744073709551616 * a1 < m))) ∧ Below w.heap.size w w' := by
  have q1 := V2.new w (.int .u64 a0) (.int .u64 a1) 28
  obtain ⟨c10, c11, c12, c13, c14⟩ := V2.new w (.int .u64 a0) (.int .u64 a1) 28
  rcases hf.or with ⟨hf1, rfl⟩ | ⟨hf1, rfl⟩
  · have hm : RefM f 18446744069414584321 18446744069414584321 0 := ⟨.inl ⟨hf1, rfl, rfl, rfl⟩⟩
    have hg1 : (f == 1) = true := by rw [hf1]; rfl
    clear hf1 hf
    go_enter Tryd.func48, Tryd.ntmps48
    go_wp2_with fail
    first | (go_region_with (first
      | (go_at_call 57; refine (ref_P f _ _ _ _ hm).mono ?_; rintro e w2 ⟨rfl, hb2'⟩; have hb2 := undrew hb2'; clear hb2'; obtain ⟨c20, c21, c22, c23, c24⟩ := q1.call hb2)
      | (go_at_call 56; refine (ref_Less _ _ _ _ _ (by omega) (by omega) (by omega) (by omega)).mono ?_; rintro e w3 ⟨rfl, hb3⟩; obtain ⟨c30, c31, c32, c33, c34⟩ := V2.call ⟨c20, c21, c22, c23, c24⟩ hb3))) | fail
    all_goals
      go_wp2
      go_ret
      exact ⟨ret_bool (by congr 1), by repeat (first | exact Below.refl _ _ | with_reducible assumption | (refine bl_alloc ?_ (Nat.le_refl _) _) | (refine bl_set ?_ (by dsimp only; omega) _) | (refine Below.drew ?_) | (refine bl_drewN ?_ _) | (refine bl_call ?_ (Nat.le_refl _) (by assumption)))⟩
  · have hm : RefM f 340282366920938462946865773367900766209 1 18446744073709551588 := ⟨.inr ⟨by omega, rfl, rfl, rfl⟩⟩
    have hg1 : (f == 1) = false := by rw [hf1]; rfl
    have hg2 : (f == 2) = true := by rw [hf1]; rfl
    clear hf1 hf
    go_enter Tryd.func48, Tryd.ntmps48
    go_wp2_with fail
    first | (go_region_with (first
      | (go_at_call 57; refine (ref_P f _ _ _ _ hm).mono ?_; rintro e w2 ⟨rfl, hb2'⟩; have hb2 := undrew hb2'; clear hb2'; obtain ⟨c20, c21, c22, c23, c24⟩ := q1.call hb2)
      | (go_at_call 56; refine (ref_Less _ _ _ _ _ (by omega) (by omega) (by omega) (by omega)).mono ?_; rintro e w3 ⟨rfl, hb3⟩; obtain ⟨c30, c31, c32, c33, c34⟩ := V2.call ⟨c20, c21, c22, c23, c24⟩ hb3))) | fail
    all_goals
      go_wp2
      go_ret
      exact ⟨ret_bool (by congr 1), by repeat (first | exact Below.refl _ _ | with_reducible assumption | (refine bl_alloc ?_ (Nat.le_refl _) _) | (refine bl_set ?_ (by dsimp only; omega) _) | (refine Below.drew ?_) | (refine bl_drewN ?_ _) | (refine bl_call ?_ (Nat.le_refl _) (by assumption)))⟩

end Go.Proofs.YtfhmineolncefaaDoor

namespace Go.Proofs.YtfhmineolncefaaDoor
open Go.RowKit Fm
set_option linter.unusedVariables false
set_option maxRecDepth 100000

/-- an element, and some code -/
def RetEAny (w : World) (e : Ending) (w' : World) : Prop := ∃ (z0 z1 c : Int), e = .returned (.tuple #[.agg #[.int .u64 z0, .int .u64 z1], .int .i64 c]) ∧ Below w.heap.size w w'
/-- a gadget's three fields, whatever they are -/
abbrev vG (k : Int) (sl : Value) (n : Int) : Value := .agg #[.int .u8 k, sl, .int .i64 n]
/-- does an element's number lie in the field? -/
def inB (f : Nat) (e : E) : Bool := decide (e.1 + 18446744073709551616 * e.2 < (Pm f : Int))

section
/-- what Check says -/
def RetI0 (c : Int) (w : World) (e : Ending) (w' : World) : Prop := e = .returned (.int .i64 c) ∧ Below w.heap.size w w'

theorem gadget_Check_kind (F : Int) (hF : ¬ (F = 1) ∧ ¬ (F = 2)) (k n : Int) (sl : Value) (w : World) : Calls Tryd.prog 51 #[vG k sl n, .int .u8 F] w (RetI0 10 w) := by
  have HV := Lib.hid (fun wz => ntt_inval F hF wz)
  go_enter Tryd.func51, Tryd.ntmps51
  go_wp2_with (go_at_call 59; refine (HV.out _).mono ?_; rintro e w5 ⟨rfl, rfl⟩)
  go_ret
  exact ⟨rfl, by repeat (first | exact Below.refl _ _ | with_reducible assumption | (refine bl_alloc ?_ (Nat.le_refl _) _) | (refine bl_set ?_ (by dsimp only; omega) _) | (refine Below.drew ?_) | (refine bl_drewN ?_ _) | (refine bl_call ?_ (Nat.le_refl _) (by assumption)))⟩

variable {f : Nat} (hf : IsF f)
include hf
theorem gadget_Check_mul (n : Int) (sl : Value) (w : World) : Calls Tryd.prog 51 #[vG 1 sl n, .int .u8 f] w (RetI0 0 w) := by
  have HV := Lib.hid (fun wz => field_ValidT hf wz)
  go_enter Tryd.func51, Tryd.ntmps51
  go_wp2_with (go_at_call 59; refine (HV.out _).mono ?_; rintro e w5 ⟨rfl, rfl⟩)
  go_ret
  exact ⟨rfl, by repeat (first | exact Below.refl _ _ | with_reducible assumption | (refine bl_alloc ?_ (Nat.le_refl _) _) | (refine bl_set ?_ (by dsimp only; omega) _) | (refine Below.drew ?_) | (refine bl_drewN ?_ _) | (refine bl_call ?_ (Nat.le_refl _) (by assumption)))⟩
theorem gadget_Check_other (k n : Int) (sl : Value) (h1 : (k == 1) = false) (h2 : (k == 2) = false) (h3 : (k == 3) = false) (w : World) : Calls Tryd.prog 51 #[vG k sl n, .int .u8 f] w (RetI0 10 w) := by
  have HV := Lib.hid (fun wz => field_ValidT hf wz)
  go_enter Tryd.func51, Tryd.ntmps51
  go_wp2_with (go_at_call 59; refine (HV.out _).mono ?_; rintro e w5 ⟨rfl, rfl⟩)
  go_ret
  exact ⟨rfl, by repeat (first | exact Below.refl _ _ | with_reducible assumption | (refine bl_alloc ?_ (Nat.le_refl _) _) | (refine bl_set ?_ (by dsimp only; omega) _) | (refine Below.drew ?_) | (refine bl_drewN ?_ _) | (refine bl_call ?_ (Nat.le_refl _) (by assumption)))⟩
theorem gadget_Check_par (n : Int) (sl : Value) (h : 1 ≤ n ∧ n ≤ 16) (w : World) : Calls Tryd.prog 51 #[vG 3 sl n, .int .u8 f] w (RetI0 0 w) := by
  have HV := Lib.hid (fun wz => field_ValidT hf wz)
  have h1 : ¬ (n < 1) := by omega
  have h2 : ¬ (16 < n) := by omega
  go_enter Tryd.func51, Tryd.ntmps51
  go_wp2_with (go_at_call 59; refine (HV.out _).mono ?_; rintro e w5 ⟨rfl, rfl⟩)
  go_ret
  exact ⟨rfl, by repeat (first | exact Below.refl _ _ | with_reducible assumption | (refine bl_alloc ?_ (Nat.le_refl _) _) | (refine bl_set ?_ (by dsimp only; omega) _) | (refine Below.drew ?_) | (refine bl_drewN ?_ _) | (refine bl_call ?_ (Nat.le_refl _) (by assumption)))⟩
theorem gadget_Check_range (n : Int) (sl : Value) (h : n < 1 ∨ 16 < n) (w : World) : Calls Tryd.prog 51 #[vG 3 sl n, .int .u8 f] w (RetI0 6 w) := by
  have HV := Lib.hid (fun wz => field_ValidT hf wz)
  rcases h with h | h
  · go_enter Tryd.func51, Tryd.ntmps51
    go_wp2_with (go_at_call 59; refine (HV.out _).mono ?_; rintro e w5 ⟨rfl, rfl⟩)
    go_ret
    exact ⟨rfl, by repeat (first | exact Below.refl _ _ | with_reducible assumption | (refine bl_alloc ?_ (Nat.le_refl _) _) | (refine bl_set ?_ (by dsimp only; omega) _) | (refine Below.drew ?_) | (refine bl_drewN ?_ _) | (refine bl_call ?_ (Nat.le_refl _) (by assumption)))⟩
  · have h2 : ¬ (n < 1) := by omega
    go_enter Tryd.func51, Tryd.ntmps51
    go_wp2_with (go_at_call 59; refine (HV.out _).mono ?_; rintro e w5 ⟨rfl, rfl⟩)
    go_ret
    exact ⟨rfl, by repeat (first | exact Below.refl _ _ | with_reducible assumption | (refine bl_alloc ?_ (Nat.le_refl _) _) | (refine bl_set ?_ (by dsimp only; omega) _) | (refine Below.drew ?_) | (refine bl_drewN ?_ _) | (refine bl_call ?_ (Nat.le_refl _) (by assumption)))⟩
theorem gadget_Check_len (A : Option Addr) (m c : Nat) (n : Int) (h : m < 2 ∨ 4 < m) (w : World) : Calls Tryd.prog 51 #[vG 2 (.slice A m c) n, .int .u8 f] w (RetI0 9 w) := by
  have HV := Lib.hid (fun wz => field_ValidT hf wz)
  rcases h with h | h
  · go_enter Tryd.func51, Tryd.ntmps51
    go_wp2_with (go_at_call 59; refine (HV.out _).mono ?_; rintro e w5 ⟨rfl, rfl⟩)
    go_ret
    exact ⟨rfl, by repeat (first | exact Below.refl _ _ | with_reducible assumption | (refine bl_alloc ?_ (Nat.le_refl _) _) | (refine bl_set ?_ (by dsimp only; omega) _) | (refine Below.drew ?_) | (refine bl_drewN ?_ _) | (refine bl_call ?_ (Nat.le_refl _) (by assumption)))⟩
  · have h2 : ¬ (m < 2) := by omega
    go_enter Tryd.func51, Tryd.ntmps51
    go_wp2_with (go_at_call 59; refine (HV.out _).mono ?_; rintro e w5 ⟨rfl, rfl⟩)
    go_ret
    exact ⟨rfl, by repeat (first | exact Below.refl _ _ | with_reducible assumption | (refine bl_alloc ?_ (Nat.le_refl _) _) | (refine bl_set ?_ (by dsimp only; omega) _) | (refine Below.drew ?_) | (refine bl_drewN ?_ _) | (refine bl_call ?_ (Nat.le_refl _) (by assumption)))⟩

set_option maxHeartbeats 4000000 in
theorem gadget_Check_eval (sl : Value) (C : List E) (n : Int) (w : World) (hs : SlE w w.heap.size sl C) (m : Nat) (hm : C.length = m + 1) (h1 : 1 ≤ m) (h2 : m ≤ 3) (y0 y1 : Int) (hy : C[m]? = some (y0, y1)) :
    Calls Tryd.prog 51 #[vG 2 sl n, .int .u8 f] w (RetI0 (if (y0 == 0 && y1 == 0) = true then 9 else if ∀ e, e ∈ C → inB f e = true then 0 else 7) w) := by
  have heq := eql_elem
  have HV := Lib.hid (fun wz => field_ValidT hf wz)
  have hok : OkL C := hs.2
  have HOK := Lib.hid hok
  have HIN : Hid (∀ (e0 e1 : Int) wz, okE (e0, e1) → Calls Tryd.prog 80 #[.int .u8 f, .agg #[.int .u64 e0, .int .u64 e1]] wz fun e w' => e = .returned (.bool (inB f (e0, e1))) ∧ Below wz.heap.size wz w') := fun e0 e1 wz h => field_In f _ e0 e1 wz (FM.ofN hf) h.1 h.2.1 h.2.2.1 h.2.2.2
  obtain ⟨⟨A, c, rfl, hc, hcm, hA⟩, _⟩ := hs
  obtain ⟨b, o, rfl, hB, hr⟩ := hA (by omega)
  have hr1 := hr.call ((Below.refl w.heap.size w).alloc (Nat.le_refl _) (.cells #[.int .u8 2, .slice (some ⟨b, o, none⟩) C.length c, .int .i64 n] 68))
  obtain ⟨c0, c1⟩ := hr1 m _ hy
  dsimp only at c0 c1
  have hv0 := Vs.new w [.int .u8 2, .slice (some ⟨b, o, none⟩) C.length c, .int .i64 n] #[.int .u8 2, .slice (some ⟨b, o, none⟩) C.length c, .int .i64 n] 68 rfl
  have hbl : b < w.heap.size := hB
  rw [hm] at c0 c1 hv0 hc
  rw [hm]
  have HM := Lib.hid hm
  have HRW := Lib.hid hr
  clear hm hy hA hok hr hr1
  have HALL : Hid ((∀ e, e ∈ C → inB f e = true) ↔ ∀ q e, q < m + 1 → C[q]? = some e → inB f e = true) := by
    constructor
    · intro h q e _ he
      exact h e (List.mem_of_getElem? he)
    · intro h e he
      obtain ⟨q, hq⟩ := List.getElem?_of_mem he
      refine h q e ?_ hq
      have := HM.out
      obtain ⟨h3, _⟩ := List.getElem?_eq_some_iff.1 hq
      omega
  have HAT : Hid (∀ q, q < m + 1 → ∃ e0 e1, C[q]? = some (e0, e1)) := fun q hq => ⟨(C[q]'(by have := HM.out; omega)).1, (C[q]'(by have := HM.out; omega)).2, List.getElem?_eq_getElem (by have := HM.out; omega)⟩
  by_cases hd : (y0 == 0 && y1 == 0) = true
  · rw [if_pos hd]
    clear HALL HAT
    go_enter Tryd.func51, Tryd.ntmps51
    go_wp2_with (go_at_call 59; refine (HV.out _).mono ?_; rintro e w5 ⟨rfl, rfl⟩)
    go_ret
    exact ⟨rfl, by repeat (first | exact Below.refl _ _ | with_reducible assumption | (refine bl_alloc ?_ (Nat.le_refl _) _) | (refine bl_set ?_ (by dsimp only; omega) _) | (refine Below.drew ?_) | (refine bl_drewN ?_ _) | (refine bl_call ?_ (Nat.le_refl _) (by assumption)))⟩
  · rw [if_neg hd]
    replace hd : (y0 == 0 && y1 == 0) = false := by simpa using hd
    obtain ⟨R, hR⟩ : ∃ R : Int, (if ∀ e, e ∈ C → inB f e = true then (0 : Int) else 7) = R := ⟨_, rfl⟩
    rw [hR]
    have HR0 : Hid ((∀ q e, q < m + 1 → C[q]? = some e → inB f e = true) → R = 0) := fun h => by rw [← hR, if_pos (HALL.out.2 h)]
    have HR7 : Hid (∀ q e, q < m + 1 → C[q]? = some e → inB f e = false → R = 7) := fun q e h1 h2 h3 => by
      rw [← hR, if_neg]
      intro h
      rw [HALL.out.1 h q e h1 h2] at h3
      cases h3
    clear hR HALL
    go_enter Tryd.func51, Tryd.ntmps51
    go_wp2_with (go_at_call 59; refine (HV.out _).mono ?_; rintro e w5 ⟨rfl, rfl⟩)
    go_loopw [41] (fun i wr => ∃ q : Nat, q ≤ m + 1 ∧ i = .int .i64 q ∧ Hid (∀ j e, j < q → C[j]? = some e → inB f e = true) ∧ Below w.heap.size w wr ∧ Vs wr w.heap.size [.int .u8 2, .slice (some ⟨b, o, none⟩) (m + 1) c, .int .i64 n]) (fun i _ => m + 1 - (intOf i).toNat)
    case atStart => exact ⟨0, Nat.zero_le _, rfl, fun j e h => absurd h (Nat.not_lt_zero _), by repeat (first | exact Below.refl _ _ | with_reducible assumption | (refine bl_alloc ?_ (Nat.le_refl _) _) | (refine bl_set ?_ (by dsimp only; omega) _) | (refine Below.drew ?_) | (refine bl_drewN ?_ _) | (refine bl_call ?_ (Nat.le_refl _) (by assumption))), hv0⟩
    case round =>
      obtain ⟨q, hq, rfl, hI, hbw, hv⟩ := hrel
      clear c0 c1 hd hv0
      by_cases hlt : q < m + 1
      · obtain ⟨e0, e1, he⟩ := HAT.out q hlt
        have hrb := HRW.out.below hbw hB
        obtain ⟨c0, c1⟩ := hrb q _ he
        dsimp only at c0 c1
        have HOE : Hid (okE (e0, e1)) := HOK.out.at he
        have HE := Lib.hid he
        obtain ⟨t, ht⟩ : ∃ t, inB f (e0, e1) = t := ⟨_, rfl⟩
        have HI1 : Hid (∀ wz, Calls Tryd.prog 80 #[.int .u8 f, .agg #[.int .u64 e0, .int .u64 e1]] wz fun e w' => e = .returned (.bool t) ∧ Below wz.heap.size wz w') := fun wz => by
          have h := HIN.out e0 e1 wz HOE.out
          rwa [ht] at h
        have HT := Lib.hid ht
        clear he hrb ht
        cases t with
        | true =>
          go_wp2_with (go_at_call 80; refine (HI1.out _).mono ?_; rintro e w6 ⟨rfl, hb6⟩; replace hv := (hv.alloc _).call hb6)
          go_roundw
          case rel => exact ⟨q + 1, by omega, by go_num, fun j e hj hje => by
            by_cases hjq : j = q
            · rw [hjq, HE.out] at hje
              rw [← Option.some.inj hje, HT.out]
            · exact hI.out j e (by omega) hje, by repeat (first | exact Below.refl _ _ | with_reducible assumption | (refine bl_alloc ?_ (Nat.le_refl _) _) | (refine bl_set ?_ (by dsimp only; omega) _) | (refine Below.drew ?_) | (refine bl_drewN ?_ _) | (refine bl_call ?_ (Nat.le_refl _) (by assumption))), hv⟩
          case measure => simp [intOf]; omega
        | false =>
          have HRR : Hid (R = 7) := HR7.out q _ hlt HE.out HT.out
          go_wp2_with (go_at_call 80; refine (HI1.out _).mono ?_; rintro e w6 ⟨rfl, hb6⟩; replace hv := (hv.alloc _).call hb6)
          go_ret
          exact ⟨by rw [HRR.out]; rfl, by repeat (first | exact Below.refl _ _ | with_reducible assumption | (refine bl_alloc ?_ (Nat.le_refl _) _) | (refine bl_set ?_ (by dsimp only; omega) _) | (refine Below.drew ?_) | (refine bl_drewN ?_ _) | (refine bl_call ?_ (Nat.le_refl _) (by assumption)))⟩
      · obtain rfl : q = m + 1 := by omega
        have HRR : Hid (R = 0) := HR0.out hI.out
        go_wp2
        go_ret
        exact ⟨by rw [HRR.out]; rfl, by repeat (first | exact Below.refl _ _ | with_reducible assumption | (refine bl_alloc ?_ (Nat.le_refl _) _) | (refine bl_set ?_ (by dsimp only; omega) _) | (refine Below.drew ?_) | (refine bl_drewN ?_ _) | (refine bl_call ?_ (Nat.le_refl _) (by assumption)))⟩
end

section
variable (F k n : Int) (sl : Value) (w : World)
theorem gadget_Of_err (c : Int) (hc : (c == 0) = false) (HC : ∀ wz, Below w.heap.size w wz → Calls Tryd.prog 51 #[vG k sl n, .int .u8 F] wz (RetI0 c wz)) (vl : Value) :
    Calls Tryd.prog 49 #[vG k sl n, .int .u8 F, vl] w fun e w' => e = .returned (.tuple #[.agg #[.int .u64 0, .int .u64 0], .int .i64 c]) ∧ Below w.heap.size w w' := by
  have HC := Lib.hid HC
  have hc2 : (c != 0) = true := by rw [bne, hc]; rfl
  go_enter Tryd.func49, Tryd.ntmps49
  go_upto_region 1 with fail
  have hx := (Vs.new w [.int .u8 k, sl, .int .i64 n] #[.int .u8 k, sl, .int .i64 n] 68 rfl).alloc (.cells #[.int .u64 0, .int .u64 0] 28)
  have hr := V2.new (w.alloc (.cells #[.int .u8 k, sl, .int .i64 n] 68)) (.int .u64 0) (.int .u64 0) 28
  simp only [World.size_alloc] at hr
  have hb00 : Below w.heap.size w ((w.alloc (.cells #[.int .u8 k, sl, .int .i64 n] 68)).alloc (.cells #[.int .u64 0, .int .u64 0] 28)) := by repeat (first | exact Below.refl _ _ | with_reducible assumption | (refine bl_alloc ?_ (Nat.le_refl _) _))
  have hszn : w.heap.size + 2 ≤ ((w.alloc (.cells #[.int .u8 k, sl, .int .i64 n] 68)).alloc (.cells #[.int .u64 0, .int .u64 0] 28)).heap.size := by simp only [World.size_alloc]; omega
  generalize ((w.alloc (.cells #[.int .u8 k, sl, .int .i64 n] 68)).alloc (.cells #[.int .u64 0, .int .u64 0] 28)) = w1 at hx hr hb00 hszn ⊢
  obtain ⟨x0, x1, x2, x3, x4, x5, x6⟩ := hx.get3
  obtain ⟨r0, r1, r2, r3, r4⟩ := V2.mk hr.c0 hr.c1 hr.f0 hr.f1 hr.lt
  go_wp2_with fail
  refine (HC.out _ hb00).mono ?_
  rintro e w2 ⟨rfl, hb2⟩
  clear x0 x1 x2 x3 x4 x5 x6 r0 r1 r2 r3 r4
  replace hb00 := bl_call hb00 (Nat.le_refl _) hb2
  replace hx := hx.call hb2
  replace hr := hr.call hb2
  clear hb2
  obtain ⟨r0, r1, r2, r3, r4⟩ := V2.mk hr.c0 hr.c1 hr.f0 hr.f1 hr.lt
  go_wp2_with fail
  refine bodyPost_ret (results_v2_tmp (b := w.heap.size + 1) (u := .int .u64 0) (v := .int .u64 0) ?_ rfl rfl) rfl ?_
  · first | exact V2.set hr _ _ | exact hr
  · exact ⟨rfl, by repeat (first | exact Below.refl _ _ | with_reducible assumption | (refine bl_alloc ?_ (Nat.le_refl _) _) | (refine bl_set ?_ (by dsimp only; omega) _) | (refine Below.drew ?_) | (refine bl_drewN ?_ _) | (refine bl_call ?_ (Nat.le_refl _) (by assumption)))⟩
theorem gadget_Poly_err (c : Int) (hc : (c == 0) = false) (HC : ∀ wz, Below w.heap.size w wz → Calls Tryd.prog 51 #[vG k sl n, .int .u8 F] wz (RetI0 c wz)) (vl : Value) :
    Calls Tryd.prog 50 #[vG k sl n, .int .u8 F, vl] w (RetE9 c w) := by
  have HC := Lib.hid HC
  have hc2 : (c != 0) = true := by rw [bne, hc]; rfl
  go_enter Tryd.func50, Tryd.ntmps50
  go_upto_region 1 with fail
  have hx := Vs.new w [.int .u8 k, sl, .int .i64 n] #[.int .u8 k, sl, .int .i64 n] 68 rfl
  have hb00 : Below w.heap.size w (w.alloc (.cells #[.int .u8 k, sl, .int .i64 n] 68)) := by repeat (first | exact Below.refl _ _ | with_reducible assumption | (refine bl_alloc ?_ (Nat.le_refl _) _))
  have hszn : w.heap.size + 1 ≤ (w.alloc (.cells #[.int .u8 k, sl, .int .i64 n] 68)).heap.size := by simp only [World.size_alloc]; omega
  generalize (w.alloc (.cells #[.int .u8 k, sl, .int .i64 n] 68)) = w1 at hx hb00 hszn ⊢
  obtain ⟨x0, x1, x2, x3, x4, x5, x6⟩ := hx.get3
  go_wp2_with fail
  refine (HC.out _ hb00).mono ?_
  rintro e w2 ⟨rfl, hb2⟩
  clear x0 x1 x2 x3 x4 x5 x6
  replace hb00 := bl_call hb00 (Nat.le_refl _) hb2
  replace hx := hx.call hb2
  clear hb2
  go_wp2_with fail
  go_ret2
  exact ⟨rfl, by repeat (first | exact Below.refl _ _ | with_reducible assumption | (refine bl_alloc ?_ (Nat.le_refl _) _) | (refine bl_set ?_ (by dsimp only; omega) _) | (refine Below.drew ?_) | (refine bl_drewN ?_ _) | (refine bl_call ?_ (Nat.le_refl _) (by assumption)))⟩

variable (HC : ∀ wz, Below w.heap.size w wz → Calls Tryd.prog 51 #[vG k sl n, .int .u8 F] wz (RetI0 0 wz)) (a : Nat) (HA : ∀ wz, Calls Tryd.prog 53 #[vG k sl n] wz (RetI0 a wz))
include HC HA
theorem gadget_Of_sizeE (A : Option Addr) (m c : Nat) (hm : ¬ (m = a)) :
    Calls Tryd.prog 49 #[vG k sl n, .int .u8 F, .slice A m c] w (RetEAny w) := by
  have HC := Lib.hid HC
  have HA := Lib.hid HA
  have t1 : ((m : Int) == (a : Int)) = false := by rw [beq_eq_false_iff_ne]; omega
  have t2 : ((m : Int) != (a : Int)) = true := by rw [bne_iff_ne]; omega
  go_enter Tryd.func49, Tryd.ntmps49
  go_upto_region 1 with fail
  have hx := (Vs.new w [.int .u8 k, sl, .int .i64 n] #[.int .u8 k, sl, .int .i64 n] 68 rfl).alloc (.cells #[.int .u64 0, .int .u64 0] 28)
  have hr := V2.new (w.alloc (.cells #[.int .u8 k, sl, .int .i64 n] 68)) (.int .u64 0) (.int .u64 0) 28
  simp only [World.size_alloc] at hr
  have hb00 : Below w.heap.size w ((w.alloc (.cells #[.int .u8 k, sl, .int .i64 n] 68)).alloc (.cells #[.int .u64 0, .int .u64 0] 28)) := by repeat (first | exact Below.refl _ _ | with_reducible assumption | (refine bl_alloc ?_ (Nat.le_refl _) _))
  have hszn : w.heap.size + 2 ≤ ((w.alloc (.cells #[.int .u8 k, sl, .int .i64 n] 68)).alloc (.cells #[.int .u64 0, .int .u64 0] 28)).heap.size := by simp only [World.size_alloc]; omega
  generalize ((w.alloc (.cells #[.int .u8 k, sl, .int .i64 n] 68)).alloc (.cells #[.int .u64 0, .int .u64 0] 28)) = w1 at hx hr hb00 hszn ⊢
  obtain ⟨x0, x1, x2, x3, x4, x5, x6⟩ := hx.get3
  obtain ⟨r0, r1, r2, r3, r4⟩ := V2.mk hr.c0 hr.c1 hr.f0 hr.f1 hr.lt
  go_wp2_with fail
  refine (HC.out _ hb00).mono ?_
  rintro e w2 ⟨rfl, hb2⟩
  clear x0 x1 x2 x3 x4 x5 x6 r0 r1 r2 r3 r4
  replace hb00 := bl_call hb00 (Nat.le_refl _) hb2
  replace hx := hx.call hb2
  replace hr := hr.call hb2
  clear hb2
  obtain ⟨x0, x1, x2, x3, x4, x5, x6⟩ := hx.get3
  obtain ⟨r0, r1, r2, r3, r4⟩ := V2.mk hr.c0 hr.c1 hr.f0 hr.f1 hr.lt
  go_wp2_with fail
  refine (HA.out _).mono ?_
  rintro e w3 ⟨rfl, hb3⟩
  clear x0 x1 x2 x3 x4 x5 x6 r0 r1 r2 r3 r4
  replace hb00 := bl_call hb00 (Nat.le_refl _) hb3
  replace hx := hx.call hb3
  replace hr := hr.call hb3
  clear hb3
  obtain ⟨r0, r1, r2, r3, r4⟩ := V2.mk hr.c0 hr.c1 hr.f0 hr.f1 hr.lt
  go_wp2_with fail
  refine bodyPost_ret (results_v2_tmp (b := w.heap.size + 1) (u := .int .u64 0) (v := .int .u64 0) ?_ rfl rfl) rfl ?_
  · first | exact V2.set hr _ _ | exact hr
  · exact ⟨0, 0, 9, rfl, by repeat (first | exact Below.refl _ _ | with_reducible assumption | (refine bl_alloc ?_ (Nat.le_refl _) _) | (refine bl_set ?_ (by dsimp only; omega) _) | (refine Below.drew ?_) | (refine bl_drewN ?_ _) | (refine bl_call ?_ (Nat.le_refl _) (by assumption)))⟩
theorem gadget_Poly_size (A : Option Addr) (m c : Nat) (hm : ¬ (m = a)) :
    Calls Tryd.prog 50 #[vG k sl n, .int .u8 F, .slice A m c] w (RetAny w) := by
  have HC := Lib.hid HC
  have HA := Lib.hid HA
  have t1 : ((m : Int) == (a : Int)) = false := by rw [beq_eq_false_iff_ne]; omega
  have t2 : ((m : Int) != (a : Int)) = true := by rw [bne_iff_ne]; omega
  go_enter Tryd.func50, Tryd.ntmps50
  go_upto_region 1 with fail
  have hx := Vs.new w [.int .u8 k, sl, .int .i64 n] #[.int .u8 k, sl, .int .i64 n] 68 rfl
  have hb00 : Below w.heap.size w (w.alloc (.cells #[.int .u8 k, sl, .int .i64 n] 68)) := by repeat (first | exact Below.refl _ _ | with_reducible assumption | (refine bl_alloc ?_ (Nat.le_refl _) _))
  have hszn : w.heap.size + 1 ≤ (w.alloc (.cells #[.int .u8 k, sl, .int .i64 n] 68)).heap.size := by simp only [World.size_alloc]; omega
  generalize (w.alloc (.cells #[.int .u8 k, sl, .int .i64 n] 68)) = w1 at hx hb00 hszn ⊢
  obtain ⟨x0, x1, x2, x3, x4, x5, x6⟩ := hx.get3
  go_wp2_with fail
  refine (HC.out _ hb00).mono ?_
  rintro e w2 ⟨rfl, hb2⟩
  clear x0 x1 x2 x3 x4 x5 x6
  replace hb00 := bl_call hb00 (Nat.le_refl _) hb2
  replace hx := hx.call hb2
  clear hb2
  obtain ⟨x0, x1, x2, x3, x4, x5, x6⟩ := hx.get3
  go_wp2_with fail
  refine (HA.out _).mono ?_
  rintro e w3 ⟨rfl, hb3⟩
  clear x0 x1 x2 x3 x4 x5 x6
  replace hb00 := bl_call hb00 (Nat.le_refl _) hb3
  replace hx := hx.call hb3
  clear hb3
  go_wp2_with fail
  go_ret2
  exact ⟨_, _, rfl, by repeat (first | exact Below.refl _ _ | with_reducible assumption | (refine bl_alloc ?_ (Nat.le_refl _) _) | (refine bl_set ?_ (by dsimp only; omega) _) | (refine Below.drew ?_) | (refine bl_drewN ?_ _) | (refine bl_call ?_ (Nat.le_refl _) (by assumption)))⟩
end

section
variable {f : Nat} (hf : IsF f) (k n : Int) (sl : Value) (w : World)
variable (HC : ∀ wz, Below w.heap.size w wz → Calls Tryd.prog 51 #[vG k sl n, .int .u8 f] wz (RetI0 0 wz)) (a : Nat) (HA : ∀ wz, Calls Tryd.prog 53 #[vG k sl n] wz (RetI0 a wz))
include hf HC HA
set_option maxHeartbeats 8000000 in
theorem gadget_Of_pairsE (hk : (k == 2) = false) (vl : Value) (l : List E) (hl : SlE w w.heap.size vl l) (q : Nat) (ha : a = 2 * q) (hq : l.length = 2 * q) (hq16 : q ≤ 16) :
    Calls Tryd.prog 49 #[vG k sl n, .int .u8 f, vl] w (RetEAny w) := by
  subst ha
  have HC := Lib.hid HC
  have HA := Lib.hid HA
  have hok : OkL l := hl.2
  have HOK := Lib.hid hok
  obtain ⟨⟨A, c, rfl, hc, hcm, hR⟩, _⟩ := hl
  rw [hq] at hc
  rw [hq]
  have HQ := Lib.hid hq
  have HR := Lib.hid hR
  clear hq hR hok
  go_enter Tryd.func49, Tryd.ntmps49
  go_upto_region 1 with fail
  have hx := (Vs.new w [.int .u8 k, sl, .int .i64 n] #[.int .u8 k, sl, .int .i64 n] 68 rfl).alloc (.cells #[.int .u64 0, .int .u64 0] 28)
  have hr := V2.new (w.alloc (.cells #[.int .u8 k, sl, .int .i64 n] 68)) (.int .u64 0) (.int .u64 0) 28
  simp only [World.size_alloc] at hr
  have hb00 : Below w.heap.size w ((w.alloc (.cells #[.int .u8 k, sl, .int .i64 n] 68)).alloc (.cells #[.int .u64 0, .int .u64 0] 28)) := by repeat (first | exact Below.refl _ _ | with_reducible assumption | (refine bl_alloc ?_ (Nat.le_refl _) _))
  have hszn : w.heap.size + 2 ≤ ((w.alloc (.cells #[.int .u8 k, sl, .int .i64 n] 68)).alloc (.cells #[.int .u64 0, .int .u64 0] 28)).heap.size := by simp only [World.size_alloc]; omega
  generalize ((w.alloc (.cells #[.int .u8 k, sl, .int .i64 n] 68)).alloc (.cells #[.int .u64 0, .int .u64 0] 28)) = w1 at hx hr hb00 hszn ⊢
  obtain ⟨x0, x1, x2, x3, x4, x5, x6⟩ := hx.get3
  obtain ⟨r0, r1, r2, r3, r4⟩ := V2.mk hr.c0 hr.c1 hr.f0 hr.f1 hr.lt
  go_wp2_with fail
  refine (HC.out _ hb00).mono ?_
  rintro e w2 ⟨rfl, hb2⟩
  clear x0 x1 x2 x3 x4 x5 x6 r0 r1 r2 r3 r4
  replace hb00 := bl_call hb00 (Nat.le_refl _) hb2
  replace hx := hx.call hb2
  replace hr := hr.call hb2
  clear hb2
  obtain ⟨x0, x1, x2, x3, x4, x5, x6⟩ := hx.get3
  go_wp2_with fail
  refine (HA.out _).mono ?_
  rintro e w3 ⟨rfl, hb3⟩
  clear x0 x1 x2 x3 x4 x5 x6
  replace hb00 := bl_call hb00 (Nat.le_refl _) hb3
  replace hx := hx.call hb3
  replace hr := hr.call hb3
  clear hb3
  obtain ⟨x0, x1, x2, x3, x4, x5, x6⟩ := hx.get3
  go_upto_region 9 with fail
  clear x0 x1 x2 x3 x4 x5 x6
  clear hx HC HA
  have hrl := hr.lt
  have ho := V2.new w3 (.int .u64 0) (.int .u64 0) 28
  have hbA : Below w3.heap.size w3 (w3.alloc (.cells #[.int .u64 0, .int .u64 0] 28)) := by repeat (first | exact Below.refl _ _ | with_reducible assumption | (refine bl_alloc ?_ (Nat.le_refl _) _))
  replace hb00 := bl_call hb00 (Nat.le_refl _) hbA
  replace hr := hr.call hbA
  clear hbA
  generalize w3.alloc (.cells #[.int .u64 0, .int .u64 0] 28) = w4 at hb00 hr ho ⊢
  obtain ⟨ob, hob⟩ : ∃ z, w3.heap.size = z := ⟨_, rfl⟩
  rw [hob] at ho hrl
  simp only [hob]
  clear hob
  have hz0 : (.int .u64 0 : Value) = .int .u64 (lo (0 : Fin (Pm f))) ∧ (.int .u64 0 : Value) = .int .u64 (hi (0 : Fin (Pm f))) := by rw [lo_zero, hi_zero]; exact ⟨rfl, rfl⟩
  have ho' : V2 w4 ob (.int .u64 (lo (0 : Fin (Pm f)))) (.int .u64 (hi (0 : Fin (Pm f)))) := by rw [lo_zero, hi_zero]; exact ho
  clear ho hz0
  go_wp2_with fail
  go_loopw [10] (fun i wr => ∃ (j : Nat) (s : Fin (Pm f)), j ≤ q ∧ i = .int .i64 ((2 * j : Nat) : Int) ∧ V2 wr (w.heap.size + 1) (.int .u64 0) (.int .u64 0) ∧ V2 wr ob (.int .u64 (lo s)) (.int .u64 (hi s)) ∧ Below w.heap.size w wr) (fun i _ => (2 * q + 1) - (intOf i).toNat)
  case atStart => exact ⟨0, 0, Nat.zero_le _, rfl, hr, ho', hb00⟩
  case round =>
    clear hr hb00 ho'
    obtain ⟨j, s, hj, rfl, hr, ho, hb00⟩ := hrel
    by_cases hlt : j < q
    · obtain ⟨b, o, rfl, hB, hrow⟩ := HR.out (by have := HQ.out; omega)
      obtain ⟨⟨x0, x1⟩, hx⟩ : ∃ e, l[2 * j]? = some e := ⟨_, List.getElem?_eq_getElem (by have := HQ.out; omega)⟩
      obtain ⟨⟨y0, y1⟩, hy⟩ : ∃ e, l[2 * j + 1]? = some e := ⟨_, List.getElem?_eq_getElem (by have := HQ.out; omega)⟩
      have HX : Hid (okE (x0, x1)) := HOK.out.at hx
      have HY : Hid (okE (y0, y1)) := HOK.out.at hy
      obtain ⟨c0, c1⟩ := (hrow.below hb00 hB) _ _ hx
      obtain ⟨d0, d1⟩ := (hrow.below hb00 hB) _ _ hy
      dsimp only at c0 c1 d0 d1
      have hbl : b < wr.heap.size := Nat.lt_of_lt_of_le hB hb00.size
      obtain ⟨xy, hxy⟩ : ∃ z, kL f x0 x1 * kL f y0 y1 = z := ⟨_, rfl⟩
      have HMU : Hid (∀ wz, Calls Tryd.prog 31 #[.int .u8 f, .agg #[.int .u64 x0, .int .u64 x1], .agg #[.int .u64 y0, .int .u64 y1]] wz (RetK xy wz)) := fun wz => by
        have h := field_MulE hf HX.out HY.out wz
        rwa [hxy] at h
      have hj1 : 2 * j < 2 * q := by omega
      have hj2 : 2 * j + 1 < 2 * q := by omega
      have hj3 : 2 * j + 2 ≤ 2 * q := by omega
      generalize hjj : 2 * j = jj at *
      have HJJ := Lib.hid hjj
      generalize hqq : 2 * q = qq at *
      have HQQ := Lib.hid hqq
      have hqq32 : qq ≤ 32 := by omega
      clear hjj hqq hx hy hrow hxy
      have hj4 : 0 ≤ (jj : Int) + 1 := by omega
      have hj5 : (jj : Int) + 1 < (qq : Int) := by omega
      have hw1 : IntKind.i64.wrap ((jj : Int) + 1) = (jj : Int) + 1 := IntWalk.i64_in _ (by omega)
      obtain ⟨o0, o1, o2, o3, o4⟩ := V2.mk ho.c0 ho.c1 ho.f0 ho.f1 ho.lt
      go_wp2_with fail
      refine region_B (n := 14) (m := 15) (f := 14) (by kernel_rfl) (by kernel_rfl) rfl ?_
      refine WpH.takeD 0 (some 40) (v := ?_) rfl rfl (by kernel_rfl) (fun _ _ _ h => h) (.val rfl (fun wz hwz => ?_)) ?_
      rotate_left
      · go_simp; try (with_reducible rfl)
      (simp only [Act.put]); (try simp only [List.setIfInBounds_toArray]); (try simp only [List.set_cons_succ]); (try simp only [List.set_cons_zero])
      refine WpH.takeD 1 (some 41) (v := ?_) rfl rfl (by kernel_rfl) (fun _ _ _ h => h) (.val rfl (fun wz hwz => ?_)) ?_
      rotate_left
      · (obtain ⟨hcz, hfz⟩ := bcell hwz; go_simp; try (with_reducible rfl))
      (simp only [Act.put]); (try simp only [List.setIfInBounds_toArray]); (try simp only [List.set_cons_succ]); (try simp only [List.set_cons_zero])
      refine WpH.takeD 2 (some 42) (v := ?_) rfl rfl (by kernel_rfl) (fun _ _ _ h => h) (.val rfl (fun wz hwz => ?_)) ?_
      rotate_left
      · go_simp; try (with_reducible rfl)
      (simp only [Act.put]); (try simp only [List.setIfInBounds_toArray]); (try simp only [List.set_cons_succ]); (try simp only [List.set_cons_zero])
      refine WpH.takeD 3 (some 43) (v := ?_) rfl rfl (by kernel_rfl) (fun _ _ _ h => h) (.val rfl (fun wz hwz => ?_)) ?_
      rotate_left
      · go_simp; try (with_reducible rfl)
      (simp only [Act.put]); (try simp only [List.setIfInBounds_toArray]); (try simp only [List.set_cons_succ]); (try simp only [List.set_cons_zero])
      refine WpH.takeD 4 (some 44) (v := ?_) rfl rfl (by kernel_rfl) (fun _ _ _ h => h) (.val rfl (fun wz hwz => ?_)) ?_
      rotate_left
      · go_simp; try (with_reducible rfl)
      (simp only [Act.put]); (try simp only [List.setIfInBounds_toArray]); (try simp only [List.set_cons_succ]); (try simp only [List.set_cons_zero])
      refine WpH.takeD 5 (some 45) (v := ?_) rfl rfl (by kernel_rfl) (fun _ _ _ h => h) (.val rfl (fun wz hwz => ?_)) ?_
      rotate_left
      · go_simp; try (with_reducible rfl)
      (simp only [Act.put]); (try simp only [List.setIfInBounds_toArray]); (try simp only [List.set_cons_succ]); (try simp only [List.set_cons_zero])
      refine WpH.takeD 6 (some 46) (v := ?_) rfl rfl (by kernel_rfl) (fun _ _ _ h => h) (.val rfl (fun wz hwz => ?_)) ?_
      rotate_left
      · (obtain ⟨hcz, hfz⟩ := bcell hwz; go_simp; try (with_reducible rfl))
      (simp only [Act.put]); (try simp only [List.setIfInBounds_toArray]); (try simp only [List.set_cons_succ]); (try simp only [List.set_cons_zero])
      refine WpH.takeD 7 (some 47) (v := ?_) rfl rfl (by kernel_rfl) (fun _ _ _ h => h) (.val rfl (fun wz hwz => ?_)) ?_
      rotate_left
      · go_simp; try (with_reducible rfl)
      (simp only [Act.put]); (try simp only [List.setIfInBounds_toArray]); (try simp only [List.set_cons_succ]); (try simp only [List.set_cons_zero])
      refine WpH.takeD 8 (some 48) (v := ?_) rfl rfl (by kernel_rfl) (fun _ _ _ h => h) (.val rfl (fun wz hwz => ?_)) ?_
      rotate_left
      · go_simp; try (with_reducible rfl)
      (simp only [Act.put]); (try simp only [List.setIfInBounds_toArray]); (try simp only [List.set_cons_succ]); (try simp only [List.set_cons_zero])
      refine WpH.takeD 9 (some 49) (v := ?_) rfl rfl (by kernel_rfl) (fun _ _ _ h => h) (.val rfl (fun wz hwz => ?_)) ?_
      rotate_left
      · go_simp; try (with_reducible rfl)
      (simp only [Act.put]); (try simp only [List.setIfInBounds_toArray]); (try simp only [List.set_cons_succ]); (try simp only [List.set_cons_zero])
      refine WpH.takeD 10 (some 50) (v := ?_) rfl rfl (by kernel_rfl) (fun _ _ _ h => h) (.val rfl (fun wz hwz => ?_)) ?_
      rotate_left
      · go_simp; try (with_reducible rfl)
      (simp only [Act.put]); (try simp only [List.setIfInBounds_toArray]); (try simp only [List.set_cons_succ]); (try simp only [List.set_cons_zero])
      refine WpH.takeD 11 (some 51) (v := ?_) rfl rfl (by kernel_rfl) (fun _ _ _ h => h) (.val rfl (fun wz hwz => ?_)) ?_
      rotate_left
      · (obtain ⟨hcz, hfz⟩ := bcell hwz; go_simp; try (with_reducible rfl))
      (simp only [Act.put]); (try simp only [List.setIfInBounds_toArray]); (try simp only [List.set_cons_succ]); (try simp only [List.set_cons_zero])
      refine WpH.takeD 12 (some 52) rfl rfl (by kernel_rfl) (fun _ _ _ h => h) (.call rfl (fun wz hwz => HMU.out wz) (fun wz hwz => ?_)) ?_
      · go_simp; try (with_reducible rfl)
      (simp only [Act.put]); (try simp only [List.setIfInBounds_toArray]); (try simp only [List.set_cons_succ]); (try simp only [List.set_cons_zero])
      refine WpH.takeD 13 (some 53) rfl rfl (by kernel_rfl) (fun _ _ _ h => h) (.call rfl (fun wz hwz => field_AddK hf s xy wz) (fun wz hwz => ?_)) ?_
      · go_simp; try (with_reducible rfl)
      (simp only [Act.put]); (try simp only [List.setIfInBounds_toArray]); (try simp only [List.set_cons_succ]); (try simp only [List.set_cons_zero])
      refine WpH.doneB (by kernel_rfl) (fun w6 hw6 => ?_)
      (try simp only [List.drop_succ_cons]); (try simp only [List.drop_zero]); (try simp only [Nat.reduceSub]); (try simp only [List.take_succ_cons]); (try simp only [List.take_zero])
      clear o0 o1 o2 o3 o4
      clear c0 c1 d0 d1
      replace hb00 := bl_call hb00 (Nat.le_refl _) hw6
      replace hr := hr.call hw6
      replace ho := ho.call hw6
      clear hw6
      obtain ⟨o0, o1, o2, o3, o4⟩ := V2.mk ho.c0 ho.c1 ho.f0 ho.f1 ho.lt
      clear hj4 hj5 hw1
      go_wp2_with fail
      go_roundw
      case rel => exact ⟨j + 1, s + xy, by omega, by have := HJJ.out; have := HQQ.out; rw [show 2 * (j + 1) = jj + 2 by omega]; go_num, hr.oth (by omega) _ _, V2.set ho _ _, by repeat (first | exact Below.refl _ _ | with_reducible assumption | (refine bl_alloc ?_ (Nat.le_refl _) _) | (refine bl_set ?_ (by dsimp only; omega) _) | (refine Below.drew ?_) | (refine bl_drewN ?_ _) | (refine bl_call ?_ (Nat.le_refl _) (by assumption)))⟩
      case measure => simp [intOf]; omega
    · obtain rfl : j = q := by omega
      obtain ⟨o0, o1, o2, o3, o4⟩ := V2.mk ho.c0 ho.c1 ho.f0 ho.f1 ho.lt
      obtain ⟨r0, r1, r2, r3, r4⟩ := V2.mk hr.c0 hr.c1 hr.f0 hr.f1 hr.lt
      go_wp2
      refine bodyPost_ret (results_v2_tmp (b := w.heap.size + 1) (u := .int .u64 (lo s)) (v := .int .u64 (hi s)) ?_ rfl rfl) rfl ?_
      · exact V2.set hr _ _
      · exact ⟨_, _, _, rfl, by repeat (first | exact Below.refl _ _ | with_reducible assumption | (refine bl_alloc ?_ (Nat.le_refl _) _) | (refine bl_set ?_ (by dsimp only; omega) _) | (refine Below.drew ?_) | (refine bl_drewN ?_ _) | (refine bl_call ?_ (Nat.le_refl _) (by assumption)))⟩

set_option maxHeartbeats 8000000 in
theorem gadget_Of_evalE (hk : k = 2) (C : List E) (hs : SlE w w.heap.size sl C) (hC : C.length ≤ 40) (vl : Value) (l : List E) (hl : SlE w w.heap.size vl l) (ha : a = 1) (hq : l.length = 1) :
    Calls Tryd.prog 49 #[vG k sl n, .int .u8 f, vl] w (RetEAny w) := by
  subst hk ha
  have HC := Lib.hid HC
  have HA := Lib.hid HA
  have hok : OkL l := hl.2
  have HOK := Lib.hid hok
  obtain ⟨⟨A, c, rfl, hc, hcm, hR⟩, _⟩ := hl
  rw [hq] at hc
  rw [hq]
  obtain ⟨b, o, rfl, hB, hrow⟩ := hR (by omega)
  obtain ⟨⟨x0, x1⟩, hx⟩ : ∃ e, l[0]? = some e := ⟨_, List.getElem?_eq_getElem (by omega)⟩
  have HX : Hid (okE (x0, x1)) := HOK.out.at hx
  obtain ⟨c0, c1⟩ := hrow 0 _ hx
  rw [Nat.zero_mul, Nat.add_zero] at c0 c1
  dsimp only at c0 c1
  have HP := Lib.hid (fun wz (h : Below w.heap.size w wz) => poly_At_E hf _ C x0 x1 HX.out wz ((hs.below h).mono h.size) (by omega))
  obtain ⟨A', c', rfl, _, _⟩ := hs.shape
  generalize horner (kL f x0 x1) (C.map (kE f)) = z at *
  clear hR hx hq hrow hs hok
  go_enter Tryd.func49, Tryd.ntmps49
  go_upto_region 1 with fail
  have hx := (Vs.new w [.int .u8 2, .slice A' C.length c', .int .i64 n] #[.int .u8 2, .slice A' C.length c', .int .i64 n] 68 rfl).alloc (.cells #[.int .u64 0, .int .u64 0] 28)
  have hr := V2.new (w.alloc (.cells #[.int .u8 2, .slice A' C.length c', .int .i64 n] 68)) (.int .u64 0) (.int .u64 0) 28
  simp only [World.size_alloc] at hr
  have hb00 : Below w.heap.size w ((w.alloc (.cells #[.int .u8 2, .slice A' C.length c', .int .i64 n] 68)).alloc (.cells #[.int .u64 0, .int .u64 0] 28)) := by repeat (first | exact Below.refl _ _ | with_reducible assumption | (refine bl_alloc ?_ (Nat.le_refl _) _))
  have hszn : w.heap.size + 2 ≤ ((w.alloc (.cells #[.int .u8 2, .slice A' C.length c', .int .i64 n] 68)).alloc (.cells #[.int .u64 0, .int .u64 0] 28)).heap.size := by simp only [World.size_alloc]; omega
  generalize ((w.alloc (.cells #[.int .u8 2, .slice A' C.length c', .int .i64 n] 68)).alloc (.cells #[.int .u64 0, .int .u64 0] 28)) = w1 at hx hr hb00 hszn ⊢
  obtain ⟨x0, x1, x2, x3, x4, x5, x6⟩ := hx.get3
  obtain ⟨r0, r1, r2, r3, r4⟩ := V2.mk hr.c0 hr.c1 hr.f0 hr.f1 hr.lt
  go_wp2_with fail
  refine (HC.out _ hb00).mono ?_
  rintro e w2 ⟨rfl, hb2⟩
  clear x0 x1 x2 x3 x4 x5 x6 r0 r1 r2 r3 r4
  replace hb00 := bl_call hb00 (Nat.le_refl _) hb2
  replace hx := hx.call hb2
  replace hr := hr.call hb2
  clear hb2
  obtain ⟨x0, x1, x2, x3, x4, x5, x6⟩ := hx.get3
  go_wp2_with fail
  refine (HA.out _).mono ?_
  rintro e w3 ⟨rfl, hb3⟩
  clear x0 x1 x2 x3 x4 x5 x6
  replace hb00 := bl_call hb00 (Nat.le_refl _) hb3
  replace hx := hx.call hb3
  replace hr := hr.call hb3
  clear hb3
  obtain ⟨x0, x1, x2, x3, x4, x5, x6⟩ := hx.get3
  go_upto_region 7 with fail
  obtain ⟨hcb, hfb⟩ := bcell hb00
  have d0 := (hcb b o hB).trans c0
  have d1 := (hcb b (o + 1) hB).trans c1
  have hbl : b < w3.heap.size := Nat.lt_of_lt_of_le hB hb00.size
  clear hcb hfb c0 c1
  refine region_B (n := 7) (m := 9) (f := 7) (by kernel_rfl) (by kernel_rfl) rfl ?_
  refine WpH.takeD 0 (some 27) (v := ?_) rfl rfl (by kernel_rfl) (fun _ _ _ h => h) (.val rfl (fun wz hwz => ?_)) ?_
  rotate_left
  · go_simp; try (with_reducible rfl)
  (simp only [Act.put]); (try simp only [List.setIfInBounds_toArray]); (try simp only [List.set_cons_succ]); (try simp only [List.set_cons_zero])
  refine WpH.takeD 1 (some 28) (v := ?_) rfl rfl (by kernel_rfl) (fun _ _ _ h => h) (.val rfl (fun wz hwz => ?_)) ?_
  rotate_left
  · go_simp; try (with_reducible rfl)
  (simp only [Act.put]); (try simp only [List.setIfInBounds_toArray]); (try simp only [List.set_cons_succ]); (try simp only [List.set_cons_zero])
  refine WpH.takeD 2 (some 29) (v := ?_) rfl rfl (by kernel_rfl) (fun _ _ _ h => h) (.val rfl (fun wz hwz => ?_)) ?_
  rotate_left
  · (obtain ⟨hcz, hfz⟩ := bcell hwz; go_simp; try (with_reducible rfl))
  (simp only [Act.put]); (try simp only [List.setIfInBounds_toArray]); (try simp only [List.set_cons_succ]); (try simp only [List.set_cons_zero])
  refine WpH.takeD 3 (some 30) (v := ?_) rfl rfl (by kernel_rfl) (fun _ _ _ h => h) (.val rfl (fun wz hwz => ?_)) ?_
  rotate_left
  · go_simp; try (with_reducible rfl)
  (simp only [Act.put]); (try simp only [List.setIfInBounds_toArray]); (try simp only [List.set_cons_succ]); (try simp only [List.set_cons_zero])
  refine WpH.takeD 4 (some 31) (v := ?_) rfl rfl (by kernel_rfl) (fun _ _ _ h => h) (.val rfl (fun wz hwz => ?_)) ?_
  rotate_left
  · go_simp; try (with_reducible rfl)
  (simp only [Act.put]); (try simp only [List.setIfInBounds_toArray]); (try simp only [List.set_cons_succ]); (try simp only [List.set_cons_zero])
  refine WpH.takeD 5 (some 32) (v := ?_) rfl rfl (by kernel_rfl) (fun _ _ _ h => h) (.val rfl (fun wz hwz => ?_)) ?_
  rotate_left
  · (obtain ⟨hcz, hfz⟩ := bcell hwz; go_simp; try (with_reducible rfl))
  (simp only [Act.put]); (try simp only [List.setIfInBounds_toArray]); (try simp only [List.set_cons_succ]); (try simp only [List.set_cons_zero])
  refine WpH.takeD 6 (some 33) rfl rfl (by kernel_rfl) (fun _ _ _ h => h) (.call rfl (fun wz hwz => HP.out wz (hb00.trans (hwz.mono hb00.size))) (fun wz hwz => ?_)) ?_
  · go_simp; try (with_reducible rfl)
  (simp only [Act.put]); (try simp only [List.setIfInBounds_toArray]); (try simp only [List.set_cons_succ]); (try simp only [List.set_cons_zero])
  refine WpH.doneB (by kernel_rfl) (fun w6 hw6 => ?_)
  (try simp only [List.drop_succ_cons]); (try simp only [List.drop_zero]); (try simp only [Nat.reduceSub]); (try simp only [List.take_succ_cons]); (try simp only [List.take_zero])
  clear x0 x1 x2 x3 x4 x5 x6
  clear d0 d1 hbl
  replace hb00 := bl_call hb00 (Nat.le_refl _) hw6
  replace hr := hr.call hw6
  obtain ⟨r0, r1, r2, r3, r4⟩ := V2.mk hr.c0 hr.c1 hr.f0 hr.f1 hr.lt
  go_wp2_with fail
  refine bodyPost_ret (results_v2_tmp (b := w.heap.size + 1) (u := .int .u64 (lo z)) (v := .int .u64 (hi z)) ?_ rfl rfl) rfl ?_
  · exact V2.set hr _ _
  · exact ⟨_, _, _, rfl, by repeat (first | exact Below.refl _ _ | with_reducible assumption | (refine bl_alloc ?_ (Nat.le_refl _) _) | (refine bl_set ?_ (by dsimp only; omega) _) | (refine Below.drew ?_) | (refine bl_drewN ?_ _) | (refine bl_call ?_ (Nat.le_refl _) (by assumption)))⟩
end

/-- how long an Eval's polynomial may grow -/
def bnd : Nat → Nat
  | 0 => 0
  | d + 1 => 2 * (bnd d + 40)
theorem bnd_le {d : Nat} (h : d ≤ 3) : bnd d ≤ 560 := by
  rcases d with _ | _ | _ | _ | d
  all_goals first | decide | omega

section
variable {f : Nat} (hf : IsF f)
include hf
set_option maxHeartbeats 8000000 in
theorem gadget_compose_E (n : Int) (sl : Value) (C : List E) (vl : Value) (l : List E) (w : World) (hT : TabW w) (hs : SlE w w.heap.size sl C) (hC : C.length ≤ 4) (hl : SlE w w.heap.size vl l) (hll : l.length ≤ 40) :
    Calls Tryd.prog 79 #[vG 2 sl n, .int .u8 f, vl] w (RetAny w) := by
  have HML := Lib.hid (fun va vb (a b : List E) wz h0 h1 h2 h3 => poly_Mul_E hf va vb a b wz h0 h1 h2 h3)
  have HAD := Lib.hid (fun va vb (a b : List E) wz h1 h2 h3 h4 => poly_Add_E hf va vb a b wz h1 h2 h3 h4)
  have hok : OkL C := hs.2
  have HOK := Lib.hid hok
  have HL := Lib.hid hl
  have HLL := Lib.hid hll
  have HT := Lib.hid hT
  have HB4 : Hid (∀ d, d ≤ 3 → bnd d ≤ 560) := fun d h => bnd_le h
  obtain ⟨⟨A, c, rfl, hc, hcm, hR⟩, _⟩ := hs
  have HR := Lib.hid hR
  obtain ⟨A2, c2, rfl, hc2, hcm2⟩ := hl.shape
  obtain ⟨mC, hmC⟩ : ∃ z, C.length = z := ⟨_, rfl⟩
  have HMC := Lib.hid hmC
  obtain ⟨ml, hml⟩ : ∃ z, l.length = z := ⟨_, rfl⟩
  have HLM := Lib.hid hml
  rw [hmC] at hc hC ⊢
  rw [hml] at hc2 hll HL ⊢
  clear hmC hml hR hok hl hT
  go_enter Tryd.func79, Tryd.ntmps79
  go_upto_region 1 with fail
  have hx := Vs.new w [.int .u8 2, .slice A mC c, .int .i64 n] #[.int .u8 2, .slice A mC c, .int .i64 n] 68 rfl
  have hb00 : Below w.heap.size w (w.alloc (.cells #[.int .u8 2, .slice A mC c, .int .i64 n] 68)) := by repeat (first | exact Below.refl _ _ | with_reducible assumption | (refine bl_alloc ?_ (Nat.le_refl _) _))
  have hszn : w.heap.size + 1 ≤ (w.alloc (.cells #[.int .u8 2, .slice A mC c, .int .i64 n] 68)).heap.size := by simp only [World.size_alloc]; omega
  generalize (w.alloc (.cells #[.int .u8 2, .slice A mC c, .int .i64 n] 68)) = w1 at hx hb00 hszn ⊢
  obtain ⟨x0, x1, x2, x3, x4, x5, x6⟩ := hx.get3
  go_wp2_with fail
  clear x0 x1 x2 x3 x4 x5 x6
  go_loopw [8, 9] (fun ov iv wr => ∃ (j d lo9 : Nat) (out : List E) (D : Option Addr) (cp : Nat), j + d = mC ∧ iv = .int .i64 ((j : Int) - 1) ∧ ov = .slice D lo9 cp ∧ Hid (out.length = lo9 ∧ lo9 ≤ bnd d) ∧ SlE wr wr.heap.size (.slice D lo9 cp) out ∧ Vs wr w.heap.size [.int .u8 2, .slice A mC c, .int .i64 n] ∧ Below w.heap.size w wr) (fun _ iv _ => (intOf iv + 1).toNat)
  case atStart => exact ⟨mC, 0, 0, [], none, 0, rfl, rfl, rfl, ⟨rfl, Nat.le_refl _⟩, SlE.nil _ _, hx, hb00⟩
  case round =>
    clear hx hb00
    obtain ⟨j, d, lo9, out, D, cp, hjd, rfl, rfl, hI, hos, hx, hb00⟩ := hrel
    by_cases hj0 : j = 0
    · subst hj0
      clear hI
      go_wp2_with fail
      go_ret2
      exact ⟨_, _, rfl, hb00⟩
    · obtain ⟨k, rfl⟩ : ∃ q, j = q + 1 := ⟨j - 1, by omega⟩
      have hd3 : d ≤ 3 := by omega
      have hb560 := HB4.out d hd3
      have hOL : out.length = lo9 := hI.out.1
      have HOL := Lib.hid hOL
      have hlb : lo9 ≤ bnd d := hI.out.2
      have HLB := Lib.hid hlb
      have hl560 : lo9 ≤ 560 := by omega
      clear hI hOL hlb hb560
      have hkC : k < mC := by omega
      have g1 : (0 : Int) ≤ (k : Int) := by omega
      have g2 : (k : Int) < (mC : Int) := by omega
      go_wp2_with fail
      refine (HML.out _ _ out l _ (HT.out.call hb00) hos (HL.out.later hb00) (by rw [HOL.out, HLM.out]; omega)).mono ?_
      rintro e w2 ⟨v2, S, rfl, ho2, hl2, hk2, hb2⟩
      obtain ⟨AS, cS, rfl⟩ := own_shape ho2
      have hss := own_slE rfl ho2 hk2
      obtain ⟨ms, hms⟩ : ∃ z, S.length = z := ⟨_, rfl⟩
      rw [hms] at hss hl2 ⊢
      have HMS := Lib.hid hms
      have HMB : Hid (ms ≤ bnd (d + 1)) := by
        show _ ≤ 2 * (bnd d + 40)
        have h1 := hl2.1
        have h2 := HLB.out
        have h3 := HLM.out
        have h4 := HOL.out
        omega
      have hms2 : ms ≤ 1300 := by have h1 := hl2.1; have h3 := HLM.out; have h4 := HOL.out; omega
      clear ho2 hk2 hl2 hms
      replace hb00 := bl_call hb00 (Nat.le_refl _) hb2
      replace hx := hx.call hb2
      clear hb2 hos
      obtain ⟨⟨y0, y1⟩, hy⟩ : ∃ y, C[k]? = some y := ⟨_, List.getElem?_eq_getElem (by rw [HMC.out]; exact hkC)⟩
      have HY : Hid (okE (y0, y1)) := HOK.out.at hy
      obtain ⟨b, o, hAe, hB, hrow⟩ := HR.out (by rw [HMC.out]; omega)
      have hrb := hrow.below hb00 hB
      obtain ⟨d0, d1⟩ := hrb k _ hy
      dsimp only at d0 d1
      have hbl : b < w2.heap.size := Nat.lt_of_lt_of_le hB hb00.size
      subst hAe
      clear hy hrow hrb
      have hbA : Below w2.heap.size w2 (w2.alloc (.cells #[.int .u64 y0, .int .u64 y1] 28)) := (Below.refl _ _).alloc (Nat.le_refl _) _
      have hpr := SlE.sing w2 HY.out
      have hss2 := hss.later hbA
      have hx2 := hx.call hbA
      have hb02 := bl_call hb00 (Nat.le_refl _) hbA
      have HA9 := Lib.hid (HAD.out _ _ S [(y0, y1)] _ hss2 hpr (by rw [HMS.out]; omega) (by simp))
      obtain ⟨x0, x1, x2, x3, x4, x5, x6⟩ := hx.get3
      clear hbA hpr hss2
      go_wp2_with fail
      refine HA9.out.mono ?_
      rintro e w4 ⟨v4, S4, rfl, ho4, hl4, hk4, hb4⟩
      obtain ⟨A4, c4, rfl⟩ := own_shape ho4
      have hs4 := own_slE rfl ho4 hk4
      obtain ⟨m4, hm4⟩ : ∃ z, S4.length = z := ⟨_, rfl⟩
      rw [hm4] at hs4 hl4 ⊢
      have HM4 := Lib.hid hm4
      have HB9 : Hid (m4 ≤ bnd (d + 1)) := by
        show _ ≤ _
        have h1 := HMB.out
        have h2 := HMS.out
        have h3 : 2 * (bnd d + 40) = bnd (d + 1) := rfl
        simp only [List.length_cons, List.length_nil] at hl4
        omega
      clear x0 x1 x2 x3 x4 x5 x6
      clear ho4 hl4 hk4 hm4 d0 d1 hbl hx hb00
      replace hb02 := bl_call hb02 (Nat.le_refl _) hb4
      replace hx2 := hx2.call hb4
      clear hb4 hss
      go_wp2_with fail
      go_roundw
      case rel => exact ⟨k, d + 1, _, S4, A4, c4, by omega, by go_num, rfl, ⟨HM4.out, HB9.out⟩, hs4, hx2, hb02⟩
      case measure => simp [intOf]

set_option maxHeartbeats 8000000 in
theorem gadget_Poly_evalE (n : Int) (sl : Value) (C : List E) (vl : Value) (l : List E) (w : World) (hT : TabW w) (hs : SlE w w.heap.size sl C) (hC : C.length ≤ 4) (hl : SlE w w.heap.size vl l) (hll : l.length ≤ 40)
    (HC : ∀ wz, Below w.heap.size w wz → Calls Tryd.prog 51 #[vG 2 sl n, .int .u8 f] wz (RetI0 0 wz)) (HA : ∀ wz, Calls Tryd.prog 53 #[vG 2 sl n] wz (RetI0 1 wz))
    (b : Nat) (hb : b < w.heap.size) (hcell : w.cell? ⟨b, 0, none⟩ = some vl) :
    Calls Tryd.prog 50 #[vG 2 sl n, .int .u8 f, .slice (some ⟨b, 0, none⟩) 1 1] w (RetAny w) := by
  have HC := Lib.hid HC
  have HA := Lib.hid HA
  have HCO : Hid (∀ wz, Below w.heap.size w wz → Calls Tryd.prog 79 #[vG 2 sl n, .int .u8 f, vl] wz (RetAny wz)) := fun wz h => gadget_compose_E hf n sl C vl l wz (hT.call h) (hs.later h) hC (hl.later h) hll
  clear hT hs hC hl hll
  go_enter Tryd.func50, Tryd.ntmps50
  go_upto_region 1 with fail
  have hx := Vs.new w [.int .u8 2, sl, .int .i64 n] #[.int .u8 2, sl, .int .i64 n] 68 rfl
  have hb00 : Below w.heap.size w (w.alloc (.cells #[.int .u8 2, sl, .int .i64 n] 68)) := by repeat (first | exact Below.refl _ _ | with_reducible assumption | (refine bl_alloc ?_ (Nat.le_refl _) _))
  have hszn : w.heap.size + 1 ≤ (w.alloc (.cells #[.int .u8 2, sl, .int .i64 n] 68)).heap.size := by simp only [World.size_alloc]; omega
  generalize (w.alloc (.cells #[.int .u8 2, sl, .int .i64 n] 68)) = w1 at hx hb00 hszn ⊢
  obtain ⟨x0, x1, x2, x3, x4, x5, x6⟩ := hx.get3
  go_wp2_with fail
  refine (HC.out _ hb00).mono ?_
  rintro e w2 ⟨rfl, hb2⟩
  clear x0 x1 x2 x3 x4 x5 x6
  replace hb00 := bl_call hb00 (Nat.le_refl _) hb2
  replace hx := hx.call hb2
  clear hb2
  obtain ⟨x0, x1, x2, x3, x4, x5, x6⟩ := hx.get3
  go_wp2_with fail
  refine (HA.out _).mono ?_
  rintro e w3 ⟨rfl, hb3⟩
  clear x0 x1 x2 x3 x4 x5 x6
  replace hb00 := bl_call hb00 (Nat.le_refl _) hb3
  replace hx := hx.call hb3
  clear hb3
  obtain ⟨x0, x1, x2, x3, x4, x5, x6⟩ := hx.get3
  go_upto_region 7 with fail
  obtain ⟨hcb, hfb⟩ := bcell hb00
  have d0 := (hcb b 0 hb).trans hcell
  have hbl : b < w3.heap.size := Nat.lt_of_lt_of_le hb hb00.size
  clear hcb hfb hcell
  have HCO2 : Hid (∀ wz, Below w3.heap.size w3 wz → Calls Tryd.prog 79 #[vG 2 sl n, .int .u8 f, vl] wz fun e w' => ∃ u : Value × Int, e = .returned (.tuple #[u.1, .int .i64 u.2]) ∧ True ∧ Below wz.heap.size wz w') := fun wz h => (HCO.out wz (hb00.trans (h.mono hb00.size))).mono fun e w' ⟨v, c, h1, h2⟩ => ⟨(v, c), h1, trivial, h2⟩
  clear HCO HC HA
  refine region_G (n := 9) (m := 10) (f := 9) (by kernel_rfl) (by kernel_rfl) rfl ?_
  refine WpG.takeD 0 (some 27) (v := ?_) rfl rfl (by kernel_rfl) (fun _ _ _ h => h) (.val rfl (fun wz hwz => ?_)) ?_
  rotate_left
  · (obtain ⟨hcz, hfz⟩ := bcell (hwz); go_simp; try (with_reducible rfl))
  (simp only [Act.put]); (try simp only [List.setIfInBounds_toArray]); (try simp only [List.set_cons_succ]); (try simp only [List.set_cons_zero])
  refine WpG.takeD 1 (some 28) (v := ?_) rfl rfl (by kernel_rfl) (fun _ _ _ h => h) (.val rfl (fun wz hwz => ?_)) ?_
  rotate_left
  · go_simp; try (with_reducible rfl)
  (simp only [Act.put]); (try simp only [List.setIfInBounds_toArray]); (try simp only [List.set_cons_succ]); (try simp only [List.set_cons_zero])
  refine WpG.takeD 2 (some 29) (v := ?_) rfl rfl (by kernel_rfl) (fun _ _ _ h => h) (.val rfl (fun wz hwz => ?_)) ?_
  rotate_left
  · go_simp; try (with_reducible rfl)
  (simp only [Act.put]); (try simp only [List.setIfInBounds_toArray]); (try simp only [List.set_cons_succ]); (try simp only [List.set_cons_zero])
  refine WpG.takeD 3 (some 30) (v := ?_) rfl rfl (by kernel_rfl) (fun _ _ _ h => h) (.val rfl (fun wz hwz => ?_)) ?_
  rotate_left
  · go_simp; try (with_reducible rfl)
  (simp only [Act.put]); (try simp only [List.setIfInBounds_toArray]); (try simp only [List.set_cons_succ]); (try simp only [List.set_cons_zero])
  refine WpG.takeD 4 (some 31) (v := ?_) rfl rfl (by kernel_rfl) (fun _ _ _ h => h) (.val rfl (fun wz hwz => ?_)) ?_
  rotate_left
  · (obtain ⟨hcz, hfz⟩ := bcell (hwz); go_simp; try (with_reducible rfl))
  (simp only [Act.put]); (try simp only [List.setIfInBounds_toArray]); (try simp only [List.set_cons_succ]); (try simp only [List.set_cons_zero])
  refine WpG.oneD 5 (some 32) rfl rfl (by kernel_rfl) (fun u : Value × Int => Value.tuple #[u.1, .int .i64 u.2]) (fun u wz => True) (fun _ _ _ h hb => trivial) (Fresh.call rfl (fun wz hwz => HCO2.out wz (hwz)) (fun wz hwz => by go_simp; try (with_reducible rfl))) (fun u1 w0u1 hw0u1 hR0u1 => ?_)
  (simp only [Act.put]); (try simp only [List.setIfInBounds_toArray]); (try simp only [List.set_cons_succ]); (try simp only [List.set_cons_zero])
  refine WpG.takeD 6 (some 33) (v := ?_) rfl rfl (by kernel_rfl) (fun _ _ _ h => h) (.val rfl (fun wz hwz => ?_)) ?_
  rotate_left
  · go_simp; try (with_reducible rfl)
  (simp only [Act.put]); (try simp only [List.setIfInBounds_toArray]); (try simp only [List.set_cons_succ]); (try simp only [List.set_cons_zero])
  refine WpG.takeD 7 (some 34) (v := ?_) rfl rfl (by kernel_rfl) (fun _ _ _ h => h) (.val rfl (fun wz hwz => ?_)) ?_
  rotate_left
  · go_simp; try (with_reducible rfl)
  (simp only [Act.put]); (try simp only [List.setIfInBounds_toArray]); (try simp only [List.set_cons_succ]); (try simp only [List.set_cons_zero])
  refine WpG.takeD 8 (some 6) (v := ?_) rfl rfl (by kernel_rfl) (fun _ _ _ h => h) (.val rfl (fun wz hwz => ?_)) ?_
  rotate_left
  · go_simp; try (with_reducible rfl)
  (simp only [Act.put]); (try simp only [List.setIfInBounds_toArray]); (try simp only [List.set_cons_succ]); (try simp only [List.set_cons_zero])
  refine WpG.done (by kernel_rfl) (fun w8 hS => ?_)
  (try simp only [List.drop_succ_cons]); (try simp only [List.drop_zero]); (try simp only [Nat.reduceSub]); (try simp only [List.take_succ_cons]); (try simp only [List.take_zero])
  obtain ⟨hb8, _⟩ := hS
  clear x0 x1 x2 x3 x4 x5 x6
  clear d0 hbl hx
  replace hb00 := bl_call hb00 (Nat.le_refl _) hb8
  clear hb8
  go_wp2_with fail
  go_ret2
  exact ⟨_, _, rfl, hb00⟩
end

end Go.Proofs.YtfhmineolncefaaDoor

namespace Go.Proofs.YtfhmineolncefaaDoor
open Go.RowKit Fm
set_option linter.unusedVariables false
set_option maxRecDepth 100000

theorem l14 : esK ([1, 2, 3, 4] : KL 1) = [(1, 0), (2, 0), (3, 0), (4, 0)] := by decide +kernel
theorem v14 : eK (gval (.par 2) ([1, 2, 3, 4] : KL 1)) = (14, 0) := by decide +kernel

set_option maxHeartbeats 4000000 in
theorem law09_Awake (w : World) : Calls Tryd.prog 47 #[] w fun e w' => e = .returned (.bool true) ∧ Below w.heap.size w w' := by
  have heq := eql_elem
  have hB : BlkE (w.alloc (.cells #[.int .u64 1, .int .u64 0, .int .u64 2, .int .u64 0, .int .u64 3, .int .u64 0, .int .u64 4, .int .u64 0] 28)) w.heap.size (esK ([1, 2, 3, 4] : KL 1)) := by
    rw [l14]
    exact BlkE.new w _ _ rfl
  have hO := gadget_Of isF1 (w.alloc (.cells #[.int .u64 1, .int .u64 0, .int .u64 2, .int .u64 0, .int .u64 3, .int .u64 0, .int .u64 4, .int .u64 0] 28)) (.par 2) 3 (.slice none 0 0) 2 ⟨rfl, rfl, rfl, by omega, by omega⟩
    (.slice (some ⟨w.heap.size, 0, none⟩) 4 4) ([1, 2, 3, 4] : KL 1) (hB.slK (by simp) hB.lt) rfl
  have hO' : Calls Tryd.prog 49 #[.agg #[.int .u8 3, .slice none 0 0, .int .i64 2], .int .u8 1, .slice (some ⟨w.heap.size, 0, none⟩) 4 4] (w.alloc (.cells #[.int .u64 1, .int .u64 0, .int .u64 2, .int .u64 0, .int .u64 3, .int .u64 0, .int .u64 4, .int .u64 0] 28))
      (fun e w' => e = .returned (.tuple #[.agg #[.int .u64 14, .int .u64 0], .int .i64 0]) ∧ Below (w.alloc (.cells #[.int .u64 1, .int .u64 0, .int .u64 2, .int .u64 0, .int .u64 3, .int .u64 0, .int .u64 4, .int .u64 0] 28)).heap.size (w.alloc (.cells #[.int .u64 1, .int .u64 0, .int .u64 2, .int .u64 0, .int .u64 3, .int .u64 0, .int .u64 4, .int .u64 0] 28)) w') := by
    refine Calls.mono hO fun e w' h => ⟨?_, h.2⟩
    rw [h.1, show vK (gval (.par 2) ([1, 2, 3, 4] : KL 1)) = .agg #[.int .u64 14, .int .u64 0] by
      show Value.agg #[.int .u64 (eK (gval (.par 2) ([1, 2, 3, 4] : KL 1))).1, .int .u64 (eK (gval (.par 2) ([1, 2, 3, 4] : KL 1))).2] = _
      rw [v14]]
  have HO := Lib.hid hO'
  clear hO hO' hB
  go_enter Tryd.func47, Tryd.ntmps47
  go_wp2_with fail
  refine HO.out.mono ?_
  rintro e w1 ⟨rfl, hb1⟩
  go_wp2
  go_ret
  exact ⟨rfl, by repeat (first | exact Below.refl _ _ | with_reducible assumption | (refine bl_alloc ?_ (Nat.le_refl _) _) | (refine bl_set ?_ (by dsimp only; omega) _) | (refine Below.drew ?_) | (refine bl_drewN ?_ _) | (refine bl_call ?_ (Nat.le_refl _) (by assumption)))⟩

/-- which field a law takes -/
theorem lawField (n : Int) (h0 : 0 ≤ n) (h1 : n ≤ 255) : ∃ f : Nat, IsF f ∧ ∀ w, Calls Tryd.prog 16 #[.int .u8 n] w fun e w' => e = .returned (.int .u8 f) ∧ w = w' := by
  have h : n % 2 = 0 ∨ n % 2 = 1 := by omega
  rcases h with h | h
  · refine ⟨1, isF1, fun w => ?_⟩
    have hF := law03_F n w h0 h1
    rwa [show n % 2 + 1 = ((1 : Nat) : Int) by omega] at hF
  · refine ⟨2, isF2, fun w => ?_⟩
    have hF := law03_F n w h0 h1
    rwa [show n % 2 + 1 = ((2 : Nat) : Int) by omega] at hF

theorem lohi_one {f : Nat} (x : Fin (Pm f)) : (lo x == 1 && hi x == 0) = decide (x = 1) := by
  by_cases h : x = 1
  · subst h
    rw [lo_one, hi_one]
    simp
  · rw [decide_eq_false h, Bool.and_eq_false_iff, beq_eq_false_iff_ne, beq_eq_false_iff_ne]
    by_cases h0 : lo x = 1
    · right
      intro h1
      exact h (lohi_inj (by rw [h0, lo_one]) (by rw [h1, hi_one]))
    · exact .inl h0

theorem bit_value {f : Nat} (x : Fin (Pm f)) : gval (.eval [0, -1, 1]) [x] = x * (x - 1) := by
  show horner x [0, -1, 1] = _
  unfold horner
  simp only [List.foldr_cons, List.foldr_nil]
  grind
theorem bit_nought {f : Nat} (x : Fin (Pm f)) : (x * (x - 1) = 0) ↔ (x = 0 ∨ x = 1) := by
  constructor
  · intro h
    rcases k_mul_eq_zero x (x - 1) h with h | h
    · exact .inl h
    · exact .inr (by grind)
  · rintro (h | h) <;> subst h <;> grind

end Go.Proofs.YtfhmineolncefaaDoor
