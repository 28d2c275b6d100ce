/-
 Chk: for TotalErrors.
-/
import Derived.BigQuiet
import Derived.Test.YtbakkmfjamcbfaaKai
import Derived.Test.YtbakkmfjamcbfaaOaa
namespace Go.Proofs.Ytbakkmfjamcbfaa
open Go.RowKit Fm
set_option linter.unusedVariables false
set_option maxRecDepth 100000

def rangeB (k b l m c : Int) : Bool := usedB b 32 (k == 2 || k == 3) && usedB l 64 (decide (3 ≤ k)) && usedB m l (k == 5) && usedB c 16 (decide (3 ≤ k))

theorem usedB_nat {n most : Int} (h : usedB n most true = true) : 1 ≤ n ∧ n ≤ most := by
 rw [usedB_yes, Bool.and_eq_true, decide_eq_true_eq, decide_eq_true_eq] at h
 exact h
theorem usedB_none {n most : Int} (h : usedB n most false = true) : n = 0 := by
 rw [usedB_no, beq_iff_eq] at h
 exact h

theorem cir_range {k b l m c : Int} (hk : 1 ≤ k ∧ k ≤ 5) (h : rangeB k b l m c = true) : ∃ y : CK, y.ok ∧ k = y.k ∧ b = y.b ∧ l = y.l ∧ m = y.m ∧ c = y.c := by
 unfold rangeB at h
 rw [Bool.and_eq_true, Bool.and_eq_true, Bool.and_eq_true] at h
 obtain ⟨⟨⟨h1, h2⟩, h3⟩, h4⟩ := h
 have hk5 : k = 1 ∨ k = 2 ∨ k = 3 ∨ k = 4 ∨ k = 5 := by omega
 rcases hk5 with rfl | rfl | rfl | rfl | rfl
 ·obtain rfl := usedB_none h1
  obtain rfl := usedB_none h2
  obtain rfl := usedB_none h3
  obtain rfl := usedB_none h4
  exact ⟨.count, trivial, rfl, rfl, rfl, rfl, rfl⟩
 ·obtain ⟨b0, b1⟩ := usedB_nat h1
  obtain rfl := usedB_none h2
  obtain rfl := usedB_none h3
  obtain rfl := usedB_none h4
  obtain ⟨b', rfl⟩ : ∃ b' : Nat, b = b' := ⟨b.toNat, by omega⟩
  exact ⟨.sum b', ⟨by omega, by omega⟩, rfl, rfl, rfl, rfl, rfl⟩
 ·obtain ⟨b0, b1⟩ := usedB_nat h1
  obtain ⟨l0, l1⟩ := usedB_nat h2
  obtain rfl := usedB_none h3
  obtain ⟨c0, c1⟩ := usedB_nat h4
  obtain ⟨b', rfl⟩ : ∃ b' : Nat, b = b' := ⟨b.toNat, by omega⟩
  obtain ⟨l', rfl⟩ : ∃ l' : Nat, l = l' := ⟨l.toNat, by omega⟩
  obtain ⟨c', rfl⟩ : ∃ c' : Nat, c = c' := ⟨c.toNat, by omega⟩
  exact ⟨.vec b' l' c', ⟨⟨by omega, by omega⟩, ⟨by omega, by omega⟩, ⟨by omega, by omega⟩⟩, rfl, rfl, rfl, rfl, rfl⟩
 ·obtain rfl := usedB_none h1
  obtain ⟨l0, l1⟩ := usedB_nat h2
  obtain rfl := usedB_none h3
  obtain ⟨c0, c1⟩ := usedB_nat h4
  obtain ⟨l', rfl⟩ : ∃ l' : Nat, l = l' := ⟨l.toNat, by omega⟩
  obtain ⟨c', rfl⟩ : ∃ c' : Nat, c = c' := ⟨c.toNat, by omega⟩
  exact ⟨.hist l' c', ⟨⟨by omega, by omega⟩, ⟨by omega, by omega⟩⟩, rfl, rfl, rfl, rfl, rfl⟩
 ·obtain rfl := usedB_none h1
  obtain ⟨l0, l1⟩ := usedB_nat h2
  obtain ⟨m0, m1⟩ := usedB_nat h3
  obtain ⟨c0, c1⟩ := usedB_nat h4
  obtain ⟨l', rfl⟩ : ∃ l' : Nat, l = l' := ⟨l.toNat, by omega⟩
  obtain ⟨m', rfl⟩ : ∃ m' : Nat, m = m' := ⟨m.toNat, by omega⟩
  obtain ⟨c', rfl⟩ : ∃ c' : Nat, c = c' := ⟨c.toNat, by omega⟩
  exact ⟨.multi l' m' c', ⟨⟨by omega, by omega⟩, ⟨by omega, by omega⟩, ⟨by omega, by omega⟩⟩, rfl, rfl, rfl, rfl, rfl⟩

set_option maxHeartbeats 2000000 in
theorem circuit_Check_field (k f b l m c : Int) (hfv : (f == 1 || f == 2) = false) (w : World) : Calls Try.prog 60 #[.agg #[.int .u8 k, .int .u8 f, .int .i64 b, .int .i64 l, .int .i64 m, .int .i64 c]] w (RetC 7 w) := by
 have h1 : (f == 1) = false := by
  rw [Bool.or_eq_false_iff] at hfv
  exact hfv.1
 have h2 : (f == 2) = false := by
  rw [Bool.or_eq_false_iff] at hfv
  exact hfv.2
 have h1' : (f != 1) = true := by rw [bne, h1]; rfl
 have h2' : (f != 2) = true := by rw [bne, h2]; rfl
 go_enter Try.func60, Try.ntmps60
 go_wp2_with (go_at_call 97; refine (field_Valid f _).mono ?_; rintro e wv ⟨rfl, rfl⟩)
 go_ret
 exact ⟨rfl, by repeat (first | exact bA | with_reducible assumption | apply bB | (refine bC ?_ (by dsimp only; omega)) | apply bD | apply bE | (refine bF ?_ (by assumption)))⟩

set_option maxHeartbeats 2000000 in
theorem circuit_Check_kind {f : Nat} (hf : IsF f) (k b l m c : Int) (hk : k < 1 ∨ 5 < k) (w : World) : Calls Try.prog 60 #[.agg #[.int .u8 k, .int .u8 f, .int .i64 b, .int .i64 l, .int .i64 m, .int .i64 c]] w (RetC 10 w) := by
 have hfv := fvalid hf
 have hfb0 : (1 : Int) ≤ (f : Int) := by rcases hf.or with rfl | rfl <;> omega
 have hfb1 : (f : Int) ≤ 2 := by rcases hf.or with rfl | rfl <;> omega
 by_cases h1 : k < 1
 ·skip
  all_goals
   go_enter Try.func60, Try.ntmps60
   go_wp2_with (go_at_call 97; refine (field_ValidK hf _).mono ?_; rintro e wv ⟨rfl, rfl⟩)
   go_ret
   exact ⟨rfl, by repeat (first | exact bA | with_reducible assumption | apply bB | (refine bC ?_ (by dsimp only; omega)) | apply bD | apply bE | (refine bF ?_ (by assumption)))⟩
 ·have h5 : 5 < k := by omega
  skip
  all_goals
   go_enter Try.func60, Try.ntmps60
   go_wp2_with (go_at_call 97; refine (field_ValidK hf _).mono ?_; rintro e wv ⟨rfl, rfl⟩)
   go_ret
   exact ⟨rfl, by repeat (first | exact bA | with_reducible assumption | apply bB | (refine bC ?_ (by dsimp only; omega)) | apply bD | apply bE | (refine bF ?_ (by assumption)))⟩

set_option maxHeartbeats 4000000 in
theorem circuit_Check_range1 {f : Nat} (hf : IsF f) (b l m c : Int) (hr : (usedB b 32 false && usedB l 64 false && usedB m l false && usedB c 16 false) = false) (w : World) : Calls Try.prog 60 #[.agg #[.int .u8 1, .int .u8 f, .int .i64 b, .int .i64 l, .int .i64 m, .int .i64 c]] w (RetC 6 w) := by
 have hfv := fvalid hf
 have hfb0 : (1 : Int) ≤ (f : Int) := by rcases hf.or with rfl | rfl <;> omega
 have hfb1 : (f : Int) ≤ 2 := by rcases hf.or with rfl | rfl <;> omega
 have HR := Lib.hid hr
 clear hr
 have hb00 : Below w.heap.size w w := Below.refl _ _
 go_enter Try.func60, Try.ntmps60
 go_upto_region 5 with (go_at_call 97; refine (field_ValidK hf _).mono ?_; rintro e wv ⟨rfl, rfl⟩)
 have hx := Vs.new w [.int .u8 1, .int .u8 f, .int .i64 b, .int .i64 l, .int .i64 m, .int .i64 c] #[.int .u8 1, .int .u8 f, .int .i64 b, .int .i64 l, .int .i64 m, .int .i64 c] 60 rfl
 have hbA : Below w.heap.size w (w.alloc (.cells #[.int .u8 1, .int .u8 f, .int .i64 b, .int .i64 l, .int .i64 m, .int .i64 c] 60)) := by repeat (first | exact bA | with_reducible assumption | apply bB)
 replace hb00 := bl_call hb00 (Nat.le_refl _) hbA
 clear hbA
 generalize w.alloc (.cells #[.int .u8 1, .int .u8 f, .int .i64 b, .int .i64 l, .int .i64 m, .int .i64 c] 60) = w1 at hb00 hx ⊢
 refine wp_region_lit ?_
 refine wpList_val (v := .agg #[.bool true, .bool false, .bool false, .bool false]) (w' := w1) rfl (by kernel_rfl) ?_
 refine wpList_val (v := .agg #[.bool true, .bool true, .bool false, .bool true]) (w' := w1) rfl (by kernel_rfl) ?_
 refine wpList_val (v := .agg #[.bool false, .bool true, .bool false, .bool true]) (w' := w1) rfl (by kernel_rfl) ?_
 refine wpList_val (v := .agg #[.bool false, .bool true, .bool true, .bool true]) (w' := w1) rfl (by kernel_rfl) ?_
 refine wpList_val (v := .agg tbl) (w' := w1) rfl (by kernel_rfl) ?_
 refine wpList_val (v := .pointer (some ⟨w1.heap.size, 0, none⟩)) (w' := w1.alloc (.cells tbl0 179)) rfl (by kernel_rfl) ?_
 refine wpList_skip (w' := w1.alloc (.cells tbl 179)) rfl (exec_store_new _ _ _ _ _ rfl _ _ _ (by kernel_rfl) (by kernel_rfl) (by kernel_rfl) rfl (by kernel_rfl)) ?_
 have hT := Vs.new w1 tbl.toList tbl 179 rfl
 have hbA : Below w1.heap.size w1 (w1.alloc (.cells tbl 179)) := by repeat (first | exact bA | with_reducible assumption | apply bB | (refine bC ?_ (by dsimp only; omega)) | apply bD | apply bE | (refine bF ?_ (by assumption)))
 replace hb00 := bl_call hb00 (Nat.le_refl _) hbA
 replace hx := hx.call hbA
 clear hbA
 have hxl := hx.lt
 generalize hbT : w1.heap.size = bT at *
 generalize w1.alloc (.cells tbl 179) = w2 at hx hT hb00 ⊢
 have t0 := hT.cell 4 _ rfl
 have t1 := hT.cell 5 _ rfl
 have t2 := hT.cell 6 _ rfl
 have t3 := hT.cell 7 _ rfl
 have t4 := hT.lt
 clear hbT hT
 obtain ⟨⟨x0, x1, x2, x3, x4, x5⟩, ⟨x6, x7, x8, x9, x10, x11⟩, x12⟩ := hx.get6
 go_upto_region 7 with fail
 cases h0 : usedB b 32 false
 ·clear HR
  go_wp2_with (first
   | (go_at_call 98; refine (circuit_within _ _ _ _).mono ?_; rintro e wv ⟨rfl, rfl⟩))
  go_ret
  exact ⟨rfl, by repeat (first | exact bA | with_reducible assumption | apply bB | (refine bC ?_ (by dsimp only; omega)) | apply bD | apply bE | (refine bF ?_ (by assumption)))⟩
 ·skip
  cases h1 : usedB l 64 false
  ·clear HR
   go_wp2_with (first
   | (go_at_call 98; refine (circuit_within _ _ _ _).mono ?_; rintro e wv ⟨rfl, rfl⟩))
   go_ret
   exact ⟨rfl, by repeat (first | exact bA | with_reducible assumption | apply bB | (refine bC ?_ (by dsimp only; omega)) | apply bD | apply bE | (refine bF ?_ (by assumption)))⟩
  ·skip
   cases h2 : usedB m l false
   ·clear HR
    go_wp2_with (first
   | (go_at_call 98; refine (circuit_within _ _ _ _).mono ?_; rintro e wv ⟨rfl, rfl⟩))
    go_ret
    exact ⟨rfl, by repeat (first | exact bA | with_reducible assumption | apply bB | (refine bC ?_ (by dsimp only; omega)) | apply bD | apply bE | (refine bF ?_ (by assumption)))⟩
   ·skip
    cases h3 : usedB c 16 false
    ·clear HR
     go_wp2_with (first
   | (go_at_call 98; refine (circuit_within _ _ _ _).mono ?_; rintro e wv ⟨rfl, rfl⟩))
     go_ret
     exact ⟨rfl, by repeat (first | exact bA | with_reducible assumption | apply bB | (refine bC ?_ (by dsimp only; omega)) | apply bD | apply bE | (refine bF ?_ (by assumption)))⟩
    ·skip
     have hr := HR.out
     rw [h0, h1, h2, h3] at hr
     cases hr

set_option maxHeartbeats 4000000 in
theorem circuit_Check_range2 {f : Nat} (hf : IsF f) (b l m c : Int) (hr : (usedB b 32 true && usedB l 64 false && usedB m l false && usedB c 16 false) = false) (w : World) : Calls Try.prog 60 #[.agg #[.int .u8 2, .int .u8 f, .int .i64 b, .int .i64 l, .int .i64 m, .int .i64 c]] w (RetC 6 w) := by
 have hfv := fvalid hf
 have hfb0 : (1 : Int) ≤ (f : Int) := by rcases hf.or with rfl | rfl <;> omega
 have hfb1 : (f : Int) ≤ 2 := by rcases hf.or with rfl | rfl <;> omega
 have HR := Lib.hid hr
 clear hr
 have hb00 : Below w.heap.size w w := Below.refl _ _
 go_enter Try.func60, Try.ntmps60
 go_upto_region 5 with (go_at_call 97; refine (field_ValidK hf _).mono ?_; rintro e wv ⟨rfl, rfl⟩)
 have hx := Vs.new w [.int .u8 2, .int .u8 f, .int .i64 b, .int .i64 l, .int .i64 m, .int .i64 c] #[.int .u8 2, .int .u8 f, .int .i64 b, .int .i64 l, .int .i64 m, .int .i64 c] 60 rfl
 have hbA : Below w.heap.size w (w.alloc (.cells #[.int .u8 2, .int .u8 f, .int .i64 b, .int .i64 l, .int .i64 m, .int .i64 c] 60)) := by repeat (first | exact bA | with_reducible assumption | apply bB)
 replace hb00 := bl_call hb00 (Nat.le_refl _) hbA
 clear hbA
 generalize w.alloc (.cells #[.int .u8 2, .int .u8 f, .int .i64 b, .int .i64 l, .int .i64 m, .int .i64 c] 60) = w1 at hb00 hx ⊢
 refine wp_region_lit ?_
 refine wpList_val (v := .agg #[.bool true, .bool false, .bool false, .bool false]) (w' := w1) rfl (by kernel_rfl) ?_
 refine wpList_val (v := .agg #[.bool true, .bool true, .bool false, .bool true]) (w' := w1) rfl (by kernel_rfl) ?_
 refine wpList_val (v := .agg #[.bool false, .bool true, .bool false, .bool true]) (w' := w1) rfl (by kernel_rfl) ?_
 refine wpList_val (v := .agg #[.bool false, .bool true, .bool true, .bool true]) (w' := w1) rfl (by kernel_rfl) ?_
 refine wpList_val (v := .agg tbl) (w' := w1) rfl (by kernel_rfl) ?_
 refine wpList_val (v := .pointer (some ⟨w1.heap.size, 0, none⟩)) (w' := w1.alloc (.cells tbl0 179)) rfl (by kernel_rfl) ?_
 refine wpList_skip (w' := w1.alloc (.cells tbl 179)) rfl (exec_store_new _ _ _ _ _ rfl _ _ _ (by kernel_rfl) (by kernel_rfl) (by kernel_rfl) rfl (by kernel_rfl)) ?_
 have hT := Vs.new w1 tbl.toList tbl 179 rfl
 have hbA : Below w1.heap.size w1 (w1.alloc (.cells tbl 179)) := by repeat (first | exact bA | with_reducible assumption | apply bB | (refine bC ?_ (by dsimp only; omega)) | apply bD | apply bE | (refine bF ?_ (by assumption)))
 replace hb00 := bl_call hb00 (Nat.le_refl _) hbA
 replace hx := hx.call hbA
 clear hbA
 have hxl := hx.lt
 generalize hbT : w1.heap.size = bT at *
 generalize w1.alloc (.cells tbl 179) = w2 at hx hT hb00 ⊢
 have t0 := hT.cell 8 _ rfl
 have t1 := hT.cell 9 _ rfl
 have t2 := hT.cell 10 _ rfl
 have t3 := hT.cell 11 _ rfl
 have t4 := hT.lt
 clear hbT hT
 obtain ⟨⟨x0, x1, x2, x3, x4, x5⟩, ⟨x6, x7, x8, x9, x10, x11⟩, x12⟩ := hx.get6
 go_upto_region 7 with fail
 cases h0 : usedB b 32 true
 ·clear HR
  go_wp2_with (first
   | (go_at_call 98; refine (circuit_within _ _ _ _).mono ?_; rintro e wv ⟨rfl, rfl⟩))
  go_ret
  exact ⟨rfl, by repeat (first | exact bA | with_reducible assumption | apply bB | (refine bC ?_ (by dsimp only; omega)) | apply bD | apply bE | (refine bF ?_ (by assumption)))⟩
 ·skip
  cases h1 : usedB l 64 false
  ·clear HR
   go_wp2_with (first
   | (go_at_call 98; refine (circuit_within _ _ _ _).mono ?_; rintro e wv ⟨rfl, rfl⟩))
   go_ret
   exact ⟨rfl, by repeat (first | exact bA | with_reducible assumption | apply bB | (refine bC ?_ (by dsimp only; omega)) | apply bD | apply bE | (refine bF ?_ (by assumption)))⟩
  ·skip
   cases h2 : usedB m l false
   ·clear HR
    go_wp2_with (first
   | (go_at_call 98; refine (circuit_within _ _ _ _).mono ?_; rintro e wv ⟨rfl, rfl⟩))
    go_ret
    exact ⟨rfl, by repeat (first | exact bA | with_reducible assumption | apply bB | (refine bC ?_ (by dsimp only; omega)) | apply bD | apply bE | (refine bF ?_ (by assumption)))⟩
   ·skip
    cases h3 : usedB c 16 false
    ·clear HR
     go_wp2_with (first
   | (go_at_call 98; refine (circuit_within _ _ _ _).mono ?_; rintro e wv ⟨rfl, rfl⟩))
     go_ret
     exact ⟨rfl, by repeat (first | exact bA | with_reducible assumption | apply bB | (refine bC ?_ (by dsimp only; omega)) | apply bD | apply bE | (refine bF ?_ (by assumption)))⟩
    ·skip
     have hr := HR.out
     rw [h0, h1, h2, h3] at hr
     cases hr

set_option maxHeartbeats 4000000 in
theorem circuit_Check_range3 {f : Nat} (hf : IsF f) (b l m c : Int) (hr : (usedB b 32 true && usedB l 64 true && usedB m l false && usedB c 16 true) = false) (w : World) : Calls Try.prog 60 #[.agg #[.int .u8 3, .int .u8 f, .int .i64 b, .int .i64 l, .int .i64 m, .int .i64 c]] w (RetC 6 w) := by
 have hfv := fvalid hf
 have hfb0 : (1 : Int) ≤ (f : Int) := by rcases hf.or with rfl | rfl <;> omega
 have hfb1 : (f : Int) ≤ 2 := by rcases hf.or with rfl | rfl <;> omega
 have HR := Lib.hid hr
 clear hr
 have hb00 : Below w.heap.size w w := Below.refl _ _
 go_enter Try.func60, Try.ntmps60
 go_upto_region 5 with (go_at_call 97; refine (field_ValidK hf _).mono ?_; rintro e wv ⟨rfl, rfl⟩)
 have hx := Vs.new w [.int .u8 3, .int .u8 f, .int .i64 b, .int .i64 l, .int .i64 m, .int .i64 c] #[.int .u8 3, .int .u8 f, .int .i64 b, .int .i64 l, .int .i64 m, .int .i64 c] 60 rfl
 have hbA : Below w.heap.size w (w.alloc (.cells #[.int .u8 3, .int .u8 f, .int .i64 b, .int .i64 l, .int .i64 m, .int .i64 c] 60)) := by repeat (first | exact bA | with_reducible assumption | apply bB)
 replace hb00 := bl_call hb00 (Nat.le_refl _) hbA
 clear hbA
 generalize w.alloc (.cells #[.int .u8 3, .int .u8 f, .int .i64 b, .int .i64 l, .int .i64 m, .int .i64 c] 60) = w1 at hb00 hx ⊢
 refine wp_region_lit ?_
 refine wpList_val (v := .agg #[.bool true, .bool false, .bool false, .bool false]) (w' := w1) rfl (by kernel_rfl) ?_
 refine wpList_val (v := .agg #[.bool true, .bool true, .bool false, .bool true]) (w' := w1) rfl (by kernel_rfl) ?_
 refine wpList_val (v := .agg #[.bool false, .bool true, .bool false, .bool true]) (w' := w1) rfl (by kernel_rfl) ?_
 refine wpList_val (v := .agg #[.bool false, .bool true, .bool true, .bool true]) (w' := w1) rfl (by kernel_rfl) ?_
 refine wpList_val (v := .agg tbl) (w' := w1) rfl (by kernel_rfl) ?_
 refine wpList_val (v := .pointer (some ⟨w1.heap.size, 0, none⟩)) (w' := w1.alloc (.cells tbl0 179)) rfl (by kernel_rfl) ?_
 refine wpList_skip (w' := w1.alloc (.cells tbl 179)) rfl (exec_store_new _ _ _ _ _ rfl _ _ _ (by kernel_rfl) (by kernel_rfl) (by kernel_rfl) rfl (by kernel_rfl)) ?_
 have hT := Vs.new w1 tbl.toList tbl 179 rfl
 have hbA : Below w1.heap.size w1 (w1.alloc (.cells tbl 179)) := by repeat (first | exact bA | with_reducible assumption | apply bB | (refine bC ?_ (by dsimp only; omega)) | apply bD | apply bE | (refine bF ?_ (by assumption)))
 replace hb00 := bl_call hb00 (Nat.le_refl _) hbA
 replace hx := hx.call hbA
 clear hbA
 have hxl := hx.lt
 generalize hbT : w1.heap.size = bT at *
 generalize w1.alloc (.cells tbl 179) = w2 at hx hT hb00 ⊢
 have t0 := hT.cell 12 _ rfl
 have t1 := hT.cell 13 _ rfl
 have t2 := hT.cell 14 _ rfl
 have t3 := hT.cell 15 _ rfl
 have t4 := hT.lt
 clear hbT hT
 obtain ⟨⟨x0, x1, x2, x3, x4, x5⟩, ⟨x6, x7, x8, x9, x10, x11⟩, x12⟩ := hx.get6
 go_upto_region 7 with fail
 cases h0 : usedB b 32 true
 ·clear HR
  go_wp2_with (first
   | (go_at_call 98; refine (circuit_within _ _ _ _).mono ?_; rintro e wv ⟨rfl, rfl⟩))
  go_ret
  exact ⟨rfl, by repeat (first | exact bA | with_reducible assumption | apply bB | (refine bC ?_ (by dsimp only; omega)) | apply bD | apply bE | (refine bF ?_ (by assumption)))⟩
 ·skip
  cases h1 : usedB l 64 true
  ·clear HR
   go_wp2_with (first
   | (go_at_call 98; refine (circuit_within _ _ _ _).mono ?_; rintro e wv ⟨rfl, rfl⟩))
   go_ret
   exact ⟨rfl, by repeat (first | exact bA | with_reducible assumption | apply bB | (refine bC ?_ (by dsimp only; omega)) | apply bD | apply bE | (refine bF ?_ (by assumption)))⟩
  ·skip
   cases h2 : usedB m l false
   ·clear HR
    go_wp2_with (first
   | (go_at_call 98; refine (circuit_within _ _ _ _).mono ?_; rintro e wv ⟨rfl, rfl⟩))
    go_ret
    exact ⟨rfl, by repeat (first | exact bA | with_reducible assumption | apply bB | (refine bC ?_ (by dsimp only; omega)) | apply bD | apply bE | (refine bF ?_ (by assumption)))⟩
   ·skip
    cases h3 : usedB c 16 true
    ·clear HR
     go_wp2_with (first
   | (go_at_call 98; refine (circuit_within _ _ _ _).mono ?_; rintro e wv ⟨rfl, rfl⟩))
     go_ret
     exact ⟨rfl, by repeat (first | exact bA | with_reducible assumption | apply bB | (refine bC ?_ (by dsimp only; omega)) | apply bD | apply bE | (refine bF ?_ (by assumption)))⟩
    ·skip
     have hr := HR.out
     rw [h0, h1, h2, h3] at hr
     cases hr

set_option maxHeartbeats 4000000 in
theorem circuit_Check_range4 {f : Nat} (hf : IsF f) (b l m c : Int) (hr : (usedB b 32 false && usedB l 64 true && usedB m l false && usedB c 16 true) = false) (w : World) : Calls Try.prog 60 #[.agg #[.int .u8 4, .int .u8 f, .int .i64 b, .int .i64 l, .int .i64 m, .int .i64 c]] w (RetC 6 w) := by
 have hfv := fvalid hf
 have hfb0 : (1 : Int) ≤ (f : Int) := by rcases hf.or with rfl | rfl <;> omega
 have hfb1 : (f : Int) ≤ 2 := by rcases hf.or with rfl | rfl <;> omega
 have HR := Lib.hid hr
 clear hr
 have hb00 : Below w.heap.size w w := Below.refl _ _
 go_enter Try.func60, Try.ntmps60
 go_upto_region 5 with (go_at_call 97; refine (field_ValidK hf _).mono ?_; rintro e wv ⟨rfl, rfl⟩)
 have hx := Vs.new w [.int .u8 4, .int .u8 f, .int .i64 b, .int .i64 l, .int .i64 m, .int .i64 c] #[.int .u8 4, .int .u8 f, .int .i64 b, .int .i64 l, .int .i64 m, .int .i64 c] 60 rfl
 have hbA : Below w.heap.size w (w.alloc (.cells #[.int .u8 4, .int .u8 f, .int .i64 b, .int .i64 l, .int .i64 m, .int .i64 c] 60)) := by repeat (first | exact bA | with_reducible assumption | apply bB)
 replace hb00 := bl_call hb00 (Nat.le_refl _) hbA
 clear hbA
 generalize w.alloc (.cells #[.int .u8 4, .int .u8 f, .int .i64 b, .int .i64 l, .int .i64 m, .int .i64 c] 60) = w1 at hb00 hx ⊢
 refine wp_region_lit ?_
 refine wpList_val (v := .agg #[.bool true, .bool false, .bool false, .bool false]) (w' := w1) rfl (by kernel_rfl) ?_
 refine wpList_val (v := .agg #[.bool true, .bool true, .bool false, .bool true]) (w' := w1) rfl (by kernel_rfl) ?_
 refine wpList_val (v := .agg #[.bool false, .bool true, .bool false, .bool true]) (w' := w1) rfl (by kernel_rfl) ?_
 refine wpList_val (v := .agg #[.bool false, .bool true, .bool true, .bool true]) (w' := w1) rfl (by kernel_rfl) ?_
 refine wpList_val (v := .agg tbl) (w' := w1) rfl (by kernel_rfl) ?_
 refine wpList_val (v := .pointer (some ⟨w1.heap.size, 0, none⟩)) (w' := w1.alloc (.cells tbl0 179)) rfl (by kernel_rfl) ?_
 refine wpList_skip (w' := w1.alloc (.cells tbl 179)) rfl (exec_store_new _ _ _ _ _ rfl _ _ _ (by kernel_rfl) (by kernel_rfl) (by kernel_rfl) rfl (by kernel_rfl)) ?_
 have hT := Vs.new w1 tbl.toList tbl 179 rfl
 have hbA : Below w1.heap.size w1 (w1.alloc (.cells tbl 179)) := by repeat (first | exact bA | with_reducible assumption | apply bB | (refine bC ?_ (by dsimp only; omega)) | apply bD | apply bE | (refine bF ?_ (by assumption)))
 replace hb00 := bl_call hb00 (Nat.le_refl _) hbA
 replace hx := hx.call hbA
 clear hbA
 have hxl := hx.lt
 generalize hbT : w1.heap.size = bT at *
 generalize w1.alloc (.cells tbl 179) = w2 at hx hT hb00 ⊢
 have t0 := hT.cell 16 _ rfl
 have t1 := hT.cell 17 _ rfl
 have t2 := hT.cell 18 _ rfl
 have t3 := hT.cell 19 _ rfl
 have t4 := hT.lt
 clear hbT hT
 obtain ⟨⟨x0, x1, x2, x3, x4, x5⟩, ⟨x6, x7, x8, x9, x10, x11⟩, x12⟩ := hx.get6
 go_upto_region 7 with fail
 cases h0 : usedB b 32 false
 ·clear HR
  go_wp2_with (first
   | (go_at_call 98; refine (circuit_within _ _ _ _).mono ?_; rintro e wv ⟨rfl, rfl⟩))
  go_ret
  exact ⟨rfl, by repeat (first | exact bA | with_reducible assumption | apply bB | (refine bC ?_ (by dsimp only; omega)) | apply bD | apply bE | (refine bF ?_ (by assumption)))⟩
 ·skip
  cases h1 : usedB l 64 true
  ·clear HR
   go_wp2_with (first
   | (go_at_call 98; refine (circuit_within _ _ _ _).mono ?_; rintro e wv ⟨rfl, rfl⟩))
   go_ret
   exact ⟨rfl, by repeat (first | exact bA | with_reducible assumption | apply bB | (refine bC ?_ (by dsimp only; omega)) | apply bD | apply bE | (refine bF ?_ (by assumption)))⟩
  ·skip
   cases h2 : usedB m l false
   ·clear HR
    go_wp2_with (first
   | (go_at_call 98; refine (circuit_within _ _ _ _).mono ?_; rintro e wv ⟨rfl, rfl⟩))
    go_ret
    exact ⟨rfl, by repeat (first | exact bA | with_reducible assumption | apply bB | (refine bC ?_ (by dsimp only; omega)) | apply bD | apply bE | (refine bF ?_ (by assumption)))⟩
   ·skip
    cases h3 : usedB c 16 true
    ·clear HR
     go_wp2_with (first
   | (go_at_call 98; refine (circuit_within _ _ _ _).mono ?_; rintro e wv ⟨rfl, rfl⟩))
     go_ret
     exact ⟨rfl, by repeat (first | exact bA | with_reducible assumption | apply bB | (refine bC ?_ (by dsimp only; omega)) | apply bD | apply bE | (refine bF ?_ (by assumption)))⟩
    ·skip
     have hr := HR.out
     rw [h0, h1, h2, h3] at hr
     cases hr

set_option maxHeartbeats 4000000 in
theorem circuit_Check_range5 {f : Nat} (hf : IsF f) (b l m c : Int) (hr : (usedB b 32 false && usedB l 64 true && usedB m l true && usedB c 16 true) = false) (w : World) : Calls Try.prog 60 #[.agg #[.int .u8 5, .int .u8 f, .int .i64 b, .int .i64 l, .int .i64 m, .int .i64 c]] w (RetC 6 w) := by
 have hfv := fvalid hf
 have hfb0 : (1 : Int) ≤ (f : Int) := by rcases hf.or with rfl | rfl <;> omega
 have hfb1 : (f : Int) ≤ 2 := by rcases hf.or with rfl | rfl <;> omega
 have HR := Lib.hid hr
 clear hr
 have hb00 : Below w.heap.size w w := Below.refl _ _
 go_enter Try.func60, Try.ntmps60
 go_upto_region 5 with (go_at_call 97; refine (field_ValidK hf _).mono ?_; rintro e wv ⟨rfl, rfl⟩)
 have hx := Vs.new w [.int .u8 5, .int .u8 f, .int .i64 b, .int .i64 l, .int .i64 m, .int .i64 c] #[.int .u8 5, .int .u8 f, .int .i64 b, .int .i64 l, .int .i64 m, .int .i64 c] 60 rfl
 have hbA : Below w.heap.size w (w.alloc (.cells #[.int .u8 5, .int .u8 f, .int .i64 b, .int .i64 l, .int .i64 m, .int .i64 c] 60)) := by repeat (first | exact bA | with_reducible assumption | apply bB)
 replace hb00 := bl_call hb00 (Nat.le_refl _) hbA
 clear hbA
 generalize w.alloc (.cells #[.int .u8 5, .int .u8 f, .int .i64 b, .int .i64 l, .int .i64 m, .int .i64 c] 60) = w1 at hb00 hx ⊢
 refine wp_region_lit ?_
 refine wpList_val (v := .agg #[.bool true, .bool false, .bool false, .bool false]) (w' := w1) rfl (by kernel_rfl) ?_
 refine wpList_val (v := .agg #[.bool true, .bool true, .bool false, .bool true]) (w' := w1) rfl (by kernel_rfl) ?_
 refine wpList_val (v := .agg #[.bool false, .bool true, .bool false, .bool true]) (w' := w1) rfl (by kernel_rfl) ?_
 refine wpList_val (v := .agg #[.bool false, .bool true, .bool true, .bool true]) (w' := w1) rfl (by kernel_rfl) ?_
 refine wpList_val (v := .agg tbl) (w' := w1) rfl (by kernel_rfl) ?_
 refine wpList_val (v := .pointer (some ⟨w1.heap.size, 0, none⟩)) (w' := w1.alloc (.cells tbl0 179)) rfl (by kernel_rfl) ?_
 refine wpList_skip (w' := w1.alloc (.cells tbl 179)) rfl (exec_store_new _ _ _ _ _ rfl _ _ _ (by kernel_rfl) (by kernel_rfl) (by kernel_rfl) rfl (by kernel_rfl)) ?_
 have hT := Vs.new w1 tbl.toList tbl 179 rfl
 have hbA : Below w1.heap.size w1 (w1.alloc (.cells tbl 179)) := by repeat (first | exact bA | with_reducible assumption | apply bB | (refine bC ?_ (by dsimp only; omega)) | apply bD | apply bE | (refine bF ?_ (by assumption)))
 replace hb00 := bl_call hb00 (Nat.le_refl _) hbA
 replace hx := hx.call hbA
 clear hbA
 have hxl := hx.lt
 generalize hbT : w1.heap.size = bT at *
 generalize w1.alloc (.cells tbl 179) = w2 at hx hT hb00 ⊢
 have t0 := hT.cell 20 _ rfl
 have t1 := hT.cell 21 _ rfl
 have t2 := hT.cell 22 _ rfl
 have t3 := hT.cell 23 _ rfl
 have t4 := hT.lt
 clear hbT hT
 obtain ⟨⟨x0, x1, x2, x3, x4, x5⟩, ⟨x6, x7, x8, x9, x10, x11⟩, x12⟩ := hx.get6
 go_upto_region 7 with fail
 cases h0 : usedB b 32 false
 ·clear HR
  go_wp2_with (first
   | (go_at_call 98; refine (circuit_within _ _ _ _).mono ?_; rintro e wv ⟨rfl, rfl⟩))
  go_ret
  exact ⟨rfl, by repeat (first | exact bA | with_reducible assumption | apply bB | (refine bC ?_ (by dsimp only; omega)) | apply bD | apply bE | (refine bF ?_ (by assumption)))⟩
 ·skip
  cases h1 : usedB l 64 true
  ·clear HR
   go_wp2_with (first
   | (go_at_call 98; refine (circuit_within _ _ _ _).mono ?_; rintro e wv ⟨rfl, rfl⟩))
   go_ret
   exact ⟨rfl, by repeat (first | exact bA | with_reducible assumption | apply bB | (refine bC ?_ (by dsimp only; omega)) | apply bD | apply bE | (refine bF ?_ (by assumption)))⟩
  ·skip
   cases h2 : usedB m l true
   ·clear HR
    go_wp2_with (first
   | (go_at_call 98; refine (circuit_within _ _ _ _).mono ?_; rintro e wv ⟨rfl, rfl⟩))
    go_ret
    exact ⟨rfl, by repeat (first | exact bA | with_reducible assumption | apply bB | (refine bC ?_ (by dsimp only; omega)) | apply bD | apply bE | (refine bF ?_ (by assumption)))⟩
   ·skip
    cases h3 : usedB c 16 true
    ·clear HR
     go_wp2_with (first
   | (go_at_call 98; refine (circuit_within _ _ _ _).mono ?_; rintro e wv ⟨rfl, rfl⟩))
     go_ret
     exact ⟨rfl, by repeat (first | exact bA | with_reducible assumption | apply bB | (refine bC ?_ (by dsimp only; omega)) | apply bD | apply bE | (refine bF ?_ (by assumption)))⟩
    ·skip
     have hr := HR.out
     rw [h0, h1, h2, h3] at hr
     cases hr

theorem circuit_Check_range {f : Nat} (hf : IsF f) (k b l m c : Int) (hk : 1 ≤ k ∧ k ≤ 5) (hr : rangeB k b l m c = false) (w : World) : Calls Try.prog 60 #[.agg #[.int .u8 k, .int .u8 f, .int .i64 b, .int .i64 l, .int .i64 m, .int .i64 c]] w (RetC 6 w) := by
 have hk5 : k = 1 ∨ k = 2 ∨ k = 3 ∨ k = 4 ∨ k = 5 := by omega
 rcases hk5 with rfl | rfl | rfl | rfl | rfl
 ·exact circuit_Check_range1 hf b l m c hr w
 ·exact circuit_Check_range2 hf b l m c hr w
 ·exact circuit_Check_range3 hf b l m c hr w
 ·exact circuit_Check_range4 hf b l m c hr w
 ·exact circuit_Check_range5 hf b l m c hr w

end Go.Proofs.Ytbakkmfjamcbfaa
