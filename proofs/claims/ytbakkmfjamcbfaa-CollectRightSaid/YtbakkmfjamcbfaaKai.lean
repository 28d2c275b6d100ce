/-
 Chk: what the statements of this layer share.
-/
import Derived.BigQuiet
import Derived.Test.YtbakkmfjamcbfaaKah
namespace Go.Proofs.Ytbakkmfjamcbfaa
open Go.RowKit Fm
set_option linter.unusedVariables false
set_option maxRecDepth 100000

theorem usedB_ok {n most : Int} (h1 : 1 ≤ n) (h2 : n ≤ most) : usedB n most true = true := by rw [usedB_yes, decide_eq_true h1, decide_eq_true h2]; rfl

def CK.code (y : CK) : Int := if 511 < y.calls then 5 else 0
theorem CK.code_no {y : CK} (h : 511 < y.calls) : y.code = 5 := if_pos h
theorem CK.code_ok {y : CK} (h : ¬ 511 < y.calls) : y.code = 0 := if_neg h

def RetC (n : Int) (w : World) (e : Ending) (w' : World) : Prop := e = .returned (.int .i64 n) ∧ Below w.heap.size w w'

abbrev tbl0 : Array Value := #[.bool false, .bool false, .bool false, .bool false, .bool false, .bool false, .bool false, .bool false, .bool false, .bool false, .bool false, .bool false, .bool false, .bool false, .bool false, .bool false, .bool false, .bool false, .bool false, .bool false, .bool false, .bool false, .bool false, .bool false]
abbrev tbl : Array Value := #[.bool false, .bool false, .bool false, .bool false, .bool false, .bool false, .bool false, .bool false, .bool true, .bool false, .bool false, .bool false, .bool true, .bool true, .bool false, .bool true, .bool false, .bool true, .bool false, .bool true, .bool false, .bool true, .bool true, .bool true]

set_option maxHeartbeats 4000000 in
theorem circuit_Check_ok {f : Nat} (hf : IsF f) (y : CK) (hy : y.ok) (w : World) : Calls Try.prog 60 #[y.val f] w (RetC y.code w) := by
 have HC := Lib.hid (fun wz => circuit_Calls f y hy wz)
 have hfv := fvalid hf
 have hfb0 : (1 : Int) ≤ (f : Int) := by rcases hf.or with rfl | rfl <;> omega
 have hfb1 : (f : Int) ≤ 2 := by rcases hf.or with rfl | rfl <;> omega
 cases y with
 | count =>
  have h0 : usedB (0 : Int) 32 false = true := rfl
  have h1 : usedB (0 : Int) 64 false = true := rfl
  have h2 : usedB (0 : Int) (0 : Int) false = true := rfl
  have h3 : usedB (0 : Int) 16 false = true := rfl
  rw [val_count] at HC ⊢
  clear hy
  by_cases hc : 511 < CK.count.calls
  ·rw [CK.code_no hc]
   have hq : CK.count.calls = 1 := rfl
   rw [hq] at hc HC
   clear hq
   exact absurd hc (by omega)
  ·rw [CK.code_ok hc]
   have hq : CK.count.calls = 1 := rfl
   rw [hq] at hc HC
   clear hq
   have hb00 : Below w.heap.size w w := Below.refl _ _
   go_enter Try.func60, Try.ntmps60
   go_upto_region 5 with (go_at_call 97; refine (field_ValidK hf _).mono ?_; rintro e wv ⟨rfl, rfl⟩)
   have hx := Vs.new w [.int .u8 1, .int .u8 f, .int .i64 0, .int .i64 0, .int .i64 0, .int .i64 0] #[.int .u8 1, .int .u8 f, .int .i64 0, .int .i64 0, .int .i64 0, .int .i64 0] 60 rfl
   have hbA : Below w.heap.size w (w.alloc (.cells #[.int .u8 1, .int .u8 f, .int .i64 0, .int .i64 0, .int .i64 0, .int .i64 0] 60)) := by repeat (first | exact bA | with_reducible assumption | apply bB)
   replace hb00 := bl_call hb00 (Nat.le_refl _) hbA
   clear hbA
   generalize w.alloc (.cells #[.int .u8 1, .int .u8 f, .int .i64 0, .int .i64 0, .int .i64 0, .int .i64 0] 60) = w1 at hb00 hx ⊢
   refine wp_region_lit ?_
   refine wpList_val (v := .agg #[.bool true, .bool false, .bool false, .bool false]) (w' := w1) rfl (by kernel_rfl) ?_
   refine wpList_val (v := .agg #[.bool true, .bool true, .bool false, .bool true]) (w' := w1) rfl (by kernel_rfl) ?_
   refine wpList_val (v := .agg #[.bool false, .bool true, .bool false, .bool true]) (w' := w1) rfl (by kernel_rfl) ?_
   refine wpList_val (v := .agg #[.bool false, .bool true, .bool true, .bool true]) (w' := w1) rfl (by kernel_rfl) ?_
   refine wpList_val (v := .agg tbl) (w' := w1) rfl (by kernel_rfl) ?_
   refine wpList_val (v := .pointer (some ⟨w1.heap.size, 0, none⟩)) (w' := w1.alloc (.cells tbl0 179)) rfl (by kernel_rfl) ?_
   refine wpList_skip (w' := w1.alloc (.cells tbl 179)) rfl (exec_store_new _ _ _ _ _ rfl _ _ _ (by kernel_rfl) (by kernel_rfl) (by kernel_rfl) rfl (by kernel_rfl)) ?_
   have hT := Vs.new w1 tbl.toList tbl 179 rfl
   have hbA : Below w1.heap.size w1 (w1.alloc (.cells tbl 179)) := by repeat (first | exact bA | with_reducible assumption | apply bB | (refine bC ?_ (by dsimp only; omega)) | apply bD | apply bE | (refine bF ?_ (by assumption)))
   replace hb00 := bl_call hb00 (Nat.le_refl _) hbA
   replace hx := hx.call hbA
   clear hbA
   have hxl := hx.lt
   generalize hbT : w1.heap.size = bT at *
   generalize w1.alloc (.cells tbl 179) = w2 at hx hT hb00 ⊢
   have t0 := hT.cell 4 _ rfl
   have t1 := hT.cell 5 _ rfl
   have t2 := hT.cell 6 _ rfl
   have t3 := hT.cell 7 _ rfl
   have t4 := hT.lt
   clear hbT hT
   obtain ⟨⟨x0, x1, x2, x3, x4, x5⟩, ⟨x6, x7, x8, x9, x10, x11⟩, x12⟩ := hx.get6
   go_upto_region 7 with fail
   go_wp2_with (first
   | (go_at_call 98; refine (circuit_within _ _ _ _).mono ?_; rintro e wv ⟨rfl, rfl⟩)
   | (go_at_call 99; refine (HC.out _).mono ?_; rintro e wc ⟨rfl, hbc⟩))
   go_ret
   exact ⟨rfl, by repeat (first | exact bA | with_reducible assumption | apply bB | (refine bC ?_ (by dsimp only; omega)) | apply bD | apply bE | (refine bF ?_ (by assumption)))⟩
 | sum b =>
  have h0 : usedB (b : Int) 32 true = true := usedB_ok (by have := hy.1; omega) (by have := hy.2; omega)
  have h1 : usedB (0 : Int) 64 false = true := rfl
  have h2 : usedB (0 : Int) (0 : Int) false = true := rfl
  have h3 : usedB (0 : Int) 16 false = true := rfl
  rw [val_sum] at HC ⊢
  clear hy
  by_cases hc : 511 < (CK.sum b).calls
  ·rw [CK.code_no hc]
   generalize (CK.sum b).calls = q at *
   have hb00 : Below w.heap.size w w := Below.refl _ _
   go_enter Try.func60, Try.ntmps60
   go_upto_region 5 with (go_at_call 97; refine (field_ValidK hf _).mono ?_; rintro e wv ⟨rfl, rfl⟩)
   have hx := Vs.new w [.int .u8 2, .int .u8 f, .int .i64 b, .int .i64 0, .int .i64 0, .int .i64 0] #[.int .u8 2, .int .u8 f, .int .i64 b, .int .i64 0, .int .i64 0, .int .i64 0] 60 rfl
   have hbA : Below w.heap.size w (w.alloc (.cells #[.int .u8 2, .int .u8 f, .int .i64 b, .int .i64 0, .int .i64 0, .int .i64 0] 60)) := by repeat (first | exact bA | with_reducible assumption | apply bB)
   replace hb00 := bl_call hb00 (Nat.le_refl _) hbA
   clear hbA
   generalize w.alloc (.cells #[.int .u8 2, .int .u8 f, .int .i64 b, .int .i64 0, .int .i64 0, .int .i64 0] 60) = w1 at hb00 hx ⊢
   refine wp_region_lit ?_
   refine wpList_val (v := .agg #[.bool true, .bool false, .bool false, .bool false]) (w' := w1) rfl (by kernel_rfl) ?_
   refine wpList_val (v := .agg #[.bool true, .bool true, .bool false, .bool true]) (w' := w1) rfl (by kernel_rfl) ?_
   refine wpList_val (v := .agg #[.bool false, .bool true, .bool false, .bool true]) (w' := w1) rfl (by kernel_rfl) ?_
   refine wpList_val (v := .agg #[.bool false, .bool true, .bool true, .bool true]) (w' := w1) rfl (by kernel_rfl) ?_
   refine wpList_val (v := .agg tbl) (w' := w1) rfl (by kernel_rfl) ?_
   refine wpList_val (v := .pointer (some ⟨w1.heap.size, 0, none⟩)) (w' := w1.alloc (.cells tbl0 179)) rfl (by kernel_rfl) ?_
   refine wpList_skip (w' := w1.alloc (.cells tbl 179)) rfl (exec_store_new _ _ _ _ _ rfl _ _ _ (by kernel_rfl) (by kernel_rfl) (by kernel_rfl) rfl (by kernel_rfl)) ?_
   have hT := Vs.new w1 tbl.toList tbl 179 rfl
   have hbA : Below w1.heap.size w1 (w1.alloc (.cells tbl 179)) := by repeat (first | exact bA | with_reducible assumption | apply bB | (refine bC ?_ (by dsimp only; omega)) | apply bD | apply bE | (refine bF ?_ (by assumption)))
   replace hb00 := bl_call hb00 (Nat.le_refl _) hbA
   replace hx := hx.call hbA
   clear hbA
   have hxl := hx.lt
   generalize hbT : w1.heap.size = bT at *
   generalize w1.alloc (.cells tbl 179) = w2 at hx hT hb00 ⊢
   have t0 := hT.cell 8 _ rfl
   have t1 := hT.cell 9 _ rfl
   have t2 := hT.cell 10 _ rfl
   have t3 := hT.cell 11 _ rfl
   have t4 := hT.lt
   clear hbT hT
   obtain ⟨⟨x0, x1, x2, x3, x4, x5⟩, ⟨x6, x7, x8, x9, x10, x11⟩, x12⟩ := hx.get6
   go_upto_region 7 with fail
   go_wp2_with (first
   | (go_at_call 98; refine (circuit_within _ _ _ _).mono ?_; rintro e wv ⟨rfl, rfl⟩)
   | (go_at_call 99; refine (HC.out _).mono ?_; rintro e wc ⟨rfl, hbc⟩))
   go_ret
   exact ⟨rfl, by repeat (first | exact bA | with_reducible assumption | apply bB | (refine bC ?_ (by dsimp only; omega)) | apply bD | apply bE | (refine bF ?_ (by assumption)))⟩
  ·rw [CK.code_ok hc]
   generalize (CK.sum b).calls = q at *
   have hb00 : Below w.heap.size w w := Below.refl _ _
   go_enter Try.func60, Try.ntmps60
   go_upto_region 5 with (go_at_call 97; refine (field_ValidK hf _).mono ?_; rintro e wv ⟨rfl, rfl⟩)
   have hx := Vs.new w [.int .u8 2, .int .u8 f, .int .i64 b, .int .i64 0, .int .i64 0, .int .i64 0] #[.int .u8 2, .int .u8 f, .int .i64 b, .int .i64 0, .int .i64 0, .int .i64 0] 60 rfl
   have hbA : Below w.heap.size w (w.alloc (.cells #[.int .u8 2, .int .u8 f, .int .i64 b, .int .i64 0, .int .i64 0, .int .i64 0] 60)) := by repeat (first | exact bA | with_reducible assumption | apply bB)
   replace hb00 := bl_call hb00 (Nat.le_refl _) hbA
   clear hbA
   generalize w.alloc (.cells #[.int .u8 2, .int .u8 f, .int .i64 b, .int .i64 0, .int .i64 0, .int .i64 0] 60) = w1 at hb00 hx ⊢
   refine wp_region_lit ?_
   refine wpList_val (v := .agg #[.bool true, .bool false, .bool false, .bool false]) (w' := w1) rfl (by kernel_rfl) ?_
   refine wpList_val (v := .agg #[.bool true, .bool true, .bool false, .bool true]) (w' := w1) rfl (by kernel_rfl) ?_
   refine wpList_val (v := .agg #[.bool false, .bool true, .bool false, .bool true]) (w' := w1) rfl (by kernel_rfl) ?_
   refine wpList_val (v := .agg #[.bool false, .bool true, .bool true, .bool true]) (w' := w1) rfl (by kernel_rfl) ?_
   refine wpList_val (v := .agg tbl) (w' := w1) rfl (by kernel_rfl) ?_
   refine wpList_val (v := .pointer (some ⟨w1.heap.size, 0, none⟩)) (w' := w1.alloc (.cells tbl0 179)) rfl (by kernel_rfl) ?_
   refine wpList_skip (w' := w1.alloc (.cells tbl 179)) rfl (exec_store_new _ _ _ _ _ rfl _ _ _ (by kernel_rfl) (by kernel_rfl) (by kernel_rfl) rfl (by kernel_rfl)) ?_
   have hT := Vs.new w1 tbl.toList tbl 179 rfl
   have hbA : Below w1.heap.size w1 (w1.alloc (.cells tbl 179)) := by repeat (first | exact bA | with_reducible assumption | apply bB | (refine bC ?_ (by dsimp only; omega)) | apply bD | apply bE | (refine bF ?_ (by assumption)))
   replace hb00 := bl_call hb00 (Nat.le_refl _) hbA
   replace hx := hx.call hbA
   clear hbA
   have hxl := hx.lt
   generalize hbT : w1.heap.size = bT at *
   generalize w1.alloc (.cells tbl 179) = w2 at hx hT hb00 ⊢
   have t0 := hT.cell 8 _ rfl
   have t1 := hT.cell 9 _ rfl
   have t2 := hT.cell 10 _ rfl
   have t3 := hT.cell 11 _ rfl
   have t4 := hT.lt
   clear hbT hT
   obtain ⟨⟨x0, x1, x2, x3, x4, x5⟩, ⟨x6, x7, x8, x9, x10, x11⟩, x12⟩ := hx.get6
   go_upto_region 7 with fail
   go_wp2_with (first
   | (go_at_call 98; refine (circuit_within _ _ _ _).mono ?_; rintro e wv ⟨rfl, rfl⟩)
   | (go_at_call 99; refine (HC.out _).mono ?_; rintro e wc ⟨rfl, hbc⟩))
   go_ret
   exact ⟨rfl, by repeat (first | exact bA | with_reducible assumption | apply bB | (refine bC ?_ (by dsimp only; omega)) | apply bD | apply bE | (refine bF ?_ (by assumption)))⟩
 | vec b l c =>
  have h0 : usedB (b : Int) 32 true = true := usedB_ok (by have := hy.1.1; omega) (by have := hy.1.2; omega)
  have h1 : usedB (l : Int) 64 true = true := usedB_ok (by have := hy.2.1.1; omega) (by have := hy.2.1.2; omega)
  have h2 : usedB (0 : Int) (l : Int) false = true := rfl
  have h3 : usedB (c : Int) 16 true = true := usedB_ok (by have := hy.2.2.1; omega) (by have := hy.2.2.2; omega)
  rw [val_vec] at HC ⊢
  clear hy
  by_cases hc : 511 < (CK.vec b l c).calls
  ·rw [CK.code_no hc]
   generalize (CK.vec b l c).calls = q at *
   have hb00 : Below w.heap.size w w := Below.refl _ _
   go_enter Try.func60, Try.ntmps60
   go_upto_region 5 with (go_at_call 97; refine (field_ValidK hf _).mono ?_; rintro e wv ⟨rfl, rfl⟩)
   have hx := Vs.new w [.int .u8 3, .int .u8 f, .int .i64 b, .int .i64 l, .int .i64 0, .int .i64 c] #[.int .u8 3, .int .u8 f, .int .i64 b, .int .i64 l, .int .i64 0, .int .i64 c] 60 rfl
   have hbA : Below w.heap.size w (w.alloc (.cells #[.int .u8 3, .int .u8 f, .int .i64 b, .int .i64 l, .int .i64 0, .int .i64 c] 60)) := by repeat (first | exact bA | with_reducible assumption | apply bB)
   replace hb00 := bl_call hb00 (Nat.le_refl _) hbA
   clear hbA
   generalize w.alloc (.cells #[.int .u8 3, .int .u8 f, .int .i64 b, .int .i64 l, .int .i64 0, .int .i64 c] 60) = w1 at hb00 hx ⊢
   refine wp_region_lit ?_
   refine wpList_val (v := .agg #[.bool true, .bool false, .bool false, .bool false]) (w' := w1) rfl (by kernel_rfl) ?_
   refine wpList_val (v := .agg #[.bool true, .bool true, .bool false, .bool true]) (w' := w1) rfl (by kernel_rfl) ?_
   refine wpList_val (v := .agg #[.bool false, .bool true, .bool false, .bool true]) (w' := w1) rfl (by kernel_rfl) ?_
   refine wpList_val (v := .agg #[.bool false, .bool true, .bool true, .bool true]) (w' := w1) rfl (by kernel_rfl) ?_
   refine wpList_val (v := .agg tbl) (w' := w1) rfl (by kernel_rfl) ?_
   refine wpList_val (v := .pointer (some ⟨w1.heap.size, 0, none⟩)) (w' := w1.alloc (.cells tbl0 179)) rfl (by kernel_rfl) ?_
   refine wpList_skip (w' := w1.alloc (.cells tbl 179)) rfl (exec_store_new _ _ _ _ _ rfl _ _ _ (by kernel_rfl) (by kernel_rfl) (by kernel_rfl) rfl (by kernel_rfl)) ?_
   have hT := Vs.new w1 tbl.toList tbl 179 rfl
   have hbA : Below w1.heap.size w1 (w1.alloc (.cells tbl 179)) := by repeat (first | exact bA | with_reducible assumption | apply bB | (refine bC ?_ (by dsimp only; omega)) | apply bD | apply bE | (refine bF ?_ (by assumption)))
   replace hb00 := bl_call hb00 (Nat.le_refl _) hbA
   replace hx := hx.call hbA
   clear hbA
   have hxl := hx.lt
   generalize hbT : w1.heap.size = bT at *
   generalize w1.alloc (.cells tbl 179) = w2 at hx hT hb00 ⊢
   have t0 := hT.cell 12 _ rfl
   have t1 := hT.cell 13 _ rfl
   have t2 := hT.cell 14 _ rfl
   have t3 := hT.cell 15 _ rfl
   have t4 := hT.lt
   clear hbT hT
   obtain ⟨⟨x0, x1, x2, x3, x4, x5⟩, ⟨x6, x7, x8, x9, x10, x11⟩, x12⟩ := hx.get6
   go_upto_region 7 with fail
   go_wp2_with (first
   | (go_at_call 98; refine (circuit_within _ _ _ _).mono ?_; rintro e wv ⟨rfl, rfl⟩)
   | (go_at_call 99; refine (HC.out _).mono ?_; rintro e wc ⟨rfl, hbc⟩))
   go_ret
   exact ⟨rfl, by repeat (first | exact bA | with_reducible assumption | apply bB | (refine bC ?_ (by dsimp only; omega)) | apply bD | apply bE | (refine bF ?_ (by assumption)))⟩
  ·rw [CK.code_ok hc]
   generalize (CK.vec b l c).calls = q at *
   have hb00 : Below w.heap.size w w := Below.refl _ _
   go_enter Try.func60, Try.ntmps60
   go_upto_region 5 with (go_at_call 97; refine (field_ValidK hf _).mono ?_; rintro e wv ⟨rfl, rfl⟩)
   have hx := Vs.new w [.int .u8 3, .int .u8 f, .int .i64 b, .int .i64 l, .int .i64 0, .int .i64 c] #[.int .u8 3, .int .u8 f, .int .i64 b, .int .i64 l, .int .i64 0, .int .i64 c] 60 rfl
   have hbA : Below w.heap.size w (w.alloc (.cells #[.int .u8 3, .int .u8 f, .int .i64 b, .int .i64 l, .int .i64 0, .int .i64 c] 60)) := by repeat (first | exact bA | with_reducible assumption | apply bB)
   replace hb00 := bl_call hb00 (Nat.le_refl _) hbA
   clear hbA
   generalize w.alloc (.cells #[.int .u8 3, .int .u8 f, .int .i64 b, .int .i64 l, .int .i64 0, .int .i64 c] 60) = w1 at hb00 hx ⊢
   refine wp_region_lit ?_
   refine wpList_val (v := .agg #[.bool true, .bool false, .bool false, .bool false]) (w' := w1) rfl (by kernel_rfl) ?_
   refine wpList_val (v := .agg #[.bool true, .bool true, .bool false, .bool true]) (w' := w1) rfl (by kernel_rfl) ?_
   refine wpList_val (v := .agg #[.bool false, .bool true, .bool false, .bool true]) (w' := w1) rfl (by kernel_rfl) ?_
   refine wpList_val (v := .agg #[.bool false, .bool true, .bool true, .bool true]) (w' := w1) rfl (by kernel_rfl) ?_
   refine wpList_val (v := .agg tbl) (w' := w1) rfl (by kernel_rfl) ?_
   refine wpList_val (v := .pointer (some ⟨w1.heap.size, 0, none⟩)) (w' := w1.alloc (.cells tbl0 179)) rfl (by kernel_rfl) ?_
   refine wpList_skip (w' := w1.alloc (.cells tbl 179)) rfl (exec_store_new _ _ _ _ _ rfl _ _ _ (by kernel_rfl) (by kernel_rfl) (by kernel_rfl) rfl (by kernel_rfl)) ?_
   have hT := Vs.new w1 tbl.toList tbl 179 rfl
   have hbA : Below w1.heap.size w1 (w1.alloc (.cells tbl 179)) := by repeat (first | exact bA | with_reducible assumption | apply bB | (refine bC ?_ (by dsimp only; omega)) | apply bD | apply bE | (refine bF ?_ (by assumption)))
   replace hb00 := bl_call hb00 (Nat.le_refl _) hbA
   replace hx := hx.call hbA
   clear hbA
   have hxl := hx.lt
   generalize hbT : w1.heap.size = bT at *
   generalize w1.alloc (.cells tbl 179) = w2 at hx hT hb00 ⊢
   have t0 := hT.cell 12 _ rfl
   have t1 := hT.cell 13 _ rfl
   have t2 := hT.cell 14 _ rfl
   have t3 := hT.cell 15 _ rfl
   have t4 := hT.lt
   clear hbT hT
   obtain ⟨⟨x0, x1, x2, x3, x4, x5⟩, ⟨x6, x7, x8, x9, x10, x11⟩, x12⟩ := hx.get6
   go_upto_region 7 with fail
   go_wp2_with (first
   | (go_at_call 98; refine (circuit_within _ _ _ _).mono ?_; rintro e wv ⟨rfl, rfl⟩)
   | (go_at_call 99; refine (HC.out _).mono ?_; rintro e wc ⟨rfl, hbc⟩))
   go_ret
   exact ⟨rfl, by repeat (first | exact bA | with_reducible assumption | apply bB | (refine bC ?_ (by dsimp only; omega)) | apply bD | apply bE | (refine bF ?_ (by assumption)))⟩
 | hist l c =>
  have h0 : usedB (0 : Int) 32 false = true := rfl
  have h1 : usedB (l : Int) 64 true = true := usedB_ok (by have := hy.1.1; omega) (by have := hy.1.2; omega)
  have h2 : usedB (0 : Int) (l : Int) false = true := rfl
  have h3 : usedB (c : Int) 16 true = true := usedB_ok (by have := hy.2.1; omega) (by have := hy.2.2; omega)
  rw [val_hist] at HC ⊢
  clear hy
  by_cases hc : 511 < (CK.hist l c).calls
  ·rw [CK.code_no hc]
   generalize (CK.hist l c).calls = q at *
   have hb00 : Below w.heap.size w w := Below.refl _ _
   go_enter Try.func60, Try.ntmps60
   go_upto_region 5 with (go_at_call 97; refine (field_ValidK hf _).mono ?_; rintro e wv ⟨rfl, rfl⟩)
   have hx := Vs.new w [.int .u8 4, .int .u8 f, .int .i64 0, .int .i64 l, .int .i64 0, .int .i64 c] #[.int .u8 4, .int .u8 f, .int .i64 0, .int .i64 l, .int .i64 0, .int .i64 c] 60 rfl
   have hbA : Below w.heap.size w (w.alloc (.cells #[.int .u8 4, .int .u8 f, .int .i64 0, .int .i64 l, .int .i64 0, .int .i64 c] 60)) := by repeat (first | exact bA | with_reducible assumption | apply bB)
   replace hb00 := bl_call hb00 (Nat.le_refl _) hbA
   clear hbA
   generalize w.alloc (.cells #[.int .u8 4, .int .u8 f, .int .i64 0, .int .i64 l, .int .i64 0, .int .i64 c] 60) = w1 at hb00 hx ⊢
   refine wp_region_lit ?_
   refine wpList_val (v := .agg #[.bool true, .bool false, .bool false, .bool false]) (w' := w1) rfl (by kernel_rfl) ?_
   refine wpList_val (v := .agg #[.bool true, .bool true, .bool false, .bool true]) (w' := w1) rfl (by kernel_rfl) ?_
   refine wpList_val (v := .agg #[.bool false, .bool true, .bool false, .bool true]) (w' := w1) rfl (by kernel_rfl) ?_
   refine wpList_val (v := .agg #[.bool false, .bool true, .bool true, .bool true]) (w' := w1) rfl (by kernel_rfl) ?_
   refine wpList_val (v := .agg tbl) (w' := w1) rfl (by kernel_rfl) ?_
   refine wpList_val (v := .pointer (some ⟨w1.heap.size, 0, none⟩)) (w' := w1.alloc (.cells tbl0 179)) rfl (by kernel_rfl) ?_
   refine wpList_skip (w' := w1.alloc (.cells tbl 179)) rfl (exec_store_new _ _ _ _ _ rfl _ _ _ (by kernel_rfl) (by kernel_rfl) (by kernel_rfl) rfl (by kernel_rfl)) ?_
   have hT := Vs.new w1 tbl.toList tbl 179 rfl
   have hbA : Below w1.heap.size w1 (w1.alloc (.cells tbl 179)) := by repeat (first | exact bA | with_reducible assumption | apply bB | (refine bC ?_ (by dsimp only; omega)) | apply bD | apply bE | (refine bF ?_ (by assumption)))
   replace hb00 := bl_call hb00 (Nat.le_refl _) hbA
   replace hx := hx.call hbA
   clear hbA
   have hxl := hx.lt
   generalize hbT : w1.heap.size = bT at *
   generalize w1.alloc (.cells tbl 179) = w2 at hx hT hb00 ⊢
   have t0 := hT.cell 16 _ rfl
   have t1 := hT.cell 17 _ rfl
   have t2 := hT.cell 18 _ rfl
   have t3 := hT.cell 19 _ rfl
   have t4 := hT.lt
   clear hbT hT
   obtain ⟨⟨x0, x1, x2, x3, x4, x5⟩, ⟨x6, x7, x8, x9, x10, x11⟩, x12⟩ := hx.get6
   go_upto_region 7 with fail
   go_wp2_with (first
   | (go_at_call 98; refine (circuit_within _ _ _ _).mono ?_; rintro e wv ⟨rfl, rfl⟩)
   | (go_at_call 99; refine (HC.out _).mono ?_; rintro e wc ⟨rfl, hbc⟩))
   go_ret
   exact ⟨rfl, by repeat (first | exact bA | with_reducible assumption | apply bB | (refine bC ?_ (by dsimp only; omega)) | apply bD | apply bE | (refine bF ?_ (by assumption)))⟩
  ·rw [CK.code_ok hc]
   generalize (CK.hist l c).calls = q at *
   have hb00 : Below w.heap.size w w := Below.refl _ _
   go_enter Try.func60, Try.ntmps60
   go_upto_region 5 with (go_at_call 97; refine (field_ValidK hf _).mono ?_; rintro e wv ⟨rfl, rfl⟩)
   have hx := Vs.new w [.int .u8 4, .int .u8 f, .int .i64 0, .int .i64 l, .int .i64 0, .int .i64 c] #[.int .u8 4, .int .u8 f, .int .i64 0, .int .i64 l, .int .i64 0, .int .i64 c] 60 rfl
   have hbA : Below w.heap.size w (w.alloc (.cells #[.int .u8 4, .int .u8 f, .int .i64 0, .int .i64 l, .int .i64 0, .int .i64 c] 60)) := by repeat (first | exact bA | with_reducible assumption | apply bB)
   replace hb00 := bl_call hb00 (Nat.le_refl _) hbA
   clear hbA
   generalize w.alloc (.cells #[.int .u8 4, .int .u8 f, .int .i64 0, .int .i64 l, .int .i64 0, .int .i64 c] 60) = w1 at hb00 hx ⊢
   refine wp_region_lit ?_
   refine wpList_val (v := .agg #[.bool true, .bool false, .bool false, .bool false]) (w' := w1) rfl (by kernel_rfl) ?_
   refine wpList_val (v := .agg #[.bool true, .bool true, .bool false, .bool true]) (w' := w1) rfl (by kernel_rfl) ?_
   refine wpList_val (v := .agg #[.bool false, .bool true, .bool false, .bool true]) (w' := w1) rfl (by kernel_rfl) ?_
   refine wpList_val (v := .agg #[.bool false, .bool true, .bool true, .bool true]) (w' := w1) rfl (by kernel_rfl) ?_
   refine wpList_val (v := .agg tbl) (w' := w1) rfl (by kernel_rfl) ?_
   refine wpList_val (v := .pointer (some ⟨w1.heap.size, 0, none⟩)) (w' := w1.alloc (.cells tbl0 179)) rfl (by kernel_rfl) ?_
   refine wpList_skip (w' := w1.alloc (.cells tbl 179)) rfl (exec_store_new _ _ _ _ _ rfl _ _ _ (by kernel_rfl) (by kernel_rfl) (by kernel_rfl) rfl (by kernel_rfl)) ?_
   have hT := Vs.new w1 tbl.toList tbl 179 rfl
   have hbA : Below w1.heap.size w1 (w1.alloc (.cells tbl 179)) := by repeat (first | exact bA | with_reducible assumption | apply bB | (refine bC ?_ (by dsimp only; omega)) | apply bD | apply bE | (refine bF ?_ (by assumption)))
   replace hb00 := bl_call hb00 (Nat.le_refl _) hbA
   replace hx := hx.call hbA
   clear hbA
   have hxl := hx.lt
   generalize hbT : w1.heap.size = bT at *
   generalize w1.alloc (.cells tbl 179) = w2 at hx hT hb00 ⊢
   have t0 := hT.cell 16 _ rfl
   have t1 := hT.cell 17 _ rfl
   have t2 := hT.cell 18 _ rfl
   have t3 := hT.cell 19 _ rfl
   have t4 := hT.lt
   clear hbT hT
   obtain ⟨⟨x0, x1, x2, x3, x4, x5⟩, ⟨x6, x7, x8, x9, x10, x11⟩, x12⟩ := hx.get6
   go_upto_region 7 with fail
   go_wp2_with (first
   | (go_at_call 98; refine (circuit_within _ _ _ _).mono ?_; rintro e wv ⟨rfl, rfl⟩)
   | (go_at_call 99; refine (HC.out _).mono ?_; rintro e wc ⟨rfl, hbc⟩))
   go_ret
   exact ⟨rfl, by repeat (first | exact bA | with_reducible assumption | apply bB | (refine bC ?_ (by dsimp only; omega)) | apply bD | apply bE | (refine bF ?_ (by assumption)))⟩
 | multi l m c =>
  have h0 : usedB (0 : Int) 32 false = true := rfl
  have h1 : usedB (l : Int) 64 true = true := usedB_ok (by have := hy.1.1; omega) (by have := hy.1.2; omega)
  have h2 : usedB (m : Int) (l : Int) true = true := usedB_ok (by have := hy.2.1.1; omega) (by have := hy.2.1.2; omega)
  have h3 : usedB (c : Int) 16 true = true := usedB_ok (by have := hy.2.2.1; omega) (by have := hy.2.2.2; omega)
  rw [val_multi] at HC ⊢
  clear hy
  by_cases hc : 511 < (CK.multi l m c).calls
  ·rw [CK.code_no hc]
   generalize (CK.multi l m c).calls = q at *
   have hb00 : Below w.heap.size w w := Below.refl _ _
   go_enter Try.func60, Try.ntmps60
   go_upto_region 5 with (go_at_call 97; refine (field_ValidK hf _).mono ?_; rintro e wv ⟨rfl, rfl⟩)
   have hx := Vs.new w [.int .u8 5, .int .u8 f, .int .i64 0, .int .i64 l, .int .i64 m, .int .i64 c] #[.int .u8 5, .int .u8 f, .int .i64 0, .int .i64 l, .int .i64 m, .int .i64 c] 60 rfl
   have hbA : Below w.heap.size w (w.alloc (.cells #[.int .u8 5, .int .u8 f, .int .i64 0, .int .i64 l, .int .i64 m, .int .i64 c] 60)) := by repeat (first | exact bA | with_reducible assumption | apply bB)
   replace hb00 := bl_call hb00 (Nat.le_refl _) hbA
   clear hbA
   generalize w.alloc (.cells #[.int .u8 5, .int .u8 f, .int .i64 0, .int .i64 l, .int .i64 m, .int .i64 c] 60) = w1 at hb00 hx ⊢
   refine wp_region_lit ?_
   refine wpList_val (v := .agg #[.bool true, .bool false, .bool false, .bool false]) (w' := w1) rfl (by kernel_rfl) ?_
   refine wpList_val (v := .agg #[.bool true, .bool true, .bool false, .bool true]) (w' := w1) rfl (by kernel_rfl) ?_
   refine wpList_val (v := .agg #[.bool false, .bool true, .bool false, .bool true]) (w' := w1) rfl (by kernel_rfl) ?_
   refine wpList_val (v := .agg #[.bool false, .bool true, .bool true, .bool true]) (w' := w1) rfl (by kernel_rfl) ?_
   refine wpList_val (v := .agg tbl) (w' := w1) rfl (by kernel_rfl) ?_
   refine wpList_val (v := .pointer (some ⟨w1.heap.size, 0, none⟩)) (w' := w1.alloc (.cells tbl0 179)) rfl (by kernel_rfl) ?_
   refine wpList_skip (w' := w1.alloc (.cells tbl 179)) rfl (exec_store_new _ _ _ _ _ rfl _ _ _ (by kernel_rfl) (by kernel_rfl) (by kernel_rfl) rfl (by kernel_rfl)) ?_
   have hT := Vs.new w1 tbl.toList tbl 179 rfl
   have hbA : Below w1.heap.size w1 (w1.alloc (.cells tbl 179)) := by repeat (first | exact bA | with_reducible assumption | apply bB | (refine bC ?_ (by dsimp only; omega)) | apply bD | apply bE | (refine bF ?_ (by assumption)))
   replace hb00 := bl_call hb00 (Nat.le_refl _) hbA
   replace hx := hx.call hbA
   clear hbA
   have hxl := hx.lt
   generalize hbT : w1.heap.size = bT at *
   generalize w1.alloc (.cells tbl 179) = w2 at hx hT hb00 ⊢
   have t0 := hT.cell 20 _ rfl
   have t1 := hT.cell 21 _ rfl
   have t2 := hT.cell 22 _ rfl
   have t3 := hT.cell 23 _ rfl
   have t4 := hT.lt
   clear hbT hT
   obtain ⟨⟨x0, x1, x2, x3, x4, x5⟩, ⟨x6, x7, x8, x9, x10, x11⟩, x12⟩ := hx.get6
   go_upto_region 7 with fail
   go_wp2_with (first
   | (go_at_call 98; refine (circuit_within _ _ _ _).mono ?_; rintro e wv ⟨rfl, rfl⟩)
   | (go_at_call 99; refine (HC.out _).mono ?_; rintro e wc ⟨rfl, hbc⟩))
   go_ret
   exact ⟨rfl, by repeat (first | exact bA | with_reducible assumption | apply bB | (refine bC ?_ (by dsimp only; omega)) | apply bD | apply bE | (refine bF ?_ (by assumption)))⟩
  ·rw [CK.code_ok hc]
   generalize (CK.multi l m c).calls = q at *
   have hb00 : Below w.heap.size w w := Below.refl _ _
   go_enter Try.func60, Try.ntmps60
   go_upto_region 5 with (go_at_call 97; refine (field_ValidK hf _).mono ?_; rintro e wv ⟨rfl, rfl⟩)
   have hx := Vs.new w [.int .u8 5, .int .u8 f, .int .i64 0, .int .i64 l, .int .i64 m, .int .i64 c] #[.int .u8 5, .int .u8 f, .int .i64 0, .int .i64 l, .int .i64 m, .int .i64 c] 60 rfl
   have hbA : Below w.heap.size w (w.alloc (.cells #[.int .u8 5, .int .u8 f, .int .i64 0, .int .i64 l, .int .i64 m, .int .i64 c] 60)) := by repeat (first | exact bA | with_reducible assumption | apply bB)
   replace hb00 := bl_call hb00 (Nat.le_refl _) hbA
   clear hbA
   generalize w.alloc (.cells #[.int .u8 5, .int .u8 f, .int .i64 0, .int .i64 l, .int .i64 m, .int .i64 c] 60) = w1 at hb00 hx ⊢
   refine wp_region_lit ?_
   refine wpList_val (v := .agg #[.bool true, .bool false, .bool false, .bool false]) (w' := w1) rfl (by kernel_rfl) ?_
   refine wpList_val (v := .agg #[.bool true, .bool true, .bool false, .bool true]) (w' := w1) rfl (by kernel_rfl) ?_
   refine wpList_val (v := .agg #[.bool false, .bool true, .bool false, .bool true]) (w' := w1) rfl (by kernel_rfl) ?_
   refine wpList_val (v := .agg #[.bool false, .bool true, .bool true, .bool true]) (w' := w1) rfl (by kernel_rfl) ?_
   refine wpList_val (v := .agg tbl) (w' := w1) rfl (by kernel_rfl) ?_
   refine wpList_val (v := .pointer (some ⟨w1.heap.size, 0, none⟩)) (w' := w1.alloc (.cells tbl0 179)) rfl (by kernel_rfl) ?_
   refine wpList_skip (w' := w1.alloc (.cells tbl 179)) rfl (exec_store_new _ _ _ _ _ rfl _ _ _ (by kernel_rfl) (by kernel_rfl) (by kernel_rfl) rfl (by kernel_rfl)) ?_
   have hT := Vs.new w1 tbl.toList tbl 179 rfl
   have hbA : Below w1.heap.size w1 (w1.alloc (.cells tbl 179)) := by repeat (first | exact bA | with_reducible assumption | apply bB | (refine bC ?_ (by dsimp only; omega)) | apply bD | apply bE | (refine bF ?_ (by assumption)))
   replace hb00 := bl_call hb00 (Nat.le_refl _) hbA
   replace hx := hx.call hbA
   clear hbA
   have hxl := hx.lt
   generalize hbT : w1.heap.size = bT at *
   generalize w1.alloc (.cells tbl 179) = w2 at hx hT hb00 ⊢
   have t0 := hT.cell 20 _ rfl
   have t1 := hT.cell 21 _ rfl
   have t2 := hT.cell 22 _ rfl
   have t3 := hT.cell 23 _ rfl
   have t4 := hT.lt
   clear hbT hT
   obtain ⟨⟨x0, x1, x2, x3, x4, x5⟩, ⟨x6, x7, x8, x9, x10, x11⟩, x12⟩ := hx.get6
   go_upto_region 7 with fail
   go_wp2_with (first
   | (go_at_call 98; refine (circuit_within _ _ _ _).mono ?_; rintro e wv ⟨rfl, rfl⟩)
   | (go_at_call 99; refine (HC.out _).mono ?_; rintro e wc ⟨rfl, hbc⟩))
   go_ret
   exact ⟨rfl, by repeat (first | exact bA | with_reducible assumption | apply bB | (refine bC ?_ (by dsimp only; omega)) | apply bD | apply bE | (refine bF ?_ (by assumption)))⟩

end Go.Proofs.Ytbakkmfjamcbfaa
