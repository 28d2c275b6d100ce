/-
 RegZ, TaskA, TaA, TaC, RwA, Exc, TaM, TaO: for TotalErrors.
-/
import Derived.BigQuiet
import Derived.Laws.Bits64b
import Derived.ChangeKeysEq
import Derived.IntWalk
import Derived.Test.YtbakkmfjamcbfaaKat
import Derived.Test.YtbakkmfjamcbfaaOab
namespace Go.Proofs.Ytbakkmfjamcbfaa
open Go Go.RowKit
set_option linter.unusedVariables false

section
variable {P : Program} {ops : Array Oper} {Q : Exit → Act → World → Prop} {md : Region.Mode} {n m : Nat} {L : Act → World → Prop} {f : Nat} {listed : Array Bool} {a : Act} {T S : World → Prop}
variable {L' : Act → World → Prop}
theorem region_Z3 {id n m f : Nat} {l : List Oper} {a : Act} {w : World} {α β γ : Type} (R : α → β → γ → World → Prop) (T S : World → Prop) (hST : ∀ w, S w → T w) (hC : Clo S) (hS : S w.drew) {E : α → β → γ → Act} (hm : P.follows .mixedOrders = true) (hB : partsB .any l.toArray n m (Array.replicate l.length false) = true) (hf : f + (m - n) = l.length)
  (h : WpX P .any l.toArray Q n m (fun a w => ∃ x y z, a = E x y z ∧ R x y z w) f (Array.replicate l.length false) a T S)
  (hc : ∀ x y z w', R x y z w' → wpList P l.toArray Q ((l.drop n).take (m - n)) (E x y z) w') : (Code.region id l.toArray true).wp P Q a w :=
 region_X T S hST hC hS hm hB hf (h.monoZ fun _ w ⟨x, y, z, e, hr⟩ => e ▸ hc x y z w hr)
end

end Go.Proofs.Ytbakkmfjamcbfaa

namespace Go.Proofs.Ytbakkmfjamcbfaa
open Go.RowKit Fm
set_option linter.unusedVariables false
set_option maxRecDepth 100000

theorem raw_checkA (x : Raw) : ∃ n : Int, (n = 0 ∨ n = 5 ∨ n = 6 ∨ n = 7 ∨ n = 10) ∧ (∀ w, Calls Try.prog 60 #[x.val] w (RetC n w)) := by
 obtain ⟨k, f, b, l, m, c⟩ := x
 by_cases hf : (f == 1 || f == 2) = true
 ·obtain ⟨F, hF, rfl⟩ : ∃ F : Nat, IsF F ∧ f = (F : Int) := by
   rw [Bool.or_eq_true, beq_iff_eq, beq_iff_eq] at hf
   rcases hf with rfl | rfl
   ·exact ⟨1, isF1, rfl⟩
   ·exact ⟨2, isF2, rfl⟩
  by_cases hk : 1 ≤ k ∧ k ≤ 5
  ·cases hr : rangeB k b l m c
   ·exact ⟨6, by omega, fun w => circuit_Check_range hF k b l m c hk hr w⟩
   ·obtain ⟨y, hy, rfl, rfl, rfl, rfl, rfl⟩ := cir_range hk hr
    by_cases hc : 511 < y.calls
    ·refine ⟨5, by omega, fun w => ?_⟩
     have h := circuit_Check_ok hF y hy w
     rwa [CK.code_no hc] at h
    ·refine ⟨0, by omega, fun w => ?_⟩
     have h := circuit_Check_ok hF y hy w
     rwa [CK.code_ok hc] at h
  ·exact ⟨10, by omega, fun w => circuit_Check_kind hF k b l m c (by omega) w⟩
 ·have hf' : (f == 1 || f == 2) = false := by simpa using hf
  exact ⟨7, by omega, fun w => circuit_Check_field k f b l m c hf' w⟩

theorem task_CheckA (t : RawT) : ∃ n : Int, ∀ w, Calls Try.prog 43 #[t.val] w (RetC n w) := by
 obtain ⟨n, _, hc⟩ := raw_checkA t.c
 exact ⟨_, fun w => task_Check_of t n hc w⟩

end Go.Proofs.Ytbakkmfjamcbfaa

namespace Go.Proofs.Ytbakkmfjamcbfaa
open Go.RowKit Fm
set_option linter.unusedVariables false
set_option maxRecDepth 100000

/-! ### 'exclusive or' of bytes -/
/-! ### loads and stores of many cells at once -/
/-! ### a total's eighteen cells -/
section
variable {w : World} {b : Nat} {k : List Int} {v : Value} {m : Int}
end

theorem build_total0 (w : World) :
  (Instr.build 76 #[]).run Try.prog w = .ok (.agg (totL (.slice none 0 0) 0 z16).toArray) w := by kernel_rfl

/-! ### '==' of sixteen bytes -/
end Go.Proofs.Ytbakkmfjamcbfaa

namespace Go.Proofs.Ytbakkmfjamcbfaa
open Go.RowKit Fm
set_option linter.unusedVariables false
set_option maxRecDepth 100000

def RetT0 (c : Int) (w : World) (e : Ending) (w' : World) : Prop :=
 e = .returned (.tuple #[.agg (totL (.slice none 0 0) 0 z16).toArray, .int .i64 c]) ∧ Below w.heap.size w w'

theorem total_New0 (t : RawT) (n : Int) (hn : n ≠ 0) (HC : ∀ wz, Calls Try.prog 43 #[t.val] wz (RetC n wz)) (w : World) :
  Calls Try.prog 31 #[t.val] w fun e w' => e = .returned (.agg (totL (.slice none 0 0) 0 z16).toArray) ∧ Below w.heap.size w w' := by
 have HC := Lib.hid HC
 obtain ⟨⟨k, f, b, l, m, c⟩, p, s⟩ := t
 unfold RawT.val at HC ⊢
 dsimp only at HC ⊢
 have hn1 : (n == 0) = false := by simpa using hn
 have hn2 : (n != 0) = true := by simpa using hn
 clear hn
 go_enter Try.func31, Try.ntmps31
 go_upto_region 1 with fail
 have hx := (Vs.new w [.int .u8 k, .int .u8 f, .int .i64 b, .int .i64 l, .int .i64 m, .int .i64 c, .int .i64 p, .string s] #[.int .u8 k, .int .u8 f, .int .i64 b, .int .i64 l, .int .i64 m, .int .i64 c, .int .i64 p, .string s] 62 rfl).alloc (.cells #[.slice none 0 0, .int .i64 0, .int .u8 0, .int .u8 0, .int .u8 0, .int .u8 0, .int .u8 0, .int .u8 0, .int .u8 0, .int .u8 0, .int .u8 0, .int .u8 0, .int .u8 0, .int .u8 0, .int .u8 0, .int .u8 0, .int .u8 0, .int .u8 0] 76)
 have hr := Vs.new (w.alloc (.cells #[.int .u8 k, .int .u8 f, .int .i64 b, .int .i64 l, .int .i64 m, .int .i64 c, .int .i64 p, .string s] 62)) (totL (.slice none 0 0) 0 z16) (#[.slice none 0 0, .int .i64 0, .int .u8 0, .int .u8 0, .int .u8 0, .int .u8 0, .int .u8 0, .int .u8 0, .int .u8 0, .int .u8 0, .int .u8 0, .int .u8 0, .int .u8 0, .int .u8 0, .int .u8 0, .int .u8 0, .int .u8 0, .int .u8 0]) 76 rfl
 simp only [World.size_alloc] at hr
 have hb00 : Below w.heap.size w ((w.alloc (.cells #[.int .u8 k, .int .u8 f, .int .i64 b, .int .i64 l, .int .i64 m, .int .i64 c, .int .i64 p, .string s] 62)).alloc (.cells #[.slice none 0 0, .int .i64 0, .int .u8 0, .int .u8 0, .int .u8 0, .int .u8 0, .int .u8 0, .int .u8 0, .int .u8 0, .int .u8 0, .int .u8 0, .int .u8 0, .int .u8 0, .int .u8 0, .int .u8 0, .int .u8 0, .int .u8 0, .int .u8 0] 76)) := by repeat (first | exact bA | with_reducible assumption | apply bB)
 have hszn : w.heap.size + 2 ≤ ((w.alloc (.cells #[.int .u8 k, .int .u8 f, .int .i64 b, .int .i64 l, .int .i64 m, .int .i64 c, .int .i64 p, .string s] 62)).alloc (.cells #[.slice none 0 0, .int .i64 0, .int .u8 0, .int .u8 0, .int .u8 0, .int .u8 0, .int .u8 0, .int .u8 0, .int .u8 0, .int .u8 0, .int .u8 0, .int .u8 0, .int .u8 0, .int .u8 0, .int .u8 0, .int .u8 0, .int .u8 0, .int .u8 0] 76)).heap.size := by simp only [World.size_alloc]; omega
 generalize ((w.alloc (.cells #[.int .u8 k, .int .u8 f, .int .i64 b, .int .i64 l, .int .i64 m, .int .i64 c, .int .i64 p, .string s] 62)).alloc (.cells #[.slice none 0 0, .int .i64 0, .int .u8 0, .int .u8 0, .int .u8 0, .int .u8 0, .int .u8 0, .int .u8 0, .int .u8 0, .int .u8 0, .int .u8 0, .int .u8 0, .int .u8 0, .int .u8 0, .int .u8 0, .int .u8 0, .int .u8 0, .int .u8 0] 76)) = w1 at hx hr hb00 hszn ⊢
 obtain ⟨⟨x0, x1, x2, x3, x4, x5, x6, x7⟩, ⟨x8, x9, x10, x11, x12, x13, x14, x15⟩, x16⟩ := hx.get8
 go_upto_region 2 with (first
  | (go_at_call 43; refine (HC.out _).mono ?_; rintro e w2 ⟨rfl, hb2⟩; replace hb00 := bl_call hb00 (Nat.le_refl _) hb2; replace hx := hx.call hb2; replace hr := hr.call hb2; clear x0 x1 x2 x3 x4 x5 x6 x7 x8 x9 x10 x11 x12 x13 x14 x15 x16; clear hb2; obtain ⟨⟨x0, x1, x2, x3, x4, x5, x6, x7⟩, ⟨x8, x9, x10, x11, x12, x13, x14, x15⟩, x16⟩ := hx.get8))
 have hst := hr.storeT (k := z16) (v := .slice none 0 0) (m := 0) z16_length z16_length rfl
 have HR := Lib.hid (hr.setT (k := z16) (v := .slice none 0 0) (m := 0) z16_length z16_length)
 have HB := Lib.hid (bl_setCells hb00 (b := w.heap.size + 1) (by omega) 0 (totL (.slice none 0 0) 0 z16))
 clear hr hb00
 refine wp_region_lit ?_
 refine wpList_valD (some 6) rfl rfl (exec_build rfl (by kernel_rfl) (build_total0 _)) ?_
 simp only [Zp, Zq, Zr, Zs]
 refine wpList_skipD rfl rfl (exec_store rfl (by kernel_rfl) (by kernel_rfl) hst) ?_
 go_upto_region 99 with fail
 exact bodyPost_ret (results_total (b := w.heap.size + 1) HR.out z16_length rfl rfl) rfl ⟨rfl, HB.out⟩

end Go.Proofs.Ytbakkmfjamcbfaa

namespace Go.Proofs.Ytbakkmfjamcbfaa
open Go.RowKit Fm
set_option linter.unusedVariables false
set_option maxRecDepth 100000

section
variable {f : Nat}

theorem RwK.drew {w : World} {g : Nat} {l : KL f} (h : RwK w g l) : RwK w.drew g l := Vs.drew h
end

end Go.Proofs.Ytbakkmfjamcbfaa

namespace Go.Proofs.Ytbakkmfjamcbfaa
open Go.RowKit Fm
set_option linter.unusedVariables false
set_option maxRecDepth 100000

/-! ### what is known of worlds within a region in which the gadget is asked -/
section
variable {D D1 : Nat → Prop} {w0 w w' : World} {I : (Nat → Prop) → World → Prop}
end

theorem Rd.from {D : Nat → Prop} {w0 w w' : World} {I : (Nat → Prop) → World → Prop} (h : Rd D w I w') (k : Exc D w0.heap.size w0 w) : Rd D w0 I w' := ⟨k.more h.1 fun _ hq => .inl hq, by
 obtain ⟨D', h1, h2⟩ := h.2
 exact ⟨D', h1, fun q hq => (h2 q hq).imp_right fun h3 => Nat.le_trans k.size h3⟩⟩
end Go.Proofs.Ytbakkmfjamcbfaa

namespace Go.Proofs.Ytbakkmfjamcbfaa
open Go.RowKit Fm
set_option linter.unusedVariables false
set_option maxRecDepth 100000

def RetTA (a : Int) (w : World) (e : Ending) (w' : World) : Prop :=
 ∃ (u : Value) (m : Int) (k : List Int), e = .returned (.tuple #[.agg (totL u m k).toArray, .int .i64 a]) ∧ u.oneCell' = true ∧ k.length = 16 ∧ Below w.heap.size w w'
theorem RetTE.any {f : Nat} {n : Nat} {m : Int} {k : List Int} {zs : KL f} {w w' : World} {e : Ending} (hk : k.length = 16) (h : RetTE n m k zs w e w') : RetTA 0 w e w' := by
 obtain ⟨g, he, _, _, hb⟩ := h
 exact ⟨_, m, k, he, rfl, hk, hb⟩
theorem RetT0.any {c : Int} {w w' : World} {e : Ending} (h : RetT0 c w e w') : RetTA c w e w' := ⟨_, 0, z16, h.1, rfl, z16_length, h.2⟩


set_option maxHeartbeats 4000000 in
theorem total_Add0 (t : RawT) (n : Int) (hn : n ≠ 0) (HC : ∀ wz, Calls Try.prog 43 #[t.val] wz (RetC n wz)) (vx vo : Value) (M : Int) (K id : List Int) (w : World) :
  Calls Try.prog 37 #[.agg (totL vx M K).toArray, t.val, .agg (cells8 id).toArray, vo] w (RetT0 n w) := by
 have HC := Lib.hid HC
 obtain ⟨⟨k, f, b, l, m, c⟩, p, s⟩ := t
 unfold RawT.val at HC ⊢
 dsimp only at HC ⊢
 have hn1 : (n == 0) = false := by simpa using hn
 have hn2 : (n != 0) = true := by simpa using hn
 clear hn
 go_enter Try.func37, Try.ntmps37
 go_upto_region 1 with fail
 have hX := (((Vs.new w (totL vx M K) ((totL vx M K).toArray) 76 rfl).alloc (.cells #[.int .u8 k, .int .u8 f, .int .i64 b, .int .i64 l, .int .i64 m, .int .i64 c, .int .i64 p, .string s] 62)).alloc (.cells (cells8 id).toArray 34)).alloc (.cells #[.slice none 0 0, .int .i64 0, .int .u8 0, .int .u8 0, .int .u8 0, .int .u8 0, .int .u8 0, .int .u8 0, .int .u8 0, .int .u8 0, .int .u8 0, .int .u8 0, .int .u8 0, .int .u8 0, .int .u8 0, .int .u8 0, .int .u8 0, .int .u8 0] 76)
 have hT := ((Vs.new (w.alloc (.cells (totL vx M K).toArray 76)) [.int .u8 k, .int .u8 f, .int .i64 b, .int .i64 l, .int .i64 m, .int .i64 c, .int .i64 p, .string s] #[.int .u8 k, .int .u8 f, .int .i64 b, .int .i64 l, .int .i64 m, .int .i64 c, .int .i64 p, .string s] 62 rfl).alloc (.cells (cells8 id).toArray 34)).alloc (.cells #[.slice none 0 0, .int .i64 0, .int .u8 0, .int .u8 0, .int .u8 0, .int .u8 0, .int .u8 0, .int .u8 0, .int .u8 0, .int .u8 0, .int .u8 0, .int .u8 0, .int .u8 0, .int .u8 0, .int .u8 0, .int .u8 0, .int .u8 0, .int .u8 0] 76)
 have hI := (Vs.new ((w.alloc (.cells (totL vx M K).toArray 76)).alloc (.cells #[.int .u8 k, .int .u8 f, .int .i64 b, .int .i64 l, .int .i64 m, .int .i64 c, .int .i64 p, .string s] 62)) (cells8 id) ((cells8 id).toArray) 34 rfl).alloc (.cells #[.slice none 0 0, .int .i64 0, .int .u8 0, .int .u8 0, .int .u8 0, .int .u8 0, .int .u8 0, .int .u8 0, .int .u8 0, .int .u8 0, .int .u8 0, .int .u8 0, .int .u8 0, .int .u8 0, .int .u8 0, .int .u8 0, .int .u8 0, .int .u8 0] 76)
 have hr := Vs.new (((w.alloc (.cells (totL vx M K).toArray 76)).alloc (.cells #[.int .u8 k, .int .u8 f, .int .i64 b, .int .i64 l, .int .i64 m, .int .i64 c, .int .i64 p, .string s] 62)).alloc (.cells (cells8 id).toArray 34)) (totL (.slice none 0 0) 0 z16) (#[.slice none 0 0, .int .i64 0, .int .u8 0, .int .u8 0, .int .u8 0, .int .u8 0, .int .u8 0, .int .u8 0, .int .u8 0, .int .u8 0, .int .u8 0, .int .u8 0, .int .u8 0, .int .u8 0, .int .u8 0, .int .u8 0, .int .u8 0, .int .u8 0]) 76 rfl
 simp only [World.size_alloc] at hT hI hr
 have hb00 : Below w.heap.size w ((((w.alloc (.cells (totL vx M K).toArray 76)).alloc (.cells #[.int .u8 k, .int .u8 f, .int .i64 b, .int .i64 l, .int .i64 m, .int .i64 c, .int .i64 p, .string s] 62)).alloc (.cells (cells8 id).toArray 34)).alloc (.cells #[.slice none 0 0, .int .i64 0, .int .u8 0, .int .u8 0, .int .u8 0, .int .u8 0, .int .u8 0, .int .u8 0, .int .u8 0, .int .u8 0, .int .u8 0, .int .u8 0, .int .u8 0, .int .u8 0, .int .u8 0, .int .u8 0, .int .u8 0, .int .u8 0] 76)) := by repeat (first | exact bA | with_reducible assumption | apply bB)
 have hszn : w.heap.size + 4 ≤ ((((w.alloc (.cells (totL vx M K).toArray 76)).alloc (.cells #[.int .u8 k, .int .u8 f, .int .i64 b, .int .i64 l, .int .i64 m, .int .i64 c, .int .i64 p, .string s] 62)).alloc (.cells (cells8 id).toArray 34)).alloc (.cells #[.slice none 0 0, .int .i64 0, .int .u8 0, .int .u8 0, .int .u8 0, .int .u8 0, .int .u8 0, .int .u8 0, .int .u8 0, .int .u8 0, .int .u8 0, .int .u8 0, .int .u8 0, .int .u8 0, .int .u8 0, .int .u8 0, .int .u8 0, .int .u8 0] 76)).heap.size := by simp only [World.size_alloc]; omega
 generalize ((((w.alloc (.cells (totL vx M K).toArray 76)).alloc (.cells #[.int .u8 k, .int .u8 f, .int .i64 b, .int .i64 l, .int .i64 m, .int .i64 c, .int .i64 p, .string s] 62)).alloc (.cells (cells8 id).toArray 34)).alloc (.cells #[.slice none 0 0, .int .i64 0, .int .u8 0, .int .u8 0, .int .u8 0, .int .u8 0, .int .u8 0, .int .u8 0, .int .u8 0, .int .u8 0, .int .u8 0, .int .u8 0, .int .u8 0, .int .u8 0, .int .u8 0, .int .u8 0, .int .u8 0, .int .u8 0] 76)) = w1 at hX hT hI hr hb00 hszn ⊢
 obtain ⟨⟨T0, T1, T2, T3, T4, T5, T6, T7⟩, ⟨T8, T9, T10, T11, T12, T13, T14, T15⟩, T16⟩ := hT.get8
 go_upto_region 3 with (first
  | (go_at_call 43; refine (HC.out _).mono ?_; rintro e w2 ⟨rfl, hb2⟩; replace hb00 := bl_call hb00 (Nat.le_refl _) hb2; replace hT := hT.call hb2; replace hr := hr.call hb2; clear T0 T1 T2 T3 T4 T5 T6 T7 T8 T9 T10 T11 T12 T13 T14 T15 T16; clear hb2; obtain ⟨⟨T0, T1, T2, T3, T4, T5, T6, T7⟩, ⟨T8, T9, T10, T11, T12, T13, T14, T15⟩, T16⟩ := hT.get8))
 have hst := hr.storeT (k := z16) (v := .slice none 0 0) (m := 0) z16_length z16_length rfl
 have HR := Lib.hid (hr.setT (k := z16) (v := .slice none 0 0) (m := 0) z16_length z16_length)
 have HB := Lib.hid (bl_setCells hb00 (b := w.heap.size + 1 + 1 + 1) (by omega) 0 (totL (.slice none 0 0) 0 z16))
 clear hr hb00
 go_upto_region 3 with fail
 refine wp_region_lit ?_
 refine wpList_valD (some 17) rfl rfl (exec_build rfl (by kernel_rfl) (build_total0 _)) ?_
 simp only [Zp, Zq, Zr, Zs]
 refine wpList_valD (some 18) rfl rfl (by (go_simp; first | with_reducible rfl | exact ⟨rfl, rfl⟩ | (trace_state; fail))) ?_
 simp only [Zp, Zq, Zr, Zs]
 refine wpList_skipD rfl rfl (exec_store rfl (by kernel_rfl) (by kernel_rfl) hst) ?_
 refine wpList_valD (some 9) rfl rfl (by (go_simp; first | with_reducible rfl | exact ⟨rfl, rfl⟩ | (trace_state; fail))) ?_
 simp only [Zp, Zq, Zr, Zs]
 go_upto_region 99 with fail
 exact bodyPost_ret (results_totalE (b := w.heap.size + 1 + 1 + 1) HR.out z16_length rfl rfl) rfl ⟨rfl, HB.out⟩

set_option maxHeartbeats 4000000 in
theorem total_AddFull (k f b l m c p : Int) (s : ByteArray) (HC : ∀ wz, Calls Try.prog 43 #[.agg #[.int .u8 k, .int .u8 f, .int .i64 b, .int .i64 l, .int .i64 m, .int .i64 c, .int .i64 p, .string s]] wz (RetC 0 wz))
  (vx vo : Value) (M : Int) (hM : M < 0 ∨ 256 ≤ M) (K id : List Int) (w : World) :
  Calls Try.prog 37 #[.agg (totL vx M K).toArray, .agg #[.int .u8 k, .int .u8 f, .int .i64 b, .int .i64 l, .int .i64 m, .int .i64 c, .int .i64 p, .string s], .agg (cells8 id).toArray, vo] w (RetT0 18 w) := by
 have HC := Lib.hid HC
 by_cases h1 : M < 0
 ·have hM1 : decide (M < 0) = true := by simpa using h1
  clear h1 hM
  go_enter Try.func37, Try.ntmps37
  go_upto_region 1 with fail
  have hX := (((Vs.new w (totL vx M K) ((totL vx M K).toArray) 76 rfl).alloc (.cells #[.int .u8 k, .int .u8 f, .int .i64 b, .int .i64 l, .int .i64 m, .int .i64 c, .int .i64 p, .string s] 62)).alloc (.cells (cells8 id).toArray 34)).alloc (.cells #[.slice none 0 0, .int .i64 0, .int .u8 0, .int .u8 0, .int .u8 0, .int .u8 0, .int .u8 0, .int .u8 0, .int .u8 0, .int .u8 0, .int .u8 0, .int .u8 0, .int .u8 0, .int .u8 0, .int .u8 0, .int .u8 0, .int .u8 0, .int .u8 0] 76)
  have hT := ((Vs.new (w.alloc (.cells (totL vx M K).toArray 76)) [.int .u8 k, .int .u8 f, .int .i64 b, .int .i64 l, .int .i64 m, .int .i64 c, .int .i64 p, .string s] #[.int .u8 k, .int .u8 f, .int .i64 b, .int .i64 l, .int .i64 m, .int .i64 c, .int .i64 p, .string s] 62 rfl).alloc (.cells (cells8 id).toArray 34)).alloc (.cells #[.slice none 0 0, .int .i64 0, .int .u8 0, .int .u8 0, .int .u8 0, .int .u8 0, .int .u8 0, .int .u8 0, .int .u8 0, .int .u8 0, .int .u8 0, .int .u8 0, .int .u8 0, .int .u8 0, .int .u8 0, .int .u8 0, .int .u8 0, .int .u8 0] 76)
  have hI := (Vs.new ((w.alloc (.cells (totL vx M K).toArray 76)).alloc (.cells #[.int .u8 k, .int .u8 f, .int .i64 b, .int .i64 l, .int .i64 m, .int .i64 c, .int .i64 p, .string s] 62)) (cells8 id) ((cells8 id).toArray) 34 rfl).alloc (.cells #[.slice none 0 0, .int .i64 0, .int .u8 0, .int .u8 0, .int .u8 0, .int .u8 0, .int .u8 0, .int .u8 0, .int .u8 0, .int .u8 0, .int .u8 0, .int .u8 0, .int .u8 0, .int .u8 0, .int .u8 0, .int .u8 0, .int .u8 0, .int .u8 0] 76)
  have hr := Vs.new (((w.alloc (.cells (totL vx M K).toArray 76)).alloc (.cells #[.int .u8 k, .int .u8 f, .int .i64 b, .int .i64 l, .int .i64 m, .int .i64 c, .int .i64 p, .string s] 62)).alloc (.cells (cells8 id).toArray 34)) (totL (.slice none 0 0) 0 z16) (#[.slice none 0 0, .int .i64 0, .int .u8 0, .int .u8 0, .int .u8 0, .int .u8 0, .int .u8 0, .int .u8 0, .int .u8 0, .int .u8 0, .int .u8 0, .int .u8 0, .int .u8 0, .int .u8 0, .int .u8 0, .int .u8 0, .int .u8 0, .int .u8 0]) 76 rfl
  simp only [World.size_alloc] at hT hI hr
  have hb00 : Below w.heap.size w ((((w.alloc (.cells (totL vx M K).toArray 76)).alloc (.cells #[.int .u8 k, .int .u8 f, .int .i64 b, .int .i64 l, .int .i64 m, .int .i64 c, .int .i64 p, .string s] 62)).alloc (.cells (cells8 id).toArray 34)).alloc (.cells #[.slice none 0 0, .int .i64 0, .int .u8 0, .int .u8 0, .int .u8 0, .int .u8 0, .int .u8 0, .int .u8 0, .int .u8 0, .int .u8 0, .int .u8 0, .int .u8 0, .int .u8 0, .int .u8 0, .int .u8 0, .int .u8 0, .int .u8 0, .int .u8 0] 76)) := by repeat (first | exact bA | with_reducible assumption | apply bB)
  have hszn : w.heap.size + 4 ≤ ((((w.alloc (.cells (totL vx M K).toArray 76)).alloc (.cells #[.int .u8 k, .int .u8 f, .int .i64 b, .int .i64 l, .int .i64 m, .int .i64 c, .int .i64 p, .string s] 62)).alloc (.cells (cells8 id).toArray 34)).alloc (.cells #[.slice none 0 0, .int .i64 0, .int .u8 0, .int .u8 0, .int .u8 0, .int .u8 0, .int .u8 0, .int .u8 0, .int .u8 0, .int .u8 0, .int .u8 0, .int .u8 0, .int .u8 0, .int .u8 0, .int .u8 0, .int .u8 0, .int .u8 0, .int .u8 0] 76)).heap.size := by simp only [World.size_alloc]; omega
  generalize ((((w.alloc (.cells (totL vx M K).toArray 76)).alloc (.cells #[.int .u8 k, .int .u8 f, .int .i64 b, .int .i64 l, .int .i64 m, .int .i64 c, .int .i64 p, .string s] 62)).alloc (.cells (cells8 id).toArray 34)).alloc (.cells #[.slice none 0 0, .int .i64 0, .int .u8 0, .int .u8 0, .int .u8 0, .int .u8 0, .int .u8 0, .int .u8 0, .int .u8 0, .int .u8 0, .int .u8 0, .int .u8 0, .int .u8 0, .int .u8 0, .int .u8 0, .int .u8 0, .int .u8 0, .int .u8 0] 76)) = w1 at hX hT hI hr hb00 hszn ⊢
  obtain ⟨⟨T0, T1, T2, T3, T4, T5, T6, T7⟩, ⟨T8, T9, T10, T11, T12, T13, T14, T15⟩, T16⟩ := hT.get8
  obtain ⟨x0, x1, x2, x3, x4⟩ := hX.tot
  go_upto_region 5 with (first
   | (go_at_call 43; refine (HC.out _).mono ?_; rintro e w2 ⟨rfl, hb2⟩; replace hb00 := bl_call hb00 (Nat.le_refl _) hb2; replace hX := hX.call hb2; replace hT := hT.call hb2; replace hr := hr.call hb2; clear T0 T1 T2 T3 T4 T5 T6 T7 T8 T9 T10 T11 T12 T13 T14 T15 T16; clear hb2; obtain ⟨⟨T0, T1, T2, T3, T4, T5, T6, T7⟩, ⟨T8, T9, T10, T11, T12, T13, T14, T15⟩, T16⟩ := hT.get8; clear x0 x1 x2 x3 x4; obtain ⟨x0, x1, x2, x3, x4⟩ := hX.tot))
  have hst := hr.storeT (k := z16) (v := .slice none 0 0) (m := 0) z16_length z16_length rfl
  have HR := Lib.hid (hr.setT (k := z16) (v := .slice none 0 0) (m := 0) z16_length z16_length)
  have HB := Lib.hid (bl_setCells hb00 (b := w.heap.size + 1 + 1 + 1) (by omega) 0 (totL (.slice none 0 0) 0 z16))
  clear hr hb00
  go_upto_region 5 with fail
  refine wp_region_lit ?_
  refine wpList_valD (some 27) rfl rfl (exec_build rfl (by kernel_rfl) (build_total0 _)) ?_
  simp only [Zp, Zq, Zr, Zs]
  refine wpList_skipD rfl rfl (exec_store rfl (by kernel_rfl) (by kernel_rfl) hst) ?_
  refine wpList_valD (some 9) rfl rfl (by (go_simp; first | with_reducible rfl | exact ⟨rfl, rfl⟩ | (trace_state; fail))) ?_
  simp only [Zp, Zq, Zr, Zs]
  go_upto_region 99 with fail
  exact bodyPost_ret (results_totalE (b := w.heap.size + 1 + 1 + 1) HR.out z16_length rfl rfl) rfl ⟨rfl, HB.out⟩
 ·have hM1 : decide (M < 0) = false := by simpa using h1
  have hM2 : decide (256 ≤ M) = true := by simp; omega
  clear h1 hM
  go_enter Try.func37, Try.ntmps37
  go_upto_region 1 with fail
  have hX := (((Vs.new w (totL vx M K) ((totL vx M K).toArray) 76 rfl).alloc (.cells #[.int .u8 k, .int .u8 f, .int .i64 b, .int .i64 l, .int .i64 m, .int .i64 c, .int .i64 p, .string s] 62)).alloc (.cells (cells8 id).toArray 34)).alloc (.cells #[.slice none 0 0, .int .i64 0, .int .u8 0, .int .u8 0, .int .u8 0, .int .u8 0, .int .u8 0, .int .u8 0, .int .u8 0, .int .u8 0, .int .u8 0, .int .u8 0, .int .u8 0, .int .u8 0, .int .u8 0, .int .u8 0, .int .u8 0, .int .u8 0] 76)
  have hT := ((Vs.new (w.alloc (.cells (totL vx M K).toArray 76)) [.int .u8 k, .int .u8 f, .int .i64 b, .int .i64 l, .int .i64 m, .int .i64 c, .int .i64 p, .string s] #[.int .u8 k, .int .u8 f, .int .i64 b, .int .i64 l, .int .i64 m, .int .i64 c, .int .i64 p, .string s] 62 rfl).alloc (.cells (cells8 id).toArray 34)).alloc (.cells #[.slice none 0 0, .int .i64 0, .int .u8 0, .int .u8 0, .int .u8 0, .int .u8 0, .int .u8 0, .int .u8 0, .int .u8 0, .int .u8 0, .int .u8 0, .int .u8 0, .int .u8 0, .int .u8 0, .int .u8 0, .int .u8 0, .int .u8 0, .int .u8 0] 76)
  have hI := (Vs.new ((w.alloc (.cells (totL vx M K).toArray 76)).alloc (.cells #[.int .u8 k, .int .u8 f, .int .i64 b, .int .i64 l, .int .i64 m, .int .i64 c, .int .i64 p, .string s] 62)) (cells8 id) ((cells8 id).toArray) 34 rfl).alloc (.cells #[.slice none 0 0, .int .i64 0, .int .u8 0, .int .u8 0, .int .u8 0, .int .u8 0, .int .u8 0, .int .u8 0, .int .u8 0, .int .u8 0, .int .u8 0, .int .u8 0, .int .u8 0, .int .u8 0, .int .u8 0, .int .u8 0, .int .u8 0, .int .u8 0] 76)
  have hr := Vs.new (((w.alloc (.cells (totL vx M K).toArray 76)).alloc (.cells #[.int .u8 k, .int .u8 f, .int .i64 b, .int .i64 l, .int .i64 m, .int .i64 c, .int .i64 p, .string s] 62)).alloc (.cells (cells8 id).toArray 34)) (totL (.slice none 0 0) 0 z16) (#[.slice none 0 0, .int .i64 0, .int .u8 0, .int .u8 0, .int .u8 0, .int .u8 0, .int .u8 0, .int .u8 0, .int .u8 0, .int .u8 0, .int .u8 0, .int .u8 0, .int .u8 0, .int .u8 0, .int .u8 0, .int .u8 0, .int .u8 0, .int .u8 0]) 76 rfl
  simp only [World.size_alloc] at hT hI hr
  have hb00 : Below w.heap.size w ((((w.alloc (.cells (totL vx M K).toArray 76)).alloc (.cells #[.int .u8 k, .int .u8 f, .int .i64 b, .int .i64 l, .int .i64 m, .int .i64 c, .int .i64 p, .string s] 62)).alloc (.cells (cells8 id).toArray 34)).alloc (.cells #[.slice none 0 0, .int .i64 0, .int .u8 0, .int .u8 0, .int .u8 0, .int .u8 0, .int .u8 0, .int .u8 0, .int .u8 0, .int .u8 0, .int .u8 0, .int .u8 0, .int .u8 0, .int .u8 0, .int .u8 0, .int .u8 0, .int .u8 0, .int .u8 0] 76)) := by repeat (first | exact bA | with_reducible assumption | apply bB)
  have hszn : w.heap.size + 4 ≤ ((((w.alloc (.cells (totL vx M K).toArray 76)).alloc (.cells #[.int .u8 k, .int .u8 f, .int .i64 b, .int .i64 l, .int .i64 m, .int .i64 c, .int .i64 p, .string s] 62)).alloc (.cells (cells8 id).toArray 34)).alloc (.cells #[.slice none 0 0, .int .i64 0, .int .u8 0, .int .u8 0, .int .u8 0, .int .u8 0, .int .u8 0, .int .u8 0, .int .u8 0, .int .u8 0, .int .u8 0, .int .u8 0, .int .u8 0, .int .u8 0, .int .u8 0, .int .u8 0, .int .u8 0, .int .u8 0] 76)).heap.size := by simp only [World.size_alloc]; omega
  generalize ((((w.alloc (.cells (totL vx M K).toArray 76)).alloc (.cells #[.int .u8 k, .int .u8 f, .int .i64 b, .int .i64 l, .int .i64 m, .int .i64 c, .int .i64 p, .string s] 62)).alloc (.cells (cells8 id).toArray 34)).alloc (.cells #[.slice none 0 0, .int .i64 0, .int .u8 0, .int .u8 0, .int .u8 0, .int .u8 0, .int .u8 0, .int .u8 0, .int .u8 0, .int .u8 0, .int .u8 0, .int .u8 0, .int .u8 0, .int .u8 0, .int .u8 0, .int .u8 0, .int .u8 0, .int .u8 0] 76)) = w1 at hX hT hI hr hb00 hszn ⊢
  obtain ⟨⟨T0, T1, T2, T3, T4, T5, T6, T7⟩, ⟨T8, T9, T10, T11, T12, T13, T14, T15⟩, T16⟩ := hT.get8
  obtain ⟨x0, x1, x2, x3, x4⟩ := hX.tot
  go_upto_region 5 with (first
   | (go_at_call 43; refine (HC.out _).mono ?_; rintro e w2 ⟨rfl, hb2⟩; replace hb00 := bl_call hb00 (Nat.le_refl _) hb2; replace hX := hX.call hb2; replace hT := hT.call hb2; replace hr := hr.call hb2; clear T0 T1 T2 T3 T4 T5 T6 T7 T8 T9 T10 T11 T12 T13 T14 T15 T16; clear hb2; obtain ⟨⟨T0, T1, T2, T3, T4, T5, T6, T7⟩, ⟨T8, T9, T10, T11, T12, T13, T14, T15⟩, T16⟩ := hT.get8; clear x0 x1 x2 x3 x4; obtain ⟨x0, x1, x2, x3, x4⟩ := hX.tot))
  have hst := hr.storeT (k := z16) (v := .slice none 0 0) (m := 0) z16_length z16_length rfl
  have HR := Lib.hid (hr.setT (k := z16) (v := .slice none 0 0) (m := 0) z16_length z16_length)
  have HB := Lib.hid (bl_setCells hb00 (b := w.heap.size + 1 + 1 + 1) (by omega) 0 (totL (.slice none 0 0) 0 z16))
  clear hr hb00
  go_upto_region 5 with fail
  refine wp_region_lit ?_
  refine wpList_valD (some 27) rfl rfl (exec_build rfl (by kernel_rfl) (build_total0 _)) ?_
  simp only [Zp, Zq, Zr, Zs]
  refine wpList_skipD rfl rfl (exec_store rfl (by kernel_rfl) (by kernel_rfl) hst) ?_
  refine wpList_valD (some 9) rfl rfl (by (go_simp; first | with_reducible rfl | exact ⟨rfl, rfl⟩ | (trace_state; fail))) ?_
  simp only [Zp, Zq, Zr, Zs]
  go_upto_region 99 with fail
  exact bodyPost_ret (results_totalE (b := w.heap.size + 1 + 1 + 1) HR.out z16_length rfl rfl) rfl ⟨rfl, HB.out⟩

set_option maxHeartbeats 4000000 in
theorem total_AddSize (k f b l m c p : Int) (s : ByteArray) (HC : ∀ wz, Calls Try.prog 43 #[.agg #[.int .u8 k, .int .u8 f, .int .i64 b, .int .i64 l, .int .i64 m, .int .i64 c, .int .i64 p, .string s]] wz (RetC 0 wz))
  (n : Nat) (HO : ∀ wz, Calls Try.prog 32 #[.agg #[.int .u8 k, .int .u8 f, .int .i64 b, .int .i64 l, .int .i64 m, .int .i64 c]] wz (RetI n wz))
  (vx : Value) (A : Option Addr) (q cq : Nat) (hq : q ≠ n) (M : Int) (hM : 0 ≤ M ∧ M < 256) (K id : List Int) (w : World) :
  Calls Try.prog 37 #[.agg (totL vx M K).toArray, .agg #[.int .u8 k, .int .u8 f, .int .i64 b, .int .i64 l, .int .i64 m, .int .i64 c, .int .i64 p, .string s], .agg (cells8 id).toArray, .slice A q cq] w (RetT0 9 w) := by
 have HC := Lib.hid HC
 have HO := Lib.hid HO
 have hM1 : decide (M < 0) = false := by simp; omega
 have hM2 : decide (256 ≤ M) = false := by simp; omega
 have hqn : ((q : Int) != (n : Int)) = true := by simp; omega
 clear hM hq
 go_enter Try.func37, Try.ntmps37
 go_upto_region 1 with fail
 have hX := (((Vs.new w (totL vx M K) ((totL vx M K).toArray) 76 rfl).alloc (.cells #[.int .u8 k, .int .u8 f, .int .i64 b, .int .i64 l, .int .i64 m, .int .i64 c, .int .i64 p, .string s] 62)).alloc (.cells (cells8 id).toArray 34)).alloc (.cells #[.slice none 0 0, .int .i64 0, .int .u8 0, .int .u8 0, .int .u8 0, .int .u8 0, .int .u8 0, .int .u8 0, .int .u8 0, .int .u8 0, .int .u8 0, .int .u8 0, .int .u8 0, .int .u8 0, .int .u8 0, .int .u8 0, .int .u8 0, .int .u8 0] 76)
 have hT := ((Vs.new (w.alloc (.cells (totL vx M K).toArray 76)) [.int .u8 k, .int .u8 f, .int .i64 b, .int .i64 l, .int .i64 m, .int .i64 c, .int .i64 p, .string s] #[.int .u8 k, .int .u8 f, .int .i64 b, .int .i64 l, .int .i64 m, .int .i64 c, .int .i64 p, .string s] 62 rfl).alloc (.cells (cells8 id).toArray 34)).alloc (.cells #[.slice none 0 0, .int .i64 0, .int .u8 0, .int .u8 0, .int .u8 0, .int .u8 0, .int .u8 0, .int .u8 0, .int .u8 0, .int .u8 0, .int .u8 0, .int .u8 0, .int .u8 0, .int .u8 0, .int .u8 0, .int .u8 0, .int .u8 0, .int .u8 0] 76)
 have hI := (Vs.new ((w.alloc (.cells (totL vx M K).toArray 76)).alloc (.cells #[.int .u8 k, .int .u8 f, .int .i64 b, .int .i64 l, .int .i64 m, .int .i64 c, .int .i64 p, .string s] 62)) (cells8 id) ((cells8 id).toArray) 34 rfl).alloc (.cells #[.slice none 0 0, .int .i64 0, .int .u8 0, .int .u8 0, .int .u8 0, .int .u8 0, .int .u8 0, .int .u8 0, .int .u8 0, .int .u8 0, .int .u8 0, .int .u8 0, .int .u8 0, .int .u8 0, .int .u8 0, .int .u8 0, .int .u8 0, .int .u8 0] 76)
 have hr := Vs.new (((w.alloc (.cells (totL vx M K).toArray 76)).alloc (.cells #[.int .u8 k, .int .u8 f, .int .i64 b, .int .i64 l, .int .i64 m, .int .i64 c, .int .i64 p, .string s] 62)).alloc (.cells (cells8 id).toArray 34)) (totL (.slice none 0 0) 0 z16) (#[.slice none 0 0, .int .i64 0, .int .u8 0, .int .u8 0, .int .u8 0, .int .u8 0, .int .u8 0, .int .u8 0, .int .u8 0, .int .u8 0, .int .u8 0, .int .u8 0, .int .u8 0, .int .u8 0, .int .u8 0, .int .u8 0, .int .u8 0, .int .u8 0]) 76 rfl
 simp only [World.size_alloc] at hT hI hr
 have hb00 : Below w.heap.size w ((((w.alloc (.cells (totL vx M K).toArray 76)).alloc (.cells #[.int .u8 k, .int .u8 f, .int .i64 b, .int .i64 l, .int .i64 m, .int .i64 c, .int .i64 p, .string s] 62)).alloc (.cells (cells8 id).toArray 34)).alloc (.cells #[.slice none 0 0, .int .i64 0, .int .u8 0, .int .u8 0, .int .u8 0, .int .u8 0, .int .u8 0, .int .u8 0, .int .u8 0, .int .u8 0, .int .u8 0, .int .u8 0, .int .u8 0, .int .u8 0, .int .u8 0, .int .u8 0, .int .u8 0, .int .u8 0] 76)) := by repeat (first | exact bA | with_reducible assumption | apply bB)
 have hszn : w.heap.size + 4 ≤ ((((w.alloc (.cells (totL vx M K).toArray 76)).alloc (.cells #[.int .u8 k, .int .u8 f, .int .i64 b, .int .i64 l, .int .i64 m, .int .i64 c, .int .i64 p, .string s] 62)).alloc (.cells (cells8 id).toArray 34)).alloc (.cells #[.slice none 0 0, .int .i64 0, .int .u8 0, .int .u8 0, .int .u8 0, .int .u8 0, .int .u8 0, .int .u8 0, .int .u8 0, .int .u8 0, .int .u8 0, .int .u8 0, .int .u8 0, .int .u8 0, .int .u8 0, .int .u8 0, .int .u8 0, .int .u8 0] 76)).heap.size := by simp only [World.size_alloc]; omega
 generalize ((((w.alloc (.cells (totL vx M K).toArray 76)).alloc (.cells #[.int .u8 k, .int .u8 f, .int .i64 b, .int .i64 l, .int .i64 m, .int .i64 c, .int .i64 p, .string s] 62)).alloc (.cells (cells8 id).toArray 34)).alloc (.cells #[.slice none 0 0, .int .i64 0, .int .u8 0, .int .u8 0, .int .u8 0, .int .u8 0, .int .u8 0, .int .u8 0, .int .u8 0, .int .u8 0, .int .u8 0, .int .u8 0, .int .u8 0, .int .u8 0, .int .u8 0, .int .u8 0, .int .u8 0, .int .u8 0] 76)) = w1 at hX hT hI hr hb00 hszn ⊢
 obtain ⟨⟨T0, T1, T2, T3, T4, T5, T6, T7⟩, ⟨T8, T9, T10, T11, T12, T13, T14, T15⟩, T16⟩ := hT.get8
 obtain ⟨x0, x1, x2, x3, x4⟩ := hX.tot
 go_upto_region 6 with (first
  | (go_at_call 43; refine (HC.out _).mono ?_; rintro e w2 ⟨rfl, hb2⟩; replace hb00 := bl_call hb00 (Nat.le_refl _) hb2; replace hX := hX.call hb2; replace hT := hT.call hb2; replace hr := hr.call hb2; clear T0 T1 T2 T3 T4 T5 T6 T7 T8 T9 T10 T11 T12 T13 T14 T15 T16; clear hb2; obtain ⟨⟨T0, T1, T2, T3, T4, T5, T6, T7⟩, ⟨T8, T9, T10, T11, T12, T13, T14, T15⟩, T16⟩ := hT.get8; clear x0 x1 x2 x3 x4; obtain ⟨x0, x1, x2, x3, x4⟩ := hX.tot))
 go_upto_region 7 with (first
  | (go_at_call 32; refine (HO.out _).mono ?_; rintro e w3 ⟨rfl, hb3⟩; replace hb00 := bl_call hb00 (Nat.le_refl _) hb3; replace hX := hX.call hb3; replace hT := hT.call hb3; replace hr := hr.call hb3; clear T0 T1 T2 T3 T4 T5 T6 T7 T8 T9 T10 T11 T12 T13 T14 T15 T16; clear hb3; obtain ⟨⟨T0, T1, T2, T3, T4, T5, T6, T7⟩, ⟨T8, T9, T10, T11, T12, T13, T14, T15⟩, T16⟩ := hT.get8; clear x0 x1 x2 x3 x4; obtain ⟨x0, x1, x2, x3, x4⟩ := hX.tot))
 have hst := hr.storeT (k := z16) (v := .slice none 0 0) (m := 0) z16_length z16_length rfl
 have HR := Lib.hid (hr.setT (k := z16) (v := .slice none 0 0) (m := 0) z16_length z16_length)
 have HB := Lib.hid (bl_setCells hb00 (b := w.heap.size + 1 + 1 + 1) (by omega) 0 (totL (.slice none 0 0) 0 z16))
 clear hr hb00
 go_upto_region 7 with fail
 refine wp_region_lit ?_
 refine wpList_valD (some 34) rfl rfl (exec_build rfl (by kernel_rfl) (build_total0 _)) ?_
 simp only [Zp, Zq, Zr, Zs]
 refine wpList_skipD rfl rfl (exec_store rfl (by kernel_rfl) (by kernel_rfl) hst) ?_
 refine wpList_valD (some 9) rfl rfl (by (go_simp; first | with_reducible rfl | exact ⟨rfl, rfl⟩ | (trace_state; fail))) ?_
 simp only [Zp, Zq, Zr, Zs]
 go_upto_region 99 with fail
 exact bodyPost_ret (results_totalE (b := w.heap.size + 1 + 1 + 1) HR.out z16_length rfl rfl) rfl ⟨rfl, HB.out⟩

set_option maxHeartbeats 4000000 in
theorem total_Merge0 (t : RawT) (n : Int) (hn : n ≠ 0) (HC : ∀ wz, Calls Try.prog 43 #[t.val] wz (RetC n wz)) (vx vo : Value) (M1 M2 : Int) (K1 K2 : List Int) (w : World) :
  Calls Try.prog 27 #[.agg (totL vx M1 K1).toArray, t.val, .agg (totL vo M2 K2).toArray] w (RetT0 n w) := by
 have HC := Lib.hid HC
 obtain ⟨⟨k, f, b, l, m, c⟩, p, s⟩ := t
 unfold RawT.val at HC ⊢
 dsimp only at HC ⊢
 have hn1 : (n == 0) = false := by simpa using hn
 have hn2 : (n != 0) = true := by simpa using hn
 clear hn
 go_enter Try.func27, Try.ntmps27
 go_upto_region 1 with fail
 have hX := (((Vs.new w (totL vx M1 K1) ((totL vx M1 K1).toArray) 76 rfl).alloc (.cells #[.int .u8 k, .int .u8 f, .int .i64 b, .int .i64 l, .int .i64 m, .int .i64 c, .int .i64 p, .string s] 62)).alloc (.cells (totL vo M2 K2).toArray 76)).alloc (.cells #[.slice none 0 0, .int .i64 0, .int .u8 0, .int .u8 0, .int .u8 0, .int .u8 0, .int .u8 0, .int .u8 0, .int .u8 0, .int .u8 0, .int .u8 0, .int .u8 0, .int .u8 0, .int .u8 0, .int .u8 0, .int .u8 0, .int .u8 0, .int .u8 0] 76)
 have hT := ((Vs.new (w.alloc (.cells (totL vx M1 K1).toArray 76)) [.int .u8 k, .int .u8 f, .int .i64 b, .int .i64 l, .int .i64 m, .int .i64 c, .int .i64 p, .string s] #[.int .u8 k, .int .u8 f, .int .i64 b, .int .i64 l, .int .i64 m, .int .i64 c, .int .i64 p, .string s] 62 rfl).alloc (.cells (totL vo M2 K2).toArray 76)).alloc (.cells #[.slice none 0 0, .int .i64 0, .int .u8 0, .int .u8 0, .int .u8 0, .int .u8 0, .int .u8 0, .int .u8 0, .int .u8 0, .int .u8 0, .int .u8 0, .int .u8 0, .int .u8 0, .int .u8 0, .int .u8 0, .int .u8 0, .int .u8 0, .int .u8 0] 76)
 have hY := (Vs.new ((w.alloc (.cells (totL vx M1 K1).toArray 76)).alloc (.cells #[.int .u8 k, .int .u8 f, .int .i64 b, .int .i64 l, .int .i64 m, .int .i64 c, .int .i64 p, .string s] 62)) (totL vo M2 K2) ((totL vo M2 K2).toArray) 76 rfl).alloc (.cells #[.slice none 0 0, .int .i64 0, .int .u8 0, .int .u8 0, .int .u8 0, .int .u8 0, .int .u8 0, .int .u8 0, .int .u8 0, .int .u8 0, .int .u8 0, .int .u8 0, .int .u8 0, .int .u8 0, .int .u8 0, .int .u8 0, .int .u8 0, .int .u8 0] 76)
 have hr := Vs.new (((w.alloc (.cells (totL vx M1 K1).toArray 76)).alloc (.cells #[.int .u8 k, .int .u8 f, .int .i64 b, .int .i64 l, .int .i64 m, .int .i64 c, .int .i64 p, .string s] 62)).alloc (.cells (totL vo M2 K2).toArray 76)) (totL (.slice none 0 0) 0 z16) (#[.slice none 0 0, .int .i64 0, .int .u8 0, .int .u8 0, .int .u8 0, .int .u8 0, .int .u8 0, .int .u8 0, .int .u8 0, .int .u8 0, .int .u8 0, .int .u8 0, .int .u8 0, .int .u8 0, .int .u8 0, .int .u8 0, .int .u8 0, .int .u8 0]) 76 rfl
 simp only [World.size_alloc] at hT hY hr
 have hb00 : Below w.heap.size w ((((w.alloc (.cells (totL vx M1 K1).toArray 76)).alloc (.cells #[.int .u8 k, .int .u8 f, .int .i64 b, .int .i64 l, .int .i64 m, .int .i64 c, .int .i64 p, .string s] 62)).alloc (.cells (totL vo M2 K2).toArray 76)).alloc (.cells #[.slice none 0 0, .int .i64 0, .int .u8 0, .int .u8 0, .int .u8 0, .int .u8 0, .int .u8 0, .int .u8 0, .int .u8 0, .int .u8 0, .int .u8 0, .int .u8 0, .int .u8 0, .int .u8 0, .int .u8 0, .int .u8 0, .int .u8 0, .int .u8 0] 76)) := by repeat (first | exact bA | with_reducible assumption | apply bB)
 have hszn : w.heap.size + 4 ≤ ((((w.alloc (.cells (totL vx M1 K1).toArray 76)).alloc (.cells #[.int .u8 k, .int .u8 f, .int .i64 b, .int .i64 l, .int .i64 m, .int .i64 c, .int .i64 p, .string s] 62)).alloc (.cells (totL vo M2 K2).toArray 76)).alloc (.cells #[.slice none 0 0, .int .i64 0, .int .u8 0, .int .u8 0, .int .u8 0, .int .u8 0, .int .u8 0, .int .u8 0, .int .u8 0, .int .u8 0, .int .u8 0, .int .u8 0, .int .u8 0, .int .u8 0, .int .u8 0, .int .u8 0, .int .u8 0, .int .u8 0] 76)).heap.size := by simp only [World.size_alloc]; omega
 generalize ((((w.alloc (.cells (totL vx M1 K1).toArray 76)).alloc (.cells #[.int .u8 k, .int .u8 f, .int .i64 b, .int .i64 l, .int .i64 m, .int .i64 c, .int .i64 p, .string s] 62)).alloc (.cells (totL vo M2 K2).toArray 76)).alloc (.cells #[.slice none 0 0, .int .i64 0, .int .u8 0, .int .u8 0, .int .u8 0, .int .u8 0, .int .u8 0, .int .u8 0, .int .u8 0, .int .u8 0, .int .u8 0, .int .u8 0, .int .u8 0, .int .u8 0, .int .u8 0, .int .u8 0, .int .u8 0, .int .u8 0] 76)) = w1 at hX hT hY hr hb00 hszn ⊢
 obtain ⟨⟨T0, T1, T2, T3, T4, T5, T6, T7⟩, ⟨T8, T9, T10, T11, T12, T13, T14, T15⟩, T16⟩ := hT.get8
 obtain ⟨x0, x1, x2, x3, x4⟩ := hX.tot
 obtain ⟨y0, y1, y2, y3, y4⟩ := hY.tot
 go_upto_region 3 with (first
  | (go_at_call 43; refine (HC.out _).mono ?_; rintro e w2 ⟨rfl, hb2⟩; replace hb00 := bl_call hb00 (Nat.le_refl _) hb2; replace hX := hX.call hb2; replace hT := hT.call hb2; replace hY := hY.call hb2; replace hr := hr.call hb2; clear T0 T1 T2 T3 T4 T5 T6 T7 T8 T9 T10 T11 T12 T13 T14 T15 T16; clear hb2; obtain ⟨⟨T0, T1, T2, T3, T4, T5, T6, T7⟩, ⟨T8, T9, T10, T11, T12, T13, T14, T15⟩, T16⟩ := hT.get8; clear x0 x1 x2 x3 x4 y0 y1 y2 y3 y4; obtain ⟨x0, x1, x2, x3, x4⟩ := hX.tot; obtain ⟨y0, y1, y2, y3, y4⟩ := hY.tot))
 have hst := hr.storeT (k := z16) (v := .slice none 0 0) (m := 0) z16_length z16_length rfl
 have HR := Lib.hid (hr.setT (k := z16) (v := .slice none 0 0) (m := 0) z16_length z16_length)
 have HB := Lib.hid (bl_setCells hb00 (b := w.heap.size + 1 + 1 + 1) (by omega) 0 (totL (.slice none 0 0) 0 z16))
 clear hr hb00
 go_upto_region 3 with fail
 refine wp_region_lit ?_
 refine wpList_valD (some 15) rfl rfl (exec_build rfl (by kernel_rfl) (build_total0 _)) ?_
 simp only [Zp, Zq, Zr, Zs]
 refine wpList_valD (some 16) rfl rfl (by (go_simp; first | with_reducible rfl | exact ⟨rfl, rfl⟩ | (trace_state; fail))) ?_
 simp only [Zp, Zq, Zr, Zs]
 refine wpList_skipD rfl rfl (exec_store rfl (by kernel_rfl) (by kernel_rfl) hst) ?_
 refine wpList_valD (some 7) rfl rfl (by (go_simp; first | with_reducible rfl | exact ⟨rfl, rfl⟩ | (trace_state; fail))) ?_
 simp only [Zp, Zq, Zr, Zs]
 go_upto_region 99 with fail
 exact bodyPost_ret (results_totalE (b := w.heap.size + 1 + 1 + 1) HR.out z16_length rfl rfl) rfl ⟨rfl, HB.out⟩
set_option maxHeartbeats 8000000 in
theorem total_MergeFull (k f b l m c p : Int) (s : ByteArray) (HC : ∀ wz, Calls Try.prog 43 #[.agg #[.int .u8 k, .int .u8 f, .int .i64 b, .int .i64 l, .int .i64 m, .int .i64 c, .int .i64 p, .string s]] wz (RetC 0 wz))
  (vx vo : Value) (M1 M2 : Int) (hM : M1 < 0 ∨ M2 < 0 ∨ 256 < M1 ∨ 256 < M1 + M2) (K1 K2 : List Int) (w : World) :
  Calls Try.prog 27 #[.agg (totL vx M1 K1).toArray, .agg #[.int .u8 k, .int .u8 f, .int .i64 b, .int .i64 l, .int .i64 m, .int .i64 c, .int .i64 p, .string s], .agg (totL vo M2 K2).toArray] w (RetT0 18 w) := by
 have HC := Lib.hid HC
 by_cases h1 : M1 < 0
 ·have hM1 : decide (M1 < 0) = true := by simpa using h1
  clear h1 hM
  go_enter Try.func27, Try.ntmps27
  go_upto_region 1 with fail
  have hX := (((Vs.new w (totL vx M1 K1) ((totL vx M1 K1).toArray) 76 rfl).alloc (.cells #[.int .u8 k, .int .u8 f, .int .i64 b, .int .i64 l, .int .i64 m, .int .i64 c, .int .i64 p, .string s] 62)).alloc (.cells (totL vo M2 K2).toArray 76)).alloc (.cells #[.slice none 0 0, .int .i64 0, .int .u8 0, .int .u8 0, .int .u8 0, .int .u8 0, .int .u8 0, .int .u8 0, .int .u8 0, .int .u8 0, .int .u8 0, .int .u8 0, .int .u8 0, .int .u8 0, .int .u8 0, .int .u8 0, .int .u8 0, .int .u8 0] 76)
  have hT := ((Vs.new (w.alloc (.cells (totL vx M1 K1).toArray 76)) [.int .u8 k, .int .u8 f, .int .i64 b, .int .i64 l, .int .i64 m, .int .i64 c, .int .i64 p, .string s] #[.int .u8 k, .int .u8 f, .int .i64 b, .int .i64 l, .int .i64 m, .int .i64 c, .int .i64 p, .string s] 62 rfl).alloc (.cells (totL vo M2 K2).toArray 76)).alloc (.cells #[.slice none 0 0, .int .i64 0, .int .u8 0, .int .u8 0, .int .u8 0, .int .u8 0, .int .u8 0, .int .u8 0, .int .u8 0, .int .u8 0, .int .u8 0, .int .u8 0, .int .u8 0, .int .u8 0, .int .u8 0, .int .u8 0, .int .u8 0, .int .u8 0] 76)
  have hY := (Vs.new ((w.alloc (.cells (totL vx M1 K1).toArray 76)).alloc (.cells #[.int .u8 k, .int .u8 f, .int .i64 b, .int .i64 l, .int .i64 m, .int .i64 c, .int .i64 p, .string s] 62)) (totL vo M2 K2) ((totL vo M2 K2).toArray) 76 rfl).alloc (.cells #[.slice none 0 0, .int .i64 0, .int .u8 0, .int .u8 0, .int .u8 0, .int .u8 0, .int .u8 0, .int .u8 0, .int .u8 0, .int .u8 0, .int .u8 0, .int .u8 0, .int .u8 0, .int .u8 0, .int .u8 0, .int .u8 0, .int .u8 0, .int .u8 0] 76)
  have hr := Vs.new (((w.alloc (.cells (totL vx M1 K1).toArray 76)).alloc (.cells #[.int .u8 k, .int .u8 f, .int .i64 b, .int .i64 l, .int .i64 m, .int .i64 c, .int .i64 p, .string s] 62)).alloc (.cells (totL vo M2 K2).toArray 76)) (totL (.slice none 0 0) 0 z16) (#[.slice none 0 0, .int .i64 0, .int .u8 0, .int .u8 0, .int .u8 0, .int .u8 0, .int .u8 0, .int .u8 0, .int .u8 0, .int .u8 0, .int .u8 0, .int .u8 0, .int .u8 0, .int .u8 0, .int .u8 0, .int .u8 0, .int .u8 0, .int .u8 0]) 76 rfl
  simp only [World.size_alloc] at hT hY hr
  have hb00 : Below w.heap.size w ((((w.alloc (.cells (totL vx M1 K1).toArray 76)).alloc (.cells #[.int .u8 k, .int .u8 f, .int .i64 b, .int .i64 l, .int .i64 m, .int .i64 c, .int .i64 p, .string s] 62)).alloc (.cells (totL vo M2 K2).toArray 76)).alloc (.cells #[.slice none 0 0, .int .i64 0, .int .u8 0, .int .u8 0, .int .u8 0, .int .u8 0, .int .u8 0, .int .u8 0, .int .u8 0, .int .u8 0, .int .u8 0, .int .u8 0, .int .u8 0, .int .u8 0, .int .u8 0, .int .u8 0, .int .u8 0, .int .u8 0] 76)) := by repeat (first | exact bA | with_reducible assumption | apply bB)
  have hszn : w.heap.size + 4 ≤ ((((w.alloc (.cells (totL vx M1 K1).toArray 76)).alloc (.cells #[.int .u8 k, .int .u8 f, .int .i64 b, .int .i64 l, .int .i64 m, .int .i64 c, .int .i64 p, .string s] 62)).alloc (.cells (totL vo M2 K2).toArray 76)).alloc (.cells #[.slice none 0 0, .int .i64 0, .int .u8 0, .int .u8 0, .int .u8 0, .int .u8 0, .int .u8 0, .int .u8 0, .int .u8 0, .int .u8 0, .int .u8 0, .int .u8 0, .int .u8 0, .int .u8 0, .int .u8 0, .int .u8 0, .int .u8 0, .int .u8 0] 76)).heap.size := by simp only [World.size_alloc]; omega
  generalize ((((w.alloc (.cells (totL vx M1 K1).toArray 76)).alloc (.cells #[.int .u8 k, .int .u8 f, .int .i64 b, .int .i64 l, .int .i64 m, .int .i64 c, .int .i64 p, .string s] 62)).alloc (.cells (totL vo M2 K2).toArray 76)).alloc (.cells #[.slice none 0 0, .int .i64 0, .int .u8 0, .int .u8 0, .int .u8 0, .int .u8 0, .int .u8 0, .int .u8 0, .int .u8 0, .int .u8 0, .int .u8 0, .int .u8 0, .int .u8 0, .int .u8 0, .int .u8 0, .int .u8 0, .int .u8 0, .int .u8 0] 76)) = w1 at hX hT hY hr hb00 hszn ⊢
  obtain ⟨⟨T0, T1, T2, T3, T4, T5, T6, T7⟩, ⟨T8, T9, T10, T11, T12, T13, T14, T15⟩, T16⟩ := hT.get8
  obtain ⟨x0, x1, x2, x3, x4⟩ := hX.tot
  obtain ⟨y0, y1, y2, y3, y4⟩ := hY.tot
  go_upto_region 5 with (first
   | (go_at_call 43; refine (HC.out _).mono ?_; rintro e w2 ⟨rfl, hb2⟩; replace hb00 := bl_call hb00 (Nat.le_refl _) hb2; replace hX := hX.call hb2; replace hT := hT.call hb2; replace hY := hY.call hb2; replace hr := hr.call hb2; clear T0 T1 T2 T3 T4 T5 T6 T7 T8 T9 T10 T11 T12 T13 T14 T15 T16; clear hb2; obtain ⟨⟨T0, T1, T2, T3, T4, T5, T6, T7⟩, ⟨T8, T9, T10, T11, T12, T13, T14, T15⟩, T16⟩ := hT.get8; clear x0 x1 x2 x3 x4 y0 y1 y2 y3 y4; obtain ⟨x0, x1, x2, x3, x4⟩ := hX.tot; obtain ⟨y0, y1, y2, y3, y4⟩ := hY.tot))
  have hst := hr.storeT (k := z16) (v := .slice none 0 0) (m := 0) z16_length z16_length rfl
  have HR := Lib.hid (hr.setT (k := z16) (v := .slice none 0 0) (m := 0) z16_length z16_length)
  have HB := Lib.hid (bl_setCells hb00 (b := w.heap.size + 1 + 1 + 1) (by omega) 0 (totL (.slice none 0 0) 0 z16))
  clear hr hb00
  go_upto_region 5 with fail
  refine wp_region_lit ?_
  refine wpList_valD (some 38) rfl rfl (exec_build rfl (by kernel_rfl) (build_total0 _)) ?_
  simp only [Zp, Zq, Zr, Zs]
  refine wpList_skipD rfl rfl (exec_store rfl (by kernel_rfl) (by kernel_rfl) hst) ?_
  refine wpList_valD (some 7) rfl rfl (by (go_simp; first | with_reducible rfl | exact ⟨rfl, rfl⟩ | (trace_state; fail))) ?_
  simp only [Zp, Zq, Zr, Zs]
  go_upto_region 99 with fail
  exact bodyPost_ret (results_totalE (b := w.heap.size + 1 + 1 + 1) HR.out z16_length rfl rfl) rfl ⟨rfl, HB.out⟩
 have hM1 : decide (M1 < 0) = false := by simpa using h1
 by_cases h2 : M2 < 0
 ·have hM2 : decide (M2 < 0) = true := by simpa using h2
  clear h1 h2 hM
  go_enter Try.func27, Try.ntmps27
  go_upto_region 1 with fail
  have hX := (((Vs.new w (totL vx M1 K1) ((totL vx M1 K1).toArray) 76 rfl).alloc (.cells #[.int .u8 k, .int .u8 f, .int .i64 b, .int .i64 l, .int .i64 m, .int .i64 c, .int .i64 p, .string s] 62)).alloc (.cells (totL vo M2 K2).toArray 76)).alloc (.cells #[.slice none 0 0, .int .i64 0, .int .u8 0, .int .u8 0, .int .u8 0, .int .u8 0, .int .u8 0, .int .u8 0, .int .u8 0, .int .u8 0, .int .u8 0, .int .u8 0, .int .u8 0, .int .u8 0, .int .u8 0, .int .u8 0, .int .u8 0, .int .u8 0] 76)
  have hT := ((Vs.new (w.alloc (.cells (totL vx M1 K1).toArray 76)) [.int .u8 k, .int .u8 f, .int .i64 b, .int .i64 l, .int .i64 m, .int .i64 c, .int .i64 p, .string s] #[.int .u8 k, .int .u8 f, .int .i64 b, .int .i64 l, .int .i64 m, .int .i64 c, .int .i64 p, .string s] 62 rfl).alloc (.cells (totL vo M2 K2).toArray 76)).alloc (.cells #[.slice none 0 0, .int .i64 0, .int .u8 0, .int .u8 0, .int .u8 0, .int .u8 0, .int .u8 0, .int .u8 0, .int .u8 0, .int .u8 0, .int .u8 0, .int .u8 0, .int .u8 0, .int .u8 0, .int .u8 0, .int .u8 0, .int .u8 0, .int .u8 0] 76)
  have hY := (Vs.new ((w.alloc (.cells (totL vx M1 K1).toArray 76)).alloc (.cells #[.int .u8 k, .int .u8 f, .int .i64 b, .int .i64 l, .int .i64 m, .int .i64 c, .int .i64 p, .string s] 62)) (totL vo M2 K2) ((totL vo M2 K2).toArray) 76 rfl).alloc (.cells #[.slice none 0 0, .int .i64 0, .int .u8 0, .int .u8 0, .int .u8 0, .int .u8 0, .int .u8 0, .int .u8 0, .int .u8 0, .int .u8 0, .int .u8 0, .int .u8 0, .int .u8 0, .int .u8 0, .int .u8 0, .int .u8 0, .int .u8 0, .int .u8 0] 76)
  have hr := Vs.new (((w.alloc (.cells (totL vx M1 K1).toArray 76)).alloc (.cells #[.int .u8 k, .int .u8 f, .int .i64 b, .int .i64 l, .int .i64 m, .int .i64 c, .int .i64 p, .string s] 62)).alloc (.cells (totL vo M2 K2).toArray 76)) (totL (.slice none 0 0) 0 z16) (#[.slice none 0 0, .int .i64 0, .int .u8 0, .int .u8 0, .int .u8 0, .int .u8 0, .int .u8 0, .int .u8 0, .int .u8 0, .int .u8 0, .int .u8 0, .int .u8 0, .int .u8 0, .int .u8 0, .int .u8 0, .int .u8 0, .int .u8 0, .int .u8 0]) 76 rfl
  simp only [World.size_alloc] at hT hY hr
  have hb00 : Below w.heap.size w ((((w.alloc (.cells (totL vx M1 K1).toArray 76)).alloc (.cells #[.int .u8 k, .int .u8 f, .int .i64 b, .int .i64 l, .int .i64 m, .int .i64 c, .int .i64 p, .string s] 62)).alloc (.cells (totL vo M2 K2).toArray 76)).alloc (.cells #[.slice none 0 0, .int .i64 0, .int .u8 0, .int .u8 0, .int .u8 0, .int .u8 0, .int .u8 0, .int .u8 0, .int .u8 0, .int .u8 0, .int .u8 0, .int .u8 0, .int .u8 0, .int .u8 0, .int .u8 0, .int .u8 0, .int .u8 0, .int .u8 0] 76)) := by repeat (first | exact bA | with_reducible assumption | apply bB)
  have hszn : w.heap.size + 4 ≤ ((((w.alloc (.cells (totL vx M1 K1).toArray 76)).alloc (.cells #[.int .u8 k, .int .u8 f, .int .i64 b, .int .i64 l, .int .i64 m, .int .i64 c, .int .i64 p, .string s] 62)).alloc (.cells (totL vo M2 K2).toArray 76)).alloc (.cells #[.slice none 0 0, .int .i64 0, .int .u8 0, .int .u8 0, .int .u8 0, .int .u8 0, .int .u8 0, .int .u8 0, .int .u8 0, .int .u8 0, .int .u8 0, .int .u8 0, .int .u8 0, .int .u8 0, .int .u8 0, .int .u8 0, .int .u8 0, .int .u8 0] 76)).heap.size := by simp only [World.size_alloc]; omega
  generalize ((((w.alloc (.cells (totL vx M1 K1).toArray 76)).alloc (.cells #[.int .u8 k, .int .u8 f, .int .i64 b, .int .i64 l, .int .i64 m, .int .i64 c, .int .i64 p, .string s] 62)).alloc (.cells (totL vo M2 K2).toArray 76)).alloc (.cells #[.slice none 0 0, .int .i64 0, .int .u8 0, .int .u8 0, .int .u8 0, .int .u8 0, .int .u8 0, .int .u8 0, .int .u8 0, .int .u8 0, .int .u8 0, .int .u8 0, .int .u8 0, .int .u8 0, .int .u8 0, .int .u8 0, .int .u8 0, .int .u8 0] 76)) = w1 at hX hT hY hr hb00 hszn ⊢
  obtain ⟨⟨T0, T1, T2, T3, T4, T5, T6, T7⟩, ⟨T8, T9, T10, T11, T12, T13, T14, T15⟩, T16⟩ := hT.get8
  obtain ⟨x0, x1, x2, x3, x4⟩ := hX.tot
  obtain ⟨y0, y1, y2, y3, y4⟩ := hY.tot
  go_upto_region 5 with (first
   | (go_at_call 43; refine (HC.out _).mono ?_; rintro e w2 ⟨rfl, hb2⟩; replace hb00 := bl_call hb00 (Nat.le_refl _) hb2; replace hX := hX.call hb2; replace hT := hT.call hb2; replace hY := hY.call hb2; replace hr := hr.call hb2; clear T0 T1 T2 T3 T4 T5 T6 T7 T8 T9 T10 T11 T12 T13 T14 T15 T16; clear hb2; obtain ⟨⟨T0, T1, T2, T3, T4, T5, T6, T7⟩, ⟨T8, T9, T10, T11, T12, T13, T14, T15⟩, T16⟩ := hT.get8; clear x0 x1 x2 x3 x4 y0 y1 y2 y3 y4; obtain ⟨x0, x1, x2, x3, x4⟩ := hX.tot; obtain ⟨y0, y1, y2, y3, y4⟩ := hY.tot))
  have hst := hr.storeT (k := z16) (v := .slice none 0 0) (m := 0) z16_length z16_length rfl
  have HR := Lib.hid (hr.setT (k := z16) (v := .slice none 0 0) (m := 0) z16_length z16_length)
  have HB := Lib.hid (bl_setCells hb00 (b := w.heap.size + 1 + 1 + 1) (by omega) 0 (totL (.slice none 0 0) 0 z16))
  clear hr hb00
  go_upto_region 5 with fail
  refine wp_region_lit ?_
  refine wpList_valD (some 38) rfl rfl (exec_build rfl (by kernel_rfl) (build_total0 _)) ?_
  simp only [Zp, Zq, Zr, Zs]
  refine wpList_skipD rfl rfl (exec_store rfl (by kernel_rfl) (by kernel_rfl) hst) ?_
  refine wpList_valD (some 7) rfl rfl (by (go_simp; first | with_reducible rfl | exact ⟨rfl, rfl⟩ | (trace_state; fail))) ?_
  simp only [Zp, Zq, Zr, Zs]
  go_upto_region 99 with fail
  exact bodyPost_ret (results_totalE (b := w.heap.size + 1 + 1 + 1) HR.out z16_length rfl rfl) rfl ⟨rfl, HB.out⟩
 have hM2 : decide (M2 < 0) = false := by simpa using h2
 by_cases h3 : 256 < M1
 ·have hM3 : decide (256 < M1) = true := by simpa using h3
  clear h1 h2 h3 hM
  go_enter Try.func27, Try.ntmps27
  go_upto_region 1 with fail
  have hX := (((Vs.new w (totL vx M1 K1) ((totL vx M1 K1).toArray) 76 rfl).alloc (.cells #[.int .u8 k, .int .u8 f, .int .i64 b, .int .i64 l, .int .i64 m, .int .i64 c, .int .i64 p, .string s] 62)).alloc (.cells (totL vo M2 K2).toArray 76)).alloc (.cells #[.slice none 0 0, .int .i64 0, .int .u8 0, .int .u8 0, .int .u8 0, .int .u8 0, .int .u8 0, .int .u8 0, .int .u8 0, .int .u8 0, .int .u8 0, .int .u8 0, .int .u8 0, .int .u8 0, .int .u8 0, .int .u8 0, .int .u8 0, .int .u8 0] 76)
  have hT := ((Vs.new (w.alloc (.cells (totL vx M1 K1).toArray 76)) [.int .u8 k, .int .u8 f, .int .i64 b, .int .i64 l, .int .i64 m, .int .i64 c, .int .i64 p, .string s] #[.int .u8 k, .int .u8 f, .int .i64 b, .int .i64 l, .int .i64 m, .int .i64 c, .int .i64 p, .string s] 62 rfl).alloc (.cells (totL vo M2 K2).toArray 76)).alloc (.cells #[.slice none 0 0, .int .i64 0, .int .u8 0, .int .u8 0, .int .u8 0, .int .u8 0, .int .u8 0, .int .u8 0, .int .u8 0, .int .u8 0, .int .u8 0, .int .u8 0, .int .u8 0, .int .u8 0, .int .u8 0, .int .u8 0, .int .u8 0, .int .u8 0] 76)
  have hY := (Vs.new ((w.alloc (.cells (totL vx M1 K1).toArray 76)).alloc (.cells #[.int .u8 k, .int .u8 f, .int .i64 b, .int .i64 l, .int .i64 m, .int .i64 c, .int .i64 p, .string s] 62)) (totL vo M2 K2) ((totL vo M2 K2).toArray) 76 rfl).alloc (.cells #[.slice none 0 0, .int .i64 0, .int .u8 0, .int .u8 0, .int .u8 0, .int .u8 0, .int .u8 0, .int .u8 0, .int .u8 0, .int .u8 0, .int .u8 0, .int .u8 0, .int .u8 0, .int .u8 0, .int .u8 0, .int .u8 0, .int .u8 0, .int .u8 0] 76)
  have hr := Vs.new (((w.alloc (.cells (totL vx M1 K1).toArray 76)).alloc (.cells #[.int .u8 k, .int .u8 f, .int .i64 b, .int .i64 l, .int .i64 m, .int .i64 c, .int .i64 p, .string s] 62)).alloc (.cells (totL vo M2 K2).toArray 76)) (totL (.slice none 0 0) 0 z16) (#[.slice none 0 0, .int .i64 0, .int .u8 0, .int .u8 0, .int .u8 0, .int .u8 0, .int .u8 0, .int .u8 0, .int .u8 0, .int .u8 0, .int .u8 0, .int .u8 0, .int .u8 0, .int .u8 0, .int .u8 0, .int .u8 0, .int .u8 0, .int .u8 0]) 76 rfl
  simp only [World.size_alloc] at hT hY hr
  have hb00 : Below w.heap.size w ((((w.alloc (.cells (totL vx M1 K1).toArray 76)).alloc (.cells #[.int .u8 k, .int .u8 f, .int .i64 b, .int .i64 l, .int .i64 m, .int .i64 c, .int .i64 p, .string s] 62)).alloc (.cells (totL vo M2 K2).toArray 76)).alloc (.cells #[.slice none 0 0, .int .i64 0, .int .u8 0, .int .u8 0, .int .u8 0, .int .u8 0, .int .u8 0, .int .u8 0, .int .u8 0, .int .u8 0, .int .u8 0, .int .u8 0, .int .u8 0, .int .u8 0, .int .u8 0, .int .u8 0, .int .u8 0, .int .u8 0] 76)) := by repeat (first | exact bA | with_reducible assumption | apply bB)
  have hszn : w.heap.size + 4 ≤ ((((w.alloc (.cells (totL vx M1 K1).toArray 76)).alloc (.cells #[.int .u8 k, .int .u8 f, .int .i64 b, .int .i64 l, .int .i64 m, .int .i64 c, .int .i64 p, .string s] 62)).alloc (.cells (totL vo M2 K2).toArray 76)).alloc (.cells #[.slice none 0 0, .int .i64 0, .int .u8 0, .int .u8 0, .int .u8 0, .int .u8 0, .int .u8 0, .int .u8 0, .int .u8 0, .int .u8 0, .int .u8 0, .int .u8 0, .int .u8 0, .int .u8 0, .int .u8 0, .int .u8 0, .int .u8 0, .int .u8 0] 76)).heap.size := by simp only [World.size_alloc]; omega
  generalize ((((w.alloc (.cells (totL vx M1 K1).toArray 76)).alloc (.cells #[.int .u8 k, .int .u8 f, .int .i64 b, .int .i64 l, .int .i64 m, .int .i64 c, .int .i64 p, .string s] 62)).alloc (.cells (totL vo M2 K2).toArray 76)).alloc (.cells #[.slice none 0 0, .int .i64 0, .int .u8 0, .int .u8 0, .int .u8 0, .int .u8 0, .int .u8 0, .int .u8 0, .int .u8 0, .int .u8 0, .int .u8 0, .int .u8 0, .int .u8 0, .int .u8 0, .int .u8 0, .int .u8 0, .int .u8 0, .int .u8 0] 76)) = w1 at hX hT hY hr hb00 hszn ⊢
  obtain ⟨⟨T0, T1, T2, T3, T4, T5, T6, T7⟩, ⟨T8, T9, T10, T11, T12, T13, T14, T15⟩, T16⟩ := hT.get8
  obtain ⟨x0, x1, x2, x3, x4⟩ := hX.tot
  obtain ⟨y0, y1, y2, y3, y4⟩ := hY.tot
  go_upto_region 5 with (first
   | (go_at_call 43; refine (HC.out _).mono ?_; rintro e w2 ⟨rfl, hb2⟩; replace hb00 := bl_call hb00 (Nat.le_refl _) hb2; replace hX := hX.call hb2; replace hT := hT.call hb2; replace hY := hY.call hb2; replace hr := hr.call hb2; clear T0 T1 T2 T3 T4 T5 T6 T7 T8 T9 T10 T11 T12 T13 T14 T15 T16; clear hb2; obtain ⟨⟨T0, T1, T2, T3, T4, T5, T6, T7⟩, ⟨T8, T9, T10, T11, T12, T13, T14, T15⟩, T16⟩ := hT.get8; clear x0 x1 x2 x3 x4 y0 y1 y2 y3 y4; obtain ⟨x0, x1, x2, x3, x4⟩ := hX.tot; obtain ⟨y0, y1, y2, y3, y4⟩ := hY.tot))
  have hst := hr.storeT (k := z16) (v := .slice none 0 0) (m := 0) z16_length z16_length rfl
  have HR := Lib.hid (hr.setT (k := z16) (v := .slice none 0 0) (m := 0) z16_length z16_length)
  have HB := Lib.hid (bl_setCells hb00 (b := w.heap.size + 1 + 1 + 1) (by omega) 0 (totL (.slice none 0 0) 0 z16))
  clear hr hb00
  go_upto_region 5 with fail
  refine wp_region_lit ?_
  refine wpList_valD (some 38) rfl rfl (exec_build rfl (by kernel_rfl) (build_total0 _)) ?_
  simp only [Zp, Zq, Zr, Zs]
  refine wpList_skipD rfl rfl (exec_store rfl (by kernel_rfl) (by kernel_rfl) hst) ?_
  refine wpList_valD (some 7) rfl rfl (by (go_simp; first | with_reducible rfl | exact ⟨rfl, rfl⟩ | (trace_state; fail))) ?_
  simp only [Zp, Zq, Zr, Zs]
  go_upto_region 99 with fail
  exact bodyPost_ret (results_totalE (b := w.heap.size + 1 + 1 + 1) HR.out z16_length rfl rfl) rfl ⟨rfl, HB.out⟩
 have hM3 : decide (256 < M1) = false := by simpa using h3
 obtain ⟨d, hd⟩ : ∃ z, 256 - M1 = z := ⟨_, rfl⟩
 have hwd : IntKind.i64.wrap (256 - M1) = d := by rw [IntWalk.i64_in _ (by omega)]; exact hd
 have hM4 : decide (d < M2) = true := by simp; omega
 clear h1 h2 h3 hM hd
 go_enter Try.func27, Try.ntmps27
 go_upto_region 1 with fail
 have hX := (((Vs.new w (totL vx M1 K1) ((totL vx M1 K1).toArray) 76 rfl).alloc (.cells #[.int .u8 k, .int .u8 f, .int .i64 b, .int .i64 l, .int .i64 m, .int .i64 c, .int .i64 p, .string s] 62)).alloc (.cells (totL vo M2 K2).toArray 76)).alloc (.cells #[.slice none 0 0, .int .i64 0, .int .u8 0, .int .u8 0, .int .u8 0, .int .u8 0, .int .u8 0, .int .u8 0, .int .u8 0, .int .u8 0, .int .u8 0, .int .u8 0, .int .u8 0, .int .u8 0, .int .u8 0, .int .u8 0, .int .u8 0, .int .u8 0] 76)
 have hT := ((Vs.new (w.alloc (.cells (totL vx M1 K1).toArray 76)) [.int .u8 k, .int .u8 f, .int .i64 b, .int .i64 l, .int .i64 m, .int .i64 c, .int .i64 p, .string s] #[.int .u8 k, .int .u8 f, .int .i64 b, .int .i64 l, .int .i64 m, .int .i64 c, .int .i64 p, .string s] 62 rfl).alloc (.cells (totL vo M2 K2).toArray 76)).alloc (.cells #[.slice none 0 0, .int .i64 0, .int .u8 0, .int .u8 0, .int .u8 0, .int .u8 0, .int .u8 0, .int .u8 0, .int .u8 0, .int .u8 0, .int .u8 0, .int .u8 0, .int .u8 0, .int .u8 0, .int .u8 0, .int .u8 0, .int .u8 0, .int .u8 0] 76)
 have hY := (Vs.new ((w.alloc (.cells (totL vx M1 K1).toArray 76)).alloc (.cells #[.int .u8 k, .int .u8 f, .int .i64 b, .int .i64 l, .int .i64 m, .int .i64 c, .int .i64 p, .string s] 62)) (totL vo M2 K2) ((totL vo M2 K2).toArray) 76 rfl).alloc (.cells #[.slice none 0 0, .int .i64 0, .int .u8 0, .int .u8 0, .int .u8 0, .int .u8 0, .int .u8 0, .int .u8 0, .int .u8 0, .int .u8 0, .int .u8 0, .int .u8 0, .int .u8 0, .int .u8 0, .int .u8 0, .int .u8 0, .int .u8 0, .int .u8 0] 76)
 have hr := Vs.new (((w.alloc (.cells (totL vx M1 K1).toArray 76)).alloc (.cells #[.int .u8 k, .int .u8 f, .int .i64 b, .int .i64 l, .int .i64 m, .int .i64 c, .int .i64 p, .string s] 62)).alloc (.cells (totL vo M2 K2).toArray 76)) (totL (.slice none 0 0) 0 z16) (#[.slice none 0 0, .int .i64 0, .int .u8 0, .int .u8 0, .int .u8 0, .int .u8 0, .int .u8 0, .int .u8 0, .int .u8 0, .int .u8 0, .int .u8 0, .int .u8 0, .int .u8 0, .int .u8 0, .int .u8 0, .int .u8 0, .int .u8 0, .int .u8 0]) 76 rfl
 simp only [World.size_alloc] at hT hY hr
 have hb00 : Below w.heap.size w ((((w.alloc (.cells (totL vx M1 K1).toArray 76)).alloc (.cells #[.int .u8 k, .int .u8 f, .int .i64 b, .int .i64 l, .int .i64 m, .int .i64 c, .int .i64 p, .string s] 62)).alloc (.cells (totL vo M2 K2).toArray 76)).alloc (.cells #[.slice none 0 0, .int .i64 0, .int .u8 0, .int .u8 0, .int .u8 0, .int .u8 0, .int .u8 0, .int .u8 0, .int .u8 0, .int .u8 0, .int .u8 0, .int .u8 0, .int .u8 0, .int .u8 0, .int .u8 0, .int .u8 0, .int .u8 0, .int .u8 0] 76)) := by repeat (first | exact bA | with_reducible assumption | apply bB)
 have hszn : w.heap.size + 4 ≤ ((((w.alloc (.cells (totL vx M1 K1).toArray 76)).alloc (.cells #[.int .u8 k, .int .u8 f, .int .i64 b, .int .i64 l, .int .i64 m, .int .i64 c, .int .i64 p, .string s] 62)).alloc (.cells (totL vo M2 K2).toArray 76)).alloc (.cells #[.slice none 0 0, .int .i64 0, .int .u8 0, .int .u8 0, .int .u8 0, .int .u8 0, .int .u8 0, .int .u8 0, .int .u8 0, .int .u8 0, .int .u8 0, .int .u8 0, .int .u8 0, .int .u8 0, .int .u8 0, .int .u8 0, .int .u8 0, .int .u8 0] 76)).heap.size := by simp only [World.size_alloc]; omega
 generalize ((((w.alloc (.cells (totL vx M1 K1).toArray 76)).alloc (.cells #[.int .u8 k, .int .u8 f, .int .i64 b, .int .i64 l, .int .i64 m, .int .i64 c, .int .i64 p, .string s] 62)).alloc (.cells (totL vo M2 K2).toArray 76)).alloc (.cells #[.slice none 0 0, .int .i64 0, .int .u8 0, .int .u8 0, .int .u8 0, .int .u8 0, .int .u8 0, .int .u8 0, .int .u8 0, .int .u8 0, .int .u8 0, .int .u8 0, .int .u8 0, .int .u8 0, .int .u8 0, .int .u8 0, .int .u8 0, .int .u8 0] 76)) = w1 at hX hT hY hr hb00 hszn ⊢
 obtain ⟨⟨T0, T1, T2, T3, T4, T5, T6, T7⟩, ⟨T8, T9, T10, T11, T12, T13, T14, T15⟩, T16⟩ := hT.get8
 obtain ⟨x0, x1, x2, x3, x4⟩ := hX.tot
 obtain ⟨y0, y1, y2, y3, y4⟩ := hY.tot
 go_upto_region 5 with (first
  | (go_at_call 43; refine (HC.out _).mono ?_; rintro e w2 ⟨rfl, hb2⟩; replace hb00 := bl_call hb00 (Nat.le_refl _) hb2; replace hX := hX.call hb2; replace hT := hT.call hb2; replace hY := hY.call hb2; replace hr := hr.call hb2; clear T0 T1 T2 T3 T4 T5 T6 T7 T8 T9 T10 T11 T12 T13 T14 T15 T16; clear hb2; obtain ⟨⟨T0, T1, T2, T3, T4, T5, T6, T7⟩, ⟨T8, T9, T10, T11, T12, T13, T14, T15⟩, T16⟩ := hT.get8; clear x0 x1 x2 x3 x4 y0 y1 y2 y3 y4; obtain ⟨x0, x1, x2, x3, x4⟩ := hX.tot; obtain ⟨y0, y1, y2, y3, y4⟩ := hY.tot))
 have hst := hr.storeT (k := z16) (v := .slice none 0 0) (m := 0) z16_length z16_length rfl
 have HR := Lib.hid (hr.setT (k := z16) (v := .slice none 0 0) (m := 0) z16_length z16_length)
 have HB := Lib.hid (bl_setCells hb00 (b := w.heap.size + 1 + 1 + 1) (by omega) 0 (totL (.slice none 0 0) 0 z16))
 clear hr hb00
 go_upto_region 5 with fail
 refine wp_region_lit ?_
 refine wpList_valD (some 38) rfl rfl (exec_build rfl (by kernel_rfl) (build_total0 _)) ?_
 simp only [Zp, Zq, Zr, Zs]
 refine wpList_skipD rfl rfl (exec_store rfl (by kernel_rfl) (by kernel_rfl) hst) ?_
 refine wpList_valD (some 7) rfl rfl (by (go_simp; first | with_reducible rfl | exact ⟨rfl, rfl⟩ | (trace_state; fail))) ?_
 simp only [Zp, Zq, Zr, Zs]
 go_upto_region 99 with fail
 exact bodyPost_ret (results_totalE (b := w.heap.size + 1 + 1 + 1) HR.out z16_length rfl rfl) rfl ⟨rfl, HB.out⟩
set_option maxHeartbeats 8000000 in
theorem total_MergeSize (k f b l m c p : Int) (s : ByteArray) (HC : ∀ wz, Calls Try.prog 43 #[.agg #[.int .u8 k, .int .u8 f, .int .i64 b, .int .i64 l, .int .i64 m, .int .i64 c, .int .i64 p, .string s]] wz (RetC 0 wz))
  (vx vo : Value) (xs ys : List E) (M1 M2 : Int) (hM : 0 ≤ M1 ∧ 0 ≤ M2 ∧ M1 + M2 ≤ 256) (K1 K2 : List Int) (w : World) (hx : SlE w w.heap.size vx xs) (hy : SlE w w.heap.size vo ys) (hl : xs.length ≠ ys.length) :
  Calls Try.prog 27 #[.agg (totL vx M1 K1).toArray, .agg #[.int .u8 k, .int .u8 f, .int .i64 b, .int .i64 l, .int .i64 m, .int .i64 c, .int .i64 p, .string s], .agg (totL vo M2 K2).toArray] w (RetT0 9 w) := by
 have HADD : Hid (∀ wz, Below w.heap.size w wz → Calls Try.prog 58 #[.int .u8 f, vx, vo] wz (RetErr 9 wz)) := fun wz hb => field_AddVec_size f vx vo xs ys wz (hx.later hb) (hy.later hb) hl
 have HC := Lib.hid HC
 obtain ⟨⟨A1, c1, rfl, _⟩, _⟩ := hx
 obtain ⟨⟨A2, c2, rfl, _⟩, _⟩ := hy
 obtain ⟨d, hd⟩ : ∃ z, 256 - M1 = z := ⟨_, rfl⟩
 have hwd : IntKind.i64.wrap (256 - M1) = d := by rw [IntWalk.i64_in _ (by omega)]; exact hd
 have hM1 : decide (M1 < 0) = false := by simp; omega
 have hM2 : decide (M2 < 0) = false := by simp; omega
 have hM3 : decide (256 < M1) = false := by simp; omega
 have hM4 : decide (d < M2) = false := by simp; omega
 obtain ⟨n1, hn1⟩ : ∃ z, xs.length = z := ⟨_, rfl⟩
 obtain ⟨n2, hn2⟩ : ∃ z, ys.length = z := ⟨_, rfl⟩
 rw [hn1, hn2] at HADD
 rw [hn1, hn2]
 clear hM hd hl hn1 hn2
 obtain ⟨vx, hvx⟩ : ∃ z, Value.slice A1 n1 c1 = z := ⟨_, rfl⟩
 obtain ⟨vo, hvo⟩ : ∃ z, Value.slice A2 n2 c2 = z := ⟨_, rfl⟩
 rw [hvx, hvo] at HADD
 rw [hvx, hvo]
 clear hvx hvo
 go_enter Try.func27, Try.ntmps27
 go_upto_region 1 with fail
 have hX := (((Vs.new w (totL vx M1 K1) ((totL vx M1 K1).toArray) 76 rfl).alloc (.cells #[.int .u8 k, .int .u8 f, .int .i64 b, .int .i64 l, .int .i64 m, .int .i64 c, .int .i64 p, .string s] 62)).alloc (.cells (totL vo M2 K2).toArray 76)).alloc (.cells #[.slice none 0 0, .int .i64 0, .int .u8 0, .int .u8 0, .int .u8 0, .int .u8 0, .int .u8 0, .int .u8 0, .int .u8 0, .int .u8 0, .int .u8 0, .int .u8 0, .int .u8 0, .int .u8 0, .int .u8 0, .int .u8 0, .int .u8 0, .int .u8 0] 76)
 have hT := ((Vs.new (w.alloc (.cells (totL vx M1 K1).toArray 76)) [.int .u8 k, .int .u8 f, .int .i64 b, .int .i64 l, .int .i64 m, .int .i64 c, .int .i64 p, .string s] #[.int .u8 k, .int .u8 f, .int .i64 b, .int .i64 l, .int .i64 m, .int .i64 c, .int .i64 p, .string s] 62 rfl).alloc (.cells (totL vo M2 K2).toArray 76)).alloc (.cells #[.slice none 0 0, .int .i64 0, .int .u8 0, .int .u8 0, .int .u8 0, .int .u8 0, .int .u8 0, .int .u8 0, .int .u8 0, .int .u8 0, .int .u8 0, .int .u8 0, .int .u8 0, .int .u8 0, .int .u8 0, .int .u8 0, .int .u8 0, .int .u8 0] 76)
 have hY := (Vs.new ((w.alloc (.cells (totL vx M1 K1).toArray 76)).alloc (.cells #[.int .u8 k, .int .u8 f, .int .i64 b, .int .i64 l, .int .i64 m, .int .i64 c, .int .i64 p, .string s] 62)) (totL vo M2 K2) ((totL vo M2 K2).toArray) 76 rfl).alloc (.cells #[.slice none 0 0, .int .i64 0, .int .u8 0, .int .u8 0, .int .u8 0, .int .u8 0, .int .u8 0, .int .u8 0, .int .u8 0, .int .u8 0, .int .u8 0, .int .u8 0, .int .u8 0, .int .u8 0, .int .u8 0, .int .u8 0, .int .u8 0, .int .u8 0] 76)
 have hr := Vs.new (((w.alloc (.cells (totL vx M1 K1).toArray 76)).alloc (.cells #[.int .u8 k, .int .u8 f, .int .i64 b, .int .i64 l, .int .i64 m, .int .i64 c, .int .i64 p, .string s] 62)).alloc (.cells (totL vo M2 K2).toArray 76)) (totL (.slice none 0 0) 0 z16) (#[.slice none 0 0, .int .i64 0, .int .u8 0, .int .u8 0, .int .u8 0, .int .u8 0, .int .u8 0, .int .u8 0, .int .u8 0, .int .u8 0, .int .u8 0, .int .u8 0, .int .u8 0, .int .u8 0, .int .u8 0, .int .u8 0, .int .u8 0, .int .u8 0]) 76 rfl
 simp only [World.size_alloc] at hT hY hr
 have hb00 : Below w.heap.size w ((((w.alloc (.cells (totL vx M1 K1).toArray 76)).alloc (.cells #[.int .u8 k, .int .u8 f, .int .i64 b, .int .i64 l, .int .i64 m, .int .i64 c, .int .i64 p, .string s] 62)).alloc (.cells (totL vo M2 K2).toArray 76)).alloc (.cells #[.slice none 0 0, .int .i64 0, .int .u8 0, .int .u8 0, .int .u8 0, .int .u8 0, .int .u8 0, .int .u8 0, .int .u8 0, .int .u8 0, .int .u8 0, .int .u8 0, .int .u8 0, .int .u8 0, .int .u8 0, .int .u8 0, .int .u8 0, .int .u8 0] 76)) := by repeat (first | exact bA | with_reducible assumption | apply bB)
 have hszn : w.heap.size + 4 ≤ ((((w.alloc (.cells (totL vx M1 K1).toArray 76)).alloc (.cells #[.int .u8 k, .int .u8 f, .int .i64 b, .int .i64 l, .int .i64 m, .int .i64 c, .int .i64 p, .string s] 62)).alloc (.cells (totL vo M2 K2).toArray 76)).alloc (.cells #[.slice none 0 0, .int .i64 0, .int .u8 0, .int .u8 0, .int .u8 0, .int .u8 0, .int .u8 0, .int .u8 0, .int .u8 0, .int .u8 0, .int .u8 0, .int .u8 0, .int .u8 0, .int .u8 0, .int .u8 0, .int .u8 0, .int .u8 0, .int .u8 0] 76)).heap.size := by simp only [World.size_alloc]; omega
 generalize ((((w.alloc (.cells (totL vx M1 K1).toArray 76)).alloc (.cells #[.int .u8 k, .int .u8 f, .int .i64 b, .int .i64 l, .int .i64 m, .int .i64 c, .int .i64 p, .string s] 62)).alloc (.cells (totL vo M2 K2).toArray 76)).alloc (.cells #[.slice none 0 0, .int .i64 0, .int .u8 0, .int .u8 0, .int .u8 0, .int .u8 0, .int .u8 0, .int .u8 0, .int .u8 0, .int .u8 0, .int .u8 0, .int .u8 0, .int .u8 0, .int .u8 0, .int .u8 0, .int .u8 0, .int .u8 0, .int .u8 0] 76)) = w1 at hX hT hY hr hb00 hszn ⊢
 obtain ⟨⟨T0, T1, T2, T3, T4, T5, T6, T7⟩, ⟨T8, T9, T10, T11, T12, T13, T14, T15⟩, T16⟩ := hT.get8
 obtain ⟨x0, x1, x2, x3, x4⟩ := hX.tot
 obtain ⟨y0, y1, y2, y3, y4⟩ := hY.tot
 go_upto_region 6 with (first
  | (go_at_call 43; refine (HC.out _).mono ?_; rintro e w2 ⟨rfl, hb2⟩; replace hb00 := bl_call hb00 (Nat.le_refl _) hb2; replace hX := hX.call hb2; replace hT := hT.call hb2; replace hY := hY.call hb2; replace hr := hr.call hb2; clear T0 T1 T2 T3 T4 T5 T6 T7 T8 T9 T10 T11 T12 T13 T14 T15 T16; clear hb2; obtain ⟨⟨T0, T1, T2, T3, T4, T5, T6, T7⟩, ⟨T8, T9, T10, T11, T12, T13, T14, T15⟩, T16⟩ := hT.get8; clear x0 x1 x2 x3 x4 y0 y1 y2 y3 y4; obtain ⟨x0, x1, x2, x3, x4⟩ := hX.tot; obtain ⟨y0, y1, y2, y3, y4⟩ := hY.tot))
 go_upto_region 8 with (go_at_call 58; refine (HADD.out _ hb00).mono ?_; rintro e w5 ⟨rfl, hb5⟩)
 clear x0 x1 x2 x3 x4 y0 y1 y2 y3 y4
 clear T0 T1 T2 T3 T4 T5 T6 T7 T8 T9 T10 T11 T12 T13 T14 T15 T16
 replace hb00 := bl_call hb00 (Nat.le_refl _) hb5
 replace hX := hX.call hb5
 replace hT := hT.call hb5
 replace hY := hY.call hb5
 replace hr := hr.call hb5
 clear hb5 hX hY hT HADD
 have hst := hr.storeT (k := z16) (v := .slice none 0 0) (m := 0) z16_length z16_length rfl
 have HR := Lib.hid (hr.setT (k := z16) (v := .slice none 0 0) (m := 0) z16_length z16_length)
 have HB := Lib.hid (bl_setCells hb00 (b := w.heap.size + 1 + 1 + 1) (by omega) 0 (totL (.slice none 0 0) 0 z16))
 clear hr hb00
 go_upto_region 8 with fail
 refine wp_region_lit ?_
 refine wpList_valD (some 52) rfl rfl (exec_build rfl (by kernel_rfl) (build_total0 _)) ?_
 simp only [Zp, Zq, Zr, Zs]
 refine wpList_valD (some 53) rfl rfl (by (go_simp; first | with_reducible rfl | exact ⟨rfl, rfl⟩ | (trace_state; fail))) ?_
 simp only [Zp, Zq, Zr, Zs]
 refine wpList_skipD rfl rfl (exec_store rfl (by kernel_rfl) (by kernel_rfl) hst) ?_
 refine wpList_valD (some 7) rfl rfl (by (go_simp; first | with_reducible rfl | exact ⟨rfl, rfl⟩ | (trace_state; fail))) ?_
 simp only [Zp, Zq, Zr, Zs]
 go_upto_region 99 with fail
 exact bodyPost_ret (results_totalE (b := w.heap.size + 1 + 1 + 1) HR.out z16_length rfl rfl) rfl ⟨rfl, HB.out⟩

set_option maxHeartbeats 4000000 in
theorem total_Unshard0 (t : RawT) (n : Int) (hn : n ≠ 0) (HC : ∀ wz, Calls Try.prog 43 #[t.val] wz (RetC n wz)) (vx vo : Value) (M1 M2 : Int) (K1 K2 : List Int) (w : World) :
  Calls Try.prog 38 #[t.val, .agg (totL vx M1 K1).toArray, .agg (totL vo M2 K2).toArray] w (RetErr n w) := by
 have HC := Lib.hid HC
 obtain ⟨⟨k, f, b, l, m, c⟩, p, s⟩ := t
 unfold RawT.val at HC ⊢
 dsimp only at HC ⊢
 have hn1 : (n == 0) = false := by simpa using hn
 have hn2 : (n != 0) = true := by simpa using hn
 clear hn
 go_enter Try.func38, Try.ntmps38
 go_upto_region 1 with fail
 have hT := ((Vs.new w [.int .u8 k, .int .u8 f, .int .i64 b, .int .i64 l, .int .i64 m, .int .i64 c, .int .i64 p, .string s] #[.int .u8 k, .int .u8 f, .int .i64 b, .int .i64 l, .int .i64 m, .int .i64 c, .int .i64 p, .string s] 62 rfl).alloc (.cells (totL vx M1 K1).toArray 76)).alloc (.cells (totL vo M2 K2).toArray 76)
 have hX := (Vs.new (w.alloc (.cells #[.int .u8 k, .int .u8 f, .int .i64 b, .int .i64 l, .int .i64 m, .int .i64 c, .int .i64 p, .string s] 62)) (totL vx M1 K1) ((totL vx M1 K1).toArray) 76 rfl).alloc (.cells (totL vo M2 K2).toArray 76)
 have hY := Vs.new ((w.alloc (.cells #[.int .u8 k, .int .u8 f, .int .i64 b, .int .i64 l, .int .i64 m, .int .i64 c, .int .i64 p, .string s] 62)).alloc (.cells (totL vx M1 K1).toArray 76)) (totL vo M2 K2) ((totL vo M2 K2).toArray) 76 rfl
 simp only [World.size_alloc] at hX hY
 have hb00 : Below w.heap.size w (((w.alloc (.cells #[.int .u8 k, .int .u8 f, .int .i64 b, .int .i64 l, .int .i64 m, .int .i64 c, .int .i64 p, .string s] 62)).alloc (.cells (totL vx M1 K1).toArray 76)).alloc (.cells (totL vo M2 K2).toArray 76)) := by repeat (first | exact bA | with_reducible assumption | apply bB)
 have hszn : w.heap.size + 3 ≤ (((w.alloc (.cells #[.int .u8 k, .int .u8 f, .int .i64 b, .int .i64 l, .int .i64 m, .int .i64 c, .int .i64 p, .string s] 62)).alloc (.cells (totL vx M1 K1).toArray 76)).alloc (.cells (totL vo M2 K2).toArray 76)).heap.size := by simp only [World.size_alloc]; omega
 generalize (((w.alloc (.cells #[.int .u8 k, .int .u8 f, .int .i64 b, .int .i64 l, .int .i64 m, .int .i64 c, .int .i64 p, .string s] 62)).alloc (.cells (totL vx M1 K1).toArray 76)).alloc (.cells (totL vo M2 K2).toArray 76)) = w1 at hT hX hY hb00 hszn ⊢
 obtain ⟨⟨T0, T1, T2, T3, T4, T5, T6, T7⟩, ⟨T8, T9, T10, T11, T12, T13, T14, T15⟩, T16⟩ := hT.get8
 obtain ⟨x0, x1, x2, x3, x4⟩ := hX.tot
 obtain ⟨y0, y1, y2, y3, y4⟩ := hY.tot
 go_wp2_with (first
  | (go_at_call 43; refine (HC.out _).mono ?_; rintro e w2 ⟨rfl, hb2⟩; replace hb00 := bl_call hb00 (Nat.le_refl _) hb2; replace hX := hX.call hb2; replace hT := hT.call hb2; replace hY := hY.call hb2; clear T0 T1 T2 T3 T4 T5 T6 T7 T8 T9 T10 T11 T12 T13 T14 T15 T16; clear hb2; obtain ⟨⟨T0, T1, T2, T3, T4, T5, T6, T7⟩, ⟨T8, T9, T10, T11, T12, T13, T14, T15⟩, T16⟩ := hT.get8; clear x0 x1 x2 x3 x4 y0 y1 y2 y3 y4; obtain ⟨x0, x1, x2, x3, x4⟩ := hX.tot; obtain ⟨y0, y1, y2, y3, y4⟩ := hY.tot))
 go_ret2
 exact ⟨rfl, hb00⟩
set_option maxHeartbeats 4000000 in
theorem total_UnshardSize (k f b l m c p : Int) (s : ByteArray) (HC : ∀ wz, Calls Try.prog 43 #[.agg #[.int .u8 k, .int .u8 f, .int .i64 b, .int .i64 l, .int .i64 m, .int .i64 c, .int .i64 p, .string s]] wz (RetC 0 wz))
  (vx vo : Value) (xs ys : List E) (M : Int) (K : List Int) (hK : K.length = 16) (w : World) (hx : SlE w w.heap.size vx xs) (hy : SlE w w.heap.size vo ys) (hl : xs.length ≠ ys.length) :
  Calls Try.prog 38 #[.agg #[.int .u8 k, .int .u8 f, .int .i64 b, .int .i64 l, .int .i64 m, .int .i64 c, .int .i64 p, .string s], .agg (totL vx M K).toArray, .agg (totL vo M K).toArray] w (RetErr 9 w) := by
 have HADD : Hid (∀ wz, Below w.heap.size w wz → Calls Try.prog 58 #[.int .u8 f, vx, vo] wz (RetErr 9 wz)) := fun wz hb => field_AddVec_size f vx vo xs ys wz (hx.later hb) (hy.later hb) hl
 have HC := Lib.hid HC
 have HK := Lib.hid hK
 have HEQ : Hid (∀ wz, (Op.equalIn 10000 74 (.agg (cells8 K).toArray) (.agg (cells8 K).toArray)).run Try.prog wz = .ok true wz) := fun wz => by
  rw [run_equalIn_16 9998 Try.underlying74 hK hK]
  simp
 obtain ⟨M1, hM1⟩ : ∃ z, M = z := ⟨_, rfl⟩
 obtain ⟨⟨A1, c1, rfl, _⟩, _⟩ := hx
 obtain ⟨⟨A2, c2, rfl, _⟩, _⟩ := hy
 obtain ⟨vx, hvx⟩ : ∃ z, Value.slice A1 xs.length c1 = z := ⟨_, rfl⟩
 obtain ⟨vo, hvo⟩ : ∃ z, Value.slice A2 ys.length c2 = z := ⟨_, rfl⟩
 rw [hvx, hvo] at HADD
 rw [hvx, hvo]
 clear hvx hvo hK hl
 subst hM1
 go_enter Try.func38, Try.ntmps38
 go_upto_region 1 with fail
 have hT := ((Vs.new w [.int .u8 k, .int .u8 f, .int .i64 b, .int .i64 l, .int .i64 m, .int .i64 c, .int .i64 p, .string s] #[.int .u8 k, .int .u8 f, .int .i64 b, .int .i64 l, .int .i64 m, .int .i64 c, .int .i64 p, .string s] 62 rfl).alloc (.cells (totL vx M K).toArray 76)).alloc (.cells (totL vo M K).toArray 76)
 have hX := (Vs.new (w.alloc (.cells #[.int .u8 k, .int .u8 f, .int .i64 b, .int .i64 l, .int .i64 m, .int .i64 c, .int .i64 p, .string s] 62)) (totL vx M K) ((totL vx M K).toArray) 76 rfl).alloc (.cells (totL vo M K).toArray 76)
 have hY := Vs.new ((w.alloc (.cells #[.int .u8 k, .int .u8 f, .int .i64 b, .int .i64 l, .int .i64 m, .int .i64 c, .int .i64 p, .string s] 62)).alloc (.cells (totL vx M K).toArray 76)) (totL vo M K) ((totL vo M K).toArray) 76 rfl
 simp only [World.size_alloc] at hX hY
 have hb00 : Below w.heap.size w (((w.alloc (.cells #[.int .u8 k, .int .u8 f, .int .i64 b, .int .i64 l, .int .i64 m, .int .i64 c, .int .i64 p, .string s] 62)).alloc (.cells (totL vx M K).toArray 76)).alloc (.cells (totL vo M K).toArray 76)) := by repeat (first | exact bA | with_reducible assumption | apply bB)
 have hszn : w.heap.size + 3 ≤ (((w.alloc (.cells #[.int .u8 k, .int .u8 f, .int .i64 b, .int .i64 l, .int .i64 m, .int .i64 c, .int .i64 p, .string s] 62)).alloc (.cells (totL vx M K).toArray 76)).alloc (.cells (totL vo M K).toArray 76)).heap.size := by simp only [World.size_alloc]; omega
 generalize (((w.alloc (.cells #[.int .u8 k, .int .u8 f, .int .i64 b, .int .i64 l, .int .i64 m, .int .i64 c, .int .i64 p, .string s] 62)).alloc (.cells (totL vx M K).toArray 76)).alloc (.cells (totL vo M K).toArray 76)) = w1 at hT hX hY hb00 hszn ⊢
 obtain ⟨⟨T0, T1, T2, T3, T4, T5, T6, T7⟩, ⟨T8, T9, T10, T11, T12, T13, T14, T15⟩, T16⟩ := hT.get8
 obtain ⟨x0, x1, x2, x3, x4⟩ := hX.tot
 obtain ⟨y0, y1, y2, y3, y4⟩ := hY.tot
 go_upto_region 6 with (first
  | (go_at_call 43; refine (HC.out _).mono ?_; rintro e w2 ⟨rfl, hb2⟩; replace hb00 := bl_call hb00 (Nat.le_refl _) hb2; replace hX := hX.call hb2; replace hT := hT.call hb2; replace hY := hY.call hb2; clear T0 T1 T2 T3 T4 T5 T6 T7 T8 T9 T10 T11 T12 T13 T14 T15 T16; clear hb2; obtain ⟨⟨T0, T1, T2, T3, T4, T5, T6, T7⟩, ⟨T8, T9, T10, T11, T12, T13, T14, T15⟩, T16⟩ := hT.get8; clear x0 x1 x2 x3 x4 y0 y1 y2 y3 y4; obtain ⟨x0, x1, x2, x3, x4⟩ := hX.tot; obtain ⟨y0, y1, y2, y3, y4⟩ := hY.tot))
 refine wp_region_lit ?_
 refine wpList_valD (some 23) rfl rfl (by (go_simp; first | with_reducible rfl | exact ⟨rfl, rfl⟩ | (trace_state; fail))) ?_
 simp only [Zp, Zq, Zr, Zs]
 refine wpList_valD (some 24) rfl rfl (exec_load rfl (by kernel_rfl) (hX.loadTC HK.out)) ?_
 simp only [Zp, Zq, Zr, Zs]
 refine wpList_valD (some 25) rfl rfl (by (go_simp; first | with_reducible rfl | exact ⟨rfl, rfl⟩ | (trace_state; fail))) ?_
 simp only [Zp, Zq, Zr, Zs]
 refine wpList_valD (some 26) rfl rfl (exec_load rfl (by kernel_rfl) (hY.loadTC HK.out)) ?_
 simp only [Zp, Zq, Zr, Zs]
 refine wpList_valD (some 27) rfl rfl (by (have hz := HEQ.out w2; go_simp; first | with_reducible rfl | exact ⟨rfl, rfl⟩ | (trace_state; fail))) ?_
 simp only [Zp, Zq, Zr, Zs]
 refine wpList_valD (some 22) rfl rfl (by (go_simp; first | with_reducible rfl | exact ⟨rfl, rfl⟩ | (trace_state; fail))) ?_
 simp only [Zp, Zq, Zr, Zs]
 go_wp2_with (go_at_call 58; refine (HADD.out _ hb00).mono ?_; rintro e w5 ⟨rfl, hb5⟩; replace hb00 := bl_call hb00 (Nat.le_refl _) hb5)
 go_ret2
 exact ⟨rfl, hb00⟩

set_option maxHeartbeats 4000000 in
theorem total_Take0 (t : RawT) (n : Int) (hn : n ≠ 0) (HC : ∀ wz, Calls Try.prog 43 #[t.val] wz (RetC n wz)) (vb : Value) (w : World) :
  Calls Try.prog 42 #[t.val, vb] w (RetT0 n w) := by
 have HC := Lib.hid HC
 obtain ⟨⟨k, f, b, l, m, c⟩, p, s⟩ := t
 unfold RawT.val at HC ⊢
 dsimp only at HC ⊢
 have hn1 : (n == 0) = false := by simpa using hn
 have hn2 : (n != 0) = true := by simpa using hn
 clear hn
 go_enter Try.func42, Try.ntmps42
 go_upto_region 1 with fail
 have hT := (Vs.new w [.int .u8 k, .int .u8 f, .int .i64 b, .int .i64 l, .int .i64 m, .int .i64 c, .int .i64 p, .string s] #[.int .u8 k, .int .u8 f, .int .i64 b, .int .i64 l, .int .i64 m, .int .i64 c, .int .i64 p, .string s] 62 rfl).alloc (.cells #[.slice none 0 0, .int .i64 0, .int .u8 0, .int .u8 0, .int .u8 0, .int .u8 0, .int .u8 0, .int .u8 0, .int .u8 0, .int .u8 0, .int .u8 0, .int .u8 0, .int .u8 0, .int .u8 0, .int .u8 0, .int .u8 0, .int .u8 0, .int .u8 0] 76)
 have hr := Vs.new (w.alloc (.cells #[.int .u8 k, .int .u8 f, .int .i64 b, .int .i64 l, .int .i64 m, .int .i64 c, .int .i64 p, .string s] 62)) (totL (.slice none 0 0) 0 z16) (#[.slice none 0 0, .int .i64 0, .int .u8 0, .int .u8 0, .int .u8 0, .int .u8 0, .int .u8 0, .int .u8 0, .int .u8 0, .int .u8 0, .int .u8 0, .int .u8 0, .int .u8 0, .int .u8 0, .int .u8 0, .int .u8 0, .int .u8 0, .int .u8 0]) 76 rfl
 simp only [World.size_alloc] at hr
 have hb00 : Below w.heap.size w ((w.alloc (.cells #[.int .u8 k, .int .u8 f, .int .i64 b, .int .i64 l, .int .i64 m, .int .i64 c, .int .i64 p, .string s] 62)).alloc (.cells #[.slice none 0 0, .int .i64 0, .int .u8 0, .int .u8 0, .int .u8 0, .int .u8 0, .int .u8 0, .int .u8 0, .int .u8 0, .int .u8 0, .int .u8 0, .int .u8 0, .int .u8 0, .int .u8 0, .int .u8 0, .int .u8 0, .int .u8 0, .int .u8 0] 76)) := by repeat (first | exact bA | with_reducible assumption | apply bB)
 have hszn : w.heap.size + 2 ≤ ((w.alloc (.cells #[.int .u8 k, .int .u8 f, .int .i64 b, .int .i64 l, .int .i64 m, .int .i64 c, .int .i64 p, .string s] 62)).alloc (.cells #[.slice none 0 0, .int .i64 0, .int .u8 0, .int .u8 0, .int .u8 0, .int .u8 0, .int .u8 0, .int .u8 0, .int .u8 0, .int .u8 0, .int .u8 0, .int .u8 0, .int .u8 0, .int .u8 0, .int .u8 0, .int .u8 0, .int .u8 0, .int .u8 0] 76)).heap.size := by simp only [World.size_alloc]; omega
 generalize ((w.alloc (.cells #[.int .u8 k, .int .u8 f, .int .i64 b, .int .i64 l, .int .i64 m, .int .i64 c, .int .i64 p, .string s] 62)).alloc (.cells #[.slice none 0 0, .int .i64 0, .int .u8 0, .int .u8 0, .int .u8 0, .int .u8 0, .int .u8 0, .int .u8 0, .int .u8 0, .int .u8 0, .int .u8 0, .int .u8 0, .int .u8 0, .int .u8 0, .int .u8 0, .int .u8 0, .int .u8 0, .int .u8 0] 76)) = w1 at hT hr hb00 hszn ⊢
 obtain ⟨⟨T0, T1, T2, T3, T4, T5, T6, T7⟩, ⟨T8, T9, T10, T11, T12, T13, T14, T15⟩, T16⟩ := hT.get8
 go_upto_region 3 with (first
  | (go_at_call 43; refine (HC.out _).mono ?_; rintro e w2 ⟨rfl, hb2⟩; replace hb00 := bl_call hb00 (Nat.le_refl _) hb2; replace hT := hT.call hb2; replace hr := hr.call hb2; clear T0 T1 T2 T3 T4 T5 T6 T7 T8 T9 T10 T11 T12 T13 T14 T15 T16; clear hb2; obtain ⟨⟨T0, T1, T2, T3, T4, T5, T6, T7⟩, ⟨T8, T9, T10, T11, T12, T13, T14, T15⟩, T16⟩ := hT.get8))
 have hst := hr.storeT (k := z16) (v := .slice none 0 0) (m := 0) z16_length z16_length rfl
 have HR := Lib.hid (hr.setT (k := z16) (v := .slice none 0 0) (m := 0) z16_length z16_length)
 have HB := Lib.hid (bl_setCells hb00 (b := w.heap.size + 1) (by omega) 0 (totL (.slice none 0 0) 0 z16))
 clear hr hb00
 go_upto_region 3 with fail
 refine wp_region_lit ?_
 refine wpList_valD (some 14) rfl rfl (exec_build rfl (by kernel_rfl) (build_total0 _)) ?_
 simp only [Zp, Zq, Zr, Zs]
 refine wpList_valD (some 15) rfl rfl (by (go_simp; first | with_reducible rfl | exact ⟨rfl, rfl⟩ | (trace_state; fail))) ?_
 simp only [Zp, Zq, Zr, Zs]
 refine wpList_skipD rfl rfl (exec_store rfl (by kernel_rfl) (by kernel_rfl) hst) ?_
 refine wpList_valD (some 5) rfl rfl (by (go_simp; first | with_reducible rfl | exact ⟨rfl, rfl⟩ | (trace_state; fail))) ?_
 simp only [Zp, Zq, Zr, Zs]
 go_upto_region 99 with fail
 exact bodyPost_ret (results_totalE (b := w.heap.size + 1) HR.out z16_length rfl rfl) rfl ⟨rfl, HB.out⟩

end Go.Proofs.Ytbakkmfjamcbfaa

namespace Go.Proofs.Ytbakkmfjamcbfaa
open Go.RowKit Fm
set_option linter.unusedVariables false
set_option maxRecDepth 100000

section
variable {P : Program} {ops : Array Oper} {Q : Exit → Act → World → Prop} {md : Region.Mode} {n m : Nat} {L : Act → World → Prop} {f : Nat} {listed : Array Bool} {a : Act} {T S : World → Prop}
theorem WpX.twoSkip (i k : Nat) (d d' : Option Tmp) {oi ok : Oper} (hi : ops[i]? = some oi) (hd : oi.dst = d) (hk : ops[k]? = some ok) (hd' : ok.dst = d') (hB : (decide (i < n) && decide (k < n) && decide (Region.ready md ops listed = [i, k])) = true)
  {ι : Type} (F : ι → Value) (T' S' : ι → World → Prop) (hy : Turns P ops T S F T' S' oi a)
  (T'' S'' : World → Prop) (hT : ∀ w, T'' w → T w) (hST : ∀ w, S'' w → T'' w) (hC' : Clo S'') (hw : Region.wanted ok (yielded ops a.tmps) = true) (hop : ∀ w, S w → ∃ w', (execOp a.eval ok).run P w = .ok .skip w' ∧ S'' w')
  (h : ∀ x, WpX P md ops Q n m L f (listed.setIfInBounds i true) (a.put d (F x)) (T' x) (S' x))
  (h' : WpX P md ops Q n m L f (listed.setIfInBounds k true) (a.put d' undef) T'' S'') : WpX P md ops Q n m L (f + 1) listed a T S := by
 subst hd
 subst hd'
 simp only [Bool.and_eq_true, decide_eq_true_eq] at hB
 obtain ⟨⟨hin, hkn⟩, hr⟩ := hB
 intro hS0 hC hp inv
 refine ⟨by rw [hr]; simp, fun j hj => ?_⟩
 have hj' : j = i ∨ j = k := by rw [hr] at hj; simpa using hj
 rcases hj' with rfl | rfl
 ·refine ⟨hin, fun w hS => hy.wpOp hi hS fun x w' hS' => ?_⟩
  exact ⟨T' x, S' x, hy.2.1 x, hy.2.2.1 x, hy.2.2.2.1 x, hS', h x (hy.2.2.1 x) (hy.2.2.2.1 x) hp (inv.set hj hin hp.lt)⟩
 ·refine ⟨hkn, fun w hS => ?_⟩
  obtain ⟨w', hrun, hS'⟩ := hop w hS
  unfold Go.wpOp
  simp only [hk, hw, if_true]
  refine .inl ?_
  unfold Oper.wp
  rw [hrun]
  exact ⟨T'', S'', hT, hST, hC', hS', h' hST hC' hp (inv.set hj hkn hp.lt)⟩
end

def TeT (w0 : World) (xb : Nat) (o1 o2 : Option Nat) (wz : World) : Prop := Exc (fun q => q = xb) w0.heap.size w0 wz
structure TeK (w0 : World) (xb n : Nat) (v : Value) (M : Int) (K : List Int) (zs : List E) (o1 o2 : Option Nat) (s : Bool) (wz : World) : Prop where
 t : Exc (fun q => q = xb) w0.heap.size w0 wz
 l : xb < w0.heap.size
 a : ∀ g, o1 = some g → w0.heap.size ≤ g ∧ BlkE wz g zs
 b : ∀ g, o2 = some g → w0.heap.size ≤ g ∧ BlkE wz g zs
 v : s = false → Vs wz xb (totL v M K)
 u : s = true → ∀ g, o1 = some g → Vs wz xb (totL (.slice (some ⟨g, 0, none⟩) n n) M K)
section
variable {w0 w w' : World} {xb n : Nat} {v : Value} {M : Int} {K : List Int} {zs : List E} {o1 o2 : Option Nat} {s : Bool}
theorem TeK.weak (o1 o2 : Option Nat) (s : Bool) (w : World) (h : TeK w0 xb n v M K zs o1 o2 s w) : TeT w0 xb o1 o2 w := h.t
theorem TeK.clo : Clo (TeK w0 xb n v M K zs o1 o2 s) := fun w w' h hb => ⟨h.t.call hb, h.l, fun g e => ⟨(h.a g e).1, (h.a g e).2.call hb⟩, fun g e => ⟨(h.b g e).1, (h.b g e).2.call hb⟩, fun e => (h.v e).call hb, fun e g e2 => (h.u e g e2).call hb⟩
theorem TeK.start (h : Vs w0 xb (totL v M K)) : TeK w0 xb n v M K zs none none false w0.drew :=
 ⟨exc_of ((Below.refl _ _).drew), h.lt, fun _ e => (by cases e), fun _ e => (by cases e), fun _ => h.drew, fun e => (by cases e)⟩
theorem TeK.mkA {cs : Array Value} (h : TeK w0 xb n v M K zs none o2 false w) (hc : cs = (cellsE zs).toArray) : TeK w0 xb n v M K zs (some w.heap.size) o2 false (w.alloc (.cells cs 99)) := by
 have h2 := TeK.clo _ _ h ((Below.refl w.heap.size w).alloc (Nat.le_refl _) (.cells cs 99))
 refine ⟨h2.t, h2.l, fun g e => ?_, h2.b, h2.v, fun e => (by cases e)⟩
 injection e with e
 subst e
 exact ⟨h.t.size, BlkE.new w zs cs hc⟩
theorem TeK.mkB {cs : Array Value} (h : TeK w0 xb n v M K zs o1 none s w) (hc : cs = (cellsE zs).toArray) : TeK w0 xb n v M K zs o1 (some w.heap.size) s (w.alloc (.cells cs 99)) := by
 have h2 := TeK.clo _ _ h ((Below.refl w.heap.size w).alloc (Nat.le_refl _) (.cells cs 99))
 refine ⟨h2.t, h2.l, h2.a, fun g e => ?_, h2.v, h2.u⟩
 injection e with e
 subst e
 exact ⟨h.t.size, BlkE.new w zs cs hc⟩
theorem BlkE.far1 {g b i : Nat} {xs : List E} (h : BlkE w g xs) (hb : b ≠ g) (x : Value) : BlkE (w.setCell ⟨b, i, none⟩ x) g xs := (Below.heap_setCell w ⟨b, i, none⟩ x g (fun e => hb e.symm)).trans h
theorem Vs.totPutS (h : Vs w xb (totL v M K)) (u : Value) : Vs (w.setCell ⟨xb, 0, none⟩ u) xb (totL u M K) := h.put 0 (Nat.zero_lt_succ _) u
theorem TeK.put {g : Nat} (h : TeK w0 xb n v M K zs (some g) o2 false w) : TeK w0 xb n v M K zs (some g) o2 true (w.setCell ⟨xb, 0, none⟩ (.slice (some ⟨g, 0, none⟩) n n)) := by
 have hl := h.l
 refine ⟨exc_sc h.t (.inl rfl) 0 _, h.l, fun q e => ⟨(h.a q e).1, (h.a q e).2.far1 (by have := (h.a q e).1; omega) _⟩, fun q e => ⟨(h.b q e).1, (h.b q e).2.far1 (by have := (h.b q e).1; omega) _⟩, fun e => (by cases e), fun _ q e => ?_⟩
 injection e with e
 subst e
 exact (h.v rfl).totPutS _
end

/-! ### a region that makes a row, asks for a total, and stores it into a new variable -/
def AnT (w0 : World) (o1 : Option Nat) (o2 : Option (Value × Int × List Int)) (o3 : Option Nat) (wz : World) : Prop := Below w0.heap.size w0 wz
structure AnK (w0 : World) (zs : List E) (o1 : Option Nat) (o2 : Option (Value × Int × List Int)) (o3 : Option Nat) (s : Bool) (wz : World) : Prop where
 t : Below w0.heap.size w0 wz
 a : ∀ g, o1 = some g → w0.heap.size ≤ g ∧ BlkE wz g zs
 b : ∀ q, o2 = some q → q.1.oneCell' = true ∧ q.2.2.length = 16
 c : ∀ x, o3 = some x → w0.heap.size ≤ x ∧ (s = false → Vs wz x (totL (.slice none 0 0) 0 z16))
section
variable {w0 w w' : World} {zs : List E} {o1 : Option Nat} {o2 : Option (Value × Int × List Int)} {o3 : Option Nat} {s : Bool}
theorem AnK.weak (o1 : Option Nat) (o2 : Option (Value × Int × List Int)) (o3 : Option Nat) (s : Bool) (w : World) (h : AnK w0 zs o1 o2 o3 s w) : AnT w0 o1 o2 o3 w := h.t
theorem AnK.clo : Clo (AnK w0 zs o1 o2 o3 s) := fun w w' h hb => ⟨bl_call h.t (Nat.le_refl _) hb, fun g e => ⟨(h.a g e).1, (h.a g e).2.call hb⟩, h.b, fun x e => ⟨(h.c x e).1, fun e1 => ((h.c x e).2 e1).call hb⟩⟩
theorem AnK.start (w0 : World) : AnK w0 zs none none none false w0.drew := ⟨(Below.refl _ _).drew, fun _ e => (by cases e), fun _ e => (by cases e), fun _ e => (by cases e)⟩
theorem AnK.mkA {cs : Array Value} (h : AnK w0 zs none o2 o3 s w) (hc : cs = (cellsE zs).toArray) : AnK w0 zs (some w.heap.size) o2 o3 s (w.alloc (.cells cs 99)) := by
 have h2 := AnK.clo _ _ h ((Below.refl w.heap.size w).alloc (Nat.le_refl _) (.cells cs 99))
 refine ⟨h2.t, fun g e => ?_, h2.b, h2.c⟩
 injection e with e
 subst e
 exact ⟨h.t.size, BlkE.new w zs cs hc⟩
theorem AnK.mkB (q : Value × Int × List Int) (h : AnK w0 zs o1 none o3 s w) (h1 : q.1.oneCell' = true) (h2 : q.2.2.length = 16) (hb : Below w.heap.size w w') : AnK w0 zs o1 (some q) o3 s w' := by
 have h3 := AnK.clo _ _ h hb
 refine ⟨h3.t, h3.a, fun q' e => ?_, h3.c⟩
 injection e with e
 subst e
 exact ⟨h1, h2⟩
theorem AnK.mkC {cs : Array Value} {t : TypeId} (h : AnK w0 zs o1 o2 none false w) (hc : cs = (totL (.slice none 0 0) 0 z16).toArray) : AnK w0 zs o1 o2 (some w.heap.size) false (w.alloc (.cells cs t)) := by
 have h2 := AnK.clo _ _ h ((Below.refl w.heap.size w).alloc (Nat.le_refl _) (.cells cs t))
 refine ⟨h2.t, h2.a, h2.b, fun x e => ?_⟩
 injection e with e
 subst e
 exact ⟨h.t.size, fun _ => Vs.new w _ cs t hc⟩
theorem AnK.put {x : Nat} (h : AnK w0 zs o1 o2 (some x) false w) (l : List Value) : AnK w0 zs o1 o2 (some x) true (w.setCells x 0 l) := by
 obtain ⟨hx, hv⟩ := h.c x rfl
 refine ⟨bl_setCells h.t hx _ _, fun q e => ⟨(h.a q e).1, (h.a q e).2.farC (fun e2 => blk_vs (h.a q e).2 (hv rfl) e2.symm) _ _⟩, h.b, fun y e => ?_⟩
 injection e with e
 subst e
 exact ⟨hx, fun e1 => (by cases e1)⟩
end

/-! ### a total's check is written -/
theorem Vs.storeTC {w : World} {b : Nat} {v : Value} {m : Int} {k k' : List Int} (h : Vs w b (totL v m k')) (hk' : k'.length = 16) (hk : k.length = 16) : (Instr.storeAt 74 (.pointer (some ⟨b, 2, none⟩)) (.agg (cells8 k).toArray)).run Try.prog w = .ok () (w.setCells b 2 (cells8 k)) :=
 run_storeAt_mid w b 2 74 (cells8 k).toArray (fun j hj => by
  rw [List.size_toArray, cells8_length, hk] at hj
  have h2 := h.totK (i := j) (by rw [hk']; exact hj)
  rw [h2.1]
  exact ⟨rfl, h2.2⟩) (by rw [List.size_toArray, cells8_length, hk]; exact size_check) (all_oneCell_toArray (one8 k))
theorem Vs.setTC {w : World} {b : Nat} {v : Value} {m : Int} {k k' : List Int} (h : Vs w b (totL v m k')) (hk' : k'.length = 16) (hk : k.length = 16) : Vs (w.setCells b 2 (cells8 k)) b (totL v m k) := by
 have hl := totL_length v m hk
 have hl' := totL_length v m hk'
 refine ⟨fun i x hi => ?_, fun i hi => ?_, by rw [size_setCells]; exact h.lt⟩
 ·by_cases h2 : i < 2
  ·rw [World.cell?_setCells_out b (cells8 k) 2 w ⟨b, i, none⟩ (fun _ _ => .inl h2)]
   refine h.cell i x ?_
   match i, h2 with
   | 0, _ => exact hi
   | 1, _ => exact hi
  ·obtain ⟨j, rfl⟩ : ∃ j, i = 2 + j := ⟨i - 2, by omega⟩
   have hj : j < (cells8 k).length := by
    have := (List.getElem?_eq_some_iff.1 hi).1
    rw [hl] at this
    rw [cells8_length, hk]
    omega
   have h1 := World.cell?_setCells_in b (cells8 k) 2 w (fun q hq => by
    rw [cells8_length, hk] at hq
    rw [(h.totK (i := q) (by rw [hk']; exact hq)).1]
    rfl) j hj
   rw [h1]
   have h3 : (totL v m k)[2 + j]? = (cells8 k)[j]? := by
    rw [Nat.add_comm]
    rfl
   rw [h3, List.getElem?_eq_getElem hj] at hi
   exact hi
 ·rw [World.frozen?_setCells]
  exact h.frz i (by rw [hl'] ; rw [hl] at hi; exact hi)

end Go.Proofs.Ytbakkmfjamcbfaa
