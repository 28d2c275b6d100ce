/-
 Both, Task, Task13, ExcA, Bytes, Swap, RegX, RegZ, KeA: what the statements of this layer share.
-/
import Derived.BigQuiet
import Derived.Laws.Bits64b
import Derived.Laws.BytesArg
import Derived.Test.YtbakkmfjamcbfaaKaj
namespace Go.Proofs.Ytbakkmfjamcbfaa
open Go.RowKit Fm
set_option linter.unusedVariables false
set_option maxRecDepth 100000

structure Raw where
 k : Int
 f : Int
 b : Int
 l : Int
 m : Int
 c : Int
def Raw.val (x : Raw) : Value := .agg #[.int .u8 x.k, .int .u8 x.f, .int .i64 x.b, .int .i64 x.l, .int .i64 x.m, .int .i64 x.c]
def Raw.rval (x : Raw) : Value := .agg #[.int .i64 x.k, .int .i64 x.f, .int .i64 x.b, .int .i64 x.l, .int .i64 x.m, .int .i64 x.c]
structure Raw.Is (x : Raw) (F : Nat) (y : CK) : Prop where
 fld : IsF F
 ok : y.ok
 calls : ¬ 511 < y.calls
 val : x.val = y.val F
 rval : x.rval = y.rval F

end Go.Proofs.Ytbakkmfjamcbfaa

namespace Go.Proofs.Ytbakkmfjamcbfaa
open Go.RowKit Fm
set_option linter.unusedVariables false
set_option maxRecDepth 100000

theorem Vs.get8 {w : World} {b : Nat} {x y z p q r s t : Value} (h : Vs w b [x, y, z, p, q, r, s, t]) : (w.cell? ⟨b, 0, none⟩ = some x ∧ w.cell? ⟨b, 1, none⟩ = some y ∧ w.cell? ⟨b, 2, none⟩ = some z ∧ w.cell? ⟨b, 3, none⟩ = some p ∧ w.cell? ⟨b, 4, none⟩ = some q ∧ w.cell? ⟨b, 5, none⟩ = some r ∧ w.cell? ⟨b, 6, none⟩ = some s ∧ w.cell? ⟨b, 7, none⟩ = some t) ∧
  (w.frozen? ⟨b, 0, none⟩ = false ∧ w.frozen? ⟨b, 1, none⟩ = false ∧ w.frozen? ⟨b, 2, none⟩ = false ∧ w.frozen? ⟨b, 3, none⟩ = false ∧ w.frozen? ⟨b, 4, none⟩ = false ∧ w.frozen? ⟨b, 5, none⟩ = false ∧ w.frozen? ⟨b, 6, none⟩ = false ∧ w.frozen? ⟨b, 7, none⟩ = false) ∧ b < w.heap.size :=
 ⟨⟨h.cell 0 _ rfl, h.cell 1 _ rfl, h.cell 2 _ rfl, h.cell 3 _ rfl, h.cell 4 _ rfl, h.cell 5 _ rfl, h.cell 6 _ rfl, h.cell 7 _ rfl⟩, ⟨h.frz 0 (by simp), h.frz 1 (by simp), h.frz 2 (by simp), h.frz 3 (by simp), h.frz 4 (by simp), h.frz 5 (by simp), h.frz 6 (by simp), h.frz 7 (by simp)⟩, h.lt⟩

structure RawT where
 c : Raw
 p : Int
 s : ByteArray
def RawT.val (t : RawT) : Value := .agg #[.int .u8 t.c.k, .int .u8 t.c.f, .int .i64 t.c.b, .int .i64 t.c.l, .int .i64 t.c.m, .int .i64 t.c.c, .int .i64 t.p, .string t.s]

set_option maxHeartbeats 2000000 in
theorem task_Check_of (t : RawT) (n : Int) (HC : ∀ wz, Calls Try.prog 60 #[t.c.val] wz (RetC n wz)) (w : World) :
  Calls Try.prog 43 #[t.val] w (RetC (if n = 0 then (if t.p < 1 ∨ 3 < t.p ∨ 32 < t.s.size then 6 else 0) else n) w) := by
 have HC := Lib.hid HC
 obtain ⟨⟨k, f, b, l, m, c⟩, p, s⟩ := t
 unfold Raw.val at HC
 unfold RawT.val
 dsimp only at HC ⊢
 have hb00 : Below w.heap.size w w := Below.refl _ _
 by_cases hn : n = 0
 ·subst hn
  rw [if_pos rfl]
  by_cases h1 : p < 1
  ·rw [if_pos (.inl h1)]
   go_enter Try.func43, Try.ntmps43
   go_upto_region 1 with fail
   have hx := Vs.new w [.int .u8 k, .int .u8 f, .int .i64 b, .int .i64 l, .int .i64 m, .int .i64 c, .int .i64 p, .string s] #[.int .u8 k, .int .u8 f, .int .i64 b, .int .i64 l, .int .i64 m, .int .i64 c, .int .i64 p, .string s] 62 rfl
   have hbA : Below w.heap.size w (w.alloc (.cells #[.int .u8 k, .int .u8 f, .int .i64 b, .int .i64 l, .int .i64 m, .int .i64 c, .int .i64 p, .string s] 62)) := by repeat (first | exact bA | with_reducible assumption | apply bB)
   replace hb00 := bl_call hb00 (Nat.le_refl _) hbA
   clear hbA
   generalize w.alloc (.cells #[.int .u8 k, .int .u8 f, .int .i64 b, .int .i64 l, .int .i64 m, .int .i64 c, .int .i64 p, .string s] 62) = w1 at hb00 hx ⊢
   obtain ⟨⟨x0, x1, x2, x3, x4, x5, x6, x7⟩, ⟨x8, x9, x10, x11, x12, x13, x14, x15⟩, x16⟩ := hx.get8
   go_wp2_with (first
    | (go_at_call 60; refine (HC.out _).mono ?_; rintro e w2 ⟨rfl, hb2⟩; replace hb00 := bl_call hb00 (Nat.le_refl _) hb2; replace hx := hx.call hb2; clear x0 x1 x2 x3 x4 x5 x6 x7 x8 x9 x10 x11 x12 x13 x14 x15 x16; clear hb2; obtain ⟨⟨x0, x1, x2, x3, x4, x5, x6, x7⟩, ⟨x8, x9, x10, x11, x12, x13, x14, x15⟩, x16⟩ := hx.get8))
   go_ret
   exact ⟨rfl, hb00⟩
  ·by_cases h2 : 3 < p
   ·rw [if_pos (.inr (.inl h2))]
    go_enter Try.func43, Try.ntmps43
    go_upto_region 1 with fail
    have hx := Vs.new w [.int .u8 k, .int .u8 f, .int .i64 b, .int .i64 l, .int .i64 m, .int .i64 c, .int .i64 p, .string s] #[.int .u8 k, .int .u8 f, .int .i64 b, .int .i64 l, .int .i64 m, .int .i64 c, .int .i64 p, .string s] 62 rfl
    have hbA : Below w.heap.size w (w.alloc (.cells #[.int .u8 k, .int .u8 f, .int .i64 b, .int .i64 l, .int .i64 m, .int .i64 c, .int .i64 p, .string s] 62)) := by repeat (first | exact bA | with_reducible assumption | apply bB)
    replace hb00 := bl_call hb00 (Nat.le_refl _) hbA
    clear hbA
    generalize w.alloc (.cells #[.int .u8 k, .int .u8 f, .int .i64 b, .int .i64 l, .int .i64 m, .int .i64 c, .int .i64 p, .string s] 62) = w1 at hb00 hx ⊢
    obtain ⟨⟨x0, x1, x2, x3, x4, x5, x6, x7⟩, ⟨x8, x9, x10, x11, x12, x13, x14, x15⟩, x16⟩ := hx.get8
    go_wp2_with (first
     | (go_at_call 60; refine (HC.out _).mono ?_; rintro e w2 ⟨rfl, hb2⟩; replace hb00 := bl_call hb00 (Nat.le_refl _) hb2; replace hx := hx.call hb2; clear x0 x1 x2 x3 x4 x5 x6 x7 x8 x9 x10 x11 x12 x13 x14 x15 x16; clear hb2; obtain ⟨⟨x0, x1, x2, x3, x4, x5, x6, x7⟩, ⟨x8, x9, x10, x11, x12, x13, x14, x15⟩, x16⟩ := hx.get8))
    go_ret
    exact ⟨rfl, hb00⟩
   ·by_cases h3 : 32 < s.size
    ·rw [if_pos (.inr (.inr h3))]
     go_enter Try.func43, Try.ntmps43
     go_upto_region 1 with fail
     have hx := Vs.new w [.int .u8 k, .int .u8 f, .int .i64 b, .int .i64 l, .int .i64 m, .int .i64 c, .int .i64 p, .string s] #[.int .u8 k, .int .u8 f, .int .i64 b, .int .i64 l, .int .i64 m, .int .i64 c, .int .i64 p, .string s] 62 rfl
     have hbA : Below w.heap.size w (w.alloc (.cells #[.int .u8 k, .int .u8 f, .int .i64 b, .int .i64 l, .int .i64 m, .int .i64 c, .int .i64 p, .string s] 62)) := by repeat (first | exact bA | with_reducible assumption | apply bB)
     replace hb00 := bl_call hb00 (Nat.le_refl _) hbA
     clear hbA
     generalize w.alloc (.cells #[.int .u8 k, .int .u8 f, .int .i64 b, .int .i64 l, .int .i64 m, .int .i64 c, .int .i64 p, .string s] 62) = w1 at hb00 hx ⊢
     obtain ⟨⟨x0, x1, x2, x3, x4, x5, x6, x7⟩, ⟨x8, x9, x10, x11, x12, x13, x14, x15⟩, x16⟩ := hx.get8
     go_wp2_with (first
      | (go_at_call 60; refine (HC.out _).mono ?_; rintro e w2 ⟨rfl, hb2⟩; replace hb00 := bl_call hb00 (Nat.le_refl _) hb2; replace hx := hx.call hb2; clear x0 x1 x2 x3 x4 x5 x6 x7 x8 x9 x10 x11 x12 x13 x14 x15 x16; clear hb2; obtain ⟨⟨x0, x1, x2, x3, x4, x5, x6, x7⟩, ⟨x8, x9, x10, x11, x12, x13, x14, x15⟩, x16⟩ := hx.get8))
     go_ret
     exact ⟨rfl, hb00⟩
    ·rw [if_neg (by omega)]
     go_enter Try.func43, Try.ntmps43
     go_upto_region 1 with fail
     have hx := Vs.new w [.int .u8 k, .int .u8 f, .int .i64 b, .int .i64 l, .int .i64 m, .int .i64 c, .int .i64 p, .string s] #[.int .u8 k, .int .u8 f, .int .i64 b, .int .i64 l, .int .i64 m, .int .i64 c, .int .i64 p, .string s] 62 rfl
     have hbA : Below w.heap.size w (w.alloc (.cells #[.int .u8 k, .int .u8 f, .int .i64 b, .int .i64 l, .int .i64 m, .int .i64 c, .int .i64 p, .string s] 62)) := by repeat (first | exact bA | with_reducible assumption | apply bB)
     replace hb00 := bl_call hb00 (Nat.le_refl _) hbA
     clear hbA
     generalize w.alloc (.cells #[.int .u8 k, .int .u8 f, .int .i64 b, .int .i64 l, .int .i64 m, .int .i64 c, .int .i64 p, .string s] 62) = w1 at hb00 hx ⊢
     obtain ⟨⟨x0, x1, x2, x3, x4, x5, x6, x7⟩, ⟨x8, x9, x10, x11, x12, x13, x14, x15⟩, x16⟩ := hx.get8
     go_wp2_with (first
      | (go_at_call 60; refine (HC.out _).mono ?_; rintro e w2 ⟨rfl, hb2⟩; replace hb00 := bl_call hb00 (Nat.le_refl _) hb2; replace hx := hx.call hb2; clear x0 x1 x2 x3 x4 x5 x6 x7 x8 x9 x10 x11 x12 x13 x14 x15 x16; clear hb2; obtain ⟨⟨x0, x1, x2, x3, x4, x5, x6, x7⟩, ⟨x8, x9, x10, x11, x12, x13, x14, x15⟩, x16⟩ := hx.get8))
     go_ret
     exact ⟨rfl, hb00⟩
 ·rw [if_neg hn]
  have hn1 : (n == 0) = false := by simpa using hn
  have hn2 : (n != 0) = true := by simpa using hn
  clear hn
  go_enter Try.func43, Try.ntmps43
  go_upto_region 1 with fail
  have hx := Vs.new w [.int .u8 k, .int .u8 f, .int .i64 b, .int .i64 l, .int .i64 m, .int .i64 c, .int .i64 p, .string s] #[.int .u8 k, .int .u8 f, .int .i64 b, .int .i64 l, .int .i64 m, .int .i64 c, .int .i64 p, .string s] 62 rfl
  have hbA : Below w.heap.size w (w.alloc (.cells #[.int .u8 k, .int .u8 f, .int .i64 b, .int .i64 l, .int .i64 m, .int .i64 c, .int .i64 p, .string s] 62)) := by repeat (first | exact bA | with_reducible assumption | apply bB)
  replace hb00 := bl_call hb00 (Nat.le_refl _) hbA
  clear hbA
  generalize w.alloc (.cells #[.int .u8 k, .int .u8 f, .int .i64 b, .int .i64 l, .int .i64 m, .int .i64 c, .int .i64 p, .string s] 62) = w1 at hb00 hx ⊢
  obtain ⟨⟨x0, x1, x2, x3, x4, x5, x6, x7⟩, ⟨x8, x9, x10, x11, x12, x13, x14, x15⟩, x16⟩ := hx.get8
  go_wp2_with (first
   | (go_at_call 60; refine (HC.out _).mono ?_; rintro e w2 ⟨rfl, hb2⟩; replace hb00 := bl_call hb00 (Nat.le_refl _) hb2; replace hx := hx.call hb2; clear x0 x1 x2 x3 x4 x5 x6 x7 x8 x9 x10 x11 x12 x13 x14 x15 x16; clear hb2; obtain ⟨⟨x0, x1, x2, x3, x4, x5, x6, x7⟩, ⟨x8, x9, x10, x11, x12, x13, x14, x15⟩, x16⟩ := hx.get8))
  go_ret
  exact ⟨rfl, hb00⟩

section
variable {f : Nat} (hf : IsF f)
include hf

end

end Go.Proofs.Ytbakkmfjamcbfaa

namespace Go.Proofs.Ytbakkmfjamcbfaa
open Go.RowKit Fm
set_option linter.unusedVariables false
set_option maxRecDepth 100000

theorem load_task {w : World} {b : Nat} {x0 x1 x2 x3 x4 x5 x6 x7 : Value} (h : Vs w b [x0, x1, x2, x3, x4, x5, x6, x7]) : (loadVar 62 ⟨b, 0, none⟩).run Try.prog w = .ok (.agg #[x0, x1, x2, x3, x4, x5, x6, x7]) w := by
 obtain ⟨⟨c0, c1, c2, c3, c4, c5, c6, c7⟩, ⟨f0, f1, f2, f3, f4, f5, f6, f7⟩, hl⟩ := h.get8
 go_simp
theorem results_task {fn : Func} {p : Tmp} {tmps : Array Value} {w : World} {b : Nat} {x0 x1 x2 x3 x4 x5 x6 x7 : Value} (hv : Vs w b [x0, x1, x2, x3, x4, x5, x6, x7]) (h : fn.results = #[.cell p 62]) (hp : tmps.getD p undef = .pointer (some ⟨b, 0, none⟩)) :
  (results fn tmps).run Try.prog w = .ok (.agg #[x0, x1, x2, x3, x4, x5, x6, x7]) w := by
 have hl := load_task hv
 rw [Array.getD_eq_getD_getElem?] at hp
 simp only [results, h]
 simp [hp, asAddr, hl]

set_option maxHeartbeats 4000000 in
theorem law13_TaskX (k f b l m c p t : Int) (hk : 0 ≤ k ∧ k ≤ 255) (hf : 0 ≤ f ∧ f ≤ 255) (hb : 0 ≤ b ∧ b ≤ 255) (hl : 0 ≤ l ∧ l ≤ 255) (hm : 0 ≤ m ∧ m ≤ 255) (hc : 0 ≤ c ∧ c ≤ 255) (hp : 0 ≤ p ∧ p ≤ 255) (ht : 0 ≤ t ∧ t ≤ 255) :
  ∃ (F : Nat) (y : CK) (s : ByteArray), IsF F ∧ y.small ∧ s.size ≤ 32 ∧ 1 + f % 2 = (F : Int) ∧ (k % 5 = 0 → y = .count) ∧ (t % 3 = 0 → s = ⟨#[]⟩) ∧ ∀ w, Calls Try.prog 21 #[.agg #[.int .u8 k, .int .u8 f, .int .u8 b, .int .u8 l, .int .u8 m, .int .u8 c, .int .u8 p, .int .u8 t]] w fun e w' =>
   e = .returned (.agg #[.int .u8 (y.k : Nat), .int .u8 F, .int .i64 (y.b : Nat), .int .i64 (y.l : Nat), .int .i64 (y.m : Nat), .int .i64 (y.c : Nat), .int .i64 (1 + p % 3), .string s]) ∧ Below w.heap.size w w' := by
 obtain ⟨F, y, hF, hy, hFf, hyc, hCIR⟩ := law10_CircuitX k f b l m c hk.1 hk.2 hf.1 hf.2 hb.1 hb.2 hl.1 hl.2 hm.1 hm.2 hc.1 hc.2
 have HCIR := Lib.hid hCIR
 unfold CK.val at HCIR
 obtain ⟨s, hs, hS⟩ : ∃ s : ByteArray, s.size ≤ 32 ∧ ((t % 3 = 0 ∧ s = ⟨#[]⟩) ∨ (t % 3 = 1 ∧ s = ⟨#[116]⟩) ∨ (t % 3 = 2 ∧ s = ⟨#[116, 97, 108, 108, 121]⟩)) := by
  rcases (by omega : t % 3 = 0 ∨ t % 3 = 1 ∨ t % 3 = 2) with h | h | h
  ·exact ⟨⟨#[]⟩, by decide, .inl ⟨h, rfl⟩⟩
  ·exact ⟨⟨#[116]⟩, by decide, .inr (.inl ⟨h, rfl⟩)⟩
  ·exact ⟨⟨#[116, 97, 108, 108, 121]⟩, by decide, .inr (.inr ⟨h, rfl⟩)⟩
 refine ⟨F, y, s, hF, hy, hs, hFf, hyc, fun h => (by rcases hS with ⟨_, h2⟩ | ⟨h1, _⟩ | ⟨h1, _⟩ <;> first | exact h2 | omega), fun w => ?_⟩
 clear hFf hyc
 generalize ((y.k : Nat) : Int) = yk at *
 generalize ((y.b : Nat) : Int) = yb at *
 generalize ((y.l : Nat) : Int) = yl at *
 generalize ((y.m : Nat) : Int) = ym at *
 generalize ((y.c : Nat) : Int) = yc at *
 generalize ((F : Nat) : Int) = yf at *
 have hpm : p.tmod 3 = p % 3 := Int.tmod_eq_emod_of_nonneg hp.1
 obtain ⟨pm, hpe⟩ : ∃ pm, p % 3 = pm := ⟨_, rfl⟩
 have hpm0 : 0 ≤ pm ∧ pm ≤ 2 := by omega
 obtain ⟨hpm1, hpm2⟩ := hpm0
 rw [hpe] at hpm ⊢
 have hw1 : IntKind.i64.wrap pm = pm := IntWalk.i64_in _ (by omega)
 have hw2 : IntKind.i64.wrap (1 + pm) = 1 + pm := IntWalk.i64_in _ (by omega)
 have hw3 : IntKind.u8.wrap pm = pm := IntWalk.u8_in _ (by omega)
 clear hy hF hCIR hpe hs
 have hb00 : Below w.heap.size w w := Below.refl _ _
 go_enter Try.func21, Try.ntmps21
 go_upto_region 1 with fail
 have hz := (Vs.new w [.int .u8 k, .int .u8 f, .int .u8 b, .int .u8 l, .int .u8 m, .int .u8 c, .int .u8 p, .int .u8 t] #[.int .u8 k, .int .u8 f, .int .u8 b, .int .u8 l, .int .u8 m, .int .u8 c, .int .u8 p, .int .u8 t] 66 rfl).alloc (.cells #[.int .u8 0, .int .u8 0, .int .i64 0, .int .i64 0, .int .i64 0, .int .i64 0, .int .i64 0, .string ⟨#[]⟩] 62)
 have hr := Vs.new (w.alloc (.cells #[.int .u8 k, .int .u8 f, .int .u8 b, .int .u8 l, .int .u8 m, .int .u8 c, .int .u8 p, .int .u8 t] 66)) [.int .u8 0, .int .u8 0, .int .i64 0, .int .i64 0, .int .i64 0, .int .i64 0, .int .i64 0, .string ⟨#[]⟩] #[.int .u8 0, .int .u8 0, .int .i64 0, .int .i64 0, .int .i64 0, .int .i64 0, .int .i64 0, .string ⟨#[]⟩] 62 rfl
 simp only [World.size_alloc] at hr
 have hb01 : Below w.heap.size w ((w.alloc (.cells #[.int .u8 k, .int .u8 f, .int .u8 b, .int .u8 l, .int .u8 m, .int .u8 c, .int .u8 p, .int .u8 t] 66)).alloc (.cells #[.int .u8 0, .int .u8 0, .int .i64 0, .int .i64 0, .int .i64 0, .int .i64 0, .int .i64 0, .string ⟨#[]⟩] 62)) := by repeat (first | exact bA | with_reducible assumption | apply bB)
 have hszn : w.heap.size + 2 ≤ ((w.alloc (.cells #[.int .u8 k, .int .u8 f, .int .u8 b, .int .u8 l, .int .u8 m, .int .u8 c, .int .u8 p, .int .u8 t] 66)).alloc (.cells #[.int .u8 0, .int .u8 0, .int .i64 0, .int .i64 0, .int .i64 0, .int .i64 0, .int .i64 0, .string ⟨#[]⟩] 62)).heap.size := by simp only [World.size_alloc]; omega
 generalize ((w.alloc (.cells #[.int .u8 k, .int .u8 f, .int .u8 b, .int .u8 l, .int .u8 m, .int .u8 c, .int .u8 p, .int .u8 t] 66)).alloc (.cells #[.int .u8 0, .int .u8 0, .int .i64 0, .int .i64 0, .int .i64 0, .int .i64 0, .int .i64 0, .string ⟨#[]⟩] 62)) = w1 at hz hr hb01 hszn ⊢
 clear hb00
 rcases hS with ⟨hq, rfl⟩ | ⟨hq, rfl⟩ | ⟨hq, rfl⟩
 ·skip
  have htm : t.tmod 3 = 0 := by rw [Int.tmod_eq_emod_of_nonneg ht.1]; exact hq
  clear hq
  obtain ⟨⟨z0, z1, z2, z3, z4, z5, z6, z7⟩, ⟨z8, z9, z10, z11, z12, z13, z14, z15⟩, z16⟩ := hz.get8
  refine region_G (n := 15) (m := 16) (f := 15) (by kernel_rfl) (by kernel_rfl) rfl ?_
  refine WpG.vD 0 (some 3) ?_ rfl rfl (by kernel_rfl) (fun _ _ _ h => h) rfl (fun wz hwz => ?_) ?_
  rotate_left
  ·go_simp; try (with_reducible rfl)
  simp only [Zp, Zq, Zr, Zs]
  refine WpG.vD 1 (some 4) ?_ rfl rfl (by kernel_rfl) (fun _ _ _ h => h) rfl (fun wz hwz => ?_) ?_
  rotate_left
  ·(obtain ⟨hcz, hfz⟩ := bcell (hwz); go_simp; try (with_reducible rfl))
  simp only [Zp, Zq, Zr, Zs]
  refine WpG.takeD 2 (some 5) rfl rfl (by kernel_rfl) (fun _ _ _ h => h) (.call rfl (fun wz hwz => HCIR.out wz) (fun wz hwz => ?_)) ?_
  ·go_simp; try (with_reducible rfl)
  simp only [Zp, Zq, Zr, Zs]
  refine WpG.vD 3 (some 6) ?_ rfl rfl (by kernel_rfl) (fun _ _ _ h => h) rfl (fun wz hwz => ?_) ?_
  rotate_left
  ·go_simp; try (with_reducible rfl)
  simp only [Zp, Zq, Zr, Zs]
  refine WpG.vD 4 (some 7) ?_ rfl rfl (by kernel_rfl) (fun _ _ _ h => h) rfl (fun wz hwz => ?_) ?_
  rotate_left
  ·(obtain ⟨hcz, hfz⟩ := bcell (hwz); go_simp; try (with_reducible rfl))
  simp only [Zp, Zq, Zr, Zs]
  refine WpG.vD 5 (some 8) ?_ rfl rfl (by kernel_rfl) (fun _ _ _ h => h) rfl (fun wz hwz => ?_) ?_
  rotate_left
  ·go_simp; try (with_reducible rfl)
  simp only [Zp, Zq, Zr, Zs]
  refine WpG.vD 6 (some 9) ?_ rfl rfl (by kernel_rfl) (fun _ _ _ h => h) rfl (fun wz hwz => ?_) ?_
  rotate_left
  ·go_simp; try (with_reducible rfl)
  simp only [Zp, Zq, Zr, Zs]
  refine WpG.vD 7 (some 10) ?_ rfl rfl (by kernel_rfl) (fun _ _ _ h => h) rfl (fun wz hwz => ?_) ?_
  rotate_left
  ·go_simp; try (with_reducible rfl)
  simp only [Zp, Zq, Zr, Zs]
  refine WpG.vD 9 (some 12) ?_ rfl rfl (by kernel_rfl) (fun _ _ _ h => h) rfl (fun wz hwz => ?_) ?_
  rotate_left
  ·go_simp; try (with_reducible rfl)
  simp only [Zp, Zq, Zr, Zs]
  refine WpG.vD 10 (some 13) ?_ rfl rfl (by kernel_rfl) (fun _ _ _ h => h) rfl (fun wz hwz => ?_) ?_
  rotate_left
  ·(obtain ⟨hcz, hfz⟩ := bcell (hwz); go_simp; try (with_reducible rfl))
  simp only [Zp, Zq, Zr, Zs]
  refine WpG.vD 11 (some 14) ?_ rfl rfl (by kernel_rfl) (fun _ _ _ h => h) rfl (fun wz hwz => ?_) ?_
  rotate_left
  ·go_simp; try (with_reducible rfl)
  simp only [Zp, Zq, Zr, Zs]
  refine WpG.oneD 8 (some 11) rfl rfl (by kernel_rfl) (fun b : Nat => Value.slice (some ⟨b, 0, none⟩) 3 3) (fun b wz => w1.heap.size ≤ b ∧ Vs wz b [.string ⟨#[]⟩, .string ⟨#[116]⟩, .string ⟨#[116, 97, 108, 108, 121]⟩]) (fun _ _ _ h hb => ⟨h.1, h.2.call hb⟩) (Fresh.slice 3 3 [.string ⟨#[]⟩, .string ⟨#[116]⟩, .string ⟨#[116, 97, 108, 108, 121]⟩] 9 rfl (fun wz hwz => (hwz).size) (fun wz hwz => by go_simp; try (with_reducible rfl)) (R := fun b wz => Vs wz b [.string ⟨#[]⟩, .string ⟨#[116]⟩, .string ⟨#[116, 97, 108, 108, 121]⟩]) (fun wz hwz => Vs.new wz _ _ _ rfl)) (fun nb w0 hw0 hR0 => ?_)
  simp only [Zp, Zq, Zr, Zs]
  refine WpG.vD 12 (some 15) ?_ rfl rfl (by kernel_rfl) (fun _ _ _ h => h) rfl (fun wz hwz => ?_) ?_
  rotate_left
  ·go_simp; try (with_reducible rfl)
  simp only [Zp, Zq, Zr, Zs]
  refine WpG.vD 13 (some 16) ?_ rfl rfl (by kernel_rfl) (fun _ _ _ h => h) rfl (fun wz hwz => ?_) ?_
  rotate_left
  ·(obtain ⟨hcz, hfz⟩ := bcell (hwz.1); obtain ⟨g0, g1, g2, g3, g4, g5, g6⟩ := (hwz.2).2.get3; go_simp; try (with_reducible rfl))
  simp only [Zp, Zq, Zr, Zs]
  refine WpG.vD 14 (some 17) ?_ rfl rfl (by kernel_rfl) (fun _ _ _ h => h) rfl (fun wz hwz => ?_) ?_
  rotate_left
  ·go_simp; try (with_reducible rfl)
  simp only [Zp, Zq, Zr, Zs]
  refine WpG.done (by kernel_rfl) (fun w2 hS => ?_)
  (try simp only [List.drop_succ_cons]); (try simp only [List.drop_zero]); (try simp only [Nat.reduceSub]); (try simp only [List.take_succ_cons]); (try simp only [List.take_zero])
  obtain ⟨hb2, _⟩ := hS
  clear z0 z1 z2 z3 z4 z5 z6 z7 z8 z9 z10 z11 z12 z13 z14 z15 z16
  replace hb01 := bl_call hb01 (Nat.le_refl _) hb2
  replace hz := hz.call hb2
  replace hr := hr.call hb2
  clear hb2
  have hrl := hr.lt
  obtain ⟨⟨r0, r1, r2, r3, r4, r5, r6, r7⟩, ⟨r8, r9, r10, r11, r12, r13, r14, r15⟩, r16⟩ := hr.get8
  go_wp2_with fail
  have hS8 := ((((((((hr.put 0 (by simp) (.int .u8 yk)).put 1 (by simp) (.int .u8 yf)).put 2 (by simp) (.int .i64 yb)).put 3 (by simp) (.int .i64 yl)).put 4 (by simp) (.int .i64 ym)).put 5 (by simp) (.int .i64 yc)).put 6 (by simp) (.int .i64 (1 + pm))).put 7 (by simp) (.string ⟨#[]⟩))
  have hB8 := (bl_set (p := ⟨w.heap.size + 1, 7, none⟩) (bl_set (p := ⟨w.heap.size + 1, 6, none⟩) (bl_set (p := ⟨w.heap.size + 1, 5, none⟩) (bl_set (p := ⟨w.heap.size + 1, 4, none⟩) (bl_set (p := ⟨w.heap.size + 1, 3, none⟩) (bl_set (p := ⟨w.heap.size + 1, 2, none⟩) (bl_set (p := ⟨w.heap.size + 1, 1, none⟩) (bl_set (p := ⟨w.heap.size + 1, 0, none⟩) hb01 (by dsimp only; omega) (.int .u8 yk)) (by dsimp only; omega) (.int .u8 yf)) (by dsimp only; omega) (.int .i64 yb)) (by dsimp only; omega) (.int .i64 yl)) (by dsimp only; omega) (.int .i64 ym)) (by dsimp only; omega) (.int .i64 yc)) (by dsimp only; omega) (.int .i64 (1 + pm))) (by dsimp only; omega) (.string ⟨#[]⟩))
  simp only [List.set_cons_zero, List.set_cons_succ] at hS8
  exact bodyPost_ret (results_task (b := w.heap.size + 1) hS8 rfl rfl) rfl ⟨rfl, hB8⟩
 ·skip
  have htm : t.tmod 3 = 1 := by rw [Int.tmod_eq_emod_of_nonneg ht.1]; exact hq
  clear hq
  obtain ⟨⟨z0, z1, z2, z3, z4, z5, z6, z7⟩, ⟨z8, z9, z10, z11, z12, z13, z14, z15⟩, z16⟩ := hz.get8
  refine region_G (n := 15) (m := 16) (f := 15) (by kernel_rfl) (by kernel_rfl) rfl ?_
  refine WpG.vD 0 (some 3) ?_ rfl rfl (by kernel_rfl) (fun _ _ _ h => h) rfl (fun wz hwz => ?_) ?_
  rotate_left
  ·go_simp; try (with_reducible rfl)
  simp only [Zp, Zq, Zr, Zs]
  refine WpG.vD 1 (some 4) ?_ rfl rfl (by kernel_rfl) (fun _ _ _ h => h) rfl (fun wz hwz => ?_) ?_
  rotate_left
  ·(obtain ⟨hcz, hfz⟩ := bcell (hwz); go_simp; try (with_reducible rfl))
  simp only [Zp, Zq, Zr, Zs]
  refine WpG.takeD 2 (some 5) rfl rfl (by kernel_rfl) (fun _ _ _ h => h) (.call rfl (fun wz hwz => HCIR.out wz) (fun wz hwz => ?_)) ?_
  ·go_simp; try (with_reducible rfl)
  simp only [Zp, Zq, Zr, Zs]
  refine WpG.vD 3 (some 6) ?_ rfl rfl (by kernel_rfl) (fun _ _ _ h => h) rfl (fun wz hwz => ?_) ?_
  rotate_left
  ·go_simp; try (with_reducible rfl)
  simp only [Zp, Zq, Zr, Zs]
  refine WpG.vD 4 (some 7) ?_ rfl rfl (by kernel_rfl) (fun _ _ _ h => h) rfl (fun wz hwz => ?_) ?_
  rotate_left
  ·(obtain ⟨hcz, hfz⟩ := bcell (hwz); go_simp; try (with_reducible rfl))
  simp only [Zp, Zq, Zr, Zs]
  refine WpG.vD 5 (some 8) ?_ rfl rfl (by kernel_rfl) (fun _ _ _ h => h) rfl (fun wz hwz => ?_) ?_
  rotate_left
  ·go_simp; try (with_reducible rfl)
  simp only [Zp, Zq, Zr, Zs]
  refine WpG.vD 6 (some 9) ?_ rfl rfl (by kernel_rfl) (fun _ _ _ h => h) rfl (fun wz hwz => ?_) ?_
  rotate_left
  ·go_simp; try (with_reducible rfl)
  simp only [Zp, Zq, Zr, Zs]
  refine WpG.vD 7 (some 10) ?_ rfl rfl (by kernel_rfl) (fun _ _ _ h => h) rfl (fun wz hwz => ?_) ?_
  rotate_left
  ·go_simp; try (with_reducible rfl)
  simp only [Zp, Zq, Zr, Zs]
  refine WpG.vD 9 (some 12) ?_ rfl rfl (by kernel_rfl) (fun _ _ _ h => h) rfl (fun wz hwz => ?_) ?_
  rotate_left
  ·go_simp; try (with_reducible rfl)
  simp only [Zp, Zq, Zr, Zs]
  refine WpG.vD 10 (some 13) ?_ rfl rfl (by kernel_rfl) (fun _ _ _ h => h) rfl (fun wz hwz => ?_) ?_
  rotate_left
  ·(obtain ⟨hcz, hfz⟩ := bcell (hwz); go_simp; try (with_reducible rfl))
  simp only [Zp, Zq, Zr, Zs]
  refine WpG.vD 11 (some 14) ?_ rfl rfl (by kernel_rfl) (fun _ _ _ h => h) rfl (fun wz hwz => ?_) ?_
  rotate_left
  ·go_simp; try (with_reducible rfl)
  simp only [Zp, Zq, Zr, Zs]
  refine WpG.oneD 8 (some 11) rfl rfl (by kernel_rfl) (fun b : Nat => Value.slice (some ⟨b, 0, none⟩) 3 3) (fun b wz => w1.heap.size ≤ b ∧ Vs wz b [.string ⟨#[]⟩, .string ⟨#[116]⟩, .string ⟨#[116, 97, 108, 108, 121]⟩]) (fun _ _ _ h hb => ⟨h.1, h.2.call hb⟩) (Fresh.slice 3 3 [.string ⟨#[]⟩, .string ⟨#[116]⟩, .string ⟨#[116, 97, 108, 108, 121]⟩] 9 rfl (fun wz hwz => (hwz).size) (fun wz hwz => by go_simp; try (with_reducible rfl)) (R := fun b wz => Vs wz b [.string ⟨#[]⟩, .string ⟨#[116]⟩, .string ⟨#[116, 97, 108, 108, 121]⟩]) (fun wz hwz => Vs.new wz _ _ _ rfl)) (fun nb w0 hw0 hR0 => ?_)
  simp only [Zp, Zq, Zr, Zs]
  refine WpG.vD 12 (some 15) ?_ rfl rfl (by kernel_rfl) (fun _ _ _ h => h) rfl (fun wz hwz => ?_) ?_
  rotate_left
  ·go_simp; try (with_reducible rfl)
  simp only [Zp, Zq, Zr, Zs]
  refine WpG.vD 13 (some 16) ?_ rfl rfl (by kernel_rfl) (fun _ _ _ h => h) rfl (fun wz hwz => ?_) ?_
  rotate_left
  ·(obtain ⟨hcz, hfz⟩ := bcell (hwz.1); obtain ⟨g0, g1, g2, g3, g4, g5, g6⟩ := (hwz.2).2.get3; go_simp; try (with_reducible rfl))
  simp only [Zp, Zq, Zr, Zs]
  refine WpG.vD 14 (some 17) ?_ rfl rfl (by kernel_rfl) (fun _ _ _ h => h) rfl (fun wz hwz => ?_) ?_
  rotate_left
  ·go_simp; try (with_reducible rfl)
  simp only [Zp, Zq, Zr, Zs]
  refine WpG.done (by kernel_rfl) (fun w2 hS => ?_)
  (try simp only [List.drop_succ_cons]); (try simp only [List.drop_zero]); (try simp only [Nat.reduceSub]); (try simp only [List.take_succ_cons]); (try simp only [List.take_zero])
  obtain ⟨hb2, _⟩ := hS
  clear z0 z1 z2 z3 z4 z5 z6 z7 z8 z9 z10 z11 z12 z13 z14 z15 z16
  replace hb01 := bl_call hb01 (Nat.le_refl _) hb2
  replace hz := hz.call hb2
  replace hr := hr.call hb2
  clear hb2
  have hrl := hr.lt
  obtain ⟨⟨r0, r1, r2, r3, r4, r5, r6, r7⟩, ⟨r8, r9, r10, r11, r12, r13, r14, r15⟩, r16⟩ := hr.get8
  go_wp2_with fail
  have hS8 := ((((((((hr.put 0 (by simp) (.int .u8 yk)).put 1 (by simp) (.int .u8 yf)).put 2 (by simp) (.int .i64 yb)).put 3 (by simp) (.int .i64 yl)).put 4 (by simp) (.int .i64 ym)).put 5 (by simp) (.int .i64 yc)).put 6 (by simp) (.int .i64 (1 + pm))).put 7 (by simp) (.string ⟨#[116]⟩))
  have hB8 := (bl_set (p := ⟨w.heap.size + 1, 7, none⟩) (bl_set (p := ⟨w.heap.size + 1, 6, none⟩) (bl_set (p := ⟨w.heap.size + 1, 5, none⟩) (bl_set (p := ⟨w.heap.size + 1, 4, none⟩) (bl_set (p := ⟨w.heap.size + 1, 3, none⟩) (bl_set (p := ⟨w.heap.size + 1, 2, none⟩) (bl_set (p := ⟨w.heap.size + 1, 1, none⟩) (bl_set (p := ⟨w.heap.size + 1, 0, none⟩) hb01 (by dsimp only; omega) (.int .u8 yk)) (by dsimp only; omega) (.int .u8 yf)) (by dsimp only; omega) (.int .i64 yb)) (by dsimp only; omega) (.int .i64 yl)) (by dsimp only; omega) (.int .i64 ym)) (by dsimp only; omega) (.int .i64 yc)) (by dsimp only; omega) (.int .i64 (1 + pm))) (by dsimp only; omega) (.string ⟨#[116]⟩))
  simp only [List.set_cons_zero, List.set_cons_succ] at hS8
  exact bodyPost_ret (results_task (b := w.heap.size + 1) hS8 rfl rfl) rfl ⟨rfl, hB8⟩
 ·skip
  have htm : t.tmod 3 = 2 := by rw [Int.tmod_eq_emod_of_nonneg ht.1]; exact hq
  clear hq
  obtain ⟨⟨z0, z1, z2, z3, z4, z5, z6, z7⟩, ⟨z8, z9, z10, z11, z12, z13, z14, z15⟩, z16⟩ := hz.get8
  refine region_G (n := 15) (m := 16) (f := 15) (by kernel_rfl) (by kernel_rfl) rfl ?_
  refine WpG.vD 0 (some 3) ?_ rfl rfl (by kernel_rfl) (fun _ _ _ h => h) rfl (fun wz hwz => ?_) ?_
  rotate_left
  ·go_simp; try (with_reducible rfl)
  simp only [Zp, Zq, Zr, Zs]
  refine WpG.vD 1 (some 4) ?_ rfl rfl (by kernel_rfl) (fun _ _ _ h => h) rfl (fun wz hwz => ?_) ?_
  rotate_left
  ·(obtain ⟨hcz, hfz⟩ := bcell (hwz); go_simp; try (with_reducible rfl))
  simp only [Zp, Zq, Zr, Zs]
  refine WpG.takeD 2 (some 5) rfl rfl (by kernel_rfl) (fun _ _ _ h => h) (.call rfl (fun wz hwz => HCIR.out wz) (fun wz hwz => ?_)) ?_
  ·go_simp; try (with_reducible rfl)
  simp only [Zp, Zq, Zr, Zs]
  refine WpG.vD 3 (some 6) ?_ rfl rfl (by kernel_rfl) (fun _ _ _ h => h) rfl (fun wz hwz => ?_) ?_
  rotate_left
  ·go_simp; try (with_reducible rfl)
  simp only [Zp, Zq, Zr, Zs]
  refine WpG.vD 4 (some 7) ?_ rfl rfl (by kernel_rfl) (fun _ _ _ h => h) rfl (fun wz hwz => ?_) ?_
  rotate_left
  ·(obtain ⟨hcz, hfz⟩ := bcell (hwz); go_simp; try (with_reducible rfl))
  simp only [Zp, Zq, Zr, Zs]
  refine WpG.vD 5 (some 8) ?_ rfl rfl (by kernel_rfl) (fun _ _ _ h => h) rfl (fun wz hwz => ?_) ?_
  rotate_left
  ·go_simp; try (with_reducible rfl)
  simp only [Zp, Zq, Zr, Zs]
  refine WpG.vD 6 (some 9) ?_ rfl rfl (by kernel_rfl) (fun _ _ _ h => h) rfl (fun wz hwz => ?_) ?_
  rotate_left
  ·go_simp; try (with_reducible rfl)
  simp only [Zp, Zq, Zr, Zs]
  refine WpG.vD 7 (some 10) ?_ rfl rfl (by kernel_rfl) (fun _ _ _ h => h) rfl (fun wz hwz => ?_) ?_
  rotate_left
  ·go_simp; try (with_reducible rfl)
  simp only [Zp, Zq, Zr, Zs]
  refine WpG.vD 9 (some 12) ?_ rfl rfl (by kernel_rfl) (fun _ _ _ h => h) rfl (fun wz hwz => ?_) ?_
  rotate_left
  ·go_simp; try (with_reducible rfl)
  simp only [Zp, Zq, Zr, Zs]
  refine WpG.vD 10 (some 13) ?_ rfl rfl (by kernel_rfl) (fun _ _ _ h => h) rfl (fun wz hwz => ?_) ?_
  rotate_left
  ·(obtain ⟨hcz, hfz⟩ := bcell (hwz); go_simp; try (with_reducible rfl))
  simp only [Zp, Zq, Zr, Zs]
  refine WpG.vD 11 (some 14) ?_ rfl rfl (by kernel_rfl) (fun _ _ _ h => h) rfl (fun wz hwz => ?_) ?_
  rotate_left
  ·go_simp; try (with_reducible rfl)
  simp only [Zp, Zq, Zr, Zs]
  refine WpG.oneD 8 (some 11) rfl rfl (by kernel_rfl) (fun b : Nat => Value.slice (some ⟨b, 0, none⟩) 3 3) (fun b wz => w1.heap.size ≤ b ∧ Vs wz b [.string ⟨#[]⟩, .string ⟨#[116]⟩, .string ⟨#[116, 97, 108, 108, 121]⟩]) (fun _ _ _ h hb => ⟨h.1, h.2.call hb⟩) (Fresh.slice 3 3 [.string ⟨#[]⟩, .string ⟨#[116]⟩, .string ⟨#[116, 97, 108, 108, 121]⟩] 9 rfl (fun wz hwz => (hwz).size) (fun wz hwz => by go_simp; try (with_reducible rfl)) (R := fun b wz => Vs wz b [.string ⟨#[]⟩, .string ⟨#[116]⟩, .string ⟨#[116, 97, 108, 108, 121]⟩]) (fun wz hwz => Vs.new wz _ _ _ rfl)) (fun nb w0 hw0 hR0 => ?_)
  simp only [Zp, Zq, Zr, Zs]
  refine WpG.vD 12 (some 15) ?_ rfl rfl (by kernel_rfl) (fun _ _ _ h => h) rfl (fun wz hwz => ?_) ?_
  rotate_left
  ·go_simp; try (with_reducible rfl)
  simp only [Zp, Zq, Zr, Zs]
  refine WpG.vD 13 (some 16) ?_ rfl rfl (by kernel_rfl) (fun _ _ _ h => h) rfl (fun wz hwz => ?_) ?_
  rotate_left
  ·(obtain ⟨hcz, hfz⟩ := bcell (hwz.1); obtain ⟨g0, g1, g2, g3, g4, g5, g6⟩ := (hwz.2).2.get3; go_simp; try (with_reducible rfl))
  simp only [Zp, Zq, Zr, Zs]
  refine WpG.vD 14 (some 17) ?_ rfl rfl (by kernel_rfl) (fun _ _ _ h => h) rfl (fun wz hwz => ?_) ?_
  rotate_left
  ·go_simp; try (with_reducible rfl)
  simp only [Zp, Zq, Zr, Zs]
  refine WpG.done (by kernel_rfl) (fun w2 hS => ?_)
  (try simp only [List.drop_succ_cons]); (try simp only [List.drop_zero]); (try simp only [Nat.reduceSub]); (try simp only [List.take_succ_cons]); (try simp only [List.take_zero])
  obtain ⟨hb2, _⟩ := hS
  clear z0 z1 z2 z3 z4 z5 z6 z7 z8 z9 z10 z11 z12 z13 z14 z15 z16
  replace hb01 := bl_call hb01 (Nat.le_refl _) hb2
  replace hz := hz.call hb2
  replace hr := hr.call hb2
  clear hb2
  have hrl := hr.lt
  obtain ⟨⟨r0, r1, r2, r3, r4, r5, r6, r7⟩, ⟨r8, r9, r10, r11, r12, r13, r14, r15⟩, r16⟩ := hr.get8
  go_wp2_with fail
  have hS8 := ((((((((hr.put 0 (by simp) (.int .u8 yk)).put 1 (by simp) (.int .u8 yf)).put 2 (by simp) (.int .i64 yb)).put 3 (by simp) (.int .i64 yl)).put 4 (by simp) (.int .i64 ym)).put 5 (by simp) (.int .i64 yc)).put 6 (by simp) (.int .i64 (1 + pm))).put 7 (by simp) (.string ⟨#[116, 97, 108, 108, 121]⟩))
  have hB8 := (bl_set (p := ⟨w.heap.size + 1, 7, none⟩) (bl_set (p := ⟨w.heap.size + 1, 6, none⟩) (bl_set (p := ⟨w.heap.size + 1, 5, none⟩) (bl_set (p := ⟨w.heap.size + 1, 4, none⟩) (bl_set (p := ⟨w.heap.size + 1, 3, none⟩) (bl_set (p := ⟨w.heap.size + 1, 2, none⟩) (bl_set (p := ⟨w.heap.size + 1, 1, none⟩) (bl_set (p := ⟨w.heap.size + 1, 0, none⟩) hb01 (by dsimp only; omega) (.int .u8 yk)) (by dsimp only; omega) (.int .u8 yf)) (by dsimp only; omega) (.int .i64 yb)) (by dsimp only; omega) (.int .i64 yl)) (by dsimp only; omega) (.int .i64 ym)) (by dsimp only; omega) (.int .i64 yc)) (by dsimp only; omega) (.int .i64 (1 + pm))) (by dsimp only; omega) (.string ⟨#[116, 97, 108, 108, 121]⟩))
  simp only [List.set_cons_zero, List.set_cons_succ] at hS8
  exact bodyPost_ret (results_task (b := w.heap.size + 1) hS8 rfl rfl) rfl ⟨rfl, hB8⟩

theorem law13_Task (k f b l m c p t : Int) (hk : 0 ≤ k ∧ k ≤ 255) (hf : 0 ≤ f ∧ f ≤ 255) (hb : 0 ≤ b ∧ b ≤ 255) (hl : 0 ≤ l ∧ l ≤ 255) (hm : 0 ≤ m ∧ m ≤ 255) (hc : 0 ≤ c ∧ c ≤ 255) (hp : 0 ≤ p ∧ p ≤ 255) (ht : 0 ≤ t ∧ t ≤ 255) :
  ∃ (F : Nat) (y : CK) (s : ByteArray), IsF F ∧ y.small ∧ s.size ≤ 32 ∧ ∀ w, Calls Try.prog 21 #[.agg #[.int .u8 k, .int .u8 f, .int .u8 b, .int .u8 l, .int .u8 m, .int .u8 c, .int .u8 p, .int .u8 t]] w fun e w' =>
   e = .returned (.agg #[.int .u8 (y.k : Nat), .int .u8 F, .int .i64 (y.b : Nat), .int .i64 (y.l : Nat), .int .i64 (y.m : Nat), .int .i64 (y.c : Nat), .int .i64 (1 + p % 3), .string s]) ∧ Below w.heap.size w w' := by
 obtain ⟨F, y, s, h1, h2, h3, _, _, _, h4⟩ := law13_TaskX k f b l m c p t hk hf hb hl hm hc hp ht
 exact ⟨F, y, s, h1, h2, h3, h4⟩

end Go.Proofs.Ytbakkmfjamcbfaa

namespace Go.Proofs.Ytbakkmfjamcbfaa
open Go.RowKit Fm
set_option linter.unusedVariables false
set_option maxRecDepth 100000

structure Exc (S : Nat → Prop) (B : Nat) (w w' : World) : Prop where
 os : w'.os = w.os
 tape : w'.tape = w.tape
 output : w'.output = w.output
 size : w.heap.size ≤ w'.heap.size
 block : ∀ k, k < B → ¬ S k → w'.heap[k]? = w.heap[k]?

section
variable {S : Nat → Prop} {B : Nat} {a w w' w'' : World}
theorem exc_of (h : Below B w w') : Exc S B w w' := ⟨h.os, h.tape, h.output, h.size, fun k hk _ => h.block k hk⟩
theorem Exc.trans (h : Exc S B w w') (k : Exc S B w' w'') : Exc S B w w'' :=
 ⟨k.os.trans h.os, k.tape.trans h.tape, k.output.trans h.output, Nat.le_trans h.size k.size, fun i hi hn => (k.block i hi hn).trans (h.block i hi hn)⟩
theorem Exc.mono {B' : Nat} (h : Exc S B w w') (hB : B' ≤ B) : Exc S B' w w' := ⟨h.os, h.tape, h.output, h.size, fun k hk => h.block k (by omega)⟩
theorem Exc.less {T : Nat → Prop} (h : Exc S B w w') (hT : ∀ k, k < B → S k → T k) : Exc T B w w' := ⟨h.os, h.tape, h.output, h.size, fun k hk hn => h.block k hk fun hs => hn (hT k hk hs)⟩
theorem Exc.below (h : Exc S B w w') (hn : ∀ k, k < B → ¬ S k) : Below B w w' := ⟨h.os, h.tape, h.output, h.size, fun k hk => h.block k hk (hn k hk)⟩
theorem Exc.cell (h : Exc S B w w') {p : Addr} (hp : p.block < B) (hn : ¬ S p.block) : w'.cell? p = w.cell? p := World.cell?_of_block (h.block _ hp hn)
theorem Exc.frozen (h : Exc S B w w') {p : Addr} (hp : p.block < B) (hn : ¬ S p.block) : w'.frozen? p = w.frozen? p := World.frozen?_of_block (h.block _ hp hn)

theorem Exc.call (h : Exc S a.heap.size a w) (k : Below w.heap.size w w') : Exc S a.heap.size a w' := h.trans ((exc_of k).mono h.size)
theorem Exc.more {T : Nat → Prop} (h : Exc S a.heap.size a w) (k : Exc T w.heap.size w w') (hT : ∀ q, T q → S q ∨ a.heap.size ≤ q) : Exc S a.heap.size a w' :=
 h.trans ((k.mono h.size).less fun q hq ht => (hT q ht).resolve_right (by omega))
theorem Exc.st {b : Nat} (h : Exc S B a w) (hp : B ≤ b) (x y : Value) : Exc S B a ((w.setCell ⟨b, 0, none⟩ x).setCell ⟨b, 1, none⟩ y) := h.trans (exc_of (bl_st (Below.refl B w) hp x y))

theorem Exc.one {S' : Nat → Prop} (w : World) {b : Nat} (hb : S' b) (x y : Value) : Exc S' w.heap.size w ((w.setCell ⟨b, 0, none⟩ x).setCell ⟨b, 1, none⟩ y) :=
 ⟨rfl, rfl, rfl, by simp [World.setCell], fun k hk hn => by
  have hne : k ≠ b := fun e => hn (e ▸ hb)
  rw [Below.heap_setCell _ _ y k hne, Below.heap_setCell _ _ x k hne]⟩

def Onl (g : Nat) (w w' : World) : Prop := Exc (fun q => q = g) w.heap.size w w'
theorem Onl.clo (g : Nat) (w : World) : Clo (Onl g w) := fun _ _ h hb => Exc.trans h ((exc_of hb).mono h.size)
theorem Onl.drew (g : Nat) (w : World) : Onl g w w.drew := exc_of ((Below.refl _ _).drew)
theorem Onl.more {g : Nat} (h : Onl g a w) (k : Exc (fun q => q = g) w.heap.size w w') : Onl g a w' := Exc.trans h (k.mono h.size)

structure St (I : (Nat → Prop) → World → Prop) (D : Nat → Prop) (w : World) : Prop where
 here : I D w
 lt : ∀ q, D q → q < w.heap.size
 keep : ∀ w w', I D w → (∀ q, D q → w'.heap[q]? = w.heap[q]?) → I D w'
theorem St.of {I : (Nat → Prop) → World → Prop} {D : Nat → Prop} (h : St I D w) (hs : w.heap.size ≤ w'.heap.size) (hb : ∀ q, D q → w'.heap[q]? = w.heap[q]?) : St I D w' :=
 ⟨h.keep _ _ h.here hb, fun q hq => Nat.lt_of_lt_of_le (h.lt q hq) hs, h.keep⟩
theorem St.call {I : (Nat → Prop) → World → Prop} {D : Nat → Prop} (h : St I D w) (hb : Below w.heap.size w w') : St I D w' := h.of hb.size fun q hq => hb.block q (h.lt q hq)
theorem St.exc {I : (Nat → Prop) → World → Prop} {D : Nat → Prop} (h : St I D w) (hn : ∀ q, D q → ¬ S q) (hb : Exc S w.heap.size w w') : St I D w' := h.of hb.size fun q hq => hb.block q (h.lt q hq) (hn q hq)
theorem St.st {I : (Nat → Prop) → World → Prop} {D : Nat → Prop} (h : St I D w) {b : Nat} (hn : ¬ D b) (x y : Value) : St I D ((w.setCell ⟨b, 0, none⟩ x).setCell ⟨b, 1, none⟩ y) :=
 h.of (by simp [World.setCell]) fun q hq => by
  have hne : q ≠ b := fun e => hn (e ▸ hq)
  rw [Below.heap_setCell _ _ y q hne, Below.heap_setCell _ _ x q hne]

theorem cell_exc {p : Addr} {v : Value} (h : w.cell? p = some v) (hn : ¬ S p.block) (hb : Exc S w.heap.size w w') : w'.cell? p = some v := (hb.cell (lt_of_cell h) hn).trans h
theorem V2.exc {b : Nat} {u v : Value} (h : V2 w b u v) (hn : ¬ S b) (hb : Exc S w.heap.size w w') : V2 w' b u v :=
 ⟨cell_exc h.c0 hn hb, cell_exc h.c1 hn hb, (hb.frozen (p := ⟨b, 0, none⟩) h.lt hn).trans h.f0, (hb.frozen (p := ⟨b, 1, none⟩) h.lt hn).trans h.f1, Nat.lt_of_lt_of_le h.lt hb.size⟩
theorem Vs.exc {b : Nat} {cs : List Value} (h : Vs w b cs) (hn : ¬ S b) (hb : Exc S w.heap.size w w') : Vs w' b cs :=
 ⟨fun i v hi => cell_exc (h.cell i v hi) hn hb, fun i hi => (hb.frozen (p := ⟨b, i, none⟩) h.lt hn).trans (h.frz i hi), Nat.lt_of_lt_of_le h.lt hb.size⟩
theorem V2.ask {T : Nat → Prop} {b : Nat} {u v : Value} (h : V2 w b u v) (hn : ¬ S b) (hb : Exc S w.heap.size w w') (hT : ∀ q, T q → S q ∨ w.heap.size ≤ q) : V2 w' b u v ∧ ¬ T b :=
 ⟨h.exc hn hb, fun ht => (hT b ht).elim hn fun h2 => by have := h.lt; omega⟩
theorem Vs.ask {T : Nat → Prop} {b : Nat} {cs : List Value} (h : Vs w b cs) (hn : ¬ S b) (hb : Exc S w.heap.size w w') (hT : ∀ q, T q → S q ∨ w.heap.size ≤ q) : Vs w' b cs ∧ ¬ T b :=
 ⟨h.exc hn hb, fun ht => (hT b ht).elim hn fun h2 => by have := h.lt; omega⟩
theorem BlkE.exc {b : Nat} {xs : List E} (h : BlkE w b xs) (hn : ¬ S b) (hb : Exc S w.heap.size w w') : BlkE w' b xs := (hb.block b h.lt hn).trans h
theorem RowE.exc {b o : Nat} {xs : List E} (h : RowE w b o xs) (hn : ¬ S b) (hb : Exc S w.heap.size w w') : RowE w' b o xs :=
 fun i e hi => ⟨cell_exc (h i e hi).1 hn hb, cell_exc (h i e hi).2 hn hb⟩

def SlX {f : Nat} (S : Nat → Prop) (w : World) (v : Value) (l : KL f) : Prop :=
 ∃ (A : Option Addr) (c : Nat), v = .slice A l.length c ∧ l.length ≤ c ∧ c ≤ 9223372036854775807 ∧ (0 < l.length → ∃ b o, A = some ⟨b, o, none⟩ ∧ b < w.heap.size ∧ ¬ S b ∧ RowE w b o (esK l))

variable {f : Nat} {v : Value} {l : KL f}
theorem SlX.toK (h : SlX S w v l) : SlK w w.heap.size v l := by
 obtain ⟨A, c, hv, h1, h2, h3⟩ := h
 refine ⟨A, c, hv, h1, h2, fun hl => ?_⟩
 obtain ⟨b, o, k1, k2, _, k3⟩ := h3 hl
 exact ⟨b, o, k1, k2, k3⟩
theorem SlX.exc (h : SlX S w v l) (hb : Exc S w.heap.size w w') : SlX S w' v l := by
 obtain ⟨A, c, hv, h1, h2, h3⟩ := h
 refine ⟨A, c, hv, h1, h2, fun hl => ?_⟩
 obtain ⟨b, o, k1, k2, k3, k4⟩ := h3 hl
 exact ⟨b, o, k1, Nat.lt_of_lt_of_le k2 hb.size, k3, k4.exc k3 hb⟩
theorem SlX.call (h : SlX S w v l) (hb : Below w.heap.size w w') : SlX S w' v l := h.exc (exc_of hb)
theorem SlK.out {B : Nat} (h : SlK w B v l) (hB : B ≤ w.heap.size) (hS : ∀ b, S b → B ≤ b) : SlX S w v l := by
 obtain ⟨A, c, hv, h1, h2, h3⟩ := h
 refine ⟨A, c, hv, h1, h2, fun hl => ?_⟩
 obtain ⟨b, o, k1, k2, k3⟩ := h3 hl
 exact ⟨b, o, k1, by omega, fun hs => by have := hS b hs; omega, k3⟩
theorem SlX.at {A : Option Addr} {n c k : Nat} {x : Fin (Pm f)} (h : SlX S w (.slice A n c) l) (hk : l[k]? = some x) : ∃ b o, A = some ⟨b, o, none⟩ ∧ b < w.heap.size ∧ w.cell? ⟨b, o + k * 2, none⟩ = some (.int .u64 (lo x)) ∧ w.cell? ⟨b, o + k * 2 + 1, none⟩ = some (.int .u64 (hi x)) := by
 obtain ⟨A', c', hv, h1, h2, h3⟩ := h
 obtain ⟨b, o, k1, k2, _, k4⟩ := h3 (by have := (List.getElem?_eq_some_iff.1 hk).1; omega)
 injection hv with e1 e2 e3
 exact ⟨b, o, e1.trans k1, k2, (k4.kat hk).1, (k4.kat hk).2⟩
theorem SlX.of {b o n c : Nat} (hn : l.length = n) (hc : n ≤ c) (hm : c ≤ 9223372036854775807) (hb : b < w.heap.size) (hS : ¬ S b) (hr : RowE w b o (esK l)) : SlX S w (.slice (some ⟨b, o, none⟩) n c) l := by
 subst hn
 exact ⟨_, _, rfl, hc, hm, fun _ => ⟨b, o, rfl, hb, hS, hr⟩⟩
end

end Go.Proofs.Ytbakkmfjamcbfaa

namespace Go.Proofs.Ytbakkmfjamcbfaa
open Go.RowKit Fm
set_option linter.unusedVariables false
set_option maxRecDepth 100000

def cells8 (xs : List Int) : List Value := xs.map (.int .u8)
theorem cells8_length (xs : List Int) : (cells8 xs).length = xs.length := List.length_map ..
theorem cells8_at {xs : List Int} {i : Nat} {e : Int} (h : xs[i]? = some e) : (cells8 xs)[i]? = some (.int .u8 e) := by unfold cells8; rw [List.getElem?_map, h]; rfl

end Go.Proofs.Ytbakkmfjamcbfaa

namespace Go.Proofs.Ytbakkmfjamcbfaa
open Go.RowKit Fm Go.ChangeShapes Go.WideShapes Go.Deep
set_option linter.unusedVariables false
set_option maxRecDepth 100000

theorem cells8_append (xs ys : List Int) : cells8 (xs ++ ys) = cells8 xs ++ cells8 ys := by unfold cells8; rw [List.map_append]

def RowB (w : World) (b o : Nat) (xs : List Int) : Prop := ∀ (i : Nat) (e : Int), xs[i]? = some e → w.cell? ⟨b, o + i, none⟩ = some (.int .u8 e)
theorem infoU8 : (Try.prog.info? 5).map (fun i => (i.zero, i.size, i.bytes)) = some (some (.int .u8 0), 1, 1) := by kernel_rfl

theorem RowB.cells {w : World} {b o : Nat} {xs : List Int} (h : RowB w b o xs) (j : Nat) (u : Value) (hu : (cells8 xs)[j]? = some u) : w.cell? ((⟨b, o, none⟩ : Addr).add j) = some u := by
 have ha : (⟨b, o, none⟩ : Addr).add j = ⟨b, o + j, none⟩ := by
  unfold Addr.add
  split <;> simp_all
 rw [ha]
 unfold cells8 at hu
 rw [List.getElem?_map] at hu
 cases hx : xs[j]? with
 | none => rw [hx] at hu; cases hu
 | some e =>
  rw [hx] at hu
  injection hu with hu
  subst hu
  exact h j e hx

theorem oneCell_cells8 (xs : List Int) : ∀ u, u ∈ cells8 xs → u.oneCell' = true := by
 intro u h
 unfold cells8 at h
 rw [List.mem_map] at h
 obtain ⟨e, _, rfl⟩ := h
 rfl

theorem run_append_B (w : World) (base : Nat) (ty : TypeId) (v : Value) (n : Nat) (xs : List Int) (hown : w.ownsRow base 5 1 v n (cells8 xs)) (A : Option Addr) (m c : Nat) (ys : List Int)
  (hm : ys.length = m) (hy : 0 < m → ∃ b o, A = some ⟨b, o, none⟩ ∧ RowB w b o ys) (hbound : n + m ≤ 1099511627776) (hbase : base ≤ w.heap.size) :
  ∃ v' w', (Builtin.append_ #[28, 28] ty #[v, .slice A m c]).run Try.prog w = .ok v' w' ∧ w'.ownsRow base 5 1 v' (n + m) (cells8 (xs ++ ys)) ∧ w.grownBy w' v.ownBlock ∧
   (v'.ownBlock = v.ownBlock ∨ v'.ownBlock = some w.heap.size) := by
 obtain ⟨i, hi, hz, h1, h2⟩ := info_parts infoU8
 rw [cells8_append]
 rcases A with _ | ad
 ·have hm0 : m = 0 := by
   rcases Nat.eq_zero_or_pos m with h0 | h0
   ·exact h0
   ·obtain ⟨b, o, h, _⟩ := hy h0
    cases h
  subst hm0
  obtain rfl : ys = [] := List.eq_nil_of_length_eq_zero hm
  refine ⟨v, w, ?_, by simpa [cells8] using hown, World.grownBy.refl w _, .inl rfl⟩
  rcases hown.2 with ⟨rfl, rfl⟩ | ⟨g, cap, cur, rfl, _, _, hnc, _⟩
  ·simp [Builtin.append_, run_underlying Try.underlying28, sizeOf, typeInfo, hi, Builtin.lenOf, Builtin.firstCells]
  ·simp [Builtin.append_, run_underlying Try.underlying28, sizeOf, typeInfo, hi, Builtin.lenOf, Builtin.firstCells, hnc, storeCells]
 ·have hcells : ∀ j u, (cells8 ys)[j]? = some u → w.cell? (ad.add j) = some u := by
   intro j u hu
   rcases Nat.eq_zero_or_pos m with h0 | h0
   ·subst h0
    obtain rfl : ys = [] := List.eq_nil_of_length_eq_zero hm
    simp [cells8] at hu
   ·obtain ⟨b, o, h, hr⟩ := hy h0
    injection h with h
    subst h
    exact hr.cells j u hu
  obtain ⟨v', w', hrun, h3, h4, _, h5⟩ := run_append_own_at (P := Try.prog) w base 28 ty 5 i _ 1 1 Try.underlying28 hi hz h1 h2 rfl (by omega) v n _ hown ad m c (cells8 ys)
   (by rw [cells8_length, hm, Nat.mul_one]) hcells (oneCell_cells8 ys) (by unfold maxLen; omega) (by omega) hbase
  exact ⟨v', w', hrun, h3, h4, h5⟩

theorem wpList_append_B {w : World} {ops : Array Oper} {rest : List Oper} {o : Oper} {a : Act} {Q : Exit → Act → World → Prop} (hgd : o.guard = none) (s x : Operand)
  (ho : o.op = .call { callee := .builtin .append, args := #[s, x], argTypes := #[28, 28] })
  (base : Nat) (v : Value) (n : Nat) (xs : List Int) (hs : a.eval s = v) (hown : w.ownsRow base 5 1 v n (cells8 xs)) (A : Option Addr) (m c : Nat) (ys : List Int) (hx : a.eval x = .slice A m c)
  (hm : ys.length = m) (hy : 0 < m → ∃ b o, A = some ⟨b, o, none⟩ ∧ RowB w b o ys) (hbound : n + m ≤ 1099511627776) (hbase : base ≤ w.heap.size)
  (h : ∀ v' w', w'.ownsRow base 5 1 v' (n + m) (cells8 (xs ++ ys)) → w.grownBy w' v.ownBlock → (v'.ownBlock = v.ownBlock ∨ v'.ownBlock = some w.heap.size) → wpList Try.prog ops Q rest (a.put o.dst v') w') : wpList Try.prog ops Q (o :: rest) a w := by
 obtain ⟨v', w', hrun, h2, h3, h4⟩ := run_append_B w base o.type v n xs hown A m c ys hm hy hbound hbase
 refine wpList_plain hgd fun K hK => ?_
 unfold Oper.wp execOp
 simp only [ho, resolve, invoke, builtin, Sem.run_bind, Sem.run_pure, Result.andThen_ok, List.map_toArray, List.map_cons, List.map_nil, hs, hx, hrun]
 exact hK _ _ (h v' w' h2 h3 h4)


section
variable {f : Nat} (hf : IsF f)
include hf

omit hf in
theorem zip_esK (op : Int → Int → Int) (ok : Fin (Pm f) → Fin (Pm f) → Fin (Pm f)) (h : ∀ x y : Int, kI (Pm f) (op x y) = ok (kI (Pm f) x) (kI (Pm f) y)) (m : Int) (hm : m = (Pm f : Int)) :
  ∀ (a b : KL f), zipO op f m (esK a) (esK b) = esK (List.zipWith ok a b)
 | [], _ => rfl
 | _ :: _, [] => rfl
 | x :: a, y :: b => by
  have ih := zip_esK op ok h m hm a b
  unfold zipO at ih ⊢
  rw [esK_cons, esK_cons, List.zipWith_cons_cons, List.zipWith_cons_cons, esK_cons, ih]
  congr 1
  have h1 : nI (f : Int) (eK x).1 (eK x).2 = nI (f : Int) (lo x) (hi x) := rfl
  have h2 : nI (f : Int) (eK y).1 (eK y).2 = nI (f : Int) (lo y) (hi y) := rfl
  rw [h1, h2, hm, ← eK_kI, h, kI_nI, kI_nI, kL_lohi, kL_lohi]
def addL (a b : KL f) : KL f := List.zipWith (· + ·) a b
omit hf in
theorem zip_addL (a b : KL f) : zipO (· + ·) f (Pm f : Int) (esK a) (esK b) = esK (addL a b) := zip_esK _ _ (fun x y => kI_add x y) _ rfl a b
def RetSK (zs : KL f) (w : World) (e : Ending) (w' : World) : Prop :=
 ∃ g, e = .returned (.tuple #[.slice (some ⟨g, 0, none⟩) zs.length zs.length, .int .i64 0]) ∧ BlkE w' g (esK zs) ∧ w.heap.size ≤ g ∧ Below w.heap.size w w'

theorem field_AddVecK (va vb : Value) (a b : KL f) (w : World) (ha : SlK w w.heap.size va a) (hb : SlK w w.heap.size vb b) (hl : a.length = b.length) (hn : a.length ≤ 1000000) :
  Calls Try.prog 58 #[.int .u8 f, va, vb] w (RetSK (addL a b) w) :=
 (field_AddVec f _ (FM.ofN hf) va vb (esK a) (esK b) w ha.toE hb.toE (by rw [esK_length, esK_length, hl]) (by rw [esK_length]; omega)).mono fun e w' ⟨g, he, hB, h1, h2⟩ => by
  rw [zip_addL] at he hB
  exact ⟨g, by rw [← esK_length]; exact he, hB, h1, h2⟩
end

end Go.Proofs.Ytbakkmfjamcbfaa

namespace Go.Proofs.Ytbakkmfjamcbfaa
open Go Go.RowKit

section
variable {P : Program} {ops : Array Oper} {Q : Exit → Act → World → Prop} {md : Region.Mode}

def wpX (P : Program) (md : Region.Mode) (ops : Array Oper) (Q : Exit → Act → World → Prop) (n m : Nat) (L : Act → World → Prop) : Nat → Array Bool → Act → (World → Prop) → (World → Prop) → Prop
 | 0, listed, a, _, S => Region.seqB md ops (m - n) n listed = true ∧ ∀ w, S w → L a w
 | f + 1, listed, a, T, S =>
  Region.ready md ops listed ≠ [] ∧
  ∀ i ∈ Region.ready md ops listed, i < n ∧ ∀ w, S w → wpOp P ops Q i (fun a' w' => ∃ T' S' : World → Prop, (∀ w, T' w → T w) ∧ (∀ w, S' w → T' w) ∧ Clo S' ∧ S' w' ∧ wpX P md ops Q n m L f (listed.setIfInBounds i true) a' T' S') a w

theorem wpAny_of_X {n m : Nat} {L : Act → World → Prop} (hL : ∀ listed a w, Region.seqB md ops (m - n) n listed = true → L a w → wpAny P md ops Q (m - n) listed a w) :
  ∀ (f : Nat) (listed : Array Bool) (a : Act) (T S : World → Prop), wpX P md ops Q n m L f listed a T S → ∀ w, S w → wpAny P md ops Q (f + (m - n)) listed a w
 | 0, listed, a, T, S, h, w, hS => by rw [Nat.zero_add]; exact hL _ _ _ h.1 (h.2 w hS)
 | f + 1, listed, a, T, S, h, w, hS => by
  rw [show f + 1 + (m - n) = (f + (m - n)) + 1 by omega]
  refine ⟨fun h0 => absurd h0 h.1, fun i hi => wpOp_mono (fun a' w' h' => ?_) ((h.2 i hi).2 w hS)⟩
  obtain ⟨T', S', _, _, _, hS', hG⟩ := h'
  exact wpAny_of_X hL f _ a' T' S' hG w' hS'

theorem wpX_first {n m : Nat} {L : Act → World → Prop} (hp : Parts md ops n m) {i : Nat} {oi : Oper} {v : Value} (hi : ops[i]? = some oi) (hin : i < n)
  (hQ : ∀ c a w, Q (.panic c) (a.put oi.dst v) w → Q (.panic c) a w) :
  ∀ (f : Nat) (listed : Array Bool) (a : Act) (T S : World → Prop), (∀ w, S w → T w) → Clo S → HInv md ops n m listed →
   (∀ j oj, ops[j]? = some oj → j ≠ i → listed.getD j true = false → (∀ e ∈ oj.after, Region.binds md e = true → e.on ≠ i) → oi.apart ops oj = true) →
   i ∈ Region.ready md ops listed → Det P ops T oi v a →
   wpX P md ops Q n m L f (listed.setIfInBounds i true) (a.put oi.dst v) T S → wpX P md ops Q n m L (f + 1) listed a T S := by
 have hsel := Region.noSelect_spec hp.nosel
 intro f
 induction f with
 | zero =>
  intro listed a T S hST hC inv _ hr hy H
  have hun := (mem_ready.1 hr).1
  refine ⟨fun h => (by rw [h] at hr; cases hr), fun j hj => ?_⟩
  have hjn : j < n := by
   rcases Nat.lt_or_ge j n with h | h
   ·exact h
   ·exact absurd hj (head_only hp inv _ i rfl hin hun j h)
  refine ⟨hjn, fun w hS => ?_⟩
  by_cases hji : j = i
  ·subst hji
   exact hy.wpOp hi (hST _ hS) fun w' hb => ⟨T, S, fun _ h => h, hST, hC, hC _ _ hS hb, H⟩
  ·have := seqB_ready H.1 j (ready_mono hj hji)
   omega
 | succ f ih =>
  intro listed a T S hST hC inv hfree hr hy H
  have hun := (mem_ready.1 hr).1
  refine ⟨fun h => (by rw [h] at hr; cases hr), fun j hj => ?_⟩
  have hjn : j < n := by
   rcases Nat.lt_or_ge j n with h | h
   ·exact h
   ·exact absurd hj (head_only hp inv _ i rfl hin hun j h)
  refine ⟨hjn, fun w hS => ?_⟩
  by_cases hji : j = i
  ·subst hji
   exact hy.wpOp hi (hST _ hS) fun w' hb => ⟨T, S, fun _ h => h, hST, hC, hC _ _ hS hb, H⟩
  ·have h1 := (H.2 j (ready_mono hj hji)).2 w hS
   obtain ⟨hjun, oj, hoj, hall⟩ := mem_ready.1 hj
   have hnot : ∀ e ∈ oj.after, Region.binds md e = true → e.on ≠ i := fun e he hb heq => by
    have h1 := hall e he hb
    rw [heq, getD_both hun] at h1
    cases h1
   have h2 := wpOp_putDet hoj (hfree j oj hoj hji hjun hnot) (fun cs b => hsel i oi cs b hi) (fun cs b => hsel j oj cs b hoj) hQ hy h1
   have hfree' : ∀ k ok, ops[k]? = some ok → k ≠ i → (listed.setIfInBounds j true).getD k true = false →
     (∀ e ∈ ok.after, Region.binds md e = true → e.on ≠ i) → oi.apart ops ok = true := fun k ok hk hki hu hno => by
    refine hfree k ok hk hki ?_ hno
    by_cases hjk : j = k
    ·subst hjk
     exact hjun
    ·rw [getD_set_ne true hjk] at hu
     exact hu
   refine wpOp_mono (fun a' w' h3 => ?_) h2
   have hcomm : (listed.setIfInBounds i true).setIfInBounds j true = (listed.setIfInBounds j true).setIfInBounds i true := (Array.setIfInBounds_comm _ _ hji).symm
   rw [hcomm] at h3
   obtain ⟨hd, T', S', hT', hST', hC', hS', hG⟩ := h3
   exact ⟨T', S', hT', hST', hC', hS', ih (listed.setIfInBounds j true) a' T' S' hST' hC' (inv.set hj hjn hp.lt) hfree' (ready_mono hr (Ne.symm hji)) (hd.weak hT') hG⟩

def WpX (P : Program) (md : Region.Mode) (ops : Array Oper) (Q : Exit → Act → World → Prop) (n m : Nat) (L : Act → World → Prop) (f : Nat) (listed : Array Bool) (a : Act) (T S : World → Prop) : Prop :=
 (∀ w, S w → T w) → Clo S → Parts md ops n m → HInv md ops n m listed → wpX P md ops Q n m L f listed a T S

variable {n m : Nat} {L : Act → World → Prop} {T S : World → Prop} {f : Nat} {listed : Array Bool} {a : Act}

theorem WpX.takeD (i : Nat) (d : Option Tmp) {oi : Oper} {v : Value} (hi : ops[i]? = some oi) (hd : oi.dst = d)
  (hB : (decide (i < n) && Region.free md ops listed i && (Region.ready md ops listed).contains i) = true)
  (hQ : ∀ c a w, Q (.panic c) (a.put d v) w → Q (.panic c) a w)
  (hy : Det P ops T oi v a)
  (h : WpX P md ops Q n m L f (listed.setIfInBounds i true) (a.put d v) T S) : WpX P md ops Q n m L (f + 1) listed a T S := by
 subst hd
 simp only [Bool.and_eq_true, decide_eq_true_eq] at hB
 obtain ⟨⟨hin, hf⟩, hr⟩ := hB
 have hr' : i ∈ Region.ready md ops listed := by simpa using hr
 exact fun hST hC hp inv => wpX_first hp hi hin hQ f listed a T S hST hC inv (Region.free_spec hi hf) hr' hy (h hST hC hp (inv.set hr' hin hp.lt))

def Turns (P : Program) (ops : Array Oper) (T S : World → Prop) {ι : Type} (F : ι → Value) (T' S' : ι → World → Prop) (o : Oper) (a : Act) : Prop :=
 Region.wanted o (yielded ops a.tmps) = true ∧ (∀ x w, T' x w → T w) ∧ (∀ x w, S' x w → T' x w) ∧ (∀ x, Clo (S' x)) ∧ ∀ w, S w → UponV P (fun v w' => ∃ x, v = F x ∧ S' x w') ((execOp a.eval o).run P w)

theorem WpX.vD (i : Nat) (d : Option Tmp) (v : Value) {oi : Oper} (hi : ops[i]? = some oi) (hd : oi.dst = d)
  (hB : (decide (i < n) && Region.free md ops listed i && (Region.ready md ops listed).contains i) = true)
  (hQ : ∀ c a w, Q (.panic c) (a.put d v) w → Q (.panic c) a w)
  (hw : Region.wanted oi (yielded ops a.tmps) = true) (hv : ∀ w, T w → (execOp a.eval oi).run P w = .ok (.value v) w)
  (h : WpX P md ops Q n m L f (listed.setIfInBounds i true) (a.put d v) T S) : WpX P md ops Q n m L (f + 1) listed a T S :=
 WpX.takeD i d hi hd hB hQ (.val hw hv) h

theorem Turns.val {ι : Type} {F : ι → Value} {T' S' : ι → World → Prop} {o : Oper} (hw : Region.wanted o (yielded ops a.tmps) = true) (hT : ∀ x w, T' x w → T w) (hST : ∀ x w, S' x w → T' x w) (hC : ∀ x, Clo (S' x))
  (h : ∀ w, S w → ∃ x w', (execOp a.eval o).run P w = .ok (.value (F x)) w' ∧ S' x w') : Turns P ops T S F T' S' o a :=
 ⟨hw, hT, hST, hC, fun w hS => by
  obtain ⟨x, w', hr, hS'⟩ := h w hS
  rw [hr]
  exact ⟨x, rfl, hS'⟩⟩
theorem Turns.call {ι : Type} {F : ι → Value} {T' S' : ι → World → Prop} {o : Oper} {g : FuncId} {args : Array Value} (hw : Region.wanted o (yielded ops a.tmps) = true) (hT : ∀ x w, T' x w → T w) (hST : ∀ x w, S' x w → T' x w) (hC : ∀ x, Clo (S' x))
  (hc : ∀ w, S w → Calls P g args w (fun e w' => ∃ x, e = .returned (F x) ∧ S' x w')) (h : ∀ w, S w → (execOp a.eval o).run P w = .ok (.enter g args) w) : Turns P ops T S F T' S' o a :=
 ⟨hw, hT, hST, hC, fun w hS => by
  rw [h w hS]
  exact Calls.mono (hc w hS) fun e w' ⟨x, he, hS'⟩ => ⟨F x, he, x, rfl, hS'⟩⟩

theorem Turns.wpOp {i : Nat} {oi : Oper} (hi : ops[i]? = some oi) {ι : Type} {F : ι → Value} {T' S' : ι → World → Prop} (hy : Turns P ops T S F T' S' oi a) {K : Act → World → Prop} {w : World} (hw : S w)
  (h : ∀ x w', S' x w' → K (a.put oi.dst (F x)) w') : wpOp P ops Q i K a w := by
 unfold Go.wpOp
 simp only [hi]
 simp only [hy.1, if_true]
 refine .inl ?_
 unfold Oper.wp
 refine (hy.2.2.2.2 w hw).upon ?_
 rintro u w' ⟨x, rfl, hR⟩
 exact h x w' hR

theorem WpX.oneD (i : Nat) (d : Option Tmp) {oi : Oper} (hi : ops[i]? = some oi) (hd : oi.dst = d) (hB : (decide (i < n) && decide (Region.ready md ops listed = [i])) = true)
  {ι : Type} (F : ι → Value) (T' S' : ι → World → Prop) (hy : Turns P ops T S F T' S' oi a)
  (h : ∀ x, WpX P md ops Q n m L f (listed.setIfInBounds i true) (a.put d (F x)) (T' x) (S' x)) : WpX P md ops Q n m L (f + 1) listed a T S := by
 subst hd
 simp only [Bool.and_eq_true, decide_eq_true_eq] at hB
 obtain ⟨hin, hr⟩ := hB
 intro hST hC hp inv
 refine ⟨by rw [hr]; simp, fun j hj => ?_⟩
 have hj' : j = i := by rw [hr] at hj; simpa using hj
 subst hj'
 refine ⟨hin, fun w hS => hy.wpOp hi hS fun x w' hS' => ?_⟩
 exact ⟨T' x, S' x, hy.2.1 x, hy.2.2.1 x, hy.2.2.2.1 x, hS', h x (hy.2.2.1 x) (hy.2.2.2.1 x) hp (inv.set hj hin hp.lt)⟩

theorem WpX.twoD (i k : Nat) (d d' : Option Tmp) {oi ok : Oper} (hi : ops[i]? = some oi) (hd : oi.dst = d) (hk : ops[k]? = some ok) (hd' : ok.dst = d') (hB : (decide (i < n) && decide (k < n) && decide (Region.ready md ops listed = [i, k])) = true)
  {ι κ : Type} (F : ι → Value) (T' S' : ι → World → Prop) (hy : Turns P ops T S F T' S' oi a)
  (G : κ → Value) (T'' S'' : κ → World → Prop) (hz : Turns P ops T S G T'' S'' ok a)
  (h : ∀ x, WpX P md ops Q n m L f (listed.setIfInBounds i true) (a.put d (F x)) (T' x) (S' x))
  (h' : ∀ x, WpX P md ops Q n m L f (listed.setIfInBounds k true) (a.put d' (G x)) (T'' x) (S'' x)) : WpX P md ops Q n m L (f + 1) listed a T S := by
 subst hd
 subst hd'
 simp only [Bool.and_eq_true, decide_eq_true_eq] at hB
 obtain ⟨⟨hin, hkn⟩, hr⟩ := hB
 intro hST hC hp inv
 refine ⟨by rw [hr]; simp, fun j hj => ?_⟩
 have hj' : j = i ∨ j = k := by rw [hr] at hj; simpa using hj
 rcases hj' with rfl | rfl
 ·refine ⟨hin, fun w hS => hy.wpOp hi hS fun x w' hS' => ?_⟩
  exact ⟨T' x, S' x, hy.2.1 x, hy.2.2.1 x, hy.2.2.2.1 x, hS', h x (hy.2.2.1 x) (hy.2.2.2.1 x) hp (inv.set hj hin hp.lt)⟩
 ·refine ⟨hkn, fun w hS => hz.wpOp hk hS fun x w' hS' => ?_⟩
  exact ⟨T'' x, S'' x, hz.2.1 x, hz.2.2.1 x, hz.2.2.2.1 x, hS', h' x (hz.2.2.1 x) (hz.2.2.2.1 x) hp (inv.set hj hkn hp.lt)⟩

theorem WpX.oneSkip (i : Nat) (d : Option Tmp) {oi : Oper} (hi : ops[i]? = some oi) (hd : oi.dst = d) (hB : (decide (i < n) && decide (Region.ready md ops listed = [i])) = true)
  (T' S' : World → Prop) (hT : ∀ w, T' w → T w) (hST : ∀ w, S' w → T' w) (hC' : Clo S') (hw : Region.wanted oi (yielded ops a.tmps) = true) (hop : ∀ w, S w → ∃ w', (execOp a.eval oi).run P w = .ok .skip w' ∧ S' w')
  (h : WpX P md ops Q n m L f (listed.setIfInBounds i true) (a.put d undef) T' S') : WpX P md ops Q n m L (f + 1) listed a T S := by
 subst hd
 simp only [Bool.and_eq_true, decide_eq_true_eq] at hB
 obtain ⟨hin, hr⟩ := hB
 intro hS0 hC hp inv
 refine ⟨by rw [hr]; simp, fun j hj => ?_⟩
 have hj' : j = i := by rw [hr] at hj; simpa using hj
 subst hj'
 refine ⟨hin, fun w hS => ?_⟩
 obtain ⟨w', hrun, hS'⟩ := hop w hS
 unfold Go.wpOp
 simp only [hi, hw, if_true]
 refine .inl ?_
 unfold Oper.wp
 rw [hrun]
 exact ⟨T', S', hT, hST, hC', hS', h hST hC' hp (inv.set hj hin hp.lt)⟩

theorem WpX.done (hB : Region.seqB md ops (m - n) n listed = true) (h : ∀ w, S w → L a w) : WpX P md ops Q n m L 0 listed a T S := fun _ _ _ _ => ⟨hB, h⟩

theorem region_X {id n m f : Nat} {l : List Oper} {a : Act} {w : World} (T S : World → Prop) (hST : ∀ w, S w → T w) (hC : Clo S) (hS : S w.drew) (hm : P.follows .mixedOrders = true) (hB : partsB .any l.toArray n m (Array.replicate l.length false) = true) (hf : f + (m - n) = l.length)
  (h : WpX P .any l.toArray Q n m (wpList P l.toArray Q ((l.drop n).take (m - n))) f (Array.replicate l.length false) a T S) : (Code.region id l.toArray true).wp P Q a w := by
 refine wp_region_any hm ?_
 obtain ⟨hp, inv⟩ := parts_of hB
 have := wpAny_of_X (md := .any) (n := n) (m := m) (L := wpList P l.toArray Q ((l.drop n).take (m - n))) (fun listed' a' w' hq hl => ?_) f (Array.replicate l.length false) a T S (h hST hC hp inv) w.drew hS
 ·rw [hf] at this
  simpa using this
 ·have hlen : ((l.drop n).take (m - n)).length = m - n := by
   have := hp.le
   simp at this ⊢
   omega
  have := any_of_tail (P := P) (md := .any) (ops := l.toArray) (Q' := Q) ((l.drop n).take (m - n)) n listed' a' w' (fun j hj => ?_) (by rw [hlen]; exact hq) hl
  ·rwa [hlen] at this
  ·rw [hlen] at hj
   simp [hj]
end

end Go.Proofs.Ytbakkmfjamcbfaa

namespace Go.Proofs.Ytbakkmfjamcbfaa
open Go Go.RowKit
set_option linter.unusedVariables false

section
variable {P : Program} {ops : Array Oper} {Q : Exit → Act → World → Prop} {md : Region.Mode} {n m : Nat} {L : Act → World → Prop} {f : Nat} {listed : Array Bool} {a : Act} {T S : World → Prop}
theorem WpX.threeD (i j k : Nat) (d d' d'' : Option Tmp) {oi oj ok : Oper} (hi : ops[i]? = some oi) (hd : oi.dst = d) (hj : ops[j]? = some oj) (hd' : oj.dst = d') (hk : ops[k]? = some ok) (hd'' : ok.dst = d'') (hB : (decide (i < n) && decide (j < n) && decide (k < n) && decide (Region.ready md ops listed = [i, j, k])) = true)
  {ι κ μ : Type} (F : ι → Value) (T1 S1 : ι → World → Prop) (hy : Turns P ops T S F T1 S1 oi a)
  (G : κ → Value) (T2 S2 : κ → World → Prop) (hz : Turns P ops T S G T2 S2 oj a)
  (H : μ → Value) (T3 S3 : μ → World → Prop) (hu : Turns P ops T S H T3 S3 ok a)
  (h1 : ∀ x, WpX P md ops Q n m L f (listed.setIfInBounds i true) (a.put d (F x)) (T1 x) (S1 x))
  (h2 : ∀ x, WpX P md ops Q n m L f (listed.setIfInBounds j true) (a.put d' (G x)) (T2 x) (S2 x))
  (h3 : ∀ x, WpX P md ops Q n m L f (listed.setIfInBounds k true) (a.put d'' (H x)) (T3 x) (S3 x)) : WpX P md ops Q n m L (f + 1) listed a T S := by
 subst hd
 subst hd'
 subst hd''
 simp only [Bool.and_eq_true, decide_eq_true_eq] at hB
 obtain ⟨⟨⟨hin, hjn⟩, hkn⟩, hr⟩ := hB
 intro hST hC hp inv
 refine ⟨by rw [hr]; simp, fun q hq => ?_⟩
 have hq' : q = i ∨ q = j ∨ q = k := by rw [hr] at hq; simpa using hq
 rcases hq' with rfl | rfl | rfl
 ·refine ⟨hin, fun w hS => hy.wpOp hi hS fun x w' hS' => ?_⟩
  exact ⟨T1 x, S1 x, hy.2.1 x, hy.2.2.1 x, hy.2.2.2.1 x, hS', h1 x (hy.2.2.1 x) (hy.2.2.2.1 x) hp (inv.set hq hin hp.lt)⟩
 ·refine ⟨hjn, fun w hS => hz.wpOp hj hS fun x w' hS' => ?_⟩
  exact ⟨T2 x, S2 x, hz.2.1 x, hz.2.2.1 x, hz.2.2.2.1 x, hS', h2 x (hz.2.2.1 x) (hz.2.2.2.1 x) hp (inv.set hq hjn hp.lt)⟩
 ·refine ⟨hkn, fun w hS => hu.wpOp hk hS fun x w' hS' => ?_⟩
  exact ⟨T3 x, S3 x, hu.2.1 x, hu.2.2.1 x, hu.2.2.2.1 x, hS', h3 x (hu.2.2.1 x) (hu.2.2.2.1 x) hp (inv.set hq hkn hp.lt)⟩
variable {L' : Act → World → Prop}
theorem wpX_monoZ (hL : ∀ a w, L a w → L' a w) : ∀ (f : Nat) (listed : Array Bool) (a : Act) (T S : World → Prop), wpX P md ops Q n m L f listed a T S → wpX P md ops Q n m L' f listed a T S
 | 0, listed, a, T, S, h => ⟨h.1, fun w hS => hL _ _ (h.2 w hS)⟩
 | f + 1, listed, a, T, S, h => ⟨h.1, fun i hi => ⟨(h.2 i hi).1, fun w hS => wpOp_mono (fun a' w' h' => by
   obtain ⟨T', S', h1, h2, h3, h4, h5⟩ := h'
   exact ⟨T', S', h1, h2, h3, h4, wpX_monoZ hL f _ a' T' S' h5⟩) ((h.2 i hi).2 w hS)⟩⟩
theorem WpX.monoZ (hL : ∀ a w, L a w → L' a w) (h : WpX P md ops Q n m L f listed a T S) : WpX P md ops Q n m L' f listed a T S :=
 fun hST hC hp inv => wpX_monoZ hL f listed a T S (h hST hC hp inv)
theorem region_Z2 {id n m f : Nat} {l : List Oper} {a : Act} {w : World} {α β : Type} (R : α → β → World → Prop) (T S : World → Prop) (hST : ∀ w, S w → T w) (hC : Clo S) (hS : S w.drew) {E : α → β → Act} (hm : P.follows .mixedOrders = true) (hB : partsB .any l.toArray n m (Array.replicate l.length false) = true) (hf : f + (m - n) = l.length)
  (h : WpX P .any l.toArray Q n m (fun a w => ∃ x y, a = E x y ∧ R x y w) f (Array.replicate l.length false) a T S)
  (hc : ∀ x y w', R x y w' → wpList P l.toArray Q ((l.drop n).take (m - n)) (E x y) w') : (Code.region id l.toArray true).wp P Q a w :=
 region_X T S hST hC hS hm hB hf (h.monoZ fun _ w ⟨x, y, e, hr⟩ => e ▸ hc x y w hr)
end

end Go.Proofs.Ytbakkmfjamcbfaa

namespace Go.Proofs.Ytbakkmfjamcbfaa
open Go.RowKit Fm
set_option linter.unusedVariables false
set_option maxRecDepth 100000

def rotI (x : Int) (n : Nat) : Int := bits BinOp.or IntKind.u64 (IntKind.u64.wrap (x * 2 ^ n)) (x / 2 ^ min (64 - n) 64)
theorem and63 (n : Nat) (h : n ≤ 63) : bits BinOp.and IntKind.u64 (n : Int) 63 = (n : Int) := by
 have h2 : ∀ m : Fin 64, bits BinOp.and IntKind.u64 ((m.val : Nat) : Int) 63 = ((m.val : Nat) : Int) := by decide +kernel
 exact h2 ⟨n, by omega⟩

set_option maxHeartbeats 1000000 in
theorem bits_RotL (x : Int) (n : Nat) (w : World) (hn : n ≤ 63) : Calls Try.prog 135 #[.int .u64 x, .int .i64 (n : Int)] w fun e w' => e = .returned (.int .u64 (rotI x n)) ∧ w = w' := by
 have hw1 : IntKind.u64.wrap (n : Int) = (n : Int) := IntWalk.u64_in _ (by omega)
 have hb := and63 n hn
 obtain ⟨m, hm⟩ : ∃ m : Nat, 64 - n = m := ⟨_, rfl⟩
 have hw2 : IntKind.u64.wrap (64 - (n : Int)) = (m : Int) := by rw [IntWalk.u64_in _ (by omega)]; omega
 have HR : Hid (rotI x n = bits BinOp.or IntKind.u64 (IntKind.u64.wrap (x * 2 ^ n)) (x / 2 ^ min m 64)) := by
  show _ = _
  unfold rotI
  rw [hm]
 clear hm
 go_enter Try.func135, Try.ntmps135
 go_wp2_with fail
 go_ret
 exact ⟨by rw [HR.out]; rfl, rfl⟩

end Go.Proofs.Ytbakkmfjamcbfaa
