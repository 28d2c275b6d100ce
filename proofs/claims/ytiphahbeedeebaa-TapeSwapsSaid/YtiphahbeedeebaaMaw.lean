/-
  WALKS: share.Task.Check of whatever task; tape.Spread, tape.Other, tape.Swap where they end in an error.
-/
/-
  WALK: tallymanlaw31.TapeErrors. An argument that is a task, opened.
-/
/-
  AN ARGUMENT THAT IS A TASK (a struct in a struct), opened.
-/
import Derived.Test.YtiphahbeedeebaaMaq
import Derived.Test.YtiphahbeedeebaaMat
import Derived.Test.YtiphahbeedeebaaMae
import Derived.Test.YtiphahbeedeebaaMao
import Derived.Test.YtiphahbeedeebaaMak
namespace Go.Proofs.Ytiphahbeedeebaa
open Go.RowKit Fm
set_option linter.unusedVariables false
set_option maxRecDepth 100000

theorem Vs.get4 {w : World} {b : Nat} {x y z p : Value} (h : Vs w b [x, y, z, p]) : (w.cell? ⟨b, 0, none⟩ = some x ∧ w.cell? ⟨b, 1, none⟩ = some y ∧ w.cell? ⟨b, 2, none⟩ = some z ∧ w.cell? ⟨b, 3, none⟩ = some p) ∧
    (w.frozen? ⟨b, 0, none⟩ = false ∧ w.frozen? ⟨b, 1, none⟩ = false ∧ w.frozen? ⟨b, 2, none⟩ = false ∧ w.frozen? ⟨b, 3, none⟩ = false) ∧ b < w.heap.size :=
  ⟨⟨h.cell 0 _ rfl, h.cell 1 _ rfl, h.cell 2 _ rfl, h.cell 3 _ rfl⟩, ⟨h.frz 0 (by simp), h.frz 1 (by simp), h.frz 2 (by simp), h.frz 3 (by simp)⟩, h.lt⟩
theorem Vs.get8 {w : World} {b : Nat} {x y z p q r s t : Value} (h : Vs w b [x, y, z, p, q, r, s, t]) : (w.cell? ⟨b, 0, none⟩ = some x ∧ w.cell? ⟨b, 1, none⟩ = some y ∧ w.cell? ⟨b, 2, none⟩ = some z ∧ w.cell? ⟨b, 3, none⟩ = some p ∧ w.cell? ⟨b, 4, none⟩ = some q ∧ w.cell? ⟨b, 5, none⟩ = some r ∧ w.cell? ⟨b, 6, none⟩ = some s ∧ w.cell? ⟨b, 7, none⟩ = some t) ∧
    (w.frozen? ⟨b, 0, none⟩ = false ∧ w.frozen? ⟨b, 1, none⟩ = false ∧ w.frozen? ⟨b, 2, none⟩ = false ∧ w.frozen? ⟨b, 3, none⟩ = false ∧ w.frozen? ⟨b, 4, none⟩ = false ∧ w.frozen? ⟨b, 5, none⟩ = false ∧ w.frozen? ⟨b, 6, none⟩ = false ∧ w.frozen? ⟨b, 7, none⟩ = false) ∧ b < w.heap.size :=
  ⟨⟨h.cell 0 _ rfl, h.cell 1 _ rfl, h.cell 2 _ rfl, h.cell 3 _ rfl, h.cell 4 _ rfl, h.cell 5 _ rfl, h.cell 6 _ rfl, h.cell 7 _ rfl⟩, ⟨h.frz 0 (by simp), h.frz 1 (by simp), h.frz 2 (by simp), h.frz 3 (by simp), h.frz 4 (by simp), h.frz 5 (by simp), h.frz 6 (by simp), h.frz 7 (by simp)⟩, h.lt⟩

/-- a task's eight cells -/
structure RawT where
  c : Raw
  p : Int
  s : ByteArray
def RawT.val (t : RawT) : Value := .agg #[.int .u8 t.c.k, .int .u8 t.c.f, .int .i64 t.c.b, .int .i64 t.c.l, .int .i64 t.c.m, .int .i64 t.c.c, .int .i64 t.p, .string t.s]

set_option maxHeartbeats 2000000 in
theorem task_Check_of (t : RawT) (n : Int) (HC : ∀ wz, Calls Try.prog 59 #[t.c.val] wz (RetC n wz)) (w : World) :
    Calls Try.prog 71 #[t.val] w (RetC (if n = 0 then (if t.p < 1 ∨ 3 < t.p ∨ 32 < t.s.size then 6 else 0) else n) w) := by
  have HC := Lib.hid HC
  obtain ⟨⟨k, f, b, l, m, c⟩, p, s⟩ := t
  unfold Raw.val at HC
  unfold RawT.val
  dsimp only at HC ⊢
  have hb00 : Below w.heap.size w w := Below.refl _ _
  by_cases hn : n = 0
  · subst hn
    rw [if_pos rfl]
    by_cases h1 : p < 1
    · rw [if_pos (.inl h1)]
      go_enter Try.func71, Try.ntmps71
      go_upto_region 1 with fail
      have hx := Vs.new w [.int .u8 k, .int .u8 f, .int .i64 b, .int .i64 l, .int .i64 m, .int .i64 c, .int .i64 p, .string s] #[.int .u8 k, .int .u8 f, .int .i64 b, .int .i64 l, .int .i64 m, .int .i64 c, .int .i64 p, .string s] 95 rfl
      have hbA : Below w.heap.size w (w.alloc (.cells #[.int .u8 k, .int .u8 f, .int .i64 b, .int .i64 l, .int .i64 m, .int .i64 c, .int .i64 p, .string s] 95)) := by repeat (first | exact Below.refl _ _ | with_reducible assumption | (refine bl_alloc ?_ (Nat.le_refl _) _))
      replace hb00 := bl_call hb00 (Nat.le_refl _) hbA
      clear hbA
      generalize w.alloc (.cells #[.int .u8 k, .int .u8 f, .int .i64 b, .int .i64 l, .int .i64 m, .int .i64 c, .int .i64 p, .string s] 95) = w1 at hb00 hx ⊢
      obtain ⟨⟨x0, x1, x2, x3, x4, x5, x6, x7⟩, ⟨x8, x9, x10, x11, x12, x13, x14, x15⟩, x16⟩ := hx.get8
      go_wp2_with (first
        | (go_at_call 59; refine (HC.out _).mono ?_; rintro e w2 ⟨rfl, hb2⟩; replace hb00 := bl_call hb00 (Nat.le_refl _) hb2; replace hx := hx.call hb2; clear x0 x1 x2 x3 x4 x5 x6 x7 x8 x9 x10 x11 x12 x13 x14 x15 x16; clear hb2; obtain ⟨⟨x0, x1, x2, x3, x4, x5, x6, x7⟩, ⟨x8, x9, x10, x11, x12, x13, x14, x15⟩, x16⟩ := hx.get8))
      go_ret
      exact ⟨rfl, hb00⟩
    · by_cases h2 : 3 < p
      · rw [if_pos (.inr (.inl h2))]
        go_enter Try.func71, Try.ntmps71
        go_upto_region 1 with fail
        have hx := Vs.new w [.int .u8 k, .int .u8 f, .int .i64 b, .int .i64 l, .int .i64 m, .int .i64 c, .int .i64 p, .string s] #[.int .u8 k, .int .u8 f, .int .i64 b, .int .i64 l, .int .i64 m, .int .i64 c, .int .i64 p, .string s] 95 rfl
        have hbA : Below w.heap.size w (w.alloc (.cells #[.int .u8 k, .int .u8 f, .int .i64 b, .int .i64 l, .int .i64 m, .int .i64 c, .int .i64 p, .string s] 95)) := by repeat (first | exact Below.refl _ _ | with_reducible assumption | (refine bl_alloc ?_ (Nat.le_refl _) _))
        replace hb00 := bl_call hb00 (Nat.le_refl _) hbA
        clear hbA
        generalize w.alloc (.cells #[.int .u8 k, .int .u8 f, .int .i64 b, .int .i64 l, .int .i64 m, .int .i64 c, .int .i64 p, .string s] 95) = w1 at hb00 hx ⊢
        obtain ⟨⟨x0, x1, x2, x3, x4, x5, x6, x7⟩, ⟨x8, x9, x10, x11, x12, x13, x14, x15⟩, x16⟩ := hx.get8
        go_wp2_with (first
          | (go_at_call 59; refine (HC.out _).mono ?_; rintro e w2 ⟨rfl, hb2⟩; replace hb00 := bl_call hb00 (Nat.le_refl _) hb2; replace hx := hx.call hb2; clear x0 x1 x2 x3 x4 x5 x6 x7 x8 x9 x10 x11 x12 x13 x14 x15 x16; clear hb2; obtain ⟨⟨x0, x1, x2, x3, x4, x5, x6, x7⟩, ⟨x8, x9, x10, x11, x12, x13, x14, x15⟩, x16⟩ := hx.get8))
        go_ret
        exact ⟨rfl, hb00⟩
      · by_cases h3 : 32 < s.size
        · rw [if_pos (.inr (.inr h3))]
          go_enter Try.func71, Try.ntmps71
          go_upto_region 1 with fail
          have hx := Vs.new w [.int .u8 k, .int .u8 f, .int .i64 b, .int .i64 l, .int .i64 m, .int .i64 c, .int .i64 p, .string s] #[.int .u8 k, .int .u8 f, .int .i64 b, .int .i64 l, .int .i64 m, .int .i64 c, .int .i64 p, .string s] 95 rfl
          have hbA : Below w.heap.size w (w.alloc (.cells #[.int .u8 k, .int .u8 f, .int .i64 b, .int .i64 l, .int .i64 m, .int .i64 c, .int .i64 p, .string s] 95)) := by repeat (first | exact Below.refl _ _ | with_reducible assumption | (refine bl_alloc ?_ (Nat.le_refl _) _))
          replace hb00 := bl_call hb00 (Nat.le_refl _) hbA
          clear hbA
          generalize w.alloc (.cells #[.int .u8 k, .int .u8 f, .int .i64 b, .int .i64 l, .int .i64 m, .int .i64 c, .int .i64 p, .string s] 95) = w1 at hb00 hx ⊢
          obtain ⟨⟨x0, x1, x2, x3, x4, x5, x6, x7⟩, ⟨x8, x9, x10, x11, x12, x13, x14, x15⟩, x16⟩ := hx.get8
          go_wp2_with (first
            | (go_at_call 59; refine (HC.out _).mono ?_; rintro e w2 ⟨rfl, hb2⟩; replace hb00 := bl_call hb00 (Nat.le_refl _) hb2; replace hx := hx.call hb2; clear x0 x1 x2 x3 x4 x5 x6 x7 x8 x9 x10 x11 x12 x13 x14 x15 x16; clear hb2; obtain ⟨⟨x0, x1, x2, x3, x4, x5, x6, x7⟩, ⟨x8, x9, x10, x11, x12, x13, x14, x15⟩, x16⟩ := hx.get8))
          go_ret
          exact ⟨rfl, hb00⟩
        · rw [if_neg (by omega)]
          go_enter Try.func71, Try.ntmps71
          go_upto_region 1 with fail
          have hx := Vs.new w [.int .u8 k, .int .u8 f, .int .i64 b, .int .i64 l, .int .i64 m, .int .i64 c, .int .i64 p, .string s] #[.int .u8 k, .int .u8 f, .int .i64 b, .int .i64 l, .int .i64 m, .int .i64 c, .int .i64 p, .string s] 95 rfl
          have hbA : Below w.heap.size w (w.alloc (.cells #[.int .u8 k, .int .u8 f, .int .i64 b, .int .i64 l, .int .i64 m, .int .i64 c, .int .i64 p, .string s] 95)) := by repeat (first | exact Below.refl _ _ | with_reducible assumption | (refine bl_alloc ?_ (Nat.le_refl _) _))
          replace hb00 := bl_call hb00 (Nat.le_refl _) hbA
          clear hbA
          generalize w.alloc (.cells #[.int .u8 k, .int .u8 f, .int .i64 b, .int .i64 l, .int .i64 m, .int .i64 c, .int .i64 p, .string s] 95) = w1 at hb00 hx ⊢
          obtain ⟨⟨x0, x1, x2, x3, x4, x5, x6, x7⟩, ⟨x8, x9, x10, x11, x12, x13, x14, x15⟩, x16⟩ := hx.get8
          go_wp2_with (first
            | (go_at_call 59; refine (HC.out _).mono ?_; rintro e w2 ⟨rfl, hb2⟩; replace hb00 := bl_call hb00 (Nat.le_refl _) hb2; replace hx := hx.call hb2; clear x0 x1 x2 x3 x4 x5 x6 x7 x8 x9 x10 x11 x12 x13 x14 x15 x16; clear hb2; obtain ⟨⟨x0, x1, x2, x3, x4, x5, x6, x7⟩, ⟨x8, x9, x10, x11, x12, x13, x14, x15⟩, x16⟩ := hx.get8))
          go_ret
          exact ⟨rfl, hb00⟩
  · rw [if_neg hn]
    have hn1 : (n == 0) = false := by simpa using hn
    have hn2 : (n != 0) = true := by simpa using hn
    clear hn
    go_enter Try.func71, Try.ntmps71
    go_upto_region 1 with fail
    have hx := Vs.new w [.int .u8 k, .int .u8 f, .int .i64 b, .int .i64 l, .int .i64 m, .int .i64 c, .int .i64 p, .string s] #[.int .u8 k, .int .u8 f, .int .i64 b, .int .i64 l, .int .i64 m, .int .i64 c, .int .i64 p, .string s] 95 rfl
    have hbA : Below w.heap.size w (w.alloc (.cells #[.int .u8 k, .int .u8 f, .int .i64 b, .int .i64 l, .int .i64 m, .int .i64 c, .int .i64 p, .string s] 95)) := by repeat (first | exact Below.refl _ _ | with_reducible assumption | (refine bl_alloc ?_ (Nat.le_refl _) _))
    replace hb00 := bl_call hb00 (Nat.le_refl _) hbA
    clear hbA
    generalize w.alloc (.cells #[.int .u8 k, .int .u8 f, .int .i64 b, .int .i64 l, .int .i64 m, .int .i64 c, .int .i64 p, .string s] 95) = w1 at hb00 hx ⊢
    obtain ⟨⟨x0, x1, x2, x3, x4, x5, x6, x7⟩, ⟨x8, x9, x10, x11, x12, x13, x14, x15⟩, x16⟩ := hx.get8
    go_wp2_with (first
      | (go_at_call 59; refine (HC.out _).mono ?_; rintro e w2 ⟨rfl, hb2⟩; replace hb00 := bl_call hb00 (Nat.le_refl _) hb2; replace hx := hx.call hb2; clear x0 x1 x2 x3 x4 x5 x6 x7 x8 x9 x10 x11 x12 x13 x14 x15 x16; clear hb2; obtain ⟨⟨x0, x1, x2, x3, x4, x5, x6, x7⟩, ⟨x8, x9, x10, x11, x12, x13, x14, x15⟩, x16⟩ := hx.get8))
    go_ret
    exact ⟨rfl, hb00⟩

/-- whatever the task, its check says one number -/
theorem task_Check_any (t : RawT) : ∃ n : Int, ∀ w, Calls Try.prog 71 #[t.val] w (RetC n w) := by
  obtain ⟨n, _, hc, _⟩ := raw_checks t.c
  exact ⟨_, fun w => task_Check_of t n hc w⟩

theorem load_report {w : World} {b : Nat} {p q r s : Value} (h : Vs w b [p, q, r, s]) : (loadVar 100 ⟨b, 0, none⟩).run Try.prog w = .ok (.agg #[p, q, r, s]) w := by
  obtain ⟨⟨c0, c1, c2, c3⟩, _⟩ := h.get4
  simp [loadVar, go_sem, c0, c1, c2, c3]
theorem load_draws {w : World} {b : Nat} {p q : Value} (h : V2 w b p q) : (loadVar 98 ⟨b, 0, none⟩).run Try.prog w = .ok (.agg #[p, q]) w := by
  simp [loadVar, go_sem, h.c0, h.c1]
theorem results_report {fn : Func} {p e : Tmp} {tmps : Array Value} {w : World} {b : Nat} {x y z u : Value} (hv : Vs w b [x, y, z, u]) (h : fn.results = #[.cell p 100, .tmp e]) (hp : tmps.getD p undef = .pointer (some ⟨b, 0, none⟩)) :
    (results fn tmps).run Try.prog w = .ok (.tuple #[.agg #[x, y, z, u], tmps.getD e undef]) w := by
  have hl := load_report hv
  rw [results_cell_tmp h, hp]
  simp only [asAddr, Sem.run_pure, Result.andThen, hl]
theorem results_draws {fn : Func} {p e : Tmp} {tmps : Array Value} {w : World} {b : Nat} {x y : Value} (hv : V2 w b x y) (h : fn.results = #[.cell p 98, .tmp e]) (hp : tmps.getD p undef = .pointer (some ⟨b, 0, none⟩)) :
    (results fn tmps).run Try.prog w = .ok (.tuple #[.agg #[x, y], tmps.getD e undef]) w := by
  have hl := load_draws hv
  rw [results_cell_tmp h, hp]
  simp only [asAddr, Sem.run_pure, Result.andThen, hl]

theorem Vs.set4 {w : World} {b : Nat} {p q r s : Value} (h : Vs w b [p, q, r, s]) (x0 x1 x2 x3 : Value) :
    Vs ((((w.setCell ⟨b, 0, none⟩ x0).setCell ⟨b, 1, none⟩ x1).setCell ⟨b, 2, none⟩ x2).setCell ⟨b, 3, none⟩ x3) b [x0, x1, x2, x3] :=
  (((h.put 0 (by simp) x0).put 1 (by simp) x1).put 2 (by simp) x2).put 3 (by simp) x3

set_option maxHeartbeats 4000000 in
theorem tape_Spread_no (t : RawT) (n : Int) (hn : n ≠ 0) (HC : ∀ wz, Calls Try.prog 71 #[t.val] wz (RetC n wz)) (va vb d1 d2 : Value) (w : World) :
    Calls Try.prog 57 #[t.val, va, vb, .agg #[d1, d2]] w fun e w' => e = .returned (.tuple #[.agg #[.slice none 0 0, .slice none 0 0, .slice none 0 0, .slice none 0 0], .int .i64 n]) ∧ Below w.heap.size w w' := by
  have HC := Lib.hid HC
  obtain ⟨⟨k, f, b, l, m, c⟩, p, s⟩ := t
  unfold RawT.val at HC ⊢
  dsimp only at HC ⊢
  have hn1 : (n == 0) = false := by simpa using hn
  have hn2 : (n != 0) = true := by simpa using hn
  clear hn
  go_enter Try.func57, Try.ntmps57
  go_upto_region 1 with fail
  have hx := ((Vs.new w [.int .u8 k, .int .u8 f, .int .i64 b, .int .i64 l, .int .i64 m, .int .i64 c, .int .i64 p, .string s] #[.int .u8 k, .int .u8 f, .int .i64 b, .int .i64 l, .int .i64 m, .int .i64 c, .int .i64 p, .string s] 95 rfl).alloc (.cells #[d1, d2] 98)).alloc (.cells #[.slice none 0 0, .slice none 0 0, .slice none 0 0, .slice none 0 0] 100)
  have hd := (V2.new (w.alloc (.cells #[.int .u8 k, .int .u8 f, .int .i64 b, .int .i64 l, .int .i64 m, .int .i64 c, .int .i64 p, .string s] 95)) (d1) (d2) 98).alloc (.cells #[.slice none 0 0, .slice none 0 0, .slice none 0 0, .slice none 0 0] 100)
  have hr := Vs.new ((w.alloc (.cells #[.int .u8 k, .int .u8 f, .int .i64 b, .int .i64 l, .int .i64 m, .int .i64 c, .int .i64 p, .string s] 95)).alloc (.cells #[d1, d2] 98)) [.slice none 0 0, .slice none 0 0, .slice none 0 0, .slice none 0 0] #[.slice none 0 0, .slice none 0 0, .slice none 0 0, .slice none 0 0] 100 rfl
  simp only [World.size_alloc] at hd hr
  have hb00 : Below w.heap.size w (((w.alloc (.cells #[.int .u8 k, .int .u8 f, .int .i64 b, .int .i64 l, .int .i64 m, .int .i64 c, .int .i64 p, .string s] 95)).alloc (.cells #[d1, d2] 98)).alloc (.cells #[.slice none 0 0, .slice none 0 0, .slice none 0 0, .slice none 0 0] 100)) := by repeat (first | exact Below.refl _ _ | with_reducible assumption | (refine bl_alloc ?_ (Nat.le_refl _) _))
  have hszn : w.heap.size + 3 ≤ (((w.alloc (.cells #[.int .u8 k, .int .u8 f, .int .i64 b, .int .i64 l, .int .i64 m, .int .i64 c, .int .i64 p, .string s] 95)).alloc (.cells #[d1, d2] 98)).alloc (.cells #[.slice none 0 0, .slice none 0 0, .slice none 0 0, .slice none 0 0] 100)).heap.size := by simp only [World.size_alloc]; omega
  generalize (((w.alloc (.cells #[.int .u8 k, .int .u8 f, .int .i64 b, .int .i64 l, .int .i64 m, .int .i64 c, .int .i64 p, .string s] 95)).alloc (.cells #[d1, d2] 98)).alloc (.cells #[.slice none 0 0, .slice none 0 0, .slice none 0 0, .slice none 0 0] 100)) = w1 at hx hd hr hb00 hszn ⊢
  obtain ⟨⟨x0, x1, x2, x3, x4, x5, x6, x7⟩, ⟨x8, x9, x10, x11, x12, x13, x14, x15⟩, x16⟩ := hx.get8
  obtain ⟨⟨r0, r1, r2, r3⟩, ⟨r4, r5, r6, r7⟩, r8⟩ := hr.get4
  go_wp2_with (first
    | (go_at_call 71; refine (HC.out _).mono ?_; rintro e w2 ⟨rfl, hb2⟩; replace hb00 := bl_call hb00 (Nat.le_refl _) hb2; replace hx := hx.call hb2; replace hd := hd.call hb2; replace hr := hr.call hb2; clear x0 x1 x2 x3 x4 x5 x6 x7 x8 x9 x10 x11 x12 x13 x14 x15 x16 r0 r1 r2 r3 r4 r5 r6 r7 r8; clear hb2; obtain ⟨⟨x0, x1, x2, x3, x4, x5, x6, x7⟩, ⟨x8, x9, x10, x11, x12, x13, x14, x15⟩, x16⟩ := hx.get8; obtain ⟨⟨r0, r1, r2, r3⟩, ⟨r4, r5, r6, r7⟩, r8⟩ := hr.get4))
  have hS := Vs.set4 hr (.slice none 0 0) (.slice none 0 0) (.slice none 0 0) (.slice none 0 0)
  have hB := bl_set (p := ⟨w.heap.size + 1 + 1, 3, none⟩) (bl_set (p := ⟨w.heap.size + 1 + 1, 2, none⟩) (bl_set (p := ⟨w.heap.size + 1 + 1, 1, none⟩) (bl_set (p := ⟨w.heap.size + 1 + 1, 0, none⟩) hb00 (by dsimp only; omega) (.slice none 0 0)) (by dsimp only; omega) (.slice none 0 0)) (by dsimp only; omega) (.slice none 0 0)) (by dsimp only; omega) (.slice none 0 0)
  exact bodyPost_ret (results_report (b := w.heap.size + 1 + 1) hS rfl rfl) rfl ⟨rfl, hB⟩

set_option maxHeartbeats 4000000 in
theorem tape_Other_no (t : RawT) (n : Int) (hn : n ≠ 0) (HC : ∀ wz, Calls Try.prog 71 #[t.val] wz (RetC n wz)) (va vb vc vd d1 d2 : Value) (w : World) :
    Calls Try.prog 58 #[t.val, va, vb, vc, vd, .agg #[d1, d2]] w fun e w' => e = .returned (.tuple #[.agg #[.slice none 0 0, .slice none 0 0], .int .i64 n]) ∧ Below w.heap.size w w' := by
  have HS := Lib.hid (fun (d1 d2 : Value) wz => tape_Spread_no t n hn HC va vb d1 d2 wz)
  obtain ⟨⟨k, f, b, l, m, c⟩, p, s⟩ := t
  unfold RawT.val at HS ⊢
  dsimp only at HS ⊢
  have hn1 : (n == 0) = false := by simpa using hn
  have hn2 : (n != 0) = true := by simpa using hn
  clear hn HC
  go_enter Try.func58, Try.ntmps58
  go_upto_region 1 with fail
  have hx := ((Vs.new w [.int .u8 k, .int .u8 f, .int .i64 b, .int .i64 l, .int .i64 m, .int .i64 c, .int .i64 p, .string s] #[.int .u8 k, .int .u8 f, .int .i64 b, .int .i64 l, .int .i64 m, .int .i64 c, .int .i64 p, .string s] 95 rfl).alloc (.cells #[d1, d2] 98)).alloc (.cells #[.slice none 0 0, .slice none 0 0] 98)
  have hd := (V2.new (w.alloc (.cells #[.int .u8 k, .int .u8 f, .int .i64 b, .int .i64 l, .int .i64 m, .int .i64 c, .int .i64 p, .string s] 95)) (d1) (d2) 98).alloc (.cells #[.slice none 0 0, .slice none 0 0] 98)
  have hr := V2.new ((w.alloc (.cells #[.int .u8 k, .int .u8 f, .int .i64 b, .int .i64 l, .int .i64 m, .int .i64 c, .int .i64 p, .string s] 95)).alloc (.cells #[d1, d2] 98)) (.slice none 0 0) (.slice none 0 0) 98
  simp only [World.size_alloc] at hd hr
  have hb00 : Below w.heap.size w (((w.alloc (.cells #[.int .u8 k, .int .u8 f, .int .i64 b, .int .i64 l, .int .i64 m, .int .i64 c, .int .i64 p, .string s] 95)).alloc (.cells #[d1, d2] 98)).alloc (.cells #[.slice none 0 0, .slice none 0 0] 98)) := by repeat (first | exact Below.refl _ _ | with_reducible assumption | (refine bl_alloc ?_ (Nat.le_refl _) _))
  have hszn : w.heap.size + 3 ≤ (((w.alloc (.cells #[.int .u8 k, .int .u8 f, .int .i64 b, .int .i64 l, .int .i64 m, .int .i64 c, .int .i64 p, .string s] 95)).alloc (.cells #[d1, d2] 98)).alloc (.cells #[.slice none 0 0, .slice none 0 0] 98)).heap.size := by simp only [World.size_alloc]; omega
  generalize (((w.alloc (.cells #[.int .u8 k, .int .u8 f, .int .i64 b, .int .i64 l, .int .i64 m, .int .i64 c, .int .i64 p, .string s] 95)).alloc (.cells #[d1, d2] 98)).alloc (.cells #[.slice none 0 0, .slice none 0 0] 98)) = w1 at hx hd hr hb00 hszn ⊢
  obtain ⟨⟨x0, x1, x2, x3, x4, x5, x6, x7⟩, ⟨x8, x9, x10, x11, x12, x13, x14, x15⟩, x16⟩ := hx.get8
  obtain ⟨d0, d1, d2, d3, d4⟩ := V2.mk hd.c0 hd.c1 hd.f0 hd.f1 hd.lt
  obtain ⟨r0, r1, r2, r3, r4⟩ := V2.mk hr.c0 hr.c1 hr.f0 hr.f1 hr.lt
  go_wp2_with fail
  refine (HS.out _ _ _).mono ?_
  rintro e w2 ⟨rfl, hb2⟩
  clear x0 x1 x2 x3 x4 x5 x6 x7 x8 x9 x10 x11 x12 x13 x14 x15 x16 d0 d1 d2 d3 d4 r0 r1 r2 r3 r4
  replace hb00 := bl_call hb00 (Nat.le_refl _) hb2
  replace hx := hx.call hb2
  replace hd := hd.call hb2
  replace hr := hr.call hb2
  obtain ⟨r0, r1, r2, r3, r4⟩ := V2.mk hr.c0 hr.c1 hr.f0 hr.f1 hr.lt
  go_upto_region 2 with fail
  have hlt : w.heap.size + 1 + 1 < w2.heap.size := hr.lt
  clear r0 r1 r2 r3 r4
  have hq := Vs.new w2 [.slice none 0 0, .slice none 0 0, .slice none 0 0, .slice none 0 0] #[.slice none 0 0, .slice none 0 0, .slice none 0 0, .slice none 0 0] 100 rfl
  have hbA : Below w2.heap.size w2 (w2.alloc (.cells #[.slice none 0 0, .slice none 0 0, .slice none 0 0, .slice none 0 0] 100)) := by repeat (first | exact Below.refl _ _ | with_reducible assumption | (refine bl_alloc ?_ (Nat.le_refl _) _))
  replace hb00 := bl_call hb00 (Nat.le_refl _) hbA
  replace hx := hx.call hbA
  replace hd := hd.call hbA
  replace hr := hr.call hbA
  clear hbA
  generalize w2.alloc (.cells #[.slice none 0 0, .slice none 0 0, .slice none 0 0, .slice none 0 0] 100) = w3 at hb00 hx hd hr hq ⊢
  obtain ⟨r0, r1, r2, r3, r4⟩ := V2.mk hr.c0 hr.c1 hr.f0 hr.f1 hr.lt
  go_wp2_with fail
  exact bodyPost_ret (results_draws (b := w.heap.size + 1 + 1) (V2.set hr _ _) rfl rfl) rfl ⟨rfl, bl_st hb00 (by omega) _ _⟩

/-- no slices and a code come back -/
def RetNil2 (n : Int) (w : World) (e : Ending) (w' : World) : Prop := e = .returned (.tuple #[.slice none 0 0, .slice none 0 0, .int .i64 n]) ∧ Below w.heap.size w w'

set_option maxHeartbeats 2000000 in
theorem tape_Swap_no (x : Raw) (n : Int) (hn : n ≠ 0) (HC : ∀ wz, Calls Try.prog 59 #[x.val] wz (RetC n wz)) (va vb vc vd ve vf : Value) (w : World) :
    Calls Try.prog 54 #[x.val, va, vb, vc, vd, ve, vf] w (RetNil2 n w) := by
  have HC := Lib.hid HC
  obtain ⟨xk, xf, xb, xl, xm, xc⟩ := x
  unfold Raw.val at HC ⊢
  dsimp only at HC ⊢
  have hn1 : (n == 0) = false := by simpa using hn
  have hn2 : (n != 0) = true := by simpa using hn
  have hb00 : Below w.heap.size w w := Below.refl _ _
  clear hn
  go_enter Try.func54, Try.ntmps54
  go_upto_region 1 with fail
  have hx := Vs.new w [.int .u8 xk, .int .u8 xf, .int .i64 xb, .int .i64 xl, .int .i64 xm, .int .i64 xc] #[.int .u8 xk, .int .u8 xf, .int .i64 xb, .int .i64 xl, .int .i64 xm, .int .i64 xc] 60 rfl
  have hbA : Below w.heap.size w (w.alloc (.cells #[.int .u8 xk, .int .u8 xf, .int .i64 xb, .int .i64 xl, .int .i64 xm, .int .i64 xc] 60)) := by repeat (first | exact Below.refl _ _ | with_reducible assumption | (refine bl_alloc ?_ (Nat.le_refl _) _))
  replace hb00 := bl_call hb00 (Nat.le_refl _) hbA
  clear hbA
  generalize w.alloc (.cells #[.int .u8 xk, .int .u8 xf, .int .i64 xb, .int .i64 xl, .int .i64 xm, .int .i64 xc] 60) = w1 at hb00 hx ⊢
  obtain ⟨⟨x0, x1, x2, x3, x4, x5⟩, ⟨x6, x7, x8, x9, x10, x11⟩, x12⟩ := hx.get6
  go_wp2_with (first
    | (go_at_call 59; refine (HC.out _).mono ?_; rintro e w2 ⟨rfl, hb2⟩; replace hb00 := bl_call hb00 (Nat.le_refl _) hb2; replace hx := hx.call hb2))
  go_ret3
  exact ⟨rfl, hb00⟩

section
variable {f : Nat} (hf : IsF f)
include hf

set_option maxHeartbeats 2000000 in
theorem tape_Swap_size1 (y : CK) (hy : y.ok) (hcalls : ¬ 511 < y.calls) (va vb vc vd ve vf : Value) (xs ys : List E) (w : World) (hx : SlE w w.heap.size va xs) (hy2 : SlE w w.heap.size vb ys) (hne : xs.length ≠ ys.length) :
    Calls Try.prog 54 #[y.val f, va, vb, vc, vd, ve, vf] w (RetNil2 9 w) := by
  have HC : Hid (∀ wz, Calls Try.prog 59 #[y.val f] wz (RetC 0 wz)) := by
    intro wz
    have h := circuit_Check_ok hf y hy wz
    rwa [CK.code_ok hcalls] at h
  have HA := Lib.hid (fun wz (hb : Below w.heap.size w wz) => field_AddVec_size f va vb xs ys wz (hx.later hb) (hy2.later hb) hne)
  unfold CK.val at HC ⊢
  obtain ⟨⟨A1, c1, rfl, _⟩, _⟩ := hx
  obtain ⟨⟨A2, c2, rfl, _⟩, _⟩ := hy2
  generalize ((y.k : Nat) : Int) = yk at *
  generalize ((y.b : Nat) : Int) = yb at *
  generalize ((y.l : Nat) : Int) = yl at *
  generalize ((y.m : Nat) : Int) = ym at *
  generalize ((y.c : Nat) : Int) = yc at *
  clear hcalls hy hne
  have hb00 : Below w.heap.size w w := Below.refl _ _
  go_enter Try.func54, Try.ntmps54
  go_upto_region 1 with fail
  have hx := Vs.new w [.int .u8 yk, .int .u8 f, .int .i64 yb, .int .i64 yl, .int .i64 ym, .int .i64 yc] #[.int .u8 yk, .int .u8 f, .int .i64 yb, .int .i64 yl, .int .i64 ym, .int .i64 yc] 60 rfl
  have hbA : Below w.heap.size w (w.alloc (.cells #[.int .u8 yk, .int .u8 f, .int .i64 yb, .int .i64 yl, .int .i64 ym, .int .i64 yc] 60)) := by repeat (first | exact Below.refl _ _ | with_reducible assumption | (refine bl_alloc ?_ (Nat.le_refl _) _))
  replace hb00 := bl_call hb00 (Nat.le_refl _) hbA
  clear hbA
  generalize w.alloc (.cells #[.int .u8 yk, .int .u8 f, .int .i64 yb, .int .i64 yl, .int .i64 ym, .int .i64 yc] 60) = w1 at hb00 hx ⊢
  obtain ⟨⟨x0, x1, x2, x3, x4, x5⟩, ⟨x6, x7, x8, x9, x10, x11⟩, x12⟩ := hx.get6
  go_wp2_with (first
    | (go_at_call 59; refine (HC.out _).mono ?_; rintro e w2 ⟨rfl, hb2⟩; replace hb00 := bl_call hb00 (Nat.le_refl _) hb2; replace hx := hx.call hb2; clear x0 x1 x2 x3 x4 x5 x6 x7 x8 x9 x10 x11 x12; clear hb2; obtain ⟨⟨x0, x1, x2, x3, x4, x5⟩, ⟨x6, x7, x8, x9, x10, x11⟩, x12⟩ := hx.get6)
    | (go_at_call 24; refine (HA.out _ hb00).mono ?_; rintro e w3 ⟨rfl, hb3⟩; replace hb00 := bl_call hb00 (Nat.le_refl _) hb3; replace hx := hx.call hb3))
  go_ret3
  exact ⟨rfl, hb00⟩

set_option maxHeartbeats 2000000 in
theorem tape_Swap_size2 (y : CK) (hy : y.ok) (hcalls : ¬ 511 < y.calls) (va vb vc vd ve vf : Value) (xs ys us vs : List E) (w : World) (hx : SlE w w.heap.size va xs) (hy2 : SlE w w.heap.size vb ys) (hu : SlE w w.heap.size vc us) (hv : SlE w w.heap.size vd vs)
    (heq : xs.length = ys.length) (hle : xs.length ≤ 1099511627776) (hne : us.length ≠ vs.length) :
    Calls Try.prog 54 #[y.val f, va, vb, vc, vd, ve, vf] w (RetNil2 9 w) := by
  have HC : Hid (∀ wz, Calls Try.prog 59 #[y.val f] wz (RetC 0 wz)) := by
    intro wz
    have h := circuit_Check_ok hf y hy wz
    rwa [CK.code_ok hcalls] at h
  have HA := Lib.hid (fun wz (hb : Below w.heap.size w wz) => field_AddVec f _ (FM.ofN hf) va vb xs ys wz (hx.later hb) (hy2.later hb) heq hle)
  have HB := Lib.hid (fun wz (hb : Below w.heap.size w wz) => field_AddVec_size f vc vd us vs wz (hu.later hb) (hv.later hb) hne)
  unfold CK.val at HC ⊢
  obtain ⟨⟨A1, c1, rfl, _⟩, _⟩ := hx
  obtain ⟨⟨A2, c2, rfl, _⟩, _⟩ := hy2
  obtain ⟨⟨A3, c3, rfl, _⟩, _⟩ := hu
  obtain ⟨⟨A4, c4, rfl, _⟩, _⟩ := hv
  generalize ((y.k : Nat) : Int) = yk at *
  generalize ((y.b : Nat) : Int) = yb at *
  generalize ((y.l : Nat) : Int) = yl at *
  generalize ((y.m : Nat) : Int) = ym at *
  generalize ((y.c : Nat) : Int) = yc at *
  clear hcalls hy hne heq
  have hb00 : Below w.heap.size w w := Below.refl _ _
  go_enter Try.func54, Try.ntmps54
  go_upto_region 1 with fail
  have hx := Vs.new w [.int .u8 yk, .int .u8 f, .int .i64 yb, .int .i64 yl, .int .i64 ym, .int .i64 yc] #[.int .u8 yk, .int .u8 f, .int .i64 yb, .int .i64 yl, .int .i64 ym, .int .i64 yc] 60 rfl
  have hbA : Below w.heap.size w (w.alloc (.cells #[.int .u8 yk, .int .u8 f, .int .i64 yb, .int .i64 yl, .int .i64 ym, .int .i64 yc] 60)) := by repeat (first | exact Below.refl _ _ | with_reducible assumption | (refine bl_alloc ?_ (Nat.le_refl _) _))
  replace hb00 := bl_call hb00 (Nat.le_refl _) hbA
  clear hbA
  generalize w.alloc (.cells #[.int .u8 yk, .int .u8 f, .int .i64 yb, .int .i64 yl, .int .i64 ym, .int .i64 yc] 60) = w1 at hb00 hx ⊢
  obtain ⟨⟨x0, x1, x2, x3, x4, x5⟩, ⟨x6, x7, x8, x9, x10, x11⟩, x12⟩ := hx.get6
  go_upto_region 5 with (first
    | (go_at_call 59; refine (HC.out _).mono ?_; rintro e w2 ⟨rfl, hb2⟩; replace hb00 := bl_call hb00 (Nat.le_refl _) hb2; replace hx := hx.call hb2; clear x0 x1 x2 x3 x4 x5 x6 x7 x8 x9 x10 x11 x12; clear hb2; obtain ⟨⟨x0, x1, x2, x3, x4, x5⟩, ⟨x6, x7, x8, x9, x10, x11⟩, x12⟩ := hx.get6))
  go_wp2_with fail
  refine (HA.out _ hb00).mono ?_
  rintro e w3 ⟨g, rfl, _, _, hb3⟩
  clear x0 x1 x2 x3 x4 x5 x6 x7 x8 x9 x10 x11 x12
  replace hb00 := bl_call hb00 (Nat.le_refl _) hb3
  replace hx := hx.call hb3
  go_wp2_with fail
  refine (HB.out _ hb00).mono ?_
  rintro e w4 ⟨rfl, hb4⟩
  replace hb00 := bl_call hb00 (Nat.le_refl _) hb4
  replace hx := hx.call hb4
  go_wp2_with fail
  go_ret3
  exact ⟨rfl, hb00⟩
end

end Go.Proofs.Ytiphahbeedeebaa

namespace Go.Proofs.Ytiphahbeedeebaa
open Go.RowKit Fm
set_option linter.unusedVariables false
set_option maxRecDepth 100000

theorem own_make (w : World) (xs : List E) (n : Nat) (hn : xs.length = n) (hm : n ≤ 1099511627776) :
    (w.alloc (.cells (cellsE xs).toArray 41)).ownsRow w.heap.size 41 2 (.slice (some ⟨w.heap.size, 0, none⟩) n n) n (cellsE xs) := by
  have hl : (cellsE xs).length = n * 2 := by rw [length_cellsE, hn]
  exact ⟨hl, .inr ⟨w.heap.size, n, _, rfl, Nat.le_refl _, heap_alloc_new w _, Nat.le_refl _, by unfold maxLen; omega, by simp [hl], by simp [← hl]⟩⟩

theorem zeros_ok (n : Nat) : ∀ e, e ∈ (List.replicate n ((0, 0) : E)) → okE e := by
  intro e he
  obtain ⟨_, rfl⟩ := List.mem_replicate.1 he
  exact ⟨by decide, by decide, by decide, by decide⟩

set_option maxHeartbeats 8000000 in
theorem walk_TapeErrors (t : RawT) (x : Raw) (k f b l m c : Int) (vl : Value) (xs : List E) (w : World) (hk : 0 ≤ k ∧ k ≤ 255) (hf : 0 ≤ f ∧ f ≤ 255) (hb : 0 ≤ b ∧ b ≤ 255) (hl : 0 ≤ l ∧ l ≤ 255) (hm : 0 ≤ m ∧ m ≤ 255) (hc : 0 ≤ c ∧ c ≤ 255)
    (hxs : SlE w w.heap.size vl xs) :
    Calls Try.prog 14 #[t.val, x.val, .agg #[.int .u8 k, .int .u8 f, .int .u8 b, .int .u8 l, .int .u8 m, .int .u8 c], vl] w fun e w' => e = .returned (.bool true) ∧ Below w.heap.size w w' := by
  obtain ⟨F, y, hF, hy, hCIR⟩ := law10_Circuit k f b l m c hk.1 hk.2 hf.1 hf.2 hb.1 hb.2 hl.1 hl.2 hm.1 hm.2 hc.1 hc.2
  obtain ⟨n1, hT⟩ := task_Check_any t
  obtain ⟨n2, _, hchk, _, _⟩ := raw_checks x
  have HCIR := Lib.hid hCIR
  have HAW := Lib.hid law31_Awake
  have HT := Lib.hid hT
  have HC := Lib.hid hchk
  have HSP := Lib.hid (fun (h : n1 ≠ 0) (va vb d1 d2 : Value) wz => tape_Spread_no t n1 h hT va vb d1 d2 wz)
  have HOT := Lib.hid (fun (h : n1 ≠ 0) (va vb vc vd d1 d2 : Value) wz => tape_Other_no t n1 h hT va vb vc vd d1 d2 wz)
  have HSW := Lib.hid (fun (h : n2 ≠ 0) (va vb vc vd ve vf : Value) wz => tape_Swap_no x n2 h hchk va vb vc vd ve vf wz)
  have HS1 := Lib.hid (fun (va vb vc vd ve vf : Value) (us vs : List E) wz (h1 : SlE wz wz.heap.size va us) (h2 : SlE wz wz.heap.size vb vs) (h3 : us.length ≠ vs.length) => tape_Swap_size1 hF y hy.ok hy.calls va vb vc vd ve vf us vs wz h1 h2 h3)
  have HS2 := Lib.hid (fun (va vb vc vd ve vf : Value) (us vs ps qs : List E) wz (h1 : SlE wz wz.heap.size va us) (h2 : SlE wz wz.heap.size vb vs) (h3 : SlE wz wz.heap.size vc ps) (h4 : SlE wz wz.heap.size vd qs) (h5 : us.length = vs.length) (h6 : us.length ≤ 1099511627776) (h7 : ps.length ≠ qs.length) => tape_Swap_size2 hF y hy.ok hy.calls va vb vc vd ve vf us vs ps qs wz h1 h2 h3 h4 h5 h6 h7)
  unfold CK.val at HCIR HS1 HS2
  clear hCIR hT hchk
  obtain ⟨⟨tk, tf, tb, tl, tm, tc⟩, tp, ts⟩ := t
  obtain ⟨xk, xf, xb, xl, xm, xc⟩ := x
  unfold RawT.val at HT HSP HOT ⊢
  unfold Raw.val at HC HSW ⊢
  dsimp only at HT HSP HOT HC HSW ⊢
  generalize ((y.k : Nat) : Int) = yk at *
  generalize ((y.b : Nat) : Int) = yb at *
  generalize ((y.l : Nat) : Int) = yl at *
  generalize ((y.m : Nat) : Int) = ym at *
  generalize ((y.c : Nat) : Int) = yc at *
  generalize ((F : Nat) : Int) = yf at *
  clear hF hy
  obtain ⟨⟨A, cp, rfl, hlc, hcm, _⟩, _⟩ := hxs
  generalize xs.length = n at *
  go_enter Try.func14, Try.ntmps14
  go_upto_region 1 with fail
  have ht := ((Vs.new w [.int .u8 tk, .int .u8 tf, .int .i64 tb, .int .i64 tl, .int .i64 tm, .int .i64 tc, .int .i64 tp, .string ts] #[.int .u8 tk, .int .u8 tf, .int .i64 tb, .int .i64 tl, .int .i64 tm, .int .i64 tc, .int .i64 tp, .string ts] 95 rfl).alloc (.cells #[.int .u8 xk, .int .u8 xf, .int .i64 xb, .int .i64 xl, .int .i64 xm, .int .i64 xc] 60)).alloc (.cells #[.int .u8 k, .int .u8 f, .int .u8 b, .int .u8 l, .int .u8 m, .int .u8 c] 62)
  have hx := (Vs.new (w.alloc (.cells #[.int .u8 tk, .int .u8 tf, .int .i64 tb, .int .i64 tl, .int .i64 tm, .int .i64 tc, .int .i64 tp, .string ts] 95)) [.int .u8 xk, .int .u8 xf, .int .i64 xb, .int .i64 xl, .int .i64 xm, .int .i64 xc] #[.int .u8 xk, .int .u8 xf, .int .i64 xb, .int .i64 xl, .int .i64 xm, .int .i64 xc] 60 rfl).alloc (.cells #[.int .u8 k, .int .u8 f, .int .u8 b, .int .u8 l, .int .u8 m, .int .u8 c] 62)
  have hs := Vs.new ((w.alloc (.cells #[.int .u8 tk, .int .u8 tf, .int .i64 tb, .int .i64 tl, .int .i64 tm, .int .i64 tc, .int .i64 tp, .string ts] 95)).alloc (.cells #[.int .u8 xk, .int .u8 xf, .int .i64 xb, .int .i64 xl, .int .i64 xm, .int .i64 xc] 60)) [.int .u8 k, .int .u8 f, .int .u8 b, .int .u8 l, .int .u8 m, .int .u8 c] #[.int .u8 k, .int .u8 f, .int .u8 b, .int .u8 l, .int .u8 m, .int .u8 c] 62 rfl
  simp only [World.size_alloc] at hx hs
  have hbw : Below w.heap.size w (((w.alloc (.cells #[.int .u8 tk, .int .u8 tf, .int .i64 tb, .int .i64 tl, .int .i64 tm, .int .i64 tc, .int .i64 tp, .string ts] 95)).alloc (.cells #[.int .u8 xk, .int .u8 xf, .int .i64 xb, .int .i64 xl, .int .i64 xm, .int .i64 xc] 60)).alloc (.cells #[.int .u8 k, .int .u8 f, .int .u8 b, .int .u8 l, .int .u8 m, .int .u8 c] 62)) := by repeat (first | exact Below.refl _ _ | with_reducible assumption | (refine bl_alloc ?_ (Nat.le_refl _) _))
  have hszn : w.heap.size + 3 ≤ (((w.alloc (.cells #[.int .u8 tk, .int .u8 tf, .int .i64 tb, .int .i64 tl, .int .i64 tm, .int .i64 tc, .int .i64 tp, .string ts] 95)).alloc (.cells #[.int .u8 xk, .int .u8 xf, .int .i64 xb, .int .i64 xl, .int .i64 xm, .int .i64 xc] 60)).alloc (.cells #[.int .u8 k, .int .u8 f, .int .u8 b, .int .u8 l, .int .u8 m, .int .u8 c] 62)).heap.size := by simp only [World.size_alloc]; omega
  generalize (((w.alloc (.cells #[.int .u8 tk, .int .u8 tf, .int .i64 tb, .int .i64 tl, .int .i64 tm, .int .i64 tc, .int .i64 tp, .string ts] 95)).alloc (.cells #[.int .u8 xk, .int .u8 xf, .int .i64 xb, .int .i64 xl, .int .i64 xm, .int .i64 xc] 60)).alloc (.cells #[.int .u8 k, .int .u8 f, .int .u8 b, .int .u8 l, .int .u8 m, .int .u8 c] 62)) = w1 at ht hx hs hbw hszn ⊢
  by_cases h30 : 30 < n
  · skip
    go_wp2_with (first
      | (go_at_call 18; refine (HAW.out _).mono ?_; rintro e w2 ⟨rfl, hb2⟩; replace hbw := bl_call hbw (Nat.le_refl _) hb2; replace ht := ht.call hb2; replace hx := hx.call hb2; replace hs := hs.call hb2))
    go_ret
    exact ⟨rfl, hbw⟩
  obtain ⟨⟨t0, t1, t2, t3, t4, t5, t6, t7⟩, ⟨t8, t9, t10, t11, t12, t13, t14, t15⟩, t16⟩ := ht.get8
  obtain ⟨⟨x0, x1, x2, x3, x4, x5⟩, ⟨x6, x7, x8, x9, x10, x11⟩, x12⟩ := hx.get6
  obtain ⟨⟨s0, s1, s2, s3, s4, s5⟩, ⟨s6, s7, s8, s9, s10, s11⟩, s12⟩ := hs.get6
  go_upto_region 6 with (first
    | (go_at_call 18; refine (HAW.out _).mono ?_; rintro e w2 ⟨rfl, hb2⟩; replace hbw := bl_call hbw (Nat.le_refl _) hb2; replace ht := ht.call hb2; replace hx := hx.call hb2; replace hs := hs.call hb2; clear t0 t1 t2 t3 t4 t5 t6 t7 t8 t9 t10 t11 t12 t13 t14 t15 t16 x0 x1 x2 x3 x4 x5 x6 x7 x8 x9 x10 x11 x12 s0 s1 s2 s3 s4 s5 s6 s7 s8 s9 s10 s11 s12; clear hb2; obtain ⟨⟨t0, t1, t2, t3, t4, t5, t6, t7⟩, ⟨t8, t9, t10, t11, t12, t13, t14, t15⟩, t16⟩ := ht.get8; obtain ⟨⟨x0, x1, x2, x3, x4, x5⟩, ⟨x6, x7, x8, x9, x10, x11⟩, x12⟩ := hx.get6; obtain ⟨⟨s0, s1, s2, s3, s4, s5⟩, ⟨s6, s7, s8, s9, s10, s11⟩, s12⟩ := hs.get6)
    | (go_at_call 71; refine (HT.out _).mono ?_; rintro e w3 ⟨rfl, hb3⟩; replace hbw := bl_call hbw (Nat.le_refl _) hb3; replace ht := ht.call hb3; replace hx := hx.call hb3; replace hs := hs.call hb3; clear t0 t1 t2 t3 t4 t5 t6 t7 t8 t9 t10 t11 t12 t13 t14 t15 t16 x0 x1 x2 x3 x4 x5 x6 x7 x8 x9 x10 x11 x12 s0 s1 s2 s3 s4 s5 s6 s7 s8 s9 s10 s11 s12; clear hb3; obtain ⟨⟨t0, t1, t2, t3, t4, t5, t6, t7⟩, ⟨t8, t9, t10, t11, t12, t13, t14, t15⟩, t16⟩ := ht.get8; obtain ⟨⟨x0, x1, x2, x3, x4, x5⟩, ⟨x6, x7, x8, x9, x10, x11⟩, x12⟩ := hx.get6; obtain ⟨⟨s0, s1, s2, s3, s4, s5⟩, ⟨s6, s7, s8, s9, s10, s11⟩, s12⟩ := hs.get6))
  clear t0 t1 t2 t3 t4 t5 t6 t7 t8 t9 t10 t11 t12 t13 t14 t15 t16 x0 x1 x2 x3 x4 x5 x6 x7 x8 x9 x10 x11 x12 s0 s1 s2 s3 s4 s5 s6 s7 s8 s9 s10 s11 s12
  have HLT := Lib.hid (show w.heap.size + 1 + 1 < w3.heap.size from hs.lt)
  by_cases hn1 : n1 = 0
  · subst hn1
    go_upto_region 11 with fail
    obtain ⟨⟨x0, x1, x2, x3, x4, x5⟩, ⟨x6, x7, x8, x9, x10, x11⟩, x12⟩ := hx.get6
    go_upto_region 12 with (first
      | (go_at_call 59; refine (HC.out _).mono ?_; rintro e w8 ⟨rfl, hb8⟩; replace hbw := bl_call hbw (Nat.le_refl _) hb8; replace hx := hx.call hb8; replace hs := hs.call hb8; clear x0 x1 x2 x3 x4 x5 x6 x7 x8 x9 x10 x11 x12; clear hb8; obtain ⟨⟨x0, x1, x2, x3, x4, x5⟩, ⟨x6, x7, x8, x9, x10, x11⟩, x12⟩ := hx.get6))
    by_cases hn2 : n2 = 0
    · subst hn2
      clear x0 x1 x2 x3 x4 x5 x6 x7 x8 x9 x10 x11 x12
      go_upto_region 16 with fail
      obtain ⟨⟨s0, s1, s2, s3, s4, s5⟩, ⟨s6, s7, s8, s9, s10, s11⟩, s12⟩ := hs.get6
      go_upto_region 17 with (first
        | (go_at_call 36; refine (HCIR.out _).mono ?_; rintro e w12 ⟨rfl, hb12⟩; replace hbw := bl_call hbw (Nat.le_refl _) hb12; replace hs := hs.call hb12))
      clear s0 s1 s2 s3 s4 s5 s6 s7 s8 s9 s10 s11 s12
      have hy9 := Vs.new w12 [.int .u8 yk, .int .u8 yf, .int .i64 yb, .int .i64 yl, .int .i64 ym, .int .i64 yc] #[.int .u8 yk, .int .u8 yf, .int .i64 yb, .int .i64 yl, .int .i64 ym, .int .i64 yc] 60 rfl
      have hbA : Below w12.heap.size w12 (w12.alloc (.cells #[.int .u8 yk, .int .u8 yf, .int .i64 yb, .int .i64 yl, .int .i64 ym, .int .i64 yc] 60)) := by repeat (first | exact Below.refl _ _ | with_reducible assumption | (refine bl_alloc ?_ (Nat.le_refl _) _))
      replace hbw := bl_call hbw (Nat.le_refl _) hbA
      replace hs := hs.call hbA
      clear hbA
      generalize w12.alloc (.cells #[.int .u8 yk, .int .u8 yf, .int .i64 yb, .int .i64 yl, .int .i64 ym, .int .i64 yc] 60) = w13 at hbw hs hy9 ⊢
      have hyl : w12.heap.size < w13.heap.size := hy9.lt
      have hz13 := hbw.size
      have hmk := make_elem n (by omega)
      have HOW := Lib.hid ((own_make w13 (List.replicate n (0, 0)) n (by simp) (by omega)).alloc (.cells #[.int .u64 0, .int .u64 0] 41))
      have HR1 : Hid (0 < 1 → ∃ b o, (some ⟨w13.heap.size + 1, 0, none⟩ : Option Addr) = some ⟨b, o, none⟩ ∧ RowE ((w13.alloc (.cells (cellsE (List.replicate n (0, 0))).toArray 41)).alloc (.cells #[.int .u64 0, .int .u64 0] 41)) b o [(0, 0)]) := fun _ => ⟨_, _, rfl, by
        have h := (BlkE.new (w13.alloc (.cells (cellsE (List.replicate n (0, 0))).toArray 41)) [(0, 0)] _ rfl).rowE
        rwa [World.size_alloc] at h⟩
      have hbase : w13.heap.size ≤ ((w13.alloc (.cells (cellsE (List.replicate n (0, 0))).toArray 41)).alloc (.cells #[.int .u64 0, .int .u64 0] 41)).heap.size := by simp only [World.size_alloc]; omega
      have hbA : Below w13.heap.size w13 ((w13.alloc (.cells (cellsE (List.replicate n (0, 0))).toArray 41)).alloc (.cells #[.int .u64 0, .int .u64 0] 41)) := by repeat (first | exact Below.refl _ _ | with_reducible assumption | (refine bl_alloc ?_ (Nat.le_refl _) _) | (refine bl_set ?_ (by dsimp only; omega) _) | (refine Below.drew ?_) | (refine bl_drewN ?_ _) | (refine bl_call ?_ (Nat.le_refl _) (by assumption)))
      have hk1 : n + 1 ≤ 1099511627776 := by omega
      go_upto_region 18 with (at_builtin; (refine wpList_append_E rfl (.tmp 85) (.tmp 87) rfl w13.heap.size _ n (List.replicate n (0, 0)) rfl HOW.out (some ⟨w13.heap.size + 1, 0, none⟩) 1 1 [(0, 0)] rfl rfl HR1.out hk1 hbase ?_; intro v2 w14 hown hg7 hat7; have hb14 : Below w13.heap.size ((w13.alloc (.cells (cellsE (List.replicate n (0, 0))).toArray 41)).alloc (.cells #[.int .u64 0, .int .u64 0] 41)) w14 := (Below.refl _ _).grown hg7 hbase (fun q hq => (HOW.out.lt q hq).1); obtain ⟨A2, cap2, hv2⟩ := own_shape hown; rw [hv2]))
      rw [hv2] at hown
      have hL : SlE w14 w14.heap.size (.slice A2 (n + 1) cap2) (List.replicate n (0, 0) ++ [(0, 0)]) := SlE.of_own (xs := List.replicate n (0, 0) ++ [(0, 0)]) (by simpa using hown) (fun e he => by
        rcases List.mem_append.1 he with h | h
        · exact zeros_ok n e h
        · exact zeros_ok 1 e (by simpa using h))
      have hy14 := (hy9.call hbA).belowB hb14 hyl
      have hbw14 : Below w.heap.size w w14 := (bl_call hbw (Nat.le_refl _) hbA).trans (hb14.mono hz13)
      clear hs hbw hy9 hb14 hbA hown HOW HR1 hbase hyl hz13
      go_upto_region 19 with fail
      have hBk : BlkE (w14.alloc (.cells (cellsE (List.replicate n (0, 0))).toArray 41)) w14.heap.size (List.replicate n (0, 0)) := heap_alloc_new w14 _
      have hbA : Below w14.heap.size w14 (w14.alloc (.cells (cellsE (List.replicate n (0, 0))).toArray 41)) := by repeat (first | exact Below.refl _ _ | with_reducible assumption | (refine bl_alloc ?_ (Nat.le_refl _) _) | (refine bl_set ?_ (by dsimp only; omega) _) | (refine Below.drew ?_) | (refine bl_drewN ?_ _) | (refine bl_call ?_ (Nat.le_refl _) (by assumption)))
      replace hL := hL.later hbA
      replace hy14 := hy14.call hbA
      replace hbw14 := bl_call hbw14 (Nat.le_refl _) hbA
      clear hbA
      generalize w14.alloc (.cells (cellsE (List.replicate n (0, 0))).toArray 41) = w15 at hBk hL hy14 hbw14 ⊢
      generalize w14.heap.size = g2 at hBk ⊢
      have hSS : SlE w15 w15.heap.size (.slice (some ⟨g2, 0, none⟩) n n) (List.replicate n (0, 0)) := by
        have h := hBk.sl (by simp; omega) (zeros_ok n) hBk.lt
        rwa [List.length_replicate] at h
      clear hBk hmk
      obtain ⟨⟨y140, y141, y142, y143, y144, y145⟩, ⟨y146, y147, y148, y149, y1410, y1411⟩, y1412⟩ := hy14.get6
      go_wp2_with fail
      refine (HS1.out _ _ _ _ _ _ _ _ _ hSS hL (by simp)).mono ?_
      rintro e w16 ⟨rfl, hb16⟩
      clear y140 y141 y142 y143 y144 y145 y146 y147 y148 y149 y1410 y1411 y1412
      replace hbw14 := bl_call hbw14 (Nat.le_refl _) hb16
      replace hy14 := hy14.call hb16
      replace hL := hL.later hb16
      replace hSS := hSS.later hb16
      clear hb16
      obtain ⟨⟨y140, y141, y142, y143, y144, y145⟩, ⟨y146, y147, y148, y149, y1410, y1411⟩, y1412⟩ := hy14.get6
      go_wp2_with fail
      refine (HS2.out _ _ _ _ _ _ _ _ _ _ _ hSS hSS hSS hL rfl (by simp; omega) (by simp)).mono ?_
      rintro e w17 ⟨rfl, hb17⟩
      clear y140 y141 y142 y143 y144 y145 y146 y147 y148 y149 y1410 y1411 y1412
      replace hbw14 := bl_call hbw14 (Nat.le_refl _) hb17
      replace hy14 := hy14.call hb17
      replace hL := hL.later hb17
      replace hSS := hSS.later hb17
      go_wp2_with fail
      go_ret
      exact ⟨rfl, hbw14⟩
    · have h2a : (n2 == 0) = false := by simpa using hn2
      have h2b : (n2 != 0) = true := by simpa using hn2
      have HN2 := Lib.hid hn2
      clear hn2
      go_wp2_with fail
      refine (HSW.out HN2.out _ _ _ _ _ _ _).mono ?_
      rintro e w9 ⟨rfl, hb9⟩
      clear x0 x1 x2 x3 x4 x5 x6 x7 x8 x9 x10 x11 x12
      replace hbw := bl_call hbw (Nat.le_refl _) hb9
      replace hx := hx.call hb9
      replace hs := hs.call hb9
      clear hb9
      go_upto_region 16 with fail
      obtain ⟨⟨s0, s1, s2, s3, s4, s5⟩, ⟨s6, s7, s8, s9, s10, s11⟩, s12⟩ := hs.get6
      go_upto_region 17 with (first
        | (go_at_call 36; refine (HCIR.out _).mono ?_; rintro e w12 ⟨rfl, hb12⟩; replace hbw := bl_call hbw (Nat.le_refl _) hb12; replace hs := hs.call hb12))
      clear s0 s1 s2 s3 s4 s5 s6 s7 s8 s9 s10 s11 s12
      have hy9 := Vs.new w12 [.int .u8 yk, .int .u8 yf, .int .i64 yb, .int .i64 yl, .int .i64 ym, .int .i64 yc] #[.int .u8 yk, .int .u8 yf, .int .i64 yb, .int .i64 yl, .int .i64 ym, .int .i64 yc] 60 rfl
      have hbA : Below w12.heap.size w12 (w12.alloc (.cells #[.int .u8 yk, .int .u8 yf, .int .i64 yb, .int .i64 yl, .int .i64 ym, .int .i64 yc] 60)) := by repeat (first | exact Below.refl _ _ | with_reducible assumption | (refine bl_alloc ?_ (Nat.le_refl _) _))
      replace hbw := bl_call hbw (Nat.le_refl _) hbA
      replace hs := hs.call hbA
      clear hbA
      generalize w12.alloc (.cells #[.int .u8 yk, .int .u8 yf, .int .i64 yb, .int .i64 yl, .int .i64 ym, .int .i64 yc] 60) = w13 at hbw hs hy9 ⊢
      have hyl : w12.heap.size < w13.heap.size := hy9.lt
      have hz13 := hbw.size
      have hmk := make_elem n (by omega)
      have HOW := Lib.hid ((own_make w13 (List.replicate n (0, 0)) n (by simp) (by omega)).alloc (.cells #[.int .u64 0, .int .u64 0] 41))
      have HR1 : Hid (0 < 1 → ∃ b o, (some ⟨w13.heap.size + 1, 0, none⟩ : Option Addr) = some ⟨b, o, none⟩ ∧ RowE ((w13.alloc (.cells (cellsE (List.replicate n (0, 0))).toArray 41)).alloc (.cells #[.int .u64 0, .int .u64 0] 41)) b o [(0, 0)]) := fun _ => ⟨_, _, rfl, by
        have h := (BlkE.new (w13.alloc (.cells (cellsE (List.replicate n (0, 0))).toArray 41)) [(0, 0)] _ rfl).rowE
        rwa [World.size_alloc] at h⟩
      have hbase : w13.heap.size ≤ ((w13.alloc (.cells (cellsE (List.replicate n (0, 0))).toArray 41)).alloc (.cells #[.int .u64 0, .int .u64 0] 41)).heap.size := by simp only [World.size_alloc]; omega
      have hbA : Below w13.heap.size w13 ((w13.alloc (.cells (cellsE (List.replicate n (0, 0))).toArray 41)).alloc (.cells #[.int .u64 0, .int .u64 0] 41)) := by repeat (first | exact Below.refl _ _ | with_reducible assumption | (refine bl_alloc ?_ (Nat.le_refl _) _) | (refine bl_set ?_ (by dsimp only; omega) _) | (refine Below.drew ?_) | (refine bl_drewN ?_ _) | (refine bl_call ?_ (Nat.le_refl _) (by assumption)))
      have hk1 : n + 1 ≤ 1099511627776 := by omega
      go_upto_region 18 with (at_builtin; (refine wpList_append_E rfl (.tmp 85) (.tmp 87) rfl w13.heap.size _ n (List.replicate n (0, 0)) rfl HOW.out (some ⟨w13.heap.size + 1, 0, none⟩) 1 1 [(0, 0)] rfl rfl HR1.out hk1 hbase ?_; intro v2 w14 hown hg7 hat7; have hb14 : Below w13.heap.size ((w13.alloc (.cells (cellsE (List.replicate n (0, 0))).toArray 41)).alloc (.cells #[.int .u64 0, .int .u64 0] 41)) w14 := (Below.refl _ _).grown hg7 hbase (fun q hq => (HOW.out.lt q hq).1); obtain ⟨A2, cap2, hv2⟩ := own_shape hown; rw [hv2]))
      rw [hv2] at hown
      have hL : SlE w14 w14.heap.size (.slice A2 (n + 1) cap2) (List.replicate n (0, 0) ++ [(0, 0)]) := SlE.of_own (xs := List.replicate n (0, 0) ++ [(0, 0)]) (by simpa using hown) (fun e he => by
        rcases List.mem_append.1 he with h | h
        · exact zeros_ok n e h
        · exact zeros_ok 1 e (by simpa using h))
      have hy14 := (hy9.call hbA).belowB hb14 hyl
      have hbw14 : Below w.heap.size w w14 := (bl_call hbw (Nat.le_refl _) hbA).trans (hb14.mono hz13)
      clear hs hbw hy9 hb14 hbA hown HOW HR1 hbase hyl hz13
      go_upto_region 19 with fail
      have hBk : BlkE (w14.alloc (.cells (cellsE (List.replicate n (0, 0))).toArray 41)) w14.heap.size (List.replicate n (0, 0)) := heap_alloc_new w14 _
      have hbA : Below w14.heap.size w14 (w14.alloc (.cells (cellsE (List.replicate n (0, 0))).toArray 41)) := by repeat (first | exact Below.refl _ _ | with_reducible assumption | (refine bl_alloc ?_ (Nat.le_refl _) _) | (refine bl_set ?_ (by dsimp only; omega) _) | (refine Below.drew ?_) | (refine bl_drewN ?_ _) | (refine bl_call ?_ (Nat.le_refl _) (by assumption)))
      replace hL := hL.later hbA
      replace hy14 := hy14.call hbA
      replace hbw14 := bl_call hbw14 (Nat.le_refl _) hbA
      clear hbA
      generalize w14.alloc (.cells (cellsE (List.replicate n (0, 0))).toArray 41) = w15 at hBk hL hy14 hbw14 ⊢
      generalize w14.heap.size = g2 at hBk ⊢
      have hSS : SlE w15 w15.heap.size (.slice (some ⟨g2, 0, none⟩) n n) (List.replicate n (0, 0)) := by
        have h := hBk.sl (by simp; omega) (zeros_ok n) hBk.lt
        rwa [List.length_replicate] at h
      clear hBk hmk
      obtain ⟨⟨y140, y141, y142, y143, y144, y145⟩, ⟨y146, y147, y148, y149, y1410, y1411⟩, y1412⟩ := hy14.get6
      go_wp2_with fail
      refine (HS1.out _ _ _ _ _ _ _ _ _ hSS hL (by simp)).mono ?_
      rintro e w16 ⟨rfl, hb16⟩
      clear y140 y141 y142 y143 y144 y145 y146 y147 y148 y149 y1410 y1411 y1412
      replace hbw14 := bl_call hbw14 (Nat.le_refl _) hb16
      replace hy14 := hy14.call hb16
      replace hL := hL.later hb16
      replace hSS := hSS.later hb16
      clear hb16
      obtain ⟨⟨y140, y141, y142, y143, y144, y145⟩, ⟨y146, y147, y148, y149, y1410, y1411⟩, y1412⟩ := hy14.get6
      go_wp2_with fail
      refine (HS2.out _ _ _ _ _ _ _ _ _ _ _ hSS hSS hSS hL rfl (by simp; omega) (by simp)).mono ?_
      rintro e w17 ⟨rfl, hb17⟩
      clear y140 y141 y142 y143 y144 y145 y146 y147 y148 y149 y1410 y1411 y1412
      replace hbw14 := bl_call hbw14 (Nat.le_refl _) hb17
      replace hy14 := hy14.call hb17
      replace hL := hL.later hb17
      replace hSS := hSS.later hb17
      go_wp2_with fail
      go_ret
      exact ⟨rfl, hbw14⟩
  · have h1a : (n1 == 0) = false := by simpa using hn1
    have h1b : (n1 != 0) = true := by simpa using hn1
    have HN1 := Lib.hid hn1
    clear hn1
    obtain ⟨⟨t0, t1, t2, t3, t4, t5, t6, t7⟩, ⟨t8, t9, t10, t11, t12, t13, t14, t15⟩, t16⟩ := ht.get8
    go_wp2_with fail
    refine (HSP.out HN1.out _ _ _ _ _).mono ?_
    rintro e w4 ⟨rfl, hb4⟩
    clear t0 t1 t2 t3 t4 t5 t6 t7 t8 t9 t10 t11 t12 t13 t14 t15 t16
    replace hbw := bl_call hbw (Nat.le_refl _) hb4
    replace ht := ht.call hb4
    replace hx := hx.call hb4
    replace hs := hs.call hb4
    clear hb4
    go_upto_region 8 with fail
    have hq := Vs.new w4 [.slice none 0 0, .slice none 0 0, .slice none 0 0, .slice none 0 0] #[.slice none 0 0, .slice none 0 0, .slice none 0 0, .slice none 0 0] 100 rfl
    have hbA : Below w4.heap.size w4 (w4.alloc (.cells #[.slice none 0 0, .slice none 0 0, .slice none 0 0, .slice none 0 0] 100)) := by repeat (first | exact Below.refl _ _ | with_reducible assumption | (refine bl_alloc ?_ (Nat.le_refl _) _))
    replace hbw := bl_call hbw (Nat.le_refl _) hbA
    replace ht := ht.call hbA
    replace hx := hx.call hbA
    replace hs := hs.call hbA
    clear hbA
    generalize w4.alloc (.cells #[.slice none 0 0, .slice none 0 0, .slice none 0 0, .slice none 0 0] 100) = w5 at hbw ht hx hs hq ⊢
    obtain ⟨⟨t0, t1, t2, t3, t4, t5, t6, t7⟩, ⟨t8, t9, t10, t11, t12, t13, t14, t15⟩, t16⟩ := ht.get8
    go_wp2_with fail
    refine (HOT.out HN1.out _ _ _ _ _ _ _).mono ?_
    rintro e w6 ⟨rfl, hb6⟩
    clear t0 t1 t2 t3 t4 t5 t6 t7 t8 t9 t10 t11 t12 t13 t14 t15 t16
    replace hbw := bl_call hbw (Nat.le_refl _) hb6
    replace ht := ht.call hb6
    replace hx := hx.call hb6
    replace hs := hs.call hb6
    replace hq := hq.call hb6
    clear hb6
    go_upto_region 9 with fail
    have hq2 := V2.new w6 (.slice none 0 0) (.slice none 0 0) 98
    have hbA : Below w6.heap.size w6 (w6.alloc (.cells #[.slice none 0 0, .slice none 0 0] 98)) := by repeat (first | exact Below.refl _ _ | with_reducible assumption | (refine bl_alloc ?_ (Nat.le_refl _) _))
    replace hbw := bl_call hbw (Nat.le_refl _) hbA
    replace ht := ht.call hbA
    replace hx := hx.call hbA
    replace hs := hs.call hbA
    replace hq := hq.call hbA
    clear hbA
    generalize w6.alloc (.cells #[.slice none 0 0, .slice none 0 0] 98) = w7 at hbw ht hx hs hq hq2 ⊢
    clear hq hq2
    go_upto_region 11 with fail
    obtain ⟨⟨x0, x1, x2, x3, x4, x5⟩, ⟨x6, x7, x8, x9, x10, x11⟩, x12⟩ := hx.get6
    go_upto_region 12 with (first
      | (go_at_call 59; refine (HC.out _).mono ?_; rintro e w8 ⟨rfl, hb8⟩; replace hbw := bl_call hbw (Nat.le_refl _) hb8; replace hx := hx.call hb8; replace hs := hs.call hb8; clear x0 x1 x2 x3 x4 x5 x6 x7 x8 x9 x10 x11 x12; clear hb8; obtain ⟨⟨x0, x1, x2, x3, x4, x5⟩, ⟨x6, x7, x8, x9, x10, x11⟩, x12⟩ := hx.get6))
    by_cases hn2 : n2 = 0
    · subst hn2
      clear x0 x1 x2 x3 x4 x5 x6 x7 x8 x9 x10 x11 x12
      go_upto_region 16 with fail
      obtain ⟨⟨s0, s1, s2, s3, s4, s5⟩, ⟨s6, s7, s8, s9, s10, s11⟩, s12⟩ := hs.get6
      go_upto_region 17 with (first
        | (go_at_call 36; refine (HCIR.out _).mono ?_; rintro e w12 ⟨rfl, hb12⟩; replace hbw := bl_call hbw (Nat.le_refl _) hb12; replace hs := hs.call hb12))
      clear s0 s1 s2 s3 s4 s5 s6 s7 s8 s9 s10 s11 s12
      have hy9 := Vs.new w12 [.int .u8 yk, .int .u8 yf, .int .i64 yb, .int .i64 yl, .int .i64 ym, .int .i64 yc] #[.int .u8 yk, .int .u8 yf, .int .i64 yb, .int .i64 yl, .int .i64 ym, .int .i64 yc] 60 rfl
      have hbA : Below w12.heap.size w12 (w12.alloc (.cells #[.int .u8 yk, .int .u8 yf, .int .i64 yb, .int .i64 yl, .int .i64 ym, .int .i64 yc] 60)) := by repeat (first | exact Below.refl _ _ | with_reducible assumption | (refine bl_alloc ?_ (Nat.le_refl _) _))
      replace hbw := bl_call hbw (Nat.le_refl _) hbA
      replace hs := hs.call hbA
      clear hbA
      generalize w12.alloc (.cells #[.int .u8 yk, .int .u8 yf, .int .i64 yb, .int .i64 yl, .int .i64 ym, .int .i64 yc] 60) = w13 at hbw hs hy9 ⊢
      have hyl : w12.heap.size < w13.heap.size := hy9.lt
      have hz13 := hbw.size
      have hmk := make_elem n (by omega)
      have HOW := Lib.hid ((own_make w13 (List.replicate n (0, 0)) n (by simp) (by omega)).alloc (.cells #[.int .u64 0, .int .u64 0] 41))
      have HR1 : Hid (0 < 1 → ∃ b o, (some ⟨w13.heap.size + 1, 0, none⟩ : Option Addr) = some ⟨b, o, none⟩ ∧ RowE ((w13.alloc (.cells (cellsE (List.replicate n (0, 0))).toArray 41)).alloc (.cells #[.int .u64 0, .int .u64 0] 41)) b o [(0, 0)]) := fun _ => ⟨_, _, rfl, by
        have h := (BlkE.new (w13.alloc (.cells (cellsE (List.replicate n (0, 0))).toArray 41)) [(0, 0)] _ rfl).rowE
        rwa [World.size_alloc] at h⟩
      have hbase : w13.heap.size ≤ ((w13.alloc (.cells (cellsE (List.replicate n (0, 0))).toArray 41)).alloc (.cells #[.int .u64 0, .int .u64 0] 41)).heap.size := by simp only [World.size_alloc]; omega
      have hbA : Below w13.heap.size w13 ((w13.alloc (.cells (cellsE (List.replicate n (0, 0))).toArray 41)).alloc (.cells #[.int .u64 0, .int .u64 0] 41)) := by repeat (first | exact Below.refl _ _ | with_reducible assumption | (refine bl_alloc ?_ (Nat.le_refl _) _) | (refine bl_set ?_ (by dsimp only; omega) _) | (refine Below.drew ?_) | (refine bl_drewN ?_ _) | (refine bl_call ?_ (Nat.le_refl _) (by assumption)))
      have hk1 : n + 1 ≤ 1099511627776 := by omega
      go_upto_region 18 with (at_builtin; (refine wpList_append_E rfl (.tmp 85) (.tmp 87) rfl w13.heap.size _ n (List.replicate n (0, 0)) rfl HOW.out (some ⟨w13.heap.size + 1, 0, none⟩) 1 1 [(0, 0)] rfl rfl HR1.out hk1 hbase ?_; intro v2 w14 hown hg7 hat7; have hb14 : Below w13.heap.size ((w13.alloc (.cells (cellsE (List.replicate n (0, 0))).toArray 41)).alloc (.cells #[.int .u64 0, .int .u64 0] 41)) w14 := (Below.refl _ _).grown hg7 hbase (fun q hq => (HOW.out.lt q hq).1); obtain ⟨A2, cap2, hv2⟩ := own_shape hown; rw [hv2]))
      rw [hv2] at hown
      have hL : SlE w14 w14.heap.size (.slice A2 (n + 1) cap2) (List.replicate n (0, 0) ++ [(0, 0)]) := SlE.of_own (xs := List.replicate n (0, 0) ++ [(0, 0)]) (by simpa using hown) (fun e he => by
        rcases List.mem_append.1 he with h | h
        · exact zeros_ok n e h
        · exact zeros_ok 1 e (by simpa using h))
      have hy14 := (hy9.call hbA).belowB hb14 hyl
      have hbw14 : Below w.heap.size w w14 := (bl_call hbw (Nat.le_refl _) hbA).trans (hb14.mono hz13)
      clear hs hbw hy9 hb14 hbA hown HOW HR1 hbase hyl hz13
      go_upto_region 19 with fail
      have hBk : BlkE (w14.alloc (.cells (cellsE (List.replicate n (0, 0))).toArray 41)) w14.heap.size (List.replicate n (0, 0)) := heap_alloc_new w14 _
      have hbA : Below w14.heap.size w14 (w14.alloc (.cells (cellsE (List.replicate n (0, 0))).toArray 41)) := by repeat (first | exact Below.refl _ _ | with_reducible assumption | (refine bl_alloc ?_ (Nat.le_refl _) _) | (refine bl_set ?_ (by dsimp only; omega) _) | (refine Below.drew ?_) | (refine bl_drewN ?_ _) | (refine bl_call ?_ (Nat.le_refl _) (by assumption)))
      replace hL := hL.later hbA
      replace hy14 := hy14.call hbA
      replace hbw14 := bl_call hbw14 (Nat.le_refl _) hbA
      clear hbA
      generalize w14.alloc (.cells (cellsE (List.replicate n (0, 0))).toArray 41) = w15 at hBk hL hy14 hbw14 ⊢
      generalize w14.heap.size = g2 at hBk ⊢
      have hSS : SlE w15 w15.heap.size (.slice (some ⟨g2, 0, none⟩) n n) (List.replicate n (0, 0)) := by
        have h := hBk.sl (by simp; omega) (zeros_ok n) hBk.lt
        rwa [List.length_replicate] at h
      clear hBk hmk
      obtain ⟨⟨y140, y141, y142, y143, y144, y145⟩, ⟨y146, y147, y148, y149, y1410, y1411⟩, y1412⟩ := hy14.get6
      go_wp2_with fail
      refine (HS1.out _ _ _ _ _ _ _ _ _ hSS hL (by simp)).mono ?_
      rintro e w16 ⟨rfl, hb16⟩
      clear y140 y141 y142 y143 y144 y145 y146 y147 y148 y149 y1410 y1411 y1412
      replace hbw14 := bl_call hbw14 (Nat.le_refl _) hb16
      replace hy14 := hy14.call hb16
      replace hL := hL.later hb16
      replace hSS := hSS.later hb16
      clear hb16
      obtain ⟨⟨y140, y141, y142, y143, y144, y145⟩, ⟨y146, y147, y148, y149, y1410, y1411⟩, y1412⟩ := hy14.get6
      go_wp2_with fail
      refine (HS2.out _ _ _ _ _ _ _ _ _ _ _ hSS hSS hSS hL rfl (by simp; omega) (by simp)).mono ?_
      rintro e w17 ⟨rfl, hb17⟩
      clear y140 y141 y142 y143 y144 y145 y146 y147 y148 y149 y1410 y1411 y1412
      replace hbw14 := bl_call hbw14 (Nat.le_refl _) hb17
      replace hy14 := hy14.call hb17
      replace hL := hL.later hb17
      replace hSS := hSS.later hb17
      go_wp2_with fail
      go_ret
      exact ⟨rfl, hbw14⟩
    · have h2a : (n2 == 0) = false := by simpa using hn2
      have h2b : (n2 != 0) = true := by simpa using hn2
      have HN2 := Lib.hid hn2
      clear hn2
      go_wp2_with fail
      refine (HSW.out HN2.out _ _ _ _ _ _ _).mono ?_
      rintro e w9 ⟨rfl, hb9⟩
      clear x0 x1 x2 x3 x4 x5 x6 x7 x8 x9 x10 x11 x12
      replace hbw := bl_call hbw (Nat.le_refl _) hb9
      replace hx := hx.call hb9
      replace hs := hs.call hb9
      clear hb9
      go_upto_region 16 with fail
      obtain ⟨⟨s0, s1, s2, s3, s4, s5⟩, ⟨s6, s7, s8, s9, s10, s11⟩, s12⟩ := hs.get6
      go_upto_region 17 with (first
        | (go_at_call 36; refine (HCIR.out _).mono ?_; rintro e w12 ⟨rfl, hb12⟩; replace hbw := bl_call hbw (Nat.le_refl _) hb12; replace hs := hs.call hb12))
      clear s0 s1 s2 s3 s4 s5 s6 s7 s8 s9 s10 s11 s12
      have hy9 := Vs.new w12 [.int .u8 yk, .int .u8 yf, .int .i64 yb, .int .i64 yl, .int .i64 ym, .int .i64 yc] #[.int .u8 yk, .int .u8 yf, .int .i64 yb, .int .i64 yl, .int .i64 ym, .int .i64 yc] 60 rfl
      have hbA : Below w12.heap.size w12 (w12.alloc (.cells #[.int .u8 yk, .int .u8 yf, .int .i64 yb, .int .i64 yl, .int .i64 ym, .int .i64 yc] 60)) := by repeat (first | exact Below.refl _ _ | with_reducible assumption | (refine bl_alloc ?_ (Nat.le_refl _) _))
      replace hbw := bl_call hbw (Nat.le_refl _) hbA
      replace hs := hs.call hbA
      clear hbA
      generalize w12.alloc (.cells #[.int .u8 yk, .int .u8 yf, .int .i64 yb, .int .i64 yl, .int .i64 ym, .int .i64 yc] 60) = w13 at hbw hs hy9 ⊢
      have hyl : w12.heap.size < w13.heap.size := hy9.lt
      have hz13 := hbw.size
      have hmk := make_elem n (by omega)
      have HOW := Lib.hid ((own_make w13 (List.replicate n (0, 0)) n (by simp) (by omega)).alloc (.cells #[.int .u64 0, .int .u64 0] 41))
      have HR1 : Hid (0 < 1 → ∃ b o, (some ⟨w13.heap.size + 1, 0, none⟩ : Option Addr) = some ⟨b, o, none⟩ ∧ RowE ((w13.alloc (.cells (cellsE (List.replicate n (0, 0))).toArray 41)).alloc (.cells #[.int .u64 0, .int .u64 0] 41)) b o [(0, 0)]) := fun _ => ⟨_, _, rfl, by
        have h := (BlkE.new (w13.alloc (.cells (cellsE (List.replicate n (0, 0))).toArray 41)) [(0, 0)] _ rfl).rowE
        rwa [World.size_alloc] at h⟩
      have hbase : w13.heap.size ≤ ((w13.alloc (.cells (cellsE (List.replicate n (0, 0))).toArray 41)).alloc (.cells #[.int .u64 0, .int .u64 0] 41)).heap.size := by simp only [World.size_alloc]; omega
      have hbA : Below w13.heap.size w13 ((w13.alloc (.cells (cellsE (List.replicate n (0, 0))).toArray 41)).alloc (.cells #[.int .u64 0, .int .u64 0] 41)) := by repeat (first | exact Below.refl _ _ | with_reducible assumption | (refine bl_alloc ?_ (Nat.le_refl _) _) | (refine bl_set ?_ (by dsimp only; omega) _) | (refine Below.drew ?_) | (refine bl_drewN ?_ _) | (refine bl_call ?_ (Nat.le_refl _) (by assumption)))
      have hk1 : n + 1 ≤ 1099511627776 := by omega
      go_upto_region 18 with (at_builtin; (refine wpList_append_E rfl (.tmp 85) (.tmp 87) rfl w13.heap.size _ n (List.replicate n (0, 0)) rfl HOW.out (some ⟨w13.heap.size + 1, 0, none⟩) 1 1 [(0, 0)] rfl rfl HR1.out hk1 hbase ?_; intro v2 w14 hown hg7 hat7; have hb14 : Below w13.heap.size ((w13.alloc (.cells (cellsE (List.replicate n (0, 0))).toArray 41)).alloc (.cells #[.int .u64 0, .int .u64 0] 41)) w14 := (Below.refl _ _).grown hg7 hbase (fun q hq => (HOW.out.lt q hq).1); obtain ⟨A2, cap2, hv2⟩ := own_shape hown; rw [hv2]))
      rw [hv2] at hown
      have hL : SlE w14 w14.heap.size (.slice A2 (n + 1) cap2) (List.replicate n (0, 0) ++ [(0, 0)]) := SlE.of_own (xs := List.replicate n (0, 0) ++ [(0, 0)]) (by simpa using hown) (fun e he => by
        rcases List.mem_append.1 he with h | h
        · exact zeros_ok n e h
        · exact zeros_ok 1 e (by simpa using h))
      have hy14 := (hy9.call hbA).belowB hb14 hyl
      have hbw14 : Below w.heap.size w w14 := (bl_call hbw (Nat.le_refl _) hbA).trans (hb14.mono hz13)
      clear hs hbw hy9 hb14 hbA hown HOW HR1 hbase hyl hz13
      go_upto_region 19 with fail
      have hBk : BlkE (w14.alloc (.cells (cellsE (List.replicate n (0, 0))).toArray 41)) w14.heap.size (List.replicate n (0, 0)) := heap_alloc_new w14 _
      have hbA : Below w14.heap.size w14 (w14.alloc (.cells (cellsE (List.replicate n (0, 0))).toArray 41)) := by repeat (first | exact Below.refl _ _ | with_reducible assumption | (refine bl_alloc ?_ (Nat.le_refl _) _) | (refine bl_set ?_ (by dsimp only; omega) _) | (refine Below.drew ?_) | (refine bl_drewN ?_ _) | (refine bl_call ?_ (Nat.le_refl _) (by assumption)))
      replace hL := hL.later hbA
      replace hy14 := hy14.call hbA
      replace hbw14 := bl_call hbw14 (Nat.le_refl _) hbA
      clear hbA
      generalize w14.alloc (.cells (cellsE (List.replicate n (0, 0))).toArray 41) = w15 at hBk hL hy14 hbw14 ⊢
      generalize w14.heap.size = g2 at hBk ⊢
      have hSS : SlE w15 w15.heap.size (.slice (some ⟨g2, 0, none⟩) n n) (List.replicate n (0, 0)) := by
        have h := hBk.sl (by simp; omega) (zeros_ok n) hBk.lt
        rwa [List.length_replicate] at h
      clear hBk hmk
      obtain ⟨⟨y140, y141, y142, y143, y144, y145⟩, ⟨y146, y147, y148, y149, y1410, y1411⟩, y1412⟩ := hy14.get6
      go_wp2_with fail
      refine (HS1.out _ _ _ _ _ _ _ _ _ hSS hL (by simp)).mono ?_
      rintro e w16 ⟨rfl, hb16⟩
      clear y140 y141 y142 y143 y144 y145 y146 y147 y148 y149 y1410 y1411 y1412
      replace hbw14 := bl_call hbw14 (Nat.le_refl _) hb16
      replace hy14 := hy14.call hb16
      replace hL := hL.later hb16
      replace hSS := hSS.later hb16
      clear hb16
      obtain ⟨⟨y140, y141, y142, y143, y144, y145⟩, ⟨y146, y147, y148, y149, y1410, y1411⟩, y1412⟩ := hy14.get6
      go_wp2_with fail
      refine (HS2.out _ _ _ _ _ _ _ _ _ _ _ hSS hSS hSS hL rfl (by simp; omega) (by simp)).mono ?_
      rintro e w17 ⟨rfl, hb17⟩
      clear y140 y141 y142 y143 y144 y145 y146 y147 y148 y149 y1410 y1411 y1412
      replace hbw14 := bl_call hbw14 (Nat.le_refl _) hb17
      replace hy14 := hy14.call hb17
      replace hL := hL.later hb17
      replace hSS := hSS.later hb17
      go_wp2_with fail
      go_ret
      exact ⟨rfl, hbw14⟩

end Go.Proofs.Ytiphahbeedeebaa

namespace Go.Proofs.Ytiphahbeedeebaa
open Go.RowKit Go.Joins Go.ChangeShapes Go.WideShapes Go.Deep
set_option linter.unusedVariables false
set_option maxRecDepth 100000

section
variable {H : Type} {enc : TypeId × Value → H} {W : World} {base : Nat} {sp : Nat → Bool} {hd : Bool}

theorem open_task {r : Reach} {b0 : Nat} {v : Value} {d : DataW H} {ps : List MemPlace} (hval : Value.okWide Try.prog W r b0 95 v) (h : DataW.Trod enc Try.prog W base sp hd 95 v d ps) :
    ∃ x : RawT, v = x.val := by
  obtain ⟨cs, rfl, hsz⟩ := okWide_struct Try.underlying95 hval
  obtain ⟨l⟩ := cs
  have hl : l.length = 8 := hsz.trans (by kernel_rfl)
  obtain ⟨fuel, hf⟩ := h
  obtain ⟨ys, n, _, _, _, hyl, hg⟩ := DataW.trod_struct Try.underlying95 hf
  match l, hl with
  | [a0, a1, a2, a3, a4, a5, a6, a7], _ =>
    have hy : ∀ j, j < 3 → ys[j]? = some (ys.getD j (.lit (.bool false), [])) := by
      intro j hj
      have : j < ys.length := by rw [hyl]; exact hj
      rw [List.getD_eq_getElem?_getD, List.getElem?_eq_getElem this]
      rfl
    have g0 := (hg 0 _ rfl).trans (hy 0 (by decide))
    have g1 := (hg 1 _ rfl).trans (hy 1 (by decide))
    have g2 := (hg 2 _ rfl).trans (hy 2 (by decide))
    have c0 : DataW.trod enc Try.prog W base sp hd n 60 [a0, a1, a2, a3, a4, a5] = some (ys.getD 0 (.lit (.bool false), [])) := g0
    have c1 : DataW.trod enc Try.prog W base sp hd n 3 [a6] = some (ys.getD 1 (.lit (.bool false), [])) := g1
    have c2 : DataW.trod enc Try.prog W base sp hd n 9 [a7] = some (ys.getD 2 (.lit (.bool false), [])) := g2
    obtain ⟨zs, m, _, _, _, hzl, hz⟩ := DataW.trod_struct Try.underlying60 c0
    have hy6 : ∀ j, j < 6 → zs[j]? = some (zs.getD j (.lit (.bool false), [])) := by
      intro j hj
      have : j < zs.length := by rw [hzl]; exact hj
      rw [List.getD_eq_getElem?_getD, List.getElem?_eq_getElem this]
      rfl
    have d0 := (hz 0 _ rfl).trans (hy6 0 (by decide))
    have d1 := (hz 1 _ rfl).trans (hy6 1 (by decide))
    have d2 := (hz 2 _ rfl).trans (hy6 2 (by decide))
    have d3 := (hz 3 _ rfl).trans (hy6 3 (by decide))
    have d4 := (hz 4 _ rfl).trans (hy6 4 (by decide))
    have d5 := (hz 5 _ rfl).trans (hy6 5 (by decide))
    obtain ⟨k, ek, _⟩ := DataW.trod_int Try.underlying58 d0
    obtain ⟨f, ef, _⟩ := DataW.trod_int Try.underlying24 d1
    obtain ⟨b, eb, _⟩ := DataW.trod_int Try.underlying3 d2
    obtain ⟨l, el, _⟩ := DataW.trod_int Try.underlying3 d3
    obtain ⟨m', em, _⟩ := DataW.trod_int Try.underlying3 d4
    obtain ⟨c, ec, _⟩ := DataW.trod_int Try.underlying3 d5
    obtain ⟨p, ep, _⟩ := DataW.trod_int Try.underlying3 c1
    obtain ⟨s, es, _⟩ := DataW.trod_string Try.underlying9 c2
    have e0 : a0 = .int .u8 k := (List.cons.inj ek).1
    have e1 : a1 = .int .u8 f := (List.cons.inj ef).1
    have e2 : a2 = .int .i64 b := (List.cons.inj eb).1
    have e3 : a3 = .int .i64 l := (List.cons.inj el).1
    have e4 : a4 = .int .i64 m' := (List.cons.inj em).1
    have e5 : a5 = .int .i64 c := (List.cons.inj ec).1
    have e6 : a6 = .int .i64 p := (List.cons.inj ep).1
    have e7 : a7 = .string s := (List.cons.inj es).1
    subst e0 e1 e2 e3 e4 e5 e6 e7
    exact ⟨⟨⟨k, f, b, l, m', c⟩, p, s⟩, rfl⟩
end

end Go.Proofs.Ytiphahbeedeebaa
