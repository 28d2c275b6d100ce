/-
 BtC, BtD, BtE: for TotalBytes.
-/
import Derived.BigQuiet
import Derived.Deep.DeepAppendRoom
import Derived.Test.YtbakkmfjamcbfaaTad
namespace Go.Proofs.Ytbakkmfjamcbfaa
open Go.RowKit Fm
set_option linter.unusedVariables false
set_option maxRecDepth 100000

/-! ### one row of bytes, made by a call -/
def ObT (w0 : World) (o : Option (Option Addr × Nat)) (w : World) : Prop := Below w0.heap.size w0 w
structure ObK (w0 : World) (n : Nat) (bs : List Int) (o : Option (Option Addr × Nat)) (w : World) : Prop where
 t : Below w0.heap.size w0 w
 a : ∀ p, o = some p → w.ownsRow w0.heap.size 5 1 (.slice p.1 n p.2) n (cells8 bs)
section
variable {w0 w w' : World} {n : Nat} {bs : List Int} {o : Option (Option Addr × Nat)}
theorem ObK.weak (o : Option (Option Addr × Nat)) (w : World) (h : ObK w0 n bs o w) : ObT w0 o w := h.t
theorem ObK.clo : Clo (ObK w0 n bs o) := fun w w' h hb => ⟨bl_call h.t (Nat.le_refl _) hb, fun p e => own_call (h.a p e) hb⟩
theorem ObK.start (w0 : World) : ObK w0 n bs none w0.drew := ⟨(Below.refl _ _).drew, fun _ e => (by cases e)⟩
theorem ObK.took (h : ObK w0 n bs none w) (hn : bs.length = n) {e : Ending} (hr : RetOB bs w e w') : ∃ p : Option Addr × Nat, e = .returned (.slice p.1 n p.2) ∧ ObK w0 n bs (some p) w' := by
 obtain ⟨A, c, he, ho, hb⟩ := hr
 rw [hn] at he ho
 refine ⟨(A, c), he, bl_call h.t (Nat.le_refl _) hb, fun p e => ?_⟩
 injection e with e
 subst e
 exact own_lower ho h.t.size
end

def RetO2 (n : Nat) (bs : List Int) (w : World) (e : Ending) (w' : World) : Prop :=
 ∃ (A : Option Addr) (c : Nat), e = .returned (.slice A n c) ∧ w'.ownsRow w.heap.size 5 1 (.slice A n c) n (cells8 bs) ∧ Below w.heap.size w w'
theorem RetOB.n {n : Nat} {bs : List Int} {w w' : World} {e : Ending} (h : RetOB bs w e w') (hn : bs.length = n) : RetO2 n bs w e w' := by
 subst hn
 exact h
/-! ### a new total, stored into -/
def XtT (w0 : World) (o : Option Nat) (w : World) : Prop := Below w0.heap.size w0 w
structure XtK (w0 : World) (o : Option Nat) (s : Bool) (w : World) : Prop where
 t : Below w0.heap.size w0 w
 c : s = false → ∀ x, o = some x → w0.heap.size ≤ x ∧ Vs w x (totL (.slice none 0 0) 0 z16)
section
variable {w0 w w' : World} {o : Option Nat} {s : Bool}
theorem XtK.weak (o : Option Nat) (s : Bool) (w : World) (h : XtK w0 o s w) : XtT w0 o w := h.t
theorem XtK.clo : Clo (XtK w0 o s) := fun w w' h hb => ⟨bl_call h.t (Nat.le_refl _) hb, fun e x e2 => ⟨(h.c e x e2).1, (h.c e x e2).2.call hb⟩⟩
theorem XtK.start (w0 : World) : XtK w0 none false w0.drew := ⟨(Below.refl _ _).drew, fun _ _ e => (by cases e)⟩
theorem XtK.mk1 {cs : Array Value} {t : TypeId} (h : XtK w0 none false w) (hc : cs = (totL (.slice none 0 0) 0 z16).toArray) : XtK w0 (some w.heap.size) false (w.alloc (.cells cs t)) := by
 refine ⟨bl_call h.t (Nat.le_refl _) ((Below.refl w.heap.size w).alloc (Nat.le_refl _) (.cells cs t)), fun _ x e => ?_⟩
 injection e with e
 subst e
 exact ⟨h.t.size, Vs.new w _ cs t hc⟩
theorem XtK.put {x : Nat} (h : XtK w0 (some x) false w) (l : List Value) : XtK w0 (some x) true (w.setCells x 0 l) :=
 ⟨bl_setCells h.t (h.c rfl x rfl).1 _ _, fun e => (by cases e)⟩
end

/-! ### append, where what was there is kept -/
theorem run_append_keepB (w : World) (base : Nat) (ty : TypeId) (g n cap : Nat) (xs : List Int) (hown : w.ownsRow base 5 1 (.slice (some ⟨g, 0, none⟩) n cap) n (cells8 xs)) (b o m c : Nat) (ys : List Int) (hm : ys.length = m) (hy : RowB w b o ys) (hbound : n + m ≤ 1099511627776) (hbase : base ≤ w.heap.size) :
  ∃ (p : Option Addr × Nat) (w' : World), (Builtin.append_ #[28, 28] ty #[.slice (some ⟨g, 0, none⟩) n cap, .slice (some ⟨b, o, none⟩) m c]).run Try.prog w = .ok (.slice p.1 (n + m) p.2) w' ∧ w'.ownsRow base 5 1 (.slice p.1 (n + m) p.2) (n + m) (cells8 (xs ++ ys)) ∧ Exc (fun q => q = g) w.heap.size w w' ∧ w'.ownsRow base 5 1 (.slice (some ⟨g, 0, none⟩) n cap) n (cells8 xs) := by
 obtain ⟨i, hi, hz, h1, h2⟩ := info_parts infoU8
 rw [cells8_append]
 have hcells : ∀ j u, (cells8 ys)[j]? = some u → w.cell? ((⟨b, o, none⟩ : Addr).add j) = some u := fun j u hu => hy.cells j u hu
 by_cases hroom : n + m ≤ cap
 ·obtain ⟨w', hr, h3, h4⟩ := run_append_own_spare (P := Try.prog) w base 28 ty 5 i 1 Try.underlying28 hi h1 g n cap _ hown ⟨b, o, none⟩ m c (cells8 ys) (by rw [cells8_length, hm, Nat.mul_one]) hcells (oneCell_cells8 ys) hroom
  refine ⟨(some ⟨g, 0, none⟩, cap), w', hr, h3, ⟨h4.os, h4.tape, h4.output, h4.size, fun k hk hne => h4.block k hk fun e => hne (by injection e)⟩, ?_⟩
  rcases h3.2 with ⟨h0, _⟩ | ⟨g', cap', cur, hv, q1, q2, q3, q4, q5, q6⟩
  ·cases h0
  ·injection hv with e1 e2 e3
   injection e1 with e1
   injection e1 with e1
   subst e1
   subst e3
   refine ⟨hown.1, .inr ⟨g, cap, cur, rfl, q1, q2, by omega, q4, q5, ?_⟩⟩
   have hl := hown.1
   have h9 := congrArg (List.take (n * 1)) q6
   rw [List.take_take, Nat.min_eq_left (by omega), List.take_append_of_le_length (by omega), List.take_of_length_le (l := cells8 xs) (by omega)] at h9
   exact h9
 ·have holds : ∀ j u, (cells8 xs)[j]? = some u → w.cell? ((⟨g, 0, none⟩ : Addr).add j) = some u := hown.cells (g := g) rfl
  have hl := hown.1
  have hr := run_append_grow (P := Try.prog) w 28 ty 5 i _ Try.underlying28 hi hz ⟨g, 0, none⟩ n cap (cells8 xs) (by rw [h1]; exact hl) holds ⟨b, o, none⟩ m c (cells8 ys) (by rw [cells8_length, hm, h1, Nat.mul_one]) hcells (by omega) (by omega) (growslice_fits (by omega) (by rw [h2]; omega))
  obtain ⟨v', w', hrun, h3, h4, _, h5⟩ := run_append_own_at (P := Try.prog) w base 28 ty 5 i _ 1 1 Try.underlying28 hi hz h1 h2 rfl (by omega) (.slice (some ⟨g, 0, none⟩) n cap) n _ hown ⟨b, o, none⟩ m c (cells8 ys)
   (by rw [cells8_length, hm, Nat.mul_one]) hcells (oneCell_cells8 ys) (by unfold maxLen; omega) (by omega) hbase
  rw [hr] at hrun
  injection hrun with e1 e2
  subst e1
  subst e2
  have hb : Below w.heap.size w (w.drew.alloc (.cells ((cells8 xs).toArray ++ (cells8 ys).toArray ++ Builtin.zeroCells #[.int .u8 0] (grownCap w (n + m) cap 5 - (n + m))) 5)) := ((Below.refl w.heap.size w).drew).alloc (Nat.le_refl _) _
  exact ⟨(some ⟨w.heap.size, 0, none⟩, grownCap w (n + m) cap 5), _, hr, h3, exc_of hb, own_call hown hb⟩

theorem exec_append_keepB {o : Oper} {a : Act} (s x : Operand) (ho : o.op = .call { callee := .builtin .append, args := #[s, x], argTypes := #[28, 28] })
  (w : World) (base g n cap : Nat) (xs : List Int) (hs : a.eval s = .slice (some ⟨g, 0, none⟩) n cap) (hown : w.ownsRow base 5 1 (.slice (some ⟨g, 0, none⟩) n cap) n (cells8 xs)) (b oo m c : Nat) (ys : List Int) (hx : a.eval x = .slice (some ⟨b, oo, none⟩) m c) (hm : ys.length = m) (hy : RowB w b oo ys) (hbound : n + m ≤ 1099511627776) (hbase : base ≤ w.heap.size) :
  ∃ (p : Option Addr × Nat) (w' : World), (execOp a.eval o).run Try.prog w = .ok (.value (.slice p.1 (n + m) p.2)) w' ∧ w'.ownsRow base 5 1 (.slice p.1 (n + m) p.2) (n + m) (cells8 (xs ++ ys)) ∧ Exc (fun q => q = g) w.heap.size w w' ∧ w'.ownsRow base 5 1 (.slice (some ⟨g, 0, none⟩) n cap) n (cells8 xs) := by
 obtain ⟨p, w', hrun, h2, h3, h4⟩ := run_append_keepB w base o.type g n cap xs hown b oo m c ys hm hy hbound hbase
 refine ⟨p, w', ?_, h2, h3, h4⟩
 unfold execOp
 simp only [ho, resolve, invoke, builtin, Sem.run_bind, Sem.run_pure, Result.andThen_ok, List.map_toArray, List.map_cons, List.map_nil, hs, hx, hrun]

theorem exec_append_useB {o : Oper} {a : Act} (s x : Operand) (ho : o.op = .call { callee := .builtin .append, args := #[s, x], argTypes := #[28, 28] })
  (w : World) (base g n cap : Nat) (xs : List Int) (hs : a.eval s = .slice (some ⟨g, 0, none⟩) n cap) (hown : w.ownsRow base 5 1 (.slice (some ⟨g, 0, none⟩) n cap) n (cells8 xs)) (b oo m c : Nat) (ys : List Int) (hx : a.eval x = .slice (some ⟨b, oo, none⟩) m c) (hm : ys.length = m) (hy : RowB w b oo ys) (hbound : n + m ≤ 1099511627776) (hbase : base ≤ w.heap.size)
  {R : Option Addr × Nat → World → Prop} (hR : ∀ p w', w'.ownsRow base 5 1 (.slice p.1 (n + m) p.2) (n + m) (cells8 (xs ++ ys)) → Exc (fun q => q = g) w.heap.size w w' → w'.ownsRow base 5 1 (.slice (some ⟨g, 0, none⟩) n cap) n (cells8 xs) → R p w') :
  ∃ (p : Option Addr × Nat) (w' : World), (execOp a.eval o).run Try.prog w = .ok (.value (.slice p.1 (n + m) p.2)) w' ∧ R p w' := by
 obtain ⟨p, w', h1, h2, h3, h4⟩ := exec_append_keepB s x ho w base g n cap xs hs hown b oo m c ys hx hm hy hbound hbase
 exact ⟨p, w', h1, hR p w' h2 h3 h4⟩

/-! ### a byte, a longer row, what is said of it, a new total, stored into -/
def ByT (w0 : World) (g0 : Nat) (o1 : Option Nat) (o2 : Option (Option Addr × Nat)) (o3 : Option Unit) (o4 : Option Nat) (w : World) : Prop := Exc (fun q => q = g0) w0.heap.size w0 w
structure ByK (w0 : World) (B g0 n cap : Nat) (bs : List Int) (o1 : Option Nat) (o2 : Option (Option Addr × Nat)) (o3 : Option Unit) (o4 : Option Nat) (s : Bool) (w : World) : Prop where
 t : Exc (fun q => q = g0) w0.heap.size w0 w
 l : g0 < w0.heap.size ∧ B ≤ w0.heap.size
 k : w.ownsRow B 5 1 (.slice (some ⟨g0, 0, none⟩) n cap) n (cells8 bs)
 a : s = false → ∀ g, o1 = some g → RowB w g 0 [0] ∧ g < w.heap.size ∧ w0.heap.size ≤ g
 b : s = false → ∀ p, o2 = some p → w.ownsRow B 5 1 (.slice p.1 (n + 1) p.2) (n + 1) (cells8 (bs ++ [0]))
 c : s = false → ∀ x, o4 = some x → w0.heap.size ≤ x ∧ Vs w x (totL (.slice none 0 0) 0 z16)
section
variable {w0 w w' : World} {B g0 n cap : Nat} {bs : List Int} {o1 : Option Nat} {o2 : Option (Option Addr × Nat)} {o3 : Option Unit} {o4 : Option Nat} {s : Bool}
theorem ByK.weak (o1 : Option Nat) (o2 : Option (Option Addr × Nat)) (o3 : Option Unit) (o4 : Option Nat) (s : Bool) (w : World) (h : ByK w0 B g0 n cap bs o1 o2 o3 o4 s w) : ByT w0 g0 o1 o2 o3 o4 w := h.t
theorem ByK.clo : Clo (ByK w0 B g0 n cap bs o1 o2 o3 o4 s) := fun w w' h hb => ⟨h.t.call hb, h.l, own_call h.k hb, fun e g e2 => ⟨(h.a e g e2).1.belowB hb (h.a e g e2).2.1, Nat.lt_of_lt_of_le (h.a e g e2).2.1 hb.size, (h.a e g e2).2.2⟩, fun e p e2 => own_call (h.b e p e2) hb, fun e x e2 => ⟨(h.c e x e2).1, (h.c e x e2).2.call hb⟩⟩
theorem ByK.start {w0 : World} (h1 : g0 < w0.heap.size) (h2 : B ≤ w0.heap.size) (h : w0.ownsRow B 5 1 (.slice (some ⟨g0, 0, none⟩) n cap) n (cells8 bs)) : ByK w0 B g0 n cap bs none none none none false w0.drew :=
 ⟨exc_of ((Below.refl _ _).drew), ⟨h1, h2⟩, own_call h ((Below.refl _ _).drew), fun _ _ e => (by cases e), fun _ _ e => (by cases e), fun _ _ e => (by cases e)⟩
theorem ByK.mk1 (h : ByK w0 B g0 n cap bs none o2 o3 o4 false w) : ByK w0 B g0 n cap bs (some w.heap.size) o2 o3 o4 false (w.alloc (.cells #[.int .u8 0] 5)) := by
 have h2 := ByK.clo _ _ h ((Below.refl w.heap.size w).alloc (Nat.le_refl _) (.cells #[.int .u8 0] 5))
 refine ⟨h2.t, h2.l, h2.k, fun _ g e => ?_, h2.b, h2.c⟩
 injection e with e
 subst e
 exact ⟨rowB_one w 0, by rw [World.size_alloc]; omega, h.t.size⟩
theorem ByK.mk2 {p : Option Addr × Nat} (h : ByK w0 B g0 n cap bs o1 none o3 o4 false w) (ho : w'.ownsRow B 5 1 (.slice p.1 (n + 1) p.2) (n + 1) (cells8 (bs ++ [0]))) (hx : Exc (fun q => q = g0) w.heap.size w w') (hk : w'.ownsRow B 5 1 (.slice (some ⟨g0, 0, none⟩) n cap) n (cells8 bs)) : ByK w0 B g0 n cap bs o1 (some p) o3 o4 false w' := by
 have hl := h.l.1
 refine ⟨h.t.more hx (fun q h => .inl h), h.l, hk, fun e g e2 => ?_, fun _ p2 e => ?_, fun e x e2 => ?_⟩
 ·obtain ⟨a1, a2, a3⟩ := h.a e g e2
  exact ⟨fun i u hi => (hx.cell (p := ⟨g, 0 + i, none⟩) a2 (fun (e3 : g = g0) => by omega)).trans (a1 i u hi), Nat.lt_of_lt_of_le a2 hx.size, a3⟩
 ·injection e with e
  subst e
  exact ho
 ·obtain ⟨a1, a2⟩ := h.c e x e2
  exact ⟨a1, a2.exc (S := fun q => q = g0) (fun e3 => by omega) hx⟩
theorem ByK.mk3 (h : ByK w0 B g0 n cap bs o1 o2 none o4 s w) (hb : Below w.heap.size w w') : ByK w0 B g0 n cap bs o1 o2 (some ()) o4 s w' := by
 have h2 := ByK.clo _ _ h hb
 exact ⟨h2.t, h2.l, h2.k, h2.a, h2.b, h2.c⟩
theorem ByK.mk4 {cs : Array Value} {t : TypeId} (h : ByK w0 B g0 n cap bs o1 o2 o3 none false w) (hc : cs = (totL (.slice none 0 0) 0 z16).toArray) : ByK w0 B g0 n cap bs o1 o2 o3 (some w.heap.size) false (w.alloc (.cells cs t)) := by
 have h2 := ByK.clo _ _ h ((Below.refl w.heap.size w).alloc (Nat.le_refl _) (.cells cs t))
 refine ⟨h2.t, h2.l, h2.k, h2.a, h2.b, fun _ x e => ?_⟩
 injection e with e
 subst e
 exact ⟨h.t.size, Vs.new w _ cs t hc⟩
theorem ByK.put {x : Nat} (h : ByK w0 B g0 n cap bs o1 o2 o3 (some x) false w) (l : List Value) : ByK w0 B g0 n cap bs o1 o2 o3 (some x) true (w.setCells x 0 l) := by
 have hx := (h.c rfl x rfl).1
 have hl := h.l.1
 have he : Exc (fun q => q = x) w.heap.size w (w.setCells x 0 l) := exc_setCells (S := fun q => q = x) x rfl l 0 w (exc_of (Below.refl _ _))
 refine ⟨h.t.more he (fun q e => .inr (by omega)), h.l, own_other h.k he (fun g hg e => ?_), fun e => (by cases e), fun e => (by cases e), fun e => (by cases e)⟩
 have h1 : g0 = g := Option.some.inj hg
 omega
end

theorem slice_u8_h (A : Option Addr) (N c k : Nat) (hk : k ≤ c) (w : World) : (Instr.sliceAt 28 (.slice A N c) none (some (.int .i64 (k : Int))) none).run Try.prog w = .ok (.slice A k c) w := by
 obtain ⟨i, hi⟩ := Option.isSome_iff_exists.1 (show (Try.prog.info? 5).isSome = true by kernel_rfl)
 exact sliceAt_h Try.underlying28 (by kernel_rfl) hi A N c k hk w

end Go.Proofs.Ytbakkmfjamcbfaa

namespace Go.Proofs.Ytbakkmfjamcbfaa
open Go.RowKit Fm
set_option linter.unusedVariables false
set_option maxRecDepth 100000

set_option maxHeartbeats 4000000 in
theorem walk_TotalBytes0 (k f b l m c p t cut : Int) (A0 A1 : Option Addr) (N ca rn rc : Nat) (w : World) (h : 10 < N ∨ 300 < rn) :
  Calls Try.prog 8 #[.agg #[.int .u8 k, .int .u8 f, .int .u8 b, .int .u8 l, .int .u8 m, .int .u8 c, .int .u8 p, .int .u8 t], .slice A0 N ca, .slice A1 rn rc, .int .u16 cut] w fun e w' => e = .returned (.bool true) ∧ Below w.heap.size w w' := by
 have HAW := Lib.hid law15_Awake
 by_cases h1 : 10 < N
 ·have h2 : (10 : Int) < (N : Int) := by omega
  clear h h1
  have hb00 : Below w.heap.size w w := Below.refl _ _
  go_enter Try.func8, Try.ntmps8
  go_upto_region 1 with fail
  have hs := Vs.new w [.int .u8 k, .int .u8 f, .int .u8 b, .int .u8 l, .int .u8 m, .int .u8 c, .int .u8 p, .int .u8 t] #[.int .u8 k, .int .u8 f, .int .u8 b, .int .u8 l, .int .u8 m, .int .u8 c, .int .u8 p, .int .u8 t] 66 rfl
  have hbA : Below w.heap.size w (w.alloc (.cells #[.int .u8 k, .int .u8 f, .int .u8 b, .int .u8 l, .int .u8 m, .int .u8 c, .int .u8 p, .int .u8 t] 66)) := by repeat (first | exact bA | with_reducible assumption | apply bB)
  replace hb00 := bl_call hb00 (Nat.le_refl _) hbA
  clear hbA
  generalize w.alloc (.cells #[.int .u8 k, .int .u8 f, .int .u8 b, .int .u8 l, .int .u8 m, .int .u8 c, .int .u8 p, .int .u8 t] 66) = w1 at hb00 hs ⊢
  go_wp2_with (first
   | (go_at_call 24; refine (HAW.out _).mono ?_; rintro e w2 ⟨rfl, hb2⟩; replace hb00 := bl_call hb00 (Nat.le_refl _) hb2))
  go_ret
  exact ⟨rfl, hb00⟩
 ·have h2 : ¬ 10 < N := h1
  have h3 : (300 : Int) < (rn : Int) := by omega
  have h4 : (N : Int) ≤ 10 := by omega
  clear h h1
  have hb00 : Below w.heap.size w w := Below.refl _ _
  go_enter Try.func8, Try.ntmps8
  go_upto_region 1 with fail
  have hs := Vs.new w [.int .u8 k, .int .u8 f, .int .u8 b, .int .u8 l, .int .u8 m, .int .u8 c, .int .u8 p, .int .u8 t] #[.int .u8 k, .int .u8 f, .int .u8 b, .int .u8 l, .int .u8 m, .int .u8 c, .int .u8 p, .int .u8 t] 66 rfl
  have hbA : Below w.heap.size w (w.alloc (.cells #[.int .u8 k, .int .u8 f, .int .u8 b, .int .u8 l, .int .u8 m, .int .u8 c, .int .u8 p, .int .u8 t] 66)) := by repeat (first | exact bA | with_reducible assumption | apply bB)
  replace hb00 := bl_call hb00 (Nat.le_refl _) hbA
  clear hbA
  generalize w.alloc (.cells #[.int .u8 k, .int .u8 f, .int .u8 b, .int .u8 l, .int .u8 m, .int .u8 c, .int .u8 p, .int .u8 t] 66) = w1 at hb00 hs ⊢
  go_wp2_with (first
   | (go_at_call 24; refine (HAW.out _).mono ?_; rintro e w2 ⟨rfl, hb2⟩; replace hb00 := bl_call hb00 (Nat.le_refl _) hb2))
  go_ret
  exact ⟨rfl, hb00⟩

set_option maxHeartbeats 16000000 in
theorem walk_TotalBytes (k f b l m c p t cut : Int) (A0 : Option Addr) (ids : List (List Int)) (us : List Value) (ess : List (List E)) (N ca : Nat) (rA : Option Addr) (raw : List Int) (rn rc : Nat) (w : World) (hk : 0 ≤ k ∧ k ≤ 255) (hf : 0 ≤ f ∧ f ≤ 255) (hb : 0 ≤ b ∧ b ≤ 255) (hl : 0 ≤ l ∧ l ≤ 255) (hm : 0 ≤ m ∧ m ≤ 255) (hc : 0 ≤ c ∧ c ≤ 255) (hp : 0 ≤ p ∧ p ≤ 255) (ht : 0 ≤ t ∧ t ≤ 255) (hcut : 0 ≤ cut ∧ cut ≤ 65535)
  (hN10 : N ≤ 10) (hrn : raw.length = rn) (hr300 : rn ≤ 300) (hrB : SlB w rA raw rc) (hr8 : B8 raw)
  (hil : ids.length = N) (hul : us.length = N) (hesN : ess.length = N) (hid : ∀ x, x ∈ ids → x.length = 16 ∧ B8 x) (hus : ∀ (i : Nat) (u : Value) (es : List E), us[i]? = some u → ess[i]? = some es → SlE w w.heap.size u es) (hsl : SlR w w.heap.size (.slice A0 N ca) 17 (List.zipWith repL ids us)) :
  Calls Try.prog 8 #[.agg #[.int .u8 k, .int .u8 f, .int .u8 b, .int .u8 l, .int .u8 m, .int .u8 c, .int .u8 p, .int .u8 t], .slice A0 N ca, .slice rA rn rc, .int .u16 cut] w fun e w' => e = .returned (.bool true) ∧ Below w.heap.size w w' := by
 obtain ⟨F, y, s, hF, hy, hs32, hTSK⟩ := law13_Task k f b l m c p t hk hf hb hl hm hc hp ht
 obtain ⟨pq, hpq, hpq1, hpq3⟩ : ∃ q : Int, 1 + p % 3 = q ∧ 1 ≤ q ∧ q ≤ 3 := ⟨_, rfl, by omega, by omega⟩
 rw [hpq] at hTSK
 have HTSK := Lib.hid hTSK
 have HAW := Lib.hid law15_Awake
 have hok := hy.ok
 have hcl : y.calls ≤ 511 := by have := hy.calls; omega
 have hno : y.nout ≤ 1000 := by
  have h1 := CK.nout_le hok
  omega
 have HC : ∀ wz, Calls Try.prog 43 #[.agg #[.int .u8 ((y.k : Nat) : Int), .int .u8 (F : Int), .int .i64 ((y.b : Nat) : Int), .int .i64 ((y.l : Nat) : Int), .int .i64 ((y.m : Nat) : Int), .int .i64 ((y.c : Nat) : Int), .int .i64 pq, .string s]] wz (RetC 0 wz) := fun wz => small_code (by omega) hok hF pq ⟨hpq1, hpq3⟩ s hs32 wz
 have HO : ∀ wz, Calls Try.prog 32 #[.agg #[.int .u8 ((y.k : Nat) : Int), .int .u8 (F : Int), .int .i64 ((y.b : Nat) : Int), .int .i64 ((y.l : Nat) : Int), .int .i64 ((y.m : Nat) : Int), .int .i64 ((y.c : Nat) : Int)]] wz (RetI y.nout wz) := fun wz => circuit_Out F y hok wz
 obtain ⟨ps, hps⟩ : ∃ ps, ess.map (outL F y.nout) = ps := ⟨_, rfl⟩
 have hpsn : ∀ q, q ∈ ps → q.length = y.nout := fun q hq => by
  rw [← hps] at hq
  obtain ⟨es, _, rfl⟩ := List.mem_map.1 hq
  exact outL_length F y.nout es
 generalize y.nout = n at *
 have HSUM : Hid (∀ wz, Below w.heap.size w wz → Calls Try.prog 25 #[.agg #[.int .u8 ((y.k : Nat) : Int), .int .u8 (F : Int), .int .i64 ((y.b : Nat) : Int), .int .i64 ((y.l : Nat) : Int), .int .i64 ((y.m : Nat) : Int), .int .i64 ((y.c : Nat) : Int), .int .i64 pq, .string s], .slice A0 N ca] wz fun e w' =>
   ∃ (gS : Nat) (A : Option Addr) (ca : Nat) (vs : List Value), e = .returned (.tuple #[.agg (totL (.slice (some ⟨gS, 0, none⟩) n n) (N : Int) (chkF z16 ids)).toArray, .slice A N ca]) ∧ RwK w' gS (sumF (zK F n) ps) ∧ wz.heap.size ≤ gS ∧ vs.length = N ∧
    SlR w' w'.heap.size (.slice A N ca) 1 (vs.map fun v => [v]) ∧ PsK w' vs ps ∧ Below wz.heap.size wz w') := fun wz hbz => by
  rw [← hps]
  exact law15_sum hF _ _ _ _ _ _ s n (by omega) HO ids us ess N (by omega) hil hul hesN hid (.slice A0 N ca) wz (fun i u es h1 h2 => (hus i u es h1 h2).later hbz) (hsl.later hbz)
 have hSn : (sumF (zK F n) ps).length = n := sumF_len (zK_length F n) _ hpsn
 have hKl : (chkF z16 ids).length = 16 := chkF_length z16_length _
 have hK8 : B8 (chkF z16 ids) := chkF_b8 z16_b8 ids
 generalize sumF (zK F n) ps = S at *
 generalize chkF z16 ids = K at *
 obtain ⟨M, hM⟩ : ∃ z, n * sizeK F = z := ⟨_, rfl⟩
 obtain ⟨hBl, hB4, hB16, hBv, hBt⟩ := putB_parts N K S n hKl hSn (by omega)
 rw [hM] at hBl
 have hM9 : M ≤ 16000 := by
  have hz : sizeK F ≤ 16 := by unfold sizeK; split <;> omega
  rw [← hM]
  exact Nat.le_trans (Nat.mul_le_mul hno hz) (by omega)
 have hB8 : B8 (putB N K S) := putB_b8 N K S hK8
 have hVl : (vecB S).length = M := by rw [vecB_length, hSn, hM]
 have HPUT := Lib.hid (fun (vx : Value) wz (hx : SlK wz wz.heap.size vx S) => (total_Put hF ((y.k : Nat) : Int) ((y.b : Nat) : Int) ((y.l : Nat) : Int) ((y.m : Nat) : Int) ((y.c : Nat) : Int) pq s vx S N K wz hx (by omega) (by omega) hKl).mono fun e w' h => h.n hBl)
 have HPU2 := Lib.hid (fun (vx : Value) (S' : KL F) (N' : Nat) (K' : List Int) wz (hx : SlK wz wz.heap.size vx S') (h1 : S'.length = n) (h2 : N' ≤ 256) (h3 : K'.length = 16) => total_Put hF ((y.k : Nat) : Int) ((y.b : Nat) : Int) ((y.l : Nat) : Int) ((y.m : Nat) : Int) ((y.c : Nat) : Int) pq s vx S' N' K' wz hx (by omega) (by omega) h3)
 have HU4 := Lib.hid (fun wz => (ref08_Uint4 N (by omega) wz).mono fun e w' h => h.n (bytesN_length N 4))
 have HVEC := Lib.hid (fun (vx : Value) wz (hx : SlK wz wz.heap.size vx S) => (ref01_Vec hF vx S wz hx (by omega)).mono fun e w' h => h.n hVl)
 have HTK := fun (bs : List Int) (h8 : B8 bs) (A : Option Addr) (cc : Nat) wz (h : SlB wz A bs cc) => total_Take hF ((y.k : Nat) : Int) ((y.b : Nat) : Int) ((y.l : Nat) : Int) ((y.m : Nat) : Int) ((y.c : Nat) : Int) pq s n (by omega) M hM.symm bs h8 HC HO A cc wz h.1 h.2
 have HT1 : Hid (∀ (A : Option Addr) (cc : Nat) wz, SlB wz A (putB N K S) cc → Calls Try.prog 42 #[.agg #[.int .u8 ((y.k : Nat) : Int), .int .u8 (F : Int), .int .i64 ((y.b : Nat) : Int), .int .i64 ((y.l : Nat) : Int), .int .i64 ((y.m : Nat) : Int), .int .i64 ((y.c : Nat) : Int), .int .i64 pq, .string s], .slice A (20 + M) cc] wz fun e w' => ∃ (A1 : Option Addr) (c1 : Nat), e = .returned (.tuple #[.agg (totL (.slice A1 n c1) (N : Int) K).toArray, .int .i64 0]) ∧ w'.ownsRow wz.heap.size 99 2 (.slice A1 n c1) n (cellsE (esK S)) ∧ Below wz.heap.size wz w') := fun A cc wz h => by
  have h1 := HTK (putB N K S) hB8 A cc wz h
  rw [hBl] at h1
  exact h1.mono fun e w' hr => take_same hF hM.symm hKl hSn (by omega) hr
 have HT3 : Hid (∀ (j : Nat) (A : Option Addr) (cc : Nat) wz, j < 20 + M → SlB wz A (putB N K S) cc → Calls Try.prog 42 #[.agg #[.int .u8 ((y.k : Nat) : Int), .int .u8 (F : Int), .int .i64 ((y.b : Nat) : Int), .int .i64 ((y.l : Nat) : Int), .int .i64 ((y.m : Nat) : Int), .int .i64 ((y.c : Nat) : Int), .int .i64 pq, .string s], .slice A j cc] wz fun e w' => e = .returned (.tuple #[.agg (totL (.slice none 0 0) 0 z16).toArray, .int .i64 3]) ∧ Below wz.heap.size wz w') := fun j A cc wz hj h => by
  have h1 := HTK ((putB N K S).take j) (fun x hx => hB8 x (List.mem_of_mem_take hx)) A cc wz (h.takeN j (by omega))
  rw [List.length_take, hBl, Nat.min_eq_left (by omega)] at h1
  exact h1.mono fun e w' hr => take_cut hM.symm hKl hSn (by omega) j hj hr
 have HT27 : Hid (∀ (A : Option Addr) (cc : Nat) wz, SlB wz A (putB N K S ++ [0]) cc → Calls Try.prog 42 #[.agg #[.int .u8 ((y.k : Nat) : Int), .int .u8 (F : Int), .int .i64 ((y.b : Nat) : Int), .int .i64 ((y.l : Nat) : Int), .int .i64 ((y.m : Nat) : Int), .int .i64 ((y.c : Nat) : Int), .int .i64 pq, .string s], .slice A (20 + M + 1) cc] wz fun e w' => e = .returned (.tuple #[.agg (totL (.slice none 0 0) 0 z16).toArray, .int .i64 27]) ∧ Below wz.heap.size wz w') := fun A cc wz h => by
  have h1 := HTK (putB N K S ++ [0]) (fun x hx => by
   rcases List.mem_append.1 hx with h | h
   ·exact hB8 x h
   ·rw [List.mem_singleton] at h
    subst h
    exact ⟨by omega, by omega⟩) A cc wz h
  rw [List.length_append, hBl] at h1
  exact h1.mono fun e w' hr => take_more hM.symm hKl hSn (by omega) hr
 have HTR : Hid (∀ (A : Option Addr) (cc : Nat) wz, SlB wz A raw cc → Calls Try.prog 42 #[.agg #[.int .u8 ((y.k : Nat) : Int), .int .u8 (F : Int), .int .i64 ((y.b : Nat) : Int), .int .i64 ((y.l : Nat) : Int), .int .i64 ((y.m : Nat) : Int), .int .i64 ((y.c : Nat) : Int), .int .i64 pq, .string s], .slice A rn cc] wz (RetRwB F n raw wz)) := fun A cc wz h => by
  have h1 := HTK raw hr8 A cc wz h
  rw [hrn] at h1
  exact h1.mono fun e w' hr => take_raw hr8 hr
 have HRB := Lib.hid (show ∀ wz, Below w.heap.size w wz → SlB wz rA raw rc from fun wz h => hrB.later h)
 have HBE : Hid ((bytesN N 4 ++ K) ++ vecB S = putB N K S) := Lib.hid (by unfold putB; rw [List.append_assoc])
 obtain ⟨L, hL⟩ : ∃ z, 20 + M = z := ⟨_, rfl⟩
 have hcr : cut.tmod (L : Int) = ((cut.toNat % L : Nat) : Int) := by
  rw [Int.tmod_eq_emod_of_nonneg hcut.1, Int.natCast_emod]
  have h1 : ((cut.toNat : Nat) : Int) = cut := Int.toNat_of_nonneg hcut.1
  rw [h1]
 have hjL : cut.toNat % L < L := Nat.mod_lt _ (by omega)
 obtain ⟨j, hj⟩ : ∃ z, cut.toNat % L = z := ⟨_, rfl⟩
 rw [hj] at hcr hjL
 have hwc : IntKind.i64.wrap cut = cut := IntWalk.i64_in _ (by omega)
 have hwj : IntKind.i64.wrap (j : Int) = (j : Int) := IntWalk.i64_in _ (by omega)
 have hwN : IntKind.u64.wrap (N : Int) = (N : Int) := IntWalk.u64_in _ (by omega)
 have hL2 : L ≠ 0 := by omega
 have hF3 : (1 : Int) ≤ (F : Int) ∧ (F : Int) ≤ 2 := by rcases hF.or with rfl | rfl <;> omega
 rw [hL] at HT1 HT3 HT27 hBl HPUT
 have HKL := Lib.hid hKl
 have HSN := Lib.hid hSn
 have HBL := Lib.hid hBl
 have HLM := Lib.hid hL
 have HVL := Lib.hid hVl
 have HRN := Lib.hid hrn
 have HU := Lib.hid (bytesN_length N 4)
 have HF := Lib.hid hF
 generalize putB N K S = BS at *
 generalize bytesN N 4 = U4 at *
 clear HTK HC HO hTSK hBv hB16 hB4 hBt hB8 hBl hKl hSn hK8 hpsn hps hil hul hesN hid hus hsl hj hL hVl hM hrn hrB hr8 hok hcl hy hF hs32 hpq hpq1 hpq3 hp ht hk hf hb hl hm hc hcut
 generalize ((y.k : Nat) : Int) = yk at *
 generalize ((y.b : Nat) : Int) = yb at *
 generalize ((y.l : Nat) : Int) = yl at *
 generalize ((y.m : Nat) : Int) = ym at *
 generalize ((y.c : Nat) : Int) = yc at *
 have hN10i : (N : Int) ≤ 10 := by omega
 have hr3i : (rn : Int) ≤ 300 := by omega
 have hb00 : Below w.heap.size w w := Below.refl _ _
 go_enter Try.func8, Try.ntmps8
 go_upto_region 1 with fail
 have hs := Vs.new w [.int .u8 k, .int .u8 f, .int .u8 b, .int .u8 l, .int .u8 m, .int .u8 c, .int .u8 p, .int .u8 t] #[.int .u8 k, .int .u8 f, .int .u8 b, .int .u8 l, .int .u8 m, .int .u8 c, .int .u8 p, .int .u8 t] 66 rfl
 have hbA : Below w.heap.size w (w.alloc (.cells #[.int .u8 k, .int .u8 f, .int .u8 b, .int .u8 l, .int .u8 m, .int .u8 c, .int .u8 p, .int .u8 t] 66)) := by repeat (first | exact bA | with_reducible assumption | apply bB)
 replace hb00 := bl_call hb00 (Nat.le_refl _) hbA
 clear hbA
 generalize w.alloc (.cells #[.int .u8 k, .int .u8 f, .int .u8 b, .int .u8 l, .int .u8 m, .int .u8 c, .int .u8 p, .int .u8 t] 66) = w1 at hb00 hs ⊢
 obtain ⟨⟨s0, s1, s2, s3, s4, s5, s6, s7⟩, ⟨s8, s9, s10, s11, s12, s13, s14, s15⟩, s16⟩ := hs.get8
 go_upto_region 5 with (first
  | (go_at_call 24; refine (HAW.out _).mono ?_; rintro e w2 ⟨rfl, hb2⟩; replace hb00 := bl_call hb00 (Nat.le_refl _) hb2; replace hs := hs.call hb2; clear s0 s1 s2 s3 s4 s5 s6 s7 s8 s9 s10 s11 s12 s13 s14 s15 s16; clear hb2; obtain ⟨⟨s0, s1, s2, s3, s4, s5, s6, s7⟩, ⟨s8, s9, s10, s11, s12, s13, s14, s15⟩, s16⟩ := hs.get8))
 go_upto_region 6 with (first
  | (go_at_call 21; refine (HTSK.out _).mono ?_; rintro e w3 ⟨rfl, hb3⟩; replace hb00 := bl_call hb00 (Nat.le_refl _) hb3; replace hs := hs.call hb3; clear s0 s1 s2 s3 s4 s5 s6 s7 s8 s9 s10 s11 s12 s13 s14 s15 s16; clear hb3; obtain ⟨⟨s0, s1, s2, s3, s4, s5, s6, s7⟩, ⟨s8, s9, s10, s11, s12, s13, s14, s15⟩, s16⟩ := hs.get8))
 clear s0 s1 s2 s3 s4 s5 s6 s7 s8 s9 s10 s11 s12 s13 s14 s15 s16
 clear hs HTSK HAW
 have hT := Vs.new w3 [.int .u8 yk, .int .u8 (F : Int), .int .i64 yb, .int .i64 yl, .int .i64 ym, .int .i64 yc, .int .i64 pq, .string s] #[.int .u8 yk, .int .u8 (F : Int), .int .i64 yb, .int .i64 yl, .int .i64 ym, .int .i64 yc, .int .i64 pq, .string s] 62 rfl
 have hbA : Below w3.heap.size w3 (w3.alloc (.cells #[.int .u8 yk, .int .u8 (F : Int), .int .i64 yb, .int .i64 yl, .int .i64 ym, .int .i64 yc, .int .i64 pq, .string s] 62)) := by repeat (first | exact bA | with_reducible assumption | apply bB)
 replace hb00 := bl_call hb00 (Nat.le_refl _) hbA
 clear hbA
 generalize w3.alloc (.cells #[.int .u8 yk, .int .u8 (F : Int), .int .i64 yb, .int .i64 yl, .int .i64 ym, .int .i64 yc, .int .i64 pq, .string s] 62) = w4 at hb00 hT ⊢
 obtain ⟨tb, htbe⟩ : ∃ z, w3.heap.size = z := ⟨_, rfl⟩
 rw [htbe] at hT
 simp only [htbe]
 clear htbe
 obtain ⟨⟨T0, T1, T2, T3, T4, T5, T6, T7⟩, ⟨T8, T9, T10, T11, T12, T13, T14, T15⟩, T16⟩ := hT.get8
 refine wp_region_lit ?_
 refine wpList_valD (some 35) rfl rfl (by (go_simp; first | with_reducible rfl | exact ⟨rfl, rfl⟩ | (trace_state; fail))) ?_
 simp only [Zp, Zq, Zr, Zs]
 refine wpList_valD (some 36) rfl rfl (by (go_simp; first | with_reducible rfl | exact ⟨rfl, rfl⟩ | (trace_state; fail))) ?_
 simp only [Zp, Zq, Zr, Zs]
 refine wpList_callD (some 37) rfl rfl 25 _ ?_ (HSUM.out _ hb00) ?_
 ·go_simp; try (with_reducible rfl)
 rintro e w5 ⟨gS, A9, c9, vs, rfl, hS, hgS, hvl, hSR, hPK, hb5⟩
 refine ⟨_, rfl, ?_⟩
 simp only [Zp, Zq, Zr, Zs]
 clear T0 T1 T2 T3 T4 T5 T6 T7 T8 T9 T10 T11 T12 T13 T14 T15 T16
 replace hb00 := bl_call hb00 (Nat.le_refl _) hb5
 replace hT := hT.call hb5
 refine wpList_valD (some 34) rfl rfl (by (go_simp; first | with_reducible rfl | exact ⟨rfl, rfl⟩ | (trace_state; fail))) ?_
 simp only [Zp, Zq, Zr, Zs]
 refine wpList_valD (some 38) rfl rfl (by (go_simp; first | with_reducible rfl | exact ⟨rfl, rfl⟩ | (trace_state; fail))) ?_
 simp only [Zp, Zq, Zr, Zs]
 refine wpList_valD (some 39) rfl rfl (by (go_simp; first | with_reducible rfl | exact ⟨rfl, rfl⟩ | (trace_state; fail))) ?_
 simp only [Zp, Zq, Zr, Zs]
 refine wpList_valD (some 10) rfl rfl (by (skip; go_simp; first | with_reducible rfl | exact ⟨rfl, rfl⟩ | (trace_state; fail))) ?_
 simp only [Zp, Zq, Zr, Zs]
 have hX := Vs.new w5 (totL (.slice none 0 0) 0 z16) #[.slice none 0 0, .int .i64 0, .int .u8 0, .int .u8 0, .int .u8 0, .int .u8 0, .int .u8 0, .int .u8 0, .int .u8 0, .int .u8 0, .int .u8 0, .int .u8 0, .int .u8 0, .int .u8 0, .int .u8 0, .int .u8 0, .int .u8 0, .int .u8 0] 76 rfl
 have hbA := (Below.refl w5.heap.size w5).alloc (Nat.le_refl _) (.cells #[.slice none 0 0, .int .i64 0, .int .u8 0, .int .u8 0, .int .u8 0, .int .u8 0, .int .u8 0, .int .u8 0, .int .u8 0, .int .u8 0, .int .u8 0, .int .u8 0, .int .u8 0, .int .u8 0, .int .u8 0, .int .u8 0, .int .u8 0, .int .u8 0] 76)
 have hst := hX.storeT (k := K) (v := (.slice (some ⟨gS, 0, none⟩) n n)) (m := (N : Int)) z16_length HKL.out rfl
 refine wpList_skipD rfl rfl (exec_store rfl (by kernel_rfl) (by kernel_rfl) hst) ?_
 refine wpList_valD (some 11) rfl rfl (by (go_simp; first | with_reducible rfl | exact ⟨rfl, rfl⟩ | (trace_state; fail))) ?_
 simp only [Zp, Zq, Zr, Zs]
 clear hSR hPK hvl
 replace hX := hX.setT (k := K) (v := (.slice (some ⟨gS, 0, none⟩) n n)) (m := (N : Int)) z16_length HKL.out
 have hbC := bl_setCells hbA (Nat.le_refl _) 0 (totL (.slice (some ⟨gS, 0, none⟩) n n) (N : Int) K)
 replace hb00 := bl_call hb00 (Nat.le_refl _) hbC
 replace hT := hT.call hbC
 replace hS := hS.call hbC
 clear hst hbA hbC
 generalize (w5.alloc (.cells #[.slice none 0 0, .int .i64 0, .int .u8 0, .int .u8 0, .int .u8 0, .int .u8 0, .int .u8 0, .int .u8 0, .int .u8 0, .int .u8 0, .int .u8 0, .int .u8 0, .int .u8 0, .int .u8 0, .int .u8 0, .int .u8 0, .int .u8 0, .int .u8 0] 76)).setCells w5.heap.size 0 (totL (.slice (some ⟨gS, 0, none⟩) n n) (N : Int) K) = w6 at hX hS hT hb00 ⊢
 obtain ⟨xb, hxb⟩ : ∃ z, w5.heap.size = z := ⟨_, rfl⟩
 rw [hxb] at hX
 simp only [hxb]
 have HT6L := Lib.hid hT.lt
 have HW6 := Lib.hid hb00.size
 have HX6L := Lib.hid hX.lt
 have HS6L := Lib.hid hS.lt
 clear hxb hb5 hgS HSUM
 go_upto_region 7 with fail
 have hSK6 : SlK w6 w6.heap.size (.slice (some ⟨gS, 0, none⟩) n n) S := (show RwK w6 gS S from hS).sl HSN.out (Nat.le_refl _) (by omega)
 obtain ⟨⟨T0, T1, T2, T3, T4, T5, T6, T7⟩, ⟨T8, T9, T10, T11, T12, T13, T14, T15⟩, T16⟩ := hT.get8
 refine wp_region_lit ?_
 refine wpList_valD (some 40) rfl rfl (exec_load rfl (by kernel_rfl) (hX.loadT HKL.out)) ?_
 simp only [Zp, Zq, Zr, Zs]
 refine wpList_valD (some 41) rfl rfl (by (go_simp; first | with_reducible rfl | exact ⟨rfl, rfl⟩ | (trace_state; fail))) ?_
 simp only [Zp, Zq, Zr, Zs]
 refine wpList_callD (some 42) rfl rfl 39 _ ?_ (HPUT.out _ _ hSK6) ?_
 ·go_simp; try (with_reducible rfl)
 rintro e w7 ⟨A7, c7, rfl, hO7, hb7⟩
 refine ⟨_, rfl, ?_⟩
 simp only [Zp, Zq, Zr, Zs]
 clear T0 T1 T2 T3 T4 T5 T6 T7 T8 T9 T10 T11 T12 T13 T14 T15 T16
 replace hb00 := bl_call hb00 (Nat.le_refl _) hb7
 replace hT := hT.call hb7
 replace hX := hX.call hb7
 replace hSK6 := hSK6.later hb7
 replace hS := hS.call hb7
 refine wpList_valD (some 12) rfl rfl (by (go_simp; first | with_reducible rfl | exact ⟨rfl, rfl⟩ | (trace_state; fail))) ?_
 simp only [Zp, Zq, Zr, Zs]
 clear hb7
 have HO7 := Lib.hid hO7
 clear hO7
 have hNX := hX.cell 1 _ rfl
 have HX7 := Lib.hid hX
 have HT7 := Lib.hid hT
 have HB7 := Lib.hid hb00
 have HSV7 := Lib.hid hS
 have HS7 := Lib.hid hSK6
 go_upto_region 8 with fail
 apply region_Z1 (n := 6) (m := 8) (f := 6) (fun x0 => (ObK w7 4 U4) (some x0) ) ((ObT w7) none) ((ObK w7 4 U4) none) ((ObK.weak _)) (ObK.clo) ((ObK.start w7))
 case hm => kernel_rfl
 case hB => kernel_rfl
 case hf => rfl
 case' h =>
  refine WpX.vD 0 (some 43) ?_ rfl rfl (by kernel_rfl) (fun _ _ _ h => h) rfl (fun wz hwz => ?_) ?_
  rotate_left
  ·go_simp; try (with_reducible rfl)
  simp only [Zp, Zq, Zr, Zs]
  refine WpX.vD 1 (some 44) ?_ rfl rfl (by kernel_rfl) (fun _ _ _ h => h) rfl (fun wz hwz => ?_) ?_
  rotate_left
  ·(have q := (HX7.out.call hwz).cell 1 _ rfl; have q2 := (HX7.out.call hwz).lt; go_simp; try (with_reducible rfl))
  simp only [Zp, Zq, Zr, Zs]
  refine WpX.vD 2 (some 45) ?_ rfl rfl (by kernel_rfl) (fun _ _ _ h => h) rfl (fun wz hwz => ?_) ?_
  rotate_left
  ·go_simp; try (with_reducible rfl)
  simp only [Zp, Zq, Zr, Zs]
  refine WpX.vD 4 (some 47) ?_ rfl rfl (by kernel_rfl) (fun _ _ _ h => h) rfl (fun wz hwz => ?_) ?_
  rotate_left
  ·go_simp; try (with_reducible rfl)
  simp only [Zp, Zq, Zr, Zs]
  refine WpX.vD 5 (some 48) ?_ rfl rfl (by kernel_rfl) (fun _ _ _ h => h) rfl (fun wz hwz => ?_) ?_
  rotate_left
  ·go_simp; try (with_reducible rfl)
  simp only [Zp, Zq, Zr, Zs]
  refine WpX.oneD 3 (some 46) rfl rfl (by kernel_rfl) (fun pr : Option Addr × Nat => Value.slice pr.1 4 pr.2) (fun pr => (ObT w7) (some pr)) (fun pr => (ObK w7 4 U4) (some pr)) (Turns.call rfl (fun _ _ h => h) (fun _ => (ObK.weak _)) (fun _ => ObK.clo) (fun wz hS => (HU4.out wz).mono fun e w' ⟨A, c, he, ho, hb⟩ => hS.took HU.out ⟨A, c, by rw [HU.out]; exact he, by rw [HU.out]; exact ho, hb⟩) (fun wz hS => by go_simp; try (with_reducible rfl))) (fun pr => ?_)
  simp only [Zp, Zq, Zr, Zs]
  refine WpX.done (by kernel_rfl) (fun w8 hZ => ⟨pr, rfl, ?_⟩)
  ·exact hZ
 intro pr w8 hZ
 (try simp only [List.drop_succ_cons]); (try simp only [List.drop_zero]); (try simp only [Nat.reduceSub]); (try simp only [List.take_succ_cons]); (try simp only [List.take_zero])
 obtain ⟨pa, pc⟩ := pr
 have hrow8 := hZ.a _ rfl
 have hb8 : Below w7.heap.size w7 w8 := hZ.t
 dsimp only at hrow8 ⊢
 have hX8 := HX7.out.call hb8
 have hbase8 := hb8.size
 refine wpList_append_B rfl (.tmp 46) (.tmp 48) rfl w7.heap.size _ 4 U4 (by kernel_rfl) hrow8 (some ⟨xb, 2, none⟩) 16 16 K (by kernel_rfl) HKL.out (fun _ => ⟨xb, 2, rfl, hX8.rowK⟩) (by omega) hbase8 ?_
 intro v9 w9 hown9 hg9 hat9
 have hb9 : Below w7.heap.size w7 w9 := hb8.grown hg9 hbase8 (fun q hq => (hrow8.lt q hq).1)
 obtain ⟨A9b, c9b, hv9⟩ := own_shape hown9
 subst hv9
 rw [show 4 + 16 = 20 from rfl] at hown9
 have hX9 := HX7.out.call hb9
 have hT9 := hT.call hb9
 have hSK9 := HS7.out.later hb9
 have HB9 := Lib.hid (bl_call hb00 (Nat.le_refl _) hb9)
 have HO9 := Lib.hid hown9
 have HBB9 := Lib.hid hb9
 clear hZ hrow8 hb8 hX8 hbase8 hg9 hat9 hown9 hb9 hX hT hS hSK6 hb00 hNX
 go_upto_region 9 with fail
 obtain ⟨⟨T90, T91, T92, T93, T94, T95, T96, T97⟩, ⟨T98, T99, T910, T911, T912, T913, T914, T915⟩, T916⟩ := hT9.get8
 obtain ⟨x0, x1, x2, x3, x4⟩ := hX9.tot
 go_upto_region 10 with (first
  | (go_at_call 41; refine (HVEC.out _ _ hSK9).mono ?_; rintro e w10 ⟨A10, c10, rfl, hO10, hb10⟩; have HOW := Lib.hid (own_call HO9.out hb10); have HR10 := Lib.hid (own_srcB hO10); have hbb10 := HBB9.out.trans (hb10.mono HBB9.out.size); have hbase := hbb10.size; clear hO10)
  | (at_builtin; (refine wpList_append_B rfl (.tmp 50) (.tmp 57) rfl w7.heap.size _ 20 _ rfl HOW.out A10 M c10 (vecB S) rfl HVL.out HR10.out (by omega) hbase ?_; intro v2 w11 hown2 hg2 hat2; have hb11 := hbb10.grown hg2 hbase (fun q hq => (HOW.out.lt q hq).1); obtain ⟨A11, c11, hv2⟩ := own_shape hown2; subst hv2; have HO11 := Lib.hid hown2; have HB11 := Lib.hid hb11; clear hown2 hg2 hat2 hb11)))
 have hb11 := HB11.out
 have hT := HT7.out.call hb11
 have hX := HX7.out.call hb11
 have hSV := HSV7.out.call hb11
 have hO7 := own_call HO7.out hb11
 have hb00 := bl_call HB7.out (Nat.le_refl _) hb11
 have hs7 := HB7.out.size
 have hs11 := hb11.size
 have HOW11 := HO11.out
 rw [HBE.out, HLM.out] at HOW11
 rw [HLM.out]
 have HWO := Lib.hid HOW11
 clear HOW11 HO11 HB11 HO9 HBB9 HB9 HOW HR10 hbb10 hbase hb10 hSK9 hX9 x0 x1 x2 x3 x4
 clear T90 T91 T92 T93 T94 T95 T96 T97 T98 T99 T910 T911 T912 T913 T914 T915 T916
 clear hT9
 obtain ⟨g7, e7, _⟩ := own_src0 hO7 (by omega)
 subst e7
 have hg7 : g7 < w7.heap.size ∧ w6.heap.size ≤ g7 := ⟨(HO7.out.lt g7 rfl).2, (HO7.out.lt g7 rfl).1⟩
 have HBS := Lib.hid (SlB.own hO7 HBL.out)
 obtain ⟨⟨T0, T1, T2, T3, T4, T5, T6, T7⟩, ⟨T8, T9, T10, T11, T12, T13, T14, T15⟩, T16⟩ := hT.get8
 have hWO := HWO.out
 clear HWO hb11
 refine wp_region_lit ?_
 refine wpList_valD (some 60) rfl rfl (by (go_simp; first | with_reducible rfl | exact ⟨rfl, rfl⟩ | (trace_state; fail))) ?_
 simp only [Zp, Zq, Zr, Zs]
 refine wpList_valD (some 61) rfl rfl (by (go_simp; first | with_reducible rfl | exact ⟨rfl, rfl⟩ | (trace_state; fail))) ?_
 simp only [Zp, Zq, Zr, Zs]
 refine wpList_callD (some 62) rfl rfl 42 _ ?_ (HT1.out _ _ _ HBS.out) ?_
 ·go_simp; try (with_reducible rfl)
 rintro e w12 ⟨A1, c1, rfl, hO1, hb12⟩
 refine ⟨_, rfl, ?_⟩
 simp only [Zp, Zq, Zr, Zs]
 clear T0 T1 T2 T3 T4 T5 T6 T7 T8 T9 T10 T11 T12 T13 T14 T15 T16
 replace hb00 := bl_call hb00 (Nat.le_refl _) hb12
 replace hT := hT.call hb12
 replace hX := hX.call hb12
 replace hSV := hSV.call hb12
 replace hO7 := own_call hO7 hb12
 replace hWO := own_call hWO hb12
 refine wpList_valD (some 59) rfl rfl (by (go_simp; first | with_reducible rfl | exact ⟨rfl, rfl⟩ | (trace_state; fail))) ?_
 simp only [Zp, Zq, Zr, Zs]
 refine wpList_valD (some 63) rfl rfl (by (go_simp; first | with_reducible rfl | exact ⟨rfl, rfl⟩ | (trace_state; fail))) ?_
 simp only [Zp, Zq, Zr, Zs]
 refine wpList_valD (some 64) rfl rfl (by (go_simp; first | with_reducible rfl | exact ⟨rfl, rfl⟩ | (trace_state; fail))) ?_
 simp only [Zp, Zq, Zr, Zs]
 refine wpList_valD (some 14) rfl rfl (by (skip; go_simp; first | with_reducible rfl | exact ⟨rfl, rfl⟩ | (trace_state; fail))) ?_
 simp only [Zp, Zq, Zr, Zs]
 have hY := Vs.new w12 (totL (.slice none 0 0) 0 z16) #[.slice none 0 0, .int .i64 0, .int .u8 0, .int .u8 0, .int .u8 0, .int .u8 0, .int .u8 0, .int .u8 0, .int .u8 0, .int .u8 0, .int .u8 0, .int .u8 0, .int .u8 0, .int .u8 0, .int .u8 0, .int .u8 0, .int .u8 0, .int .u8 0] 76 rfl
 have hbA := (Below.refl w12.heap.size w12).alloc (Nat.le_refl _) (.cells #[.slice none 0 0, .int .i64 0, .int .u8 0, .int .u8 0, .int .u8 0, .int .u8 0, .int .u8 0, .int .u8 0, .int .u8 0, .int .u8 0, .int .u8 0, .int .u8 0, .int .u8 0, .int .u8 0, .int .u8 0, .int .u8 0, .int .u8 0, .int .u8 0] 76)
 have hst := hY.storeT (k := K) (v := (.slice A1 n c1)) (m := (N : Int)) z16_length HKL.out rfl
 refine wpList_skipD rfl rfl (exec_store rfl (by kernel_rfl) (by kernel_rfl) hst) ?_
 refine wpList_valD (some 15) rfl rfl (by (go_simp; first | with_reducible rfl | exact ⟨rfl, rfl⟩ | (trace_state; fail))) ?_
 simp only [Zp, Zq, Zr, Zs]
 replace hY := hY.setT (k := K) (v := (.slice A1 n c1)) (m := (N : Int)) z16_length HKL.out
 have hbC := bl_setCells hbA (Nat.le_refl _) 0 (totL (.slice A1 n c1) (N : Int) K)
 replace hb00 := bl_call hb00 (Nat.le_refl _) hbC
 replace hT := hT.call hbC
 replace hX := hX.call hbC
 replace hSV := hSV.call hbC
 replace hO7 := own_call hO7 hbC
 replace hO1 := own_call hO1 hbC
 replace hWO := own_call hWO hbC
 clear hst hbA hbC
 generalize (w12.alloc (.cells #[.slice none 0 0, .int .i64 0, .int .u8 0, .int .u8 0, .int .u8 0, .int .u8 0, .int .u8 0, .int .u8 0, .int .u8 0, .int .u8 0, .int .u8 0, .int .u8 0, .int .u8 0, .int .u8 0, .int .u8 0, .int .u8 0, .int .u8 0, .int .u8 0] 76)).setCells w12.heap.size 0 (totL (.slice A1 n c1) (N : Int) K) = w13 at hY hT hX hSV hO7 hO1 hWO hb00 ⊢
 obtain ⟨vy, hyb⟩ : ∃ z, w12.heap.size = z := ⟨_, rfl⟩
 have hyg : g7 < vy := by
  have := hb12.size
  omega
 rw [hyb] at hY
 simp only [hyb]
 have hs13 : w11.heap.size ≤ w13.heap.size := by
  have := hY.lt
  have := hb12.size
  omega
 clear hyb hb12
 go_upto_region 11 with fail
 obtain ⟨⟨T0, T1, T2, T3, T4, T5, T6, T7⟩, ⟨T8, T9, T10, T11, T12, T13, T14, T15⟩, T16⟩ := hT.get8
 have HRW := HTR.out rA rc w13 (HRB.out _ hb00)
 refine wp_region_lit ?_
 refine wpList_valD (some 66) rfl rfl (by (go_simp; first | with_reducible rfl | exact ⟨rfl, rfl⟩ | (trace_state; fail))) ?_
 simp only [Zp, Zq, Zr, Zs]
 refine wpList_valD (some 67) rfl rfl (by (go_simp; first | with_reducible rfl | exact ⟨rfl, rfl⟩ | (trace_state; fail))) ?_
 simp only [Zp, Zq, Zr, Zs]
 refine wpList_callD (some 68) rfl rfl 42 _ ?_ (HRW) ?_
 ·go_simp; try (with_reducible rfl)
 rintro e w14 ⟨A2, q2, c2, m2, k2, code, rfl, hk2, hb14, hz⟩
 refine ⟨_, rfl, ?_⟩
 simp only [Zp, Zq, Zr, Zs]
 clear T0 T1 T2 T3 T4 T5 T6 T7 T8 T9 T10 T11 T12 T13 T14 T15 T16
 replace hb00 := bl_call hb00 (Nat.le_refl _) hb14
 replace hT := hT.call hb14
 replace hX := hX.call hb14
 replace hSV := hSV.call hb14
 replace hO7 := own_call hO7 hb14
 replace hO1 := own_call hO1 hb14
 replace hWO := own_call hWO hb14
 replace hY := hY.call hb14
 refine wpList_valD (some 65) rfl rfl (by (go_simp; first | with_reducible rfl | exact ⟨rfl, rfl⟩ | (trace_state; fail))) ?_
 simp only [Zp, Zq, Zr, Zs]
 refine wpList_valD (some 69) rfl rfl (by (go_simp; first | with_reducible rfl | exact ⟨rfl, rfl⟩ | (trace_state; fail))) ?_
 simp only [Zp, Zq, Zr, Zs]
 refine wpList_valD (some 70) rfl rfl (by (go_simp; first | with_reducible rfl | exact ⟨rfl, rfl⟩ | (trace_state; fail))) ?_
 simp only [Zp, Zq, Zr, Zs]
 refine wpList_valD (some 16) rfl rfl (by (skip; go_simp; first | with_reducible rfl | exact ⟨rfl, rfl⟩ | (trace_state; fail))) ?_
 simp only [Zp, Zq, Zr, Zs]
 have hZ := Vs.new w14 (totL (.slice none 0 0) 0 z16) #[.slice none 0 0, .int .i64 0, .int .u8 0, .int .u8 0, .int .u8 0, .int .u8 0, .int .u8 0, .int .u8 0, .int .u8 0, .int .u8 0, .int .u8 0, .int .u8 0, .int .u8 0, .int .u8 0, .int .u8 0, .int .u8 0, .int .u8 0, .int .u8 0] 76 rfl
 have hbA := (Below.refl w14.heap.size w14).alloc (Nat.le_refl _) (.cells #[.slice none 0 0, .int .i64 0, .int .u8 0, .int .u8 0, .int .u8 0, .int .u8 0, .int .u8 0, .int .u8 0, .int .u8 0, .int .u8 0, .int .u8 0, .int .u8 0, .int .u8 0, .int .u8 0, .int .u8 0, .int .u8 0, .int .u8 0, .int .u8 0] 76)
 have hst := hZ.storeT (k := k2) (v := (.slice A2 q2 c2)) (m := m2) z16_length hk2 rfl
 refine wpList_skipD rfl rfl (exec_store rfl (by kernel_rfl) (by kernel_rfl) hst) ?_
 refine wpList_valD (some 17) rfl rfl (by (go_simp; first | with_reducible rfl | exact ⟨rfl, rfl⟩ | (trace_state; fail))) ?_
 simp only [Zp, Zq, Zr, Zs]
 replace hZ := hZ.setT (k := k2) (v := (.slice A2 q2 c2)) (m := m2) z16_length hk2
 have hbC := bl_setCells hbA (Nat.le_refl _) 0 (totL (.slice A2 q2 c2) m2 k2)
 replace hb00 := bl_call hb00 (Nat.le_refl _) hbC
 replace hT := hT.call hbC
 replace hX := hX.call hbC
 replace hSV := hSV.call hbC
 replace hO7 := own_call hO7 hbC
 replace hO1 := own_call hO1 hbC
 replace hWO := own_call hWO hbC
 replace hY := hY.call hbC
 replace hz := hz.call hbC
 clear hst hbA hbC
 generalize (w14.alloc (.cells #[.slice none 0 0, .int .i64 0, .int .u8 0, .int .u8 0, .int .u8 0, .int .u8 0, .int .u8 0, .int .u8 0, .int .u8 0, .int .u8 0, .int .u8 0, .int .u8 0, .int .u8 0, .int .u8 0, .int .u8 0, .int .u8 0, .int .u8 0, .int .u8 0] 76)).setCells w14.heap.size 0 (totL (.slice A2 q2 c2) m2 k2) = w15 at hZ hY hT hX hSV hO7 hO1 hWO hz hb00 ⊢
 obtain ⟨zb, hzb⟩ : ∃ z, w14.heap.size = z := ⟨_, rfl⟩
 have hzg : g7 < zb := by
  have := hb14.size
  omega
 rw [hzb] at hZ
 simp only [hzb]
 have hs15 : w13.heap.size ≤ w15.heap.size := by
  have := hZ.lt
  have := hb14.size
  omega
 clear hzb hb14 HRW
 have HHZ := Lib.hid hz
 have HK2 := Lib.hid hk2
 clear hz hk2
 have HL15 := Lib.hid (show SlB w15 (some ⟨g7, 0, none⟩) BS c7 from SlB.own hO7 HBL.out)
 have hc7 : L ≤ c7 := by
  have h := HL15.out.1.1
  rw [HBL.out] at h
  exact h
 go_upto_region 12 with fail
 apply region_Z1 (n := 14) (m := 15) (f := 14) (fun x0 => (XtK w15) (some x0) true) ((XtT w15) none) ((XtK w15) none false) ((XtK.weak _ _)) (XtK.clo) ((XtK.start w15))
 case hm => kernel_rfl
 case hB => kernel_rfl
 case hf => rfl
 case' h =>
  refine WpX.vD 0 (some 72) ?_ rfl rfl (by kernel_rfl) (fun _ _ _ h => h) rfl (fun wz hwz => ?_) ?_
  rotate_left
  ·(have hz := (hT.call hwz).get8; obtain ⟨⟨z0, z1, z2, z3, z4, z5, z6, z7⟩, ⟨z8, z9, z10, z11, z12, z13, z14, z15⟩, z16⟩ := hz; go_simp; try (with_reducible rfl))
  simp only [Zp, Zq, Zr, Zs]
  refine WpX.vD 1 (some 73) ?_ rfl rfl (by kernel_rfl) (fun _ _ _ h => h) rfl (fun wz hwz => ?_) ?_
  rotate_left
  ·go_simp; try (with_reducible rfl)
  simp only [Zp, Zq, Zr, Zs]
  refine WpX.vD 2 (some 74) ?_ rfl rfl (by kernel_rfl) (fun _ _ _ h => h) rfl (fun wz hwz => ?_) ?_
  rotate_left
  ·go_simp; try (with_reducible rfl)
  simp only [Zp, Zq, Zr, Zs]
  refine WpX.vD 3 (some 75) ?_ rfl rfl (by kernel_rfl) (fun _ _ _ h => h) rfl (fun wz hwz => ?_) ?_
  rotate_left
  ·go_simp; try (with_reducible rfl)
  simp only [Zp, Zq, Zr, Zs]
  refine WpX.vD 4 (some 76) ?_ rfl rfl (by kernel_rfl) (fun _ _ _ h => h) rfl (fun wz hwz => ?_) ?_
  rotate_left
  ·go_simp; try (with_reducible rfl)
  simp only [Zp, Zq, Zr, Zs]
  refine WpX.vD 5 (some 77) ?_ rfl rfl (by kernel_rfl) (fun _ _ _ h => h) rfl (fun wz hwz => ?_) ?_
  rotate_left
  ·go_simp; try (with_reducible rfl)
  simp only [Zp, Zq, Zr, Zs]
  refine WpX.vD 6 (some 78) ?_ rfl rfl (by kernel_rfl) (fun _ _ _ h => h) rfl (fun wz hwz => ?_) ?_
  rotate_left
  ·go_simp; try (with_reducible rfl)
  simp only [Zp, Zq, Zr, Zs]
  refine WpX.vD 7 (some 79) ?_ rfl rfl (by kernel_rfl) (fun _ _ _ h => h) rfl (fun wz hwz => ?_) ?_
  rotate_left
  ·(have q := slice_u8_h (some ⟨g7, 0, none⟩) L c7 j (by omega) wz; go_simp; try (with_reducible rfl))
  simp only [Zp, Zq, Zr, Zs]
  refine WpX.takeD 8 (some 80) rfl rfl (by kernel_rfl) (fun _ _ _ h => h) (.call rfl (fun wz hwz => HT3.out j _ c7 wz hjL (HL15.out.later hwz)) (fun wz hwz => ?_)) ?_
  ·go_simp; try (with_reducible rfl)
  simp only [Zp, Zq, Zr, Zs]
  refine WpX.vD 9 (some 71) ?_ rfl rfl (by kernel_rfl) (fun _ _ _ h => h) rfl (fun wz hwz => ?_) ?_
  rotate_left
  ·go_simp; try (with_reducible rfl)
  simp only [Zp, Zq, Zr, Zs]
  refine WpX.vD 10 (some 81) ?_ rfl rfl (by kernel_rfl) (fun _ _ _ h => h) rfl (fun wz hwz => ?_) ?_
  rotate_left
  ·go_simp; try (with_reducible rfl)
  simp only [Zp, Zq, Zr, Zs]
  refine WpX.vD 11 (some 82) ?_ rfl rfl (by kernel_rfl) (fun _ _ _ h => h) rfl (fun wz hwz => ?_) ?_
  rotate_left
  ·go_simp; try (with_reducible rfl)
  simp only [Zp, Zq, Zr, Zs]
  refine WpX.oneD 12 (some 18) rfl rfl (by kernel_rfl) (fun x : Nat => Value.pointer (some ⟨x, 0, none⟩)) (fun x => (XtT w15) (some x)) (fun x => (XtK w15) (some x) false) (Turns.val rfl (fun _ _ h => h) (fun _ => (XtK.weak _ _)) (fun _ => XtK.clo) (fun wz hS => ⟨wz.heap.size, wz.alloc (.cells #[.slice none 0 0, .int .i64 0, .int .u8 0, .int .u8 0, .int .u8 0, .int .u8 0, .int .u8 0, .int .u8 0, .int .u8 0, .int .u8 0, .int .u8 0, .int .u8 0, .int .u8 0, .int .u8 0, .int .u8 0, .int .u8 0, .int .u8 0, .int .u8 0] 76), by go_simp; try (with_reducible rfl), hS.mk1 rfl⟩)) (fun x => ?_)
  simp only [Zp, Zq, Zr, Zs]
  refine WpX.oneSkip 13 none rfl rfl (by kernel_rfl) ((XtT w15) (some x)) ((XtK w15) (some x) true) (fun _ h => h) ((XtK.weak _ _)) (XtK.clo) rfl (fun wz hS => ?_) ?_
  ·(exact ⟨_, exec_store rfl (by kernel_rfl) (by kernel_rfl) ((hS.c rfl x rfl).2.storeT (k := z16) (v := .slice none 0 0) (m := 0) z16_length z16_length rfl), hS.put _⟩)
  simp only [Act.put]
  refine WpX.done (by kernel_rfl) (fun w16 hS => ⟨x, rfl, ?_⟩)
  ·exact hS
 intro x w16 hS
 (try simp only [List.drop_succ_cons]); (try simp only [List.drop_zero]); (try simp only [Nat.reduceSub]); (try simp only [List.take_succ_cons]); (try simp only [List.take_zero])
 have hb16 : Below w15.heap.size w15 w16 := hS.t
 clear hS
 replace hb00 := bl_call hb00 (Nat.le_refl _) hb16
 replace hT := hT.call hb16
 replace hX := hX.call hb16
 replace hSV := hSV.call hb16
 replace hO7 := own_call hO7 hb16
 replace hO1 := own_call hO1 hb16
 replace hWO := own_call hWO hb16
 replace hY := hY.call hb16
 replace hZ := hZ.call hb16
 have HHZ16 := Lib.hid (HHZ.out.call hb16)
 have hs16 := hb16.size
 have hgl : g7 < w16.heap.size := by omega
 clear hb16 HHZ HL15 HBS
 have htlt : tb < w6.heap.size := by
  have := HT6L.out
  omega
 have hL9 : L ≤ 20000 := by
  have := HLM.out
  omega
 have HBL1 : Hid ((BS ++ [0]).length = L + 1) := Lib.hid (by rw [List.length_append, HBL.out]; rfl)
 have hxlt := HX6L.out
 have hSlt := HS6L.out
 have hw6 := HW6.out
 go_upto_region 13 with fail
 apply region_Z4 (n := 10) (m := 11) (f := 10) (fun x0 x1 x2 x3 => (ByK w16 w6.heap.size g7 L c7 BS) (some x0) (some x1) (some x2) (some x3) true) ((ByT w16 g7) none none none none) ((ByK w16 w6.heap.size g7 L c7 BS) none none none none false) ((ByK.weak _ _ _ _ _)) (ByK.clo) ((ByK.start hgl (by omega) hO7))
 case hm => kernel_rfl
 case hB => kernel_rfl
 case hf => rfl
 case' h =>
  refine WpX.vD 0 (some 84) ?_ rfl rfl (by kernel_rfl) (fun _ _ _ h => h) rfl (fun wz hwz => ?_) ?_
  rotate_left
  ·(have hz := (hT.exc (S := fun q => q = g7) (by omega) hwz).get8; obtain ⟨⟨z0, z1, z2, z3, z4, z5, z6, z7⟩, ⟨z8, z9, z10, z11, z12, z13, z14, z15⟩, z16⟩ := hz; go_simp; try (with_reducible rfl))
  simp only [Zp, Zq, Zr, Zs]
  refine WpX.vD 1 (some 85) ?_ rfl rfl (by kernel_rfl) (fun _ _ _ h => h) rfl (fun wz hwz => ?_) ?_
  rotate_left
  ·go_simp; try (with_reducible rfl)
  simp only [Zp, Zq, Zr, Zs]
  refine WpX.twoD 2 8 (some 86) (some 20) rfl rfl rfl rfl (by kernel_rfl) (fun ba : Nat => Value.slice (some ⟨ba, 0, none⟩) 1 1) (fun ba => (ByT w16 g7) (some ba) none none none) (fun ba => (ByK w16 w6.heap.size g7 L c7 BS) (some ba) none none none false) (Turns.val rfl (fun _ _ h => h) (fun _ => (ByK.weak _ _ _ _ _)) (fun _ => ByK.clo) (fun wz hS => ⟨wz.heap.size, wz.alloc (.cells #[.int .u8 0] 5), by go_simp; try (with_reducible rfl), hS.mk1⟩)) (fun x4 : Nat => Value.pointer (some ⟨x4, 0, none⟩)) (fun x4 => (ByT w16 g7) none none none (some x4)) (fun x4 => (ByK w16 w6.heap.size g7 L c7 BS) none none none (some x4) false) (Turns.val rfl (fun _ _ h => h) (fun _ => (ByK.weak _ _ _ _ _)) (fun _ => ByK.clo) (fun wz hS => ⟨wz.heap.size, wz.alloc (.cells #[.slice none 0 0, .int .i64 0, .int .u8 0, .int .u8 0, .int .u8 0, .int .u8 0, .int .u8 0, .int .u8 0, .int .u8 0, .int .u8 0, .int .u8 0, .int .u8 0, .int .u8 0, .int .u8 0, .int .u8 0, .int .u8 0, .int .u8 0, .int .u8 0] 76), by go_simp; try (with_reducible rfl), hS.mk4 rfl⟩)) (fun ba => ?rz13_5a) (fun x4 => ?rz13_5b)
  case' rz13_5a =>
   simp only [Zp, Zq, Zr, Zs]
   refine WpX.twoD 3 8 (some 87) (some 20) rfl rfl rfl rfl (by kernel_rfl) (fun pr : Option Addr × Nat => Value.slice pr.1 (L + 1) pr.2) (fun pr => (ByT w16 g7) (some ba) (some pr) none none) (fun pr => (ByK w16 w6.heap.size g7 L c7 BS) (some ba) (some pr) none none false) (Turns.val rfl (fun _ _ h => h) (fun _ => (ByK.weak _ _ _ _ _)) (fun _ => ByK.clo) (fun wz hS => exec_append_useB (.tmp 85) (.tmp 86) rfl wz w6.heap.size g7 L c7 BS (by kernel_rfl) hS.k ba 0 1 1 [0] (by kernel_rfl) rfl (hS.a rfl ba rfl).1 (by omega) (Nat.le_trans hS.l.2 hS.t.size) (fun p w' h2 h3 h4 => hS.mk2 h2 h3 h4))) (fun x4 : Nat => Value.pointer (some ⟨x4, 0, none⟩)) (fun x4 => (ByT w16 g7) (some ba) none none (some x4)) (fun x4 => (ByK w16 w6.heap.size g7 L c7 BS) (some ba) none none (some x4) false) (Turns.val rfl (fun _ _ h => h) (fun _ => (ByK.weak _ _ _ _ _)) (fun _ => ByK.clo) (fun wz hS => ⟨wz.heap.size, wz.alloc (.cells #[.slice none 0 0, .int .i64 0, .int .u8 0, .int .u8 0, .int .u8 0, .int .u8 0, .int .u8 0, .int .u8 0, .int .u8 0, .int .u8 0, .int .u8 0, .int .u8 0, .int .u8 0, .int .u8 0, .int .u8 0, .int .u8 0, .int .u8 0, .int .u8 0] 76), by go_simp; try (with_reducible rfl), hS.mk4 rfl⟩)) (fun pr => ?rz13_6a) (fun x4 => ?rz13_6b)
   case' rz13_6a =>
    simp only [Zp, Zq, Zr, Zs]
    refine WpX.twoD 4 8 (some 88) (some 20) rfl rfl rfl rfl (by kernel_rfl) (fun un : Unit => Value.tuple #[.agg (totL (.slice none 0 0) 0 z16).toArray, .int .i64 27]) (fun un => (ByT w16 g7) (some ba) (some pr) (some un) none) (fun un => (ByK w16 w6.heap.size g7 L c7 BS) (some ba) (some pr) (some un) none false) (Turns.call rfl (fun _ _ h => h) (fun _ => (ByK.weak _ _ _ _ _)) (fun _ => ByK.clo) (fun wz hS => (HT27.out pr.1 pr.2 wz (SlB.own (hS.b rfl pr rfl) HBL1.out)).mono fun e w' ⟨he, hb⟩ => ⟨(), he, hS.mk3 hb⟩) (fun wz hS => by go_simp; try (with_reducible rfl))) (fun x4 : Nat => Value.pointer (some ⟨x4, 0, none⟩)) (fun x4 => (ByT w16 g7) (some ba) (some pr) none (some x4)) (fun x4 => (ByK w16 w6.heap.size g7 L c7 BS) (some ba) (some pr) none (some x4) false) (Turns.val rfl (fun _ _ h => h) (fun _ => (ByK.weak _ _ _ _ _)) (fun _ => ByK.clo) (fun wz hS => ⟨wz.heap.size, wz.alloc (.cells #[.slice none 0 0, .int .i64 0, .int .u8 0, .int .u8 0, .int .u8 0, .int .u8 0, .int .u8 0, .int .u8 0, .int .u8 0, .int .u8 0, .int .u8 0, .int .u8 0, .int .u8 0, .int .u8 0, .int .u8 0, .int .u8 0, .int .u8 0, .int .u8 0] 76), by go_simp; try (with_reducible rfl), hS.mk4 rfl⟩)) (fun un => ?rz13_7a) (fun x4 => ?rz13_7b)
    case' rz13_7a =>
     simp only [Zp, Zq, Zr, Zs]
     refine WpX.vD 5 (some 83) ?_ rfl rfl (by kernel_rfl) (fun _ _ _ h => h) rfl (fun wz hwz => ?_) ?_
     rotate_left
     ·go_simp; try (with_reducible rfl)
     simp only [Zp, Zq, Zr, Zs]
     refine WpX.vD 6 (some 89) ?_ rfl rfl (by kernel_rfl) (fun _ _ _ h => h) rfl (fun wz hwz => ?_) ?_
     rotate_left
     ·go_simp; try (with_reducible rfl)
     simp only [Zp, Zq, Zr, Zs]
     refine WpX.vD 7 (some 90) ?_ rfl rfl (by kernel_rfl) (fun _ _ _ h => h) rfl (fun wz hwz => ?_) ?_
     rotate_left
     ·go_simp; try (with_reducible rfl)
     simp only [Zp, Zq, Zr, Zs]
     refine WpX.oneD 8 (some 20) rfl rfl (by kernel_rfl) (fun x4 : Nat => Value.pointer (some ⟨x4, 0, none⟩)) (fun x4 => (ByT w16 g7) (some ba) (some pr) (some un) (some x4)) (fun x4 => (ByK w16 w6.heap.size g7 L c7 BS) (some ba) (some pr) (some un) (some x4) false) (Turns.val rfl (fun _ _ h => h) (fun _ => (ByK.weak _ _ _ _ _)) (fun _ => ByK.clo) (fun wz hS => ⟨wz.heap.size, wz.alloc (.cells #[.slice none 0 0, .int .i64 0, .int .u8 0, .int .u8 0, .int .u8 0, .int .u8 0, .int .u8 0, .int .u8 0, .int .u8 0, .int .u8 0, .int .u8 0, .int .u8 0, .int .u8 0, .int .u8 0, .int .u8 0, .int .u8 0, .int .u8 0, .int .u8 0] 76), by go_simp; try (with_reducible rfl), hS.mk4 rfl⟩)) (fun x4 => ?_)
     simp only [Zp, Zq, Zr, Zs]
     refine WpX.oneSkip 9 none rfl rfl (by kernel_rfl) ((ByT w16 g7) (some ba) (some pr) (some un) (some x4)) ((ByK w16 w6.heap.size g7 L c7 BS) (some ba) (some pr) (some un) (some x4) true) (fun _ h => h) ((ByK.weak _ _ _ _ _)) (ByK.clo) rfl (fun wz hS => ?_) ?_
     ·(exact ⟨_, exec_store rfl (by kernel_rfl) (by kernel_rfl) ((hS.c rfl x4 rfl).2.storeT (k := z16) (v := .slice none 0 0) (m := 0) z16_length z16_length rfl), hS.put _⟩)
     simp only [Act.put]
     refine WpX.done (by kernel_rfl) (fun w17 hS => ⟨ba, pr, un, x4, rfl, ?_⟩)
     ·exact hS
    case' rz13_7b =>
     simp only [Zp, Zq, Zr, Zs]
     refine WpX.oneD 4 (some 88) rfl rfl (by kernel_rfl) (fun un : Unit => Value.tuple #[.agg (totL (.slice none 0 0) 0 z16).toArray, .int .i64 27]) (fun un => (ByT w16 g7) (some ba) (some pr) (some un) (some x4)) (fun un => (ByK w16 w6.heap.size g7 L c7 BS) (some ba) (some pr) (some un) (some x4) false) (Turns.call rfl (fun _ _ h => h) (fun _ => (ByK.weak _ _ _ _ _)) (fun _ => ByK.clo) (fun wz hS => (HT27.out pr.1 pr.2 wz (SlB.own (hS.b rfl pr rfl) HBL1.out)).mono fun e w' ⟨he, hb⟩ => ⟨(), he, hS.mk3 hb⟩) (fun wz hS => by go_simp; try (with_reducible rfl))) (fun un => ?_)
     simp only [Zp, Zq, Zr, Zs]
     refine WpX.vD 5 (some 83) ?_ rfl rfl (by kernel_rfl) (fun _ _ _ h => h) rfl (fun wz hwz => ?_) ?_
     rotate_left
     ·go_simp; try (with_reducible rfl)
     simp only [Zp, Zq, Zr, Zs]
     refine WpX.vD 6 (some 89) ?_ rfl rfl (by kernel_rfl) (fun _ _ _ h => h) rfl (fun wz hwz => ?_) ?_
     rotate_left
     ·go_simp; try (with_reducible rfl)
     simp only [Zp, Zq, Zr, Zs]
     refine WpX.vD 7 (some 90) ?_ rfl rfl (by kernel_rfl) (fun _ _ _ h => h) rfl (fun wz hwz => ?_) ?_
     rotate_left
     ·go_simp; try (with_reducible rfl)
     simp only [Zp, Zq, Zr, Zs]
     refine WpX.oneSkip 9 none rfl rfl (by kernel_rfl) ((ByT w16 g7) (some ba) (some pr) (some un) (some x4)) ((ByK w16 w6.heap.size g7 L c7 BS) (some ba) (some pr) (some un) (some x4) true) (fun _ h => h) ((ByK.weak _ _ _ _ _)) (ByK.clo) rfl (fun wz hS => ?_) ?_
     ·(exact ⟨_, exec_store rfl (by kernel_rfl) (by kernel_rfl) ((hS.c rfl x4 rfl).2.storeT (k := z16) (v := .slice none 0 0) (m := 0) z16_length z16_length rfl), hS.put _⟩)
     simp only [Act.put]
     refine WpX.done (by kernel_rfl) (fun w17 hS => ⟨ba, pr, un, x4, rfl, ?_⟩)
     ·exact hS
   case' rz13_6b =>
    simp only [Zp, Zq, Zr, Zs]
    refine WpX.oneD 3 (some 87) rfl rfl (by kernel_rfl) (fun pr : Option Addr × Nat => Value.slice pr.1 (L + 1) pr.2) (fun pr => (ByT w16 g7) (some ba) (some pr) none (some x4)) (fun pr => (ByK w16 w6.heap.size g7 L c7 BS) (some ba) (some pr) none (some x4) false) (Turns.val rfl (fun _ _ h => h) (fun _ => (ByK.weak _ _ _ _ _)) (fun _ => ByK.clo) (fun wz hS => exec_append_useB (.tmp 85) (.tmp 86) rfl wz w6.heap.size g7 L c7 BS (by kernel_rfl) hS.k ba 0 1 1 [0] (by kernel_rfl) rfl (hS.a rfl ba rfl).1 (by omega) (Nat.le_trans hS.l.2 hS.t.size) (fun p w' h2 h3 h4 => hS.mk2 h2 h3 h4))) (fun pr => ?_)
    simp only [Zp, Zq, Zr, Zs]
    refine WpX.oneD 4 (some 88) rfl rfl (by kernel_rfl) (fun un : Unit => Value.tuple #[.agg (totL (.slice none 0 0) 0 z16).toArray, .int .i64 27]) (fun un => (ByT w16 g7) (some ba) (some pr) (some un) (some x4)) (fun un => (ByK w16 w6.heap.size g7 L c7 BS) (some ba) (some pr) (some un) (some x4) false) (Turns.call rfl (fun _ _ h => h) (fun _ => (ByK.weak _ _ _ _ _)) (fun _ => ByK.clo) (fun wz hS => (HT27.out pr.1 pr.2 wz (SlB.own (hS.b rfl pr rfl) HBL1.out)).mono fun e w' ⟨he, hb⟩ => ⟨(), he, hS.mk3 hb⟩) (fun wz hS => by go_simp; try (with_reducible rfl))) (fun un => ?_)
    simp only [Zp, Zq, Zr, Zs]
    refine WpX.vD 5 (some 83) ?_ rfl rfl (by kernel_rfl) (fun _ _ _ h => h) rfl (fun wz hwz => ?_) ?_
    rotate_left
    ·go_simp; try (with_reducible rfl)
    simp only [Zp, Zq, Zr, Zs]
    refine WpX.vD 6 (some 89) ?_ rfl rfl (by kernel_rfl) (fun _ _ _ h => h) rfl (fun wz hwz => ?_) ?_
    rotate_left
    ·go_simp; try (with_reducible rfl)
    simp only [Zp, Zq, Zr, Zs]
    refine WpX.vD 7 (some 90) ?_ rfl rfl (by kernel_rfl) (fun _ _ _ h => h) rfl (fun wz hwz => ?_) ?_
    rotate_left
    ·go_simp; try (with_reducible rfl)
    simp only [Zp, Zq, Zr, Zs]
    refine WpX.oneSkip 9 none rfl rfl (by kernel_rfl) ((ByT w16 g7) (some ba) (some pr) (some un) (some x4)) ((ByK w16 w6.heap.size g7 L c7 BS) (some ba) (some pr) (some un) (some x4) true) (fun _ h => h) ((ByK.weak _ _ _ _ _)) (ByK.clo) rfl (fun wz hS => ?_) ?_
    ·(exact ⟨_, exec_store rfl (by kernel_rfl) (by kernel_rfl) ((hS.c rfl x4 rfl).2.storeT (k := z16) (v := .slice none 0 0) (m := 0) z16_length z16_length rfl), hS.put _⟩)
    simp only [Act.put]
    refine WpX.done (by kernel_rfl) (fun w17 hS => ⟨ba, pr, un, x4, rfl, ?_⟩)
    ·exact hS
  case' rz13_5b =>
   simp only [Zp, Zq, Zr, Zs]
   refine WpX.oneD 2 (some 86) rfl rfl (by kernel_rfl) (fun ba : Nat => Value.slice (some ⟨ba, 0, none⟩) 1 1) (fun ba => (ByT w16 g7) (some ba) none none (some x4)) (fun ba => (ByK w16 w6.heap.size g7 L c7 BS) (some ba) none none (some x4) false) (Turns.val rfl (fun _ _ h => h) (fun _ => (ByK.weak _ _ _ _ _)) (fun _ => ByK.clo) (fun wz hS => ⟨wz.heap.size, wz.alloc (.cells #[.int .u8 0] 5), by go_simp; try (with_reducible rfl), hS.mk1⟩)) (fun ba => ?_)
   simp only [Zp, Zq, Zr, Zs]
   refine WpX.oneD 3 (some 87) rfl rfl (by kernel_rfl) (fun pr : Option Addr × Nat => Value.slice pr.1 (L + 1) pr.2) (fun pr => (ByT w16 g7) (some ba) (some pr) none (some x4)) (fun pr => (ByK w16 w6.heap.size g7 L c7 BS) (some ba) (some pr) none (some x4) false) (Turns.val rfl (fun _ _ h => h) (fun _ => (ByK.weak _ _ _ _ _)) (fun _ => ByK.clo) (fun wz hS => exec_append_useB (.tmp 85) (.tmp 86) rfl wz w6.heap.size g7 L c7 BS (by kernel_rfl) hS.k ba 0 1 1 [0] (by kernel_rfl) rfl (hS.a rfl ba rfl).1 (by omega) (Nat.le_trans hS.l.2 hS.t.size) (fun p w' h2 h3 h4 => hS.mk2 h2 h3 h4))) (fun pr => ?_)
   simp only [Zp, Zq, Zr, Zs]
   refine WpX.oneD 4 (some 88) rfl rfl (by kernel_rfl) (fun un : Unit => Value.tuple #[.agg (totL (.slice none 0 0) 0 z16).toArray, .int .i64 27]) (fun un => (ByT w16 g7) (some ba) (some pr) (some un) (some x4)) (fun un => (ByK w16 w6.heap.size g7 L c7 BS) (some ba) (some pr) (some un) (some x4) false) (Turns.call rfl (fun _ _ h => h) (fun _ => (ByK.weak _ _ _ _ _)) (fun _ => ByK.clo) (fun wz hS => (HT27.out pr.1 pr.2 wz (SlB.own (hS.b rfl pr rfl) HBL1.out)).mono fun e w' ⟨he, hb⟩ => ⟨(), he, hS.mk3 hb⟩) (fun wz hS => by go_simp; try (with_reducible rfl))) (fun un => ?_)
   simp only [Zp, Zq, Zr, Zs]
   refine WpX.vD 5 (some 83) ?_ rfl rfl (by kernel_rfl) (fun _ _ _ h => h) rfl (fun wz hwz => ?_) ?_
   rotate_left
   ·go_simp; try (with_reducible rfl)
   simp only [Zp, Zq, Zr, Zs]
   refine WpX.vD 6 (some 89) ?_ rfl rfl (by kernel_rfl) (fun _ _ _ h => h) rfl (fun wz hwz => ?_) ?_
   rotate_left
   ·go_simp; try (with_reducible rfl)
   simp only [Zp, Zq, Zr, Zs]
   refine WpX.vD 7 (some 90) ?_ rfl rfl (by kernel_rfl) (fun _ _ _ h => h) rfl (fun wz hwz => ?_) ?_
   rotate_left
   ·go_simp; try (with_reducible rfl)
   simp only [Zp, Zq, Zr, Zs]
   refine WpX.oneSkip 9 none rfl rfl (by kernel_rfl) ((ByT w16 g7) (some ba) (some pr) (some un) (some x4)) ((ByK w16 w6.heap.size g7 L c7 BS) (some ba) (some pr) (some un) (some x4) true) (fun _ h => h) ((ByK.weak _ _ _ _ _)) (ByK.clo) rfl (fun wz hS => ?_) ?_
   ·(exact ⟨_, exec_store rfl (by kernel_rfl) (by kernel_rfl) ((hS.c rfl x4 rfl).2.storeT (k := z16) (v := .slice none 0 0) (m := 0) z16_length z16_length rfl), hS.put _⟩)
   simp only [Act.put]
   refine WpX.done (by kernel_rfl) (fun w17 hS => ⟨ba, pr, un, x4, rfl, ?_⟩)
   ·exact hS
 intro ba pr un x4 w17 hS
 (try simp only [List.drop_succ_cons]); (try simp only [List.drop_zero]); (try simp only [Nat.reduceSub]); (try simp only [List.take_succ_cons]); (try simp only [List.take_zero])
 have hx17 := hS.t
 have hO17 := hS.k
 have hX17 := Lib.hid (hX.exc (S := fun q => q = g7) (by omega) hx17)
 have hT17 := Lib.hid (hT.exc (S := fun q => q = g7) (by omega) hx17)
 have hSV17 : RwK w17 gS S := Vs.exc (S := fun q => q = g7) hSV (by omega) hx17
 have hY17 := Lib.hid (hY.exc (S := fun q => q = g7) (by omega) hx17)
 have hZ17 := Lib.hid (hZ.exc (S := fun q => q = g7) (by omega) hx17)
 have hO117 := own_other hO1 hx17 (fun g hg e => by
  have := (hO1.lt g hg).1
  omega)
 have hWO17 := own_other hWO hx17 (fun g hg e => by
  have := (hWO.lt g hg).1
  omega)
 have hb17 : Below w.heap.size w w17 := hb00.trans (Exc.below (hx17.mono hb00.size) (fun q hq e => by omega))
 have hz17 := HHZ16.out.exc (by omega) hx17
 have hR17 := HRB.out w17 hb17
 have HB17 := Lib.hid hb17
 have HSM1 : Hid (∀ wz, Below w17.heap.size w17 wz → Calls Try.prog 30 #[.agg (totL (.slice (some ⟨gS, 0, none⟩) n n) (N : Int) K).toArray, .agg (totL (.slice A1 n c1) (N : Int) K).toArray] wz fun e w' => e = .returned (.bool true) ∧ Below wz.heap.size wz w') :=
  fun wz hb => law15_same _ _ (esK S) _ _ HKL.out wz ((hSV17.sl HSN.out (Nat.le_refl _) (by omega)).later hb).toE ((own_sl HSN.out hO117).later hb).toE
 have LB := Lib.hid fun wz (h : Below w17.heap.size w17 wz) => rdB_conv (c := c7) (own_rdB hO17 (by omega)) wz h
 have LW := Lib.hid fun wz (h : Below w17.heap.size w17 wz) => rdB_conv (c := c11) (own_rdB hWO17 (by omega)) wz h
 clear hS hx17 hO17 hSV17 hO117 hWO17 hb17 hX hT hSV hY hZ hO1 hWO hO7 hb00 HHZ16
 rcases hz17 with ⟨hc0, e1, e2, e3, e4, e5⟩ | ⟨e1, e2, S2, V, e3, hV, hO2, hS2, hraw⟩
 ·subst e1 e2 e3 e4 e5
  have hcf : (code == 0) = false := by simpa using hc0
  have hct : (code != 0) = true := by simpa using hc0
  have HSMZ : Hid (∀ wz, Calls Try.prog 30 #[.agg (totL (.slice none 0 0) 0 z16).toArray, .agg (totL (.slice none 0 0) 0 z16).toArray] wz fun e w' => e = .returned (.bool true) ∧ Below wz.heap.size wz w') :=
   fun wz => law15_same _ _ [] _ _ z16_length wz (SlE.of_own (World.ownsRow_nil wz 0 99 2) (fun _ h => by cases h)) (SlE.of_own (World.ownsRow_nil wz 0 99 2) (fun _ h => by cases h))
  clear hc0 hR17
  go_upto_region 14 with fail
  refine region_G (n := 49) (m := 50) (f := 49) (by kernel_rfl) (by kernel_rfl) rfl ?_
  refine WpG.vD 0 (some 91) ?_ rfl rfl (by kernel_rfl) (fun _ _ _ h => h) rfl (fun wz hwz => ?_) ?_
  rotate_left
  ·go_simp; try (with_reducible rfl)
  simp only [Zp, Zq, Zr, Zs]
  refine WpG.vD 1 (some 92) ?_ rfl rfl (by kernel_rfl) (fun _ _ _ h => h) rfl (fun wz hwz => ?_) ?_
  rotate_left
  ·(obtain ⟨hcz, hfz⟩ := bcell (hwz); have q := LB.out wz hwz; go_simp; try (with_reducible rfl))
  simp only [Zp, Zq, Zr, Zs]
  refine WpG.vD 2 (some 93) ?_ rfl rfl (by kernel_rfl) (fun _ _ _ h => h) rfl (fun wz hwz => ?_) ?_
  rotate_left
  ·go_simp; try (with_reducible rfl)
  simp only [Zp, Zq, Zr, Zs]
  refine WpG.vD 3 (some 94) ?_ rfl rfl (by kernel_rfl) (fun _ _ _ h => h) rfl (fun wz hwz => ?_) ?_
  rotate_left
  ·(obtain ⟨hcz, hfz⟩ := bcell (hwz); have q := LW.out wz hwz; go_simp; try (with_reducible rfl))
  simp only [Zp, Zq, Zr, Zs]
  refine WpG.vD 4 (some 95) ?_ rfl rfl (by kernel_rfl) (fun _ _ _ h => h) rfl (fun wz hwz => ?_) ?_
  rotate_left
  ·go_simp; try (with_reducible rfl)
  simp only [Zp, Zq, Zr, Zs]
  refine WpG.vD 5 (some 96) ?_ rfl rfl (by kernel_rfl) (fun _ _ _ h => h) rfl (fun wz hwz => ?_) ?_
  rotate_left
  ·go_simp; try (with_reducible rfl)
  simp only [Zp, Zq, Zr, Zs]
  refine WpG.vD 6 (some 97) ?_ rfl rfl (by kernel_rfl) (fun _ _ _ h => h) rfl (fun wz hwz => ?_) ?_
  rotate_left
  ·go_simp; try (with_reducible rfl)
  simp only [Zp, Zq, Zr, Zs]
  refine WpG.vD 7 (some 98) ?_ rfl rfl (by kernel_rfl) (fun _ _ _ h => h) rfl (fun wz hwz => ?_) ?_
  rotate_left
  ·go_simp; try (with_reducible rfl)
  simp only [Zp, Zq, Zr, Zs]
  refine WpG.vD 8 (some 99) ?_ rfl rfl (by kernel_rfl) (fun _ _ _ h => h) rfl (fun wz hwz => ?_) ?_
  rotate_left
  ·go_simp; try (with_reducible rfl)
  simp only [Zp, Zq, Zr, Zs]
  refine WpG.vD 9 (some 100) ?_ rfl rfl (by kernel_rfl) (fun _ _ _ h => h) rfl (fun wz hwz => ?_) ?_
  rotate_left
  ·go_simp; try (with_reducible rfl)
  simp only [Zp, Zq, Zr, Zs]
  refine WpG.vD 10 (some 101) ?_ rfl rfl (by kernel_rfl) (fun _ _ _ h => h) rfl (fun wz hwz => ?_) ?_
  rotate_left
  ·(refine Eq.trans (exec_load rfl (by kernel_rfl) ((hX17.out.call (hwz)).loadT HKL.out)) ?_; with_reducible rfl)
  simp only [Zp, Zq, Zr, Zs]
  refine WpG.vD 11 (some 102) ?_ rfl rfl (by kernel_rfl) (fun _ _ _ h => h) rfl (fun wz hwz => ?_) ?_
  rotate_left
  ·(refine Eq.trans (exec_load rfl (by kernel_rfl) ((hY17.out.call (hwz)).loadT HKL.out)) ?_; with_reducible rfl)
  simp only [Zp, Zq, Zr, Zs]
  refine WpG.takeD 12 (some 103) rfl rfl (by kernel_rfl) (fun _ _ _ h => h) (.call rfl (fun wz hwz => HSM1.out wz (hwz)) (fun wz hwz => ?_)) ?_
  ·go_simp; try (with_reducible rfl)
  simp only [Zp, Zq, Zr, Zs]
  refine WpG.vD 13 (some 104) ?_ rfl rfl (by kernel_rfl) (fun _ _ _ h => h) rfl (fun wz hwz => ?_) ?_
  rotate_left
  ·go_simp; try (with_reducible rfl)
  simp only [Zp, Zq, Zr, Zs]
  refine WpG.vD 14 (some 105) ?_ rfl rfl (by kernel_rfl) (fun _ _ _ h => h) rfl (fun wz hwz => ?_) ?_
  rotate_left
  ·go_simp; try (with_reducible rfl)
  simp only [Zp, Zq, Zr, Zs]
  refine WpG.vD 15 (some 106) ?_ rfl rfl (by kernel_rfl) (fun _ _ _ h => h) rfl (fun wz hwz => ?_) ?_
  rotate_left
  ·go_simp; try (with_reducible rfl)
  simp only [Zp, Zq, Zr, Zs]
  refine WpG.vD 16 (some 107) ?_ rfl rfl (by kernel_rfl) (fun _ _ _ h => h) rfl (fun wz hwz => ?_) ?_
  rotate_left
  ·go_simp; try (with_reducible rfl)
  simp only [Zp, Zq, Zr, Zs]
  refine WpG.vD 17 (some 108) ?_ rfl rfl (by kernel_rfl) (fun _ _ _ h => h) rfl (fun wz hwz => ?_) ?_
  rotate_left
  ·go_simp; try (with_reducible rfl)
  simp only [Zp, Zq, Zr, Zs]
  refine WpG.takeD 18 (some 109) rfl rfl (by kernel_rfl) (fun _ _ _ h => h) (.skip rfl) ?_
  simp only [Zp, Zq, Zr, Zs]
  refine WpG.takeD 19 (some 110) rfl rfl (by kernel_rfl) (fun _ _ _ h => h) (.skip rfl) ?_
  simp only [Zp, Zq, Zr, Zs]
  refine WpG.takeD 20 (some 111) rfl rfl (by kernel_rfl) (fun _ _ _ h => h) (.skip rfl) ?_
  simp only [Zp, Zq, Zr, Zs]
  refine WpG.takeD 21 (some 112) rfl rfl (by kernel_rfl) (fun _ _ _ h => h) (.skip rfl) ?_
  simp only [Zp, Zq, Zr, Zs]
  refine WpG.takeD 22 (some 113) rfl rfl (by kernel_rfl) (fun _ _ _ h => h) (.skip rfl) ?_
  simp only [Zp, Zq, Zr, Zs]
  refine WpG.takeD 23 (some 114) rfl rfl (by kernel_rfl) (fun _ _ _ h => h) (.skip rfl) ?_
  simp only [Zp, Zq, Zr, Zs]
  refine WpG.takeD 24 (some 115) rfl rfl (by kernel_rfl) (fun _ _ _ h => h) (.skip rfl) ?_
  simp only [Zp, Zq, Zr, Zs]
  refine WpG.vD 25 (some 116) ?_ rfl rfl (by kernel_rfl) (fun _ _ _ h => h) rfl (fun wz hwz => ?_) ?_
  rotate_left
  ·go_simp; try (with_reducible rfl)
  simp only [Zp, Zq, Zr, Zs]
  refine WpG.vD 26 (some 117) ?_ rfl rfl (by kernel_rfl) (fun _ _ _ h => h) rfl (fun wz hwz => ?_) ?_
  rotate_left
  ·go_simp; try (with_reducible rfl)
  simp only [Zp, Zq, Zr, Zs]
  refine WpG.takeD 27 (some 118) rfl rfl (by kernel_rfl) (fun _ _ _ h => h) (.skip rfl) ?_
  simp only [Zp, Zq, Zr, Zs]
  refine WpG.takeD 28 (some 119) rfl rfl (by kernel_rfl) (fun _ _ _ h => h) (.skip rfl) ?_
  simp only [Zp, Zq, Zr, Zs]
  refine WpG.takeD 29 (some 120) rfl rfl (by kernel_rfl) (fun _ _ _ h => h) (.skip rfl) ?_
  simp only [Zp, Zq, Zr, Zs]
  refine WpG.vD 30 (some 121) ?_ rfl rfl (by kernel_rfl) (fun _ _ _ h => h) rfl (fun wz hwz => ?_) ?_
  rotate_left
  ·go_simp; try (with_reducible rfl)
  simp only [Zp, Zq, Zr, Zs]
  refine WpG.vD 31 (some 122) ?_ rfl rfl (by kernel_rfl) (fun _ _ _ h => h) rfl (fun wz hwz => ?_) ?_
  rotate_left
  ·go_simp; try (with_reducible rfl)
  simp only [Zp, Zq, Zr, Zs]
  refine WpG.vD 32 (some 123) ?_ rfl rfl (by kernel_rfl) (fun _ _ _ h => h) rfl (fun wz hwz => ?_) ?_
  rotate_left
  ·go_simp; try (with_reducible rfl)
  simp only [Zp, Zq, Zr, Zs]
  refine WpG.vD 33 (some 124) ?_ rfl rfl (by kernel_rfl) (fun _ _ _ h => h) rfl (fun wz hwz => ?_) ?_
  rotate_left
  ·go_simp; try (with_reducible rfl)
  simp only [Zp, Zq, Zr, Zs]
  refine WpG.vD 34 (some 125) ?_ rfl rfl (by kernel_rfl) (fun _ _ _ h => h) rfl (fun wz hwz => ?_) ?_
  rotate_left
  ·go_simp; try (with_reducible rfl)
  simp only [Zp, Zq, Zr, Zs]
  refine WpG.vD 35 (some 126) ?_ rfl rfl (by kernel_rfl) (fun _ _ _ h => h) rfl (fun wz hwz => ?_) ?_
  rotate_left
  ·(refine Eq.trans (exec_load rfl (by kernel_rfl) ((hZ17.out.call (hwz)).loadT z16_length)) ?_; with_reducible rfl)
  simp only [Zp, Zq, Zr, Zs]
  refine WpG.vD 36 (some 127) ?_ rfl rfl (by kernel_rfl) (fun _ _ _ h => h) rfl (fun wz hwz => ?_) ?_
  rotate_left
  ·(refine Eq.trans (exec_build rfl (by kernel_rfl) (build_total0 _)) ?_; with_reducible rfl)
  simp only [Zp, Zq, Zr, Zs]
  refine WpG.takeD 37 (some 128) rfl rfl (by kernel_rfl) (fun _ _ _ h => h) (.call rfl (fun wz hwz => HSMZ.out wz) (fun wz hwz => ?_)) ?_
  ·go_simp; try (with_reducible rfl)
  simp only [Zp, Zq, Zr, Zs]
  refine WpG.vD 38 (some 129) ?_ rfl rfl (by kernel_rfl) (fun _ _ _ h => h) rfl (fun wz hwz => ?_) ?_
  rotate_left
  ·go_simp; try (with_reducible rfl)
  simp only [Zp, Zq, Zr, Zs]
  refine WpG.vD 39 (some 130) ?_ rfl rfl (by kernel_rfl) (fun _ _ _ h => h) rfl (fun wz hwz => ?_) ?_
  rotate_left
  ·go_simp; try (with_reducible rfl)
  simp only [Zp, Zq, Zr, Zs]
  refine WpG.vD 40 (some 131) ?_ rfl rfl (by kernel_rfl) (fun _ _ _ h => h) rfl (fun wz hwz => ?_) ?_
  rotate_left
  ·go_simp; try (with_reducible rfl)
  simp only [Zp, Zq, Zr, Zs]
  refine WpG.vD 41 (some 132) ?_ rfl rfl (by kernel_rfl) (fun _ _ _ h => h) rfl (fun wz hwz => ?_) ?_
  rotate_left
  ·go_simp; try (with_reducible rfl)
  simp only [Zp, Zq, Zr, Zs]
  refine WpG.vD 42 (some 133) ?_ rfl rfl (by kernel_rfl) (fun _ _ _ h => h) rfl (fun wz hwz => ?_) ?_
  rotate_left
  ·go_simp; try (with_reducible rfl)
  simp only [Zp, Zq, Zr, Zs]
  refine WpG.vD 43 (some 134) ?_ rfl rfl (by kernel_rfl) (fun _ _ _ h => h) rfl (fun wz hwz => ?_) ?_
  rotate_left
  ·go_simp; try (with_reducible rfl)
  simp only [Zp, Zq, Zr, Zs]
  refine WpG.vD 44 (some 135) ?_ rfl rfl (by kernel_rfl) (fun _ _ _ h => h) rfl (fun wz hwz => ?_) ?_
  rotate_left
  ·go_simp; try (with_reducible rfl)
  simp only [Zp, Zq, Zr, Zs]
  refine WpG.vD 45 (some 136) ?_ rfl rfl (by kernel_rfl) (fun _ _ _ h => h) rfl (fun wz hwz => ?_) ?_
  rotate_left
  ·go_simp; try (with_reducible rfl)
  simp only [Zp, Zq, Zr, Zs]
  refine WpG.vD 46 (some 137) ?_ rfl rfl (by kernel_rfl) (fun _ _ _ h => h) rfl (fun wz hwz => ?_) ?_
  rotate_left
  ·go_simp; try (with_reducible rfl)
  simp only [Zp, Zq, Zr, Zs]
  refine WpG.vD 47 (some 138) ?_ rfl rfl (by kernel_rfl) (fun _ _ _ h => h) rfl (fun wz hwz => ?_) ?_
  rotate_left
  ·go_simp; try (with_reducible rfl)
  simp only [Zp, Zq, Zr, Zs]
  refine WpG.vD 48 (some 139) ?_ rfl rfl (by kernel_rfl) (fun _ _ _ h => h) rfl (fun wz hwz => ?_) ?_
  rotate_left
  ·go_simp; try (with_reducible rfl)
  simp only [Zp, Zq, Zr, Zs]
  refine WpG.done (by kernel_rfl) (fun w18 hb18 => ?_)
  (try simp only [List.drop_succ_cons]); (try simp only [List.drop_zero]); (try simp only [Nat.reduceSub]); (try simp only [List.take_succ_cons]); (try simp only [List.take_zero])
  have HE := Lib.hid (bl_call HB17.out (Nat.le_refl _) hb18)
  clear hb18
  go_upto_region 99 with fail
  go_ret
  exact ⟨rfl, HE.out⟩
 ·subst e1 e2 e3
  have hV256 : (V : Int) ≤ 256 := by omega
  have HPZ : Hid (∀ wz, Below w17.heap.size w17 wz → Calls Try.prog 39 #[.agg (totL (.slice A2 q2 c2) (V : Int) k2).toArray, .agg #[.int .u8 yk, .int .u8 (F : Int), .int .i64 yb, .int .i64 yl, .int .i64 ym, .int .i64 yc, .int .i64 pq, .string s]] wz fun e w' => ∃ p : Option Addr × Nat, e = .returned (.slice p.1 rn p.2) ∧ RdB w' p.1 rn raw ∧ Below wz.heap.size wz w') := Lib.hid fun wz hb => by
   refine (HPU2.out _ S2 V k2 wz ((own_sl hS2 hO2).later hb) hS2 hV HK2.out).mono fun e w' h => ?_
   rw [hraw] at h
   obtain ⟨A, c, h1, h2, h3⟩ := h.n HRN.out
   exact ⟨(A, c), h1, own_rdB h2 (by omega), h3⟩
  have LR : Hid (∀ wz, Below w17.heap.size w17 wz → (convert 28 9 (.slice rA rn rc)).run Try.prog wz = .ok (.string (strOfNums raw)) wz) := Lib.hid fun wz hb => rdB_conv (c := rc) (w := w17) ⟨HRN.out, by omega, fun hp => hR17.2 (by rw [HRN.out]; exact hp)⟩ wz hb
  clear hR17 hO2 hS2 hraw hV
  go_upto_region 14 with fail
  refine region_G (n := 49) (m := 50) (f := 49) (by kernel_rfl) (by kernel_rfl) rfl ?_
  refine WpG.vD 0 (some 91) ?_ rfl rfl (by kernel_rfl) (fun _ _ _ h => h) rfl (fun wz hwz => ?_) ?_
  rotate_left
  ·go_simp; try (with_reducible rfl)
  simp only [Zp, Zq, Zr, Zs]
  refine WpG.vD 1 (some 92) ?_ rfl rfl (by kernel_rfl) (fun _ _ _ h => h) rfl (fun wz hwz => ?_) ?_
  rotate_left
  ·(obtain ⟨hcz, hfz⟩ := bcell (hwz); have q := LB.out wz hwz; go_simp; try (with_reducible rfl))
  simp only [Zp, Zq, Zr, Zs]
  refine WpG.vD 2 (some 93) ?_ rfl rfl (by kernel_rfl) (fun _ _ _ h => h) rfl (fun wz hwz => ?_) ?_
  rotate_left
  ·go_simp; try (with_reducible rfl)
  simp only [Zp, Zq, Zr, Zs]
  refine WpG.vD 3 (some 94) ?_ rfl rfl (by kernel_rfl) (fun _ _ _ h => h) rfl (fun wz hwz => ?_) ?_
  rotate_left
  ·(obtain ⟨hcz, hfz⟩ := bcell (hwz); have q := LW.out wz hwz; go_simp; try (with_reducible rfl))
  simp only [Zp, Zq, Zr, Zs]
  refine WpG.vD 4 (some 95) ?_ rfl rfl (by kernel_rfl) (fun _ _ _ h => h) rfl (fun wz hwz => ?_) ?_
  rotate_left
  ·go_simp; try (with_reducible rfl)
  simp only [Zp, Zq, Zr, Zs]
  refine WpG.vD 5 (some 96) ?_ rfl rfl (by kernel_rfl) (fun _ _ _ h => h) rfl (fun wz hwz => ?_) ?_
  rotate_left
  ·go_simp; try (with_reducible rfl)
  simp only [Zp, Zq, Zr, Zs]
  refine WpG.vD 6 (some 97) ?_ rfl rfl (by kernel_rfl) (fun _ _ _ h => h) rfl (fun wz hwz => ?_) ?_
  rotate_left
  ·go_simp; try (with_reducible rfl)
  simp only [Zp, Zq, Zr, Zs]
  refine WpG.vD 7 (some 98) ?_ rfl rfl (by kernel_rfl) (fun _ _ _ h => h) rfl (fun wz hwz => ?_) ?_
  rotate_left
  ·go_simp; try (with_reducible rfl)
  simp only [Zp, Zq, Zr, Zs]
  refine WpG.vD 8 (some 99) ?_ rfl rfl (by kernel_rfl) (fun _ _ _ h => h) rfl (fun wz hwz => ?_) ?_
  rotate_left
  ·go_simp; try (with_reducible rfl)
  simp only [Zp, Zq, Zr, Zs]
  refine WpG.vD 9 (some 100) ?_ rfl rfl (by kernel_rfl) (fun _ _ _ h => h) rfl (fun wz hwz => ?_) ?_
  rotate_left
  ·go_simp; try (with_reducible rfl)
  simp only [Zp, Zq, Zr, Zs]
  refine WpG.vD 10 (some 101) ?_ rfl rfl (by kernel_rfl) (fun _ _ _ h => h) rfl (fun wz hwz => ?_) ?_
  rotate_left
  ·(refine Eq.trans (exec_load rfl (by kernel_rfl) ((hX17.out.call (hwz)).loadT HKL.out)) ?_; with_reducible rfl)
  simp only [Zp, Zq, Zr, Zs]
  refine WpG.vD 11 (some 102) ?_ rfl rfl (by kernel_rfl) (fun _ _ _ h => h) rfl (fun wz hwz => ?_) ?_
  rotate_left
  ·(refine Eq.trans (exec_load rfl (by kernel_rfl) ((hY17.out.call (hwz)).loadT HKL.out)) ?_; with_reducible rfl)
  simp only [Zp, Zq, Zr, Zs]
  refine WpG.takeD 12 (some 103) rfl rfl (by kernel_rfl) (fun _ _ _ h => h) (.call rfl (fun wz hwz => HSM1.out wz (hwz)) (fun wz hwz => ?_)) ?_
  ·go_simp; try (with_reducible rfl)
  simp only [Zp, Zq, Zr, Zs]
  refine WpG.vD 13 (some 104) ?_ rfl rfl (by kernel_rfl) (fun _ _ _ h => h) rfl (fun wz hwz => ?_) ?_
  rotate_left
  ·go_simp; try (with_reducible rfl)
  simp only [Zp, Zq, Zr, Zs]
  refine WpG.vD 14 (some 105) ?_ rfl rfl (by kernel_rfl) (fun _ _ _ h => h) rfl (fun wz hwz => ?_) ?_
  rotate_left
  ·go_simp; try (with_reducible rfl)
  simp only [Zp, Zq, Zr, Zs]
  refine WpG.vD 15 (some 106) ?_ rfl rfl (by kernel_rfl) (fun _ _ _ h => h) rfl (fun wz hwz => ?_) ?_
  rotate_left
  ·go_simp; try (with_reducible rfl)
  simp only [Zp, Zq, Zr, Zs]
  refine WpG.vD 16 (some 107) ?_ rfl rfl (by kernel_rfl) (fun _ _ _ h => h) rfl (fun wz hwz => ?_) ?_
  rotate_left
  ·go_simp; try (with_reducible rfl)
  simp only [Zp, Zq, Zr, Zs]
  refine WpG.vD 17 (some 108) ?_ rfl rfl (by kernel_rfl) (fun _ _ _ h => h) rfl (fun wz hwz => ?_) ?_
  rotate_left
  ·go_simp; try (with_reducible rfl)
  simp only [Zp, Zq, Zr, Zs]
  refine WpG.vD 18 (some 109) ?_ rfl rfl (by kernel_rfl) (fun _ _ _ h => h) rfl (fun wz hwz => ?_) ?_
  rotate_left
  ·(refine Eq.trans (exec_load rfl (by kernel_rfl) ((hZ17.out.call (hwz)).loadT HK2.out)) ?_; with_reducible rfl)
  simp only [Zp, Zq, Zr, Zs]
  refine WpG.vD 19 (some 110) ?_ rfl rfl (by kernel_rfl) (fun _ _ _ h => h) rfl (fun wz hwz => ?_) ?_
  rotate_left
  ·(obtain ⟨hcz, hfz⟩ := bcell (hwz); have hz := (hT17.out.call (hwz)).get8; obtain ⟨⟨z0, z1, z2, z3, z4, z5, z6, z7⟩, ⟨z8, z9, z10, z11, z12, z13, z14, z15⟩, z16⟩ := hz; go_simp; try (with_reducible rfl))
  simp only [Zp, Zq, Zr, Zs]
  refine WpG.vD 22 (some 113) ?_ rfl rfl (by kernel_rfl) (fun _ _ _ h => h) rfl (fun wz hwz => ?_) ?_
  rotate_left
  ·go_simp; try (with_reducible rfl)
  simp only [Zp, Zq, Zr, Zs]
  refine WpG.vD 23 (some 114) ?_ rfl rfl (by kernel_rfl) (fun _ _ _ h => h) rfl (fun wz hwz => ?_) ?_
  rotate_left
  ·(obtain ⟨hcz, hfz⟩ := bcell (hwz); have q := LR.out wz (hwz); go_simp; try (with_reducible rfl))
  simp only [Zp, Zq, Zr, Zs]
  refine WpG.oneD 20 (some 111) rfl rfl (by kernel_rfl) (fun q : Option Addr × Nat => Value.slice q.1 rn q.2) (fun q wz => RdB wz q.1 rn raw) (fun _ _ _ h hb => h.call hb) (Fresh.call rfl (fun wz hwz => HPZ.out wz (hwz)) (fun wz hwz => by go_simp; try (with_reducible rfl))) (fun q9 w9q hw9q hR9q => ?_)
  simp only [Zp, Zq, Zr, Zs]
  refine WpG.vD 21 (some 112) ?_ rfl rfl (by kernel_rfl) (fun _ _ _ h => h) rfl (fun wz hwz => ?_) ?_
  rotate_left
  ·(obtain ⟨hcz, hfz⟩ := bcell (hwz.1); have q := rdB_conv (c := q9.2) (hwz.2) wz (Below.refl _ _); go_simp; try (with_reducible rfl))
  simp only [Zp, Zq, Zr, Zs]
  refine WpG.vD 24 (some 115) ?_ rfl rfl (by kernel_rfl) (fun _ _ _ h => h) rfl (fun wz hwz => ?_) ?_
  rotate_left
  ·go_simp; try (with_reducible rfl)
  simp only [Zp, Zq, Zr, Zs]
  refine WpG.vD 25 (some 116) ?_ rfl rfl (by kernel_rfl) (fun _ _ _ h => h) rfl (fun wz hwz => ?_) ?_
  rotate_left
  ·go_simp; try (with_reducible rfl)
  simp only [Zp, Zq, Zr, Zs]
  refine WpG.vD 26 (some 117) ?_ rfl rfl (by kernel_rfl) (fun _ _ _ h => h) rfl (fun wz hwz => ?_) ?_
  rotate_left
  ·go_simp; try (with_reducible rfl)
  simp only [Zp, Zq, Zr, Zs]
  refine WpG.vD 27 (some 118) ?_ rfl rfl (by kernel_rfl) (fun _ _ _ h => h) rfl (fun wz hwz => ?_) ?_
  rotate_left
  ·go_simp; try (with_reducible rfl)
  simp only [Zp, Zq, Zr, Zs]
  refine WpG.vD 28 (some 119) ?_ rfl rfl (by kernel_rfl) (fun _ _ _ h => h) rfl (fun wz hwz => ?_) ?_
  rotate_left
  ·(obtain ⟨hcz, hfz⟩ := bcell (hwz.1); have q := (hZ17.out.call (hwz.1)).cell 1 _ rfl; have q2 := (hZ17.out.call (hwz.1)).lt; go_simp; try (with_reducible rfl))
  simp only [Zp, Zq, Zr, Zs]
  refine WpG.vD 29 (some 120) ?_ rfl rfl (by kernel_rfl) (fun _ _ _ h => h) rfl (fun wz hwz => ?_) ?_
  rotate_left
  ·go_simp; try (with_reducible rfl)
  simp only [Zp, Zq, Zr, Zs]
  refine WpG.vD 30 (some 121) ?_ rfl rfl (by kernel_rfl) (fun _ _ _ h => h) rfl (fun wz hwz => ?_) ?_
  rotate_left
  ·go_simp; try (with_reducible rfl)
  simp only [Zp, Zq, Zr, Zs]
  refine WpG.vD 31 (some 122) ?_ rfl rfl (by kernel_rfl) (fun _ _ _ h => h) rfl (fun wz hwz => ?_) ?_
  rotate_left
  ·go_simp; try (with_reducible rfl)
  simp only [Zp, Zq, Zr, Zs]
  refine WpG.takeD 32 (some 123) rfl rfl (by kernel_rfl) (fun _ _ _ h => h) (.skip rfl) ?_
  simp only [Zp, Zq, Zr, Zs]
  refine WpG.takeD 33 (some 124) rfl rfl (by kernel_rfl) (fun _ _ _ h => h) (.skip rfl) ?_
  simp only [Zp, Zq, Zr, Zs]
  refine WpG.takeD 34 (some 125) rfl rfl (by kernel_rfl) (fun _ _ _ h => h) (.skip rfl) ?_
  simp only [Zp, Zq, Zr, Zs]
  refine WpG.takeD 35 (some 126) rfl rfl (by kernel_rfl) (fun _ _ _ h => h) (.skip rfl) ?_
  simp only [Zp, Zq, Zr, Zs]
  refine WpG.takeD 36 (some 127) rfl rfl (by kernel_rfl) (fun _ _ _ h => h) (.skip rfl) ?_
  simp only [Zp, Zq, Zr, Zs]
  refine WpG.takeD 37 (some 128) rfl rfl (by kernel_rfl) (fun _ _ _ h => h) (.skip rfl) ?_
  simp only [Zp, Zq, Zr, Zs]
  refine WpG.takeD 38 (some 129) rfl rfl (by kernel_rfl) (fun _ _ _ h => h) (.skip rfl) ?_
  simp only [Zp, Zq, Zr, Zs]
  refine WpG.vD 39 (some 130) ?_ rfl rfl (by kernel_rfl) (fun _ _ _ h => h) rfl (fun wz hwz => ?_) ?_
  rotate_left
  ·go_simp; try (with_reducible rfl)
  simp only [Zp, Zq, Zr, Zs]
  refine WpG.vD 40 (some 131) ?_ rfl rfl (by kernel_rfl) (fun _ _ _ h => h) rfl (fun wz hwz => ?_) ?_
  rotate_left
  ·go_simp; try (with_reducible rfl)
  simp only [Zp, Zq, Zr, Zs]
  refine WpG.vD 41 (some 132) ?_ rfl rfl (by kernel_rfl) (fun _ _ _ h => h) rfl (fun wz hwz => ?_) ?_
  rotate_left
  ·go_simp; try (with_reducible rfl)
  simp only [Zp, Zq, Zr, Zs]
  refine WpG.vD 42 (some 133) ?_ rfl rfl (by kernel_rfl) (fun _ _ _ h => h) rfl (fun wz hwz => ?_) ?_
  rotate_left
  ·go_simp; try (with_reducible rfl)
  simp only [Zp, Zq, Zr, Zs]
  refine WpG.vD 43 (some 134) ?_ rfl rfl (by kernel_rfl) (fun _ _ _ h => h) rfl (fun wz hwz => ?_) ?_
  rotate_left
  ·go_simp; try (with_reducible rfl)
  simp only [Zp, Zq, Zr, Zs]
  refine WpG.vD 44 (some 135) ?_ rfl rfl (by kernel_rfl) (fun _ _ _ h => h) rfl (fun wz hwz => ?_) ?_
  rotate_left
  ·go_simp; try (with_reducible rfl)
  simp only [Zp, Zq, Zr, Zs]
  refine WpG.vD 45 (some 136) ?_ rfl rfl (by kernel_rfl) (fun _ _ _ h => h) rfl (fun wz hwz => ?_) ?_
  rotate_left
  ·go_simp; try (with_reducible rfl)
  simp only [Zp, Zq, Zr, Zs]
  refine WpG.vD 46 (some 137) ?_ rfl rfl (by kernel_rfl) (fun _ _ _ h => h) rfl (fun wz hwz => ?_) ?_
  rotate_left
  ·go_simp; try (with_reducible rfl)
  simp only [Zp, Zq, Zr, Zs]
  refine WpG.vD 47 (some 138) ?_ rfl rfl (by kernel_rfl) (fun _ _ _ h => h) rfl (fun wz hwz => ?_) ?_
  rotate_left
  ·go_simp; try (with_reducible rfl)
  simp only [Zp, Zq, Zr, Zs]
  refine WpG.vD 48 (some 139) ?_ rfl rfl (by kernel_rfl) (fun _ _ _ h => h) rfl (fun wz hwz => ?_) ?_
  rotate_left
  ·go_simp; try (with_reducible rfl)
  simp only [Zp, Zq, Zr, Zs]
  refine WpG.done (by kernel_rfl) (fun w18 hb18 => ?_)
  (try simp only [List.drop_succ_cons]); (try simp only [List.drop_zero]); (try simp only [Nat.reduceSub]); (try simp only [List.take_succ_cons]); (try simp only [List.take_zero])
  have HE := Lib.hid (bl_call HB17.out (Nat.le_refl _) hb18.1)
  clear hb18
  go_upto_region 99 with fail
  go_ret
  exact ⟨rfl, HE.out⟩

end Go.Proofs.Ytbakkmfjamcbfaa

namespace Go.Proofs.Ytbakkmfjamcbfaa
open Go.RowKit Fm
set_option linter.unusedVariables false
set_option maxRecDepth 100000

theorem wf_u16 {n : Int} (h : (Lit.int .u16 n).wf = true) : 0 ≤ n ∧ n ≤ 65535 := by
 simpa [Lit.wf, IntKind.min, IntKind.max, IntKind.signed, IntKind.bits] using h

theorem walk_TotalBytesJ (k f b l m c p t cut : Int) (vl vr : Value) (ids : List (List Int)) (us : List Value) (ess : List (List E)) (N : Nat) (raw : List Int) (w : World) (hk : 0 ≤ k ∧ k ≤ 255) (hf : 0 ≤ f ∧ f ≤ 255) (hb : 0 ≤ b ∧ b ≤ 255) (hl : 0 ≤ l ∧ l ≤ 255) (hm : 0 ≤ m ∧ m ≤ 255) (hc : 0 ≤ c ∧ c ≤ 255) (hp : 0 ≤ p ∧ p ≤ 255) (ht : 0 ≤ t ∧ t ≤ 255) (hcut : 0 ≤ cut ∧ cut ≤ 65535)
  (hil : ids.length = N) (hul : us.length = N) (hesN : ess.length = N) (hid : ∀ x, x ∈ ids → x.length = 16 ∧ B8 x) (hus : ∀ (i : Nat) (u : Value) (es : List E), us[i]? = some u → ess[i]? = some es → SlE w w.heap.size u es) (hsl : SlR w w.heap.size vl 17 (List.zipWith repL ids us)) (hr : Sl8 w w.heap.size vr raw) :
  Calls Try.prog 8 #[.agg #[.int .u8 k, .int .u8 f, .int .u8 b, .int .u8 l, .int .u8 m, .int .u8 c, .int .u8 p, .int .u8 t], vl, vr, .int .u16 cut] w fun e w' => e = .returned (.bool true) ∧ Below w.heap.size w w' := by
 have hzl : (List.zipWith repL ids us).length = N := by rw [List.length_zipWith, hil, hul, Nat.min_self]
 have hsl9 := hsl
 obtain ⟨A0, ca, hA0, _, _, _⟩ := hsl
 rw [hzl] at hA0
 subst hA0
 obtain ⟨⟨rA, rc, rfl, h1, h2, h3⟩, h4⟩ := hr
 by_cases h : 10 < N ∨ 300 < raw.length
 ·exact walk_TotalBytes0 k f b l m c p t cut A0 rA N ca raw.length rc w h
 ·exact walk_TotalBytes k f b l m c p t cut A0 ids us ess N ca rA raw raw.length rc w hk hf hb hl hm hc hp ht hcut (by omega) rfl (by omega) ⟨⟨h1, h2⟩, fun hn => h3 hn⟩ (fun x hx => h4 x hx) hil hul hesN hid hus hsl9

end Go.Proofs.Ytbakkmfjamcbfaa
