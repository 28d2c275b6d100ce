/-
  A FRAME that leaves out some blocks: what is turned by a call that writes captured variables; a gadget's call, by contract.
-/
/-
  A LAW: 'append(s, make([]api.Elem, k)...)' onto a row of the call's own: noughts behind it, in place where there is room.
-/
/-
  WALK: poly.Mul.
-/
import Derived.Test.YtfhmineolncefaaDoorMar
import Derived.Test.YtfhmineolncefaaDoorMag
import Derived.Test.YtfhmineolncefaaDoorMan
import Derived.Test.YtfhmineolncefaaDoorMaf
import Derived.Lib.AppendZerosOnto
import Derived.Test.YtfhmineolncefaaDoorMaq
import Derived.Test.YtfhmineolncefaaDoorMaj
namespace Go.Proofs.YtfhmineolncefaaDoor
open Go.RowKit Fm
set_option linter.unusedVariables false
set_option maxRecDepth 100000

/-- nothing below block B turns, but for the blocks of S -/
structure Exc (S : Nat → Prop) (B : Nat) (w w' : World) : Prop where
  os : w'.os = w.os
  tape : w'.tape = w.tape
  output : w'.output = w.output
  size : w.heap.size ≤ w'.heap.size
  block : ∀ k, k < B → ¬ S k → w'.heap[k]? = w.heap[k]?

section
variable {S : Nat → Prop} {B : Nat} {a w w' w'' : World}
theorem exc_of (h : Below B w w') : Exc S B w w' := ⟨h.os, h.tape, h.output, h.size, fun k hk _ => h.block k hk⟩
theorem Exc.trans (h : Exc S B w w') (k : Exc S B w' w'') : Exc S B w w'' :=
  ⟨k.os.trans h.os, k.tape.trans h.tape, k.output.trans h.output, Nat.le_trans h.size k.size, fun i hi hn => (k.block i hi hn).trans (h.block i hi hn)⟩
theorem Exc.mono {B' : Nat} (h : Exc S B w w') (hB : B' ≤ B) : Exc S B' w w' := ⟨h.os, h.tape, h.output, h.size, fun k hk => h.block k (by omega)⟩
theorem Exc.less {T : Nat → Prop} (h : Exc S B w w') (hT : ∀ k, k < B → S k → T k) : Exc T B w w' := ⟨h.os, h.tape, h.output, h.size, fun k hk hn => h.block k hk fun hs => hn (hT k hk hs)⟩
theorem Exc.below (h : Exc S B w w') (hn : ∀ k, k < B → ¬ S k) : Below B w w' := ⟨h.os, h.tape, h.output, h.size, fun k hk => h.block k hk (hn k hk)⟩
theorem Exc.cell (h : Exc S B w w') {p : Addr} (hp : p.block < B) (hn : ¬ S p.block) : w'.cell? p = w.cell? p := World.cell?_of_block (h.block _ hp hn)
theorem Exc.frozen (h : Exc S B w w') {p : Addr} (hp : p.block < B) (hn : ¬ S p.block) : w'.frozen? p = w.frozen? p := World.frozen?_of_block (h.block _ hp hn)

theorem Exc.call (h : Exc S a.heap.size a w) (k : Below w.heap.size w w') : Exc S a.heap.size a w' := h.trans ((exc_of k).mono h.size)
theorem Exc.more {T : Nat → Prop} (h : Exc S a.heap.size a w) (k : Exc T w.heap.size w w') (hT : ∀ q, T q → S q ∨ a.heap.size ≤ q) : Exc S a.heap.size a w' :=
  h.trans ((k.mono h.size).less fun q hq ht => (hT q ht).resolve_right (by omega))
theorem Exc.st {b : Nat} (h : Exc S B a w) (hp : B ≤ b) (x y : Value) : Exc S B a ((w.setCell ⟨b, 0, none⟩ x).setCell ⟨b, 1, none⟩ y) := h.trans (exc_of (bl_st (Below.refl B w) hp x y))

theorem Exc.one {S' : Nat → Prop} (w : World) {b : Nat} (hb : S' b) (x y : Value) : Exc S' w.heap.size w ((w.setCell ⟨b, 0, none⟩ x).setCell ⟨b, 1, none⟩ y) :=
  ⟨rfl, rfl, rfl, by simp [World.setCell], fun k hk hn => by
    have hne : k ≠ b := fun e => hn (e ▸ hb)
    rw [Below.heap_setCell _ _ y k hne, Below.heap_setCell _ _ x k hne]⟩

theorem Exc.two (w : World) (b b' : Nat) (x y x' y' : Value) : Exc (fun q => q = b ∨ q = b') w.heap.size w ((((w.setCell ⟨b, 0, none⟩ x).setCell ⟨b, 1, none⟩ y).setCell ⟨b', 0, none⟩ x').setCell ⟨b', 1, none⟩ y') :=
  ⟨rfl, rfl, rfl, by simp [World.setCell], fun k hk hn => by
    have h1 : k ≠ b := fun e => hn (.inl e)
    have h2 : k ≠ b' := fun e => hn (.inr e)
    rw [Below.heap_setCell _ _ y' k h2, Below.heap_setCell _ _ x' k h2, Below.heap_setCell _ _ y k h1, Below.heap_setCell _ _ x k h1]⟩
/-- nothing that was there turns, but for block g -/
def Onl (g : Nat) (w w' : World) : Prop := Exc (fun q => q = g) w.heap.size w w'
theorem Onl.clo (g : Nat) (w : World) : Clo (Onl g w) := fun _ _ h hb => Exc.trans h ((exc_of hb).mono h.size)
theorem Onl.drew (g : Nat) (w : World) : Onl g w w.drew := exc_of ((Below.refl _ _).drew)
theorem Onl.more {g : Nat} (h : Onl g a w) (k : Exc (fun q => q = g) w.heap.size w w') : Onl g a w' := Exc.trans h (k.mono h.size)

/-- WHAT A FUNC VALUE HOLDS BY WHAT IT CAPTURED: I holds, and hangs on the blocks of D alone -/
structure St (I : (Nat → Prop) → World → Prop) (D : Nat → Prop) (w : World) : Prop where
  here : I D w
  lt : ∀ q, D q → q < w.heap.size
  keep : ∀ w w', I D w → (∀ q, D q → w'.heap[q]? = w.heap[q]?) → I D w'
theorem St.of {I : (Nat → Prop) → World → Prop} {D : Nat → Prop} (h : St I D w) (hs : w.heap.size ≤ w'.heap.size) (hb : ∀ q, D q → w'.heap[q]? = w.heap[q]?) : St I D w' :=
  ⟨h.keep _ _ h.here hb, fun q hq => Nat.lt_of_lt_of_le (h.lt q hq) hs, h.keep⟩
theorem St.call {I : (Nat → Prop) → World → Prop} {D : Nat → Prop} (h : St I D w) (hb : Below w.heap.size w w') : St I D w' := h.of hb.size fun q hq => hb.block q (h.lt q hq)
theorem St.exc {I : (Nat → Prop) → World → Prop} {D : Nat → Prop} (h : St I D w) (hn : ∀ q, D q → ¬ S q) (hb : Exc S w.heap.size w w') : St I D w' := h.of hb.size fun q hq => hb.block q (h.lt q hq) (hn q hq)
theorem St.st {I : (Nat → Prop) → World → Prop} {D : Nat → Prop} (h : St I D w) {b : Nat} (hn : ¬ D b) (x y : Value) : St I D ((w.setCell ⟨b, 0, none⟩ x).setCell ⟨b, 1, none⟩ y) :=
  h.of (by simp [World.setCell]) fun q hq => by
    have hne : q ≠ b := fun e => hn (e ▸ hq)
    rw [Below.heap_setCell _ _ y q hne, Below.heap_setCell _ _ x q hne]

theorem cell_exc {p : Addr} {v : Value} (h : w.cell? p = some v) (hn : ¬ S p.block) (hb : Exc S w.heap.size w w') : w'.cell? p = some v := (hb.cell (lt_of_cell h) hn).trans h
theorem V2.exc {b : Nat} {u v : Value} (h : V2 w b u v) (hn : ¬ S b) (hb : Exc S w.heap.size w w') : V2 w' b u v :=
  ⟨cell_exc h.c0 hn hb, cell_exc h.c1 hn hb, (hb.frozen (p := ⟨b, 0, none⟩) h.lt hn).trans h.f0, (hb.frozen (p := ⟨b, 1, none⟩) h.lt hn).trans h.f1, Nat.lt_of_lt_of_le h.lt hb.size⟩
theorem Vs.exc {b : Nat} {cs : List Value} (h : Vs w b cs) (hn : ¬ S b) (hb : Exc S w.heap.size w w') : Vs w' b cs :=
  ⟨fun i v hi => cell_exc (h.cell i v hi) hn hb, fun i hi => (hb.frozen (p := ⟨b, i, none⟩) h.lt hn).trans (h.frz i hi), Nat.lt_of_lt_of_le h.lt hb.size⟩
theorem V2.ask {T : Nat → Prop} {b : Nat} {u v : Value} (h : V2 w b u v) (hn : ¬ S b) (hb : Exc S w.heap.size w w') (hT : ∀ q, T q → S q ∨ w.heap.size ≤ q) : V2 w' b u v ∧ ¬ T b :=
  ⟨h.exc hn hb, fun ht => (hT b ht).elim hn fun h2 => by have := h.lt; omega⟩
theorem Vs.ask {T : Nat → Prop} {b : Nat} {cs : List Value} (h : Vs w b cs) (hn : ¬ S b) (hb : Exc S w.heap.size w w') (hT : ∀ q, T q → S q ∨ w.heap.size ≤ q) : Vs w' b cs ∧ ¬ T b :=
  ⟨h.exc hn hb, fun ht => (hT b ht).elim hn fun h2 => by have := h.lt; omega⟩
theorem BlkE.exc {b : Nat} {xs : List E} (h : BlkE w b xs) (hn : ¬ S b) (hb : Exc S w.heap.size w w') : BlkE w' b xs := (hb.block b h.lt hn).trans h
theorem V2.onl {g b : Nat} {u v : Value} (h : V2 w b u v) (hn : b ≠ g) (hb : Onl g w w') : V2 w' b u v := h.exc hn hb
theorem Vs.onl {g b : Nat} {cs : List Value} (h : Vs w b cs) (hn : b ≠ g) (hb : Onl g w w') : Vs w' b cs := h.exc hn hb
theorem RowE.exc {b o : Nat} {xs : List E} (h : RowE w b o xs) (hn : ¬ S b) (hb : Exc S w.heap.size w w') : RowE w' b o xs :=
  fun i e hi => ⟨cell_exc (h i e hi).1 hn hb, cell_exc (h i e hi).2 hn hb⟩

/-- a slice value reads as the elements l; what it reads is none of S's -/
def SlX {f : Nat} (S : Nat → Prop) (w : World) (v : Value) (l : KL f) : Prop :=
  ∃ (A : Option Addr) (c : Nat), v = .slice A l.length c ∧ l.length ≤ c ∧ c ≤ 9223372036854775807 ∧ (0 < l.length → ∃ b o, A = some ⟨b, o, none⟩ ∧ b < w.heap.size ∧ ¬ S b ∧ RowE w b o (esK l))

variable {f : Nat} {v : Value} {l : KL f}
theorem SlX.toK (h : SlX S w v l) : SlK w w.heap.size v l := by
  obtain ⟨A, c, hv, h1, h2, h3⟩ := h
  refine ⟨A, c, hv, h1, h2, fun hl => ?_⟩
  obtain ⟨b, o, k1, k2, _, k3⟩ := h3 hl
  exact ⟨b, o, k1, k2, k3⟩
theorem SlX.exc (h : SlX S w v l) (hb : Exc S w.heap.size w w') : SlX S w' v l := by
  obtain ⟨A, c, hv, h1, h2, h3⟩ := h
  refine ⟨A, c, hv, h1, h2, fun hl => ?_⟩
  obtain ⟨b, o, k1, k2, k3, k4⟩ := h3 hl
  exact ⟨b, o, k1, Nat.lt_of_lt_of_le k2 hb.size, k3, k4.exc k3 hb⟩
theorem SlX.call (h : SlX S w v l) (hb : Below w.heap.size w w') : SlX S w' v l := h.exc (exc_of hb)
theorem SlK.out {B : Nat} (h : SlK w B v l) (hB : B ≤ w.heap.size) (hS : ∀ b, S b → B ≤ b) : SlX S w v l := by
  obtain ⟨A, c, hv, h1, h2, h3⟩ := h
  refine ⟨A, c, hv, h1, h2, fun hl => ?_⟩
  obtain ⟨b, o, k1, k2, k3⟩ := h3 hl
  exact ⟨b, o, k1, by omega, fun hs => by have := hS b hs; omega, k3⟩
theorem SlX.at {A : Option Addr} {n c k : Nat} {x : Fin (Pm f)} (h : SlX S w (.slice A n c) l) (hk : l[k]? = some x) : ∃ b o, A = some ⟨b, o, none⟩ ∧ b < w.heap.size ∧ w.cell? ⟨b, o + k * 2, none⟩ = some (.int .u64 (lo x)) ∧ w.cell? ⟨b, o + k * 2 + 1, none⟩ = some (.int .u64 (hi x)) := by
  obtain ⟨A', c', hv, h1, h2, h3⟩ := h
  obtain ⟨b, o, k1, k2, _, k4⟩ := h3 (by have := (List.getElem?_eq_some_iff.1 hk).1; omega)
  injection hv with e1 e2 e3
  exact ⟨b, o, e1.trans k1, k2, (k4.kat hk).1, (k4.kat hk).2⟩
theorem SlX.ofK {b o n c : Nat} (h : SlK w w.heap.size (.slice (some ⟨b, o, none⟩) n c) l) (hS : ¬ S b) : SlX S w (.slice (some ⟨b, o, none⟩) n c) l := by
  obtain ⟨A, c', hv, h1, h2, h3⟩ := h
  injection hv with e1 e2 e3
  subst e1
  subst e2
  subst e3
  refine ⟨_, _, rfl, h1, h2, fun hl => ?_⟩
  obtain ⟨b', o', k1, k2, k3⟩ := h3 hl
  injection k1 with k1
  injection k1 with k4 k5 k6
  subst k4
  subst k5
  exact ⟨_, _, rfl, k2, hS, k3⟩
theorem SlX.of {b o n c : Nat} (hn : l.length = n) (hc : n ≤ c) (hm : c ≤ 9223372036854775807) (hb : b < w.heap.size) (hS : ¬ S b) (hr : RowE w b o (esK l)) : SlX S w (.slice (some ⟨b, o, none⟩) n c) l := by
  subst hn
  exact ⟨_, _, rfl, hc, hm, fun _ => ⟨b, o, rfl, hb, hS, hr⟩⟩
end

/-- HOW THE GADGET IS ASKED: a func value whose k-th call, of what Run asks then, says ans k and the code cd; it may write the blocks that it holds -/
structure Asked {f : Nat} (y : CK) (v j : KL f) (part : Fin (Pm f)) (g : Nat) (cap : Array Value) (Inv : Nat → (Nat → Prop) → World → Prop) (ans : Nat → Fin (Pm f)) (cd : Int) : Prop where
  ent : ∀ (args : Array Value) (w : World), (callFunc g args).run Tryd.prog w = .ok (.enter g args) w
  run : ∀ k D w va, k < y.calls → St (Inv k) D w → SlX D w va (argOf y v j part k) → Calls Tryd.prog g (#[va] ++ cap) w fun e w' => e = .returned (.tuple #[vK (ans k), .int .i64 cd]) ∧
    ∃ D', St (Inv (k + 1)) D' w' ∧ (∀ q, D' q → D q ∨ w.heap.size ≤ q) ∧ Exc D w.heap.size w w'

/-! ### what is known of worlds within a region in which the gadget is asked -/
section
variable {D D1 : Nat → Prop} {w0 w w' : World} {I : (Nat → Prop) → World → Prop}
/-- before it is asked -/
def Rg (D : Nat → Prop) (w0 : World) (I : (Nat → Prop) → World → Prop) (w : World) : Prop := Exc D w0.heap.size w0 w ∧ St I D w
/-- behind it -/
def Rh (D : Nat → Prop) (w0 : World) (I : (Nat → Prop) → World → Prop) (D1 : Nat → Prop) (w : World) : Prop := Exc D w0.heap.size w0 w ∧ St I D1 w ∧ ∀ q, D1 q → D q ∨ w0.heap.size ≤ q
/-- a new variable of the region's own -/
def Nv (D : Nat → Prop) (w0 : World) (c : Nat) (w : World) : Prop := ¬ D c ∧ w0.heap.size ≤ c ∧ V2 w c (.int .u64 0) (.int .u64 0)
/-- the same, written -/
def Nw (D : Nat → Prop) (w0 : World) (c : Nat) (x y : Value) (w : World) : Prop := ¬ D c ∧ w0.heap.size ≤ c ∧ V2 w c x y
/-- a new row of the region's own -/
def Nb (D : Nat → Prop) (w0 : World) (b : Nat) (l : List E) (w : World) : Prop := ¬ D b ∧ w0.heap.size ≤ b ∧ BlkE w b l
theorem Exc.later (h : Exc D w0.heap.size w0 w) (hb : Below w.heap.size w w') : Exc D w0.heap.size w0 w' := h.trans ((exc_of hb).mono h.size)
theorem Rg.clo (D : Nat → Prop) (w0 : World) (I : (Nat → Prop) → World → Prop) : Clo (Rg D w0 I) := fun _ _ h hb => ⟨h.1.later hb, h.2.call hb⟩
theorem Rh.clo (D : Nat → Prop) (w0 : World) (I : (Nat → Prop) → World → Prop) (D1 : Nat → Prop) : Clo (Rh D w0 I D1) := fun _ _ h hb => ⟨h.1.later hb, h.2.1.call hb, h.2.2⟩
theorem Nv.clo (D : Nat → Prop) (w0 : World) (c : Nat) : Clo (Nv D w0 c) := fun _ _ h hb => ⟨h.1, h.2.1, h.2.2.call hb⟩
theorem Nb.clo (D : Nat → Prop) (w0 : World) (b : Nat) (l : List E) : Clo (Nb D w0 b l) := fun _ _ h hb => ⟨h.1, h.2.1, h.2.2.call hb⟩
theorem Nw.clo (D : Nat → Prop) (w0 : World) (c : Nat) (x y : Value) : Clo (Nw D w0 c x y) := fun _ _ h hb => ⟨h.1, h.2.1, h.2.2.call hb⟩
theorem Nv.write {c : Nat} (h : Rh D w0 I D1 w ∧ Nv D1 w0 c w) (x y : Value) : Rh D w0 I D1 ((w.setCell ⟨c, 0, none⟩ x).setCell ⟨c, 1, none⟩ y) ∧ Nw D1 w0 c x y ((w.setCell ⟨c, 0, none⟩ x).setCell ⟨c, 1, none⟩ y) :=
  ⟨⟨h.1.1.st h.2.2.1 x y, h.1.2.1.st h.2.1 x y, h.1.2.2⟩, h.2.1, h.2.2.1, h.2.2.2.set x y⟩
theorem Rg.start (h : St I D w) : Rg D w I w.drew := ⟨exc_of ((Below.refl _ _).drew), h.of (Nat.le_refl _) fun _ _ => rfl⟩
theorem Nv.new (hs : w0.heap.size ≤ w.heap.size) (hD : ∀ q, D q → q < w.heap.size) : Nv D w0 w.heap.size (w.alloc (.cells #[.int .u64 0, .int .u64 0] 28)) :=
  ⟨fun h => by have := hD _ h; omega, hs, V2.new w _ _ _⟩
theorem Nb.new (hs : w0.heap.size ≤ w.heap.size) (hD : ∀ q, D q → q < w.heap.size) (l : List E) (cs : Array Value) (h : cs = (cellsE l).toArray) : Nb D w0 w.heap.size l (w.alloc (.cells cs 28)) :=
  ⟨fun h => by have := hD _ h; omega, hs, BlkE.new w l cs h⟩
/-- the gadget is asked within a region -/
theorem Rg.asked {I' : (Nat → Prop) → World → Prop} (h : Rg D w0 I w) (hst : St I' D1 w') (hT : ∀ q, D1 q → D q ∨ w.heap.size ≤ q) (hE : Exc D w.heap.size w w') : Rh D w0 I' D1 w' :=
  ⟨h.1.more hE fun q hq => .inl hq, hst, fun q hq => (hT q hq).imp_right fun h2 => Nat.le_trans h.1.size h2⟩
theorem Nv.asked {c : Nat} (h : Nv D w0 c w) (hT : ∀ q, D1 q → D q ∨ w.heap.size ≤ q) (hE : Exc D w.heap.size w w') : Nv D1 w0 c w' := by
  obtain ⟨h1, h2, h3⟩ := h
  obtain ⟨k1, k2⟩ := h3.ask h1 hE hT
  exact ⟨k2, h2, k1⟩
end

/-- what comes back of a run: an answer, or the call's own error -/
def RetRun {f : Nat} (x : Fin (Pm f)) (n : Nat) (cd : Int) (Inv : Nat → (Nat → Prop) → World → Prop) (D : Nat → Prop) (w : World) (e : Ending) (w' : World) : Prop :=
  ((cd = 0 ∧ e = .returned (.tuple #[vK x, .int .i64 0]) ∧ ∃ D', St (Inv n) D' w' ∧ ∀ q, D' q → D q ∨ w.heap.size ≤ q) ∨ (cd ≠ 0 ∧ e = .returned (.tuple #[.agg #[.int .u64 0, .int .u64 0], .int .i64 cd]) ∧ ∃ D', St (Inv 1) D' w' ∧ ∀ q, D' q → D q ∨ w.heap.size ≤ q)) ∧ Exc D w.heap.size w w'

/-- an answer, or nought behind an error -/
def cdx {f : Nat} (x : Fin (Pm f)) (cd : Int) : Fin (Pm f) := if cd = 0 then x else 0
/-- what a func value holds behind a run: n calls, or one -/
def Jn (Inv : Nat → (Nat → Prop) → World → Prop) (n : Nat) (cd : Int) : (Nat → Prop) → World → Prop := if cd = 0 then Inv n else Inv 1
/-- what holds behind a run -/
def Rd (D : Nat → Prop) (w0 : World) (I : (Nat → Prop) → World → Prop) (w : World) : Prop := Exc D w0.heap.size w0 w ∧ ∃ D' : Nat → Prop, St I D' w ∧ ∀ q, D' q → D q ∨ w0.heap.size ≤ q
theorem Rd.clo (D : Nat → Prop) (w0 : World) (I : (Nat → Prop) → World → Prop) : Clo (Rd D w0 I) := fun _ _ h hb => ⟨h.1.later hb, by
  obtain ⟨D', h1, h2⟩ := h.2
  exact ⟨D', h1.call hb, h2⟩⟩
theorem Rd.from {D : Nat → Prop} {w0 w w' : World} {I : (Nat → Prop) → World → Prop} (h : Rd D w I w') (k : Exc D w0.heap.size w0 w) : Rd D w0 I w' := ⟨k.more h.1 fun _ hq => .inl hq, by
  obtain ⟨D', h1, h2⟩ := h.2
  exact ⟨D', h1, fun q hq => (h2 q hq).imp_right fun h3 => Nat.le_trans k.size h3⟩⟩
theorem RetRun.uni {f : Nat} {x : Fin (Pm f)} {n : Nat} {cd : Int} {Inv : Nat → (Nat → Prop) → World → Prop} {D : Nat → Prop} {w w' : World} {e : Ending} (h : RetRun x n cd Inv D w e w') :
    e = .returned (.tuple #[vK (cdx x cd), .int .i64 cd]) ∧ Rd D w (Jn Inv n cd) w' := by
  obtain ⟨⟨rfl, rfl, hD⟩ | ⟨hc, rfl, hD⟩, hE⟩ := h
  · exact ⟨rfl, hE, hD⟩
  · refine ⟨?_, hE, ?_⟩
    · unfold cdx
      rw [if_neg hc, vK_zero]
    · unfold Jn
      rw [if_neg hc]
      exact hD
theorem RetRun.ofUni {f : Nat} {x : Fin (Pm f)} {n : Nat} {cd : Int} {Inv : Nat → (Nat → Prop) → World → Prop} {D : Nat → Prop} {w w' : World} {e : Ending} (he : e = .returned (.tuple #[vK (cdx x cd), .int .i64 cd])) (h : Rd D w (Jn Inv n cd) w') :
    RetRun x n cd Inv D w e w' := by
  subst he
  refine ⟨?_, h.1⟩
  by_cases hc : cd = 0
  · subst hc
    exact .inl ⟨rfl, rfl, h.2⟩
  · have h2 := h.2
    unfold Jn at h2
    rw [if_neg hc] at h2
    refine .inr ⟨hc, ?_, h2⟩
    unfold cdx
    rw [if_neg hc, vK_zero]
/-- the end: what is answered is stored -/
theorem Rd.fin {D : Nat → Prop} {w0 w w' : World} {I : (Nat → Prop) → World → Prop} (h : Rd D w I w') (k : Exc D w0.heap.size w0 w) {b : Nat} (hb : w0.heap.size ≤ b) (hb' : b < w.heap.size) (hn : ¬ D b) (x y : Value) : Rd D w0 I ((w'.setCell ⟨b, 0, none⟩ x).setCell ⟨b, 1, none⟩ y) :=
  ⟨(k.more h.1 fun _ hq => .inl hq).st hb x y, by
    obtain ⟨D', h1, h2⟩ := h.2
    exact ⟨D', h1.st (fun hq => (h2 _ hq).elim hn fun h3 => by omega) x y, fun q hq => (h2 q hq).imp_right fun h3 => Nat.le_trans k.size h3⟩⟩
theorem Rd.call {D : Nat → Prop} {w0 w w' : World} {I : (Nat → Prop) → World → Prop} (h : Rd D w0 I w) (hb : Below w.heap.size w w') : Rd D w0 I w' := Rd.clo _ _ _ _ _ h hb

end Go.Proofs.YtfhmineolncefaaDoor

namespace Go.Proofs.YtfhmineolncefaaDoor
open Go.RowKit Fm
set_option linter.unusedVariables false
set_option maxRecDepth 100000

theorem zeroCells_elem (n : Nat) : Builtin.zeroCells #[.int .u64 0, .int .u64 0] n = (cellsE (List.replicate n (0, 0))).toArray := by
  rw [← madeCells_elem]
  simp [Builtin.zeroCells, madeCells]

theorem run_append_zroom {P : Program} {w : World} (t tn ty e : TypeId) (i : TypeInfo) (z : Value) (kq kn : IntKind) (ht : P.underlying t = some (.slice e)) (htn : P.underlying tn = some (.int kn)) (hi : P.info? e = some i) (hz : i.zero = some z)
    (g sLen sCap : Nat) (cur : Array Value) (hg : w.heap[g]? = some (.cells cur e (0, 0))) (k : Nat) (h63 : (k : Int) ≤ 9223372036854775807) (h48 : k * i.bytes ≤ 281474976710656)
    (h1 : ∀ u ∈ (Builtin.zeroCells z.cells k).toList, u.oneCell' = true) (hk0 : ¬ (k * i.size = 0)) (hroom : sLen + k ≤ sCap) (hfit : sLen * i.size + (Builtin.zeroCells z.cells k).toList.length ≤ cur.size) :
    (Builtin.append_ #[t, tn] ty #[.slice (some ⟨g, 0, none⟩) sLen sCap, .int kq k]).run P w =
      .ok (.slice (some ⟨g, 0, none⟩) (sLen + k) sCap) (w.setRow g (cur.toList.take (sLen * i.size) ++ (Builtin.zeroCells z.cells k).toList ++ cur.toList.drop (sLen * i.size + (Builtin.zeroCells z.cells k).toList.length)).toArray) := by
  have hst := run_storeCells_at P g (sLen * i.size) e (Builtin.zeroCells z.cells k).toList 0 cur w hg (by simpa using hfit) h1
  simp only [Nat.add_zero] at hst
  have hw : IntKind.i64.wrap (k : Int) = k := by rw [IntKind.wrap_i64]; omega
  have h48i : ¬ (281474976710656 < (k : Int) * (i.bytes : Int)) := by
    rw [← Int.natCast_mul]
    omega
  have hneg : ¬ ((k : Int) < 0) := by omega
  simp [Builtin.append_, run_underlying ht, run_underlying htn, sizeOf, typeInfo, zeroValue, hi, hz, asInt, asIntOf, hw, hneg, h48i, hk0, hroom, Addr.add_lit, hst]

theorem own_far {S : Nat → Prop} {w w' : World} {base : Nat} {e : TypeId} {size g n c : Nat} {xs : List Value} (h : w.ownsRow base e size (.slice (some ⟨g, 0, none⟩) n c) n xs) (hn : ¬ S g) (hb : Exc S w.heap.size w w') : w'.ownsRow base e size (.slice (some ⟨g, 0, none⟩) n c) n xs := by
  refine ⟨h.1, ?_⟩
  rcases h.2 with ⟨h, _⟩ | ⟨g', cap, cur, h1, h2, h3, h4⟩
  · cases h
  · injection h1 with e1 e2 e3
    injection e1 with e1
    injection e1 with e1
    subst e1
    subst e3
    have hlt := (Array.getElem?_eq_some_iff.1 h3).1
    exact .inr ⟨_, _, cur, rfl, h2, (hb.block _ hlt hn).trans h3, h4⟩
theorem Exc.belowB2 {w w' : World} {g B : Nat} (h : Exc (fun q => q = g) w.heap.size w w') (hg : B ≤ g) (hB : B ≤ w.heap.size) : Below B w w' :=
  ⟨h.os, h.tape, h.output, h.size, fun k hk => h.block k (by omega) (fun e => by have : k = g := e; omega)⟩
theorem RwK.exc {f : Nat} {S : Nat → Prop} {w w' : World} {g : Nat} {l : KL f} (h : RwK w g l) (hn : ¬ S g) (hb : Exc S w.heap.size w w') : RwK w' g l := Vs.exc h hn hb

theorem run_append_Z {f : Nat} (w : World) (base g n c k : Nat) (ty : TypeId) (l : KL f) (hl : l.length = n) (hown : w.ownsRow base 28 2 (.slice (some ⟨g, 0, none⟩) n c) n (cellsE (esK l))) (hbase : base ≤ w.heap.size) (hk : n + k ≤ 1099511627776) :
    ∃ g' c' w', (Builtin.append_ #[22, 3] ty #[.slice (some ⟨g, 0, none⟩) n c, .int .i64 (k : Int)]).run Tryd.prog w = .ok (.slice (some ⟨g', 0, none⟩) (n + k) c') w' ∧
      w'.ownsRow base 28 2 (.slice (some ⟨g', 0, none⟩) (n + k) c') (n + k) (cellsE (esK (l ++ List.replicate k 0))) ∧ Exc (fun q => q = g) w.heap.size w w' ∧ (g' = g ∨ w.heap.size ≤ g') := by
  subst hl
  obtain ⟨i, hi, hz, h1, h2⟩ := info_parts info_elem
  have hzz : esK (l ++ List.replicate k 0) = esK l ++ List.replicate k (0, 0) := by
    rw [esK_append]
    congr 1
    unfold esK
    rw [List.map_replicate, eK_zero]
  have hel := esK_length l
  rw [hzz, cellsE_append]
  have hown0 := hown
  rcases hown.2 with ⟨hv, _⟩ | ⟨g0, cap, cur, hv, hbg, hgg, hnc, hcm, hcs, htake⟩
  · cases hv
  injection hv with e1 e2 e3
  injection e1 with e1
  injection e1 with e1
  subst e1
  subst e3
  have hlenz : (cellsE (List.replicate k ((0 : Int), (0 : Int)))).length = k * 2 := by rw [length_cellsE, List.length_replicate]
  have hlt := (Array.getElem?_eq_some_iff.1 hgg).1
  by_cases hk0 : k = 0
  · subst hk0
    refine ⟨g, c, w, ?_, ?_, exc_of (Below.refl _ _), .inl rfl⟩
    · simp [Builtin.append_, run_underlying Tryd.underlying22, run_underlying Tryd.underlying3, sizeOf, typeInfo, hi, asInt, asIntOf, hnc, storeCells, IntKind.wrap_i64]
    · simpa [cellsE] using hown0
  have hz0 : Builtin.zeroCells (Value.agg #[.int .u64 0, .int .u64 0]).cells k = (cellsE (List.replicate k (0, 0))).toArray := zeroCells_elem k
  have hzl : (Builtin.zeroCells (Value.agg #[.int .u64 0, .int .u64 0]).cells k).toList = cellsE (List.replicate k (0, 0)) := by rw [hz0]
  by_cases hroom : l.length + k ≤ c
  · have hr := run_append_zroom (P := Tryd.prog) (w := w) 22 3 ty 28 i _ .i64 .i64 Tryd.underlying22 Tryd.underlying3 hi hz g l.length c cur hgg k (by omega) (by rw [h2]; omega) (by rw [hzl]; exact oneCell_cellsE _) (by rw [h1]; omega) hroom (by rw [h1, hzl, hlenz, hcs]; omega)
    rw [h1, hzl, hlenz] at hr
    have hset := setRow_heap w g cur (cur.toList.take (l.length * 2) ++ cellsE (List.replicate k (0, 0)) ++ cur.toList.drop (l.length * 2 + k * 2)).toArray 28 (0, 0) hgg
    have hE : Exc (fun q => q = g) w.heap.size w (w.setRow g (cur.toList.take (l.length * 2) ++ cellsE (List.replicate k (0, 0)) ++ cur.toList.drop (l.length * 2 + k * 2)).toArray) :=
      ⟨rfl, rfl, rfl, by simp, fun k hk hne => setRow_other w g k _ hne⟩
    have hcl : cur.toList.length = c * 2 := by rw [Array.length_toList]; exact hcs
    have htl : (cur.toList.take (l.length * 2)).length = l.length * 2 := by rw [List.length_take, hcl]; omega
    refine ⟨g, c, _, hr, ⟨?_, .inr ⟨g, c, _, rfl, hbg, hset, hroom, hcm, ?_, ?_⟩⟩, hE, .inl rfl⟩
    · rw [List.length_append, hlenz, length_cellsE, hel, Nat.add_mul]
    · simp only [List.size_toArray, List.length_append, htl, hlenz, List.length_drop, hcl]
      omega
    · show List.take _ (_ ++ _ ++ _) = _
      rw [List.take_append_of_le_length (by rw [List.length_append, htl, hlenz]; omega), List.take_of_length_le (by rw [List.length_append, htl, hlenz]; omega), htake]
  · have hcells := hown0.cells rfl
    have hold : (Builtin.firstCells i.size l.length (.slice (some ⟨g, 0, none⟩) l.length c)).run Tryd.prog w.drew = .ok (cellsE (esK l)).toArray w.drew :=
      run_firstCells_some (P := Tryd.prog) (w := w.drew) i.size l.length ⟨g, 0, none⟩ l.length c (cellsE (esK l)) (by rw [length_cellsE, hel, h1]) (fun j u hj => hcells j u hj)
    have hr := Lib.run_append_grow_zeros (P := Tryd.prog) w 22 3 ty 28 i _ .i64 .i64 Tryd.underlying22 Tryd.underlying3 hi hz (some ⟨g, 0, none⟩) l.length c (cellsE (esK l)) hold k (by omega) (by omega) (by omega) (by omega) (by rw [h2]; omega) (growslice_fits (by omega) (by rw [h2]; omega))
    refine ⟨w.heap.size, _, _, hr, ⟨by rw [List.length_append, hlenz, length_cellsE, hel, Nat.add_mul], .inr ⟨w.heap.size, _, _, rfl, hbase, heap_alloc_new w.drew _, ?_, ?_, ?_, ?_⟩⟩, exc_of (undrew ((Below.refl _ _).alloc (Nat.le_refl _) _)), .inr (Nat.le_refl _)⟩
    · exact grownCap_ge _ _ _ _
    · exact grownCap_le_maxLen _ _ _ _ (by unfold maxLen; omega)
    · have hge := grownCap_ge w (l.length + k) c 28
      rw [hz0]
      simp only [zeroCells_elem, Value.cells, Array.size_append, List.size_toArray, hlenz, length_cellsE, hel, List.length_replicate]
      omega
    · rw [hz0]
      simp only [Array.toList_append, List.append_toArray]
      rw [List.take_append_of_le_length (by simp [length_cellsE, hel]; omega), List.take_of_length_le (by simp [length_cellsE, hel]; omega)]

end Go.Proofs.YtfhmineolncefaaDoor

namespace Go.Proofs.YtfhmineolncefaaDoor
open Go.RowKit Fm
set_option linter.unusedVariables false
set_option maxRecDepth 100000

theorem nextP_pow (n : Nat) (h : n ≤ 1024) : ∃ L, L ≤ 10 ∧ nextP n = 2 ^ L ∧ n ≤ 2 ^ L := by
  unfold nextP
  repeat' split
  · exact ⟨0, by omega, rfl, by omega⟩
  · exact ⟨1, by omega, rfl, by omega⟩
  · exact ⟨2, by omega, rfl, by omega⟩
  · exact ⟨3, by omega, rfl, by omega⟩
  · exact ⟨4, by omega, rfl, by omega⟩
  · exact ⟨5, by omega, rfl, by omega⟩
  · exact ⟨6, by omega, rfl, by omega⟩
  · exact ⟨7, by omega, rfl, by omega⟩
  · exact ⟨8, by omega, rfl, by omega⟩
  · exact ⟨9, by omega, rfl, by omega⟩
  · exact ⟨10, by omega, rfl, by omega⟩

section
variable {f : Nat}
/-- the values' products -/
def mulV (L : Nat) (x y : KL f) : KL f := ofF (2 ^ L) fun k => x.getD k 0 * y.getD k 0
theorem mul_ntt {L : Nat} (hL : L ≤ 32) (a b : KL f) (ha : a.length ≤ 400000) (hb : b.length ≤ 400000) (h : (trim a).length + (trim b).length ≤ 2 ^ L + 1) :
    trim (coefsK L (mulV L (valsK L (trim a ++ List.replicate (2 ^ L - (trim a).length) 0)) (valsK L (trim b ++ List.replicate (2 ^ L - (trim b).length) 0)))) = pmul a b := by
  unfold mulV
  rw [prod_vals hL (trim a) (trim b) h, trim_pad, ← pmul_trim ha hb]
  rfl
end

section
variable {f : Nat} (hf : IsF f)
include hf

set_option maxHeartbeats 16000000 in
theorem poly_Mul (va vb : Value) (a b : KL f) (w : World) (hT : TabW w) (ha : SlK w w.heap.size va a) (hb : SlK w w.heap.size vb b) (hal : a.length ≤ 400000) (hbl : b.length ≤ 400000) (hn : (trim a).length + (trim b).length ≤ 1025) :
    Calls Tryd.prog 29 #[.int .u8 f, va, vb] w (RetOwn0 (pmul a b) w) := by
  have HVA := Lib.hid (fun wz => field_ValidT hf wz)
  have HTA : Hid (Calls Tryd.prog 40 #[va] w (RetOwn (trim a) w)) := poly_Trim va a w ha (by omega)
  have HTB := Lib.hid (fun wz (h : SlK wz wz.heap.size vb b) => poly_Trim vb b wz h (by omega))
  have HB0 := Lib.hid hb
  have HPM := Lib.hid (pmul_trim (a := a) (b := b) hal hbl)
  have HT0 := Lib.hid hT
  have hfb0 : (1 : Int) ≤ (f : Int) := by rcases hf.or with rfl | rfl <;> omega
  have hfb1 : (f : Int) ≤ 2 := by rcases hf.or with rfl | rfl <;> omega
  have HDI := Lib.hid (fun va vb (a b : KL f) wz h1 h2 h3 h4 h5 h6 => poly_direct hf va vb a b wz h1 h2 h3 h4 h5 h6)
  have HNT := Lib.hid (fun L (hL : L ≤ 32) h => mul_ntt (f := f) (L := L) hL a b hal hbl h)
  have HVV := Lib.hid (fun L (hL : L ≤ 10) v (l : KL f) hl wz h1 h2 => ntt_Values hf L hL v l hl wz h1 h2)
  have HCC := Lib.hid (fun L (hL : L ≤ 10) v (l : KL f) hl wz h1 h2 => ntt_Coefs hf L hL v l hl wz h1 h2)
  have HMU := Lib.hid (fun x y wz => field_MulK hf x y wz)
  obtain ⟨A, ca, rfl, _, _, _⟩ := ha
  obtain ⟨B, cb, rfl, _, _, _⟩ := hb
  have hta := trim_le a
  have htb := trim_le b
  generalize trim a = ta at *
  generalize trim b = tb at *
  obtain ⟨na, hna⟩ : ∃ n, a.length = n := ⟨_, rfl⟩
  obtain ⟨nb, hnb⟩ : ∃ n, b.length = n := ⟨_, rfl⟩
  rw [hna] at hal hta HTA ⊢
  rw [hnb] at hbl htb HTB HB0 ⊢
  clear hna hnb hT
  have hb00 : Below w.heap.size w w := Below.refl _ _
  go_enter Tryd.func29, Tryd.ntmps29
  go_wp2_with fail
  refine (HVA.out _).mono ?_
  rintro e w' ⟨rfl, rfl⟩
  go_wp2_with fail
  refine HTA.out.mono ?_
  rintro e w1 ⟨v1, rfl, ho1, hb1⟩
  have HLT1 : Hid (∀ q, v1.ownBlock = some q → q < w1.heap.size) := fun q hq => (ho1.lt q hq).2
  replace hb00 := bl_call hb00 (Nat.le_refl _) hb1
  go_wp2_with fail
  refine (HTB.out _ (HB0.out.later hb00)).mono ?_
  rintro e w2 ⟨v2, rfl, ho2, hb2⟩
  replace ho1 := own_call ho1 hb2
  have hb12' := hb00.size
  have hb12 := hb1.size
  have HC1 := Lib.hid (own_cases ho1)
  have HC2 := Lib.hid (own_cases ho2)
  replace hb00 := bl_call hb00 (Nat.le_refl _) hb2
  clear hb1 hb2 HB0 HTA HTB
  have hs2 := hb00.size
  obtain ⟨A1, c1, e1⟩ := own_shape ho1
  obtain ⟨A2, c2, e2⟩ := own_shape ho2
  obtain ⟨la, hla⟩ : ∃ n, ta.length = n := ⟨_, rfl⟩
  obtain ⟨lb, hlb⟩ : ∃ n, tb.length = n := ⟨_, rfl⟩
  rw [hla] at hn hta e1 ho1 HC1
  rw [hlb] at hn htb e2 ho2 HC2
  have HLA := Lib.hid hla
  have HLB := Lib.hid hlb
  subst e1
  subst e2
  clear hla hlb
  by_cases ha0 : la = 0
  · subst ha0
    have HPN : Hid (pmul a b = []) := by
      show _ = _
      rw [← HPM.out, List.length_eq_zero_iff.1 HLA.out]
      exact pmul_nil_left _
    clear ho1 ho2 HC1 HC2
    go_wp2_with fail
    go_ret2
    exact ⟨_, rfl, by rw [HPN.out]; exact World.ownsRow_nil _ _ _ _, hb00⟩
  by_cases hb0 : lb = 0
  · subst hb0
    have HPN : Hid (pmul a b = []) := by
      show _ = _
      rw [← HPM.out, List.length_eq_zero_iff.1 HLB.out]
      exact pmul_nil_right _
    have t1 : ¬ (la = 0) := ha0
    clear ho1 ho2 HC1 HC2
    go_wp2_with fail
    go_ret2
    exact ⟨_, rfl, by rw [HPN.out]; exact World.ownsRow_nil _ _ _ _, hb00⟩
  obtain ⟨ga, ka, eA, ra, hga, hka, hkam⟩ : ∃ g c, Value.slice A1 la c1 = .slice (some ⟨g, 0, none⟩) la c ∧ RwK w2 g ta ∧ w.heap.size ≤ g ∧ la ≤ c ∧ c ≤ 9223372036854775807 := by
    rcases HC1.out with ⟨h, h2⟩ | h
    · exact absurd (by rw [← HLA.out, h2]; rfl) ha0
    · exact h
  obtain ⟨gb, kb, eB, rb, hgb, hkb, hkbm⟩ : ∃ g c, Value.slice A2 lb c2 = .slice (some ⟨g, 0, none⟩) lb c ∧ RwK w2 g tb ∧ w1.heap.size ≤ g ∧ lb ≤ c ∧ c ≤ 9223372036854775807 := by
    rcases HC2.out with ⟨h, h2⟩ | h
    · exact absurd (by rw [← HLB.out, h2]; rfl) hb0
    · exact h
  injection eA with eA1 _ eA2
  injection eB with eB1 _ eB2
  subst eA1
  subst eA2
  subst eB1
  subst eB2
  have t1 : ¬ (la = 0) := ha0
  have t2 : ¬ (lb = 0) := hb0
  have t3 : ((la : Int) == 0) = false := by rw [beq_eq_false_iff_ne]; omega
  have t4 : ((lb : Int) == 0) = false := by rw [beq_eq_false_iff_ne]; omega
  obtain ⟨n, hn1⟩ : ∃ n, la + lb - 1 = n := ⟨_, rfl⟩
  have hni : (la : Int) + (lb : Int) - 1 = (n : Int) := by omega
  have hn2 : (n : Int) ≤ 1024 := by omega
  have hn3 : n + 1 = la + lb := by omega
  have hn4 : n ≤ 1024 := by omega
  obtain ⟨mn, hmn⟩ : ∃ n, min la lb = n := ⟨_, rfl⟩
  have hmi : min (la : Int) (lb : Int) = (mn : Int) := by omega
  clear hn1 HC1 HC2
  by_cases h16 : mn ≤ 16
  · have HTR : Hid (trim (prodL ta tb) = pmul a b) := HPM.out
    have HPL : Hid ((prodL ta tb).length ≤ 1000000) := by show _ ≤ _; rw [prodL_length, HLA.out, HLB.out]; omega
    have sa := ra.sl HLA.out hka (by omega)
    have sb := rb.sl HLB.out hkb (by omega)
    clear ra rb ho1 ho2 hmn
    go_wp2_with fail
    refine (HDI.out _ _ ta tb _ sa sb (by rw [HLA.out]; omega) (by rw [HLB.out]; omega) (by rw [HLA.out]; omega) (by rw [HLB.out]; omega)).mono ?_
    rintro e w3 ⟨g, rfl, hR, _, hb3⟩
    replace hb00 := bl_call hb00 (Nat.le_refl _) hb3
    clear hb3
    have ss := hR.sl (n := (prodL ta tb).length) (c := (prodL ta tb).length) rfl (Nat.le_refl _) (by have := HPL.out; omega)
    clear hR
    go_wp2_with fail
    refine (poly_Trim _ (prodL ta tb) _ ss HPL.out).mono ?_
    rintro e w4 ⟨v, rfl, ho, hb4⟩
    rw [HTR.out] at ho
    go_wp2_with fail
    go_ret2
    exact ⟨v, rfl, own_mono ho hb00.size, bl_call hb00 (Nat.le_refl _) hb4⟩
  · obtain ⟨L, hL, hLn, hLs⟩ := nextP_pow n hn4
    have HNX : Hid (∀ wz, Calls Tryd.prog 27 #[.int .i64 n] wz fun e w' => e = .returned (.int .i64 ((2 ^ L : Nat) : Int)) ∧ wz = w') := fun wz => by rw [← hLn]; exact ntt_Next n hn4 wz
    have hL2 : 2 ^ L ≤ 1024 := by rw [← hLn]; exact (nextP_le n).2
    have HRES : Hid (trim (coefsK L (mulV L (valsK L (ta ++ List.replicate (2 ^ L - la) 0)) (valsK L (tb ++ List.replicate (2 ^ L - lb) 0)))) = pmul a b) := by
      have h := HNT.out L (by omega) (by rw [HLA.out, HLB.out]; omega)
      rwa [HLA.out, HLB.out] at h
    have HMV : Hid (∀ x y k, k < 2 ^ L → (mulV (f := f) L x y).getD k 0 = x.getD k 0 * y.getD k 0) := fun x y k hk => by
      unfold mulV
      rw [ofF_getD, if_pos hk]
    have HML : Hid (∀ x y, (mulV (f := f) L x y).length = 2 ^ L) := fun x y => ofF_length ..
    have HVL := Lib.hid (fun l => valsK_length (f := f) L l)
    have HCL := Lib.hid (fun l => coefsK_length (f := f) L l)
    replace HVV : Hid (∀ v (l : KL f), l.length = 2 ^ L → ∀ wz, TabW wz → SlK wz wz.heap.size v l → Calls Tryd.prog 18 #[.int .u8 f, v] wz (RetBlk0 (valsK L l) wz)) := fun v l hl wz h1 h2 => HVV.out L hL v l hl wz h1 h2
    replace HCC : Hid (∀ v (l : KL f), l.length = 2 ^ L → ∀ wz, TabW wz → SlK wz wz.heap.size v l → Calls Tryd.prog 20 #[.int .u8 f, v] wz (RetBlk0 (coefsK L l) wz)) := fun v l hl wz h1 h2 => HCC.out L hL v l hl wz h1 h2
    clear hLn
    obtain ⟨N, hN⟩ : ∃ N, 2 ^ L = N := ⟨_, rfl⟩
    rw [hN] at HNX hL2 hLs HRES HMV HML HVL HCL HVV HCC
    clear hN HNT HDI HPM
    obtain ⟨k1, hk1⟩ : ∃ k, N - la = k := ⟨_, rfl⟩
    obtain ⟨k2, hk2⟩ : ∃ k, N - lb = k := ⟨_, rfl⟩
    rw [hk1, hk2] at HRES
    have hi1 : (N : Int) - (la : Int) = (k1 : Int) := by omega
    have hi2 : (N : Int) - (lb : Int) = (k2 : Int) := by omega
    have hs1 : la + k1 = N := by omega
    have hs2' : lb + k2 = N := by omega
    have h16' : ¬ (mn ≤ 16) := h16
    have hgab : ga ≠ gb := by have := HLT1.out ga rfl; omega
    clear hk1 hk2 hmn
    have HOA := Lib.hid ho1
    have HOB := Lib.hid ho2
    clear ho1 ho2 ra rb
    go_wp2_with fail
    refine (HNX.out _).mono ?_
    rintro e w' ⟨rfl, rfl⟩
    obtain ⟨g3, c3, w3, hr3, ho3, he3, hg3⟩ := run_append_Z w2 w.heap.size ga la c1 k1 22 ta HLA.out (own_mono HOA.out (Nat.le_refl _)) hs2 (by omega)
    have hr3' := Lib.hid hr3
    clear hr3
    go_wp2_with (at_builtin; refine Lib.wpList_append_run _ rfl _ _ _ _ rfl _ _ rfl rfl _ _ hr3'.out ?_)
    have hb3 : Below w.heap.size w2 w3 := he3.belowB2 hga hs2
    have hob3 := own_far HOB.out (fun e => hgab e.symm) he3
    have HOB3 := Lib.hid hob3
    replace hb00 : Below w.heap.size w w3 := hb00.trans hb3
    have hsz3 := he3.size
    obtain ⟨rx3, _, hc3, hcm3, hlen3⟩ := own_rw ho3
    have sx3 := rx3.sl hlen3 hc3 hcm3
    rw [hs1] at sx3
    have HL3 : Hid ((ta ++ List.replicate k1 0).length = N) := hlen3.trans hs1
    have hg3b : gb ≠ g3 := by
      have h1 := HLT1.out ga rfl
      have h2 := (HOB.out.lt gb rfl).2
      rcases hg3 with h | h
      · omega
      · omega
    clear hob3 he3 hb3 ho3 rx3 hc3 hcm3 hlen3 hg3 hr3' HOA
    go_wp2_with fail
    refine (HVV.out _ _ HL3.out _ (HT0.out.call hb00) sx3).mono ?_
    rintro e w4 ⟨gx, rfl, rx, hgx, hb4⟩
    have hobl := (HOB3.out.lt gb rfl).2
    have hob4 := own_call HOB3.out hb4
    rw [HVL.out]
    replace hb00 := bl_call hb00 (Nat.le_refl _) hb4
    have hs4 := hb00.size
    have hgxb : gx ≠ gb := by omega
    have HOB4 := Lib.hid hob4
    clear hob4 HOB3 HOB hb4 sx3
    have hgbw : w.heap.size ≤ gb := by omega
    obtain ⟨g5, c5, w5, hr5, ho5, he5, hg5⟩ := run_append_Z w4 w.heap.size gb lb c2 k2 22 tb HLB.out (own_mono HOB4.out hb12') hs4 (by omega)
    have hr5' := Lib.hid hr5
    clear hr5
    go_wp2_with (at_builtin; refine Lib.wpList_append_run _ rfl _ _ _ _ rfl _ _ rfl rfl _ _ hr5'.out ?_)
    have hb5 : Below w.heap.size w4 w5 := he5.belowB2 hgbw hs4
    replace rx := rx.exc hgxb he5
    replace hb00 : Below w.heap.size w w5 := hb00.trans hb5
    have hsz5 := he5.size
    obtain ⟨rx5, _, hc5, hcm5, hlen5⟩ := own_rw ho5
    have sx5 := rx5.sl hlen5 hc5 hcm5
    rw [hs2'] at sx5
    have HL5 : Hid ((tb ++ List.replicate k2 0).length = N) := hlen5.trans hs2'
    clear he5 hb5 ho5 rx5 hc5 hcm5 hlen5 hg5 hr5' HOB4
    go_wp2_with fail
    refine (HVV.out _ _ HL5.out _ (HT0.out.call hb00) sx5).mono ?_
    rintro e w6 ⟨gy, rfl, ry, hgy, hb6⟩
    have hgxy : gx < gy := Nat.lt_of_lt_of_le rx.lt hgy
    rw [HVL.out]
    replace hb00 := bl_call hb00 (Nat.le_refl _) hb6
    replace rx := rx.call hb6
    have hgxw : w.heap.size ≤ gx := by omega
    clear hb6 sx5
    have HXL := Lib.hid (HVL.out (ta ++ List.replicate k1 0))
    have HYL := Lib.hid (HVL.out (tb ++ List.replicate k2 0))
    generalize valsK L (ta ++ List.replicate k1 0) = X at *
    generalize valsK L (tb ++ List.replicate k2 0) = Y at *
    have HM1 := Lib.hid (fun k hk => HMV.out X Y k hk)
    have HM2 := Lib.hid (HML.out X Y)
    generalize mulV L X Y = M at *
    go_wp2_with fail
    go_loopw [81] (fun kv wr => ∃ (k : Nat) (S : KL f), k ≤ N ∧ kv = .int .i64 k ∧ RwK wr gx S ∧ RwK wr gy Y ∧ Hid (S.length = N ∧ (∀ j, j < k → S.getD j 0 = M.getD j 0) ∧ ∀ j, k ≤ j → S.getD j 0 = X.getD j 0) ∧ Below w.heap.size w wr) (fun kv _ => N - (intOf kv).toNat)
    case atStart => exact ⟨0, X, Nat.zero_le _, rfl, rx, ry, ⟨HXL.out, fun j h => absurd h (Nat.not_lt_zero _), fun _ _ => rfl⟩, hb00⟩
    case round =>
      clear rx ry hb00
      obtain ⟨k, S, hk, rfl, rx, ry, hS, hb00⟩ := hrel
      by_cases hkN : k < N
      · have g1 : (0 : Int) ≤ (k : Int) := by omega
        have g3 : (k : Int) < (N : Int) := by omega
        have HSL : Hid (S.length = N) := hS.out.1
        have HS1 : Hid (∀ j, j < k → S.getD j 0 = M.getD j 0) := hS.out.2.1
        have HS2 : Hid (∀ j, k < j → S.getD j 0 = X.getD j 0) := fun j hj => hS.out.2.2 j (by omega)
        obtain ⟨x, hx⟩ : ∃ x, S[k]? = some x := ⟨_, List.getElem?_eq_getElem (by have := HSL.out; omega)⟩
        obtain ⟨y, hy⟩ : ∃ y, Y[k]? = some y := ⟨_, List.getElem?_eq_getElem (by have := HYL.out; omega)⟩
        have HXY : Hid (M.getD k 0 = x * y) := by
          show _ = _
          have h1 := hS.out.2.2 k (Nat.le_refl _)
          rw [List.getD_eq_getElem?_getD, hx] at h1
          have h2 : Y.getD k 0 = y := by rw [List.getD_eq_getElem?_getD, hy]; rfl
          rw [HM1.out k hkN, ← h1, h2]
          rfl
        obtain ⟨c0, c1⟩ := rx.at hx
        obtain ⟨d0, d1⟩ := ry.at hy
        have g8 := rx.lt
        have g9 := ry.lt
        clear hx hy hS
        go_upto_region 21 with fail
        refine region_B (n := 12) (m := 14) (f := 12) (by kernel_rfl) (by kernel_rfl) rfl ?_
        refine WpH.takeD 0 (some 84) (v := ?_) rfl rfl (by kernel_rfl) (fun _ _ _ h => h) (.val rfl (fun wz hwz => ?_)) ?_
        rotate_left
        · go_simp; try (with_reducible rfl)
        (simp only [Act.put]); (try simp only [List.setIfInBounds_toArray]); (try simp only [List.set_cons_succ]); (try simp only [List.set_cons_zero])
        refine WpH.takeD 1 (some 85) (v := ?_) rfl rfl (by kernel_rfl) (fun _ _ _ h => h) (.val rfl (fun wz hwz => ?_)) ?_
        rotate_left
        · go_simp; try (with_reducible rfl)
        (simp only [Act.put]); (try simp only [List.setIfInBounds_toArray]); (try simp only [List.set_cons_succ]); (try simp only [List.set_cons_zero])
        refine WpH.takeD 2 (some 86) (v := ?_) rfl rfl (by kernel_rfl) (fun _ _ _ h => h) (.val rfl (fun wz hwz => ?_)) ?_
        rotate_left
        · go_simp; try (with_reducible rfl)
        (simp only [Act.put]); (try simp only [List.setIfInBounds_toArray]); (try simp only [List.set_cons_succ]); (try simp only [List.set_cons_zero])
        refine WpH.takeD 3 (some 87) (v := ?_) rfl rfl (by kernel_rfl) (fun _ _ _ h => h) (.val rfl (fun wz hwz => ?_)) ?_
        rotate_left
        · go_simp; try (with_reducible rfl)
        (simp only [Act.put]); (try simp only [List.setIfInBounds_toArray]); (try simp only [List.set_cons_succ]); (try simp only [List.set_cons_zero])
        refine WpH.takeD 4 (some 88) (v := ?_) rfl rfl (by kernel_rfl) (fun _ _ _ h => h) (.val rfl (fun wz hwz => ?_)) ?_
        rotate_left
        · go_simp; try (with_reducible rfl)
        (simp only [Act.put]); (try simp only [List.setIfInBounds_toArray]); (try simp only [List.set_cons_succ]); (try simp only [List.set_cons_zero])
        refine WpH.takeD 5 (some 89) (v := ?_) rfl rfl (by kernel_rfl) (fun _ _ _ h => h) (.val rfl (fun wz hwz => ?_)) ?_
        rotate_left
        · go_simp; try (with_reducible rfl)
        (simp only [Act.put]); (try simp only [List.setIfInBounds_toArray]); (try simp only [List.set_cons_succ]); (try simp only [List.set_cons_zero])
        refine WpH.takeD 6 (some 90) (v := ?_) rfl rfl (by kernel_rfl) (fun _ _ _ h => h) (.val rfl (fun wz hwz => ?_)) ?_
        rotate_left
        · (obtain ⟨hcz, hfz⟩ := bcell hwz; go_simp; try (with_reducible rfl))
        (simp only [Act.put]); (try simp only [List.setIfInBounds_toArray]); (try simp only [List.set_cons_succ]); (try simp only [List.set_cons_zero])
        refine WpH.takeD 7 (some 91) (v := ?_) rfl rfl (by kernel_rfl) (fun _ _ _ h => h) (.val rfl (fun wz hwz => ?_)) ?_
        rotate_left
        · go_simp; try (with_reducible rfl)
        (simp only [Act.put]); (try simp only [List.setIfInBounds_toArray]); (try simp only [List.set_cons_succ]); (try simp only [List.set_cons_zero])
        refine WpH.takeD 8 (some 92) (v := ?_) rfl rfl (by kernel_rfl) (fun _ _ _ h => h) (.val rfl (fun wz hwz => ?_)) ?_
        rotate_left
        · go_simp; try (with_reducible rfl)
        (simp only [Act.put]); (try simp only [List.setIfInBounds_toArray]); (try simp only [List.set_cons_succ]); (try simp only [List.set_cons_zero])
        refine WpH.takeD 9 (some 93) (v := ?_) rfl rfl (by kernel_rfl) (fun _ _ _ h => h) (.val rfl (fun wz hwz => ?_)) ?_
        rotate_left
        · go_simp; try (with_reducible rfl)
        (simp only [Act.put]); (try simp only [List.setIfInBounds_toArray]); (try simp only [List.set_cons_succ]); (try simp only [List.set_cons_zero])
        refine WpH.takeD 10 (some 94) (v := ?_) rfl rfl (by kernel_rfl) (fun _ _ _ h => h) (.val rfl (fun wz hwz => ?_)) ?_
        rotate_left
        · (obtain ⟨hcz, hfz⟩ := bcell hwz; go_simp; try (with_reducible rfl))
        (simp only [Act.put]); (try simp only [List.setIfInBounds_toArray]); (try simp only [List.set_cons_succ]); (try simp only [List.set_cons_zero])
        refine WpH.takeD 11 (some 95) rfl rfl (by kernel_rfl) (fun _ _ _ h => h) (.call rfl (fun wz hwz => HMU.out x y wz) (fun wz hwz => ?_)) ?_
        · go_simp; try (with_reducible rfl)
        (simp only [Act.put]); (try simp only [List.setIfInBounds_toArray]); (try simp only [List.set_cons_succ]); (try simp only [List.set_cons_zero])
        refine WpH.doneB (by kernel_rfl) (fun w7 hw7 => ?_)
        (try simp only [List.drop_succ_cons]); (try simp only [List.drop_zero]); (try simp only [Nat.reduceSub]); (try simp only [List.take_succ_cons]); (try simp only [List.take_zero])
        clear c0 c1 d0 d1 g8 g9
        replace hb00 := bl_call hb00 (Nat.le_refl _) hw7
        replace rx := rx.call hw7
        replace ry := ry.call hw7
        clear hw7
        obtain ⟨x9, hx9⟩ : ∃ x, S[k]? = some x := ⟨_, List.getElem?_eq_getElem (by have := HSL.out; omega)⟩
        obtain ⟨c0, c1⟩ := rx.at hx9
        obtain ⟨f0, f1⟩ := rx.frz (i := k) (by have := HSL.out; omega)
        have g8 := rx.lt
        clear hx9
        go_wp2_with fail
        go_roundw
        case rel => exact ⟨k + 1, _, by omega, by go_num, rx.set k (by have := HSL.out; omega) (x * y), (ry.far (by dsimp only; omega) _).far (by dsimp only; omega) _, ⟨by rw [List.length_set]; exact HSL.out, fun j hj => by
          rw [set_getD _ _ _ (by have := HSL.out; omega)]
          by_cases he : j = k
          · rw [if_pos he, he, HXY.out]
          · rw [if_neg he]
            exact HS1.out j (by omega), fun j hj => by
          rw [set_getD _ _ _ (by have := HSL.out; omega), if_neg (by omega)]
          exact HS2.out j (by omega)⟩, by repeat (first | exact Below.refl _ _ | with_reducible assumption | (refine bl_alloc ?_ (Nat.le_refl _) _) | (refine bl_set ?_ (by dsimp only; omega) _) | (refine Below.drew ?_) | (refine bl_drewN ?_ _) | (refine bl_call ?_ (Nat.le_refl _) (by assumption)))⟩
        case measure => simp [intOf]; omega
      · obtain rfl : k = N := by omega
        have hSM : S = M := ext_getD (by rw [hS.out.1, HM2.out]) fun i => by
          by_cases hi : i < k
          · exact hS.out.2.1 i hi
          · rw [Fm.getD_end (by have := hS.out.1; omega), Fm.getD_end (by have := HM2.out; omega)]
        subst hSM
        have sx := rx.sl hS.out.1 (Nat.le_refl _) (by omega)
        have HSL : Hid (S.length = k) := hS.out.1
        have hT9 := HT0.out.call hb00
        have HT9 := Lib.hid hT9
        clear rx ry hS hT9
        go_wp2_with fail
        refine (HCC.out _ S HSL.out _ HT9.out sx).mono ?_
        rintro e w8 ⟨gc, rfl, rc, _, hb8⟩
        rw [HCL.out]
        replace hb00 := bl_call hb00 (Nat.le_refl _) hb8
        have sc := rc.sl (HCL.out S) (Nat.le_refl _) (by omega)
        have HCB : Hid ((coefsK L S).length ≤ 1000000) := by show _ ≤ _; rw [HCL.out]; omega
        clear rc hb8 sx
        go_wp2_with fail
        refine (poly_Trim _ (coefsK L S) _ sc HCB.out).mono ?_
        rintro e w9 ⟨v, rfl, ho, hb9⟩
        rw [HRES.out] at ho
        go_wp2_with fail
        go_ret2
        exact ⟨v, rfl, own_mono ho hb00.size, bl_call hb00 (Nat.le_refl _) hb9⟩
end

end Go.Proofs.YtfhmineolncefaaDoor
