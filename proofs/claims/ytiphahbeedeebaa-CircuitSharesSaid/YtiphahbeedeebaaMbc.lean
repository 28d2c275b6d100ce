/-
  WALKS: CircuitShares' run: the closure that asks an answer; the run by it.
-/
/-
  WALK: CircuitShares' run, by whatever answers.
-/
/-
  WALK: CircuitShares' third answer: what the whole said, less what the first part said.
-/
/-
  WALK: CircuitShares' second answer: the drawn ones, in a list of its own.
-/
/-
  WALK: CircuitShares' second answer.
-/
import Derived.Test.YtiphahbeedeebaaMau
import Derived.Test.YtiphahbeedeebaaMah
import Derived.Test.YtiphahbeedeebaaMan
namespace Go.Proofs.Ytiphahbeedeebaa
open Go.RowKit Fm
set_option linter.unusedVariables false
set_option maxRecDepth 100000

theorem lt_same {w w' : World} {q : Nat} (h : q < w.heap.size) (hb : w'.heap[q]? = w.heap[q]?) : q < w'.heap.size := by
  rcases Nat.lt_or_ge q w'.heap.size with h2 | h2
  · exact h2
  · rw [Array.getElem?_eq_none h2, Array.getElem?_eq_getElem h] at hb
    cases hb
theorem St.same {I : (Nat → Prop) → World → Prop} {D : Nat → Prop} {w w' : World} (h : St I D w) (hb : ∀ q, D q → w'.heap[q]? = w.heap[q]?) : St I D w' :=
  ⟨h.keep _ _ h.here hb, fun q hq => lt_same (h.lt q hq) (hb q hq), h.keep⟩
theorem Vs.sameC {w w' : World} {b : Nat} {cs : List Value} (h : Vs w b cs) (hb : w'.heap[b]? = w.heap[b]?) : Vs w' b cs :=
  ⟨fun i v hi => (World.cell?_of_block (w := w) (a := ⟨b, i, none⟩) hb).trans (h.cell i v hi), fun i hi => (World.frozen?_of_block (w := w) (a := ⟨b, i, none⟩) hb).trans (h.frz i hi), lt_same h.lt hb⟩
theorem SlX.turn {f : Nat} {S T : Nat → Prop} {w : World} {v : Value} {l : KL f} (h : SlX S w v l) (hT : ∀ q, T q → q < w.heap.size → S q) : SlX T w v l := by
  obtain ⟨A, c, hv, h1, h2, h3⟩ := h
  refine ⟨A, c, hv, h1, h2, fun hl => ?_⟩
  obtain ⟨b, o, k1, k2, k3, k4⟩ := h3 hl
  exact ⟨b, o, k1, k2, fun ht => k3 (hT b ht k2), k4⟩

/-- how an answer is asked for: by its number and what the gadget is asked -/
structure AskedA {f : Nat} (y : CK) (v j : KL f) (part : Fin (Pm f)) (g : Nat) (cap : Array Value) (Inv : Nat → (Nat → Prop) → World → Prop) (ans : Nat → Fin (Pm f)) : Prop where
  ent : ∀ (args : Array Value) (w : World), (callFunc g args).run Try.prog w = .ok (.enter g args) w
  run : ∀ k D w va, k < y.calls → St (Inv k) D w → SlX D w va (argOf y v j part k) → Calls Try.prog g (#[.int .i64 (k : Nat), va] ++ cap) w fun e w' => e = .returned (vK (ans k)) ∧
    ∃ D', St (Inv (k + 1)) D' w' ∧ (∀ q, D' q → D q ∨ w.heap.size ≤ q) ∧ Exc D w.heap.size w w'

/-- what the asking closure holds: its count, the answer, and what that holds -/
def InvIn (Inv : Nat → (Nat → Prop) → World → Prop) (kb ab g : Nat) (cap : Array Value) (k : Nat) (D : Nat → Prop) (w : World) : Prop :=
  ∃ D0 : Nat → Prop, (∀ q, D q ↔ D0 q ∨ q = kb ∨ q = ab) ∧ (¬ D0 kb ∧ ¬ D0 ab) ∧ St (Inv k) D0 w ∧ Vs w kb [.int .i64 (k : Nat)] ∧ Vs w ab [.func (.func g) #[] cap]
theorem InvIn.st {Inv : Nat → (Nat → Prop) → World → Prop} {kb ab g : Nat} {cap : Array Value} {k : Nat} {D0 : Nat → Prop} {w : World} (hn : ¬ D0 kb ∧ ¬ D0 ab) (h0 : St (Inv k) D0 w) (h1 : Vs w kb [.int .i64 (k : Nat)]) (h2 : Vs w ab [.func (.func g) #[] cap]) :
    St (InvIn Inv kb ab g cap k) (fun q => D0 q ∨ q = kb ∨ q = ab) w := by
  refine ⟨⟨D0, fun _ => Iff.rfl, hn, h0, h1, h2⟩, fun q hq => ?_, fun w w' ⟨D1, e, n1, g0, g1, g2⟩ hb => ⟨D1, e, n1, g0.same fun q hq => hb q ((e q).2 (.inl hq)), g1.sameC (hb kb (.inr (.inl rfl))), g2.sameC (hb ab (.inr (.inr rfl)))⟩⟩
  rcases hq with h | rfl | rfl
  · exact h0.lt q h
  · exact h1.lt
  · exact h2.lt

set_option maxHeartbeats 2000000 in
theorem asked_in {f : Nat} (y : CK) (hcl : y.calls ≤ 511) (v j : KL f) (part : Fin (Pm f)) (g : Nat) (cap : Array Value) (Inv : Nat → (Nat → Prop) → World → Prop) (ans : Nat → Fin (Pm f)) (HA : AskedA y v j part g cap Inv ans) (kb ab : Nat) (hne : kb ≠ ab) :
    Asked y v j part 78 #[.pointer (some ⟨kb, 0, none⟩), .pointer (some ⟨ab, 0, none⟩)] (InvIn Inv kb ab g cap) ans 0 := by
  refine ⟨fun args w => by kernel_rfl, fun k D w va hk hst hv => ?_⟩
  obtain ⟨D0, hD, ⟨nk, na⟩, h0, hkb, hab⟩ := hst.here
  have HENT := HA.ent
  have HRUN := Lib.hid HA.run
  have hkl : k ≤ 511 := by omega
  obtain ⟨k2, hk2⟩ : ∃ k2, k + 1 = k2 := ⟨_, rfl⟩
  rw [hk2]
  have hw1 : IntKind.i64.wrap ((k : Int) + 1) = (k2 : Int) := by rw [IntWalk.i64_in _ (by omega)]; omega
  have hw2 : (k2 : Int) - 1 = (k : Int) := by omega
  have hw3 : IntKind.i64.wrap (k : Int) = (k : Int) := IntWalk.i64_in _ (by omega)
  have HK2 := Lib.hid hk2
  have hexc : Exc D w.heap.size w w := exc_of (Below.refl _ _)
  have HD := Lib.hid hD
  have hlt0 : ∀ q, D q → q < w.heap.size := hst.lt
  clear hst HA hD hk2
  show Calls Try.prog 78 #[va, .pointer (some ⟨kb, 0, none⟩), .pointer (some ⟨ab, 0, none⟩)] w _
  go_enter Try.func78, Try.ntmps78
  go_upto_region 1 with fail
  have hkw := hkb.lt
  have haw := hab.lt
  have n0 : ¬ D0 w.heap.size := fun h => by have := h0.lt _ h; omega
  have s0 := V2.new w (.int .u64 0) (.int .u64 0) 41
  have hbA : Below w.heap.size w (w.alloc (.cells #[.int .u64 0, .int .u64 0] 41)) := by repeat (first | exact Below.refl _ _ | with_reducible assumption | (refine bl_alloc ?_ (Nat.le_refl _) _))
  replace hexc := hexc.call hbA
  replace hkb := hkb.call hbA
  replace hab := hab.call hbA
  replace hv := hv.call hbA
  replace h0 := h0.call hbA
  clear hbA
  generalize w.alloc (.cells #[.int .u64 0, .int .u64 0] 41) = w1 at hexc hkb hab hv h0 s0 ⊢
  obtain ⟨kb0, kb1, kb2⟩ := hkb.get1
  go_upto_region 2 with fail
  clear kb0 kb1 kb2
  have hE1 : Exc D w1.heap.size w1 (w1.setCell ⟨kb, 0, none⟩ (.int .i64 (k2 : Int))) :=
    ⟨rfl, rfl, rfl, by simp [World.setCell], fun x hx hn => Below.heap_setCell _ _ _ _ (fun e => hn ((HD.out x).2 (.inr (.inl e))))⟩
  replace hkb : Vs (w1.setCell ⟨kb, 0, none⟩ (.int .i64 (k2 : Int))) kb [.int .i64 (k2 : Int)] := hkb.put 0 (by simp) _
  replace hab := hab.far (p := ⟨kb, 0, none⟩) (by dsimp only; omega) (.int .i64 (k2 : Int))
  replace s0 := V2.setOther s0 (p := ⟨kb, 0, none⟩) (by dsimp only; omega) (.int .i64 (k2 : Int))
  replace h0 : St (Inv k) D0 (w1.setCell ⟨kb, 0, none⟩ (.int .i64 (k2 : Int))) := h0.same fun q hq => Below.heap_setCell _ _ _ _ (fun e => nk (by have h2 : q = kb := e; rw [← h2]; exact hq))
  replace hv := hv.exc hE1
  replace hexc := hexc.more hE1 (fun q hq => .inl hq)
  clear hE1
  generalize w1.setCell ⟨kb, 0, none⟩ (.int .i64 (k2 : Int)) = w2 at *
  obtain ⟨kb0, kb1, kb2⟩ := hkb.get1
  obtain ⟨ab0, ab1, ab2⟩ := hab.get1
  go_wp2_with fail
  clear kb0 kb1 kb2 ab0 ab1 ab2
  refine (HRUN.out k D0 w2 va hk h0 (hv.turn fun q hq _ => (HD.out q).2 (.inl hq))).mono ?_
  rintro e w3 ⟨rfl, D1, h1, hT, hE⟩
  obtain ⟨hkb, nk⟩ := hkb.ask nk hE hT
  obtain ⟨hab, na⟩ := hab.ask na hE hT
  obtain ⟨s0, n0⟩ := s0.ask n0 hE hT
  have hsz2 := hexc.size
  replace hexc := hexc.more hE (fun q hq => .inl ((HD.out q).2 (.inl hq)))
  clear hE
  obtain ⟨s00, s01, s02, s03, s04⟩ := V2.mk s0.c0 s0.c1 s0.f0 s0.f1 s0.lt
  go_wp2_with fail
  refine bodyPost_ret (results_v2_tmp (b := w.heap.size) (u := .int .u64 (lo (ans k))) (v := .int .u64 (hi (ans k))) ?_ rfl rfl) rfl ?_
  · exact V2.set s0 _ _
  · refine ⟨rfl, _, InvIn.st ⟨nk, na⟩ (by rw [← HK2.out] at *; exact h1.st n0 _ _) ((hkb.far (by dsimp only; omega) _).far (by dsimp only; omega) _) ((hab.far (by dsimp only; omega) _).far (by dsimp only; omega) _), fun q hq => ?_, hexc.st (Nat.le_refl _) _ _⟩
    rcases hq with h | h
    · rcases hT q h with h2 | h2
      · exact .inl ((HD.out q).2 (.inl h2))
      · exact .inr (by omega)
    · exact .inl ((HD.out q).2 (.inr h))

end Go.Proofs.Ytiphahbeedeebaa

namespace Go.Proofs.Ytiphahbeedeebaa
open Go.RowKit Fm
set_option linter.unusedVariables false
set_option maxRecDepth 100000

section
variable {f : Nat} (hf : IsF f)
include hf

set_option maxHeartbeats 4000000 in
theorem closure_go (y : CK) (hy : y.ok) (hcl : y.calls ≤ 511) (part : Fin (Pm f)) (sh : Nat) (hsh : sh = 1 ∨ sh = 2) (hpart : part = kinv (nK f sh)) (v j : KL f) (g : Nat) (cap : Array Value) (Inv : Nat → (Nat → Prop) → World → Prop) (ans : Nat → Fin (Pm f))
    (HA : AskedA y v j part g cap Inv ans) (hl : v.length = y.nin) (hjl : j.length = y.joint) (vl vj : Value) (yb jb : Nat) (D0 : Nat → Prop) (w : World) (hin : SlX D0 w vl v) (hjo : SlX D0 w vj j)
    (hyb : Vs w yb [.int .u8 (y.k : Nat), .int .u8 f, .int .i64 (y.b : Nat), .int .i64 (y.l : Nat), .int .i64 (y.m : Nat), .int .i64 (y.c : Nat)]) (hjb : Vs w jb [vj]) (hst : St (Inv 0) D0 w) :
    Calls Try.prog 77 #[vl, .int .i64 (sh : Nat), .func (.func g) #[] cap, .pointer (some ⟨yb, 0, none⟩), .pointer (some ⟨jb, 0, none⟩)] w fun e w' => e = .returned (.tuple #[vK (runF y v j part ans), .int .i64 0]) ∧
      ∃ D', St (Inv y.calls) D' w' ∧ (∀ q, D' q → D0 q ∨ w.heap.size ≤ q) ∧ Exc D0 w.heap.size w w' := by
  have hmf : ∀ (fn : Fn) (first cap : Array Value) (w : World), (Instr.makeFunc fn first cap).run Try.prog w = .ok (.func fn first cap) w := fun _ _ _ _ => rfl
  have HR : Hid (∀ kb ab D wz, kb ≠ ab → SlX D wz vl v → SlX D wz vj j → St (InvIn Inv kb ab g cap 0) D wz → Calls Try.prog 73 #[y.val f, vl, vj, .int .i64 (sh : Nat), .func (.func 78) #[] #[.pointer (some ⟨kb, 0, none⟩), .pointer (some ⟨ab, 0, none⟩)]] wz fun e w' =>
      e = .returned (.tuple #[vK (runF y v j part ans), .int .i64 0]) ∧ ∃ D', St (InvIn Inv kb ab g cap y.calls) D' w' ∧ (∀ q, D' q → D q ∨ wz.heap.size ≤ q) ∧ Exc D wz.heap.size wz w') := fun kb ab D wz hne h1 h2 h3 => by
    refine (circuit_RunOk hf y hy hcl part sh hsh hpart v j _ _ D _ ans 0 (asked_in y hcl v j part g cap Inv ans HA kb ab hne) hl hjl vl vj wz h1 h2 h3).mono ?_
    rintro e w' ⟨⟨_, rfl, D', hs, hD⟩ | ⟨h0, _⟩, hE⟩
    · exact ⟨rfl, D', hs, hD, hE⟩
    · exact absurd rfl h0
  obtain ⟨z, hz⟩ : ∃ z, runF y v j part ans = z := ⟨_, rfl⟩
  rw [hz] at HR ⊢
  generalize y.calls = nc at *
  unfold CK.val at HR
  generalize ((y.k : Nat) : Int) = K at *
  generalize ((y.b : Nat) : Int) = B at *
  generalize ((y.l : Nat) : Int) = N at *
  generalize ((y.m : Nat) : Int) = M at *
  generalize ((y.c : Nat) : Int) = C at *
  clear hz hpart hsh HA hy hl hjl
  obtain ⟨A1, c1, rfl, hc1, hm1, hA1⟩ := id hin
  obtain ⟨A2, c2, rfl, hc2, hm2, hA2⟩ := id hjo
  clear hA1 hA2 hc1 hm1 hc2 hm2
  have HIN := Lib.hid hin
  have HJO := Lib.hid hjo
  clear hin hjo
  generalize v.length = ni at *
  generalize j.length = nj at *
  have hexc : Exc D0 w.heap.size w w := exc_of (Below.refl _ _)
  have hlt0 := hst.lt
  have hyw := hyb.lt
  have hjw := hjb.lt
  go_enter Try.func77, Try.ntmps77
  go_upto_region 1 with fail
  have ha := (Vs.new w [.func (.func g) #[] cap] #[.func (.func g) #[] cap] 115 rfl).alloc (.cells #[.int .u64 0, .int .u64 0] 41)
  have s0 := V2.new (w.alloc (.cells #[.func (.func g) #[] cap] 115)) (.int .u64 0) (.int .u64 0) 41
  simp only [World.size_alloc] at s0
  have hb00 : Below w.heap.size w ((w.alloc (.cells #[.func (.func g) #[] cap] 115)).alloc (.cells #[.int .u64 0, .int .u64 0] 41)) := by repeat (first | exact Below.refl _ _ | with_reducible assumption | (refine bl_alloc ?_ (Nat.le_refl _) _))
  have hszn : w.heap.size + 2 ≤ ((w.alloc (.cells #[.func (.func g) #[] cap] 115)).alloc (.cells #[.int .u64 0, .int .u64 0] 41)).heap.size := by simp only [World.size_alloc]; omega
  generalize ((w.alloc (.cells #[.func (.func g) #[] cap] 115)).alloc (.cells #[.int .u64 0, .int .u64 0] 41)) = w1 at ha s0 hb00 hszn ⊢
  replace hexc := hexc.call hb00
  replace hyb := hyb.call hb00
  replace hjb := hjb.call hb00
  replace hst := hst.call hb00
  have hb0 := hb00
  clear hb00
  go_upto_region 2 with fail
  have hk := Vs.new w1 [.int .i64 0] #[.int .i64 0] 3 rfl
  have hbA : Below w1.heap.size w1 (w1.alloc (.cells #[.int .i64 0] 3)) := by repeat (first | exact Below.refl _ _ | with_reducible assumption | (refine bl_alloc ?_ (Nat.le_refl _) _))
  replace hexc := hexc.call hbA
  replace hyb := hyb.call hbA
  replace hjb := hjb.call hbA
  replace hst := hst.call hbA
  replace ha := ha.call hbA
  replace s0 := s0.call hbA
  clear hbA
  generalize w1.alloc (.cells #[.int .i64 0] 3) = w2 at hexc hyb hjb hst ha s0 hk ⊢
  obtain ⟨kb, hkb⟩ : ∃ kb, w1.heap.size = kb := ⟨_, rfl⟩
  have hs12 : w1.heap.size < w2.heap.size := hk.lt
  rw [hkb] at hk hs12 hszn
  simp only [hkb]
  clear hkb
  have hsz2 := hexc.size
  have hS2 : St (InvIn Inv kb w.heap.size g cap 0) (fun q => D0 q ∨ q = kb ∨ q = w.heap.size) w2 := InvIn.st ⟨fun h => by have := hlt0 _ h; omega, fun h => by have := hlt0 _ h; omega⟩ hst hk ha
  have hT0 : ∀ q, (D0 q ∨ q = kb ∨ q = w.heap.size) → q < w.heap.size → D0 q := fun q hq hlt => hq.elim id fun h => by omega
  have HI2 := Lib.hid ((HIN.out.turn (T := fun q => D0 q ∨ q = kb ∨ q = w.heap.size) hT0).exc (hexc.less fun _ _ h => .inl h))
  have HJ2 := Lib.hid ((HJO.out.turn (T := fun q => D0 q ∨ q = kb ∨ q = w.heap.size) hT0).exc (hexc.less fun _ _ h => .inl h))
  have n0 : ¬ (D0 (w.heap.size + 1) ∨ w.heap.size + 1 = kb ∨ w.heap.size + 1 = w.heap.size) := fun h => by
    rcases h with h | h | h
    · have := hlt0 _ h; omega
    · omega
    · omega
  obtain ⟨⟨yb0, yb1, yb2, yb3, yb4, yb5⟩, ⟨yb6, yb7, yb8, yb9, yb10, yb11⟩, yb12⟩ := hyb.get6
  obtain ⟨jb0, jb1, jb2⟩ := hjb.get1
  go_wp2_with fail
  clear yb0 yb1 yb2 yb3 yb4 yb5 yb6 yb7 yb8 yb9 yb10 yb11 yb12 jb0 jb1 jb2
  refine (HR.out kb w.heap.size _ w2 (by omega) HI2.out HJ2.out hS2).mono ?_
  rintro e w3 ⟨rfl, D1, hs1, hT, hE⟩
  obtain ⟨D2, h2, ⟨nk, na⟩, hst2, _, _⟩ := hs1.here
  have n1 : ¬ D1 (w.heap.size + 1) := fun h => (hT _ h).elim n0 fun h => by omega
  have n2 : ¬ D2 (w.heap.size + 1) := fun h => n1 ((h2 _).2 (.inl h))
  replace s0 := s0.exc n0 hE
  replace hexc := hexc.more hE (fun q hq => hq.imp_right fun h => by omega)
  obtain ⟨s00, s01, s02, s03, s04⟩ := V2.mk s0.c0 s0.c1 s0.f0 s0.f1 s0.lt
  go_wp2_with fail
  refine bodyPost_ret (results_v2_tmp (b := w.heap.size + 1) (u := .int .u64 (lo z)) (v := .int .u64 (hi z)) ?_ rfl rfl) rfl ?_
  · exact V2.set s0 _ _
  · refine ⟨rfl, D2, hst2.st n2 _ _, fun q hq => ?_, hexc.st (by omega) _ _⟩
    rcases hT q ((h2 q).2 (.inl hq)) with (h | h) | h
    · exact .inl h
    · exact .inr (by omega)
    · exact .inr (by omega)
end

end Go.Proofs.Ytiphahbeedeebaa

namespace Go.Proofs.Ytiphahbeedeebaa
open Go.RowKit Fm
set_option linter.unusedVariables false
set_option maxRecDepth 100000

/-- a slice of elements reads as l; its row is one of D's -/
def SlD {f : Nat} (D : Nat → Prop) (w : World) (A : Option Addr) (c : Nat) (l : KL f) : Prop := ∃ b o, A = some ⟨b, o, none⟩ ∧ D b ∧ b < w.heap.size ∧ RowE w b o (esK l)
theorem SlD.same {f : Nat} {D : Nat → Prop} {w w' : World} {A : Option Addr} {c : Nat} {l : KL f} (h : SlD D w A c l) (hb : ∀ q, D q → w'.heap[q]? = w.heap[q]?) : SlD D w' A c l := by
  obtain ⟨b, o, h1, h2, h3, h4⟩ := h
  exact ⟨b, o, h1, h2, lt_same h3 (hb b h2), fun i e hi => ⟨(World.cell?_of_block (w := w) (a := ⟨b, o + i * 2, none⟩) (hb b h2)).trans (h4 i e hi).1, (World.cell?_of_block (w := w) (a := ⟨b, o + i * 2 + 1, none⟩) (hb b h2)).trans (h4 i e hi).2⟩⟩

/-- what the third answer holds -/
def InvThree {f : Nat} (fb wb pb n : Nat) (wl pl : KL f) (A1 A2 : Option Addr) (c1 c2 : Nat) (k : Nat) (D : Nat → Prop) (w : World) : Prop :=
  (D fb ∧ D wb ∧ D pb) ∧ (Vs w fb [.int .u8 f] ∧ Vs w wb [.slice A1 n c1] ∧ Vs w pb [.slice A2 n c2]) ∧ SlD D w A1 c1 wl ∧ SlD D w A2 c2 pl
theorem InvThree.st {f : Nat} {fb wb pb n : Nat} {wl pl : KL f} {A1 A2 : Option Addr} {c1 c2 : Nat} {k : Nat} {D : Nat → Prop} {w : World} (h : InvThree fb wb pb n wl pl A1 A2 c1 c2 k D w) (hlt : ∀ q, D q → q < w.heap.size) :
    St (InvThree fb wb pb n wl pl A1 A2 c1 c2 k) D w :=
  ⟨h, hlt, fun w w' ⟨⟨d1, d2, d3⟩, ⟨g1, g2, g3⟩, g4, g5⟩ hb => ⟨⟨d1, d2, d3⟩, ⟨g1.sameC (hb _ d1), g2.sameC (hb _ d2), g3.sameC (hb _ d3)⟩, g4.same hb, g5.same hb⟩⟩

section
variable {f : Nat} (hf : IsF f)
include hf

set_option maxHeartbeats 2000000 in
theorem asked_three (y : CK) (v j : KL f) (part : Fin (Pm f)) (fb wb pb n : Nat) (wl pl : KL f) (hwl : wl.length = n) (hpl : pl.length = n) (hn : y.calls ≤ n) (A1 A2 : Option Addr) (c1 c2 : Nat) :
    AskedA y v j part 81 #[.pointer (some ⟨fb, 0, none⟩), .pointer (some ⟨wb, 0, none⟩), .pointer (some ⟨pb, 0, none⟩)] (InvThree fb wb pb n wl pl A1 A2 c1 c2) (fun k => wl.getD k 0 - pl.getD k 0) := by
  refine ⟨fun args w => by kernel_rfl, fun k D w va hk hst hv => ?_⟩
  have hlt0 := hst.lt
  obtain ⟨⟨d1, d2, d3⟩, ⟨hfb, hwb, hpb⟩, ⟨b1, o1, rfl, e1, l1, r1⟩, b2, o2, rfl, e2, l2, r2⟩ := hst.here
  obtain ⟨x, hx⟩ : ∃ e, wl[k]? = some e := ⟨_, List.getElem?_eq_getElem (by omega)⟩
  obtain ⟨z, hz⟩ : ∃ e, pl[k]? = some e := ⟨_, List.getElem?_eq_getElem (by omega)⟩
  have hst1 := hst
  clear hst
  have HST : Hid (∀ w', Below w.heap.size w w' → St (InvThree fb wb pb n wl pl (some ⟨b1, o1, none⟩) (some ⟨b2, o2, none⟩) c1 c2 (k + 1)) D w') := fun w' hb => InvThree.st ⟨⟨d1, d2, d3⟩, ⟨hfb.call hb, hwb.call hb, hpb.call hb⟩, ⟨b1, o1, rfl, e1, Nat.lt_of_lt_of_le l1 hb.size, r1.call hb⟩, b2, o2, rfl, e2, Nat.lt_of_lt_of_le l2 hb.size, r2.call hb⟩ (fun q hq => Nat.lt_of_lt_of_le (hlt0 q hq) hb.size)
  have HSUB := Lib.hid (fun (x y : Fin (Pm f)) wz => field_SubK hf x y wz)
  show Calls Try.prog 81 #[.int .i64 (k : Nat), va, .pointer (some ⟨fb, 0, none⟩), .pointer (some ⟨wb, 0, none⟩), .pointer (some ⟨pb, 0, none⟩)] w fun e w' => e = .returned (vK (wl.getD k 0 - pl.getD k 0)) ∧ _
  rw [getD_of hx, getD_of hz]
  have R1 := Lib.hid r1
  have R2 := Lib.hid r2
  have HX := Lib.hid hx
  have HZ := Lib.hid hz
  have hkn : k < n := by omega
  clear hst1 d1 d2 d3 e1 e2 r1 r2 hx hz hv hlt0 hwl hpl hn
  have hb00 : Below w.heap.size w w := Below.refl _ _
  go_enter Try.func81, Try.ntmps81
  go_upto_region 1 with fail
  have s0 := V2.new w (.int .u64 0) (.int .u64 0) 41
  have hbA : Below w.heap.size w (w.alloc (.cells #[.int .u64 0, .int .u64 0] 41)) := by repeat (first | exact Below.refl _ _ | with_reducible assumption | (refine bl_alloc ?_ (Nat.le_refl _) _))
  replace hb00 := bl_call hb00 (Nat.le_refl _) hbA
  replace hfb := hfb.call hbA
  replace hwb := hwb.call hbA
  replace hpb := hpb.call hbA
  clear hbA
  generalize w.alloc (.cells #[.int .u64 0, .int .u64 0] 41) = w1 at hb00 hfb hwb hpb s0 ⊢
  obtain ⟨a0, a1⟩ := (R1.out.below hb00 l1).kat HX.out
  obtain ⟨a2, a3⟩ := (R2.out.below hb00 l2).kat HZ.out
  have m1 := lt_of_cell a0
  have m2 := lt_of_cell a2
  dsimp only at m1 m2
  obtain ⟨fb0, fb1, fb2⟩ := hfb.get1
  obtain ⟨wb0, wb1, wb2⟩ := hwb.get1
  obtain ⟨pb0, pb1, pb2⟩ := hpb.get1
  refine region_B (n := 10) (m := 11) (f := 10) (by kernel_rfl) (by kernel_rfl) rfl ?_
  refine WpH.takeD 0 (some 8) (v := ?_) rfl rfl (by kernel_rfl) (fun _ _ _ h => h) (.val rfl (fun wz hwz => ?_)) ?_
  rotate_left
  · (obtain ⟨hcz, hfz⟩ := bcell hwz; go_simp; try (with_reducible rfl))
  (simp only [Act.put]); (try simp only [List.setIfInBounds_toArray]); (try simp only [List.set_cons_succ]); (try simp only [List.set_cons_zero])
  refine WpH.takeD 1 (some 9) (v := ?_) rfl rfl (by kernel_rfl) (fun _ _ _ h => h) (.val rfl (fun wz hwz => ?_)) ?_
  rotate_left
  · (obtain ⟨hcz, hfz⟩ := bcell hwz; go_simp; try (with_reducible rfl))
  (simp only [Act.put]); (try simp only [List.setIfInBounds_toArray]); (try simp only [List.set_cons_succ]); (try simp only [List.set_cons_zero])
  refine WpH.takeD 2 (some 10) (v := ?_) rfl rfl (by kernel_rfl) (fun _ _ _ h => h) (.val rfl (fun wz hwz => ?_)) ?_
  rotate_left
  · go_simp; try (with_reducible rfl)
  (simp only [Act.put]); (try simp only [List.setIfInBounds_toArray]); (try simp only [List.set_cons_succ]); (try simp only [List.set_cons_zero])
  refine WpH.takeD 3 (some 11) (v := ?_) rfl rfl (by kernel_rfl) (fun _ _ _ h => h) (.val rfl (fun wz hwz => ?_)) ?_
  rotate_left
  · go_simp; try (with_reducible rfl)
  (simp only [Act.put]); (try simp only [List.setIfInBounds_toArray]); (try simp only [List.set_cons_succ]); (try simp only [List.set_cons_zero])
  refine WpH.takeD 4 (some 12) (v := ?_) rfl rfl (by kernel_rfl) (fun _ _ _ h => h) (.val rfl (fun wz hwz => ?_)) ?_
  rotate_left
  · (obtain ⟨hcz, hfz⟩ := bcell hwz; go_simp; try (with_reducible rfl))
  (simp only [Act.put]); (try simp only [List.setIfInBounds_toArray]); (try simp only [List.set_cons_succ]); (try simp only [List.set_cons_zero])
  refine WpH.takeD 5 (some 13) (v := ?_) rfl rfl (by kernel_rfl) (fun _ _ _ h => h) (.val rfl (fun wz hwz => ?_)) ?_
  rotate_left
  · (obtain ⟨hcz, hfz⟩ := bcell hwz; go_simp; try (with_reducible rfl))
  (simp only [Act.put]); (try simp only [List.setIfInBounds_toArray]); (try simp only [List.set_cons_succ]); (try simp only [List.set_cons_zero])
  refine WpH.takeD 6 (some 14) (v := ?_) rfl rfl (by kernel_rfl) (fun _ _ _ h => h) (.val rfl (fun wz hwz => ?_)) ?_
  rotate_left
  · go_simp; try (with_reducible rfl)
  (simp only [Act.put]); (try simp only [List.setIfInBounds_toArray]); (try simp only [List.set_cons_succ]); (try simp only [List.set_cons_zero])
  refine WpH.takeD 7 (some 15) (v := ?_) rfl rfl (by kernel_rfl) (fun _ _ _ h => h) (.val rfl (fun wz hwz => ?_)) ?_
  rotate_left
  · go_simp; try (with_reducible rfl)
  (simp only [Act.put]); (try simp only [List.setIfInBounds_toArray]); (try simp only [List.set_cons_succ]); (try simp only [List.set_cons_zero])
  refine WpH.takeD 8 (some 16) (v := ?_) rfl rfl (by kernel_rfl) (fun _ _ _ h => h) (.val rfl (fun wz hwz => ?_)) ?_
  rotate_left
  · (obtain ⟨hcz, hfz⟩ := bcell hwz; go_simp; try (with_reducible rfl))
  (simp only [Act.put]); (try simp only [List.setIfInBounds_toArray]); (try simp only [List.set_cons_succ]); (try simp only [List.set_cons_zero])
  refine WpH.takeD 9 (some 17) rfl rfl (by kernel_rfl) (fun _ _ _ h => h) (.call rfl (fun wz hwz => HSUB.out x z wz) (fun wz hwz => ?_)) ?_
  · go_simp; try (with_reducible rfl)
  (simp only [Act.put]); (try simp only [List.setIfInBounds_toArray]); (try simp only [List.set_cons_succ]); (try simp only [List.set_cons_zero])
  refine WpH.doneB (by kernel_rfl) (fun w2 hw2 => ?_)
  (try simp only [List.drop_succ_cons]); (try simp only [List.drop_zero]); (try simp only [Nat.reduceSub]); (try simp only [List.take_succ_cons]); (try simp only [List.take_zero])
  clear fb0 fb1 fb2 wb0 wb1 wb2 pb0 pb1 pb2
  clear a0 a1 a2 a3 m1 m2
  replace hb00 := bl_call hb00 (Nat.le_refl _) hw2
  replace hfb := hfb.call hw2
  replace hwb := hwb.call hw2
  replace hpb := hpb.call hw2
  replace s0 := s0.call hw2
  obtain ⟨s00, s01, s02, s03, s04⟩ := V2.mk s0.c0 s0.c1 s0.f0 s0.f1 s0.lt
  go_wp2_with fail
  refine bodyPost_ret (results_v2 (b := w.heap.size) (u := .int .u64 (lo (x - z))) (v := .int .u64 (hi (x - z))) ?_ rfl rfl) rfl ?_
  · exact V2.set s0 _ _
  · have hbz : Below w.heap.size w ((w2.setCell ⟨w.heap.size, 0, none⟩ (.int .u64 (lo (x - z)))).setCell ⟨w.heap.size, 1, none⟩ (.int .u64 (hi (x - z)))) := bl_st hb00 (Nat.le_refl _) _ _
    exact ⟨rfl, D, HST.out _ hbz, fun q hq => .inl hq, exc_of hbz⟩
end

end Go.Proofs.Ytiphahbeedeebaa

namespace Go.Proofs.Ytiphahbeedeebaa
open Go.RowKit Fm
set_option linter.unusedVariables false
set_option maxRecDepth 100000

theorem own_same {w w' : World} {base : Nat} {e : TypeId} {size : Nat} {v : Value} {n : Nat} {xs : List Value} (h : w.ownsRow base e size v n xs) (hb : ∀ q, v.ownBlock = some q → w'.heap[q]? = w.heap[q]?) : w'.ownsRow base e size v n xs := by
  refine ⟨h.1, ?_⟩
  rcases h.2 with h | ⟨g, cap, cur, rfl, h2, h3, h4⟩
  · exact .inl h
  · exact .inr ⟨g, cap, cur, rfl, h2, (hb g rfl).trans h3, h4⟩

/-- a list of its own, in a variable: its row is one of D's, and none of Fx's -/
def LstB {f : Nat} (Fx : Nat → Prop) (bx : Nat) (l : KL f) (D : Nat → Prop) (w : World) : Prop :=
  ∃ A cp, Vs w bx [.slice A l.length cp] ∧ w.ownsRow 0 41 2 (.slice A l.length cp) l.length (cellsE (esK l)) ∧ ∀ q, (Value.slice A l.length cp).ownBlock = some q → D q ∧ ¬ Fx q
theorem LstB.same {f : Nat} {Fx : Nat → Prop} {bx : Nat} {l : KL f} {D : Nat → Prop} {w w' : World} (h : LstB Fx bx l D w) (hx : D bx) (hb : ∀ q, D q → w'.heap[q]? = w.heap[q]?) : LstB Fx bx l D w' := by
  obtain ⟨A, cp, h1, h2, h3⟩ := h
  exact ⟨A, cp, h1.sameC (hb bx hx), own_same h2 fun q hq => hb q (h3 q hq).1, h3⟩

theorem grow_all {D Fx : Nat → Prop} {w5 w6 : World} {old new : Value} {pb : Nat} (x : Value) (hG : w5.grownBy w6 old.ownBlock) (hat : new.ownBlock = old.ownBlock ∨ new.ownBlock = some w5.heap.size) (hold : ∀ q, old.ownBlock = some q → D q ∧ ¬ Fx q)
    (hFx : ∀ q, Fx q → q < w5.heap.size) (hpF : Fx pb) (hpD : D pb) :
    (∀ q, Fx q → q ≠ pb → (w6.setCell ⟨pb, 0, none⟩ x).heap[q]? = w5.heap[q]?) ∧ Exc D w5.heap.size w5 (w6.setCell ⟨pb, 0, none⟩ x) ∧ ∀ q, new.ownBlock = some q → (D q ∨ w5.heap.size ≤ q) ∧ ¬ Fx q ∧ (w6.setCell ⟨pb, 0, none⟩ x).heap[q]? = w6.heap[q]? := by
  refine ⟨fun q hq hne => ?_, ⟨hG.os, hG.tape, hG.output, by simpa [World.setCell] using hG.size, fun q hq hn => ?_⟩, fun q hq => ?_⟩
  · rw [Below.heap_setCell _ _ _ _ hne]
    exact hG.block q (hFx q hq) fun e => (hold q e.symm).2 hq
  · rw [Below.heap_setCell _ _ _ _ (fun e => hn (by have h2 : q = pb := e; rw [h2]; exact hpD))]
    exact hG.block q hq fun e => hn (hold q e.symm).1
  · rcases hat with h | h
    · have h2 := hold q (by rw [← h]; exact hq)
      exact ⟨.inl h2.1, h2.2, Below.heap_setCell _ _ _ _ (fun e => h2.2 (by have h3 : q = pb := e; rw [h3]; exact hpF))⟩
    · rw [h] at hq
      injection hq with hq
      subst hq
      exact ⟨.inr (Nat.le_refl _), fun hx => by have := hFx _ hx; omega, Below.heap_setCell _ _ _ _ (fun e => by have h3 : w5.heap.size = pb := e; have := hFx _ hpF; omega)⟩

/-- the answers one behind the other -/
def ansL {f : Nat} (ans : Nat → Fin (Pm f)) : Nat → KL f
  | 0 => []
  | k + 1 => ansL ans k ++ [ans k]
theorem ansL_length {f : Nat} (ans : Nat → Fin (Pm f)) : ∀ k, (ansL ans k).length = k
  | 0 => rfl
  | k + 1 => by show (ansL ans k ++ [ans k]).length = _; rw [List.length_append, ansL_length ans k]; rfl
theorem ansL_at {f : Nat} (ans : Nat → Fin (Pm f)) : ∀ k i, i < k → (ansL ans k)[i]? = some (ans i)
  | 0, i, h => by omega
  | k + 1, i, h => by
    have hl := ansL_length ans k
    show (ansL ans k ++ [ans k])[i]? = _
    by_cases hi : i < k
    · rw [List.getElem?_append_left (by omega)]
      exact ansL_at ans k i hi
    · rw [List.getElem?_append_right (by omega), hl, show i - k = 0 by omega]
      rw [show i = k by omega]
      rfl

/-- the drawn answers -/
def ansTwo (f : Nat) (ys : List E) (k : Nat) : Fin (Pm f) := if ys.length = 0 then 0 else kE f (ys.getD (k % ys.length) (0, 0))

def FxTwo (fb ab pb : Nat) (rb : Option Nat) (q : Nat) : Prop := q = fb ∨ q = ab ∨ q = pb ∨ rb = some q
/-- what the second answer holds -/
def InvTwo (f : Nat) (w0 : World) (av : Value) (rb : Option Nat) (ys : List E) (fb ab pb : Nat) (k : Nat) (D : Nat → Prop) (w : World) : Prop :=
  (D fb ∧ D ab ∧ D pb) ∧ (Vs w fb [.int .u8 f] ∧ Vs w ab [av]) ∧ (∀ q, rb = some q → D q ∧ w.heap[q]? = w0.heap[q]?) ∧ LstB (FxTwo fb ab pb rb) pb (ansL (ansTwo f ys) k) D w
theorem InvTwo.st {f : Nat} {w0 : World} {av : Value} {rb : Option Nat} {ys : List E} {fb ab pb k : Nat} {D : Nat → Prop} {w : World} (h : InvTwo f w0 av rb ys fb ab pb k D w) (hlt : ∀ q, D q → q < w.heap.size) : St (InvTwo f w0 av rb ys fb ab pb k) D w :=
  ⟨h, hlt, fun w w' ⟨⟨d1, d2, d3⟩, ⟨g1, g2⟩, g3, g4⟩ hb => ⟨⟨d1, d2, d3⟩, ⟨g1.sameC (hb _ d1), g2.sameC (hb _ d2)⟩, fun q hq => ⟨(g3 q hq).1, (hb q (g3 q hq).1).trans (g3 q hq).2⟩, g4.same d3 hb⟩⟩

end Go.Proofs.Ytiphahbeedeebaa

namespace Go.Proofs.Ytiphahbeedeebaa
open Go.RowKit Fm
set_option linter.unusedVariables false
set_option maxRecDepth 100000

section
variable {f : Nat} (hf : IsF f)
include hf

set_option maxHeartbeats 4000000 in
theorem asked_two (y : CK) (hcl : y.calls ≤ 511) (v j : KL f) (part : Fin (Pm f)) (w0 : World) (A : Option Addr) (cp0 : Nat) (ys : List E) (rb : Option Nat) (hok : ∀ e, e ∈ ys → okE e) (hrb : ∀ q, rb = some q → q < w0.heap.size) (hA : 0 < ys.length → ∃ b o, A = some ⟨b, o, none⟩ ∧ rb = some b ∧ RowE w0 b o ys) (h60 : ys.length ≤ 60) (fb ab pb : Nat) (hfb0 : w0.heap.size ≤ fb) (hab0 : w0.heap.size ≤ ab) (hpb0 : w0.heap.size ≤ pb) (n1 : fb ≠ pb) (n2 : ab ≠ pb) :
    AskedA y v j part 80 #[.pointer (some ⟨ab, 0, none⟩), .pointer (some ⟨fb, 0, none⟩), .pointer (some ⟨pb, 0, none⟩)] (InvTwo f w0 (.slice A ys.length cp0) rb ys fb ab pb) (ansTwo f ys) := by
  refine ⟨fun args w => by kernel_rfl, fun k D w va hk hst hv => ?_⟩
  have HAB := Lib.hid hrb
  have hlt0 := hst.lt
  obtain ⟨⟨d1, d2, d3⟩, ⟨hfb, hab⟩, hrow, A1, c1, hpb, hown, hold⟩ := hst.here
  clear hst hv
  rw [ansL_length] at hpb hown hold
  obtain ⟨x, hx⟩ : ∃ x, ansTwo f ys k = x := ⟨_, rfl⟩
  have HX := Lib.hid hx
  have hk511 : k ≤ 511 := by omega
  show Calls Try.prog 80 #[.int .i64 (k : Nat), va, .pointer (some ⟨ab, 0, none⟩), .pointer (some ⟨fb, 0, none⟩), .pointer (some ⟨pb, 0, none⟩)] w fun e w' => e = .returned (vK (ansTwo f ys k)) ∧ _
  rw [hx]
  have hfI0 : (1 : Int) ≤ (f : Int) := by rcases hf.or with rfl | rfl <;> omega
  have hfI1 : (f : Int) ≤ 2 := by rcases hf.or with rfl | rfl <;> omega
  have hwf : IntKind.i64.wrap (f : Int) = (f : Int) := IntWalk.i64_in _ (by omega)
  have HROW := Lib.hid hrow
  have HOLD := Lib.hid hold
  have HLT0 := Lib.hid hlt0
  have hb00 : Below w.heap.size w w := Below.refl _ _
  clear hx hrow hold hlt0
  go_enter Try.func80, Try.ntmps80
  go_upto_region 1 with fail
  have s0 := V2.new w (.int .u64 0) (.int .u64 0) 41
  have hbA : Below w.heap.size w (w.alloc (.cells #[.int .u64 0, .int .u64 0] 41)) := by repeat (first | exact Below.refl _ _ | with_reducible assumption | (refine bl_alloc ?_ (Nat.le_refl _) _))
  replace hb00 := bl_call hb00 (Nat.le_refl _) hbA
  replace hfb := hfb.call hbA
  replace hab := hab.call hbA
  replace hpb := hpb.call hbA
  replace hown := own_call hown hbA
  clear hbA
  generalize w.alloc (.cells #[.int .u64 0, .int .u64 0] 41) = w1 at hb00 hfb hab hpb hown s0 ⊢
  go_upto_region 2 with fail
  have hs1 : w.heap.size < w1.heap.size := s0.lt
  have hy := V2.new w1 (.int .u64 0) (.int .u64 0) 41
  have hbA : Below w1.heap.size w1 (w1.alloc (.cells #[.int .u64 0, .int .u64 0] 41)) := by repeat (first | exact Below.refl _ _ | with_reducible assumption | (refine bl_alloc ?_ (Nat.le_refl _) _))
  replace hb00 := bl_call hb00 (Nat.le_refl _) hbA
  replace hfb := hfb.call hbA
  replace hab := hab.call hbA
  replace hpb := hpb.call hbA
  replace hown := own_call hown hbA
  replace s0 := s0.call hbA
  clear hbA
  generalize w1.alloc (.cells #[.int .u64 0, .int .u64 0] 41) = w2 at hb00 hfb hab hpb hown s0 hy ⊢
  obtain ⟨yb, hyb⟩ : ∃ yb, w1.heap.size = yb := ⟨_, rfl⟩
  rw [hyb] at hy hs1
  simp only [hyb]
  clear hyb
  obtain ⟨ab0, ab1, ab2⟩ := hab.get1
  by_cases hl0 : 0 < ys.length
  rotate_left
  · go_upto_region 4 with fail
    clear ab0 ab1 ab2
    have hx0 : x = 0 := by rw [← HX.out]; unfold ansTwo; rw [if_pos (by omega)]
    replace hy : V2 w2 yb (.int .u64 (lo x)) (.int .u64 (hi x)) := by rw [hx0, lo_zero, hi_zero]; exact hy
    clear hx0
    generalize w2 = w5 at *
    have hbA : Below w5.heap.size w5 (w5.alloc (.cells #[.int .u64 (lo x), .int .u64 (hi x)] 41)) := by repeat (first | exact Below.refl _ _ | with_reducible assumption | (refine bl_alloc ?_ (Nat.le_refl _) _) | (refine bl_set ?_ (by dsimp only; omega) _) | (refine Below.drew ?_) | (refine bl_drewN ?_ _) | (refine bl_call ?_ (Nat.le_refl _) (by assumption)))
    have HRW : Hid (0 < 1 → ∃ b o, (some ⟨w5.heap.size, 0, none⟩ : Option Addr) = some ⟨b, o, none⟩ ∧ RowE (w5.alloc (.cells #[.int .u64 (lo x), .int .u64 (hi x)] 41)) b o [eK x]) := fun _ => ⟨_, _, rfl, (BlkE.new w5 [eK x] _ rfl).rowE⟩
    have HOW := Lib.hid (own_call hown hbA)
    have hp5 := hpb.call hbA
    have hy5 := hy.call hbA
    have hf5 := hfb.call hbA
    have ha5 := hab.call hbA
    have hs5 := s0.call hbA
    have hbw5 := bl_call hb00 (Nat.le_refl _) hbA
    have hsz5 := hbw5.size
    have hk11 : k + 1 ≤ 1099511627776 := by omega
    obtain ⟨pb0, pb1, pb2⟩ := hpb.get1
    obtain ⟨y0, y1, y2, y3, y4⟩ := V2.mk hy.c0 hy.c1 hy.f0 hy.f1 hy.lt
    go_upto_region 5 with (at_builtin; (refine wpList_append_E rfl (.tmp 22) (.tmp 24) rfl 0 _ k (esK (ansL (ansTwo f ys) k)) rfl HOW.out (some ⟨w5.heap.size, 0, none⟩) 1 1 [eK x] rfl rfl HRW.out hk11 (Nat.zero_le _) ?_; intro v2 w6 hown6 hg6 hat6; obtain ⟨g2, cap2, hv2⟩ := own_slice hown6; rw [hv2]; have hp6 : Vs w6 pb [.slice A1 k c1] := hp5.sameC (hg6.block pb hp5.lt (fun e => (HOLD.out pb e.symm).2 (.inr (.inr (.inl rfl))))); clear pb0 pb1 pb2; obtain ⟨pb0, pb1, pb2⟩ := hp6.get1))
    rw [hv2] at hown6 hat6
    have hFx : ∀ q, FxTwo fb ab pb rb q → q < (w5.alloc (.cells #[.int .u64 (lo x), .int .u64 (hi x)] 41)).heap.size := fun q hq => by
      rcases hq with rfl | rfl | rfl | hq
      · exact hf5.lt
      · exact ha5.lt
      · exact hp5.lt
      · exact Nat.lt_of_lt_of_le (HLT0.out q (HROW.out q hq).1) hsz5
    have hG := grow_all (D := D) (Fx := FxTwo fb ab pb rb) (.slice (some ⟨g2, 0, none⟩) (k + 1) cap2) hg6 hat6 HOLD.out hFx (.inr (.inr (.inl rfl))) d3
    have hp7 := hp6.put 0 (by simp) (.slice (some ⟨g2, 0, none⟩) (k + 1) cap2)
    have ho7 := own_same hown6 fun q hq => (hG.2.2 q hq).2.2
    have hbw6 := hbw5
    clear pb0 pb1 pb2 hown6 hg6 hat6 hv2 HRW HOW hp6 hbA
    generalize w6.setCell ⟨pb, 0, none⟩ (.slice (some ⟨g2, 0, none⟩) (k + 1) cap2) = w7 at *
    have hf7 := hf5.sameC (hG.1 fb (.inl rfl) n1)
    have ha7 := ha5.sameC (hG.1 ab (.inr (.inl rfl)) n2)
    have nD1 : ¬ D w.heap.size := fun h => by have := HLT0.out _ h; omega
    have nD2 : ¬ D yb := fun h => by have := HLT0.out _ h; omega
    have s7 := hs5.exc nD1 hG.2.1
    have y7 := hy5.exc nD2 hG.2.1
    have hexc : Exc D w.heap.size w w7 := (exc_of hbw5).trans (hG.2.1.mono hsz5)
    have hR7 : ∀ q, rb = some q → w7.heap[q]? = w0.heap[q]? := fun q hq => by
      have hq0 : q < w0.heap.size := HAB.out q hq
      rw [hG.1 q (.inr (.inr (.inr hq))) (by omega), hbw5.block q (HLT0.out q (HROW.out q hq).1), (HROW.out q hq).2]
    have hD7 : ∀ q, (D q ∨ (Value.slice (some ⟨g2, 0, none⟩) (k + 1) cap2).ownBlock = some q) → D q ∨ w.heap.size ≤ q := fun q hq => by
      rcases hq with h | h
      · exact .inl h
      · exact (hG.2.2 q h).1.imp_right fun h2 => Nat.le_trans hsz5 h2
    have hst7 : St (InvTwo f w0 (.slice A ys.length cp0) rb ys fb ab pb (k + 1)) (fun q => D q ∨ (Value.slice (some ⟨g2, 0, none⟩) (k + 1) cap2).ownBlock = some q) w7 := by
      refine InvTwo.st ⟨⟨.inl d1, .inl d2, .inl d3⟩, ⟨hf7, ha7⟩, fun q hq => ⟨.inl (HROW.out q hq).1, hR7 q hq⟩, some ⟨g2, 0, none⟩, cap2, by rw [ansL_length]; exact hp7, ?_, ?_⟩ ?_
      · rw [ansL_length, show esK (ansL (ansTwo f ys) (k + 1)) = esK (ansL (ansTwo f ys) k) ++ [eK x] by
          rw [show ansL (ansTwo f ys) (k + 1) = ansL (ansTwo f ys) k ++ [x] by rw [← HX.out]; rfl, esK_append]
          rfl]
        exact ho7
      · rw [ansL_length]
        exact fun q hq => ⟨.inr hq, (hG.2.2 q hq).2.1⟩
      · intro q hq
        rcases hq with h | h
        · exact Nat.lt_of_lt_of_le (HLT0.out q h) hexc.size
        · exact (ho7.lt q h).2
    have nD3 : ¬ (D w.heap.size ∨ (Value.slice (some ⟨g2, 0, none⟩) (k + 1) cap2).ownBlock = some w.heap.size) := fun h => by
      rcases h with h | h
      · exact nD1 h
      · rcases (hG.2.2 _ h).1 with h2 | h2
        · exact nD1 h2
        · have : w.heap.size < (w5.alloc (.cells #[.int .u64 (lo x), .int .u64 (hi x)] 41)).heap.size := hs5.lt
          omega
    clear hG hp7 ho7 hf7 ha7 hp5 hf5 ha5 hs5 hy5
    obtain ⟨s70, s71, s72, s73, s74⟩ := V2.mk s7.c0 s7.c1 s7.f0 s7.f1 s7.lt
    obtain ⟨y70, y71, y72, y73, y74⟩ := V2.mk y7.c0 y7.c1 y7.f0 y7.f1 y7.lt
    go_wp2_with fail
    refine bodyPost_ret (results_v2 (b := w.heap.size) (u := .int .u64 (lo x)) (v := .int .u64 (hi x)) ?_ rfl rfl) rfl ?_
    · exact V2.set s7 _ _
    · exact ⟨rfl, _, hst7.st nD3 _ _, hD7, hexc.st (Nat.le_refl _) _ _⟩
  · obtain ⟨b, o, hAe, hbl, hr⟩ := hA hl0
    subst hAe
    have hye : ¬ ys = [] := by intro h; rw [h] at hl0; simp at hl0
    obtain ⟨p, hp⟩ : ∃ p, k % ys.length = p := ⟨_, rfl⟩
    have hpl : p < ys.length := by rw [← hp]; exact Nat.mod_lt _ (by omega)
    obtain ⟨⟨e0, e1⟩, he⟩ : ∃ e, ys[p]? = some e := ⟨_, List.getElem?_eq_getElem hpl⟩
    obtain ⟨g0, g1, g2', g3⟩ := hok _ (List.mem_of_getElem? he)
    dsimp only at g0 g1 g2' g3
    have hbw := HLT0.out b (HROW.out b hbl).1
    have hblk : w2.heap[b]? = w0.heap[b]? := (hb00.block b hbw).trans (HROW.out b hbl).2
    have q0 := (World.cell?_of_block (w := w0) (w' := w2) (a := ⟨b, o + p * 2, none⟩) hblk).trans (hr _ _ he).1
    have q1 := (World.cell?_of_block (w := w0) (w' := w2) (a := ⟨b, o + p * 2 + 1, none⟩) hblk).trans (hr _ _ he).2
    dsimp only at q0 q1
    have hbl2 : b < w2.heap.size := lt_of_cell q0
    have HO := Lib.hid (fun wz => ref_OfL hf e0 e1 wz g0 g1 g2' g3)
    have hxe : kL f e0 e1 = x := by
      rw [← HX.out]
      unfold ansTwo
      rw [if_neg (by omega), hp, List.getD_eq_getElem?_getD, he]
      rfl
    rw [hxe] at HO
    have hkm : (k : Int).tmod (ys.length : Int) = (p : Int) := by rw [Int.tmod_eq_emod_of_nonneg (by omega), ← hp]; rfl
    have hpi : (0 : Int) ≤ (p : Int) ∧ (p : Int) < (ys.length : Int) := by omega
    clear he hxe hblk hr hp hA g0 g1 g2' g3
    go_upto_region 3 with fail
    obtain ⟨fb0, fb1, fb2⟩ := hfb.get1
    refine region_B (n := 10) (m := 11) (f := 10) (by kernel_rfl) (by kernel_rfl) rfl ?_
    refine WpH.takeD 0 (some 12) (v := ?_) rfl rfl (by kernel_rfl) (fun _ _ _ h => h) (.val rfl (fun wz hwz => ?_)) ?_
    rotate_left
    · (obtain ⟨hcz, hfz⟩ := bcell hwz; go_simp; try (with_reducible rfl))
    (simp only [Act.put]); (try simp only [List.setIfInBounds_toArray]); (try simp only [List.set_cons_succ]); (try simp only [List.set_cons_zero])
    refine WpH.takeD 1 (some 13) (v := ?_) rfl rfl (by kernel_rfl) (fun _ _ _ h => h) (.val rfl (fun wz hwz => ?_)) ?_
    rotate_left
    · go_simp; try (with_reducible rfl)
    (simp only [Act.put]); (try simp only [List.setIfInBounds_toArray]); (try simp only [List.set_cons_succ]); (try simp only [List.set_cons_zero])
    refine WpH.takeD 2 (some 14) (v := ?_) rfl rfl (by kernel_rfl) (fun _ _ _ h => h) (.val rfl (fun wz hwz => ?_)) ?_
    rotate_left
    · (obtain ⟨hcz, hfz⟩ := bcell hwz; go_simp; try (with_reducible rfl))
    (simp only [Act.put]); (try simp only [List.setIfInBounds_toArray]); (try simp only [List.set_cons_succ]); (try simp only [List.set_cons_zero])
    refine WpH.takeD 3 (some 15) (v := ?_) rfl rfl (by kernel_rfl) (fun _ _ _ h => h) (.val rfl (fun wz hwz => ?_)) ?_
    rotate_left
    · go_simp; try (with_reducible rfl)
    (simp only [Act.put]); (try simp only [List.setIfInBounds_toArray]); (try simp only [List.set_cons_succ]); (try simp only [List.set_cons_zero])
    refine WpH.takeD 4 (some 16) (v := ?_) rfl rfl (by kernel_rfl) (fun _ _ _ h => h) (.val rfl (fun wz hwz => ?_)) ?_
    rotate_left
    · (obtain ⟨hcz, hfz⟩ := bcell hwz; go_simp; try (with_reducible rfl))
    (simp only [Act.put]); (try simp only [List.setIfInBounds_toArray]); (try simp only [List.set_cons_succ]); (try simp only [List.set_cons_zero])
    refine WpH.takeD 5 (some 17) (v := ?_) rfl rfl (by kernel_rfl) (fun _ _ _ h => h) (.val rfl (fun wz hwz => ?_)) ?_
    rotate_left
    · go_simp; try (with_reducible rfl)
    (simp only [Act.put]); (try simp only [List.setIfInBounds_toArray]); (try simp only [List.set_cons_succ]); (try simp only [List.set_cons_zero])
    refine WpH.takeD 6 (some 18) (v := ?_) rfl rfl (by kernel_rfl) (fun _ _ _ h => h) (.val rfl (fun wz hwz => ?_)) ?_
    rotate_left
    · go_simp; try (with_reducible rfl)
    (simp only [Act.put]); (try simp only [List.setIfInBounds_toArray]); (try simp only [List.set_cons_succ]); (try simp only [List.set_cons_zero])
    refine WpH.takeD 7 (some 19) (v := ?_) rfl rfl (by kernel_rfl) (fun _ _ _ h => h) (.val rfl (fun wz hwz => ?_)) ?_
    rotate_left
    · go_simp; try (with_reducible rfl)
    (simp only [Act.put]); (try simp only [List.setIfInBounds_toArray]); (try simp only [List.set_cons_succ]); (try simp only [List.set_cons_zero])
    refine WpH.takeD 8 (some 20) (v := ?_) rfl rfl (by kernel_rfl) (fun _ _ _ h => h) (.val rfl (fun wz hwz => ?_)) ?_
    rotate_left
    · (obtain ⟨hcz, hfz⟩ := bcell hwz; go_simp; try (with_reducible rfl))
    (simp only [Act.put]); (try simp only [List.setIfInBounds_toArray]); (try simp only [List.set_cons_succ]); (try simp only [List.set_cons_zero])
    refine WpH.takeD 9 (some 21) rfl rfl (by kernel_rfl) (fun _ _ _ h => h) (.call rfl (fun wz hwz => HO.out wz) (fun wz hwz => ?_)) ?_
    · go_simp; try (with_reducible rfl)
    (simp only [Act.put]); (try simp only [List.setIfInBounds_toArray]); (try simp only [List.set_cons_succ]); (try simp only [List.set_cons_zero])
    refine WpH.doneB (by kernel_rfl) (fun w4 hw4 => ?_)
    (try simp only [List.drop_succ_cons]); (try simp only [List.drop_zero]); (try simp only [Nat.reduceSub]); (try simp only [List.take_succ_cons]); (try simp only [List.take_zero])
    clear fb0 fb1 fb2 ab0 ab1 ab2
    clear q0 q1 hbl2
    replace hb00 := bl_call hb00 (Nat.le_refl _) hw4
    replace hfb := hfb.call hw4
    replace hab := hab.call hw4
    replace hpb := hpb.call hw4
    replace hown := own_call hown hw4
    replace s0 := s0.call hw4
    replace hy := hy.call hw4
    clear hw4
    obtain ⟨y0, y1, y2, y3, y4⟩ := V2.mk hy.c0 hy.c1 hy.f0 hy.f1 hy.lt
    go_upto_region 4 with fail
    clear y0 y1 y2 y3 y4
    have hyw : w.heap.size < yb := hs1
    have dlt : fb < w.heap.size ∧ ab < w.heap.size ∧ pb < w.heap.size := ⟨HLT0.out _ d1, HLT0.out _ d2, HLT0.out _ d3⟩
    replace hfb := (hfb.far (p := ⟨yb, 0, none⟩) (by dsimp only; omega) (.int .u64 (lo x))).far (p := ⟨yb, 1, none⟩) (by dsimp only; omega) (.int .u64 (hi x))
    replace hab := (hab.far (p := ⟨yb, 0, none⟩) (by dsimp only; omega) (.int .u64 (lo x))).far (p := ⟨yb, 1, none⟩) (by dsimp only; omega) (.int .u64 (hi x))
    replace hpb := (hpb.far (p := ⟨yb, 0, none⟩) (by dsimp only; omega) (.int .u64 (lo x))).far (p := ⟨yb, 1, none⟩) (by dsimp only; omega) (.int .u64 (hi x))
    replace s0 := V2.oth s0 (b := yb) (by omega) (.int .u64 (lo x)) (.int .u64 (hi x))
    replace hown := own_same (w' := (w4.setCell ⟨yb, 0, none⟩ (.int .u64 (lo x))).setCell ⟨yb, 1, none⟩ (.int .u64 (hi x))) hown fun q hq => by
      have hqw := HLT0.out q (HOLD.out q hq).1
      rw [Below.heap_setCell _ _ _ _ (by dsimp only; omega), Below.heap_setCell _ _ _ _ (by dsimp only; omega)]
    replace hy := V2.set hy (.int .u64 (lo x)) (.int .u64 (hi x))
    replace hb00 := bl_st hb00 (b := yb) (by omega) (.int .u64 (lo x)) (.int .u64 (hi x))
    generalize (w4.setCell ⟨yb, 0, none⟩ (.int .u64 (lo x))).setCell ⟨yb, 1, none⟩ (.int .u64 (hi x)) = w5 at *
    have hbA : Below w5.heap.size w5 (w5.alloc (.cells #[.int .u64 (lo x), .int .u64 (hi x)] 41)) := by repeat (first | exact Below.refl _ _ | with_reducible assumption | (refine bl_alloc ?_ (Nat.le_refl _) _) | (refine bl_set ?_ (by dsimp only; omega) _) | (refine Below.drew ?_) | (refine bl_drewN ?_ _) | (refine bl_call ?_ (Nat.le_refl _) (by assumption)))
    have HRW : Hid (0 < 1 → ∃ b o, (some ⟨w5.heap.size, 0, none⟩ : Option Addr) = some ⟨b, o, none⟩ ∧ RowE (w5.alloc (.cells #[.int .u64 (lo x), .int .u64 (hi x)] 41)) b o [eK x]) := fun _ => ⟨_, _, rfl, (BlkE.new w5 [eK x] _ rfl).rowE⟩
    have HOW := Lib.hid (own_call hown hbA)
    have hp5 := hpb.call hbA
    have hy5 := hy.call hbA
    have hf5 := hfb.call hbA
    have ha5 := hab.call hbA
    have hs5 := s0.call hbA
    have hbw5 := bl_call hb00 (Nat.le_refl _) hbA
    have hsz5 := hbw5.size
    have hk11 : k + 1 ≤ 1099511627776 := by omega
    obtain ⟨pb0, pb1, pb2⟩ := hpb.get1
    obtain ⟨y0, y1, y2, y3, y4⟩ := V2.mk hy.c0 hy.c1 hy.f0 hy.f1 hy.lt
    go_upto_region 5 with (at_builtin; (refine wpList_append_E rfl (.tmp 22) (.tmp 24) rfl 0 _ k (esK (ansL (ansTwo f ys) k)) rfl HOW.out (some ⟨w5.heap.size, 0, none⟩) 1 1 [eK x] rfl rfl HRW.out hk11 (Nat.zero_le _) ?_; intro v2 w6 hown6 hg6 hat6; obtain ⟨g2, cap2, hv2⟩ := own_slice hown6; rw [hv2]; have hp6 : Vs w6 pb [.slice A1 k c1] := hp5.sameC (hg6.block pb hp5.lt (fun e => (HOLD.out pb e.symm).2 (.inr (.inr (.inl rfl))))); clear pb0 pb1 pb2; obtain ⟨pb0, pb1, pb2⟩ := hp6.get1))
    rw [hv2] at hown6 hat6
    have hFx : ∀ q, FxTwo fb ab pb rb q → q < (w5.alloc (.cells #[.int .u64 (lo x), .int .u64 (hi x)] 41)).heap.size := fun q hq => by
      rcases hq with rfl | rfl | rfl | hq
      · exact hf5.lt
      · exact ha5.lt
      · exact hp5.lt
      · exact Nat.lt_of_lt_of_le (HLT0.out q (HROW.out q hq).1) hsz5
    have hG := grow_all (D := D) (Fx := FxTwo fb ab pb rb) (.slice (some ⟨g2, 0, none⟩) (k + 1) cap2) hg6 hat6 HOLD.out hFx (.inr (.inr (.inl rfl))) d3
    have hp7 := hp6.put 0 (by simp) (.slice (some ⟨g2, 0, none⟩) (k + 1) cap2)
    have ho7 := own_same hown6 fun q hq => (hG.2.2 q hq).2.2
    have hbw6 := hbw5
    clear pb0 pb1 pb2 hown6 hg6 hat6 hv2 HRW HOW hp6 hbA
    generalize w6.setCell ⟨pb, 0, none⟩ (.slice (some ⟨g2, 0, none⟩) (k + 1) cap2) = w7 at *
    have hf7 := hf5.sameC (hG.1 fb (.inl rfl) n1)
    have ha7 := ha5.sameC (hG.1 ab (.inr (.inl rfl)) n2)
    have nD1 : ¬ D w.heap.size := fun h => by have := HLT0.out _ h; omega
    have nD2 : ¬ D yb := fun h => by have := HLT0.out _ h; omega
    have s7 := hs5.exc nD1 hG.2.1
    have y7 := hy5.exc nD2 hG.2.1
    have hexc : Exc D w.heap.size w w7 := (exc_of hbw5).trans (hG.2.1.mono hsz5)
    have hR7 : ∀ q, rb = some q → w7.heap[q]? = w0.heap[q]? := fun q hq => by
      have hq0 : q < w0.heap.size := HAB.out q hq
      rw [hG.1 q (.inr (.inr (.inr hq))) (by omega), hbw5.block q (HLT0.out q (HROW.out q hq).1), (HROW.out q hq).2]
    have hD7 : ∀ q, (D q ∨ (Value.slice (some ⟨g2, 0, none⟩) (k + 1) cap2).ownBlock = some q) → D q ∨ w.heap.size ≤ q := fun q hq => by
      rcases hq with h | h
      · exact .inl h
      · exact (hG.2.2 q h).1.imp_right fun h2 => Nat.le_trans hsz5 h2
    have hst7 : St (InvTwo f w0 (.slice (some ⟨b, o, none⟩) ys.length cp0) rb ys fb ab pb (k + 1)) (fun q => D q ∨ (Value.slice (some ⟨g2, 0, none⟩) (k + 1) cap2).ownBlock = some q) w7 := by
      refine InvTwo.st ⟨⟨.inl d1, .inl d2, .inl d3⟩, ⟨hf7, ha7⟩, fun q hq => ⟨.inl (HROW.out q hq).1, hR7 q hq⟩, some ⟨g2, 0, none⟩, cap2, by rw [ansL_length]; exact hp7, ?_, ?_⟩ ?_
      · rw [ansL_length, show esK (ansL (ansTwo f ys) (k + 1)) = esK (ansL (ansTwo f ys) k) ++ [eK x] by
          rw [show ansL (ansTwo f ys) (k + 1) = ansL (ansTwo f ys) k ++ [x] by rw [← HX.out]; rfl, esK_append]
          rfl]
        exact ho7
      · rw [ansL_length]
        exact fun q hq => ⟨.inr hq, (hG.2.2 q hq).2.1⟩
      · intro q hq
        rcases hq with h | h
        · exact Nat.lt_of_lt_of_le (HLT0.out q h) hexc.size
        · exact (ho7.lt q h).2
    have nD3 : ¬ (D w.heap.size ∨ (Value.slice (some ⟨g2, 0, none⟩) (k + 1) cap2).ownBlock = some w.heap.size) := fun h => by
      rcases h with h | h
      · exact nD1 h
      · rcases (hG.2.2 _ h).1 with h2 | h2
        · exact nD1 h2
        · have : w.heap.size < (w5.alloc (.cells #[.int .u64 (lo x), .int .u64 (hi x)] 41)).heap.size := hs5.lt
          omega
    clear hG hp7 ho7 hf7 ha7 hp5 hf5 ha5 hs5 hy5
    obtain ⟨s70, s71, s72, s73, s74⟩ := V2.mk s7.c0 s7.c1 s7.f0 s7.f1 s7.lt
    obtain ⟨y70, y71, y72, y73, y74⟩ := V2.mk y7.c0 y7.c1 y7.f0 y7.f1 y7.lt
    go_wp2_with fail
    refine bodyPost_ret (results_v2 (b := w.heap.size) (u := .int .u64 (lo x)) (v := .int .u64 (hi x)) ?_ rfl rfl) rfl ?_
    · exact V2.set s7 _ _
    · exact ⟨rfl, _, hst7.st nD3 _ _, hD7, hexc.st (Nat.le_refl _) _ _⟩
end

end Go.Proofs.Ytiphahbeedeebaa
