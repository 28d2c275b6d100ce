/-
 Reg, Kit, Vs, Quad, WideMul, FieldM, Gadget, CirM: what the statements of this layer share.
-/
import Derived.OrdersHeld
import Derived.StillTail
import Derived.WalkKit
import Derived.BigQuiet
import Derived.IntWalk
import Derived.Lib.BitFns
import Derived.Test.YtpggflcapfkgpaaMae
namespace Go.Proofs.Ytpggflcapfkgpaa
open Go Go.RowKit

theorem Zp (a : Act) (t : Tmp) (v : Value) : a.put (some t) v = { a with tmps := a.tmps.setIfInBounds t v } := rfl
theorem Zq {α : Type} (l : List α) (i : Nat) (x : α) : l.toArray.setIfInBounds i x = (l.set i x).toArray := by simp
theorem Zr {α : Type} (y : α) (l : List α) (n : Nat) (x : α) : (y :: l).set (n + 1) x = y :: l.set n x := rfl
theorem Zs {α : Type} (y : α) (l : List α) (x : α) : (y :: l).set 0 x = x :: l := rfl

section
variable {P : Program} {ops : Array Oper} {Q : Exit → Act → World → Prop} {md : Region.Mode} {W0 : World → Prop} {S : Array Bool → Act → World → Prop}

def UponV (P : Program) (R : Value → World → Prop) : Result Next → Prop
 | .ok (.value v) w' => R v w'
 | .ok (.enter f args) w' => Calls P f args w' (fun e w'' => ∃ v, e = .returned v ∧ R v w'')
 | _ => False

theorem UponV.upon {R : Value → World → Prop} {o : Oper} {a : Act} {K : Act → World → Prop} {r : Result Next} (h : UponV P R r) (hK : ∀ v w', R v w' → K (a.put o.dst v) w') : o.upon P a K Q r := by
 cases r with
 | ok n w' =>
  cases n
  case value v => exact hK v w' h
  case enter f args =>
   refine Calls.mono (show Calls P f args w' (fun e w'' => ∃ v, e = .returned v ∧ R v w'') from h) fun e w'' he => ?_
   obtain ⟨v, rfl, hr⟩ := he
   exact hK v w'' hr
  all_goals exact False.elim h
 | halt x w' => exact False.elim h

def Det (P : Program) (ops : Array Oper) (W0 : World → Prop) (o : Oper) (v : Value) (a : Act) : Prop :=
 (Region.wanted o (yielded ops a.tmps) = true ∧ ∀ w, W0 w → UponV P (fun u w' => u = v ∧ Below w.heap.size w w') ((execOp a.eval o).run P w)) ∨
 (Region.wanted o (yielded ops a.tmps) = false ∧ v = undef)

theorem Det.wpOp {i : Nat} {o : Oper} {v : Value} {a : Act} (hi : ops[i]? = some o) (hy : Det P ops W0 o v a) {K : Act → World → Prop} {w : World} (hw : W0 w)
  (h : ∀ w', Below w.heap.size w w' → K (a.put o.dst v) w') : wpOp P ops Q i K a w := by
 unfold Go.wpOp
 simp only [hi]
 rcases hy with ⟨hwt, hv⟩ | ⟨hwt, rfl⟩
 ·simp only [hwt, if_true]
  refine .inl ?_
  unfold Oper.wp
  refine (hv w hw).upon ?_
  rintro u w' ⟨rfl, hb⟩
  exact h w' hb
 ·simp only [hwt, Bool.false_eq_true, if_false]
  exact h w (Below.refl _ _)

theorem Det.of_same {o : Oper} {v : Value} {a a' : Act} (hy : Det P ops W0 o v a) (he : execOp a'.eval o = execOp a.eval o)
  (hw : Region.wanted o (yielded ops a'.tmps) = Region.wanted o (yielded ops a.tmps)) : Det P ops W0 o v a' := by
 unfold Det at *
 rw [he, hw]
 exact hy

def Trod (o : Oper) (a a' : Act) : Prop := ∃ ds u, a' = ({ a with defers := ds } : Act).put o.dst u

theorem upon_track {o : Oper} {a : Act} {K : Act → World → Prop} {r : Result Next} (h : o.upon P a K Q r) : o.upon P a (fun a' w' => Trod o a a' ∧ K a' w') Q r := by
 cases r with
 | ok n w' =>
  cases n <;> simp only [Oper.upon] at h ⊢
  case value v => exact ⟨⟨a.defers, v, rfl⟩, h⟩
  case skip => exact ⟨⟨a.defers, _, rfl⟩, h⟩
  case defer d => exact ⟨⟨_, _, rfl⟩, h⟩
  case enter f args =>
   refine Calls.mono h fun e w'' he => ?_
   cases e with
   | returned u => exact ⟨⟨a.defers, u, rfl⟩, he⟩
   | panicked c => exact he
   | outgrown => exact he
  case row r args => exact Rows.mono h fun v w'' he => ⟨⟨a.defers, v, rfl⟩, he⟩
 | halt x w' => cases x <;> simp only [Oper.upon] at h ⊢ <;> exact h

theorem wpOp_track {j : Nat} {oj : Oper} (hj : ops[j]? = some oj) {a : Act} {w : World} {K : Act → World → Prop} (h : wpOp P ops Q j K a w) : wpOp P ops Q j (fun a' w' => Trod oj a a' ∧ K a' w') a w := by
 unfold wpOp at *
 simp only [hj] at *
 split
 ·rename_i hw
  simp only [hw, if_true] at h
  exact h.imp upon_track id
 ·rename_i hw
  simp only [hw] at h
  exact ⟨⟨a.defers, _, rfl⟩, h⟩

theorem Det.trod {oi oj : Oper} {v : Value} {a a' : Act} (hsi : ∀ cs b, oi.op ≠ .select cs b) (hap : oi.apart ops oj = true) (hy : Det P ops W0 oi v a) (ht : Trod oj a a') : Det P ops W0 oi v a' := by
 obtain ⟨ds, u, rfl⟩ := ht
 obtain ⟨_, _, h3⟩ := Oper.apart_spec hap
 have h0 : Det P ops W0 oi v ({ a with defers := ds } : Act) := hy.of_same rfl rfl
 exact h0.of_same (execOp_put oi hsi _ oj.dst u h3) (wanted_put oi _ oj.dst u h3)

theorem wpOp_putDet {j : Nat} {oi oj : Oper} {v : Value} (hj : ops[j]? = some oj) (hap : oi.apart ops oj = true)
  (hsi : ∀ cs b, oi.op ≠ .select cs b) (hsj : ∀ cs b, oj.op ≠ .select cs b)
  (hQ : ∀ c a w, Q (.panic c) (a.put oi.dst v) w → Q (.panic c) a w) {K : Act → World → Prop} {a : Act} {w : World}
  (hy : Det P ops W0 oi v a) (h : wpOp P ops Q j K (a.put oi.dst v) w) :
  wpOp P ops Q j (fun a' w' => Det P ops W0 oi v a' ∧ K (a'.put oi.dst v) w') a w := by
 have hf : YieldsIf P ops (fun _ => False) oi v a := hy.imp (fun h => ⟨h.1, fun _ hF => hF.elim⟩) id
 have h1 := wpOp_track hj (wpOp_putIf hj hap hsi hsj hQ hf h)
 exact wpOp_mono (fun a' w' h2 => ⟨hy.trod hsi hap h2.1, h2.2.2⟩) h1

structure RegS (W0 : World → Prop) (S : Array Bool → Act → World → Prop) : Prop where
 toW : ∀ l a w, S l a w → W0 w
 ext : ∀ l a w w', S l a w → Below w.heap.size w w' → S l a w'

structure HInv (md : Region.Mode) (ops : Array Oper) (n m : Nat) (listed : Array Bool) : Prop where
 size : listed.size = ops.size
 closed : ∀ j oj, ops[j]? = some oj → listed.getD j false = true → ∀ e ∈ oj.after, Region.binds md e = true → listed.getD e.on false = true
 tail : ∀ t, n ≤ t → t < m → listed.getD t true = false
 post : ∀ t, m ≤ t → t < ops.size → listed.getD t true = true

def chainTo (md : Region.Mode) (ops : Array Oper) (n m : Nat) : Bool := (List.range m).all fun t => decide (t ≤ n) || Region.waitsFor md ops t (t - 1)

def closedB (md : Region.Mode) (ops : Array Oper) (listed : Array Bool) : Bool :=
 (List.range ops.size).all fun j => !listed.getD j false || match ops[j]? with
  | some oj => oj.after.all fun e => !Region.binds md e || listed.getD e.on false
  | none => true

def partsB (md : Region.Mode) (ops : Array Oper) (n m : Nat) (listed : Array Bool) : Bool :=
 Region.noSelect ops && decide (n ≤ m) && decide (m ≤ ops.size) && decide (listed.size = ops.size) && closedB md ops listed && (decide (ops.size ≤ n) || Region.sinkB md ops n) && chainTo md ops n m &&
  ((List.range ops.size).all fun t => (decide (t < n) || decide (m ≤ t) || !listed.getD t true) && (decide (t < m) || listed.getD t true))

structure Parts (md : Region.Mode) (ops : Array Oper) (n m : Nat) : Prop where
 nosel : Region.noSelect ops = true
 lt : n ≤ m
 le : m ≤ ops.size
 sink : ops.size ≤ n ∨ Region.sinkB md ops n = true
 chain : chainTo md ops n m = true

theorem parts_of {n m : Nat} {listed : Array Bool} (h : partsB md ops n m listed = true) : Parts md ops n m ∧ HInv md ops n m listed := by
 simp only [partsB, Bool.and_eq_true, decide_eq_true_eq] at h
 obtain ⟨⟨⟨⟨⟨⟨⟨h1, h2⟩, h3⟩, h4⟩, h5⟩, h6⟩, h7⟩, h8⟩ := h
 refine ⟨⟨h1, h2, h3, by simpa using h6, h7⟩, h4, ?_, ?_, ?_⟩
 ·intro j oj hj hl e he hb
  have hlt := (Array.getElem?_eq_some_iff.1 hj).1
  have h := List.all_eq_true.1 h5 j (List.mem_range.2 hlt)
  simp only [hl, hj, Bool.not_true, Bool.false_or] at h
  have h' := Array.all_eq_true_iff_forall_mem.1 h e he
  simpa [hb] using h'
 ·intro t ht htm
  have h := List.all_eq_true.1 h8 t (List.mem_range.2 (by omega))
  simp only [Bool.and_eq_true, Bool.or_eq_true, decide_eq_true_eq] at h
  rcases h.1 with (h' | h') | h'
  ·omega
  ·omega
  ·simpa using h'
 ·intro t ht hts
  have h := List.all_eq_true.1 h8 t (List.mem_range.2 hts)
  simp only [Bool.and_eq_true, Bool.or_eq_true, decide_eq_true_eq] at h
  rcases h.2 with h' | h'
  ·omega
  ·exact h'

theorem HInv.set {n m i : Nat} {listed : Array Bool} (inv : HInv md ops n m listed) (hi : i ∈ Region.ready md ops listed) (hin : i < n) (hnm : n ≤ m) : HInv md ops n m (listed.setIfInBounds i true) := by
 obtain ⟨_, oi, hoi, hall⟩ := mem_ready.1 hi
 refine ⟨by simp [inv.size], fun j oj hj hl e he hb => ?_, fun t ht ht' => by rw [getD_set_ne true (by omega)]; exact inv.tail t ht ht', fun t ht ht' => by rw [getD_set_ne true (by omega)]; exact inv.post t ht ht'⟩
 by_cases hij : i = j
 ·subst hij
  have : oj = oi := Option.some.inj (hj.symm.trans hoi)
  subst this
  exact getD_set_true (hall e he hb)
 ·rw [getD_set_ne false hij] at hl
  exact getD_set_true (inv.closed j oj hj hl e he hb)

theorem head_only {n m : Nat} {listed : Array Bool} (hp : Parts md ops n m) (inv : HInv md ops n m listed) :
  ∀ (d i : Nat), n - i = d → i < n → listed.getD i true = false → ∀ t, n ≤ t → t ∉ Region.ready md ops listed := by
 intro d
 induction d using Nat.strongRecOn with
 | _ d ih =>
  intro i hd hi hun t ht hr
  obtain ⟨hu, ot, hot, hall⟩ := mem_ready.1 hr
  have htlt : t < ops.size := (Array.getElem?_eq_some_iff.1 hot).1
  have htm : t < m := by
   rcases Nat.lt_or_ge t m with h | h
   ·exact h
   ·rw [inv.post t h htlt] at hu
    cases hu
  by_cases htn : t = n
  ·subst htn
   have hsk : Region.sinkB md ops t = true := hp.sink.resolve_left (by omega)
   obtain ⟨j, hj, hj2⟩ := List.any_eq_true.1 (List.all_eq_true.1 hsk i (List.mem_range.2 hi))
   simp only [Bool.and_eq_true, decide_eq_true_eq] at hj2
   obtain ⟨oj, hoj, e, he, hb, hon⟩ := Region.waitsFor_spec hj2.2
   have hjle : j ≤ t := by have := List.mem_range.1 hj; omega
   by_cases hjt : j = t
   ·subst hjt
    have : oj = ot := Option.some.inj (hoj.symm.trans hot)
    subst this
    have h2 := hall e he hb
    rw [hon, getD_both hun] at h2
    cases h2
   ·cases hl : listed.getD j false with
    | true =>
     have h2 := inv.closed j oj hoj hl e he hb
     rw [hon, getD_both hun] at h2
     cases h2
    | false =>
     have hjs : j < listed.size := by rw [inv.size]; omega
     exact ih (t - j) (by omega) j rfl (by omega) (getD_in hjs hl) t (Nat.le_refl _) hr
  ·have h1 := List.all_eq_true.1 hp.chain t (List.mem_range.2 htm)
   simp only [Bool.or_eq_true, decide_eq_true_eq] at h1
   rcases h1 with h1 | h1
   ·omega
   ·obtain ⟨o', ho', e, he, hb, hon⟩ := Region.waitsFor_spec h1
    have : o' = ot := Option.some.inj (ho'.symm.trans hot)
    subst this
    have h2 := hall e he hb
    rw [hon, getD_both (inv.tail (t - 1) (by omega) (by omega))] at h2
    cases h2

def wpH (P : Program) (md : Region.Mode) (ops : Array Oper) (Q : Exit → Act → World → Prop) (n m : Nat) (S : Array Bool → Act → World → Prop) (L : Act → World → Prop) : Nat → Array Bool → Act → Prop
 | 0, listed, a => Region.seqB md ops (m - n) n listed = true ∧ ∀ w, S listed a w → L a w
 | f + 1, listed, a =>
  Region.ready md ops listed ≠ [] ∧
  ∀ i ∈ Region.ready md ops listed, i < n ∧ ∀ w, S listed a w → wpOp P ops Q i (fun a' w' => S (listed.setIfInBounds i true) a' w' ∧ wpH P md ops Q n m S L f (listed.setIfInBounds i true) a') a w

theorem wpAny_of_H {n m : Nat} {L : Act → World → Prop} (hL : ∀ listed a w, Region.seqB md ops (m - n) n listed = true → L a w → wpAny P md ops Q (m - n) listed a w) :
  ∀ (f : Nat) (listed : Array Bool) (a : Act), wpH P md ops Q n m S L f listed a → ∀ w, S listed a w → wpAny P md ops Q (f + (m - n)) listed a w
 | 0, listed, a, h, w, hS => by rw [Nat.zero_add]; exact hL _ _ _ h.1 (h.2 w hS)
 | f + 1, listed, a, h, w, hS => by
  rw [show f + 1 + (m - n) = (f + (m - n)) + 1 by omega]
  exact ⟨fun h0 => absurd h0 h.1, fun i hi => wpOp_mono (fun a' w' h' => wpAny_of_H hL f _ a' h'.2 w' h'.1) ((h.2 i hi).2 w hS)⟩

theorem wpH_first {n m : Nat} {L : Act → World → Prop} (hR : RegS W0 S) (hp : Parts md ops n m) {i : Nat} {oi : Oper} {v : Value} (hi : ops[i]? = some oi) (hin : i < n)
  (hQ : ∀ c a w, Q (.panic c) (a.put oi.dst v) w → Q (.panic c) a w)
  (hup : ∀ l a w, S l a w → S (l.setIfInBounds i true) (a.put oi.dst v) w) (hdn : ∀ l a w, S (l.setIfInBounds i true) (a.put oi.dst v) w → S l a w) :
  ∀ (f : Nat) (listed : Array Bool) (a : Act), HInv md ops n m listed →
   (∀ j oj, ops[j]? = some oj → j ≠ i → listed.getD j true = false → (∀ e ∈ oj.after, Region.binds md e = true → e.on ≠ i) → oi.apart ops oj = true) →
   i ∈ Region.ready md ops listed → Det P ops W0 oi v a →
   wpH P md ops Q n m S L f (listed.setIfInBounds i true) (a.put oi.dst v) → wpH P md ops Q n m S L (f + 1) listed a := by
 have hsel := Region.noSelect_spec hp.nosel
 intro f
 induction f with
 | zero =>
  intro listed a inv _ hr hy H
  have hun := (mem_ready.1 hr).1
  refine ⟨fun h => (by rw [h] at hr; cases hr), fun j hj => ?_⟩
  have hjn : j < n := by
   rcases Nat.lt_or_ge j n with h | h
   ·exact h
   ·exact absurd hj (head_only hp inv _ i rfl hin hun j h)
  refine ⟨hjn, fun w hS => ?_⟩
  by_cases hji : j = i
  ·subst hji
   exact hy.wpOp hi (hR.toW _ _ _ hS) fun w' hb => ⟨hup _ _ _ (hR.ext _ _ _ _ hS hb), H⟩
  ·have := seqB_ready H.1 j (ready_mono hj hji)
   omega
 | succ f ih =>
  intro listed a inv hfree hr hy H
  have hun := (mem_ready.1 hr).1
  refine ⟨fun h => (by rw [h] at hr; cases hr), fun j hj => ?_⟩
  have hjn : j < n := by
   rcases Nat.lt_or_ge j n with h | h
   ·exact h
   ·exact absurd hj (head_only hp inv _ i rfl hin hun j h)
  refine ⟨hjn, fun w hS => ?_⟩
  by_cases hji : j = i
  ·subst hji
   exact hy.wpOp hi (hR.toW _ _ _ hS) fun w' hb => ⟨hup _ _ _ (hR.ext _ _ _ _ hS hb), H⟩
  ·have h1 := (H.2 j (ready_mono hj hji)).2 w (hup _ _ _ hS)
   obtain ⟨hjun, oj, hoj, hall⟩ := mem_ready.1 hj
   have hnot : ∀ e ∈ oj.after, Region.binds md e = true → e.on ≠ i := fun e he hb heq => by
    have h1 := hall e he hb
    rw [heq, getD_both hun] at h1
    cases h1
   have h2 := wpOp_putDet hoj (hfree j oj hoj hji hjun hnot) (fun cs b => hsel i oi cs b hi) (fun cs b => hsel j oj cs b hoj) hQ hy h1
   have hfree' : ∀ k ok, ops[k]? = some ok → k ≠ i → (listed.setIfInBounds j true).getD k true = false →
     (∀ e ∈ ok.after, Region.binds md e = true → e.on ≠ i) → oi.apart ops ok = true := fun k ok hk hki hu hno => by
    refine hfree k ok hk hki ?_ hno
    by_cases hjk : j = k
    ·subst hjk
     exact hjun
    ·rw [getD_set_ne true hjk] at hu
     exact hu
   refine wpOp_mono (fun a' w' h3 => ?_) h2
   have hcomm : (listed.setIfInBounds i true).setIfInBounds j true = (listed.setIfInBounds j true).setIfInBounds i true := (Array.setIfInBounds_comm _ _ hji).symm
   rw [hcomm] at h3
   exact ⟨hdn _ _ _ h3.2.1, ih (listed.setIfInBounds j true) a' (inv.set hj hjn hp.lt) hfree' (ready_mono hr (Ne.symm hji)) h3.1 h3.2.2⟩

def WpH (P : Program) (md : Region.Mode) (ops : Array Oper) (Q : Exit → Act → World → Prop) (n m : Nat) (S : Array Bool → Act → World → Prop) (L : Act → World → Prop) (f : Nat) (listed : Array Bool) (a : Act) : Prop :=
 Parts md ops n m → HInv md ops n m listed → wpH P md ops Q n m S L f listed a

theorem WpH.take {n m : Nat} {L : Act → World → Prop} (hR : RegS W0 S) {i : Nat} {oi : Oper} {v : Value} {f : Nat} {listed : Array Bool} {a : Act} (hi : ops[i]? = some oi)
  (hB : (decide (i < n) && Region.free md ops listed i && (Region.ready md ops listed).contains i) = true)
  (hQ : ∀ c a w, Q (.panic c) (a.put oi.dst v) w → Q (.panic c) a w)
  (hup : ∀ l a w, S l a w → S (l.setIfInBounds i true) (a.put oi.dst v) w) (hdn : ∀ l a w, S (l.setIfInBounds i true) (a.put oi.dst v) w → S l a w)
  (hy : Det P ops W0 oi v a)
  (h : WpH P md ops Q n m S L f (listed.setIfInBounds i true) (a.put oi.dst v)) : WpH P md ops Q n m S L (f + 1) listed a := by
 simp only [Bool.and_eq_true, decide_eq_true_eq] at hB
 obtain ⟨⟨hin, hf⟩, hr⟩ := hB
 have hr' : i ∈ Region.ready md ops listed := by simpa using hr
 exact fun hp inv => wpH_first hR hp hi hin hQ hup hdn f listed a inv (Region.free_spec hi hf) hr' hy (h hp (inv.set hr' hin hp.lt))

theorem WpH.one {n m : Nat} {L : Act → World → Prop} {i : Nat} {f : Nat} {listed : Array Bool} {a : Act}
  (hB : (decide (i < n) && decide (Region.ready md ops listed = [i])) = true)
  (h : ∀ w, S listed a w → wpOp P ops Q i (fun a' w' => S (listed.setIfInBounds i true) a' w' ∧ WpH P md ops Q n m S L f (listed.setIfInBounds i true) a') a w) : WpH P md ops Q n m S L (f + 1) listed a := by
 simp only [Bool.and_eq_true, decide_eq_true_eq] at hB
 obtain ⟨hin, hr⟩ := hB
 intro hp inv
 refine ⟨by rw [hr]; simp, fun j hj => ?_⟩
 have hj' : j = i := by rw [hr] at hj; simpa using hj
 subst hj'
 exact ⟨hin, fun w hS => wpOp_mono (fun a' w' h' => ⟨h'.1, h'.2 hp (inv.set hj hin hp.lt)⟩) (h w hS)⟩

theorem WpH.done {n m : Nat} {L : Act → World → Prop} {listed : Array Bool} {a : Act} (hB : Region.seqB md ops (m - n) n listed = true) (h : ∀ w, S listed a w → L a w) : WpH P md ops Q n m S L 0 listed a :=
 fun _ _ => ⟨hB, h⟩

theorem any_of_tail {Q' : Exit → Act → World → Prop} : ∀ (l : List Oper) (k : Nat) (listed : Array Bool) (a : Act) (w : World), (∀ j, j < l.length → l[j]? = ops[k + j]?) →
  Region.seqB md ops l.length k listed = true → wpList P ops Q' l a w → wpAny P md ops Q' l.length listed a w
 | [], _, _, _, _, _, hB, h => ⟨by simpa [Region.seqB] using hB, h⟩
 | o :: l, k, listed, a, w, hl, hB, h => by
  have h0 : ops[k]? = some o := by simpa using (hl 0 (by simp)).symm
  simp only [List.length_cons, Region.seqB, Bool.and_eq_true, decide_eq_true_eq] at hB
  refine ⟨fun h1 => (by rw [hB.1] at h1; cases h1), fun i hi => ?_⟩
  rw [hB.1] at hi
  have hik : i = k := by simpa using hi
  subst hik
  have hw : wpOp P ops Q' i (wpList P ops Q' l) a w := by
   unfold wpOp
   simp only [h0]
   exact h
  refine wpOp_mono (fun a' w' h' => any_of_tail l (i + 1) _ a' w' (fun j hj => ?_) hB.2 h') hw
  have := hl (j + 1) (by simp; omega)
  simpa [Nat.add_assoc, Nat.add_comm 1 j] using this

theorem any_H {l : List Oper} {n m f : Nat} {listed : Array Bool} {a : Act} {w : World} (hB : partsB md l.toArray n m listed = true) (hS : S listed a w)
  (h : WpH P md l.toArray Q n m S (wpList P l.toArray Q ((l.drop n).take (m - n))) f listed a) : wpAny P md l.toArray Q (f + (m - n)) listed a w := by
 obtain ⟨hp, inv⟩ := parts_of hB
 refine wpAny_of_H (L := wpList P l.toArray Q ((l.drop n).take (m - n))) (fun listed' a' w' hq hl => ?_) f listed a (h hp inv) w hS
 have hlen : ((l.drop n).take (m - n)).length = m - n := by
  have := hp.le
  simp at this ⊢
  omega
 have := any_of_tail (P := P) (md := md) (ops := l.toArray) (Q' := Q) ((l.drop n).take (m - n)) n listed' a' w' (fun j hj => ?_) (by rw [hlen]; exact hq) hl
 ·rwa [hlen] at this
 ·rw [hlen] at hj
  simp [hj]

theorem region_H {id n m f : Nat} {l : List Oper} {a : Act} {w : World} (hm : P.follows .mixedOrders = true) (hB : partsB .any l.toArray n m (Array.replicate l.length false) = true) (hf : f + (m - n) = l.length)
  (hS : S (Array.replicate l.length false) a w.drew)
  (h : WpH P .any l.toArray Q n m S (wpList P l.toArray Q ((l.drop n).take (m - n))) f (Array.replicate l.length false) a) : (Code.region id l.toArray true).wp P Q a w := by
 refine wp_region_any hm ?_
 have := any_H hB hS h
 rw [hf] at this
 simpa using this
end

def Flat (W0 : World → Prop) (_ : Array Bool) (_ : Act) (w : World) : Prop := W0 w
theorem RegS.flat {W0 : World → Prop} (h : ∀ w w', W0 w → Below w.heap.size w w' → W0 w') : RegS W0 (Flat W0) := ⟨fun _ _ _ hS => hS, fun _ _ w w' hS hb => h w w' hS hb⟩

theorem Det.val {P : Program} {ops : Array Oper} {W0 : World → Prop} {o : Oper} {v : Value} {a : Act} (hw : Region.wanted o (yielded ops a.tmps) = true) (h : ∀ w, W0 w → (execOp a.eval o).run P w = .ok (.value v) w) : Det P ops W0 o v a :=
 .inl ⟨hw, fun w hW => by rw [h w hW]; exact ⟨rfl, Below.refl _ _⟩⟩
theorem Det.call {P : Program} {ops : Array Oper} {W0 : World → Prop} {o : Oper} {v : Value} {a : Act} {f : FuncId} {args : Array Value} (hw : Region.wanted o (yielded ops a.tmps) = true)
  (hc : ∀ w, W0 w → Calls P f args w (fun e w' => e = .returned v ∧ Below w.heap.size w w')) (h : ∀ w, W0 w → (execOp a.eval o).run P w = .ok (.enter f args) w) : Det P ops W0 o v a :=
 .inl ⟨hw, fun w hW => by rw [h w hW]; exact Calls.mono (hc w hW) fun e w' he => ⟨v, he.1, rfl, he.2⟩⟩
theorem Det.skip {P : Program} {ops : Array Oper} {W0 : World → Prop} {o : Oper} {a : Act} (hw : Region.wanted o (yielded ops a.tmps) = false) : Det P ops W0 o undef a := .inr ⟨hw, rfl⟩

/-! ### the usual form: W0 is 'all below is as it was when the region began' -/
section
variable {P : Program} {ops : Array Oper} {Q : Exit → Act → World → Prop} {md : Region.Mode} {W : World}
theorem RegS.below (W : World) : RegS (Below W.heap.size W) (Flat (Below W.heap.size W)) := .flat fun _ _ h hb => h.trans (hb.mono h.size)

theorem region_B {id n m f : Nat} {l : List Oper} {a : Act} {w : World} (hm : P.follows .mixedOrders = true) (hB : partsB .any l.toArray n m (Array.replicate l.length false) = true) (hf : f + (m - n) = l.length)
  (h : WpH P .any l.toArray Q n m (Flat (Below w.heap.size w)) (wpList P l.toArray Q ((l.drop n).take (m - n))) f (Array.replicate l.length false) a) : (Code.region id l.toArray true).wp P Q a w :=
 region_H hm hB hf (show Below w.heap.size w w.drew from (Below.refl _ _).drew) h

theorem WpH.takeB {n m : Nat} {L : Act → World → Prop} {i : Nat} {oi : Oper} {v : Value} {f : Nat} {listed : Array Bool} {a : Act} (hi : ops[i]? = some oi)
  (hB : (decide (i < n) && Region.free md ops listed i && (Region.ready md ops listed).contains i) = true)
  (hQ : ∀ c a w, Q (.panic c) (a.put oi.dst v) w → Q (.panic c) a w)
  (hy : Det P ops (Below W.heap.size W) oi v a)
  (h : WpH P md ops Q n m (Flat (Below W.heap.size W)) L f (listed.setIfInBounds i true) (a.put oi.dst v)) : WpH P md ops Q n m (Flat (Below W.heap.size W)) L (f + 1) listed a :=
 WpH.take (RegS.below W) hi hB hQ (fun _ _ _ h => h) (fun _ _ _ h => h) hy h

theorem WpH.doneB {n m : Nat} {L : Act → World → Prop} {listed : Array Bool} {a : Act} (hB : Region.seqB md ops (m - n) n listed = true) (h : ∀ w, Below W.heap.size W w → L a w) :
  WpH P md ops Q n m (Flat (Below W.heap.size W)) L 0 listed a := WpH.done hB h

end

end Go.Proofs.Ytpggflcapfkgpaa

namespace Go.Proofs.Ytpggflcapfkgpaa
open Go.RowKit Fm
set_option linter.unusedVariables false
set_option maxRecDepth 100000

theorem isF2 : IsF 2 := ⟨.inr rfl⟩
theorem isF1 : IsF 1 := ⟨.inl rfl⟩

theorem bl_st {B b : Nat} {a w : World} (h : Below B a w) (hp : B ≤ b) (x y : Value) : Below B a ((w.setCell ⟨b, 0, none⟩ x).setCell ⟨b, 1, none⟩ y) := bl_set (bl_set h hp x) hp y
theorem val_lohi {f : Nat} (x : Fin (Pm f)) : lo x + 18446744073709551616 * hi x = ((x.val : Nat) : Int) := by
 have hx := x.isLt
 have h2 := Pm_lt f
 unfold lo hi eK eN
 dsimp only
 omega
theorem vK_of {f : Nat} {x : Fin (Pm f)} {z0 z1 : Int} (h : z0 + 18446744073709551616 * z1 = ((x.val : Nat) : Int)) (h0 : 0 ≤ z0) (h1 : z0 ≤ 18446744073709551615) : lo x = z0 ∧ hi x = z1 := by
 have h2 := val_lohi x
 have h3 := lo_0 x
 have h4 := lo_1 x
 omega
end Go.Proofs.Ytpggflcapfkgpaa

namespace Go.Proofs.Ytpggflcapfkgpaa
open Go.RowKit Fm
set_option linter.unusedVariables false
set_option maxRecDepth 100000

structure Vs (w : World) (b : Nat) (cs : List Value) : Prop where
 cell : ∀ i v, cs[i]? = some v → w.cell? ⟨b, i, none⟩ = some v
 frz : ∀ i, i < cs.length → w.frozen? ⟨b, i, none⟩ = false
 lt : b < w.heap.size

section
variable {w w' : World} {b : Nat} {cs : List Value}
theorem Vs.call (h : Vs w b cs) (hb : Below w.heap.size w w') : Vs w' b cs :=
 ⟨fun i v hi => cell_call (h.cell i v hi) hb, fun i hi => frozen_call h.lt (h.frz i hi) hb, Nat.lt_of_lt_of_le h.lt hb.size⟩
theorem Vs.alloc (h : Vs w b cs) (o : Obj) : Vs (w.alloc o) b cs := h.call ((Below.refl _ _).alloc (Nat.le_refl _) o)
theorem Vs.drew (h : Vs w b cs) : Vs w.drew b cs := ⟨h.cell, h.frz, h.lt⟩
theorem Vs.new (w : World) (cs : List Value) (a : Array Value) (t : TypeId) (h : a = cs.toArray) : Vs (w.alloc (.cells a t)) w.heap.size cs := by
 subst h
 refine ⟨fun i v hi => ?_, fun i hi => World.frozen?_alloc_at _ _ _ _ rfl, by simp⟩
 rw [World.cell?_alloc_at _ _ _ _ rfl]
 simpa using hi
theorem Vs.far (h : Vs w b cs) {p : Addr} (hp : p.block ≠ b) (x : Value) : Vs (w.setCell p x) b cs := by
 have hb : (w.setCell p x).heap[b]? = w.heap[b]? := Below.heap_setCell w p x b (fun e => hp e.symm)
 exact ⟨fun i v hi => (World.cell?_of_block (w := w) (a := ⟨b, i, none⟩) hb).trans (h.cell i v hi), fun i hi => (World.frozen?_of_block (w := w) (a := ⟨b, i, none⟩) hb).trans (h.frz i hi), by simpa [World.setCell] using h.lt⟩
theorem Vs.put (h : Vs w b cs) (i : Nat) (hi : i < cs.length) (x : Value) : Vs (w.setCell ⟨b, i, none⟩ x) b (cs.set i x) := by
 refine ⟨fun j v hj => ?_, fun j hj => ?_, by simpa [World.setCell] using h.lt⟩
 ·by_cases hij : i = j
  ·subst hij
   rw [List.getElem?_set_self hi] at hj
   have hs : (w.cell? ⟨b, i, none⟩).isSome = true := by rw [h.cell i _ (List.getElem?_eq_getElem hi)]; rfl
   rw [World.cell?_setCell_same' _ _ _ hs]
   exact hj
  ·rw [List.getElem?_set_ne hij] at hj
   rw [World.cell?_setCell_other _ _ _ _ (by first | (simp; done) | (simp; omega))]
   exact h.cell j v hj
 ·have := h.frz j (by simpa using hj)
  simpa [go_sem] using this
theorem Vs.get3 {x y z : Value} (h : Vs w b [x, y, z]) : w.cell? ⟨b, 0, none⟩ = some x ∧ w.cell? ⟨b, 1, none⟩ = some y ∧ w.cell? ⟨b, 2, none⟩ = some z ∧ w.frozen? ⟨b, 0, none⟩ = false ∧ w.frozen? ⟨b, 1, none⟩ = false ∧ w.frozen? ⟨b, 2, none⟩ = false ∧ b < w.heap.size :=
 ⟨h.cell 0 _ rfl, h.cell 1 _ rfl, h.cell 2 _ rfl, h.frz 0 (by simp), h.frz 1 (by simp), h.frz 2 (by simp), h.lt⟩
theorem Vs.get6 {x y z p q r : Value} (h : Vs w b [x, y, z, p, q, r]) : (w.cell? ⟨b, 0, none⟩ = some x ∧ w.cell? ⟨b, 1, none⟩ = some y ∧ w.cell? ⟨b, 2, none⟩ = some z ∧ w.cell? ⟨b, 3, none⟩ = some p ∧ w.cell? ⟨b, 4, none⟩ = some q ∧ w.cell? ⟨b, 5, none⟩ = some r) ∧
  (w.frozen? ⟨b, 0, none⟩ = false ∧ w.frozen? ⟨b, 1, none⟩ = false ∧ w.frozen? ⟨b, 2, none⟩ = false ∧ w.frozen? ⟨b, 3, none⟩ = false ∧ w.frozen? ⟨b, 4, none⟩ = false ∧ w.frozen? ⟨b, 5, none⟩ = false) ∧ b < w.heap.size :=
 ⟨⟨h.cell 0 _ rfl, h.cell 1 _ rfl, h.cell 2 _ rfl, h.cell 3 _ rfl, h.cell 4 _ rfl, h.cell 5 _ rfl⟩, ⟨h.frz 0 (by simp), h.frz 1 (by simp), h.frz 2 (by simp), h.frz 3 (by simp), h.frz 4 (by simp), h.frz 5 (by simp)⟩, h.lt⟩
end

end Go.Proofs.Ytpggflcapfkgpaa

namespace Go.Proofs.Ytpggflcapfkgpaa
open Go.RowKit
set_option linter.unusedVariables false
set_option maxRecDepth 100000

structure V4 (w : World) (b : Nat) (q0 q1 q2 q3 : Value) : Prop where
 c0 : w.cell? ⟨b, 0, none⟩ = some q0
 c1 : w.cell? ⟨b, 1, none⟩ = some q1
 c2 : w.cell? ⟨b, 2, none⟩ = some q2
 c3 : w.cell? ⟨b, 3, none⟩ = some q3
 f0 : w.frozen? ⟨b, 0, none⟩ = false
 f1 : w.frozen? ⟨b, 1, none⟩ = false
 f2 : w.frozen? ⟨b, 2, none⟩ = false
 f3 : w.frozen? ⟨b, 3, none⟩ = false
 lt : b < w.heap.size

section
variable {w w' : World} {b : Nat} {q0 q1 q2 q3 : Value}
theorem V4.call (h : V4 w b q0 q1 q2 q3) (hb : Below w.heap.size w w') : V4 w' b q0 q1 q2 q3 :=
 ⟨cell_call h.c0 hb, cell_call h.c1 hb, cell_call h.c2 hb, cell_call h.c3 hb, frozen_call h.lt h.f0 hb, frozen_call h.lt h.f1 hb, frozen_call h.lt h.f2 hb, frozen_call h.lt h.f3 hb, Nat.lt_of_lt_of_le h.lt hb.size⟩
theorem V4.alloc (h : V4 w b q0 q1 q2 q3) (o : Obj) : V4 (w.alloc o) b q0 q1 q2 q3 := h.call ((Below.refl _ _).alloc (Nat.le_refl _) o)
theorem V4.drew (h : V4 w b q0 q1 q2 q3) : V4 w.drew b q0 q1 q2 q3 := ⟨h.c0, h.c1, h.c2, h.c3, h.f0, h.f1, h.f2, h.f3, h.lt⟩
theorem V4.new (w : World) (q0 q1 q2 q3 : Value) (t : TypeId) : V4 (w.alloc (.cells #[q0, q1, q2, q3] t)) w.heap.size q0 q1 q2 q3 :=
 ⟨by rw [World.cell?_alloc_at _ _ _ _ rfl]; rfl, by rw [World.cell?_alloc_at _ _ _ _ rfl]; rfl, by rw [World.cell?_alloc_at _ _ _ _ rfl]; rfl, by rw [World.cell?_alloc_at _ _ _ _ rfl]; rfl,
  World.frozen?_alloc_at _ _ _ _ rfl, World.frozen?_alloc_at _ _ _ _ rfl, World.frozen?_alloc_at _ _ _ _ rfl, World.frozen?_alloc_at _ _ _ _ rfl, by simp⟩
theorem V4.far (h : V4 w b q0 q1 q2 q3) {p : Addr} (hp : p.block ≠ b) (x : Value) : V4 (w.setCell p x) b q0 q1 q2 q3 := by
 have hb : (w.setCell p x).heap[b]? = w.heap[b]? := Below.heap_setCell w p x b (fun e => hp e.symm)
 exact ⟨(World.cell?_of_block (w := w) (a := ⟨b, 0, none⟩) hb).trans h.c0, (World.cell?_of_block (w := w) (a := ⟨b, 1, none⟩) hb).trans h.c1, (World.cell?_of_block (w := w) (a := ⟨b, 2, none⟩) hb).trans h.c2, (World.cell?_of_block (w := w) (a := ⟨b, 3, none⟩) hb).trans h.c3,
  (World.frozen?_of_block (w := w) (a := ⟨b, 0, none⟩) hb).trans h.f0, (World.frozen?_of_block (w := w) (a := ⟨b, 1, none⟩) hb).trans h.f1, (World.frozen?_of_block (w := w) (a := ⟨b, 2, none⟩) hb).trans h.f2, (World.frozen?_of_block (w := w) (a := ⟨b, 3, none⟩) hb).trans h.f3, by simpa [World.setCell] using h.lt⟩

theorem cell_same {p : Addr} {v : Value} (h : w.cell? p = some v) (u : Value) : (w.setCell p u).cell? p = some u := World.cell?_setCell_same' _ _ _ (by rw [h]; rfl)
theorem cell_other {b i j : Nat} {v : Value} (h : w.cell? ⟨b, i, none⟩ = some v) (hij : i ≠ j) (u : Value) : (w.setCell ⟨b, j, none⟩ u).cell? ⟨b, i, none⟩ = some v := by
 rw [World.cell?_setCell_other _ _ _ _ (by simp)]
 exact h
theorem frozen_set {p r : Addr} (h : w.frozen? p = false) (u : Value) : (w.setCell r u).frozen? p = false := by simpa [go_sem] using h
theorem lt_set {r : Addr} (h : b < w.heap.size) (u : Value) : b < (w.setCell r u).heap.size := by simpa [World.setCell] using h

theorem V4.put0 (h : V4 w b q0 q1 q2 q3) (u : Value) : V4 (w.setCell ⟨b, 0, none⟩ u) b u q1 q2 q3 :=
 ⟨cell_same h.c0 u, cell_other h.c1 (by omega) u, cell_other h.c2 (by omega) u, cell_other h.c3 (by omega) u, frozen_set h.f0 u, frozen_set h.f1 u, frozen_set h.f2 u, frozen_set h.f3 u, lt_set h.lt u⟩
theorem V4.put1 (h : V4 w b q0 q1 q2 q3) (u : Value) : V4 (w.setCell ⟨b, 1, none⟩ u) b q0 u q2 q3 :=
 ⟨cell_other h.c0 (by omega) u, cell_same h.c1 u, cell_other h.c2 (by omega) u, cell_other h.c3 (by omega) u, frozen_set h.f0 u, frozen_set h.f1 u, frozen_set h.f2 u, frozen_set h.f3 u, lt_set h.lt u⟩
theorem V4.put2 (h : V4 w b q0 q1 q2 q3) (u : Value) : V4 (w.setCell ⟨b, 2, none⟩ u) b q0 q1 u q3 :=
 ⟨cell_other h.c0 (by omega) u, cell_other h.c1 (by omega) u, cell_same h.c2 u, cell_other h.c3 (by omega) u, frozen_set h.f0 u, frozen_set h.f1 u, frozen_set h.f2 u, frozen_set h.f3 u, lt_set h.lt u⟩
theorem V4.put3 (h : V4 w b q0 q1 q2 q3) (u : Value) : V4 (w.setCell ⟨b, 3, none⟩ u) b q0 q1 q2 u :=
 ⟨cell_other h.c0 (by omega) u, cell_other h.c1 (by omega) u, cell_other h.c2 (by omega) u, cell_same h.c3 u, frozen_set h.f0 u, frozen_set h.f1 u, frozen_set h.f2 u, frozen_set h.f3 u, lt_set h.lt u⟩
theorem V4.set (h : V4 w b q0 q1 q2 q3) (u0 u1 u2 u3 : Value) : V4 ((((w.setCell ⟨b, 0, none⟩ u0).setCell ⟨b, 1, none⟩ u1).setCell ⟨b, 2, none⟩ u2).setCell ⟨b, 3, none⟩ u3) b u0 u1 u2 u3 :=
 (((h.put0 u0).put1 u1).put2 u2).put3 u3
end

/-! ### sums with what is left over -/
end Go.Proofs.Ytpggflcapfkgpaa

namespace Go.Proofs.Ytpggflcapfkgpaa
open Go.RowKit Fm
set_option linter.unusedVariables false
set_option maxRecDepth 100000



theorem P2_int : ((Pm 2 : Nat) : Int) = 340282366920938462946865773367900766209 := rfl
theorem nI2 (a0 a1 : Int) : nI ((2 : Nat) : Int) a0 a1 = a0 + 18446744073709551616 * a1 := by unfold nI; rw [if_neg (by omega)]

structure Limbs (n q0 q1 q2 q3 : Int) : Prop where
 b : 0 ≤ q0 ∧ q0 ≤ 18446744073709551615 ∧ 0 ≤ q1 ∧ q1 ≤ 18446744073709551615 ∧ 0 ≤ q2 ∧ q2 ≤ 18446744073709551615 ∧ 0 ≤ q3 ∧ q3 ≤ 18446744073709551615
 sum : q0 + 18446744073709551616 * q1 + 340282366920938463463374607431768211456 * q2 + 6277101735386680763835789423207666416102355444464034512896 * q3 = n

end Go.Proofs.Ytpggflcapfkgpaa

namespace Go.Proofs.Ytpggflcapfkgpaa
open Go.RowKit Fm
set_option linter.unusedVariables false
set_option maxRecDepth 100000

theorem field_Of {f : Nat} (hf : IsF f) (n : Int) (w : World) (h0 : 0 ≤ n) (h1 : n ≤ 18446744073709551615) :
  Calls Try.prog 19 #[.int .u8 f, .int .u64 n] w (RetK (kL f n 0) w) := by
 rcases hf.or with rfl | rfl
 ·have hv : vK (kL 1 n 0) = .agg #[.int .u64 (n % 18446744069414584321), .int .u64 0] := by
   have hp : ((Pm 1 : Nat) : Int) = 18446744069414584321 := rfl
   have h := vK_of (x := kL 1 n 0) (z0 := n % 18446744069414584321) (z1 := 0) (by rw [← kI_nI, val_kI, hp]; show _ = n % _; omega) (Int.emod_nonneg _ (by omega)) (by have := Int.emod_lt_of_pos n (show (0 : Int) < 18446744069414584321 by omega); omega)
   show Value.agg #[.int .u64 (lo _), .int .u64 (hi _)] = _
   rw [h.1, h.2]
  show Calls Try.prog 19 #[.int .u8 1, .int .u64 n] w (RetK (kL 1 n 0) w)
  go_enter Try.func19, Try.ntmps19
  go_wp2_with (go_at_call 35; refine (gold_Of _ _ (by omega) (by omega)).mono ?_; rintro e w' ⟨rfl, rfl⟩)
  refine bodyPost_ret (by simp [results, Try.results19, go_sem]; rfl) rfl ⟨by rw [hv], by repeat (first | exact bA | with_reducible assumption | apply bB | (refine bC ?_ (by dsimp only; omega)) | apply bD | apply bE | (refine bF ?_ (by assumption)))⟩
 ·have hv : vK (kL 2 n 0) = .agg #[.int .u64 n, .int .u64 0] := by
   have h := vK_of (x := kL 2 n 0) (z0 := n) (z1 := 0) (by rw [← kI_nI, val_kI, P2_int, nI2]; omega) h0 h1
   show Value.agg #[.int .u64 (lo _), .int .u64 (hi _)] = _
   rw [h.1, h.2]
  show Calls Try.prog 19 #[.int .u8 2, .int .u64 n] w (RetK (kL 2 n 0) w)
  go_enter Try.func19, Try.ntmps19
  go_wp2
  refine bodyPost_ret (by simp [results, Try.results19, go_sem]; rfl) rfl ⟨by rw [hv], by repeat (first | exact bA | with_reducible assumption | apply bB | (refine bC ?_ (by dsimp only; omega)) | apply bD | apply bE | (refine bF ?_ (by assumption)))⟩

theorem field_One {f : Nat} (hf : IsF f) (w : World) : Calls Try.prog 17 #[.int .u8 f] w (RetK (1 : Fin (Pm f)) w) := by
 have h := fun wz => field_Of hf 1 wz (by omega) (by omega)
 rw [kL_one] at h
 have H := Lib.hid h
 clear h
 go_enter Try.func17, Try.ntmps17
 go_upto_region 1 with fail
 have s0 := V2.new w (.int .u64 0) (.int .u64 0) 55
 have hb00 : Below w.heap.size w (w.alloc (.cells #[(.int .u64 0), (.int .u64 0)] 55)) := by repeat (first | exact bA | with_reducible assumption | apply bB)
 have hsz : w.heap.size + 1 ≤ (w.alloc (.cells #[(.int .u64 0), (.int .u64 0)] 55)).heap.size := by simp only [World.size_alloc]; omega
 generalize (w.alloc (.cells #[(.int .u64 0), (.int .u64 0)] 55)) = w1 at s0 hb00 hsz ⊢
 go_wp2_with (go_at_call 19; refine (H.out _).mono ?_; rintro e w5 ⟨rfl, hb5⟩; obtain ⟨e0, e1, e2, e3, e4⟩ := s0.call hb5)
 refine bodyPost_ret (results_v2 (b := w.heap.size) (u := .int .u64 (lo (1 : Fin (Pm f)))) (v := .int .u64 (hi (1 : Fin (Pm f)))) ?_ rfl rfl) rfl ⟨rfl, by repeat (first | exact bA | with_reducible assumption | apply bB | (refine bC ?_ (by dsimp only; omega)) | apply bD | apply bE | (refine bF ?_ (by assumption)))⟩
 exact V2.set ⟨e0, e1, e2, e3, e4⟩ _ _

theorem field_NegL {f : Nat} (hf : IsF f) (a0 a1 : Int) (w : World) (h0 : 0 ≤ a0) (h1 : a0 ≤ 18446744073709551615) (k0 : 0 ≤ a1) (k1 : a1 ≤ 18446744073709551615) :
  Calls Try.prog 48 #[.int .u8 f, .agg #[.int .u64 a0, .int .u64 a1]] w (RetK (- kL f a0 a1) w) := by
 have h := fun wz => field_SubL hf 0 0 a0 a1 wz (by omega) (by omega) (by omega) (by omega) h0 h1 k0 k1
 rw [kL_zero, show (0 : Fin (Pm f)) - kL f a0 a1 = - kL f a0 a1 by grind] at h
 generalize - kL f a0 a1 = z at *
 have H := Lib.hid h
 clear h
 go_enter Try.func48, Try.ntmps48
 go_upto_region 1 with fail
 have q0 := (V2.new w (.int .u64 a0) (.int .u64 a1) 55).alloc (.cells #[(.int .u64 0), (.int .u64 0)] 55)
 have s0 := V2.new (w.alloc (.cells #[(.int .u64 a0), (.int .u64 a1)] 55)) (.int .u64 0) (.int .u64 0) 55
 simp only [World.size_alloc] at s0
 have hb00 : Below w.heap.size w ((w.alloc (.cells #[(.int .u64 a0), (.int .u64 a1)] 55)).alloc (.cells #[(.int .u64 0), (.int .u64 0)] 55)) := by repeat (first | exact bA | with_reducible assumption | apply bB)
 have hsz : w.heap.size + 2 ≤ ((w.alloc (.cells #[(.int .u64 a0), (.int .u64 a1)] 55)).alloc (.cells #[(.int .u64 0), (.int .u64 0)] 55)).heap.size := by simp only [World.size_alloc]; omega
 generalize ((w.alloc (.cells #[(.int .u64 a0), (.int .u64 a1)] 55)).alloc (.cells #[(.int .u64 0), (.int .u64 0)] 55)) = w1 at q0 s0 hb00 hsz ⊢
 obtain ⟨c0, c1, c2, c3, c4⟩ := q0
 go_wp2_with (go_at_call 45; refine (H.out _).mono ?_; rintro e w5 ⟨rfl, hb5⟩; obtain ⟨e0, e1, e2, e3, e4⟩ := s0.call hb5)
 refine bodyPost_ret (results_v2 (b := w.heap.size + 1) (u := .int .u64 (lo z)) (v := .int .u64 (hi z)) ?_ rfl rfl) rfl ⟨rfl, by repeat (first | exact bA | with_reducible assumption | apply bB | (refine bC ?_ (by dsimp only; omega)) | apply bD | apply bE | (refine bF ?_ (by assumption)))⟩
 exact V2.set ⟨e0, e1, e2, e3, e4⟩ _ _

section
variable {f : Nat} (hf : IsF f)
include hf
theorem field_NegK (x : Fin (Pm f)) (w : World) : Calls Try.prog 48 #[.int .u8 f, vK x] w (RetK (-x) w) := by
 have h := field_NegL hf (lo x) (hi x) w (lo_0 x) (lo_1 x) (hi_0 x) (hi_1 x)
 rwa [kL_lohi] at h
end

end Go.Proofs.Ytpggflcapfkgpaa

namespace Go.Proofs.Ytpggflcapfkgpaa
open Go.RowKit Fm
set_option linter.unusedVariables false
set_option maxRecDepth 100000

inductive Gad (f : Nat) where
 | mul
 | eval (cs : KL f)
 | par (n : Nat)

namespace Gad
variable {f : Nat}
def arity : Gad f → Nat
 | mul => 2
 | eval _ => 1
 | par n => 2 * n
def degree : Gad f → Nat
 | mul => 2
 | eval cs => cs.length - 1
 | par _ => 2
end Gad

def RepG {f : Nat} (w : World) (B : Nat) (k : Int) (sl : Value) (n : Int) : Gad f → Prop
 | .mul => k = 1 ∧ sl = .slice none 0 0 ∧ n = 0
 | .eval cs => k = 2 ∧ n = 0 ∧ SlK w B sl cs ∧ (∃ m y, cs.length = m + 1 ∧ cs[m]? = some y ∧ y ≠ 0 ∧ 1 ≤ m ∧ m ≤ 3)
 | .par m => k = 3 ∧ sl = .slice none 0 0 ∧ n = m ∧ 1 ≤ m ∧ m ≤ 16

theorem RepG.below {f : Nat} {w w' : World} {B : Nat} {k : Int} {sl : Value} {n : Int} {g : Gad f} (h : RepG w B k sl n g) (hb : Below B w w') : RepG w' B k sl n g := by
 cases g with
 | mul => exact h
 | eval cs => exact ⟨h.1, h.2.1, h.2.2.1.below hb, h.2.2.2⟩
 | par m => exact h
theorem RepG.mono {f : Nat} {w : World} {B B' : Nat} {k : Int} {sl : Value} {n : Int} {g : Gad f} (h : RepG w B k sl n g) (hB : B ≤ B') : RepG w B' k sl n g := by
 cases g with
 | mul => exact h
 | eval cs => exact ⟨h.1, h.2.1, h.2.2.1.mono hB, h.2.2.2⟩
 | par m => exact h
theorem RepG.later {f : Nat} {w w' : World} {k : Int} {sl : Value} {n : Int} {g : Gad f} (h : RepG w w.heap.size k sl n g) (hb : Below w.heap.size w w') : RepG w' w'.heap.size k sl n g := (h.below hb).mono hb.size

section
variable {f : Nat} (hf : IsF f)
include hf

theorem fvalid : (((f : Nat) : Int) == 1 || ((f : Nat) : Int) == 2) = true := by
 rcases hf.or with rfl | rfl <;> rfl
theorem field_ValidK (w : World) : Calls Try.prog 32 #[.int .u8 f] w fun e w' => e = .returned (.bool true) ∧ w = w' := by
 have h := field_Valid (f : Int) w
 rwa [fvalid hf] at h
omit hf in
theorem gadget_Arity (w : World) (B : Nat) (g : Gad f) (k : Int) (sl : Value) (n : Int) (hg : RepG w B k sl n g) :
  Calls Try.prog 23 #[.agg #[.int .u8 k, sl, .int .i64 n]] w fun e w' => e = .returned (.int .i64 (g.arity : Int)) ∧ Below w.heap.size w w' := by
 cases g with
 | mul =>
  obtain ⟨rfl, rfl, rfl⟩ := hg
  go_enter Try.func23, Try.ntmps23
  go_wp2
  go_ret
  exact ⟨rfl, by repeat (first | exact bA | with_reducible assumption | apply bB | (refine bC ?_ (by dsimp only; omega)) | apply bD | apply bE | (refine bF ?_ (by assumption)))⟩
 | eval cs =>
  obtain ⟨rfl, rfl, hs, hm⟩ := hg
  go_enter Try.func23, Try.ntmps23
  go_wp2
  go_ret
  exact ⟨rfl, by repeat (first | exact bA | with_reducible assumption | apply bB | (refine bC ?_ (by dsimp only; omega)) | apply bD | apply bE | (refine bF ?_ (by assumption)))⟩
 | par m =>
  obtain ⟨rfl, rfl, rfl, h1, h2⟩ := hg
  have hmx : max (m : Int) 0 = (m : Int) := by omega
  go_enter Try.func23, Try.ntmps23
  go_wp2
  go_ret
  exact ⟨ret_int (show 2 * (m : Int) = ((2 * m : Nat) : Int) by omega), by repeat (first | exact bA | with_reducible assumption | apply bB | (refine bC ?_ (by dsimp only; omega)) | apply bD | apply bE | (refine bF ?_ (by assumption)))⟩

omit hf in
theorem gadget_Degree (w : World) (B : Nat) (g : Gad f) (k : Int) (sl : Value) (n : Int) (hg : RepG w B k sl n g) :
  Calls Try.prog 24 #[.agg #[.int .u8 k, sl, .int .i64 n]] w fun e w' => e = .returned (.int .i64 (g.degree : Int)) ∧ Below w.heap.size w w' := by
 cases g with
 | mul =>
  obtain ⟨rfl, rfl, rfl⟩ := hg
  go_enter Try.func24, Try.ntmps24
  go_wp2
  go_ret
  exact ⟨rfl, by repeat (first | exact bA | with_reducible assumption | apply bB | (refine bC ?_ (by dsimp only; omega)) | apply bD | apply bE | (refine bF ?_ (by assumption)))⟩
 | eval cs =>
  obtain ⟨rfl, rfl, hs, m, y, hm, hy, hy0, h1, h2⟩ := hg
  obtain ⟨A, c, rfl, hc, hcm, hA⟩ := hs
  rw [show Gad.degree (.eval cs) = m by show cs.length - 1 = m; omega, hm]
  clear hA hy hm
  go_enter Try.func24, Try.ntmps24
  go_wp2
  go_ret
  exact ⟨ret_int (by omega), by repeat (first | exact bA | with_reducible assumption | apply bB | (refine bC ?_ (by dsimp only; omega)) | apply bD | apply bE | (refine bF ?_ (by assumption)))⟩
 | par m =>
  obtain ⟨rfl, rfl, rfl, h1, h2⟩ := hg
  go_enter Try.func24, Try.ntmps24
  go_wp2
  go_ret
  exact ⟨rfl, by repeat (first | exact bA | with_reducible assumption | apply bB | (refine bC ?_ (by dsimp only; omega)) | apply bD | apply bE | (refine bF ?_ (by assumption)))⟩

end

end Go.Proofs.Ytpggflcapfkgpaa

namespace Go.Proofs.Ytpggflcapfkgpaa
open Go.RowKit Fm
set_option linter.unusedVariables false
set_option maxRecDepth 100000

def usedB (n most : Int) (is : Bool) : Bool := if is then (decide (1 ≤ n) && decide (n ≤ most)) else n == 0
theorem usedB_no (n most : Int) : usedB n most false = (n == 0) := rfl
theorem usedB_yes (n most : Int) : usedB n most true = (decide (1 ≤ n) && decide (n ≤ most)) := rfl

inductive CK where
 | count
 | sum (b : Nat)
 | vec (b l c : Nat)
 | hist (l c : Nat)
 | multi (l m c : Nat)

namespace CK
def k : CK → Nat
 | count => 1
 | sum _ => 2
 | vec _ _ _ => 3
 | hist _ _ => 4
 | multi _ _ _ => 5
def b : CK → Nat
 | sum b => b
 | vec b _ _ => b
 | _ => 0
def l : CK → Nat
 | vec _ l _ => l
 | hist l _ => l
 | multi l _ _ => l
 | _ => 0
def m : CK → Nat
 | multi _ m _ => m
 | _ => 0
def c : CK → Nat
 | vec _ _ c => c
 | hist _ c => c
 | multi _ _ c => c
 | _ => 0
def ok : CK → Prop
 | count => True
 | sum b => 1 ≤ b ∧ b ≤ 32
 | vec b l c => (1 ≤ b ∧ b ≤ 32) ∧ (1 ≤ l ∧ l ≤ 64) ∧ (1 ≤ c ∧ c ≤ 16)
 | hist l c => (1 ≤ l ∧ l ≤ 64) ∧ (1 ≤ c ∧ c ≤ 16)
 | multi l m c => (1 ≤ l ∧ l ≤ 64) ∧ (1 ≤ m ∧ m ≤ l) ∧ (1 ≤ c ∧ c ≤ 16)
def nin : CK → Nat
 | count => 1
 | sum b => b
 | vec b l _ => l * b
 | hist l _ => l
 | multi l m _ => l + Lib.bitLen m
def nout : CK → Nat
 | count => 1
 | sum _ => 1
 | vec _ l _ => l
 | hist l _ => l
 | multi l _ _ => l
def calls : CK → Nat
 | count => 1
 | sum b => b
 | y => (y.nin + y.c - 1) / y.c
def gad (f : Nat) : CK → Gad f
 | count => .mul
 | sum _ => .eval [0, -1, 1]
 | vec _ _ c => .par c
 | hist _ c => .par c
 | multi _ _ c => .par c
def arity : CK → Nat
 | count => 2
 | sum _ => 1
 | y => 2 * y.c
def val (f : Nat) (y : CK) : Value := .agg #[.int .u8 y.k, .int .u8 f, .int .i64 y.b, .int .i64 y.l, .int .i64 y.m, .int .i64 y.c]
def rval (f : Nat) (y : CK) : Value := .agg #[.int .i64 y.k, .int .i64 f, .int .i64 y.b, .int .i64 y.l, .int .i64 y.m, .int .i64 y.c]
end CK

theorem gad_arity (f : Nat) (y : CK) : (y.gad f).arity = y.arity := by cases y <;> rfl
theorem gad_degree (f : Nat) (y : CK) : (y.gad f).degree = 2 := by cases y <;> rfl

/-! ### how many bits -/
theorem bitLen_small : ∀ m : Nat, m ≤ 64 → Lib.bitLen m ≤ 7 ∧ m < 2 ^ Lib.bitLen m ∧ (1 ≤ m → 1 ≤ Lib.bitLen m) := by decide +kernel

theorem mul_small {a b p q : Nat} (h : a ≤ p) (k : b ≤ q) : a * b ≤ p * q := Nat.mul_le_mul h k

namespace CK
theorem nin_le {y : CK} (h : y.ok) : y.nin ≤ 2048 := by
 cases y with
 | count => show 1 ≤ 2048; omega
 | sum b => show b ≤ 2048; have := h.2; omega
 | vec b l c => exact Nat.le_trans (mul_small h.2.1.2 h.1.2) (by omega)
 | hist l c => show l ≤ 2048; have := h.1.2; omega
 | multi l m c =>
  show l + Lib.bitLen m ≤ 2048
  have h1 := h.1.2
  have h2 := h.2.1.2
  have := (bitLen_small m (by omega)).1
  omega
theorem nin_pos {y : CK} (h : y.ok) : 1 ≤ y.nin := by
 cases y with
 | count => show 1 ≤ 1; omega
 | sum b => exact h.1
 | vec b l c => exact Nat.mul_pos h.2.1.1 h.1.1
 | hist l c => exact h.1.1
 | multi l m c => exact Nat.le_trans h.1.1 (Nat.le_add_right _ _)
end CK

theorem ceil_le {n c : Nat} (hc : 1 ≤ c) : (n + c - 1) / c ≤ n := by
 refine Nat.le_of_lt_succ ((Nat.div_lt_iff_lt_mul (by omega)).2 ?_)
 have h := Nat.mul_le_mul_left n hc
 rw [Nat.succ_mul]
 omega

/-! ### the least power of two that isn't below -/
def nextP (n : Nat) : Nat :=
 if n ≤ 1 then 1 else if n ≤ 2 then 2 else if n ≤ 4 then 4 else if n ≤ 8 then 8 else if n ≤ 16 then 16 else if n ≤ 32 then 32 else if n ≤ 64 then 64 else if n ≤ 128 then 128 else if n ≤ 256 then 256 else if n ≤ 512 then 512 else 1024
def OnWay (n out : Nat) : Prop := (out = 1 ∨ out = 2 ∨ out = 4 ∨ out = 8 ∨ out = 16 ∨ out = 32 ∨ out = 64 ∨ out = 128 ∨ out = 256 ∨ out = 512 ∨ out = 1024) ∧ (out = 1 ∨ out < 2 * n)
theorem onWay_one (n : Nat) : OnWay n 1 := ⟨.inl rfl, .inl rfl⟩
theorem onWay_next {n out : Nat} (h : OnWay n out) (h1 : out < n) (h2 : out < 1024) : OnWay n (2 * out) := by
 obtain ⟨h, _⟩ := h
 refine ⟨by omega, .inr (by omega)⟩
theorem onWay_end {n out : Nat} (h : OnWay n out) (hn : n ≤ 1024) (h1 : ¬ out < n) : nextP n = out := by
 obtain ⟨h, h2⟩ := h
 unfold nextP
 repeat' split
 all_goals omega
theorem onWay_le {n out : Nat} (h : OnWay n out) : 1 ≤ out ∧ out ≤ 1024 := by
 obtain ⟨h, _⟩ := h
 omega
theorem nextP_le (n : Nat) : 1 ≤ nextP n ∧ nextP n ≤ 1024 := by
 unfold nextP
 repeat' split
 all_goals omega

end Go.Proofs.Ytpggflcapfkgpaa
