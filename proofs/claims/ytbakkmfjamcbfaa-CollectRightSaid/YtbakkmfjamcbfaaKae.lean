/-
 Reg, Kit, Vs, Ref2, Ref3, Quad, WideMul: what the statements of this layer share.
-/
import Derived.OrdersHeld
import Derived.StillTail
import Derived.WalkKit
import Derived.BigQuiet
import Derived.Test.YtbakkmfjamcbfaaKad
namespace Go.Proofs.Ytbakkmfjamcbfaa
open Go Go.RowKit

theorem Zp (a : Act) (t : Tmp) (v : Value) : a.put (some t) v = { a with tmps := a.tmps.setIfInBounds t v } := rfl
theorem Zq {α : Type} (l : List α) (i : Nat) (x : α) : l.toArray.setIfInBounds i x = (l.set i x).toArray := by simp
theorem Zr {α : Type} (y : α) (l : List α) (n : Nat) (x : α) : (y :: l).set (n + 1) x = y :: l.set n x := rfl
theorem Zs {α : Type} (y : α) (l : List α) (x : α) : (y :: l).set 0 x = x :: l := rfl

section
variable {P : Program} {ops : Array Oper} {Q : Exit → Act → World → Prop} {md : Region.Mode} {W0 : World → Prop} {S : Array Bool → Act → World → Prop}

def UponV (P : Program) (R : Value → World → Prop) : Result Next → Prop
 | .ok (.value v) w' => R v w'
 | .ok (.enter f args) w' => Calls P f args w' (fun e w'' => ∃ v, e = .returned v ∧ R v w'')
 | _ => False

theorem UponV.upon {R : Value → World → Prop} {o : Oper} {a : Act} {K : Act → World → Prop} {r : Result Next} (h : UponV P R r) (hK : ∀ v w', R v w' → K (a.put o.dst v) w') : o.upon P a K Q r := by
 cases r with
 | ok n w' =>
  cases n
  case value v => exact hK v w' h
  case enter f args =>
   refine Calls.mono (show Calls P f args w' (fun e w'' => ∃ v, e = .returned v ∧ R v w'') from h) fun e w'' he => ?_
   obtain ⟨v, rfl, hr⟩ := he
   exact hK v w'' hr
  all_goals exact False.elim h
 | halt x w' => exact False.elim h

def Det (P : Program) (ops : Array Oper) (W0 : World → Prop) (o : Oper) (v : Value) (a : Act) : Prop :=
 (Region.wanted o (yielded ops a.tmps) = true ∧ ∀ w, W0 w → UponV P (fun u w' => u = v ∧ Below w.heap.size w w') ((execOp a.eval o).run P w)) ∨
 (Region.wanted o (yielded ops a.tmps) = false ∧ v = undef)

theorem Det.wpOp {i : Nat} {o : Oper} {v : Value} {a : Act} (hi : ops[i]? = some o) (hy : Det P ops W0 o v a) {K : Act → World → Prop} {w : World} (hw : W0 w)
  (h : ∀ w', Below w.heap.size w w' → K (a.put o.dst v) w') : wpOp P ops Q i K a w := by
 unfold Go.wpOp
 simp only [hi]
 rcases hy with ⟨hwt, hv⟩ | ⟨hwt, rfl⟩
 ·simp only [hwt, if_true]
  refine .inl ?_
  unfold Oper.wp
  refine (hv w hw).upon ?_
  rintro u w' ⟨rfl, hb⟩
  exact h w' hb
 ·simp only [hwt, Bool.false_eq_true, if_false]
  exact h w (Below.refl _ _)

theorem Det.of_same {o : Oper} {v : Value} {a a' : Act} (hy : Det P ops W0 o v a) (he : execOp a'.eval o = execOp a.eval o)
  (hw : Region.wanted o (yielded ops a'.tmps) = Region.wanted o (yielded ops a.tmps)) : Det P ops W0 o v a' := by
 unfold Det at *
 rw [he, hw]
 exact hy

def Trod (o : Oper) (a a' : Act) : Prop := ∃ ds u, a' = ({ a with defers := ds } : Act).put o.dst u

theorem upon_track {o : Oper} {a : Act} {K : Act → World → Prop} {r : Result Next} (h : o.upon P a K Q r) : o.upon P a (fun a' w' => Trod o a a' ∧ K a' w') Q r := by
 cases r with
 | ok n w' =>
  cases n <;> simp only [Oper.upon] at h ⊢
  case value v => exact ⟨⟨a.defers, v, rfl⟩, h⟩
  case skip => exact ⟨⟨a.defers, _, rfl⟩, h⟩
  case defer d => exact ⟨⟨_, _, rfl⟩, h⟩
  case enter f args =>
   refine Calls.mono h fun e w'' he => ?_
   cases e with
   | returned u => exact ⟨⟨a.defers, u, rfl⟩, he⟩
   | panicked c => exact he
   | outgrown => exact he
  case row r args => exact Rows.mono h fun v w'' he => ⟨⟨a.defers, v, rfl⟩, he⟩
 | halt x w' => cases x <;> simp only [Oper.upon] at h ⊢ <;> exact h

theorem wpOp_track {j : Nat} {oj : Oper} (hj : ops[j]? = some oj) {a : Act} {w : World} {K : Act → World → Prop} (h : wpOp P ops Q j K a w) : wpOp P ops Q j (fun a' w' => Trod oj a a' ∧ K a' w') a w := by
 unfold wpOp at *
 simp only [hj] at *
 split
 ·rename_i hw
  simp only [hw, if_true] at h
  exact h.imp upon_track id
 ·rename_i hw
  simp only [hw] at h
  exact ⟨⟨a.defers, _, rfl⟩, h⟩

theorem Det.trod {oi oj : Oper} {v : Value} {a a' : Act} (hsi : ∀ cs b, oi.op ≠ .select cs b) (hap : oi.apart ops oj = true) (hy : Det P ops W0 oi v a) (ht : Trod oj a a') : Det P ops W0 oi v a' := by
 obtain ⟨ds, u, rfl⟩ := ht
 obtain ⟨_, _, h3⟩ := Oper.apart_spec hap
 have h0 : Det P ops W0 oi v ({ a with defers := ds } : Act) := hy.of_same rfl rfl
 exact h0.of_same (execOp_put oi hsi _ oj.dst u h3) (wanted_put oi _ oj.dst u h3)

theorem wpOp_putDet {j : Nat} {oi oj : Oper} {v : Value} (hj : ops[j]? = some oj) (hap : oi.apart ops oj = true)
  (hsi : ∀ cs b, oi.op ≠ .select cs b) (hsj : ∀ cs b, oj.op ≠ .select cs b)
  (hQ : ∀ c a w, Q (.panic c) (a.put oi.dst v) w → Q (.panic c) a w) {K : Act → World → Prop} {a : Act} {w : World}
  (hy : Det P ops W0 oi v a) (h : wpOp P ops Q j K (a.put oi.dst v) w) :
  wpOp P ops Q j (fun a' w' => Det P ops W0 oi v a' ∧ K (a'.put oi.dst v) w') a w := by
 have hf : YieldsIf P ops (fun _ => False) oi v a := hy.imp (fun h => ⟨h.1, fun _ hF => hF.elim⟩) id
 have h1 := wpOp_track hj (wpOp_putIf hj hap hsi hsj hQ hf h)
 exact wpOp_mono (fun a' w' h2 => ⟨hy.trod hsi hap h2.1, h2.2.2⟩) h1

structure RegS (W0 : World → Prop) (S : Array Bool → Act → World → Prop) : Prop where
 toW : ∀ l a w, S l a w → W0 w
 ext : ∀ l a w w', S l a w → Below w.heap.size w w' → S l a w'

structure HInv (md : Region.Mode) (ops : Array Oper) (n m : Nat) (listed : Array Bool) : Prop where
 size : listed.size = ops.size
 closed : ∀ j oj, ops[j]? = some oj → listed.getD j false = true → ∀ e ∈ oj.after, Region.binds md e = true → listed.getD e.on false = true
 tail : ∀ t, n ≤ t → t < m → listed.getD t true = false
 post : ∀ t, m ≤ t → t < ops.size → listed.getD t true = true

def chainTo (md : Region.Mode) (ops : Array Oper) (n m : Nat) : Bool := (List.range m).all fun t => decide (t ≤ n) || Region.waitsFor md ops t (t - 1)

def closedB (md : Region.Mode) (ops : Array Oper) (listed : Array Bool) : Bool :=
 (List.range ops.size).all fun j => !listed.getD j false || match ops[j]? with
  | some oj => oj.after.all fun e => !Region.binds md e || listed.getD e.on false
  | none => true

def partsB (md : Region.Mode) (ops : Array Oper) (n m : Nat) (listed : Array Bool) : Bool :=
 Region.noSelect ops && decide (n ≤ m) && decide (m ≤ ops.size) && decide (listed.size = ops.size) && closedB md ops listed && (decide (ops.size ≤ n) || Region.sinkB md ops n) && chainTo md ops n m &&
  ((List.range ops.size).all fun t => (decide (t < n) || decide (m ≤ t) || !listed.getD t true) && (decide (t < m) || listed.getD t true))

structure Parts (md : Region.Mode) (ops : Array Oper) (n m : Nat) : Prop where
 nosel : Region.noSelect ops = true
 lt : n ≤ m
 le : m ≤ ops.size
 sink : ops.size ≤ n ∨ Region.sinkB md ops n = true
 chain : chainTo md ops n m = true

theorem parts_of {n m : Nat} {listed : Array Bool} (h : partsB md ops n m listed = true) : Parts md ops n m ∧ HInv md ops n m listed := by
 simp only [partsB, Bool.and_eq_true, decide_eq_true_eq] at h
 obtain ⟨⟨⟨⟨⟨⟨⟨h1, h2⟩, h3⟩, h4⟩, h5⟩, h6⟩, h7⟩, h8⟩ := h
 refine ⟨⟨h1, h2, h3, by simpa using h6, h7⟩, h4, ?_, ?_, ?_⟩
 ·intro j oj hj hl e he hb
  have hlt := (Array.getElem?_eq_some_iff.1 hj).1
  have h := List.all_eq_true.1 h5 j (List.mem_range.2 hlt)
  simp only [hl, hj, Bool.not_true, Bool.false_or] at h
  have h' := Array.all_eq_true_iff_forall_mem.1 h e he
  simpa [hb] using h'
 ·intro t ht htm
  have h := List.all_eq_true.1 h8 t (List.mem_range.2 (by omega))
  simp only [Bool.and_eq_true, Bool.or_eq_true, decide_eq_true_eq] at h
  rcases h.1 with (h' | h') | h'
  ·omega
  ·omega
  ·simpa using h'
 ·intro t ht hts
  have h := List.all_eq_true.1 h8 t (List.mem_range.2 hts)
  simp only [Bool.and_eq_true, Bool.or_eq_true, decide_eq_true_eq] at h
  rcases h.2 with h' | h'
  ·omega
  ·exact h'

theorem HInv.set {n m i : Nat} {listed : Array Bool} (inv : HInv md ops n m listed) (hi : i ∈ Region.ready md ops listed) (hin : i < n) (hnm : n ≤ m) : HInv md ops n m (listed.setIfInBounds i true) := by
 obtain ⟨_, oi, hoi, hall⟩ := mem_ready.1 hi
 refine ⟨by simp [inv.size], fun j oj hj hl e he hb => ?_, fun t ht ht' => by rw [getD_set_ne true (by omega)]; exact inv.tail t ht ht', fun t ht ht' => by rw [getD_set_ne true (by omega)]; exact inv.post t ht ht'⟩
 by_cases hij : i = j
 ·subst hij
  have : oj = oi := Option.some.inj (hj.symm.trans hoi)
  subst this
  exact getD_set_true (hall e he hb)
 ·rw [getD_set_ne false hij] at hl
  exact getD_set_true (inv.closed j oj hj hl e he hb)

theorem head_only {n m : Nat} {listed : Array Bool} (hp : Parts md ops n m) (inv : HInv md ops n m listed) :
  ∀ (d i : Nat), n - i = d → i < n → listed.getD i true = false → ∀ t, n ≤ t → t ∉ Region.ready md ops listed := by
 intro d
 induction d using Nat.strongRecOn with
 | _ d ih =>
  intro i hd hi hun t ht hr
  obtain ⟨hu, ot, hot, hall⟩ := mem_ready.1 hr
  have htlt : t < ops.size := (Array.getElem?_eq_some_iff.1 hot).1
  have htm : t < m := by
   rcases Nat.lt_or_ge t m with h | h
   ·exact h
   ·rw [inv.post t h htlt] at hu
    cases hu
  by_cases htn : t = n
  ·subst htn
   have hsk : Region.sinkB md ops t = true := hp.sink.resolve_left (by omega)
   obtain ⟨j, hj, hj2⟩ := List.any_eq_true.1 (List.all_eq_true.1 hsk i (List.mem_range.2 hi))
   simp only [Bool.and_eq_true, decide_eq_true_eq] at hj2
   obtain ⟨oj, hoj, e, he, hb, hon⟩ := Region.waitsFor_spec hj2.2
   have hjle : j ≤ t := by have := List.mem_range.1 hj; omega
   by_cases hjt : j = t
   ·subst hjt
    have : oj = ot := Option.some.inj (hoj.symm.trans hot)
    subst this
    have h2 := hall e he hb
    rw [hon, getD_both hun] at h2
    cases h2
   ·cases hl : listed.getD j false with
    | true =>
     have h2 := inv.closed j oj hoj hl e he hb
     rw [hon, getD_both hun] at h2
     cases h2
    | false =>
     have hjs : j < listed.size := by rw [inv.size]; omega
     exact ih (t - j) (by omega) j rfl (by omega) (getD_in hjs hl) t (Nat.le_refl _) hr
  ·have h1 := List.all_eq_true.1 hp.chain t (List.mem_range.2 htm)
   simp only [Bool.or_eq_true, decide_eq_true_eq] at h1
   rcases h1 with h1 | h1
   ·omega
   ·obtain ⟨o', ho', e, he, hb, hon⟩ := Region.waitsFor_spec h1
    have : o' = ot := Option.some.inj (ho'.symm.trans hot)
    subst this
    have h2 := hall e he hb
    rw [hon, getD_both (inv.tail (t - 1) (by omega) (by omega))] at h2
    cases h2

def wpH (P : Program) (md : Region.Mode) (ops : Array Oper) (Q : Exit → Act → World → Prop) (n m : Nat) (S : Array Bool → Act → World → Prop) (L : Act → World → Prop) : Nat → Array Bool → Act → Prop
 | 0, listed, a => Region.seqB md ops (m - n) n listed = true ∧ ∀ w, S listed a w → L a w
 | f + 1, listed, a =>
  Region.ready md ops listed ≠ [] ∧
  ∀ i ∈ Region.ready md ops listed, i < n ∧ ∀ w, S listed a w → wpOp P ops Q i (fun a' w' => S (listed.setIfInBounds i true) a' w' ∧ wpH P md ops Q n m S L f (listed.setIfInBounds i true) a') a w

theorem wpAny_of_H {n m : Nat} {L : Act → World → Prop} (hL : ∀ listed a w, Region.seqB md ops (m - n) n listed = true → L a w → wpAny P md ops Q (m - n) listed a w) :
  ∀ (f : Nat) (listed : Array Bool) (a : Act), wpH P md ops Q n m S L f listed a → ∀ w, S listed a w → wpAny P md ops Q (f + (m - n)) listed a w
 | 0, listed, a, h, w, hS => by rw [Nat.zero_add]; exact hL _ _ _ h.1 (h.2 w hS)
 | f + 1, listed, a, h, w, hS => by
  rw [show f + 1 + (m - n) = (f + (m - n)) + 1 by omega]
  exact ⟨fun h0 => absurd h0 h.1, fun i hi => wpOp_mono (fun a' w' h' => wpAny_of_H hL f _ a' h'.2 w' h'.1) ((h.2 i hi).2 w hS)⟩

theorem wpH_first {n m : Nat} {L : Act → World → Prop} (hR : RegS W0 S) (hp : Parts md ops n m) {i : Nat} {oi : Oper} {v : Value} (hi : ops[i]? = some oi) (hin : i < n)
  (hQ : ∀ c a w, Q (.panic c) (a.put oi.dst v) w → Q (.panic c) a w)
  (hup : ∀ l a w, S l a w → S (l.setIfInBounds i true) (a.put oi.dst v) w) (hdn : ∀ l a w, S (l.setIfInBounds i true) (a.put oi.dst v) w → S l a w) :
  ∀ (f : Nat) (listed : Array Bool) (a : Act), HInv md ops n m listed →
   (∀ j oj, ops[j]? = some oj → j ≠ i → listed.getD j true = false → (∀ e ∈ oj.after, Region.binds md e = true → e.on ≠ i) → oi.apart ops oj = true) →
   i ∈ Region.ready md ops listed → Det P ops W0 oi v a →
   wpH P md ops Q n m S L f (listed.setIfInBounds i true) (a.put oi.dst v) → wpH P md ops Q n m S L (f + 1) listed a := by
 have hsel := Region.noSelect_spec hp.nosel
 intro f
 induction f with
 | zero =>
  intro listed a inv _ hr hy H
  have hun := (mem_ready.1 hr).1
  refine ⟨fun h => (by rw [h] at hr; cases hr), fun j hj => ?_⟩
  have hjn : j < n := by
   rcases Nat.lt_or_ge j n with h | h
   ·exact h
   ·exact absurd hj (head_only hp inv _ i rfl hin hun j h)
  refine ⟨hjn, fun w hS => ?_⟩
  by_cases hji : j = i
  ·subst hji
   exact hy.wpOp hi (hR.toW _ _ _ hS) fun w' hb => ⟨hup _ _ _ (hR.ext _ _ _ _ hS hb), H⟩
  ·have := seqB_ready H.1 j (ready_mono hj hji)
   omega
 | succ f ih =>
  intro listed a inv hfree hr hy H
  have hun := (mem_ready.1 hr).1
  refine ⟨fun h => (by rw [h] at hr; cases hr), fun j hj => ?_⟩
  have hjn : j < n := by
   rcases Nat.lt_or_ge j n with h | h
   ·exact h
   ·exact absurd hj (head_only hp inv _ i rfl hin hun j h)
  refine ⟨hjn, fun w hS => ?_⟩
  by_cases hji : j = i
  ·subst hji
   exact hy.wpOp hi (hR.toW _ _ _ hS) fun w' hb => ⟨hup _ _ _ (hR.ext _ _ _ _ hS hb), H⟩
  ·have h1 := (H.2 j (ready_mono hj hji)).2 w (hup _ _ _ hS)
   obtain ⟨hjun, oj, hoj, hall⟩ := mem_ready.1 hj
   have hnot : ∀ e ∈ oj.after, Region.binds md e = true → e.on ≠ i := fun e he hb heq => by
    have h1 := hall e he hb
    rw [heq, getD_both hun] at h1
    cases h1
   have h2 := wpOp_putDet hoj (hfree j oj hoj hji hjun hnot) (fun cs b => hsel i oi cs b hi) (fun cs b => hsel j oj cs b hoj) hQ hy h1
   have hfree' : ∀ k ok, ops[k]? = some ok → k ≠ i → (listed.setIfInBounds j true).getD k true = false →
     (∀ e ∈ ok.after, Region.binds md e = true → e.on ≠ i) → oi.apart ops ok = true := fun k ok hk hki hu hno => by
    refine hfree k ok hk hki ?_ hno
    by_cases hjk : j = k
    ·subst hjk
     exact hjun
    ·rw [getD_set_ne true hjk] at hu
     exact hu
   refine wpOp_mono (fun a' w' h3 => ?_) h2
   have hcomm : (listed.setIfInBounds i true).setIfInBounds j true = (listed.setIfInBounds j true).setIfInBounds i true := (Array.setIfInBounds_comm _ _ hji).symm
   rw [hcomm] at h3
   exact ⟨hdn _ _ _ h3.2.1, ih (listed.setIfInBounds j true) a' (inv.set hj hjn hp.lt) hfree' (ready_mono hr (Ne.symm hji)) h3.1 h3.2.2⟩

def WpH (P : Program) (md : Region.Mode) (ops : Array Oper) (Q : Exit → Act → World → Prop) (n m : Nat) (S : Array Bool → Act → World → Prop) (L : Act → World → Prop) (f : Nat) (listed : Array Bool) (a : Act) : Prop :=
 Parts md ops n m → HInv md ops n m listed → wpH P md ops Q n m S L f listed a

theorem WpH.take {n m : Nat} {L : Act → World → Prop} (hR : RegS W0 S) {i : Nat} {oi : Oper} {v : Value} {f : Nat} {listed : Array Bool} {a : Act} (hi : ops[i]? = some oi)
  (hB : (decide (i < n) && Region.free md ops listed i && (Region.ready md ops listed).contains i) = true)
  (hQ : ∀ c a w, Q (.panic c) (a.put oi.dst v) w → Q (.panic c) a w)
  (hup : ∀ l a w, S l a w → S (l.setIfInBounds i true) (a.put oi.dst v) w) (hdn : ∀ l a w, S (l.setIfInBounds i true) (a.put oi.dst v) w → S l a w)
  (hy : Det P ops W0 oi v a)
  (h : WpH P md ops Q n m S L f (listed.setIfInBounds i true) (a.put oi.dst v)) : WpH P md ops Q n m S L (f + 1) listed a := by
 simp only [Bool.and_eq_true, decide_eq_true_eq] at hB
 obtain ⟨⟨hin, hf⟩, hr⟩ := hB
 have hr' : i ∈ Region.ready md ops listed := by simpa using hr
 exact fun hp inv => wpH_first hR hp hi hin hQ hup hdn f listed a inv (Region.free_spec hi hf) hr' hy (h hp (inv.set hr' hin hp.lt))

theorem WpH.one {n m : Nat} {L : Act → World → Prop} {i : Nat} {f : Nat} {listed : Array Bool} {a : Act}
  (hB : (decide (i < n) && decide (Region.ready md ops listed = [i])) = true)
  (h : ∀ w, S listed a w → wpOp P ops Q i (fun a' w' => S (listed.setIfInBounds i true) a' w' ∧ WpH P md ops Q n m S L f (listed.setIfInBounds i true) a') a w) : WpH P md ops Q n m S L (f + 1) listed a := by
 simp only [Bool.and_eq_true, decide_eq_true_eq] at hB
 obtain ⟨hin, hr⟩ := hB
 intro hp inv
 refine ⟨by rw [hr]; simp, fun j hj => ?_⟩
 have hj' : j = i := by rw [hr] at hj; simpa using hj
 subst hj'
 exact ⟨hin, fun w hS => wpOp_mono (fun a' w' h' => ⟨h'.1, h'.2 hp (inv.set hj hin hp.lt)⟩) (h w hS)⟩

theorem WpH.done {n m : Nat} {L : Act → World → Prop} {listed : Array Bool} {a : Act} (hB : Region.seqB md ops (m - n) n listed = true) (h : ∀ w, S listed a w → L a w) : WpH P md ops Q n m S L 0 listed a :=
 fun _ _ => ⟨hB, h⟩

theorem any_of_tail {Q' : Exit → Act → World → Prop} : ∀ (l : List Oper) (k : Nat) (listed : Array Bool) (a : Act) (w : World), (∀ j, j < l.length → l[j]? = ops[k + j]?) →
  Region.seqB md ops l.length k listed = true → wpList P ops Q' l a w → wpAny P md ops Q' l.length listed a w
 | [], _, _, _, _, _, hB, h => ⟨by simpa [Region.seqB] using hB, h⟩
 | o :: l, k, listed, a, w, hl, hB, h => by
  have h0 : ops[k]? = some o := by simpa using (hl 0 (by simp)).symm
  simp only [List.length_cons, Region.seqB, Bool.and_eq_true, decide_eq_true_eq] at hB
  refine ⟨fun h1 => (by rw [hB.1] at h1; cases h1), fun i hi => ?_⟩
  rw [hB.1] at hi
  have hik : i = k := by simpa using hi
  subst hik
  have hw : wpOp P ops Q' i (wpList P ops Q' l) a w := by
   unfold wpOp
   simp only [h0]
   exact h
  refine wpOp_mono (fun a' w' h' => any_of_tail l (i + 1) _ a' w' (fun j hj => ?_) hB.2 h') hw
  have := hl (j + 1) (by simp; omega)
  simpa [Nat.add_assoc, Nat.add_comm 1 j] using this

theorem any_H {l : List Oper} {n m f : Nat} {listed : Array Bool} {a : Act} {w : World} (hB : partsB md l.toArray n m listed = true) (hS : S listed a w)
  (h : WpH P md l.toArray Q n m S (wpList P l.toArray Q ((l.drop n).take (m - n))) f listed a) : wpAny P md l.toArray Q (f + (m - n)) listed a w := by
 obtain ⟨hp, inv⟩ := parts_of hB
 refine wpAny_of_H (L := wpList P l.toArray Q ((l.drop n).take (m - n))) (fun listed' a' w' hq hl => ?_) f listed a (h hp inv) w hS
 have hlen : ((l.drop n).take (m - n)).length = m - n := by
  have := hp.le
  simp at this ⊢
  omega
 have := any_of_tail (P := P) (md := md) (ops := l.toArray) (Q' := Q) ((l.drop n).take (m - n)) n listed' a' w' (fun j hj => ?_) (by rw [hlen]; exact hq) hl
 ·rwa [hlen] at this
 ·rw [hlen] at hj
  simp [hj]

theorem region_H {id n m f : Nat} {l : List Oper} {a : Act} {w : World} (hm : P.follows .mixedOrders = true) (hB : partsB .any l.toArray n m (Array.replicate l.length false) = true) (hf : f + (m - n) = l.length)
  (hS : S (Array.replicate l.length false) a w.drew)
  (h : WpH P .any l.toArray Q n m S (wpList P l.toArray Q ((l.drop n).take (m - n))) f (Array.replicate l.length false) a) : (Code.region id l.toArray true).wp P Q a w := by
 refine wp_region_any hm ?_
 have := any_H hB hS h
 rw [hf] at this
 simpa using this
end

def Flat (W0 : World → Prop) (_ : Array Bool) (_ : Act) (w : World) : Prop := W0 w
theorem RegS.flat {W0 : World → Prop} (h : ∀ w w', W0 w → Below w.heap.size w w' → W0 w') : RegS W0 (Flat W0) := ⟨fun _ _ _ hS => hS, fun _ _ w w' hS hb => h w w' hS hb⟩

theorem Det.val {P : Program} {ops : Array Oper} {W0 : World → Prop} {o : Oper} {v : Value} {a : Act} (hw : Region.wanted o (yielded ops a.tmps) = true) (h : ∀ w, W0 w → (execOp a.eval o).run P w = .ok (.value v) w) : Det P ops W0 o v a :=
 .inl ⟨hw, fun w hW => by rw [h w hW]; exact ⟨rfl, Below.refl _ _⟩⟩
theorem Det.call {P : Program} {ops : Array Oper} {W0 : World → Prop} {o : Oper} {v : Value} {a : Act} {f : FuncId} {args : Array Value} (hw : Region.wanted o (yielded ops a.tmps) = true)
  (hc : ∀ w, W0 w → Calls P f args w (fun e w' => e = .returned v ∧ Below w.heap.size w w')) (h : ∀ w, W0 w → (execOp a.eval o).run P w = .ok (.enter f args) w) : Det P ops W0 o v a :=
 .inl ⟨hw, fun w hW => by rw [h w hW]; exact Calls.mono (hc w hW) fun e w' he => ⟨v, he.1, rfl, he.2⟩⟩
theorem Det.skip {P : Program} {ops : Array Oper} {W0 : World → Prop} {o : Oper} {a : Act} (hw : Region.wanted o (yielded ops a.tmps) = false) : Det P ops W0 o undef a := .inr ⟨hw, rfl⟩

/-! ### the usual form: W0 is 'all below is as it was when the region began' -/
section
variable {P : Program} {ops : Array Oper} {Q : Exit → Act → World → Prop} {md : Region.Mode} {W : World}
theorem RegS.below (W : World) : RegS (Below W.heap.size W) (Flat (Below W.heap.size W)) := .flat fun _ _ h hb => h.trans (hb.mono h.size)

theorem region_B {id n m f : Nat} {l : List Oper} {a : Act} {w : World} (hm : P.follows .mixedOrders = true) (hB : partsB .any l.toArray n m (Array.replicate l.length false) = true) (hf : f + (m - n) = l.length)
  (h : WpH P .any l.toArray Q n m (Flat (Below w.heap.size w)) (wpList P l.toArray Q ((l.drop n).take (m - n))) f (Array.replicate l.length false) a) : (Code.region id l.toArray true).wp P Q a w :=
 region_H hm hB hf (show Below w.heap.size w w.drew from (Below.refl _ _).drew) h

theorem WpH.takeB {n m : Nat} {L : Act → World → Prop} {i : Nat} {oi : Oper} {v : Value} {f : Nat} {listed : Array Bool} {a : Act} (hi : ops[i]? = some oi)
  (hB : (decide (i < n) && Region.free md ops listed i && (Region.ready md ops listed).contains i) = true)
  (hQ : ∀ c a w, Q (.panic c) (a.put oi.dst v) w → Q (.panic c) a w)
  (hy : Det P ops (Below W.heap.size W) oi v a)
  (h : WpH P md ops Q n m (Flat (Below W.heap.size W)) L f (listed.setIfInBounds i true) (a.put oi.dst v)) : WpH P md ops Q n m (Flat (Below W.heap.size W)) L (f + 1) listed a :=
 WpH.take (RegS.below W) hi hB hQ (fun _ _ _ h => h) (fun _ _ _ h => h) hy h

theorem WpH.doneB {n m : Nat} {L : Act → World → Prop} {listed : Array Bool} {a : Act} (hB : Region.seqB md ops (m - n) n listed = true) (h : ∀ w, Below W.heap.size W w → L a w) :
  WpH P md ops Q n m (Flat (Below W.heap.size W)) L 0 listed a := WpH.done hB h

theorem wpOp_value {i : Nat} {o : Oper} {v : Value} {a : Act} {w w' : World} {K : Act → World → Prop} (hi : ops[i]? = some o) (hw : Region.wanted o (yielded ops a.tmps) = true)
  (h : (execOp a.eval o).run P w = .ok (.value v) w') (hK : K (a.put o.dst v) w') : wpOp P ops Q i K a w := by
 unfold wpOp
 simp only [hi, hw, if_true]
 refine .inl ?_
 unfold Oper.wp
 rw [h]
 exact hK

def WithNew (W : World) (k : Nat) (t : Tmp) (R : Value → World → Prop) (l : Array Bool) (a : Act) (w : World) : Prop := Below W.heap.size W w ∧ (l.getD k false = true → R (a.tmps.getD t undef) w)
theorem RegS.withNew {k : Nat} {t : Tmp} {R : Value → World → Prop} (hR : ∀ v w w', R v w → Below w.heap.size w w' → R v w') : RegS (Below W.heap.size W) (WithNew W k t R) :=
 ⟨fun _ _ _ h => h.1, fun _ _ _ _ h hb => ⟨h.1.trans (hb.mono h.1.size), fun hk => hR _ _ _ (h.2 hk) hb⟩⟩
theorem withNew_put {k i : Nat} {t : Tmp} {d : Option Tmp} {v : Value} {R : Value → World → Prop} {l : Array Bool} {a : Act} {w : World} (hik : (i == k) = false) (hd : (d == some t) = false) :
  WithNew W k t R (l.setIfInBounds i true) (a.put d v) w = WithNew W k t R l a w := by
 unfold WithNew
 have h1 : (l.setIfInBounds i true).getD k false = l.getD k false := getD_set_ne false (by simpa using hik)
 have h2 : (a.put d v).tmps.getD t undef = a.tmps.getD t undef := by
  cases d with
  | none => rfl
  | some d =>
   have hdt : d ≠ t := by simpa using hd
   simp [Act.put, Array.getElem?_setIfInBounds_ne hdt]
 rw [h1, h2]

theorem WpH.takeN {n m k : Nat} {t : Tmp} {R : Value → World → Prop} {L : Act → World → Prop} (hR : ∀ v w w', R v w → Below w.heap.size w w' → R v w') {i : Nat} {oi : Oper} {v : Value} {f : Nat} {listed : Array Bool} {a : Act} (hi : ops[i]? = some oi)
  (hB : (decide (i < n) && Region.free md ops listed i && (Region.ready md ops listed).contains i) = true) (hik : (i == k) = false) (hd : (oi.dst == some t) = false)
  (hQ : ∀ c a w, Q (.panic c) (a.put oi.dst v) w → Q (.panic c) a w)
  (hy : Det P ops (Below W.heap.size W) oi v a)
  (h : WpH P md ops Q n m (WithNew W k t R) L f (listed.setIfInBounds i true) (a.put oi.dst v)) : WpH P md ops Q n m (WithNew W k t R) L (f + 1) listed a :=
 WpH.take (RegS.withNew hR) hi hB hQ (fun _ _ _ h => by rw [withNew_put hik hd]; exact h) (fun _ _ _ h => by rw [withNew_put hik hd] at h; exact h) hy h

theorem region_N {id n m f : Nat} {l : List Oper} {a : Act} {w : World} (k : Nat) (t : Tmp) (R : Value → World → Prop) (hm : P.follows .mixedOrders = true) (hB : partsB .any l.toArray n m (Array.replicate l.length false) = true) (hf : f + (m - n) = l.length)
  (h : WpH P .any l.toArray Q n m (WithNew w k t R) (wpList P l.toArray Q ((l.drop n).take (m - n))) f (Array.replicate l.length false) a) : (Code.region id l.toArray true).wp P Q a w :=
 region_H hm hB hf ⟨(Below.refl _ _).drew, fun hk => (by rw [getD_replicate_false] at hk; cases hk)⟩ h
end

end Go.Proofs.Ytbakkmfjamcbfaa

namespace Go.Proofs.Ytbakkmfjamcbfaa
open Go.RowKit Fm
set_option linter.unusedVariables false
set_option maxRecDepth 100000

theorem isF2 : IsF 2 := ⟨.inr rfl⟩
theorem isF1 : IsF 1 := ⟨.inl rfl⟩

def NewE (B : Nat) (v : Value) (w : World) : Prop := ∃ b, v = .pointer (some ⟨b, 0, none⟩) ∧ B ≤ b ∧ V2 w b (.int .u64 0) (.int .u64 0)
theorem newE_stable (B : Nat) : ∀ v w w', NewE B v w → Below w.heap.size w w' → NewE B v w' := fun _ _ _ ⟨b, h1, h2, h3⟩ hb => ⟨b, h1, h2, h3.call hb⟩

theorem V2.oth {w : World} {b c : Nat} {u v : Value} (h : V2 w c u v) (hne : b ≠ c) (x y : Value) : V2 ((w.setCell ⟨b, 0, none⟩ x).setCell ⟨b, 1, none⟩ y) c u v :=
 (h.setOther (by exact hne) x).setOther (by exact hne) y
theorem bl_st {B b : Nat} {a w : World} (h : Below B a w) (hp : B ≤ b) (x y : Value) : Below B a ((w.setCell ⟨b, 0, none⟩ x).setCell ⟨b, 1, none⟩ y) := bl_set (bl_set h hp x) hp y
theorem RetE.det {n : Int} {w : World} {e : Ending} {w' : World} (h : RetE n w e w') {z0 z1 : Int} (hz : z0 + 18446744073709551616 * z1 = n) (h0 : 0 ≤ z0) (h1 : z0 ≤ 18446744073709551615) :
  e = .returned (.agg #[.int .u64 z0, .int .u64 z1]) ∧ Below w.heap.size w w' := by
 obtain ⟨x0, x1, rfl, ⟨g0, g1, g2, g3⟩, HX, hb⟩ := h
 have hx := HX.out
 obtain rfl : x0 = z0 := by omega
 obtain rfl : x1 = z1 := by omega
 exact ⟨rfl, hb⟩

theorem limbs2 (n : Int) (h0 : 0 ≤ n) (h1 : n < 340282366920938463463374607431768211456) : ∃ z0 z1 : Int, z0 + 18446744073709551616 * z1 = n ∧ 0 ≤ z0 ∧ z0 ≤ 18446744073709551615 ∧ 0 ≤ z1 ∧ z1 ≤ 18446744073709551615 :=
 ⟨n % 18446744073709551616, n / 18446744073709551616, by omega, by omega, by omega, by omega, by omega⟩

theorem val_lohi {f : Nat} (x : Fin (Pm f)) : lo x + 18446744073709551616 * hi x = ((x.val : Nat) : Int) := by
 have hx := x.isLt
 have h2 := Pm_lt f
 unfold lo hi eK eN
 dsimp only
 omega
theorem val_add {f : Nat} (x y : Fin (Pm f)) : (((x + y).val : Nat) : Int) = (((x.val : Nat) : Int) + ((y.val : Nat) : Int)) % ((Pm f : Nat) : Int) := by
 rw [Fin.val_add, Int.natCast_emod, Int.natCast_add]
theorem val_pos {f : Nat} (x : Fin (Pm f)) : 0 ≤ ((x.val : Nat) : Int) ∧ ((x.val : Nat) : Int) < ((Pm f : Nat) : Int) := by
 have hx := x.isLt
 omega
end Go.Proofs.Ytbakkmfjamcbfaa

namespace Go.Proofs.Ytbakkmfjamcbfaa
open Go.RowKit Fm
set_option linter.unusedVariables false
set_option maxRecDepth 100000

structure Vs (w : World) (b : Nat) (cs : List Value) : Prop where
 cell : ∀ i v, cs[i]? = some v → w.cell? ⟨b, i, none⟩ = some v
 frz : ∀ i, i < cs.length → w.frozen? ⟨b, i, none⟩ = false
 lt : b < w.heap.size

section
variable {w w' : World} {b : Nat} {cs : List Value}
theorem Vs.call (h : Vs w b cs) (hb : Below w.heap.size w w') : Vs w' b cs :=
 ⟨fun i v hi => cell_call (h.cell i v hi) hb, fun i hi => frozen_call h.lt (h.frz i hi) hb, Nat.lt_of_lt_of_le h.lt hb.size⟩
theorem Vs.alloc (h : Vs w b cs) (o : Obj) : Vs (w.alloc o) b cs := h.call ((Below.refl _ _).alloc (Nat.le_refl _) o)
theorem Vs.drew (h : Vs w b cs) : Vs w.drew b cs := ⟨h.cell, h.frz, h.lt⟩
theorem Vs.new (w : World) (cs : List Value) (a : Array Value) (t : TypeId) (h : a = cs.toArray) : Vs (w.alloc (.cells a t)) w.heap.size cs := by
 subst h
 refine ⟨fun i v hi => ?_, fun i hi => World.frozen?_alloc_at _ _ _ _ rfl, by simp⟩
 rw [World.cell?_alloc_at _ _ _ _ rfl]
 simpa using hi
theorem Vs.far (h : Vs w b cs) {p : Addr} (hp : p.block ≠ b) (x : Value) : Vs (w.setCell p x) b cs := by
 have hb : (w.setCell p x).heap[b]? = w.heap[b]? := Below.heap_setCell w p x b (fun e => hp e.symm)
 exact ⟨fun i v hi => (World.cell?_of_block (w := w) (a := ⟨b, i, none⟩) hb).trans (h.cell i v hi), fun i hi => (World.frozen?_of_block (w := w) (a := ⟨b, i, none⟩) hb).trans (h.frz i hi), by simpa [World.setCell] using h.lt⟩
theorem Vs.put (h : Vs w b cs) (i : Nat) (hi : i < cs.length) (x : Value) : Vs (w.setCell ⟨b, i, none⟩ x) b (cs.set i x) := by
 refine ⟨fun j v hj => ?_, fun j hj => ?_, by simpa [World.setCell] using h.lt⟩
 ·by_cases hij : i = j
  ·subst hij
   rw [List.getElem?_set_self hi] at hj
   have hs : (w.cell? ⟨b, i, none⟩).isSome = true := by rw [h.cell i _ (List.getElem?_eq_getElem hi)]; rfl
   rw [World.cell?_setCell_same' _ _ _ hs]
   exact hj
  ·rw [List.getElem?_set_ne hij] at hj
   rw [World.cell?_setCell_other _ _ _ _ (by first | (simp; done) | (simp; omega))]
   exact h.cell j v hj
 ·have := h.frz j (by simpa using hj)
  simpa [go_sem] using this
theorem Vs.get3 {x y z : Value} (h : Vs w b [x, y, z]) : w.cell? ⟨b, 0, none⟩ = some x ∧ w.cell? ⟨b, 1, none⟩ = some y ∧ w.cell? ⟨b, 2, none⟩ = some z ∧ w.frozen? ⟨b, 0, none⟩ = false ∧ w.frozen? ⟨b, 1, none⟩ = false ∧ w.frozen? ⟨b, 2, none⟩ = false ∧ b < w.heap.size :=
 ⟨h.cell 0 _ rfl, h.cell 1 _ rfl, h.cell 2 _ rfl, h.frz 0 (by simp), h.frz 1 (by simp), h.frz 2 (by simp), h.lt⟩
theorem Vs.get6 {x y z p q r : Value} (h : Vs w b [x, y, z, p, q, r]) : (w.cell? ⟨b, 0, none⟩ = some x ∧ w.cell? ⟨b, 1, none⟩ = some y ∧ w.cell? ⟨b, 2, none⟩ = some z ∧ w.cell? ⟨b, 3, none⟩ = some p ∧ w.cell? ⟨b, 4, none⟩ = some q ∧ w.cell? ⟨b, 5, none⟩ = some r) ∧
  (w.frozen? ⟨b, 0, none⟩ = false ∧ w.frozen? ⟨b, 1, none⟩ = false ∧ w.frozen? ⟨b, 2, none⟩ = false ∧ w.frozen? ⟨b, 3, none⟩ = false ∧ w.frozen? ⟨b, 4, none⟩ = false ∧ w.frozen? ⟨b, 5, none⟩ = false) ∧ b < w.heap.size :=
 ⟨⟨h.cell 0 _ rfl, h.cell 1 _ rfl, h.cell 2 _ rfl, h.cell 3 _ rfl, h.cell 4 _ rfl, h.cell 5 _ rfl⟩, ⟨h.frz 0 (by simp), h.frz 1 (by simp), h.frz 2 (by simp), h.frz 3 (by simp), h.frz 4 (by simp), h.frz 5 (by simp)⟩, h.lt⟩
end

end Go.Proofs.Ytbakkmfjamcbfaa

namespace Go.Proofs.Ytbakkmfjamcbfaa
open Go.RowKit Fm
set_option linter.unusedVariables false
set_option maxRecDepth 100000

theorem add_val {f : Nat} (x y : Fin (Pm f)) : (((x + y).val : Nat) : Int) = if ((x.val : Nat) : Int) < ((Pm f : Nat) : Int) - ((y.val : Nat) : Int) then ((x.val : Nat) : Int) + ((y.val : Nat) : Int) else ((x.val : Nat) : Int) + ((y.val : Nat) : Int) - ((Pm f : Nat) : Int) := by
 rw [val_add]
 have hx := val_pos x
 have hy := val_pos y
 split
 ·exact Int.emod_eq_of_lt (by omega) (by omega)
 ·rw [← Int.sub_emod_right, Int.emod_eq_of_lt (by omega) (by omega)]

set_option maxHeartbeats 600000 in
theorem ref_AddL {f : Nat} (hf : IsF f) (a0 a1 b0 b1 : Int) (w : World) (h0 : 0 ≤ a0) (h1 : a0 ≤ 18446744073709551615) (k0 : 0 ≤ a1) (k1 : a1 ≤ 18446744073709551615)
  (g0 : 0 ≤ b0) (g1 : b0 ≤ 18446744073709551615) (j0 : 0 ≤ b1) (j1 : b1 ≤ 18446744073709551615) :
  Calls Try.prog 56 #[.int .i64 f, .agg #[.int .u64 a0, .int .u64 a1], .agg #[.int .u64 b0, .int .u64 b1]] w (RetK (kL f a0 a1 + kL f b0 b1) w) := by
 have hOa := fun wz => ref_OfL hf a0 a1 wz h0 h1 k0 k1
 have hOb := fun wz => ref_OfL hf b0 b1 wz g0 g1 j0 j1
 generalize kL f a0 a1 = x at *
 generalize kL f b0 b1 = y at *
 obtain ⟨p0, p1, hr⟩ := (FM.ofN hf).ref
 have hp : 0 ≤ p0 ∧ p0 ≤ 18446744073709551615 ∧ 0 ≤ p1 ∧ p1 ≤ 18446744073709551615 ∧ ((Pm f : Nat) : Int) = p0 + 18446744073709551616 * p1 := by
  rcases hr.or with ⟨_, rfl, rfl, h⟩ | ⟨_, rfl, rfl, h⟩ <;> omega
 obtain ⟨hp0, hp1, hp2, hp3, hpm'⟩ := hp
 have hx := val_pos x
 have hy := val_pos y
 have hxl := val_lohi x
 have hyl := val_lohi y
 have hPl := Pm_lt f
 have hxy := add_val x y
 obtain ⟨r0, r1, hrn, hr0, hr1, hr2, hr3⟩ := limbs2 (((Pm f : Nat) : Int) - ((y.val : Nat) : Int)) (by omega) (by omega)
 have HP : ∀ wz, Calls Try.prog 90 #[.int .i64 f] wz (fun e w' => e = .returned (.agg #[.int .u64 p0, .int .u64 p1]) ∧ Below wz.heap.size wz w') := fun wz => ref_P f _ p0 p1 wz hr
 have HT : ∀ wz, Calls Try.prog 91 #[.agg #[.int .u64 p0, .int .u64 p1], vK y] wz (fun e w' => e = .returned (.agg #[.int .u64 r0, .int .u64 r1]) ∧ Below wz.heap.size wz w') := fun wz =>
  (ref_take p0 p1 (lo y) (hi y) wz (by omega) (by omega) (lo_0 y) (lo_1 y) (by omega) (by omega) (hi_0 y) (hi_1 y)).mono fun e w' h => h.det (by rw [hyl, ← hpm', hrn, Int.emod_eq_of_lt (by omega) (by omega)]) hr0 hr1
 have HL : ∀ wz, Calls Try.prog 89 #[vK x, .agg #[.int .u64 r0, .int .u64 r1]] wz (fun e w' => e = .returned (.bool (decide (((x.val : Nat) : Int) < ((Pm f : Nat) : Int) - ((y.val : Nat) : Int)))) ∧ Below wz.heap.size wz w') := fun wz => by
  have h := ref_Less (lo x) (hi x) r0 r1 wz (lo_0 x) (lo_1 x) hr0 hr1
  rwa [hxl, hrn] at h
 have H1 := Lib.hid hOa
 have H2 := Lib.hid hOb
 have H3 := Lib.hid HP
 have H4 := Lib.hid HT
 have H5 := Lib.hid HL
 have H6 : Hid (((x.val : Nat) : Int) < ((Pm f : Nat) : Int) - ((y.val : Nat) : Int) → ∀ wz, Calls Try.prog 92 #[vK x, vK y] wz (RetK (x + y) wz)) := by
  intro hlt wz
  have h := ref_plus (lo x) (hi x) (lo y) (hi y) wz (lo_0 x) (lo_1 x) (lo_0 y) (lo_1 y) (hi_0 x) (hi_1 x) (hi_0 y) (hi_1 y) (by rw [hxl, hyl]; omega)
  rw [hxl, hyl] at h
  rw [if_pos hlt] at hxy
  exact h.mono fun e w' h => h.det (by rw [val_lohi, hxy]) (lo_0 _) (lo_1 _)
 have H7 : Hid (¬ ((x.val : Nat) : Int) < ((Pm f : Nat) : Int) - ((y.val : Nat) : Int) → ∀ wz, Calls Try.prog 91 #[vK x, .agg #[.int .u64 r0, .int .u64 r1]] wz (RetK (x + y) wz)) := by
  intro hlt wz
  have h := ref_take (lo x) (hi x) r0 r1 wz (lo_0 x) (lo_1 x) hr0 hr1 (hi_0 x) (hi_1 x) hr2 hr3
  rw [hxl, hrn] at h
  rw [if_neg hlt] at hxy
  exact h.mono fun e w' h => h.det (by rw [val_lohi, hxy, Int.emod_eq_of_lt (by omega) (by omega)]; omega) (lo_0 _) (lo_1 _)
 clear hOa hOb HP HT HL hxy hrn hyl hxl hpm' hx hy hPl
 go_enter Try.func56, Try.ntmps56
 go_wp2_with fail
 have q0 := ((V2.new w (.int .u64 a0) (.int .u64 a1) 99).alloc (.cells #[.int .u64 b0, .int .u64 b1] 99)).alloc (.cells #[.int .u64 0, .int .u64 0] 99)
 have t0 := (V2.new (w.alloc (.cells #[.int .u64 a0, .int .u64 a1] 99)) (.int .u64 b0) (.int .u64 b1) 99).alloc (.cells #[.int .u64 0, .int .u64 0] 99)
 have s0 := V2.new ((w.alloc (.cells #[.int .u64 a0, .int .u64 a1] 99)).alloc (.cells #[.int .u64 b0, .int .u64 b1] 99)) (.int .u64 0) (.int .u64 0) 99
 simp only [World.size_alloc] at t0 s0
 have hb00 : Below w.heap.size w (((w.alloc (.cells #[.int .u64 a0, .int .u64 a1] 99)).alloc (.cells #[.int .u64 b0, .int .u64 b1] 99)).alloc (.cells #[.int .u64 0, .int .u64 0] 99)) := by repeat (first | exact bA | with_reducible assumption | apply bB | (refine bC ?_ (by dsimp only; omega)) | apply bD | apply bE | (refine bF ?_ (by assumption)))
 have hsz : w.heap.size + 3 ≤ (((w.alloc (.cells #[.int .u64 a0, .int .u64 a1] 99)).alloc (.cells #[.int .u64 b0, .int .u64 b1] 99)).alloc (.cells #[.int .u64 0, .int .u64 0] 99)).heap.size := by simp only [World.size_alloc]; omega
 generalize ((w.alloc (.cells #[.int .u64 a0, .int .u64 a1] 99)).alloc (.cells #[.int .u64 b0, .int .u64 b1] 99)).alloc (.cells #[.int .u64 0, .int .u64 0] 99) = w1 at *
 have q01 := q0
 obtain ⟨c0, c1, c2, c3, c4⟩ := q01
 have t01 := t0
 obtain ⟨d0, d1, d2, d3, d4⟩ := t01
 refine region_B (n := 6) (m := 8) (f := 6) (by kernel_rfl) (by kernel_rfl) rfl ?_
 refine WpH.takeB (i := 0) (v := ?_) rfl (by kernel_rfl) (fun _ _ _ h => h) (.val rfl (fun wz hwz => ?_)) ?_
 rotate_left
 ·go_simp; try (with_reducible rfl)
 (simp only [Act.put]); (try simp only [List.setIfInBounds_toArray]); (try simp only [List.set_cons_succ]); (try simp only [List.set_cons_zero])
 refine WpH.takeB (i := 1) (v := ?_) rfl (by kernel_rfl) (fun _ _ _ h => h) (.val rfl (fun wz hwz => ?_)) ?_
 rotate_left
 ·(obtain ⟨hcz, hfz⟩ := bcell hwz; go_simp; try (with_reducible rfl))
 (simp only [Act.put]); (try simp only [List.setIfInBounds_toArray]); (try simp only [List.set_cons_succ]); (try simp only [List.set_cons_zero])
 refine WpH.takeB (i := 2) rfl (by kernel_rfl) (fun _ _ _ h => h) (.call rfl (fun wz hwz => H1.out wz) (fun wz hwz => ?_)) ?_
 ·go_simp; try (with_reducible rfl)
 (simp only [Act.put]); (try simp only [List.setIfInBounds_toArray]); (try simp only [List.set_cons_succ]); (try simp only [List.set_cons_zero])
 refine WpH.takeB (i := 3) (v := ?_) rfl (by kernel_rfl) (fun _ _ _ h => h) (.val rfl (fun wz hwz => ?_)) ?_
 rotate_left
 ·go_simp; try (with_reducible rfl)
 (simp only [Act.put]); (try simp only [List.setIfInBounds_toArray]); (try simp only [List.set_cons_succ]); (try simp only [List.set_cons_zero])
 refine WpH.takeB (i := 4) (v := ?_) rfl (by kernel_rfl) (fun _ _ _ h => h) (.val rfl (fun wz hwz => ?_)) ?_
 rotate_left
 ·(obtain ⟨hcz, hfz⟩ := bcell hwz; go_simp; try (with_reducible rfl))
 (simp only [Act.put]); (try simp only [List.setIfInBounds_toArray]); (try simp only [List.set_cons_succ]); (try simp only [List.set_cons_zero])
 refine WpH.takeB (i := 5) rfl (by kernel_rfl) (fun _ _ _ h => h) (.call rfl (fun wz hwz => H2.out wz) (fun wz hwz => ?_)) ?_
 ·go_simp; try (with_reducible rfl)
 (simp only [Act.put]); (try simp only [List.setIfInBounds_toArray]); (try simp only [List.set_cons_succ]); (try simp only [List.set_cons_zero])
 refine WpH.doneB (by kernel_rfl) (fun w2 hw2 => ?_)
 (try simp only [List.drop_succ_cons]); (try simp only [List.drop_zero]); (try simp only [Nat.reduceSub]); (try simp only [List.take_succ_cons]); (try simp only [List.take_zero])
 replace q0 := q0.call hw2
 replace t0 := t0.call hw2
 replace s0 := s0.call hw2
 replace hb00 := bl_call hb00 (Nat.le_refl _) hw2
 clear c0 c1 c2 c3 c4 d0 d1 d2 d3 d4 hsz hw2
 obtain ⟨c0, c1, c2, c3, c4⟩ := V2.mk q0.c0 q0.c1 q0.f0 q0.f1 q0.lt
 obtain ⟨d0, d1, d2, d3, d4⟩ := V2.mk t0.c0 t0.c1 t0.f0 t0.f1 t0.lt
 go_wp2_with fail
 clear c0 c1 c2 c3 c4 d0 d1 d2 d3 d4
 replace q0 : V2 ((w2.setCell ⟨w.heap.size, 0, none⟩ (.int .u64 (lo x))).setCell ⟨w.heap.size, 1, none⟩ (.int .u64 (hi x))) (w.heap.size) (.int .u64 (lo x)) (.int .u64 (hi x)) := V2.set q0 _ _
 replace t0 := V2.oth t0 (b := w.heap.size) (by omega) (.int .u64 (lo x)) (.int .u64 (hi x))
 replace s0 := V2.oth s0 (b := w.heap.size) (by omega) (.int .u64 (lo x)) (.int .u64 (hi x))
 replace hb00 := bl_st hb00 (b := w.heap.size) (by omega) (.int .u64 (lo x)) (.int .u64 (hi x))
 replace q0 := V2.oth q0 (b := w.heap.size+1) (by omega) (.int .u64 (lo y)) (.int .u64 (hi y))
 replace t0 : V2 ((((w2.setCell ⟨w.heap.size, 0, none⟩ (.int .u64 (lo x))).setCell ⟨w.heap.size, 1, none⟩ (.int .u64 (hi x))).setCell ⟨w.heap.size+1, 0, none⟩ (.int .u64 (lo y))).setCell ⟨w.heap.size+1, 1, none⟩ (.int .u64 (hi y))) (w.heap.size+1) (.int .u64 (lo y)) (.int .u64 (hi y)) := V2.set t0 _ _
 replace s0 := V2.oth s0 (b := w.heap.size+1) (by omega) (.int .u64 (lo y)) (.int .u64 (hi y))
 replace hb00 := bl_st hb00 (b := w.heap.size+1) (by omega) (.int .u64 (lo y)) (.int .u64 (hi y))
 generalize ((((w2.setCell ⟨w.heap.size, 0, none⟩ (.int .u64 (lo x))).setCell ⟨w.heap.size, 1, none⟩ (.int .u64 (hi x))).setCell ⟨w.heap.size+1, 0, none⟩ (.int .u64 (lo y))).setCell ⟨w.heap.size+1, 1, none⟩ (.int .u64 (hi y))) = w3 at q0 t0 s0 hb00 ⊢
 have q31 := q0
 obtain ⟨c0, c1, c2, c3, c4⟩ := q31
 have t31 := t0
 obtain ⟨d0, d1, d2, d3, d4⟩ := t31
 have e4 := s0.lt
 have hNew := newE_stable (w.heap.size+3)
 refine region_N (n := 5) (m := 6) (f := 5) 4 7 (NewE (w.heap.size+3)) (by kernel_rfl) (by kernel_rfl) rfl ?_
 refine WpH.takeN hNew (i := 0) (v := ?_) rfl (by kernel_rfl) rfl rfl (fun _ _ _ h => h) (.val rfl (fun wz hwz => ?_)) ?_
 rotate_left
 ·go_simp; try (with_reducible rfl)
 (simp only [Act.put]); (try simp only [List.setIfInBounds_toArray]); (try simp only [List.set_cons_succ]); (try simp only [List.set_cons_zero])
 refine WpH.takeN hNew (i := 1) rfl (by kernel_rfl) rfl rfl (fun _ _ _ h => h) (.call rfl (fun wz hwz => H3.out wz) (fun wz hwz => ?_)) ?_
 ·go_simp; try (with_reducible rfl)
 (simp only [Act.put]); (try simp only [List.setIfInBounds_toArray]); (try simp only [List.set_cons_succ]); (try simp only [List.set_cons_zero])
 refine WpH.takeN hNew (i := 2) (v := ?_) rfl (by kernel_rfl) rfl rfl (fun _ _ _ h => h) (.val rfl (fun wz hwz => ?_)) ?_
 rotate_left
 ·(obtain ⟨hcz, hfz⟩ := bcell hwz; go_simp; try (with_reducible rfl))
 (simp only [Act.put]); (try simp only [List.setIfInBounds_toArray]); (try simp only [List.set_cons_succ]); (try simp only [List.set_cons_zero])
 refine WpH.takeN hNew (i := 3) rfl (by kernel_rfl) rfl rfl (fun _ _ _ h => h) (.call rfl (fun wz hwz => H4.out wz) (fun wz hwz => ?_)) ?_
 ·go_simp; try (with_reducible rfl)
 (simp only [Act.put]); (try simp only [List.setIfInBounds_toArray]); (try simp only [List.set_cons_succ]); (try simp only [List.set_cons_zero])
 refine WpH.one (i := 4) (by kernel_rfl) (fun w2 hw2 => ?_)
 refine wpOp_value rfl rfl (by go_simp; first | rfl | exact ⟨rfl, rfl⟩) ⟨⟨hw2.1.trans (((Below.refl _ _).alloc (Nat.le_refl _) _).mono hw2.1.size), fun _ => ⟨_, rfl, (by have hsz2 := hw2.1.size; (try simp only [World.size_alloc] at hsz2); omega), V2.new _ _ _ _⟩⟩, ?_⟩
 (simp only [Act.put]); (try simp only [List.setIfInBounds_toArray]); (try simp only [List.set_cons_succ]); (try simp only [List.set_cons_zero])
 refine WpH.done (by kernel_rfl) (fun w4 hw4n => ?_)
 obtain ⟨hw4, hnw4⟩ := hw4n
 obtain ⟨b, hbew4, hBb, hVb⟩ := hnw4 rfl
 simp at hbew4
 rw [hbew4]
 clear hNew hnw4 hw2 hbew4 w2
 (try simp only [List.drop_succ_cons]); (try simp only [List.drop_zero]); (try simp only [Nat.reduceSub]); (try simp only [List.take_succ_cons]); (try simp only [List.take_zero])
 replace q0 := q0.call hw4
 replace t0 := t0.call hw4
 replace s0 := s0.call hw4
 replace hb00 := bl_call hb00 (Nat.le_refl _) hw4
 clear c0 c1 c2 c3 c4 d0 d1 d2 d3 d4 hw4 e4
 have v01 := hVb
 obtain ⟨v0, v1, v2, v3, v4⟩ := v01
 go_upto_region 3 with fail
 clear v0 v1 v2 v3 v4
 replace hVb : V2 ((w4.setCell ⟨b, 0, none⟩ (.int .u64 r0)).setCell ⟨b, 1, none⟩ (.int .u64 r1)) (b) (.int .u64 r0) (.int .u64 r1) := V2.set hVb _ _
 replace q0 := V2.oth q0 (b := b) (by omega) (.int .u64 r0) (.int .u64 r1)
 replace t0 := V2.oth t0 (b := b) (by omega) (.int .u64 r0) (.int .u64 r1)
 replace s0 := V2.oth s0 (b := b) (by omega) (.int .u64 r0) (.int .u64 r1)
 replace hb00 := bl_st hb00 (b := b) (by omega) (.int .u64 r0) (.int .u64 r1)
 generalize ((w4.setCell ⟨b, 0, none⟩ (.int .u64 r0)).setCell ⟨b, 1, none⟩ (.int .u64 r1)) = w5 at hVb q0 t0 s0 hb00 ⊢
 obtain ⟨v0, v1, v2, v3, v4⟩ := hVb
 obtain ⟨c0, c1, c2, c3, c4⟩ := q0
 obtain ⟨d0, d1, d2, d3, d4⟩ := t0
 by_cases hlt : ((x.val : Nat) : Int) < ((Pm f : Nat) : Int) - ((y.val : Nat) : Int)
 ·have hd : decide (((x.val : Nat) : Int) < ((Pm f : Nat) : Int) - ((y.val : Nat) : Int)) = true := decide_eq_true hlt
  go_wp2_with (first
   | (go_at_call 89; refine (H5.out _).mono ?_; rintro e w5 ⟨rfl, hb5⟩; obtain ⟨c0, c1, c2, c3, c4⟩ := V2.call ⟨c0, c1, c2, c3, c4⟩ hb5; obtain ⟨d0, d1, d2, d3, d4⟩ := V2.call ⟨d0, d1, d2, d3, d4⟩ hb5; have s5 := s0.call hb5)
   | (go_at_call 92; refine (H6.out hlt _).mono ?_; rintro e w6 ⟨rfl, hb6⟩; obtain ⟨e0, e1, e2, e3, e4⟩ := s5.call hb6))
  refine bodyPost_ret (results_v2 (b := w.heap.size + 1 + 1) (u := .int .u64 (lo (x + y))) (v := .int .u64 (hi (x + y))) ?_ rfl rfl) rfl ⟨rfl, by repeat (first | exact bA | with_reducible assumption | apply bB | (refine bC ?_ (by dsimp only; omega)) | apply bD | apply bE | (refine bF ?_ (by assumption)))⟩
  exact V2.set ⟨e0, e1, e2, e3, e4⟩ _ _
 ·have hd : decide (((x.val : Nat) : Int) < ((Pm f : Nat) : Int) - ((y.val : Nat) : Int)) = false := decide_eq_false hlt
  go_wp2_with (first
   | (go_at_call 89; refine (H5.out _).mono ?_; rintro e w5 ⟨rfl, hb5⟩; obtain ⟨c0, c1, c2, c3, c4⟩ := V2.call ⟨c0, c1, c2, c3, c4⟩ hb5; obtain ⟨v0, v1, v2, v3, v4⟩ := V2.call ⟨v0, v1, v2, v3, v4⟩ hb5; have s5 := s0.call hb5)
   | (go_at_call 91; refine (H7.out (by omega) _).mono ?_; rintro e w6 ⟨rfl, hb6⟩; obtain ⟨e0, e1, e2, e3, e4⟩ := s5.call hb6))
  refine bodyPost_ret (results_v2 (b := w.heap.size + 1 + 1) (u := .int .u64 (lo (x + y))) (v := .int .u64 (hi (x + y))) ?_ rfl rfl) rfl ⟨rfl, by repeat (first | exact bA | with_reducible assumption | apply bB | (refine bC ?_ (by dsimp only; omega)) | apply bD | apply bE | (refine bF ?_ (by assumption)))⟩
  exact V2.set ⟨e0, e1, e2, e3, e4⟩ _ _

end Go.Proofs.Ytbakkmfjamcbfaa

namespace Go.Proofs.Ytbakkmfjamcbfaa
open Go.RowKit Fm
set_option linter.unusedVariables false
set_option maxRecDepth 100000

section
variable {f : Nat} (hf : IsF f)
include hf
theorem ref_AddK (x y : Fin (Pm f)) (w : World) : Calls Try.prog 56 #[.int .i64 f, vK x, vK y] w (RetK (x + y) w) := by
 have h := ref_AddL hf (lo x) (hi x) (lo y) (hi y) w (lo_0 x) (lo_1 x) (hi_0 x) (hi_1 x) (lo_0 y) (lo_1 y) (hi_0 y) (hi_1 y)
 rwa [kL_lohi, kL_lohi] at h
end

end Go.Proofs.Ytbakkmfjamcbfaa

namespace Go.Proofs.Ytbakkmfjamcbfaa
open Go.RowKit
set_option linter.unusedVariables false
set_option maxRecDepth 100000

structure V4 (w : World) (b : Nat) (q0 q1 q2 q3 : Value) : Prop where
 c0 : w.cell? ⟨b, 0, none⟩ = some q0
 c1 : w.cell? ⟨b, 1, none⟩ = some q1
 c2 : w.cell? ⟨b, 2, none⟩ = some q2
 c3 : w.cell? ⟨b, 3, none⟩ = some q3
 f0 : w.frozen? ⟨b, 0, none⟩ = false
 f1 : w.frozen? ⟨b, 1, none⟩ = false
 f2 : w.frozen? ⟨b, 2, none⟩ = false
 f3 : w.frozen? ⟨b, 3, none⟩ = false
 lt : b < w.heap.size

section
variable {w w' : World} {b : Nat} {q0 q1 q2 q3 : Value}
theorem V4.call (h : V4 w b q0 q1 q2 q3) (hb : Below w.heap.size w w') : V4 w' b q0 q1 q2 q3 :=
 ⟨cell_call h.c0 hb, cell_call h.c1 hb, cell_call h.c2 hb, cell_call h.c3 hb, frozen_call h.lt h.f0 hb, frozen_call h.lt h.f1 hb, frozen_call h.lt h.f2 hb, frozen_call h.lt h.f3 hb, Nat.lt_of_lt_of_le h.lt hb.size⟩
theorem V4.alloc (h : V4 w b q0 q1 q2 q3) (o : Obj) : V4 (w.alloc o) b q0 q1 q2 q3 := h.call ((Below.refl _ _).alloc (Nat.le_refl _) o)
theorem V4.drew (h : V4 w b q0 q1 q2 q3) : V4 w.drew b q0 q1 q2 q3 := ⟨h.c0, h.c1, h.c2, h.c3, h.f0, h.f1, h.f2, h.f3, h.lt⟩
theorem V4.new (w : World) (q0 q1 q2 q3 : Value) (t : TypeId) : V4 (w.alloc (.cells #[q0, q1, q2, q3] t)) w.heap.size q0 q1 q2 q3 :=
 ⟨by rw [World.cell?_alloc_at _ _ _ _ rfl]; rfl, by rw [World.cell?_alloc_at _ _ _ _ rfl]; rfl, by rw [World.cell?_alloc_at _ _ _ _ rfl]; rfl, by rw [World.cell?_alloc_at _ _ _ _ rfl]; rfl,
  World.frozen?_alloc_at _ _ _ _ rfl, World.frozen?_alloc_at _ _ _ _ rfl, World.frozen?_alloc_at _ _ _ _ rfl, World.frozen?_alloc_at _ _ _ _ rfl, by simp⟩
theorem V4.far (h : V4 w b q0 q1 q2 q3) {p : Addr} (hp : p.block ≠ b) (x : Value) : V4 (w.setCell p x) b q0 q1 q2 q3 := by
 have hb : (w.setCell p x).heap[b]? = w.heap[b]? := Below.heap_setCell w p x b (fun e => hp e.symm)
 exact ⟨(World.cell?_of_block (w := w) (a := ⟨b, 0, none⟩) hb).trans h.c0, (World.cell?_of_block (w := w) (a := ⟨b, 1, none⟩) hb).trans h.c1, (World.cell?_of_block (w := w) (a := ⟨b, 2, none⟩) hb).trans h.c2, (World.cell?_of_block (w := w) (a := ⟨b, 3, none⟩) hb).trans h.c3,
  (World.frozen?_of_block (w := w) (a := ⟨b, 0, none⟩) hb).trans h.f0, (World.frozen?_of_block (w := w) (a := ⟨b, 1, none⟩) hb).trans h.f1, (World.frozen?_of_block (w := w) (a := ⟨b, 2, none⟩) hb).trans h.f2, (World.frozen?_of_block (w := w) (a := ⟨b, 3, none⟩) hb).trans h.f3, by simpa [World.setCell] using h.lt⟩

theorem cell_same {p : Addr} {v : Value} (h : w.cell? p = some v) (u : Value) : (w.setCell p u).cell? p = some u := World.cell?_setCell_same' _ _ _ (by rw [h]; rfl)
theorem cell_other {b i j : Nat} {v : Value} (h : w.cell? ⟨b, i, none⟩ = some v) (hij : i ≠ j) (u : Value) : (w.setCell ⟨b, j, none⟩ u).cell? ⟨b, i, none⟩ = some v := by
 rw [World.cell?_setCell_other _ _ _ _ (by simp)]
 exact h
theorem frozen_set {p r : Addr} (h : w.frozen? p = false) (u : Value) : (w.setCell r u).frozen? p = false := by simpa [go_sem] using h
theorem lt_set {r : Addr} (h : b < w.heap.size) (u : Value) : b < (w.setCell r u).heap.size := by simpa [World.setCell] using h

theorem V4.put0 (h : V4 w b q0 q1 q2 q3) (u : Value) : V4 (w.setCell ⟨b, 0, none⟩ u) b u q1 q2 q3 :=
 ⟨cell_same h.c0 u, cell_other h.c1 (by omega) u, cell_other h.c2 (by omega) u, cell_other h.c3 (by omega) u, frozen_set h.f0 u, frozen_set h.f1 u, frozen_set h.f2 u, frozen_set h.f3 u, lt_set h.lt u⟩
theorem V4.put1 (h : V4 w b q0 q1 q2 q3) (u : Value) : V4 (w.setCell ⟨b, 1, none⟩ u) b q0 u q2 q3 :=
 ⟨cell_other h.c0 (by omega) u, cell_same h.c1 u, cell_other h.c2 (by omega) u, cell_other h.c3 (by omega) u, frozen_set h.f0 u, frozen_set h.f1 u, frozen_set h.f2 u, frozen_set h.f3 u, lt_set h.lt u⟩
theorem V4.put2 (h : V4 w b q0 q1 q2 q3) (u : Value) : V4 (w.setCell ⟨b, 2, none⟩ u) b q0 q1 u q3 :=
 ⟨cell_other h.c0 (by omega) u, cell_other h.c1 (by omega) u, cell_same h.c2 u, cell_other h.c3 (by omega) u, frozen_set h.f0 u, frozen_set h.f1 u, frozen_set h.f2 u, frozen_set h.f3 u, lt_set h.lt u⟩
theorem V4.put3 (h : V4 w b q0 q1 q2 q3) (u : Value) : V4 (w.setCell ⟨b, 3, none⟩ u) b q0 q1 q2 u :=
 ⟨cell_other h.c0 (by omega) u, cell_other h.c1 (by omega) u, cell_other h.c2 (by omega) u, cell_same h.c3 u, frozen_set h.f0 u, frozen_set h.f1 u, frozen_set h.f2 u, frozen_set h.f3 u, lt_set h.lt u⟩
theorem V4.set (h : V4 w b q0 q1 q2 q3) (u0 u1 u2 u3 : Value) : V4 ((((w.setCell ⟨b, 0, none⟩ u0).setCell ⟨b, 1, none⟩ u1).setCell ⟨b, 2, none⟩ u2).setCell ⟨b, 3, none⟩ u3) b u0 u1 u2 u3 :=
 (((h.put0 u0).put1 u1).put2 u2).put3 u3
end

/-! ### sums with what is left over -/
end Go.Proofs.Ytbakkmfjamcbfaa

namespace Go.Proofs.Ytbakkmfjamcbfaa
open Go.RowKit Fm
set_option linter.unusedVariables false
set_option maxRecDepth 100000



structure Limbs (n q0 q1 q2 q3 : Int) : Prop where
 b : 0 ≤ q0 ∧ q0 ≤ 18446744073709551615 ∧ 0 ≤ q1 ∧ q1 ≤ 18446744073709551615 ∧ 0 ≤ q2 ∧ q2 ≤ 18446744073709551615 ∧ 0 ≤ q3 ∧ q3 ≤ 18446744073709551615
 sum : q0 + 18446744073709551616 * q1 + 340282366920938463463374607431768211456 * q2 + 6277101735386680763835789423207666416102355444464034512896 * q3 = n

end Go.Proofs.Ytbakkmfjamcbfaa
