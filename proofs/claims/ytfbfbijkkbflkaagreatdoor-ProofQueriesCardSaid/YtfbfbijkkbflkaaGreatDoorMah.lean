/-
 RegG, Reg2, RegD, Ref3, PolyAt, Gadget: what the statements of this layer share.
-/
import Derived.IntWalk
import Derived.Test.YtfbfbijkkbflkaaGreatDoorMag
namespace Go.Proofs.YtfbfbijkkbflkaaGreatDoor
open Go Go.RowKit

def Clo (S : World → Prop) : Prop := ∀ w w', S w → Below w.heap.size w w' → S w'
theorem Clo.below (W : World) : Clo (Below W.heap.size W) := fun _ _ h hb => h.trans (hb.mono h.size)
theorem Clo.and {S T : World → Prop} (h : Clo S) (k : Clo T) : Clo (fun w => S w ∧ T w) := fun w w' x hb => ⟨h w w' x.1 hb, k w w' x.2 hb⟩

section
variable {P : Program} {ops : Array Oper} {Q : Exit → Act → World → Prop} {md : Region.Mode}

theorem Det.weak {S S' : World → Prop} (hm : ∀ w, S' w → S w) {o : Oper} {v : Value} {a : Act} (h : Det P ops S o v a) : Det P ops S' o v a :=
 h.imp (fun h => ⟨h.1, fun w hw => h.2 w (hm w hw)⟩) id

def wpG (P : Program) (md : Region.Mode) (ops : Array Oper) (Q : Exit → Act → World → Prop) (n m : Nat) (L : Act → World → Prop) : Nat → Array Bool → Act → (World → Prop) → Prop
 | 0, listed, a, S => Region.seqB md ops (m - n) n listed = true ∧ ∀ w, S w → L a w
 | f + 1, listed, a, S =>
  Region.ready md ops listed ≠ [] ∧
  ∀ i ∈ Region.ready md ops listed, i < n ∧ ∀ w, S w → wpOp P ops Q i (fun a' w' => ∃ S' : World → Prop, Clo S' ∧ (∀ w, S' w → S w) ∧ S' w' ∧ wpG P md ops Q n m L f (listed.setIfInBounds i true) a' S') a w

theorem wpAny_of_G {n m : Nat} {L : Act → World → Prop} (hL : ∀ listed a w, Region.seqB md ops (m - n) n listed = true → L a w → wpAny P md ops Q (m - n) listed a w) :
  ∀ (f : Nat) (listed : Array Bool) (a : Act) (S : World → Prop), wpG P md ops Q n m L f listed a S → ∀ w, S w → wpAny P md ops Q (f + (m - n)) listed a w
 | 0, listed, a, S, h, w, hS => by rw [Nat.zero_add]; exact hL _ _ _ h.1 (h.2 w hS)
 | f + 1, listed, a, S, h, w, hS => by
  rw [show f + 1 + (m - n) = (f + (m - n)) + 1 by omega]
  refine ⟨fun h0 => absurd h0 h.1, fun i hi => wpOp_mono (fun a' w' h' => ?_) ((h.2 i hi).2 w hS)⟩
  obtain ⟨S', _, _, hS', hG⟩ := h'
  exact wpAny_of_G hL f _ a' S' hG w' hS'

theorem wpG_first {n m : Nat} {L : Act → World → Prop} (hp : Parts md ops n m) {i : Nat} {oi : Oper} {v : Value} (hi : ops[i]? = some oi) (hin : i < n)
  (hQ : ∀ c a w, Q (.panic c) (a.put oi.dst v) w → Q (.panic c) a w) :
  ∀ (f : Nat) (listed : Array Bool) (a : Act) (S : World → Prop), Clo S → HInv md ops n m listed →
   (∀ j oj, ops[j]? = some oj → j ≠ i → listed.getD j true = false → (∀ e ∈ oj.after, Region.binds md e = true → e.on ≠ i) → oi.apart ops oj = true) →
   i ∈ Region.ready md ops listed → Det P ops S oi v a →
   wpG P md ops Q n m L f (listed.setIfInBounds i true) (a.put oi.dst v) S → wpG P md ops Q n m L (f + 1) listed a S := by
 have hsel := Region.noSelect_spec hp.nosel
 intro f
 induction f with
 | zero =>
  intro listed a S hC inv _ hr hy H
  have hun := (mem_ready.1 hr).1
  refine ⟨fun h => (by rw [h] at hr; cases hr), fun j hj => ?_⟩
  have hjn : j < n := by
   rcases Nat.lt_or_ge j n with h | h
   ·exact h
   ·exact absurd hj (head_only hp inv _ i rfl hin hun j h)
  refine ⟨hjn, fun w hS => ?_⟩
  by_cases hji : j = i
  ·subst hji
   exact hy.wpOp hi hS fun w' hb => ⟨S, hC, fun _ h => h, hC _ _ hS hb, H⟩
  ·have := seqB_ready H.1 j (ready_mono hj hji)
   omega
 | succ f ih =>
  intro listed a S hC inv hfree hr hy H
  have hun := (mem_ready.1 hr).1
  refine ⟨fun h => (by rw [h] at hr; cases hr), fun j hj => ?_⟩
  have hjn : j < n := by
   rcases Nat.lt_or_ge j n with h | h
   ·exact h
   ·exact absurd hj (head_only hp inv _ i rfl hin hun j h)
  refine ⟨hjn, fun w hS => ?_⟩
  by_cases hji : j = i
  ·subst hji
   exact hy.wpOp hi hS fun w' hb => ⟨S, hC, fun _ h => h, hC _ _ hS hb, H⟩
  ·have h1 := (H.2 j (ready_mono hj hji)).2 w hS
   obtain ⟨hjun, oj, hoj, hall⟩ := mem_ready.1 hj
   have hnot : ∀ e ∈ oj.after, Region.binds md e = true → e.on ≠ i := fun e he hb heq => by
    have h1 := hall e he hb
    rw [heq, getD_both hun] at h1
    cases h1
   have h2 := wpOp_putDet hoj (hfree j oj hoj hji hjun hnot) (fun cs b => hsel i oi cs b hi) (fun cs b => hsel j oj cs b hoj) hQ hy h1
   have hfree' : ∀ k ok, ops[k]? = some ok → k ≠ i → (listed.setIfInBounds j true).getD k true = false →
     (∀ e ∈ ok.after, Region.binds md e = true → e.on ≠ i) → oi.apart ops ok = true := fun k ok hk hki hu hno => by
    refine hfree k ok hk hki ?_ hno
    by_cases hjk : j = k
    ·subst hjk
     exact hjun
    ·rw [getD_set_ne true hjk] at hu
     exact hu
   refine wpOp_mono (fun a' w' h3 => ?_) h2
   have hcomm : (listed.setIfInBounds i true).setIfInBounds j true = (listed.setIfInBounds j true).setIfInBounds i true := (Array.setIfInBounds_comm _ _ hji).symm
   rw [hcomm] at h3
   obtain ⟨hd, S', hC', hm', hS', hG⟩ := h3
   exact ⟨S', hC', hm', hS', ih (listed.setIfInBounds j true) a' S' hC' (inv.set hj hjn hp.lt) hfree' (ready_mono hr (Ne.symm hji)) (hd.weak hm') hG⟩

def WpG (P : Program) (md : Region.Mode) (ops : Array Oper) (Q : Exit → Act → World → Prop) (n m : Nat) (L : Act → World → Prop) (f : Nat) (listed : Array Bool) (a : Act) (S : World → Prop) : Prop :=
 Clo S → Parts md ops n m → HInv md ops n m listed → wpG P md ops Q n m L f listed a S

variable {n m : Nat} {L : Act → World → Prop} {S : World → Prop} {f : Nat} {listed : Array Bool} {a : Act}

theorem WpG.take {i : Nat} {oi : Oper} {v : Value} (hi : ops[i]? = some oi)
  (hB : (decide (i < n) && Region.free md ops listed i && (Region.ready md ops listed).contains i) = true)
  (hQ : ∀ c a w, Q (.panic c) (a.put oi.dst v) w → Q (.panic c) a w)
  (hy : Det P ops S oi v a)
  (h : WpG P md ops Q n m L f (listed.setIfInBounds i true) (a.put oi.dst v) S) : WpG P md ops Q n m L (f + 1) listed a S := by
 simp only [Bool.and_eq_true, decide_eq_true_eq] at hB
 obtain ⟨⟨hin, hf⟩, hr⟩ := hB
 have hr' : i ∈ Region.ready md ops listed := by simpa using hr
 exact fun hC hp inv => wpG_first hp hi hin hQ f listed a S hC inv (Region.free_spec hi hf) hr' hy (h hC hp (inv.set hr' hin hp.lt))

def Fresh (P : Program) (ops : Array Oper) (S : World → Prop) {ι : Type} (F : ι → Value) (R : ι → World → Prop) (o : Oper) (a : Act) : Prop :=
 Region.wanted o (yielded ops a.tmps) = true ∧ ∀ w, S w → UponV P (fun v w' => ∃ x, v = F x ∧ R x w' ∧ Below w.heap.size w w') ((execOp a.eval o).run P w)

theorem Fresh.wpOp {i : Nat} {oi : Oper} (hi : ops[i]? = some oi) {ι : Type} {F : ι → Value} {R : ι → World → Prop} (hy : Fresh P ops S F R oi a) {K : Act → World → Prop} {w : World} (hw : S w)
  (h : ∀ x w', R x w' → Below w.heap.size w w' → K (a.put oi.dst (F x)) w') : wpOp P ops Q i K a w := by
 unfold Go.wpOp
 simp only [hi]
 simp only [hy.1, if_true]
 refine .inl ?_
 unfold Oper.wp
 refine (hy.2 w hw).upon ?_
 rintro u w' ⟨x, rfl, hR, hb⟩
 exact h x w' hR hb

theorem WpG.one {i : Nat} {oi : Oper} (hi : ops[i]? = some oi) (hB : (decide (i < n) && decide (Region.ready md ops listed = [i])) = true)
  {ι : Type} (F : ι → Value) (R : ι → World → Prop) (hR : ∀ x, Clo (R x)) (hy : Fresh P ops S F R oi a)
  (h : ∀ x w0, S w0 → R x w0 → WpG P md ops Q n m L f (listed.setIfInBounds i true) (a.put oi.dst (F x)) (fun w => S w ∧ R x w)) : WpG P md ops Q n m L (f + 1) listed a S := by
 simp only [Bool.and_eq_true, decide_eq_true_eq] at hB
 obtain ⟨hin, hr⟩ := hB
 intro hC hp inv
 refine ⟨by rw [hr]; simp, fun j hj => ?_⟩
 have hj' : j = i := by rw [hr] at hj; simpa using hj
 subst hj'
 refine ⟨hin, fun w hS => hy.wpOp hi hS fun x w' hRx hb => ?_⟩
 exact ⟨_, hC.and (hR x), fun _ hw => hw.1, ⟨hC _ _ hS hb, hRx⟩, h x w' (hC _ _ hS hb) hRx (hC.and (hR x)) hp (inv.set hj hin hp.lt)⟩

theorem WpG.two {i k : Nat} {oi ok : Oper} (hi : ops[i]? = some oi) (hk : ops[k]? = some ok) (hB : (decide (i < n) && decide (k < n) && decide (Region.ready md ops listed = [i, k])) = true)
  {ι κ : Type} (F : ι → Value) (R : ι → World → Prop) (hR : ∀ x, Clo (R x)) (hy : Fresh P ops S F R oi a)
  (F' : κ → Value) (R' : κ → World → Prop) (hR' : ∀ x, Clo (R' x)) (hy' : Fresh P ops S F' R' ok a)
  (h : ∀ x w0, S w0 → R x w0 → WpG P md ops Q n m L f (listed.setIfInBounds i true) (a.put oi.dst (F x)) (fun w => S w ∧ R x w))
  (h' : ∀ x w0, S w0 → R' x w0 → WpG P md ops Q n m L f (listed.setIfInBounds k true) (a.put ok.dst (F' x)) (fun w => S w ∧ R' x w)) : WpG P md ops Q n m L (f + 1) listed a S := by
 simp only [Bool.and_eq_true, decide_eq_true_eq] at hB
 obtain ⟨⟨hin, hkn⟩, hr⟩ := hB
 intro hC hp inv
 refine ⟨by rw [hr]; simp, fun j hj => ?_⟩
 have hj' : j = i ∨ j = k := by rw [hr] at hj; simpa using hj
 rcases hj' with rfl | rfl
 ·refine ⟨hin, fun w hS => hy.wpOp hi hS fun x w' hRx hb => ?_⟩
  exact ⟨_, hC.and (hR x), fun _ hw => hw.1, ⟨hC _ _ hS hb, hRx⟩, h x w' (hC _ _ hS hb) hRx (hC.and (hR x)) hp (inv.set hj hin hp.lt)⟩
 ·refine ⟨hkn, fun w hS => hy'.wpOp hk hS fun x w' hRx hb => ?_⟩
  exact ⟨_, hC.and (hR' x), fun _ hw => hw.1, ⟨hC _ _ hS hb, hRx⟩, h' x w' (hC _ _ hS hb) hRx (hC.and (hR' x)) hp (inv.set hj hkn hp.lt)⟩

theorem WpG.done (hB : Region.seqB md ops (m - n) n listed = true) (h : ∀ w, S w → L a w) : WpG P md ops Q n m L 0 listed a S := fun _ _ _ => ⟨hB, h⟩

theorem WpG.weak {S' : World → Prop} (hm : ∀ w, S w → S' w) (hm' : ∀ w, S' w → S w) (h : WpG P md ops Q n m L f listed a S') : WpG P md ops Q n m L f listed a S := by
 have : S = S' := funext fun w => propext ⟨hm w, hm' w⟩
 rw [this]
 exact h

theorem any_G {l : List Oper} {w : World} (hB : partsB md l.toArray n m listed = true) (hC : Clo S) (hS : S w)
  (h : WpG P md l.toArray Q n m (wpList P l.toArray Q ((l.drop n).take (m - n))) f listed a S) : wpAny P md l.toArray Q (f + (m - n)) listed a w := by
 obtain ⟨hp, inv⟩ := parts_of hB
 refine wpAny_of_G (L := wpList P l.toArray Q ((l.drop n).take (m - n))) (fun listed' a' w' hq hl => ?_) f listed a S (h hC hp inv) w hS
 have hlen : ((l.drop n).take (m - n)).length = m - n := by
  have := hp.le
  simp at this ⊢
  omega
 have := any_of_tail (P := P) (md := md) (ops := l.toArray) (Q' := Q) ((l.drop n).take (m - n)) n listed' a' w' (fun j hj => ?_) (by rw [hlen]; exact hq) hl
 ·rwa [hlen] at this
 ·rw [hlen] at hj
  simp [hj]
end

section
variable {P : Program} {Q : Exit → Act → World → Prop}
theorem region_G {id n m f : Nat} {l : List Oper} {a : Act} {w : World} (hm : P.follows .mixedOrders = true) (hB : partsB .any l.toArray n m (Array.replicate l.length false) = true) (hf : f + (m - n) = l.length)
  (h : WpG P .any l.toArray Q n m (wpList P l.toArray Q ((l.drop n).take (m - n))) f (Array.replicate l.length false) a (Below w.heap.size w)) : (Code.region id l.toArray true).wp P Q a w := by
 refine wp_region_any hm ?_
 have := any_G (w := w.drew) hB (Clo.below w) ((Below.refl _ _).drew) h
 rw [hf] at this
 simpa using this

theorem Fresh.var {ops : Array Oper} {S : World → Prop} {o : Oper} {a : Act} {B : Nat} (cs : List Value) (t : TypeId) (hw : Region.wanted o (yielded ops a.tmps) = true) (hB : ∀ w, S w → B ≤ w.heap.size)
  (h : ∀ w, S w → (execOp a.eval o).run P w = .ok (.value (.pointer (some ⟨w.heap.size, 0, none⟩))) (w.alloc (.cells cs.toArray t))) {R : Nat → World → Prop} (hR : ∀ w, S w → R w.heap.size (w.alloc (.cells cs.toArray t))) :
  Fresh P ops S (fun b : Nat => .pointer (some ⟨b, 0, none⟩)) (fun b w => B ≤ b ∧ R b w) o a :=
 ⟨hw, fun w hS => by rw [h w hS]; exact ⟨w.heap.size, rfl, ⟨hB w hS, hR w hS⟩, (Below.refl _ _).alloc (Nat.le_refl _) _⟩⟩
theorem Fresh.slice {ops : Array Oper} {S : World → Prop} {o : Oper} {a : Act} {B : Nat} (k c : Nat) (cs : List Value) (t : TypeId) (hw : Region.wanted o (yielded ops a.tmps) = true) (hB : ∀ w, S w → B ≤ w.heap.size)
  (h : ∀ w, S w → (execOp a.eval o).run P w = .ok (.value (.slice (some ⟨w.heap.size, 0, none⟩) k c)) (w.alloc (.cells cs.toArray t))) {R : Nat → World → Prop} (hR : ∀ w, S w → R w.heap.size (w.alloc (.cells cs.toArray t))) :
  Fresh P ops S (fun b : Nat => .slice (some ⟨b, 0, none⟩) k c) (fun b w => B ≤ b ∧ R b w) o a :=
 ⟨hw, fun w hS => by rw [h w hS]; exact ⟨w.heap.size, rfl, ⟨hB w hS, hR w hS⟩, (Below.refl _ _).alloc (Nat.le_refl _) _⟩⟩
theorem Fresh.call {ops : Array Oper} {S : World → Prop} {o : Oper} {a : Act} {f : FuncId} {args : Array Value} {ι : Type} {F : ι → Value} {R : ι → World → Prop} (hw : Region.wanted o (yielded ops a.tmps) = true)
  (hc : ∀ w, S w → Calls P f args w (fun e w' => ∃ x, e = .returned (F x) ∧ R x w' ∧ Below w.heap.size w w')) (h : ∀ w, S w → (execOp a.eval o).run P w = .ok (.enter f args) w) : Fresh P ops S F R o a :=
 ⟨hw, fun w hS => by rw [h w hS]; exact Calls.mono (hc w hS) fun e w' ⟨x, he, hr, hb⟩ => ⟨F x, he, x, rfl, hr, hb⟩⟩
end

end Go.Proofs.YtfbfbijkkbflkaaGreatDoor

namespace Go.Proofs.YtfbfbijkkbflkaaGreatDoor
open Go Go.RowKit

section
variable {P : Program} {ops : Array Oper} {Q : Exit → Act → World → Prop} {md : Region.Mode} {S : Array Bool → Act → World → Prop}

theorem WpH.two {n m : Nat} {L : Act → World → Prop} {i k : Nat} {f : Nat} {listed : Array Bool} {a : Act}
  (hB : (decide (i < n) && decide (k < n) && decide (Region.ready md ops listed = [i, k])) = true)
  (hi : ∀ w, S listed a w → wpOp P ops Q i (fun a' w' => S (listed.setIfInBounds i true) a' w' ∧ WpH P md ops Q n m S L f (listed.setIfInBounds i true) a') a w)
  (hk : ∀ w, S listed a w → wpOp P ops Q k (fun a' w' => S (listed.setIfInBounds k true) a' w' ∧ WpH P md ops Q n m S L f (listed.setIfInBounds k true) a') a w) : WpH P md ops Q n m S L (f + 1) listed a := by
 simp only [Bool.and_eq_true, decide_eq_true_eq] at hB
 obtain ⟨⟨hin, hkn⟩, hr⟩ := hB
 intro hp inv
 refine ⟨by rw [hr]; simp, fun j hj => ?_⟩
 have hj' : j = i ∨ j = k := by rw [hr] at hj; simpa using hj
 rcases hj' with rfl | rfl
 ·exact ⟨hin, fun w hS => wpOp_mono (fun a' w' h' => ⟨h'.1, h'.2 hp (inv.set hj hin hp.lt)⟩) (hi w hS)⟩
 ·exact ⟨hkn, fun w hS => wpOp_mono (fun a' w' h' => ⟨h'.1, h'.2 hp (inv.set hj hkn hp.lt)⟩) (hk w hS)⟩

end

end Go.Proofs.YtfbfbijkkbflkaaGreatDoor

namespace Go.Proofs.YtfbfbijkkbflkaaGreatDoor
open Go Go.RowKit

section
variable {P : Program} {ops : Array Oper} {Q : Exit → Act → World → Prop} {md : Region.Mode} {W : World} {n m f : Nat} {L : Act → World → Prop} {listed : Array Bool} {a : Act}

theorem WpH.takeD (i : Nat) (d : Option Tmp) {oi : Oper} {v : Value} (hi : ops[i]? = some oi) (hd : oi.dst = d)
  (hB : (decide (i < n) && Region.free md ops listed i && (Region.ready md ops listed).contains i) = true)
  (hQ : ∀ c a w, Q (.panic c) (a.put d v) w → Q (.panic c) a w)
  (hy : Det P ops (Below W.heap.size W) oi v a)
  (h : WpH P md ops Q n m (Flat (Below W.heap.size W)) L f (listed.setIfInBounds i true) (a.put d v)) : WpH P md ops Q n m (Flat (Below W.heap.size W)) L (f + 1) listed a := by
 subst hd
 exact WpH.takeB hi hB hQ hy h

theorem WpH.vD (i : Nat) (d : Option Tmp) (v : Value) {oi : Oper} (hi : ops[i]? = some oi) (hd : oi.dst = d)
  (hB : (decide (i < n) && Region.free md ops listed i && (Region.ready md ops listed).contains i) = true)
  (hQ : ∀ c a w, Q (.panic c) (a.put d v) w → Q (.panic c) a w)
  (hw : Region.wanted oi (yielded ops a.tmps) = true) (hv : ∀ w, Below W.heap.size W w → (execOp a.eval oi).run P w = .ok (.value v) w)
  (h : WpH P md ops Q n m (Flat (Below W.heap.size W)) L f (listed.setIfInBounds i true) (a.put d v)) : WpH P md ops Q n m (Flat (Below W.heap.size W)) L (f + 1) listed a :=
 WpH.takeD i d hi hd hB hQ (.val hw hv) h

theorem WpH.takeND {k : Nat} {t : Tmp} {R : Value → World → Prop} (hR : ∀ v w w', R v w → Below w.heap.size w w' → R v w') (i : Nat) (d : Option Tmp) {oi : Oper} {v : Value} (hi : ops[i]? = some oi) (hd : oi.dst = d)
  (hB : (decide (i < n) && Region.free md ops listed i && (Region.ready md ops listed).contains i) = true) (hik : (i == k) = false) (hdt : (d == some t) = false)
  (hQ : ∀ c a w, Q (.panic c) (a.put d v) w → Q (.panic c) a w)
  (hy : Det P ops (Below W.heap.size W) oi v a)
  (h : WpH P md ops Q n m (WithNew W k t R) L f (listed.setIfInBounds i true) (a.put d v)) : WpH P md ops Q n m (WithNew W k t R) L (f + 1) listed a := by
 subst hd
 exact WpH.takeN hR hi hB hik hdt hQ hy h

theorem wpOp_valueD (d : Option Tmp) {i : Nat} {o : Oper} {v : Value} {w w' : World} {K : Act → World → Prop} (hi : ops[i]? = some o) (hd : o.dst = d) (hw : Region.wanted o (yielded ops a.tmps) = true)
  (h : (execOp a.eval o).run P w = .ok (.value v) w') (hK : K (a.put d v) w') : wpOp P ops Q i K a w := by
 subst hd
 exact wpOp_value hi hw h hK

variable {S : World → Prop}
theorem WpG.takeD (i : Nat) (d : Option Tmp) {oi : Oper} {v : Value} (hi : ops[i]? = some oi) (hd : oi.dst = d)
  (hB : (decide (i < n) && Region.free md ops listed i && (Region.ready md ops listed).contains i) = true)
  (hQ : ∀ c a w, Q (.panic c) (a.put d v) w → Q (.panic c) a w)
  (hy : Det P ops S oi v a)
  (h : WpG P md ops Q n m L f (listed.setIfInBounds i true) (a.put d v) S) : WpG P md ops Q n m L (f + 1) listed a S := by
 subst hd
 exact WpG.take hi hB hQ hy h

theorem WpG.vD (i : Nat) (d : Option Tmp) (v : Value) {oi : Oper} (hi : ops[i]? = some oi) (hd : oi.dst = d)
  (hB : (decide (i < n) && Region.free md ops listed i && (Region.ready md ops listed).contains i) = true)
  (hQ : ∀ c a w, Q (.panic c) (a.put d v) w → Q (.panic c) a w)
  (hw : Region.wanted oi (yielded ops a.tmps) = true) (hv : ∀ w, S w → (execOp a.eval oi).run P w = .ok (.value v) w)
  (h : WpG P md ops Q n m L f (listed.setIfInBounds i true) (a.put d v) S) : WpG P md ops Q n m L (f + 1) listed a S :=
 WpG.takeD i d hi hd hB hQ (.val hw hv) h

theorem WpG.oneD (i : Nat) (d : Option Tmp) {oi : Oper} (hi : ops[i]? = some oi) (hd : oi.dst = d) (hB : (decide (i < n) && decide (Region.ready md ops listed = [i])) = true)
  {ι : Type} (F : ι → Value) (R : ι → World → Prop) (hR : ∀ x, Clo (R x)) (hy : Fresh P ops S F R oi a)
  (h : ∀ x w0, S w0 → R x w0 → WpG P md ops Q n m L f (listed.setIfInBounds i true) (a.put d (F x)) (fun w => S w ∧ R x w)) : WpG P md ops Q n m L (f + 1) listed a S := by
 subst hd
 exact WpG.one hi hB F R hR hy h

theorem WpG.twoD (i k : Nat) (d d' : Option Tmp) {oi ok : Oper} (hi : ops[i]? = some oi) (hd : oi.dst = d) (hk : ops[k]? = some ok) (hd' : ok.dst = d') (hB : (decide (i < n) && decide (k < n) && decide (Region.ready md ops listed = [i, k])) = true)
  {ι κ : Type} (F : ι → Value) (R : ι → World → Prop) (hR : ∀ x, Clo (R x)) (hy : Fresh P ops S F R oi a)
  (F' : κ → Value) (R' : κ → World → Prop) (hR' : ∀ x, Clo (R' x)) (hy' : Fresh P ops S F' R' ok a)
  (h : ∀ x w0, S w0 → R x w0 → WpG P md ops Q n m L f (listed.setIfInBounds i true) (a.put d (F x)) (fun w => S w ∧ R x w))
  (h' : ∀ x w0, S w0 → R' x w0 → WpG P md ops Q n m L f (listed.setIfInBounds k true) (a.put d' (F' x)) (fun w => S w ∧ R' x w)) : WpG P md ops Q n m L (f + 1) listed a S := by
 subst hd
 subst hd'
 exact WpG.two hi hk hB F R hR hy F' R' hR' hy' h h'

theorem WpG.oneSkip (i : Nat) (d : Option Tmp) {oi : Oper} (hi : ops[i]? = some oi) (hd : oi.dst = d) (hB : (decide (i < n) && decide (Region.ready md ops listed = [i])) = true)
  (R : World → Prop) (hR : Clo R) (hw : Region.wanted oi (yielded ops a.tmps) = true) (hop : ∀ w, S w → ∃ w', (execOp a.eval oi).run P w = .ok .skip w' ∧ S w' ∧ R w')
  (h : WpG P md ops Q n m L f (listed.setIfInBounds i true) (a.put d undef) (fun w => S w ∧ R w)) : WpG P md ops Q n m L (f + 1) listed a S := by
 subst hd
 simp only [Bool.and_eq_true, decide_eq_true_eq] at hB
 obtain ⟨hin, hr⟩ := hB
 intro hC hp inv
 refine ⟨by rw [hr]; simp, fun j hj => ?_⟩
 have hj' : j = i := by rw [hr] at hj; simpa using hj
 subst hj'
 refine ⟨hin, fun w hS => ?_⟩
 obtain ⟨w', hrun, hS', hRw⟩ := hop w hS
 unfold Go.wpOp
 simp only [hi, hw, if_true]
 refine .inl ?_
 unfold Oper.wp
 rw [hrun]
 exact ⟨_, hC.and hR, fun _ hw => hw.1, ⟨hS', hRw⟩, h (hC.and hR) hp (inv.set hj hin hp.lt)⟩
end

end Go.Proofs.YtfbfbijkkbflkaaGreatDoor

namespace Go.Proofs.YtfbfbijkkbflkaaGreatDoor
open Go.RowKit Fm
set_option linter.unusedVariables false
set_option maxRecDepth 100000

theorem lohi_zero {f : Nat} (x : Fin (Pm f)) : (lo x == 0 && hi x == 0) = decide (x = 0) := by
 by_cases h : x = 0
 ·subst h
  rw [lo_zero, hi_zero]
  simp
 ·rw [decide_eq_false h, Bool.and_eq_false_iff, beq_eq_false_iff_ne, beq_eq_false_iff_ne]
  by_cases h0 : lo x = 0
  ·right
   intro h1
   exact h (lohi_inj (by rw [h0, lo_zero]) (by rw [h1, hi_zero]))
  ·exact .inl h0

section
variable {f : Nat} (hf : IsF f)
include hf
end

end Go.Proofs.YtfbfbijkkbflkaaGreatDoor

namespace Go.Proofs.YtfbfbijkkbflkaaGreatDoor
open Go.RowKit Fm
set_option linter.unusedVariables false
set_option maxRecDepth 100000

def horner {f : Nat} (x : Fin (Pm f)) (p : KL f) : Fin (Pm f) := p.foldr (fun a s => s * x + a) 0

theorem horner_drop {f : Nat} (x : Fin (Pm f)) (p : KL f) (k : Nat) (a : Fin (Pm f)) (h : p[k]? = some a) : horner x (p.drop k) = horner x (p.drop (k + 1)) * x + a := by
 obtain ⟨hlt, rfl⟩ := List.getElem?_eq_some_iff.1 h
 rw [List.drop_eq_getElem_cons hlt]
 rfl

set_option maxHeartbeats 4000000 in
theorem poly_At {f : Nat} (hf : IsF f) (vp : Value) (p : KL f) (x : Fin (Pm f)) (w : World) (hp : SlK w w.heap.size vp p) (hn : p.length ≤ 1099511627776) :
  Calls Tryz.prog 67 #[.int .u8 f, vp, vK x] w (RetK (horner x p) w) := by
 obtain ⟨A, c, rfl, hc, hcm, hA⟩ := hp
 go_enter Tryz.func67, Tryz.ntmps67
 go_wp2
 go_loopw [8] (fun i wr => ∃ k : Nat, k ≤ p.length ∧ i = .int .i64 ((k : Int) - 1) ∧ V2 wr w.heap.size (.int .u64 (lo x)) (.int .u64 (hi x)) ∧ V2 wr (w.heap.size + 1) (.int .u64 0) (.int .u64 0) ∧
   V2 wr (w.heap.size + 1 + 1) (.int .u64 (lo (horner x (p.drop k)))) (.int .u64 (hi (horner x (p.drop k)))) ∧ Below w.heap.size w wr) (fun i _ => (intOf i + 1).toNat)
 case atStart =>
  refine ⟨p.length, Nat.le_refl _, rfl, ((V2.new w _ _ 36).alloc _).alloc _, ?_, ?_, by repeat (first | exact bA | with_reducible assumption | apply bB | (refine bC ?_ (by dsimp only; omega)) | apply bD | apply bE | (refine bF ?_ (by assumption)))⟩
  ·have h := (V2.new (w.alloc (.cells #[.int .u64 (lo x), .int .u64 (hi x)] 36)) (.int .u64 0) (.int .u64 0) 36).alloc (.cells #[.int .u64 0, .int .u64 0] 36)
   simpa only [World.size_alloc] using h
  ·have h := V2.new ((w.alloc (.cells #[.int .u64 (lo x), .int .u64 (hi x)] 36)).alloc (.cells #[.int .u64 0, .int .u64 0] 36)) (.int .u64 0) (.int .u64 0) 36
   rw [List.drop_length, show horner x ([] : KL f) = 0 from rfl, lo_zero, hi_zero]
   simpa only [World.size_alloc] using h
 case round =>
  obtain ⟨k, hk, rfl, hx, hz, hy, hbw⟩ := hrel
  by_cases hk0 : k = 0
  ·subst hk0
   rw [List.drop_zero] at hy
   obtain ⟨y0, y1, y2, y3, y4⟩ := hy
   obtain ⟨z0, z1, z2, z3, z4⟩ := hz
   go_wp2
   refine bodyPost_ret (results_v2 (b := w.heap.size + 1) (u := .int .u64 (lo (horner x p))) (v := .int .u64 (hi (horner x p))) ?_ rfl rfl) rfl ?_
   ·exact V2.set ⟨z0, z1, z2, z3, z4⟩ _ _
   ·exact ⟨rfl, by repeat (first | exact bA | with_reducible assumption | apply bB | (refine bC ?_ (by dsimp only; omega)) | apply bD | apply bE | (refine bF ?_ (by assumption)))⟩
  ·obtain ⟨k, rfl⟩ : ∃ j, k = j + 1 := ⟨k - 1, by omega⟩
   obtain ⟨b, o, rfl, hB, hr⟩ := hA (by omega)
   obtain ⟨y, he⟩ : ∃ e, p[k]? = some e := ⟨_, List.getElem?_eq_getElem (by omega)⟩
   obtain ⟨c0, c1⟩ := (hr.below hbw hB).kat he
   have hst := horner_drop x p k y he
   generalize horner x (p.drop (k + 1)) = s at *
   have HST := Lib.hid hst
   clear hst he hr hA
   have hyy := hy
   obtain ⟨y0, y1, y2, y3, y4⟩ := hyy
   have hxx := hx
   obtain ⟨x0, x1, x2, x3, x4⟩ := hxx
   have hkl : k < p.length := by omega
   have hbl : b < wr.heap.size := Nat.lt_of_lt_of_le hB hbw.size
   go_wp2_with fail
   refine region_B (n := 10) (m := 11) (f := 10) (by kernel_rfl) (by kernel_rfl) rfl ?_
   refine WpH.takeB (i := 0) (v := ?_) rfl (by kernel_rfl) (fun _ _ _ h => h) (.val rfl (fun wz hwz => ?_)) ?_
   rotate_left
   ·go_simp; try (with_reducible rfl)
   (simp only [Act.put]); (try simp only [List.setIfInBounds_toArray]); (try simp only [List.set_cons_succ]); (try simp only [List.set_cons_zero])
   refine WpH.takeB (i := 1) (v := ?_) rfl (by kernel_rfl) (fun _ _ _ h => h) (.val rfl (fun wz hwz => ?_)) ?_
   rotate_left
   ·go_simp; try (with_reducible rfl)
   (simp only [Act.put]); (try simp only [List.setIfInBounds_toArray]); (try simp only [List.set_cons_succ]); (try simp only [List.set_cons_zero])
   refine WpH.takeB (i := 2) (v := ?_) rfl (by kernel_rfl) (fun _ _ _ h => h) (.val rfl (fun wz hwz => ?_)) ?_
   rotate_left
   ·(obtain ⟨hcz, hfz⟩ := bcell hwz; go_simp; try (with_reducible rfl))
   (simp only [Act.put]); (try simp only [List.setIfInBounds_toArray]); (try simp only [List.set_cons_succ]); (try simp only [List.set_cons_zero])
   refine WpH.takeB (i := 3) (v := ?_) rfl (by kernel_rfl) (fun _ _ _ h => h) (.val rfl (fun wz hwz => ?_)) ?_
   rotate_left
   ·(obtain ⟨hcz, hfz⟩ := bcell hwz; go_simp; try (with_reducible rfl))
   (simp only [Act.put]); (try simp only [List.setIfInBounds_toArray]); (try simp only [List.set_cons_succ]); (try simp only [List.set_cons_zero])
   refine WpH.takeB (i := 4) rfl (by kernel_rfl) (fun _ _ _ h => h) (.call rfl (fun wz hwz => field_MulK hf s x wz) (fun wz hwz => ?_)) ?_
   ·go_simp; try (with_reducible rfl)
   (simp only [Act.put]); (try simp only [List.setIfInBounds_toArray]); (try simp only [List.set_cons_succ]); (try simp only [List.set_cons_zero])
   refine WpH.takeB (i := 5) (v := ?_) rfl (by kernel_rfl) (fun _ _ _ h => h) (.val rfl (fun wz hwz => ?_)) ?_
   rotate_left
   ·go_simp; try (with_reducible rfl)
   (simp only [Act.put]); (try simp only [List.setIfInBounds_toArray]); (try simp only [List.set_cons_succ]); (try simp only [List.set_cons_zero])
   refine WpH.takeB (i := 6) (v := ?_) rfl (by kernel_rfl) (fun _ _ _ h => h) (.val rfl (fun wz hwz => ?_)) ?_
   rotate_left
   ·go_simp; try (with_reducible rfl)
   (simp only [Act.put]); (try simp only [List.setIfInBounds_toArray]); (try simp only [List.set_cons_succ]); (try simp only [List.set_cons_zero])
   refine WpH.takeB (i := 7) (v := ?_) rfl (by kernel_rfl) (fun _ _ _ h => h) (.val rfl (fun wz hwz => ?_)) ?_
   rotate_left
   ·go_simp; try (with_reducible rfl)
   (simp only [Act.put]); (try simp only [List.setIfInBounds_toArray]); (try simp only [List.set_cons_succ]); (try simp only [List.set_cons_zero])
   refine WpH.takeB (i := 8) (v := ?_) rfl (by kernel_rfl) (fun _ _ _ h => h) (.val rfl (fun wz hwz => ?_)) ?_
   rotate_left
   ·(obtain ⟨hcz, hfz⟩ := bcell hwz; go_simp; try (with_reducible rfl))
   (simp only [Act.put]); (try simp only [List.setIfInBounds_toArray]); (try simp only [List.set_cons_succ]); (try simp only [List.set_cons_zero])
   refine WpH.takeB (i := 9) rfl (by kernel_rfl) (fun _ _ _ h => h) (.call rfl (fun wz hwz => field_AddK hf (s * x) y wz) (fun wz hwz => ?_)) ?_
   ·go_simp; try (with_reducible rfl)
   (simp only [Act.put]); (try simp only [List.setIfInBounds_toArray]); (try simp only [List.set_cons_succ]); (try simp only [List.set_cons_zero])
   refine WpH.doneB (by kernel_rfl) (fun w6 hw6 => ?_)
   (try simp only [List.drop_succ_cons]); (try simp only [List.drop_zero]); (try simp only [Nat.reduceSub]); (try simp only [List.take_succ_cons]); (try simp only [List.take_zero])
   obtain ⟨y0, y1, y2, y3, y4⟩ := hy.call hw6
   have hx6 := hx.call hw6
   have hz6 := hz.call hw6
   go_wp2
   go_roundw
   case rel => exact ⟨k, by omega, by go_num, hx6.setOther (by dsimp only; omega) _ |>.setOther (by dsimp only; omega) _, hz6.setOther (by dsimp only; omega) _ |>.setOther (by dsimp only; omega) _, by rw [HST.out]; exact V2.set ⟨y0, y1, y2, y3, y4⟩ _ _, by repeat (first | exact bA | with_reducible assumption | apply bB | (refine bC ?_ (by dsimp only; omega)) | apply bD | apply bE | (refine bF ?_ (by assumption)))⟩
   case measure => simp [intOf]

end Go.Proofs.YtfbfbijkkbflkaaGreatDoor

namespace Go.Proofs.YtfbfbijkkbflkaaGreatDoor
open Go.RowKit Fm
set_option linter.unusedVariables false
set_option maxRecDepth 100000

inductive Gad (f : Nat) where
 | mul
 | eval (cs : KL f)
 | par (n : Nat)

namespace Gad
variable {f : Nat}
def arity : Gad f → Nat
 | mul => 2
 | eval _ => 1
 | par n => 2 * n
def degree : Gad f → Nat
 | mul => 2
 | eval cs => cs.length - 1
 | par _ => 2
end Gad

def psum {f : Nat} (l : KL f) : Nat → Fin (Pm f)
 | 0 => 0
 | k + 1 => psum l k + l.getD (2 * k) 0 * l.getD (2 * k + 1) 0

def gval {f : Nat} (g : Gad f) (l : KL f) : Fin (Pm f) :=
 match g with
 | .mul => psum l 1
 | .eval cs => horner (l.getD 0 0) cs
 | .par n => psum l n

def RepG {f : Nat} (w : World) (B : Nat) (k : Int) (sl : Value) (n : Int) : Gad f → Prop
 | .mul => k = 1 ∧ sl = .slice none 0 0 ∧ n = 0
 | .eval cs => k = 2 ∧ n = 0 ∧ SlK w B sl cs ∧ (∃ m y, cs.length = m + 1 ∧ cs[m]? = some y ∧ y ≠ 0 ∧ 1 ≤ m ∧ m ≤ 3)
 | .par m => k = 3 ∧ sl = .slice none 0 0 ∧ n = m ∧ 1 ≤ m ∧ m ≤ 16

theorem RepG.below {f : Nat} {w w' : World} {B : Nat} {k : Int} {sl : Value} {n : Int} {g : Gad f} (h : RepG w B k sl n g) (hb : Below B w w') : RepG w' B k sl n g := by
 cases g with
 | mul => exact h
 | eval cs => exact ⟨h.1, h.2.1, h.2.2.1.below hb, h.2.2.2⟩
 | par m => exact h
theorem RepG.mono {f : Nat} {w : World} {B B' : Nat} {k : Int} {sl : Value} {n : Int} {g : Gad f} (h : RepG w B k sl n g) (hB : B ≤ B') : RepG w B' k sl n g := by
 cases g with
 | mul => exact h
 | eval cs => exact ⟨h.1, h.2.1, h.2.2.1.mono hB, h.2.2.2⟩
 | par m => exact h
theorem RepG.later {f : Nat} {w w' : World} {k : Int} {sl : Value} {n : Int} {g : Gad f} (h : RepG w w.heap.size k sl n g) (hb : Below w.heap.size w w') : RepG w' w'.heap.size k sl n g := (h.below hb).mono hb.size

section
variable {f : Nat} (hf : IsF f)
include hf

theorem fvalid : (((f : Nat) : Int) == 1 || ((f : Nat) : Int) == 2) = true := by
 rcases hf.or with rfl | rfl <;> rfl
theorem field_ValidK (w : World) : Calls Tryz.prog 73 #[.int .u8 f] w fun e w' => e = .returned (.bool true) ∧ w = w' := by
 have h := field_Valid (f : Int) w
 rwa [fvalid hf] at h
theorem field_InK (x : Fin (Pm f)) (w : World) : Calls Tryz.prog 114 #[.int .u8 f, vK x] w fun e w' => e = .returned (.bool true) ∧ Below w.heap.size w w' := by
 have h := field_In (f : Int) _ (lo x) (hi x) w (FM.ofN hf) (lo_0 x) (lo_1 x) (hi_0 x) (hi_1 x)
 rwa [val_lohi, decide_eq_true (val_pos x).2] at h

omit hf in
theorem gadget_Arity (w : World) (B : Nat) (g : Gad f) (k : Int) (sl : Value) (n : Int) (hg : RepG w B k sl n g) :
  Calls Tryz.prog 28 #[.agg #[.int .u8 k, sl, .int .i64 n]] w fun e w' => e = .returned (.int .i64 (g.arity : Int)) ∧ Below w.heap.size w w' := by
 cases g with
 | mul =>
  obtain ⟨rfl, rfl, rfl⟩ := hg
  go_enter Tryz.func28, Tryz.ntmps28
  go_wp2
  go_ret
  exact ⟨rfl, by repeat (first | exact bA | with_reducible assumption | apply bB | (refine bC ?_ (by dsimp only; omega)) | apply bD | apply bE | (refine bF ?_ (by assumption)))⟩
 | eval cs =>
  obtain ⟨rfl, rfl, hs, hm⟩ := hg
  go_enter Tryz.func28, Tryz.ntmps28
  go_wp2
  go_ret
  exact ⟨rfl, by repeat (first | exact bA | with_reducible assumption | apply bB | (refine bC ?_ (by dsimp only; omega)) | apply bD | apply bE | (refine bF ?_ (by assumption)))⟩
 | par m =>
  obtain ⟨rfl, rfl, rfl, h1, h2⟩ := hg
  have hmx : max (m : Int) 0 = (m : Int) := by omega
  go_enter Tryz.func28, Tryz.ntmps28
  go_wp2
  go_ret
  exact ⟨ret_int (show 2 * (m : Int) = ((2 * m : Nat) : Int) by omega), by repeat (first | exact bA | with_reducible assumption | apply bB | (refine bC ?_ (by dsimp only; omega)) | apply bD | apply bE | (refine bF ?_ (by assumption)))⟩

omit hf in
theorem gadget_Degree (w : World) (B : Nat) (g : Gad f) (k : Int) (sl : Value) (n : Int) (hg : RepG w B k sl n g) :
  Calls Tryz.prog 60 #[.agg #[.int .u8 k, sl, .int .i64 n]] w fun e w' => e = .returned (.int .i64 (g.degree : Int)) ∧ Below w.heap.size w w' := by
 cases g with
 | mul =>
  obtain ⟨rfl, rfl, rfl⟩ := hg
  go_enter Tryz.func60, Tryz.ntmps60
  go_wp2
  go_ret
  exact ⟨rfl, by repeat (first | exact bA | with_reducible assumption | apply bB | (refine bC ?_ (by dsimp only; omega)) | apply bD | apply bE | (refine bF ?_ (by assumption)))⟩
 | eval cs =>
  obtain ⟨rfl, rfl, hs, m, y, hm, hy, hy0, h1, h2⟩ := hg
  obtain ⟨A, c, rfl, hc, hcm, hA⟩ := hs
  rw [show Gad.degree (.eval cs) = m by show cs.length - 1 = m; omega, hm]
  clear hA hy hm
  go_enter Tryz.func60, Tryz.ntmps60
  go_wp2
  go_ret
  exact ⟨ret_int (by omega), by repeat (first | exact bA | with_reducible assumption | apply bB | (refine bC ?_ (by dsimp only; omega)) | apply bD | apply bE | (refine bF ?_ (by assumption)))⟩
 | par m =>
  obtain ⟨rfl, rfl, rfl, h1, h2⟩ := hg
  go_enter Tryz.func60, Tryz.ntmps60
  go_wp2
  go_ret
  exact ⟨rfl, by repeat (first | exact bA | with_reducible assumption | apply bB | (refine bC ?_ (by dsimp only; omega)) | apply bD | apply bE | (refine bF ?_ (by assumption)))⟩

set_option maxHeartbeats 1000000 in
theorem gadget_Check (w : World) (g : Gad f) (k : Int) (sl : Value) (n : Int) (hg : RepG w w.heap.size k sl n g) :
  Calls Tryz.prog 83 #[.agg #[.int .u8 k, sl, .int .i64 n], .int .u8 f] w fun e w' => e = .returned (.int .i64 0) ∧ Below w.heap.size w w' := by
 have heq := eql_elem
 have HV := Lib.hid (field_ValidK hf)
 cases g with
 | mul =>
  obtain ⟨rfl, rfl, rfl⟩ := hg
  go_enter Tryz.func83, Tryz.ntmps83
  go_wp2_with (go_at_call 73; refine (HV.out _).mono ?_; rintro e w5 ⟨rfl, rfl⟩)
  go_ret
  exact ⟨rfl, by repeat (first | exact bA | with_reducible assumption | apply bB | (refine bC ?_ (by dsimp only; omega)) | apply bD | apply bE | (refine bF ?_ (by assumption)))⟩
 | par m =>
  obtain ⟨rfl, rfl, rfl, h1, h2⟩ := hg
  go_enter Tryz.func83, Tryz.ntmps83
  go_wp2_with (go_at_call 73; refine (HV.out _).mono ?_; rintro e w5 ⟨rfl, rfl⟩)
  go_ret
  exact ⟨rfl, by repeat (first | exact bA | with_reducible assumption | apply bB | (refine bC ?_ (by dsimp only; omega)) | apply bD | apply bE | (refine bF ?_ (by assumption)))⟩
 | eval cs =>
  obtain ⟨rfl, rfl, hs, m, y, hm, hy, hy0, h1, h2⟩ := hg
  obtain ⟨A, c, rfl, hc, hcm, hA⟩ := hs
  obtain ⟨b, o, rfl, hB, hr⟩ := hA (by omega)
  obtain ⟨c0, c1⟩ := (hr.call ((Below.refl w.heap.size w).alloc (Nat.le_refl _) (.cells #[.int .u8 2, .slice (some ⟨b, o, none⟩) cs.length c, .int .i64 0] 54))).kat hy
  have hd : (lo y == 0 && hi y == 0) = false := by rw [lohi_zero, decide_eq_false hy0]
  have hv0 := Vs.new w [.int .u8 2, .slice (some ⟨b, o, none⟩) cs.length c, .int .i64 0] #[.int .u8 2, .slice (some ⟨b, o, none⟩) cs.length c, .int .i64 0] 54 rfl
  rw [hm] at c0 c1 hv0 hc
  rw [hm]
  have HM := Lib.hid hm
  clear hm hy hA
  go_enter Tryz.func83, Tryz.ntmps83
  go_wp2_with (go_at_call 73; refine (HV.out _).mono ?_; rintro e w5 ⟨rfl, rfl⟩)
  go_loopw [41] (fun i wr => ∃ q : Nat, q ≤ m + 1 ∧ i = .int .i64 q ∧ Below w.heap.size w wr ∧ Vs wr w.heap.size [.int .u8 2, .slice (some ⟨b, o, none⟩) (m + 1) c, .int .i64 0]) (fun i _ => m + 1 - (intOf i).toNat)
  case atStart => exact ⟨0, Nat.zero_le _, rfl, by repeat (first | exact bA | with_reducible assumption | apply bB | (refine bC ?_ (by dsimp only; omega)) | apply bD | apply bE | (refine bF ?_ (by assumption))), hv0⟩
  case round =>
   obtain ⟨q, hq, rfl, hbw, hv⟩ := hrel
   clear c0 c1 hd
   by_cases hlt : q < m + 1
   ·obtain ⟨x, hx⟩ : ∃ e, cs[q]? = some e := ⟨_, List.getElem?_eq_getElem (by have := HM.out; omega)⟩
    obtain ⟨c0, c1⟩ := (hr.below hbw hB).kat hx
    clear hx
    go_wp2_with (go_at_call 114; refine (field_InK hf x _).mono ?_; rintro e w6 ⟨rfl, hb6⟩; replace hv := (hv.alloc _).call hb6)
    go_roundw
    case rel => exact ⟨q + 1, by omega, by go_num, by repeat (first | exact bA | with_reducible assumption | apply bB | (refine bC ?_ (by dsimp only; omega)) | apply bD | apply bE | (refine bF ?_ (by assumption))), hv⟩
    case measure => simp [intOf]; omega
   ·obtain rfl : q = m + 1 := by omega
    go_wp2
    go_ret
    exact ⟨rfl, by repeat (first | exact bA | with_reducible assumption | apply bB | (refine bC ?_ (by dsimp only; omega)) | apply bD | apply bE | (refine bF ?_ (by assumption)))⟩

def RetKE (x : Fin (Pm f)) (w : World) (e : Ending) (w' : World) : Prop := e = .returned (.tuple #[vK x, .int .i64 0]) ∧ Below w.heap.size w w'

omit hf in
theorem psum_zero (l : KL f) : psum l 0 = 0 := rfl
omit hf in
theorem psum_succ (l : KL f) (k : Nat) (x y : Fin (Pm f)) (hx : l[2 * k]? = some x) (hy : l[2 * k + 1]? = some y) : psum l (k + 1) = psum l k + x * y := by
 show psum l k + l.getD (2 * k) 0 * l.getD (2 * k + 1) 0 = _
 rw [List.getD_eq_getElem?_getD, List.getD_eq_getElem?_getD, hx, hy]
 rfl

set_option maxHeartbeats 4000000 in
theorem gadget_Of_pairs (w : World) (g : Gad f) (k : Int) (n : Int) (hg : RepG w w.heap.size k (.slice none 0 0) n g) (hk : (k == 2) = false) (vl : Value) (l : KL f) (hl : SlK w w.heap.size vl l) (q : Nat) (hq : l.length = 2 * q) (ha : g.arity = 2 * q) (hq16 : q ≤ 16) (hv : gval g l = psum l q) :
  Calls Tryz.prog 37 #[.agg #[.int .u8 k, .slice none 0 0, .int .i64 n], .int .u8 f, vl] w (RetKE (gval g l) w) := by
 have HC := Lib.hid (fun wz (h : Below w.heap.size w wz) => gadget_Check hf wz g k _ n (hg.later h))
 have HA := Lib.hid (fun wz => gadget_Arity wz w.heap.size g k (.slice none 0 0) n)
 have hga : ∀ wz, Below w.heap.size w wz → Calls Tryz.prog 28 #[.agg #[.int .u8 k, .slice none 0 0, .int .i64 n]] wz fun e w' => e = .returned (.int .i64 ((2 * q : Nat) : Int)) ∧ Below wz.heap.size wz w' := by
  intro wz hb
  have h := gadget_Arity wz w.heap.size g k (.slice none 0 0) n (hg.below hb)
  rwa [ha] at h
 have HAA := Lib.hid hga
 clear hga HA
 rw [hv]
 obtain ⟨A, c, rfl, hc, hcm, hA⟩ := hl
 rw [hq] at hc
 rw [hq]
 have HQ := Lib.hid hq
 clear hq ha hv hg
 go_enter Tryz.func37, Tryz.ntmps37
 go_upto_region 1 with fail
 have hx := Vs.new w [.int .u8 k, .slice none 0 0, .int .i64 n] #[.int .u8 k, .slice none 0 0, .int .i64 n] 54 rfl
 replace hx := hx.alloc (.cells #[.int .u64 0, .int .u64 0] 36)
 have hr := V2.new (w.alloc (.cells #[.int .u8 k, .slice none 0 0, .int .i64 n] 54)) (.int .u64 0) (.int .u64 0) 36
 rw [World.size_alloc] at hr
 have hb00 : Below w.heap.size w ((w.alloc (.cells #[.int .u8 k, .slice none 0 0, .int .i64 n] 54)).alloc (.cells #[.int .u64 0, .int .u64 0] 36)) := by repeat (first | exact bA | with_reducible assumption | apply bB | (refine bC ?_ (by dsimp only; omega)) | apply bD | apply bE | (refine bF ?_ (by assumption)))
 generalize (w.alloc (.cells #[.int .u8 k, .slice none 0 0, .int .i64 n] 54)).alloc (.cells #[.int .u64 0, .int .u64 0] 36) = w1 at hx hr hb00 ⊢
 obtain ⟨c0, c1, c2, c3, c4, c5, c6⟩ := hx.get3
 go_upto_region 8 with (first
  | (go_at_call 83; refine (HC.out _ hb00).mono ?_; rintro e w2 ⟨rfl, hb2⟩; replace hx := hx.call hb2; replace hr := hr.call hb2; replace hb00 := bl_call hb00 (Nat.le_refl _) hb2; obtain ⟨c0, c1, c2, c3, c4, c5, c6⟩ := hx.get3)
  | (go_at_call 28; refine (HAA.out _ hb00).mono ?_; rintro e w3 ⟨rfl, hb3⟩; replace hx := hx.call hb3; replace hr := hr.call hb3; replace hb00 := bl_call hb00 (Nat.le_refl _) hb3; obtain ⟨c0, c1, c2, c3, c4, c5, c6⟩ := hx.get3))
 have hz3 := hr.lt
 go_wp2_with fail
 go_loopw [10] (fun i wr => ∃ j : Nat, j ≤ q ∧ i = .int .i64 ((2 * j : Nat) : Int) ∧ V2 wr (w.heap.size + 1) (.int .u64 0) (.int .u64 0) ∧ V2 wr w3.heap.size (.int .u64 (lo (psum l j))) (.int .u64 (hi (psum l j))) ∧ Below w.heap.size w wr) (fun i _ => (2 * q + 1) - (intOf i).toNat)
 case atStart =>
  refine ⟨0, Nat.zero_le _, rfl, hr.alloc _, ?_, by repeat (first | exact bA | with_reducible assumption | apply bB | (refine bC ?_ (by dsimp only; omega)) | apply bD | apply bE | (refine bF ?_ (by assumption)))⟩
  rw [psum_zero, lo_zero, hi_zero]
  exact V2.new _ _ _ _
 case round =>
  clear hx hr hb00 c0 c1 c2 c3 c4 c5 c6 HC HAA
  obtain ⟨j, hj, rfl, hr, ho, hbw⟩ := hrel
  by_cases hlt : j < q
  ·obtain ⟨b, o, rfl, hB, hrow⟩ := hA (by have := HQ.out; omega)
   obtain ⟨x, hx⟩ : ∃ e, l[2 * j]? = some e := ⟨_, List.getElem?_eq_getElem (by have := HQ.out; omega)⟩
   obtain ⟨y, hy⟩ : ∃ e, l[2 * j + 1]? = some e := ⟨_, List.getElem?_eq_getElem (by have := HQ.out; omega)⟩
   obtain ⟨c0, c1⟩ := (hrow.below hbw hB).kat hx
   obtain ⟨d0, d1⟩ := (hrow.below hbw hB).kat hy
   have hbl : b < wr.heap.size := Nat.lt_of_lt_of_le hB hbw.size
   have HST := Lib.hid (psum_succ l j x y hx hy)
   generalize psum l j = s at *
   have hj1 : 2 * j < 2 * q := by omega
   have hj2 : 2 * j + 1 < 2 * q := by omega
   have hj3 : 2 * j + 2 ≤ 2 * q := by omega
   generalize hjj : 2 * j = jj at *
   have HJJ := Lib.hid hjj
   generalize hqq : 2 * q = qq at *
   have HQQ := Lib.hid hqq
   have hqq32 : qq ≤ 32 := by omega
   clear hjj hqq hx hy hrow hA
   have hj4 : 0 ≤ (jj : Int) + 1 := by omega
   have hj5 : (jj : Int) + 1 < (qq : Int) := by omega
   have hw1 : IntKind.i64.wrap ((jj : Int) + 1) = (jj : Int) + 1 := IntWalk.i64_in _ (by omega)
   have hoo := ho
   obtain ⟨o0, o1, o2, o3, o4⟩ := hoo
   go_wp2_with fail
   refine region_B (n := 14) (m := 15) (f := 14) (by kernel_rfl) (by kernel_rfl) rfl ?_
   refine WpH.takeB (i := 0) (v := ?_) rfl (by kernel_rfl) (fun _ _ _ h => h) (.val rfl (fun wz hwz => ?_)) ?_
   rotate_left
   ·go_simp; try (with_reducible rfl)
   (simp only [Act.put]); (try simp only [List.setIfInBounds_toArray]); (try simp only [List.set_cons_succ]); (try simp only [List.set_cons_zero])
   refine WpH.takeB (i := 1) (v := ?_) rfl (by kernel_rfl) (fun _ _ _ h => h) (.val rfl (fun wz hwz => ?_)) ?_
   rotate_left
   ·(obtain ⟨hcz, hfz⟩ := bcell hwz; go_simp; try (with_reducible rfl))
   (simp only [Act.put]); (try simp only [List.setIfInBounds_toArray]); (try simp only [List.set_cons_succ]); (try simp only [List.set_cons_zero])
   refine WpH.takeB (i := 2) (v := ?_) rfl (by kernel_rfl) (fun _ _ _ h => h) (.val rfl (fun wz hwz => ?_)) ?_
   rotate_left
   ·go_simp; try (with_reducible rfl)
   (simp only [Act.put]); (try simp only [List.setIfInBounds_toArray]); (try simp only [List.set_cons_succ]); (try simp only [List.set_cons_zero])
   refine WpH.takeB (i := 3) (v := ?_) rfl (by kernel_rfl) (fun _ _ _ h => h) (.val rfl (fun wz hwz => ?_)) ?_
   rotate_left
   ·go_simp; try (with_reducible rfl)
   (simp only [Act.put]); (try simp only [List.setIfInBounds_toArray]); (try simp only [List.set_cons_succ]); (try simp only [List.set_cons_zero])
   refine WpH.takeB (i := 4) (v := ?_) rfl (by kernel_rfl) (fun _ _ _ h => h) (.val rfl (fun wz hwz => ?_)) ?_
   rotate_left
   ·go_simp; try (with_reducible rfl)
   (simp only [Act.put]); (try simp only [List.setIfInBounds_toArray]); (try simp only [List.set_cons_succ]); (try simp only [List.set_cons_zero])
   refine WpH.takeB (i := 5) (v := ?_) rfl (by kernel_rfl) (fun _ _ _ h => h) (.val rfl (fun wz hwz => ?_)) ?_
   rotate_left
   ·go_simp; try (with_reducible rfl)
   (simp only [Act.put]); (try simp only [List.setIfInBounds_toArray]); (try simp only [List.set_cons_succ]); (try simp only [List.set_cons_zero])
   refine WpH.takeB (i := 6) (v := ?_) rfl (by kernel_rfl) (fun _ _ _ h => h) (.val rfl (fun wz hwz => ?_)) ?_
   rotate_left
   ·(obtain ⟨hcz, hfz⟩ := bcell hwz; go_simp; try (with_reducible rfl))
   (simp only [Act.put]); (try simp only [List.setIfInBounds_toArray]); (try simp only [List.set_cons_succ]); (try simp only [List.set_cons_zero])
   refine WpH.takeB (i := 7) (v := ?_) rfl (by kernel_rfl) (fun _ _ _ h => h) (.val rfl (fun wz hwz => ?_)) ?_
   rotate_left
   ·go_simp; try (with_reducible rfl)
   (simp only [Act.put]); (try simp only [List.setIfInBounds_toArray]); (try simp only [List.set_cons_succ]); (try simp only [List.set_cons_zero])
   refine WpH.takeB (i := 8) (v := ?_) rfl (by kernel_rfl) (fun _ _ _ h => h) (.val rfl (fun wz hwz => ?_)) ?_
   rotate_left
   ·go_simp; try (with_reducible rfl)
   (simp only [Act.put]); (try simp only [List.setIfInBounds_toArray]); (try simp only [List.set_cons_succ]); (try simp only [List.set_cons_zero])
   refine WpH.takeB (i := 9) (v := ?_) rfl (by kernel_rfl) (fun _ _ _ h => h) (.val rfl (fun wz hwz => ?_)) ?_
   rotate_left
   ·go_simp; try (with_reducible rfl)
   (simp only [Act.put]); (try simp only [List.setIfInBounds_toArray]); (try simp only [List.set_cons_succ]); (try simp only [List.set_cons_zero])
   refine WpH.takeB (i := 10) (v := ?_) rfl (by kernel_rfl) (fun _ _ _ h => h) (.val rfl (fun wz hwz => ?_)) ?_
   rotate_left
   ·go_simp; try (with_reducible rfl)
   (simp only [Act.put]); (try simp only [List.setIfInBounds_toArray]); (try simp only [List.set_cons_succ]); (try simp only [List.set_cons_zero])
   refine WpH.takeB (i := 11) (v := ?_) rfl (by kernel_rfl) (fun _ _ _ h => h) (.val rfl (fun wz hwz => ?_)) ?_
   rotate_left
   ·(obtain ⟨hcz, hfz⟩ := bcell hwz; go_simp; try (with_reducible rfl))
   (simp only [Act.put]); (try simp only [List.setIfInBounds_toArray]); (try simp only [List.set_cons_succ]); (try simp only [List.set_cons_zero])
   refine WpH.takeB (i := 12) rfl (by kernel_rfl) (fun _ _ _ h => h) (.call rfl (fun wz hwz => field_MulK hf x y wz) (fun wz hwz => ?_)) ?_
   ·go_simp; try (with_reducible rfl)
   (simp only [Act.put]); (try simp only [List.setIfInBounds_toArray]); (try simp only [List.set_cons_succ]); (try simp only [List.set_cons_zero])
   refine WpH.takeB (i := 13) rfl (by kernel_rfl) (fun _ _ _ h => h) (.call rfl (fun wz hwz => field_AddK hf s (x * y) wz) (fun wz hwz => ?_)) ?_
   ·go_simp; try (with_reducible rfl)
   (simp only [Act.put]); (try simp only [List.setIfInBounds_toArray]); (try simp only [List.set_cons_succ]); (try simp only [List.set_cons_zero])
   refine WpH.doneB (by kernel_rfl) (fun w6 hw6 => ?_)
   (try simp only [List.drop_succ_cons]); (try simp only [List.drop_zero]); (try simp only [Nat.reduceSub]); (try simp only [List.take_succ_cons]); (try simp only [List.take_zero])
   replace ho := ho.call hw6
   replace hr := hr.call hw6
   obtain ⟨o0, o1, o2, o3, o4⟩ := ho
   clear hj4 hj5 hw1
   go_wp2_with fail
   go_roundw
   case rel => exact ⟨j + 1, by omega, by have := HJJ.out; have := HQQ.out; rw [show 2 * (j + 1) = jj + 2 by omega]; go_num, hr.oth (by omega) _ _, by rw [HST.out]; exact V2.set ⟨o0, o1, o2, o3, o4⟩ _ _, by repeat (first | exact bA | with_reducible assumption | apply bB | (refine bC ?_ (by dsimp only; omega)) | apply bD | apply bE | (refine bF ?_ (by assumption)))⟩
   case measure => simp [intOf]; omega
  ·obtain rfl : j = q := by omega
   obtain ⟨y0, y1, y2, y3, y4⟩ := ho
   obtain ⟨z0, z1, z2, z3, z4⟩ := hr
   go_wp2
   refine bodyPost_ret (results_v2_tmp (b := w.heap.size + 1) (u := .int .u64 (lo (psum l j))) (v := .int .u64 (hi (psum l j))) ?_ rfl rfl) rfl ?_
   ·exact V2.set ⟨z0, z1, z2, z3, z4⟩ _ _
   ·exact ⟨rfl, by repeat (first | exact bA | with_reducible assumption | apply bB | (refine bC ?_ (by dsimp only; omega)) | apply bD | apply bE | (refine bF ?_ (by assumption)))⟩

set_option maxHeartbeats 4000000 in
theorem gadget_Of (w : World) (g : Gad f) (k : Int) (sl : Value) (n : Int) (hg : RepG w w.heap.size k sl n g) (vl : Value) (l : KL f) (hl : SlK w w.heap.size vl l) (hq : l.length = g.arity) :
  Calls Tryz.prog 37 #[.agg #[.int .u8 k, sl, .int .i64 n], .int .u8 f, vl] w (RetKE (gval g l) w) := by
 cases g with
 | mul =>
  have hg' := hg
  obtain ⟨rfl, rfl, rfl⟩ := hg
  exact gadget_Of_pairs hf w .mul 1 0 hg' rfl vl l hl 1 hq rfl (by omega) rfl
 | par m =>
  have hg' := hg
  obtain ⟨rfl, rfl, rfl, h1, h2⟩ := hg
  exact gadget_Of_pairs hf w (.par m) 3 m hg' rfl vl l hl m hq rfl h2 rfl
 | eval cs =>
  have HC := Lib.hid (fun wz (h : Below w.heap.size w wz) => gadget_Check hf wz (.eval cs) k _ n (hg.later h))
  have hga : ∀ wz, Below w.heap.size w wz → Calls Tryz.prog 28 #[.agg #[.int .u8 k, sl, .int .i64 n]] wz fun e w' => e = .returned (.int .i64 1) ∧ Below wz.heap.size wz w' := by
   intro wz hb
   exact gadget_Arity wz w.heap.size (.eval cs) k sl n (hg.below hb)
  have HAA := Lib.hid hga
  clear hga
  obtain ⟨rfl, rfl, hs, m, y, hm, hy, hy0, h1, h2⟩ := hg
  have hq1 : l.length = 1 := hq
  obtain ⟨A, c, rfl, hc, hcm, hA⟩ := hl
  obtain ⟨b, o, rfl, hB, hrow⟩ := hA (by omega)
  obtain ⟨x, hx⟩ : ∃ e, l[0]? = some e := ⟨_, List.getElem?_eq_getElem (by omega)⟩
  obtain ⟨c0, c1⟩ := hrow.kat hx
  rw [Nat.zero_mul, Nat.add_zero] at c0 c1
  have hgv : gval (.eval cs) l = horner x cs := by
   show horner (l.getD 0 0) cs = _
   rw [List.getD_eq_getElem?_getD, hx]
   rfl
  rw [hgv, hq1]
  rw [hq1] at hc
  have HP := Lib.hid (fun wz (h : Below w.heap.size w wz) => poly_At hf _ cs x wz (hs.later h) (by omega))
  have hs' := hs
  obtain ⟨A', c', rfl, hc', hcm', hA'⟩ := hs
  clear hA hA' hx hq hq1 hgv hy hm hrow
  go_enter Tryz.func37, Tryz.ntmps37
  go_upto_region 1 with fail
  have hx := Vs.new w [.int .u8 2, .slice A' cs.length c', .int .i64 0] #[.int .u8 2, .slice A' cs.length c', .int .i64 0] 54 rfl
  replace hx := hx.alloc (.cells #[.int .u64 0, .int .u64 0] 36)
  have hr := V2.new (w.alloc (.cells #[.int .u8 2, .slice A' cs.length c', .int .i64 0] 54)) (.int .u64 0) (.int .u64 0) 36
  rw [World.size_alloc] at hr
  have hb00 : Below w.heap.size w ((w.alloc (.cells #[.int .u8 2, .slice A' cs.length c', .int .i64 0] 54)).alloc (.cells #[.int .u64 0, .int .u64 0] 36)) := by repeat (first | exact bA | with_reducible assumption | apply bB | (refine bC ?_ (by dsimp only; omega)) | apply bD | apply bE | (refine bF ?_ (by assumption)))
  generalize (w.alloc (.cells #[.int .u8 2, .slice A' cs.length c', .int .i64 0] 54)).alloc (.cells #[.int .u64 0, .int .u64 0] 36) = w1 at hx hr hb00 ⊢
  obtain ⟨a0, a1, a2, a3, a4, a5, a6⟩ := hx.get3
  go_upto_region 7 with (first
   | (go_at_call 83; refine (HC.out _ hb00).mono ?_; rintro e w2 ⟨rfl, hb2⟩; replace hx := hx.call hb2; replace hr := hr.call hb2; replace hb00 := bl_call hb00 (Nat.le_refl _) hb2; obtain ⟨a0, a1, a2, a3, a4, a5, a6⟩ := hx.get3)
   | (go_at_call 28; refine (HAA.out _ hb00).mono ?_; rintro e w3 ⟨rfl, hb3⟩; replace hx := hx.call hb3; replace hr := hr.call hb3; replace hb00 := bl_call hb00 (Nat.le_refl _) hb3; obtain ⟨a0, a1, a2, a3, a4, a5, a6⟩ := hx.get3))
  obtain ⟨hcb, hfb⟩ := bcell hb00
  have d0 := (hcb b o hB).trans c0
  have d1 := (hcb b (o + 1) hB).trans c1
  have hbl : b < w3.heap.size := Nat.lt_of_lt_of_le hB hb00.size
  clear hcb hfb c0 c1
  refine region_B (n := 7) (m := 9) (f := 7) (by kernel_rfl) (by kernel_rfl) rfl ?_
  refine WpH.takeB (i := 0) (v := ?_) rfl (by kernel_rfl) (fun _ _ _ h => h) (.val rfl (fun wz hwz => ?_)) ?_
  rotate_left
  ·go_simp; try (with_reducible rfl)
  (simp only [Act.put]); (try simp only [List.setIfInBounds_toArray]); (try simp only [List.set_cons_succ]); (try simp only [List.set_cons_zero])
  refine WpH.takeB (i := 1) (v := ?_) rfl (by kernel_rfl) (fun _ _ _ h => h) (.val rfl (fun wz hwz => ?_)) ?_
  rotate_left
  ·go_simp; try (with_reducible rfl)
  (simp only [Act.put]); (try simp only [List.setIfInBounds_toArray]); (try simp only [List.set_cons_succ]); (try simp only [List.set_cons_zero])
  refine WpH.takeB (i := 2) (v := ?_) rfl (by kernel_rfl) (fun _ _ _ h => h) (.val rfl (fun wz hwz => ?_)) ?_
  rotate_left
  ·(obtain ⟨hcz, hfz⟩ := bcell hwz; go_simp; try (with_reducible rfl))
  (simp only [Act.put]); (try simp only [List.setIfInBounds_toArray]); (try simp only [List.set_cons_succ]); (try simp only [List.set_cons_zero])
  refine WpH.takeB (i := 3) (v := ?_) rfl (by kernel_rfl) (fun _ _ _ h => h) (.val rfl (fun wz hwz => ?_)) ?_
  rotate_left
  ·go_simp; try (with_reducible rfl)
  (simp only [Act.put]); (try simp only [List.setIfInBounds_toArray]); (try simp only [List.set_cons_succ]); (try simp only [List.set_cons_zero])
  refine WpH.takeB (i := 4) (v := ?_) rfl (by kernel_rfl) (fun _ _ _ h => h) (.val rfl (fun wz hwz => ?_)) ?_
  rotate_left
  ·go_simp; try (with_reducible rfl)
  (simp only [Act.put]); (try simp only [List.setIfInBounds_toArray]); (try simp only [List.set_cons_succ]); (try simp only [List.set_cons_zero])
  refine WpH.takeB (i := 5) (v := ?_) rfl (by kernel_rfl) (fun _ _ _ h => h) (.val rfl (fun wz hwz => ?_)) ?_
  rotate_left
  ·(obtain ⟨hcz, hfz⟩ := bcell hwz; go_simp; try (with_reducible rfl))
  (simp only [Act.put]); (try simp only [List.setIfInBounds_toArray]); (try simp only [List.set_cons_succ]); (try simp only [List.set_cons_zero])
  refine WpH.takeB (i := 6) rfl (by kernel_rfl) (fun _ _ _ h => h) (.call rfl (fun wz hwz => HP.out wz (hb00.trans (hwz.mono hb00.size))) (fun wz hwz => ?_)) ?_
  ·go_simp; try (with_reducible rfl)
  (simp only [Act.put]); (try simp only [List.setIfInBounds_toArray]); (try simp only [List.set_cons_succ]); (try simp only [List.set_cons_zero])
  refine WpH.doneB (by kernel_rfl) (fun w6 hw6 => ?_)
  (try simp only [List.drop_succ_cons]); (try simp only [List.drop_zero]); (try simp only [Nat.reduceSub]); (try simp only [List.take_succ_cons]); (try simp only [List.take_zero])
  obtain ⟨o0, o1, o2, o3, o4⟩ := hr.call hw6
  go_wp2_with fail
  refine bodyPost_ret (results_v2_tmp (b := w.heap.size + 1) (u := .int .u64 (lo (horner x cs))) (v := .int .u64 (hi (horner x cs))) ?_ rfl rfl) rfl ?_
  ·exact V2.set ⟨o0, o1, o2, o3, o4⟩ _ _
  ·exact ⟨rfl, by repeat (first | exact bA | with_reducible assumption | apply bB | (refine bC ?_ (by dsimp only; omega)) | apply bD | apply bE | (refine bF ?_ (by assumption)))⟩

end

end Go.Proofs.YtfbfbijkkbflkaaGreatDoor
