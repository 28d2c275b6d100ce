/-
  A LAW ON REGIONS THAT DRAW THEIR ORDER, of any program: what is known of the world may grow from operation to operation: several new things in one region; calls of what is new.
-/
/-
  THE LAW ON REGIONS, ON: two new things, in either order.
-/
/-
  THE LAW ON REGIONS, its steps with the slot written out: so that a frame stays a literal.
-/
/-
  WALKS: the reference's Add, Neg, Sub.
-/
/-
  WALKS: the reference's Neg, Sub.
-/
/-
  WALK: the reference's bit.
-/
/-
  WALK: the reference's Mul.
-/
/-
  WALK: poly.At.
-/
/-
  WALK: the reference's At.
-/
import Derived.Test.YtiphahbeedeebaaMag
import Derived.Test.YtiphahbeedeebaaMab
namespace Go.Proofs.Ytiphahbeedeebaa
open Go Go.RowKit

/-- what is known outlasts whatever turns nothing below -/
def Clo (S : World → Prop) : Prop := ∀ w w', S w → Below w.heap.size w w' → S w'
theorem Clo.below (W : World) : Clo (Below W.heap.size W) := fun _ _ h hb => h.trans (hb.mono h.size)
theorem Clo.and {S T : World → Prop} (h : Clo S) (k : Clo T) : Clo (fun w => S w ∧ T w) := fun w w' x hb => ⟨h w w' x.1 hb, k w w' x.2 hb⟩

section
variable {P : Program} {ops : Array Oper} {Q : Exit → Act → World → Prop} {md : Region.Mode}

theorem Det.weak {S S' : World → Prop} (hm : ∀ w, S' w → S w) {o : Oper} {v : Value} {a : Act} (h : Det P ops S o v a) : Det P ops S' o v a :=
  h.imp (fun h => ⟨h.1, fun w hw => h.2 w (hm w hw)⟩) id

/-- the head in whatever order; what is known grows; then L -/
def wpG (P : Program) (md : Region.Mode) (ops : Array Oper) (Q : Exit → Act → World → Prop) (n m : Nat) (L : Act → World → Prop) : Nat → Array Bool → Act → (World → Prop) → Prop
  | 0, listed, a, S => Region.seqB md ops (m - n) n listed = true ∧ ∀ w, S w → L a w
  | f + 1, listed, a, S =>
    Region.ready md ops listed ≠ [] ∧
    ∀ i ∈ Region.ready md ops listed, i < n ∧ ∀ w, S w → wpOp P ops Q i (fun a' w' => ∃ S' : World → Prop, Clo S' ∧ (∀ w, S' w → S w) ∧ S' w' ∧ wpG P md ops Q n m L f (listed.setIfInBounds i true) a' S') a w

theorem wpAny_of_G {n m : Nat} {L : Act → World → Prop} (hL : ∀ listed a w, Region.seqB md ops (m - n) n listed = true → L a w → wpAny P md ops Q (m - n) listed a w) :
    ∀ (f : Nat) (listed : Array Bool) (a : Act) (S : World → Prop), wpG P md ops Q n m L f listed a S → ∀ w, S w → wpAny P md ops Q (f + (m - n)) listed a w
  | 0, listed, a, S, h, w, hS => by rw [Nat.zero_add]; exact hL _ _ _ h.1 (h.2 w hS)
  | f + 1, listed, a, S, h, w, hS => by
    rw [show f + 1 + (m - n) = (f + (m - n)) + 1 by omega]
    refine ⟨fun h0 => absurd h0 h.1, fun i hi => wpOp_mono (fun a' w' h' => ?_) ((h.2 i hi).2 w hS)⟩
    obtain ⟨S', _, _, hS', hG⟩ := h'
    exact wpAny_of_G hL f _ a' S' hG w' hS'

theorem wpG_first {n m : Nat} {L : Act → World → Prop} (hp : Parts md ops n m) {i : Nat} {oi : Oper} {v : Value} (hi : ops[i]? = some oi) (hin : i < n)
    (hQ : ∀ c a w, Q (.panic c) (a.put oi.dst v) w → Q (.panic c) a w) :
    ∀ (f : Nat) (listed : Array Bool) (a : Act) (S : World → Prop), Clo S → HInv md ops n m listed →
      (∀ j oj, ops[j]? = some oj → j ≠ i → listed.getD j true = false → (∀ e ∈ oj.after, Region.binds md e = true → e.on ≠ i) → oi.apart ops oj = true) →
      i ∈ Region.ready md ops listed → Det P ops S oi v a →
      wpG P md ops Q n m L f (listed.setIfInBounds i true) (a.put oi.dst v) S → wpG P md ops Q n m L (f + 1) listed a S := by
  have hsel := Region.noSelect_spec hp.nosel
  intro f
  induction f with
  | zero =>
    intro listed a S hC inv _ hr hy H
    have hun := (mem_ready.1 hr).1
    refine ⟨fun h => (by rw [h] at hr; cases hr), fun j hj => ?_⟩
    have hjn : j < n := by
      rcases Nat.lt_or_ge j n with h | h
      · exact h
      · exact absurd hj (head_only hp inv _ i rfl hin hun j h)
    refine ⟨hjn, fun w hS => ?_⟩
    by_cases hji : j = i
    · subst hji
      exact hy.wpOp hi hS fun w' hb => ⟨S, hC, fun _ h => h, hC _ _ hS hb, H⟩
    · have := seqB_ready H.1 j (ready_mono hj hji)
      omega
  | succ f ih =>
    intro listed a S hC inv hfree hr hy H
    have hun := (mem_ready.1 hr).1
    refine ⟨fun h => (by rw [h] at hr; cases hr), fun j hj => ?_⟩
    have hjn : j < n := by
      rcases Nat.lt_or_ge j n with h | h
      · exact h
      · exact absurd hj (head_only hp inv _ i rfl hin hun j h)
    refine ⟨hjn, fun w hS => ?_⟩
    by_cases hji : j = i
    · subst hji
      exact hy.wpOp hi hS fun w' hb => ⟨S, hC, fun _ h => h, hC _ _ hS hb, H⟩
    · have h1 := (H.2 j (ready_mono hj hji)).2 w hS
      obtain ⟨hjun, oj, hoj, hall⟩ := mem_ready.1 hj
      have hnot : ∀ e ∈ oj.after, Region.binds md e = true → e.on ≠ i := fun e he hb heq => by
        have h1 := hall e he hb
        rw [heq, getD_both hun] at h1
        cases h1
      have h2 := wpOp_putDet hoj (hfree j oj hoj hji hjun hnot) (fun cs b => hsel i oi cs b hi) (fun cs b => hsel j oj cs b hoj) hQ hy h1
      have hfree' : ∀ k ok, ops[k]? = some ok → k ≠ i → (listed.setIfInBounds j true).getD k true = false →
          (∀ e ∈ ok.after, Region.binds md e = true → e.on ≠ i) → oi.apart ops ok = true := fun k ok hk hki hu hno => by
        refine hfree k ok hk hki ?_ hno
        by_cases hjk : j = k
        · subst hjk
          exact hjun
        · rw [getD_set_ne true hjk] at hu
          exact hu
      refine wpOp_mono (fun a' w' h3 => ?_) h2
      have hcomm : (listed.setIfInBounds i true).setIfInBounds j true = (listed.setIfInBounds j true).setIfInBounds i true := (Array.setIfInBounds_comm _ _ hji).symm
      rw [hcomm] at h3
      obtain ⟨hd, S', hC', hm', hS', hG⟩ := h3
      exact ⟨S', hC', hm', hS', ih (listed.setIfInBounds j true) a' S' hC' (inv.set hj hjn hp.lt) hfree' (ready_mono hr (Ne.symm hji)) (hd.weak hm') hG⟩

/-- the walk's own form -/
def WpG (P : Program) (md : Region.Mode) (ops : Array Oper) (Q : Exit → Act → World → Prop) (n m : Nat) (L : Act → World → Prop) (f : Nat) (listed : Array Bool) (a : Act) (S : World → Prop) : Prop :=
  Clo S → Parts md ops n m → HInv md ops n m listed → wpG P md ops Q n m L f listed a S

variable {n m : Nat} {L : Act → World → Prop} {S : World → Prop} {f : Nat} {listed : Array Bool} {a : Act}

/-- take number i first: one value in every world -/
theorem WpG.take {i : Nat} {oi : Oper} {v : Value} (hi : ops[i]? = some oi)
    (hB : (decide (i < n) && Region.free md ops listed i && (Region.ready md ops listed).contains i) = true)
    (hQ : ∀ c a w, Q (.panic c) (a.put oi.dst v) w → Q (.panic c) a w)
    (hy : Det P ops S oi v a)
    (h : WpG P md ops Q n m L f (listed.setIfInBounds i true) (a.put oi.dst v) S) : WpG P md ops Q n m L (f + 1) listed a S := by
  simp only [Bool.and_eq_true, decide_eq_true_eq] at hB
  obtain ⟨⟨hin, hf⟩, hr⟩ := hB
  have hr' : i ∈ Region.ready md ops listed := by simpa using hr
  exact fun hC hp inv => wpG_first hp hi hin hQ f listed a S hC inv (Region.free_spec hi hf) hr' hy (h hC hp (inv.set hr' hin hp.lt))

/-- a thing that may be made anew by an operation: of a kind ι, its value, and what holds of it -/
def Fresh (P : Program) (ops : Array Oper) (S : World → Prop) {ι : Type} (F : ι → Value) (R : ι → World → Prop) (o : Oper) (a : Act) : Prop :=
  Region.wanted o (yielded ops a.tmps) = true ∧ ∀ w, S w → UponV P (fun v w' => ∃ x, v = F x ∧ R x w' ∧ Below w.heap.size w w') ((execOp a.eval o).run P w)

theorem Fresh.wpOp {i : Nat} {oi : Oper} (hi : ops[i]? = some oi) {ι : Type} {F : ι → Value} {R : ι → World → Prop} (hy : Fresh P ops S F R oi a) {K : Act → World → Prop} {w : World} (hw : S w)
    (h : ∀ x w', R x w' → Below w.heap.size w w' → K (a.put oi.dst (F x)) w') : wpOp P ops Q i K a w := by
  unfold Go.wpOp
  simp only [hi]
  simp only [hy.1, if_true]
  refine .inl ?_
  unfold Oper.wp
  refine (hy.2 w hw).upon ?_
  rintro u w' ⟨x, rfl, hR, hb⟩
  exact h x w' hR hb

/-- number i alone comes up, and makes something new -/
theorem WpG.one {i : Nat} {oi : Oper} (hi : ops[i]? = some oi) (hB : (decide (i < n) && decide (Region.ready md ops listed = [i])) = true)
    {ι : Type} (F : ι → Value) (R : ι → World → Prop) (hR : ∀ x, Clo (R x)) (hy : Fresh P ops S F R oi a)
    (h : ∀ x w0, S w0 → R x w0 → WpG P md ops Q n m L f (listed.setIfInBounds i true) (a.put oi.dst (F x)) (fun w => S w ∧ R x w)) : WpG P md ops Q n m L (f + 1) listed a S := by
  simp only [Bool.and_eq_true, decide_eq_true_eq] at hB
  obtain ⟨hin, hr⟩ := hB
  intro hC hp inv
  refine ⟨by rw [hr]; simp, fun j hj => ?_⟩
  have hj' : j = i := by rw [hr] at hj; simpa using hj
  subst hj'
  refine ⟨hin, fun w hS => hy.wpOp hi hS fun x w' hRx hb => ?_⟩
  exact ⟨_, hC.and (hR x), fun _ hw => hw.1, ⟨hC _ _ hS hb, hRx⟩, h x w' (hC _ _ hS hb) hRx (hC.and (hR x)) hp (inv.set hj hin hp.lt)⟩

/-- one of two comes up, and makes something new -/
theorem WpG.two {i k : Nat} {oi ok : Oper} (hi : ops[i]? = some oi) (hk : ops[k]? = some ok) (hB : (decide (i < n) && decide (k < n) && decide (Region.ready md ops listed = [i, k])) = true)
    {ι κ : Type} (F : ι → Value) (R : ι → World → Prop) (hR : ∀ x, Clo (R x)) (hy : Fresh P ops S F R oi a)
    (F' : κ → Value) (R' : κ → World → Prop) (hR' : ∀ x, Clo (R' x)) (hy' : Fresh P ops S F' R' ok a)
    (h : ∀ x w0, S w0 → R x w0 → WpG P md ops Q n m L f (listed.setIfInBounds i true) (a.put oi.dst (F x)) (fun w => S w ∧ R x w))
    (h' : ∀ x w0, S w0 → R' x w0 → WpG P md ops Q n m L f (listed.setIfInBounds k true) (a.put ok.dst (F' x)) (fun w => S w ∧ R' x w)) : WpG P md ops Q n m L (f + 1) listed a S := by
  simp only [Bool.and_eq_true, decide_eq_true_eq] at hB
  obtain ⟨⟨hin, hkn⟩, hr⟩ := hB
  intro hC hp inv
  refine ⟨by rw [hr]; simp, fun j hj => ?_⟩
  have hj' : j = i ∨ j = k := by rw [hr] at hj; simpa using hj
  rcases hj' with rfl | rfl
  · refine ⟨hin, fun w hS => hy.wpOp hi hS fun x w' hRx hb => ?_⟩
    exact ⟨_, hC.and (hR x), fun _ hw => hw.1, ⟨hC _ _ hS hb, hRx⟩, h x w' (hC _ _ hS hb) hRx (hC.and (hR x)) hp (inv.set hj hin hp.lt)⟩
  · refine ⟨hkn, fun w hS => hy'.wpOp hk hS fun x w' hRx hb => ?_⟩
    exact ⟨_, hC.and (hR' x), fun _ hw => hw.1, ⟨hC _ _ hS hb, hRx⟩, h' x w' (hC _ _ hS hb) hRx (hC.and (hR' x)) hp (inv.set hj hkn hp.lt)⟩

/-- all of the head has come up -/
theorem WpG.done (hB : Region.seqB md ops (m - n) n listed = true) (h : ∀ w, S w → L a w) : WpG P md ops Q n m L 0 listed a S := fun _ _ _ => ⟨hB, h⟩

/-- what is known, said otherwise -/
theorem WpG.weak {S' : World → Prop} (hm : ∀ w, S w → S' w) (hm' : ∀ w, S' w → S w) (h : WpG P md ops Q n m L f listed a S') : WpG P md ops Q n m L f listed a S := by
  have : S = S' := funext fun w => propext ⟨hm w, hm' w⟩
  rw [this]
  exact h

theorem any_G {l : List Oper} {w : World} (hB : partsB md l.toArray n m listed = true) (hC : Clo S) (hS : S w)
    (h : WpG P md l.toArray Q n m (wpList P l.toArray Q ((l.drop n).take (m - n))) f listed a S) : wpAny P md l.toArray Q (f + (m - n)) listed a w := by
  obtain ⟨hp, inv⟩ := parts_of hB
  refine wpAny_of_G (L := wpList P l.toArray Q ((l.drop n).take (m - n))) (fun listed' a' w' hq hl => ?_) f listed a S (h hC hp inv) w hS
  have hlen : ((l.drop n).take (m - n)).length = m - n := by
    have := hp.le
    simp at this ⊢
    omega
  have := any_of_tail (P := P) (md := md) (ops := l.toArray) (Q' := Q) ((l.drop n).take (m - n)) n listed' a' w' (fun j hj => ?_) (by rw [hlen]; exact hq) hl
  · rwa [hlen] at this
  · rw [hlen] at hj
    simp [hj]
end

section
variable {P : Program} {Q : Exit → Act → World → Prop}
theorem region_G {id n m f : Nat} {l : List Oper} {a : Act} {w : World} (hm : P.follows .mixedOrders = true) (hB : partsB .any l.toArray n m (Array.replicate l.length false) = true) (hf : f + (m - n) = l.length)
    (h : WpG P .any l.toArray Q n m (wpList P l.toArray Q ((l.drop n).take (m - n))) f (Array.replicate l.length false) a (Below w.heap.size w)) : (Code.region id l.toArray true).wp P Q a w := by
  refine wp_region_any hm ?_
  have := any_G (w := w.drew) hB (Clo.below w) ((Below.refl _ _).drew) h
  rw [hf] at this
  simpa using this

/-- a new variable -/
theorem Fresh.var {ops : Array Oper} {S : World → Prop} {o : Oper} {a : Act} {B : Nat} (cs : List Value) (t : TypeId) (hw : Region.wanted o (yielded ops a.tmps) = true) (hB : ∀ w, S w → B ≤ w.heap.size)
    (h : ∀ w, S w → (execOp a.eval o).run P w = .ok (.value (.pointer (some ⟨w.heap.size, 0, none⟩))) (w.alloc (.cells cs.toArray t))) {R : Nat → World → Prop} (hR : ∀ w, S w → R w.heap.size (w.alloc (.cells cs.toArray t))) :
    Fresh P ops S (fun b : Nat => .pointer (some ⟨b, 0, none⟩)) (fun b w => B ≤ b ∧ R b w) o a :=
  ⟨hw, fun w hS => by rw [h w hS]; exact ⟨w.heap.size, rfl, ⟨hB w hS, hR w hS⟩, (Below.refl _ _).alloc (Nat.le_refl _) _⟩⟩
/-- a new slice -/
theorem Fresh.slice {ops : Array Oper} {S : World → Prop} {o : Oper} {a : Act} {B : Nat} (k c : Nat) (cs : List Value) (t : TypeId) (hw : Region.wanted o (yielded ops a.tmps) = true) (hB : ∀ w, S w → B ≤ w.heap.size)
    (h : ∀ w, S w → (execOp a.eval o).run P w = .ok (.value (.slice (some ⟨w.heap.size, 0, none⟩) k c)) (w.alloc (.cells cs.toArray t))) {R : Nat → World → Prop} (hR : ∀ w, S w → R w.heap.size (w.alloc (.cells cs.toArray t))) :
    Fresh P ops S (fun b : Nat => .slice (some ⟨b, 0, none⟩) k c) (fun b w => B ≤ b ∧ R b w) o a :=
  ⟨hw, fun w hS => by rw [h w hS]; exact ⟨w.heap.size, rfl, ⟨hB w hS, hR w hS⟩, (Below.refl _ _).alloc (Nat.le_refl _) _⟩⟩
/-- a call whose result is new -/
theorem Fresh.call {ops : Array Oper} {S : World → Prop} {o : Oper} {a : Act} {f : FuncId} {args : Array Value} {ι : Type} {F : ι → Value} {R : ι → World → Prop} (hw : Region.wanted o (yielded ops a.tmps) = true)
    (hc : ∀ w, S w → Calls P f args w (fun e w' => ∃ x, e = .returned (F x) ∧ R x w' ∧ Below w.heap.size w w')) (h : ∀ w, S w → (execOp a.eval o).run P w = .ok (.enter f args) w) : Fresh P ops S F R o a :=
  ⟨hw, fun w hS => by rw [h w hS]; exact Calls.mono (hc w hS) fun e w' ⟨x, he, hr, hb⟩ => ⟨F x, he, x, rfl, hr, hb⟩⟩
end

end Go.Proofs.Ytiphahbeedeebaa

namespace Go.Proofs.Ytiphahbeedeebaa
open Go Go.RowKit

section
variable {P : Program} {ops : Array Oper} {Q : Exit → Act → World → Prop} {md : Region.Mode} {S : Array Bool → Act → World → Prop}

/-- either of two may come up -/
theorem WpH.two {n m : Nat} {L : Act → World → Prop} {i k : Nat} {f : Nat} {listed : Array Bool} {a : Act}
    (hB : (decide (i < n) && decide (k < n) && decide (Region.ready md ops listed = [i, k])) = true)
    (hi : ∀ w, S listed a w → wpOp P ops Q i (fun a' w' => S (listed.setIfInBounds i true) a' w' ∧ WpH P md ops Q n m S L f (listed.setIfInBounds i true) a') a w)
    (hk : ∀ w, S listed a w → wpOp P ops Q k (fun a' w' => S (listed.setIfInBounds k true) a' w' ∧ WpH P md ops Q n m S L f (listed.setIfInBounds k true) a') a w) : WpH P md ops Q n m S L (f + 1) listed a := by
  simp only [Bool.and_eq_true, decide_eq_true_eq] at hB
  obtain ⟨⟨hin, hkn⟩, hr⟩ := hB
  intro hp inv
  refine ⟨by rw [hr]; simp, fun j hj => ?_⟩
  have hj' : j = i ∨ j = k := by rw [hr] at hj; simpa using hj
  rcases hj' with rfl | rfl
  · exact ⟨hin, fun w hS => wpOp_mono (fun a' w' h' => ⟨h'.1, h'.2 hp (inv.set hj hin hp.lt)⟩) (hi w hS)⟩
  · exact ⟨hkn, fun w hS => wpOp_mono (fun a' w' h' => ⟨h'.1, h'.2 hp (inv.set hj hkn hp.lt)⟩) (hk w hS)⟩

/-- a new thing that nobody need know of later -/
theorem withNew_nd {W : World} {k : Nat} {t : Tmp} {R : Value → World → Prop} (hR : ∀ v w w', R v w → Below w.heap.size w w' → R v w') {l : Array Bool} {a : Act} {w w' : World} {i : Nat} {d : Option Tmp} {v : Value}
    (h : WithNew W k t R l a w) (hb : Below w.heap.size w w') (hik : (i == k) = false) (hd : (d == some t) = false) : WithNew W k t R (l.setIfInBounds i true) (a.put d v) w' := by
  rw [withNew_put hik hd]
  exact ⟨h.1.trans (hb.mono h.1.size), fun hk => hR _ _ _ (h.2 hk) hb⟩

/-- the new variable itself -/
theorem withNew_made {W : World} {k : Nat} {t : Tmp} {R : Value → World → Prop} {l : Array Bool} {a : Act} {w w' : World} {v : Value}
    (h : WithNew W k t R l a w) (hb : Below w.heap.size w w') (hlt : t < a.tmps.size) (hv : R v w') : WithNew W k t R (l.setIfInBounds k true) (a.put (some t) v) w' := by
  refine ⟨h.1.trans (hb.mono h.1.size), fun _ => ?_⟩
  have e : (a.put (some t) v).tmps.getD t undef = v := by simp [Act.put, hlt]
  rw [e]
  exact hv
end

end Go.Proofs.Ytiphahbeedeebaa

namespace Go.Proofs.Ytiphahbeedeebaa
open Go Go.RowKit

section
variable {P : Program} {ops : Array Oper} {Q : Exit → Act → World → Prop} {md : Region.Mode} {W : World} {n m f : Nat} {L : Act → World → Prop} {listed : Array Bool} {a : Act}

theorem WpH.takeD (i : Nat) (d : Option Tmp) {oi : Oper} {v : Value} (hi : ops[i]? = some oi) (hd : oi.dst = d)
    (hB : (decide (i < n) && Region.free md ops listed i && (Region.ready md ops listed).contains i) = true)
    (hQ : ∀ c a w, Q (.panic c) (a.put d v) w → Q (.panic c) a w)
    (hy : Det P ops (Below W.heap.size W) oi v a)
    (h : WpH P md ops Q n m (Flat (Below W.heap.size W)) L f (listed.setIfInBounds i true) (a.put d v)) : WpH P md ops Q n m (Flat (Below W.heap.size W)) L (f + 1) listed a := by
  subst hd
  exact WpH.takeB hi hB hQ hy h

theorem WpH.takeND {k : Nat} {t : Tmp} {R : Value → World → Prop} (hR : ∀ v w w', R v w → Below w.heap.size w w' → R v w') (i : Nat) (d : Option Tmp) {oi : Oper} {v : Value} (hi : ops[i]? = some oi) (hd : oi.dst = d)
    (hB : (decide (i < n) && Region.free md ops listed i && (Region.ready md ops listed).contains i) = true) (hik : (i == k) = false) (hdt : (d == some t) = false)
    (hQ : ∀ c a w, Q (.panic c) (a.put d v) w → Q (.panic c) a w)
    (hy : Det P ops (Below W.heap.size W) oi v a)
    (h : WpH P md ops Q n m (WithNew W k t R) L f (listed.setIfInBounds i true) (a.put d v)) : WpH P md ops Q n m (WithNew W k t R) L (f + 1) listed a := by
  subst hd
  exact WpH.takeN hR hi hB hik hdt hQ hy h

theorem wpOp_valueD (d : Option Tmp) {i : Nat} {o : Oper} {v : Value} {w w' : World} {K : Act → World → Prop} (hi : ops[i]? = some o) (hd : o.dst = d) (hw : Region.wanted o (yielded ops a.tmps) = true)
    (h : (execOp a.eval o).run P w = .ok (.value v) w') (hK : K (a.put d v) w') : wpOp P ops Q i K a w := by
  subst hd
  exact wpOp_value hi hw h hK

variable {S : World → Prop}
theorem WpG.takeD (i : Nat) (d : Option Tmp) {oi : Oper} {v : Value} (hi : ops[i]? = some oi) (hd : oi.dst = d)
    (hB : (decide (i < n) && Region.free md ops listed i && (Region.ready md ops listed).contains i) = true)
    (hQ : ∀ c a w, Q (.panic c) (a.put d v) w → Q (.panic c) a w)
    (hy : Det P ops S oi v a)
    (h : WpG P md ops Q n m L f (listed.setIfInBounds i true) (a.put d v) S) : WpG P md ops Q n m L (f + 1) listed a S := by
  subst hd
  exact WpG.take hi hB hQ hy h

theorem WpG.oneD (i : Nat) (d : Option Tmp) {oi : Oper} (hi : ops[i]? = some oi) (hd : oi.dst = d) (hB : (decide (i < n) && decide (Region.ready md ops listed = [i])) = true)
    {ι : Type} (F : ι → Value) (R : ι → World → Prop) (hR : ∀ x, Clo (R x)) (hy : Fresh P ops S F R oi a)
    (h : ∀ x w0, S w0 → R x w0 → WpG P md ops Q n m L f (listed.setIfInBounds i true) (a.put d (F x)) (fun w => S w ∧ R x w)) : WpG P md ops Q n m L (f + 1) listed a S := by
  subst hd
  exact WpG.one hi hB F R hR hy h

theorem WpG.twoD (i k : Nat) (d d' : Option Tmp) {oi ok : Oper} (hi : ops[i]? = some oi) (hd : oi.dst = d) (hk : ops[k]? = some ok) (hd' : ok.dst = d') (hB : (decide (i < n) && decide (k < n) && decide (Region.ready md ops listed = [i, k])) = true)
    {ι κ : Type} (F : ι → Value) (R : ι → World → Prop) (hR : ∀ x, Clo (R x)) (hy : Fresh P ops S F R oi a)
    (F' : κ → Value) (R' : κ → World → Prop) (hR' : ∀ x, Clo (R' x)) (hy' : Fresh P ops S F' R' ok a)
    (h : ∀ x w0, S w0 → R x w0 → WpG P md ops Q n m L f (listed.setIfInBounds i true) (a.put d (F x)) (fun w => S w ∧ R x w))
    (h' : ∀ x w0, S w0 → R' x w0 → WpG P md ops Q n m L f (listed.setIfInBounds k true) (a.put d' (F' x)) (fun w => S w ∧ R' x w)) : WpG P md ops Q n m L (f + 1) listed a S := by
  subst hd
  subst hd'
  exact WpG.two hi hk hB F R hR hy F' R' hR' hy' h h'

/-- number i alone comes up: a store (into what is new) -/
theorem WpG.oneSkip (i : Nat) (d : Option Tmp) {oi : Oper} (hi : ops[i]? = some oi) (hd : oi.dst = d) (hB : (decide (i < n) && decide (Region.ready md ops listed = [i])) = true)
    (R : World → Prop) (hR : Clo R) (hw : Region.wanted oi (yielded ops a.tmps) = true) (hop : ∀ w, S w → ∃ w', (execOp a.eval oi).run P w = .ok .skip w' ∧ S w' ∧ R w')
    (h : WpG P md ops Q n m L f (listed.setIfInBounds i true) (a.put d undef) (fun w => S w ∧ R w)) : WpG P md ops Q n m L (f + 1) listed a S := by
  subst hd
  simp only [Bool.and_eq_true, decide_eq_true_eq] at hB
  obtain ⟨hin, hr⟩ := hB
  intro hC hp inv
  refine ⟨by rw [hr]; simp, fun j hj => ?_⟩
  have hj' : j = i := by rw [hr] at hj; simpa using hj
  subst hj'
  refine ⟨hin, fun w hS => ?_⟩
  obtain ⟨w', hrun, hS', hRw⟩ := hop w hS
  unfold Go.wpOp
  simp only [hi, hw, if_true]
  refine .inl ?_
  unfold Oper.wp
  rw [hrun]
  exact ⟨_, hC.and hR, fun _ hw => hw.1, ⟨hS', hRw⟩, h (hC.and hR) hp (inv.set hj hin hp.lt)⟩
end

end Go.Proofs.Ytiphahbeedeebaa

namespace Go.Proofs.Ytiphahbeedeebaa
open Go.RowKit Fm
set_option linter.unusedVariables false
set_option maxRecDepth 100000

theorem add_val {f : Nat} (x y : Fin (Pm f)) : (((x + y).val : Nat) : Int) = if ((x.val : Nat) : Int) < ((Pm f : Nat) : Int) - ((y.val : Nat) : Int) then ((x.val : Nat) : Int) + ((y.val : Nat) : Int) else ((x.val : Nat) : Int) + ((y.val : Nat) : Int) - ((Pm f : Nat) : Int) := by
  rw [val_add]
  have hx := val_pos x
  have hy := val_pos y
  split
  · exact Int.emod_eq_of_lt (by omega) (by omega)
  · rw [← Int.sub_emod_right, Int.emod_eq_of_lt (by omega) (by omega)]

set_option maxHeartbeats 600000 in
theorem ref_AddL {f : Nat} (hf : IsF f) (a0 a1 b0 b1 : Int) (w : World) (h0 : 0 ≤ a0) (h1 : a0 ≤ 18446744073709551615) (k0 : 0 ≤ a1) (k1 : a1 ≤ 18446744073709551615)
    (g0 : 0 ≤ b0) (g1 : b0 ≤ 18446744073709551615) (j0 : 0 ≤ b1) (j1 : b1 ≤ 18446744073709551615) :
    Calls Try.prog 92 #[.int .i64 f, .agg #[.int .u64 a0, .int .u64 a1], .agg #[.int .u64 b0, .int .u64 b1]] w (RetK (kL f a0 a1 + kL f b0 b1) w) := by
  have hOa := fun wz => ref_OfL hf a0 a1 wz h0 h1 k0 k1
  have hOb := fun wz => ref_OfL hf b0 b1 wz g0 g1 j0 j1
  generalize kL f a0 a1 = x at *
  generalize kL f b0 b1 = y at *
  obtain ⟨p0, p1, hr⟩ := (FM.ofN hf).ref
  have hp : 0 ≤ p0 ∧ p0 ≤ 18446744073709551615 ∧ 0 ≤ p1 ∧ p1 ≤ 18446744073709551615 ∧ ((Pm f : Nat) : Int) = p0 + 18446744073709551616 * p1 := by
    rcases hr.or with ⟨_, rfl, rfl, h⟩ | ⟨_, rfl, rfl, h⟩ <;> omega
  obtain ⟨hp0, hp1, hp2, hp3, hpm'⟩ := hp
  have hx := val_pos x
  have hy := val_pos y
  have hxl := val_lohi x
  have hyl := val_lohi y
  have hPl := Pm_lt f
  have hxy := add_val x y
  obtain ⟨r0, r1, hrn, hr0, hr1, hr2, hr3⟩ := limbs2 (((Pm f : Nat) : Int) - ((y.val : Nat) : Int)) (by omega) (by omega)
  have HP : ∀ wz, Calls Try.prog 87 #[.int .i64 f] wz (fun e w' => e = .returned (.agg #[.int .u64 p0, .int .u64 p1]) ∧ Below wz.heap.size wz w') := fun wz => ref_P f _ p0 p1 wz hr
  have HT : ∀ wz, Calls Try.prog 88 #[.agg #[.int .u64 p0, .int .u64 p1], vK y] wz (fun e w' => e = .returned (.agg #[.int .u64 r0, .int .u64 r1]) ∧ Below wz.heap.size wz w') := fun wz =>
    (ref_take p0 p1 (lo y) (hi y) wz (by omega) (by omega) (lo_0 y) (lo_1 y) (by omega) (by omega) (hi_0 y) (hi_1 y)).mono fun e w' h => h.det (by rw [hyl, ← hpm', hrn, Int.emod_eq_of_lt (by omega) (by omega)]) hr0 hr1
  have HL : ∀ wz, Calls Try.prog 86 #[vK x, .agg #[.int .u64 r0, .int .u64 r1]] wz (fun e w' => e = .returned (.bool (decide (((x.val : Nat) : Int) < ((Pm f : Nat) : Int) - ((y.val : Nat) : Int)))) ∧ Below wz.heap.size wz w') := fun wz => by
    have h := ref_Less (lo x) (hi x) r0 r1 wz (lo_0 x) (lo_1 x) hr0 hr1
    rwa [hxl, hrn] at h
  have H1 := Lib.hid hOa
  have H2 := Lib.hid hOb
  have H3 := Lib.hid HP
  have H4 := Lib.hid HT
  have H5 := Lib.hid HL
  have H6 : Hid (((x.val : Nat) : Int) < ((Pm f : Nat) : Int) - ((y.val : Nat) : Int) → ∀ wz, Calls Try.prog 120 #[vK x, vK y] wz (RetK (x + y) wz)) := by
    intro hlt wz
    have h := ref_plus (lo x) (hi x) (lo y) (hi y) wz (lo_0 x) (lo_1 x) (lo_0 y) (lo_1 y) (hi_0 x) (hi_1 x) (hi_0 y) (hi_1 y) (by rw [hxl, hyl]; omega)
    rw [hxl, hyl] at h
    rw [if_pos hlt] at hxy
    exact h.mono fun e w' h => h.det (by rw [val_lohi, hxy]) (lo_0 _) (lo_1 _)
  have H7 : Hid (¬ ((x.val : Nat) : Int) < ((Pm f : Nat) : Int) - ((y.val : Nat) : Int) → ∀ wz, Calls Try.prog 88 #[vK x, .agg #[.int .u64 r0, .int .u64 r1]] wz (RetK (x + y) wz)) := by
    intro hlt wz
    have h := ref_take (lo x) (hi x) r0 r1 wz (lo_0 x) (lo_1 x) hr0 hr1 (hi_0 x) (hi_1 x) hr2 hr3
    rw [hxl, hrn] at h
    rw [if_neg hlt] at hxy
    exact h.mono fun e w' h => h.det (by rw [val_lohi, hxy, Int.emod_eq_of_lt (by omega) (by omega)]; omega) (lo_0 _) (lo_1 _)
  clear hOa hOb HP HT HL hxy hrn hyl hxl hpm' hx hy hPl
  go_enter Try.func92, Try.ntmps92
  go_wp2_with fail
  have q0 := ((V2.new w (.int .u64 a0) (.int .u64 a1) 41).alloc (.cells #[.int .u64 b0, .int .u64 b1] 41)).alloc (.cells #[.int .u64 0, .int .u64 0] 41)
  have t0 := (V2.new (w.alloc (.cells #[.int .u64 a0, .int .u64 a1] 41)) (.int .u64 b0) (.int .u64 b1) 41).alloc (.cells #[.int .u64 0, .int .u64 0] 41)
  have s0 := V2.new ((w.alloc (.cells #[.int .u64 a0, .int .u64 a1] 41)).alloc (.cells #[.int .u64 b0, .int .u64 b1] 41)) (.int .u64 0) (.int .u64 0) 41
  simp only [World.size_alloc] at t0 s0
  have hb00 : Below w.heap.size w (((w.alloc (.cells #[.int .u64 a0, .int .u64 a1] 41)).alloc (.cells #[.int .u64 b0, .int .u64 b1] 41)).alloc (.cells #[.int .u64 0, .int .u64 0] 41)) := by repeat (first | exact Below.refl _ _ | with_reducible assumption | (refine bl_alloc ?_ (Nat.le_refl _) _) | (refine bl_set ?_ (by dsimp only; omega) _) | (refine Below.drew ?_) | (refine bl_drewN ?_ _) | (refine bl_call ?_ (Nat.le_refl _) (by assumption)))
  have hsz : w.heap.size + 3 ≤ (((w.alloc (.cells #[.int .u64 a0, .int .u64 a1] 41)).alloc (.cells #[.int .u64 b0, .int .u64 b1] 41)).alloc (.cells #[.int .u64 0, .int .u64 0] 41)).heap.size := by simp only [World.size_alloc]; omega
  generalize ((w.alloc (.cells #[.int .u64 a0, .int .u64 a1] 41)).alloc (.cells #[.int .u64 b0, .int .u64 b1] 41)).alloc (.cells #[.int .u64 0, .int .u64 0] 41) = w1 at *
  have q01 := q0
  obtain ⟨c0, c1, c2, c3, c4⟩ := q01
  have t01 := t0
  obtain ⟨d0, d1, d2, d3, d4⟩ := t01
  refine region_B (n := 6) (m := 8) (f := 6) (by kernel_rfl) (by kernel_rfl) rfl ?_
  refine WpH.takeB (i := 0) (v := ?_) rfl (by kernel_rfl) (fun _ _ _ h => h) (.val rfl (fun wz hwz => ?_)) ?_
  rotate_left
  · go_simp; try (with_reducible rfl)
  (simp only [Act.put]); (try simp only [List.setIfInBounds_toArray]); (try simp only [List.set_cons_succ]); (try simp only [List.set_cons_zero])
  refine WpH.takeB (i := 1) (v := ?_) rfl (by kernel_rfl) (fun _ _ _ h => h) (.val rfl (fun wz hwz => ?_)) ?_
  rotate_left
  · (obtain ⟨hcz, hfz⟩ := bcell hwz; go_simp; try (with_reducible rfl))
  (simp only [Act.put]); (try simp only [List.setIfInBounds_toArray]); (try simp only [List.set_cons_succ]); (try simp only [List.set_cons_zero])
  refine WpH.takeB (i := 2) rfl (by kernel_rfl) (fun _ _ _ h => h) (.call rfl (fun wz hwz => H1.out wz) (fun wz hwz => ?_)) ?_
  · go_simp; try (with_reducible rfl)
  (simp only [Act.put]); (try simp only [List.setIfInBounds_toArray]); (try simp only [List.set_cons_succ]); (try simp only [List.set_cons_zero])
  refine WpH.takeB (i := 3) (v := ?_) rfl (by kernel_rfl) (fun _ _ _ h => h) (.val rfl (fun wz hwz => ?_)) ?_
  rotate_left
  · go_simp; try (with_reducible rfl)
  (simp only [Act.put]); (try simp only [List.setIfInBounds_toArray]); (try simp only [List.set_cons_succ]); (try simp only [List.set_cons_zero])
  refine WpH.takeB (i := 4) (v := ?_) rfl (by kernel_rfl) (fun _ _ _ h => h) (.val rfl (fun wz hwz => ?_)) ?_
  rotate_left
  · (obtain ⟨hcz, hfz⟩ := bcell hwz; go_simp; try (with_reducible rfl))
  (simp only [Act.put]); (try simp only [List.setIfInBounds_toArray]); (try simp only [List.set_cons_succ]); (try simp only [List.set_cons_zero])
  refine WpH.takeB (i := 5) rfl (by kernel_rfl) (fun _ _ _ h => h) (.call rfl (fun wz hwz => H2.out wz) (fun wz hwz => ?_)) ?_
  · go_simp; try (with_reducible rfl)
  (simp only [Act.put]); (try simp only [List.setIfInBounds_toArray]); (try simp only [List.set_cons_succ]); (try simp only [List.set_cons_zero])
  refine WpH.doneB (by kernel_rfl) (fun w2 hw2 => ?_)
  (try simp only [List.drop_succ_cons]); (try simp only [List.drop_zero]); (try simp only [Nat.reduceSub]); (try simp only [List.take_succ_cons]); (try simp only [List.take_zero])
  replace q0 := q0.call hw2
  replace t0 := t0.call hw2
  replace s0 := s0.call hw2
  replace hb00 := bl_call hb00 (Nat.le_refl _) hw2
  clear c0 c1 c2 c3 c4 d0 d1 d2 d3 d4 hsz hw2
  obtain ⟨c0, c1, c2, c3, c4⟩ := V2.mk q0.c0 q0.c1 q0.f0 q0.f1 q0.lt
  obtain ⟨d0, d1, d2, d3, d4⟩ := V2.mk t0.c0 t0.c1 t0.f0 t0.f1 t0.lt
  go_wp2_with fail
  clear c0 c1 c2 c3 c4 d0 d1 d2 d3 d4
  replace q0 : V2 ((w2.setCell ⟨w.heap.size, 0, none⟩ (.int .u64 (lo x))).setCell ⟨w.heap.size, 1, none⟩ (.int .u64 (hi x))) (w.heap.size) (.int .u64 (lo x)) (.int .u64 (hi x)) := V2.set q0 _ _
  replace t0 := V2.oth t0 (b := w.heap.size) (by omega) (.int .u64 (lo x)) (.int .u64 (hi x))
  replace s0 := V2.oth s0 (b := w.heap.size) (by omega) (.int .u64 (lo x)) (.int .u64 (hi x))
  replace hb00 := bl_st hb00 (b := w.heap.size) (by omega) (.int .u64 (lo x)) (.int .u64 (hi x))
  replace q0 := V2.oth q0 (b := w.heap.size+1) (by omega) (.int .u64 (lo y)) (.int .u64 (hi y))
  replace t0 : V2 ((((w2.setCell ⟨w.heap.size, 0, none⟩ (.int .u64 (lo x))).setCell ⟨w.heap.size, 1, none⟩ (.int .u64 (hi x))).setCell ⟨w.heap.size+1, 0, none⟩ (.int .u64 (lo y))).setCell ⟨w.heap.size+1, 1, none⟩ (.int .u64 (hi y))) (w.heap.size+1) (.int .u64 (lo y)) (.int .u64 (hi y)) := V2.set t0 _ _
  replace s0 := V2.oth s0 (b := w.heap.size+1) (by omega) (.int .u64 (lo y)) (.int .u64 (hi y))
  replace hb00 := bl_st hb00 (b := w.heap.size+1) (by omega) (.int .u64 (lo y)) (.int .u64 (hi y))
  generalize ((((w2.setCell ⟨w.heap.size, 0, none⟩ (.int .u64 (lo x))).setCell ⟨w.heap.size, 1, none⟩ (.int .u64 (hi x))).setCell ⟨w.heap.size+1, 0, none⟩ (.int .u64 (lo y))).setCell ⟨w.heap.size+1, 1, none⟩ (.int .u64 (hi y))) = w3 at q0 t0 s0 hb00 ⊢
  have q31 := q0
  obtain ⟨c0, c1, c2, c3, c4⟩ := q31
  have t31 := t0
  obtain ⟨d0, d1, d2, d3, d4⟩ := t31
  have e4 := s0.lt
  have hNew := newE_stable (w.heap.size+3)
  refine region_N (n := 5) (m := 6) (f := 5) 4 7 (NewE (w.heap.size+3)) (by kernel_rfl) (by kernel_rfl) rfl ?_
  refine WpH.takeN hNew (i := 0) (v := ?_) rfl (by kernel_rfl) rfl rfl (fun _ _ _ h => h) (.val rfl (fun wz hwz => ?_)) ?_
  rotate_left
  · go_simp; try (with_reducible rfl)
  (simp only [Act.put]); (try simp only [List.setIfInBounds_toArray]); (try simp only [List.set_cons_succ]); (try simp only [List.set_cons_zero])
  refine WpH.takeN hNew (i := 1) rfl (by kernel_rfl) rfl rfl (fun _ _ _ h => h) (.call rfl (fun wz hwz => H3.out wz) (fun wz hwz => ?_)) ?_
  · go_simp; try (with_reducible rfl)
  (simp only [Act.put]); (try simp only [List.setIfInBounds_toArray]); (try simp only [List.set_cons_succ]); (try simp only [List.set_cons_zero])
  refine WpH.takeN hNew (i := 2) (v := ?_) rfl (by kernel_rfl) rfl rfl (fun _ _ _ h => h) (.val rfl (fun wz hwz => ?_)) ?_
  rotate_left
  · (obtain ⟨hcz, hfz⟩ := bcell hwz; go_simp; try (with_reducible rfl))
  (simp only [Act.put]); (try simp only [List.setIfInBounds_toArray]); (try simp only [List.set_cons_succ]); (try simp only [List.set_cons_zero])
  refine WpH.takeN hNew (i := 3) rfl (by kernel_rfl) rfl rfl (fun _ _ _ h => h) (.call rfl (fun wz hwz => H4.out wz) (fun wz hwz => ?_)) ?_
  · go_simp; try (with_reducible rfl)
  (simp only [Act.put]); (try simp only [List.setIfInBounds_toArray]); (try simp only [List.set_cons_succ]); (try simp only [List.set_cons_zero])
  refine WpH.one (i := 4) (by kernel_rfl) (fun w2 hw2 => ?_)
  refine wpOp_value rfl rfl (by go_simp; first | rfl | exact ⟨rfl, rfl⟩) ⟨⟨hw2.1.trans (((Below.refl _ _).alloc (Nat.le_refl _) _).mono hw2.1.size), fun _ => ⟨_, rfl, (by have hsz2 := hw2.1.size; (try simp only [World.size_alloc] at hsz2); omega), V2.new _ _ _ _⟩⟩, ?_⟩
  (simp only [Act.put]); (try simp only [List.setIfInBounds_toArray]); (try simp only [List.set_cons_succ]); (try simp only [List.set_cons_zero])
  refine WpH.done (by kernel_rfl) (fun w4 hw4n => ?_)
  obtain ⟨hw4, hnw4⟩ := hw4n
  obtain ⟨b, hbew4, hBb, hVb⟩ := hnw4 rfl
  simp at hbew4
  rw [hbew4]
  clear hNew hnw4 hw2 hbew4 w2
  (try simp only [List.drop_succ_cons]); (try simp only [List.drop_zero]); (try simp only [Nat.reduceSub]); (try simp only [List.take_succ_cons]); (try simp only [List.take_zero])
  replace q0 := q0.call hw4
  replace t0 := t0.call hw4
  replace s0 := s0.call hw4
  replace hb00 := bl_call hb00 (Nat.le_refl _) hw4
  clear c0 c1 c2 c3 c4 d0 d1 d2 d3 d4 hw4 e4
  have v01 := hVb
  obtain ⟨v0, v1, v2, v3, v4⟩ := v01
  go_upto_region 3 with fail
  clear v0 v1 v2 v3 v4
  replace hVb : V2 ((w4.setCell ⟨b, 0, none⟩ (.int .u64 r0)).setCell ⟨b, 1, none⟩ (.int .u64 r1)) (b) (.int .u64 r0) (.int .u64 r1) := V2.set hVb _ _
  replace q0 := V2.oth q0 (b := b) (by omega) (.int .u64 r0) (.int .u64 r1)
  replace t0 := V2.oth t0 (b := b) (by omega) (.int .u64 r0) (.int .u64 r1)
  replace s0 := V2.oth s0 (b := b) (by omega) (.int .u64 r0) (.int .u64 r1)
  replace hb00 := bl_st hb00 (b := b) (by omega) (.int .u64 r0) (.int .u64 r1)
  generalize ((w4.setCell ⟨b, 0, none⟩ (.int .u64 r0)).setCell ⟨b, 1, none⟩ (.int .u64 r1)) = w5 at hVb q0 t0 s0 hb00 ⊢
  obtain ⟨v0, v1, v2, v3, v4⟩ := hVb
  obtain ⟨c0, c1, c2, c3, c4⟩ := q0
  obtain ⟨d0, d1, d2, d3, d4⟩ := t0
  by_cases hlt : ((x.val : Nat) : Int) < ((Pm f : Nat) : Int) - ((y.val : Nat) : Int)
  · have hd : decide (((x.val : Nat) : Int) < ((Pm f : Nat) : Int) - ((y.val : Nat) : Int)) = true := decide_eq_true hlt
    go_wp2_with (first
      | (go_at_call 86; refine (H5.out _).mono ?_; rintro e w5 ⟨rfl, hb5⟩; obtain ⟨c0, c1, c2, c3, c4⟩ := V2.call ⟨c0, c1, c2, c3, c4⟩ hb5; obtain ⟨d0, d1, d2, d3, d4⟩ := V2.call ⟨d0, d1, d2, d3, d4⟩ hb5; have s5 := s0.call hb5)
      | (go_at_call 120; refine (H6.out hlt _).mono ?_; rintro e w6 ⟨rfl, hb6⟩; obtain ⟨e0, e1, e2, e3, e4⟩ := s5.call hb6))
    refine bodyPost_ret (results_v2 (b := w.heap.size + 1 + 1) (u := .int .u64 (lo (x + y))) (v := .int .u64 (hi (x + y))) ?_ rfl rfl) rfl ⟨rfl, by repeat (first | exact Below.refl _ _ | with_reducible assumption | (refine bl_alloc ?_ (Nat.le_refl _) _) | (refine bl_set ?_ (by dsimp only; omega) _) | (refine Below.drew ?_) | (refine bl_drewN ?_ _) | (refine bl_call ?_ (Nat.le_refl _) (by assumption)))⟩
    exact V2.set ⟨e0, e1, e2, e3, e4⟩ _ _
  · have hd : decide (((x.val : Nat) : Int) < ((Pm f : Nat) : Int) - ((y.val : Nat) : Int)) = false := decide_eq_false hlt
    go_wp2_with (first
      | (go_at_call 86; refine (H5.out _).mono ?_; rintro e w5 ⟨rfl, hb5⟩; obtain ⟨c0, c1, c2, c3, c4⟩ := V2.call ⟨c0, c1, c2, c3, c4⟩ hb5; obtain ⟨v0, v1, v2, v3, v4⟩ := V2.call ⟨v0, v1, v2, v3, v4⟩ hb5; have s5 := s0.call hb5)
      | (go_at_call 88; refine (H7.out (by omega) _).mono ?_; rintro e w6 ⟨rfl, hb6⟩; obtain ⟨e0, e1, e2, e3, e4⟩ := s5.call hb6))
    refine bodyPost_ret (results_v2 (b := w.heap.size + 1 + 1) (u := .int .u64 (lo (x + y))) (v := .int .u64 (hi (x + y))) ?_ rfl rfl) rfl ⟨rfl, by repeat (first | exact Below.refl _ _ | with_reducible assumption | (refine bl_alloc ?_ (Nat.le_refl _) _) | (refine bl_set ?_ (by dsimp only; omega) _) | (refine Below.drew ?_) | (refine bl_drewN ?_ _) | (refine bl_call ?_ (Nat.le_refl _) (by assumption)))⟩
    exact V2.set ⟨e0, e1, e2, e3, e4⟩ _ _

end Go.Proofs.Ytiphahbeedeebaa

namespace Go.Proofs.Ytiphahbeedeebaa
open Go.RowKit Fm
set_option linter.unusedVariables false
set_option maxRecDepth 100000

theorem lohi_zero {f : Nat} (x : Fin (Pm f)) : (lo x == 0 && hi x == 0) = decide (x = 0) := by
  by_cases h : x = 0
  · subst h
    rw [lo_zero, hi_zero]
    simp
  · rw [decide_eq_false h, Bool.and_eq_false_iff, beq_eq_false_iff_ne, beq_eq_false_iff_ne]
    by_cases h0 : lo x = 0
    · right
      intro h1
      exact h (lohi_inj (by rw [h0, lo_zero]) (by rw [h1, hi_zero]))
    · exact .inl h0

set_option maxHeartbeats 1000000 in
theorem ref_NegL {f : Nat} (hf : IsF f) (a0 a1 : Int) (w : World) (h0 : 0 ≤ a0) (h1 : a0 ≤ 18446744073709551615) (k0 : 0 ≤ a1) (k1 : a1 ≤ 18446744073709551615) :
    Calls Try.prog 131 #[.int .i64 f, .agg #[.int .u64 a0, .int .u64 a1]] w (RetK (- kL f a0 a1) w) := by
  have heq := eql_elem
  have hOa := fun wz => ref_OfL hf a0 a1 wz h0 h1 k0 k1
  generalize kL f a0 a1 = x at *
  obtain ⟨p0, p1, hr⟩ := (FM.ofN hf).ref
  have hp : 0 ≤ p0 ∧ p0 ≤ 18446744073709551615 ∧ 0 ≤ p1 ∧ p1 ≤ 18446744073709551615 ∧ ((Pm f : Nat) : Int) = p0 + 18446744073709551616 * p1 := by
    rcases hr.or with ⟨_, rfl, rfl, h⟩ | ⟨_, rfl, rfl, h⟩ <;> omega
  obtain ⟨hp0, hp1, hp2, hp3, hpm'⟩ := hp
  have HP : ∀ wz, Calls Try.prog 87 #[.int .i64 f] wz (fun e w' => e = .returned (.agg #[.int .u64 p0, .int .u64 p1]) ∧ Below wz.heap.size wz w') := fun wz => ref_P f _ p0 p1 wz hr
  have H1 := Lib.hid hOa
  have H3 := Lib.hid HP
  have HPM := Lib.hid hpm'
  clear hOa HP hpm'
  by_cases hx : x = 0
  · subst hx
    rw [show -(0 : Fin (Pm f)) = 0 by grind]
    have hz0 : lo (0 : Fin (Pm f)) = 0 := lo_zero
    have hz1 : hi (0 : Fin (Pm f)) = 0 := hi_zero
    go_enter Try.func131, Try.ntmps131
    go_upto_region 1 with fail
    have q0 := (V2.new w (.int .u64 a0) (.int .u64 a1) 41).alloc (.cells #[(.int .u64 0), (.int .u64 0)] 41)
    have s0 := V2.new (w.alloc (.cells #[(.int .u64 a0), (.int .u64 a1)] 41)) (.int .u64 0) (.int .u64 0) 41
    simp only [World.size_alloc] at s0
    have hb00 : Below w.heap.size w ((w.alloc (.cells #[(.int .u64 a0), (.int .u64 a1)] 41)).alloc (.cells #[(.int .u64 0), (.int .u64 0)] 41)) := by repeat (first | exact Below.refl _ _ | with_reducible assumption | (refine bl_alloc ?_ (Nat.le_refl _) _))
    have hsz : w.heap.size + 2 ≤ ((w.alloc (.cells #[(.int .u64 a0), (.int .u64 a1)] 41)).alloc (.cells #[(.int .u64 0), (.int .u64 0)] 41)).heap.size := by simp only [World.size_alloc]; omega
    generalize ((w.alloc (.cells #[(.int .u64 a0), (.int .u64 a1)] 41)).alloc (.cells #[(.int .u64 0), (.int .u64 0)] 41)) = w1 at q0 s0 hb00 hsz ⊢
    obtain ⟨c0, c1, c2, c3, c4⟩ := q0
    go_wp2_with (go_at_call 29; refine (H1.out _).mono ?_; rintro e w5 ⟨rfl, hb5⟩; obtain ⟨c0, c1, c2, c3, c4⟩ := V2.call ⟨c0, c1, c2, c3, c4⟩ hb5; obtain ⟨e0, e1, e2, e3, e4⟩ := s0.call hb5)
    refine bodyPost_ret (results_v2 (b := w.heap.size + 1) (u := .int .u64 0) (v := .int .u64 0) ?_ rfl rfl) rfl ⟨by rw [vK_zero], by repeat (first | exact Below.refl _ _ | with_reducible assumption | (refine bl_alloc ?_ (Nat.le_refl _) _) | (refine bl_set ?_ (by dsimp only; omega) _) | (refine Below.drew ?_) | (refine bl_drewN ?_ _) | (refine bl_call ?_ (Nat.le_refl _) (by assumption)))⟩
    exact V2.set (V2.oth ⟨e0, e1, e2, e3, e4⟩ (by omega) _ _) _ _
  · have hd : (lo x == 0 && hi x == 0) = false := by rw [lohi_zero, decide_eq_false hx]
    have HT : ∀ wz, Calls Try.prog 88 #[.agg #[.int .u64 p0, .int .u64 p1], vK x] wz (RetK (-x) wz) := fun wz =>
      (ref_take p0 p1 (lo x) (hi x) wz (by omega) (by omega) (lo_0 x) (lo_1 x) (by omega) (by omega) (hi_0 x) (hi_1 x)).mono fun e w' h => h.det (by
        have hv := val_pos x
        have hv2 := val_pos (-x)
        have hPl := Pm_lt f
        have hn := val_neg x hx
        rw [val_lohi, val_lohi, ← HPM.out, ← hn, Int.emod_eq_of_lt (by omega) (by omega)]) (lo_0 _) (lo_1 _)
    have H4 := Lib.hid HT
    clear HT
    go_enter Try.func131, Try.ntmps131
    go_upto_region 1 with fail
    have q0 := (V2.new w (.int .u64 a0) (.int .u64 a1) 41).alloc (.cells #[(.int .u64 0), (.int .u64 0)] 41)
    have s0 := V2.new (w.alloc (.cells #[(.int .u64 a0), (.int .u64 a1)] 41)) (.int .u64 0) (.int .u64 0) 41
    simp only [World.size_alloc] at s0
    have hb00 : Below w.heap.size w ((w.alloc (.cells #[(.int .u64 a0), (.int .u64 a1)] 41)).alloc (.cells #[(.int .u64 0), (.int .u64 0)] 41)) := by repeat (first | exact Below.refl _ _ | with_reducible assumption | (refine bl_alloc ?_ (Nat.le_refl _) _))
    have hsz : w.heap.size + 2 ≤ ((w.alloc (.cells #[(.int .u64 a0), (.int .u64 a1)] 41)).alloc (.cells #[(.int .u64 0), (.int .u64 0)] 41)).heap.size := by simp only [World.size_alloc]; omega
    generalize ((w.alloc (.cells #[(.int .u64 a0), (.int .u64 a1)] 41)).alloc (.cells #[(.int .u64 0), (.int .u64 0)] 41)) = w1 at q0 s0 hb00 hsz ⊢
    obtain ⟨c0, c1, c2, c3, c4⟩ := q0
    go_upto_region 2 with (go_at_call 29; refine (H1.out _).mono ?_; rintro e w5 ⟨rfl, hb5⟩; obtain ⟨c0, c1, c2, c3, c4⟩ := V2.call ⟨c0, c1, c2, c3, c4⟩ hb5; have s5 := s0.call hb5; have hb6 := bl_call hb00 (Nat.le_refl _) hb5)
    have q5 : V2 w5 w.heap.size (.int .u64 a0) (.int .u64 a1) := ⟨c0, c1, c2, c3, c4⟩
    clear c0 c1 c2 c3 c4 hb5
    replace q5 : V2 ((w5.setCell ⟨w.heap.size, 0, none⟩ (.int .u64 (lo x))).setCell ⟨w.heap.size, 1, none⟩ (.int .u64 (hi x))) (w.heap.size) (.int .u64 (lo x)) (.int .u64 (hi x)) := V2.set q5 _ _
    replace s5 := V2.oth s5 (b := w.heap.size) (by omega) (.int .u64 (lo x)) (.int .u64 (hi x))
    replace hb6 := bl_st hb6 (b := w.heap.size) (by omega) (.int .u64 (lo x)) (.int .u64 (hi x))
    generalize ((w5.setCell ⟨w.heap.size, 0, none⟩ (.int .u64 (lo x))).setCell ⟨w.heap.size, 1, none⟩ (.int .u64 (hi x))) = w6 at q5 s5 hb6 ⊢
    have q6 := q5
    obtain ⟨c0, c1, c2, c3, c4⟩ := q6
    have hlt := s5.lt
    go_wp2_with fail
    refine region_B (n := 4) (m := 5) (f := 4) (by kernel_rfl) (by kernel_rfl) rfl ?_
    refine WpH.takeB (i := 0) (v := ?_) rfl (by kernel_rfl) (fun _ _ _ h => h) (.val rfl (fun wz hwz => ?_)) ?_
    rotate_left
    · go_simp; try (with_reducible rfl)
    (simp only [Act.put]); (try simp only [List.setIfInBounds_toArray]); (try simp only [List.set_cons_succ]); (try simp only [List.set_cons_zero])
    refine WpH.takeB (i := 1) rfl (by kernel_rfl) (fun _ _ _ h => h) (.call rfl (fun wz hwz => H3.out wz) (fun wz hwz => ?_)) ?_
    · go_simp; try (with_reducible rfl)
    (simp only [Act.put]); (try simp only [List.setIfInBounds_toArray]); (try simp only [List.set_cons_succ]); (try simp only [List.set_cons_zero])
    refine WpH.takeB (i := 2) (v := ?_) rfl (by kernel_rfl) (fun _ _ _ h => h) (.val rfl (fun wz hwz => ?_)) ?_
    rotate_left
    · (obtain ⟨hcz, hfz⟩ := bcell hwz; go_simp; try (with_reducible rfl))
    (simp only [Act.put]); (try simp only [List.setIfInBounds_toArray]); (try simp only [List.set_cons_succ]); (try simp only [List.set_cons_zero])
    refine WpH.takeB (i := 3) rfl (by kernel_rfl) (fun _ _ _ h => h) (.call rfl (fun wz hwz => H4.out wz) (fun wz hwz => ?_)) ?_
    · go_simp; try (with_reducible rfl)
    (simp only [Act.put]); (try simp only [List.setIfInBounds_toArray]); (try simp only [List.set_cons_succ]); (try simp only [List.set_cons_zero])
    refine WpH.doneB (by kernel_rfl) (fun w7 hw7 => ?_)
    (try simp only [List.drop_succ_cons]); (try simp only [List.drop_zero]); (try simp only [Nat.reduceSub]); (try simp only [List.take_succ_cons]); (try simp only [List.take_zero])
    obtain ⟨e0, e1, e2, e3, e4⟩ := s5.call hw7
    go_wp2_with fail
    refine bodyPost_ret (results_v2 (b := w.heap.size + 1) (u := .int .u64 (lo (-x))) (v := .int .u64 (hi (-x))) ?_ rfl rfl) rfl ⟨rfl, by repeat (first | exact Below.refl _ _ | with_reducible assumption | (refine bl_alloc ?_ (Nat.le_refl _) _) | (refine bl_set ?_ (by dsimp only; omega) _) | (refine Below.drew ?_) | (refine bl_drewN ?_ _) | (refine bl_call ?_ (Nat.le_refl _) (by assumption)))⟩
    exact V2.set ⟨e0, e1, e2, e3, e4⟩ _ _

set_option maxHeartbeats 1000000 in
theorem ref_SubL {f : Nat} (hf : IsF f) (a0 a1 b0 b1 : Int) (w : World) (h0 : 0 ≤ a0) (h1 : a0 ≤ 18446744073709551615) (k0 : 0 ≤ a1) (k1 : a1 ≤ 18446744073709551615)
    (g0 : 0 ≤ b0) (g1 : b0 ≤ 18446744073709551615) (j0 : 0 ≤ b1) (j1 : b1 ≤ 18446744073709551615) :
    Calls Try.prog 113 #[.int .i64 f, .agg #[.int .u64 a0, .int .u64 a1], .agg #[.int .u64 b0, .int .u64 b1]] w (RetK (kL f a0 a1 - kL f b0 b1) w) := by
  have hN := fun wz => ref_NegL hf b0 b1 wz g0 g1 j0 j1
  have hA := fun wz => ref_AddL hf a0 a1 (lo (- kL f b0 b1)) (hi (- kL f b0 b1)) wz h0 h1 k0 k1 (lo_0 _) (lo_1 _) (hi_0 _) (hi_1 _)
  rw [kL_lohi] at hA
  rw [show kL f a0 a1 - kL f b0 b1 = kL f a0 a1 + - kL f b0 b1 by grind]
  generalize - kL f b0 b1 = y at *
  generalize kL f a0 a1 + y = z at *
  have H1 := Lib.hid hN
  have H2 := Lib.hid hA
  clear hN hA
  go_enter Try.func113, Try.ntmps113
  go_upto_region 1 with fail
  have q0 := ((V2.new w (.int .u64 a0) (.int .u64 a1) 41).alloc (.cells #[(.int .u64 b0), (.int .u64 b1)] 41)).alloc (.cells #[(.int .u64 0), (.int .u64 0)] 41)
  have t0 := (V2.new (w.alloc (.cells #[(.int .u64 a0), (.int .u64 a1)] 41)) (.int .u64 b0) (.int .u64 b1) 41).alloc (.cells #[(.int .u64 0), (.int .u64 0)] 41)
  have s0 := V2.new ((w.alloc (.cells #[(.int .u64 a0), (.int .u64 a1)] 41)).alloc (.cells #[(.int .u64 b0), (.int .u64 b1)] 41)) (.int .u64 0) (.int .u64 0) 41
  simp only [World.size_alloc] at t0 s0
  have hb00 : Below w.heap.size w (((w.alloc (.cells #[(.int .u64 a0), (.int .u64 a1)] 41)).alloc (.cells #[(.int .u64 b0), (.int .u64 b1)] 41)).alloc (.cells #[(.int .u64 0), (.int .u64 0)] 41)) := by repeat (first | exact Below.refl _ _ | with_reducible assumption | (refine bl_alloc ?_ (Nat.le_refl _) _))
  have hsz : w.heap.size + 3 ≤ (((w.alloc (.cells #[(.int .u64 a0), (.int .u64 a1)] 41)).alloc (.cells #[(.int .u64 b0), (.int .u64 b1)] 41)).alloc (.cells #[(.int .u64 0), (.int .u64 0)] 41)).heap.size := by simp only [World.size_alloc]; omega
  generalize (((w.alloc (.cells #[(.int .u64 a0), (.int .u64 a1)] 41)).alloc (.cells #[(.int .u64 b0), (.int .u64 b1)] 41)).alloc (.cells #[(.int .u64 0), (.int .u64 0)] 41)) = w1 at q0 t0 s0 hb00 hsz ⊢
  obtain ⟨c0, c1, c2, c3, c4⟩ := q0
  obtain ⟨d0, d1, d2, d3, d4⟩ := t0
  refine region_B (n := 6) (m := 7) (f := 6) (by kernel_rfl) (by kernel_rfl) rfl ?_
  refine WpH.takeB (i := 0) (v := ?_) rfl (by kernel_rfl) (fun _ _ _ h => h) (.val rfl (fun wz hwz => ?_)) ?_
  rotate_left
  · go_simp; try (with_reducible rfl)
  (simp only [Act.put]); (try simp only [List.setIfInBounds_toArray]); (try simp only [List.set_cons_succ]); (try simp only [List.set_cons_zero])
  refine WpH.takeB (i := 1) (v := ?_) rfl (by kernel_rfl) (fun _ _ _ h => h) (.val rfl (fun wz hwz => ?_)) ?_
  rotate_left
  · (obtain ⟨hcz, hfz⟩ := bcell hwz; go_simp; try (with_reducible rfl))
  (simp only [Act.put]); (try simp only [List.setIfInBounds_toArray]); (try simp only [List.set_cons_succ]); (try simp only [List.set_cons_zero])
  refine WpH.takeB (i := 2) (v := ?_) rfl (by kernel_rfl) (fun _ _ _ h => h) (.val rfl (fun wz hwz => ?_)) ?_
  rotate_left
  · go_simp; try (with_reducible rfl)
  (simp only [Act.put]); (try simp only [List.setIfInBounds_toArray]); (try simp only [List.set_cons_succ]); (try simp only [List.set_cons_zero])
  refine WpH.takeB (i := 3) (v := ?_) rfl (by kernel_rfl) (fun _ _ _ h => h) (.val rfl (fun wz hwz => ?_)) ?_
  rotate_left
  · (obtain ⟨hcz, hfz⟩ := bcell hwz; go_simp; try (with_reducible rfl))
  (simp only [Act.put]); (try simp only [List.setIfInBounds_toArray]); (try simp only [List.set_cons_succ]); (try simp only [List.set_cons_zero])
  refine WpH.takeB (i := 4) rfl (by kernel_rfl) (fun _ _ _ h => h) (.call rfl (fun wz hwz => H1.out wz) (fun wz hwz => ?_)) ?_
  · go_simp; try (with_reducible rfl)
  (simp only [Act.put]); (try simp only [List.setIfInBounds_toArray]); (try simp only [List.set_cons_succ]); (try simp only [List.set_cons_zero])
  refine WpH.takeB (i := 5) rfl (by kernel_rfl) (fun _ _ _ h => h) (.call rfl (fun wz hwz => H2.out wz) (fun wz hwz => ?_)) ?_
  · go_simp; try (with_reducible rfl)
  (simp only [Act.put]); (try simp only [List.setIfInBounds_toArray]); (try simp only [List.set_cons_succ]); (try simp only [List.set_cons_zero])
  refine WpH.doneB (by kernel_rfl) (fun w7 hw7 => ?_)
  (try simp only [List.drop_succ_cons]); (try simp only [List.drop_zero]); (try simp only [Nat.reduceSub]); (try simp only [List.take_succ_cons]); (try simp only [List.take_zero])
  obtain ⟨e0, e1, e2, e3, e4⟩ := s0.call hw7
  go_wp2_with fail
  refine bodyPost_ret (results_v2 (b := w.heap.size + 1 + 1) (u := .int .u64 (lo z)) (v := .int .u64 (hi z)) ?_ rfl rfl) rfl ⟨rfl, by repeat (first | exact Below.refl _ _ | with_reducible assumption | (refine bl_alloc ?_ (Nat.le_refl _) _) | (refine bl_set ?_ (by dsimp only; omega) _) | (refine Below.drew ?_) | (refine bl_drewN ?_ _) | (refine bl_call ?_ (Nat.le_refl _) (by assumption)))⟩
  exact V2.set ⟨e0, e1, e2, e3, e4⟩ _ _

section
variable {f : Nat} (hf : IsF f)
include hf
theorem ref_AddK (x y : Fin (Pm f)) (w : World) : Calls Try.prog 92 #[.int .i64 f, vK x, vK y] w (RetK (x + y) w) := by
  have h := ref_AddL hf (lo x) (hi x) (lo y) (hi y) w (lo_0 x) (lo_1 x) (hi_0 x) (hi_1 x) (lo_0 y) (lo_1 y) (hi_0 y) (hi_1 y)
  rwa [kL_lohi, kL_lohi] at h
theorem ref_SubK (x y : Fin (Pm f)) (w : World) : Calls Try.prog 113 #[.int .i64 f, vK x, vK y] w (RetK (x - y) w) := by
  have h := ref_SubL hf (lo x) (hi x) (lo y) (hi y) w (lo_0 x) (lo_1 x) (hi_0 x) (hi_1 x) (lo_0 y) (lo_1 y) (hi_0 y) (hi_1 y)
  rwa [kL_lohi, kL_lohi] at h
theorem ref_NegK (x : Fin (Pm f)) (w : World) : Calls Try.prog 131 #[.int .i64 f, vK x] w (RetK (-x) w) := by
  have h := ref_NegL hf (lo x) (hi x) w (lo_0 x) (lo_1 x) (hi_0 x) (hi_1 x)
  rwa [kL_lohi] at h
end

end Go.Proofs.Ytiphahbeedeebaa

namespace Go.Proofs.Ytiphahbeedeebaa
open Go.RowKit Fm
set_option linter.unusedVariables false
set_option maxRecDepth 100000

/-- a bit of a number -/
def bitN (n : Nat) (i : Nat) : Bool := n / 2 ^ i % 2 == 1

set_option maxHeartbeats 1000000 in
theorem ref_bit {f : Nat} (x : Fin (Pm f)) (i : Nat) (hi128 : i < 128) (w : World) :
    Calls Try.prog 121 #[vK x, .int .i64 i] w fun e w' => e = .returned (.bool (bitN x.val i)) ∧ Below w.heap.size w w' := by
  obtain ⟨n, c, hn, hv, hq, hr⟩ : ∃ (n : Nat) (c : Nat), n ≤ 18446744073709551615 ∧ (if i < 64 then lo x else hi x) = (n : Int) ∧ c = i % 64 ∧ bitN x.val i = bitN n c := by
    have hl := val_lohi x
    have h0 := lo_0 x
    have h1 := lo_1 x
    have h2 := hi_0 x
    have h3 := hi_1 x
    by_cases h : i < 64
    · refine ⟨(lo x).toNat, i % 64, by omega, by rw [if_pos h]; omega, rfl, ?_⟩
      unfold bitN
      rw [Nat.mod_eq_of_lt h]
      have hx : x.val = (lo x).toNat + 2 ^ 64 * (hi x).toNat := by omega
      rw [hx, show 2 ^ 64 * (hi x).toNat = 2 ^ i * (2 * (2 ^ (63 - i) * (hi x).toNat)) by
        rw [← Nat.mul_assoc 2, ← Nat.pow_succ', ← Nat.mul_assoc, ← Nat.pow_add]
        congr 2
        omega, Nat.add_mul_div_left _ _ (Nat.two_pow_pos i), Nat.add_mul_mod_self_left]
    · refine ⟨(hi x).toNat, i % 64, by omega, by rw [if_neg h]; omega, rfl, ?_⟩
      unfold bitN
      have hx : x.val / 2 ^ 64 = (hi x).toNat := by omega
      rw [← hx, Nat.div_div_eq_div_mul, ← Nat.pow_add, show 64 + i % 64 = i by omega]
  rw [hr]
  have HQ := Lib.hid hq
  clear hq hr
  have hc : c < 64 := by have := HQ.out; omega
  have hir : ((i : Int) % 64) = (c : Int) := by have := HQ.out; omega
  go_enter Try.func121, Try.ntmps121
  go_upto_region 1 with fail
  go_cut [5] (fun t wx => t = .int .u64 n ∧ Below w.heap.size w wx)
  case first =>
    by_cases h : i < 64
    · rw [if_pos h] at hv
      have hq0 : (i : Int) / 64 = 0 := by omega
      have HV := Lib.hid hv
      clear hir hv
      go_wp2
      go_meet
      exact ⟨by rw [HV.out], by repeat (first | exact Below.refl _ _ | with_reducible assumption | (refine bl_alloc ?_ (Nat.le_refl _) _) | (refine bl_set ?_ (by dsimp only; omega) _) | (refine Below.drew ?_) | (refine bl_drewN ?_ _) | (refine bl_call ?_ (Nat.le_refl _) (by assumption)))⟩
    · rw [if_neg h] at hv
      have hq0 : (i : Int) / 64 = 1 := by omega
      have HV := Lib.hid hv
      clear hir hv
      go_wp2
      go_meet
      exact ⟨by rw [HV.out], by repeat (first | exact Below.refl _ _ | with_reducible assumption | (refine bl_alloc ?_ (Nat.le_refl _) _) | (refine bl_set ?_ (by dsimp only; omega) _) | (refine Below.drew ?_) | (refine bl_drewN ?_ _) | (refine bl_call ?_ (Nat.le_refl _) (by assumption)))⟩
  case rest =>
    obtain ⟨rfl, hb0⟩ := hcut
    clear hv
    go_wp2_with fail
    go_loop [5, 6] (fun t j => ∃ k : Nat, k ≤ c ∧ j = .int .i64 k ∧ ∃ m : Nat, t = .int .u64 m ∧ m ≤ 18446744073709551615 ∧ Hid (m = n / 2 ^ k)) (fun _ j => c - (intOf j).toNat)
    case atStart => exact ⟨0, Nat.zero_le _, rfl, n, rfl, hn, by show _ = _; rw [Nat.pow_zero, Nat.div_one]⟩
    case round =>
      obtain ⟨k, hk, rfl, m, rfl, hm, HM⟩ := hrel
      by_cases hlt : k < c
      · go_wp2
        go_round
        case rel => exact ⟨k + 1, by omega, by go_num, m / 2, by go_num, by omega, by show _ = _; rw [HM.out, Nat.div_div_eq_div_mul, Nat.pow_succ]⟩
        case measure => simp [intOf]; omega
      · obtain rfl : k = c := by omega
        go_wp2
        go_ret
        refine ⟨ret_bool ?_, by repeat (first | exact Below.refl _ _ | with_reducible assumption | (refine bl_alloc ?_ (Nat.le_refl _) _) | (refine bl_set ?_ (by dsimp only; omega) _) | (refine Below.drew ?_) | (refine bl_drewN ?_ _) | (refine bl_call ?_ (Nat.le_refl _) (by assumption)))⟩
        unfold bitN
        rw [← HM.out]
        by_cases h : m % 2 = 1
        · simp [h]
          omega
        · have h0 : m % 2 = 0 := by omega
          simp [h0]
          omega

end Go.Proofs.Ytiphahbeedeebaa

namespace Go.Proofs.Ytiphahbeedeebaa
open Go.RowKit Fm
set_option linter.unusedVariables false
set_option maxRecDepth 100000

/-- a times the bits of n from place k on -/
def dbl {f : Nat} (x : Fin (Pm f)) (n k : Nat) : Fin (Pm f) := kI (Pm f) ((n / 2 ^ k : Nat) : Int) * x

theorem dbl_step {f : Nat} (x : Fin (Pm f)) (n k : Nat) : dbl x n k = if bitN n k = true then dbl x n (k + 1) + dbl x n (k + 1) + x else dbl x n (k + 1) + dbl x n (k + 1) := by
  unfold dbl bitN
  have h : ((n / 2 ^ k : Nat) : Int) = 2 * ((n / 2 ^ (k + 1) : Nat) : Int) + ((n / 2 ^ k % 2 : Nat) : Int) := by
    rw [Nat.pow_succ, ← Nat.div_div_eq_div_mul]
    omega
  rw [h, kI_add, kI_mul]
  have h2 : kI (Pm f) (2 : Int) = 1 + 1 := by rw [show (2 : Int) = 1 + 1 from rfl, kI_add, kI_one]
  rw [h2]
  by_cases hb : n / 2 ^ k % 2 = 1
  · rw [if_pos (by simp [hb]), hb, show ((1 : Nat) : Int) = 1 from rfl, kI_one]
    grind
  · have h0 : n / 2 ^ k % 2 = 0 := by omega
    rw [if_neg (by simp [h0]), h0, show ((0 : Nat) : Int) = 0 from rfl, kI_zero]
    grind

theorem dbl_top {f : Nat} (x : Fin (Pm f)) (y : Fin (Pm f)) : dbl x y.val 128 = 0 := by
  have hy := y.isLt
  have h := Pm_lt f
  unfold dbl
  rw [Nat.div_eq_of_lt (by omega), show ((0 : Nat) : Int) = 0 from rfl, kI_zero]
  grind
theorem dbl_all {f : Nat} (x y : Fin (Pm f)) : dbl x y.val 0 = x * y := by
  unfold dbl
  rw [Nat.pow_zero, Nat.div_one, kI_ofVal]
  grind

set_option maxHeartbeats 4000000 in
theorem ref_MulL {f : Nat} (hf : IsF f) (a0 a1 b0 b1 : Int) (w : World) (h0 : 0 ≤ a0) (h1 : a0 ≤ 18446744073709551615) (k0 : 0 ≤ a1) (k1 : a1 ≤ 18446744073709551615)
    (g0 : 0 ≤ b0) (g1 : b0 ≤ 18446744073709551615) (j0 : 0 ≤ b1) (j1 : b1 ≤ 18446744073709551615) :
    Calls Try.prog 93 #[.int .i64 f, .agg #[.int .u64 a0, .int .u64 a1], .agg #[.int .u64 b0, .int .u64 b1]] w (RetK (kL f a0 a1 * kL f b0 b1) w) := by
  have hOa := fun wz => ref_OfL hf a0 a1 wz h0 h1 k0 k1
  have hOb := fun wz => ref_OfL hf b0 b1 wz g0 g1 j0 j1
  generalize kL f a0 a1 = x at *
  generalize kL f b0 b1 = y at *
  have H1 := Lib.hid hOa
  have H2 := Lib.hid hOb
  clear hOa hOb
  go_enter Try.func93, Try.ntmps93
  go_upto_region 1 with fail
  have q0 := ((V2.new w (.int .u64 a0) (.int .u64 a1) 41).alloc (.cells #[(.int .u64 b0), (.int .u64 b1)] 41)).alloc (.cells #[(.int .u64 0), (.int .u64 0)] 41)
  have t0 := (V2.new (w.alloc (.cells #[(.int .u64 a0), (.int .u64 a1)] 41)) (.int .u64 b0) (.int .u64 b1) 41).alloc (.cells #[(.int .u64 0), (.int .u64 0)] 41)
  have s0 := V2.new ((w.alloc (.cells #[(.int .u64 a0), (.int .u64 a1)] 41)).alloc (.cells #[(.int .u64 b0), (.int .u64 b1)] 41)) (.int .u64 0) (.int .u64 0) 41
  simp only [World.size_alloc] at t0 s0
  have hb00 : Below w.heap.size w (((w.alloc (.cells #[(.int .u64 a0), (.int .u64 a1)] 41)).alloc (.cells #[(.int .u64 b0), (.int .u64 b1)] 41)).alloc (.cells #[(.int .u64 0), (.int .u64 0)] 41)) := by repeat (first | exact Below.refl _ _ | with_reducible assumption | (refine bl_alloc ?_ (Nat.le_refl _) _))
  have hsz : w.heap.size + 3 ≤ (((w.alloc (.cells #[(.int .u64 a0), (.int .u64 a1)] 41)).alloc (.cells #[(.int .u64 b0), (.int .u64 b1)] 41)).alloc (.cells #[(.int .u64 0), (.int .u64 0)] 41)).heap.size := by simp only [World.size_alloc]; omega
  generalize (((w.alloc (.cells #[(.int .u64 a0), (.int .u64 a1)] 41)).alloc (.cells #[(.int .u64 b0), (.int .u64 b1)] 41)).alloc (.cells #[(.int .u64 0), (.int .u64 0)] 41)) = w1 at q0 t0 s0 hb00 hsz ⊢
  have q01 := q0
  obtain ⟨c0, c1, c2, c3, c4⟩ := q01
  have t01 := t0
  obtain ⟨d0, d1, d2, d3, d4⟩ := t01
  refine region_B (n := 6) (m := 8) (f := 6) (by kernel_rfl) (by kernel_rfl) rfl ?_
  refine WpH.takeB (i := 0) (v := ?_) rfl (by kernel_rfl) (fun _ _ _ h => h) (.val rfl (fun wz hwz => ?_)) ?_
  rotate_left
  · go_simp; try (with_reducible rfl)
  (simp only [Act.put]); (try simp only [List.setIfInBounds_toArray]); (try simp only [List.set_cons_succ]); (try simp only [List.set_cons_zero])
  refine WpH.takeB (i := 1) (v := ?_) rfl (by kernel_rfl) (fun _ _ _ h => h) (.val rfl (fun wz hwz => ?_)) ?_
  rotate_left
  · (obtain ⟨hcz, hfz⟩ := bcell hwz; go_simp; try (with_reducible rfl))
  (simp only [Act.put]); (try simp only [List.setIfInBounds_toArray]); (try simp only [List.set_cons_succ]); (try simp only [List.set_cons_zero])
  refine WpH.takeB (i := 2) rfl (by kernel_rfl) (fun _ _ _ h => h) (.call rfl (fun wz hwz => H1.out wz) (fun wz hwz => ?_)) ?_
  · go_simp; try (with_reducible rfl)
  (simp only [Act.put]); (try simp only [List.setIfInBounds_toArray]); (try simp only [List.set_cons_succ]); (try simp only [List.set_cons_zero])
  refine WpH.takeB (i := 3) (v := ?_) rfl (by kernel_rfl) (fun _ _ _ h => h) (.val rfl (fun wz hwz => ?_)) ?_
  rotate_left
  · go_simp; try (with_reducible rfl)
  (simp only [Act.put]); (try simp only [List.setIfInBounds_toArray]); (try simp only [List.set_cons_succ]); (try simp only [List.set_cons_zero])
  refine WpH.takeB (i := 4) (v := ?_) rfl (by kernel_rfl) (fun _ _ _ h => h) (.val rfl (fun wz hwz => ?_)) ?_
  rotate_left
  · (obtain ⟨hcz, hfz⟩ := bcell hwz; go_simp; try (with_reducible rfl))
  (simp only [Act.put]); (try simp only [List.setIfInBounds_toArray]); (try simp only [List.set_cons_succ]); (try simp only [List.set_cons_zero])
  refine WpH.takeB (i := 5) rfl (by kernel_rfl) (fun _ _ _ h => h) (.call rfl (fun wz hwz => H2.out wz) (fun wz hwz => ?_)) ?_
  · go_simp; try (with_reducible rfl)
  (simp only [Act.put]); (try simp only [List.setIfInBounds_toArray]); (try simp only [List.set_cons_succ]); (try simp only [List.set_cons_zero])
  refine WpH.doneB (by kernel_rfl) (fun w2 hw2 => ?_)
  (try simp only [List.drop_succ_cons]); (try simp only [List.drop_zero]); (try simp only [Nat.reduceSub]); (try simp only [List.take_succ_cons]); (try simp only [List.take_zero])
  replace q0 := q0.call hw2
  replace t0 := t0.call hw2
  replace s0 := s0.call hw2
  replace hb00 := bl_call hb00 (Nat.le_refl _) hw2
  replace hsz := Nat.le_trans hsz hw2.size
  clear c0 c1 c2 c3 c4 d0 d1 d2 d3 d4 hw2
  have q01 := q0
  obtain ⟨c0, c1, c2, c3, c4⟩ := q01
  have t01 := t0
  obtain ⟨d0, d1, d2, d3, d4⟩ := t01
  go_upto_region 2 with fail
  clear c0 c1 c2 c3 c4 d0 d1 d2 d3 d4
  replace q0 : V2 ((w2.setCell ⟨w.heap.size, 0, none⟩ (.int .u64 (lo x))).setCell ⟨w.heap.size, 1, none⟩ (.int .u64 (hi x))) (w.heap.size) (.int .u64 (lo x)) (.int .u64 (hi x)) := V2.set q0 _ _
  replace t0 := V2.oth t0 (b := w.heap.size) (by omega) (.int .u64 (lo x)) (.int .u64 (hi x))
  replace s0 := V2.oth s0 (b := w.heap.size) (by omega) (.int .u64 (lo x)) (.int .u64 (hi x))
  replace hb00 := bl_st hb00 (b := w.heap.size) (by omega) (.int .u64 (lo x)) (.int .u64 (hi x))
  replace q0 := V2.oth q0 (b := w.heap.size+1) (by omega) (.int .u64 (lo y)) (.int .u64 (hi y))
  replace t0 : V2 ((((w2.setCell ⟨w.heap.size, 0, none⟩ (.int .u64 (lo x))).setCell ⟨w.heap.size, 1, none⟩ (.int .u64 (hi x))).setCell ⟨w.heap.size+1, 0, none⟩ (.int .u64 (lo y))).setCell ⟨w.heap.size+1, 1, none⟩ (.int .u64 (hi y))) (w.heap.size+1) (.int .u64 (lo y)) (.int .u64 (hi y)) := V2.set t0 _ _
  replace s0 := V2.oth s0 (b := w.heap.size+1) (by omega) (.int .u64 (lo y)) (.int .u64 (hi y))
  replace hb00 := bl_st hb00 (b := w.heap.size+1) (by omega) (.int .u64 (lo y)) (.int .u64 (hi y))
  generalize ((((w2.setCell ⟨w.heap.size, 0, none⟩ (.int .u64 (lo x))).setCell ⟨w.heap.size, 1, none⟩ (.int .u64 (hi x))).setCell ⟨w.heap.size+1, 0, none⟩ (.int .u64 (lo y))).setCell ⟨w.heap.size+1, 1, none⟩ (.int .u64 (hi y))) = w3 at q0 t0 s0 hb00 ⊢
  have hz3 := s0.lt
  go_wp2_with fail
  go_loopw [8] (fun i wr => ∃ k : Nat, k ≤ 128 ∧ i = .int .i64 ((k : Int) - 1) ∧ V2 wr w.heap.size (.int .u64 (lo x)) (.int .u64 (hi x)) ∧ V2 wr (w.heap.size + 1) (.int .u64 (lo y)) (.int .u64 (hi y)) ∧ V2 wr (w.heap.size + 1 + 1) (.int .u64 0) (.int .u64 0) ∧
      V2 wr w3.heap.size (.int .u64 (lo (dbl x y.val k))) (.int .u64 (hi (dbl x y.val k))) ∧ Below w.heap.size w wr) (fun i _ => (intOf i + 1).toNat)
  case atStart =>
    refine ⟨128, by omega, by go_num, q0.alloc _, t0.alloc _, s0.alloc _, ?_, by repeat (first | exact Below.refl _ _ | with_reducible assumption | (refine bl_alloc ?_ (Nat.le_refl _) _) | (refine bl_set ?_ (by dsimp only; omega) _) | (refine Below.drew ?_) | (refine bl_drewN ?_ _) | (refine bl_call ?_ (Nat.le_refl _) (by assumption)))⟩
    rw [dbl_top, lo_zero, hi_zero]
    exact V2.new _ _ _ _
  case round =>
    obtain ⟨k, hk, rfl, hx, hy, hz, ho, hbw⟩ := hrel
    clear q0 t0 s0
    by_cases hk0 : k = 0
    · subst hk0
      rw [dbl_all] at ho
      obtain ⟨y0, y1, y2, y3, y4⟩ := ho
      obtain ⟨z0, z1, z2, z3, z4⟩ := hz
      go_wp2
      refine bodyPost_ret (results_v2 (b := w.heap.size + 1 + 1) (u := .int .u64 (lo (x * y))) (v := .int .u64 (hi (x * y))) ?_ rfl rfl) rfl ?_
      · exact V2.set ⟨z0, z1, z2, z3, z4⟩ _ _
      · exact ⟨rfl, by repeat (first | exact Below.refl _ _ | with_reducible assumption | (refine bl_alloc ?_ (Nat.le_refl _) _) | (refine bl_set ?_ (by dsimp only; omega) _) | (refine Below.drew ?_) | (refine bl_drewN ?_ _) | (refine bl_call ?_ (Nat.le_refl _) (by assumption)))⟩
    · obtain ⟨k, rfl⟩ : ∃ j, k = j + 1 := ⟨k - 1, by omega⟩
      have hst := dbl_step x y.val k
      have HB := Lib.hid (fun wz => ref_bit y k (by omega) wz)
      generalize dbl x y.val (k + 1) = s at *
      have HST := Lib.hid hst
      clear hst
      have hA1 := Lib.hid (fun wz => ref_AddK hf s s wz)
      have hA2 := Lib.hid (fun wz => ref_AddK hf (s + s) x wz)
      obtain ⟨o0, o1, o2, o3, o4⟩ := ho
      have hyy := hy
      obtain ⟨y0, y1, y2, y3, y4⟩ := hyy
      have hxx := hx
      obtain ⟨x0, x1, x2, x3, x4⟩ := hxx
      go_upto_region 7 with (go_at_call 92; refine (hA1.out _).mono ?_; rintro e w5 ⟨rfl, hb5⟩; obtain ⟨o0, o1, o2, o3, o4⟩ := V2.call ⟨o0, o1, o2, o3, o4⟩ hb5; replace hx := hx.call hb5; replace hy := hy.call hb5; replace hz := hz.call hb5; replace hbw := bl_call hbw (Nat.le_refl _) hb5)
      have ho : V2 w5 w3.heap.size (.int .u64 (lo s)) (.int .u64 (hi s)) := ⟨o0, o1, o2, o3, o4⟩
      clear o0 o1 o2 o3 o4 x0 x1 x2 x3 x4 y0 y1 y2 y3 y4 hb5
      replace ho : V2 ((w5.setCell ⟨w3.heap.size, 0, none⟩ (.int .u64 (lo (s + s)))).setCell ⟨w3.heap.size, 1, none⟩ (.int .u64 (hi (s + s)))) (w3.heap.size) (.int .u64 (lo (s + s))) (.int .u64 (hi (s + s))) := V2.set ho _ _
      replace hx := V2.oth hx (b := w3.heap.size) (by omega) (.int .u64 (lo (s + s))) (.int .u64 (hi (s + s)))
      replace hy := V2.oth hy (b := w3.heap.size) (by omega) (.int .u64 (lo (s + s))) (.int .u64 (hi (s + s)))
      replace hz := V2.oth hz (b := w3.heap.size) (by omega) (.int .u64 (lo (s + s))) (.int .u64 (hi (s + s)))
      replace hbw := bl_st hbw (b := w3.heap.size) (by omega) (.int .u64 (lo (s + s))) (.int .u64 (hi (s + s)))
      generalize ((w5.setCell ⟨w3.heap.size, 0, none⟩ (.int .u64 (lo (s + s)))).setCell ⟨w3.heap.size, 1, none⟩ (.int .u64 (hi (s + s)))) = w6 at ho hx hy hz hbw ⊢
      have ho' := ho
      obtain ⟨o0, o1, o2, o3, o4⟩ := ho'
      have hyy := hy
      obtain ⟨y0, y1, y2, y3, y4⟩ := hyy
      have hxx := hx
      obtain ⟨x0, x1, x2, x3, x4⟩ := hxx
      by_cases hb : bitN y.val k = true
      · go_wp2_with (first
          | (go_at_call 121; refine (HB.out _).mono ?_; rintro e w7 ⟨rfl, hb7⟩; rw [hb]; obtain ⟨o0, o1, o2, o3, o4⟩ := V2.call ⟨o0, o1, o2, o3, o4⟩ hb7; obtain ⟨x0, x1, x2, x3, x4⟩ := V2.call ⟨x0, x1, x2, x3, x4⟩ hb7; replace hx := hx.call hb7; replace hy := hy.call hb7; replace hz := hz.call hb7)
          | (go_at_call 92; refine (hA2.out _).mono ?_; rintro e w8 ⟨rfl, hb8⟩; obtain ⟨o0, o1, o2, o3, o4⟩ := V2.call ⟨o0, o1, o2, o3, o4⟩ hb8; replace hx := hx.call hb8; replace hy := hy.call hb8; replace hz := hz.call hb8))
        go_roundw
        case rel => exact ⟨k, by omega, by go_num, hx.oth (by omega) _ _, hy.oth (by omega) _ _, hz.oth (by omega) _ _, by rw [HST.out, if_pos hb]; exact V2.set ⟨o0, o1, o2, o3, o4⟩ _ _, by repeat (first | exact Below.refl _ _ | with_reducible assumption | (refine bl_alloc ?_ (Nat.le_refl _) _) | (refine bl_set ?_ (by dsimp only; omega) _) | (refine Below.drew ?_) | (refine bl_drewN ?_ _) | (refine bl_call ?_ (Nat.le_refl _) (by assumption)))⟩
        case measure => simp [intOf]
      · have hb' : bitN y.val k = false := by simpa using hb
        go_wp2_with (go_at_call 121; refine (HB.out _).mono ?_; rintro e w7 ⟨rfl, hb7⟩; rw [hb']; replace ho := ho.call hb7; replace hx := hx.call hb7; replace hy := hy.call hb7; replace hz := hz.call hb7)
        go_roundw
        case rel => exact ⟨k, by omega, by go_num, hx, hy, hz, by rw [HST.out, if_neg hb]; exact ho, by repeat (first | exact Below.refl _ _ | with_reducible assumption | (refine bl_alloc ?_ (Nat.le_refl _) _) | (refine bl_set ?_ (by dsimp only; omega) _) | (refine Below.drew ?_) | (refine bl_drewN ?_ _) | (refine bl_call ?_ (Nat.le_refl _) (by assumption)))⟩
        case measure => simp [intOf]

theorem ref_MulK {f : Nat} (hf : IsF f) (x y : Fin (Pm f)) (w : World) : Calls Try.prog 93 #[.int .i64 f, vK x, vK y] w (RetK (x * y) w) := by
  have h := ref_MulL hf (lo x) (hi x) (lo y) (hi y) w (lo_0 x) (lo_1 x) (hi_0 x) (hi_1 x) (lo_0 y) (lo_1 y) (hi_0 y) (hi_1 y)
  rwa [kL_lohi, kL_lohi] at h

end Go.Proofs.Ytiphahbeedeebaa

namespace Go.Proofs.Ytiphahbeedeebaa
open Go.RowKit Fm
set_option linter.unusedVariables false
set_option maxRecDepth 100000

def horner {f : Nat} (x : Fin (Pm f)) (p : KL f) : Fin (Pm f) := p.foldr (fun a s => s * x + a) 0

theorem horner_drop {f : Nat} (x : Fin (Pm f)) (p : KL f) (k : Nat) (a : Fin (Pm f)) (h : p[k]? = some a) : horner x (p.drop k) = horner x (p.drop (k + 1)) * x + a := by
  obtain ⟨hlt, rfl⟩ := List.getElem?_eq_some_iff.1 h
  rw [List.drop_eq_getElem_cons hlt]
  rfl

set_option maxHeartbeats 4000000 in
theorem poly_At {f : Nat} (hf : IsF f) (vp : Value) (p : KL f) (x : Fin (Pm f)) (w : World) (hp : SlK w w.heap.size vp p) (hn : p.length ≤ 1099511627776) :
    Calls Try.prog 89 #[.int .u8 f, vp, vK x] w (RetK (horner x p) w) := by
  obtain ⟨A, c, rfl, hc, hcm, hA⟩ := hp
  go_enter Try.func89, Try.ntmps89
  go_wp2
  go_loopw [8] (fun i wr => ∃ k : Nat, k ≤ p.length ∧ i = .int .i64 ((k : Int) - 1) ∧ V2 wr w.heap.size (.int .u64 (lo x)) (.int .u64 (hi x)) ∧ V2 wr (w.heap.size + 1) (.int .u64 0) (.int .u64 0) ∧
      V2 wr (w.heap.size + 1 + 1) (.int .u64 (lo (horner x (p.drop k)))) (.int .u64 (hi (horner x (p.drop k)))) ∧ Below w.heap.size w wr) (fun i _ => (intOf i + 1).toNat)
  case atStart =>
    refine ⟨p.length, Nat.le_refl _, rfl, ((V2.new w _ _ 41).alloc _).alloc _, ?_, ?_, by repeat (first | exact Below.refl _ _ | with_reducible assumption | (refine bl_alloc ?_ (Nat.le_refl _) _) | (refine bl_set ?_ (by dsimp only; omega) _) | (refine Below.drew ?_) | (refine bl_drewN ?_ _) | (refine bl_call ?_ (Nat.le_refl _) (by assumption)))⟩
    · have h := (V2.new (w.alloc (.cells #[.int .u64 (lo x), .int .u64 (hi x)] 41)) (.int .u64 0) (.int .u64 0) 41).alloc (.cells #[.int .u64 0, .int .u64 0] 41)
      simpa only [World.size_alloc] using h
    · have h := V2.new ((w.alloc (.cells #[.int .u64 (lo x), .int .u64 (hi x)] 41)).alloc (.cells #[.int .u64 0, .int .u64 0] 41)) (.int .u64 0) (.int .u64 0) 41
      rw [List.drop_length, show horner x ([] : KL f) = 0 from rfl, lo_zero, hi_zero]
      simpa only [World.size_alloc] using h
  case round =>
    obtain ⟨k, hk, rfl, hx, hz, hy, hbw⟩ := hrel
    by_cases hk0 : k = 0
    · subst hk0
      rw [List.drop_zero] at hy
      obtain ⟨y0, y1, y2, y3, y4⟩ := hy
      obtain ⟨z0, z1, z2, z3, z4⟩ := hz
      go_wp2
      refine bodyPost_ret (results_v2 (b := w.heap.size + 1) (u := .int .u64 (lo (horner x p))) (v := .int .u64 (hi (horner x p))) ?_ rfl rfl) rfl ?_
      · exact V2.set ⟨z0, z1, z2, z3, z4⟩ _ _
      · exact ⟨rfl, by repeat (first | exact Below.refl _ _ | with_reducible assumption | (refine bl_alloc ?_ (Nat.le_refl _) _) | (refine bl_set ?_ (by dsimp only; omega) _) | (refine Below.drew ?_) | (refine bl_drewN ?_ _) | (refine bl_call ?_ (Nat.le_refl _) (by assumption)))⟩
    · obtain ⟨k, rfl⟩ : ∃ j, k = j + 1 := ⟨k - 1, by omega⟩
      obtain ⟨b, o, rfl, hB, hr⟩ := hA (by omega)
      obtain ⟨y, he⟩ : ∃ e, p[k]? = some e := ⟨_, List.getElem?_eq_getElem (by omega)⟩
      obtain ⟨c0, c1⟩ := (hr.below hbw hB).kat he
      have hst := horner_drop x p k y he
      generalize horner x (p.drop (k + 1)) = s at *
      have HST := Lib.hid hst
      clear hst he hr hA
      have hyy := hy
      obtain ⟨y0, y1, y2, y3, y4⟩ := hyy
      have hxx := hx
      obtain ⟨x0, x1, x2, x3, x4⟩ := hxx
      have hkl : k < p.length := by omega
      have hbl : b < wr.heap.size := Nat.lt_of_lt_of_le hB hbw.size
      go_wp2_with fail
      refine region_B (n := 10) (m := 11) (f := 10) (by kernel_rfl) (by kernel_rfl) rfl ?_
      refine WpH.takeB (i := 0) (v := ?_) rfl (by kernel_rfl) (fun _ _ _ h => h) (.val rfl (fun wz hwz => ?_)) ?_
      rotate_left
      · go_simp; try (with_reducible rfl)
      (simp only [Act.put]); (try simp only [List.setIfInBounds_toArray]); (try simp only [List.set_cons_succ]); (try simp only [List.set_cons_zero])
      refine WpH.takeB (i := 1) (v := ?_) rfl (by kernel_rfl) (fun _ _ _ h => h) (.val rfl (fun wz hwz => ?_)) ?_
      rotate_left
      · go_simp; try (with_reducible rfl)
      (simp only [Act.put]); (try simp only [List.setIfInBounds_toArray]); (try simp only [List.set_cons_succ]); (try simp only [List.set_cons_zero])
      refine WpH.takeB (i := 2) (v := ?_) rfl (by kernel_rfl) (fun _ _ _ h => h) (.val rfl (fun wz hwz => ?_)) ?_
      rotate_left
      · (obtain ⟨hcz, hfz⟩ := bcell hwz; go_simp; try (with_reducible rfl))
      (simp only [Act.put]); (try simp only [List.setIfInBounds_toArray]); (try simp only [List.set_cons_succ]); (try simp only [List.set_cons_zero])
      refine WpH.takeB (i := 3) (v := ?_) rfl (by kernel_rfl) (fun _ _ _ h => h) (.val rfl (fun wz hwz => ?_)) ?_
      rotate_left
      · (obtain ⟨hcz, hfz⟩ := bcell hwz; go_simp; try (with_reducible rfl))
      (simp only [Act.put]); (try simp only [List.setIfInBounds_toArray]); (try simp only [List.set_cons_succ]); (try simp only [List.set_cons_zero])
      refine WpH.takeB (i := 4) rfl (by kernel_rfl) (fun _ _ _ h => h) (.call rfl (fun wz hwz => field_MulK hf s x wz) (fun wz hwz => ?_)) ?_
      · go_simp; try (with_reducible rfl)
      (simp only [Act.put]); (try simp only [List.setIfInBounds_toArray]); (try simp only [List.set_cons_succ]); (try simp only [List.set_cons_zero])
      refine WpH.takeB (i := 5) (v := ?_) rfl (by kernel_rfl) (fun _ _ _ h => h) (.val rfl (fun wz hwz => ?_)) ?_
      rotate_left
      · go_simp; try (with_reducible rfl)
      (simp only [Act.put]); (try simp only [List.setIfInBounds_toArray]); (try simp only [List.set_cons_succ]); (try simp only [List.set_cons_zero])
      refine WpH.takeB (i := 6) (v := ?_) rfl (by kernel_rfl) (fun _ _ _ h => h) (.val rfl (fun wz hwz => ?_)) ?_
      rotate_left
      · go_simp; try (with_reducible rfl)
      (simp only [Act.put]); (try simp only [List.setIfInBounds_toArray]); (try simp only [List.set_cons_succ]); (try simp only [List.set_cons_zero])
      refine WpH.takeB (i := 7) (v := ?_) rfl (by kernel_rfl) (fun _ _ _ h => h) (.val rfl (fun wz hwz => ?_)) ?_
      rotate_left
      · go_simp; try (with_reducible rfl)
      (simp only [Act.put]); (try simp only [List.setIfInBounds_toArray]); (try simp only [List.set_cons_succ]); (try simp only [List.set_cons_zero])
      refine WpH.takeB (i := 8) (v := ?_) rfl (by kernel_rfl) (fun _ _ _ h => h) (.val rfl (fun wz hwz => ?_)) ?_
      rotate_left
      · (obtain ⟨hcz, hfz⟩ := bcell hwz; go_simp; try (with_reducible rfl))
      (simp only [Act.put]); (try simp only [List.setIfInBounds_toArray]); (try simp only [List.set_cons_succ]); (try simp only [List.set_cons_zero])
      refine WpH.takeB (i := 9) rfl (by kernel_rfl) (fun _ _ _ h => h) (.call rfl (fun wz hwz => field_AddK hf (s * x) y wz) (fun wz hwz => ?_)) ?_
      · go_simp; try (with_reducible rfl)
      (simp only [Act.put]); (try simp only [List.setIfInBounds_toArray]); (try simp only [List.set_cons_succ]); (try simp only [List.set_cons_zero])
      refine WpH.doneB (by kernel_rfl) (fun w6 hw6 => ?_)
      (try simp only [List.drop_succ_cons]); (try simp only [List.drop_zero]); (try simp only [Nat.reduceSub]); (try simp only [List.take_succ_cons]); (try simp only [List.take_zero])
      obtain ⟨y0, y1, y2, y3, y4⟩ := hy.call hw6
      have hx6 := hx.call hw6
      have hz6 := hz.call hw6
      go_wp2
      go_roundw
      case rel => exact ⟨k, by omega, by go_num, hx6.setOther (by dsimp only; omega) _ |>.setOther (by dsimp only; omega) _, hz6.setOther (by dsimp only; omega) _ |>.setOther (by dsimp only; omega) _, by rw [HST.out]; exact V2.set ⟨y0, y1, y2, y3, y4⟩ _ _, by repeat (first | exact Below.refl _ _ | with_reducible assumption | (refine bl_alloc ?_ (Nat.le_refl _) _) | (refine bl_set ?_ (by dsimp only; omega) _) | (refine Below.drew ?_) | (refine bl_drewN ?_ _) | (refine bl_call ?_ (Nat.le_refl _) (by assumption)))⟩
      case measure => simp [intOf]

end Go.Proofs.Ytiphahbeedeebaa

namespace Go.Proofs.Ytiphahbeedeebaa
open Go.RowKit Fm
set_option linter.unusedVariables false
set_option maxRecDepth 100000

/-- term by term: the value of the first k coefficients, and the next power -/
def termSum {f : Nat} (x : Fin (Pm f)) (p : KL f) (k : Nat) : Fin (Pm f) := horner x (p.take k)

theorem horner_append {f : Nat} (x : Fin (Pm f)) (p : KL f) (a : Fin (Pm f)) : horner x (p ++ [a]) = horner x p + a * kpow x p.length := by
  induction p with
  | nil => simp only [horner, List.nil_append, List.foldr_cons, List.foldr_nil, List.length_nil, kpow_zero]; grind
  | cons b p ih =>
    have e1 : horner x (b :: p ++ [a]) = horner x (p ++ [a]) * x + b := rfl
    have e2 : horner x (b :: p) = horner x p * x + b := rfl
    rw [e1, e2, ih, List.length_cons, kpow_succ]
    grind

theorem horner_take {f : Nat} (x : Fin (Pm f)) (p : KL f) (k : Nat) (a : Fin (Pm f)) (h : p[k]? = some a) : horner x (p.take (k + 1)) = horner x (p.take k) + a * kpow x k := by
  obtain ⟨hlt, rfl⟩ := List.getElem?_eq_some_iff.1 h
  rw [List.take_add_one, List.getElem?_eq_getElem hlt]
  show horner x (p.take k ++ [p[k]]) = _
  rw [horner_append, List.length_take, Nat.min_eq_left (by omega)]

set_option maxHeartbeats 4000000 in
theorem ref_At {f : Nat} (hf : IsF f) (vp : Value) (p : KL f) (x : Fin (Pm f)) (w : World) (hp : SlK w w.heap.size vp p) (hn : p.length ≤ 1099511627776) :
    Calls Try.prog 91 #[.int .i64 f, vp, vK x] w (RetK (horner x p) w) := by
  obtain ⟨A, c, rfl, hc, hcm, hA⟩ := hp
  go_enter Try.func91, Try.ntmps91
  go_upto_region 1 with fail
  have hx := (V2.new w (.int .u64 (lo x)) (.int .u64 (hi x)) 41).alloc (.cells #[(.int .u64 0), (.int .u64 0)] 41)
  have hr := V2.new (w.alloc (.cells #[(.int .u64 (lo x)), (.int .u64 (hi x))] 41)) (.int .u64 0) (.int .u64 0) 41
  simp only [World.size_alloc] at hr
  have hb00 : Below w.heap.size w ((w.alloc (.cells #[(.int .u64 (lo x)), (.int .u64 (hi x))] 41)).alloc (.cells #[(.int .u64 0), (.int .u64 0)] 41)) := by repeat (first | exact Below.refl _ _ | with_reducible assumption | (refine bl_alloc ?_ (Nat.le_refl _) _))
  have hsz : w.heap.size + 2 ≤ ((w.alloc (.cells #[(.int .u64 (lo x)), (.int .u64 (hi x))] 41)).alloc (.cells #[(.int .u64 0), (.int .u64 0)] 41)).heap.size := by simp only [World.size_alloc]; omega
  generalize ((w.alloc (.cells #[(.int .u64 (lo x)), (.int .u64 (hi x))] 41)).alloc (.cells #[(.int .u64 0), (.int .u64 0)] 41)) = w1 at hx hr hb00 hsz ⊢
  go_upto_region 3 with fail
  have ho := V2.new w1 (.int .u64 0) (.int .u64 0) 41
  replace ho := ho.alloc (.cells #[.int .u64 1, .int .u64 0] 41)
  have hp := V2.new (w1.alloc (.cells #[.int .u64 0, .int .u64 0] 41)) (.int .u64 1) (.int .u64 0) 41
  replace hx := (hx.alloc (.cells #[.int .u64 0, .int .u64 0] 41)).alloc (.cells #[.int .u64 1, .int .u64 0] 41)
  replace hr := (hr.alloc (.cells #[.int .u64 0, .int .u64 0] 41)).alloc (.cells #[.int .u64 1, .int .u64 0] 41)
  replace hb00 : Below w.heap.size w ((w1.alloc (.cells #[.int .u64 0, .int .u64 0] 41)).alloc (.cells #[.int .u64 1, .int .u64 0] 41)) := by repeat (first | exact Below.refl _ _ | with_reducible assumption | (refine bl_alloc ?_ (Nat.le_refl _) _) | (refine bl_set ?_ (by dsimp only; omega) _) | (refine Below.drew ?_) | (refine bl_drewN ?_ _) | (refine bl_call ?_ (Nat.le_refl _) (by assumption)))
  rw [World.size_alloc] at hp
  generalize (w1.alloc (.cells #[.int .u64 0, .int .u64 0] 41)).alloc (.cells #[.int .u64 1, .int .u64 0] 41) = w2 at ho hp hx hr hb00 ⊢
  go_wp2_with fail
  go_loopw [9] (fun i wr => ∃ k : Nat, k ≤ p.length ∧ i = .int .i64 k ∧ V2 wr w.heap.size (.int .u64 (lo x)) (.int .u64 (hi x)) ∧ V2 wr (w.heap.size + 1) (.int .u64 0) (.int .u64 0) ∧
      V2 wr w1.heap.size (.int .u64 (lo (horner x (p.take k)))) (.int .u64 (hi (horner x (p.take k)))) ∧ V2 wr (w1.heap.size + 1) (.int .u64 (lo (kpow x k))) (.int .u64 (hi (kpow x k))) ∧ Below w.heap.size w wr) (fun i _ => p.length - (intOf i).toNat)
  case atStart =>
    refine ⟨0, Nat.zero_le _, rfl, hx, hr, ?_, ?_, by repeat (first | exact Below.refl _ _ | with_reducible assumption | (refine bl_alloc ?_ (Nat.le_refl _) _) | (refine bl_set ?_ (by dsimp only; omega) _) | (refine Below.drew ?_) | (refine bl_drewN ?_ _) | (refine bl_call ?_ (Nat.le_refl _) (by assumption)))⟩
    · rw [List.take_zero, show horner x ([] : KL f) = 0 from rfl, lo_zero, hi_zero]
      exact ho
    · rw [kpow_zero, lo_one, hi_one]
      exact hp
  case round =>
    clear hx hr ho hp hb00
    obtain ⟨k, hk, rfl, hx, hr, ho, hp, hbw⟩ := hrel
    by_cases hkl : k < p.length
    · obtain ⟨b, o, rfl, hB, hrow⟩ := hA (by omega)
      obtain ⟨y, he⟩ : ∃ e, p[k]? = some e := ⟨_, List.getElem?_eq_getElem (by omega)⟩
      obtain ⟨c0, c1⟩ := (hrow.below hbw hB).kat he
      have hbl : b < wr.heap.size := Nat.lt_of_lt_of_le hB hbw.size
      have HST := Lib.hid (horner_take x p k y he)
      have HPW := Lib.hid (kpow_succ x k)
      generalize horner x (p.take k) = s at *
      generalize kpow x k = z at *
      clear he hrow hA
      have hoo := ho
      obtain ⟨o0, o1, o2, o3, o4⟩ := hoo
      have hxx := hx
      obtain ⟨x0, x1, x2, x3, x4⟩ := hxx
      have hpp := hp
      obtain ⟨p0, p1, p2, p3, p4⟩ := hpp
      go_wp2_with fail
      refine region_B (n := 10) (m := 11) (f := 10) (by kernel_rfl) (by kernel_rfl) rfl ?_
      refine WpH.takeB (i := 0) (v := ?_) rfl (by kernel_rfl) (fun _ _ _ h => h) (.val rfl (fun wz hwz => ?_)) ?_
      rotate_left
      · go_simp; try (with_reducible rfl)
      (simp only [Act.put]); (try simp only [List.setIfInBounds_toArray]); (try simp only [List.set_cons_succ]); (try simp only [List.set_cons_zero])
      refine WpH.takeB (i := 1) (v := ?_) rfl (by kernel_rfl) (fun _ _ _ h => h) (.val rfl (fun wz hwz => ?_)) ?_
      rotate_left
      · (obtain ⟨hcz, hfz⟩ := bcell hwz; go_simp; try (with_reducible rfl))
      (simp only [Act.put]); (try simp only [List.setIfInBounds_toArray]); (try simp only [List.set_cons_succ]); (try simp only [List.set_cons_zero])
      refine WpH.takeB (i := 2) (v := ?_) rfl (by kernel_rfl) (fun _ _ _ h => h) (.val rfl (fun wz hwz => ?_)) ?_
      rotate_left
      · go_simp; try (with_reducible rfl)
      (simp only [Act.put]); (try simp only [List.setIfInBounds_toArray]); (try simp only [List.set_cons_succ]); (try simp only [List.set_cons_zero])
      refine WpH.takeB (i := 3) (v := ?_) rfl (by kernel_rfl) (fun _ _ _ h => h) (.val rfl (fun wz hwz => ?_)) ?_
      rotate_left
      · go_simp; try (with_reducible rfl)
      (simp only [Act.put]); (try simp only [List.setIfInBounds_toArray]); (try simp only [List.set_cons_succ]); (try simp only [List.set_cons_zero])
      refine WpH.takeB (i := 4) (v := ?_) rfl (by kernel_rfl) (fun _ _ _ h => h) (.val rfl (fun wz hwz => ?_)) ?_
      rotate_left
      · go_simp; try (with_reducible rfl)
      (simp only [Act.put]); (try simp only [List.setIfInBounds_toArray]); (try simp only [List.set_cons_succ]); (try simp only [List.set_cons_zero])
      refine WpH.takeB (i := 5) (v := ?_) rfl (by kernel_rfl) (fun _ _ _ h => h) (.val rfl (fun wz hwz => ?_)) ?_
      rotate_left
      · go_simp; try (with_reducible rfl)
      (simp only [Act.put]); (try simp only [List.setIfInBounds_toArray]); (try simp only [List.set_cons_succ]); (try simp only [List.set_cons_zero])
      refine WpH.takeB (i := 6) (v := ?_) rfl (by kernel_rfl) (fun _ _ _ h => h) (.val rfl (fun wz hwz => ?_)) ?_
      rotate_left
      · (obtain ⟨hcz, hfz⟩ := bcell hwz; go_simp; try (with_reducible rfl))
      (simp only [Act.put]); (try simp only [List.setIfInBounds_toArray]); (try simp only [List.set_cons_succ]); (try simp only [List.set_cons_zero])
      refine WpH.takeB (i := 7) (v := ?_) rfl (by kernel_rfl) (fun _ _ _ h => h) (.val rfl (fun wz hwz => ?_)) ?_
      rotate_left
      · (obtain ⟨hcz, hfz⟩ := bcell hwz; go_simp; try (with_reducible rfl))
      (simp only [Act.put]); (try simp only [List.setIfInBounds_toArray]); (try simp only [List.set_cons_succ]); (try simp only [List.set_cons_zero])
      refine WpH.takeB (i := 8) rfl (by kernel_rfl) (fun _ _ _ h => h) (.call rfl (fun wz hwz => ref_MulK hf y z wz) (fun wz hwz => ?_)) ?_
      · go_simp; try (with_reducible rfl)
      (simp only [Act.put]); (try simp only [List.setIfInBounds_toArray]); (try simp only [List.set_cons_succ]); (try simp only [List.set_cons_zero])
      refine WpH.takeB (i := 9) rfl (by kernel_rfl) (fun _ _ _ h => h) (.call rfl (fun wz hwz => ref_AddK hf s (y * z) wz) (fun wz hwz => ?_)) ?_
      · go_simp; try (with_reducible rfl)
      (simp only [Act.put]); (try simp only [List.setIfInBounds_toArray]); (try simp only [List.set_cons_succ]); (try simp only [List.set_cons_zero])
      refine WpH.doneB (by kernel_rfl) (fun w6 hw6 => ?_)
      (try simp only [List.drop_succ_cons]); (try simp only [List.drop_zero]); (try simp only [Nat.reduceSub]); (try simp only [List.take_succ_cons]); (try simp only [List.take_zero])
      replace ho := ho.call hw6
      replace hx := hx.call hw6
      replace hp := hp.call hw6
      replace hr := hr.call hw6
      replace hbw := bl_call hbw (Nat.le_refl _) hw6
      have hoo := ho
      clear o0 o1 o2 o3 o4 x0 x1 x2 x3 x4 p0 p1 p2 p3 p4 c0 c1 hbl
      obtain ⟨o0, o1, o2, o3, o4⟩ := hoo
      go_upto_region 7 with fail
      clear o0 o1 o2 o3 o4
      have hne : w1.heap.size ≠ w1.heap.size + 1 := by omega
      replace ho : V2 ((w6.setCell ⟨w1.heap.size, 0, none⟩ (.int .u64 (lo (s + y * z)))).setCell ⟨w1.heap.size, 1, none⟩ (.int .u64 (hi (s + y * z)))) (w1.heap.size) (.int .u64 (lo (s + y * z))) (.int .u64 (hi (s + y * z))) := V2.set ho _ _
      replace hx := V2.oth hx (b := w1.heap.size) (by omega) (.int .u64 (lo (s + y * z))) (.int .u64 (hi (s + y * z)))
      replace hp := V2.oth hp (b := w1.heap.size) (by omega) (.int .u64 (lo (s + y * z))) (.int .u64 (hi (s + y * z)))
      replace hr := V2.oth hr (b := w1.heap.size) (by omega) (.int .u64 (lo (s + y * z))) (.int .u64 (hi (s + y * z)))
      replace hbw := bl_st hbw (b := w1.heap.size) (by omega) (.int .u64 (lo (s + y * z))) (.int .u64 (hi (s + y * z)))
      generalize ((w6.setCell ⟨w1.heap.size, 0, none⟩ (.int .u64 (lo (s + y * z)))).setCell ⟨w1.heap.size, 1, none⟩ (.int .u64 (hi (s + y * z)))) = w7 at ho hx hp hr hbw ⊢
      have hxx := hx
      obtain ⟨x0, x1, x2, x3, x4⟩ := hxx
      obtain ⟨p0, p1, p2, p3, p4⟩ := hp
      go_wp2_with (go_at_call 93; refine (ref_MulK hf z x _).mono ?_; rintro e w8 ⟨rfl, hb8⟩; obtain ⟨p0, p1, p2, p3, p4⟩ := V2.call ⟨p0, p1, p2, p3, p4⟩ hb8; replace hx := hx.call hb8; replace ho := ho.call hb8; replace hr := hr.call hb8)
      go_roundw
      case rel => exact ⟨k + 1, by omega, by go_num, hx.oth (by omega) _ _, hr.oth (by omega) _ _, by rw [HST.out]; exact ho.oth (by omega) _ _, by rw [HPW.out]; exact V2.set ⟨p0, p1, p2, p3, p4⟩ _ _, by repeat (first | exact Below.refl _ _ | with_reducible assumption | (refine bl_alloc ?_ (Nat.le_refl _) _) | (refine bl_set ?_ (by dsimp only; omega) _) | (refine Below.drew ?_) | (refine bl_drewN ?_ _) | (refine bl_call ?_ (Nat.le_refl _) (by assumption)))⟩
      case measure => simp [intOf]; omega
    · obtain rfl : k = p.length := by omega
      rw [List.take_length] at ho
      obtain ⟨y0, y1, y2, y3, y4⟩ := ho
      obtain ⟨z0, z1, z2, z3, z4⟩ := hr
      go_wp2
      refine bodyPost_ret (results_v2 (b := w.heap.size + 1) (u := .int .u64 (lo (horner x p))) (v := .int .u64 (hi (horner x p))) ?_ rfl rfl) rfl ?_
      · exact V2.set ⟨z0, z1, z2, z3, z4⟩ _ _
      · exact ⟨rfl, by repeat (first | exact Below.refl _ _ | with_reducible assumption | (refine bl_alloc ?_ (Nat.le_refl _) _) | (refine bl_set ?_ (by dsimp only; omega) _) | (refine Below.drew ?_) | (refine bl_drewN ?_ _) | (refine bl_call ?_ (Nat.le_refl _) (by assumption)))⟩

end Go.Proofs.Ytiphahbeedeebaa
