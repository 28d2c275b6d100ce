/-
  A LAW ON REGIONS THAT DRAW THEIR ORDER, of any program: what is known of the world may grow from operation to operation: several new things in one region; calls of what is new.
-/
import Derived.Test.YtgambjmjbmdciaaReg
namespace Go.Proofs.Ytgambjmjbmdciaa
open Go Go.RowKit

/-- what is known outlasts whatever turns nothing below -/
def Clo (S : World → Prop) : Prop := ∀ w w', S w → Below w.heap.size w w' → S w'
theorem Clo.below (W : World) : Clo (Below W.heap.size W) := fun _ _ h hb => h.trans (hb.mono h.size)
theorem Clo.and {S T : World → Prop} (h : Clo S) (k : Clo T) : Clo (fun w => S w ∧ T w) := fun w w' x hb => ⟨h w w' x.1 hb, k w w' x.2 hb⟩

section
variable {P : Program} {ops : Array Oper} {Q : Exit → Act → World → Prop} {md : Region.Mode}

theorem Det.weak {S S' : World → Prop} (hm : ∀ w, S' w → S w) {o : Oper} {v : Value} {a : Act} (h : Det P ops S o v a) : Det P ops S' o v a :=
  h.imp (fun h => ⟨h.1, fun w hw => h.2 w (hm w hw)⟩) id

/-- the head in whatever order; what is known grows; then L -/
def wpG (P : Program) (md : Region.Mode) (ops : Array Oper) (Q : Exit → Act → World → Prop) (n m : Nat) (L : Act → World → Prop) : Nat → Array Bool → Act → (World → Prop) → Prop
  | 0, listed, a, S => Region.seqB md ops (m - n) n listed = true ∧ ∀ w, S w → L a w
  | f + 1, listed, a, S =>
    Region.ready md ops listed ≠ [] ∧
    ∀ i ∈ Region.ready md ops listed, i < n ∧ ∀ w, S w → wpOp P ops Q i (fun a' w' => ∃ S' : World → Prop, Clo S' ∧ (∀ w, S' w → S w) ∧ S' w' ∧ wpG P md ops Q n m L f (listed.setIfInBounds i true) a' S') a w

theorem wpAny_of_G {n m : Nat} {L : Act → World → Prop} (hL : ∀ listed a w, Region.seqB md ops (m - n) n listed = true → L a w → wpAny P md ops Q (m - n) listed a w) :
    ∀ (f : Nat) (listed : Array Bool) (a : Act) (S : World → Prop), wpG P md ops Q n m L f listed a S → ∀ w, S w → wpAny P md ops Q (f + (m - n)) listed a w
  | 0, listed, a, S, h, w, hS => by rw [Nat.zero_add]; exact hL _ _ _ h.1 (h.2 w hS)
  | f + 1, listed, a, S, h, w, hS => by
    rw [show f + 1 + (m - n) = (f + (m - n)) + 1 by omega]
    refine ⟨fun h0 => absurd h0 h.1, fun i hi => wpOp_mono (fun a' w' h' => ?_) ((h.2 i hi).2 w hS)⟩
    obtain ⟨S', _, _, hS', hG⟩ := h'
    exact wpAny_of_G hL f _ a' S' hG w' hS'

theorem wpG_first {n m : Nat} {L : Act → World → Prop} (hp : Parts md ops n m) {i : Nat} {oi : Oper} {v : Value} (hi : ops[i]? = some oi) (hin : i < n)
    (hQ : ∀ c a w, Q (.panic c) (a.put oi.dst v) w → Q (.panic c) a w) :
    ∀ (f : Nat) (listed : Array Bool) (a : Act) (S : World → Prop), Clo S → HInv md ops n m listed →
      (∀ j oj, ops[j]? = some oj → j ≠ i → listed.getD j true = false → (∀ e ∈ oj.after, Region.binds md e = true → e.on ≠ i) → oi.apart ops oj = true) →
      i ∈ Region.ready md ops listed → Det P ops S oi v a →
      wpG P md ops Q n m L f (listed.setIfInBounds i true) (a.put oi.dst v) S → wpG P md ops Q n m L (f + 1) listed a S := by
  have hsel := Region.noSelect_spec hp.nosel
  intro f
  induction f with
  | zero =>
    intro listed a S hC inv _ hr hy H
    have hun := (mem_ready.1 hr).1
    refine ⟨fun h => (by rw [h] at hr; cases hr), fun j hj => ?_⟩
    have hjn : j < n := by
      rcases Nat.lt_or_ge j n with h | h
      · exact h
      · exact absurd hj (head_only hp inv _ i rfl hin hun j h)
    refine ⟨hjn, fun w hS => ?_⟩
    by_cases hji : j = i
    · subst hji
      exact hy.wpOp hi hS fun w' hb => ⟨S, hC, fun _ h => h, hC _ _ hS hb, H⟩
    · have := seqB_ready H.1 j (ready_mono hj hji)
      omega
  | succ f ih =>
    intro listed a S hC inv hfree hr hy H
    have hun := (mem_ready.1 hr).1
    refine ⟨fun h => (by rw [h] at hr; cases hr), fun j hj => ?_⟩
    have hjn : j < n := by
      rcases Nat.lt_or_ge j n with h | h
      · exact h
      · exact absurd hj (head_only hp inv _ i rfl hin hun j h)
    refine ⟨hjn, fun w hS => ?_⟩
    by_cases hji : j = i
    · subst hji
      exact hy.wpOp hi hS fun w' hb => ⟨S, hC, fun _ h => h, hC _ _ hS hb, H⟩
    · have h1 := (H.2 j (ready_mono hj hji)).2 w hS
      obtain ⟨hjun, oj, hoj, hall⟩ := mem_ready.1 hj
      have hnot : ∀ e ∈ oj.after, Region.binds md e = true → e.on ≠ i := fun e he hb heq => by
        have h1 := hall e he hb
        rw [heq, getD_both hun] at h1
        cases h1
      have h2 := wpOp_putDet hoj (hfree j oj hoj hji hjun hnot) (fun cs b => hsel i oi cs b hi) (fun cs b => hsel j oj cs b hoj) hQ hy h1
      have hfree' : ∀ k ok, ops[k]? = some ok → k ≠ i → (listed.setIfInBounds j true).getD k true = false →
          (∀ e ∈ ok.after, Region.binds md e = true → e.on ≠ i) → oi.apart ops ok = true := fun k ok hk hki hu hno => by
        refine hfree k ok hk hki ?_ hno
        by_cases hjk : j = k
        · subst hjk
          exact hjun
        · rw [getD_set_ne true hjk] at hu
          exact hu
      refine wpOp_mono (fun a' w' h3 => ?_) h2
      have hcomm : (listed.setIfInBounds i true).setIfInBounds j true = (listed.setIfInBounds j true).setIfInBounds i true := (Array.setIfInBounds_comm _ _ hji).symm
      rw [hcomm] at h3
      obtain ⟨hd, S', hC', hm', hS', hG⟩ := h3
      exact ⟨S', hC', hm', hS', ih (listed.setIfInBounds j true) a' S' hC' (inv.set hj hjn hp.lt) hfree' (ready_mono hr (Ne.symm hji)) (hd.weak hm') hG⟩

/-- the walk's own form -/
def WpG (P : Program) (md : Region.Mode) (ops : Array Oper) (Q : Exit → Act → World → Prop) (n m : Nat) (L : Act → World → Prop) (f : Nat) (listed : Array Bool) (a : Act) (S : World → Prop) : Prop :=
  Clo S → Parts md ops n m → HInv md ops n m listed → wpG P md ops Q n m L f listed a S

variable {n m : Nat} {L : Act → World → Prop} {S : World → Prop} {f : Nat} {listed : Array Bool} {a : Act}

/-- take number i first: one value in every world -/
theorem WpG.take {i : Nat} {oi : Oper} {v : Value} (hi : ops[i]? = some oi)
    (hB : (decide (i < n) && Region.free md ops listed i && (Region.ready md ops listed).contains i) = true)
    (hQ : ∀ c a w, Q (.panic c) (a.put oi.dst v) w → Q (.panic c) a w)
    (hy : Det P ops S oi v a)
    (h : WpG P md ops Q n m L f (listed.setIfInBounds i true) (a.put oi.dst v) S) : WpG P md ops Q n m L (f + 1) listed a S := by
  simp only [Bool.and_eq_true, decide_eq_true_eq] at hB
  obtain ⟨⟨hin, hf⟩, hr⟩ := hB
  have hr' : i ∈ Region.ready md ops listed := by simpa using hr
  exact fun hC hp inv => wpG_first hp hi hin hQ f listed a S hC inv (Region.free_spec hi hf) hr' hy (h hC hp (inv.set hr' hin hp.lt))

/-- a thing that may be made anew by an operation: of a kind ι, its value, and what holds of it -/
def Fresh (P : Program) (ops : Array Oper) (S : World → Prop) {ι : Type} (F : ι → Value) (R : ι → World → Prop) (o : Oper) (a : Act) : Prop :=
  Region.wanted o (yielded ops a.tmps) = true ∧ ∀ w, S w → UponV P (fun v w' => ∃ x, v = F x ∧ R x w' ∧ Below w.heap.size w w') ((execOp a.eval o).run P w)

theorem Fresh.wpOp {i : Nat} {oi : Oper} (hi : ops[i]? = some oi) {ι : Type} {F : ι → Value} {R : ι → World → Prop} (hy : Fresh P ops S F R oi a) {K : Act → World → Prop} {w : World} (hw : S w)
    (h : ∀ x w', R x w' → Below w.heap.size w w' → K (a.put oi.dst (F x)) w') : wpOp P ops Q i K a w := by
  unfold Go.wpOp
  simp only [hi]
  simp only [hy.1, if_true]
  refine .inl ?_
  unfold Oper.wp
  refine (hy.2 w hw).upon ?_
  rintro u w' ⟨x, rfl, hR, hb⟩
  exact h x w' hR hb

/-- number i alone comes up, and makes something new -/
theorem WpG.one {i : Nat} {oi : Oper} (hi : ops[i]? = some oi) (hB : (decide (i < n) && decide (Region.ready md ops listed = [i])) = true)
    {ι : Type} (F : ι → Value) (R : ι → World → Prop) (hR : ∀ x, Clo (R x)) (hy : Fresh P ops S F R oi a)
    (h : ∀ x w0, S w0 → R x w0 → WpG P md ops Q n m L f (listed.setIfInBounds i true) (a.put oi.dst (F x)) (fun w => S w ∧ R x w)) : WpG P md ops Q n m L (f + 1) listed a S := by
  simp only [Bool.and_eq_true, decide_eq_true_eq] at hB
  obtain ⟨hin, hr⟩ := hB
  intro hC hp inv
  refine ⟨by rw [hr]; simp, fun j hj => ?_⟩
  have hj' : j = i := by rw [hr] at hj; simpa using hj
  subst hj'
  refine ⟨hin, fun w hS => hy.wpOp hi hS fun x w' hRx hb => ?_⟩
  exact ⟨_, hC.and (hR x), fun _ hw => hw.1, ⟨hC _ _ hS hb, hRx⟩, h x w' (hC _ _ hS hb) hRx (hC.and (hR x)) hp (inv.set hj hin hp.lt)⟩

/-- one of two comes up, and makes something new -/
theorem WpG.two {i k : Nat} {oi ok : Oper} (hi : ops[i]? = some oi) (hk : ops[k]? = some ok) (hB : (decide (i < n) && decide (k < n) && decide (Region.ready md ops listed = [i, k])) = true)
    {ι κ : Type} (F : ι → Value) (R : ι → World → Prop) (hR : ∀ x, Clo (R x)) (hy : Fresh P ops S F R oi a)
    (F' : κ → Value) (R' : κ → World → Prop) (hR' : ∀ x, Clo (R' x)) (hy' : Fresh P ops S F' R' ok a)
    (h : ∀ x w0, S w0 → R x w0 → WpG P md ops Q n m L f (listed.setIfInBounds i true) (a.put oi.dst (F x)) (fun w => S w ∧ R x w))
    (h' : ∀ x w0, S w0 → R' x w0 → WpG P md ops Q n m L f (listed.setIfInBounds k true) (a.put ok.dst (F' x)) (fun w => S w ∧ R' x w)) : WpG P md ops Q n m L (f + 1) listed a S := by
  simp only [Bool.and_eq_true, decide_eq_true_eq] at hB
  obtain ⟨⟨hin, hkn⟩, hr⟩ := hB
  intro hC hp inv
  refine ⟨by rw [hr]; simp, fun j hj => ?_⟩
  have hj' : j = i ∨ j = k := by rw [hr] at hj; simpa using hj
  rcases hj' with rfl | rfl
  · refine ⟨hin, fun w hS => hy.wpOp hi hS fun x w' hRx hb => ?_⟩
    exact ⟨_, hC.and (hR x), fun _ hw => hw.1, ⟨hC _ _ hS hb, hRx⟩, h x w' (hC _ _ hS hb) hRx (hC.and (hR x)) hp (inv.set hj hin hp.lt)⟩
  · refine ⟨hkn, fun w hS => hy'.wpOp hk hS fun x w' hRx hb => ?_⟩
    exact ⟨_, hC.and (hR' x), fun _ hw => hw.1, ⟨hC _ _ hS hb, hRx⟩, h' x w' (hC _ _ hS hb) hRx (hC.and (hR' x)) hp (inv.set hj hkn hp.lt)⟩

/-- all of the head has come up -/
theorem WpG.done (hB : Region.seqB md ops (m - n) n listed = true) (h : ∀ w, S w → L a w) : WpG P md ops Q n m L 0 listed a S := fun _ _ _ => ⟨hB, h⟩

/-- what is known, said otherwise -/
theorem WpG.weak {S' : World → Prop} (hm : ∀ w, S w → S' w) (hm' : ∀ w, S' w → S w) (h : WpG P md ops Q n m L f listed a S') : WpG P md ops Q n m L f listed a S := by
  have : S = S' := funext fun w => propext ⟨hm w, hm' w⟩
  rw [this]
  exact h

theorem any_G {l : List Oper} {w : World} (hB : partsB md l.toArray n m listed = true) (hC : Clo S) (hS : S w)
    (h : WpG P md l.toArray Q n m (wpList P l.toArray Q ((l.drop n).take (m - n))) f listed a S) : wpAny P md l.toArray Q (f + (m - n)) listed a w := by
  obtain ⟨hp, inv⟩ := parts_of hB
  refine wpAny_of_G (L := wpList P l.toArray Q ((l.drop n).take (m - n))) (fun listed' a' w' hq hl => ?_) f listed a S (h hC hp inv) w hS
  have hlen : ((l.drop n).take (m - n)).length = m - n := by
    have := hp.le
    simp at this ⊢
    omega
  have := any_of_tail (P := P) (md := md) (ops := l.toArray) (Q' := Q) ((l.drop n).take (m - n)) n listed' a' w' (fun j hj => ?_) (by rw [hlen]; exact hq) hl
  · rwa [hlen] at this
  · rw [hlen] at hj
    simp [hj]
end

section
variable {P : Program} {Q : Exit → Act → World → Prop}
theorem region_G {id n m f : Nat} {l : List Oper} {a : Act} {w : World} (hm : P.follows .mixedOrders = true) (hB : partsB .any l.toArray n m (Array.replicate l.length false) = true) (hf : f + (m - n) = l.length)
    (h : WpG P .any l.toArray Q n m (wpList P l.toArray Q ((l.drop n).take (m - n))) f (Array.replicate l.length false) a (Below w.heap.size w)) : (Code.region id l.toArray true).wp P Q a w := by
  refine wp_region_any hm ?_
  have := any_G (w := w.drew) hB (Clo.below w) ((Below.refl _ _).drew) h
  rw [hf] at this
  simpa using this

/-- a new variable -/
theorem Fresh.var {ops : Array Oper} {S : World → Prop} {o : Oper} {a : Act} {B : Nat} (cs : List Value) (t : TypeId) (hw : Region.wanted o (yielded ops a.tmps) = true) (hB : ∀ w, S w → B ≤ w.heap.size)
    (h : ∀ w, S w → (execOp a.eval o).run P w = .ok (.value (.pointer (some ⟨w.heap.size, 0, none⟩))) (w.alloc (.cells cs.toArray t))) {R : Nat → World → Prop} (hR : ∀ w, S w → R w.heap.size (w.alloc (.cells cs.toArray t))) :
    Fresh P ops S (fun b : Nat => .pointer (some ⟨b, 0, none⟩)) (fun b w => B ≤ b ∧ R b w) o a :=
  ⟨hw, fun w hS => by rw [h w hS]; exact ⟨w.heap.size, rfl, ⟨hB w hS, hR w hS⟩, (Below.refl _ _).alloc (Nat.le_refl _) _⟩⟩
/-- a new slice -/
theorem Fresh.slice {ops : Array Oper} {S : World → Prop} {o : Oper} {a : Act} {B : Nat} (k c : Nat) (cs : List Value) (t : TypeId) (hw : Region.wanted o (yielded ops a.tmps) = true) (hB : ∀ w, S w → B ≤ w.heap.size)
    (h : ∀ w, S w → (execOp a.eval o).run P w = .ok (.value (.slice (some ⟨w.heap.size, 0, none⟩) k c)) (w.alloc (.cells cs.toArray t))) {R : Nat → World → Prop} (hR : ∀ w, S w → R w.heap.size (w.alloc (.cells cs.toArray t))) :
    Fresh P ops S (fun b : Nat => .slice (some ⟨b, 0, none⟩) k c) (fun b w => B ≤ b ∧ R b w) o a :=
  ⟨hw, fun w hS => by rw [h w hS]; exact ⟨w.heap.size, rfl, ⟨hB w hS, hR w hS⟩, (Below.refl _ _).alloc (Nat.le_refl _) _⟩⟩
/-- a call whose result is new -/
theorem Fresh.call {ops : Array Oper} {S : World → Prop} {o : Oper} {a : Act} {f : FuncId} {args : Array Value} {ι : Type} {F : ι → Value} {R : ι → World → Prop} (hw : Region.wanted o (yielded ops a.tmps) = true)
    (hc : ∀ w, S w → Calls P f args w (fun e w' => ∃ x, e = .returned (F x) ∧ R x w' ∧ Below w.heap.size w w')) (h : ∀ w, S w → (execOp a.eval o).run P w = .ok (.enter f args) w) : Fresh P ops S F R o a :=
  ⟨hw, fun w hS => by rw [h w hS]; exact Calls.mono (hc w hS) fun e w' ⟨x, he, hr, hb⟩ => ⟨F x, he, x, rfl, hr, hb⟩⟩
end

end Go.Proofs.Ytgambjmjbmdciaa
