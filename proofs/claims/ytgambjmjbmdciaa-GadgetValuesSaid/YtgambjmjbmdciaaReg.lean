/-
  A LAW ON REGIONS THAT DRAW THEIR ORDER, of any program: an operation that yields one value in whatever world is meant, and turns nothing below, is taken first: calls, loads, arithmetic alike.
-/
import Derived.OrdersHeld
import Derived.StillTail
import Derived.WalkKit
namespace Go.Proofs.Ytgambjmjbmdciaa
open Go Go.RowKit

section
variable {P : Program} {ops : Array Oper} {Q : Exit → Act → World → Prop} {md : Region.Mode} {W0 : World → Prop} {S : Array Bool → Act → World → Prop}

/-- the operation yields a value of R, by itself or by a call -/
def UponV (P : Program) (R : Value → World → Prop) : Result Next → Prop
  | .ok (.value v) w' => R v w'
  | .ok (.enter f args) w' => Calls P f args w' (fun e w'' => ∃ v, e = .returned v ∧ R v w'')
  | _ => False

theorem UponV.upon {R : Value → World → Prop} {o : Oper} {a : Act} {K : Act → World → Prop} {r : Result Next} (h : UponV P R r) (hK : ∀ v w', R v w' → K (a.put o.dst v) w') : o.upon P a K Q r := by
  cases r with
  | ok n w' =>
    cases n
    case value v => exact hK v w' h
    case enter f args =>
      refine Calls.mono (show Calls P f args w' (fun e w'' => ∃ v, e = .returned v ∧ R v w'') from h) fun e w'' he => ?_
      obtain ⟨v, rfl, hr⟩ := he
      exact hK v w'' hr
    all_goals exact False.elim h
  | halt x w' => exact False.elim h

/-- in state 'a', in every world of W0, the operation leaves v, and turns nothing below -/
def Det (P : Program) (ops : Array Oper) (W0 : World → Prop) (o : Oper) (v : Value) (a : Act) : Prop :=
  (Region.wanted o (yielded ops a.tmps) = true ∧ ∀ w, W0 w → UponV P (fun u w' => u = v ∧ Below w.heap.size w w') ((execOp a.eval o).run P w)) ∨
  (Region.wanted o (yielded ops a.tmps) = false ∧ v = undef)

theorem Det.wpOp {i : Nat} {o : Oper} {v : Value} {a : Act} (hi : ops[i]? = some o) (hy : Det P ops W0 o v a) {K : Act → World → Prop} {w : World} (hw : W0 w)
    (h : ∀ w', Below w.heap.size w w' → K (a.put o.dst v) w') : wpOp P ops Q i K a w := by
  unfold Go.wpOp
  simp only [hi]
  rcases hy with ⟨hwt, hv⟩ | ⟨hwt, rfl⟩
  · simp only [hwt, if_true]
    refine .inl ?_
    unfold Oper.wp
    refine (hv w hw).upon ?_
    rintro u w' ⟨rfl, hb⟩
    exact h w' hb
  · simp only [hwt, Bool.false_eq_true, if_false]
    exact h w (Below.refl _ _)

theorem Det.of_same {o : Oper} {v : Value} {a a' : Act} (hy : Det P ops W0 o v a) (he : execOp a'.eval o = execOp a.eval o)
    (hw : Region.wanted o (yielded ops a'.tmps) = Region.wanted o (yielded ops a.tmps)) : Det P ops W0 o v a' := by
  unfold Det at *
  rw [he, hw]
  exact hy

/-- what an operation makes of a frame -/
def Trod (o : Oper) (a a' : Act) : Prop := ∃ ds u, a' = ({ a with defers := ds } : Act).put o.dst u

theorem upon_track {o : Oper} {a : Act} {K : Act → World → Prop} {r : Result Next} (h : o.upon P a K Q r) : o.upon P a (fun a' w' => Trod o a a' ∧ K a' w') Q r := by
  cases r with
  | ok n w' =>
    cases n <;> simp only [Oper.upon] at h ⊢
    case value v => exact ⟨⟨a.defers, v, rfl⟩, h⟩
    case skip => exact ⟨⟨a.defers, _, rfl⟩, h⟩
    case defer d => exact ⟨⟨_, _, rfl⟩, h⟩
    case enter f args =>
      refine Calls.mono h fun e w'' he => ?_
      cases e with
      | returned u => exact ⟨⟨a.defers, u, rfl⟩, he⟩
      | panicked c => exact he
      | outgrown => exact he
    case row r args => exact Rows.mono h fun v w'' he => ⟨⟨a.defers, v, rfl⟩, he⟩
  | halt x w' => cases x <;> simp only [Oper.upon] at h ⊢ <;> exact h

theorem wpOp_track {j : Nat} {oj : Oper} (hj : ops[j]? = some oj) {a : Act} {w : World} {K : Act → World → Prop} (h : wpOp P ops Q j K a w) : wpOp P ops Q j (fun a' w' => Trod oj a a' ∧ K a' w') a w := by
  unfold wpOp at *
  simp only [hj] at *
  split
  · rename_i hw
    simp only [hw, if_true] at h
    exact h.imp upon_track id
  · rename_i hw
    simp only [hw] at h
    exact ⟨⟨a.defers, _, rfl⟩, h⟩

theorem Det.trod {oi oj : Oper} {v : Value} {a a' : Act} (hsi : ∀ cs b, oi.op ≠ .select cs b) (hap : oi.apart ops oj = true) (hy : Det P ops W0 oi v a) (ht : Trod oj a a') : Det P ops W0 oi v a' := by
  obtain ⟨ds, u, rfl⟩ := ht
  obtain ⟨_, _, h3⟩ := Oper.apart_spec hap
  have h0 : Det P ops W0 oi v ({ a with defers := ds } : Act) := hy.of_same rfl rfl
  exact h0.of_same (execOp_put oi hsi _ oj.dst u h3) (wanted_put oi _ oj.dst u h3)

theorem wpOp_putDet {j : Nat} {oi oj : Oper} {v : Value} (hj : ops[j]? = some oj) (hap : oi.apart ops oj = true)
    (hsi : ∀ cs b, oi.op ≠ .select cs b) (hsj : ∀ cs b, oj.op ≠ .select cs b)
    (hQ : ∀ c a w, Q (.panic c) (a.put oi.dst v) w → Q (.panic c) a w) {K : Act → World → Prop} {a : Act} {w : World}
    (hy : Det P ops W0 oi v a) (h : wpOp P ops Q j K (a.put oi.dst v) w) :
    wpOp P ops Q j (fun a' w' => Det P ops W0 oi v a' ∧ K (a'.put oi.dst v) w') a w := by
  have hf : YieldsIf P ops (fun _ => False) oi v a := hy.imp (fun h => ⟨h.1, fun _ hF => hF.elim⟩) id
  have h1 := wpOp_track hj (wpOp_putIf hj hap hsi hsj hQ hf h)
  exact wpOp_mono (fun a' w' h2 => ⟨hy.trod hsi hap h2.1, h2.2.2⟩) h1

/-- what is asked of S: it lies within W0; whatever turns nothing below leaves it -/
structure RegS (W0 : World → Prop) (S : Array Bool → Act → World → Prop) : Prop where
  toW : ∀ l a w, S l a w → W0 w
  ext : ∀ l a w w', S l a w → Below w.heap.size w w' → S l a w'

/-- the region's parts: the head (below n, in whatever order), the tail (from n to m, one behind the other), what was taken ahead (from m on) -/
structure HInv (md : Region.Mode) (ops : Array Oper) (n m : Nat) (listed : Array Bool) : Prop where
  size : listed.size = ops.size
  closed : ∀ j oj, ops[j]? = some oj → listed.getD j false = true → ∀ e ∈ oj.after, Region.binds md e = true → listed.getD e.on false = true
  tail : ∀ t, n ≤ t → t < m → listed.getD t true = false
  post : ∀ t, m ≤ t → t < ops.size → listed.getD t true = true

def chainTo (md : Region.Mode) (ops : Array Oper) (n m : Nat) : Bool := (List.range m).all fun t => decide (t ≤ n) || Region.waitsFor md ops t (t - 1)

def closedB (md : Region.Mode) (ops : Array Oper) (listed : Array Bool) : Bool :=
  (List.range ops.size).all fun j => !listed.getD j false || match ops[j]? with
    | some oj => oj.after.all fun e => !Region.binds md e || listed.getD e.on false
    | none => true

def partsB (md : Region.Mode) (ops : Array Oper) (n m : Nat) (listed : Array Bool) : Bool :=
  Region.noSelect ops && decide (n < m) && decide (m ≤ ops.size) && decide (listed.size = ops.size) && closedB md ops listed && Region.sinkB md ops n && chainTo md ops n m &&
    ((List.range ops.size).all fun t => (decide (t < n) || decide (m ≤ t) || !listed.getD t true) && (decide (t < m) || listed.getD t true))

structure Parts (md : Region.Mode) (ops : Array Oper) (n m : Nat) : Prop where
  nosel : Region.noSelect ops = true
  lt : n < m
  le : m ≤ ops.size
  sink : Region.sinkB md ops n = true
  chain : chainTo md ops n m = true

theorem parts_of {n m : Nat} {listed : Array Bool} (h : partsB md ops n m listed = true) : Parts md ops n m ∧ HInv md ops n m listed := by
  simp only [partsB, Bool.and_eq_true, decide_eq_true_eq] at h
  obtain ⟨⟨⟨⟨⟨⟨⟨h1, h2⟩, h3⟩, h4⟩, h5⟩, h6⟩, h7⟩, h8⟩ := h
  refine ⟨⟨h1, h2, h3, h6, h7⟩, h4, ?_, ?_, ?_⟩
  · intro j oj hj hl e he hb
    have hlt := (Array.getElem?_eq_some_iff.1 hj).1
    have h := List.all_eq_true.1 h5 j (List.mem_range.2 hlt)
    simp only [hl, hj, Bool.not_true, Bool.false_or] at h
    have h' := Array.all_eq_true_iff_forall_mem.1 h e he
    simpa [hb] using h'
  · intro t ht htm
    have h := List.all_eq_true.1 h8 t (List.mem_range.2 (by omega))
    simp only [Bool.and_eq_true, Bool.or_eq_true, decide_eq_true_eq] at h
    rcases h.1 with (h' | h') | h'
    · omega
    · omega
    · simpa using h'
  · intro t ht hts
    have h := List.all_eq_true.1 h8 t (List.mem_range.2 hts)
    simp only [Bool.and_eq_true, Bool.or_eq_true, decide_eq_true_eq] at h
    rcases h.2 with h' | h'
    · omega
    · exact h'

theorem HInv.set {n m i : Nat} {listed : Array Bool} (inv : HInv md ops n m listed) (hi : i ∈ Region.ready md ops listed) (hin : i < n) (hnm : n < m) : HInv md ops n m (listed.setIfInBounds i true) := by
  obtain ⟨_, oi, hoi, hall⟩ := mem_ready.1 hi
  refine ⟨by simp [inv.size], fun j oj hj hl e he hb => ?_, fun t ht ht' => by rw [getD_set_ne true (by omega)]; exact inv.tail t ht ht', fun t ht ht' => by rw [getD_set_ne true (by omega)]; exact inv.post t ht ht'⟩
  by_cases hij : i = j
  · subst hij
    have : oj = oi := Option.some.inj (hj.symm.trans hoi)
    subst this
    exact getD_set_true (hall e he hb)
  · rw [getD_set_ne false hij] at hl
    exact getD_set_true (inv.closed j oj hj hl e he hb)

/-- while something of the head is left nothing of the tail comes up -/
theorem head_only {n m : Nat} {listed : Array Bool} (hp : Parts md ops n m) (inv : HInv md ops n m listed) :
    ∀ (d i : Nat), n - i = d → i < n → listed.getD i true = false → ∀ t, n ≤ t → t ∉ Region.ready md ops listed := by
  intro d
  induction d using Nat.strongRecOn with
  | _ d ih =>
    intro i hd hi hun t ht hr
    obtain ⟨hu, ot, hot, hall⟩ := mem_ready.1 hr
    have htlt : t < ops.size := (Array.getElem?_eq_some_iff.1 hot).1
    have htm : t < m := by
      rcases Nat.lt_or_ge t m with h | h
      · exact h
      · rw [inv.post t h htlt] at hu
        cases hu
    by_cases htn : t = n
    · subst htn
      obtain ⟨j, hj, hj2⟩ := List.any_eq_true.1 (List.all_eq_true.1 hp.sink i (List.mem_range.2 hi))
      simp only [Bool.and_eq_true, decide_eq_true_eq] at hj2
      obtain ⟨oj, hoj, e, he, hb, hon⟩ := Region.waitsFor_spec hj2.2
      have hjle : j ≤ t := by have := List.mem_range.1 hj; omega
      by_cases hjt : j = t
      · subst hjt
        have : oj = ot := Option.some.inj (hoj.symm.trans hot)
        subst this
        have h2 := hall e he hb
        rw [hon, getD_both hun] at h2
        cases h2
      · cases hl : listed.getD j false with
        | true =>
          have h2 := inv.closed j oj hoj hl e he hb
          rw [hon, getD_both hun] at h2
          cases h2
        | false =>
          have hjs : j < listed.size := by rw [inv.size]; omega
          exact ih (t - j) (by omega) j rfl (by omega) (getD_in hjs hl) t (Nat.le_refl _) hr
    · have h1 := List.all_eq_true.1 hp.chain t (List.mem_range.2 htm)
      simp only [Bool.or_eq_true, decide_eq_true_eq] at h1
      rcases h1 with h1 | h1
      · omega
      · obtain ⟨o', ho', e, he, hb, hon⟩ := Region.waitsFor_spec h1
        have : o' = ot := Option.some.inj (ho'.symm.trans hot)
        subst this
        have h2 := hall e he hb
        rw [hon, getD_both (inv.tail (t - 1) (by omega) (by omega))] at h2
        cases h2

/-- the head in whatever order, in whatever world meets S; then L -/
def wpH (P : Program) (md : Region.Mode) (ops : Array Oper) (Q : Exit → Act → World → Prop) (n m : Nat) (S : Array Bool → Act → World → Prop) (L : Act → World → Prop) : Nat → Array Bool → Act → Prop
  | 0, listed, a => Region.seqB md ops (m - n) n listed = true ∧ ∀ w, S listed a w → L a w
  | f + 1, listed, a =>
    Region.ready md ops listed ≠ [] ∧
    ∀ i ∈ Region.ready md ops listed, i < n ∧ ∀ w, S listed a w → wpOp P ops Q i (fun a' w' => S (listed.setIfInBounds i true) a' w' ∧ wpH P md ops Q n m S L f (listed.setIfInBounds i true) a') a w

theorem wpAny_of_H {n m : Nat} {L : Act → World → Prop} (hL : ∀ listed a w, Region.seqB md ops (m - n) n listed = true → L a w → wpAny P md ops Q (m - n) listed a w) :
    ∀ (f : Nat) (listed : Array Bool) (a : Act), wpH P md ops Q n m S L f listed a → ∀ w, S listed a w → wpAny P md ops Q (f + (m - n)) listed a w
  | 0, listed, a, h, w, hS => by rw [Nat.zero_add]; exact hL _ _ _ h.1 (h.2 w hS)
  | f + 1, listed, a, h, w, hS => by
    rw [show f + 1 + (m - n) = (f + (m - n)) + 1 by omega]
    exact ⟨fun h0 => absurd h0 h.1, fun i hi => wpOp_mono (fun a' w' h' => wpAny_of_H hL f _ a' h'.2 w' h'.1) ((h.2 i hi).2 w hS)⟩

theorem wpH_first {n m : Nat} {L : Act → World → Prop} (hR : RegS W0 S) (hp : Parts md ops n m) {i : Nat} {oi : Oper} {v : Value} (hi : ops[i]? = some oi) (hin : i < n)
    (hQ : ∀ c a w, Q (.panic c) (a.put oi.dst v) w → Q (.panic c) a w)
    (hup : ∀ l a w, S l a w → S (l.setIfInBounds i true) (a.put oi.dst v) w) (hdn : ∀ l a w, S (l.setIfInBounds i true) (a.put oi.dst v) w → S l a w) :
    ∀ (f : Nat) (listed : Array Bool) (a : Act), HInv md ops n m listed →
      (∀ j oj, ops[j]? = some oj → j ≠ i → listed.getD j true = false → (∀ e ∈ oj.after, Region.binds md e = true → e.on ≠ i) → oi.apart ops oj = true) →
      i ∈ Region.ready md ops listed → Det P ops W0 oi v a →
      wpH P md ops Q n m S L f (listed.setIfInBounds i true) (a.put oi.dst v) → wpH P md ops Q n m S L (f + 1) listed a := by
  have hsel := Region.noSelect_spec hp.nosel
  intro f
  induction f with
  | zero =>
    intro listed a inv _ hr hy H
    have hun := (mem_ready.1 hr).1
    refine ⟨fun h => (by rw [h] at hr; cases hr), fun j hj => ?_⟩
    have hjn : j < n := by
      rcases Nat.lt_or_ge j n with h | h
      · exact h
      · exact absurd hj (head_only hp inv _ i rfl hin hun j h)
    refine ⟨hjn, fun w hS => ?_⟩
    by_cases hji : j = i
    · subst hji
      exact hy.wpOp hi (hR.toW _ _ _ hS) fun w' hb => ⟨hup _ _ _ (hR.ext _ _ _ _ hS hb), H⟩
    · have := seqB_ready H.1 j (ready_mono hj hji)
      omega
  | succ f ih =>
    intro listed a inv hfree hr hy H
    have hun := (mem_ready.1 hr).1
    refine ⟨fun h => (by rw [h] at hr; cases hr), fun j hj => ?_⟩
    have hjn : j < n := by
      rcases Nat.lt_or_ge j n with h | h
      · exact h
      · exact absurd hj (head_only hp inv _ i rfl hin hun j h)
    refine ⟨hjn, fun w hS => ?_⟩
    by_cases hji : j = i
    · subst hji
      exact hy.wpOp hi (hR.toW _ _ _ hS) fun w' hb => ⟨hup _ _ _ (hR.ext _ _ _ _ hS hb), H⟩
    · have h1 := (H.2 j (ready_mono hj hji)).2 w (hup _ _ _ hS)
      obtain ⟨hjun, oj, hoj, hall⟩ := mem_ready.1 hj
      have hnot : ∀ e ∈ oj.after, Region.binds md e = true → e.on ≠ i := fun e he hb heq => by
        have h1 := hall e he hb
        rw [heq, getD_both hun] at h1
        cases h1
      have h2 := wpOp_putDet hoj (hfree j oj hoj hji hjun hnot) (fun cs b => hsel i oi cs b hi) (fun cs b => hsel j oj cs b hoj) hQ hy h1
      have hfree' : ∀ k ok, ops[k]? = some ok → k ≠ i → (listed.setIfInBounds j true).getD k true = false →
          (∀ e ∈ ok.after, Region.binds md e = true → e.on ≠ i) → oi.apart ops ok = true := fun k ok hk hki hu hno => by
        refine hfree k ok hk hki ?_ hno
        by_cases hjk : j = k
        · subst hjk
          exact hjun
        · rw [getD_set_ne true hjk] at hu
          exact hu
      refine wpOp_mono (fun a' w' h3 => ?_) h2
      have hcomm : (listed.setIfInBounds i true).setIfInBounds j true = (listed.setIfInBounds j true).setIfInBounds i true := (Array.setIfInBounds_comm _ _ hji).symm
      rw [hcomm] at h3
      exact ⟨hdn _ _ _ h3.2.1, ih (listed.setIfInBounds j true) a' (inv.set hj hjn hp.lt) hfree' (ready_mono hr (Ne.symm hji)) h3.1 h3.2.2⟩

/-- the walk's own form: the parts' inventory is carried along -/
def WpH (P : Program) (md : Region.Mode) (ops : Array Oper) (Q : Exit → Act → World → Prop) (n m : Nat) (S : Array Bool → Act → World → Prop) (L : Act → World → Prop) (f : Nat) (listed : Array Bool) (a : Act) : Prop :=
  Parts md ops n m → HInv md ops n m listed → wpH P md ops Q n m S L f listed a

/-- take number i first -/
theorem WpH.take {n m : Nat} {L : Act → World → Prop} (hR : RegS W0 S) {i : Nat} {oi : Oper} {v : Value} {f : Nat} {listed : Array Bool} {a : Act} (hi : ops[i]? = some oi)
    (hB : (decide (i < n) && Region.free md ops listed i && (Region.ready md ops listed).contains i) = true)
    (hQ : ∀ c a w, Q (.panic c) (a.put oi.dst v) w → Q (.panic c) a w)
    (hup : ∀ l a w, S l a w → S (l.setIfInBounds i true) (a.put oi.dst v) w) (hdn : ∀ l a w, S (l.setIfInBounds i true) (a.put oi.dst v) w → S l a w)
    (hy : Det P ops W0 oi v a)
    (h : WpH P md ops Q n m S L f (listed.setIfInBounds i true) (a.put oi.dst v)) : WpH P md ops Q n m S L (f + 1) listed a := by
  simp only [Bool.and_eq_true, decide_eq_true_eq] at hB
  obtain ⟨⟨hin, hf⟩, hr⟩ := hB
  have hr' : i ∈ Region.ready md ops listed := by simpa using hr
  exact fun hp inv => wpH_first hR hp hi hin hQ hup hdn f listed a inv (Region.free_spec hi hf) hr' hy (h hp (inv.set hr' hin hp.lt))

/-- number i alone comes up, whatever it leaves -/
theorem WpH.one {n m : Nat} {L : Act → World → Prop} {i : Nat} {f : Nat} {listed : Array Bool} {a : Act}
    (hB : (decide (i < n) && decide (Region.ready md ops listed = [i])) = true)
    (h : ∀ w, S listed a w → wpOp P ops Q i (fun a' w' => S (listed.setIfInBounds i true) a' w' ∧ WpH P md ops Q n m S L f (listed.setIfInBounds i true) a') a w) : WpH P md ops Q n m S L (f + 1) listed a := by
  simp only [Bool.and_eq_true, decide_eq_true_eq] at hB
  obtain ⟨hin, hr⟩ := hB
  intro hp inv
  refine ⟨by rw [hr]; simp, fun j hj => ?_⟩
  have hj' : j = i := by rw [hr] at hj; simpa using hj
  subst hj'
  exact ⟨hin, fun w hS => wpOp_mono (fun a' w' h' => ⟨h'.1, h'.2 hp (inv.set hj hin hp.lt)⟩) (h w hS)⟩

/-- all of the head has come up -/
theorem WpH.done {n m : Nat} {L : Act → World → Prop} {listed : Array Bool} {a : Act} (hB : Region.seqB md ops (m - n) n listed = true) (h : ∀ w, S listed a w → L a w) : WpH P md ops Q n m S L 0 listed a :=
  fun _ _ => ⟨hB, h⟩

theorem any_of_tail {Q' : Exit → Act → World → Prop} : ∀ (l : List Oper) (k : Nat) (listed : Array Bool) (a : Act) (w : World), (∀ j, j < l.length → l[j]? = ops[k + j]?) →
    Region.seqB md ops l.length k listed = true → wpList P ops Q' l a w → wpAny P md ops Q' l.length listed a w
  | [], _, _, _, _, _, hB, h => ⟨by simpa [Region.seqB] using hB, h⟩
  | o :: l, k, listed, a, w, hl, hB, h => by
    have h0 : ops[k]? = some o := by simpa using (hl 0 (by simp)).symm
    simp only [List.length_cons, Region.seqB, Bool.and_eq_true, decide_eq_true_eq] at hB
    refine ⟨fun h1 => (by rw [hB.1] at h1; cases h1), fun i hi => ?_⟩
    rw [hB.1] at hi
    have hik : i = k := by simpa using hi
    subst hik
    have hw : wpOp P ops Q' i (wpList P ops Q' l) a w := by
      unfold wpOp
      simp only [h0]
      exact h
    refine wpOp_mono (fun a' w' h' => any_of_tail l (i + 1) _ a' w' (fun j hj => ?_) hB.2 h') hw
    have := hl (j + 1) (by simp; omega)
    simpa [Nat.add_assoc, Nat.add_comm 1 j] using this

/-- the beginning: from any place of the region on -/
theorem any_H {l : List Oper} {n m f : Nat} {listed : Array Bool} {a : Act} {w : World} (hB : partsB md l.toArray n m listed = true) (hS : S listed a w)
    (h : WpH P md l.toArray Q n m S (wpList P l.toArray Q ((l.drop n).take (m - n))) f listed a) : wpAny P md l.toArray Q (f + (m - n)) listed a w := by
  obtain ⟨hp, inv⟩ := parts_of hB
  refine wpAny_of_H (L := wpList P l.toArray Q ((l.drop n).take (m - n))) (fun listed' a' w' hq hl => ?_) f listed a (h hp inv) w hS
  have hlen : ((l.drop n).take (m - n)).length = m - n := by
    have := hp.le
    simp at this ⊢
    omega
  have := any_of_tail (P := P) (md := md) (ops := l.toArray) (Q' := Q) ((l.drop n).take (m - n)) n listed' a' w' (fun j hj => ?_) (by rw [hlen]; exact hq) hl
  · rwa [hlen] at this
  · rw [hlen] at hj
    simp [hj]

theorem region_H {id n m f : Nat} {l : List Oper} {a : Act} {w : World} (hm : P.follows .mixedOrders = true) (hB : partsB .any l.toArray n m (Array.replicate l.length false) = true) (hf : f + (m - n) = l.length)
    (hS : S (Array.replicate l.length false) a w.drew)
    (h : WpH P .any l.toArray Q n m S (wpList P l.toArray Q ((l.drop n).take (m - n))) f (Array.replicate l.length false) a) : (Code.region id l.toArray true).wp P Q a w := by
  refine wp_region_any hm ?_
  have := any_H hB hS h
  rw [hf] at this
  simpa using this
end

/-- S where nothing new is made -/
def Flat (W0 : World → Prop) (_ : Array Bool) (_ : Act) (w : World) : Prop := W0 w
theorem RegS.flat {W0 : World → Prop} (h : ∀ w w', W0 w → Below w.heap.size w w' → W0 w') : RegS W0 (Flat W0) := ⟨fun _ _ _ hS => hS, fun _ _ w w' hS hb => h w w' hS hb⟩

theorem Det.val {P : Program} {ops : Array Oper} {W0 : World → Prop} {o : Oper} {v : Value} {a : Act} (hw : Region.wanted o (yielded ops a.tmps) = true) (h : ∀ w, W0 w → (execOp a.eval o).run P w = .ok (.value v) w) : Det P ops W0 o v a :=
  .inl ⟨hw, fun w hW => by rw [h w hW]; exact ⟨rfl, Below.refl _ _⟩⟩
theorem Det.call {P : Program} {ops : Array Oper} {W0 : World → Prop} {o : Oper} {v : Value} {a : Act} {f : FuncId} {args : Array Value} (hw : Region.wanted o (yielded ops a.tmps) = true)
    (hc : ∀ w, W0 w → Calls P f args w (fun e w' => e = .returned v ∧ Below w.heap.size w w')) (h : ∀ w, W0 w → (execOp a.eval o).run P w = .ok (.enter f args) w) : Det P ops W0 o v a :=
  .inl ⟨hw, fun w hW => by rw [h w hW]; exact Calls.mono (hc w hW) fun e w' he => ⟨v, he.1, rfl, he.2⟩⟩
theorem Det.skip {P : Program} {ops : Array Oper} {W0 : World → Prop} {o : Oper} {a : Act} (hw : Region.wanted o (yielded ops a.tmps) = false) : Det P ops W0 o undef a := .inr ⟨hw, rfl⟩

/-! ### the usual form: W0 is 'all below is as it was when the region began' -/
section
variable {P : Program} {ops : Array Oper} {Q : Exit → Act → World → Prop} {md : Region.Mode} {W : World}
theorem RegS.below (W : World) : RegS (Below W.heap.size W) (Flat (Below W.heap.size W)) := .flat fun _ _ h hb => h.trans (hb.mono h.size)

theorem region_B {id n m f : Nat} {l : List Oper} {a : Act} {w : World} (hm : P.follows .mixedOrders = true) (hB : partsB .any l.toArray n m (Array.replicate l.length false) = true) (hf : f + (m - n) = l.length)
    (h : WpH P .any l.toArray Q n m (Flat (Below w.heap.size w)) (wpList P l.toArray Q ((l.drop n).take (m - n))) f (Array.replicate l.length false) a) : (Code.region id l.toArray true).wp P Q a w :=
  region_H hm hB hf (show Below w.heap.size w w.drew from (Below.refl _ _).drew) h

theorem WpH.takeB {n m : Nat} {L : Act → World → Prop} {i : Nat} {oi : Oper} {v : Value} {f : Nat} {listed : Array Bool} {a : Act} (hi : ops[i]? = some oi)
    (hB : (decide (i < n) && Region.free md ops listed i && (Region.ready md ops listed).contains i) = true)
    (hQ : ∀ c a w, Q (.panic c) (a.put oi.dst v) w → Q (.panic c) a w)
    (hy : Det P ops (Below W.heap.size W) oi v a)
    (h : WpH P md ops Q n m (Flat (Below W.heap.size W)) L f (listed.setIfInBounds i true) (a.put oi.dst v)) : WpH P md ops Q n m (Flat (Below W.heap.size W)) L (f + 1) listed a :=
  WpH.take (RegS.below W) hi hB hQ (fun _ _ _ h => h) (fun _ _ _ h => h) hy h

theorem WpH.doneB {n m : Nat} {L : Act → World → Prop} {listed : Array Bool} {a : Act} (hB : Region.seqB md ops (m - n) n listed = true) (h : ∀ w, Below W.heap.size W w → L a w) :
    WpH P md ops Q n m (Flat (Below W.heap.size W)) L 0 listed a := WpH.done hB h

theorem wpOp_value {i : Nat} {o : Oper} {v : Value} {a : Act} {w w' : World} {K : Act → World → Prop} (hi : ops[i]? = some o) (hw : Region.wanted o (yielded ops a.tmps) = true)
    (h : (execOp a.eval o).run P w = .ok (.value v) w') (hK : K (a.put o.dst v) w') : wpOp P ops Q i K a w := by
  unfold wpOp
  simp only [hi, hw, if_true]
  refine .inl ?_
  unfold Oper.wp
  rw [h]
  exact hK

/-- S where one new thing is made, by operation k, into slot t -/
def WithNew (W : World) (k : Nat) (t : Tmp) (R : Value → World → Prop) (l : Array Bool) (a : Act) (w : World) : Prop := Below W.heap.size W w ∧ (l.getD k false = true → R (a.tmps.getD t undef) w)
theorem RegS.withNew {k : Nat} {t : Tmp} {R : Value → World → Prop} (hR : ∀ v w w', R v w → Below w.heap.size w w' → R v w') : RegS (Below W.heap.size W) (WithNew W k t R) :=
  ⟨fun _ _ _ h => h.1, fun _ _ _ _ h hb => ⟨h.1.trans (hb.mono h.1.size), fun hk => hR _ _ _ (h.2 hk) hb⟩⟩
theorem withNew_put {k i : Nat} {t : Tmp} {d : Option Tmp} {v : Value} {R : Value → World → Prop} {l : Array Bool} {a : Act} {w : World} (hik : (i == k) = false) (hd : (d == some t) = false) :
    WithNew W k t R (l.setIfInBounds i true) (a.put d v) w = WithNew W k t R l a w := by
  unfold WithNew
  have h1 : (l.setIfInBounds i true).getD k false = l.getD k false := getD_set_ne false (by simpa using hik)
  have h2 : (a.put d v).tmps.getD t undef = a.tmps.getD t undef := by
    cases d with
    | none => rfl
    | some d =>
      have hdt : d ≠ t := by simpa using hd
      simp [Act.put, Array.getElem?_setIfInBounds_ne hdt]
  rw [h1, h2]

theorem WpH.takeN {n m k : Nat} {t : Tmp} {R : Value → World → Prop} {L : Act → World → Prop} (hR : ∀ v w w', R v w → Below w.heap.size w w' → R v w') {i : Nat} {oi : Oper} {v : Value} {f : Nat} {listed : Array Bool} {a : Act} (hi : ops[i]? = some oi)
    (hB : (decide (i < n) && Region.free md ops listed i && (Region.ready md ops listed).contains i) = true) (hik : (i == k) = false) (hd : (oi.dst == some t) = false)
    (hQ : ∀ c a w, Q (.panic c) (a.put oi.dst v) w → Q (.panic c) a w)
    (hy : Det P ops (Below W.heap.size W) oi v a)
    (h : WpH P md ops Q n m (WithNew W k t R) L f (listed.setIfInBounds i true) (a.put oi.dst v)) : WpH P md ops Q n m (WithNew W k t R) L (f + 1) listed a :=
  WpH.take (RegS.withNew hR) hi hB hQ (fun _ _ _ h => by rw [withNew_put hik hd]; exact h) (fun _ _ _ h => by rw [withNew_put hik hd] at h; exact h) hy h

theorem region_N {id n m f : Nat} {l : List Oper} {a : Act} {w : World} (k : Nat) (t : Tmp) (R : Value → World → Prop) (hm : P.follows .mixedOrders = true) (hB : partsB .any l.toArray n m (Array.replicate l.length false) = true) (hf : f + (m - n) = l.length)
    (h : WpH P .any l.toArray Q n m (WithNew w k t R) (wpList P l.toArray Q ((l.drop n).take (m - n))) f (Array.replicate l.length false) a) : (Code.region id l.toArray true).wp P Q a w :=
  region_H hm hB hf ⟨(Below.refl _ _).drew, fun hk => (by rw [getD_replicate_false] at hk; cases hk)⟩ h
end

end Go.Proofs.Ytgambjmjbmdciaa
