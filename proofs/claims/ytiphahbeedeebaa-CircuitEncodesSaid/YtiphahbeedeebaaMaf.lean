/-
  A LAW ON REGIONS THAT DRAW THEIR ORDER, of any program: an operation that yields one value in whatever world is meant, and turns nothing below, is taken first: calls, loads, arithmetic alike.
-/
/-
  SMALL WORDS for walks over elements: a new variable of two cells; stores of an element.
-/
/-
  VARIABLES OF ANY NUMBER OF CELLS.
-/
/-
  WALKS: the reference's Add, Neg, Sub.
-/
/-
  WALKS: the reference's Neg, Sub.
-/
/-
  WALK: the reference's bit.
-/
import Derived.OrdersHeld
import Derived.StillTail
import Derived.WalkKit
import Derived.Test.YtiphahbeedeebaaMae
import Derived.Test.YtiphahbeedeebaaMaa
namespace Go.Proofs.Ytiphahbeedeebaa
open Go Go.RowKit

section
variable {P : Program} {ops : Array Oper} {Q : Exit → Act → World → Prop} {md : Region.Mode} {W0 : World → Prop} {S : Array Bool → Act → World → Prop}

/-- the operation yields a value of R, by itself or by a call -/
def UponV (P : Program) (R : Value → World → Prop) : Result Next → Prop
  | .ok (.value v) w' => R v w'
  | .ok (.enter f args) w' => Calls P f args w' (fun e w'' => ∃ v, e = .returned v ∧ R v w'')
  | _ => False

theorem UponV.upon {R : Value → World → Prop} {o : Oper} {a : Act} {K : Act → World → Prop} {r : Result Next} (h : UponV P R r) (hK : ∀ v w', R v w' → K (a.put o.dst v) w') : o.upon P a K Q r := by
  cases r with
  | ok n w' =>
    cases n
    case value v => exact hK v w' h
    case enter f args =>
      refine Calls.mono (show Calls P f args w' (fun e w'' => ∃ v, e = .returned v ∧ R v w'') from h) fun e w'' he => ?_
      obtain ⟨v, rfl, hr⟩ := he
      exact hK v w'' hr
    all_goals exact False.elim h
  | halt x w' => exact False.elim h

/-- in state 'a', in every world of W0, the operation leaves v, and turns nothing below -/
def Det (P : Program) (ops : Array Oper) (W0 : World → Prop) (o : Oper) (v : Value) (a : Act) : Prop :=
  (Region.wanted o (yielded ops a.tmps) = true ∧ ∀ w, W0 w → UponV P (fun u w' => u = v ∧ Below w.heap.size w w') ((execOp a.eval o).run P w)) ∨
  (Region.wanted o (yielded ops a.tmps) = false ∧ v = undef)

theorem Det.wpOp {i : Nat} {o : Oper} {v : Value} {a : Act} (hi : ops[i]? = some o) (hy : Det P ops W0 o v a) {K : Act → World → Prop} {w : World} (hw : W0 w)
    (h : ∀ w', Below w.heap.size w w' → K (a.put o.dst v) w') : wpOp P ops Q i K a w := by
  unfold Go.wpOp
  simp only [hi]
  rcases hy with ⟨hwt, hv⟩ | ⟨hwt, rfl⟩
  · simp only [hwt, if_true]
    refine .inl ?_
    unfold Oper.wp
    refine (hv w hw).upon ?_
    rintro u w' ⟨rfl, hb⟩
    exact h w' hb
  · simp only [hwt, Bool.false_eq_true, if_false]
    exact h w (Below.refl _ _)

theorem Det.of_same {o : Oper} {v : Value} {a a' : Act} (hy : Det P ops W0 o v a) (he : execOp a'.eval o = execOp a.eval o)
    (hw : Region.wanted o (yielded ops a'.tmps) = Region.wanted o (yielded ops a.tmps)) : Det P ops W0 o v a' := by
  unfold Det at *
  rw [he, hw]
  exact hy

/-- what an operation makes of a frame -/
def Trod (o : Oper) (a a' : Act) : Prop := ∃ ds u, a' = ({ a with defers := ds } : Act).put o.dst u

theorem upon_track {o : Oper} {a : Act} {K : Act → World → Prop} {r : Result Next} (h : o.upon P a K Q r) : o.upon P a (fun a' w' => Trod o a a' ∧ K a' w') Q r := by
  cases r with
  | ok n w' =>
    cases n <;> simp only [Oper.upon] at h ⊢
    case value v => exact ⟨⟨a.defers, v, rfl⟩, h⟩
    case skip => exact ⟨⟨a.defers, _, rfl⟩, h⟩
    case defer d => exact ⟨⟨_, _, rfl⟩, h⟩
    case enter f args =>
      refine Calls.mono h fun e w'' he => ?_
      cases e with
      | returned u => exact ⟨⟨a.defers, u, rfl⟩, he⟩
      | panicked c => exact he
      | outgrown => exact he
    case row r args => exact Rows.mono h fun v w'' he => ⟨⟨a.defers, v, rfl⟩, he⟩
  | halt x w' => cases x <;> simp only [Oper.upon] at h ⊢ <;> exact h

theorem wpOp_track {j : Nat} {oj : Oper} (hj : ops[j]? = some oj) {a : Act} {w : World} {K : Act → World → Prop} (h : wpOp P ops Q j K a w) : wpOp P ops Q j (fun a' w' => Trod oj a a' ∧ K a' w') a w := by
  unfold wpOp at *
  simp only [hj] at *
  split
  · rename_i hw
    simp only [hw, if_true] at h
    exact h.imp upon_track id
  · rename_i hw
    simp only [hw] at h
    exact ⟨⟨a.defers, _, rfl⟩, h⟩

theorem Det.trod {oi oj : Oper} {v : Value} {a a' : Act} (hsi : ∀ cs b, oi.op ≠ .select cs b) (hap : oi.apart ops oj = true) (hy : Det P ops W0 oi v a) (ht : Trod oj a a') : Det P ops W0 oi v a' := by
  obtain ⟨ds, u, rfl⟩ := ht
  obtain ⟨_, _, h3⟩ := Oper.apart_spec hap
  have h0 : Det P ops W0 oi v ({ a with defers := ds } : Act) := hy.of_same rfl rfl
  exact h0.of_same (execOp_put oi hsi _ oj.dst u h3) (wanted_put oi _ oj.dst u h3)

theorem wpOp_putDet {j : Nat} {oi oj : Oper} {v : Value} (hj : ops[j]? = some oj) (hap : oi.apart ops oj = true)
    (hsi : ∀ cs b, oi.op ≠ .select cs b) (hsj : ∀ cs b, oj.op ≠ .select cs b)
    (hQ : ∀ c a w, Q (.panic c) (a.put oi.dst v) w → Q (.panic c) a w) {K : Act → World → Prop} {a : Act} {w : World}
    (hy : Det P ops W0 oi v a) (h : wpOp P ops Q j K (a.put oi.dst v) w) :
    wpOp P ops Q j (fun a' w' => Det P ops W0 oi v a' ∧ K (a'.put oi.dst v) w') a w := by
  have hf : YieldsIf P ops (fun _ => False) oi v a := hy.imp (fun h => ⟨h.1, fun _ hF => hF.elim⟩) id
  have h1 := wpOp_track hj (wpOp_putIf hj hap hsi hsj hQ hf h)
  exact wpOp_mono (fun a' w' h2 => ⟨hy.trod hsi hap h2.1, h2.2.2⟩) h1

/-- what is asked of S: it lies within W0; whatever turns nothing below leaves it -/
structure RegS (W0 : World → Prop) (S : Array Bool → Act → World → Prop) : Prop where
  toW : ∀ l a w, S l a w → W0 w
  ext : ∀ l a w w', S l a w → Below w.heap.size w w' → S l a w'

/-- the region's parts: the head (below n, in whatever order), the tail (from n to m, one behind the other), what was taken ahead (from m on) -/
structure HInv (md : Region.Mode) (ops : Array Oper) (n m : Nat) (listed : Array Bool) : Prop where
  size : listed.size = ops.size
  closed : ∀ j oj, ops[j]? = some oj → listed.getD j false = true → ∀ e ∈ oj.after, Region.binds md e = true → listed.getD e.on false = true
  tail : ∀ t, n ≤ t → t < m → listed.getD t true = false
  post : ∀ t, m ≤ t → t < ops.size → listed.getD t true = true

def chainTo (md : Region.Mode) (ops : Array Oper) (n m : Nat) : Bool := (List.range m).all fun t => decide (t ≤ n) || Region.waitsFor md ops t (t - 1)

def closedB (md : Region.Mode) (ops : Array Oper) (listed : Array Bool) : Bool :=
  (List.range ops.size).all fun j => !listed.getD j false || match ops[j]? with
    | some oj => oj.after.all fun e => !Region.binds md e || listed.getD e.on false
    | none => true

def partsB (md : Region.Mode) (ops : Array Oper) (n m : Nat) (listed : Array Bool) : Bool :=
  Region.noSelect ops && decide (n ≤ m) && decide (m ≤ ops.size) && decide (listed.size = ops.size) && closedB md ops listed && (decide (ops.size ≤ n) || Region.sinkB md ops n) && chainTo md ops n m &&
    ((List.range ops.size).all fun t => (decide (t < n) || decide (m ≤ t) || !listed.getD t true) && (decide (t < m) || listed.getD t true))

structure Parts (md : Region.Mode) (ops : Array Oper) (n m : Nat) : Prop where
  nosel : Region.noSelect ops = true
  lt : n ≤ m
  le : m ≤ ops.size
  sink : ops.size ≤ n ∨ Region.sinkB md ops n = true
  chain : chainTo md ops n m = true

theorem parts_of {n m : Nat} {listed : Array Bool} (h : partsB md ops n m listed = true) : Parts md ops n m ∧ HInv md ops n m listed := by
  simp only [partsB, Bool.and_eq_true, decide_eq_true_eq] at h
  obtain ⟨⟨⟨⟨⟨⟨⟨h1, h2⟩, h3⟩, h4⟩, h5⟩, h6⟩, h7⟩, h8⟩ := h
  refine ⟨⟨h1, h2, h3, by simpa using h6, h7⟩, h4, ?_, ?_, ?_⟩
  · intro j oj hj hl e he hb
    have hlt := (Array.getElem?_eq_some_iff.1 hj).1
    have h := List.all_eq_true.1 h5 j (List.mem_range.2 hlt)
    simp only [hl, hj, Bool.not_true, Bool.false_or] at h
    have h' := Array.all_eq_true_iff_forall_mem.1 h e he
    simpa [hb] using h'
  · intro t ht htm
    have h := List.all_eq_true.1 h8 t (List.mem_range.2 (by omega))
    simp only [Bool.and_eq_true, Bool.or_eq_true, decide_eq_true_eq] at h
    rcases h.1 with (h' | h') | h'
    · omega
    · omega
    · simpa using h'
  · intro t ht hts
    have h := List.all_eq_true.1 h8 t (List.mem_range.2 hts)
    simp only [Bool.and_eq_true, Bool.or_eq_true, decide_eq_true_eq] at h
    rcases h.2 with h' | h'
    · omega
    · exact h'

theorem HInv.set {n m i : Nat} {listed : Array Bool} (inv : HInv md ops n m listed) (hi : i ∈ Region.ready md ops listed) (hin : i < n) (hnm : n ≤ m) : HInv md ops n m (listed.setIfInBounds i true) := by
  obtain ⟨_, oi, hoi, hall⟩ := mem_ready.1 hi
  refine ⟨by simp [inv.size], fun j oj hj hl e he hb => ?_, fun t ht ht' => by rw [getD_set_ne true (by omega)]; exact inv.tail t ht ht', fun t ht ht' => by rw [getD_set_ne true (by omega)]; exact inv.post t ht ht'⟩
  by_cases hij : i = j
  · subst hij
    have : oj = oi := Option.some.inj (hj.symm.trans hoi)
    subst this
    exact getD_set_true (hall e he hb)
  · rw [getD_set_ne false hij] at hl
    exact getD_set_true (inv.closed j oj hj hl e he hb)

/-- while something of the head is left nothing of the tail comes up -/
theorem head_only {n m : Nat} {listed : Array Bool} (hp : Parts md ops n m) (inv : HInv md ops n m listed) :
    ∀ (d i : Nat), n - i = d → i < n → listed.getD i true = false → ∀ t, n ≤ t → t ∉ Region.ready md ops listed := by
  intro d
  induction d using Nat.strongRecOn with
  | _ d ih =>
    intro i hd hi hun t ht hr
    obtain ⟨hu, ot, hot, hall⟩ := mem_ready.1 hr
    have htlt : t < ops.size := (Array.getElem?_eq_some_iff.1 hot).1
    have htm : t < m := by
      rcases Nat.lt_or_ge t m with h | h
      · exact h
      · rw [inv.post t h htlt] at hu
        cases hu
    by_cases htn : t = n
    · subst htn
      have hsk : Region.sinkB md ops t = true := hp.sink.resolve_left (by omega)
      obtain ⟨j, hj, hj2⟩ := List.any_eq_true.1 (List.all_eq_true.1 hsk i (List.mem_range.2 hi))
      simp only [Bool.and_eq_true, decide_eq_true_eq] at hj2
      obtain ⟨oj, hoj, e, he, hb, hon⟩ := Region.waitsFor_spec hj2.2
      have hjle : j ≤ t := by have := List.mem_range.1 hj; omega
      by_cases hjt : j = t
      · subst hjt
        have : oj = ot := Option.some.inj (hoj.symm.trans hot)
        subst this
        have h2 := hall e he hb
        rw [hon, getD_both hun] at h2
        cases h2
      · cases hl : listed.getD j false with
        | true =>
          have h2 := inv.closed j oj hoj hl e he hb
          rw [hon, getD_both hun] at h2
          cases h2
        | false =>
          have hjs : j < listed.size := by rw [inv.size]; omega
          exact ih (t - j) (by omega) j rfl (by omega) (getD_in hjs hl) t (Nat.le_refl _) hr
    · have h1 := List.all_eq_true.1 hp.chain t (List.mem_range.2 htm)
      simp only [Bool.or_eq_true, decide_eq_true_eq] at h1
      rcases h1 with h1 | h1
      · omega
      · obtain ⟨o', ho', e, he, hb, hon⟩ := Region.waitsFor_spec h1
        have : o' = ot := Option.some.inj (ho'.symm.trans hot)
        subst this
        have h2 := hall e he hb
        rw [hon, getD_both (inv.tail (t - 1) (by omega) (by omega))] at h2
        cases h2

/-- the head in whatever order, in whatever world meets S; then L -/
def wpH (P : Program) (md : Region.Mode) (ops : Array Oper) (Q : Exit → Act → World → Prop) (n m : Nat) (S : Array Bool → Act → World → Prop) (L : Act → World → Prop) : Nat → Array Bool → Act → Prop
  | 0, listed, a => Region.seqB md ops (m - n) n listed = true ∧ ∀ w, S listed a w → L a w
  | f + 1, listed, a =>
    Region.ready md ops listed ≠ [] ∧
    ∀ i ∈ Region.ready md ops listed, i < n ∧ ∀ w, S listed a w → wpOp P ops Q i (fun a' w' => S (listed.setIfInBounds i true) a' w' ∧ wpH P md ops Q n m S L f (listed.setIfInBounds i true) a') a w

theorem wpAny_of_H {n m : Nat} {L : Act → World → Prop} (hL : ∀ listed a w, Region.seqB md ops (m - n) n listed = true → L a w → wpAny P md ops Q (m - n) listed a w) :
    ∀ (f : Nat) (listed : Array Bool) (a : Act), wpH P md ops Q n m S L f listed a → ∀ w, S listed a w → wpAny P md ops Q (f + (m - n)) listed a w
  | 0, listed, a, h, w, hS => by rw [Nat.zero_add]; exact hL _ _ _ h.1 (h.2 w hS)
  | f + 1, listed, a, h, w, hS => by
    rw [show f + 1 + (m - n) = (f + (m - n)) + 1 by omega]
    exact ⟨fun h0 => absurd h0 h.1, fun i hi => wpOp_mono (fun a' w' h' => wpAny_of_H hL f _ a' h'.2 w' h'.1) ((h.2 i hi).2 w hS)⟩

theorem wpH_first {n m : Nat} {L : Act → World → Prop} (hR : RegS W0 S) (hp : Parts md ops n m) {i : Nat} {oi : Oper} {v : Value} (hi : ops[i]? = some oi) (hin : i < n)
    (hQ : ∀ c a w, Q (.panic c) (a.put oi.dst v) w → Q (.panic c) a w)
    (hup : ∀ l a w, S l a w → S (l.setIfInBounds i true) (a.put oi.dst v) w) (hdn : ∀ l a w, S (l.setIfInBounds i true) (a.put oi.dst v) w → S l a w) :
    ∀ (f : Nat) (listed : Array Bool) (a : Act), HInv md ops n m listed →
      (∀ j oj, ops[j]? = some oj → j ≠ i → listed.getD j true = false → (∀ e ∈ oj.after, Region.binds md e = true → e.on ≠ i) → oi.apart ops oj = true) →
      i ∈ Region.ready md ops listed → Det P ops W0 oi v a →
      wpH P md ops Q n m S L f (listed.setIfInBounds i true) (a.put oi.dst v) → wpH P md ops Q n m S L (f + 1) listed a := by
  have hsel := Region.noSelect_spec hp.nosel
  intro f
  induction f with
  | zero =>
    intro listed a inv _ hr hy H
    have hun := (mem_ready.1 hr).1
    refine ⟨fun h => (by rw [h] at hr; cases hr), fun j hj => ?_⟩
    have hjn : j < n := by
      rcases Nat.lt_or_ge j n with h | h
      · exact h
      · exact absurd hj (head_only hp inv _ i rfl hin hun j h)
    refine ⟨hjn, fun w hS => ?_⟩
    by_cases hji : j = i
    · subst hji
      exact hy.wpOp hi (hR.toW _ _ _ hS) fun w' hb => ⟨hup _ _ _ (hR.ext _ _ _ _ hS hb), H⟩
    · have := seqB_ready H.1 j (ready_mono hj hji)
      omega
  | succ f ih =>
    intro listed a inv hfree hr hy H
    have hun := (mem_ready.1 hr).1
    refine ⟨fun h => (by rw [h] at hr; cases hr), fun j hj => ?_⟩
    have hjn : j < n := by
      rcases Nat.lt_or_ge j n with h | h
      · exact h
      · exact absurd hj (head_only hp inv _ i rfl hin hun j h)
    refine ⟨hjn, fun w hS => ?_⟩
    by_cases hji : j = i
    · subst hji
      exact hy.wpOp hi (hR.toW _ _ _ hS) fun w' hb => ⟨hup _ _ _ (hR.ext _ _ _ _ hS hb), H⟩
    · have h1 := (H.2 j (ready_mono hj hji)).2 w (hup _ _ _ hS)
      obtain ⟨hjun, oj, hoj, hall⟩ := mem_ready.1 hj
      have hnot : ∀ e ∈ oj.after, Region.binds md e = true → e.on ≠ i := fun e he hb heq => by
        have h1 := hall e he hb
        rw [heq, getD_both hun] at h1
        cases h1
      have h2 := wpOp_putDet hoj (hfree j oj hoj hji hjun hnot) (fun cs b => hsel i oi cs b hi) (fun cs b => hsel j oj cs b hoj) hQ hy h1
      have hfree' : ∀ k ok, ops[k]? = some ok → k ≠ i → (listed.setIfInBounds j true).getD k true = false →
          (∀ e ∈ ok.after, Region.binds md e = true → e.on ≠ i) → oi.apart ops ok = true := fun k ok hk hki hu hno => by
        refine hfree k ok hk hki ?_ hno
        by_cases hjk : j = k
        · subst hjk
          exact hjun
        · rw [getD_set_ne true hjk] at hu
          exact hu
      refine wpOp_mono (fun a' w' h3 => ?_) h2
      have hcomm : (listed.setIfInBounds i true).setIfInBounds j true = (listed.setIfInBounds j true).setIfInBounds i true := (Array.setIfInBounds_comm _ _ hji).symm
      rw [hcomm] at h3
      exact ⟨hdn _ _ _ h3.2.1, ih (listed.setIfInBounds j true) a' (inv.set hj hjn hp.lt) hfree' (ready_mono hr (Ne.symm hji)) h3.1 h3.2.2⟩

/-- the walk's own form: the parts' inventory is carried along -/
def WpH (P : Program) (md : Region.Mode) (ops : Array Oper) (Q : Exit → Act → World → Prop) (n m : Nat) (S : Array Bool → Act → World → Prop) (L : Act → World → Prop) (f : Nat) (listed : Array Bool) (a : Act) : Prop :=
  Parts md ops n m → HInv md ops n m listed → wpH P md ops Q n m S L f listed a

/-- take number i first -/
theorem WpH.take {n m : Nat} {L : Act → World → Prop} (hR : RegS W0 S) {i : Nat} {oi : Oper} {v : Value} {f : Nat} {listed : Array Bool} {a : Act} (hi : ops[i]? = some oi)
    (hB : (decide (i < n) && Region.free md ops listed i && (Region.ready md ops listed).contains i) = true)
    (hQ : ∀ c a w, Q (.panic c) (a.put oi.dst v) w → Q (.panic c) a w)
    (hup : ∀ l a w, S l a w → S (l.setIfInBounds i true) (a.put oi.dst v) w) (hdn : ∀ l a w, S (l.setIfInBounds i true) (a.put oi.dst v) w → S l a w)
    (hy : Det P ops W0 oi v a)
    (h : WpH P md ops Q n m S L f (listed.setIfInBounds i true) (a.put oi.dst v)) : WpH P md ops Q n m S L (f + 1) listed a := by
  simp only [Bool.and_eq_true, decide_eq_true_eq] at hB
  obtain ⟨⟨hin, hf⟩, hr⟩ := hB
  have hr' : i ∈ Region.ready md ops listed := by simpa using hr
  exact fun hp inv => wpH_first hR hp hi hin hQ hup hdn f listed a inv (Region.free_spec hi hf) hr' hy (h hp (inv.set hr' hin hp.lt))

/-- number i alone comes up, whatever it leaves -/
theorem WpH.one {n m : Nat} {L : Act → World → Prop} {i : Nat} {f : Nat} {listed : Array Bool} {a : Act}
    (hB : (decide (i < n) && decide (Region.ready md ops listed = [i])) = true)
    (h : ∀ w, S listed a w → wpOp P ops Q i (fun a' w' => S (listed.setIfInBounds i true) a' w' ∧ WpH P md ops Q n m S L f (listed.setIfInBounds i true) a') a w) : WpH P md ops Q n m S L (f + 1) listed a := by
  simp only [Bool.and_eq_true, decide_eq_true_eq] at hB
  obtain ⟨hin, hr⟩ := hB
  intro hp inv
  refine ⟨by rw [hr]; simp, fun j hj => ?_⟩
  have hj' : j = i := by rw [hr] at hj; simpa using hj
  subst hj'
  exact ⟨hin, fun w hS => wpOp_mono (fun a' w' h' => ⟨h'.1, h'.2 hp (inv.set hj hin hp.lt)⟩) (h w hS)⟩

/-- all of the head has come up -/
theorem WpH.done {n m : Nat} {L : Act → World → Prop} {listed : Array Bool} {a : Act} (hB : Region.seqB md ops (m - n) n listed = true) (h : ∀ w, S listed a w → L a w) : WpH P md ops Q n m S L 0 listed a :=
  fun _ _ => ⟨hB, h⟩

theorem any_of_tail {Q' : Exit → Act → World → Prop} : ∀ (l : List Oper) (k : Nat) (listed : Array Bool) (a : Act) (w : World), (∀ j, j < l.length → l[j]? = ops[k + j]?) →
    Region.seqB md ops l.length k listed = true → wpList P ops Q' l a w → wpAny P md ops Q' l.length listed a w
  | [], _, _, _, _, _, hB, h => ⟨by simpa [Region.seqB] using hB, h⟩
  | o :: l, k, listed, a, w, hl, hB, h => by
    have h0 : ops[k]? = some o := by simpa using (hl 0 (by simp)).symm
    simp only [List.length_cons, Region.seqB, Bool.and_eq_true, decide_eq_true_eq] at hB
    refine ⟨fun h1 => (by rw [hB.1] at h1; cases h1), fun i hi => ?_⟩
    rw [hB.1] at hi
    have hik : i = k := by simpa using hi
    subst hik
    have hw : wpOp P ops Q' i (wpList P ops Q' l) a w := by
      unfold wpOp
      simp only [h0]
      exact h
    refine wpOp_mono (fun a' w' h' => any_of_tail l (i + 1) _ a' w' (fun j hj => ?_) hB.2 h') hw
    have := hl (j + 1) (by simp; omega)
    simpa [Nat.add_assoc, Nat.add_comm 1 j] using this

/-- the beginning: from any place of the region on -/
theorem any_H {l : List Oper} {n m f : Nat} {listed : Array Bool} {a : Act} {w : World} (hB : partsB md l.toArray n m listed = true) (hS : S listed a w)
    (h : WpH P md l.toArray Q n m S (wpList P l.toArray Q ((l.drop n).take (m - n))) f listed a) : wpAny P md l.toArray Q (f + (m - n)) listed a w := by
  obtain ⟨hp, inv⟩ := parts_of hB
  refine wpAny_of_H (L := wpList P l.toArray Q ((l.drop n).take (m - n))) (fun listed' a' w' hq hl => ?_) f listed a (h hp inv) w hS
  have hlen : ((l.drop n).take (m - n)).length = m - n := by
    have := hp.le
    simp at this ⊢
    omega
  have := any_of_tail (P := P) (md := md) (ops := l.toArray) (Q' := Q) ((l.drop n).take (m - n)) n listed' a' w' (fun j hj => ?_) (by rw [hlen]; exact hq) hl
  · rwa [hlen] at this
  · rw [hlen] at hj
    simp [hj]

theorem region_H {id n m f : Nat} {l : List Oper} {a : Act} {w : World} (hm : P.follows .mixedOrders = true) (hB : partsB .any l.toArray n m (Array.replicate l.length false) = true) (hf : f + (m - n) = l.length)
    (hS : S (Array.replicate l.length false) a w.drew)
    (h : WpH P .any l.toArray Q n m S (wpList P l.toArray Q ((l.drop n).take (m - n))) f (Array.replicate l.length false) a) : (Code.region id l.toArray true).wp P Q a w := by
  refine wp_region_any hm ?_
  have := any_H hB hS h
  rw [hf] at this
  simpa using this
end

/-- S where nothing new is made -/
def Flat (W0 : World → Prop) (_ : Array Bool) (_ : Act) (w : World) : Prop := W0 w
theorem RegS.flat {W0 : World → Prop} (h : ∀ w w', W0 w → Below w.heap.size w w' → W0 w') : RegS W0 (Flat W0) := ⟨fun _ _ _ hS => hS, fun _ _ w w' hS hb => h w w' hS hb⟩

theorem Det.val {P : Program} {ops : Array Oper} {W0 : World → Prop} {o : Oper} {v : Value} {a : Act} (hw : Region.wanted o (yielded ops a.tmps) = true) (h : ∀ w, W0 w → (execOp a.eval o).run P w = .ok (.value v) w) : Det P ops W0 o v a :=
  .inl ⟨hw, fun w hW => by rw [h w hW]; exact ⟨rfl, Below.refl _ _⟩⟩
theorem Det.call {P : Program} {ops : Array Oper} {W0 : World → Prop} {o : Oper} {v : Value} {a : Act} {f : FuncId} {args : Array Value} (hw : Region.wanted o (yielded ops a.tmps) = true)
    (hc : ∀ w, W0 w → Calls P f args w (fun e w' => e = .returned v ∧ Below w.heap.size w w')) (h : ∀ w, W0 w → (execOp a.eval o).run P w = .ok (.enter f args) w) : Det P ops W0 o v a :=
  .inl ⟨hw, fun w hW => by rw [h w hW]; exact Calls.mono (hc w hW) fun e w' he => ⟨v, he.1, rfl, he.2⟩⟩
theorem Det.skip {P : Program} {ops : Array Oper} {W0 : World → Prop} {o : Oper} {a : Act} (hw : Region.wanted o (yielded ops a.tmps) = false) : Det P ops W0 o undef a := .inr ⟨hw, rfl⟩

/-! ### the usual form: W0 is 'all below is as it was when the region began' -/
section
variable {P : Program} {ops : Array Oper} {Q : Exit → Act → World → Prop} {md : Region.Mode} {W : World}
theorem RegS.below (W : World) : RegS (Below W.heap.size W) (Flat (Below W.heap.size W)) := .flat fun _ _ h hb => h.trans (hb.mono h.size)

theorem region_B {id n m f : Nat} {l : List Oper} {a : Act} {w : World} (hm : P.follows .mixedOrders = true) (hB : partsB .any l.toArray n m (Array.replicate l.length false) = true) (hf : f + (m - n) = l.length)
    (h : WpH P .any l.toArray Q n m (Flat (Below w.heap.size w)) (wpList P l.toArray Q ((l.drop n).take (m - n))) f (Array.replicate l.length false) a) : (Code.region id l.toArray true).wp P Q a w :=
  region_H hm hB hf (show Below w.heap.size w w.drew from (Below.refl _ _).drew) h

theorem WpH.takeB {n m : Nat} {L : Act → World → Prop} {i : Nat} {oi : Oper} {v : Value} {f : Nat} {listed : Array Bool} {a : Act} (hi : ops[i]? = some oi)
    (hB : (decide (i < n) && Region.free md ops listed i && (Region.ready md ops listed).contains i) = true)
    (hQ : ∀ c a w, Q (.panic c) (a.put oi.dst v) w → Q (.panic c) a w)
    (hy : Det P ops (Below W.heap.size W) oi v a)
    (h : WpH P md ops Q n m (Flat (Below W.heap.size W)) L f (listed.setIfInBounds i true) (a.put oi.dst v)) : WpH P md ops Q n m (Flat (Below W.heap.size W)) L (f + 1) listed a :=
  WpH.take (RegS.below W) hi hB hQ (fun _ _ _ h => h) (fun _ _ _ h => h) hy h

theorem WpH.doneB {n m : Nat} {L : Act → World → Prop} {listed : Array Bool} {a : Act} (hB : Region.seqB md ops (m - n) n listed = true) (h : ∀ w, Below W.heap.size W w → L a w) :
    WpH P md ops Q n m (Flat (Below W.heap.size W)) L 0 listed a := WpH.done hB h

theorem wpOp_value {i : Nat} {o : Oper} {v : Value} {a : Act} {w w' : World} {K : Act → World → Prop} (hi : ops[i]? = some o) (hw : Region.wanted o (yielded ops a.tmps) = true)
    (h : (execOp a.eval o).run P w = .ok (.value v) w') (hK : K (a.put o.dst v) w') : wpOp P ops Q i K a w := by
  unfold wpOp
  simp only [hi, hw, if_true]
  refine .inl ?_
  unfold Oper.wp
  rw [h]
  exact hK

/-- S where one new thing is made, by operation k, into slot t -/
def WithNew (W : World) (k : Nat) (t : Tmp) (R : Value → World → Prop) (l : Array Bool) (a : Act) (w : World) : Prop := Below W.heap.size W w ∧ (l.getD k false = true → R (a.tmps.getD t undef) w)
theorem RegS.withNew {k : Nat} {t : Tmp} {R : Value → World → Prop} (hR : ∀ v w w', R v w → Below w.heap.size w w' → R v w') : RegS (Below W.heap.size W) (WithNew W k t R) :=
  ⟨fun _ _ _ h => h.1, fun _ _ _ _ h hb => ⟨h.1.trans (hb.mono h.1.size), fun hk => hR _ _ _ (h.2 hk) hb⟩⟩
theorem withNew_put {k i : Nat} {t : Tmp} {d : Option Tmp} {v : Value} {R : Value → World → Prop} {l : Array Bool} {a : Act} {w : World} (hik : (i == k) = false) (hd : (d == some t) = false) :
    WithNew W k t R (l.setIfInBounds i true) (a.put d v) w = WithNew W k t R l a w := by
  unfold WithNew
  have h1 : (l.setIfInBounds i true).getD k false = l.getD k false := getD_set_ne false (by simpa using hik)
  have h2 : (a.put d v).tmps.getD t undef = a.tmps.getD t undef := by
    cases d with
    | none => rfl
    | some d =>
      have hdt : d ≠ t := by simpa using hd
      simp [Act.put, Array.getElem?_setIfInBounds_ne hdt]
  rw [h1, h2]

theorem WpH.takeN {n m k : Nat} {t : Tmp} {R : Value → World → Prop} {L : Act → World → Prop} (hR : ∀ v w w', R v w → Below w.heap.size w w' → R v w') {i : Nat} {oi : Oper} {v : Value} {f : Nat} {listed : Array Bool} {a : Act} (hi : ops[i]? = some oi)
    (hB : (decide (i < n) && Region.free md ops listed i && (Region.ready md ops listed).contains i) = true) (hik : (i == k) = false) (hd : (oi.dst == some t) = false)
    (hQ : ∀ c a w, Q (.panic c) (a.put oi.dst v) w → Q (.panic c) a w)
    (hy : Det P ops (Below W.heap.size W) oi v a)
    (h : WpH P md ops Q n m (WithNew W k t R) L f (listed.setIfInBounds i true) (a.put oi.dst v)) : WpH P md ops Q n m (WithNew W k t R) L (f + 1) listed a :=
  WpH.take (RegS.withNew hR) hi hB hQ (fun _ _ _ h => by rw [withNew_put hik hd]; exact h) (fun _ _ _ h => by rw [withNew_put hik hd] at h; exact h) hy h

theorem region_N {id n m f : Nat} {l : List Oper} {a : Act} {w : World} (k : Nat) (t : Tmp) (R : Value → World → Prop) (hm : P.follows .mixedOrders = true) (hB : partsB .any l.toArray n m (Array.replicate l.length false) = true) (hf : f + (m - n) = l.length)
    (h : WpH P .any l.toArray Q n m (WithNew w k t R) (wpList P l.toArray Q ((l.drop n).take (m - n))) f (Array.replicate l.length false) a) : (Code.region id l.toArray true).wp P Q a w :=
  region_H hm hB hf ⟨(Below.refl _ _).drew, fun hk => (by rw [getD_replicate_false] at hk; cases hk)⟩ h
end

end Go.Proofs.Ytiphahbeedeebaa

namespace Go.Proofs.Ytiphahbeedeebaa
open Go.RowKit Fm
set_option linter.unusedVariables false
set_option maxRecDepth 100000

theorem isF2 : IsF 2 := ⟨.inr rfl⟩
theorem isF1 : IsF 1 := ⟨.inl rfl⟩

/-- a new variable of two limbs -/
def NewE (B : Nat) (v : Value) (w : World) : Prop := ∃ b, v = .pointer (some ⟨b, 0, none⟩) ∧ B ≤ b ∧ V2 w b (.int .u64 0) (.int .u64 0)
theorem newE_stable (B : Nat) : ∀ v w w', NewE B v w → Below w.heap.size w w' → NewE B v w' := fun _ _ _ ⟨b, h1, h2, h3⟩ hb => ⟨b, h1, h2, h3.call hb⟩

theorem V2.oth {w : World} {b c : Nat} {u v : Value} (h : V2 w c u v) (hne : b ≠ c) (x y : Value) : V2 ((w.setCell ⟨b, 0, none⟩ x).setCell ⟨b, 1, none⟩ y) c u v :=
  (h.setOther (by exact hne) x).setOther (by exact hne) y
theorem bl_st {B b : Nat} {a w : World} (h : Below B a w) (hp : B ≤ b) (x y : Value) : Below B a ((w.setCell ⟨b, 0, none⟩ x).setCell ⟨b, 1, none⟩ y) := bl_set (bl_set h hp x) hp y
theorem size_st {b : Nat} {w : World} (x y : Value) : ((w.setCell ⟨b, 0, none⟩ x).setCell ⟨b, 1, none⟩ y).heap.size = w.heap.size := by simp [World.setCell]

theorem vK_zero {f : Nat} : vK (0 : Fin (Pm f)) = .agg #[.int .u64 0, .int .u64 0] := by rw [show vK (0 : Fin (Pm f)) = .agg #[.int .u64 (lo (0 : Fin (Pm f))), .int .u64 (hi (0 : Fin (Pm f)))] from rfl, lo_zero, hi_zero]
theorem vK_one {f : Nat} : vK (1 : Fin (Pm f)) = .agg #[.int .u64 1, .int .u64 0] := by rw [show vK (1 : Fin (Pm f)) = .agg #[.int .u64 (lo (1 : Fin (Pm f))), .int .u64 (hi (1 : Fin (Pm f)))] from rfl, lo_one, hi_one]

/-- an element whose number is n -/
theorem RetE.det {n : Int} {w : World} {e : Ending} {w' : World} (h : RetE n w e w') {z0 z1 : Int} (hz : z0 + 18446744073709551616 * z1 = n) (h0 : 0 ≤ z0) (h1 : z0 ≤ 18446744073709551615) :
    e = .returned (.agg #[.int .u64 z0, .int .u64 z1]) ∧ Below w.heap.size w w' := by
  obtain ⟨x0, x1, rfl, ⟨g0, g1, g2, g3⟩, HX, hb⟩ := h
  have hx := HX.out
  obtain rfl : x0 = z0 := by omega
  obtain rfl : x1 = z1 := by omega
  exact ⟨rfl, hb⟩

theorem limbs2 (n : Int) (h0 : 0 ≤ n) (h1 : n < 340282366920938463463374607431768211456) : ∃ z0 z1 : Int, z0 + 18446744073709551616 * z1 = n ∧ 0 ≤ z0 ∧ z0 ≤ 18446744073709551615 ∧ 0 ≤ z1 ∧ z1 ≤ 18446744073709551615 :=
  ⟨n % 18446744073709551616, n / 18446744073709551616, by omega, by omega, by omega, by omega, by omega⟩

/-- the number of an element -/
theorem val_lohi {f : Nat} (x : Fin (Pm f)) : lo x + 18446744073709551616 * hi x = ((x.val : Nat) : Int) := by
  have hx := x.isLt
  have h2 := Pm_lt f
  unfold lo hi eK eN
  dsimp only
  omega
theorem vK_of {f : Nat} {x : Fin (Pm f)} {z0 z1 : Int} (h : z0 + 18446744073709551616 * z1 = ((x.val : Nat) : Int)) (h0 : 0 ≤ z0) (h1 : z0 ≤ 18446744073709551615) : lo x = z0 ∧ hi x = z1 := by
  have h2 := val_lohi x
  have h3 := lo_0 x
  have h4 := lo_1 x
  omega
theorem val_add {f : Nat} (x y : Fin (Pm f)) : (((x + y).val : Nat) : Int) = (((x.val : Nat) : Int) + ((y.val : Nat) : Int)) % ((Pm f : Nat) : Int) := by
  rw [Fin.val_add, Int.natCast_emod, Int.natCast_add]
theorem val_mul {f : Nat} (x y : Fin (Pm f)) : (((x * y).val : Nat) : Int) = (((x.val : Nat) : Int) * ((y.val : Nat) : Int)) % ((Pm f : Nat) : Int) := by
  rw [Fin.val_mul, Int.natCast_emod, Int.natCast_mul]
theorem val_neg {f : Nat} (x : Fin (Pm f)) (h : x ≠ 0) : (((-x).val : Nat) : Int) = ((Pm f : Nat) : Int) - ((x.val : Nat) : Int) := by
  have hx := x.isLt
  have h0 : x.val ≠ 0 := fun e => h (Fin.ext (by rw [e, Fin.val_zero]))
  have h1 : (-x).val = (Pm f - x.val) % Pm f := Fin.val_neg' x
  rw [h1, Nat.mod_eq_of_lt (by omega)]
  omega
theorem val_pos {f : Nat} (x : Fin (Pm f)) : 0 ≤ ((x.val : Nat) : Int) ∧ ((x.val : Nat) : Int) < ((Pm f : Nat) : Int) := by
  have hx := x.isLt
  omega
theorem val_zero {f : Nat} : (((0 : Fin (Pm f)).val : Nat) : Int) = 0 := by rw [Fin.val_zero]; rfl

end Go.Proofs.Ytiphahbeedeebaa

namespace Go.Proofs.Ytiphahbeedeebaa
open Go.RowKit Fm
set_option linter.unusedVariables false
set_option maxRecDepth 100000

/-- block b holds the values cs, from its head on -/
structure Vs (w : World) (b : Nat) (cs : List Value) : Prop where
  cell : ∀ i v, cs[i]? = some v → w.cell? ⟨b, i, none⟩ = some v
  frz : ∀ i, i < cs.length → w.frozen? ⟨b, i, none⟩ = false
  lt : b < w.heap.size

section
variable {w w' : World} {b : Nat} {cs : List Value}
theorem Vs.call (h : Vs w b cs) (hb : Below w.heap.size w w') : Vs w' b cs :=
  ⟨fun i v hi => cell_call (h.cell i v hi) hb, fun i hi => frozen_call h.lt (h.frz i hi) hb, Nat.lt_of_lt_of_le h.lt hb.size⟩
theorem Vs.alloc (h : Vs w b cs) (o : Obj) : Vs (w.alloc o) b cs := h.call ((Below.refl _ _).alloc (Nat.le_refl _) o)
theorem Vs.drew (h : Vs w b cs) : Vs w.drew b cs := ⟨h.cell, h.frz, h.lt⟩
theorem Vs.drewN (h : Vs w b cs) (n : Nat) : Vs (w.drewN n) b cs := ⟨h.cell, h.frz, h.lt⟩
theorem Vs.new (w : World) (cs : List Value) (a : Array Value) (t : TypeId) (h : a = cs.toArray) : Vs (w.alloc (.cells a t)) w.heap.size cs := by
  subst h
  refine ⟨fun i v hi => ?_, fun i hi => World.frozen?_alloc_at _ _ _ _ rfl, by simp⟩
  rw [World.cell?_alloc_at _ _ _ _ rfl]
  simpa using hi
theorem Vs.far (h : Vs w b cs) {p : Addr} (hp : p.block ≠ b) (x : Value) : Vs (w.setCell p x) b cs := by
  have hb : (w.setCell p x).heap[b]? = w.heap[b]? := Below.heap_setCell w p x b (fun e => hp e.symm)
  exact ⟨fun i v hi => (World.cell?_of_block (w := w) (a := ⟨b, i, none⟩) hb).trans (h.cell i v hi), fun i hi => (World.frozen?_of_block (w := w) (a := ⟨b, i, none⟩) hb).trans (h.frz i hi), by simpa [World.setCell] using h.lt⟩
theorem Vs.put (h : Vs w b cs) (i : Nat) (hi : i < cs.length) (x : Value) : Vs (w.setCell ⟨b, i, none⟩ x) b (cs.set i x) := by
  refine ⟨fun j v hj => ?_, fun j hj => ?_, by simpa [World.setCell] using h.lt⟩
  · by_cases hij : i = j
    · subst hij
      rw [List.getElem?_set_self hi] at hj
      have hs : (w.cell? ⟨b, i, none⟩).isSome = true := by rw [h.cell i _ (List.getElem?_eq_getElem hi)]; rfl
      rw [World.cell?_setCell_same' _ _ _ hs]
      exact hj
    · rw [List.getElem?_set_ne hij] at hj
      rw [World.cell?_setCell_other _ _ _ _ (by first | (simp; done) | (simp; omega))]
      exact h.cell j v hj
  · have := h.frz j (by simpa using hj)
    simpa [go_sem] using this
theorem Vs.of2 {u v : Value} (h : V2 w b u v) : Vs w b [u, v] := by
  refine ⟨fun i x hi => ?_, fun i hi => ?_, h.lt⟩
  · match i, hi with
    | 0, hi => obtain rfl : u = x := by simpa using hi
               exact h.c0
    | 1, hi => obtain rfl : v = x := by simpa using hi
               exact h.c1
  · match i, hi with
    | 0, _ => exact h.f0
    | 1, _ => exact h.f1
theorem Vs.to2 {u v : Value} (h : Vs w b [u, v]) : V2 w b u v := ⟨h.cell 0 _ rfl, h.cell 1 _ rfl, h.frz 0 (by simp), h.frz 1 (by simp), h.lt⟩
theorem Vs.get1 {x : Value} (h : Vs w b [x]) : w.cell? ⟨b, 0, none⟩ = some x ∧ w.frozen? ⟨b, 0, none⟩ = false ∧ b < w.heap.size := ⟨h.cell 0 _ rfl, h.frz 0 (by simp), h.lt⟩
theorem Vs.get3 {x y z : Value} (h : Vs w b [x, y, z]) : w.cell? ⟨b, 0, none⟩ = some x ∧ w.cell? ⟨b, 1, none⟩ = some y ∧ w.cell? ⟨b, 2, none⟩ = some z ∧ w.frozen? ⟨b, 0, none⟩ = false ∧ w.frozen? ⟨b, 1, none⟩ = false ∧ w.frozen? ⟨b, 2, none⟩ = false ∧ b < w.heap.size :=
  ⟨h.cell 0 _ rfl, h.cell 1 _ rfl, h.cell 2 _ rfl, h.frz 0 (by simp), h.frz 1 (by simp), h.frz 2 (by simp), h.lt⟩
theorem Vs.get6 {x y z p q r : Value} (h : Vs w b [x, y, z, p, q, r]) : (w.cell? ⟨b, 0, none⟩ = some x ∧ w.cell? ⟨b, 1, none⟩ = some y ∧ w.cell? ⟨b, 2, none⟩ = some z ∧ w.cell? ⟨b, 3, none⟩ = some p ∧ w.cell? ⟨b, 4, none⟩ = some q ∧ w.cell? ⟨b, 5, none⟩ = some r) ∧
    (w.frozen? ⟨b, 0, none⟩ = false ∧ w.frozen? ⟨b, 1, none⟩ = false ∧ w.frozen? ⟨b, 2, none⟩ = false ∧ w.frozen? ⟨b, 3, none⟩ = false ∧ w.frozen? ⟨b, 4, none⟩ = false ∧ w.frozen? ⟨b, 5, none⟩ = false) ∧ b < w.heap.size :=
  ⟨⟨h.cell 0 _ rfl, h.cell 1 _ rfl, h.cell 2 _ rfl, h.cell 3 _ rfl, h.cell 4 _ rfl, h.cell 5 _ rfl⟩, ⟨h.frz 0 (by simp), h.frz 1 (by simp), h.frz 2 (by simp), h.frz 3 (by simp), h.frz 4 (by simp), h.frz 5 (by simp)⟩, h.lt⟩
end

/-- a new variable of the values cs -/
def NewV (B : Nat) (cs : List Value) (v : Value) (w : World) : Prop := ∃ b, v = .pointer (some ⟨b, 0, none⟩) ∧ B ≤ b ∧ Vs w b cs
theorem newV_stable (B : Nat) (cs : List Value) : ∀ v w w', NewV B cs v w → Below w.heap.size w w' → NewV B cs v w' := fun _ _ _ ⟨b, h1, h2, h3⟩ hb => ⟨b, h1, h2, h3.call hb⟩

end Go.Proofs.Ytiphahbeedeebaa

namespace Go.Proofs.Ytiphahbeedeebaa
open Go.RowKit Fm
set_option linter.unusedVariables false
set_option maxRecDepth 100000

theorem add_val {f : Nat} (x y : Fin (Pm f)) : (((x + y).val : Nat) : Int) = if ((x.val : Nat) : Int) < ((Pm f : Nat) : Int) - ((y.val : Nat) : Int) then ((x.val : Nat) : Int) + ((y.val : Nat) : Int) else ((x.val : Nat) : Int) + ((y.val : Nat) : Int) - ((Pm f : Nat) : Int) := by
  rw [val_add]
  have hx := val_pos x
  have hy := val_pos y
  split
  · exact Int.emod_eq_of_lt (by omega) (by omega)
  · rw [← Int.sub_emod_right, Int.emod_eq_of_lt (by omega) (by omega)]

set_option maxHeartbeats 600000 in
theorem ref_AddL {f : Nat} (hf : IsF f) (a0 a1 b0 b1 : Int) (w : World) (h0 : 0 ≤ a0) (h1 : a0 ≤ 18446744073709551615) (k0 : 0 ≤ a1) (k1 : a1 ≤ 18446744073709551615)
    (g0 : 0 ≤ b0) (g1 : b0 ≤ 18446744073709551615) (j0 : 0 ≤ b1) (j1 : b1 ≤ 18446744073709551615) :
    Calls Try.prog 92 #[.int .i64 f, .agg #[.int .u64 a0, .int .u64 a1], .agg #[.int .u64 b0, .int .u64 b1]] w (RetK (kL f a0 a1 + kL f b0 b1) w) := by
  have hOa := fun wz => ref_OfL hf a0 a1 wz h0 h1 k0 k1
  have hOb := fun wz => ref_OfL hf b0 b1 wz g0 g1 j0 j1
  generalize kL f a0 a1 = x at *
  generalize kL f b0 b1 = y at *
  obtain ⟨p0, p1, hr⟩ := (FM.ofN hf).ref
  have hp : 0 ≤ p0 ∧ p0 ≤ 18446744073709551615 ∧ 0 ≤ p1 ∧ p1 ≤ 18446744073709551615 ∧ ((Pm f : Nat) : Int) = p0 + 18446744073709551616 * p1 := by
    rcases hr.or with ⟨_, rfl, rfl, h⟩ | ⟨_, rfl, rfl, h⟩ <;> omega
  obtain ⟨hp0, hp1, hp2, hp3, hpm'⟩ := hp
  have hx := val_pos x
  have hy := val_pos y
  have hxl := val_lohi x
  have hyl := val_lohi y
  have hPl := Pm_lt f
  have hxy := add_val x y
  obtain ⟨r0, r1, hrn, hr0, hr1, hr2, hr3⟩ := limbs2 (((Pm f : Nat) : Int) - ((y.val : Nat) : Int)) (by omega) (by omega)
  have HP : ∀ wz, Calls Try.prog 87 #[.int .i64 f] wz (fun e w' => e = .returned (.agg #[.int .u64 p0, .int .u64 p1]) ∧ Below wz.heap.size wz w') := fun wz => ref_P f _ p0 p1 wz hr
  have HT : ∀ wz, Calls Try.prog 88 #[.agg #[.int .u64 p0, .int .u64 p1], vK y] wz (fun e w' => e = .returned (.agg #[.int .u64 r0, .int .u64 r1]) ∧ Below wz.heap.size wz w') := fun wz =>
    (ref_take p0 p1 (lo y) (hi y) wz (by omega) (by omega) (lo_0 y) (lo_1 y) (by omega) (by omega) (hi_0 y) (hi_1 y)).mono fun e w' h => h.det (by rw [hyl, ← hpm', hrn, Int.emod_eq_of_lt (by omega) (by omega)]) hr0 hr1
  have HL : ∀ wz, Calls Try.prog 86 #[vK x, .agg #[.int .u64 r0, .int .u64 r1]] wz (fun e w' => e = .returned (.bool (decide (((x.val : Nat) : Int) < ((Pm f : Nat) : Int) - ((y.val : Nat) : Int)))) ∧ Below wz.heap.size wz w') := fun wz => by
    have h := ref_Less (lo x) (hi x) r0 r1 wz (lo_0 x) (lo_1 x) hr0 hr1
    rwa [hxl, hrn] at h
  have H1 := Lib.hid hOa
  have H2 := Lib.hid hOb
  have H3 := Lib.hid HP
  have H4 := Lib.hid HT
  have H5 := Lib.hid HL
  have H6 : Hid (((x.val : Nat) : Int) < ((Pm f : Nat) : Int) - ((y.val : Nat) : Int) → ∀ wz, Calls Try.prog 120 #[vK x, vK y] wz (RetK (x + y) wz)) := by
    intro hlt wz
    have h := ref_plus (lo x) (hi x) (lo y) (hi y) wz (lo_0 x) (lo_1 x) (lo_0 y) (lo_1 y) (hi_0 x) (hi_1 x) (hi_0 y) (hi_1 y) (by rw [hxl, hyl]; omega)
    rw [hxl, hyl] at h
    rw [if_pos hlt] at hxy
    exact h.mono fun e w' h => h.det (by rw [val_lohi, hxy]) (lo_0 _) (lo_1 _)
  have H7 : Hid (¬ ((x.val : Nat) : Int) < ((Pm f : Nat) : Int) - ((y.val : Nat) : Int) → ∀ wz, Calls Try.prog 88 #[vK x, .agg #[.int .u64 r0, .int .u64 r1]] wz (RetK (x + y) wz)) := by
    intro hlt wz
    have h := ref_take (lo x) (hi x) r0 r1 wz (lo_0 x) (lo_1 x) hr0 hr1 (hi_0 x) (hi_1 x) hr2 hr3
    rw [hxl, hrn] at h
    rw [if_neg hlt] at hxy
    exact h.mono fun e w' h => h.det (by rw [val_lohi, hxy, Int.emod_eq_of_lt (by omega) (by omega)]; omega) (lo_0 _) (lo_1 _)
  clear hOa hOb HP HT HL hxy hrn hyl hxl hpm' hx hy hPl
  go_enter Try.func92, Try.ntmps92
  go_wp2_with fail
  have q0 := ((V2.new w (.int .u64 a0) (.int .u64 a1) 41).alloc (.cells #[.int .u64 b0, .int .u64 b1] 41)).alloc (.cells #[.int .u64 0, .int .u64 0] 41)
  have t0 := (V2.new (w.alloc (.cells #[.int .u64 a0, .int .u64 a1] 41)) (.int .u64 b0) (.int .u64 b1) 41).alloc (.cells #[.int .u64 0, .int .u64 0] 41)
  have s0 := V2.new ((w.alloc (.cells #[.int .u64 a0, .int .u64 a1] 41)).alloc (.cells #[.int .u64 b0, .int .u64 b1] 41)) (.int .u64 0) (.int .u64 0) 41
  simp only [World.size_alloc] at t0 s0
  have hb00 : Below w.heap.size w (((w.alloc (.cells #[.int .u64 a0, .int .u64 a1] 41)).alloc (.cells #[.int .u64 b0, .int .u64 b1] 41)).alloc (.cells #[.int .u64 0, .int .u64 0] 41)) := by repeat (first | exact Below.refl _ _ | with_reducible assumption | (refine bl_alloc ?_ (Nat.le_refl _) _) | (refine bl_set ?_ (by dsimp only; omega) _) | (refine Below.drew ?_) | (refine bl_drewN ?_ _) | (refine bl_call ?_ (Nat.le_refl _) (by assumption)))
  have hsz : w.heap.size + 3 ≤ (((w.alloc (.cells #[.int .u64 a0, .int .u64 a1] 41)).alloc (.cells #[.int .u64 b0, .int .u64 b1] 41)).alloc (.cells #[.int .u64 0, .int .u64 0] 41)).heap.size := by simp only [World.size_alloc]; omega
  generalize ((w.alloc (.cells #[.int .u64 a0, .int .u64 a1] 41)).alloc (.cells #[.int .u64 b0, .int .u64 b1] 41)).alloc (.cells #[.int .u64 0, .int .u64 0] 41) = w1 at *
  have q01 := q0
  obtain ⟨c0, c1, c2, c3, c4⟩ := q01
  have t01 := t0
  obtain ⟨d0, d1, d2, d3, d4⟩ := t01
  refine region_B (n := 6) (m := 8) (f := 6) (by kernel_rfl) (by kernel_rfl) rfl ?_
  refine WpH.takeB (i := 0) (v := ?_) rfl (by kernel_rfl) (fun _ _ _ h => h) (.val rfl (fun wz hwz => ?_)) ?_
  rotate_left
  · go_simp; try (with_reducible rfl)
  (simp only [Act.put]); (try simp only [List.setIfInBounds_toArray]); (try simp only [List.set_cons_succ]); (try simp only [List.set_cons_zero])
  refine WpH.takeB (i := 1) (v := ?_) rfl (by kernel_rfl) (fun _ _ _ h => h) (.val rfl (fun wz hwz => ?_)) ?_
  rotate_left
  · (obtain ⟨hcz, hfz⟩ := bcell hwz; go_simp; try (with_reducible rfl))
  (simp only [Act.put]); (try simp only [List.setIfInBounds_toArray]); (try simp only [List.set_cons_succ]); (try simp only [List.set_cons_zero])
  refine WpH.takeB (i := 2) rfl (by kernel_rfl) (fun _ _ _ h => h) (.call rfl (fun wz hwz => H1.out wz) (fun wz hwz => ?_)) ?_
  · go_simp; try (with_reducible rfl)
  (simp only [Act.put]); (try simp only [List.setIfInBounds_toArray]); (try simp only [List.set_cons_succ]); (try simp only [List.set_cons_zero])
  refine WpH.takeB (i := 3) (v := ?_) rfl (by kernel_rfl) (fun _ _ _ h => h) (.val rfl (fun wz hwz => ?_)) ?_
  rotate_left
  · go_simp; try (with_reducible rfl)
  (simp only [Act.put]); (try simp only [List.setIfInBounds_toArray]); (try simp only [List.set_cons_succ]); (try simp only [List.set_cons_zero])
  refine WpH.takeB (i := 4) (v := ?_) rfl (by kernel_rfl) (fun _ _ _ h => h) (.val rfl (fun wz hwz => ?_)) ?_
  rotate_left
  · (obtain ⟨hcz, hfz⟩ := bcell hwz; go_simp; try (with_reducible rfl))
  (simp only [Act.put]); (try simp only [List.setIfInBounds_toArray]); (try simp only [List.set_cons_succ]); (try simp only [List.set_cons_zero])
  refine WpH.takeB (i := 5) rfl (by kernel_rfl) (fun _ _ _ h => h) (.call rfl (fun wz hwz => H2.out wz) (fun wz hwz => ?_)) ?_
  · go_simp; try (with_reducible rfl)
  (simp only [Act.put]); (try simp only [List.setIfInBounds_toArray]); (try simp only [List.set_cons_succ]); (try simp only [List.set_cons_zero])
  refine WpH.doneB (by kernel_rfl) (fun w2 hw2 => ?_)
  (try simp only [List.drop_succ_cons]); (try simp only [List.drop_zero]); (try simp only [Nat.reduceSub]); (try simp only [List.take_succ_cons]); (try simp only [List.take_zero])
  replace q0 := q0.call hw2
  replace t0 := t0.call hw2
  replace s0 := s0.call hw2
  replace hb00 := bl_call hb00 (Nat.le_refl _) hw2
  clear c0 c1 c2 c3 c4 d0 d1 d2 d3 d4 hsz hw2
  obtain ⟨c0, c1, c2, c3, c4⟩ := V2.mk q0.c0 q0.c1 q0.f0 q0.f1 q0.lt
  obtain ⟨d0, d1, d2, d3, d4⟩ := V2.mk t0.c0 t0.c1 t0.f0 t0.f1 t0.lt
  go_wp2_with fail
  clear c0 c1 c2 c3 c4 d0 d1 d2 d3 d4
  replace q0 : V2 ((w2.setCell ⟨w.heap.size, 0, none⟩ (.int .u64 (lo x))).setCell ⟨w.heap.size, 1, none⟩ (.int .u64 (hi x))) (w.heap.size) (.int .u64 (lo x)) (.int .u64 (hi x)) := V2.set q0 _ _
  replace t0 := V2.oth t0 (b := w.heap.size) (by omega) (.int .u64 (lo x)) (.int .u64 (hi x))
  replace s0 := V2.oth s0 (b := w.heap.size) (by omega) (.int .u64 (lo x)) (.int .u64 (hi x))
  replace hb00 := bl_st hb00 (b := w.heap.size) (by omega) (.int .u64 (lo x)) (.int .u64 (hi x))
  replace q0 := V2.oth q0 (b := w.heap.size+1) (by omega) (.int .u64 (lo y)) (.int .u64 (hi y))
  replace t0 : V2 ((((w2.setCell ⟨w.heap.size, 0, none⟩ (.int .u64 (lo x))).setCell ⟨w.heap.size, 1, none⟩ (.int .u64 (hi x))).setCell ⟨w.heap.size+1, 0, none⟩ (.int .u64 (lo y))).setCell ⟨w.heap.size+1, 1, none⟩ (.int .u64 (hi y))) (w.heap.size+1) (.int .u64 (lo y)) (.int .u64 (hi y)) := V2.set t0 _ _
  replace s0 := V2.oth s0 (b := w.heap.size+1) (by omega) (.int .u64 (lo y)) (.int .u64 (hi y))
  replace hb00 := bl_st hb00 (b := w.heap.size+1) (by omega) (.int .u64 (lo y)) (.int .u64 (hi y))
  generalize ((((w2.setCell ⟨w.heap.size, 0, none⟩ (.int .u64 (lo x))).setCell ⟨w.heap.size, 1, none⟩ (.int .u64 (hi x))).setCell ⟨w.heap.size+1, 0, none⟩ (.int .u64 (lo y))).setCell ⟨w.heap.size+1, 1, none⟩ (.int .u64 (hi y))) = w3 at q0 t0 s0 hb00 ⊢
  have q31 := q0
  obtain ⟨c0, c1, c2, c3, c4⟩ := q31
  have t31 := t0
  obtain ⟨d0, d1, d2, d3, d4⟩ := t31
  have e4 := s0.lt
  have hNew := newE_stable (w.heap.size+3)
  refine region_N (n := 5) (m := 6) (f := 5) 4 7 (NewE (w.heap.size+3)) (by kernel_rfl) (by kernel_rfl) rfl ?_
  refine WpH.takeN hNew (i := 0) (v := ?_) rfl (by kernel_rfl) rfl rfl (fun _ _ _ h => h) (.val rfl (fun wz hwz => ?_)) ?_
  rotate_left
  · go_simp; try (with_reducible rfl)
  (simp only [Act.put]); (try simp only [List.setIfInBounds_toArray]); (try simp only [List.set_cons_succ]); (try simp only [List.set_cons_zero])
  refine WpH.takeN hNew (i := 1) rfl (by kernel_rfl) rfl rfl (fun _ _ _ h => h) (.call rfl (fun wz hwz => H3.out wz) (fun wz hwz => ?_)) ?_
  · go_simp; try (with_reducible rfl)
  (simp only [Act.put]); (try simp only [List.setIfInBounds_toArray]); (try simp only [List.set_cons_succ]); (try simp only [List.set_cons_zero])
  refine WpH.takeN hNew (i := 2) (v := ?_) rfl (by kernel_rfl) rfl rfl (fun _ _ _ h => h) (.val rfl (fun wz hwz => ?_)) ?_
  rotate_left
  · (obtain ⟨hcz, hfz⟩ := bcell hwz; go_simp; try (with_reducible rfl))
  (simp only [Act.put]); (try simp only [List.setIfInBounds_toArray]); (try simp only [List.set_cons_succ]); (try simp only [List.set_cons_zero])
  refine WpH.takeN hNew (i := 3) rfl (by kernel_rfl) rfl rfl (fun _ _ _ h => h) (.call rfl (fun wz hwz => H4.out wz) (fun wz hwz => ?_)) ?_
  · go_simp; try (with_reducible rfl)
  (simp only [Act.put]); (try simp only [List.setIfInBounds_toArray]); (try simp only [List.set_cons_succ]); (try simp only [List.set_cons_zero])
  refine WpH.one (i := 4) (by kernel_rfl) (fun w2 hw2 => ?_)
  refine wpOp_value rfl rfl (by go_simp; first | rfl | exact ⟨rfl, rfl⟩) ⟨⟨hw2.1.trans (((Below.refl _ _).alloc (Nat.le_refl _) _).mono hw2.1.size), fun _ => ⟨_, rfl, (by have hsz2 := hw2.1.size; (try simp only [World.size_alloc] at hsz2); omega), V2.new _ _ _ _⟩⟩, ?_⟩
  (simp only [Act.put]); (try simp only [List.setIfInBounds_toArray]); (try simp only [List.set_cons_succ]); (try simp only [List.set_cons_zero])
  refine WpH.done (by kernel_rfl) (fun w4 hw4n => ?_)
  obtain ⟨hw4, hnw4⟩ := hw4n
  obtain ⟨b, hbew4, hBb, hVb⟩ := hnw4 rfl
  simp at hbew4
  rw [hbew4]
  clear hNew hnw4 hw2 hbew4 w2
  (try simp only [List.drop_succ_cons]); (try simp only [List.drop_zero]); (try simp only [Nat.reduceSub]); (try simp only [List.take_succ_cons]); (try simp only [List.take_zero])
  replace q0 := q0.call hw4
  replace t0 := t0.call hw4
  replace s0 := s0.call hw4
  replace hb00 := bl_call hb00 (Nat.le_refl _) hw4
  clear c0 c1 c2 c3 c4 d0 d1 d2 d3 d4 hw4 e4
  have v01 := hVb
  obtain ⟨v0, v1, v2, v3, v4⟩ := v01
  go_upto_region 3 with fail
  clear v0 v1 v2 v3 v4
  replace hVb : V2 ((w4.setCell ⟨b, 0, none⟩ (.int .u64 r0)).setCell ⟨b, 1, none⟩ (.int .u64 r1)) (b) (.int .u64 r0) (.int .u64 r1) := V2.set hVb _ _
  replace q0 := V2.oth q0 (b := b) (by omega) (.int .u64 r0) (.int .u64 r1)
  replace t0 := V2.oth t0 (b := b) (by omega) (.int .u64 r0) (.int .u64 r1)
  replace s0 := V2.oth s0 (b := b) (by omega) (.int .u64 r0) (.int .u64 r1)
  replace hb00 := bl_st hb00 (b := b) (by omega) (.int .u64 r0) (.int .u64 r1)
  generalize ((w4.setCell ⟨b, 0, none⟩ (.int .u64 r0)).setCell ⟨b, 1, none⟩ (.int .u64 r1)) = w5 at hVb q0 t0 s0 hb00 ⊢
  obtain ⟨v0, v1, v2, v3, v4⟩ := hVb
  obtain ⟨c0, c1, c2, c3, c4⟩ := q0
  obtain ⟨d0, d1, d2, d3, d4⟩ := t0
  by_cases hlt : ((x.val : Nat) : Int) < ((Pm f : Nat) : Int) - ((y.val : Nat) : Int)
  · have hd : decide (((x.val : Nat) : Int) < ((Pm f : Nat) : Int) - ((y.val : Nat) : Int)) = true := decide_eq_true hlt
    go_wp2_with (first
      | (go_at_call 86; refine (H5.out _).mono ?_; rintro e w5 ⟨rfl, hb5⟩; obtain ⟨c0, c1, c2, c3, c4⟩ := V2.call ⟨c0, c1, c2, c3, c4⟩ hb5; obtain ⟨d0, d1, d2, d3, d4⟩ := V2.call ⟨d0, d1, d2, d3, d4⟩ hb5; have s5 := s0.call hb5)
      | (go_at_call 120; refine (H6.out hlt _).mono ?_; rintro e w6 ⟨rfl, hb6⟩; obtain ⟨e0, e1, e2, e3, e4⟩ := s5.call hb6))
    refine bodyPost_ret (results_v2 (b := w.heap.size + 1 + 1) (u := .int .u64 (lo (x + y))) (v := .int .u64 (hi (x + y))) ?_ rfl rfl) rfl ⟨rfl, by repeat (first | exact Below.refl _ _ | with_reducible assumption | (refine bl_alloc ?_ (Nat.le_refl _) _) | (refine bl_set ?_ (by dsimp only; omega) _) | (refine Below.drew ?_) | (refine bl_drewN ?_ _) | (refine bl_call ?_ (Nat.le_refl _) (by assumption)))⟩
    exact V2.set ⟨e0, e1, e2, e3, e4⟩ _ _
  · have hd : decide (((x.val : Nat) : Int) < ((Pm f : Nat) : Int) - ((y.val : Nat) : Int)) = false := decide_eq_false hlt
    go_wp2_with (first
      | (go_at_call 86; refine (H5.out _).mono ?_; rintro e w5 ⟨rfl, hb5⟩; obtain ⟨c0, c1, c2, c3, c4⟩ := V2.call ⟨c0, c1, c2, c3, c4⟩ hb5; obtain ⟨v0, v1, v2, v3, v4⟩ := V2.call ⟨v0, v1, v2, v3, v4⟩ hb5; have s5 := s0.call hb5)
      | (go_at_call 88; refine (H7.out (by omega) _).mono ?_; rintro e w6 ⟨rfl, hb6⟩; obtain ⟨e0, e1, e2, e3, e4⟩ := s5.call hb6))
    refine bodyPost_ret (results_v2 (b := w.heap.size + 1 + 1) (u := .int .u64 (lo (x + y))) (v := .int .u64 (hi (x + y))) ?_ rfl rfl) rfl ⟨rfl, by repeat (first | exact Below.refl _ _ | with_reducible assumption | (refine bl_alloc ?_ (Nat.le_refl _) _) | (refine bl_set ?_ (by dsimp only; omega) _) | (refine Below.drew ?_) | (refine bl_drewN ?_ _) | (refine bl_call ?_ (Nat.le_refl _) (by assumption)))⟩
    exact V2.set ⟨e0, e1, e2, e3, e4⟩ _ _

end Go.Proofs.Ytiphahbeedeebaa

namespace Go.Proofs.Ytiphahbeedeebaa
open Go.RowKit Fm
set_option linter.unusedVariables false
set_option maxRecDepth 100000

theorem lohi_zero {f : Nat} (x : Fin (Pm f)) : (lo x == 0 && hi x == 0) = decide (x = 0) := by
  by_cases h : x = 0
  · subst h
    rw [lo_zero, hi_zero]
    simp
  · rw [decide_eq_false h, Bool.and_eq_false_iff, beq_eq_false_iff_ne, beq_eq_false_iff_ne]
    by_cases h0 : lo x = 0
    · right
      intro h1
      exact h (lohi_inj (by rw [h0, lo_zero]) (by rw [h1, hi_zero]))
    · exact .inl h0

set_option maxHeartbeats 1000000 in
theorem ref_NegL {f : Nat} (hf : IsF f) (a0 a1 : Int) (w : World) (h0 : 0 ≤ a0) (h1 : a0 ≤ 18446744073709551615) (k0 : 0 ≤ a1) (k1 : a1 ≤ 18446744073709551615) :
    Calls Try.prog 131 #[.int .i64 f, .agg #[.int .u64 a0, .int .u64 a1]] w (RetK (- kL f a0 a1) w) := by
  have heq := eql_elem
  have hOa := fun wz => ref_OfL hf a0 a1 wz h0 h1 k0 k1
  generalize kL f a0 a1 = x at *
  obtain ⟨p0, p1, hr⟩ := (FM.ofN hf).ref
  have hp : 0 ≤ p0 ∧ p0 ≤ 18446744073709551615 ∧ 0 ≤ p1 ∧ p1 ≤ 18446744073709551615 ∧ ((Pm f : Nat) : Int) = p0 + 18446744073709551616 * p1 := by
    rcases hr.or with ⟨_, rfl, rfl, h⟩ | ⟨_, rfl, rfl, h⟩ <;> omega
  obtain ⟨hp0, hp1, hp2, hp3, hpm'⟩ := hp
  have HP : ∀ wz, Calls Try.prog 87 #[.int .i64 f] wz (fun e w' => e = .returned (.agg #[.int .u64 p0, .int .u64 p1]) ∧ Below wz.heap.size wz w') := fun wz => ref_P f _ p0 p1 wz hr
  have H1 := Lib.hid hOa
  have H3 := Lib.hid HP
  have HPM := Lib.hid hpm'
  clear hOa HP hpm'
  by_cases hx : x = 0
  · subst hx
    rw [show -(0 : Fin (Pm f)) = 0 by grind]
    have hz0 : lo (0 : Fin (Pm f)) = 0 := lo_zero
    have hz1 : hi (0 : Fin (Pm f)) = 0 := hi_zero
    go_enter Try.func131, Try.ntmps131
    go_upto_region 1 with fail
    have q0 := (V2.new w (.int .u64 a0) (.int .u64 a1) 41).alloc (.cells #[(.int .u64 0), (.int .u64 0)] 41)
    have s0 := V2.new (w.alloc (.cells #[(.int .u64 a0), (.int .u64 a1)] 41)) (.int .u64 0) (.int .u64 0) 41
    simp only [World.size_alloc] at s0
    have hb00 : Below w.heap.size w ((w.alloc (.cells #[(.int .u64 a0), (.int .u64 a1)] 41)).alloc (.cells #[(.int .u64 0), (.int .u64 0)] 41)) := by repeat (first | exact Below.refl _ _ | with_reducible assumption | (refine bl_alloc ?_ (Nat.le_refl _) _))
    have hsz : w.heap.size + 2 ≤ ((w.alloc (.cells #[(.int .u64 a0), (.int .u64 a1)] 41)).alloc (.cells #[(.int .u64 0), (.int .u64 0)] 41)).heap.size := by simp only [World.size_alloc]; omega
    generalize ((w.alloc (.cells #[(.int .u64 a0), (.int .u64 a1)] 41)).alloc (.cells #[(.int .u64 0), (.int .u64 0)] 41)) = w1 at q0 s0 hb00 hsz ⊢
    obtain ⟨c0, c1, c2, c3, c4⟩ := q0
    go_wp2_with (go_at_call 29; refine (H1.out _).mono ?_; rintro e w5 ⟨rfl, hb5⟩; obtain ⟨c0, c1, c2, c3, c4⟩ := V2.call ⟨c0, c1, c2, c3, c4⟩ hb5; obtain ⟨e0, e1, e2, e3, e4⟩ := s0.call hb5)
    refine bodyPost_ret (results_v2 (b := w.heap.size + 1) (u := .int .u64 0) (v := .int .u64 0) ?_ rfl rfl) rfl ⟨by rw [vK_zero], by repeat (first | exact Below.refl _ _ | with_reducible assumption | (refine bl_alloc ?_ (Nat.le_refl _) _) | (refine bl_set ?_ (by dsimp only; omega) _) | (refine Below.drew ?_) | (refine bl_drewN ?_ _) | (refine bl_call ?_ (Nat.le_refl _) (by assumption)))⟩
    exact V2.set (V2.oth ⟨e0, e1, e2, e3, e4⟩ (by omega) _ _) _ _
  · have hd : (lo x == 0 && hi x == 0) = false := by rw [lohi_zero, decide_eq_false hx]
    have HT : ∀ wz, Calls Try.prog 88 #[.agg #[.int .u64 p0, .int .u64 p1], vK x] wz (RetK (-x) wz) := fun wz =>
      (ref_take p0 p1 (lo x) (hi x) wz (by omega) (by omega) (lo_0 x) (lo_1 x) (by omega) (by omega) (hi_0 x) (hi_1 x)).mono fun e w' h => h.det (by
        have hv := val_pos x
        have hv2 := val_pos (-x)
        have hPl := Pm_lt f
        have hn := val_neg x hx
        rw [val_lohi, val_lohi, ← HPM.out, ← hn, Int.emod_eq_of_lt (by omega) (by omega)]) (lo_0 _) (lo_1 _)
    have H4 := Lib.hid HT
    clear HT
    go_enter Try.func131, Try.ntmps131
    go_upto_region 1 with fail
    have q0 := (V2.new w (.int .u64 a0) (.int .u64 a1) 41).alloc (.cells #[(.int .u64 0), (.int .u64 0)] 41)
    have s0 := V2.new (w.alloc (.cells #[(.int .u64 a0), (.int .u64 a1)] 41)) (.int .u64 0) (.int .u64 0) 41
    simp only [World.size_alloc] at s0
    have hb00 : Below w.heap.size w ((w.alloc (.cells #[(.int .u64 a0), (.int .u64 a1)] 41)).alloc (.cells #[(.int .u64 0), (.int .u64 0)] 41)) := by repeat (first | exact Below.refl _ _ | with_reducible assumption | (refine bl_alloc ?_ (Nat.le_refl _) _))
    have hsz : w.heap.size + 2 ≤ ((w.alloc (.cells #[(.int .u64 a0), (.int .u64 a1)] 41)).alloc (.cells #[(.int .u64 0), (.int .u64 0)] 41)).heap.size := by simp only [World.size_alloc]; omega
    generalize ((w.alloc (.cells #[(.int .u64 a0), (.int .u64 a1)] 41)).alloc (.cells #[(.int .u64 0), (.int .u64 0)] 41)) = w1 at q0 s0 hb00 hsz ⊢
    obtain ⟨c0, c1, c2, c3, c4⟩ := q0
    go_upto_region 2 with (go_at_call 29; refine (H1.out _).mono ?_; rintro e w5 ⟨rfl, hb5⟩; obtain ⟨c0, c1, c2, c3, c4⟩ := V2.call ⟨c0, c1, c2, c3, c4⟩ hb5; have s5 := s0.call hb5; have hb6 := bl_call hb00 (Nat.le_refl _) hb5)
    have q5 : V2 w5 w.heap.size (.int .u64 a0) (.int .u64 a1) := ⟨c0, c1, c2, c3, c4⟩
    clear c0 c1 c2 c3 c4 hb5
    replace q5 : V2 ((w5.setCell ⟨w.heap.size, 0, none⟩ (.int .u64 (lo x))).setCell ⟨w.heap.size, 1, none⟩ (.int .u64 (hi x))) (w.heap.size) (.int .u64 (lo x)) (.int .u64 (hi x)) := V2.set q5 _ _
    replace s5 := V2.oth s5 (b := w.heap.size) (by omega) (.int .u64 (lo x)) (.int .u64 (hi x))
    replace hb6 := bl_st hb6 (b := w.heap.size) (by omega) (.int .u64 (lo x)) (.int .u64 (hi x))
    generalize ((w5.setCell ⟨w.heap.size, 0, none⟩ (.int .u64 (lo x))).setCell ⟨w.heap.size, 1, none⟩ (.int .u64 (hi x))) = w6 at q5 s5 hb6 ⊢
    have q6 := q5
    obtain ⟨c0, c1, c2, c3, c4⟩ := q6
    have hlt := s5.lt
    go_wp2_with fail
    refine region_B (n := 4) (m := 5) (f := 4) (by kernel_rfl) (by kernel_rfl) rfl ?_
    refine WpH.takeB (i := 0) (v := ?_) rfl (by kernel_rfl) (fun _ _ _ h => h) (.val rfl (fun wz hwz => ?_)) ?_
    rotate_left
    · go_simp; try (with_reducible rfl)
    (simp only [Act.put]); (try simp only [List.setIfInBounds_toArray]); (try simp only [List.set_cons_succ]); (try simp only [List.set_cons_zero])
    refine WpH.takeB (i := 1) rfl (by kernel_rfl) (fun _ _ _ h => h) (.call rfl (fun wz hwz => H3.out wz) (fun wz hwz => ?_)) ?_
    · go_simp; try (with_reducible rfl)
    (simp only [Act.put]); (try simp only [List.setIfInBounds_toArray]); (try simp only [List.set_cons_succ]); (try simp only [List.set_cons_zero])
    refine WpH.takeB (i := 2) (v := ?_) rfl (by kernel_rfl) (fun _ _ _ h => h) (.val rfl (fun wz hwz => ?_)) ?_
    rotate_left
    · (obtain ⟨hcz, hfz⟩ := bcell hwz; go_simp; try (with_reducible rfl))
    (simp only [Act.put]); (try simp only [List.setIfInBounds_toArray]); (try simp only [List.set_cons_succ]); (try simp only [List.set_cons_zero])
    refine WpH.takeB (i := 3) rfl (by kernel_rfl) (fun _ _ _ h => h) (.call rfl (fun wz hwz => H4.out wz) (fun wz hwz => ?_)) ?_
    · go_simp; try (with_reducible rfl)
    (simp only [Act.put]); (try simp only [List.setIfInBounds_toArray]); (try simp only [List.set_cons_succ]); (try simp only [List.set_cons_zero])
    refine WpH.doneB (by kernel_rfl) (fun w7 hw7 => ?_)
    (try simp only [List.drop_succ_cons]); (try simp only [List.drop_zero]); (try simp only [Nat.reduceSub]); (try simp only [List.take_succ_cons]); (try simp only [List.take_zero])
    obtain ⟨e0, e1, e2, e3, e4⟩ := s5.call hw7
    go_wp2_with fail
    refine bodyPost_ret (results_v2 (b := w.heap.size + 1) (u := .int .u64 (lo (-x))) (v := .int .u64 (hi (-x))) ?_ rfl rfl) rfl ⟨rfl, by repeat (first | exact Below.refl _ _ | with_reducible assumption | (refine bl_alloc ?_ (Nat.le_refl _) _) | (refine bl_set ?_ (by dsimp only; omega) _) | (refine Below.drew ?_) | (refine bl_drewN ?_ _) | (refine bl_call ?_ (Nat.le_refl _) (by assumption)))⟩
    exact V2.set ⟨e0, e1, e2, e3, e4⟩ _ _

set_option maxHeartbeats 1000000 in
theorem ref_SubL {f : Nat} (hf : IsF f) (a0 a1 b0 b1 : Int) (w : World) (h0 : 0 ≤ a0) (h1 : a0 ≤ 18446744073709551615) (k0 : 0 ≤ a1) (k1 : a1 ≤ 18446744073709551615)
    (g0 : 0 ≤ b0) (g1 : b0 ≤ 18446744073709551615) (j0 : 0 ≤ b1) (j1 : b1 ≤ 18446744073709551615) :
    Calls Try.prog 113 #[.int .i64 f, .agg #[.int .u64 a0, .int .u64 a1], .agg #[.int .u64 b0, .int .u64 b1]] w (RetK (kL f a0 a1 - kL f b0 b1) w) := by
  have hN := fun wz => ref_NegL hf b0 b1 wz g0 g1 j0 j1
  have hA := fun wz => ref_AddL hf a0 a1 (lo (- kL f b0 b1)) (hi (- kL f b0 b1)) wz h0 h1 k0 k1 (lo_0 _) (lo_1 _) (hi_0 _) (hi_1 _)
  rw [kL_lohi] at hA
  rw [show kL f a0 a1 - kL f b0 b1 = kL f a0 a1 + - kL f b0 b1 by grind]
  generalize - kL f b0 b1 = y at *
  generalize kL f a0 a1 + y = z at *
  have H1 := Lib.hid hN
  have H2 := Lib.hid hA
  clear hN hA
  go_enter Try.func113, Try.ntmps113
  go_upto_region 1 with fail
  have q0 := ((V2.new w (.int .u64 a0) (.int .u64 a1) 41).alloc (.cells #[(.int .u64 b0), (.int .u64 b1)] 41)).alloc (.cells #[(.int .u64 0), (.int .u64 0)] 41)
  have t0 := (V2.new (w.alloc (.cells #[(.int .u64 a0), (.int .u64 a1)] 41)) (.int .u64 b0) (.int .u64 b1) 41).alloc (.cells #[(.int .u64 0), (.int .u64 0)] 41)
  have s0 := V2.new ((w.alloc (.cells #[(.int .u64 a0), (.int .u64 a1)] 41)).alloc (.cells #[(.int .u64 b0), (.int .u64 b1)] 41)) (.int .u64 0) (.int .u64 0) 41
  simp only [World.size_alloc] at t0 s0
  have hb00 : Below w.heap.size w (((w.alloc (.cells #[(.int .u64 a0), (.int .u64 a1)] 41)).alloc (.cells #[(.int .u64 b0), (.int .u64 b1)] 41)).alloc (.cells #[(.int .u64 0), (.int .u64 0)] 41)) := by repeat (first | exact Below.refl _ _ | with_reducible assumption | (refine bl_alloc ?_ (Nat.le_refl _) _))
  have hsz : w.heap.size + 3 ≤ (((w.alloc (.cells #[(.int .u64 a0), (.int .u64 a1)] 41)).alloc (.cells #[(.int .u64 b0), (.int .u64 b1)] 41)).alloc (.cells #[(.int .u64 0), (.int .u64 0)] 41)).heap.size := by simp only [World.size_alloc]; omega
  generalize (((w.alloc (.cells #[(.int .u64 a0), (.int .u64 a1)] 41)).alloc (.cells #[(.int .u64 b0), (.int .u64 b1)] 41)).alloc (.cells #[(.int .u64 0), (.int .u64 0)] 41)) = w1 at q0 t0 s0 hb00 hsz ⊢
  obtain ⟨c0, c1, c2, c3, c4⟩ := q0
  obtain ⟨d0, d1, d2, d3, d4⟩ := t0
  refine region_B (n := 6) (m := 7) (f := 6) (by kernel_rfl) (by kernel_rfl) rfl ?_
  refine WpH.takeB (i := 0) (v := ?_) rfl (by kernel_rfl) (fun _ _ _ h => h) (.val rfl (fun wz hwz => ?_)) ?_
  rotate_left
  · go_simp; try (with_reducible rfl)
  (simp only [Act.put]); (try simp only [List.setIfInBounds_toArray]); (try simp only [List.set_cons_succ]); (try simp only [List.set_cons_zero])
  refine WpH.takeB (i := 1) (v := ?_) rfl (by kernel_rfl) (fun _ _ _ h => h) (.val rfl (fun wz hwz => ?_)) ?_
  rotate_left
  · (obtain ⟨hcz, hfz⟩ := bcell hwz; go_simp; try (with_reducible rfl))
  (simp only [Act.put]); (try simp only [List.setIfInBounds_toArray]); (try simp only [List.set_cons_succ]); (try simp only [List.set_cons_zero])
  refine WpH.takeB (i := 2) (v := ?_) rfl (by kernel_rfl) (fun _ _ _ h => h) (.val rfl (fun wz hwz => ?_)) ?_
  rotate_left
  · go_simp; try (with_reducible rfl)
  (simp only [Act.put]); (try simp only [List.setIfInBounds_toArray]); (try simp only [List.set_cons_succ]); (try simp only [List.set_cons_zero])
  refine WpH.takeB (i := 3) (v := ?_) rfl (by kernel_rfl) (fun _ _ _ h => h) (.val rfl (fun wz hwz => ?_)) ?_
  rotate_left
  · (obtain ⟨hcz, hfz⟩ := bcell hwz; go_simp; try (with_reducible rfl))
  (simp only [Act.put]); (try simp only [List.setIfInBounds_toArray]); (try simp only [List.set_cons_succ]); (try simp only [List.set_cons_zero])
  refine WpH.takeB (i := 4) rfl (by kernel_rfl) (fun _ _ _ h => h) (.call rfl (fun wz hwz => H1.out wz) (fun wz hwz => ?_)) ?_
  · go_simp; try (with_reducible rfl)
  (simp only [Act.put]); (try simp only [List.setIfInBounds_toArray]); (try simp only [List.set_cons_succ]); (try simp only [List.set_cons_zero])
  refine WpH.takeB (i := 5) rfl (by kernel_rfl) (fun _ _ _ h => h) (.call rfl (fun wz hwz => H2.out wz) (fun wz hwz => ?_)) ?_
  · go_simp; try (with_reducible rfl)
  (simp only [Act.put]); (try simp only [List.setIfInBounds_toArray]); (try simp only [List.set_cons_succ]); (try simp only [List.set_cons_zero])
  refine WpH.doneB (by kernel_rfl) (fun w7 hw7 => ?_)
  (try simp only [List.drop_succ_cons]); (try simp only [List.drop_zero]); (try simp only [Nat.reduceSub]); (try simp only [List.take_succ_cons]); (try simp only [List.take_zero])
  obtain ⟨e0, e1, e2, e3, e4⟩ := s0.call hw7
  go_wp2_with fail
  refine bodyPost_ret (results_v2 (b := w.heap.size + 1 + 1) (u := .int .u64 (lo z)) (v := .int .u64 (hi z)) ?_ rfl rfl) rfl ⟨rfl, by repeat (first | exact Below.refl _ _ | with_reducible assumption | (refine bl_alloc ?_ (Nat.le_refl _) _) | (refine bl_set ?_ (by dsimp only; omega) _) | (refine Below.drew ?_) | (refine bl_drewN ?_ _) | (refine bl_call ?_ (Nat.le_refl _) (by assumption)))⟩
  exact V2.set ⟨e0, e1, e2, e3, e4⟩ _ _

section
variable {f : Nat} (hf : IsF f)
include hf
theorem ref_AddK (x y : Fin (Pm f)) (w : World) : Calls Try.prog 92 #[.int .i64 f, vK x, vK y] w (RetK (x + y) w) := by
  have h := ref_AddL hf (lo x) (hi x) (lo y) (hi y) w (lo_0 x) (lo_1 x) (hi_0 x) (hi_1 x) (lo_0 y) (lo_1 y) (hi_0 y) (hi_1 y)
  rwa [kL_lohi, kL_lohi] at h
theorem ref_SubK (x y : Fin (Pm f)) (w : World) : Calls Try.prog 113 #[.int .i64 f, vK x, vK y] w (RetK (x - y) w) := by
  have h := ref_SubL hf (lo x) (hi x) (lo y) (hi y) w (lo_0 x) (lo_1 x) (hi_0 x) (hi_1 x) (lo_0 y) (lo_1 y) (hi_0 y) (hi_1 y)
  rwa [kL_lohi, kL_lohi] at h
theorem ref_NegK (x : Fin (Pm f)) (w : World) : Calls Try.prog 131 #[.int .i64 f, vK x] w (RetK (-x) w) := by
  have h := ref_NegL hf (lo x) (hi x) w (lo_0 x) (lo_1 x) (hi_0 x) (hi_1 x)
  rwa [kL_lohi] at h
end

end Go.Proofs.Ytiphahbeedeebaa

namespace Go.Proofs.Ytiphahbeedeebaa
open Go.RowKit Fm
set_option linter.unusedVariables false
set_option maxRecDepth 100000

/-- a bit of a number -/
def bitN (n : Nat) (i : Nat) : Bool := n / 2 ^ i % 2 == 1

set_option maxHeartbeats 1000000 in
theorem ref_bit {f : Nat} (x : Fin (Pm f)) (i : Nat) (hi128 : i < 128) (w : World) :
    Calls Try.prog 121 #[vK x, .int .i64 i] w fun e w' => e = .returned (.bool (bitN x.val i)) ∧ Below w.heap.size w w' := by
  obtain ⟨n, c, hn, hv, hq, hr⟩ : ∃ (n : Nat) (c : Nat), n ≤ 18446744073709551615 ∧ (if i < 64 then lo x else hi x) = (n : Int) ∧ c = i % 64 ∧ bitN x.val i = bitN n c := by
    have hl := val_lohi x
    have h0 := lo_0 x
    have h1 := lo_1 x
    have h2 := hi_0 x
    have h3 := hi_1 x
    by_cases h : i < 64
    · refine ⟨(lo x).toNat, i % 64, by omega, by rw [if_pos h]; omega, rfl, ?_⟩
      unfold bitN
      rw [Nat.mod_eq_of_lt h]
      have hx : x.val = (lo x).toNat + 2 ^ 64 * (hi x).toNat := by omega
      rw [hx, show 2 ^ 64 * (hi x).toNat = 2 ^ i * (2 * (2 ^ (63 - i) * (hi x).toNat)) by
        rw [← Nat.mul_assoc 2, ← Nat.pow_succ', ← Nat.mul_assoc, ← Nat.pow_add]
        congr 2
        omega, Nat.add_mul_div_left _ _ (Nat.two_pow_pos i), Nat.add_mul_mod_self_left]
    · refine ⟨(hi x).toNat, i % 64, by omega, by rw [if_neg h]; omega, rfl, ?_⟩
      unfold bitN
      have hx : x.val / 2 ^ 64 = (hi x).toNat := by omega
      rw [← hx, Nat.div_div_eq_div_mul, ← Nat.pow_add, show 64 + i % 64 = i by omega]
  rw [hr]
  have HQ := Lib.hid hq
  clear hq hr
  have hc : c < 64 := by have := HQ.out; omega
  have hir : ((i : Int) % 64) = (c : Int) := by have := HQ.out; omega
  go_enter Try.func121, Try.ntmps121
  go_upto_region 1 with fail
  go_cut [5] (fun t wx => t = .int .u64 n ∧ Below w.heap.size w wx)
  case first =>
    by_cases h : i < 64
    · rw [if_pos h] at hv
      have hq0 : (i : Int) / 64 = 0 := by omega
      have HV := Lib.hid hv
      clear hir hv
      go_wp2
      go_meet
      exact ⟨by rw [HV.out], by repeat (first | exact Below.refl _ _ | with_reducible assumption | (refine bl_alloc ?_ (Nat.le_refl _) _) | (refine bl_set ?_ (by dsimp only; omega) _) | (refine Below.drew ?_) | (refine bl_drewN ?_ _) | (refine bl_call ?_ (Nat.le_refl _) (by assumption)))⟩
    · rw [if_neg h] at hv
      have hq0 : (i : Int) / 64 = 1 := by omega
      have HV := Lib.hid hv
      clear hir hv
      go_wp2
      go_meet
      exact ⟨by rw [HV.out], by repeat (first | exact Below.refl _ _ | with_reducible assumption | (refine bl_alloc ?_ (Nat.le_refl _) _) | (refine bl_set ?_ (by dsimp only; omega) _) | (refine Below.drew ?_) | (refine bl_drewN ?_ _) | (refine bl_call ?_ (Nat.le_refl _) (by assumption)))⟩
  case rest =>
    obtain ⟨rfl, hb0⟩ := hcut
    clear hv
    go_wp2_with fail
    go_loop [5, 6] (fun t j => ∃ k : Nat, k ≤ c ∧ j = .int .i64 k ∧ ∃ m : Nat, t = .int .u64 m ∧ m ≤ 18446744073709551615 ∧ Hid (m = n / 2 ^ k)) (fun _ j => c - (intOf j).toNat)
    case atStart => exact ⟨0, Nat.zero_le _, rfl, n, rfl, hn, by show _ = _; rw [Nat.pow_zero, Nat.div_one]⟩
    case round =>
      obtain ⟨k, hk, rfl, m, rfl, hm, HM⟩ := hrel
      by_cases hlt : k < c
      · go_wp2
        go_round
        case rel => exact ⟨k + 1, by omega, by go_num, m / 2, by go_num, by omega, by show _ = _; rw [HM.out, Nat.div_div_eq_div_mul, Nat.pow_succ]⟩
        case measure => simp [intOf]; omega
      · obtain rfl : k = c := by omega
        go_wp2
        go_ret
        refine ⟨ret_bool ?_, by repeat (first | exact Below.refl _ _ | with_reducible assumption | (refine bl_alloc ?_ (Nat.le_refl _) _) | (refine bl_set ?_ (by dsimp only; omega) _) | (refine Below.drew ?_) | (refine bl_drewN ?_ _) | (refine bl_call ?_ (Nat.le_refl _) (by assumption)))⟩
        unfold bitN
        rw [← HM.out]
        by_cases h : m % 2 = 1
        · simp [h]
          omega
        · have h0 : m % 2 = 0 := by omega
          simp [h0]
          omega

end Go.Proofs.Ytiphahbeedeebaa
