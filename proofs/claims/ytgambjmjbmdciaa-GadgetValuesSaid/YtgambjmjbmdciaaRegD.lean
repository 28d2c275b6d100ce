/-
  THE LAW ON REGIONS, its steps with the slot written out: so that a frame stays a literal.
-/
import Derived.Test.YtgambjmjbmdciaaRegG
import Derived.Test.YtgambjmjbmdciaaReg2
namespace Go.Proofs.Ytgambjmjbmdciaa
open Go Go.RowKit

section
variable {P : Program} {ops : Array Oper} {Q : Exit → Act → World → Prop} {md : Region.Mode} {W : World} {n m f : Nat} {L : Act → World → Prop} {listed : Array Bool} {a : Act}

theorem WpH.takeD (i : Nat) (d : Option Tmp) {oi : Oper} {v : Value} (hi : ops[i]? = some oi) (hd : oi.dst = d)
    (hB : (decide (i < n) && Region.free md ops listed i && (Region.ready md ops listed).contains i) = true)
    (hQ : ∀ c a w, Q (.panic c) (a.put d v) w → Q (.panic c) a w)
    (hy : Det P ops (Below W.heap.size W) oi v a)
    (h : WpH P md ops Q n m (Flat (Below W.heap.size W)) L f (listed.setIfInBounds i true) (a.put d v)) : WpH P md ops Q n m (Flat (Below W.heap.size W)) L (f + 1) listed a := by
  subst hd
  exact WpH.takeB hi hB hQ hy h

theorem WpH.takeND {k : Nat} {t : Tmp} {R : Value → World → Prop} (hR : ∀ v w w', R v w → Below w.heap.size w w' → R v w') (i : Nat) (d : Option Tmp) {oi : Oper} {v : Value} (hi : ops[i]? = some oi) (hd : oi.dst = d)
    (hB : (decide (i < n) && Region.free md ops listed i && (Region.ready md ops listed).contains i) = true) (hik : (i == k) = false) (hdt : (d == some t) = false)
    (hQ : ∀ c a w, Q (.panic c) (a.put d v) w → Q (.panic c) a w)
    (hy : Det P ops (Below W.heap.size W) oi v a)
    (h : WpH P md ops Q n m (WithNew W k t R) L f (listed.setIfInBounds i true) (a.put d v)) : WpH P md ops Q n m (WithNew W k t R) L (f + 1) listed a := by
  subst hd
  exact WpH.takeN hR hi hB hik hdt hQ hy h

theorem wpOp_valueD (d : Option Tmp) {i : Nat} {o : Oper} {v : Value} {w w' : World} {K : Act → World → Prop} (hi : ops[i]? = some o) (hd : o.dst = d) (hw : Region.wanted o (yielded ops a.tmps) = true)
    (h : (execOp a.eval o).run P w = .ok (.value v) w') (hK : K (a.put d v) w') : wpOp P ops Q i K a w := by
  subst hd
  exact wpOp_value hi hw h hK

variable {S : World → Prop}
theorem WpG.takeD (i : Nat) (d : Option Tmp) {oi : Oper} {v : Value} (hi : ops[i]? = some oi) (hd : oi.dst = d)
    (hB : (decide (i < n) && Region.free md ops listed i && (Region.ready md ops listed).contains i) = true)
    (hQ : ∀ c a w, Q (.panic c) (a.put d v) w → Q (.panic c) a w)
    (hy : Det P ops S oi v a)
    (h : WpG P md ops Q n m L f (listed.setIfInBounds i true) (a.put d v) S) : WpG P md ops Q n m L (f + 1) listed a S := by
  subst hd
  exact WpG.take hi hB hQ hy h

theorem WpG.oneD (i : Nat) (d : Option Tmp) {oi : Oper} (hi : ops[i]? = some oi) (hd : oi.dst = d) (hB : (decide (i < n) && decide (Region.ready md ops listed = [i])) = true)
    {ι : Type} (F : ι → Value) (R : ι → World → Prop) (hR : ∀ x, Clo (R x)) (hy : Fresh P ops S F R oi a)
    (h : ∀ x w0, S w0 → R x w0 → WpG P md ops Q n m L f (listed.setIfInBounds i true) (a.put d (F x)) (fun w => S w ∧ R x w)) : WpG P md ops Q n m L (f + 1) listed a S := by
  subst hd
  exact WpG.one hi hB F R hR hy h

theorem WpG.twoD (i k : Nat) (d d' : Option Tmp) {oi ok : Oper} (hi : ops[i]? = some oi) (hd : oi.dst = d) (hk : ops[k]? = some ok) (hd' : ok.dst = d') (hB : (decide (i < n) && decide (k < n) && decide (Region.ready md ops listed = [i, k])) = true)
    {ι κ : Type} (F : ι → Value) (R : ι → World → Prop) (hR : ∀ x, Clo (R x)) (hy : Fresh P ops S F R oi a)
    (F' : κ → Value) (R' : κ → World → Prop) (hR' : ∀ x, Clo (R' x)) (hy' : Fresh P ops S F' R' ok a)
    (h : ∀ x w0, S w0 → R x w0 → WpG P md ops Q n m L f (listed.setIfInBounds i true) (a.put d (F x)) (fun w => S w ∧ R x w))
    (h' : ∀ x w0, S w0 → R' x w0 → WpG P md ops Q n m L f (listed.setIfInBounds k true) (a.put d' (F' x)) (fun w => S w ∧ R' x w)) : WpG P md ops Q n m L (f + 1) listed a S := by
  subst hd
  subst hd'
  exact WpG.two hi hk hB F R hR hy F' R' hR' hy' h h'

/-- number i alone comes up: a store (into what is new) -/
theorem WpG.oneSkip (i : Nat) (d : Option Tmp) {oi : Oper} (hi : ops[i]? = some oi) (hd : oi.dst = d) (hB : (decide (i < n) && decide (Region.ready md ops listed = [i])) = true)
    (R : World → Prop) (hR : Clo R) (hw : Region.wanted oi (yielded ops a.tmps) = true) (hop : ∀ w, S w → ∃ w', (execOp a.eval oi).run P w = .ok .skip w' ∧ S w' ∧ R w')
    (h : WpG P md ops Q n m L f (listed.setIfInBounds i true) (a.put d undef) (fun w => S w ∧ R w)) : WpG P md ops Q n m L (f + 1) listed a S := by
  subst hd
  simp only [Bool.and_eq_true, decide_eq_true_eq] at hB
  obtain ⟨hin, hr⟩ := hB
  intro hC hp inv
  refine ⟨by rw [hr]; simp, fun j hj => ?_⟩
  have hj' : j = i := by rw [hr] at hj; simpa using hj
  subst hj'
  refine ⟨hin, fun w hS => ?_⟩
  obtain ⟨w', hrun, hS', hRw⟩ := hop w hS
  unfold Go.wpOp
  simp only [hi, hw, if_true]
  refine .inl ?_
  unfold Oper.wp
  rw [hrun]
  exact ⟨_, hC.and hR, fun _ hw => hw.1, ⟨hS', hRw⟩, h (hC.and hR) hp (inv.set hj hin hp.lt)⟩
end

end Go.Proofs.Ytgambjmjbmdciaa
