/-
  THE LAW ON REGIONS, ON: two new things, in either order.
-/
import Derived.Test.YtgambjmjbmdciaaKit
namespace Go.Proofs.Ytgambjmjbmdciaa
open Go Go.RowKit

section
variable {P : Program} {ops : Array Oper} {Q : Exit → Act → World → Prop} {md : Region.Mode} {S : Array Bool → Act → World → Prop}

/-- either of two may come up -/
theorem WpH.two {n m : Nat} {L : Act → World → Prop} {i k : Nat} {f : Nat} {listed : Array Bool} {a : Act}
    (hB : (decide (i < n) && decide (k < n) && decide (Region.ready md ops listed = [i, k])) = true)
    (hi : ∀ w, S listed a w → wpOp P ops Q i (fun a' w' => S (listed.setIfInBounds i true) a' w' ∧ WpH P md ops Q n m S L f (listed.setIfInBounds i true) a') a w)
    (hk : ∀ w, S listed a w → wpOp P ops Q k (fun a' w' => S (listed.setIfInBounds k true) a' w' ∧ WpH P md ops Q n m S L f (listed.setIfInBounds k true) a') a w) : WpH P md ops Q n m S L (f + 1) listed a := by
  simp only [Bool.and_eq_true, decide_eq_true_eq] at hB
  obtain ⟨⟨hin, hkn⟩, hr⟩ := hB
  intro hp inv
  refine ⟨by rw [hr]; simp, fun j hj => ?_⟩
  have hj' : j = i ∨ j = k := by rw [hr] at hj; simpa using hj
  rcases hj' with rfl | rfl
  · exact ⟨hin, fun w hS => wpOp_mono (fun a' w' h' => ⟨h'.1, h'.2 hp (inv.set hj hin hp.lt)⟩) (hi w hS)⟩
  · exact ⟨hkn, fun w hS => wpOp_mono (fun a' w' h' => ⟨h'.1, h'.2 hp (inv.set hj hkn hp.lt)⟩) (hk w hS)⟩

/-- a new thing that nobody need know of later -/
theorem withNew_nd {W : World} {k : Nat} {t : Tmp} {R : Value → World → Prop} (hR : ∀ v w w', R v w → Below w.heap.size w w' → R v w') {l : Array Bool} {a : Act} {w w' : World} {i : Nat} {d : Option Tmp} {v : Value}
    (h : WithNew W k t R l a w) (hb : Below w.heap.size w w') (hik : (i == k) = false) (hd : (d == some t) = false) : WithNew W k t R (l.setIfInBounds i true) (a.put d v) w' := by
  rw [withNew_put hik hd]
  exact ⟨h.1.trans (hb.mono h.1.size), fun hk => hR _ _ _ (h.2 hk) hb⟩

/-- the new variable itself -/
theorem withNew_made {W : World} {k : Nat} {t : Tmp} {R : Value → World → Prop} {l : Array Bool} {a : Act} {w w' : World} {v : Value}
    (h : WithNew W k t R l a w) (hb : Below w.heap.size w w') (hlt : t < a.tmps.size) (hv : R v w') : WithNew W k t R (l.setIfInBounds k true) (a.put (some t) v) w' := by
  refine ⟨h.1.trans (hb.mono h.1.size), fun _ => ?_⟩
  have e : (a.put (some t) v).tmps.getD t undef = v := by simp [Act.put, hlt]
  rw [e]
  exact hv
end

end Go.Proofs.Ytgambjmjbmdciaa
