/-
 RegX, RegZ, ExcA: what the statements of this layer share.
-/
import Derived.Test.YtpggflcapfkgpaaMak
namespace Go.Proofs.Ytpggflcapfkgpaa
open Go Go.RowKit

section
variable {P : Program} {ops : Array Oper} {Q : Exit → Act → World → Prop} {md : Region.Mode}

def wpX (P : Program) (md : Region.Mode) (ops : Array Oper) (Q : Exit → Act → World → Prop) (n m : Nat) (L : Act → World → Prop) : Nat → Array Bool → Act → (World → Prop) → (World → Prop) → Prop
 | 0, listed, a, _, S => Region.seqB md ops (m - n) n listed = true ∧ ∀ w, S w → L a w
 | f + 1, listed, a, T, S =>
  Region.ready md ops listed ≠ [] ∧
  ∀ i ∈ Region.ready md ops listed, i < n ∧ ∀ w, S w → wpOp P ops Q i (fun a' w' => ∃ T' S' : World → Prop, (∀ w, T' w → T w) ∧ (∀ w, S' w → T' w) ∧ Clo S' ∧ S' w' ∧ wpX P md ops Q n m L f (listed.setIfInBounds i true) a' T' S') a w

theorem wpAny_of_X {n m : Nat} {L : Act → World → Prop} (hL : ∀ listed a w, Region.seqB md ops (m - n) n listed = true → L a w → wpAny P md ops Q (m - n) listed a w) :
  ∀ (f : Nat) (listed : Array Bool) (a : Act) (T S : World → Prop), wpX P md ops Q n m L f listed a T S → ∀ w, S w → wpAny P md ops Q (f + (m - n)) listed a w
 | 0, listed, a, T, S, h, w, hS => by rw [Nat.zero_add]; exact hL _ _ _ h.1 (h.2 w hS)
 | f + 1, listed, a, T, S, h, w, hS => by
  rw [show f + 1 + (m - n) = (f + (m - n)) + 1 by omega]
  refine ⟨fun h0 => absurd h0 h.1, fun i hi => wpOp_mono (fun a' w' h' => ?_) ((h.2 i hi).2 w hS)⟩
  obtain ⟨T', S', _, _, _, hS', hG⟩ := h'
  exact wpAny_of_X hL f _ a' T' S' hG w' hS'

theorem wpX_first {n m : Nat} {L : Act → World → Prop} (hp : Parts md ops n m) {i : Nat} {oi : Oper} {v : Value} (hi : ops[i]? = some oi) (hin : i < n)
  (hQ : ∀ c a w, Q (.panic c) (a.put oi.dst v) w → Q (.panic c) a w) :
  ∀ (f : Nat) (listed : Array Bool) (a : Act) (T S : World → Prop), (∀ w, S w → T w) → Clo S → HInv md ops n m listed →
   (∀ j oj, ops[j]? = some oj → j ≠ i → listed.getD j true = false → (∀ e ∈ oj.after, Region.binds md e = true → e.on ≠ i) → oi.apart ops oj = true) →
   i ∈ Region.ready md ops listed → Det P ops T oi v a →
   wpX P md ops Q n m L f (listed.setIfInBounds i true) (a.put oi.dst v) T S → wpX P md ops Q n m L (f + 1) listed a T S := by
 have hsel := Region.noSelect_spec hp.nosel
 intro f
 induction f with
 | zero =>
  intro listed a T S hST hC inv _ hr hy H
  have hun := (mem_ready.1 hr).1
  refine ⟨fun h => (by rw [h] at hr; cases hr), fun j hj => ?_⟩
  have hjn : j < n := by
   rcases Nat.lt_or_ge j n with h | h
   ·exact h
   ·exact absurd hj (head_only hp inv _ i rfl hin hun j h)
  refine ⟨hjn, fun w hS => ?_⟩
  by_cases hji : j = i
  ·subst hji
   exact hy.wpOp hi (hST _ hS) fun w' hb => ⟨T, S, fun _ h => h, hST, hC, hC _ _ hS hb, H⟩
  ·have := seqB_ready H.1 j (ready_mono hj hji)
   omega
 | succ f ih =>
  intro listed a T S hST hC inv hfree hr hy H
  have hun := (mem_ready.1 hr).1
  refine ⟨fun h => (by rw [h] at hr; cases hr), fun j hj => ?_⟩
  have hjn : j < n := by
   rcases Nat.lt_or_ge j n with h | h
   ·exact h
   ·exact absurd hj (head_only hp inv _ i rfl hin hun j h)
  refine ⟨hjn, fun w hS => ?_⟩
  by_cases hji : j = i
  ·subst hji
   exact hy.wpOp hi (hST _ hS) fun w' hb => ⟨T, S, fun _ h => h, hST, hC, hC _ _ hS hb, H⟩
  ·have h1 := (H.2 j (ready_mono hj hji)).2 w hS
   obtain ⟨hjun, oj, hoj, hall⟩ := mem_ready.1 hj
   have hnot : ∀ e ∈ oj.after, Region.binds md e = true → e.on ≠ i := fun e he hb heq => by
    have h1 := hall e he hb
    rw [heq, getD_both hun] at h1
    cases h1
   have h2 := wpOp_putDet hoj (hfree j oj hoj hji hjun hnot) (fun cs b => hsel i oi cs b hi) (fun cs b => hsel j oj cs b hoj) hQ hy h1
   have hfree' : ∀ k ok, ops[k]? = some ok → k ≠ i → (listed.setIfInBounds j true).getD k true = false →
     (∀ e ∈ ok.after, Region.binds md e = true → e.on ≠ i) → oi.apart ops ok = true := fun k ok hk hki hu hno => by
    refine hfree k ok hk hki ?_ hno
    by_cases hjk : j = k
    ·subst hjk
     exact hjun
    ·rw [getD_set_ne true hjk] at hu
     exact hu
   refine wpOp_mono (fun a' w' h3 => ?_) h2
   have hcomm : (listed.setIfInBounds i true).setIfInBounds j true = (listed.setIfInBounds j true).setIfInBounds i true := (Array.setIfInBounds_comm _ _ hji).symm
   rw [hcomm] at h3
   obtain ⟨hd, T', S', hT', hST', hC', hS', hG⟩ := h3
   exact ⟨T', S', hT', hST', hC', hS', ih (listed.setIfInBounds j true) a' T' S' hST' hC' (inv.set hj hjn hp.lt) hfree' (ready_mono hr (Ne.symm hji)) (hd.weak hT') hG⟩

def WpX (P : Program) (md : Region.Mode) (ops : Array Oper) (Q : Exit → Act → World → Prop) (n m : Nat) (L : Act → World → Prop) (f : Nat) (listed : Array Bool) (a : Act) (T S : World → Prop) : Prop :=
 (∀ w, S w → T w) → Clo S → Parts md ops n m → HInv md ops n m listed → wpX P md ops Q n m L f listed a T S

variable {n m : Nat} {L : Act → World → Prop} {T S : World → Prop} {f : Nat} {listed : Array Bool} {a : Act}

theorem WpX.takeD (i : Nat) (d : Option Tmp) {oi : Oper} {v : Value} (hi : ops[i]? = some oi) (hd : oi.dst = d)
  (hB : (decide (i < n) && Region.free md ops listed i && (Region.ready md ops listed).contains i) = true)
  (hQ : ∀ c a w, Q (.panic c) (a.put d v) w → Q (.panic c) a w)
  (hy : Det P ops T oi v a)
  (h : WpX P md ops Q n m L f (listed.setIfInBounds i true) (a.put d v) T S) : WpX P md ops Q n m L (f + 1) listed a T S := by
 subst hd
 simp only [Bool.and_eq_true, decide_eq_true_eq] at hB
 obtain ⟨⟨hin, hf⟩, hr⟩ := hB
 have hr' : i ∈ Region.ready md ops listed := by simpa using hr
 exact fun hST hC hp inv => wpX_first hp hi hin hQ f listed a T S hST hC inv (Region.free_spec hi hf) hr' hy (h hST hC hp (inv.set hr' hin hp.lt))

def Turns (P : Program) (ops : Array Oper) (T S : World → Prop) {ι : Type} (F : ι → Value) (T' S' : ι → World → Prop) (o : Oper) (a : Act) : Prop :=
 Region.wanted o (yielded ops a.tmps) = true ∧ (∀ x w, T' x w → T w) ∧ (∀ x w, S' x w → T' x w) ∧ (∀ x, Clo (S' x)) ∧ ∀ w, S w → UponV P (fun v w' => ∃ x, v = F x ∧ S' x w') ((execOp a.eval o).run P w)

theorem WpX.vD (i : Nat) (d : Option Tmp) (v : Value) {oi : Oper} (hi : ops[i]? = some oi) (hd : oi.dst = d)
  (hB : (decide (i < n) && Region.free md ops listed i && (Region.ready md ops listed).contains i) = true)
  (hQ : ∀ c a w, Q (.panic c) (a.put d v) w → Q (.panic c) a w)
  (hw : Region.wanted oi (yielded ops a.tmps) = true) (hv : ∀ w, T w → (execOp a.eval oi).run P w = .ok (.value v) w)
  (h : WpX P md ops Q n m L f (listed.setIfInBounds i true) (a.put d v) T S) : WpX P md ops Q n m L (f + 1) listed a T S :=
 WpX.takeD i d hi hd hB hQ (.val hw hv) h

theorem Turns.val {ι : Type} {F : ι → Value} {T' S' : ι → World → Prop} {o : Oper} (hw : Region.wanted o (yielded ops a.tmps) = true) (hT : ∀ x w, T' x w → T w) (hST : ∀ x w, S' x w → T' x w) (hC : ∀ x, Clo (S' x))
  (h : ∀ w, S w → ∃ x w', (execOp a.eval o).run P w = .ok (.value (F x)) w' ∧ S' x w') : Turns P ops T S F T' S' o a :=
 ⟨hw, hT, hST, hC, fun w hS => by
  obtain ⟨x, w', hr, hS'⟩ := h w hS
  rw [hr]
  exact ⟨x, rfl, hS'⟩⟩
theorem Turns.call {ι : Type} {F : ι → Value} {T' S' : ι → World → Prop} {o : Oper} {g : FuncId} {args : Array Value} (hw : Region.wanted o (yielded ops a.tmps) = true) (hT : ∀ x w, T' x w → T w) (hST : ∀ x w, S' x w → T' x w) (hC : ∀ x, Clo (S' x))
  (hc : ∀ w, S w → Calls P g args w (fun e w' => ∃ x, e = .returned (F x) ∧ S' x w')) (h : ∀ w, S w → (execOp a.eval o).run P w = .ok (.enter g args) w) : Turns P ops T S F T' S' o a :=
 ⟨hw, hT, hST, hC, fun w hS => by
  rw [h w hS]
  exact Calls.mono (hc w hS) fun e w' ⟨x, he, hS'⟩ => ⟨F x, he, x, rfl, hS'⟩⟩

theorem Turns.wpOp {i : Nat} {oi : Oper} (hi : ops[i]? = some oi) {ι : Type} {F : ι → Value} {T' S' : ι → World → Prop} (hy : Turns P ops T S F T' S' oi a) {K : Act → World → Prop} {w : World} (hw : S w)
  (h : ∀ x w', S' x w' → K (a.put oi.dst (F x)) w') : wpOp P ops Q i K a w := by
 unfold Go.wpOp
 simp only [hi]
 simp only [hy.1, if_true]
 refine .inl ?_
 unfold Oper.wp
 refine (hy.2.2.2.2 w hw).upon ?_
 rintro u w' ⟨x, rfl, hR⟩
 exact h x w' hR

theorem WpX.oneD (i : Nat) (d : Option Tmp) {oi : Oper} (hi : ops[i]? = some oi) (hd : oi.dst = d) (hB : (decide (i < n) && decide (Region.ready md ops listed = [i])) = true)
  {ι : Type} (F : ι → Value) (T' S' : ι → World → Prop) (hy : Turns P ops T S F T' S' oi a)
  (h : ∀ x, WpX P md ops Q n m L f (listed.setIfInBounds i true) (a.put d (F x)) (T' x) (S' x)) : WpX P md ops Q n m L (f + 1) listed a T S := by
 subst hd
 simp only [Bool.and_eq_true, decide_eq_true_eq] at hB
 obtain ⟨hin, hr⟩ := hB
 intro hST hC hp inv
 refine ⟨by rw [hr]; simp, fun j hj => ?_⟩
 have hj' : j = i := by rw [hr] at hj; simpa using hj
 subst hj'
 refine ⟨hin, fun w hS => hy.wpOp hi hS fun x w' hS' => ?_⟩
 exact ⟨T' x, S' x, hy.2.1 x, hy.2.2.1 x, hy.2.2.2.1 x, hS', h x (hy.2.2.1 x) (hy.2.2.2.1 x) hp (inv.set hj hin hp.lt)⟩

theorem WpX.twoD (i k : Nat) (d d' : Option Tmp) {oi ok : Oper} (hi : ops[i]? = some oi) (hd : oi.dst = d) (hk : ops[k]? = some ok) (hd' : ok.dst = d') (hB : (decide (i < n) && decide (k < n) && decide (Region.ready md ops listed = [i, k])) = true)
  {ι κ : Type} (F : ι → Value) (T' S' : ι → World → Prop) (hy : Turns P ops T S F T' S' oi a)
  (G : κ → Value) (T'' S'' : κ → World → Prop) (hz : Turns P ops T S G T'' S'' ok a)
  (h : ∀ x, WpX P md ops Q n m L f (listed.setIfInBounds i true) (a.put d (F x)) (T' x) (S' x))
  (h' : ∀ x, WpX P md ops Q n m L f (listed.setIfInBounds k true) (a.put d' (G x)) (T'' x) (S'' x)) : WpX P md ops Q n m L (f + 1) listed a T S := by
 subst hd
 subst hd'
 simp only [Bool.and_eq_true, decide_eq_true_eq] at hB
 obtain ⟨⟨hin, hkn⟩, hr⟩ := hB
 intro hST hC hp inv
 refine ⟨by rw [hr]; simp, fun j hj => ?_⟩
 have hj' : j = i ∨ j = k := by rw [hr] at hj; simpa using hj
 rcases hj' with rfl | rfl
 ·refine ⟨hin, fun w hS => hy.wpOp hi hS fun x w' hS' => ?_⟩
  exact ⟨T' x, S' x, hy.2.1 x, hy.2.2.1 x, hy.2.2.2.1 x, hS', h x (hy.2.2.1 x) (hy.2.2.2.1 x) hp (inv.set hj hin hp.lt)⟩
 ·refine ⟨hkn, fun w hS => hz.wpOp hk hS fun x w' hS' => ?_⟩
  exact ⟨T'' x, S'' x, hz.2.1 x, hz.2.2.1 x, hz.2.2.2.1 x, hS', h' x (hz.2.2.1 x) (hz.2.2.2.1 x) hp (inv.set hj hkn hp.lt)⟩

theorem WpX.oneSkip (i : Nat) (d : Option Tmp) {oi : Oper} (hi : ops[i]? = some oi) (hd : oi.dst = d) (hB : (decide (i < n) && decide (Region.ready md ops listed = [i])) = true)
  (T' S' : World → Prop) (hT : ∀ w, T' w → T w) (hST : ∀ w, S' w → T' w) (hC' : Clo S') (hw : Region.wanted oi (yielded ops a.tmps) = true) (hop : ∀ w, S w → ∃ w', (execOp a.eval oi).run P w = .ok .skip w' ∧ S' w')
  (h : WpX P md ops Q n m L f (listed.setIfInBounds i true) (a.put d undef) T' S') : WpX P md ops Q n m L (f + 1) listed a T S := by
 subst hd
 simp only [Bool.and_eq_true, decide_eq_true_eq] at hB
 obtain ⟨hin, hr⟩ := hB
 intro hS0 hC hp inv
 refine ⟨by rw [hr]; simp, fun j hj => ?_⟩
 have hj' : j = i := by rw [hr] at hj; simpa using hj
 subst hj'
 refine ⟨hin, fun w hS => ?_⟩
 obtain ⟨w', hrun, hS'⟩ := hop w hS
 unfold Go.wpOp
 simp only [hi, hw, if_true]
 refine .inl ?_
 unfold Oper.wp
 rw [hrun]
 exact ⟨T', S', hT, hST, hC', hS', h hST hC' hp (inv.set hj hin hp.lt)⟩

theorem WpX.done (hB : Region.seqB md ops (m - n) n listed = true) (h : ∀ w, S w → L a w) : WpX P md ops Q n m L 0 listed a T S := fun _ _ _ _ => ⟨hB, h⟩

theorem region_X {id n m f : Nat} {l : List Oper} {a : Act} {w : World} (T S : World → Prop) (hST : ∀ w, S w → T w) (hC : Clo S) (hS : S w.drew) (hm : P.follows .mixedOrders = true) (hB : partsB .any l.toArray n m (Array.replicate l.length false) = true) (hf : f + (m - n) = l.length)
  (h : WpX P .any l.toArray Q n m (wpList P l.toArray Q ((l.drop n).take (m - n))) f (Array.replicate l.length false) a T S) : (Code.region id l.toArray true).wp P Q a w := by
 refine wp_region_any hm ?_
 obtain ⟨hp, inv⟩ := parts_of hB
 have := wpAny_of_X (md := .any) (n := n) (m := m) (L := wpList P l.toArray Q ((l.drop n).take (m - n))) (fun listed' a' w' hq hl => ?_) f (Array.replicate l.length false) a T S (h hST hC hp inv) w.drew hS
 ·rw [hf] at this
  simpa using this
 ·have hlen : ((l.drop n).take (m - n)).length = m - n := by
   have := hp.le
   simp at this ⊢
   omega
  have := any_of_tail (P := P) (md := .any) (ops := l.toArray) (Q' := Q) ((l.drop n).take (m - n)) n listed' a' w' (fun j hj => ?_) (by rw [hlen]; exact hq) hl
  ·rwa [hlen] at this
  ·rw [hlen] at hj
   simp [hj]
end

end Go.Proofs.Ytpggflcapfkgpaa

namespace Go.Proofs.Ytpggflcapfkgpaa
open Go Go.RowKit
set_option linter.unusedVariables false

section
variable {P : Program} {ops : Array Oper} {Q : Exit → Act → World → Prop} {md : Region.Mode} {n m : Nat} {L : Act → World → Prop} {f : Nat} {listed : Array Bool} {a : Act} {T S : World → Prop}
variable {L' : Act → World → Prop}
theorem wpX_monoZ (hL : ∀ a w, L a w → L' a w) : ∀ (f : Nat) (listed : Array Bool) (a : Act) (T S : World → Prop), wpX P md ops Q n m L f listed a T S → wpX P md ops Q n m L' f listed a T S
 | 0, listed, a, T, S, h => ⟨h.1, fun w hS => hL _ _ (h.2 w hS)⟩
 | f + 1, listed, a, T, S, h => ⟨h.1, fun i hi => ⟨(h.2 i hi).1, fun w hS => wpOp_mono (fun a' w' h' => by
   obtain ⟨T', S', h1, h2, h3, h4, h5⟩ := h'
   exact ⟨T', S', h1, h2, h3, h4, wpX_monoZ hL f _ a' T' S' h5⟩) ((h.2 i hi).2 w hS)⟩⟩
theorem WpX.monoZ (hL : ∀ a w, L a w → L' a w) (h : WpX P md ops Q n m L f listed a T S) : WpX P md ops Q n m L' f listed a T S :=
 fun hST hC hp inv => wpX_monoZ hL f listed a T S (h hST hC hp inv)
theorem region_Z3 {id n m f : Nat} {l : List Oper} {a : Act} {w : World} {α β γ : Type} (R : α → β → γ → World → Prop) (T S : World → Prop) (hST : ∀ w, S w → T w) (hC : Clo S) (hS : S w.drew) {E : α → β → γ → Act} (hm : P.follows .mixedOrders = true) (hB : partsB .any l.toArray n m (Array.replicate l.length false) = true) (hf : f + (m - n) = l.length)
  (h : WpX P .any l.toArray Q n m (fun a w => ∃ x y z, a = E x y z ∧ R x y z w) f (Array.replicate l.length false) a T S)
  (hc : ∀ x y z w', R x y z w' → wpList P l.toArray Q ((l.drop n).take (m - n)) (E x y z) w') : (Code.region id l.toArray true).wp P Q a w :=
 region_X T S hST hC hS hm hB hf (h.monoZ fun _ w ⟨x, y, z, e, hr⟩ => e ▸ hc x y z w hr)
end

end Go.Proofs.Ytpggflcapfkgpaa

namespace Go.Proofs.Ytpggflcapfkgpaa
open Go.RowKit Fm
set_option linter.unusedVariables false
set_option maxRecDepth 100000

structure Exc (S : Nat → Prop) (B : Nat) (w w' : World) : Prop where
 os : w'.os = w.os
 tape : w'.tape = w.tape
 output : w'.output = w.output
 size : w.heap.size ≤ w'.heap.size
 block : ∀ k, k < B → ¬ S k → w'.heap[k]? = w.heap[k]?

section
variable {S : Nat → Prop} {B : Nat} {a w w' w'' : World}
theorem exc_of (h : Below B w w') : Exc S B w w' := ⟨h.os, h.tape, h.output, h.size, fun k hk _ => h.block k hk⟩
theorem Exc.trans (h : Exc S B w w') (k : Exc S B w' w'') : Exc S B w w'' :=
 ⟨k.os.trans h.os, k.tape.trans h.tape, k.output.trans h.output, Nat.le_trans h.size k.size, fun i hi hn => (k.block i hi hn).trans (h.block i hi hn)⟩
theorem Exc.mono {B' : Nat} (h : Exc S B w w') (hB : B' ≤ B) : Exc S B' w w' := ⟨h.os, h.tape, h.output, h.size, fun k hk => h.block k (by omega)⟩
theorem Exc.less {T : Nat → Prop} (h : Exc S B w w') (hT : ∀ k, k < B → S k → T k) : Exc T B w w' := ⟨h.os, h.tape, h.output, h.size, fun k hk hn => h.block k hk fun hs => hn (hT k hk hs)⟩
theorem Exc.below (h : Exc S B w w') (hn : ∀ k, k < B → ¬ S k) : Below B w w' := ⟨h.os, h.tape, h.output, h.size, fun k hk => h.block k hk (hn k hk)⟩
theorem Exc.cell (h : Exc S B w w') {p : Addr} (hp : p.block < B) (hn : ¬ S p.block) : w'.cell? p = w.cell? p := World.cell?_of_block (h.block _ hp hn)
theorem Exc.frozen (h : Exc S B w w') {p : Addr} (hp : p.block < B) (hn : ¬ S p.block) : w'.frozen? p = w.frozen? p := World.frozen?_of_block (h.block _ hp hn)

theorem Exc.call (h : Exc S a.heap.size a w) (k : Below w.heap.size w w') : Exc S a.heap.size a w' := h.trans ((exc_of k).mono h.size)
theorem Exc.more {T : Nat → Prop} (h : Exc S a.heap.size a w) (k : Exc T w.heap.size w w') (hT : ∀ q, T q → S q ∨ a.heap.size ≤ q) : Exc S a.heap.size a w' :=
 h.trans ((k.mono h.size).less fun q hq ht => (hT q ht).resolve_right (by omega))
theorem Exc.st {b : Nat} (h : Exc S B a w) (hp : B ≤ b) (x y : Value) : Exc S B a ((w.setCell ⟨b, 0, none⟩ x).setCell ⟨b, 1, none⟩ y) := h.trans (exc_of (bl_st (Below.refl B w) hp x y))

theorem Exc.one {S' : Nat → Prop} (w : World) {b : Nat} (hb : S' b) (x y : Value) : Exc S' w.heap.size w ((w.setCell ⟨b, 0, none⟩ x).setCell ⟨b, 1, none⟩ y) :=
 ⟨rfl, rfl, rfl, by simp [World.setCell], fun k hk hn => by
  have hne : k ≠ b := fun e => hn (e ▸ hb)
  rw [Below.heap_setCell _ _ y k hne, Below.heap_setCell _ _ x k hne]⟩

def Onl (g : Nat) (w w' : World) : Prop := Exc (fun q => q = g) w.heap.size w w'
theorem Onl.clo (g : Nat) (w : World) : Clo (Onl g w) := fun _ _ h hb => Exc.trans h ((exc_of hb).mono h.size)
theorem Onl.drew (g : Nat) (w : World) : Onl g w w.drew := exc_of ((Below.refl _ _).drew)
theorem Onl.more {g : Nat} (h : Onl g a w) (k : Exc (fun q => q = g) w.heap.size w w') : Onl g a w' := Exc.trans h (k.mono h.size)

structure St (I : (Nat → Prop) → World → Prop) (D : Nat → Prop) (w : World) : Prop where
 here : I D w
 lt : ∀ q, D q → q < w.heap.size
 keep : ∀ w w', I D w → (∀ q, D q → w'.heap[q]? = w.heap[q]?) → I D w'
theorem St.of {I : (Nat → Prop) → World → Prop} {D : Nat → Prop} (h : St I D w) (hs : w.heap.size ≤ w'.heap.size) (hb : ∀ q, D q → w'.heap[q]? = w.heap[q]?) : St I D w' :=
 ⟨h.keep _ _ h.here hb, fun q hq => Nat.lt_of_lt_of_le (h.lt q hq) hs, h.keep⟩
theorem St.call {I : (Nat → Prop) → World → Prop} {D : Nat → Prop} (h : St I D w) (hb : Below w.heap.size w w') : St I D w' := h.of hb.size fun q hq => hb.block q (h.lt q hq)
theorem St.exc {I : (Nat → Prop) → World → Prop} {D : Nat → Prop} (h : St I D w) (hn : ∀ q, D q → ¬ S q) (hb : Exc S w.heap.size w w') : St I D w' := h.of hb.size fun q hq => hb.block q (h.lt q hq) (hn q hq)
theorem St.st {I : (Nat → Prop) → World → Prop} {D : Nat → Prop} (h : St I D w) {b : Nat} (hn : ¬ D b) (x y : Value) : St I D ((w.setCell ⟨b, 0, none⟩ x).setCell ⟨b, 1, none⟩ y) :=
 h.of (by simp [World.setCell]) fun q hq => by
  have hne : q ≠ b := fun e => hn (e ▸ hq)
  rw [Below.heap_setCell _ _ y q hne, Below.heap_setCell _ _ x q hne]

theorem cell_exc {p : Addr} {v : Value} (h : w.cell? p = some v) (hn : ¬ S p.block) (hb : Exc S w.heap.size w w') : w'.cell? p = some v := (hb.cell (lt_of_cell h) hn).trans h
theorem V2.exc {b : Nat} {u v : Value} (h : V2 w b u v) (hn : ¬ S b) (hb : Exc S w.heap.size w w') : V2 w' b u v :=
 ⟨cell_exc h.c0 hn hb, cell_exc h.c1 hn hb, (hb.frozen (p := ⟨b, 0, none⟩) h.lt hn).trans h.f0, (hb.frozen (p := ⟨b, 1, none⟩) h.lt hn).trans h.f1, Nat.lt_of_lt_of_le h.lt hb.size⟩
theorem Vs.exc {b : Nat} {cs : List Value} (h : Vs w b cs) (hn : ¬ S b) (hb : Exc S w.heap.size w w') : Vs w' b cs :=
 ⟨fun i v hi => cell_exc (h.cell i v hi) hn hb, fun i hi => (hb.frozen (p := ⟨b, i, none⟩) h.lt hn).trans (h.frz i hi), Nat.lt_of_lt_of_le h.lt hb.size⟩
theorem BlkE.exc {b : Nat} {xs : List E} (h : BlkE w b xs) (hn : ¬ S b) (hb : Exc S w.heap.size w w') : BlkE w' b xs := (hb.block b h.lt hn).trans h
theorem RowE.exc {b o : Nat} {xs : List E} (h : RowE w b o xs) (hn : ¬ S b) (hb : Exc S w.heap.size w w') : RowE w' b o xs :=
 fun i e hi => ⟨cell_exc (h i e hi).1 hn hb, cell_exc (h i e hi).2 hn hb⟩

def SlX {f : Nat} (S : Nat → Prop) (w : World) (v : Value) (l : KL f) : Prop :=
 ∃ (A : Option Addr) (c : Nat), v = .slice A l.length c ∧ l.length ≤ c ∧ c ≤ 9223372036854775807 ∧ (0 < l.length → ∃ b o, A = some ⟨b, o, none⟩ ∧ b < w.heap.size ∧ ¬ S b ∧ RowE w b o (esK l))

variable {f : Nat} {v : Value} {l : KL f}
theorem SlX.toK (h : SlX S w v l) : SlK w w.heap.size v l := by
 obtain ⟨A, c, hv, h1, h2, h3⟩ := h
 refine ⟨A, c, hv, h1, h2, fun hl => ?_⟩
 obtain ⟨b, o, k1, k2, _, k3⟩ := h3 hl
 exact ⟨b, o, k1, k2, k3⟩
theorem SlX.exc (h : SlX S w v l) (hb : Exc S w.heap.size w w') : SlX S w' v l := by
 obtain ⟨A, c, hv, h1, h2, h3⟩ := h
 refine ⟨A, c, hv, h1, h2, fun hl => ?_⟩
 obtain ⟨b, o, k1, k2, k3, k4⟩ := h3 hl
 exact ⟨b, o, k1, Nat.lt_of_lt_of_le k2 hb.size, k3, k4.exc k3 hb⟩
theorem SlX.call (h : SlX S w v l) (hb : Below w.heap.size w w') : SlX S w' v l := h.exc (exc_of hb)
theorem SlK.out {B : Nat} (h : SlK w B v l) (hB : B ≤ w.heap.size) (hS : ∀ b, S b → B ≤ b) : SlX S w v l := by
 obtain ⟨A, c, hv, h1, h2, h3⟩ := h
 refine ⟨A, c, hv, h1, h2, fun hl => ?_⟩
 obtain ⟨b, o, k1, k2, k3⟩ := h3 hl
 exact ⟨b, o, k1, by omega, fun hs => by have := hS b hs; omega, k3⟩
theorem SlX.at {A : Option Addr} {n c k : Nat} {x : Fin (Pm f)} (h : SlX S w (.slice A n c) l) (hk : l[k]? = some x) : ∃ b o, A = some ⟨b, o, none⟩ ∧ b < w.heap.size ∧ w.cell? ⟨b, o + k * 2, none⟩ = some (.int .u64 (lo x)) ∧ w.cell? ⟨b, o + k * 2 + 1, none⟩ = some (.int .u64 (hi x)) := by
 obtain ⟨A', c', hv, h1, h2, h3⟩ := h
 obtain ⟨b, o, k1, k2, _, k4⟩ := h3 (by have := (List.getElem?_eq_some_iff.1 hk).1; omega)
 injection hv with e1 e2 e3
 exact ⟨b, o, e1.trans k1, k2, (k4.kat hk).1, (k4.kat hk).2⟩
theorem SlX.of {b o n c : Nat} (hn : l.length = n) (hc : n ≤ c) (hm : c ≤ 9223372036854775807) (hb : b < w.heap.size) (hS : ¬ S b) (hr : RowE w b o (esK l)) : SlX S w (.slice (some ⟨b, o, none⟩) n c) l := by
 subst hn
 exact ⟨_, _, rfl, hc, hm, fun _ => ⟨b, o, rfl, hb, hS, hr⟩⟩
end

end Go.Proofs.Ytpggflcapfkgpaa
