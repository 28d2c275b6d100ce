/-
  A LAW ON REGIONS THAT DRAW THEIR ORDER, of any program: what is known of the world may grow from operation to operation: several new things in one region; calls of what is new.
-/
/-
  WALKS: circuit.within, weightBits, In, Out, Calls, Gadget.
-/
/-
  WALKS: the reference's circuits: used, WeightBits, Offset, In, Out, Calls, Joint, Arity, Domain.
-/
/-
  WALKS: ntt.Next; circuit.Joint, Domain, Gadget, Proof, Verifier, Most, offset; the reference's Joint, Domain, Arity.
-/
import Derived.Test.YtiphahbeedeebaaMaf
import Derived.Test.YtiphahbeedeebaaMaj
import Derived.Test.YtiphahbeedeebaaLenM
import Derived.Test.YtiphahbeedeebaaMak
namespace Go.Proofs.Ytiphahbeedeebaa
open Go Go.RowKit

/-- what is known outlasts whatever turns nothing below -/
def Clo (S : World → Prop) : Prop := ∀ w w', S w → Below w.heap.size w w' → S w'
theorem Clo.below (W : World) : Clo (Below W.heap.size W) := fun _ _ h hb => h.trans (hb.mono h.size)
theorem Clo.and {S T : World → Prop} (h : Clo S) (k : Clo T) : Clo (fun w => S w ∧ T w) := fun w w' x hb => ⟨h w w' x.1 hb, k w w' x.2 hb⟩

section
variable {P : Program} {ops : Array Oper} {Q : Exit → Act → World → Prop} {md : Region.Mode}

theorem Det.weak {S S' : World → Prop} (hm : ∀ w, S' w → S w) {o : Oper} {v : Value} {a : Act} (h : Det P ops S o v a) : Det P ops S' o v a :=
  h.imp (fun h => ⟨h.1, fun w hw => h.2 w (hm w hw)⟩) id

/-- the head in whatever order; what is known grows; then L -/
def wpG (P : Program) (md : Region.Mode) (ops : Array Oper) (Q : Exit → Act → World → Prop) (n m : Nat) (L : Act → World → Prop) : Nat → Array Bool → Act → (World → Prop) → Prop
  | 0, listed, a, S => Region.seqB md ops (m - n) n listed = true ∧ ∀ w, S w → L a w
  | f + 1, listed, a, S =>
    Region.ready md ops listed ≠ [] ∧
    ∀ i ∈ Region.ready md ops listed, i < n ∧ ∀ w, S w → wpOp P ops Q i (fun a' w' => ∃ S' : World → Prop, Clo S' ∧ (∀ w, S' w → S w) ∧ S' w' ∧ wpG P md ops Q n m L f (listed.setIfInBounds i true) a' S') a w

theorem wpAny_of_G {n m : Nat} {L : Act → World → Prop} (hL : ∀ listed a w, Region.seqB md ops (m - n) n listed = true → L a w → wpAny P md ops Q (m - n) listed a w) :
    ∀ (f : Nat) (listed : Array Bool) (a : Act) (S : World → Prop), wpG P md ops Q n m L f listed a S → ∀ w, S w → wpAny P md ops Q (f + (m - n)) listed a w
  | 0, listed, a, S, h, w, hS => by rw [Nat.zero_add]; exact hL _ _ _ h.1 (h.2 w hS)
  | f + 1, listed, a, S, h, w, hS => by
    rw [show f + 1 + (m - n) = (f + (m - n)) + 1 by omega]
    refine ⟨fun h0 => absurd h0 h.1, fun i hi => wpOp_mono (fun a' w' h' => ?_) ((h.2 i hi).2 w hS)⟩
    obtain ⟨S', _, _, hS', hG⟩ := h'
    exact wpAny_of_G hL f _ a' S' hG w' hS'

theorem wpG_first {n m : Nat} {L : Act → World → Prop} (hp : Parts md ops n m) {i : Nat} {oi : Oper} {v : Value} (hi : ops[i]? = some oi) (hin : i < n)
    (hQ : ∀ c a w, Q (.panic c) (a.put oi.dst v) w → Q (.panic c) a w) :
    ∀ (f : Nat) (listed : Array Bool) (a : Act) (S : World → Prop), Clo S → HInv md ops n m listed →
      (∀ j oj, ops[j]? = some oj → j ≠ i → listed.getD j true = false → (∀ e ∈ oj.after, Region.binds md e = true → e.on ≠ i) → oi.apart ops oj = true) →
      i ∈ Region.ready md ops listed → Det P ops S oi v a →
      wpG P md ops Q n m L f (listed.setIfInBounds i true) (a.put oi.dst v) S → wpG P md ops Q n m L (f + 1) listed a S := by
  have hsel := Region.noSelect_spec hp.nosel
  intro f
  induction f with
  | zero =>
    intro listed a S hC inv _ hr hy H
    have hun := (mem_ready.1 hr).1
    refine ⟨fun h => (by rw [h] at hr; cases hr), fun j hj => ?_⟩
    have hjn : j < n := by
      rcases Nat.lt_or_ge j n with h | h
      · exact h
      · exact absurd hj (head_only hp inv _ i rfl hin hun j h)
    refine ⟨hjn, fun w hS => ?_⟩
    by_cases hji : j = i
    · subst hji
      exact hy.wpOp hi hS fun w' hb => ⟨S, hC, fun _ h => h, hC _ _ hS hb, H⟩
    · have := seqB_ready H.1 j (ready_mono hj hji)
      omega
  | succ f ih =>
    intro listed a S hC inv hfree hr hy H
    have hun := (mem_ready.1 hr).1
    refine ⟨fun h => (by rw [h] at hr; cases hr), fun j hj => ?_⟩
    have hjn : j < n := by
      rcases Nat.lt_or_ge j n with h | h
      · exact h
      · exact absurd hj (head_only hp inv _ i rfl hin hun j h)
    refine ⟨hjn, fun w hS => ?_⟩
    by_cases hji : j = i
    · subst hji
      exact hy.wpOp hi hS fun w' hb => ⟨S, hC, fun _ h => h, hC _ _ hS hb, H⟩
    · have h1 := (H.2 j (ready_mono hj hji)).2 w hS
      obtain ⟨hjun, oj, hoj, hall⟩ := mem_ready.1 hj
      have hnot : ∀ e ∈ oj.after, Region.binds md e = true → e.on ≠ i := fun e he hb heq => by
        have h1 := hall e he hb
        rw [heq, getD_both hun] at h1
        cases h1
      have h2 := wpOp_putDet hoj (hfree j oj hoj hji hjun hnot) (fun cs b => hsel i oi cs b hi) (fun cs b => hsel j oj cs b hoj) hQ hy h1
      have hfree' : ∀ k ok, ops[k]? = some ok → k ≠ i → (listed.setIfInBounds j true).getD k true = false →
          (∀ e ∈ ok.after, Region.binds md e = true → e.on ≠ i) → oi.apart ops ok = true := fun k ok hk hki hu hno => by
        refine hfree k ok hk hki ?_ hno
        by_cases hjk : j = k
        · subst hjk
          exact hjun
        · rw [getD_set_ne true hjk] at hu
          exact hu
      refine wpOp_mono (fun a' w' h3 => ?_) h2
      have hcomm : (listed.setIfInBounds i true).setIfInBounds j true = (listed.setIfInBounds j true).setIfInBounds i true := (Array.setIfInBounds_comm _ _ hji).symm
      rw [hcomm] at h3
      obtain ⟨hd, S', hC', hm', hS', hG⟩ := h3
      exact ⟨S', hC', hm', hS', ih (listed.setIfInBounds j true) a' S' hC' (inv.set hj hjn hp.lt) hfree' (ready_mono hr (Ne.symm hji)) (hd.weak hm') hG⟩

/-- the walk's own form -/
def WpG (P : Program) (md : Region.Mode) (ops : Array Oper) (Q : Exit → Act → World → Prop) (n m : Nat) (L : Act → World → Prop) (f : Nat) (listed : Array Bool) (a : Act) (S : World → Prop) : Prop :=
  Clo S → Parts md ops n m → HInv md ops n m listed → wpG P md ops Q n m L f listed a S

variable {n m : Nat} {L : Act → World → Prop} {S : World → Prop} {f : Nat} {listed : Array Bool} {a : Act}

/-- take number i first: one value in every world -/
theorem WpG.take {i : Nat} {oi : Oper} {v : Value} (hi : ops[i]? = some oi)
    (hB : (decide (i < n) && Region.free md ops listed i && (Region.ready md ops listed).contains i) = true)
    (hQ : ∀ c a w, Q (.panic c) (a.put oi.dst v) w → Q (.panic c) a w)
    (hy : Det P ops S oi v a)
    (h : WpG P md ops Q n m L f (listed.setIfInBounds i true) (a.put oi.dst v) S) : WpG P md ops Q n m L (f + 1) listed a S := by
  simp only [Bool.and_eq_true, decide_eq_true_eq] at hB
  obtain ⟨⟨hin, hf⟩, hr⟩ := hB
  have hr' : i ∈ Region.ready md ops listed := by simpa using hr
  exact fun hC hp inv => wpG_first hp hi hin hQ f listed a S hC inv (Region.free_spec hi hf) hr' hy (h hC hp (inv.set hr' hin hp.lt))

/-- a thing that may be made anew by an operation: of a kind ι, its value, and what holds of it -/
def Fresh (P : Program) (ops : Array Oper) (S : World → Prop) {ι : Type} (F : ι → Value) (R : ι → World → Prop) (o : Oper) (a : Act) : Prop :=
  Region.wanted o (yielded ops a.tmps) = true ∧ ∀ w, S w → UponV P (fun v w' => ∃ x, v = F x ∧ R x w' ∧ Below w.heap.size w w') ((execOp a.eval o).run P w)

theorem Fresh.wpOp {i : Nat} {oi : Oper} (hi : ops[i]? = some oi) {ι : Type} {F : ι → Value} {R : ι → World → Prop} (hy : Fresh P ops S F R oi a) {K : Act → World → Prop} {w : World} (hw : S w)
    (h : ∀ x w', R x w' → Below w.heap.size w w' → K (a.put oi.dst (F x)) w') : wpOp P ops Q i K a w := by
  unfold Go.wpOp
  simp only [hi]
  simp only [hy.1, if_true]
  refine .inl ?_
  unfold Oper.wp
  refine (hy.2 w hw).upon ?_
  rintro u w' ⟨x, rfl, hR, hb⟩
  exact h x w' hR hb

/-- number i alone comes up, and makes something new -/
theorem WpG.one {i : Nat} {oi : Oper} (hi : ops[i]? = some oi) (hB : (decide (i < n) && decide (Region.ready md ops listed = [i])) = true)
    {ι : Type} (F : ι → Value) (R : ι → World → Prop) (hR : ∀ x, Clo (R x)) (hy : Fresh P ops S F R oi a)
    (h : ∀ x w0, S w0 → R x w0 → WpG P md ops Q n m L f (listed.setIfInBounds i true) (a.put oi.dst (F x)) (fun w => S w ∧ R x w)) : WpG P md ops Q n m L (f + 1) listed a S := by
  simp only [Bool.and_eq_true, decide_eq_true_eq] at hB
  obtain ⟨hin, hr⟩ := hB
  intro hC hp inv
  refine ⟨by rw [hr]; simp, fun j hj => ?_⟩
  have hj' : j = i := by rw [hr] at hj; simpa using hj
  subst hj'
  refine ⟨hin, fun w hS => hy.wpOp hi hS fun x w' hRx hb => ?_⟩
  exact ⟨_, hC.and (hR x), fun _ hw => hw.1, ⟨hC _ _ hS hb, hRx⟩, h x w' (hC _ _ hS hb) hRx (hC.and (hR x)) hp (inv.set hj hin hp.lt)⟩

/-- one of two comes up, and makes something new -/
theorem WpG.two {i k : Nat} {oi ok : Oper} (hi : ops[i]? = some oi) (hk : ops[k]? = some ok) (hB : (decide (i < n) && decide (k < n) && decide (Region.ready md ops listed = [i, k])) = true)
    {ι κ : Type} (F : ι → Value) (R : ι → World → Prop) (hR : ∀ x, Clo (R x)) (hy : Fresh P ops S F R oi a)
    (F' : κ → Value) (R' : κ → World → Prop) (hR' : ∀ x, Clo (R' x)) (hy' : Fresh P ops S F' R' ok a)
    (h : ∀ x w0, S w0 → R x w0 → WpG P md ops Q n m L f (listed.setIfInBounds i true) (a.put oi.dst (F x)) (fun w => S w ∧ R x w))
    (h' : ∀ x w0, S w0 → R' x w0 → WpG P md ops Q n m L f (listed.setIfInBounds k true) (a.put ok.dst (F' x)) (fun w => S w ∧ R' x w)) : WpG P md ops Q n m L (f + 1) listed a S := by
  simp only [Bool.and_eq_true, decide_eq_true_eq] at hB
  obtain ⟨⟨hin, hkn⟩, hr⟩ := hB
  intro hC hp inv
  refine ⟨by rw [hr]; simp, fun j hj => ?_⟩
  have hj' : j = i ∨ j = k := by rw [hr] at hj; simpa using hj
  rcases hj' with rfl | rfl
  · refine ⟨hin, fun w hS => hy.wpOp hi hS fun x w' hRx hb => ?_⟩
    exact ⟨_, hC.and (hR x), fun _ hw => hw.1, ⟨hC _ _ hS hb, hRx⟩, h x w' (hC _ _ hS hb) hRx (hC.and (hR x)) hp (inv.set hj hin hp.lt)⟩
  · refine ⟨hkn, fun w hS => hy'.wpOp hk hS fun x w' hRx hb => ?_⟩
    exact ⟨_, hC.and (hR' x), fun _ hw => hw.1, ⟨hC _ _ hS hb, hRx⟩, h' x w' (hC _ _ hS hb) hRx (hC.and (hR' x)) hp (inv.set hj hkn hp.lt)⟩

/-- all of the head has come up -/
theorem WpG.done (hB : Region.seqB md ops (m - n) n listed = true) (h : ∀ w, S w → L a w) : WpG P md ops Q n m L 0 listed a S := fun _ _ _ => ⟨hB, h⟩

/-- what is known, said otherwise -/
theorem WpG.weak {S' : World → Prop} (hm : ∀ w, S w → S' w) (hm' : ∀ w, S' w → S w) (h : WpG P md ops Q n m L f listed a S') : WpG P md ops Q n m L f listed a S := by
  have : S = S' := funext fun w => propext ⟨hm w, hm' w⟩
  rw [this]
  exact h

theorem any_G {l : List Oper} {w : World} (hB : partsB md l.toArray n m listed = true) (hC : Clo S) (hS : S w)
    (h : WpG P md l.toArray Q n m (wpList P l.toArray Q ((l.drop n).take (m - n))) f listed a S) : wpAny P md l.toArray Q (f + (m - n)) listed a w := by
  obtain ⟨hp, inv⟩ := parts_of hB
  refine wpAny_of_G (L := wpList P l.toArray Q ((l.drop n).take (m - n))) (fun listed' a' w' hq hl => ?_) f listed a S (h hC hp inv) w hS
  have hlen : ((l.drop n).take (m - n)).length = m - n := by
    have := hp.le
    simp at this ⊢
    omega
  have := any_of_tail (P := P) (md := md) (ops := l.toArray) (Q' := Q) ((l.drop n).take (m - n)) n listed' a' w' (fun j hj => ?_) (by rw [hlen]; exact hq) hl
  · rwa [hlen] at this
  · rw [hlen] at hj
    simp [hj]
end

section
variable {P : Program} {Q : Exit → Act → World → Prop}
theorem region_G {id n m f : Nat} {l : List Oper} {a : Act} {w : World} (hm : P.follows .mixedOrders = true) (hB : partsB .any l.toArray n m (Array.replicate l.length false) = true) (hf : f + (m - n) = l.length)
    (h : WpG P .any l.toArray Q n m (wpList P l.toArray Q ((l.drop n).take (m - n))) f (Array.replicate l.length false) a (Below w.heap.size w)) : (Code.region id l.toArray true).wp P Q a w := by
  refine wp_region_any hm ?_
  have := any_G (w := w.drew) hB (Clo.below w) ((Below.refl _ _).drew) h
  rw [hf] at this
  simpa using this

/-- a new variable -/
theorem Fresh.var {ops : Array Oper} {S : World → Prop} {o : Oper} {a : Act} {B : Nat} (cs : List Value) (t : TypeId) (hw : Region.wanted o (yielded ops a.tmps) = true) (hB : ∀ w, S w → B ≤ w.heap.size)
    (h : ∀ w, S w → (execOp a.eval o).run P w = .ok (.value (.pointer (some ⟨w.heap.size, 0, none⟩))) (w.alloc (.cells cs.toArray t))) {R : Nat → World → Prop} (hR : ∀ w, S w → R w.heap.size (w.alloc (.cells cs.toArray t))) :
    Fresh P ops S (fun b : Nat => .pointer (some ⟨b, 0, none⟩)) (fun b w => B ≤ b ∧ R b w) o a :=
  ⟨hw, fun w hS => by rw [h w hS]; exact ⟨w.heap.size, rfl, ⟨hB w hS, hR w hS⟩, (Below.refl _ _).alloc (Nat.le_refl _) _⟩⟩
/-- a new slice -/
theorem Fresh.slice {ops : Array Oper} {S : World → Prop} {o : Oper} {a : Act} {B : Nat} (k c : Nat) (cs : List Value) (t : TypeId) (hw : Region.wanted o (yielded ops a.tmps) = true) (hB : ∀ w, S w → B ≤ w.heap.size)
    (h : ∀ w, S w → (execOp a.eval o).run P w = .ok (.value (.slice (some ⟨w.heap.size, 0, none⟩) k c)) (w.alloc (.cells cs.toArray t))) {R : Nat → World → Prop} (hR : ∀ w, S w → R w.heap.size (w.alloc (.cells cs.toArray t))) :
    Fresh P ops S (fun b : Nat => .slice (some ⟨b, 0, none⟩) k c) (fun b w => B ≤ b ∧ R b w) o a :=
  ⟨hw, fun w hS => by rw [h w hS]; exact ⟨w.heap.size, rfl, ⟨hB w hS, hR w hS⟩, (Below.refl _ _).alloc (Nat.le_refl _) _⟩⟩
/-- a call whose result is new -/
theorem Fresh.call {ops : Array Oper} {S : World → Prop} {o : Oper} {a : Act} {f : FuncId} {args : Array Value} {ι : Type} {F : ι → Value} {R : ι → World → Prop} (hw : Region.wanted o (yielded ops a.tmps) = true)
    (hc : ∀ w, S w → Calls P f args w (fun e w' => ∃ x, e = .returned (F x) ∧ R x w' ∧ Below w.heap.size w w')) (h : ∀ w, S w → (execOp a.eval o).run P w = .ok (.enter f args) w) : Fresh P ops S F R o a :=
  ⟨hw, fun w hS => by rw [h w hS]; exact Calls.mono (hc w hS) fun e w' ⟨x, he, hr, hb⟩ => ⟨F x, he, x, rfl, hr, hb⟩⟩
end

end Go.Proofs.Ytiphahbeedeebaa

namespace Go.Proofs.Ytiphahbeedeebaa
open Go.RowKit Fm
set_option linter.unusedVariables false
set_option maxRecDepth 100000

/-- a number comes back -/
def RetI (n : Nat) (w : World) (e : Ending) (w' : World) : Prop := e = .returned (.int .i64 (n : Int)) ∧ Below w.heap.size w w'

theorem val_count (f : Nat) : CK.count.val f = .agg #[.int .u8 1, .int .u8 f, .int .i64 0, .int .i64 0, .int .i64 0, .int .i64 0] := rfl
theorem val_sum (f b : Nat) : (CK.sum b).val f = .agg #[.int .u8 2, .int .u8 f, .int .i64 b, .int .i64 0, .int .i64 0, .int .i64 0] := rfl
theorem val_vec (f b l c : Nat) : (CK.vec b l c).val f = .agg #[.int .u8 3, .int .u8 f, .int .i64 b, .int .i64 l, .int .i64 0, .int .i64 c] := rfl
theorem val_hist (f l c : Nat) : (CK.hist l c).val f = .agg #[.int .u8 4, .int .u8 f, .int .i64 0, .int .i64 l, .int .i64 0, .int .i64 c] := rfl
theorem val_multi (f l m c : Nat) : (CK.multi l m c).val f = .agg #[.int .u8 5, .int .u8 f, .int .i64 0, .int .i64 l, .int .i64 m, .int .i64 c] := rfl

theorem circuit_within (n most : Int) (u : Bool) (w : World) : Calls Try.prog 108 #[.int .i64 n, .int .i64 most, .bool u] w fun e w' => e = .returned (.bool (usedB n most u)) ∧ w = w' := by
  cases u
  · rw [usedB_no]
    go_enter Try.func108, Try.ntmps108
    go_wp2
    go_ret
    exact ⟨rfl, rfl⟩
  · rw [usedB_yes]
    by_cases h1 : 1 ≤ n
    · have hd : decide (1 ≤ n) = true := decide_eq_true h1
      rw [hd, Bool.true_and]
      go_enter Try.func108, Try.ntmps108
      go_wp2
      go_ret
      exact ⟨rfl, rfl⟩
    · have hd : decide (1 ≤ n) = false := decide_eq_false h1
      rw [hd, Bool.false_and]
      go_enter Try.func108, Try.ntmps108
      go_wp2
      go_ret
      exact ⟨rfl, rfl⟩

theorem circuit_weightBits (k f b l c : Int) (m : Nat) (h1 : m ≤ 64) (w : World) :
    Calls Try.prog 98 #[.agg #[.int .u8 k, .int .u8 f, .int .i64 b, .int .i64 l, .int .i64 m, .int .i64 c]] w (RetI (Lib.bitLen m) w) := by
  have HL : Hid (∀ wz, Calls Try.prog 123 #[.int .u64 (m : Int)] wz fun e w' => e = .returned (.int .i64 (Lib.bitLen m)) ∧ w' = wz) := by
    intro wz
    have h := bits_Len (m : Int) wz (by omega) (by omega)
    rwa [Int.toNat_natCast] at h
  have hmx : max (m : Int) 0 = (m : Int) := by omega
  go_enter Try.func98, Try.ntmps98
  go_wp2_with (go_at_call 123; refine (HL.out _).mono ?_; rintro e w2 ⟨rfl, rfl⟩)
  go_ret
  exact ⟨rfl, by repeat (first | exact Below.refl _ _ | with_reducible assumption | (refine bl_alloc ?_ (Nat.le_refl _) _) | (refine bl_set ?_ (by dsimp only; omega) _) | (refine Below.drew ?_) | (refine bl_drewN ?_ _) | (refine bl_call ?_ (Nat.le_refl _) (by assumption)))⟩

set_option maxHeartbeats 1000000 in
theorem circuit_In (f : Nat) (y : CK) (hy : y.ok) (w : World) : Calls Try.prog 45 #[y.val f] w (RetI y.nin w) := by
  cases y with
  | count =>
    rw [val_count]
    go_enter Try.func45, Try.ntmps45
    go_wp2
    go_ret
    exact ⟨rfl, by repeat (first | exact Below.refl _ _ | with_reducible assumption | (refine bl_alloc ?_ (Nat.le_refl _) _) | (refine bl_set ?_ (by dsimp only; omega) _) | (refine Below.drew ?_) | (refine bl_drewN ?_ _) | (refine bl_call ?_ (Nat.le_refl _) (by assumption)))⟩
  | sum b =>
    rw [val_sum]
    go_enter Try.func45, Try.ntmps45
    go_wp2
    go_ret
    exact ⟨rfl, by repeat (first | exact Below.refl _ _ | with_reducible assumption | (refine bl_alloc ?_ (Nat.le_refl _) _) | (refine bl_set ?_ (by dsimp only; omega) _) | (refine Below.drew ?_) | (refine bl_drewN ?_ _) | (refine bl_call ?_ (Nat.le_refl _) (by assumption)))⟩
  | vec b l c =>
    rw [val_vec]
    have hle := CK.nin_le hy
    rw [show (CK.vec b l c).nin = l * b from rfl] at hle ⊢
    have hmul : (l : Int) * (b : Int) = ((l * b : Nat) : Int) := (Int.natCast_mul l b).symm
    generalize l * b = n at *
    clear hy
    go_enter Try.func45, Try.ntmps45
    go_wp2
    go_ret
    refine ⟨ret_int ?_, by repeat (first | exact Below.refl _ _ | with_reducible assumption | (refine bl_alloc ?_ (Nat.le_refl _) _) | (refine bl_set ?_ (by dsimp only; omega) _) | (refine Below.drew ?_) | (refine bl_drewN ?_ _) | (refine bl_call ?_ (Nat.le_refl _) (by assumption)))⟩
    first
      | rfl
      | omega
      | (rw [hmul]; exact IntWalk.i64_in _ (by omega))
  | hist l c =>
    rw [val_hist]
    go_enter Try.func45, Try.ntmps45
    go_wp2
    go_ret
    exact ⟨rfl, by repeat (first | exact Below.refl _ _ | with_reducible assumption | (refine bl_alloc ?_ (Nat.le_refl _) _) | (refine bl_set ?_ (by dsimp only; omega) _) | (refine Below.drew ?_) | (refine bl_drewN ?_ _) | (refine bl_call ?_ (Nat.le_refl _) (by assumption)))⟩
  | multi l m c =>
    rw [val_multi]
    obtain ⟨⟨hl1, hl2⟩, ⟨hm1, hm2⟩, hc⟩ := hy
    have HW := Lib.hid (fun wz => circuit_weightBits 5 f 0 l c m (by omega) wz)
    have hb7 := (bitLen_small m (by omega)).1
    rw [show (CK.multi l m c).nin = l + Lib.bitLen m from rfl]
    generalize Lib.bitLen m = q at *
    have hw1 : IntKind.i64.wrap ((l : Int) + (q : Int)) = (l : Int) + (q : Int) := IntWalk.i64_in _ (by omega)
    have hb00 : Below w.heap.size w w := Below.refl _ _
    go_enter Try.func45, Try.ntmps45
    go_upto_region 11 with fail
    have hx := Vs.new w [.int .u8 5, .int .u8 f, .int .i64 0, .int .i64 l, .int .i64 m, .int .i64 c] #[.int .u8 5, .int .u8 f, .int .i64 0, .int .i64 l, .int .i64 m, .int .i64 c] 60 rfl
    have hbA : Below w.heap.size w (w.alloc (.cells #[.int .u8 5, .int .u8 f, .int .i64 0, .int .i64 l, .int .i64 m, .int .i64 c] 60)) := by repeat (first | exact Below.refl _ _ | with_reducible assumption | (refine bl_alloc ?_ (Nat.le_refl _) _))
    replace hb00 := bl_call hb00 (Nat.le_refl _) hbA
    clear hbA
    generalize w.alloc (.cells #[.int .u8 5, .int .u8 f, .int .i64 0, .int .i64 l, .int .i64 m, .int .i64 c] 60) = w1 at hb00 hx ⊢
    obtain ⟨⟨x0, x1, x2, x3, x4, x5⟩, ⟨x6, x7, x8, x9, x10, x11⟩, x12⟩ := hx.get6
    refine region_B (n := 5) (m := 6) (f := 5) (by kernel_rfl) (by kernel_rfl) rfl ?_
    refine WpH.takeB (i := 0) (v := ?_) rfl (by kernel_rfl) (fun _ _ _ h => h) (.val rfl (fun wz hwz => ?_)) ?_
    rotate_left
    · go_simp; try (with_reducible rfl)
    (simp only [Act.put]); (try simp only [List.setIfInBounds_toArray]); (try simp only [List.set_cons_succ]); (try simp only [List.set_cons_zero])
    refine WpH.takeB (i := 1) (v := ?_) rfl (by kernel_rfl) (fun _ _ _ h => h) (.val rfl (fun wz hwz => ?_)) ?_
    rotate_left
    · (obtain ⟨hcz, hfz⟩ := bcell hwz; go_simp; try (with_reducible rfl))
    (simp only [Act.put]); (try simp only [List.setIfInBounds_toArray]); (try simp only [List.set_cons_succ]); (try simp only [List.set_cons_zero])
    refine WpH.takeB (i := 2) (v := ?_) rfl (by kernel_rfl) (fun _ _ _ h => h) (.val rfl (fun wz hwz => ?_)) ?_
    rotate_left
    · (obtain ⟨hcz, hfz⟩ := bcell hwz; go_simp; try (with_reducible rfl))
    (simp only [Act.put]); (try simp only [List.setIfInBounds_toArray]); (try simp only [List.set_cons_succ]); (try simp only [List.set_cons_zero])
    refine WpH.takeB (i := 3) rfl (by kernel_rfl) (fun _ _ _ h => h) (.call rfl (fun wz hwz => HW.out wz) (fun wz hwz => ?_)) ?_
    · go_simp; try (with_reducible rfl)
    (simp only [Act.put]); (try simp only [List.setIfInBounds_toArray]); (try simp only [List.set_cons_succ]); (try simp only [List.set_cons_zero])
    refine WpH.takeB (i := 4) (v := ?_) rfl (by kernel_rfl) (fun _ _ _ h => h) (.val rfl (fun wz hwz => ?_)) ?_
    rotate_left
    · go_simp; try (with_reducible rfl)
    (simp only [Act.put]); (try simp only [List.setIfInBounds_toArray]); (try simp only [List.set_cons_succ]); (try simp only [List.set_cons_zero])
    refine WpH.doneB (by kernel_rfl) (fun w2 hw2 => ?_)
    (try simp only [List.drop_succ_cons]); (try simp only [List.drop_zero]); (try simp only [Nat.reduceSub]); (try simp only [List.take_succ_cons]); (try simp only [List.take_zero])
    replace hb00 := bl_call hb00 (Nat.le_refl _) hw2
    replace hx := hx.call hw2
    go_wp2_with fail
    go_ret
    exact ⟨ret_int (by omega), by repeat (first | exact Below.refl _ _ | with_reducible assumption | (refine bl_alloc ?_ (Nat.le_refl _) _) | (refine bl_set ?_ (by dsimp only; omega) _) | (refine Below.drew ?_) | (refine bl_drewN ?_ _) | (refine bl_call ?_ (Nat.le_refl _) (by assumption)))⟩

set_option maxHeartbeats 1000000 in
theorem circuit_Out (f : Nat) (y : CK) (hy : y.ok) (w : World) : Calls Try.prog 43 #[y.val f] w (RetI y.nout w) := by
  cases y with
  | count =>
    rw [val_count]
    go_enter Try.func43, Try.ntmps43
    go_wp2
    go_ret
    exact ⟨rfl, by repeat (first | exact Below.refl _ _ | with_reducible assumption | (refine bl_alloc ?_ (Nat.le_refl _) _) | (refine bl_set ?_ (by dsimp only; omega) _) | (refine Below.drew ?_) | (refine bl_drewN ?_ _) | (refine bl_call ?_ (Nat.le_refl _) (by assumption)))⟩
  | sum b =>
    rw [val_sum]
    go_enter Try.func43, Try.ntmps43
    go_wp2
    go_ret
    exact ⟨rfl, by repeat (first | exact Below.refl _ _ | with_reducible assumption | (refine bl_alloc ?_ (Nat.le_refl _) _) | (refine bl_set ?_ (by dsimp only; omega) _) | (refine Below.drew ?_) | (refine bl_drewN ?_ _) | (refine bl_call ?_ (Nat.le_refl _) (by assumption)))⟩
  | vec b l c =>
    rw [val_vec]
    go_enter Try.func43, Try.ntmps43
    go_wp2
    go_ret
    exact ⟨rfl, by repeat (first | exact Below.refl _ _ | with_reducible assumption | (refine bl_alloc ?_ (Nat.le_refl _) _) | (refine bl_set ?_ (by dsimp only; omega) _) | (refine Below.drew ?_) | (refine bl_drewN ?_ _) | (refine bl_call ?_ (Nat.le_refl _) (by assumption)))⟩
  | hist l c =>
    rw [val_hist]
    go_enter Try.func43, Try.ntmps43
    go_wp2
    go_ret
    exact ⟨rfl, by repeat (first | exact Below.refl _ _ | with_reducible assumption | (refine bl_alloc ?_ (Nat.le_refl _) _) | (refine bl_set ?_ (by dsimp only; omega) _) | (refine Below.drew ?_) | (refine bl_drewN ?_ _) | (refine bl_call ?_ (Nat.le_refl _) (by assumption)))⟩
  | multi l m c =>
    rw [val_multi]
    go_enter Try.func43, Try.ntmps43
    go_wp2
    go_ret
    exact ⟨rfl, by repeat (first | exact Below.refl _ _ | with_reducible assumption | (refine bl_alloc ?_ (Nat.le_refl _) _) | (refine bl_set ?_ (by dsimp only; omega) _) | (refine Below.drew ?_) | (refine bl_drewN ?_ _) | (refine bl_call ?_ (Nat.le_refl _) (by assumption)))⟩

set_option maxHeartbeats 1000000 in
theorem circuit_Calls_chunk (k f b l m : Int) (c n : Nat) (hk : k = 3 ∨ k = 4 ∨ k = 5) (hc1 : 1 ≤ c) (hc2 : c ≤ 16) (hn : n ≤ 2048) (w : World)
    (hI : ∀ wz, Calls Try.prog 45 #[.agg #[.int .u8 k, .int .u8 f, .int .i64 b, .int .i64 l, .int .i64 m, .int .i64 c]] wz (RetI n wz)) :
    Calls Try.prog 63 #[.agg #[.int .u8 k, .int .u8 f, .int .i64 b, .int .i64 l, .int .i64 m, .int .i64 c]] w (RetI ((n + c - 1) / c) w) := by
  have HI := Lib.hid hI
  clear hI
  have hc0 : ((c : Int) == 0) = false := by simp; omega
  have hc9 : ¬ (c = 0) := by omega
  have hd : decide ((0 : Int) < (c : Int)) = true := decide_eq_true (by omega)
  have hw1 : IntKind.i64.wrap ((n : Int) + (c : Int)) = (n : Int) + (c : Int) := IntWalk.i64_in _ (by omega)
  have hw2 : IntKind.i64.wrap ((n : Int) + (c : Int) - 1) = (n : Int) + (c : Int) - 1 := IntWalk.i64_in _ (by omega)
  have hq : ((n : Int) + (c : Int) - 1).tdiv (c : Int) = (((n + c - 1) / c : Nat) : Int) := by
    rw [show (n : Int) + (c : Int) - 1 = ((n + c - 1 : Nat) : Int) by omega]
    rw [Int.tdiv_eq_ediv_of_nonneg (by omega)]
    rfl
  have hq2 : ((n + c - 1) / c : Nat) ≤ 2048 := Nat.le_trans (ceil_le hc1) hn
  generalize (n + c - 1) / c = q at *
  have hw3 : IntKind.i64.wrap (q : Int) = (q : Int) := IntWalk.i64_in _ (by omega)
  have hb00 : Below w.heap.size w w := Below.refl _ _
  rcases hk with rfl | rfl | rfl
  all_goals
    go_enter Try.func63, Try.ntmps63
    go_upto_region 10 with fail
  · skip
    have hx := Vs.new w [.int .u8 3, .int .u8 f, .int .i64 b, .int .i64 l, .int .i64 m, .int .i64 c] #[.int .u8 3, .int .u8 f, .int .i64 b, .int .i64 l, .int .i64 m, .int .i64 c] 60 rfl
    have hbA : Below w.heap.size w (w.alloc (.cells #[.int .u8 3, .int .u8 f, .int .i64 b, .int .i64 l, .int .i64 m, .int .i64 c] 60)) := by repeat (first | exact Below.refl _ _ | with_reducible assumption | (refine bl_alloc ?_ (Nat.le_refl _) _))
    replace hb00 := bl_call hb00 (Nat.le_refl _) hbA
    clear hbA
    generalize w.alloc (.cells #[.int .u8 3, .int .u8 f, .int .i64 b, .int .i64 l, .int .i64 m, .int .i64 c] 60) = w1 at hb00 hx ⊢
    obtain ⟨⟨x0, x1, x2, x3, x4, x5⟩, ⟨x6, x7, x8, x9, x10, x11⟩, x12⟩ := hx.get6
    refine region_B (n := 9) (m := 10) (f := 9) (by kernel_rfl) (by kernel_rfl) rfl ?_
    refine WpH.takeB (i := 0) (v := ?_) rfl (by kernel_rfl) (fun _ _ _ h => h) (.val rfl (fun wz hwz => ?_)) ?_
    rotate_left
    · (obtain ⟨hcz, hfz⟩ := bcell hwz; go_simp; try (with_reducible rfl))
    (simp only [Act.put]); (try simp only [List.setIfInBounds_toArray]); (try simp only [List.set_cons_succ]); (try simp only [List.set_cons_zero])
    refine WpH.takeB (i := 1) rfl (by kernel_rfl) (fun _ _ _ h => h) (.call rfl (fun wz hwz => HI.out wz) (fun wz hwz => ?_)) ?_
    · go_simp; try (with_reducible rfl)
    (simp only [Act.put]); (try simp only [List.setIfInBounds_toArray]); (try simp only [List.set_cons_succ]); (try simp only [List.set_cons_zero])
    refine WpH.takeB (i := 2) (v := ?_) rfl (by kernel_rfl) (fun _ _ _ h => h) (.val rfl (fun wz hwz => ?_)) ?_
    rotate_left
    · go_simp; try (with_reducible rfl)
    (simp only [Act.put]); (try simp only [List.setIfInBounds_toArray]); (try simp only [List.set_cons_succ]); (try simp only [List.set_cons_zero])
    refine WpH.takeB (i := 3) (v := ?_) rfl (by kernel_rfl) (fun _ _ _ h => h) (.val rfl (fun wz hwz => ?_)) ?_
    rotate_left
    · (obtain ⟨hcz, hfz⟩ := bcell hwz; go_simp; try (with_reducible rfl))
    (simp only [Act.put]); (try simp only [List.setIfInBounds_toArray]); (try simp only [List.set_cons_succ]); (try simp only [List.set_cons_zero])
    refine WpH.takeB (i := 4) (v := ?_) rfl (by kernel_rfl) (fun _ _ _ h => h) (.val rfl (fun wz hwz => ?_)) ?_
    rotate_left
    · go_simp; try (with_reducible rfl)
    (simp only [Act.put]); (try simp only [List.setIfInBounds_toArray]); (try simp only [List.set_cons_succ]); (try simp only [List.set_cons_zero])
    refine WpH.takeB (i := 5) (v := ?_) rfl (by kernel_rfl) (fun _ _ _ h => h) (.val rfl (fun wz hwz => ?_)) ?_
    rotate_left
    · go_simp; try (with_reducible rfl)
    (simp only [Act.put]); (try simp only [List.setIfInBounds_toArray]); (try simp only [List.set_cons_succ]); (try simp only [List.set_cons_zero])
    refine WpH.takeB (i := 6) (v := ?_) rfl (by kernel_rfl) (fun _ _ _ h => h) (.val rfl (fun wz hwz => ?_)) ?_
    rotate_left
    · go_simp; try (with_reducible rfl)
    (simp only [Act.put]); (try simp only [List.setIfInBounds_toArray]); (try simp only [List.set_cons_succ]); (try simp only [List.set_cons_zero])
    refine WpH.takeB (i := 7) (v := ?_) rfl (by kernel_rfl) (fun _ _ _ h => h) (.val rfl (fun wz hwz => ?_)) ?_
    rotate_left
    · (obtain ⟨hcz, hfz⟩ := bcell hwz; go_simp; try (with_reducible rfl))
    (simp only [Act.put]); (try simp only [List.setIfInBounds_toArray]); (try simp only [List.set_cons_succ]); (try simp only [List.set_cons_zero])
    refine WpH.takeB (i := 8) (v := ?_) rfl (by kernel_rfl) (fun _ _ _ h => h) (.val rfl (fun wz hwz => ?_)) ?_
    rotate_left
    · go_simp; try (with_reducible rfl)
    (simp only [Act.put]); (try simp only [List.setIfInBounds_toArray]); (try simp only [List.set_cons_succ]); (try simp only [List.set_cons_zero])
    refine WpH.doneB (by kernel_rfl) (fun w2 hw2 => ?_)
    (try simp only [List.drop_succ_cons]); (try simp only [List.drop_zero]); (try simp only [Nat.reduceSub]); (try simp only [List.take_succ_cons]); (try simp only [List.take_zero])
    replace hb00 := bl_call hb00 (Nat.le_refl _) hw2
    replace hx := hx.call hw2
    go_wp2_with fail
    go_ret
    exact ⟨rfl, by repeat (first | exact Below.refl _ _ | with_reducible assumption | (refine bl_alloc ?_ (Nat.le_refl _) _) | (refine bl_set ?_ (by dsimp only; omega) _) | (refine Below.drew ?_) | (refine bl_drewN ?_ _) | (refine bl_call ?_ (Nat.le_refl _) (by assumption)))⟩
  · skip
    have hx := Vs.new w [.int .u8 4, .int .u8 f, .int .i64 b, .int .i64 l, .int .i64 m, .int .i64 c] #[.int .u8 4, .int .u8 f, .int .i64 b, .int .i64 l, .int .i64 m, .int .i64 c] 60 rfl
    have hbA : Below w.heap.size w (w.alloc (.cells #[.int .u8 4, .int .u8 f, .int .i64 b, .int .i64 l, .int .i64 m, .int .i64 c] 60)) := by repeat (first | exact Below.refl _ _ | with_reducible assumption | (refine bl_alloc ?_ (Nat.le_refl _) _))
    replace hb00 := bl_call hb00 (Nat.le_refl _) hbA
    clear hbA
    generalize w.alloc (.cells #[.int .u8 4, .int .u8 f, .int .i64 b, .int .i64 l, .int .i64 m, .int .i64 c] 60) = w1 at hb00 hx ⊢
    obtain ⟨⟨x0, x1, x2, x3, x4, x5⟩, ⟨x6, x7, x8, x9, x10, x11⟩, x12⟩ := hx.get6
    refine region_B (n := 9) (m := 10) (f := 9) (by kernel_rfl) (by kernel_rfl) rfl ?_
    refine WpH.takeB (i := 0) (v := ?_) rfl (by kernel_rfl) (fun _ _ _ h => h) (.val rfl (fun wz hwz => ?_)) ?_
    rotate_left
    · (obtain ⟨hcz, hfz⟩ := bcell hwz; go_simp; try (with_reducible rfl))
    (simp only [Act.put]); (try simp only [List.setIfInBounds_toArray]); (try simp only [List.set_cons_succ]); (try simp only [List.set_cons_zero])
    refine WpH.takeB (i := 1) rfl (by kernel_rfl) (fun _ _ _ h => h) (.call rfl (fun wz hwz => HI.out wz) (fun wz hwz => ?_)) ?_
    · go_simp; try (with_reducible rfl)
    (simp only [Act.put]); (try simp only [List.setIfInBounds_toArray]); (try simp only [List.set_cons_succ]); (try simp only [List.set_cons_zero])
    refine WpH.takeB (i := 2) (v := ?_) rfl (by kernel_rfl) (fun _ _ _ h => h) (.val rfl (fun wz hwz => ?_)) ?_
    rotate_left
    · go_simp; try (with_reducible rfl)
    (simp only [Act.put]); (try simp only [List.setIfInBounds_toArray]); (try simp only [List.set_cons_succ]); (try simp only [List.set_cons_zero])
    refine WpH.takeB (i := 3) (v := ?_) rfl (by kernel_rfl) (fun _ _ _ h => h) (.val rfl (fun wz hwz => ?_)) ?_
    rotate_left
    · (obtain ⟨hcz, hfz⟩ := bcell hwz; go_simp; try (with_reducible rfl))
    (simp only [Act.put]); (try simp only [List.setIfInBounds_toArray]); (try simp only [List.set_cons_succ]); (try simp only [List.set_cons_zero])
    refine WpH.takeB (i := 4) (v := ?_) rfl (by kernel_rfl) (fun _ _ _ h => h) (.val rfl (fun wz hwz => ?_)) ?_
    rotate_left
    · go_simp; try (with_reducible rfl)
    (simp only [Act.put]); (try simp only [List.setIfInBounds_toArray]); (try simp only [List.set_cons_succ]); (try simp only [List.set_cons_zero])
    refine WpH.takeB (i := 5) (v := ?_) rfl (by kernel_rfl) (fun _ _ _ h => h) (.val rfl (fun wz hwz => ?_)) ?_
    rotate_left
    · go_simp; try (with_reducible rfl)
    (simp only [Act.put]); (try simp only [List.setIfInBounds_toArray]); (try simp only [List.set_cons_succ]); (try simp only [List.set_cons_zero])
    refine WpH.takeB (i := 6) (v := ?_) rfl (by kernel_rfl) (fun _ _ _ h => h) (.val rfl (fun wz hwz => ?_)) ?_
    rotate_left
    · go_simp; try (with_reducible rfl)
    (simp only [Act.put]); (try simp only [List.setIfInBounds_toArray]); (try simp only [List.set_cons_succ]); (try simp only [List.set_cons_zero])
    refine WpH.takeB (i := 7) (v := ?_) rfl (by kernel_rfl) (fun _ _ _ h => h) (.val rfl (fun wz hwz => ?_)) ?_
    rotate_left
    · (obtain ⟨hcz, hfz⟩ := bcell hwz; go_simp; try (with_reducible rfl))
    (simp only [Act.put]); (try simp only [List.setIfInBounds_toArray]); (try simp only [List.set_cons_succ]); (try simp only [List.set_cons_zero])
    refine WpH.takeB (i := 8) (v := ?_) rfl (by kernel_rfl) (fun _ _ _ h => h) (.val rfl (fun wz hwz => ?_)) ?_
    rotate_left
    · go_simp; try (with_reducible rfl)
    (simp only [Act.put]); (try simp only [List.setIfInBounds_toArray]); (try simp only [List.set_cons_succ]); (try simp only [List.set_cons_zero])
    refine WpH.doneB (by kernel_rfl) (fun w2 hw2 => ?_)
    (try simp only [List.drop_succ_cons]); (try simp only [List.drop_zero]); (try simp only [Nat.reduceSub]); (try simp only [List.take_succ_cons]); (try simp only [List.take_zero])
    replace hb00 := bl_call hb00 (Nat.le_refl _) hw2
    replace hx := hx.call hw2
    go_wp2_with fail
    go_ret
    exact ⟨rfl, by repeat (first | exact Below.refl _ _ | with_reducible assumption | (refine bl_alloc ?_ (Nat.le_refl _) _) | (refine bl_set ?_ (by dsimp only; omega) _) | (refine Below.drew ?_) | (refine bl_drewN ?_ _) | (refine bl_call ?_ (Nat.le_refl _) (by assumption)))⟩
  · skip
    have hx := Vs.new w [.int .u8 5, .int .u8 f, .int .i64 b, .int .i64 l, .int .i64 m, .int .i64 c] #[.int .u8 5, .int .u8 f, .int .i64 b, .int .i64 l, .int .i64 m, .int .i64 c] 60 rfl
    have hbA : Below w.heap.size w (w.alloc (.cells #[.int .u8 5, .int .u8 f, .int .i64 b, .int .i64 l, .int .i64 m, .int .i64 c] 60)) := by repeat (first | exact Below.refl _ _ | with_reducible assumption | (refine bl_alloc ?_ (Nat.le_refl _) _))
    replace hb00 := bl_call hb00 (Nat.le_refl _) hbA
    clear hbA
    generalize w.alloc (.cells #[.int .u8 5, .int .u8 f, .int .i64 b, .int .i64 l, .int .i64 m, .int .i64 c] 60) = w1 at hb00 hx ⊢
    obtain ⟨⟨x0, x1, x2, x3, x4, x5⟩, ⟨x6, x7, x8, x9, x10, x11⟩, x12⟩ := hx.get6
    refine region_B (n := 9) (m := 10) (f := 9) (by kernel_rfl) (by kernel_rfl) rfl ?_
    refine WpH.takeB (i := 0) (v := ?_) rfl (by kernel_rfl) (fun _ _ _ h => h) (.val rfl (fun wz hwz => ?_)) ?_
    rotate_left
    · (obtain ⟨hcz, hfz⟩ := bcell hwz; go_simp; try (with_reducible rfl))
    (simp only [Act.put]); (try simp only [List.setIfInBounds_toArray]); (try simp only [List.set_cons_succ]); (try simp only [List.set_cons_zero])
    refine WpH.takeB (i := 1) rfl (by kernel_rfl) (fun _ _ _ h => h) (.call rfl (fun wz hwz => HI.out wz) (fun wz hwz => ?_)) ?_
    · go_simp; try (with_reducible rfl)
    (simp only [Act.put]); (try simp only [List.setIfInBounds_toArray]); (try simp only [List.set_cons_succ]); (try simp only [List.set_cons_zero])
    refine WpH.takeB (i := 2) (v := ?_) rfl (by kernel_rfl) (fun _ _ _ h => h) (.val rfl (fun wz hwz => ?_)) ?_
    rotate_left
    · go_simp; try (with_reducible rfl)
    (simp only [Act.put]); (try simp only [List.setIfInBounds_toArray]); (try simp only [List.set_cons_succ]); (try simp only [List.set_cons_zero])
    refine WpH.takeB (i := 3) (v := ?_) rfl (by kernel_rfl) (fun _ _ _ h => h) (.val rfl (fun wz hwz => ?_)) ?_
    rotate_left
    · (obtain ⟨hcz, hfz⟩ := bcell hwz; go_simp; try (with_reducible rfl))
    (simp only [Act.put]); (try simp only [List.setIfInBounds_toArray]); (try simp only [List.set_cons_succ]); (try simp only [List.set_cons_zero])
    refine WpH.takeB (i := 4) (v := ?_) rfl (by kernel_rfl) (fun _ _ _ h => h) (.val rfl (fun wz hwz => ?_)) ?_
    rotate_left
    · go_simp; try (with_reducible rfl)
    (simp only [Act.put]); (try simp only [List.setIfInBounds_toArray]); (try simp only [List.set_cons_succ]); (try simp only [List.set_cons_zero])
    refine WpH.takeB (i := 5) (v := ?_) rfl (by kernel_rfl) (fun _ _ _ h => h) (.val rfl (fun wz hwz => ?_)) ?_
    rotate_left
    · go_simp; try (with_reducible rfl)
    (simp only [Act.put]); (try simp only [List.setIfInBounds_toArray]); (try simp only [List.set_cons_succ]); (try simp only [List.set_cons_zero])
    refine WpH.takeB (i := 6) (v := ?_) rfl (by kernel_rfl) (fun _ _ _ h => h) (.val rfl (fun wz hwz => ?_)) ?_
    rotate_left
    · go_simp; try (with_reducible rfl)
    (simp only [Act.put]); (try simp only [List.setIfInBounds_toArray]); (try simp only [List.set_cons_succ]); (try simp only [List.set_cons_zero])
    refine WpH.takeB (i := 7) (v := ?_) rfl (by kernel_rfl) (fun _ _ _ h => h) (.val rfl (fun wz hwz => ?_)) ?_
    rotate_left
    · (obtain ⟨hcz, hfz⟩ := bcell hwz; go_simp; try (with_reducible rfl))
    (simp only [Act.put]); (try simp only [List.setIfInBounds_toArray]); (try simp only [List.set_cons_succ]); (try simp only [List.set_cons_zero])
    refine WpH.takeB (i := 8) (v := ?_) rfl (by kernel_rfl) (fun _ _ _ h => h) (.val rfl (fun wz hwz => ?_)) ?_
    rotate_left
    · go_simp; try (with_reducible rfl)
    (simp only [Act.put]); (try simp only [List.setIfInBounds_toArray]); (try simp only [List.set_cons_succ]); (try simp only [List.set_cons_zero])
    refine WpH.doneB (by kernel_rfl) (fun w2 hw2 => ?_)
    (try simp only [List.drop_succ_cons]); (try simp only [List.drop_zero]); (try simp only [Nat.reduceSub]); (try simp only [List.take_succ_cons]); (try simp only [List.take_zero])
    replace hb00 := bl_call hb00 (Nat.le_refl _) hw2
    replace hx := hx.call hw2
    go_wp2_with fail
    go_ret
    exact ⟨rfl, by repeat (first | exact Below.refl _ _ | with_reducible assumption | (refine bl_alloc ?_ (Nat.le_refl _) _) | (refine bl_set ?_ (by dsimp only; omega) _) | (refine Below.drew ?_) | (refine bl_drewN ?_ _) | (refine bl_call ?_ (Nat.le_refl _) (by assumption)))⟩

theorem circuit_Calls (f : Nat) (y : CK) (hy : y.ok) (w : World) : Calls Try.prog 63 #[y.val f] w (RetI y.calls w) := by
  have hI := fun wz => circuit_In f y hy wz
  have hn := CK.nin_le hy
  cases y with
  | count =>
    rw [val_count]
    go_enter Try.func63, Try.ntmps63
    go_wp2
    go_ret
    exact ⟨rfl, by repeat (first | exact Below.refl _ _ | with_reducible assumption | (refine bl_alloc ?_ (Nat.le_refl _) _) | (refine bl_set ?_ (by dsimp only; omega) _) | (refine Below.drew ?_) | (refine bl_drewN ?_ _) | (refine bl_call ?_ (Nat.le_refl _) (by assumption)))⟩
  | sum b =>
    rw [val_sum]
    go_enter Try.func63, Try.ntmps63
    go_wp2
    go_ret
    exact ⟨rfl, by repeat (first | exact Below.refl _ _ | with_reducible assumption | (refine bl_alloc ?_ (Nat.le_refl _) _) | (refine bl_set ?_ (by dsimp only; omega) _) | (refine Below.drew ?_) | (refine bl_drewN ?_ _) | (refine bl_call ?_ (Nat.le_refl _) (by assumption)))⟩
  | vec b l c =>
    rw [val_vec] at hI ⊢
    exact circuit_Calls_chunk 3 f b l 0 c _ (.inl rfl) hy.2.2.1 hy.2.2.2 hn w hI
  | hist l c =>
    rw [val_hist] at hI ⊢
    exact circuit_Calls_chunk 4 f 0 l 0 c _ (.inr (.inl rfl)) hy.2.1 hy.2.2 hn w hI
  | multi l m c =>
    rw [val_multi] at hI ⊢
    exact circuit_Calls_chunk 5 f 0 l m c _ (.inr (.inr rfl)) hy.2.2.1 hy.2.2.2 hn w hI

end Go.Proofs.Ytiphahbeedeebaa

namespace Go.Proofs.Ytiphahbeedeebaa
open Go.RowKit Fm
set_option linter.unusedVariables false
set_option maxRecDepth 100000

theorem rval_count (f : Nat) : CK.count.rval f = .agg #[.int .i64 1, .int .i64 f, .int .i64 0, .int .i64 0, .int .i64 0, .int .i64 0] := rfl
theorem rval_sum (f b : Nat) : (CK.sum b).rval f = .agg #[.int .i64 2, .int .i64 f, .int .i64 b, .int .i64 0, .int .i64 0, .int .i64 0] := rfl
theorem rval_vec (f b l c : Nat) : (CK.vec b l c).rval f = .agg #[.int .i64 3, .int .i64 f, .int .i64 b, .int .i64 l, .int .i64 0, .int .i64 c] := rfl
theorem rval_hist (f l c : Nat) : (CK.hist l c).rval f = .agg #[.int .i64 4, .int .i64 f, .int .i64 0, .int .i64 l, .int .i64 0, .int .i64 c] := rfl
theorem rval_multi (f l m c : Nat) : (CK.multi l m c).rval f = .agg #[.int .i64 5, .int .i64 f, .int .i64 0, .int .i64 l, .int .i64 m, .int .i64 c] := rfl

theorem ref9_used (n most : Int) (u : Bool) (w : World) : Calls Try.prog 104 #[.int .i64 n, .int .i64 most, .bool u] w fun e w' => e = .returned (.bool (usedB n most u)) ∧ w = w' := by
  cases u
  · rw [usedB_no]
    go_enter Try.func104, Try.ntmps104
    go_wp2
    go_ret
    exact ⟨rfl, rfl⟩
  · rw [usedB_yes]
    by_cases h1 : 1 ≤ n
    · have hd : decide (1 ≤ n) = true := decide_eq_true h1
      rw [hd, Bool.true_and]
      go_enter Try.func104, Try.ntmps104
      go_wp2
      go_ret
      exact ⟨rfl, rfl⟩
    · have hd : decide (1 ≤ n) = false := decide_eq_false h1
      rw [hd, Bool.false_and]
      go_enter Try.func104, Try.ntmps104
      go_wp2
      go_ret
      exact ⟨rfl, rfl⟩

theorem bitLen_half : ∀ m : Nat, m ≤ 64 → 0 < m → Lib.bitLen m = Lib.bitLen (m / 2) + 1 := by decide +kernel

set_option maxHeartbeats 1000000 in
theorem ref9_WeightBits (k f b l c : Int) (m : Nat) (h1 : m ≤ 64) (w : World) :
    Calls Try.prog 100 #[.agg #[.int .i64 k, .int .i64 f, .int .i64 b, .int .i64 l, .int .i64 m, .int .i64 c]] w (RetI (Lib.bitLen m) w) := by
  go_enter Try.func100, Try.ntmps100
  go_wp2
  go_loop [3, 4] (fun n q => ∃ (i j : Nat), j ≤ 64 ∧ i ≤ 7 ∧ n = .int .i64 i ∧ q = .int .i64 j ∧ Hid (i + Lib.bitLen j = Lib.bitLen m)) (fun _ q => (intOf q).toNat)
  case atStart => exact ⟨0, m, h1, by omega, rfl, rfl, Nat.zero_add _⟩
  case round =>
    obtain ⟨i, j, hj, hi7, rfl, rfl, hij⟩ := hrel
    have hb := (bitLen_small m h1).1
    by_cases hlt : 0 < j
    · have hh := bitLen_half j hj hlt
      have HH := Lib.hid hh
      have h8 : i + 1 ≤ 7 := by have := hij.out; omega
      clear hh
      go_wp2
      go_round
      case rel => exact ⟨i + 1, j / 2, by omega, h8, by go_num, by go_num, by have h1 := hij.out; have h2 := HH.out; show i + 1 + Lib.bitLen (j / 2) = _; omega⟩
      case measure => simp [intOf]; omega
    · obtain rfl : j = 0 := by omega
      go_wp2
      go_ret
      exact ⟨ret_int (by have h := hij.out; have h0 : Lib.bitLen 0 = 0 := rfl; omega), by repeat (first | exact Below.refl _ _ | with_reducible assumption | (refine bl_alloc ?_ (Nat.le_refl _) _) | (refine bl_set ?_ (by dsimp only; omega) _) | (refine Below.drew ?_) | (refine bl_drewN ?_ _) | (refine bl_call ?_ (Nat.le_refl _) (by assumption)))⟩

/-- what is added to how many are 1 -/
def offN (m : Nat) : Nat := 2 ^ Lib.bitLen m - 1 - m

set_option maxHeartbeats 1000000 in
theorem ref9_Offset (k f b l c : Int) (m : Nat) (h1 : m ≤ 64) (w : World) :
    Calls Try.prog 99 #[.agg #[.int .i64 k, .int .i64 f, .int .i64 b, .int .i64 l, .int .i64 m, .int .i64 c]] w (RetI (offN m) w) := by
  have HW := Lib.hid (fun wz => ref9_WeightBits k f b l c m h1 wz)
  have hs := bitLen_small m h1
  have HO : Hid ((2 ^ Lib.bitLen m : Nat) - 1 - m = offN m) := rfl
  generalize Lib.bitLen m = q at *
  have HS := Lib.hid hs.2.1
  have hq7 := hs.1
  clear hs
  have hb00 : Below w.heap.size w w := Below.refl _ _
  go_enter Try.func99, Try.ntmps99
  go_upto_region 1 with fail
  have hx := Vs.new w [.int .i64 k, .int .i64 f, .int .i64 b, .int .i64 l, .int .i64 m, .int .i64 c] #[.int .i64 k, .int .i64 f, .int .i64 b, .int .i64 l, .int .i64 m, .int .i64 c] 72 rfl
  have hbA : Below w.heap.size w (w.alloc (.cells #[.int .i64 k, .int .i64 f, .int .i64 b, .int .i64 l, .int .i64 m, .int .i64 c] 72)) := by repeat (first | exact Below.refl _ _ | with_reducible assumption | (refine bl_alloc ?_ (Nat.le_refl _) _))
  replace hb00 := bl_call hb00 (Nat.le_refl _) hbA
  clear hbA
  generalize w.alloc (.cells #[.int .i64 k, .int .i64 f, .int .i64 b, .int .i64 l, .int .i64 m, .int .i64 c] 72) = w1 at hb00 hx ⊢
  have hx12 : w.heap.size < w1.heap.size := hx.lt
  go_wp2_with fail
  go_loopw [3, 4] (fun n i wr => ∃ (j p : Nat), j ≤ q ∧ i = .int .i64 j ∧ n = .int .i64 p ∧ Hid (p = 2 ^ j) ∧ p ≤ 128 ∧ Vs wr w.heap.size [.int .i64 k, .int .i64 f, .int .i64 b, .int .i64 l, .int .i64 m, .int .i64 c] ∧ Below w.heap.size w wr) (fun _ i _ => q - (intOf i).toNat)
  case atStart => exact ⟨0, 1, Nat.zero_le _, rfl, rfl, rfl, by omega, hx, hb00⟩
  case round =>
    clear hx hb00 hx12
    obtain ⟨j, p, hj, rfl, rfl, hp, hp128, hx, hb00⟩ := hrel
    obtain ⟨⟨x0, x1, x2, x3, x4, x5⟩, ⟨x6, x7, x8, x9, x10, x11⟩, x12⟩ := hx.get6
    by_cases hlt : j < q
    · have hp2 : p * 2 ≤ 128 := by
        have h1 := hp.out
        have h2 : (2 : Nat) ^ (j + 1) ≤ 2 ^ 7 := Nat.pow_le_pow_right (by omega) (by omega)
        rw [Nat.pow_succ, ← h1] at h2
        omega
      go_wp2_with (first
        | (go_at_call 100; refine (HW.out _).mono ?_; rintro e w2 ⟨rfl, hb2⟩; replace hb00 := bl_call hb00 (Nat.le_refl _) hb2; replace hx := hx.call hb2))
      go_roundw
      case rel => exact ⟨j + 1, p * 2, by omega, by go_num, by go_num, (by rw [hp.out, Nat.pow_succ] : p * 2 = 2 ^ (j + 1)), hp2, hx, hb00⟩
      case measure => simp [intOf]; omega
    · obtain rfl : j = q := by omega
      have hpm : m < p := by rw [hp.out]; exact HS.out
      go_wp2_with (first
        | (go_at_call 100; refine (HW.out _).mono ?_; rintro e w2 ⟨rfl, hb2⟩; replace hb00 := bl_call hb00 (Nat.le_refl _) hb2; replace hx := hx.call hb2; obtain ⟨⟨x0, x1, x2, x3, x4, x5⟩, ⟨x6, x7, x8, x9, x10, x11⟩, x12⟩ := hx.get6))
      go_ret
      exact ⟨ret_int (by have h1 := HO.out; have h2 := hp.out; omega), hb00⟩

set_option maxHeartbeats 1000000 in
theorem ref9_In (f : Nat) (y : CK) (hy : y.ok) (w : World) : Calls Try.prog 61 #[y.rval f] w (RetI y.nin w) := by
  cases y with
  | count =>
    rw [rval_count]
    go_enter Try.func61, Try.ntmps61
    go_wp2
    go_ret
    exact ⟨rfl, by repeat (first | exact Below.refl _ _ | with_reducible assumption | (refine bl_alloc ?_ (Nat.le_refl _) _) | (refine bl_set ?_ (by dsimp only; omega) _) | (refine Below.drew ?_) | (refine bl_drewN ?_ _) | (refine bl_call ?_ (Nat.le_refl _) (by assumption)))⟩
  | sum b =>
    rw [rval_sum]
    go_enter Try.func61, Try.ntmps61
    go_wp2
    go_ret
    exact ⟨rfl, by repeat (first | exact Below.refl _ _ | with_reducible assumption | (refine bl_alloc ?_ (Nat.le_refl _) _) | (refine bl_set ?_ (by dsimp only; omega) _) | (refine Below.drew ?_) | (refine bl_drewN ?_ _) | (refine bl_call ?_ (Nat.le_refl _) (by assumption)))⟩
  | vec b l c =>
    rw [rval_vec]
    have hle := CK.nin_le hy
    rw [show (CK.vec b l c).nin = l * b from rfl] at hle ⊢
    have hmul : (b : Int) * (l : Int) = ((l * b : Nat) : Int) := by rw [Int.natCast_mul, Int.mul_comm]
    generalize l * b = n at *
    clear hy
    go_enter Try.func61, Try.ntmps61
    go_wp2
    go_ret
    refine ⟨ret_int ?_, by repeat (first | exact Below.refl _ _ | with_reducible assumption | (refine bl_alloc ?_ (Nat.le_refl _) _) | (refine bl_set ?_ (by dsimp only; omega) _) | (refine Below.drew ?_) | (refine bl_drewN ?_ _) | (refine bl_call ?_ (Nat.le_refl _) (by assumption)))⟩
    first
      | rfl
      | omega
      | (rw [hmul]; exact IntWalk.i64_in _ (by omega))
  | hist l c =>
    rw [rval_hist]
    go_enter Try.func61, Try.ntmps61
    go_wp2
    go_ret
    exact ⟨rfl, by repeat (first | exact Below.refl _ _ | with_reducible assumption | (refine bl_alloc ?_ (Nat.le_refl _) _) | (refine bl_set ?_ (by dsimp only; omega) _) | (refine Below.drew ?_) | (refine bl_drewN ?_ _) | (refine bl_call ?_ (Nat.le_refl _) (by assumption)))⟩
  | multi l m c =>
    rw [rval_multi]
    obtain ⟨⟨hl1, hl2⟩, ⟨hm1, hm2⟩, hc⟩ := hy
    have HW := Lib.hid (fun wz => ref9_WeightBits 5 f 0 l c m (by omega) wz)
    have hb7 := (bitLen_small m (by omega)).1
    rw [show (CK.multi l m c).nin = l + Lib.bitLen m from rfl]
    generalize Lib.bitLen m = q at *
    have hw1 : IntKind.i64.wrap ((l : Int) + (q : Int)) = (l : Int) + (q : Int) := IntWalk.i64_in _ (by omega)
    have hb00 : Below w.heap.size w w := Below.refl _ _
    go_enter Try.func61, Try.ntmps61
    go_upto_region 10 with fail
    have hx := Vs.new w [.int .i64 5, .int .i64 f, .int .i64 0, .int .i64 l, .int .i64 m, .int .i64 c] #[.int .i64 5, .int .i64 f, .int .i64 0, .int .i64 l, .int .i64 m, .int .i64 c] 72 rfl
    have hbA : Below w.heap.size w (w.alloc (.cells #[.int .i64 5, .int .i64 f, .int .i64 0, .int .i64 l, .int .i64 m, .int .i64 c] 72)) := by repeat (first | exact Below.refl _ _ | with_reducible assumption | (refine bl_alloc ?_ (Nat.le_refl _) _))
    replace hb00 := bl_call hb00 (Nat.le_refl _) hbA
    clear hbA
    generalize w.alloc (.cells #[.int .i64 5, .int .i64 f, .int .i64 0, .int .i64 l, .int .i64 m, .int .i64 c] 72) = w1 at hb00 hx ⊢
    obtain ⟨⟨x0, x1, x2, x3, x4, x5⟩, ⟨x6, x7, x8, x9, x10, x11⟩, x12⟩ := hx.get6
    refine region_B (n := 5) (m := 6) (f := 5) (by kernel_rfl) (by kernel_rfl) rfl ?_
    refine WpH.takeB (i := 0) (v := ?_) rfl (by kernel_rfl) (fun _ _ _ h => h) (.val rfl (fun wz hwz => ?_)) ?_
    rotate_left
    · go_simp; try (with_reducible rfl)
    (simp only [Act.put]); (try simp only [List.setIfInBounds_toArray]); (try simp only [List.set_cons_succ]); (try simp only [List.set_cons_zero])
    refine WpH.takeB (i := 1) (v := ?_) rfl (by kernel_rfl) (fun _ _ _ h => h) (.val rfl (fun wz hwz => ?_)) ?_
    rotate_left
    · (obtain ⟨hcz, hfz⟩ := bcell hwz; go_simp; try (with_reducible rfl))
    (simp only [Act.put]); (try simp only [List.setIfInBounds_toArray]); (try simp only [List.set_cons_succ]); (try simp only [List.set_cons_zero])
    refine WpH.takeB (i := 2) (v := ?_) rfl (by kernel_rfl) (fun _ _ _ h => h) (.val rfl (fun wz hwz => ?_)) ?_
    rotate_left
    · (obtain ⟨hcz, hfz⟩ := bcell hwz; go_simp; try (with_reducible rfl))
    (simp only [Act.put]); (try simp only [List.setIfInBounds_toArray]); (try simp only [List.set_cons_succ]); (try simp only [List.set_cons_zero])
    refine WpH.takeB (i := 3) rfl (by kernel_rfl) (fun _ _ _ h => h) (.call rfl (fun wz hwz => HW.out wz) (fun wz hwz => ?_)) ?_
    · go_simp; try (with_reducible rfl)
    (simp only [Act.put]); (try simp only [List.setIfInBounds_toArray]); (try simp only [List.set_cons_succ]); (try simp only [List.set_cons_zero])
    refine WpH.takeB (i := 4) (v := ?_) rfl (by kernel_rfl) (fun _ _ _ h => h) (.val rfl (fun wz hwz => ?_)) ?_
    rotate_left
    · go_simp; try (with_reducible rfl)
    (simp only [Act.put]); (try simp only [List.setIfInBounds_toArray]); (try simp only [List.set_cons_succ]); (try simp only [List.set_cons_zero])
    refine WpH.doneB (by kernel_rfl) (fun w2 hw2 => ?_)
    (try simp only [List.drop_succ_cons]); (try simp only [List.drop_zero]); (try simp only [Nat.reduceSub]); (try simp only [List.take_succ_cons]); (try simp only [List.take_zero])
    replace hb00 := bl_call hb00 (Nat.le_refl _) hw2
    replace hx := hx.call hw2
    go_wp2_with fail
    go_ret
    exact ⟨ret_int (by omega), by repeat (first | exact Below.refl _ _ | with_reducible assumption | (refine bl_alloc ?_ (Nat.le_refl _) _) | (refine bl_set ?_ (by dsimp only; omega) _) | (refine Below.drew ?_) | (refine bl_drewN ?_ _) | (refine bl_call ?_ (Nat.le_refl _) (by assumption)))⟩

set_option maxHeartbeats 1000000 in
theorem ref9_Out (f : Nat) (y : CK) (hy : y.ok) (w : World) : Calls Try.prog 62 #[y.rval f] w (RetI y.nout w) := by
  cases y with
  | count =>
    rw [rval_count]
    go_enter Try.func62, Try.ntmps62
    go_wp2
    go_ret
    exact ⟨rfl, by repeat (first | exact Below.refl _ _ | with_reducible assumption | (refine bl_alloc ?_ (Nat.le_refl _) _) | (refine bl_set ?_ (by dsimp only; omega) _) | (refine Below.drew ?_) | (refine bl_drewN ?_ _) | (refine bl_call ?_ (Nat.le_refl _) (by assumption)))⟩
  | sum b =>
    rw [rval_sum]
    go_enter Try.func62, Try.ntmps62
    go_wp2
    go_ret
    exact ⟨rfl, by repeat (first | exact Below.refl _ _ | with_reducible assumption | (refine bl_alloc ?_ (Nat.le_refl _) _) | (refine bl_set ?_ (by dsimp only; omega) _) | (refine Below.drew ?_) | (refine bl_drewN ?_ _) | (refine bl_call ?_ (Nat.le_refl _) (by assumption)))⟩
  | vec b l c =>
    rw [rval_vec]
    go_enter Try.func62, Try.ntmps62
    go_wp2
    go_ret
    exact ⟨rfl, by repeat (first | exact Below.refl _ _ | with_reducible assumption | (refine bl_alloc ?_ (Nat.le_refl _) _) | (refine bl_set ?_ (by dsimp only; omega) _) | (refine Below.drew ?_) | (refine bl_drewN ?_ _) | (refine bl_call ?_ (Nat.le_refl _) (by assumption)))⟩
  | hist l c =>
    rw [rval_hist]
    go_enter Try.func62, Try.ntmps62
    go_wp2
    go_ret
    exact ⟨rfl, by repeat (first | exact Below.refl _ _ | with_reducible assumption | (refine bl_alloc ?_ (Nat.le_refl _) _) | (refine bl_set ?_ (by dsimp only; omega) _) | (refine Below.drew ?_) | (refine bl_drewN ?_ _) | (refine bl_call ?_ (Nat.le_refl _) (by assumption)))⟩
  | multi l m c =>
    rw [rval_multi]
    go_enter Try.func62, Try.ntmps62
    go_wp2
    go_ret
    exact ⟨rfl, by repeat (first | exact Below.refl _ _ | with_reducible assumption | (refine bl_alloc ?_ (Nat.le_refl _) _) | (refine bl_set ?_ (by dsimp only; omega) _) | (refine Below.drew ?_) | (refine bl_drewN ?_ _) | (refine bl_call ?_ (Nat.le_refl _) (by assumption)))⟩

set_option maxHeartbeats 1000000 in
theorem ref9_Calls_chunk (k f b l m : Int) (c n : Nat) (hk : (k == 1) = false) (hk2 : (k == 2) = false) (hc1 : 1 ≤ c) (hc2 : c ≤ 16) (hn : n ≤ 2048) (w : World)
    (hI : ∀ wz, Calls Try.prog 61 #[.agg #[.int .i64 k, .int .i64 f, .int .i64 b, .int .i64 l, .int .i64 m, .int .i64 c]] wz (RetI n wz)) :
    Calls Try.prog 64 #[.agg #[.int .i64 k, .int .i64 f, .int .i64 b, .int .i64 l, .int .i64 m, .int .i64 c]] w (RetI ((n + c - 1) / c) w) := by
  have HI := Lib.hid hI
  clear hI
  have hb00 : Below w.heap.size w w := Below.refl _ _
  go_enter Try.func64, Try.ntmps64
  go_upto_region 1 with fail
  have hx := Vs.new w [.int .i64 k, .int .i64 f, .int .i64 b, .int .i64 l, .int .i64 m, .int .i64 c] #[.int .i64 k, .int .i64 f, .int .i64 b, .int .i64 l, .int .i64 m, .int .i64 c] 72 rfl
  have hbA : Below w.heap.size w (w.alloc (.cells #[.int .i64 k, .int .i64 f, .int .i64 b, .int .i64 l, .int .i64 m, .int .i64 c] 72)) := by repeat (first | exact Below.refl _ _ | with_reducible assumption | (refine bl_alloc ?_ (Nat.le_refl _) _))
  replace hb00 := bl_call hb00 (Nat.le_refl _) hbA
  clear hbA
  generalize w.alloc (.cells #[.int .i64 k, .int .i64 f, .int .i64 b, .int .i64 l, .int .i64 m, .int .i64 c] 72) = w1 at hb00 hx ⊢
  obtain ⟨⟨x0, x1, x2, x3, x4, x5⟩, ⟨x6, x7, x8, x9, x10, x11⟩, x12⟩ := hx.get6
  go_wp2_with fail
  go_loopw [3, 4] (fun u v wr => ∃ (j p : Nat), j ≤ 2048 ∧ p ≤ 2064 ∧ u = .int .i64 j ∧ v = .int .i64 p ∧ Hid (p = j * c) ∧ Hid (j = 0 ∨ (j - 1) * c < n) ∧ Vs wr w.heap.size [.int .i64 k, .int .i64 f, .int .i64 b, .int .i64 l, .int .i64 m, .int .i64 c] ∧ Below w.heap.size w wr) (fun _ v _ => 2064 - (intOf v).toNat)
  case atStart => exact ⟨0, 0, by omega, by omega, rfl, rfl, (Nat.zero_mul c).symm, .inl rfl, hx, hb00⟩
  case round =>
    clear x0 x1 x2 x3 x4 x5 x6 x7 x8 x9 x10 x11 x12
    clear hx hb00
    obtain ⟨j, p, hj, hp, rfl, rfl, hpj, hj0, hx, hb00⟩ := hrel
    obtain ⟨⟨x0, x1, x2, x3, x4, x5⟩, ⟨x6, x7, x8, x9, x10, x11⟩, x12⟩ := hx.get6
    by_cases hlt : p < n
    · have hjj : j + 1 ≤ 2048 := by
        have h1 := hpj.out
        have h2 : j * 1 ≤ j * c := Nat.mul_le_mul_left j hc1
        omega
      go_wp2_with (first
        | (go_at_call 61; refine (HI.out _).mono ?_; rintro e w2 ⟨rfl, hb2⟩; replace hb00 := bl_call hb00 (Nat.le_refl _) hb2; replace hx := hx.call hb2; obtain ⟨⟨x0, x1, x2, x3, x4, x5⟩, ⟨x6, x7, x8, x9, x10, x11⟩, x12⟩ := hx.get6))
      go_roundw
      case rel => exact ⟨j + 1, p + c, hjj, by omega, by go_num, by go_num, (by rw [hpj.out, Nat.succ_mul] : p + c = (j + 1) * c), .inr (by rw [Nat.add_sub_cancel, ← hpj.out]; exact hlt), hx, hb00⟩
      case measure => simp [intOf]; omega
    · have hge : n ≤ j * c := by rw [← hpj.out]; omega
      have HE := Lib.hid (ceil_of hc1 hge hj0.out)
      clear hge
      go_wp2_with (first
        | (go_at_call 61; refine (HI.out _).mono ?_; rintro e w2 ⟨rfl, hb2⟩; replace hb00 := bl_call hb00 (Nat.le_refl _) hb2; replace hx := hx.call hb2; obtain ⟨⟨x0, x1, x2, x3, x4, x5⟩, ⟨x6, x7, x8, x9, x10, x11⟩, x12⟩ := hx.get6))
      go_ret
      exact ⟨ret_int (by rw [HE.out]), hb00⟩

theorem ref9_Calls (f : Nat) (y : CK) (hy : y.ok) (w : World) : Calls Try.prog 64 #[y.rval f] w (RetI y.calls w) := by
  have hI := fun wz => ref9_In f y hy wz
  have hn := CK.nin_le hy
  cases y with
  | count =>
    rw [rval_count]
    go_enter Try.func64, Try.ntmps64
    go_wp2
    go_ret
    exact ⟨rfl, by repeat (first | exact Below.refl _ _ | with_reducible assumption | (refine bl_alloc ?_ (Nat.le_refl _) _) | (refine bl_set ?_ (by dsimp only; omega) _) | (refine Below.drew ?_) | (refine bl_drewN ?_ _) | (refine bl_call ?_ (Nat.le_refl _) (by assumption)))⟩
  | sum b =>
    rw [rval_sum]
    go_enter Try.func64, Try.ntmps64
    go_wp2
    go_ret
    exact ⟨rfl, by repeat (first | exact Below.refl _ _ | with_reducible assumption | (refine bl_alloc ?_ (Nat.le_refl _) _) | (refine bl_set ?_ (by dsimp only; omega) _) | (refine Below.drew ?_) | (refine bl_drewN ?_ _) | (refine bl_call ?_ (Nat.le_refl _) (by assumption)))⟩
  | vec b l c =>
    rw [rval_vec] at hI ⊢
    exact ref9_Calls_chunk 3 f b l 0 c _ rfl rfl hy.2.2.1 hy.2.2.2 hn w hI
  | hist l c =>
    rw [rval_hist] at hI ⊢
    exact ref9_Calls_chunk 4 f 0 l 0 c _ rfl rfl hy.2.1 hy.2.2 hn w hI
  | multi l m c =>
    rw [rval_multi] at hI ⊢
    exact ref9_Calls_chunk 5 f 0 l m c _ rfl rfl hy.2.2.1 hy.2.2.2 hn w hI

end Go.Proofs.Ytiphahbeedeebaa

namespace Go.Proofs.Ytiphahbeedeebaa
open Go.RowKit Fm
set_option linter.unusedVariables false
set_option maxRecDepth 100000

theorem ntt_Next (n : Nat) (hn : n ≤ 1024) (w : World) : Calls Try.prog 109 #[.int .i64 n] w fun e w' => e = .returned (.int .i64 (nextP n)) ∧ w = w' := by
  go_enter Try.func109, Try.ntmps109
  go_wp2
  go_loop [3] (fun o => ∃ p : Nat, o = .int .i64 p ∧ Hid (OnWay n p) ∧ p ≤ 1024) (fun o => 1024 - (intOf o).toNat)
  case atStart => exact ⟨1, rfl, onWay_one n, by omega⟩
  case round =>
    obtain ⟨p, rfl, hp, hp2⟩ := hrel
    by_cases hlt : p < n
    · have h1 : p < 1024 := by omega
      have h2 := onWay_next hp.out hlt h1
      have h3 := (onWay_le h2).2
      have H2 := Lib.hid h2
      have h4 := (onWay_le hp.out).1
      clear h2
      go_wp2
      go_round
      case rel => exact ⟨2 * p, by go_num, H2.out, h3⟩
      case measure => simp [intOf]; omega
    · have h5 := Lib.hid (onWay_end hp.out hn hlt)
      go_wp2
      go_ret
      exact ⟨ret_int (by rw [h5.out]), rfl⟩

section
variable (f : Nat) (y : CK) (hy : y.ok)
include hy

set_option maxHeartbeats 1000000 in
theorem circuit_Joint (w : World) : Calls Try.prog 65 #[y.val f] w (RetI y.joint w) := by
  have HC := Lib.hid (fun wz => circuit_Calls f y hy wz)
  have hn := Nat.le_trans (show y.calls ≤ y.nin from by cases y with | count => exact Nat.le_refl _ | sum b => exact Nat.le_refl _ | vec b l c => exact ceil_le hy.2.2.1 | hist l c => exact ceil_le hy.2.1 | multi l m c => exact ceil_le hy.2.2.1) (CK.nin_le hy)
  have hb00 : Below w.heap.size w w := Below.refl _ _
  cases y with
  | count =>
    rw [val_count]
    go_enter Try.func65, Try.ntmps65
    go_wp2
    go_ret
    exact ⟨rfl, by repeat (first | exact Below.refl _ _ | with_reducible assumption | (refine bl_alloc ?_ (Nat.le_refl _) _) | (refine bl_set ?_ (by dsimp only; omega) _) | (refine Below.drew ?_) | (refine bl_drewN ?_ _) | (refine bl_call ?_ (Nat.le_refl _) (by assumption)))⟩
  | sum b =>
    rw [val_sum]
    go_enter Try.func65, Try.ntmps65
    go_wp2
    go_ret
    exact ⟨rfl, by repeat (first | exact Below.refl _ _ | with_reducible assumption | (refine bl_alloc ?_ (Nat.le_refl _) _) | (refine bl_set ?_ (by dsimp only; omega) _) | (refine Below.drew ?_) | (refine bl_drewN ?_ _) | (refine bl_call ?_ (Nat.le_refl _) (by assumption)))⟩
  | vec b l c =>
    rw [show CK.joint (.vec b l c) = CK.calls (.vec b l c) from rfl]
    generalize CK.calls (.vec b l c) = q at *
    rw [val_vec] at HC ⊢
    go_enter Try.func65, Try.ntmps65
    go_wp2_with (go_at_call 63; refine (HC.out _).mono ?_; rintro e w2 ⟨rfl, hb2⟩)
    go_ret
    exact ⟨rfl, by repeat (first | exact Below.refl _ _ | with_reducible assumption | (refine bl_alloc ?_ (Nat.le_refl _) _) | (refine bl_set ?_ (by dsimp only; omega) _) | (refine Below.drew ?_) | (refine bl_drewN ?_ _) | (refine bl_call ?_ (Nat.le_refl _) (by assumption)))⟩
  | hist l c =>
    rw [show CK.joint (.hist l c) = CK.calls (.hist l c) + 1 from rfl]
    generalize CK.calls (.hist l c) = q at *
    rw [val_hist] at HC ⊢
    go_enter Try.func65, Try.ntmps65
    go_wp2_with (go_at_call 63; refine (HC.out _).mono ?_; rintro e w2 ⟨rfl, hb2⟩)
    go_ret
    exact ⟨ret_int (by omega), by repeat (first | exact Below.refl _ _ | with_reducible assumption | (refine bl_alloc ?_ (Nat.le_refl _) _) | (refine bl_set ?_ (by dsimp only; omega) _) | (refine Below.drew ?_) | (refine bl_drewN ?_ _) | (refine bl_call ?_ (Nat.le_refl _) (by assumption)))⟩
  | multi l m c =>
    rw [show CK.joint (.multi l m c) = CK.calls (.multi l m c) + 1 from rfl]
    generalize CK.calls (.multi l m c) = q at *
    rw [val_multi] at HC ⊢
    go_enter Try.func65, Try.ntmps65
    go_wp2_with (go_at_call 63; refine (HC.out _).mono ?_; rintro e w2 ⟨rfl, hb2⟩)
    go_ret
    exact ⟨ret_int (by omega), by repeat (first | exact Below.refl _ _ | with_reducible assumption | (refine bl_alloc ?_ (Nat.le_refl _) _) | (refine bl_set ?_ (by dsimp only; omega) _) | (refine Below.drew ?_) | (refine bl_drewN ?_ _) | (refine bl_call ?_ (Nat.le_refl _) (by assumption)))⟩

set_option maxHeartbeats 1000000 in
theorem ref9_Joint (w : World) : Calls Try.prog 66 #[y.rval f] w (RetI y.joint w) := by
  have HC := Lib.hid (fun wz => ref9_Calls f y hy wz)
  have hn := Nat.le_trans (show y.calls ≤ y.nin from by cases y with | count => exact Nat.le_refl _ | sum b => exact Nat.le_refl _ | vec b l c => exact ceil_le hy.2.2.1 | hist l c => exact ceil_le hy.2.1 | multi l m c => exact ceil_le hy.2.2.1) (CK.nin_le hy)
  cases y with
  | count =>
    rw [rval_count]
    go_enter Try.func66, Try.ntmps66
    go_wp2
    go_ret
    exact ⟨rfl, by repeat (first | exact Below.refl _ _ | with_reducible assumption | (refine bl_alloc ?_ (Nat.le_refl _) _) | (refine bl_set ?_ (by dsimp only; omega) _) | (refine Below.drew ?_) | (refine bl_drewN ?_ _) | (refine bl_call ?_ (Nat.le_refl _) (by assumption)))⟩
  | sum b =>
    rw [rval_sum]
    go_enter Try.func66, Try.ntmps66
    go_wp2
    go_ret
    exact ⟨rfl, by repeat (first | exact Below.refl _ _ | with_reducible assumption | (refine bl_alloc ?_ (Nat.le_refl _) _) | (refine bl_set ?_ (by dsimp only; omega) _) | (refine Below.drew ?_) | (refine bl_drewN ?_ _) | (refine bl_call ?_ (Nat.le_refl _) (by assumption)))⟩
  | vec b l c =>
    rw [show CK.joint (.vec b l c) = CK.calls (.vec b l c) from rfl]
    generalize CK.calls (.vec b l c) = q at *
    rw [rval_vec] at HC ⊢
    go_enter Try.func66, Try.ntmps66
    go_wp2_with (go_at_call 64; refine (HC.out _).mono ?_; rintro e w2 ⟨rfl, hb2⟩)
    go_ret
    exact ⟨rfl, by repeat (first | exact Below.refl _ _ | with_reducible assumption | (refine bl_alloc ?_ (Nat.le_refl _) _) | (refine bl_set ?_ (by dsimp only; omega) _) | (refine Below.drew ?_) | (refine bl_drewN ?_ _) | (refine bl_call ?_ (Nat.le_refl _) (by assumption)))⟩
  | hist l c =>
    rw [show CK.joint (.hist l c) = CK.calls (.hist l c) + 1 from rfl]
    generalize CK.calls (.hist l c) = q at *
    rw [rval_hist] at HC ⊢
    go_enter Try.func66, Try.ntmps66
    go_wp2_with (go_at_call 64; refine (HC.out _).mono ?_; rintro e w2 ⟨rfl, hb2⟩)
    go_ret
    exact ⟨ret_int (by omega), by repeat (first | exact Below.refl _ _ | with_reducible assumption | (refine bl_alloc ?_ (Nat.le_refl _) _) | (refine bl_set ?_ (by dsimp only; omega) _) | (refine Below.drew ?_) | (refine bl_drewN ?_ _) | (refine bl_call ?_ (Nat.le_refl _) (by assumption)))⟩
  | multi l m c =>
    rw [show CK.joint (.multi l m c) = CK.calls (.multi l m c) + 1 from rfl]
    generalize CK.calls (.multi l m c) = q at *
    rw [rval_multi] at HC ⊢
    go_enter Try.func66, Try.ntmps66
    go_wp2_with (go_at_call 64; refine (HC.out _).mono ?_; rintro e w2 ⟨rfl, hb2⟩)
    go_ret
    exact ⟨ret_int (by omega), by repeat (first | exact Below.refl _ _ | with_reducible assumption | (refine bl_alloc ?_ (Nat.le_refl _) _) | (refine bl_set ?_ (by dsimp only; omega) _) | (refine Below.drew ?_) | (refine bl_drewN ?_ _) | (refine bl_call ?_ (Nat.le_refl _) (by assumption)))⟩

theorem circuit_Domain (hc : y.calls ≤ 511) (w : World) : Calls Try.prog 67 #[y.val f] w (RetI (nextP (y.calls + 1)) w) := by
  have HC := Lib.hid (fun wz => circuit_Calls f y hy wz)
  unfold CK.val at HC ⊢
  generalize y.calls = q at *
  have HN : Hid (∀ wz, Calls Try.prog 109 #[.int .i64 ((q : Int) + 1)] wz fun e w' => e = .returned (.int .i64 (nextP (q + 1))) ∧ wz = w') := fun wz => ntt_Next (q + 1) (by omega) wz
  go_enter Try.func67, Try.ntmps67
  go_wp2_with (first
    | (go_at_call 63; refine (HC.out _).mono ?_; rintro e w2 ⟨rfl, hb2⟩)
    | (go_at_call 109; refine (HN.out _).mono ?_; rintro e w3 ⟨rfl, rfl⟩))
  go_ret
  exact ⟨rfl, by repeat (first | exact Below.refl _ _ | with_reducible assumption | (refine bl_alloc ?_ (Nat.le_refl _) _) | (refine bl_set ?_ (by dsimp only; omega) _) | (refine Below.drew ?_) | (refine bl_drewN ?_ _) | (refine bl_call ?_ (Nat.le_refl _) (by assumption)))⟩

set_option maxHeartbeats 1000000 in
theorem ref9_Domain (hc : y.calls ≤ 511) (w : World) : Calls Try.prog 68 #[y.rval f] w (RetI (nextP (y.calls + 1)) w) := by
  have HC := Lib.hid (fun wz => ref9_Calls f y hy wz)
  unfold CK.rval at HC ⊢
  generalize y.calls = q at *
  clear hy
  generalize ((y.k : Nat) : Int) = k at *
  generalize ((y.b : Nat) : Int) = b at *
  generalize ((y.l : Nat) : Int) = l at *
  generalize ((y.m : Nat) : Int) = m at *
  generalize ((y.c : Nat) : Int) = c at *
  have hb00 : Below w.heap.size w w := Below.refl _ _
  go_enter Try.func68, Try.ntmps68
  go_upto_region 1 with fail
  have hx := Vs.new w [.int .i64 k, .int .i64 f, .int .i64 b, .int .i64 l, .int .i64 m, .int .i64 c] #[.int .i64 k, .int .i64 f, .int .i64 b, .int .i64 l, .int .i64 m, .int .i64 c] 72 rfl
  have hbA : Below w.heap.size w (w.alloc (.cells #[.int .i64 k, .int .i64 f, .int .i64 b, .int .i64 l, .int .i64 m, .int .i64 c] 72)) := by repeat (first | exact Below.refl _ _ | with_reducible assumption | (refine bl_alloc ?_ (Nat.le_refl _) _))
  replace hb00 := bl_call hb00 (Nat.le_refl _) hbA
  clear hbA
  generalize w.alloc (.cells #[.int .i64 k, .int .i64 f, .int .i64 b, .int .i64 l, .int .i64 m, .int .i64 c] 72) = w1 at hb00 hx ⊢
  go_wp2_with fail
  go_loopw [3] (fun o wr => ∃ p : Nat, o = .int .i64 p ∧ Hid (OnWay (q + 1) p) ∧ p ≤ 1024 ∧ Vs wr w.heap.size [.int .i64 k, .int .i64 f, .int .i64 b, .int .i64 l, .int .i64 m, .int .i64 c] ∧ Below w.heap.size w wr) (fun o _ => 1024 - (intOf o).toNat)
  case atStart => exact ⟨1, rfl, onWay_one _, by omega, hx, hb00⟩
  case round =>
    clear hx hb00
    obtain ⟨p, rfl, hp, hp2, hx, hb00⟩ := hrel
    obtain ⟨⟨x0, x1, x2, x3, x4, x5⟩, ⟨x6, x7, x8, x9, x10, x11⟩, x12⟩ := hx.get6
    by_cases hlt : p < q + 1
    · have h2 := onWay_next hp.out hlt (by omega)
      have h3 := (onWay_le h2).2
      have H2 := Lib.hid h2
      have h4 := (onWay_le hp.out).1
      clear h2
      go_wp2_with (first
        | (go_at_call 64; refine (HC.out _).mono ?_; rintro e w2 ⟨rfl, hb2⟩; replace hb00 := bl_call hb00 (Nat.le_refl _) hb2; replace hx := hx.call hb2))
      go_roundw
      case rel => exact ⟨2 * p, by go_num, H2.out, h3, hx, hb00⟩
      case measure => simp [intOf]; omega
    · have h5 := Lib.hid (onWay_end hp.out (by omega) hlt)
      go_wp2_with (first
        | (go_at_call 64; refine (HC.out _).mono ?_; rintro e w2 ⟨rfl, hb2⟩; replace hb00 := bl_call hb00 (Nat.le_refl _) hb2; replace hx := hx.call hb2))
      go_ret
      exact ⟨ret_int (by rw [h5.out]), hb00⟩

theorem ref9_Arity (w : World) : Calls Try.prog 69 #[y.rval f] w (RetI y.arity w) := by
  cases y with
  | count =>
    rw [rval_count]
    go_enter Try.func69, Try.ntmps69
    go_wp2
    go_ret
    exact ⟨rfl, by repeat (first | exact Below.refl _ _ | with_reducible assumption | (refine bl_alloc ?_ (Nat.le_refl _) _) | (refine bl_set ?_ (by dsimp only; omega) _) | (refine Below.drew ?_) | (refine bl_drewN ?_ _) | (refine bl_call ?_ (Nat.le_refl _) (by assumption)))⟩
  | sum b =>
    rw [rval_sum]
    go_enter Try.func69, Try.ntmps69
    go_wp2
    go_ret
    exact ⟨rfl, by repeat (first | exact Below.refl _ _ | with_reducible assumption | (refine bl_alloc ?_ (Nat.le_refl _) _) | (refine bl_set ?_ (by dsimp only; omega) _) | (refine Below.drew ?_) | (refine bl_drewN ?_ _) | (refine bl_call ?_ (Nat.le_refl _) (by assumption)))⟩
  | vec b l c =>
    rw [rval_vec, show CK.arity (.vec b l c) = 2 * c from rfl]
    have hc := hy.2.2
    go_enter Try.func69, Try.ntmps69
    go_wp2
    go_ret
    exact ⟨ret_int (by omega), by repeat (first | exact Below.refl _ _ | with_reducible assumption | (refine bl_alloc ?_ (Nat.le_refl _) _) | (refine bl_set ?_ (by dsimp only; omega) _) | (refine Below.drew ?_) | (refine bl_drewN ?_ _) | (refine bl_call ?_ (Nat.le_refl _) (by assumption)))⟩
  | hist l c =>
    rw [rval_hist, show CK.arity (.hist l c) = 2 * c from rfl]
    have hc := hy.2
    go_enter Try.func69, Try.ntmps69
    go_wp2
    go_ret
    exact ⟨ret_int (by omega), by repeat (first | exact Below.refl _ _ | with_reducible assumption | (refine bl_alloc ?_ (Nat.le_refl _) _) | (refine bl_set ?_ (by dsimp only; omega) _) | (refine Below.drew ?_) | (refine bl_drewN ?_ _) | (refine bl_call ?_ (Nat.le_refl _) (by assumption)))⟩
  | multi l m c =>
    rw [rval_multi, show CK.arity (.multi l m c) = 2 * c from rfl]
    have hc := hy.2.2
    go_enter Try.func69, Try.ntmps69
    go_wp2
    go_ret
    exact ⟨ret_int (by omega), by repeat (first | exact Below.refl _ _ | with_reducible assumption | (refine bl_alloc ?_ (Nat.le_refl _) _) | (refine bl_set ?_ (by dsimp only; omega) _) | (refine Below.drew ?_) | (refine bl_drewN ?_ _) | (refine bl_call ?_ (Nat.le_refl _) (by assumption)))⟩
end

/-- what is left open below what a number of bits says -/
theorem circuit_offset (k f b l c : Int) (m : Nat) (h1 : m ≤ 64) (w : World) :
    Calls Try.prog 97 #[.agg #[.int .u8 k, .int .u8 f, .int .i64 b, .int .i64 l, .int .i64 m, .int .i64 c]] w fun e w' => e = .returned (.int .u64 (offN m : Int)) ∧ Below w.heap.size w w' := by
  have HW := Lib.hid (fun wz => circuit_weightBits k f b l c m h1 wz)
  have hs := bitLen_small m h1
  have HO : Hid ((2 ^ Lib.bitLen m : Nat) - 1 - m = offN m) := rfl
  generalize Lib.bitLen m = q at *
  have hmx : max (m : Int) 0 = (m : Int) := by omega
  obtain ⟨p, hp⟩ : ∃ p, 2 ^ q = p := ⟨_, rfl⟩
  have hp7 : 2 ^ q ≤ 2 ^ 7 := Nat.pow_le_pow_right (by omega) hs.1
  have hpm := hs.2.1
  rw [hp] at hp7 hpm HO
  have hpow : (2 : Int) ^ q = (p : Int) := by rw [← hp]; exact (Int.natCast_pow 2 q).symm
  have hq7 := hs.1
  have hpx : (2 : Nat) ^ 7 = 128 := rfl
  rw [hpx] at hp7
  have hb00 : Below w.heap.size w w := Below.refl _ _
  clear hs hpx hp
  go_enter Try.func97, Try.ntmps97
  go_upto_region 1 with fail
  have hx := Vs.new w [.int .u8 k, .int .u8 f, .int .i64 b, .int .i64 l, .int .i64 m, .int .i64 c] #[.int .u8 k, .int .u8 f, .int .i64 b, .int .i64 l, .int .i64 m, .int .i64 c] 60 rfl
  have hbA : Below w.heap.size w (w.alloc (.cells #[.int .u8 k, .int .u8 f, .int .i64 b, .int .i64 l, .int .i64 m, .int .i64 c] 60)) := by repeat (first | exact Below.refl _ _ | with_reducible assumption | (refine bl_alloc ?_ (Nat.le_refl _) _))
  replace hb00 := bl_call hb00 (Nat.le_refl _) hbA
  clear hbA
  generalize w.alloc (.cells #[.int .u8 k, .int .u8 f, .int .i64 b, .int .i64 l, .int .i64 m, .int .i64 c] 60) = w1 at hb00 hx ⊢
  obtain ⟨⟨x0, x1, x2, x3, x4, x5⟩, ⟨x6, x7, x8, x9, x10, x11⟩, x12⟩ := hx.get6
  refine region_B (n := 9) (m := 10) (f := 9) (by kernel_rfl) (by kernel_rfl) rfl ?_
  refine WpH.takeB (i := 0) (v := ?_) rfl (by kernel_rfl) (fun _ _ _ h => h) (.val rfl (fun wz hwz => ?_)) ?_
  rotate_left
  · (obtain ⟨hcz, hfz⟩ := bcell hwz; go_simp; try (with_reducible rfl))
  (simp only [Act.put]); (try simp only [List.setIfInBounds_toArray]); (try simp only [List.set_cons_succ]); (try simp only [List.set_cons_zero])
  refine WpH.takeB (i := 1) rfl (by kernel_rfl) (fun _ _ _ h => h) (.call rfl (fun wz hwz => HW.out wz) (fun wz hwz => ?_)) ?_
  · go_simp; try (with_reducible rfl)
  (simp only [Act.put]); (try simp only [List.setIfInBounds_toArray]); (try simp only [List.set_cons_succ]); (try simp only [List.set_cons_zero])
  refine WpH.takeB (i := 2) (v := ?_) rfl (by kernel_rfl) (fun _ _ _ h => h) (.val rfl (fun wz hwz => ?_)) ?_
  rotate_left
  · go_simp; try (with_reducible rfl)
  (simp only [Act.put]); (try simp only [List.setIfInBounds_toArray]); (try simp only [List.set_cons_succ]); (try simp only [List.set_cons_zero])
  refine WpH.takeB (i := 3) (v := ?_) rfl (by kernel_rfl) (fun _ _ _ h => h) (.val rfl (fun wz hwz => ?_)) ?_
  rotate_left
  · go_simp; try (with_reducible rfl)
  (simp only [Act.put]); (try simp only [List.setIfInBounds_toArray]); (try simp only [List.set_cons_succ]); (try simp only [List.set_cons_zero])
  refine WpH.takeB (i := 4) (v := ?_) rfl (by kernel_rfl) (fun _ _ _ h => h) (.val rfl (fun wz hwz => ?_)) ?_
  rotate_left
  · go_simp; try (with_reducible rfl)
  (simp only [Act.put]); (try simp only [List.setIfInBounds_toArray]); (try simp only [List.set_cons_succ]); (try simp only [List.set_cons_zero])
  refine WpH.takeB (i := 5) (v := ?_) rfl (by kernel_rfl) (fun _ _ _ h => h) (.val rfl (fun wz hwz => ?_)) ?_
  rotate_left
  · (obtain ⟨hcz, hfz⟩ := bcell hwz; go_simp; try (with_reducible rfl))
  (simp only [Act.put]); (try simp only [List.setIfInBounds_toArray]); (try simp only [List.set_cons_succ]); (try simp only [List.set_cons_zero])
  refine WpH.takeB (i := 6) (v := ?_) rfl (by kernel_rfl) (fun _ _ _ h => h) (.val rfl (fun wz hwz => ?_)) ?_
  rotate_left
  · go_simp; try (with_reducible rfl)
  (simp only [Act.put]); (try simp only [List.setIfInBounds_toArray]); (try simp only [List.set_cons_succ]); (try simp only [List.set_cons_zero])
  refine WpH.takeB (i := 7) (v := ?_) rfl (by kernel_rfl) (fun _ _ _ h => h) (.val rfl (fun wz hwz => ?_)) ?_
  rotate_left
  · go_simp; try (with_reducible rfl)
  (simp only [Act.put]); (try simp only [List.setIfInBounds_toArray]); (try simp only [List.set_cons_succ]); (try simp only [List.set_cons_zero])
  refine WpH.takeB (i := 8) (v := ?_) rfl (by kernel_rfl) (fun _ _ _ h => h) (.val rfl (fun wz hwz => ?_)) ?_
  rotate_left
  · go_simp; try (with_reducible rfl)
  (simp only [Act.put]); (try simp only [List.setIfInBounds_toArray]); (try simp only [List.set_cons_succ]); (try simp only [List.set_cons_zero])
  refine WpH.doneB (by kernel_rfl) (fun w2 hw2 => ?_)
  (try simp only [List.drop_succ_cons]); (try simp only [List.drop_zero]); (try simp only [Nat.reduceSub]); (try simp only [List.take_succ_cons]); (try simp only [List.take_zero])
  replace hb00 := bl_call hb00 (Nat.le_refl _) hw2
  replace hx := hx.call hw2
  go_wp2_with fail
  go_ret
  exact ⟨ret_int (by have := HO.out; omega), hb00⟩

/-- how much one adds at most -/
def CK.most : CK → Nat
  | sum b => 2 ^ b - 1
  | vec b _ _ => 2 ^ b - 1
  | _ => 1

def RetU (n : Nat) (w : World) (e : Ending) (w' : World) : Prop := e = .returned (.int .u64 (n : Int)) ∧ Below w.heap.size w w'

theorem pow32 {b : Nat} (h : b ≤ 32) : 1 ≤ 2 ^ b ∧ 2 ^ b ≤ 4294967296 := ⟨Nat.one_le_two_pow, Nat.le_trans (Nat.pow_le_pow_right (by omega) h) (by decide)⟩

set_option maxHeartbeats 1000000 in
theorem circuit_Most (f : Nat) (y : CK) (hy : y.ok) (w : World) : Calls Try.prog 50 #[y.val f] w (RetU y.most w) := by
  cases y with
  | count =>
    rw [val_count]
    go_enter Try.func50, Try.ntmps50
    go_wp2
    go_ret
    exact ⟨rfl, by repeat (first | exact Below.refl _ _ | with_reducible assumption | (refine bl_alloc ?_ (Nat.le_refl _) _) | (refine bl_set ?_ (by dsimp only; omega) _) | (refine Below.drew ?_) | (refine bl_drewN ?_ _) | (refine bl_call ?_ (Nat.le_refl _) (by assumption)))⟩
  | sum b =>
    rw [val_sum, show CK.most (.sum b) = 2 ^ b - 1 from rfl]
    have hb := hy.2
    have hp2 := pow32 hb
    have hmx : max (b : Int) 0 = (b : Int) := by omega
    have hmn : min (b : Int) 63 = (b : Int) := by omega
    have hpow : (2 : Int) ^ b = ((2 ^ b : Nat) : Int) := (Int.natCast_pow 2 b).symm
    generalize 2 ^ b = p at *
    go_enter Try.func50, Try.ntmps50
    go_wp2
    go_ret
    exact ⟨ret_int (by omega), by repeat (first | exact Below.refl _ _ | with_reducible assumption | (refine bl_alloc ?_ (Nat.le_refl _) _) | (refine bl_set ?_ (by dsimp only; omega) _) | (refine Below.drew ?_) | (refine bl_drewN ?_ _) | (refine bl_call ?_ (Nat.le_refl _) (by assumption)))⟩
  | vec b l c =>
    rw [val_vec, show CK.most (.vec b l c) = 2 ^ b - 1 from rfl]
    have hb := hy.1.2
    have hp2 := pow32 hb
    have hmx : max (b : Int) 0 = (b : Int) := by omega
    have hmn : min (b : Int) 63 = (b : Int) := by omega
    have hpow : (2 : Int) ^ b = ((2 ^ b : Nat) : Int) := (Int.natCast_pow 2 b).symm
    generalize 2 ^ b = p at *
    go_enter Try.func50, Try.ntmps50
    go_wp2
    go_ret
    exact ⟨ret_int (by omega), by repeat (first | exact Below.refl _ _ | with_reducible assumption | (refine bl_alloc ?_ (Nat.le_refl _) _) | (refine bl_set ?_ (by dsimp only; omega) _) | (refine Below.drew ?_) | (refine bl_drewN ?_ _) | (refine bl_call ?_ (Nat.le_refl _) (by assumption)))⟩
  | hist l c =>
    rw [val_hist]
    go_enter Try.func50, Try.ntmps50
    go_wp2
    go_ret
    exact ⟨rfl, by repeat (first | exact Below.refl _ _ | with_reducible assumption | (refine bl_alloc ?_ (Nat.le_refl _) _) | (refine bl_set ?_ (by dsimp only; omega) _) | (refine Below.drew ?_) | (refine bl_drewN ?_ _) | (refine bl_call ?_ (Nat.le_refl _) (by assumption)))⟩
  | multi l m c =>
    rw [val_multi]
    go_enter Try.func50, Try.ntmps50
    go_wp2
    go_ret
    exact ⟨rfl, by repeat (first | exact Below.refl _ _ | with_reducible assumption | (refine bl_alloc ?_ (Nat.le_refl _) _) | (refine bl_set ?_ (by dsimp only; omega) _) | (refine Below.drew ?_) | (refine bl_drewN ?_ _) | (refine bl_call ?_ (Nat.le_refl _) (by assumption)))⟩

/-! ### the reference's circuit of a circuit -/
theorem load_rcir {w : World} {b : Nat} {p q r s t u : Value} (h : Vs w b [p, q, r, s, t, u]) : (loadVar 72 ⟨b, 0, none⟩).run Try.prog w = .ok (.agg #[p, q, r, s, t, u]) w := by
  obtain ⟨⟨c0, c1, c2, c3, c4, c5⟩, _⟩ := h.get6
  simp [loadVar, go_sem, c0, c1, c2, c3, c4, c5]
theorem results_rcir {fn : Func} {p : Tmp} {tmps : Array Value} {w : World} {b : Nat} {x0 x1 x2 x3 x4 x5 : Value} (hv : Vs w b [x0, x1, x2, x3, x4, x5]) (h : fn.results = #[.cell p 72]) (hp : tmps.getD p undef = .pointer (some ⟨b, 0, none⟩)) :
    (results fn tmps).run Try.prog w = .ok (.agg #[x0, x1, x2, x3, x4, x5]) w := by
  have hl := load_rcir hv
  rw [Array.getD_eq_getD_getElem?] at hp
  simp only [results, h]
  simp [asAddr, hp, hl]
theorem load_cir {w : World} {b : Nat} {p q r s t u : Value} (h : Vs w b [p, q, r, s, t, u]) : (loadVar 60 ⟨b, 0, none⟩).run Try.prog w = .ok (.agg #[p, q, r, s, t, u]) w := by
  obtain ⟨⟨c0, c1, c2, c3, c4, c5⟩, _⟩ := h.get6
  simp [loadVar, go_sem, c0, c1, c2, c3, c4, c5]
theorem results_cir {fn : Func} {p : Tmp} {tmps : Array Value} {w : World} {b : Nat} {x0 x1 x2 x3 x4 x5 : Value} (hv : Vs w b [x0, x1, x2, x3, x4, x5]) (h : fn.results = #[.cell p 60]) (hp : tmps.getD p undef = .pointer (some ⟨b, 0, none⟩)) :
    (results fn tmps).run Try.prog w = .ok (.agg #[x0, x1, x2, x3, x4, x5]) w := by
  have hl := load_cir hv
  rw [Array.getD_eq_getD_getElem?] at hp
  simp only [results, h]
  simp [asAddr, hp, hl]

set_option maxHeartbeats 1000000 in
theorem law10_Ref (k f b l m c : Int) (hk0 : 0 ≤ k) (hk1 : k ≤ 255) (hf0 : 0 ≤ f) (hf1 : f ≤ 255) (w : World) :
    Calls Try.prog 39 #[.agg #[.int .u8 k, .int .u8 f, .int .i64 b, .int .i64 l, .int .i64 m, .int .i64 c]] w fun e w' => e = .returned (.agg #[.int .i64 k, .int .i64 f, .int .i64 b, .int .i64 l, .int .i64 m, .int .i64 c]) ∧ Below w.heap.size w w' := by
  go_enter Try.func39, Try.ntmps39
  go_wp2
  refine bodyPost_ret (by simp [results, Try.results39, go_sem]) rfl ⟨rfl, by repeat (first | exact Below.refl _ _ | with_reducible assumption | (refine bl_alloc ?_ (Nat.le_refl _) _) | (refine bl_set ?_ (by dsimp only; omega) _) | (refine Below.drew ?_) | (refine bl_drewN ?_ _) | (refine bl_call ?_ (Nat.le_refl _) (by assumption)))⟩

end Go.Proofs.Ytiphahbeedeebaa
