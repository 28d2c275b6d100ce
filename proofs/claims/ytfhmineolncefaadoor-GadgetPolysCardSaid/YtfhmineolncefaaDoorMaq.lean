/-
  A LAW ON REGIONS THAT DRAW THEIR ORDER, of any program, in which what is known may turn (a call that writes what is captured): T is known from the first to the last, S is known now.
-/
/-
  WALK: ntt.run: sums over the powers of a root, by halves.
-/
/-
  WALKS: ntt.Values, ntt.Coefs, ntt.Points.
-/
import Derived.Test.YtfhmineolncefaaDoorMag
import Derived.Test.YtfhmineolncefaaDoorMap
namespace Go.Proofs.YtfhmineolncefaaDoor
open Go Go.RowKit

section
variable {P : Program} {ops : Array Oper} {Q : Exit → Act → World → Prop} {md : Region.Mode}

/-- the head in whatever order; then L -/
def wpX (P : Program) (md : Region.Mode) (ops : Array Oper) (Q : Exit → Act → World → Prop) (n m : Nat) (L : Act → World → Prop) : Nat → Array Bool → Act → (World → Prop) → (World → Prop) → Prop
  | 0, listed, a, _, S => Region.seqB md ops (m - n) n listed = true ∧ ∀ w, S w → L a w
  | f + 1, listed, a, T, S =>
    Region.ready md ops listed ≠ [] ∧
    ∀ i ∈ Region.ready md ops listed, i < n ∧ ∀ w, S w → wpOp P ops Q i (fun a' w' => ∃ T' S' : World → Prop, (∀ w, T' w → T w) ∧ (∀ w, S' w → T' w) ∧ Clo S' ∧ S' w' ∧ wpX P md ops Q n m L f (listed.setIfInBounds i true) a' T' S') a w

theorem wpAny_of_X {n m : Nat} {L : Act → World → Prop} (hL : ∀ listed a w, Region.seqB md ops (m - n) n listed = true → L a w → wpAny P md ops Q (m - n) listed a w) :
    ∀ (f : Nat) (listed : Array Bool) (a : Act) (T S : World → Prop), wpX P md ops Q n m L f listed a T S → ∀ w, S w → wpAny P md ops Q (f + (m - n)) listed a w
  | 0, listed, a, T, S, h, w, hS => by rw [Nat.zero_add]; exact hL _ _ _ h.1 (h.2 w hS)
  | f + 1, listed, a, T, S, h, w, hS => by
    rw [show f + 1 + (m - n) = (f + (m - n)) + 1 by omega]
    refine ⟨fun h0 => absurd h0 h.1, fun i hi => wpOp_mono (fun a' w' h' => ?_) ((h.2 i hi).2 w hS)⟩
    obtain ⟨T', S', _, _, _, hS', hG⟩ := h'
    exact wpAny_of_X hL f _ a' T' S' hG w' hS'

theorem wpX_first {n m : Nat} {L : Act → World → Prop} (hp : Parts md ops n m) {i : Nat} {oi : Oper} {v : Value} (hi : ops[i]? = some oi) (hin : i < n)
    (hQ : ∀ c a w, Q (.panic c) (a.put oi.dst v) w → Q (.panic c) a w) :
    ∀ (f : Nat) (listed : Array Bool) (a : Act) (T S : World → Prop), (∀ w, S w → T w) → Clo S → HInv md ops n m listed →
      (∀ j oj, ops[j]? = some oj → j ≠ i → listed.getD j true = false → (∀ e ∈ oj.after, Region.binds md e = true → e.on ≠ i) → oi.apart ops oj = true) →
      i ∈ Region.ready md ops listed → Det P ops T oi v a →
      wpX P md ops Q n m L f (listed.setIfInBounds i true) (a.put oi.dst v) T S → wpX P md ops Q n m L (f + 1) listed a T S := by
  have hsel := Region.noSelect_spec hp.nosel
  intro f
  induction f with
  | zero =>
    intro listed a T S hST hC inv _ hr hy H
    have hun := (mem_ready.1 hr).1
    refine ⟨fun h => (by rw [h] at hr; cases hr), fun j hj => ?_⟩
    have hjn : j < n := by
      rcases Nat.lt_or_ge j n with h | h
      · exact h
      · exact absurd hj (head_only hp inv _ i rfl hin hun j h)
    refine ⟨hjn, fun w hS => ?_⟩
    by_cases hji : j = i
    · subst hji
      exact hy.wpOp hi (hST _ hS) fun w' hb => ⟨T, S, fun _ h => h, hST, hC, hC _ _ hS hb, H⟩
    · have := seqB_ready H.1 j (ready_mono hj hji)
      omega
  | succ f ih =>
    intro listed a T S hST hC inv hfree hr hy H
    have hun := (mem_ready.1 hr).1
    refine ⟨fun h => (by rw [h] at hr; cases hr), fun j hj => ?_⟩
    have hjn : j < n := by
      rcases Nat.lt_or_ge j n with h | h
      · exact h
      · exact absurd hj (head_only hp inv _ i rfl hin hun j h)
    refine ⟨hjn, fun w hS => ?_⟩
    by_cases hji : j = i
    · subst hji
      exact hy.wpOp hi (hST _ hS) fun w' hb => ⟨T, S, fun _ h => h, hST, hC, hC _ _ hS hb, H⟩
    · have h1 := (H.2 j (ready_mono hj hji)).2 w hS
      obtain ⟨hjun, oj, hoj, hall⟩ := mem_ready.1 hj
      have hnot : ∀ e ∈ oj.after, Region.binds md e = true → e.on ≠ i := fun e he hb heq => by
        have h1 := hall e he hb
        rw [heq, getD_both hun] at h1
        cases h1
      have h2 := wpOp_putDet hoj (hfree j oj hoj hji hjun hnot) (fun cs b => hsel i oi cs b hi) (fun cs b => hsel j oj cs b hoj) hQ hy h1
      have hfree' : ∀ k ok, ops[k]? = some ok → k ≠ i → (listed.setIfInBounds j true).getD k true = false →
          (∀ e ∈ ok.after, Region.binds md e = true → e.on ≠ i) → oi.apart ops ok = true := fun k ok hk hki hu hno => by
        refine hfree k ok hk hki ?_ hno
        by_cases hjk : j = k
        · subst hjk
          exact hjun
        · rw [getD_set_ne true hjk] at hu
          exact hu
      refine wpOp_mono (fun a' w' h3 => ?_) h2
      have hcomm : (listed.setIfInBounds i true).setIfInBounds j true = (listed.setIfInBounds j true).setIfInBounds i true := (Array.setIfInBounds_comm _ _ hji).symm
      rw [hcomm] at h3
      obtain ⟨hd, T', S', hT', hST', hC', hS', hG⟩ := h3
      exact ⟨T', S', hT', hST', hC', hS', ih (listed.setIfInBounds j true) a' T' S' hST' hC' (inv.set hj hjn hp.lt) hfree' (ready_mono hr (Ne.symm hji)) (hd.weak hT') hG⟩

/-- the walk's own form -/
def WpX (P : Program) (md : Region.Mode) (ops : Array Oper) (Q : Exit → Act → World → Prop) (n m : Nat) (L : Act → World → Prop) (f : Nat) (listed : Array Bool) (a : Act) (T S : World → Prop) : Prop :=
  (∀ w, S w → T w) → Clo S → Parts md ops n m → HInv md ops n m listed → wpX P md ops Q n m L f listed a T S

variable {n m : Nat} {L : Act → World → Prop} {T S : World → Prop} {f : Nat} {listed : Array Bool} {a : Act}

/-- take number i first: one value in every world -/
theorem WpX.takeD (i : Nat) (d : Option Tmp) {oi : Oper} {v : Value} (hi : ops[i]? = some oi) (hd : oi.dst = d)
    (hB : (decide (i < n) && Region.free md ops listed i && (Region.ready md ops listed).contains i) = true)
    (hQ : ∀ c a w, Q (.panic c) (a.put d v) w → Q (.panic c) a w)
    (hy : Det P ops T oi v a)
    (h : WpX P md ops Q n m L f (listed.setIfInBounds i true) (a.put d v) T S) : WpX P md ops Q n m L (f + 1) listed a T S := by
  subst hd
  simp only [Bool.and_eq_true, decide_eq_true_eq] at hB
  obtain ⟨⟨hin, hf⟩, hr⟩ := hB
  have hr' : i ∈ Region.ready md ops listed := by simpa using hr
  exact fun hST hC hp inv => wpX_first hp hi hin hQ f listed a T S hST hC inv (Region.free_spec hi hf) hr' hy (h hST hC hp (inv.set hr' hin hp.lt))

/-- what an operation makes that turns what is known -/
def Turns (P : Program) (ops : Array Oper) (T S : World → Prop) {ι : Type} (F : ι → Value) (T' S' : ι → World → Prop) (o : Oper) (a : Act) : Prop :=
  Region.wanted o (yielded ops a.tmps) = true ∧ (∀ x w, T' x w → T w) ∧ (∀ x w, S' x w → T' x w) ∧ (∀ x, Clo (S' x)) ∧ ∀ w, S w → UponV P (fun v w' => ∃ x, v = F x ∧ S' x w') ((execOp a.eval o).run P w)

/-- a value, by itself -/
theorem Turns.val {ι : Type} {F : ι → Value} {T' S' : ι → World → Prop} {o : Oper} (hw : Region.wanted o (yielded ops a.tmps) = true) (hT : ∀ x w, T' x w → T w) (hST : ∀ x w, S' x w → T' x w) (hC : ∀ x, Clo (S' x))
    (h : ∀ w, S w → ∃ x w', (execOp a.eval o).run P w = .ok (.value (F x)) w' ∧ S' x w') : Turns P ops T S F T' S' o a :=
  ⟨hw, hT, hST, hC, fun w hS => by
    obtain ⟨x, w', hr, hS'⟩ := h w hS
    rw [hr]
    exact ⟨x, rfl, hS'⟩⟩
/-- a call -/
theorem Turns.call {ι : Type} {F : ι → Value} {T' S' : ι → World → Prop} {o : Oper} {g : FuncId} {args : Array Value} (hw : Region.wanted o (yielded ops a.tmps) = true) (hT : ∀ x w, T' x w → T w) (hST : ∀ x w, S' x w → T' x w) (hC : ∀ x, Clo (S' x))
    (hc : ∀ w, S w → Calls P g args w (fun e w' => ∃ x, e = .returned (F x) ∧ S' x w')) (h : ∀ w, S w → (execOp a.eval o).run P w = .ok (.enter g args) w) : Turns P ops T S F T' S' o a :=
  ⟨hw, hT, hST, hC, fun w hS => by
    rw [h w hS]
    exact Calls.mono (hc w hS) fun e w' ⟨x, he, hS'⟩ => ⟨F x, he, x, rfl, hS'⟩⟩

theorem Turns.wpOp {i : Nat} {oi : Oper} (hi : ops[i]? = some oi) {ι : Type} {F : ι → Value} {T' S' : ι → World → Prop} (hy : Turns P ops T S F T' S' oi a) {K : Act → World → Prop} {w : World} (hw : S w)
    (h : ∀ x w', S' x w' → K (a.put oi.dst (F x)) w') : wpOp P ops Q i K a w := by
  unfold Go.wpOp
  simp only [hi]
  simp only [hy.1, if_true]
  refine .inl ?_
  unfold Oper.wp
  refine (hy.2.2.2.2 w hw).upon ?_
  rintro u w' ⟨x, rfl, hR⟩
  exact h x w' hR

theorem WpX.oneD (i : Nat) (d : Option Tmp) {oi : Oper} (hi : ops[i]? = some oi) (hd : oi.dst = d) (hB : (decide (i < n) && decide (Region.ready md ops listed = [i])) = true)
    {ι : Type} (F : ι → Value) (T' S' : ι → World → Prop) (hy : Turns P ops T S F T' S' oi a)
    (h : ∀ x, WpX P md ops Q n m L f (listed.setIfInBounds i true) (a.put d (F x)) (T' x) (S' x)) : WpX P md ops Q n m L (f + 1) listed a T S := by
  subst hd
  simp only [Bool.and_eq_true, decide_eq_true_eq] at hB
  obtain ⟨hin, hr⟩ := hB
  intro hST hC hp inv
  refine ⟨by rw [hr]; simp, fun j hj => ?_⟩
  have hj' : j = i := by rw [hr] at hj; simpa using hj
  subst hj'
  refine ⟨hin, fun w hS => hy.wpOp hi hS fun x w' hS' => ?_⟩
  exact ⟨T' x, S' x, hy.2.1 x, hy.2.2.1 x, hy.2.2.2.1 x, hS', h x (hy.2.2.1 x) (hy.2.2.2.1 x) hp (inv.set hj hin hp.lt)⟩

theorem WpX.twoD (i k : Nat) (d d' : Option Tmp) {oi ok : Oper} (hi : ops[i]? = some oi) (hd : oi.dst = d) (hk : ops[k]? = some ok) (hd' : ok.dst = d') (hB : (decide (i < n) && decide (k < n) && decide (Region.ready md ops listed = [i, k])) = true)
    {ι κ : Type} (F : ι → Value) (T' S' : ι → World → Prop) (hy : Turns P ops T S F T' S' oi a)
    (G : κ → Value) (T'' S'' : κ → World → Prop) (hz : Turns P ops T S G T'' S'' ok a)
    (h : ∀ x, WpX P md ops Q n m L f (listed.setIfInBounds i true) (a.put d (F x)) (T' x) (S' x))
    (h' : ∀ x, WpX P md ops Q n m L f (listed.setIfInBounds k true) (a.put d' (G x)) (T'' x) (S'' x)) : WpX P md ops Q n m L (f + 1) listed a T S := by
  subst hd
  subst hd'
  simp only [Bool.and_eq_true, decide_eq_true_eq] at hB
  obtain ⟨⟨hin, hkn⟩, hr⟩ := hB
  intro hST hC hp inv
  refine ⟨by rw [hr]; simp, fun j hj => ?_⟩
  have hj' : j = i ∨ j = k := by rw [hr] at hj; simpa using hj
  rcases hj' with rfl | rfl
  · refine ⟨hin, fun w hS => hy.wpOp hi hS fun x w' hS' => ?_⟩
    exact ⟨T' x, S' x, hy.2.1 x, hy.2.2.1 x, hy.2.2.2.1 x, hS', h x (hy.2.2.1 x) (hy.2.2.2.1 x) hp (inv.set hj hin hp.lt)⟩
  · refine ⟨hkn, fun w hS => hz.wpOp hk hS fun x w' hS' => ?_⟩
    exact ⟨T'' x, S'' x, hz.2.1 x, hz.2.2.1 x, hz.2.2.2.1 x, hS', h' x (hz.2.2.1 x) (hz.2.2.2.1 x) hp (inv.set hj hkn hp.lt)⟩

/-- number i alone comes up: a store -/
theorem WpX.oneSkip (i : Nat) (d : Option Tmp) {oi : Oper} (hi : ops[i]? = some oi) (hd : oi.dst = d) (hB : (decide (i < n) && decide (Region.ready md ops listed = [i])) = true)
    (T' S' : World → Prop) (hT : ∀ w, T' w → T w) (hST : ∀ w, S' w → T' w) (hC' : Clo S') (hw : Region.wanted oi (yielded ops a.tmps) = true) (hop : ∀ w, S w → ∃ w', (execOp a.eval oi).run P w = .ok .skip w' ∧ S' w')
    (h : WpX P md ops Q n m L f (listed.setIfInBounds i true) (a.put d undef) T' S') : WpX P md ops Q n m L (f + 1) listed a T S := by
  subst hd
  simp only [Bool.and_eq_true, decide_eq_true_eq] at hB
  obtain ⟨hin, hr⟩ := hB
  intro hS0 hC hp inv
  refine ⟨by rw [hr]; simp, fun j hj => ?_⟩
  have hj' : j = i := by rw [hr] at hj; simpa using hj
  subst hj'
  refine ⟨hin, fun w hS => ?_⟩
  obtain ⟨w', hrun, hS'⟩ := hop w hS
  unfold Go.wpOp
  simp only [hi, hw, if_true]
  refine .inl ?_
  unfold Oper.wp
  rw [hrun]
  exact ⟨T', S', hT, hST, hC', hS', h hST hC' hp (inv.set hj hin hp.lt)⟩

/-- all of the head has come up -/
theorem WpX.done (hB : Region.seqB md ops (m - n) n listed = true) (h : ∀ w, S w → L a w) : WpX P md ops Q n m L 0 listed a T S := fun _ _ _ _ => ⟨hB, h⟩

theorem region_X {id n m f : Nat} {l : List Oper} {a : Act} {w : World} (T S : World → Prop) (hST : ∀ w, S w → T w) (hC : Clo S) (hS : S w.drew) (hm : P.follows .mixedOrders = true) (hB : partsB .any l.toArray n m (Array.replicate l.length false) = true) (hf : f + (m - n) = l.length)
    (h : WpX P .any l.toArray Q n m (wpList P l.toArray Q ((l.drop n).take (m - n))) f (Array.replicate l.length false) a T S) : (Code.region id l.toArray true).wp P Q a w := by
  refine wp_region_any hm ?_
  obtain ⟨hp, inv⟩ := parts_of hB
  have := wpAny_of_X (md := .any) (n := n) (m := m) (L := wpList P l.toArray Q ((l.drop n).take (m - n))) (fun listed' a' w' hq hl => ?_) f (Array.replicate l.length false) a T S (h hST hC hp inv) w.drew hS
  · rw [hf] at this
    simpa using this
  · have hlen : ((l.drop n).take (m - n)).length = m - n := by
      have := hp.le
      simp at this ⊢
      omega
    have := any_of_tail (P := P) (md := .any) (ops := l.toArray) (Q' := Q) ((l.drop n).take (m - n)) n listed' a' w' (fun j hj => ?_) (by rw [hlen]; exact hq) hl
    · rwa [hlen] at this
    · rw [hlen] at hj
      simp [hj]
end

end Go.Proofs.YtfhmineolncefaaDoor

namespace Go.Proofs.YtfhmineolncefaaDoor
open Go.RowKit Fm
set_option linter.unusedVariables false
set_option maxRecDepth 100000

section
variable {f : Nat}
/-- the list while the numbers are laid at their turned places -/
def laid (a : Nat → Fin (Pm f)) (L k q : Nat) : Fin (Pm f) := if rev L q < k then a (rev L q) else 0
theorem laid_zero (a : Nat → Fin (Pm f)) (L n : Nat) : ofF n (laid a L 0) = List.replicate n 0 :=
  List.ext_getElem (by rw [ofF_length, List.length_replicate]) fun i h1 h2 => by simp [ofF, laid]
theorem laid_set (a : Nat → Fin (Pm f)) (L k : Nat) (hL : L ≤ 10) (hk : k < 2 ^ L) : (ofF (2 ^ L) (laid a L k)).set (rev L k) (a k) = ofF (2 ^ L) (laid a L (k + 1)) := by
  refine ofF_set _ _ _ _ _ ?_ fun q hq hne => ?_
  · unfold laid
    rw [rev_rev L hL k hk, if_pos (by omega)]
  · unfold laid
    have h : rev L q ≠ k := fun e => hne (by rw [← e, rev_rev L hL q hq])
    by_cases h1 : rev L q < k
    · rw [if_pos h1, if_pos (by omega)]
    · rw [if_neg h1, if_neg (by omega)]
theorem laid_end (a : Nat → Fin (Pm f)) (r : Fin (Pm f)) (L : Nat) : ofF (2 ^ L) (laid a L (2 ^ L)) = ofF (2 ^ L) (stg a r 0 L) :=
  ofF_congr fun q hq => by
    unfold laid
    rw [if_pos (rev_lt L q), stg_zero]
end

section
variable {f : Nat}
/-- what is known within the round's region -/
structure RunT (w : World) (r x y : Fin (Pm f)) (xa ya gp : Nat) (P : KL f) (wz : World) : Prop where
  bl : Below w.heap.size w wz
  vr : V2 wz w.heap.size (.int .u64 (lo r)) (.int .u64 (hi r))
  vx : V2 wz xa (.int .u64 (lo x)) (.int .u64 (hi x))
  vy : V2 wz ya (.int .u64 (lo y)) (.int .u64 (hi y))
  rp : RwK wz gp P
structure RunS (w : World) (r x y : Fin (Pm f)) (xa ya gp : Nat) (P : KL f) (g : Nat) (l : KL f) (wz : World) : Prop where
  t : RunT w r x y xa ya gp P wz
  rw : RwK wz g l
theorem RunT.clo (w : World) (r x y : Fin (Pm f)) (xa ya gp : Nat) (P : KL f) : Clo (RunT w r x y xa ya gp P) := fun _ _ h hb => ⟨bl_call h.bl (Nat.le_refl _) hb, h.vr.call hb, h.vx.call hb, h.vy.call hb, h.rp.call hb⟩
theorem RunS.clo (w : World) (r x y : Fin (Pm f)) (xa ya gp : Nat) (P : KL f) (g : Nat) (l : KL f) : Clo (RunS w r x y xa ya gp P g l) := fun _ _ h hb => ⟨RunT.clo w r x y xa ya gp P _ _ h.t hb, h.rw.call hb⟩
theorem RunS.store {w wz : World} {r x y : Fin (Pm f)} {xa ya gp g : Nat} {P l : KL f} (h : RunS w r x y xa ya gp P g l wz) (q : Nat) (hq : q < l.length) (z : Fin (Pm f)) (hg : w.heap.size < g) (h1 : g ≠ xa) (h2 : g ≠ ya) (h3 : g ≠ gp) :
    RunS w r x y xa ya gp P g (l.set q z) ((wz.setCell ⟨g, q * 2, none⟩ (.int .u64 (lo z))).setCell ⟨g, q * 2 + 1, none⟩ (.int .u64 (hi z))) :=
  ⟨⟨bl_set (bl_set h.t.bl (by dsimp only; omega) _) (by dsimp only; omega) _, (h.t.vr.setOther (by dsimp only; omega) _).setOther (by dsimp only; omega) _, (h.t.vx.setOther h1 _).setOther h1 _, (h.t.vy.setOther h2 _).setOther h2 _, (h.t.rp.far h3 _).far h3 _⟩, h.rw.set q hq z⟩
end

section
variable {f : Nat} (hf : IsF f)
include hf

set_option maxHeartbeats 16000000 in
theorem ntt_run (L : Nat) (hL : L ≤ 10) (vl : Value) (l : KL f) (hl : l.length = 2 ^ L) (r : Fin (Pm f)) (hr : Rt r L) (w : World) (hs : SlK w w.heap.size vl l) :
    Calls Tryd.prog 61 #[.int .u8 f, vl, vK r, .int .i64 L] w (RetBlk (vals r (2 ^ L) l) w) := by
  have hfb0 : (1 : Int) ≤ (f : Int) := by rcases hf.or with rfl | rfl <;> omega
  have hfb1 : (f : Int) ≤ 2 := by rcases hf.or with rfl | rfl <;> omega
  have HMU := Lib.hid (fun x y wz => field_MulK hf x y wz)
  have HADD := Lib.hid (fun x y wz => field_AddK hf x y wz)
  have HSUB := Lib.hid (fun x y wz => field_SubK hf x y wz)
  have HPW := Lib.hid (fun x n hn wz => field_Powers hf x n hn wz)
  have HTU := Lib.hid (fun (i k : Nat) h1 h2 h3 wz => ntt_turned i k h1 h2 h3 wz)
  have hN0 : 0 < 2 ^ L := Nat.two_pow_pos L
  have hN1 : 2 ^ L ≤ 2 ^ 10 := Nat.pow_le_pow_right (by omega) hL
  have HEND := Lib.hid (laid_end (fun i => l.getD i 0) r L)
  have HVAL : Hid (ofF (2 ^ L) (stg (fun i => l.getD i 0) r L 0) = vals r (2 ^ L) l) := by
    show _ = _
    rw [vals_sm r L l (by omega)]
    exact ofF_congr fun q hq => stg_last _ _ _ _ hq
  have HLS := Lib.hid (fun k hk => laid_set (fun i => l.getD i 0) L k hL hk)
  have HLZ := Lib.hid (laid_zero (fun i => l.getD i 0) L (2 ^ L))
  have HRL := Lib.hid (fun k => rev_lt L k)
  have hmk := make_elem (2 ^ L) (by omega)
  obtain ⟨A, c, rfl, hc, hcm, hA⟩ := hs
  obtain ⟨b, o, rfl, hB, hrow⟩ := hA (by omega)
  have HAT : Hid (∀ k, k < 2 ^ L → ∃ x, l[k]? = some x ∧ l.getD k 0 = x) := fun k hk => ⟨_, List.getElem?_eq_getElem (by omega), Fm.getD_in (by omega)⟩
  rw [hl]
  have HRV := Lib.hid (show (vals r (2 ^ L) l).length = 2 ^ L from ofF_length ..)
  have HPN : Hid (∀ s, s < L → 2 ^ s ≤ 512 ∧ 2 ^ (L - (s + 1)) * 2 ^ (s + 1) = 2 ^ L ∧ 2 ^ (s + 1) = 2 * 2 ^ s ∧ 1 ≤ 2 ^ s) := fun s hs => by
    have h1 : 2 ^ s ≤ 2 ^ 9 := Nat.pow_le_pow_right (by omega) (by omega)
    exact ⟨by omega, by rw [← Nat.pow_add]; congr 1; omega, by rw [Nat.pow_succ, Nat.mul_comm], Nat.two_pow_pos s⟩
  obtain ⟨n, hn⟩ : ∃ n, 2 ^ L = n := ⟨_, rfl⟩
  have HN := Lib.hid hn
  have hrw0 := hrow
  have HRW := Lib.hid hrow
  clear hA hrw0 hrow
  rw [hl, hn] at hc
  rw [hn] at hmk hN0 hN1 HLZ ⊢
  clear hn hl
  go_enter Tryd.func61, Tryd.ntmps61
  go_upto_region 1 with fail
  have q0 := V2.new w (.int .u64 (lo r)) (.int .u64 (hi r)) 28
  have hb00 : Below w.heap.size w (w.alloc (.cells #[(.int .u64 (lo r)), (.int .u64 (hi r))] 28)) := by repeat (first | exact Below.refl _ _ | with_reducible assumption | (refine bl_alloc ?_ (Nat.le_refl _) _))
  have hsz : w.heap.size + 1 ≤ (w.alloc (.cells #[(.int .u64 (lo r)), (.int .u64 (hi r))] 28)).heap.size := by simp only [World.size_alloc]; omega
  generalize (w.alloc (.cells #[(.int .u64 (lo r)), (.int .u64 (hi r))] 28)) = w1 at q0 hb00 hsz ⊢
  go_upto_region 2 with fail
  obtain ⟨g, hg⟩ : ∃ z, w1.heap.size = z := ⟨_, rfl⟩
  have HB0 : RwK (w1.alloc (.cells (cellsE (List.replicate n (0, 0))).toArray 28)) g (ofF n (laid (fun i => l.getD i 0) L 0)) := by
    have h : BlkE (w1.alloc (.cells (cellsE (List.replicate n (0, 0))).toArray 28)) w1.heap.size (esK (List.replicate n (0 : Fin (Pm f)))) := by
      rw [show esK (List.replicate n (0 : Fin (Pm f))) = List.replicate n (0, 0) by unfold esK; rw [List.map_replicate, eK_zero]]
      exact heap_alloc_new w1 _
    have h2 := h.rw
    rw [hg] at h2
    have h3 := HLZ.out
    rw [← h3] at h2
    exact h2
  have hgw : w.heap.size + 1 ≤ g := by omega
  have hga : g < (w1.alloc (.cells (cellsE (List.replicate n (0, 0))).toArray 28)).heap.size := by rw [World.size_alloc]; omega
  replace q0 := q0.alloc (.cells (cellsE (List.replicate n (0, 0))).toArray 28)
  replace hb00 : Below w.heap.size w (w1.alloc (.cells (cellsE (List.replicate n (0, 0))).toArray 28)) := by repeat (first | exact Below.refl _ _ | with_reducible assumption | (refine bl_alloc ?_ (Nat.le_refl _) _) | (refine bl_set ?_ (by dsimp only; omega) _) | (refine Below.drew ?_) | (refine bl_drewN ?_ _) | (refine bl_call ?_ (Nat.le_refl _) (by assumption)))
  simp only [hg]
  generalize w1.alloc (.cells (cellsE (List.replicate n (0, 0))).toArray 28) = w2 at HB0 hga q0 hb00 ⊢
  clear hmk HLZ hg hsz
  go_wp2_with fail
  go_loopw [27] (fun i wr => ∃ k : Nat, k ≤ n ∧ i = .int .i64 k ∧ RwK wr g (ofF n (laid (fun i => l.getD i 0) L k)) ∧ V2 wr w.heap.size (.int .u64 (lo r)) (.int .u64 (hi r)) ∧ Below w.heap.size w wr ∧ g < wr.heap.size) (fun i _ => n - (intOf i).toNat)
  case atStart => exact ⟨0, Nat.zero_le _, rfl, HB0, q0, hb00, hga⟩
  case round =>
    clear HB0 q0 hb00 hga
    obtain ⟨k, hk, rfl, HR, q0, hb00, hga⟩ := hrel
    by_cases hlt : k < n
    · obtain ⟨x, hx, hxd⟩ := HAT.out k (by rw [HN.out]; exact hlt)
      obtain ⟨c0, c1⟩ := ((HRW.out).below hb00 hB).kat hx
      have HX := Lib.hid hxd
      have HBL : Hid (b < wr.heap.size) := Nat.lt_of_lt_of_le hB hb00.size
      clear hx hxd
      have HSET : Hid ((ofF n (laid (fun i => l.getD i 0) L k)).set (rev L k) x = ofF n (laid (fun i => l.getD i 0) L (k + 1))) := by
        show _ = _
        have h := HLS.out k (by rw [HN.out]; exact hlt)
        rwa [HN.out, HX.out] at h
      have hqn : rev L k < n := by have := HRL.out k; rwa [HN.out] at this
      have HT : Hid (L = 0 ∨ ∀ wz, Calls Tryd.prog 83 #[.int .i64 k, .int .i64 L] wz (RetI (rev L k) wz)) := by
        rcases Nat.eq_zero_or_pos L with h | h
        · exact .inl h
        · exact .inr fun wz => HTU.out k L hL h (by rw [HN.out]; exact hlt) wz
      have HZ0 : Hid (L = 0 → rev L k = 0) := fun h => by rw [h]; rfl
      generalize rev L k = q at *
      go_upto_region 5 with fail
      have x0 := V2.new wr (.int .u64 (lo x)) (.int .u64 (hi x)) 28
      have hbA : Below wr.heap.size wr (wr.alloc (.cells #[.int .u64 (lo x), .int .u64 (hi x)] 28)) := by repeat (first | exact Below.refl _ _ | with_reducible assumption | (refine bl_alloc ?_ (Nat.le_refl _) _))
      replace hb00 := bl_call hb00 (Nat.le_refl _) hbA
      replace q0 := q0.call hbA
      replace HR := HR.call hbA
      clear hbA
      generalize wr.alloc (.cells #[.int .u64 (lo x), .int .u64 (hi x)] 28) = w3 at hb00 q0 HR x0 ⊢
      obtain ⟨xb, hxb⟩ : ∃ z, wr.heap.size = z := ⟨_, rfl⟩
      rw [hxb] at x0
      simp only [hxb]
      have hxg : g < xb := by omega
      clear hxb c0 c1 HBL hga
      rcases Nat.eq_zero_or_pos L with hL0 | hL0
      · obtain rfl : q = 0 := HZ0.out hL0
        have t1 : ¬ (0 < L) := by omega
        have t2 : decide (0 < L) = false := by simpa using t1
        clear HT HZ0 HTU HRL HLS HEND HVAL hL0
        obtain ⟨c0, c1⟩ := HR.at (i := 0) (x := (ofF n (laid (fun i => l.getD i 0) L k)).getD 0 0) (by rw [Fm.getD_in (by rw [ofF_length]; exact hqn)]; exact List.getElem?_eq_getElem _)
        obtain ⟨c2, c3⟩ := HR.frz (i := 0) (by rw [ofF_length]; exact hqn)
        have hgl := HR.lt
        obtain ⟨x00, x01, x02, x03, x04⟩ := V2.mk x0.c0 x0.c1 x0.f0 x0.f1 x0.lt
        go_wp2_with fail
        go_roundw
        case rel => 
          have h := HR.set 0 (by rw [ofF_length]; exact hqn) x
          rw [HSET.out] at h
          exact ⟨k + 1, by omega, by go_num, h, V2.setOther (V2.setOther q0 (by dsimp only; omega) _) (by dsimp only; omega) _, by repeat (first | exact Below.refl _ _ | with_reducible assumption | (refine bl_alloc ?_ (Nat.le_refl _) _) | (refine bl_set ?_ (by dsimp only; omega) _) | (refine Below.drew ?_) | (refine bl_drewN ?_ _) | (refine bl_call ?_ (Nat.le_refl _) (by assumption))), by have := HR.lt; simpa [World.setCell] using this⟩
        case measure => simp [intOf]; omega
      · have hT : ∀ wz, Calls Tryd.prog 83 #[.int .i64 k, .int .i64 L] wz (RetI q wz) := HT.out.resolve_left (by omega)
        have HT2 := Lib.hid hT
        clear HT hT HZ0 HTU
        go_wp2_with fail
        refine (HT2.out _).mono ?_
        rintro e w5 ⟨rfl, hb5⟩
        replace hb00 := bl_call hb00 (Nat.le_refl _) hb5
        replace q0 := q0.call hb5
        replace HR := HR.call hb5
        replace x0 := x0.call hb5
        obtain ⟨c0, c1⟩ := HR.at (i := q) (x := (ofF n (laid (fun i => l.getD i 0) L k)).getD q 0) (by rw [Fm.getD_in (by rw [ofF_length]; exact hqn)]; exact List.getElem?_eq_getElem _)
        obtain ⟨c2, c3⟩ := HR.frz (i := q) (by rw [ofF_length]; exact hqn)
        have hgl := HR.lt
        obtain ⟨x00, x01, x02, x03, x04⟩ := V2.mk x0.c0 x0.c1 x0.f0 x0.f1 x0.lt
        go_wp2_with fail
        go_roundw
        case rel => 
          have h := HR.set q (by rw [ofF_length]; exact hqn) x
          rw [HSET.out] at h
          exact ⟨k + 1, by omega, by go_num, h, V2.setOther (V2.setOther q0 (by dsimp only; omega) _) (by dsimp only; omega) _, by repeat (first | exact Below.refl _ _ | with_reducible assumption | (refine bl_alloc ?_ (Nat.le_refl _) _) | (refine bl_set ?_ (by dsimp only; omega) _) | (refine Below.drew ?_) | (refine bl_drewN ?_ _) | (refine bl_call ?_ (Nat.le_refl _) (by assumption))), by have := HR.lt; simpa [World.setCell] using this⟩
        case measure => simp [intOf]; omega
    · obtain rfl : k = n := by omega
      have h0 := HEND.out
      rw [HN.out] at h0
      rw [h0] at HR
      clear h0 HEND HLS HAT HRW HTU HRL hk hlt hc hcm
      have HM1 : Hid (∀ s t B i (x y p : Fin (Pm f)) q1 q2, s + 1 + t = L → i < 2 ^ s → q1 = B * (2 * 2 ^ s) + i → q2 = q1 + 2 ^ s → x = stg (fun i => l.getD i 0) r s (t + 1) q1 → y = stg (fun i => l.getD i 0) r s (t + 1) q2 → p = Fm.kpow (Fm.kpow r (2 ^ t)) i →
          ((ofF k (mid (fun i => l.getD i 0) r s t B i)).set q1 (x + y * p)).set q2 (x - y * p) = ofF k (mid (fun i => l.getD i 0) r s t B (i + 1))) := by
        intro s t B i x y p q1 q2 hst hi hq1 hq2 hx hy hp
        have hpw : 2 * 2 ^ s = 2 ^ (s + 1) := by rw [Nat.pow_succ, Nat.mul_comm]
        rw [hpw] at hq1
        subst hq2 hq1
        have h := mid_set (fun i => l.getD i 0) r s t B i hi (by rw [hst]; exact hr) x (y * p) hx (by rw [hy, hp])
        rwa [hst, HN.out] at h
      have HM2 : Hid (∀ s t B i q, i < 2 ^ s → (q = B * (2 * 2 ^ s) + i ∨ q = B * (2 * 2 ^ s) + i + 2 ^ s) → mid (fun i => l.getD i 0) r s t B i q = stg (fun i => l.getD i 0) r s (t + 1) q) := by
        intro s t B i q hi hq
        have hpw : 2 * 2 ^ s = 2 ^ (s + 1) := by rw [Nat.pow_succ, Nat.mul_comm]
        rw [hpw] at hq
        exact (mid_at (fun i => l.getD i 0) r s t B i q hi hq).1
      have HM3 : Hid (∀ s t, s + 1 + t = L → ofF k (mid (fun i => l.getD i 0) r s t 0 0) = ofF k (stg (fun i => l.getD i 0) r s (t + 1))) := fun s t _ => ofF_congr fun q _ => Fm.mid_start ..
      have HM4 : Hid (∀ s t B, ofF k (mid (fun i => l.getD i 0) r s t B (2 ^ s)) = ofF k (mid (fun i => l.getD i 0) r s t (B + 1) 0)) := fun s t B => ofF_congr fun q _ => Fm.mid_next ..
      have HM5 : Hid (∀ s t, s + 1 + t = L → ofF k (mid (fun i => l.getD i 0) r s t (2 ^ t) 0) = ofF k (stg (fun i => l.getD i 0) r (s + 1) t)) := fun s t h => ofF_congr fun q hq => Fm.mid_end _ _ _ _ _ (by rw [h, HN.out]; exact hq)
      generalize (fun i => l.getD i 0) = a at *
      go_wp2_with fail
      go_loopw [13] (fun sv wr => ∃ s : Nat, s ≤ L ∧ sv = .int .i64 ((s : Int) + 1) ∧ RwK wr g (ofF k (stg a r s (L - s))) ∧ V2 wr w.heap.size (.int .u64 (lo r)) (.int .u64 (hi r)) ∧ Below w.heap.size w wr ∧ g < wr.heap.size) (fun sv _ => L + 1 - (intOf sv).toNat)
      case atStart => exact ⟨0, Nat.zero_le _, rfl, HR, q0, hb00, hga⟩
      case round =>
        clear HR q0 hb00 hga
        obtain ⟨s, hs, rfl, HR, q0, hb00, hga⟩ := hrel
        by_cases hlt : s < L
        · obtain ⟨hp1, hp2, hp3, hp4⟩ := HPN.out s hlt
          obtain ⟨t, ht⟩ : ∃ t, L - (s + 1) = t := ⟨_, rfl⟩
          have HST : Hid (s + 1 + t = L) := by show _ = _; omega
          rw [show L - s = t + 1 by omega] at HR
          have hsub : (L : Int) - ((s : Int) + 1) = (t : Int) := by omega
          have hs64 : (s : Int) < 64 := by omega
          have t1 : s + 1 ≤ L := by omega
          have t2 : decide ((s : Int) + 1 ≤ (L : Int)) = true := by simp; omega
          rw [ht] at hp2
          rw [HN.out, hp3] at hp2
          have HM1s := Lib.hid (fun B i x y p q1 q2 => HM1.out s t B i x y p q1 q2 HST.out)
          have HM2s := Lib.hid (fun B i q => HM2.out s t B i q)
          have HM3s := Lib.hid (HM3.out s t HST.out)
          have HM4s := Lib.hid (fun B => HM4.out s t B)
          have HM5s := Lib.hid (HM5.out s t HST.out)
          have hpi : (2 : Int) ^ s = ((2 ^ s : Nat) : Int) := by rw [Int.natCast_pow]; rfl
          clear hp3 ht
          rw [← HM3s.out] at HR
          obtain ⟨h, hh⟩ : ∃ h, 2 ^ s = h := ⟨_, rfl⟩
          obtain ⟨m, hm⟩ : ∃ m, 2 ^ t = m := ⟨_, rfl⟩
          rw [hh] at hp1 hp2 hp4 HM1s HM2s HM4s hpi
          rw [hm] at hp2 HM1s HM5s
          have HM := Lib.hid hm
          have HP2 := Lib.hid hp2
          have hh1 : (1 : Int) ≤ (h : Int) := by omega
          have hh2 : (h : Int) ≤ 512 := by omega
          clear HM1 HM2 HM3 HM4 HM5 hm hp2 hh
          obtain ⟨q00, q01, q02, q03, q04⟩ := V2.mk q0.c0 q0.c1 q0.f0 q0.f1 q0.lt
          go_upto_region 15 with fail
          clear q00 q01 q02 q03 q04
          have z0 := V2.new wr (.int .u64 (lo r)) (.int .u64 (hi r)) 28
          have hbA : Below wr.heap.size wr (wr.alloc (.cells #[.int .u64 (lo r), .int .u64 (hi r)] 28)) := by repeat (first | exact Below.refl _ _ | with_reducible assumption | (refine bl_alloc ?_ (Nat.le_refl _) _))
          replace hb00 := bl_call hb00 (Nat.le_refl _) hbA
          replace q0 := q0.call hbA
          replace HR := HR.call hbA
          clear hbA
          generalize wr.alloc (.cells #[.int .u64 (lo r), .int .u64 (hi r)] 28) = w3 at hb00 q0 HR z0 ⊢
          obtain ⟨zb, hzb⟩ : ∃ z, wr.heap.size = z := ⟨_, rfl⟩
          rw [hzb] at z0
          simp only [hzb]
          have hzg : g < zb := by omega
          have hga3 : zb < w3.heap.size := z0.lt
          clear hzb hga
          go_wp2_with fail
          go_loopw [54] (fun jv wi => ∃ (j : Nat) (z : Fin (Pm f)), j ≤ t ∧ jv = .int .i64 j ∧ Hid (z = Fm.kpow r (2 ^ j)) ∧ V2 wi zb (.int .u64 (lo z)) (.int .u64 (hi z)) ∧ RwK wi g (ofF k (mid a r s t 0 0)) ∧ V2 wi w.heap.size (.int .u64 (lo r)) (.int .u64 (hi r)) ∧ Below w.heap.size w wi) (fun jv _ => t - (intOf jv).toNat)
          case atStart => exact ⟨0, r, Nat.zero_le _, rfl, (by show _ = _; rw [Nat.pow_zero, Fm.kpow_one]), z0, HR, q0, hb00⟩
          case round =>
            clear HR q0 hb00 z0 hga3
            obtain ⟨j, z, hj, rfl, hz, z0, HR, q0, hb00⟩ := hrel
            by_cases hjt : j < t
            · have HZ : Hid (z * z = Fm.kpow r (2 ^ (j + 1))) := by show _ = _; rw [hz.out, ← Fm.kpow_add, Nat.pow_succ, Nat.mul_two]
              obtain ⟨z00, z01, z02, z03, z04⟩ := V2.mk z0.c0 z0.c1 z0.f0 z0.f1 z0.lt
              go_upto_region 18 with (first
                | (go_at_call 31; refine (HMU.out _ _ _).mono ?_; rintro e w5 ⟨rfl, hb5⟩; replace hb00 := bl_call hb00 (Nat.le_refl _) hb5; replace q0 := q0.call hb5; replace HR := HR.call hb5; replace z0 := z0.call hb5; clear z00 z01 z02 z03 z04; clear hb5; obtain ⟨z00, z01, z02, z03, z04⟩ := V2.mk z0.c0 z0.c1 z0.f0 z0.f1 z0.lt))
              clear z00 z01 z02 z03 z04
              go_wp2_with fail
              go_roundw
              case rel => exact ⟨j + 1, _, by omega, by go_num, HZ, V2.set z0 _ _, (HR.far (by dsimp only; omega) _).far (by dsimp only; omega) _, V2.oth q0 (b := zb) (by omega) _ _, bl_st hb00 (by omega) _ _⟩
              case measure => simp [intOf]; omega
            · obtain rfl : j = t := by omega
              obtain ⟨z00, z01, z02, z03, z04⟩ := V2.mk z0.c0 z0.c1 z0.f0 z0.f1 z0.lt
              go_wp2_with fail
              clear z0 hjt hj
              have HW := Lib.hid hz.out
              clear hz
              refine (HPW.out z h (by omega) _).mono ?_
              rintro e w5 ⟨vp, rfl, hown, hb5⟩
              rcases own_cases hown with ⟨_, h0⟩ | ⟨gp, cp, rfl, HP, hgp, hcp, hcpm⟩
              · have h1 := congrArg List.length h0
                rw [pows_length] at h1
                simp at h1
                omega
              have hgp2 : g < gp := Nat.lt_of_lt_of_le HR.lt hgp
              have hgw2 : w.heap.size < gp := by omega
              rw [pows_length] at hcp ⊢
              clear z00 z01 z02 z03 z04
              replace hb00 := bl_call hb00 (Nat.le_refl _) hb5
              replace q0 := q0.call hb5
              replace HR := HR.call hb5
              clear hown hb5 hgp
              have HPA : Hid (∀ i, i < h → (pows z h)[i]? = some (Fm.kpow z i)) := fun i hi => by
                have h2 := List.getElem?_eq_getElem (l := pows z h) (i := i) (by rw [pows_length]; exact hi)
                rw [h2, ← Fm.getD_in]
                unfold pows
                rw [ofF_getD, if_pos hi]
              go_wp2_with fail
              go_loopw [17] (fun av wi => ∃ B : Nat, B ≤ m ∧ av = .int .i64 ((B * (2 * h) : Nat) : Int) ∧ RwK wi g (ofF k (mid a r s j B 0)) ∧ RwK wi gp (pows z h) ∧ V2 wi w.heap.size (.int .u64 (lo r)) (.int .u64 (hi r)) ∧ Below w.heap.size w wi) (fun av _ => k - (intOf av).toNat)
              case atStart => exact ⟨0, Nat.zero_le _, by rw [Nat.zero_mul]; rfl, HR, HP, q0, hb00⟩
              case round =>
                clear HR HP q0 hb00
                obtain ⟨B, hB', rfl, HR, HP, q0, hb00⟩ := hrel
                by_cases hBm : B < m
                · have hAk : B * (2 * h) + 2 * h ≤ k := by
                    have := Nat.mul_le_mul_right (2 * h) hBm
                    rw [Nat.succ_mul, HP2.out] at this
                    exact this
                  have HBS : Hid ((B + 1) * (2 * h) = B * (2 * h) + 2 * h) := Nat.succ_mul _ _
                  have HM1b := Lib.hid (fun i x y p q1 q2 => HM1s.out B i x y p q1 q2)
                  have HM2b := Lib.hid (fun i q => HM2s.out B i q)
                  obtain ⟨A0, hA0⟩ : ∃ A0, B * (2 * h) = A0 := ⟨_, rfl⟩
                  rw [hA0] at hAk HBS HM1b HM2b ⊢
                  have HA0 := Lib.hid hA0
                  clear hA0
                  have t5 : A0 < k := by omega
                  go_wp2_with fail
                  go_loopw [75] (fun iv wj => ∃ i : Nat, i ≤ h ∧ iv = .int .i64 i ∧ RwK wj g (ofF k (mid a r s j B i)) ∧ RwK wj gp (pows z h) ∧ V2 wj w.heap.size (.int .u64 (lo r)) (.int .u64 (hi r)) ∧ Below w.heap.size w wj) (fun iv _ => h - (intOf iv).toNat)
                  case atStart => exact ⟨0, Nat.zero_le _, rfl, HR, HP, q0, hb00⟩
                  case round =>
                    clear HR HP q0 hb00
                    obtain ⟨i, hib, rfl, HR, HP, q0, hb00⟩ := hrel
                    by_cases hih : i < h
                    · obtain ⟨c0, c1⟩ := HP.at (HPA.out i hih)
                      obtain ⟨p, hp⟩ : ∃ p, Fm.kpow z i = p := ⟨_, rfl⟩
                      rw [hp] at c0 c1
                      obtain ⟨q1, hq1⟩ : ∃ q, A0 + i = q := ⟨_, rfl⟩
                      obtain ⟨q2, hq2⟩ : ∃ q, q1 + h = q := ⟨_, rfl⟩
                      have hq1k : q1 < k := by omega
                      have hq2k : q2 < k := by omega
                      obtain ⟨x, hx⟩ : ∃ x, (ofF k (mid a r s j B i))[q1]? = some x := ⟨_, List.getElem?_eq_getElem (by rw [ofF_length]; exact hq1k)⟩
                      obtain ⟨y, hy⟩ : ∃ y, (ofF k (mid a r s j B i))[q2]? = some y := ⟨_, List.getElem?_eq_getElem (by rw [ofF_length]; exact hq2k)⟩
                      have hxs : x = stg a r s (j + 1) q1 := by
                        rw [← HM2b.out i q1 hih (.inl hq1.symm), ← Option.some.injEq, ← hx]
                        simp [ofF, hq1k]
                      have hys : y = stg a r s (j + 1) q2 := by
                        rw [← HM2b.out i q2 hih (.inr (by omega)), ← Option.some.injEq, ← hy]
                        simp [ofF, hq2k]
                      have HSET := Lib.hid (HM1b.out i x y p q1 q2 hih hq1.symm hq2.symm hxs hys (by rw [← hp, HW.out, ← HM.out]))
                      have HX := Lib.hid hx
                      have HY := Lib.hid hy
                      have HQ1 := Lib.hid hq1
                      have HQ2 := Lib.hid hq2
                      have v1 : IntKind.i64.wrap ((A0 : Int) + (i : Int)) = (q1 : Int) := by rw [IntWalk.i64_in _ (by omega)]; omega
                      have v2 : IntKind.i64.wrap ((q1 : Int) + (h : Int)) = (q2 : Int) := by rw [IntWalk.i64_in _ (by omega)]; omega
                      clear hxs hys hx hy hp hq1 hq2
                      go_upto_region 26 with fail
                      have hpg : gp < wr.heap.size := HP.lt
                      have p0 := V2.new wr (.int .u64 (lo p)) (.int .u64 (hi p)) 28
                      have hbA : Below wr.heap.size wr (wr.alloc (.cells #[.int .u64 (lo p), .int .u64 (hi p)] 28)) := by repeat (first | exact Below.refl _ _ | with_reducible assumption | (refine bl_alloc ?_ (Nat.le_refl _) _))
                      replace hb00 := bl_call hb00 (Nat.le_refl _) hbA
                      replace q0 := q0.call hbA
                      replace HR := HR.call hbA
                      replace HP := HP.call hbA
                      clear hbA
                      generalize wr.alloc (.cells #[.int .u64 (lo p), .int .u64 (hi p)] 28) = w5 at hb00 q0 HR HP p0 ⊢
                      obtain ⟨pb, hpb⟩ : ∃ z, wr.heap.size = z := ⟨_, rfl⟩
                      rw [hpb] at p0 hpg
                      simp only [hpb]
                      clear hpb c0 c1
                      obtain ⟨c0, c1⟩ := HR.at HX.out
                      obtain ⟨d0, d1⟩ := HR.at HY.out
                      have g1 : (0 : Int) ≤ (q1 : Int) := by omega
                      have g2 : (q1 : Int) < (k : Int) := by omega
                      have g3 : (0 : Int) ≤ (q2 : Int) := by omega
                      have g4 : (q2 : Int) < (k : Int) := by omega
                      have g5 := HR.lt
                      obtain ⟨p00, p01, p02, p03, p04⟩ := V2.mk p0.c0 p0.c1 p0.f0 p0.f1 p0.lt
                      apply region_G2 (n := 19) (m := 21) (f := 19) ((fun xa ya wz => Below w5.heap.size w5 wz ∧ (w5.heap.size ≤ xa ∧ V2 wz xa (.int .u64 0) (.int .u64 0)) ∧ (w5.heap.size ≤ ya ∧ V2 wz ya (.int .u64 0) (.int .u64 0)) ∧ xa ≠ ya))
                      case hm => kernel_rfl
                      case hB => kernel_rfl
                      case hf => rfl
                      case' h =>
                        refine WpG.takeD 0 (some 80) (v := ?_) rfl rfl (by kernel_rfl) (fun _ _ _ h => h) (.val rfl (fun wz hwz => ?_)) ?_
                        rotate_left
                        · go_simp; try (with_reducible rfl)
                        (simp only [Act.put]); (try simp only [List.setIfInBounds_toArray]); (try simp only [List.set_cons_succ]); (try simp only [List.set_cons_zero])
                        refine WpG.takeD 1 (some 81) (v := ?_) rfl rfl (by kernel_rfl) (fun _ _ _ h => h) (.val rfl (fun wz hwz => ?_)) ?_
                        rotate_left
                        · go_simp; try (with_reducible rfl)
                        (simp only [Act.put]); (try simp only [List.setIfInBounds_toArray]); (try simp only [List.set_cons_succ]); (try simp only [List.set_cons_zero])
                        refine WpG.takeD 2 (some 82) (v := ?_) rfl rfl (by kernel_rfl) (fun _ _ _ h => h) (.val rfl (fun wz hwz => ?_)) ?_
                        rotate_left
                        · go_simp; try (with_reducible rfl)
                        (simp only [Act.put]); (try simp only [List.setIfInBounds_toArray]); (try simp only [List.set_cons_succ]); (try simp only [List.set_cons_zero])
                        refine WpG.takeD 3 (some 83) (v := ?_) rfl rfl (by kernel_rfl) (fun _ _ _ h => h) (.val rfl (fun wz hwz => ?_)) ?_
                        rotate_left
                        · go_simp; try (with_reducible rfl)
                        (simp only [Act.put]); (try simp only [List.setIfInBounds_toArray]); (try simp only [List.set_cons_succ]); (try simp only [List.set_cons_zero])
                        refine WpG.takeD 4 (some 84) (v := ?_) rfl rfl (by kernel_rfl) (fun _ _ _ h => h) (.val rfl (fun wz hwz => ?_)) ?_
                        rotate_left
                        · go_simp; try (with_reducible rfl)
                        (simp only [Act.put]); (try simp only [List.setIfInBounds_toArray]); (try simp only [List.set_cons_succ]); (try simp only [List.set_cons_zero])
                        refine WpG.takeD 5 (some 85) (v := ?_) rfl rfl (by kernel_rfl) (fun _ _ _ h => h) (.val rfl (fun wz hwz => ?_)) ?_
                        rotate_left
                        · (obtain ⟨hcz, hfz⟩ := bcell (hwz); go_simp; try (with_reducible rfl))
                        (simp only [Act.put]); (try simp only [List.setIfInBounds_toArray]); (try simp only [List.set_cons_succ]); (try simp only [List.set_cons_zero])
                        refine WpG.takeD 6 (some 86) (v := ?_) rfl rfl (by kernel_rfl) (fun _ _ _ h => h) (.val rfl (fun wz hwz => ?_)) ?_
                        rotate_left
                        · go_simp; try (with_reducible rfl)
                        (simp only [Act.put]); (try simp only [List.setIfInBounds_toArray]); (try simp only [List.set_cons_succ]); (try simp only [List.set_cons_zero])
                        refine WpG.takeD 7 (some 87) (v := ?_) rfl rfl (by kernel_rfl) (fun _ _ _ h => h) (.val rfl (fun wz hwz => ?_)) ?_
                        rotate_left
                        · go_simp; try (with_reducible rfl)
                        (simp only [Act.put]); (try simp only [List.setIfInBounds_toArray]); (try simp only [List.set_cons_succ]); (try simp only [List.set_cons_zero])
                        refine WpG.takeD 8 (some 88) (v := ?_) rfl rfl (by kernel_rfl) (fun _ _ _ h => h) (.val rfl (fun wz hwz => ?_)) ?_
                        rotate_left
                        · go_simp; try (with_reducible rfl)
                        (simp only [Act.put]); (try simp only [List.setIfInBounds_toArray]); (try simp only [List.set_cons_succ]); (try simp only [List.set_cons_zero])
                        refine WpG.takeD 9 (some 89) (v := ?_) rfl rfl (by kernel_rfl) (fun _ _ _ h => h) (.val rfl (fun wz hwz => ?_)) ?_
                        rotate_left
                        · go_simp; try (with_reducible rfl)
                        (simp only [Act.put]); (try simp only [List.setIfInBounds_toArray]); (try simp only [List.set_cons_succ]); (try simp only [List.set_cons_zero])
                        refine WpG.takeD 10 (some 90) (v := ?_) rfl rfl (by kernel_rfl) (fun _ _ _ h => h) (.val rfl (fun wz hwz => ?_)) ?_
                        rotate_left
                        · go_simp; try (with_reducible rfl)
                        (simp only [Act.put]); (try simp only [List.setIfInBounds_toArray]); (try simp only [List.set_cons_succ]); (try simp only [List.set_cons_zero])
                        refine WpG.takeD 11 (some 91) (v := ?_) rfl rfl (by kernel_rfl) (fun _ _ _ h => h) (.val rfl (fun wz hwz => ?_)) ?_
                        rotate_left
                        · go_simp; try (with_reducible rfl)
                        (simp only [Act.put]); (try simp only [List.setIfInBounds_toArray]); (try simp only [List.set_cons_succ]); (try simp only [List.set_cons_zero])
                        refine WpG.takeD 12 (some 92) (v := ?_) rfl rfl (by kernel_rfl) (fun _ _ _ h => h) (.val rfl (fun wz hwz => ?_)) ?_
                        rotate_left
                        · go_simp; try (with_reducible rfl)
                        (simp only [Act.put]); (try simp only [List.setIfInBounds_toArray]); (try simp only [List.set_cons_succ]); (try simp only [List.set_cons_zero])
                        refine WpG.takeD 13 (some 93) (v := ?_) rfl rfl (by kernel_rfl) (fun _ _ _ h => h) (.val rfl (fun wz hwz => ?_)) ?_
                        rotate_left
                        · go_simp; try (with_reducible rfl)
                        (simp only [Act.put]); (try simp only [List.setIfInBounds_toArray]); (try simp only [List.set_cons_succ]); (try simp only [List.set_cons_zero])
                        refine WpG.takeD 14 (some 94) (v := ?_) rfl rfl (by kernel_rfl) (fun _ _ _ h => h) (.val rfl (fun wz hwz => ?_)) ?_
                        rotate_left
                        · (obtain ⟨hcz, hfz⟩ := bcell (hwz); go_simp; try (with_reducible rfl))
                        (simp only [Act.put]); (try simp only [List.setIfInBounds_toArray]); (try simp only [List.set_cons_succ]); (try simp only [List.set_cons_zero])
                        refine WpG.takeD 15 (some 95) (v := ?_) rfl rfl (by kernel_rfl) (fun _ _ _ h => h) (.val rfl (fun wz hwz => ?_)) ?_
                        rotate_left
                        · (obtain ⟨hcz, hfz⟩ := bcell (hwz); go_simp; try (with_reducible rfl))
                        (simp only [Act.put]); (try simp only [List.setIfInBounds_toArray]); (try simp only [List.set_cons_succ]); (try simp only [List.set_cons_zero])
                        refine WpG.takeD 16 (some 96) rfl rfl (by kernel_rfl) (fun _ _ _ h => h) (.call rfl (fun wz hwz => HMU.out y p wz) (fun wz hwz => ?_)) ?_
                        · go_simp; try (with_reducible rfl)
                        (simp only [Act.put]); (try simp only [List.setIfInBounds_toArray]); (try simp only [List.set_cons_succ]); (try simp only [List.set_cons_zero])
                        refine WpG.twoD 17 18 (some 20) (some 21) rfl rfl rfl rfl (by kernel_rfl) (fun b : Nat => Value.pointer (some ⟨b, 0, none⟩)) (fun b wz => w5.heap.size ≤ b ∧ V2 wz b (.int .u64 0) (.int .u64 0)) (fun _ _ _ h hb => ⟨h.1, h.2.call hb⟩) (Fresh.var [.int .u64 0, .int .u64 0] 28 rfl (fun wz hwz => (hwz).size) (fun wz hwz => by go_simp; try (with_reducible rfl)) (R := fun b wz => V2 wz b (.int .u64 0) (.int .u64 0)) (fun wz hwz => V2.new wz _ _ _)) (fun b : Nat => Value.pointer (some ⟨b, 0, none⟩)) (fun b wz => w5.heap.size ≤ b ∧ V2 wz b (.int .u64 0) (.int .u64 0)) (fun _ _ _ h hb => ⟨h.1, h.2.call hb⟩) (Fresh.var [.int .u64 0, .int .u64 0] 28 rfl (fun wz hwz => (hwz).size) (fun wz hwz => by go_simp; try (with_reducible rfl)) (R := fun b wz => V2 wz b (.int .u64 0) (.int .u64 0)) (fun wz hwz => V2.new wz _ _ _)) (fun xa w0xa hw0xa hR0xa => ?rg26_1a) (fun ya w0ya hw0ya hR0ya => ?rg26_1b)
                        case' rg26_1a =>
                          (simp only [Act.put]); (try simp only [List.setIfInBounds_toArray]); (try simp only [List.set_cons_succ]); (try simp only [List.set_cons_zero])
                          refine WpG.oneD 18 (some 21) rfl rfl (by kernel_rfl) (fun b : Nat => Value.pointer (some ⟨b, 0, none⟩)) (fun b wz => xa + 1 ≤ b ∧ V2 wz b (.int .u64 0) (.int .u64 0)) (fun _ _ _ h hb => ⟨h.1, h.2.call hb⟩) (Fresh.var [.int .u64 0, .int .u64 0] 28 rfl (fun wz hwz => (hwz.2).2.lt) (fun wz hwz => by go_simp; try (with_reducible rfl)) (R := fun b wz => V2 wz b (.int .u64 0) (.int .u64 0)) (fun wz hwz => V2.new wz _ _ _)) (fun ya w0ya hw0ya hR0ya => ?_)
                          (simp only [Act.put]); (try simp only [List.setIfInBounds_toArray]); (try simp only [List.set_cons_succ]); (try simp only [List.set_cons_zero])
                          refine WpG.done (by kernel_rfl) (fun w6 hS => ⟨xa, ya, rfl, ?_⟩)
                          · (obtain ⟨⟨h1, h2, h2'⟩, h3, h3'⟩ := hS; first | exact ⟨h1, ⟨h2, h2'⟩, ⟨by omega, h3'⟩, by omega⟩ | exact ⟨h1, ⟨by omega, h3'⟩, ⟨h2, h2'⟩, by omega⟩)
                        case' rg26_1b =>
                          (simp only [Act.put]); (try simp only [List.setIfInBounds_toArray]); (try simp only [List.set_cons_succ]); (try simp only [List.set_cons_zero])
                          refine WpG.oneD 17 (some 20) rfl rfl (by kernel_rfl) (fun b : Nat => Value.pointer (some ⟨b, 0, none⟩)) (fun b wz => ya + 1 ≤ b ∧ V2 wz b (.int .u64 0) (.int .u64 0)) (fun _ _ _ h hb => ⟨h.1, h.2.call hb⟩) (Fresh.var [.int .u64 0, .int .u64 0] 28 rfl (fun wz hwz => (hwz.2).2.lt) (fun wz hwz => by go_simp; try (with_reducible rfl)) (R := fun b wz => V2 wz b (.int .u64 0) (.int .u64 0)) (fun wz hwz => V2.new wz _ _ _)) (fun xa w0xa hw0xa hR0xa => ?_)
                          (simp only [Act.put]); (try simp only [List.setIfInBounds_toArray]); (try simp only [List.set_cons_succ]); (try simp only [List.set_cons_zero])
                          refine WpG.done (by kernel_rfl) (fun w6 hS => ⟨xa, ya, rfl, ?_⟩)
                          · (obtain ⟨⟨h1, h2, h2'⟩, h3, h3'⟩ := hS; first | exact ⟨h1, ⟨h2, h2'⟩, ⟨by omega, h3'⟩, by omega⟩ | exact ⟨h1, ⟨by omega, h3'⟩, ⟨h2, h2'⟩, by omega⟩)
                      intro xa ya w6 hS
                      (try simp only [List.drop_succ_cons]); (try simp only [List.drop_zero]); (try simp only [Nat.reduceSub]); (try simp only [List.take_succ_cons]); (try simp only [List.take_zero])
                      obtain ⟨hb6, ⟨hxa, xa0⟩, ⟨hya, ya0⟩, hxy⟩ := hS
                      clear p00 p01 p02 p03 p04
                      clear c0 c1 d0 d1 g5 HX HY
                      have hpb5 : pb < w5.heap.size := p0.lt
                      have hga6 : xa < w6.heap.size := xa0.lt
                      replace hb00 := bl_call hb00 (Nat.le_refl _) hb6
                      replace q0 := q0.call hb6
                      replace HR := HR.call hb6
                      replace HP := HP.call hb6
                      replace p0 := p0.call hb6
                      clear hb6 p0
                      obtain ⟨xa00, xa01, xa02, xa03, xa04⟩ := V2.mk xa0.c0 xa0.c1 xa0.f0 xa0.f1 xa0.lt
                      obtain ⟨ya00, ya01, ya02, ya03, ya04⟩ := V2.mk ya0.c0 ya0.c1 ya0.f0 ya0.f1 ya0.lt
                      go_upto_region 27 with fail
                      clear xa00 xa01 xa02 xa03 xa04 ya00 ya01 ya02 ya03 ya04
                      obtain ⟨yp, hyp⟩ : ∃ z, y * p = z := ⟨_, rfl⟩
                      rw [hyp] at HSET
                      simp only [hyp]
                      clear hyp
                      replace xa0 : V2 ((w6.setCell ⟨xa, 0, none⟩ (.int .u64 (lo x))).setCell ⟨xa, 1, none⟩ (.int .u64 (hi x))) (xa) (.int .u64 (lo x)) (.int .u64 (hi x)) := V2.set xa0 _ _
                      replace ya0 := V2.oth ya0 (b := xa) (by omega) (.int .u64 (lo x)) (.int .u64 (hi x))
                      replace q0 := V2.oth q0 (b := xa) (by omega) (.int .u64 (lo x)) (.int .u64 (hi x))
                      replace HR := (HR.far (p := ⟨xa, 0, none⟩) (by dsimp only; omega) (.int .u64 (lo x))).far (p := ⟨xa, 1, none⟩) (by dsimp only; omega) (.int .u64 (hi x))
                      replace HP := (HP.far (p := ⟨xa, 0, none⟩) (by dsimp only; omega) (.int .u64 (lo x))).far (p := ⟨xa, 1, none⟩) (by dsimp only; omega) (.int .u64 (hi x))
                      replace hb00 := bl_st hb00 (b := xa) (by omega) (.int .u64 (lo x)) (.int .u64 (hi x))
                      replace xa0 := V2.oth xa0 (b := ya) (by omega) (.int .u64 (lo yp)) (.int .u64 (hi yp))
                      replace ya0 : V2 ((((w6.setCell ⟨xa, 0, none⟩ (.int .u64 (lo x))).setCell ⟨xa, 1, none⟩ (.int .u64 (hi x))).setCell ⟨ya, 0, none⟩ (.int .u64 (lo yp))).setCell ⟨ya, 1, none⟩ (.int .u64 (hi yp))) (ya) (.int .u64 (lo yp)) (.int .u64 (hi yp)) := V2.set ya0 _ _
                      replace q0 := V2.oth q0 (b := ya) (by omega) (.int .u64 (lo yp)) (.int .u64 (hi yp))
                      replace HR := (HR.far (p := ⟨ya, 0, none⟩) (by dsimp only; omega) (.int .u64 (lo yp))).far (p := ⟨ya, 1, none⟩) (by dsimp only; omega) (.int .u64 (hi yp))
                      replace HP := (HP.far (p := ⟨ya, 0, none⟩) (by dsimp only; omega) (.int .u64 (lo yp))).far (p := ⟨ya, 1, none⟩) (by dsimp only; omega) (.int .u64 (hi yp))
                      replace hb00 := bl_st hb00 (b := ya) (by omega) (.int .u64 (lo yp)) (.int .u64 (hi yp))
                      generalize ((((w6.setCell ⟨xa, 0, none⟩ (.int .u64 (lo x))).setCell ⟨xa, 1, none⟩ (.int .u64 (hi x))).setCell ⟨ya, 0, none⟩ (.int .u64 (lo yp))).setCell ⟨ya, 1, none⟩ (.int .u64 (hi yp))) = w7 at xa0 ya0 q0 hb00 HR HP ⊢
                      obtain ⟨S0, hS0⟩ : ∃ l, ofF k (mid a r s j B i) = l := ⟨_, rfl⟩
                      rw [hS0] at HR HSET
                      have hlen : S0.length = k := by rw [← hS0, ofF_length]
                      have HSR : RunS w r x yp xa ya gp (pows z h) g S0 w7.drew := ⟨⟨hb00.drew, q0.drew, xa0.drew, ya0.drew, HP.drew⟩, HR.drew⟩
                      have HS0 := Lib.hid hS0
                      have HLN := Lib.hid hlen
                      have hgx : g ≠ xa := by omega
                      have hgy : g ≠ ya := by omega
                      have hgg : g ≠ gp := by omega
                      have HST2 : Hid (∀ wz, RunS w r x yp xa ya gp (pows z h) g S0 wz → RunS w r x yp xa ya gp (pows z h) g (S0.set q1 (x + yp)) ((wz.setCell ⟨g, q1 * 2, none⟩ (.int .u64 (lo (x + yp)))).setCell ⟨g, q1 * 2 + 1, none⟩ (.int .u64 (hi (x + yp))))) := fun wz h => h.store q1 (by omega) _ (by omega) hgx hgy hgg
                      have HRA : Hid (∀ wz (l : KL f) q, l.length = k → q < k → RwK wz g l → ∃ u v : Value, wz.cell? ⟨g, q * 2, none⟩ = some u ∧ wz.cell? ⟨g, q * 2 + 1, none⟩ = some v ∧ wz.frozen? ⟨g, q * 2, none⟩ = false ∧ wz.frozen? ⟨g, q * 2 + 1, none⟩ = false ∧ g < wz.heap.size) := fun wz l q h1 h2 h3 => by
                        obtain ⟨a1, a2⟩ := h3.at (List.getElem?_eq_getElem (i := q) (by omega))
                        obtain ⟨a3, a4⟩ := h3.frz (i := q) (by omega)
                        exact ⟨_, _, a1, a2, a3, a4, h3.lt⟩
                      clear hS0 hlen HR HP q0 hb00 xa0 ya0
                      refine region_X (RunT w r x yp xa ya gp (pows z h)) (RunS w r x yp xa ya gp (pows z h) g S0) (fun _ h => h.t) (RunS.clo _ _ _ _ _ _ _ _ _ _) HSR (n := 20) (m := 22) (f := 20) (by kernel_rfl) (by kernel_rfl) rfl ?_
                      refine WpX.takeD 0 (some 97) (v := ?_) rfl rfl (by kernel_rfl) (fun _ _ _ h => h) (.val rfl (fun wz hwz => ?_)) ?_
                      rotate_left
                      · go_simp; try (with_reducible rfl)
                      (simp only [Act.put]); (try simp only [List.setIfInBounds_toArray]); (try simp only [List.set_cons_succ]); (try simp only [List.set_cons_zero])
                      refine WpX.takeD 1 (some 98) (v := ?_) rfl rfl (by kernel_rfl) (fun _ _ _ h => h) (.val rfl (fun wz hwz => ?_)) ?_
                      rotate_left
                      · go_simp; try (with_reducible rfl)
                      (simp only [Act.put]); (try simp only [List.setIfInBounds_toArray]); (try simp only [List.set_cons_succ]); (try simp only [List.set_cons_zero])
                      refine WpX.takeD 2 (some 99) (v := ?_) rfl rfl (by kernel_rfl) (fun _ _ _ h => h) (.val rfl (fun wz hwz => ?_)) ?_
                      rotate_left
                      · go_simp; try (with_reducible rfl)
                      (simp only [Act.put]); (try simp only [List.setIfInBounds_toArray]); (try simp only [List.set_cons_succ]); (try simp only [List.set_cons_zero])
                      refine WpX.takeD 3 (some 100) (v := ?_) rfl rfl (by kernel_rfl) (fun _ _ _ h => h) (.val rfl (fun wz hwz => ?_)) ?_
                      rotate_left
                      · go_simp; try (with_reducible rfl)
                      (simp only [Act.put]); (try simp only [List.setIfInBounds_toArray]); (try simp only [List.set_cons_succ]); (try simp only [List.set_cons_zero])
                      refine WpX.takeD 4 (some 101) (v := ?_) rfl rfl (by kernel_rfl) (fun _ _ _ h => h) (.val rfl (fun wz hwz => ?_)) ?_
                      rotate_left
                      · go_simp; try (with_reducible rfl)
                      (simp only [Act.put]); (try simp only [List.setIfInBounds_toArray]); (try simp only [List.set_cons_succ]); (try simp only [List.set_cons_zero])
                      refine WpX.takeD 5 (some 102) (v := ?_) rfl rfl (by kernel_rfl) (fun _ _ _ h => h) (.val rfl (fun wz hwz => ?_)) ?_
                      rotate_left
                      · go_simp; try (with_reducible rfl)
                      (simp only [Act.put]); (try simp only [List.setIfInBounds_toArray]); (try simp only [List.set_cons_succ]); (try simp only [List.set_cons_zero])
                      refine WpX.takeD 6 (some 103) (v := ?_) rfl rfl (by kernel_rfl) (fun _ _ _ h => h) (.val rfl (fun wz hwz => ?_)) ?_
                      rotate_left
                      · go_simp; try (with_reducible rfl)
                      (simp only [Act.put]); (try simp only [List.setIfInBounds_toArray]); (try simp only [List.set_cons_succ]); (try simp only [List.set_cons_zero])
                      refine WpX.takeD 7 (some 104) (v := ?_) rfl rfl (by kernel_rfl) (fun _ _ _ h => h) (.val rfl (fun wz hwz => ?_)) ?_
                      rotate_left
                      · go_simp; try (with_reducible rfl)
                      (simp only [Act.put]); (try simp only [List.setIfInBounds_toArray]); (try simp only [List.set_cons_succ]); (try simp only [List.set_cons_zero])
                      refine WpX.takeD 8 (some 105) (v := ?_) rfl rfl (by kernel_rfl) (fun _ _ _ h => h) (.val rfl (fun wz hwz => ?_)) ?_
                      rotate_left
                      · go_simp; try (with_reducible rfl)
                      (simp only [Act.put]); (try simp only [List.setIfInBounds_toArray]); (try simp only [List.set_cons_succ]); (try simp only [List.set_cons_zero])
                      refine WpX.takeD 9 (some 106) (v := ?_) rfl rfl (by kernel_rfl) (fun _ _ _ h => h) (.val rfl (fun wz hwz => ?_)) ?_
                      rotate_left
                      · go_simp; try (with_reducible rfl)
                      (simp only [Act.put]); (try simp only [List.setIfInBounds_toArray]); (try simp only [List.set_cons_succ]); (try simp only [List.set_cons_zero])
                      refine WpX.takeD 10 (some 107) (v := ?_) rfl rfl (by kernel_rfl) (fun _ _ _ h => h) (.val rfl (fun wz hwz => ?_)) ?_
                      rotate_left
                      · go_simp; try (with_reducible rfl)
                      (simp only [Act.put]); (try simp only [List.setIfInBounds_toArray]); (try simp only [List.set_cons_succ]); (try simp only [List.set_cons_zero])
                      refine WpX.takeD 11 (some 108) (v := ?_) rfl rfl (by kernel_rfl) (fun _ _ _ h => h) (.val rfl (fun wz hwz => ?_)) ?_
                      rotate_left
                      · (obtain ⟨z0, z1, z2, z3, z4⟩ := V2.mk hwz.vx.c0 hwz.vx.c1 hwz.vx.f0 hwz.vx.f1 hwz.vx.lt; go_simp; try (with_reducible rfl))
                      (simp only [Act.put]); (try simp only [List.setIfInBounds_toArray]); (try simp only [List.set_cons_succ]); (try simp only [List.set_cons_zero])
                      refine WpX.takeD 12 (some 109) (v := ?_) rfl rfl (by kernel_rfl) (fun _ _ _ h => h) (.val rfl (fun wz hwz => ?_)) ?_
                      rotate_left
                      · (obtain ⟨z0, z1, z2, z3, z4⟩ := V2.mk hwz.vy.c0 hwz.vy.c1 hwz.vy.f0 hwz.vy.f1 hwz.vy.lt; go_simp; try (with_reducible rfl))
                      (simp only [Act.put]); (try simp only [List.setIfInBounds_toArray]); (try simp only [List.set_cons_succ]); (try simp only [List.set_cons_zero])
                      refine WpX.takeD 13 (some 110) rfl rfl (by kernel_rfl) (fun _ _ _ h => h) (.call rfl (fun wz hwz => HADD.out x yp wz) (fun wz hwz => ?_)) ?_
                      · go_simp; try (with_reducible rfl)
                      (simp only [Act.put]); (try simp only [List.setIfInBounds_toArray]); (try simp only [List.set_cons_succ]); (try simp only [List.set_cons_zero])
                      refine WpX.takeD 14 (some 111) (v := ?_) rfl rfl (by kernel_rfl) (fun _ _ _ h => h) (.val rfl (fun wz hwz => ?_)) ?_
                      rotate_left
                      · go_simp; try (with_reducible rfl)
                      (simp only [Act.put]); (try simp only [List.setIfInBounds_toArray]); (try simp only [List.set_cons_succ]); (try simp only [List.set_cons_zero])
                      refine WpX.takeD 15 (some 112) (v := ?_) rfl rfl (by kernel_rfl) (fun _ _ _ h => h) (.val rfl (fun wz hwz => ?_)) ?_
                      rotate_left
                      · (obtain ⟨z0, z1, z2, z3, z4⟩ := V2.mk hwz.vx.c0 hwz.vx.c1 hwz.vx.f0 hwz.vx.f1 hwz.vx.lt; go_simp; try (with_reducible rfl))
                      (simp only [Act.put]); (try simp only [List.setIfInBounds_toArray]); (try simp only [List.set_cons_succ]); (try simp only [List.set_cons_zero])
                      refine WpX.takeD 16 (some 113) (v := ?_) rfl rfl (by kernel_rfl) (fun _ _ _ h => h) (.val rfl (fun wz hwz => ?_)) ?_
                      rotate_left
                      · (obtain ⟨z0, z1, z2, z3, z4⟩ := V2.mk hwz.vy.c0 hwz.vy.c1 hwz.vy.f0 hwz.vy.f1 hwz.vy.lt; go_simp; try (with_reducible rfl))
                      (simp only [Act.put]); (try simp only [List.setIfInBounds_toArray]); (try simp only [List.set_cons_succ]); (try simp only [List.set_cons_zero])
                      refine WpX.takeD 17 (some 114) rfl rfl (by kernel_rfl) (fun _ _ _ h => h) (.call rfl (fun wz hwz => HSUB.out x yp wz) (fun wz hwz => ?_)) ?_
                      · go_simp; try (with_reducible rfl)
                      (simp only [Act.put]); (try simp only [List.setIfInBounds_toArray]); (try simp only [List.set_cons_succ]); (try simp only [List.set_cons_zero])
                      refine WpX.takeD 18 (some 115) (v := ?_) rfl rfl (by kernel_rfl) (fun _ _ _ h => h) (.val rfl (fun wz hwz => ?_)) ?_
                      rotate_left
                      · go_simp; try (with_reducible rfl)
                      (simp only [Act.put]); (try simp only [List.setIfInBounds_toArray]); (try simp only [List.set_cons_succ]); (try simp only [List.set_cons_zero])
                      refine WpX.oneSkip 19 none rfl rfl (by kernel_rfl) (RunT w r x yp xa ya gp (pows z h)) (RunS w r x yp xa ya gp (pows z h) g (S0.set q1 (x + yp))) (fun _ h => h) (fun _ h => h.t) (RunS.clo _ _ _ _ _ _ _ _ _ _) rfl (fun wz hS => ?_) ?_
                      · (obtain ⟨u, v, z0, z1, z2, z3, z4⟩ := HRA.out wz S0 q1 HLN.out hq1k hS.rw; refine ⟨_, ?_, HST2.out wz hS⟩; go_simp; try (with_reducible rfl))
                      (simp only [Act.put]); (try simp only [List.setIfInBounds_toArray]); (try simp only [List.set_cons_succ]); (try simp only [List.set_cons_zero])
                      refine WpX.done (by kernel_rfl) (fun w8 hS => ?_)
                      (try simp only [List.drop_succ_cons]); (try simp only [List.drop_zero]); (try simp only [Nat.reduceSub]); (try simp only [List.take_succ_cons]); (try simp only [List.take_zero])
                      obtain ⟨⟨hb00, q0, _, _, HP⟩, HR⟩ := hS
                      obtain ⟨u8, v8, d0, d1, f2, f3, g5⟩ := HRA.out w8 _ q2 (by rw [List.length_set]; exact HLN.out) hq2k HR
                      clear HRA HST2 HSR
                      go_wp2_with fail
                      go_roundw
                      case rel =>
                        have h := HR.set q2 (by rw [List.length_set, HLN.out]; omega) (x - yp)
                        rw [HSET.out] at h
                        exact ⟨i + 1, by omega, by go_num, h, (HP.far (by dsimp only; omega) _).far (by dsimp only; omega) _, V2.setOther (V2.setOther q0 (by dsimp only; omega) _) (by dsimp only; omega) _, bl_set (bl_set hb00 (by dsimp only; omega) _) (by dsimp only; omega) _⟩
                      case measure => simp [intOf]; omega
                    · obtain rfl : i = h := by omega
                      rw [HM4s.out] at HR
                      obtain ⟨A1, hA1⟩ : ∃ A1, (B + 1) * (2 * i) = A1 := ⟨_, rfl⟩
                      have HA1 := Lib.hid hA1
                      have hA8 : A1 = A0 + 2 * i := by rw [← hA1, HBS.out]
                      have hA9 : (A0 : Int) + 2 * (i : Int) = (A1 : Int) := by omega
                      have hA7 : A0 < A1 := by omega
                      have hA6 : A1 ≤ k := by omega
                      clear hA1 hA8
                      go_wp2_with fail
                      go_roundw
                      case rel => exact ⟨B + 1, by omega, by rw [HA1.out], HR, HP, q0, hb00⟩
                      case measure => simp [intOf]; omega
                · obtain rfl : B = m := by omega
                  have hA9 : B * (2 * h) = k := HP2.out
                  rw [hA9]
                  rw [HM5s.out] at HR
                  go_wp2_with fail
                  go_roundw
                  case rel => exact ⟨s + 1, by omega, by go_num, by rw [show L - (s + 1) = j by have := HST.out; omega]; exact HR, q0, hb00, HR.lt⟩
                  case measure => simp [intOf]; omega
        · obtain rfl : s = L := by omega
          have t2 : decide ((s : Int) + 1 ≤ (s : Int)) = false := by simp; omega
          rw [Nat.sub_self, ← HN.out] at HR
          rw [HVAL.out] at HR
          go_wp2_with fail
          go_ret
          rw [← HN.out]
          exact ⟨g, by rw [HRV.out]; rfl, HR, by omega, hb00⟩
end

end Go.Proofs.YtfhmineolncefaaDoor

namespace Go.Proofs.YtfhmineolncefaaDoor
open Go.RowKit Fm
set_option linter.unusedVariables false
set_option maxRecDepth 100000

/-- no slice, but an error -/
def RetE9 (n : Int) (w : World) (e : Ending) (w' : World) : Prop := e = .returned (.tuple #[.slice none 0 0, .int .i64 n]) ∧ Below w.heap.size w w'

theorem ntt_no_field (F : Int) (h1 : (F == 1) = false) (h2 : (F == 2) = false) (w : World) : Calls Tryd.prog 59 #[.int .u8 F] w fun e w' => e = .returned (.bool false) ∧ w = w' := by
  refine (field_Valid F w).mono fun e w' ⟨he, hw⟩ => ⟨?_, hw⟩
  rw [he, h1, h2]
  rfl

section
variable {f : Nat} (hf : IsF f)
include hf
theorem field_ValidT (w : World) : Calls Tryd.prog 59 #[.int .u8 f] w fun e w' => e = .returned (.bool true) ∧ w = w' := by
  refine (field_Valid f w).mono fun e w' ⟨he, hw⟩ => ⟨?_, hw⟩
  rw [he]
  rcases hf.or with rfl | rfl <;> rfl

set_option maxHeartbeats 4000000 in
theorem ntt_Values (L : Nat) (hL : L ≤ 10) (vl : Value) (l : KL f) (hl : l.length = 2 ^ L) (w : World) (hT : TabW w) (hs : SlK w w.heap.size vl l) :
    Calls Tryd.prog 18 #[.int .u8 f, vl] w (RetBlk0 (valsK L l) w) := by
  have HV := Lib.hid (fun wz => field_ValidT hf wz)
  have HLG := Lib.hid (fun wz (h : TabW wz) => ntt_Log_ok L hL wz h)
  have HRT := Lib.hid (fun wz => field_Root hf L (by omega) wz)
  have HRUN : Hid (∀ v wz, SlK wz wz.heap.size v l → Calls Tryd.prog 61 #[.int .u8 f, v, vK (rootK f L), .int .i64 L] wz (RetBlk (valsK L l) wz)) := fun v wz h => ntt_run hf L hL v l hl (rootK f L) (rt_root f L (by omega)) wz h
  have H0 := Lib.hid hs
  have hfb0 : (1 : Int) ≤ (f : Int) := by rcases hf.or with rfl | rfl <;> omega
  have hfb1 : (f : Int) ≤ 2 := by rcases hf.or with rfl | rfl <;> omega
  obtain ⟨A, c, rfl, hc, hcm, hA⟩ := hs
  have hp : 2 ^ L ≤ 2 ^ 10 := Nat.pow_le_pow_right (by omega) hL
  rw [hl] at hc H0 ⊢
  have HVL := Lib.hid (valsK_length (f := f) L l)
  clear hA hl
  generalize valsK L l = vv at *
  generalize rootK f L = r at *
  generalize 2 ^ L = n at *
  have hb00 : Below w.heap.size w w := Below.refl _ _
  go_enter Tryd.func18, Tryd.ntmps18
  go_wp2_with fail
  refine (HV.out _).mono ?_
  rintro e w' ⟨rfl, rfl⟩
  go_wp2_with fail
  refine (HLG.out _ hT).mono ?_
  rintro e w' ⟨rfl, rfl⟩
  go_wp2_with fail
  refine (HRT.out _).mono ?_
  rintro e w1 ⟨rfl, hb1⟩
  replace hb00 := bl_call hb00 (Nat.le_refl _) hb1
  clear hb1
  go_upto_region 7 with fail
  have r0 := V2.new w1 (.int .u64 (lo r)) (.int .u64 (hi r)) 28
  have hbA : Below w1.heap.size w1 (w1.alloc (.cells #[.int .u64 (lo r), .int .u64 (hi r)] 28)) := by repeat (first | exact Below.refl _ _ | with_reducible assumption | (refine bl_alloc ?_ (Nat.le_refl _) _))
  replace hb00 := bl_call hb00 (Nat.le_refl _) hbA
  clear hbA
  generalize w1.alloc (.cells #[.int .u64 (lo r), .int .u64 (hi r)] 28) = w2 at hb00 r0 ⊢
  obtain ⟨r00, r01, r02, r03, r04⟩ := V2.mk r0.c0 r0.c1 r0.f0 r0.f1 r0.lt
  go_wp2_with fail
  refine (HRUN.out _ _ (H0.out.later hb00)).mono ?_
  rintro e w3 ⟨g, rfl, hR, hg, hb3⟩
  have hg2 := Nat.le_trans hb00.size hg
  replace hb00 := bl_call hb00 (Nat.le_refl _) hb3
  replace r0 := r0.call hb3
  go_wp2_with fail
  go_ret2
  exact ⟨g, rfl, hR, hg2, hb00⟩

set_option maxHeartbeats 8000000 in
theorem ntt_Coefs (L : Nat) (hL : L ≤ 10) (vl : Value) (l : KL f) (hl : l.length = 2 ^ L) (w : World) (hT : TabW w) (hs : SlK w w.heap.size vl l) :
    Calls Tryd.prog 20 #[.int .u8 f, vl] w (RetBlk0 (coefsK L l) w) := by
  have HV := Lib.hid (fun wz => field_ValidT hf wz)
  have HLG := Lib.hid (fun wz (h : TabW wz) => ntt_Log_ok L hL wz h)
  have HRT := Lib.hid (fun wz => field_Root hf L (by omega) wz)
  have hrt := rt_root f L (by omega)
  have hp : 2 ^ L ≤ 2 ^ 10 := Nat.pow_le_pow_right (by omega) hL
  have hp0 := Nat.two_pow_pos L
  have hnn : nn f (2 ^ L) ≠ 0 := nn_ne f _ hp0 (two_pow_lt (by omega))
  have HI1 : Hid (∀ wz, Calls Tryd.prog 64 #[.int .u8 f, vK (rootK f L)] wz fun e w' => e = .returned (.tuple #[vK (Fm.kinv (rootK f L)), .int .i64 0]) ∧ Below wz.heap.size wz w') := fun wz => (field_Inv hf (rootK f L) wz).mono fun e w' h => by
    rcases h with ⟨h0, _⟩ | ⟨_, h1, h2⟩
    · exact absurd h0 hrt.ne_zero
    · rw [kinv_fm] at h1
      exact ⟨h1, h2⟩
  have HI2 : Hid (∀ wz, Calls Tryd.prog 64 #[.int .u8 f, vK (nn f (2 ^ L))] wz fun e w' => e = .returned (.tuple #[vK (Fm.kinv (nn f (2 ^ L))), .int .i64 0]) ∧ Below wz.heap.size wz w') := fun wz => (field_Inv hf (nn f (2 ^ L)) wz).mono fun e w' h => by
    rcases h with ⟨h0, _⟩ | ⟨_, h1, h2⟩
    · exact absurd h0 hnn
    · rw [kinv_fm] at h1
      exact ⟨h1, h2⟩
  have HOF : Hid (∀ wz, Calls Tryd.prog 65 #[.int .u8 f, .int .u64 ((2 ^ L : Nat) : Int)] wz (RetK (nn f (2 ^ L)) wz)) := fun wz => by
    rw [nn_nK]
    exact field_Of hf _ wz (by omega) (by omega)
  have HRUN : Hid (∀ v wz, SlK wz wz.heap.size v l → Calls Tryd.prog 61 #[.int .u8 f, v, vK (Fm.kinv (rootK f L)), .int .i64 L] wz (RetBlk (vals (Fm.kinv (rootK f L)) (2 ^ L) l) wz)) := fun v wz h => ntt_run hf L hL v l hl _ (hrt.inv (mul_kinv _ hrt.ne_zero)) wz h
  have HMU := Lib.hid (fun x y wz => field_MulK hf x y wz)
  have HVL : Hid ((vals (Fm.kinv (rootK f L)) (2 ^ L) l).length = 2 ^ L) := ofF_length ..
  have HCL := Lib.hid (coefsK_length (f := f) L l)
  have HCV : Hid (∀ k, k < 2 ^ L → (coefsK L l)[k]? = ((vals (Fm.kinv (rootK f L)) (2 ^ L) l)[k]?).map (· * Fm.kinv (nn f (2 ^ L)))) := fun k hk => by
    unfold coefsK coefs vals ofF
    rw [List.getElem?_map, List.getElem?_map, List.getElem?_range hk]
    rfl
  have H0 := Lib.hid hs
  have hfb0 : (1 : Int) ≤ (f : Int) := by rcases hf.or with rfl | rfl <;> omega
  have hfb1 : (f : Int) ≤ 2 := by rcases hf.or with rfl | rfl <;> omega
  obtain ⟨A, c, rfl, hc, hcm, hA⟩ := hs
  rw [hl] at hc H0 ⊢
  have hcu : IntKind.u64.wrap ((2 ^ L : Nat) : Int) = ((2 ^ L : Nat) : Int) := IntWalk.u64_in _ (by omega)
  clear hA hl hrt hnn
  generalize coefsK L l = cc at *
  generalize vals (Fm.kinv (rootK f L)) (2 ^ L) l = vv at *
  generalize Fm.kinv (nn f (2 ^ L)) = ni at *
  generalize nn f (2 ^ L) = nx at *
  generalize Fm.kinv (rootK f L) = ri at *
  generalize rootK f L = r at *
  generalize 2 ^ L = n at *
  have hb00 : Below w.heap.size w w := Below.refl _ _
  go_enter Tryd.func20, Tryd.ntmps20
  go_wp2_with fail
  refine (HV.out _).mono ?_
  rintro e w' ⟨rfl, rfl⟩
  go_wp2_with fail
  refine (HLG.out _ hT).mono ?_
  rintro e w' ⟨rfl, rfl⟩
  go_wp2_with fail
  refine (HRT.out _).mono ?_
  rintro e w1 ⟨rfl, hb1⟩
  replace hb00 := bl_call hb00 (Nat.le_refl _) hb1
  clear hb1
  go_upto_region 7 with fail
  have r0 := V2.new w1 (.int .u64 (lo r)) (.int .u64 (hi r)) 28
  have hbA : Below w1.heap.size w1 (w1.alloc (.cells #[.int .u64 (lo r), .int .u64 (hi r)] 28)) := by repeat (first | exact Below.refl _ _ | with_reducible assumption | (refine bl_alloc ?_ (Nat.le_refl _) _))
  replace hb00 := bl_call hb00 (Nat.le_refl _) hbA
  clear hbA
  generalize w1.alloc (.cells #[.int .u64 (lo r), .int .u64 (hi r)] 28) = w2 at hb00 r0 ⊢
  obtain ⟨r00, r01, r02, r03, r04⟩ := V2.mk r0.c0 r0.c1 r0.f0 r0.f1 r0.lt
  go_wp2_with fail
  refine (HI1.out _).mono ?_
  rintro e w3 ⟨rfl, hb3⟩
  clear r00 r01 r02 r03 r04
  clear r0
  replace hb00 := bl_call hb00 (Nat.le_refl _) hb3
  clear hb3
  go_upto_region 10 with fail
  have r0 := V2.new w3 (.int .u64 (lo ri)) (.int .u64 (hi ri)) 28
  have hbA : Below w3.heap.size w3 (w3.alloc (.cells #[.int .u64 (lo ri), .int .u64 (hi ri)] 28)) := by repeat (first | exact Below.refl _ _ | with_reducible assumption | (refine bl_alloc ?_ (Nat.le_refl _) _))
  replace hb00 := bl_call hb00 (Nat.le_refl _) hbA
  clear hbA
  generalize w3.alloc (.cells #[.int .u64 (lo ri), .int .u64 (hi ri)] 28) = w4 at hb00 r0 ⊢
  obtain ⟨rb, hrb⟩ : ∃ z, w3.heap.size = z := ⟨_, rfl⟩
  rw [hrb] at r0
  simp only [hrb]
  clear hrb
  go_wp2_with fail
  refine (HOF.out _).mono ?_
  rintro e w5 ⟨rfl, hb5⟩
  replace hb00 := bl_call hb00 (Nat.le_refl _) hb5
  replace r0 := r0.call hb5
  clear hb5
  go_wp2_with fail
  refine (HI2.out _).mono ?_
  rintro e w6 ⟨rfl, hb6⟩
  replace hb00 := bl_call hb00 (Nat.le_refl _) hb6
  replace r0 := r0.call hb6
  clear hb6
  go_upto_region 13 with fail
  have n0 := V2.new w6 (.int .u64 (lo ni)) (.int .u64 (hi ni)) 28
  have hbA : Below w6.heap.size w6 (w6.alloc (.cells #[.int .u64 (lo ni), .int .u64 (hi ni)] 28)) := by repeat (first | exact Below.refl _ _ | with_reducible assumption | (refine bl_alloc ?_ (Nat.le_refl _) _))
  replace hb00 := bl_call hb00 (Nat.le_refl _) hbA
  replace r0 := r0.call hbA
  clear hbA
  generalize w6.alloc (.cells #[.int .u64 (lo ni), .int .u64 (hi ni)] 28) = w7 at hb00 r0 n0 ⊢
  obtain ⟨nb, hnb⟩ : ∃ z, w6.heap.size = z := ⟨_, rfl⟩
  rw [hnb] at n0
  simp only [hnb]
  clear hnb
  obtain ⟨r00, r01, r02, r03, r04⟩ := V2.mk r0.c0 r0.c1 r0.f0 r0.f1 r0.lt
  go_wp2_with fail
  refine (HRUN.out _ _ (H0.out.later hb00)).mono ?_
  rintro e w8 ⟨g, rfl, hR, hg, hb8⟩
  have hg2 := Nat.le_trans hb00.size hg
  have hng : nb < g := Nat.lt_of_lt_of_le n0.lt hg
  clear r00 r01 r02 r03 r04
  clear r0
  replace hb00 := bl_call hb00 (Nat.le_refl _) hb8
  replace n0 := n0.call hb8
  clear hb8 hg
  rw [HVL.out]
  obtain ⟨S, hS⟩ : ∃ S : KL f, S = vv := ⟨_, rfl⟩
  have HS : Hid (S.length = n ∧ (∀ i, i < 0 → S[i]? = cc[i]?) ∧ ∀ i, 0 ≤ i → S[i]? = vv[i]?) := by rw [hS]; exact ⟨HVL.out, fun i h => absurd h (Nat.not_lt_zero i), fun _ _ => rfl⟩
  rw [← hS] at hR
  clear hS
  go_wp2_with fail
  go_loopw [63] (fun iv wr => ∃ (k : Nat) (S : KL f), k ≤ n ∧ iv = .int .i64 k ∧ RwK wr g S ∧ Hid (S.length = n ∧ (∀ i, i < k → S[i]? = cc[i]?) ∧ ∀ i, k ≤ i → S[i]? = vv[i]?) ∧ V2 wr nb (.int .u64 (lo ni)) (.int .u64 (hi ni)) ∧ Below w.heap.size w wr) (fun iv _ => n - (intOf iv).toNat)
  case atStart => exact ⟨0, S, Nat.zero_le _, rfl, hR, HS, n0, hb00⟩
  case round =>
    clear hR HS n0 hb00 S
    obtain ⟨k, S, hk, rfl, hR, HS, n0, hb00⟩ := hrel
    by_cases hlt : k < n
    · obtain ⟨x, hx⟩ : ∃ x, S[k]? = some x := ⟨_, List.getElem?_eq_getElem (by have := HS.out.1; omega)⟩
      obtain ⟨c0, c1⟩ := hR.at hx
      have hxv : vv[k]? = some x := by rw [← HS.out.2.2 k (Nat.le_refl _), hx]
      have HXC : Hid (cc[k]? = some (x * ni)) := by show _ = _; rw [HCV.out k hlt, hxv]; rfl
      have g1 : (0 : Int) ≤ (k : Int) := by omega
      have g2 : (k : Int) < (n : Int) := by omega
      have g5 := hR.lt
      clear hx hxv
      obtain ⟨n00, n01, n02, n03, n04⟩ := V2.mk n0.c0 n0.c1 n0.f0 n0.f1 n0.lt
      go_upto_region 19 with fail
      refine region_B (n := 9) (m := 11) (f := 9) (by kernel_rfl) (by kernel_rfl) rfl ?_
      refine WpH.takeD 0 (some 66) (v := ?_) rfl rfl (by kernel_rfl) (fun _ _ _ h => h) (.val rfl (fun wz hwz => ?_)) ?_
      rotate_left
      · go_simp; try (with_reducible rfl)
      (simp only [Act.put]); (try simp only [List.setIfInBounds_toArray]); (try simp only [List.set_cons_succ]); (try simp only [List.set_cons_zero])
      refine WpH.takeD 1 (some 67) (v := ?_) rfl rfl (by kernel_rfl) (fun _ _ _ h => h) (.val rfl (fun wz hwz => ?_)) ?_
      rotate_left
      · go_simp; try (with_reducible rfl)
      (simp only [Act.put]); (try simp only [List.setIfInBounds_toArray]); (try simp only [List.set_cons_succ]); (try simp only [List.set_cons_zero])
      refine WpH.takeD 2 (some 68) (v := ?_) rfl rfl (by kernel_rfl) (fun _ _ _ h => h) (.val rfl (fun wz hwz => ?_)) ?_
      rotate_left
      · go_simp; try (with_reducible rfl)
      (simp only [Act.put]); (try simp only [List.setIfInBounds_toArray]); (try simp only [List.set_cons_succ]); (try simp only [List.set_cons_zero])
      refine WpH.takeD 3 (some 69) (v := ?_) rfl rfl (by kernel_rfl) (fun _ _ _ h => h) (.val rfl (fun wz hwz => ?_)) ?_
      rotate_left
      · go_simp; try (with_reducible rfl)
      (simp only [Act.put]); (try simp only [List.setIfInBounds_toArray]); (try simp only [List.set_cons_succ]); (try simp only [List.set_cons_zero])
      refine WpH.takeD 4 (some 70) (v := ?_) rfl rfl (by kernel_rfl) (fun _ _ _ h => h) (.val rfl (fun wz hwz => ?_)) ?_
      rotate_left
      · go_simp; try (with_reducible rfl)
      (simp only [Act.put]); (try simp only [List.setIfInBounds_toArray]); (try simp only [List.set_cons_succ]); (try simp only [List.set_cons_zero])
      refine WpH.takeD 5 (some 71) (v := ?_) rfl rfl (by kernel_rfl) (fun _ _ _ h => h) (.val rfl (fun wz hwz => ?_)) ?_
      rotate_left
      · go_simp; try (with_reducible rfl)
      (simp only [Act.put]); (try simp only [List.setIfInBounds_toArray]); (try simp only [List.set_cons_succ]); (try simp only [List.set_cons_zero])
      refine WpH.takeD 6 (some 72) (v := ?_) rfl rfl (by kernel_rfl) (fun _ _ _ h => h) (.val rfl (fun wz hwz => ?_)) ?_
      rotate_left
      · (obtain ⟨hcz, hfz⟩ := bcell hwz; go_simp; try (with_reducible rfl))
      (simp only [Act.put]); (try simp only [List.setIfInBounds_toArray]); (try simp only [List.set_cons_succ]); (try simp only [List.set_cons_zero])
      refine WpH.takeD 7 (some 73) (v := ?_) rfl rfl (by kernel_rfl) (fun _ _ _ h => h) (.val rfl (fun wz hwz => ?_)) ?_
      rotate_left
      · (obtain ⟨hcz, hfz⟩ := bcell hwz; go_simp; try (with_reducible rfl))
      (simp only [Act.put]); (try simp only [List.setIfInBounds_toArray]); (try simp only [List.set_cons_succ]); (try simp only [List.set_cons_zero])
      refine WpH.takeD 8 (some 74) rfl rfl (by kernel_rfl) (fun _ _ _ h => h) (.call rfl (fun wz hwz => HMU.out x ni wz) (fun wz hwz => ?_)) ?_
      · go_simp; try (with_reducible rfl)
      (simp only [Act.put]); (try simp only [List.setIfInBounds_toArray]); (try simp only [List.set_cons_succ]); (try simp only [List.set_cons_zero])
      refine WpH.doneB (by kernel_rfl) (fun w9 hw9 => ?_)
      (try simp only [List.drop_succ_cons]); (try simp only [List.drop_zero]); (try simp only [Nat.reduceSub]); (try simp only [List.take_succ_cons]); (try simp only [List.take_zero])
      clear n00 n01 n02 n03 n04
      clear c0 c1 g5
      replace hb00 := bl_call hb00 (Nat.le_refl _) hw9
      replace n0 := n0.call hw9
      replace hR := hR.call hw9
      clear hw9
      obtain ⟨x9, hx9⟩ : ∃ x, S[k]? = some x := ⟨_, List.getElem?_eq_getElem (by have := HS.out.1; omega)⟩
      obtain ⟨c0, c1⟩ := hR.at hx9
      obtain ⟨f0, f1⟩ := hR.frz (i := k) (by have := HS.out.1; omega)
      have g5 := hR.lt
      clear hx9
      go_wp2_with fail
      go_roundw
      case rel =>
        have HL := HS.out.1
        refine ⟨k + 1, _, by omega, by go_num, hR.set k (by omega) (x * ni), ⟨by rw [List.length_set]; exact HL, fun i hik => ?_, fun i hik => ?_⟩, V2.setOther (V2.setOther n0 (by dsimp only; omega) _) (by dsimp only; omega) _, by repeat (first | exact Below.refl _ _ | with_reducible assumption | (refine bl_alloc ?_ (Nat.le_refl _) _) | (refine bl_set ?_ (by dsimp only; omega) _) | (refine Below.drew ?_) | (refine bl_drewN ?_ _) | (refine bl_call ?_ (Nat.le_refl _) (by assumption)))⟩
        · by_cases he : k = i
          · subst he
            rw [List.getElem?_set_self (by omega), HXC.out]
          · rw [List.getElem?_set_ne he]
            exact HS.out.2.1 i (by omega)
        · rw [List.getElem?_set_ne (by omega)]
          exact HS.out.2.2 i (by omega)
      case measure => simp [intOf]; omega
    · obtain rfl : k = n := by omega
      have hSc : S = cc := List.ext_getElem? fun i => by
        by_cases hik : i < k
        · exact HS.out.2.1 i hik
        · rw [List.getElem?_eq_none (by have := HS.out.1; omega), List.getElem?_eq_none (by rw [HCL.out]; omega)]
      subst hSc
      have HRR := Lib.hid hR
      clear hR HS
      go_wp2
      go_ret2
      exact ⟨g, by rw [HCL.out]; rfl, HRR.out, hg2, hb00⟩

set_option maxHeartbeats 4000000 in
theorem ntt_Points (L : Nat) (hL : L ≤ 10) (w : World) :
    Calls Tryd.prog 23 #[.int .u8 f, .int .i64 L] w (RetOwn0 (pows (rootK f L) (2 ^ L)) w) := by
  have HV := Lib.hid (fun wz => field_ValidT hf wz)
  have HRT := Lib.hid (fun wz => field_Root hf L (by omega) wz)
  have hp : 2 ^ L ≤ 2 ^ 10 := Nat.pow_le_pow_right (by omega) hL
  have hp0 := Nat.two_pow_pos L
  have HPW : Hid (∀ wz, Calls Tryd.prog 66 #[.int .u8 f, vK (rootK f L), .int .i64 ((2 : Int) ^ L)] wz (RetOwn (pows (rootK f L) (2 ^ L)) wz)) := fun wz => by
    have h := field_Powers hf (rootK f L) (2 ^ L) (by omega) wz
    rwa [show ((2 ^ L : Nat) : Int) = (2 : Int) ^ L by rw [Int.natCast_pow]; rfl] at h
  have hfb0 : (1 : Int) ≤ (f : Int) := by rcases hf.or with rfl | rfl <;> omega
  have hfb1 : (f : Int) ≤ 2 := by rcases hf.or with rfl | rfl <;> omega
  have w1' : IntKind.i64.wrap ((2 : Int) ^ L) = (2 : Int) ^ L := IntWalk.i64_in _ (by rw [show (2 : Int) ^ L = ((2 ^ L : Nat) : Int) by rw [Int.natCast_pow]; rfl]; omega)
  have hL0 : (0 : Int) ≤ (L : Int) := by omega
  have hL64 : (L : Int) ≤ 10 := by omega
  clear hp hp0
  generalize pows (rootK f L) (2 ^ L) = pp at *
  generalize rootK f L = r at *
  have hb00 : Below w.heap.size w w := Below.refl _ _
  go_enter Tryd.func23, Tryd.ntmps23
  go_wp2_with fail
  refine (HV.out _).mono ?_
  rintro e w' ⟨rfl, rfl⟩
  go_wp2_with fail
  refine (HRT.out _).mono ?_
  rintro e w1 ⟨rfl, hb1⟩
  replace hb00 := bl_call hb00 (Nat.le_refl _) hb1
  clear hb1
  go_upto_region 6 with fail
  have r0 := V2.new w1 (.int .u64 (lo r)) (.int .u64 (hi r)) 28
  have hbA : Below w1.heap.size w1 (w1.alloc (.cells #[.int .u64 (lo r), .int .u64 (hi r)] 28)) := by repeat (first | exact Below.refl _ _ | with_reducible assumption | (refine bl_alloc ?_ (Nat.le_refl _) _))
  replace hb00 := bl_call hb00 (Nat.le_refl _) hbA
  clear hbA
  generalize w1.alloc (.cells #[.int .u64 (lo r), .int .u64 (hi r)] 28) = w2 at hb00 r0 ⊢
  go_upto_region 8 with fail
  obtain ⟨r00, r01, r02, r03, r04⟩ := V2.mk r0.c0 r0.c1 r0.f0 r0.f1 r0.lt
  have HT0 : Below w2.heap.size w2 w2.drew := ⟨rfl, rfl, rfl, Nat.le_refl _, fun _ _ => rfl⟩
  refine region_X (fun wz => Below w2.heap.size w2 wz) (fun wz => Below w2.heap.size w2 wz) (fun _ h => h) (fun _ _ h hb => bl_call h (Nat.le_refl _) hb) HT0 (n := 5) (m := 7) (f := 5) (by kernel_rfl) (by kernel_rfl) rfl ?_
  refine WpX.takeD 0 (some 26) (v := ?_) rfl rfl (by kernel_rfl) (fun _ _ _ h => h) (.val rfl (fun wz hwz => ?_)) ?_
  rotate_left
  · go_simp; try (with_reducible rfl)
  (simp only [Act.put]); (try simp only [List.setIfInBounds_toArray]); (try simp only [List.set_cons_succ]); (try simp only [List.set_cons_zero])
  refine WpX.takeD 1 (some 27) (v := ?_) rfl rfl (by kernel_rfl) (fun _ _ _ h => h) (.val rfl (fun wz hwz => ?_)) ?_
  rotate_left
  · (obtain ⟨hcz, hfz⟩ := bcell hwz; go_simp; try (with_reducible rfl))
  (simp only [Act.put]); (try simp only [List.setIfInBounds_toArray]); (try simp only [List.set_cons_succ]); (try simp only [List.set_cons_zero])
  refine WpX.takeD 2 (some 28) (v := ?_) rfl rfl (by kernel_rfl) (fun _ _ _ h => h) (.val rfl (fun wz hwz => ?_)) ?_
  rotate_left
  · go_simp; try (with_reducible rfl)
  (simp only [Act.put]); (try simp only [List.setIfInBounds_toArray]); (try simp only [List.set_cons_succ]); (try simp only [List.set_cons_zero])
  refine WpX.takeD 3 (some 29) (v := ?_) rfl rfl (by kernel_rfl) (fun _ _ _ h => h) (.val rfl (fun wz hwz => ?_)) ?_
  rotate_left
  · go_simp; try (with_reducible rfl)
  (simp only [Act.put]); (try simp only [List.setIfInBounds_toArray]); (try simp only [List.set_cons_succ]); (try simp only [List.set_cons_zero])
  refine WpX.oneD 4 (some 30) rfl rfl (by kernel_rfl) (fun v : Value => v) (fun _ wz => Below w2.heap.size w2 wz) (fun v wz => Below w2.heap.size w2 wz ∧ wz.ownsRow w2.heap.size 28 2 v pp.length (cellsE (esK pp))) (Turns.call rfl (fun _ _ h => h) (fun _ _ h => h.1) (fun _ _ _ h hb => ⟨bl_call h.1 (Nat.le_refl _) hb, own_call h.2 hb⟩) (fun wz hS => (HPW.out wz).mono fun e w' ⟨v, he, ho, hb⟩ => ⟨v, he, bl_call hS (Nat.le_refl _) hb, own_mono ho hS.size⟩) (fun wz hS => by go_simp; try (with_reducible rfl))) (fun vp => ?_)
  (simp only [Act.put]); (try simp only [List.setIfInBounds_toArray]); (try simp only [List.set_cons_succ]); (try simp only [List.set_cons_zero])
  refine WpX.done (by kernel_rfl) (fun w3 hS => ?_)
  (try simp only [List.drop_succ_cons]); (try simp only [List.drop_zero]); (try simp only [Nat.reduceSub]); (try simp only [List.take_succ_cons]); (try simp only [List.take_zero])
  obtain ⟨hb3, ho⟩ := hS
  go_wp2
  go_ret2
  exact ⟨vp, rfl, own_mono ho hb00.size, bl_call hb00 (Nat.le_refl _) hb3⟩

end

end Go.Proofs.YtfhmineolncefaaDoor
