/-
 K, Reg, Kit, WideMul, FieldM, Vs: what the statements of this layer share.
-/
import Derived.OrdersHeld
import Derived.StillTail
import Derived.WalkKit
import Derived.Test.YtfbfbijkkbflkaaGreatDoorMae
import Derived.Test.YtfbfbijkkbflkaaGreatDoorMaf
namespace Go.Proofs.YtfbfbijkkbflkaaGreatDoor
open Go.RowKit Fm
set_option linter.unusedVariables false
set_option maxRecDepth 100000

structure IsF (f : Nat) : Prop where
 or : f = 1 ∨ f = 2

def lo {f : Nat} (x : Fin (Pm f)) : Int := (eK x).1
def hi {f : Nat} (x : Fin (Pm f)) : Int := (eK x).2

abbrev vK {f : Nat} (x : Fin (Pm f)) : Value := .agg #[.int .u64 (lo x), .int .u64 (hi x)]

theorem lo_hi {f : Nat} (x : Fin (Pm f)) : (lo x, hi x) = eK x := rfl
theorem lo_0 {f : Nat} (x : Fin (Pm f)) : 0 ≤ lo x := (okE_eK x).1
theorem lo_1 {f : Nat} (x : Fin (Pm f)) : lo x ≤ 18446744073709551615 := (okE_eK x).2.1
theorem hi_0 {f : Nat} (x : Fin (Pm f)) : 0 ≤ hi x := (okE_eK x).2.2.1
theorem hi_1 {f : Nat} (x : Fin (Pm f)) : hi x ≤ 18446744073709551615 := (okE_eK x).2.2.2
theorem lohi_inj {f : Nat} {x y : Fin (Pm f)} (h : lo x = lo y) (h' : hi x = hi y) : x = y := eK_inj (Prod.ext h h')

theorem lo_zero {f : Nat} : lo (0 : Fin (Pm f)) = 0 := by unfold lo; rw [eK_zero]
theorem hi_zero {f : Nat} : hi (0 : Fin (Pm f)) = 0 := by unfold hi; rw [eK_zero]
theorem lo_one {f : Nat} : lo (1 : Fin (Pm f)) = 1 := by unfold lo; rw [eK_one]
theorem hi_one {f : Nat} : hi (1 : Fin (Pm f)) = 0 := by unfold hi; rw [eK_one]

theorem FM.ofN {f : Nat} (hf : IsF f) : FM (f : Int) (Pm f : Int) := by
 rcases hf.or with rfl | rfl
 ·exact ⟨.inl ⟨rfl, by rw [Pm_one]; rfl⟩⟩
 ·exact ⟨.inr ⟨rfl, by rw [Pm_two]; rfl⟩⟩

theorem nI_nE {f : Nat} (a0 a1 : Int) : nI (f : Int) a0 a1 = nE f (a0, a1) := by
 unfold nI nE
 by_cases h : f = 1
 ·subst h; rfl
 ·rw [if_neg (by omega), if_neg h]

abbrev kL (f : Nat) (a0 a1 : Int) : Fin (Pm f) := kE f (a0, a1)
theorem kL_lohi {f : Nat} (x : Fin (Pm f)) : kL f (lo x) (hi x) = x := by
 show kE f (lo x, hi x) = x
 rw [lo_hi, kE_eK]
theorem kL_zero {f : Nat} : kL f 0 0 = 0 := kE_zero
theorem kL_one {f : Nat} : kL f 1 0 = 1 := kE_one

theorem val_kI {f : Nat} (n : Int) : (((kI (Pm f) n).val : Nat) : Int) = n % (Pm f : Int) := kI_val n
theorem kI_nI {f : Nat} (a0 a1 : Int) : kI (Pm f) (nI (f : Int) a0 a1) = kL f a0 a1 := by
 unfold kL kE
 rw [nI_nE]

theorem eK_kI {f : Nat} (n : Int) : eK (kI (Pm f) n) = eN (n % (Pm f : Int)) := by
 unfold eK
 rw [val_kI]

def RetK {f : Nat} (x : Fin (Pm f)) (w : World) (e : Ending) (w' : World) : Prop := e = .returned (vK x) ∧ Below w.heap.size w w'

theorem RetE.toK {f : Nat} {n : Int} {w : World} {e : Ending} {w' : World} (h : RetE (n % (Pm f : Int)) w e w') {x : Fin (Pm f)} (hx : kI (Pm f) n = x) : RetK x w e w' := by
 obtain ⟨x0, x1, rfl, ⟨h0, h1, h2, h3⟩, HX, hb⟩ := h
 refine ⟨?_, hb⟩
 have he := eN_of HX.out h0 h1
 rw [← eK_kI, hx] at he
 have e0 : x0 = lo x := congrArg Prod.fst he
 have e1 : x1 = hi x := congrArg Prod.snd he
 rw [e0, e1]

section
variable {f : Nat} (hf : IsF f)
include hf

theorem field_AddL (a0 a1 b0 b1 : Int) (w : World) (h0 : 0 ≤ a0) (h1 : a0 ≤ 18446744073709551615) (k0 : 0 ≤ a1) (k1 : a1 ≤ 18446744073709551615)
  (g0 : 0 ≤ b0) (g1 : b0 ≤ 18446744073709551615) (j0 : 0 ≤ b1) (j1 : b1 ≤ 18446744073709551615) :
  Calls Tryz.prog 51 #[.int .u8 f, .agg #[.int .u64 a0, .int .u64 a1], .agg #[.int .u64 b0, .int .u64 b1]] w (RetK (kL f a0 a1 + kL f b0 b1) w) :=
 (field_Add f _ a0 a1 b0 b1 w (FM.ofN hf) h0 h1 k0 k1 g0 g1 j0 j1).mono fun _ _ h => h.toK (by rw [kI_add, kI_nI, kI_nI])
theorem field_SubL (a0 a1 b0 b1 : Int) (w : World) (h0 : 0 ≤ a0) (h1 : a0 ≤ 18446744073709551615) (k0 : 0 ≤ a1) (k1 : a1 ≤ 18446744073709551615)
  (g0 : 0 ≤ b0) (g1 : b0 ≤ 18446744073709551615) (j0 : 0 ≤ b1) (j1 : b1 ≤ 18446744073709551615) :
  Calls Tryz.prog 62 #[.int .u8 f, .agg #[.int .u64 a0, .int .u64 a1], .agg #[.int .u64 b0, .int .u64 b1]] w (RetK (kL f a0 a1 - kL f b0 b1) w) :=
 (field_Sub f _ a0 a1 b0 b1 w (FM.ofN hf) h0 h1 k0 k1 g0 g1 j0 j1).mono fun _ _ h => h.toK (by rw [kI_sub, kI_nI, kI_nI])

theorem field_AddK (x y : Fin (Pm f)) (w : World) : Calls Tryz.prog 51 #[.int .u8 f, vK x, vK y] w (RetK (x + y) w) := by
 have h := field_AddL hf (lo x) (hi x) (lo y) (hi y) w (lo_0 x) (lo_1 x) (hi_0 x) (hi_1 x) (lo_0 y) (lo_1 y) (hi_0 y) (hi_1 y)
 rwa [kL_lohi, kL_lohi] at h
theorem field_SubK (x y : Fin (Pm f)) (w : World) : Calls Tryz.prog 62 #[.int .u8 f, vK x, vK y] w (RetK (x - y) w) := by
 have h := field_SubL hf (lo x) (hi x) (lo y) (hi y) w (lo_0 x) (lo_1 x) (hi_0 x) (hi_1 x) (lo_0 y) (lo_1 y) (hi_0 y) (hi_1 y)
 rwa [kL_lohi, kL_lohi] at h

theorem ref_OfL (a0 a1 : Int) (w : World) (h0 : 0 ≤ a0) (h1 : a0 ≤ 18446744073709551615) (k0 : 0 ≤ a1) (k1 : a1 ≤ 18446744073709551615) :
  Calls Tryz.prog 44 #[.int .i64 f, .agg #[.int .u64 a0, .int .u64 a1]] w (RetK (kL f a0 a1) w) := by
 obtain ⟨p0, p1, hr⟩ := (FM.ofN hf).ref
 exact (ref_Of f _ p0 p1 a0 a1 w hr h0 h1 k0 k1).mono fun _ _ h => h.toK (by rw [kI_nI])
end

/-! ### lists of elements -/
abbrev KL (f : Nat) := List (Fin (Pm f))
def esK {f : Nat} (l : KL f) : List E := l.map eK
theorem esK_length {f : Nat} (l : KL f) : (esK l).length = l.length := by unfold esK; rw [List.length_map]
theorem esK_ok {f : Nat} (l : KL f) : ∀ e, e ∈ esK l → okE e := by
 intro e he
 unfold esK at he
 rw [List.mem_map] at he
 obtain ⟨x, _, rfl⟩ := he
 exact okE_eK x
theorem esK_at {f : Nat} {l : KL f} {i : Nat} {x : Fin (Pm f)} (h : l[i]? = some x) : (esK l)[i]? = some (eK x) := by unfold esK; rw [List.getElem?_map, h]; rfl
theorem esK_append {f : Nat} (l m : KL f) : esK (l ++ m) = esK l ++ esK m := by unfold esK; rw [List.map_append]
def SlK {f : Nat} (w : World) (B : Nat) (v : Value) (l : KL f) : Prop :=
 ∃ (A : Option Addr) (c : Nat), v = .slice A l.length c ∧ l.length ≤ c ∧ c ≤ 9223372036854775807 ∧ (0 < l.length → ∃ b o, A = some ⟨b, o, none⟩ ∧ b < B ∧ RowE w b o (esK l))
theorem SlK.toE {f : Nat} {w : World} {B : Nat} {v : Value} {l : KL f} (h : SlK w B v l) : SlE w B v (esK l) := by
 obtain ⟨A, c, hv, h1, h2, h3⟩ := h
 exact ⟨⟨A, c, by rw [esK_length]; exact hv, by rw [esK_length]; exact h1, h2, by rw [esK_length]; exact h3⟩, esK_ok l⟩
theorem SlE.toK {f : Nat} {w : World} {B : Nat} {v : Value} {l : KL f} (h : SlE w B v (esK l)) : SlK w B v l := by
 obtain ⟨⟨A, c, hv, h1, h2, h3⟩, _⟩ := h
 rw [esK_length] at hv h1 h3
 exact ⟨A, c, hv, h1, h2, h3⟩
theorem SlK.below {f : Nat} {w w' : World} {B : Nat} {v : Value} {l : KL f} (h : SlK w B v l) (hb : Below B w w') : SlK w' B v l := (h.toE.below hb).toK
theorem SlK.mono {f : Nat} {w : World} {B B' : Nat} {v : Value} {l : KL f} (h : SlK w B v l) (hB : B ≤ B') : SlK w B' v l := (h.toE.mono hB).toK
theorem SlK.later {f : Nat} {w w' : World} {v : Value} {l : KL f} (h : SlK w w.heap.size v l) (hb : Below w.heap.size w w') : SlK w' w'.heap.size v l := (h.below hb).mono hb.size
theorem RowE.kat {f : Nat} {w : World} {b o : Nat} {l : KL f} (h : RowE w b o (esK l)) {i : Nat} {x : Fin (Pm f)} (hx : l[i]? = some x) :
  w.cell? ⟨b, o + i * 2, none⟩ = some (.int .u64 (lo x)) ∧ w.cell? ⟨b, o + i * 2 + 1, none⟩ = some (.int .u64 (hi x)) := h i _ (esK_at hx)

end Go.Proofs.YtfbfbijkkbflkaaGreatDoor

namespace Go.Proofs.YtfbfbijkkbflkaaGreatDoor
open Go Go.RowKit

theorem Zp (a : Act) (t : Tmp) (v : Value) : a.put (some t) v = { a with tmps := a.tmps.setIfInBounds t v } := rfl
theorem Zq {α : Type} (l : List α) (i : Nat) (x : α) : l.toArray.setIfInBounds i x = (l.set i x).toArray := by simp
theorem Zr {α : Type} (y : α) (l : List α) (n : Nat) (x : α) : (y :: l).set (n + 1) x = y :: l.set n x := rfl
theorem Zs {α : Type} (y : α) (l : List α) (x : α) : (y :: l).set 0 x = x :: l := rfl

section
variable {P : Program} {ops : Array Oper} {Q : Exit → Act → World → Prop} {md : Region.Mode} {W0 : World → Prop} {S : Array Bool → Act → World → Prop}

def UponV (P : Program) (R : Value → World → Prop) : Result Next → Prop
 | .ok (.value v) w' => R v w'
 | .ok (.enter f args) w' => Calls P f args w' (fun e w'' => ∃ v, e = .returned v ∧ R v w'')
 | _ => False

theorem UponV.upon {R : Value → World → Prop} {o : Oper} {a : Act} {K : Act → World → Prop} {r : Result Next} (h : UponV P R r) (hK : ∀ v w', R v w' → K (a.put o.dst v) w') : o.upon P a K Q r := by
 cases r with
 | ok n w' =>
  cases n
  case value v => exact hK v w' h
  case enter f args =>
   refine Calls.mono (show Calls P f args w' (fun e w'' => ∃ v, e = .returned v ∧ R v w'') from h) fun e w'' he => ?_
   obtain ⟨v, rfl, hr⟩ := he
   exact hK v w'' hr
  all_goals exact False.elim h
 | halt x w' => exact False.elim h

def Det (P : Program) (ops : Array Oper) (W0 : World → Prop) (o : Oper) (v : Value) (a : Act) : Prop :=
 (Region.wanted o (yielded ops a.tmps) = true ∧ ∀ w, W0 w → UponV P (fun u w' => u = v ∧ Below w.heap.size w w') ((execOp a.eval o).run P w)) ∨
 (Region.wanted o (yielded ops a.tmps) = false ∧ v = undef)

theorem Det.wpOp {i : Nat} {o : Oper} {v : Value} {a : Act} (hi : ops[i]? = some o) (hy : Det P ops W0 o v a) {K : Act → World → Prop} {w : World} (hw : W0 w)
  (h : ∀ w', Below w.heap.size w w' → K (a.put o.dst v) w') : wpOp P ops Q i K a w := by
 unfold Go.wpOp
 simp only [hi]
 rcases hy with ⟨hwt, hv⟩ | ⟨hwt, rfl⟩
 ·simp only [hwt, if_true]
  refine .inl ?_
  unfold Oper.wp
  refine (hv w hw).upon ?_
  rintro u w' ⟨rfl, hb⟩
  exact h w' hb
 ·simp only [hwt, Bool.false_eq_true, if_false]
  exact h w (Below.refl _ _)

theorem Det.of_same {o : Oper} {v : Value} {a a' : Act} (hy : Det P ops W0 o v a) (he : execOp a'.eval o = execOp a.eval o)
  (hw : Region.wanted o (yielded ops a'.tmps) = Region.wanted o (yielded ops a.tmps)) : Det P ops W0 o v a' := by
 unfold Det at *
 rw [he, hw]
 exact hy

def Trod (o : Oper) (a a' : Act) : Prop := ∃ ds u, a' = ({ a with defers := ds } : Act).put o.dst u

theorem upon_track {o : Oper} {a : Act} {K : Act → World → Prop} {r : Result Next} (h : o.upon P a K Q r) : o.upon P a (fun a' w' => Trod o a a' ∧ K a' w') Q r := by
 cases r with
 | ok n w' =>
  cases n <;> simp only [Oper.upon] at h ⊢
  case value v => exact ⟨⟨a.defers, v, rfl⟩, h⟩
  case skip => exact ⟨⟨a.defers, _, rfl⟩, h⟩
  case defer d => exact ⟨⟨_, _, rfl⟩, h⟩
  case enter f args =>
   refine Calls.mono h fun e w'' he => ?_
   cases e with
   | returned u => exact ⟨⟨a.defers, u, rfl⟩, he⟩
   | panicked c => exact he
   | outgrown => exact he
  case row r args => exact Rows.mono h fun v w'' he => ⟨⟨a.defers, v, rfl⟩, he⟩
 | halt x w' => cases x <;> simp only [Oper.upon] at h ⊢ <;> exact h

theorem wpOp_track {j : Nat} {oj : Oper} (hj : ops[j]? = some oj) {a : Act} {w : World} {K : Act → World → Prop} (h : wpOp P ops Q j K a w) : wpOp P ops Q j (fun a' w' => Trod oj a a' ∧ K a' w') a w := by
 unfold wpOp at *
 simp only [hj] at *
 split
 ·rename_i hw
  simp only [hw, if_true] at h
  exact h.imp upon_track id
 ·rename_i hw
  simp only [hw] at h
  exact ⟨⟨a.defers, _, rfl⟩, h⟩

theorem Det.trod {oi oj : Oper} {v : Value} {a a' : Act} (hsi : ∀ cs b, oi.op ≠ .select cs b) (hap : oi.apart ops oj = true) (hy : Det P ops W0 oi v a) (ht : Trod oj a a') : Det P ops W0 oi v a' := by
 obtain ⟨ds, u, rfl⟩ := ht
 obtain ⟨_, _, h3⟩ := Oper.apart_spec hap
 have h0 : Det P ops W0 oi v ({ a with defers := ds } : Act) := hy.of_same rfl rfl
 exact h0.of_same (execOp_put oi hsi _ oj.dst u h3) (wanted_put oi _ oj.dst u h3)

theorem wpOp_putDet {j : Nat} {oi oj : Oper} {v : Value} (hj : ops[j]? = some oj) (hap : oi.apart ops oj = true)
  (hsi : ∀ cs b, oi.op ≠ .select cs b) (hsj : ∀ cs b, oj.op ≠ .select cs b)
  (hQ : ∀ c a w, Q (.panic c) (a.put oi.dst v) w → Q (.panic c) a w) {K : Act → World → Prop} {a : Act} {w : World}
  (hy : Det P ops W0 oi v a) (h : wpOp P ops Q j K (a.put oi.dst v) w) :
  wpOp P ops Q j (fun a' w' => Det P ops W0 oi v a' ∧ K (a'.put oi.dst v) w') a w := by
 have hf : YieldsIf P ops (fun _ => False) oi v a := hy.imp (fun h => ⟨h.1, fun _ hF => hF.elim⟩) id
 have h1 := wpOp_track hj (wpOp_putIf hj hap hsi hsj hQ hf h)
 exact wpOp_mono (fun a' w' h2 => ⟨hy.trod hsi hap h2.1, h2.2.2⟩) h1

structure RegS (W0 : World → Prop) (S : Array Bool → Act → World → Prop) : Prop where
 toW : ∀ l a w, S l a w → W0 w
 ext : ∀ l a w w', S l a w → Below w.heap.size w w' → S l a w'

structure HInv (md : Region.Mode) (ops : Array Oper) (n m : Nat) (listed : Array Bool) : Prop where
 size : listed.size = ops.size
 closed : ∀ j oj, ops[j]? = some oj → listed.getD j false = true → ∀ e ∈ oj.after, Region.binds md e = true → listed.getD e.on false = true
 tail : ∀ t, n ≤ t → t < m → listed.getD t true = false
 post : ∀ t, m ≤ t → t < ops.size → listed.getD t true = true

def chainTo (md : Region.Mode) (ops : Array Oper) (n m : Nat) : Bool := (List.range m).all fun t => decide (t ≤ n) || Region.waitsFor md ops t (t - 1)

def closedB (md : Region.Mode) (ops : Array Oper) (listed : Array Bool) : Bool :=
 (List.range ops.size).all fun j => !listed.getD j false || match ops[j]? with
  | some oj => oj.after.all fun e => !Region.binds md e || listed.getD e.on false
  | none => true

def partsB (md : Region.Mode) (ops : Array Oper) (n m : Nat) (listed : Array Bool) : Bool :=
 Region.noSelect ops && decide (n ≤ m) && decide (m ≤ ops.size) && decide (listed.size = ops.size) && closedB md ops listed && (decide (ops.size ≤ n) || Region.sinkB md ops n) && chainTo md ops n m &&
  ((List.range ops.size).all fun t => (decide (t < n) || decide (m ≤ t) || !listed.getD t true) && (decide (t < m) || listed.getD t true))

structure Parts (md : Region.Mode) (ops : Array Oper) (n m : Nat) : Prop where
 nosel : Region.noSelect ops = true
 lt : n ≤ m
 le : m ≤ ops.size
 sink : ops.size ≤ n ∨ Region.sinkB md ops n = true
 chain : chainTo md ops n m = true

theorem parts_of {n m : Nat} {listed : Array Bool} (h : partsB md ops n m listed = true) : Parts md ops n m ∧ HInv md ops n m listed := by
 simp only [partsB, Bool.and_eq_true, decide_eq_true_eq] at h
 obtain ⟨⟨⟨⟨⟨⟨⟨h1, h2⟩, h3⟩, h4⟩, h5⟩, h6⟩, h7⟩, h8⟩ := h
 refine ⟨⟨h1, h2, h3, by simpa using h6, h7⟩, h4, ?_, ?_, ?_⟩
 ·intro j oj hj hl e he hb
  have hlt := (Array.getElem?_eq_some_iff.1 hj).1
  have h := List.all_eq_true.1 h5 j (List.mem_range.2 hlt)
  simp only [hl, hj, Bool.not_true, Bool.false_or] at h
  have h' := Array.all_eq_true_iff_forall_mem.1 h e he
  simpa [hb] using h'
 ·intro t ht htm
  have h := List.all_eq_true.1 h8 t (List.mem_range.2 (by omega))
  simp only [Bool.and_eq_true, Bool.or_eq_true, decide_eq_true_eq] at h
  rcases h.1 with (h' | h') | h'
  ·omega
  ·omega
  ·simpa using h'
 ·intro t ht hts
  have h := List.all_eq_true.1 h8 t (List.mem_range.2 hts)
  simp only [Bool.and_eq_true, Bool.or_eq_true, decide_eq_true_eq] at h
  rcases h.2 with h' | h'
  ·omega
  ·exact h'

theorem HInv.set {n m i : Nat} {listed : Array Bool} (inv : HInv md ops n m listed) (hi : i ∈ Region.ready md ops listed) (hin : i < n) (hnm : n ≤ m) : HInv md ops n m (listed.setIfInBounds i true) := by
 obtain ⟨_, oi, hoi, hall⟩ := mem_ready.1 hi
 refine ⟨by simp [inv.size], fun j oj hj hl e he hb => ?_, fun t ht ht' => by rw [getD_set_ne true (by omega)]; exact inv.tail t ht ht', fun t ht ht' => by rw [getD_set_ne true (by omega)]; exact inv.post t ht ht'⟩
 by_cases hij : i = j
 ·subst hij
  have : oj = oi := Option.some.inj (hj.symm.trans hoi)
  subst this
  exact getD_set_true (hall e he hb)
 ·rw [getD_set_ne false hij] at hl
  exact getD_set_true (inv.closed j oj hj hl e he hb)

theorem head_only {n m : Nat} {listed : Array Bool} (hp : Parts md ops n m) (inv : HInv md ops n m listed) :
  ∀ (d i : Nat), n - i = d → i < n → listed.getD i true = false → ∀ t, n ≤ t → t ∉ Region.ready md ops listed := by
 intro d
 induction d using Nat.strongRecOn with
 | _ d ih =>
  intro i hd hi hun t ht hr
  obtain ⟨hu, ot, hot, hall⟩ := mem_ready.1 hr
  have htlt : t < ops.size := (Array.getElem?_eq_some_iff.1 hot).1
  have htm : t < m := by
   rcases Nat.lt_or_ge t m with h | h
   ·exact h
   ·rw [inv.post t h htlt] at hu
    cases hu
  by_cases htn : t = n
  ·subst htn
   have hsk : Region.sinkB md ops t = true := hp.sink.resolve_left (by omega)
   obtain ⟨j, hj, hj2⟩ := List.any_eq_true.1 (List.all_eq_true.1 hsk i (List.mem_range.2 hi))
   simp only [Bool.and_eq_true, decide_eq_true_eq] at hj2
   obtain ⟨oj, hoj, e, he, hb, hon⟩ := Region.waitsFor_spec hj2.2
   have hjle : j ≤ t := by have := List.mem_range.1 hj; omega
   by_cases hjt : j = t
   ·subst hjt
    have : oj = ot := Option.some.inj (hoj.symm.trans hot)
    subst this
    have h2 := hall e he hb
    rw [hon, getD_both hun] at h2
    cases h2
   ·cases hl : listed.getD j false with
    | true =>
     have h2 := inv.closed j oj hoj hl e he hb
     rw [hon, getD_both hun] at h2
     cases h2
    | false =>
     have hjs : j < listed.size := by rw [inv.size]; omega
     exact ih (t - j) (by omega) j rfl (by omega) (getD_in hjs hl) t (Nat.le_refl _) hr
  ·have h1 := List.all_eq_true.1 hp.chain t (List.mem_range.2 htm)
   simp only [Bool.or_eq_true, decide_eq_true_eq] at h1
   rcases h1 with h1 | h1
   ·omega
   ·obtain ⟨o', ho', e, he, hb, hon⟩ := Region.waitsFor_spec h1
    have : o' = ot := Option.some.inj (ho'.symm.trans hot)
    subst this
    have h2 := hall e he hb
    rw [hon, getD_both (inv.tail (t - 1) (by omega) (by omega))] at h2
    cases h2

def wpH (P : Program) (md : Region.Mode) (ops : Array Oper) (Q : Exit → Act → World → Prop) (n m : Nat) (S : Array Bool → Act → World → Prop) (L : Act → World → Prop) : Nat → Array Bool → Act → Prop
 | 0, listed, a => Region.seqB md ops (m - n) n listed = true ∧ ∀ w, S listed a w → L a w
 | f + 1, listed, a =>
  Region.ready md ops listed ≠ [] ∧
  ∀ i ∈ Region.ready md ops listed, i < n ∧ ∀ w, S listed a w → wpOp P ops Q i (fun a' w' => S (listed.setIfInBounds i true) a' w' ∧ wpH P md ops Q n m S L f (listed.setIfInBounds i true) a') a w

theorem wpAny_of_H {n m : Nat} {L : Act → World → Prop} (hL : ∀ listed a w, Region.seqB md ops (m - n) n listed = true → L a w → wpAny P md ops Q (m - n) listed a w) :
  ∀ (f : Nat) (listed : Array Bool) (a : Act), wpH P md ops Q n m S L f listed a → ∀ w, S listed a w → wpAny P md ops Q (f + (m - n)) listed a w
 | 0, listed, a, h, w, hS => by rw [Nat.zero_add]; exact hL _ _ _ h.1 (h.2 w hS)
 | f + 1, listed, a, h, w, hS => by
  rw [show f + 1 + (m - n) = (f + (m - n)) + 1 by omega]
  exact ⟨fun h0 => absurd h0 h.1, fun i hi => wpOp_mono (fun a' w' h' => wpAny_of_H hL f _ a' h'.2 w' h'.1) ((h.2 i hi).2 w hS)⟩

theorem wpH_first {n m : Nat} {L : Act → World → Prop} (hR : RegS W0 S) (hp : Parts md ops n m) {i : Nat} {oi : Oper} {v : Value} (hi : ops[i]? = some oi) (hin : i < n)
  (hQ : ∀ c a w, Q (.panic c) (a.put oi.dst v) w → Q (.panic c) a w)
  (hup : ∀ l a w, S l a w → S (l.setIfInBounds i true) (a.put oi.dst v) w) (hdn : ∀ l a w, S (l.setIfInBounds i true) (a.put oi.dst v) w → S l a w) :
  ∀ (f : Nat) (listed : Array Bool) (a : Act), HInv md ops n m listed →
   (∀ j oj, ops[j]? = some oj → j ≠ i → listed.getD j true = false → (∀ e ∈ oj.after, Region.binds md e = true → e.on ≠ i) → oi.apart ops oj = true) →
   i ∈ Region.ready md ops listed → Det P ops W0 oi v a →
   wpH P md ops Q n m S L f (listed.setIfInBounds i true) (a.put oi.dst v) → wpH P md ops Q n m S L (f + 1) listed a := by
 have hsel := Region.noSelect_spec hp.nosel
 intro f
 induction f with
 | zero =>
  intro listed a inv _ hr hy H
  have hun := (mem_ready.1 hr).1
  refine ⟨fun h => (by rw [h] at hr; cases hr), fun j hj => ?_⟩
  have hjn : j < n := by
   rcases Nat.lt_or_ge j n with h | h
   ·exact h
   ·exact absurd hj (head_only hp inv _ i rfl hin hun j h)
  refine ⟨hjn, fun w hS => ?_⟩
  by_cases hji : j = i
  ·subst hji
   exact hy.wpOp hi (hR.toW _ _ _ hS) fun w' hb => ⟨hup _ _ _ (hR.ext _ _ _ _ hS hb), H⟩
  ·have := seqB_ready H.1 j (ready_mono hj hji)
   omega
 | succ f ih =>
  intro listed a inv hfree hr hy H
  have hun := (mem_ready.1 hr).1
  refine ⟨fun h => (by rw [h] at hr; cases hr), fun j hj => ?_⟩
  have hjn : j < n := by
   rcases Nat.lt_or_ge j n with h | h
   ·exact h
   ·exact absurd hj (head_only hp inv _ i rfl hin hun j h)
  refine ⟨hjn, fun w hS => ?_⟩
  by_cases hji : j = i
  ·subst hji
   exact hy.wpOp hi (hR.toW _ _ _ hS) fun w' hb => ⟨hup _ _ _ (hR.ext _ _ _ _ hS hb), H⟩
  ·have h1 := (H.2 j (ready_mono hj hji)).2 w (hup _ _ _ hS)
   obtain ⟨hjun, oj, hoj, hall⟩ := mem_ready.1 hj
   have hnot : ∀ e ∈ oj.after, Region.binds md e = true → e.on ≠ i := fun e he hb heq => by
    have h1 := hall e he hb
    rw [heq, getD_both hun] at h1
    cases h1
   have h2 := wpOp_putDet hoj (hfree j oj hoj hji hjun hnot) (fun cs b => hsel i oi cs b hi) (fun cs b => hsel j oj cs b hoj) hQ hy h1
   have hfree' : ∀ k ok, ops[k]? = some ok → k ≠ i → (listed.setIfInBounds j true).getD k true = false →
     (∀ e ∈ ok.after, Region.binds md e = true → e.on ≠ i) → oi.apart ops ok = true := fun k ok hk hki hu hno => by
    refine hfree k ok hk hki ?_ hno
    by_cases hjk : j = k
    ·subst hjk
     exact hjun
    ·rw [getD_set_ne true hjk] at hu
     exact hu
   refine wpOp_mono (fun a' w' h3 => ?_) h2
   have hcomm : (listed.setIfInBounds i true).setIfInBounds j true = (listed.setIfInBounds j true).setIfInBounds i true := (Array.setIfInBounds_comm _ _ hji).symm
   rw [hcomm] at h3
   exact ⟨hdn _ _ _ h3.2.1, ih (listed.setIfInBounds j true) a' (inv.set hj hjn hp.lt) hfree' (ready_mono hr (Ne.symm hji)) h3.1 h3.2.2⟩

def WpH (P : Program) (md : Region.Mode) (ops : Array Oper) (Q : Exit → Act → World → Prop) (n m : Nat) (S : Array Bool → Act → World → Prop) (L : Act → World → Prop) (f : Nat) (listed : Array Bool) (a : Act) : Prop :=
 Parts md ops n m → HInv md ops n m listed → wpH P md ops Q n m S L f listed a

theorem WpH.take {n m : Nat} {L : Act → World → Prop} (hR : RegS W0 S) {i : Nat} {oi : Oper} {v : Value} {f : Nat} {listed : Array Bool} {a : Act} (hi : ops[i]? = some oi)
  (hB : (decide (i < n) && Region.free md ops listed i && (Region.ready md ops listed).contains i) = true)
  (hQ : ∀ c a w, Q (.panic c) (a.put oi.dst v) w → Q (.panic c) a w)
  (hup : ∀ l a w, S l a w → S (l.setIfInBounds i true) (a.put oi.dst v) w) (hdn : ∀ l a w, S (l.setIfInBounds i true) (a.put oi.dst v) w → S l a w)
  (hy : Det P ops W0 oi v a)
  (h : WpH P md ops Q n m S L f (listed.setIfInBounds i true) (a.put oi.dst v)) : WpH P md ops Q n m S L (f + 1) listed a := by
 simp only [Bool.and_eq_true, decide_eq_true_eq] at hB
 obtain ⟨⟨hin, hf⟩, hr⟩ := hB
 have hr' : i ∈ Region.ready md ops listed := by simpa using hr
 exact fun hp inv => wpH_first hR hp hi hin hQ hup hdn f listed a inv (Region.free_spec hi hf) hr' hy (h hp (inv.set hr' hin hp.lt))

theorem WpH.one {n m : Nat} {L : Act → World → Prop} {i : Nat} {f : Nat} {listed : Array Bool} {a : Act}
  (hB : (decide (i < n) && decide (Region.ready md ops listed = [i])) = true)
  (h : ∀ w, S listed a w → wpOp P ops Q i (fun a' w' => S (listed.setIfInBounds i true) a' w' ∧ WpH P md ops Q n m S L f (listed.setIfInBounds i true) a') a w) : WpH P md ops Q n m S L (f + 1) listed a := by
 simp only [Bool.and_eq_true, decide_eq_true_eq] at hB
 obtain ⟨hin, hr⟩ := hB
 intro hp inv
 refine ⟨by rw [hr]; simp, fun j hj => ?_⟩
 have hj' : j = i := by rw [hr] at hj; simpa using hj
 subst hj'
 exact ⟨hin, fun w hS => wpOp_mono (fun a' w' h' => ⟨h'.1, h'.2 hp (inv.set hj hin hp.lt)⟩) (h w hS)⟩

theorem WpH.done {n m : Nat} {L : Act → World → Prop} {listed : Array Bool} {a : Act} (hB : Region.seqB md ops (m - n) n listed = true) (h : ∀ w, S listed a w → L a w) : WpH P md ops Q n m S L 0 listed a :=
 fun _ _ => ⟨hB, h⟩

theorem any_of_tail {Q' : Exit → Act → World → Prop} : ∀ (l : List Oper) (k : Nat) (listed : Array Bool) (a : Act) (w : World), (∀ j, j < l.length → l[j]? = ops[k + j]?) →
  Region.seqB md ops l.length k listed = true → wpList P ops Q' l a w → wpAny P md ops Q' l.length listed a w
 | [], _, _, _, _, _, hB, h => ⟨by simpa [Region.seqB] using hB, h⟩
 | o :: l, k, listed, a, w, hl, hB, h => by
  have h0 : ops[k]? = some o := by simpa using (hl 0 (by simp)).symm
  simp only [List.length_cons, Region.seqB, Bool.and_eq_true, decide_eq_true_eq] at hB
  refine ⟨fun h1 => (by rw [hB.1] at h1; cases h1), fun i hi => ?_⟩
  rw [hB.1] at hi
  have hik : i = k := by simpa using hi
  subst hik
  have hw : wpOp P ops Q' i (wpList P ops Q' l) a w := by
   unfold wpOp
   simp only [h0]
   exact h
  refine wpOp_mono (fun a' w' h' => any_of_tail l (i + 1) _ a' w' (fun j hj => ?_) hB.2 h') hw
  have := hl (j + 1) (by simp; omega)
  simpa [Nat.add_assoc, Nat.add_comm 1 j] using this

theorem any_H {l : List Oper} {n m f : Nat} {listed : Array Bool} {a : Act} {w : World} (hB : partsB md l.toArray n m listed = true) (hS : S listed a w)
  (h : WpH P md l.toArray Q n m S (wpList P l.toArray Q ((l.drop n).take (m - n))) f listed a) : wpAny P md l.toArray Q (f + (m - n)) listed a w := by
 obtain ⟨hp, inv⟩ := parts_of hB
 refine wpAny_of_H (L := wpList P l.toArray Q ((l.drop n).take (m - n))) (fun listed' a' w' hq hl => ?_) f listed a (h hp inv) w hS
 have hlen : ((l.drop n).take (m - n)).length = m - n := by
  have := hp.le
  simp at this ⊢
  omega
 have := any_of_tail (P := P) (md := md) (ops := l.toArray) (Q' := Q) ((l.drop n).take (m - n)) n listed' a' w' (fun j hj => ?_) (by rw [hlen]; exact hq) hl
 ·rwa [hlen] at this
 ·rw [hlen] at hj
  simp [hj]

theorem region_H {id n m f : Nat} {l : List Oper} {a : Act} {w : World} (hm : P.follows .mixedOrders = true) (hB : partsB .any l.toArray n m (Array.replicate l.length false) = true) (hf : f + (m - n) = l.length)
  (hS : S (Array.replicate l.length false) a w.drew)
  (h : WpH P .any l.toArray Q n m S (wpList P l.toArray Q ((l.drop n).take (m - n))) f (Array.replicate l.length false) a) : (Code.region id l.toArray true).wp P Q a w := by
 refine wp_region_any hm ?_
 have := any_H hB hS h
 rw [hf] at this
 simpa using this
end

def Flat (W0 : World → Prop) (_ : Array Bool) (_ : Act) (w : World) : Prop := W0 w
theorem RegS.flat {W0 : World → Prop} (h : ∀ w w', W0 w → Below w.heap.size w w' → W0 w') : RegS W0 (Flat W0) := ⟨fun _ _ _ hS => hS, fun _ _ w w' hS hb => h w w' hS hb⟩

theorem Det.val {P : Program} {ops : Array Oper} {W0 : World → Prop} {o : Oper} {v : Value} {a : Act} (hw : Region.wanted o (yielded ops a.tmps) = true) (h : ∀ w, W0 w → (execOp a.eval o).run P w = .ok (.value v) w) : Det P ops W0 o v a :=
 .inl ⟨hw, fun w hW => by rw [h w hW]; exact ⟨rfl, Below.refl _ _⟩⟩
theorem Det.call {P : Program} {ops : Array Oper} {W0 : World → Prop} {o : Oper} {v : Value} {a : Act} {f : FuncId} {args : Array Value} (hw : Region.wanted o (yielded ops a.tmps) = true)
  (hc : ∀ w, W0 w → Calls P f args w (fun e w' => e = .returned v ∧ Below w.heap.size w w')) (h : ∀ w, W0 w → (execOp a.eval o).run P w = .ok (.enter f args) w) : Det P ops W0 o v a :=
 .inl ⟨hw, fun w hW => by rw [h w hW]; exact Calls.mono (hc w hW) fun e w' he => ⟨v, he.1, rfl, he.2⟩⟩
theorem Det.skip {P : Program} {ops : Array Oper} {W0 : World → Prop} {o : Oper} {a : Act} (hw : Region.wanted o (yielded ops a.tmps) = false) : Det P ops W0 o undef a := .inr ⟨hw, rfl⟩

/-! ### the usual form: W0 is 'all below is as it was when the region began' -/
section
variable {P : Program} {ops : Array Oper} {Q : Exit → Act → World → Prop} {md : Region.Mode} {W : World}
theorem RegS.below (W : World) : RegS (Below W.heap.size W) (Flat (Below W.heap.size W)) := .flat fun _ _ h hb => h.trans (hb.mono h.size)

theorem region_B {id n m f : Nat} {l : List Oper} {a : Act} {w : World} (hm : P.follows .mixedOrders = true) (hB : partsB .any l.toArray n m (Array.replicate l.length false) = true) (hf : f + (m - n) = l.length)
  (h : WpH P .any l.toArray Q n m (Flat (Below w.heap.size w)) (wpList P l.toArray Q ((l.drop n).take (m - n))) f (Array.replicate l.length false) a) : (Code.region id l.toArray true).wp P Q a w :=
 region_H hm hB hf (show Below w.heap.size w w.drew from (Below.refl _ _).drew) h

theorem WpH.takeB {n m : Nat} {L : Act → World → Prop} {i : Nat} {oi : Oper} {v : Value} {f : Nat} {listed : Array Bool} {a : Act} (hi : ops[i]? = some oi)
  (hB : (decide (i < n) && Region.free md ops listed i && (Region.ready md ops listed).contains i) = true)
  (hQ : ∀ c a w, Q (.panic c) (a.put oi.dst v) w → Q (.panic c) a w)
  (hy : Det P ops (Below W.heap.size W) oi v a)
  (h : WpH P md ops Q n m (Flat (Below W.heap.size W)) L f (listed.setIfInBounds i true) (a.put oi.dst v)) : WpH P md ops Q n m (Flat (Below W.heap.size W)) L (f + 1) listed a :=
 WpH.take (RegS.below W) hi hB hQ (fun _ _ _ h => h) (fun _ _ _ h => h) hy h

theorem WpH.doneB {n m : Nat} {L : Act → World → Prop} {listed : Array Bool} {a : Act} (hB : Region.seqB md ops (m - n) n listed = true) (h : ∀ w, Below W.heap.size W w → L a w) :
  WpH P md ops Q n m (Flat (Below W.heap.size W)) L 0 listed a := WpH.done hB h

theorem wpOp_value {i : Nat} {o : Oper} {v : Value} {a : Act} {w w' : World} {K : Act → World → Prop} (hi : ops[i]? = some o) (hw : Region.wanted o (yielded ops a.tmps) = true)
  (h : (execOp a.eval o).run P w = .ok (.value v) w') (hK : K (a.put o.dst v) w') : wpOp P ops Q i K a w := by
 unfold wpOp
 simp only [hi, hw, if_true]
 refine .inl ?_
 unfold Oper.wp
 rw [h]
 exact hK

def WithNew (W : World) (k : Nat) (t : Tmp) (R : Value → World → Prop) (l : Array Bool) (a : Act) (w : World) : Prop := Below W.heap.size W w ∧ (l.getD k false = true → R (a.tmps.getD t undef) w)
theorem RegS.withNew {k : Nat} {t : Tmp} {R : Value → World → Prop} (hR : ∀ v w w', R v w → Below w.heap.size w w' → R v w') : RegS (Below W.heap.size W) (WithNew W k t R) :=
 ⟨fun _ _ _ h => h.1, fun _ _ _ _ h hb => ⟨h.1.trans (hb.mono h.1.size), fun hk => hR _ _ _ (h.2 hk) hb⟩⟩
theorem withNew_put {k i : Nat} {t : Tmp} {d : Option Tmp} {v : Value} {R : Value → World → Prop} {l : Array Bool} {a : Act} {w : World} (hik : (i == k) = false) (hd : (d == some t) = false) :
  WithNew W k t R (l.setIfInBounds i true) (a.put d v) w = WithNew W k t R l a w := by
 unfold WithNew
 have h1 : (l.setIfInBounds i true).getD k false = l.getD k false := getD_set_ne false (by simpa using hik)
 have h2 : (a.put d v).tmps.getD t undef = a.tmps.getD t undef := by
  cases d with
  | none => rfl
  | some d =>
   have hdt : d ≠ t := by simpa using hd
   simp [Act.put, Array.getElem?_setIfInBounds_ne hdt]
 rw [h1, h2]

theorem WpH.takeN {n m k : Nat} {t : Tmp} {R : Value → World → Prop} {L : Act → World → Prop} (hR : ∀ v w w', R v w → Below w.heap.size w w' → R v w') {i : Nat} {oi : Oper} {v : Value} {f : Nat} {listed : Array Bool} {a : Act} (hi : ops[i]? = some oi)
  (hB : (decide (i < n) && Region.free md ops listed i && (Region.ready md ops listed).contains i) = true) (hik : (i == k) = false) (hd : (oi.dst == some t) = false)
  (hQ : ∀ c a w, Q (.panic c) (a.put oi.dst v) w → Q (.panic c) a w)
  (hy : Det P ops (Below W.heap.size W) oi v a)
  (h : WpH P md ops Q n m (WithNew W k t R) L f (listed.setIfInBounds i true) (a.put oi.dst v)) : WpH P md ops Q n m (WithNew W k t R) L (f + 1) listed a :=
 WpH.take (RegS.withNew hR) hi hB hQ (fun _ _ _ h => by rw [withNew_put hik hd]; exact h) (fun _ _ _ h => by rw [withNew_put hik hd] at h; exact h) hy h

theorem region_N {id n m f : Nat} {l : List Oper} {a : Act} {w : World} (k : Nat) (t : Tmp) (R : Value → World → Prop) (hm : P.follows .mixedOrders = true) (hB : partsB .any l.toArray n m (Array.replicate l.length false) = true) (hf : f + (m - n) = l.length)
  (h : WpH P .any l.toArray Q n m (WithNew w k t R) (wpList P l.toArray Q ((l.drop n).take (m - n))) f (Array.replicate l.length false) a) : (Code.region id l.toArray true).wp P Q a w :=
 region_H hm hB hf ⟨(Below.refl _ _).drew, fun hk => (by rw [getD_replicate_false] at hk; cases hk)⟩ h
end

end Go.Proofs.YtfbfbijkkbflkaaGreatDoor

namespace Go.Proofs.YtfbfbijkkbflkaaGreatDoor
open Go.RowKit Fm
set_option linter.unusedVariables false
set_option maxRecDepth 100000

theorem isF2 : IsF 2 := ⟨.inr rfl⟩
theorem isF1 : IsF 1 := ⟨.inl rfl⟩

def NewE (B : Nat) (v : Value) (w : World) : Prop := ∃ b, v = .pointer (some ⟨b, 0, none⟩) ∧ B ≤ b ∧ V2 w b (.int .u64 0) (.int .u64 0)
theorem newE_stable (B : Nat) : ∀ v w w', NewE B v w → Below w.heap.size w w' → NewE B v w' := fun _ _ _ ⟨b, h1, h2, h3⟩ hb => ⟨b, h1, h2, h3.call hb⟩

theorem V2.oth {w : World} {b c : Nat} {u v : Value} (h : V2 w c u v) (hne : b ≠ c) (x y : Value) : V2 ((w.setCell ⟨b, 0, none⟩ x).setCell ⟨b, 1, none⟩ y) c u v :=
 (h.setOther (by exact hne) x).setOther (by exact hne) y
theorem bl_st {B b : Nat} {a w : World} (h : Below B a w) (hp : B ≤ b) (x y : Value) : Below B a ((w.setCell ⟨b, 0, none⟩ x).setCell ⟨b, 1, none⟩ y) := bl_set (bl_set h hp x) hp y
theorem size_st {b : Nat} {w : World} (x y : Value) : ((w.setCell ⟨b, 0, none⟩ x).setCell ⟨b, 1, none⟩ y).heap.size = w.heap.size := by simp [World.setCell]

theorem vK_zero {f : Nat} : vK (0 : Fin (Pm f)) = .agg #[.int .u64 0, .int .u64 0] := by rw [show vK (0 : Fin (Pm f)) = .agg #[.int .u64 (lo (0 : Fin (Pm f))), .int .u64 (hi (0 : Fin (Pm f)))] from rfl, lo_zero, hi_zero]
theorem RetE.det {n : Int} {w : World} {e : Ending} {w' : World} (h : RetE n w e w') {z0 z1 : Int} (hz : z0 + 18446744073709551616 * z1 = n) (h0 : 0 ≤ z0) (h1 : z0 ≤ 18446744073709551615) :
  e = .returned (.agg #[.int .u64 z0, .int .u64 z1]) ∧ Below w.heap.size w w' := by
 obtain ⟨x0, x1, rfl, ⟨g0, g1, g2, g3⟩, HX, hb⟩ := h
 have hx := HX.out
 obtain rfl : x0 = z0 := by omega
 obtain rfl : x1 = z1 := by omega
 exact ⟨rfl, hb⟩

theorem val_lohi {f : Nat} (x : Fin (Pm f)) : lo x + 18446744073709551616 * hi x = ((x.val : Nat) : Int) := by
 have hx := x.isLt
 have h2 := Pm_lt f
 unfold lo hi eK eN
 dsimp only
 omega
theorem vK_of {f : Nat} {x : Fin (Pm f)} {z0 z1 : Int} (h : z0 + 18446744073709551616 * z1 = ((x.val : Nat) : Int)) (h0 : 0 ≤ z0) (h1 : z0 ≤ 18446744073709551615) : lo x = z0 ∧ hi x = z1 := by
 have h2 := val_lohi x
 have h3 := lo_0 x
 have h4 := lo_1 x
 omega
theorem val_mul {f : Nat} (x y : Fin (Pm f)) : (((x * y).val : Nat) : Int) = (((x.val : Nat) : Int) * ((y.val : Nat) : Int)) % ((Pm f : Nat) : Int) := by
 rw [Fin.val_mul, Int.natCast_emod, Int.natCast_mul]
theorem val_pos {f : Nat} (x : Fin (Pm f)) : 0 ≤ ((x.val : Nat) : Int) ∧ ((x.val : Nat) : Int) < ((Pm f : Nat) : Int) := by
 have hx := x.isLt
 omega
end Go.Proofs.YtfbfbijkkbflkaaGreatDoor

namespace Go.Proofs.YtfbfbijkkbflkaaGreatDoor
open Go.RowKit Fm
set_option linter.unusedVariables false
set_option maxRecDepth 100000



theorem P2_int : ((Pm 2 : Nat) : Int) = 340282366920938462946865773367900766209 := rfl
theorem nI2 (a0 a1 : Int) : nI ((2 : Nat) : Int) a0 a1 = a0 + 18446744073709551616 * a1 := by unfold nI; rw [if_neg (by omega)]

theorem wide_OfK (a0 a1 : Int) (w : World) (h0 : 0 ≤ a0) (h1 : a0 ≤ 18446744073709551615) (k0 : 0 ≤ a1) (k1 : a1 ≤ 18446744073709551615) :
  Calls Tryz.prog 100 #[.agg #[.int .u64 a0, .int .u64 a1]] w (RetK (kL 2 a0 a1) w) := by
 refine (Of_any a0 a1 w h0 h1 k0 k1).mono fun e w' h => ?_
 rw [← P2_int] at h
 exact h.toK (by rw [← nI2, kI_nI])

structure Limbs (n q0 q1 q2 q3 : Int) : Prop where
 b : 0 ≤ q0 ∧ q0 ≤ 18446744073709551615 ∧ 0 ≤ q1 ∧ q1 ≤ 18446744073709551615 ∧ 0 ≤ q2 ∧ q2 ≤ 18446744073709551615 ∧ 0 ≤ q3 ∧ q3 ≤ 18446744073709551615
 sum : q0 + 18446744073709551616 * q1 + 340282366920938463463374607431768211456 * q2 + 6277101735386680763835789423207666416102355444464034512896 * q3 = n

theorem limbs_of (n : Int) (h0 : 0 ≤ n) (h1 : n < 115792089237316195423570985008687907853269984665640564039457584007913129639936) : ∃ q0 q1 q2 q3, Limbs n q0 q1 q2 q3 :=
 ⟨n % 18446744073709551616, n / 18446744073709551616 % 18446744073709551616, n / 340282366920938463463374607431768211456 % 18446744073709551616, n / 6277101735386680763835789423207666416102355444464034512896, by omega, by omega⟩

theorem Limbs.uniq {n q0 q1 q2 q3 p0 p1 p2 p3 : Int} (h : Limbs n q0 q1 q2 q3) (h' : Limbs n p0 p1 p2 p3) : q0 = p0 ∧ q1 = p1 ∧ q2 = p2 ∧ q3 = p3 := by
 obtain ⟨b, s⟩ := h
 obtain ⟨b', s'⟩ := h'
 omega

theorem RetQ.det {n : Int} {w : World} {q0 q1 q2 q3 : Int} (hl : Limbs n q0 q1 q2 q3) {e : Ending} {w' : World} (h : RetQ n w e w') : e = .returned (.agg #[.int .u64 q0, .int .u64 q1, .int .u64 q2, .int .u64 q3]) ∧ Below w.heap.size w w' := by
 obtain ⟨p0, p1, p2, p3, rfl, hb, HN, hbw⟩ := h
 obtain ⟨rfl, rfl, rfl, rfl⟩ := hl.uniq ⟨hb, HN.out⟩
 exact ⟨rfl, hbw⟩

theorem fold_less (l h n : Int) (hn : n = l + 340282366920938463463374607431768211456 * h) (h1 : 1 ≤ h) :
  (l + h * 516508834063867445247) % 340282366920938462946865773367900766209 = n % 340282366920938462946865773367900766209 ∧ l + h * 516508834063867445247 < n := by
 constructor
 ·rw [show n = l + h * 516508834063867445247 + 340282366920938462946865773367900766209 * h from by omega, Int.add_mul_emod_self_left]
 ·omega

def NewQ (B : Nat) (v : Value) (w : World) : Prop := ∃ b, v = .pointer (some ⟨b, 0, none⟩) ∧ B ≤ b ∧ V4 w b (.int .u64 0) (.int .u64 0) (.int .u64 0) (.int .u64 0)
theorem newQ_stable (B : Nat) : ∀ v w w', NewQ B v w → Below w.heap.size w w' → NewQ B v w' := fun _ _ _ ⟨b, h1, h2, h3⟩ hb => ⟨b, h1, h2, h3.call hb⟩

def numAt (w : World) (b : Nat) : Nat := ((intOf ((w.cell? ⟨b, 0, none⟩).getD undef)) + 18446744073709551616 * (intOf ((w.cell? ⟨b, 1, none⟩).getD undef)) + 340282366920938463463374607431768211456 * (intOf ((w.cell? ⟨b, 2, none⟩).getD undef)) + 6277101735386680763835789423207666416102355444464034512896 * (intOf ((w.cell? ⟨b, 3, none⟩).getD undef))).toNat
theorem numAt_V4 {w : World} {b : Nat} {q0 q1 q2 q3 : Int} (h : V4 w b (.int .u64 q0) (.int .u64 q1) (.int .u64 q2) (.int .u64 q3)) :
  numAt w b = (q0 + 18446744073709551616 * q1 + 340282366920938463463374607431768211456 * q2 + 6277101735386680763835789423207666416102355444464034512896 * q3).toNat := by
 unfold numAt
 rw [h.c0, h.c1, h.c2, h.c3]
 rfl

theorem mul_bound (x y : Fin (Pm 2)) : 0 ≤ ((x.val : Nat) : Int) * ((y.val : Nat) : Int) ∧ ((x.val : Nat) : Int) * ((y.val : Nat) : Int) < 115792089237316195423570985008687907853269984665640564039457584007913129639936 := by
 have hx := x.isLt
 have hy := y.isLt
 have h2 := Pm_lt 2
 refine ⟨Int.mul_nonneg (by omega) (by omega), ?_⟩
 have h := Int.mul_le_mul (show ((x.val : Nat) : Int) ≤ 340282366920938463463374607431768211455 by omega) (show ((y.val : Nat) : Int) ≤ 340282366920938463463374607431768211455 by omega) (by omega) (by omega)
 exact Int.lt_of_le_of_lt h (by decide)

theorem val_lohi2 (x : Fin (Pm 2)) : lo x + 18446744073709551616 * hi x = ((x.val : Nat) : Int) := by
 have hx := x.isLt
 have h2 := Pm_lt 2
 unfold lo hi eK eN
 dsimp only
 omega

set_option maxHeartbeats 4000000 in
theorem wide_MulL (a0 a1 b0 b1 : Int) (w : World) (h0 : 0 ≤ a0) (h1 : a0 ≤ 18446744073709551615) (k0 : 0 ≤ a1) (k1 : a1 ≤ 18446744073709551615)
  (g0 : 0 ≤ b0) (g1 : b0 ≤ 18446744073709551615) (j0 : 0 ≤ b1) (j1 : b1 ≤ 18446744073709551615) :
  Calls Tryz.prog 101 #[.agg #[.int .u64 a0, .int .u64 a1], .agg #[.int .u64 b0, .int .u64 b1]] w (RetK (kL 2 a0 a1 * kL 2 b0 b1) w) := by
 have hOa := fun wz => wide_OfK a0 a1 wz h0 h1 k0 k1
 have hOb := fun wz => wide_OfK b0 b1 wz g0 g1 j0 j1
 generalize kL 2 a0 a1 = x at *
 generalize kL 2 b0 b1 = y at *
 obtain ⟨q0, q1, q2, q3, hlq⟩ := limbs_of (((x.val : Nat) : Int) * ((y.val : Nat) : Int)) (mul_bound x y).1 (mul_bound x y).2
 have HP : ∀ wz, Calls Tryz.prog 129 #[vK x, vK y] wz (fun e w' => e = .returned (.agg #[.int .u64 q0, .int .u64 q1, .int .u64 q2, .int .u64 q3]) ∧ Below wz.heap.size wz w') := by
  intro wz
  have h := wide_product (lo x) (hi x) (lo y) (hi y) wz (lo_0 x) (lo_1 x) (hi_0 x) (hi_1 x) (lo_0 y) (lo_1 y) (hi_0 y) (hi_1 y)
  rw [val_lohi2, val_lohi2] at h
  exact h.mono fun e w' h => h.det hlq
 have HX : Hid (kI (Pm 2) (q0 + 18446744073709551616 * q1 + 340282366920938463463374607431768211456 * q2 + 6277101735386680763835789423207666416102355444464034512896 * q3) = x * y) := by
  show _ = _
  rw [hlq.sum, kI_mul, kI_ofVal, kI_ofVal]
 have hqb := hlq.b
 have HA := Lib.hid hOa
 have HB := Lib.hid hOb
 have HPP := Lib.hid HP
 clear hOa hOb HP hlq
 go_enter Tryz.func101, Tryz.ntmps101
 go_wp2_with fail
 have q0' := ((V2.new w (.int .u64 a0) (.int .u64 a1) 36).alloc (.cells #[.int .u64 b0, .int .u64 b1] 36)).alloc (.cells #[.int .u64 0, .int .u64 0] 36)
 have r0 := (V2.new (w.alloc (.cells #[.int .u64 a0, .int .u64 a1] 36)) (.int .u64 b0) (.int .u64 b1) 36).alloc (.cells #[.int .u64 0, .int .u64 0] 36)
 have s0 := V2.new ((w.alloc (.cells #[.int .u64 a0, .int .u64 a1] 36)).alloc (.cells #[.int .u64 b0, .int .u64 b1] 36)) (.int .u64 0) (.int .u64 0) 36
 simp only [World.size_alloc] at r0 s0
 have hb00 : Below w.heap.size w (((w.alloc (.cells #[.int .u64 a0, .int .u64 a1] 36)).alloc (.cells #[.int .u64 b0, .int .u64 b1] 36)).alloc (.cells #[.int .u64 0, .int .u64 0] 36)) := by repeat (first | exact bA | with_reducible assumption | apply bB | (refine bC ?_ (by dsimp only; omega)) | apply bD | apply bE | (refine bF ?_ (by assumption)))
 have hsz : w.heap.size + 3 ≤ (((w.alloc (.cells #[.int .u64 a0, .int .u64 a1] 36)).alloc (.cells #[.int .u64 b0, .int .u64 b1] 36)).alloc (.cells #[.int .u64 0, .int .u64 0] 36)).heap.size := by simp only [World.size_alloc]; omega
 generalize ((w.alloc (.cells #[.int .u64 a0, .int .u64 a1] 36)).alloc (.cells #[.int .u64 b0, .int .u64 b1] 36)).alloc (.cells #[.int .u64 0, .int .u64 0] 36) = w1 at *
 have q01 := q0'
 obtain ⟨c0, c1, c2, c3, c4⟩ := q01
 have r01 := r0
 obtain ⟨d0, d1, d2, d3, d4⟩ := r01
 have hNew := newQ_stable (w1.heap.size)
 refine region_N (n := 6) (m := 7) (f := 6) 5 5 (NewQ (w1.heap.size)) (by kernel_rfl) (by kernel_rfl) rfl ?_
 refine WpH.takeN hNew (i := 0) (v := ?_) rfl (by kernel_rfl) rfl rfl (fun _ _ _ h => h) (.val rfl (fun wz hwz => ?_)) ?_
 rotate_left
 ·(obtain ⟨hcz, hfz⟩ := bcell hwz; go_simp; try (with_reducible rfl))
 (simp only [Act.put]); (try simp only [List.setIfInBounds_toArray]); (try simp only [List.set_cons_succ]); (try simp only [List.set_cons_zero])
 refine WpH.takeN hNew (i := 1) rfl (by kernel_rfl) rfl rfl (fun _ _ _ h => h) (.call rfl (fun wz hwz => HA.out wz) (fun wz hwz => ?_)) ?_
 ·go_simp; try (with_reducible rfl)
 (simp only [Act.put]); (try simp only [List.setIfInBounds_toArray]); (try simp only [List.set_cons_succ]); (try simp only [List.set_cons_zero])
 refine WpH.takeN hNew (i := 2) (v := ?_) rfl (by kernel_rfl) rfl rfl (fun _ _ _ h => h) (.val rfl (fun wz hwz => ?_)) ?_
 rotate_left
 ·(obtain ⟨hcz, hfz⟩ := bcell hwz; go_simp; try (with_reducible rfl))
 (simp only [Act.put]); (try simp only [List.setIfInBounds_toArray]); (try simp only [List.set_cons_succ]); (try simp only [List.set_cons_zero])
 refine WpH.takeN hNew (i := 3) rfl (by kernel_rfl) rfl rfl (fun _ _ _ h => h) (.call rfl (fun wz hwz => HB.out wz) (fun wz hwz => ?_)) ?_
 ·go_simp; try (with_reducible rfl)
 (simp only [Act.put]); (try simp only [List.setIfInBounds_toArray]); (try simp only [List.set_cons_succ]); (try simp only [List.set_cons_zero])
 refine WpH.takeN hNew (i := 4) rfl (by kernel_rfl) rfl rfl (fun _ _ _ h => h) (.call rfl (fun wz hwz => HPP.out wz) (fun wz hwz => ?_)) ?_
 ·go_simp; try (with_reducible rfl)
 (simp only [Act.put]); (try simp only [List.setIfInBounds_toArray]); (try simp only [List.set_cons_succ]); (try simp only [List.set_cons_zero])
 refine WpH.one (i := 5) (by kernel_rfl) (fun w2 hw2 => ?_)
 refine wpOp_value rfl rfl (by go_simp; first | rfl | exact ⟨rfl, rfl⟩) ⟨⟨hw2.1.trans (((Below.refl _ _).alloc (Nat.le_refl _) _).mono hw2.1.size), fun _ => ⟨_, rfl, (by have hsz2 := hw2.1.size; (try simp only [World.size_alloc] at hsz2); omega), V4.new _ _ _ _ _ _⟩⟩, ?_⟩
 (simp only [Act.put]); (try simp only [List.setIfInBounds_toArray]); (try simp only [List.set_cons_succ]); (try simp only [List.set_cons_zero])
 refine WpH.done (by kernel_rfl) (fun w3 hw3n => ?_)
 obtain ⟨hw3, hnw3⟩ := hw3n
 obtain ⟨b, hbew3, hBb, hVb⟩ := hnw3 rfl
 simp at hbew3
 rw [hbew3]
 clear hNew hnw3 hw2 hbew3 w2
 (try simp only [List.drop_succ_cons]); (try simp only [List.drop_zero]); (try simp only [Nat.reduceSub]); (try simp only [List.take_succ_cons]); (try simp only [List.take_zero])
 clear HA HB HPP
 obtain ⟨v0, v1, v2, v3, v4, v5, v6, v7, v8⟩ := hVb
 have hs3 := s0.call hw3
 have hbw3 : Below w.heap.size w w3 := bl_call hb00 (Nat.le_refl _) hw3
 clear hw3
 go_wp2_with fail
 go_loopw [] (fun wr => ∃ p0 p1 p2 p3 : Int, V4 wr b (.int .u64 p0) (.int .u64 p1) (.int .u64 p2) (.int .u64 p3) ∧
   (0 ≤ p0 ∧ p0 ≤ 18446744073709551615 ∧ 0 ≤ p1 ∧ p1 ≤ 18446744073709551615 ∧ 0 ≤ p2 ∧ p2 ≤ 18446744073709551615 ∧ 0 ≤ p3 ∧ p3 ≤ 18446744073709551615) ∧
   V2 wr (w.heap.size + 1 + 1) (.int .u64 0) (.int .u64 0) ∧ Below w.heap.size w wr ∧
   Hid (kI (Pm 2) (p0 + 18446744073709551616 * p1 + 340282366920938463463374607431768211456 * p2 + 6277101735386680763835789423207666416102355444464034512896 * p3) = x * y))
  (fun wr => numAt wr b)
 case atStart =>
  refine ⟨q0, q1, q2, q3, V4.set ⟨v0, v1, v2, v3, v4, v5, v6, v7, v8⟩ _ _ _ _, hqb, ?_, ?_, HX⟩
  ·exact V2.setOther (V2.setOther (V2.setOther (V2.setOther hs3 (by dsimp only; omega) _) (by dsimp only; omega) _) (by dsimp only; omega) _) (by dsimp only; omega) _
  ·exact by repeat (first | exact bA | with_reducible assumption | apply bB | (refine bC ?_ (by dsimp only; omega)) | apply bD | apply bE | (refine bF ?_ (by assumption)))
 case round =>
  obtain ⟨p0, p1, p2, p3, hp, hpb, hs, hbw, HN⟩ := hrel
  have hp' := hp
  obtain ⟨g0, g1, g2, g3, g4, g5, g6, g7, g8⟩ := hp'
  clear v0 v1 v2 v3 v4 v5 v6 v7 v8 hs3 hbw3 HX
  by_cases hz : p2 = 0 ∧ p3 = 0
  ·obtain ⟨rfl, rfl⟩ := hz
   obtain ⟨s0, s1, s2, s3, s4⟩ := hs
   go_wp2_with (go_at_call 100; refine (wide_OfK p0 p1 _ (by omega) (by omega) (by omega) (by omega)).mono ?_; rintro e w6 ⟨rfl, hb6⟩; obtain ⟨t0, t1, t2, t3, t4⟩ := V2.call ⟨s0, s1, s2, s3, s4⟩ hb6)
   refine bodyPost_ret (results_v2 (b := w.heap.size + 1 + 1) (u := .int .u64 (lo (x * y))) (v := .int .u64 (hi (x * y))) ?_ rfl rfl) rfl ⟨rfl, by repeat (first | exact bA | with_reducible assumption | apply bB | (refine bC ?_ (by dsimp only; omega)) | apply bD | apply bE | (refine bF ?_ (by assumption)))⟩
   have e : kL 2 p0 p1 = x * y := by
    rw [← HN.out, ← kI_nI, nI2]
    congr 1
    omega
   rw [← e]
   exact V2.set ⟨t0, t1, t2, t3, t4⟩ _ _
  ·have hor : p2 ≠ 0 ∨ (p2 = 0 ∧ p3 ≠ 0) := by omega
   have h1 : 1 ≤ p2 + 18446744073709551616 * p3 := by omega
   rcases hor with h | ⟨rfl, h⟩
   ·have hb : (p2 != 0) = true := by simp; omega
    go_wp2_with (go_at_call 130; refine (quad_fold p0 p1 p2 p3 _ hpb).mono ?_; rintro e w6 ⟨r0, r1, r2, r3, rfl, hrb, HR, hb6⟩; obtain ⟨t0, t1, t2, t3, t4, t5, t6, t7, t8⟩ := hp.call hb6; have hs6 := hs.call hb6)
    have hv6 : V4 ((((w6.setCell ⟨b, 0, none⟩ (.int .u64 r0)).setCell ⟨b, 1, none⟩ (.int .u64 r1)).setCell ⟨b, 2, none⟩ (.int .u64 r2)).setCell ⟨b, 3, none⟩ (.int .u64 r3)) b (.int .u64 r0) (.int .u64 r1) (.int .u64 r2) (.int .u64 r3) := V4.set ⟨t0, t1, t2, t3, t4, t5, t6, t7, t8⟩ _ _ _ _
    have hfl := fold_less (p0 + 18446744073709551616 * p1) (p2 + 18446744073709551616 * p3) (p0 + 18446744073709551616 * p1 + 340282366920938463463374607431768211456 * p2 + 6277101735386680763835789423207666416102355444464034512896 * p3) (by omega) h1
    go_roundw
    case rel =>
     refine ⟨r0, r1, r2, r3, hv6, hrb, ?_, by repeat (first | exact bA | with_reducible assumption | apply bB | (refine bC ?_ (by dsimp only; omega)) | apply bD | apply bE | (refine bF ?_ (by assumption))), ?_⟩
     ·exact V2.setOther (V2.setOther (V2.setOther (V2.setOther hs6 (by dsimp only; omega) _) (by dsimp only; omega) _) (by dsimp only; omega) _) (by dsimp only; omega) _
     ·show _ = _
      rw [HR.out, ← HN.out]
      exact kI_congr hfl.1
    case measure =>
     rw [numAt_V4 hv6, numAt_V4 hp, HR.out]
     have h2 := hfl.2
     generalize (p2 + 18446744073709551616 * p3) * 516508834063867445247 = z at *
     omega
   ·have hb : ((0 : Int) != 0) = false := rfl
    have hb' : (p3 != 0) = true := by simp; omega
    go_wp2_with (go_at_call 130; refine (quad_fold p0 p1 0 p3 _ hpb).mono ?_; rintro e w6 ⟨r0, r1, r2, r3, rfl, hrb, HR, hb6⟩; obtain ⟨t0, t1, t2, t3, t4, t5, t6, t7, t8⟩ := hp.call hb6; have hs6 := hs.call hb6)
    have hv6 : V4 ((((w6.setCell ⟨b, 0, none⟩ (.int .u64 r0)).setCell ⟨b, 1, none⟩ (.int .u64 r1)).setCell ⟨b, 2, none⟩ (.int .u64 r2)).setCell ⟨b, 3, none⟩ (.int .u64 r3)) b (.int .u64 r0) (.int .u64 r1) (.int .u64 r2) (.int .u64 r3) := V4.set ⟨t0, t1, t2, t3, t4, t5, t6, t7, t8⟩ _ _ _ _
    have hfl := fold_less (p0 + 18446744073709551616 * p1) (0 + 18446744073709551616 * p3) (p0 + 18446744073709551616 * p1 + 340282366920938463463374607431768211456 * 0 + 6277101735386680763835789423207666416102355444464034512896 * p3) (by omega) h1
    go_roundw
    case rel =>
     refine ⟨r0, r1, r2, r3, hv6, hrb, ?_, by repeat (first | exact bA | with_reducible assumption | apply bB | (refine bC ?_ (by dsimp only; omega)) | apply bD | apply bE | (refine bF ?_ (by assumption))), ?_⟩
     ·exact V2.setOther (V2.setOther (V2.setOther (V2.setOther hs6 (by dsimp only; omega) _) (by dsimp only; omega) _) (by dsimp only; omega) _) (by dsimp only; omega) _
     ·show _ = _
      rw [HR.out, ← HN.out]
      exact kI_congr hfl.1
    case measure =>
     rw [numAt_V4 hv6, numAt_V4 hp, HR.out]
     have h2 := hfl.2
     generalize (0 + 18446744073709551616 * p3) * 516508834063867445247 = z at *
     omega

end Go.Proofs.YtfbfbijkkbflkaaGreatDoor

namespace Go.Proofs.YtfbfbijkkbflkaaGreatDoor
open Go.RowKit Fm
set_option linter.unusedVariables false
set_option maxRecDepth 100000

theorem field_MulL {f : Nat} (hf : IsF f) (a0 a1 b0 b1 : Int) (w : World) (h0 : 0 ≤ a0) (h1 : a0 ≤ 18446744073709551615) (k0 : 0 ≤ a1) (k1 : a1 ≤ 18446744073709551615)
  (g0 : 0 ≤ b0) (g1 : b0 ≤ 18446744073709551615) (j0 : 0 ≤ b1) (j1 : b1 ≤ 18446744073709551615) :
  Calls Tryz.prog 79 #[.int .u8 f, .agg #[.int .u64 a0, .int .u64 a1], .agg #[.int .u64 b0, .int .u64 b1]] w (RetK (kL f a0 a1 * kL f b0 b1) w) := by
 rcases hf.or with rfl | rfl
 ·have hz : kI (Pm 1) (a0 * b0) = kL 1 a0 a1 * kL 1 b0 b1 := by rw [kI_mul]; rfl
  show Calls Tryz.prog 79 #[.int .u8 1, .agg #[.int .u64 a0, .int .u64 a1], .agg #[.int .u64 b0, .int .u64 b1]] w (RetK (kL 1 a0 a1 * kL 1 b0 b1) w)
  rw [← hz]
  have hv : vK (kI (Pm 1) (a0 * b0)) = .agg #[.int .u64 (a0 * b0 % 18446744069414584321), .int .u64 0] := by
   have hp : ((Pm 1 : Nat) : Int) = 18446744069414584321 := rfl
   have h := vK_of (x := kI (Pm 1) (a0 * b0)) (z0 := a0 * b0 % 18446744069414584321) (z1 := 0) (by rw [val_kI, hp]; omega) (Int.emod_nonneg _ (by omega)) (by have := Int.emod_lt_of_pos (a0 * b0) (show (0 : Int) < 18446744069414584321 by omega); omega)
   show Value.agg #[.int .u64 (lo _), .int .u64 (hi _)] = _
   rw [h.1, h.2]
  clear hz
  go_enter Tryz.func79, Tryz.ntmps79
  go_wp2_with (go_at_call 99; refine (gold_Mul _ _ _ (by omega) (by omega) (by omega) (by omega)).mono ?_; rintro e w' ⟨rfl, rfl⟩)
  refine bodyPost_ret (by simp [results, Tryz.results79, go_sem]; rfl) rfl ⟨by rw [hv], by repeat (first | exact bA | with_reducible assumption | apply bB | (refine bC ?_ (by dsimp only; omega)) | apply bD | apply bE | (refine bF ?_ (by assumption)))⟩
 ·have HM := Lib.hid (fun wz => wide_MulL a0 a1 b0 b1 wz h0 h1 k0 k1 g0 g1 j0 j1)
  generalize kL 2 a0 a1 * kL 2 b0 b1 = z at *
  show Calls Tryz.prog 79 #[.int .u8 2, .agg #[.int .u64 a0, .int .u64 a1], .agg #[.int .u64 b0, .int .u64 b1]] w (RetK z w)
  go_enter Tryz.func79, Tryz.ntmps79
  go_upto_region 1 with fail
  have q0 := ((V2.new w (.int .u64 a0) (.int .u64 a1) 36).alloc (.cells #[(.int .u64 b0), (.int .u64 b1)] 36)).alloc (.cells #[(.int .u64 0), (.int .u64 0)] 36)
  have t0 := (V2.new (w.alloc (.cells #[(.int .u64 a0), (.int .u64 a1)] 36)) (.int .u64 b0) (.int .u64 b1) 36).alloc (.cells #[(.int .u64 0), (.int .u64 0)] 36)
  have s0 := V2.new ((w.alloc (.cells #[(.int .u64 a0), (.int .u64 a1)] 36)).alloc (.cells #[(.int .u64 b0), (.int .u64 b1)] 36)) (.int .u64 0) (.int .u64 0) 36
  simp only [World.size_alloc] at t0 s0
  have hb00 : Below w.heap.size w (((w.alloc (.cells #[(.int .u64 a0), (.int .u64 a1)] 36)).alloc (.cells #[(.int .u64 b0), (.int .u64 b1)] 36)).alloc (.cells #[(.int .u64 0), (.int .u64 0)] 36)) := by repeat (first | exact bA | with_reducible assumption | apply bB)
  have hsz : w.heap.size + 3 ≤ (((w.alloc (.cells #[(.int .u64 a0), (.int .u64 a1)] 36)).alloc (.cells #[(.int .u64 b0), (.int .u64 b1)] 36)).alloc (.cells #[(.int .u64 0), (.int .u64 0)] 36)).heap.size := by simp only [World.size_alloc]; omega
  generalize (((w.alloc (.cells #[(.int .u64 a0), (.int .u64 a1)] 36)).alloc (.cells #[(.int .u64 b0), (.int .u64 b1)] 36)).alloc (.cells #[(.int .u64 0), (.int .u64 0)] 36)) = w1 at q0 t0 s0 hb00 hsz ⊢
  obtain ⟨c0, c1, c2, c3, c4⟩ := q0
  obtain ⟨d0, d1, d2, d3, d4⟩ := t0
  go_wp2_with (go_at_call 101; refine (HM.out _).mono ?_; rintro e w5 ⟨rfl, hb5⟩; obtain ⟨e0, e1, e2, e3, e4⟩ := s0.call hb5)
  refine bodyPost_ret (results_v2 (b := w.heap.size + 1 + 1) (u := .int .u64 (lo z)) (v := .int .u64 (hi z)) ?_ rfl rfl) rfl ⟨rfl, by repeat (first | exact bA | with_reducible assumption | apply bB | (refine bC ?_ (by dsimp only; omega)) | apply bD | apply bE | (refine bF ?_ (by assumption)))⟩
  exact V2.set ⟨e0, e1, e2, e3, e4⟩ _ _

theorem field_Of {f : Nat} (hf : IsF f) (n : Int) (w : World) (h0 : 0 ≤ n) (h1 : n ≤ 18446744073709551615) :
  Calls Tryz.prog 52 #[.int .u8 f, .int .u64 n] w (RetK (kL f n 0) w) := by
 rcases hf.or with rfl | rfl
 ·have hv : vK (kL 1 n 0) = .agg #[.int .u64 (n % 18446744069414584321), .int .u64 0] := by
   have hp : ((Pm 1 : Nat) : Int) = 18446744069414584321 := rfl
   have h := vK_of (x := kL 1 n 0) (z0 := n % 18446744069414584321) (z1 := 0) (by rw [← kI_nI, val_kI, hp]; show _ = n % _; omega) (Int.emod_nonneg _ (by omega)) (by have := Int.emod_lt_of_pos n (show (0 : Int) < 18446744069414584321 by omega); omega)
   show Value.agg #[.int .u64 (lo _), .int .u64 (hi _)] = _
   rw [h.1, h.2]
  show Calls Tryz.prog 52 #[.int .u8 1, .int .u64 n] w (RetK (kL 1 n 0) w)
  go_enter Tryz.func52, Tryz.ntmps52
  go_wp2_with (go_at_call 98; refine (gold_Of _ _ (by omega) (by omega)).mono ?_; rintro e w' ⟨rfl, rfl⟩)
  refine bodyPost_ret (by simp [results, Tryz.results52, go_sem]; rfl) rfl ⟨by rw [hv], by repeat (first | exact bA | with_reducible assumption | apply bB | (refine bC ?_ (by dsimp only; omega)) | apply bD | apply bE | (refine bF ?_ (by assumption)))⟩
 ·have hv : vK (kL 2 n 0) = .agg #[.int .u64 n, .int .u64 0] := by
   have h := vK_of (x := kL 2 n 0) (z0 := n) (z1 := 0) (by rw [← kI_nI, val_kI, P2_int, nI2]; omega) h0 h1
   show Value.agg #[.int .u64 (lo _), .int .u64 (hi _)] = _
   rw [h.1, h.2]
  show Calls Tryz.prog 52 #[.int .u8 2, .int .u64 n] w (RetK (kL 2 n 0) w)
  go_enter Tryz.func52, Tryz.ntmps52
  go_wp2
  refine bodyPost_ret (by simp [results, Tryz.results52, go_sem]; rfl) rfl ⟨by rw [hv], by repeat (first | exact bA | with_reducible assumption | apply bB | (refine bC ?_ (by dsimp only; omega)) | apply bD | apply bE | (refine bF ?_ (by assumption)))⟩

theorem field_One {f : Nat} (hf : IsF f) (w : World) : Calls Tryz.prog 49 #[.int .u8 f] w (RetK (1 : Fin (Pm f)) w) := by
 have h := fun wz => field_Of hf 1 wz (by omega) (by omega)
 rw [kL_one] at h
 have H := Lib.hid h
 clear h
 go_enter Tryz.func49, Tryz.ntmps49
 go_upto_region 1 with fail
 have s0 := V2.new w (.int .u64 0) (.int .u64 0) 36
 have hb00 : Below w.heap.size w (w.alloc (.cells #[(.int .u64 0), (.int .u64 0)] 36)) := by repeat (first | exact bA | with_reducible assumption | apply bB)
 have hsz : w.heap.size + 1 ≤ (w.alloc (.cells #[(.int .u64 0), (.int .u64 0)] 36)).heap.size := by simp only [World.size_alloc]; omega
 generalize (w.alloc (.cells #[(.int .u64 0), (.int .u64 0)] 36)) = w1 at s0 hb00 hsz ⊢
 go_wp2_with (go_at_call 52; refine (H.out _).mono ?_; rintro e w5 ⟨rfl, hb5⟩; obtain ⟨e0, e1, e2, e3, e4⟩ := s0.call hb5)
 refine bodyPost_ret (results_v2 (b := w.heap.size) (u := .int .u64 (lo (1 : Fin (Pm f)))) (v := .int .u64 (hi (1 : Fin (Pm f)))) ?_ rfl rfl) rfl ⟨rfl, by repeat (first | exact bA | with_reducible assumption | apply bB | (refine bC ?_ (by dsimp only; omega)) | apply bD | apply bE | (refine bF ?_ (by assumption)))⟩
 exact V2.set ⟨e0, e1, e2, e3, e4⟩ _ _

theorem field_NegL {f : Nat} (hf : IsF f) (a0 a1 : Int) (w : World) (h0 : 0 ≤ a0) (h1 : a0 ≤ 18446744073709551615) (k0 : 0 ≤ a1) (k1 : a1 ≤ 18446744073709551615) :
  Calls Tryz.prog 104 #[.int .u8 f, .agg #[.int .u64 a0, .int .u64 a1]] w (RetK (- kL f a0 a1) w) := by
 have h := fun wz => field_SubL hf 0 0 a0 a1 wz (by omega) (by omega) (by omega) (by omega) h0 h1 k0 k1
 rw [kL_zero, show (0 : Fin (Pm f)) - kL f a0 a1 = - kL f a0 a1 by grind] at h
 generalize - kL f a0 a1 = z at *
 have H := Lib.hid h
 clear h
 go_enter Tryz.func104, Tryz.ntmps104
 go_upto_region 1 with fail
 have q0 := (V2.new w (.int .u64 a0) (.int .u64 a1) 36).alloc (.cells #[(.int .u64 0), (.int .u64 0)] 36)
 have s0 := V2.new (w.alloc (.cells #[(.int .u64 a0), (.int .u64 a1)] 36)) (.int .u64 0) (.int .u64 0) 36
 simp only [World.size_alloc] at s0
 have hb00 : Below w.heap.size w ((w.alloc (.cells #[(.int .u64 a0), (.int .u64 a1)] 36)).alloc (.cells #[(.int .u64 0), (.int .u64 0)] 36)) := by repeat (first | exact bA | with_reducible assumption | apply bB)
 have hsz : w.heap.size + 2 ≤ ((w.alloc (.cells #[(.int .u64 a0), (.int .u64 a1)] 36)).alloc (.cells #[(.int .u64 0), (.int .u64 0)] 36)).heap.size := by simp only [World.size_alloc]; omega
 generalize ((w.alloc (.cells #[(.int .u64 a0), (.int .u64 a1)] 36)).alloc (.cells #[(.int .u64 0), (.int .u64 0)] 36)) = w1 at q0 s0 hb00 hsz ⊢
 obtain ⟨c0, c1, c2, c3, c4⟩ := q0
 go_wp2_with (go_at_call 62; refine (H.out _).mono ?_; rintro e w5 ⟨rfl, hb5⟩; obtain ⟨e0, e1, e2, e3, e4⟩ := s0.call hb5)
 refine bodyPost_ret (results_v2 (b := w.heap.size + 1) (u := .int .u64 (lo z)) (v := .int .u64 (hi z)) ?_ rfl rfl) rfl ⟨rfl, by repeat (first | exact bA | with_reducible assumption | apply bB | (refine bC ?_ (by dsimp only; omega)) | apply bD | apply bE | (refine bF ?_ (by assumption)))⟩
 exact V2.set ⟨e0, e1, e2, e3, e4⟩ _ _

section
variable {f : Nat} (hf : IsF f)
include hf
theorem field_MulK (x y : Fin (Pm f)) (w : World) : Calls Tryz.prog 79 #[.int .u8 f, vK x, vK y] w (RetK (x * y) w) := by
 have h := field_MulL hf (lo x) (hi x) (lo y) (hi y) w (lo_0 x) (lo_1 x) (hi_0 x) (hi_1 x) (lo_0 y) (lo_1 y) (hi_0 y) (hi_1 y)
 rwa [kL_lohi, kL_lohi] at h
theorem field_NegK (x : Fin (Pm f)) (w : World) : Calls Tryz.prog 104 #[.int .u8 f, vK x] w (RetK (-x) w) := by
 have h := field_NegL hf (lo x) (hi x) w (lo_0 x) (lo_1 x) (hi_0 x) (hi_1 x)
 rwa [kL_lohi] at h
end

end Go.Proofs.YtfbfbijkkbflkaaGreatDoor

namespace Go.Proofs.YtfbfbijkkbflkaaGreatDoor
open Go.RowKit Fm
set_option linter.unusedVariables false
set_option maxRecDepth 100000

structure Vs (w : World) (b : Nat) (cs : List Value) : Prop where
 cell : ∀ i v, cs[i]? = some v → w.cell? ⟨b, i, none⟩ = some v
 frz : ∀ i, i < cs.length → w.frozen? ⟨b, i, none⟩ = false
 lt : b < w.heap.size

section
variable {w w' : World} {b : Nat} {cs : List Value}
theorem Vs.call (h : Vs w b cs) (hb : Below w.heap.size w w') : Vs w' b cs :=
 ⟨fun i v hi => cell_call (h.cell i v hi) hb, fun i hi => frozen_call h.lt (h.frz i hi) hb, Nat.lt_of_lt_of_le h.lt hb.size⟩
theorem Vs.alloc (h : Vs w b cs) (o : Obj) : Vs (w.alloc o) b cs := h.call ((Below.refl _ _).alloc (Nat.le_refl _) o)
theorem Vs.drew (h : Vs w b cs) : Vs w.drew b cs := ⟨h.cell, h.frz, h.lt⟩
theorem Vs.new (w : World) (cs : List Value) (a : Array Value) (t : TypeId) (h : a = cs.toArray) : Vs (w.alloc (.cells a t)) w.heap.size cs := by
 subst h
 refine ⟨fun i v hi => ?_, fun i hi => World.frozen?_alloc_at _ _ _ _ rfl, by simp⟩
 rw [World.cell?_alloc_at _ _ _ _ rfl]
 simpa using hi
theorem Vs.far (h : Vs w b cs) {p : Addr} (hp : p.block ≠ b) (x : Value) : Vs (w.setCell p x) b cs := by
 have hb : (w.setCell p x).heap[b]? = w.heap[b]? := Below.heap_setCell w p x b (fun e => hp e.symm)
 exact ⟨fun i v hi => (World.cell?_of_block (w := w) (a := ⟨b, i, none⟩) hb).trans (h.cell i v hi), fun i hi => (World.frozen?_of_block (w := w) (a := ⟨b, i, none⟩) hb).trans (h.frz i hi), by simpa [World.setCell] using h.lt⟩
theorem Vs.put (h : Vs w b cs) (i : Nat) (hi : i < cs.length) (x : Value) : Vs (w.setCell ⟨b, i, none⟩ x) b (cs.set i x) := by
 refine ⟨fun j v hj => ?_, fun j hj => ?_, by simpa [World.setCell] using h.lt⟩
 ·by_cases hij : i = j
  ·subst hij
   rw [List.getElem?_set_self hi] at hj
   have hs : (w.cell? ⟨b, i, none⟩).isSome = true := by rw [h.cell i _ (List.getElem?_eq_getElem hi)]; rfl
   rw [World.cell?_setCell_same' _ _ _ hs]
   exact hj
  ·rw [List.getElem?_set_ne hij] at hj
   rw [World.cell?_setCell_other _ _ _ _ (by first | (simp; done) | (simp; omega))]
   exact h.cell j v hj
 ·have := h.frz j (by simpa using hj)
  simpa [go_sem] using this
theorem Vs.of2 {u v : Value} (h : V2 w b u v) : Vs w b [u, v] := by
 refine ⟨fun i x hi => ?_, fun i hi => ?_, h.lt⟩
 ·match i, hi with
  | 0, hi => obtain rfl : u = x := by simpa using hi
             exact h.c0
  | 1, hi => obtain rfl : v = x := by simpa using hi
             exact h.c1
 ·match i, hi with
  | 0, _ => exact h.f0
  | 1, _ => exact h.f1
theorem Vs.to2 {u v : Value} (h : Vs w b [u, v]) : V2 w b u v := ⟨h.cell 0 _ rfl, h.cell 1 _ rfl, h.frz 0 (by simp), h.frz 1 (by simp), h.lt⟩
theorem Vs.get1 {x : Value} (h : Vs w b [x]) : w.cell? ⟨b, 0, none⟩ = some x ∧ w.frozen? ⟨b, 0, none⟩ = false ∧ b < w.heap.size := ⟨h.cell 0 _ rfl, h.frz 0 (by simp), h.lt⟩
theorem Vs.get3 {x y z : Value} (h : Vs w b [x, y, z]) : w.cell? ⟨b, 0, none⟩ = some x ∧ w.cell? ⟨b, 1, none⟩ = some y ∧ w.cell? ⟨b, 2, none⟩ = some z ∧ w.frozen? ⟨b, 0, none⟩ = false ∧ w.frozen? ⟨b, 1, none⟩ = false ∧ w.frozen? ⟨b, 2, none⟩ = false ∧ b < w.heap.size :=
 ⟨h.cell 0 _ rfl, h.cell 1 _ rfl, h.cell 2 _ rfl, h.frz 0 (by simp), h.frz 1 (by simp), h.frz 2 (by simp), h.lt⟩
theorem Vs.get6 {x y z p q r : Value} (h : Vs w b [x, y, z, p, q, r]) : (w.cell? ⟨b, 0, none⟩ = some x ∧ w.cell? ⟨b, 1, none⟩ = some y ∧ w.cell? ⟨b, 2, none⟩ = some z ∧ w.cell? ⟨b, 3, none⟩ = some p ∧ w.cell? ⟨b, 4, none⟩ = some q ∧ w.cell? ⟨b, 5, none⟩ = some r) ∧
  (w.frozen? ⟨b, 0, none⟩ = false ∧ w.frozen? ⟨b, 1, none⟩ = false ∧ w.frozen? ⟨b, 2, none⟩ = false ∧ w.frozen? ⟨b, 3, none⟩ = false ∧ w.frozen? ⟨b, 4, none⟩ = false ∧ w.frozen? ⟨b, 5, none⟩ = false) ∧ b < w.heap.size :=
 ⟨⟨h.cell 0 _ rfl, h.cell 1 _ rfl, h.cell 2 _ rfl, h.cell 3 _ rfl, h.cell 4 _ rfl, h.cell 5 _ rfl⟩, ⟨h.frz 0 (by simp), h.frz 1 (by simp), h.frz 2 (by simp), h.frz 3 (by simp), h.frz 4 (by simp), h.frz 5 (by simp)⟩, h.lt⟩
end

end Go.Proofs.YtfbfbijkkbflkaaGreatDoor
