/-
  ELEMENTS OF A FIELD AS ONE LETTER: f is 1 or 2, x : Fin (Pm f); its two limbs are lo x, hi x; the contracts of field and of the reference said of it.
-/
import Derived.Test.YtgambjmjbmdciaaSome
namespace Go.Proofs.Ytgambjmjbmdciaa
open Go.RowKit Fm
set_option linter.unusedVariables false
set_option maxRecDepth 100000

/-- which field -/
structure IsF (f : Nat) : Prop where
  or : f = 1 ∨ f = 2

def lo {f : Nat} (x : Fin (Pm f)) : Int := (eK x).1
def hi {f : Nat} (x : Fin (Pm f)) : Int := (eK x).2

/-- the value of an element -/
abbrev vK {f : Nat} (x : Fin (Pm f)) : Value := .agg #[.int .u64 (lo x), .int .u64 (hi x)]

theorem lo_hi {f : Nat} (x : Fin (Pm f)) : (lo x, hi x) = eK x := rfl
theorem lo_0 {f : Nat} (x : Fin (Pm f)) : 0 ≤ lo x := (okE_eK x).1
theorem lo_1 {f : Nat} (x : Fin (Pm f)) : lo x ≤ 18446744073709551615 := (okE_eK x).2.1
theorem hi_0 {f : Nat} (x : Fin (Pm f)) : 0 ≤ hi x := (okE_eK x).2.2.1
theorem hi_1 {f : Nat} (x : Fin (Pm f)) : hi x ≤ 18446744073709551615 := (okE_eK x).2.2.2
theorem lohi_inj {f : Nat} {x y : Fin (Pm f)} (h : lo x = lo y) (h' : hi x = hi y) : x = y := eK_inj (Prod.ext h h')

theorem lo_zero {f : Nat} : lo (0 : Fin (Pm f)) = 0 := by unfold lo; rw [eK_zero]
theorem hi_zero {f : Nat} : hi (0 : Fin (Pm f)) = 0 := by unfold hi; rw [eK_zero]
theorem lo_one {f : Nat} : lo (1 : Fin (Pm f)) = 1 := by unfold lo; rw [eK_one]
theorem hi_one {f : Nat} : hi (1 : Fin (Pm f)) = 0 := by unfold hi; rw [eK_one]

theorem FM.ofN {f : Nat} (hf : IsF f) : FM (f : Int) (Pm f : Int) := by
  rcases hf.or with rfl | rfl
  · exact ⟨.inl ⟨rfl, by rw [Pm_one]; rfl⟩⟩
  · exact ⟨.inr ⟨rfl, by rw [Pm_two]; rfl⟩⟩

theorem nI_nE {f : Nat} (a0 a1 : Int) : nI (f : Int) a0 a1 = nE f (a0, a1) := by
  unfold nI nE
  by_cases h : f = 1
  · subst h; rfl
  · rw [if_neg (by omega), if_neg h]

/-- what a pair of limbs stands for -/
abbrev kL (f : Nat) (a0 a1 : Int) : Fin (Pm f) := kE f (a0, a1)
theorem kL_lohi {f : Nat} (x : Fin (Pm f)) : kL f (lo x) (hi x) = x := by
  show kE f (lo x, hi x) = x
  rw [lo_hi, kE_eK]
theorem kL_zero {f : Nat} : kL f 0 0 = 0 := kE_zero
theorem kL_one {f : Nat} : kL f 1 0 = 1 := kE_one

theorem val_kI {f : Nat} (n : Int) : (((kI (Pm f) n).val : Nat) : Int) = n % (Pm f : Int) := kI_val n
theorem kI_nI {f : Nat} (a0 a1 : Int) : kI (Pm f) (nI (f : Int) a0 a1) = kL f a0 a1 := by
  unfold kL kE
  rw [nI_nE]

theorem eK_kI {f : Nat} (n : Int) : eK (kI (Pm f) n) = eN (n % (Pm f : Int)) := by
  unfold eK
  rw [val_kI]

/-- an element comes back; below, all is as it was -/
def RetK {f : Nat} (x : Fin (Pm f)) (w : World) (e : Ending) (w' : World) : Prop := e = .returned (vK x) ∧ Below w.heap.size w w'

theorem RetE.toK {f : Nat} {n : Int} {w : World} {e : Ending} {w' : World} (h : RetE (n % (Pm f : Int)) w e w') {x : Fin (Pm f)} (hx : kI (Pm f) n = x) : RetK x w e w' := by
  obtain ⟨x0, x1, rfl, ⟨h0, h1, h2, h3⟩, HX, hb⟩ := h
  refine ⟨?_, hb⟩
  have he := eN_of HX.out h0 h1
  rw [← eK_kI, hx] at he
  have e0 : x0 = lo x := congrArg Prod.fst he
  have e1 : x1 = hi x := congrArg Prod.snd he
  rw [e0, e1]

/-- the value that stands for a number of a field -/
theorem vK_eN {f : Nat} (x : Fin (Pm f)) (e : E) (h : eK x = e) : vK x = .agg #[.int .u64 e.1, .int .u64 e.2] := by rw [← h]; rfl

section
variable {f : Nat} (hf : IsF f)
include hf

theorem field_AddL (a0 a1 b0 b1 : Int) (w : World) (h0 : 0 ≤ a0) (h1 : a0 ≤ 18446744073709551615) (k0 : 0 ≤ a1) (k1 : a1 ≤ 18446744073709551615)
    (g0 : 0 ≤ b0) (g1 : b0 ≤ 18446744073709551615) (j0 : 0 ≤ b1) (j1 : b1 ≤ 18446744073709551615) :
    Calls Try.prog 56 #[.int .u8 f, .agg #[.int .u64 a0, .int .u64 a1], .agg #[.int .u64 b0, .int .u64 b1]] w (RetK (kL f a0 a1 + kL f b0 b1) w) :=
  (field_Add f _ a0 a1 b0 b1 w (FM.ofN hf) h0 h1 k0 k1 g0 g1 j0 j1).mono fun _ _ h => h.toK (by rw [kI_add, kI_nI, kI_nI])
theorem field_SubL (a0 a1 b0 b1 : Int) (w : World) (h0 : 0 ≤ a0) (h1 : a0 ≤ 18446744073709551615) (k0 : 0 ≤ a1) (k1 : a1 ≤ 18446744073709551615)
    (g0 : 0 ≤ b0) (g1 : b0 ≤ 18446744073709551615) (j0 : 0 ≤ b1) (j1 : b1 ≤ 18446744073709551615) :
    Calls Try.prog 100 #[.int .u8 f, .agg #[.int .u64 a0, .int .u64 a1], .agg #[.int .u64 b0, .int .u64 b1]] w (RetK (kL f a0 a1 - kL f b0 b1) w) :=
  (field_Sub f _ a0 a1 b0 b1 w (FM.ofN hf) h0 h1 k0 k1 g0 g1 j0 j1).mono fun _ _ h => h.toK (by rw [kI_sub, kI_nI, kI_nI])

theorem field_AddK (x y : Fin (Pm f)) (w : World) : Calls Try.prog 56 #[.int .u8 f, vK x, vK y] w (RetK (x + y) w) := by
  have h := field_AddL hf (lo x) (hi x) (lo y) (hi y) w (lo_0 x) (lo_1 x) (hi_0 x) (hi_1 x) (lo_0 y) (lo_1 y) (hi_0 y) (hi_1 y)
  rwa [kL_lohi, kL_lohi] at h
theorem field_SubK (x y : Fin (Pm f)) (w : World) : Calls Try.prog 100 #[.int .u8 f, vK x, vK y] w (RetK (x - y) w) := by
  have h := field_SubL hf (lo x) (hi x) (lo y) (hi y) w (lo_0 x) (lo_1 x) (hi_0 x) (hi_1 x) (lo_0 y) (lo_1 y) (hi_0 y) (hi_1 y)
  rwa [kL_lohi, kL_lohi] at h

theorem ref_OfL (a0 a1 : Int) (w : World) (h0 : 0 ≤ a0) (h1 : a0 ≤ 18446744073709551615) (k0 : 0 ≤ a1) (k1 : a1 ≤ 18446744073709551615) :
    Calls Try.prog 33 #[.int .i64 f, .agg #[.int .u64 a0, .int .u64 a1]] w (RetK (kL f a0 a1) w) := by
  obtain ⟨p0, p1, hr⟩ := (FM.ofN hf).ref
  exact (ref_Of f _ p0 p1 a0 a1 w hr h0 h1 k0 k1).mono fun _ _ h => h.toK (by rw [kI_nI])
end

/-! ### lists of elements -/
abbrev KL (f : Nat) := List (Fin (Pm f))
def esK {f : Nat} (l : KL f) : List E := l.map eK
theorem esK_length {f : Nat} (l : KL f) : (esK l).length = l.length := by unfold esK; rw [List.length_map]
theorem esK_ok {f : Nat} (l : KL f) : ∀ e, e ∈ esK l → okE e := by
  intro e he
  unfold esK at he
  rw [List.mem_map] at he
  obtain ⟨x, _, rfl⟩ := he
  exact okE_eK x
theorem esK_at {f : Nat} {l : KL f} {i : Nat} {x : Fin (Pm f)} (h : l[i]? = some x) : (esK l)[i]? = some (eK x) := by unfold esK; rw [List.getElem?_map, h]; rfl
theorem esK_inj {f : Nat} {l m : KL f} (h : esK l = esK m) : l = m := by
  unfold esK at h
  exact (List.map_inj_right (fun _ _ e => eK_inj e)).1 h
theorem esK_append {f : Nat} (l m : KL f) : esK (l ++ m) = esK l ++ esK m := by unfold esK; rw [List.map_append]
theorem esK_nil {f : Nat} : esK ([] : KL f) = [] := rfl
theorem esK_cons {f : Nat} (x : Fin (Pm f)) (l : KL f) : esK (x :: l) = eK x :: esK l := rfl

/-- a slice value reads as the elements l -/
def SlK {f : Nat} (w : World) (B : Nat) (v : Value) (l : KL f) : Prop :=
  ∃ (A : Option Addr) (c : Nat), v = .slice A l.length c ∧ l.length ≤ c ∧ c ≤ 9223372036854775807 ∧ (0 < l.length → ∃ b o, A = some ⟨b, o, none⟩ ∧ b < B ∧ RowE w b o (esK l))
theorem SlK.toE {f : Nat} {w : World} {B : Nat} {v : Value} {l : KL f} (h : SlK w B v l) : SlE w B v (esK l) := by
  obtain ⟨A, c, hv, h1, h2, h3⟩ := h
  exact ⟨⟨A, c, by rw [esK_length]; exact hv, by rw [esK_length]; exact h1, h2, by rw [esK_length]; exact h3⟩, esK_ok l⟩
theorem SlE.toK {f : Nat} {w : World} {B : Nat} {v : Value} {l : KL f} (h : SlE w B v (esK l)) : SlK w B v l := by
  obtain ⟨⟨A, c, hv, h1, h2, h3⟩, _⟩ := h
  rw [esK_length] at hv h1 h3
  exact ⟨A, c, hv, h1, h2, h3⟩
theorem SlK.below {f : Nat} {w w' : World} {B : Nat} {v : Value} {l : KL f} (h : SlK w B v l) (hb : Below B w w') : SlK w' B v l := (h.toE.below hb).toK
theorem SlK.mono {f : Nat} {w : World} {B B' : Nat} {v : Value} {l : KL f} (h : SlK w B v l) (hB : B ≤ B') : SlK w B' v l := (h.toE.mono hB).toK
theorem SlK.later {f : Nat} {w w' : World} {v : Value} {l : KL f} (h : SlK w w.heap.size v l) (hb : Below w.heap.size w w') : SlK w' w'.heap.size v l := (h.below hb).mono hb.size
theorem RowE.kat {f : Nat} {w : World} {b o : Nat} {l : KL f} (h : RowE w b o (esK l)) {i : Nat} {x : Fin (Pm f)} (hx : l[i]? = some x) :
    w.cell? ⟨b, o + i * 2, none⟩ = some (.int .u64 (lo x)) ∧ w.cell? ⟨b, o + i * 2 + 1, none⟩ = some (.int .u64 (hi x)) := h i _ (esK_at hx)

end Go.Proofs.Ytgambjmjbmdciaa
