/-
  PURE: a gadget of polynomials.
-/
/-
  SLICES OF SLICES OF ELEMENTS: rows, append.
-/
/-
  WALKS: gadget.compose, gadget.Poly of a gadget that may be.
-/
/-
  SLICES OF SLICES WHILE ROWS ARE APPENDED TO: what none of certain blocks holds.
-/
/-
  SLICES OF BYTES: what a slice value reads as; an argument opened.
-/
import Derived.Test.YtfhmineolncefaaDoorMah
import Derived.Test.YtfhmineolncefaaDoorMan
import Derived.Test.YtfhmineolncefaaDoorMap
import Derived.Test.YtfhmineolncefaaDoorMaf
import Derived.Test.YtfhmineolncefaaDoorMal
import Derived.Test.YtfhmineolncefaaDoorMag
import Derived.Test.YtfhmineolncefaaDoorMas
import Derived.Test.YtfhmineolncefaaDoorMaj
import Derived.Test.YtfhmineolncefaaDoorMai
import Derived.Test.YtfhmineolncefaaDoorOpen2M
namespace Go.Proofs.YtfhmineolncefaaDoor
open Go.RowKit Fm
set_option linter.unusedVariables false
set_option maxRecDepth 100000

section
variable {f : Nat}
/-- an Eval's polynomial of another one: behind the coefficients from the k-th on -/
def comp (p : KL f) : KL f → KL f
  | [] => []
  | c :: cs => padd (pmul (comp p cs) p) [c]
/-- of k pairs the products' sum -/
def ppsum (l : List (KL f)) : Nat → KL f
  | 0 => []
  | k + 1 => padd (ppsum l k) (pmul (l.getD (2 * k) []) (l.getD (2 * k + 1) []))
def gpoly (g : Gad f) (l : List (KL f)) : KL f :=
  match g with
  | .mul => ppsum l 1
  | .eval cs => comp (l.getD 0 []) cs
  | .par n => ppsum l n

theorem ev_comp (x : Fin (Pm f)) (p : KL f) : ∀ cs : KL f, ev x (comp p cs) = ev (ev x p) cs
  | [] => rfl
  | c :: cs => by
    rw [comp, ev_padd, ev_pmul, ev_comp x p cs, ev_cons, ev_cons, ev_nil]
    grind
theorem getD_map_ev (x : Fin (Pm f)) (l : List (KL f)) (i : Nat) : (l.map (ev x)).getD i 0 = ev x (l.getD i []) := by
  rw [List.getD_eq_getElem?_getD, List.getElem?_map, List.getD_eq_getElem?_getD]
  cases l[i]? <;> rfl
theorem ev_ppsum (x : Fin (Pm f)) (l : List (KL f)) : ∀ k, ev x (ppsum l k) = psum (l.map (ev x)) k
  | 0 => rfl
  | k + 1 => by
    rw [ppsum, ev_padd, ev_pmul, ev_ppsum x l k]
    show _ = psum _ k + (l.map (ev x)).getD (2 * k) 0 * (l.map (ev x)).getD (2 * k + 1) 0
    rw [getD_map_ev, getD_map_ev]
theorem ev_gpoly (x : Fin (Pm f)) (g : Gad f) (l : List (KL f)) : ev x (gpoly g l) = gval g (l.map (ev x)) := by
  cases g with
  | mul => exact ev_ppsum x l 1
  | par n => exact ev_ppsum x l n
  | eval cs =>
    show ev x (comp _ cs) = ev ((l.map (ev x)).getD 0 0) cs
    rw [ev_comp, getD_map_ev]
theorem trim_padd (p q : KL f) : trim (padd p q) = padd p q := by unfold padd; exact trim_trim _
theorem pmul_le2 {p q : KL f} {M : Nat} (hp : p.length ≤ M) (hq : q.length ≤ M) : (pmul p q).length ≤ 2 * (M - 1) + 1 := by
  have := pmul_le p q
  omega
theorem ppsum_le {l : List (KL f)} {M : Nat} (h : ∀ i, (l.getD i []).length ≤ M) : ∀ k, (ppsum l k).length ≤ 2 * (M - 1) + 1
  | 0 => Nat.zero_le _
  | k + 1 => by
    have h1 := padd_le (ppsum l k) (pmul (l.getD (2 * k) []) (l.getD (2 * k + 1) []))
    have h2 := pmul_le2 (h (2 * k)) (h (2 * k + 1))
    have h3 := ppsum_le h k
    show (padd _ _).length ≤ _
    omega
theorem comp_le (p : KL f) : ∀ cs : KL f, (comp p cs).length ≤ (cs.length - 1) * (p.length - 1) + 1
  | [] => Nat.zero_le _
  | c :: cs => by
    have h1 := padd_le (pmul (comp p cs) p) [c]
    have h2 := pmul_le (comp p cs) p
    have h3 := comp_le p cs
    show (padd _ _).length ≤ _
    simp only [List.length_cons, List.length_nil] at h1 ⊢
    cases cs with
    | nil =>
      have h6 : (pmul (comp p []) p).length = 0 := by
        show (pmul [] p).length = 0
        rw [pmul_nil_left]
        rfl
      omega
    | cons d cs =>
      simp only [List.length_cons] at h3 ⊢
      by_cases hp : p.length = 0
      · have h6 : (pmul (comp p (d :: cs)) p).length = 0 := by
          rw [List.length_eq_zero_iff.1 hp, pmul_nil_right]
          rfl
        omega
      · have h5 : (cs.length + 1 + 1 - 1) * (p.length - 1) = (cs.length + 1 - 1) * (p.length - 1) + (p.length - 1) := by
          rw [show cs.length + 1 + 1 - 1 = (cs.length + 1 - 1) + 1 by omega, Nat.succ_mul]
        omega
theorem gpoly_le {g : Gad f} {l : List (KL f)} {M : Nat} (h : ∀ i, (l.getD i []).length ≤ M) : (gpoly g l).length ≤ g.degree * (M - 1) + 1 := by
  cases g with
  | mul => exact ppsum_le h 1
  | par n => exact ppsum_le h n
  | eval cs =>
    refine Nat.le_trans (comp_le _ cs) ?_
    have := h 0
    have h2 : (cs.length - 1) * ((l.getD 0 []).length - 1) ≤ (cs.length - 1) * (M - 1) := Nat.mul_le_mul_left _ (by omega)
    show _ ≤ (cs.length - 1) * (M - 1) + 1
    omega
theorem trim_ppsum (l : List (KL f)) : ∀ k, trim (ppsum l k) = ppsum l k
  | 0 => rfl
  | k + 1 => trim_padd _ _
theorem trim_comp (p : KL f) : ∀ cs, trim (comp p cs) = comp p cs
  | [] => rfl
  | c :: cs => trim_padd _ _
theorem trim_gpoly (g : Gad f) (l : List (KL f)) : trim (gpoly g l) = gpoly g l := by
  cases g with
  | mul => exact trim_ppsum l 1
  | par n => exact trim_ppsum l n
  | eval cs => exact trim_comp _ cs
end

end Go.Proofs.YtfhmineolncefaaDoor

namespace Go.Proofs.YtfhmineolncefaaDoor
open Go.RowKit Fm
set_option linter.unusedVariables false
set_option maxRecDepth 100000

/-- a value is a slice -/
def IsSl (u : Value) : Prop := ∃ (A : Option Addr) (n c : Nat), u = .slice A n c
theorem info_sl : (Tryd.prog.info? 22).map (fun i => (i.zero, i.size, i.bytes)) = some (some (.slice none 0 0), 1, 24) := by kernel_rfl
theorem isSl_one {u : Value} (h : IsSl u) : u.oneCell' = true := by
  obtain ⟨A, n, c, rfl⟩ := h
  rfl

theorem run_append_S (w : World) (base : Nat) (ty : TypeId) (v : Value) (n : Nat) (vs : List Value) (hown : w.ownsRow base 22 1 v n vs) (b o c : Nat) (u : Value) (hu : IsSl u) (hcell : w.cell? ⟨b, o, none⟩ = some u) (hbound : n + 1 ≤ 1000000) (hbase : base ≤ w.heap.size) :
    ∃ v' w', (Builtin.append_ #[59, 59] ty #[v, .slice (some ⟨b, o, none⟩) 1 c]).run Tryd.prog w = .ok v' w' ∧ w'.ownsRow base 22 1 v' (n + 1) (vs ++ [u]) ∧ w.grownBy w' v.ownBlock ∧
      (v'.ownBlock = v.ownBlock ∨ v'.ownBlock = some w.heap.size) := by
  obtain ⟨i, hi, hz, h1, h2⟩ := info_parts info_sl
  have hcells : ∀ j u', ([u] : List Value)[j]? = some u' → w.cell? ((⟨b, o, none⟩ : Addr).add j) = some u' := by
    intro j u' hj
    cases j with
    | zero =>
      injection hj with hj
      subst hj
      exact hcell
    | succ j => simp at hj
  obtain ⟨v', w', hrun, h3, h4, _, h5⟩ := run_append_own_at (P := Tryd.prog) w base 59 ty 22 i _ 1 24 Tryd.underlying59 hi hz h1 h2 rfl (by omega) v n _ hown ⟨b, o, none⟩ 1 c [u]
    rfl hcells (fun q hq => by rw [List.mem_singleton.1 hq]; exact isSl_one hu) (by unfold maxLen; omega) (by omega) hbase
  exact ⟨v', w', hrun, h3, h4, h5⟩

theorem wpList_append_S {w : World} {ops : Array Oper} {rest : List Oper} {o : Oper} {a : Act} {Q : Exit → Act → World → Prop} (hgd : o.guard = none) (s x : Operand)
    (ho : o.op = .call { callee := .builtin .append, args := #[s, x], argTypes := #[59, 59] })
    (base : Nat) (v : Value) (n : Nat) (vs : List Value) (hs : a.eval s = v) (hown : w.ownsRow base 22 1 v n vs) (b c : Nat) (u : Value) (hx : a.eval x = .slice (some ⟨b, 0, none⟩) 1 c)
    (hu : IsSl u) (hcell : w.cell? ⟨b, 0, none⟩ = some u) (hbound : n + 1 ≤ 1000000) (hbase : base ≤ w.heap.size)
    (h : ∀ v' w', w'.ownsRow base 22 1 v' (n + 1) (vs ++ [u]) → w.grownBy w' v.ownBlock → (v'.ownBlock = v.ownBlock ∨ v'.ownBlock = some w.heap.size) → wpList Tryd.prog ops Q rest (a.put o.dst v') w') : wpList Tryd.prog ops Q (o :: rest) a w := by
  obtain ⟨v', w', hrun, h2, h3, h4⟩ := run_append_S w base o.type v n vs hown b 0 c u hu hcell hbound hbase
  refine wpList_plain hgd fun K hK => ?_
  unfold Oper.wp execOp
  simp only [ho, resolve, invoke, builtin, Sem.run_bind, Sem.run_pure, Result.andThen_ok, List.map_toArray, List.map_cons, List.map_nil, hs, hx, hrun]
  exact hK _ _ (h v' w' h2 h3 h4)

/-- the cells from ⟨b, o⟩ on hold the values vs -/
def RowS (w : World) (b o : Nat) (vs : List Value) : Prop := ∀ (i : Nat) (u : Value), vs[i]? = some u → w.cell? ⟨b, o + i, none⟩ = some u
theorem RowS.below {w w' : World} {B b o : Nat} {vs : List Value} (h : RowS w b o vs) (hb : Below B w w') (hB : b < B) : RowS w' b o vs :=
  fun i u hi => (hb.cell (p := ⟨b, o + i, none⟩) hB).trans (h i u hi)
theorem own_rowS {w : World} {base n : Nat} {v : Value} {vs : List Value} (hn : 0 < n) (h : w.ownsRow base 22 1 v n vs) : ∃ g c, v = .slice (some ⟨g, 0, none⟩) n c ∧ RowS w g 0 vs ∧ base ≤ g ∧ g < w.heap.size ∧ vs.length = n ∧ n ≤ c := by
  have hl := h.1
  rcases h.2 with ⟨_, h0⟩ | ⟨g, cap, cur, hv, hb, hg, hnc, hcm, hcs, ht⟩
  · omega
  · refine ⟨g, cap, hv, fun i u hi => ?_, hb, (Array.getElem?_eq_some_iff.1 hg).1, by omega, hnc⟩
    rw [← ht] at hi
    have hlt : i < n * 1 := by
      obtain ⟨h1, _⟩ := List.getElem?_eq_some_iff.1 hi
      rw [List.length_take] at h1
      omega
    rw [List.getElem?_take_of_lt hlt] at hi
    simp [World.cell?, hg]
    simpa using hi

/-- the slices vs read as the lists ps -/
structure PsK {f : Nat} (w : World) (vs : List Value) (ps : List (KL f)) : Prop where
  len : vs.length = ps.length
  at' : ∀ (i : Nat) (v : Value) (p : KL f), vs[i]? = some v → ps[i]? = some p → SlK w w.heap.size v p
theorem PsK.later {f : Nat} {w w' : World} {vs : List Value} {ps : List (KL f)} (h : PsK w vs ps) (hb : Below w.heap.size w w') : PsK w' vs ps :=
  ⟨h.len, fun i v p h1 h2 => (h.at' i v p h1 h2).later hb⟩
theorem PsK.nil {f : Nat} (w : World) : PsK w [] ([] : List (KL f)) := ⟨rfl, fun i v p h => by cases h⟩
theorem PsK.snoc {f : Nat} {w : World} {vs : List Value} {ps : List (KL f)} (h : PsK w vs ps) {v : Value} {p : KL f} (hv : SlK w w.heap.size v p) : PsK w (vs ++ [v]) (ps ++ [p]) := by
  refine ⟨by rw [List.length_append, List.length_append, h.len]; rfl, fun i u q h1 h2 => ?_⟩
  by_cases hi : i < vs.length
  · rw [List.getElem?_append_left hi] at h1
    rw [List.getElem?_append_left (by rw [← h.len]; exact hi)] at h2
    exact h.at' i u q h1 h2
  · rw [List.getElem?_append_right (by omega)] at h1
    rw [List.getElem?_append_right (by rw [← h.len]; omega), ← h.len] at h2
    obtain ⟨k, hk⟩ : ∃ k, i - vs.length = k := ⟨_, rfl⟩
    rw [hk] at h1 h2
    cases k with
    | zero =>
      injection h1 with h1
      injection h2 with h2
      subst h1
      subst h2
      exact hv
    | succ k => simp at h1
theorem PsK.get {f : Nat} {w : World} {vs : List Value} {ps : List (KL f)} (h : PsK w vs ps) {i : Nat} {p : KL f} (hp : ps[i]? = some p) : ∃ v, vs[i]? = some v ∧ SlK w w.heap.size v p := by
  obtain ⟨hlt, _⟩ := List.getElem?_eq_some_iff.1 hp
  have hv : vs[i]? = some (vs[i]'(by rw [h.len]; exact hlt)) := List.getElem?_eq_getElem _
  exact ⟨_, hv, h.at' _ _ _ hv hp⟩

end Go.Proofs.YtfhmineolncefaaDoor

namespace Go.Proofs.YtfhmineolncefaaDoor
open Go.RowKit Fm
set_option linter.unusedVariables false
set_option maxRecDepth 100000

section
variable {f : Nat}
/-- a slice of elements and no error come back -/
def RetSq0 (l : KL f) (w : World) (e : Ending) (w' : World) : Prop := ∃ q : Option Addr × Nat, e = .returned (.tuple #[.slice q.1 l.length q.2, .int .i64 0]) ∧ SlK w' w'.heap.size (.slice q.1 l.length q.2) l ∧ Below w.heap.size w w'
theorem RetOwn0.sq {l : KL f} {w w' : World} {e : Ending} (h : RetOwn0 l w e w') : RetSq0 l w e w' := by
  obtain ⟨v, rfl, ho, hb⟩ := h
  obtain ⟨A, c, rfl⟩ := own_shape ho
  exact ⟨(A, c), rfl, own_sl rfl ho, hb⟩
theorem SlK.sing (w : World) (a : Fin (Pm f)) : SlK (w.alloc (.cells #[.int .u64 (lo a), .int .u64 (hi a)] 28)) (w.alloc (.cells #[.int .u64 (lo a), .int .u64 (hi a)] 28)).heap.size (.slice (some ⟨w.heap.size, 0, none⟩) 1 1) [a] :=
  (RwK.new w [a] #[.int .u64 (lo a), .int .u64 (hi a)] rfl 28).sl (n := 1) (c := 1) rfl (by omega) (by omega)

variable (hf : IsF f)
include hf
set_option maxHeartbeats 8000000 in
theorem gadget_compose (n : Int) (sl : Value) (cs : KL f) (vp : Value) (p : KL f) (w : World) (hT : TabW w) (hs : SlK w w.heap.size sl cs) (hC : cs.length ≤ 4) (hp : SlK w w.heap.size vp p) (hpl : p.length ≤ 300) :
    Calls Tryd.prog 79 #[.agg #[.int .u8 2, sl, .int .i64 n], .int .u8 f, vp] w (RetSq0 (comp p cs) w) := by
  have HML := Lib.hid (fun va vb (a b : KL f) wz h0 h1 h2 h3 h4 h5 => (poly_Mul hf va vb a b wz h0 h1 h2 h3 h4 h5).mono fun _ _ h => h.sq)
  have HAD := Lib.hid (fun va vb (a b : KL f) wz h1 h2 h3 h4 => (poly_Add hf va vb a b wz h1 h2 h3 h4).mono fun _ _ h => h.sq)
  have HCL := Lib.hid (fun l => comp_le p l)
  have HL := Lib.hid hp
  have HT := Lib.hid hT
  obtain ⟨A, c, rfl, hc, hcm, hR⟩ := hs
  have HR := Lib.hid hR
  obtain ⟨A2, c2, rfl, hc2, hcm2, _⟩ := hp
  obtain ⟨mC, hmC⟩ : ∃ z, cs.length = z := ⟨_, rfl⟩
  have HMC := Lib.hid hmC
  obtain ⟨ml, hml⟩ : ∃ z, p.length = z := ⟨_, rfl⟩
  have HLM := Lib.hid hml
  rw [hmC] at hc hC ⊢
  rw [hml] at hc2 hpl HL ⊢
  have HDE : Hid (cs.drop mC = []) := List.drop_of_length_le (Nat.le_of_eq hmC)
  have HD0 : Hid (cs.drop 0 = cs) := rfl
  clear hmC hml hR hT
  go_enter Tryd.func79, Tryd.ntmps79
  go_upto_region 1 with fail
  have hx := Vs.new w [.int .u8 2, .slice A mC c, .int .i64 n] #[.int .u8 2, .slice A mC c, .int .i64 n] 68 rfl
  have hb00 : Below w.heap.size w (w.alloc (.cells #[.int .u8 2, .slice A mC c, .int .i64 n] 68)) := by repeat (first | exact Below.refl _ _ | with_reducible assumption | (refine bl_alloc ?_ (Nat.le_refl _) _))
  have hszn : w.heap.size + 1 ≤ (w.alloc (.cells #[.int .u8 2, .slice A mC c, .int .i64 n] 68)).heap.size := by simp only [World.size_alloc]; omega
  generalize (w.alloc (.cells #[.int .u8 2, .slice A mC c, .int .i64 n] 68)) = w1 at hx hb00 hszn ⊢
  obtain ⟨x0, x1, x2, x3, x4, x5, x6⟩ := hx.get3
  go_wp2_with fail
  clear x0 x1 x2 x3 x4 x5 x6
  go_loopw [8, 9] (fun ov iv wr => ∃ (j lo9 : Nat) (out : KL f) (D : Option Addr) (cp : Nat), j ≤ mC ∧ iv = .int .i64 ((j : Int) - 1) ∧ ov = .slice D lo9 cp ∧ Hid (out.length = lo9 ∧ out = comp p (cs.drop j)) ∧ SlK wr wr.heap.size (.slice D lo9 cp) out ∧ Vs wr w.heap.size [.int .u8 2, .slice A mC c, .int .i64 n] ∧ Below w.heap.size w wr) (fun _ iv _ => (intOf iv + 1).toNat)
  case atStart => exact ⟨mC, 0, [], none, 0, Nat.le_refl _, rfl, rfl, ⟨rfl, by rw [HDE.out]; rfl⟩, (SlE.nil _ _).toK (l := []), hx, hb00⟩
  case round =>
    clear hx hb00
    obtain ⟨j, lo9, out, D, cp, hjd, rfl, rfl, hI, hos, hx, hb00⟩ := hrel
    by_cases hj0 : j = 0
    · subst hj0
      have HOU : Hid (out = comp p cs) := hI.out.2
      have HOL : Hid (out.length = lo9) := hI.out.1
      clear hI hx
      go_wp2_with fail
      go_ret2
      exact ⟨(D, cp), by rw [← HOU.out, HOL.out]; rfl, by rw [← HOU.out, HOL.out]; exact hos, hb00⟩
    · obtain ⟨k, rfl⟩ : ∃ q, j = q + 1 := ⟨j - 1, by omega⟩
      have HOU : Hid (out = comp p (cs.drop (k + 1))) := hI.out.2
      have HOL : Hid (out.length = lo9) := hI.out.1
      have hl9 : lo9 ≤ 900 := by
        have h1 := HCL.out (cs.drop (k + 1))
        rw [← HOU.out, HOL.out, List.length_drop, HMC.out, HLM.out] at h1
        have h2 : (mC - (k + 1) - 1) * (ml - 1) ≤ 2 * (ml - 1) := Nat.mul_le_mul_right _ (by omega)
        omega
      have hl8 : lo9 ≤ 2 * (ml - 1) + 1 := by
        have h1 := HCL.out (cs.drop (k + 1))
        rw [← HOU.out, HOL.out, List.length_drop, HMC.out, HLM.out] at h1
        have h2 : (mC - (k + 1) - 1) * (ml - 1) ≤ 2 * (ml - 1) := Nat.mul_le_mul_right _ (by omega)
        omega
      clear hI
      have hkC : k < mC := by omega
      have g1 : (0 : Int) ≤ (k : Int) := by omega
      have g2 : (k : Int) < (mC : Int) := by omega
      obtain ⟨y, hy⟩ : ∃ y, cs[k]? = some y := ⟨_, List.getElem?_eq_getElem (by rw [HMC.out]; exact hkC)⟩
      have HDR : Hid (cs.drop k = y :: cs.drop (k + 1)) := by
        show _ = _
        obtain ⟨hlt, rfl⟩ := List.getElem?_eq_some_iff.1 hy
        exact List.drop_eq_getElem_cons hlt
      have HY := Lib.hid hy
      clear hy
      go_wp2_with fail
      refine (HML.out _ _ out p _ (HT.out.call hb00) hos (HL.out.later hb00) (by rw [HOL.out]; omega) (by rw [HLM.out]; omega) (by have h1 := trim_le out; have h2 := trim_le p; rw [HOL.out] at h1; rw [HLM.out] at h2; omega)).mono ?_
      rintro e w2 ⟨⟨AS, cS⟩, rfl, hss, hb2⟩
      dsimp only at hss ⊢
      obtain ⟨S, hS⟩ : ∃ S, pmul out p = S := ⟨_, rfl⟩
      have HSE : Hid (S = pmul (comp p (cs.drop (k + 1))) p) := by show _ = _; rw [← hS, HOU.out]
      rw [hS] at hss ⊢
      have hms3 : S.length ≤ 1300 := by
        have h1 := pmul_le out p
        rw [hS, HOL.out, HLM.out] at h1
        omega
      obtain ⟨ms, hms⟩ : ∃ z, S.length = z := ⟨_, rfl⟩
      rw [hms] at hss hms3 ⊢
      have HMS := Lib.hid hms
      clear hms hS
      replace hb00 := bl_call hb00 (Nat.le_refl _) hb2
      replace hx := hx.call hb2
      clear hb2 hos
      obtain ⟨b, o, hAe, hB, hrow⟩ := HR.out (by rw [HMC.out]; omega)
      have hrb := (hrow.below hb00 hB).kat HY.out
      obtain ⟨d0, d1⟩ := hrb
      have hbl : b < w2.heap.size := Nat.lt_of_lt_of_le hB hb00.size
      subst hAe
      clear hrow
      have hbA : Below w2.heap.size w2 (w2.alloc (.cells #[.int .u64 (lo y), .int .u64 (hi y)] 28)) := (Below.refl _ _).alloc (Nat.le_refl _) _
      have hpr := SlK.sing w2 y
      have hss2 := hss.later hbA
      have hx2 := hx.call hbA
      have hb02 := bl_call hb00 (Nat.le_refl _) hbA
      have HA9 := Lib.hid (HAD.out _ _ S [y] _ hss2 hpr (by rw [HMS.out]; omega) (by simp))
      obtain ⟨x0, x1, x2, x3, x4, x5, x6⟩ := hx.get3
      clear hbA hpr hss2
      go_wp2_with fail
      refine HA9.out.mono ?_
      rintro e w4 ⟨⟨A4, c4⟩, rfl, hs4, hb4⟩
      dsimp only at hs4 ⊢
      have HCO : Hid (padd S [y] = comp p (cs.drop k)) := by show _ = _; rw [HSE.out, HDR.out]; rfl
      rw [HCO.out] at hs4 ⊢
      clear x0 x1 x2 x3 x4 x5 x6
      clear d0 d1 hbl hx hb00 HA9
      replace hb02 := bl_call hb02 (Nat.le_refl _) hb4
      replace hx2 := hx2.call hb4
      clear hb4 hss
      go_wp2_with fail
      go_roundw
      case rel => exact ⟨k, _, comp p (cs.drop k), A4, c4, by omega, by go_num, rfl, ⟨rfl, rfl⟩, hs4, hx2, hb02⟩
      case measure => simp [intOf]

set_option maxHeartbeats 8000000 in
/-- behind Check and the look at how many there are: the pairs' sum -/
theorem gadget_Poly_pairs (w : World) (g : Gad f) (k : Int) (n : Int) (hg : RepG w w.heap.size k (.slice none 0 0) n g) (hk : (k == 2) = false) (hT : TabW w) (b o c : Nat) (vs : List Value) (ps : List (KL f)) (hrow : RowS w b o vs) (hb : b < w.heap.size) (hps : PsK w vs ps) (hM : ∀ i, (ps.getD i []).length ≤ 500)
    (q : Nat) (hq : ps.length = 2 * q) (ha : g.arity = 2 * q) (hq16 : q ≤ 16) (hv : gpoly g ps = ppsum ps q) :
    Calls Tryd.prog 50 #[.agg #[.int .u8 k, .slice none 0 0, .int .i64 n], .int .u8 f, .slice (some ⟨b, o, none⟩) (2 * q : Nat) c] w (RetSq0 (gpoly g ps) w) := by
  have HC := Lib.hid (fun wz (h : Below w.heap.size w wz) => gadget_Check hf wz g k _ n (hg.later h))
  have HAA : Hid (∀ wz, Below w.heap.size w wz → Calls Tryd.prog 53 #[.agg #[.int .u8 k, .slice none 0 0, .int .i64 n]] wz fun e w' => e = .returned (.int .i64 ((2 * q : Nat) : Int)) ∧ Below wz.heap.size wz w') := fun wz hb => by
    have h := gadget_Arity wz w.heap.size g k (.slice none 0 0) n (hg.below hb)
    rwa [ha] at h
  rw [hv]
  have HQ := Lib.hid hq
  have HML := Lib.hid (fun va vb (a b : KL f) wz h0 h1 h2 h3 h4 h5 => (poly_Mul hf va vb a b wz h0 h1 h2 h3 h4 h5).mono fun _ _ h => h.sq)
  have HAD := Lib.hid (fun va vb (a b : KL f) wz h1 h2 h3 h4 => (poly_Add hf va vb a b wz h1 h2 h3 h4).mono fun _ _ h => h.sq)
  have HPL := Lib.hid (fun k => ppsum_le hM k)
  have HM := Lib.hid hM
  have HRO := Lib.hid hrow
  have HPS := Lib.hid hps
  have HT := Lib.hid hT
  clear hq ha hv hg hM hrow hps hT
  go_enter Tryd.func50, Tryd.ntmps50
  go_upto_region 1 with fail
  have hx := Vs.new w [.int .u8 k, .slice none 0 0, .int .i64 n] #[.int .u8 k, .slice none 0 0, .int .i64 n] 68 rfl
  have hb00 : Below w.heap.size w (w.alloc (.cells #[.int .u8 k, .slice none 0 0, .int .i64 n] 68)) := by repeat (first | exact Below.refl _ _ | with_reducible assumption | (refine bl_alloc ?_ (Nat.le_refl _) _))
  have hszn : w.heap.size + 1 ≤ (w.alloc (.cells #[.int .u8 k, .slice none 0 0, .int .i64 n] 68)).heap.size := by simp only [World.size_alloc]; omega
  generalize (w.alloc (.cells #[.int .u8 k, .slice none 0 0, .int .i64 n] 68)) = w1 at hx hb00 hszn ⊢
  obtain ⟨x0, x1, x2, x3, x4, x5, x6⟩ := hx.get3
  go_wp2_with fail
  refine (HC.out _ hb00).mono ?_
  rintro e w2 ⟨rfl, hb2⟩
  clear x0 x1 x2 x3 x4 x5 x6
  replace hb00 := bl_call hb00 (Nat.le_refl _) hb2
  replace hx := hx.call hb2
  clear hb2
  obtain ⟨x0, x1, x2, x3, x4, x5, x6⟩ := hx.get3
  go_wp2_with fail
  refine (HAA.out _ hb00).mono ?_
  rintro e w3 ⟨rfl, hb3⟩
  clear x0 x1 x2 x3 x4 x5 x6
  replace hb00 := bl_call hb00 (Nat.le_refl _) hb3
  replace hx := hx.call hb3
  clear hb3
  obtain ⟨x0, x1, x2, x3, x4, x5, x6⟩ := hx.get3
  go_wp2_with fail
  clear x0 x1 x2 x3 x4 x5 x6
  clear hx HC HAA
  go_loopw [9, 10] (fun ov iv wr => ∃ (j lo9 : Nat) (D : Option Addr) (cp : Nat), j ≤ q ∧ iv = .int .i64 ((2 * j : Nat) : Int) ∧ ov = .slice D lo9 cp ∧ Hid ((ppsum ps j).length = lo9) ∧ SlK wr wr.heap.size (.slice D lo9 cp) (ppsum ps j) ∧ Below w.heap.size w wr) (fun _ iv _ => (2 * q + 1) - (intOf iv).toNat)
  case atStart => exact ⟨0, 0, none, 0, Nat.zero_le _, rfl, rfl, rfl, (SlE.nil _ _).toK (l := []), hb00⟩
  case round =>
    clear hb00
    obtain ⟨j, lo9, D, cp, hj, rfl, rfl, HL9, hos, hb00⟩ := hrel
    by_cases hlt : j < q
    · obtain ⟨x, hx⟩ : ∃ e, ps[2 * j]? = some e := ⟨_, List.getElem?_eq_getElem (by have := HQ.out; omega)⟩
      obtain ⟨y, hy⟩ : ∃ e, ps[2 * j + 1]? = some e := ⟨_, List.getElem?_eq_getElem (by have := HQ.out; omega)⟩
      obtain ⟨vx, hvx, hsx⟩ := HPS.out.get hx
      obtain ⟨vy, hvy, hsy⟩ := HPS.out.get hy
      have hxl : x.length ≤ 500 := by have h := HM.out (2 * j); rwa [List.getD_eq_getElem?_getD, hx] at h
      have hyl : y.length ≤ 500 := by have h := HM.out (2 * j + 1); rwa [List.getD_eq_getElem?_getD, hy] at h
      have HST : Hid (ppsum ps (j + 1) = padd (ppsum ps j) (pmul x y)) := by
        show padd _ (pmul (ps.getD (2 * j) []) (ps.getD (2 * j + 1) [])) = _
        rw [List.getD_eq_getElem?_getD, List.getD_eq_getElem?_getD, hx, hy]
        rfl
      have hroww := HRO.out.below hb00 hb
      have d0 := hroww _ _ hvx
      have d1 := hroww _ _ hvy
      have hbl : b < wr.heap.size := Nat.lt_of_lt_of_le hb hb00.size
      have HSX := Lib.hid (hsx.later hb00)
      have HSY := Lib.hid (hsy.later hb00)
      obtain ⟨Ax, cx, rfl, _, _, _⟩ := hsx
      obtain ⟨Ay, cy, rfl, _, _, _⟩ := hsy
      have hmb := pmul_le x y
      obtain ⟨M, hMe⟩ : ∃ M, pmul x y = M := ⟨_, rfl⟩
      have HMUL : Hid (∀ wz, Below wr.heap.size wr wz → Calls Tryd.prog 29 #[.int .u8 f, .slice Ax x.length cx, .slice Ay y.length cy] wz (RetSq0 M wz)) := fun wz hbz => by
        have h := HML.out _ _ x y wz (HT.out.call (hb00.trans (hbz.mono hb00.size))) (HSX.out.later hbz) (HSY.out.later hbz) (by omega) (by omega) (by have h1 := trim_le x; have h2 := trim_le y; omega)
        rwa [hMe] at h
      rw [hMe] at HST hmb
      have hpb := HPL.out j
      rw [HL9.out] at hpb
      generalize ppsum ps j = s at *
      have hj1 : 2 * j < 2 * q := by omega
      have hj2 : 2 * j + 1 < 2 * q := by omega
      have hj3 : 2 * j + 2 ≤ 2 * q := by omega
      generalize hjj : 2 * j = jj at *
      have HJJ := Lib.hid hjj
      generalize hqq : 2 * q = qq at *
      have HQQ := Lib.hid hqq
      have hqq32 : qq ≤ 32 := by omega
      generalize x.length = nx at *
      generalize y.length = ny at *
      clear hjj hqq hx hy hroww hMe hvx hvy HSX HSY HML HM
      have hj4 : 0 ≤ (jj : Int) + 1 := by omega
      have hj5 : (jj : Int) + 1 < (qq : Int) := by omega
      have hw1 : IntKind.i64.wrap ((jj : Int) + 1) = (jj : Int) + 1 := IntWalk.i64_in _ (by omega)
      go_wp2_with fail
      refine region_G (n := 15) (m := 16) (f := 15) (by kernel_rfl) (by kernel_rfl) rfl ?_
      refine WpG.takeD 0 (some 42) (v := ?_) rfl rfl (by kernel_rfl) (fun _ _ _ h => h) (.val rfl (fun wz hwz => ?_)) ?_
      rotate_left
      · go_simp; try (with_reducible rfl)
      (simp only [Act.put]); (try simp only [List.setIfInBounds_toArray]); (try simp only [List.set_cons_succ]); (try simp only [List.set_cons_zero])
      refine WpG.takeD 1 (some 43) (v := ?_) rfl rfl (by kernel_rfl) (fun _ _ _ h => h) (.val rfl (fun wz hwz => ?_)) ?_
      rotate_left
      · go_simp; try (with_reducible rfl)
      (simp only [Act.put]); (try simp only [List.setIfInBounds_toArray]); (try simp only [List.set_cons_succ]); (try simp only [List.set_cons_zero])
      refine WpG.takeD 2 (some 44) (v := ?_) rfl rfl (by kernel_rfl) (fun _ _ _ h => h) (.val rfl (fun wz hwz => ?_)) ?_
      rotate_left
      · go_simp; try (with_reducible rfl)
      (simp only [Act.put]); (try simp only [List.setIfInBounds_toArray]); (try simp only [List.set_cons_succ]); (try simp only [List.set_cons_zero])
      refine WpG.takeD 3 (some 45) (v := ?_) rfl rfl (by kernel_rfl) (fun _ _ _ h => h) (.val rfl (fun wz hwz => ?_)) ?_
      rotate_left
      · go_simp; try (with_reducible rfl)
      (simp only [Act.put]); (try simp only [List.setIfInBounds_toArray]); (try simp only [List.set_cons_succ]); (try simp only [List.set_cons_zero])
      refine WpG.takeD 4 (some 46) (v := ?_) rfl rfl (by kernel_rfl) (fun _ _ _ h => h) (.val rfl (fun wz hwz => ?_)) ?_
      rotate_left
      · (obtain ⟨hcz, hfz⟩ := bcell (hwz); go_simp; try (with_reducible rfl))
      (simp only [Act.put]); (try simp only [List.setIfInBounds_toArray]); (try simp only [List.set_cons_succ]); (try simp only [List.set_cons_zero])
      refine WpG.takeD 5 (some 47) (v := ?_) rfl rfl (by kernel_rfl) (fun _ _ _ h => h) (.val rfl (fun wz hwz => ?_)) ?_
      rotate_left
      · go_simp; try (with_reducible rfl)
      (simp only [Act.put]); (try simp only [List.setIfInBounds_toArray]); (try simp only [List.set_cons_succ]); (try simp only [List.set_cons_zero])
      refine WpG.takeD 6 (some 48) (v := ?_) rfl rfl (by kernel_rfl) (fun _ _ _ h => h) (.val rfl (fun wz hwz => ?_)) ?_
      rotate_left
      · go_simp; try (with_reducible rfl)
      (simp only [Act.put]); (try simp only [List.setIfInBounds_toArray]); (try simp only [List.set_cons_succ]); (try simp only [List.set_cons_zero])
      refine WpG.takeD 7 (some 49) (v := ?_) rfl rfl (by kernel_rfl) (fun _ _ _ h => h) (.val rfl (fun wz hwz => ?_)) ?_
      rotate_left
      · go_simp; try (with_reducible rfl)
      (simp only [Act.put]); (try simp only [List.setIfInBounds_toArray]); (try simp only [List.set_cons_succ]); (try simp only [List.set_cons_zero])
      refine WpG.takeD 8 (some 50) (v := ?_) rfl rfl (by kernel_rfl) (fun _ _ _ h => h) (.val rfl (fun wz hwz => ?_)) ?_
      rotate_left
      · go_simp; try (with_reducible rfl)
      (simp only [Act.put]); (try simp only [List.setIfInBounds_toArray]); (try simp only [List.set_cons_succ]); (try simp only [List.set_cons_zero])
      refine WpG.takeD 9 (some 51) (v := ?_) rfl rfl (by kernel_rfl) (fun _ _ _ h => h) (.val rfl (fun wz hwz => ?_)) ?_
      rotate_left
      · (obtain ⟨hcz, hfz⟩ := bcell (hwz); go_simp; try (with_reducible rfl))
      (simp only [Act.put]); (try simp only [List.setIfInBounds_toArray]); (try simp only [List.set_cons_succ]); (try simp only [List.set_cons_zero])
      refine WpG.oneD 10 (some 52) rfl rfl (by kernel_rfl) (fun u : Option Addr × Nat => Value.tuple #[.slice u.1 M.length u.2, .int .i64 0]) (fun u wz => SlK wz wz.heap.size (.slice u.1 M.length u.2) M) (fun _ _ _ h hb => h.later hb) (Fresh.call rfl (fun wz hwz => HMUL.out wz (hwz)) (fun wz hwz => by go_simp; try (with_reducible rfl))) (fun u1 w0u1 hw0u1 hR0u1 => ?_)
      (simp only [Act.put]); (try simp only [List.setIfInBounds_toArray]); (try simp only [List.set_cons_succ]); (try simp only [List.set_cons_zero])
      refine WpG.takeD 11 (some 41) (v := ?_) rfl rfl (by kernel_rfl) (fun _ _ _ h => h) (.val rfl (fun wz hwz => ?_)) ?_
      rotate_left
      · go_simp; try (with_reducible rfl)
      (simp only [Act.put]); (try simp only [List.setIfInBounds_toArray]); (try simp only [List.set_cons_succ]); (try simp only [List.set_cons_zero])
      refine WpG.takeD 12 (some 53) (v := ?_) rfl rfl (by kernel_rfl) (fun _ _ _ h => h) (.val rfl (fun wz hwz => ?_)) ?_
      rotate_left
      · go_simp; try (with_reducible rfl)
      (simp only [Act.put]); (try simp only [List.setIfInBounds_toArray]); (try simp only [List.set_cons_succ]); (try simp only [List.set_cons_zero])
      refine WpG.takeD 13 (some 54) (v := ?_) rfl rfl (by kernel_rfl) (fun _ _ _ h => h) (.val rfl (fun wz hwz => ?_)) ?_
      rotate_left
      · go_simp; try (with_reducible rfl)
      (simp only [Act.put]); (try simp only [List.setIfInBounds_toArray]); (try simp only [List.set_cons_succ]); (try simp only [List.set_cons_zero])
      refine WpG.takeD 14 (some 11) (v := ?_) rfl rfl (by kernel_rfl) (fun _ _ _ h => h) (.val rfl (fun wz hwz => ?_)) ?_
      rotate_left
      · go_simp; try (with_reducible rfl)
      (simp only [Act.put]); (try simp only [List.setIfInBounds_toArray]); (try simp only [List.set_cons_succ]); (try simp only [List.set_cons_zero])
      refine WpG.done (by kernel_rfl) (fun w6 hS => ?_)
      (try simp only [List.drop_succ_cons]); (try simp only [List.drop_zero]); (try simp only [Nat.reduceSub]); (try simp only [List.take_succ_cons]); (try simp only [List.take_zero])
      obtain ⟨hb6, hsm⟩ := hS
      clear d0 d1 hbl HMUL
      replace hb00 := bl_call hb00 (Nat.le_refl _) hb6
      replace hos := hos.later hb6
      clear hb6 hj4 hj5 hw1
      obtain ⟨lm, hlm⟩ : ∃ z, M.length = z := ⟨_, rfl⟩
      rw [hlm] at hsm hmb ⊢
      have HLM := Lib.hid hlm
      clear hlm
      go_wp2_with fail
      refine (HAD.out _ _ s M _ hos hsm (by rw [HL9.out]; omega) (by rw [HLM.out]; omega)).mono ?_
      rintro e w7 ⟨⟨A7, c7⟩, rfl, hs7, hb7⟩
      dsimp only at hs7 ⊢
      rw [← HST.out] at hs7 ⊢
      replace hb00 := bl_call hb00 (Nat.le_refl _) hb7
      clear hb7 hos hsm
      go_wp2_with fail
      go_roundw
      case rel => exact ⟨j + 1, _, A7, c7, by omega, by have := HJJ.out; have := HQQ.out; rw [show 2 * (j + 1) = jj + 2 by omega]; go_num, rfl, rfl, hs7, hb00⟩
      case measure => simp [intOf]; omega
    · obtain rfl : j = q := by omega
      go_wp2_with fail
      go_ret2
      exact ⟨(D, cp), by rw [HL9.out]; rfl, by rw [HL9.out]; exact hos, hb00⟩

set_option maxHeartbeats 8000000 in
theorem gadget_Poly (w : World) (g : Gad f) (k : Int) (sl : Value) (n : Int) (hg : RepG w w.heap.size k sl n g) (hT : TabW w) (b o c : Nat) (vs : List Value) (ps : List (KL f)) (hrow : RowS w b o vs) (hb : b < w.heap.size) (hps : PsK w vs ps) (hM : ∀ i, (ps.getD i []).length ≤ 300) (hq : ps.length = g.arity) :
    Calls Tryd.prog 50 #[.agg #[.int .u8 k, sl, .int .i64 n], .int .u8 f, .slice (some ⟨b, o, none⟩) ps.length c] w (RetSq0 (gpoly g ps) w) := by
  cases g with
  | mul =>
    have hg' := hg
    obtain ⟨rfl, rfl, rfl⟩ := hg
    rw [show ps.length = 2 * 1 from hq]
    exact gadget_Poly_pairs hf w .mul 1 0 hg' rfl hT b o c vs ps hrow hb hps (fun i => Nat.le_trans (hM i) (by omega)) 1 hq rfl (by omega) rfl
  | par m =>
    have hg' := hg
    obtain ⟨rfl, rfl, rfl, h1, h2⟩ := hg
    rw [show ps.length = 2 * m from hq]
    exact gadget_Poly_pairs hf w (.par m) 3 m hg' rfl hT b o c vs ps hrow hb hps (fun i => Nat.le_trans (hM i) (by omega)) m hq rfl h2 rfl
  | eval cs =>
    have HC := Lib.hid (fun wz (h : Below w.heap.size w wz) => gadget_Check hf wz (.eval cs) k _ n (hg.later h))
    have HAA : Hid (∀ wz, Below w.heap.size w wz → Calls Tryd.prog 53 #[.agg #[.int .u8 k, sl, .int .i64 n]] wz fun e w' => e = .returned (.int .i64 1) ∧ Below wz.heap.size wz w') := fun wz hb => gadget_Arity wz w.heap.size (.eval cs) k sl n (hg.below hb)
    obtain ⟨rfl, rfl, hs, m, y, hm, hy, hy0, h1, h2⟩ := hg
    have hq1 : ps.length = 1 := hq
    rw [hq1]
    obtain ⟨p, hp⟩ : ∃ e, ps[0]? = some e := ⟨_, List.getElem?_eq_getElem (by omega)⟩
    obtain ⟨vp, hvp, hsp⟩ := hps.get hp
    have hgv : gpoly (.eval cs) ps = comp p cs := by
      show comp (ps.getD 0 []) cs = _
      rw [List.getD_eq_getElem?_getD, hp]
      rfl
    have hpl : p.length ≤ 300 := by have h := hM 0; rwa [List.getD_eq_getElem?_getD, hp] at h
    rw [hgv]
    have HCO : Hid (∀ wz, Below w.heap.size w wz → Calls Tryd.prog 79 #[.agg #[.int .u8 2, sl, .int .i64 0], .int .u8 f, vp] wz (RetSq0 (comp p cs) wz)) := fun wz h => gadget_compose hf 0 sl cs vp p wz (hT.call h) (hs.later h) (by omega) (hsp.later h) hpl
    have d0' := hrow 0 _ hvp
    rw [Nat.add_zero] at d0'
    obtain ⟨A', c', rfl, _, _, _⟩ := hsp
    generalize comp p cs = R at *
    clear hs hy hm hp hvp hps hq hq1 hgv hrow hT hM
    go_enter Tryd.func50, Tryd.ntmps50
    go_upto_region 1 with fail
    have hx := Vs.new w [.int .u8 2, sl, .int .i64 0] #[.int .u8 2, sl, .int .i64 0] 68 rfl
    have hb00 : Below w.heap.size w (w.alloc (.cells #[.int .u8 2, sl, .int .i64 0] 68)) := by repeat (first | exact Below.refl _ _ | with_reducible assumption | (refine bl_alloc ?_ (Nat.le_refl _) _))
    have hszn : w.heap.size + 1 ≤ (w.alloc (.cells #[.int .u8 2, sl, .int .i64 0] 68)).heap.size := by simp only [World.size_alloc]; omega
    generalize (w.alloc (.cells #[.int .u8 2, sl, .int .i64 0] 68)) = w1 at hx hb00 hszn ⊢
    obtain ⟨x0, x1, x2, x3, x4, x5, x6⟩ := hx.get3
    go_wp2_with fail
    refine (HC.out _ hb00).mono ?_
    rintro e w2 ⟨rfl, hb2⟩
    clear x0 x1 x2 x3 x4 x5 x6
    replace hb00 := bl_call hb00 (Nat.le_refl _) hb2
    replace hx := hx.call hb2
    clear hb2
    obtain ⟨x0, x1, x2, x3, x4, x5, x6⟩ := hx.get3
    go_wp2_with fail
    refine (HAA.out _ hb00).mono ?_
    rintro e w3 ⟨rfl, hb3⟩
    clear x0 x1 x2 x3 x4 x5 x6
    replace hb00 := bl_call hb00 (Nat.le_refl _) hb3
    replace hx := hx.call hb3
    clear hb3
    obtain ⟨x0, x1, x2, x3, x4, x5, x6⟩ := hx.get3
    go_upto_region 7 with fail
    obtain ⟨hcb, hfb⟩ := bcell hb00
    have d0 := (hcb b o hb).trans d0'
    have hbl : b < w3.heap.size := Nat.lt_of_lt_of_le hb hb00.size
    clear hcb hfb d0' HC HAA
    have HCO2 : Hid (∀ wz, Below w3.heap.size w3 wz → Calls Tryd.prog 79 #[.agg #[.int .u8 2, sl, .int .i64 0], .int .u8 f, .slice A' p.length c'] wz (RetSq0 R wz)) := fun wz h => HCO.out wz (hb00.trans (h.mono hb00.size))
    clear HCO
    generalize p.length = np at *
    refine region_G (n := 9) (m := 10) (f := 9) (by kernel_rfl) (by kernel_rfl) rfl ?_
    refine WpG.takeD 0 (some 27) (v := ?_) rfl rfl (by kernel_rfl) (fun _ _ _ h => h) (.val rfl (fun wz hwz => ?_)) ?_
    rotate_left
    · (obtain ⟨hcz, hfz⟩ := bcell (hwz); go_simp; try (with_reducible rfl))
    (simp only [Act.put]); (try simp only [List.setIfInBounds_toArray]); (try simp only [List.set_cons_succ]); (try simp only [List.set_cons_zero])
    refine WpG.takeD 1 (some 28) (v := ?_) rfl rfl (by kernel_rfl) (fun _ _ _ h => h) (.val rfl (fun wz hwz => ?_)) ?_
    rotate_left
    · go_simp; try (with_reducible rfl)
    (simp only [Act.put]); (try simp only [List.setIfInBounds_toArray]); (try simp only [List.set_cons_succ]); (try simp only [List.set_cons_zero])
    refine WpG.takeD 2 (some 29) (v := ?_) rfl rfl (by kernel_rfl) (fun _ _ _ h => h) (.val rfl (fun wz hwz => ?_)) ?_
    rotate_left
    · go_simp; try (with_reducible rfl)
    (simp only [Act.put]); (try simp only [List.setIfInBounds_toArray]); (try simp only [List.set_cons_succ]); (try simp only [List.set_cons_zero])
    refine WpG.takeD 3 (some 30) (v := ?_) rfl rfl (by kernel_rfl) (fun _ _ _ h => h) (.val rfl (fun wz hwz => ?_)) ?_
    rotate_left
    · go_simp; try (with_reducible rfl)
    (simp only [Act.put]); (try simp only [List.setIfInBounds_toArray]); (try simp only [List.set_cons_succ]); (try simp only [List.set_cons_zero])
    refine WpG.takeD 4 (some 31) (v := ?_) rfl rfl (by kernel_rfl) (fun _ _ _ h => h) (.val rfl (fun wz hwz => ?_)) ?_
    rotate_left
    · (obtain ⟨hcz, hfz⟩ := bcell (hwz); go_simp; try (with_reducible rfl))
    (simp only [Act.put]); (try simp only [List.setIfInBounds_toArray]); (try simp only [List.set_cons_succ]); (try simp only [List.set_cons_zero])
    refine WpG.oneD 5 (some 32) rfl rfl (by kernel_rfl) (fun u : Option Addr × Nat => Value.tuple #[.slice u.1 R.length u.2, .int .i64 0]) (fun u wz => SlK wz wz.heap.size (.slice u.1 R.length u.2) R) (fun _ _ _ h hb => h.later hb) (Fresh.call rfl (fun wz hwz => HCO2.out wz (hwz)) (fun wz hwz => by go_simp; try (with_reducible rfl))) (fun u1 w0u1 hw0u1 hR0u1 => ?_)
    (simp only [Act.put]); (try simp only [List.setIfInBounds_toArray]); (try simp only [List.set_cons_succ]); (try simp only [List.set_cons_zero])
    refine WpG.takeD 6 (some 33) (v := ?_) rfl rfl (by kernel_rfl) (fun _ _ _ h => h) (.val rfl (fun wz hwz => ?_)) ?_
    rotate_left
    · go_simp; try (with_reducible rfl)
    (simp only [Act.put]); (try simp only [List.setIfInBounds_toArray]); (try simp only [List.set_cons_succ]); (try simp only [List.set_cons_zero])
    refine WpG.takeD 7 (some 34) (v := ?_) rfl rfl (by kernel_rfl) (fun _ _ _ h => h) (.val rfl (fun wz hwz => ?_)) ?_
    rotate_left
    · go_simp; try (with_reducible rfl)
    (simp only [Act.put]); (try simp only [List.setIfInBounds_toArray]); (try simp only [List.set_cons_succ]); (try simp only [List.set_cons_zero])
    refine WpG.takeD 8 (some 6) (v := ?_) rfl rfl (by kernel_rfl) (fun _ _ _ h => h) (.val rfl (fun wz hwz => ?_)) ?_
    rotate_left
    · go_simp; try (with_reducible rfl)
    (simp only [Act.put]); (try simp only [List.setIfInBounds_toArray]); (try simp only [List.set_cons_succ]); (try simp only [List.set_cons_zero])
    refine WpG.done (by kernel_rfl) (fun w8 hS => ?_)
    (try simp only [List.drop_succ_cons]); (try simp only [List.drop_zero]); (try simp only [Nat.reduceSub]); (try simp only [List.take_succ_cons]); (try simp only [List.take_zero])
    obtain ⟨hb8, hs8⟩ := hS
    clear x0 x1 x2 x3 x4 x5 x6
    clear d0 hbl hx
    replace hb00 := bl_call hb00 (Nat.le_refl _) hb8
    clear hb8
    have HS8 := Lib.hid hs8
    clear hs8
    go_wp2_with fail
    go_ret2
    exact ⟨u1, rfl, HS8.out, hb00⟩
end

end Go.Proofs.YtfhmineolncefaaDoor

namespace Go.Proofs.YtfhmineolncefaaDoor
open Go.RowKit Fm
set_option linter.unusedVariables false
set_option maxRecDepth 100000

section
variable {S T : Nat → Prop} {w w' : World} {f : Nat} {v : Value} {l : KL f}
theorem SlX.set (h : SlX S w v l) (hT : ∀ b, T b → S b ∨ w.heap.size ≤ b) : SlX T w v l := by
  obtain ⟨A, c, hv, h1, h2, h3⟩ := h
  refine ⟨A, c, hv, h1, h2, fun hl => ?_⟩
  obtain ⟨b, o, k1, k2, k3, k4⟩ := h3 hl
  exact ⟨b, o, k1, k2, fun ht => (hT b ht).elim k3 (fun h => by omega), k4⟩
theorem SlX.nilX (S : Nat → Prop) (w : World) : SlX S w (.slice none 0 0) ([] : KL f) := ⟨none, 0, rfl, Nat.le_refl _, by simp, fun h => absurd h (by simp)⟩
theorem SlX.isSl (h : SlX S w v l) : IsSl v := by
  obtain ⟨A, c, hv, _⟩ := h
  exact ⟨_, _, _, hv⟩
theorem grown_exc {row : Option Nat} (hg : w.grownBy w' row) : Exc (fun q => row = some q) w.heap.size w w' :=
  ⟨hg.os, hg.tape, hg.output, hg.size, fun k hk hn => hg.block k hk (fun e => hn e.symm)⟩
theorem own_other {base : Nat} {e : TypeId} {size n : Nat} {xs : List Value} (h : w.ownsRow base e size v n xs) (hb : Exc S w.heap.size w w') (hn : ∀ g, v.ownBlock = some g → ¬ S g) : w'.ownsRow base e size v n xs := by
  refine ⟨h.1, ?_⟩
  rcases h.2 with h | ⟨g, cap, cur, h1, h2, h3, h4⟩
  · exact .inl h
  · have hlt := (Array.getElem?_eq_some_iff.1 h3).1
    exact .inr ⟨g, cap, cur, h1, h2, (hb.block _ hlt (hn g (by rw [h1]; rfl))).trans h3, h4⟩
theorem own_ne {b1 b2 : Nat} {e1 e2 : TypeId} {s1 s2 n1 n2 : Nat} {v1 v2 : Value} {x1 x2 : List Value} (he : e1 ≠ e2) (h1 : w.ownsRow b1 e1 s1 v1 n1 x1) (h2 : w.ownsRow b2 e2 s2 v2 n2 x2) {g : Nat} (hg : v1.ownBlock = some g) : ¬ (v2.ownBlock = some g) := by
  intro hg2
  rcases h1.2 with ⟨h, _⟩ | ⟨g1, c1, u1, k1, _, k2, _⟩
  · rw [h] at hg
    cases hg
  · rcases h2.2 with ⟨h, _⟩ | ⟨g2, c2, u2, k3, _, k4, _⟩
    · rw [h] at hg2
      cases hg2
    · rw [k1] at hg
      rw [k3] at hg2
      have e1' : g1 = g := Option.some.inj hg
      have e2' : g2 = g := Option.some.inj hg2
      subst e1'
      subst e2'
      rw [k2] at k4
      injection k4 with k4
      injection k4 with _ k5 _
      exact he k5

/-- the slices vs read as the lists ps; none of what they read is S's -/
structure PsX (S : Nat → Prop) (w : World) (vs : List Value) (ps : List (KL f)) : Prop where
  len : vs.length = ps.length
  at' : ∀ (i : Nat) (v : Value) (p : KL f), vs[i]? = some v → ps[i]? = some p → SlX S w v p
variable {vs : List Value} {ps : List (KL f)}
theorem PsX.call (h : PsX S w vs ps) (hb : Below w.heap.size w w') : PsX S w' vs ps := ⟨h.len, fun i v p h1 h2 => (h.at' i v p h1 h2).call hb⟩
theorem PsX.exc (h : PsX S w vs ps) (hb : Exc S w.heap.size w w') : PsX S w' vs ps := ⟨h.len, fun i v p h1 h2 => (h.at' i v p h1 h2).exc hb⟩
theorem PsX.set (h : PsX S w vs ps) (hT : ∀ b, T b → S b ∨ w.heap.size ≤ b) : PsX T w vs ps := ⟨h.len, fun i v p h1 h2 => (h.at' i v p h1 h2).set hT⟩
theorem PsX.toK (h : PsX S w vs ps) : PsK w vs ps := ⟨h.len, fun i v p h1 h2 => (h.at' i v p h1 h2).toK⟩
theorem PsX.nil (S : Nat → Prop) (w : World) : PsX S w [] ([] : List (KL f)) := ⟨rfl, fun i v p h => by cases h⟩
theorem PsX.snoc (h : PsX S w vs ps) {v : Value} {p : KL f} (hv : SlX S w v p) : PsX S w (vs ++ [v]) (ps ++ [p]) := by
  refine ⟨by rw [List.length_append, List.length_append, h.len]; rfl, fun i u q h1 h2 => ?_⟩
  by_cases hi : i < vs.length
  · rw [List.getElem?_append_left hi] at h1
    rw [List.getElem?_append_left (by rw [← h.len]; exact hi)] at h2
    exact h.at' i u q h1 h2
  · rw [List.getElem?_append_right (by omega)] at h1
    rw [List.getElem?_append_right (by rw [← h.len]; omega), ← h.len] at h2
    obtain ⟨k, hk⟩ : ∃ k, i - vs.length = k := ⟨_, rfl⟩
    rw [hk] at h1 h2
    cases k with
    | zero =>
      injection h1 with h1
      injection h2 with h2
      subst h1
      subst h2
      exact hv
    | succ k => simp at h1
/-- behind an append: another row may be written -/
theorem PsX.grown {r r' : Option Nat} {U : Nat → Prop} (h : PsX (fun b => r = some b ∨ U b) w vs ps) (hg : w.grownBy w' r) (hr : r' = r ∨ r' = some w.heap.size) : PsX (fun b => r' = some b ∨ U b) w' vs ps := by
  have h1 : PsX (fun b => (r = some b ∨ U b) ∨ r' = some b) w vs ps := h.set fun b hb => by
    rcases hb with hb | hb
    · exact .inl hb
    · rcases hr with hr | hr
      · exact .inl (.inl (hr.symm.trans hb))
      · exact .inr (by rw [hr] at hb; exact Nat.le_of_eq (Option.some.inj hb))
  have h2 := h1.exc ((grown_exc hg).less fun k _ hk => .inl (.inl hk))
  exact ⟨h2.len, fun i v p k1 k2 => (h2.at' i v p k1 k2).set fun b hb => .inl (by
    rcases hb with hb | hb
    · exact .inr hb
    · exact .inl (.inr hb))⟩
/-- a row of the call's own is none of what was there before -/
theorem own_slX {base n : Nat} {A : Option Addr} {c : Nat} (hn : l.length = n) (h : w.ownsRow base 28 2 (.slice A n c) n (cellsE (esK l))) (hS : ∀ b, S b → b < base) : SlX S w (.slice A n c) l := by
  subst hn
  rcases own_cases h with ⟨h1, h2⟩ | ⟨g, c', h1, h2, h3, h4, h5⟩
  · subst h2
    rw [h1]
    exact SlX.nilX S w
  · rw [h1]
    exact SlX.of rfl h4 h5 h2.lt (fun hs => by have := hS g hs; omega) h2.row
end

end Go.Proofs.YtfhmineolncefaaDoor

namespace Go.Proofs.YtfhmineolncefaaDoor
open Go.RowKit Fm Go.ChangeShapes Go.WideShapes Go.Deep
set_option linter.unusedVariables false
set_option maxRecDepth 100000

/-- the cells from ⟨b, o⟩ on hold the numbers xs -/
def Row8 (w : World) (b o : Nat) (xs : List Int) : Prop := ∀ (i : Nat) (e : Int), xs[i]? = some e → w.cell? ⟨b, o + i, none⟩ = some (.int .u8 e)
def ok8 (e : Int) : Prop := 0 ≤ e ∧ e ≤ 255

/-- a slice value reads as the numbers xs; what it reads lies below block B -/
structure Sl8 (w : World) (B : Nat) (v : Value) (xs : List Int) : Prop where
  ex : ∃ (A : Option Addr) (c : Nat), v = .slice A xs.length c ∧ xs.length ≤ c ∧ c ≤ 9223372036854775807 ∧ (0 < xs.length → ∃ b o, A = some ⟨b, o, none⟩ ∧ b < B ∧ Row8 w b o xs)
  ok : ∀ e, e ∈ xs → ok8 e

theorem Row8.call {w w' : World} {b o : Nat} {xs : List Int} (h : Row8 w b o xs) (hb : Below w.heap.size w w') : Row8 w' b o xs := fun i e hi => cell_call (h i e hi) hb
theorem Row8.below {w w' : World} {B b o : Nat} {xs : List Int} (h : Row8 w b o xs) (hb : Below B w w') (hB : b < B) : Row8 w' b o xs := fun i e hi => (hb.cell (p := ⟨b, o + i, none⟩) hB).trans (h i e hi)
theorem Sl8.below {w w' : World} {B : Nat} {v : Value} {xs : List Int} (h : Sl8 w B v xs) (hb : Below B w w') : Sl8 w' B v xs := by
  obtain ⟨⟨A, c, hv, h1, h2, h3⟩, ok⟩ := h
  exact ⟨⟨A, c, hv, h1, h2, fun hn => let ⟨b, o, hA, hB, hr⟩ := h3 hn; ⟨b, o, hA, hB, hr.below hb hB⟩⟩, ok⟩
theorem Sl8.mono {w : World} {B B' : Nat} {v : Value} {xs : List Int} (h : Sl8 w B v xs) (hB : B ≤ B') : Sl8 w B' v xs := by
  obtain ⟨⟨A, c, hv, h1, h2, h3⟩, ok⟩ := h
  exact ⟨⟨A, c, hv, h1, h2, fun hn => let ⟨b, o, hA, hb, hr⟩ := h3 hn; ⟨b, o, hA, Nat.lt_of_lt_of_le hb hB, hr⟩⟩, ok⟩
theorem Sl8.later {w w' : World} {v : Value} {xs : List Int} (h : Sl8 w w.heap.size v xs) (hb : Below w.heap.size w w') : Sl8 w' w'.heap.size v xs := (h.below hb).mono hb.size
theorem Sl8.nil (w : World) (B : Nat) : Sl8 w B (.slice none 0 0) [] := ⟨⟨none, 0, rfl, Nat.le_refl _, by simp, fun h => absurd h (by simp)⟩, fun _ h => by cases h⟩

theorem cellsOf_u8 : Tryd.prog.cellsOf 5 = 1 := by kernel_rfl
section
variable {H : Type} {enc : TypeId × Value → H} {W : World} {base : Nat} {sp : Nat → Bool} {hd : Bool}
theorem open_u8s {r : Reach} {b0 : Nat} {v : Value} {d : DataW H} {ps : List MemPlace} (hval : Value.okWide Tryd.prog W r b0 76 v) (h : DataW.Trod enc Tryd.prog W base sp hd 76 v d ps) :
    ∃ xs : List Int, Sl8 W W.heap.size v xs := by
  obtain ⟨a0, len, cap, rfl⟩ := okWide_slice Tryd.underlying76 hval
  obtain ⟨fuel, hf⟩ := h
  rcases open_slice Tryd.underlying76 hf with ⟨hcs, _⟩ | ⟨a, len', cap', m, n, D, Pl, hcs, _, hle, hcm, hm, _, hi⟩
  · simp only [Value.cells, List.cons.injEq, Value.slice.injEq, and_true] at hcs
    obtain ⟨rfl, rfl, rfl⟩ := hcs
    exact ⟨[], Sl8.nil _ _⟩
  · simp only [Value.cells, List.cons.injEq, Value.slice.injEq, and_true] at hcs
    obtain ⟨rfl, rfl, rfl⟩ := hcs
    have hlm : len ≤ m := by rw [hm]; split <;> omega
    have key : ∀ i, i < len → ∃ e : Int, W.cell? (a.add i) = some (.int .u8 e) ∧ ok8 e := by
      intro i hil
      obtain ⟨cs', hc, ht⟩ := hi i (by omega)
      rw [cellsOf_u8] at hc
      obtain ⟨e, he, _, hw⟩ := DataW.trod_int Tryd.underlying5 ht
      subst he
      obtain ⟨_, _, hat⟩ := World.cells?_some hc
      have h0 := hat 0 (by omega)
      have e0 : (a.add (i * 1)).add 0 = a.add i := by rw [Nat.mul_one]; rfl
      rw [e0] at h0
      exact ⟨e, h0, wf_u8 hw⟩
    have hex : ∃ f : Nat → Int, ∀ i, i < len → W.cell? (a.add i) = some (.int .u8 (f i)) ∧ ok8 (f i) := by
      refine ⟨fun i => if hil : i < len then Classical.choose (key i hil) else 0, fun i hil => ?_⟩
      simp only [dif_pos hil]
      exact Classical.choose_spec (key i hil)
    obtain ⟨f, hfi⟩ := hex
    refine ⟨(List.range len).map f, ⟨⟨some a, cap, by simp, by simpa using hle, by unfold maxLen at hcm; omega, fun hn => ?_⟩, ?_⟩⟩
    · have hl0 : 0 < len := by simpa using hn
      have hc0 := (hfi 0 hl0).1
      have ha0 : a.add 0 = a := rfl
      rw [ha0] at hc0
      have hlt := lt_of_cell hc0
      obtain ⟨b, o, s⟩ := a
      have hs : s = none := by
        cases s with
        | none => rfl
        | some q => simp [World.cell?] at hc0; split at hc0 <;> simp_all
      subst hs
      refine ⟨b, o, rfl, hlt, fun i e hie => ?_⟩
      have hil : i < len := by
        have := (List.getElem?_eq_some_iff.1 hie).1
        simpa using this
      have hee : e = f i := by
        rw [List.getElem?_map, List.getElem?_range hil] at hie
        simpa using hie.symm
      subst hee
      obtain ⟨k0, _⟩ := hfi i hil
      have ea : (⟨b, o, none⟩ : Addr).add i = ⟨b, o + i, none⟩ := by
        unfold Addr.add
        split <;> simp_all
      rw [ea] at k0
      exact k0
    · intro e he
      rw [List.mem_map] at he
      obtain ⟨i, hir, rfl⟩ := he
      exact (hfi i (by simpa using hir)).2
end

end Go.Proofs.YtfhmineolncefaaDoor
