/-
 OpenS: what the statements of this layer share.
-/
import Derived.BigQuiet
import Derived.Laws.Bits64b
import Derived.Test.YtbakkmfjamcbfaaKar
import Derived.Test.YtbakkmfjamcbfaaKav
import Derived.Test.YtbakkmfjamcbfaaKaw
namespace Go.Proofs.Ytbakkmfjamcbfaa
open Go.RowKit Go.ChangeShapes Go.WideShapes Go.Deep
set_option linter.unusedVariables false
set_option maxRecDepth 100000

section
variable {H : Type} {enc : TypeId × Value → H} {W : World} {base : Nat} {sp : Nat → Bool} {hd : Bool}

theorem open_rows {T e : TypeId} {q fuel : Nat} {v : Value} {x : DataW H × List MemPlace} (Pr : List Value → Prop) (hu : Try.prog.underlying T = some (.slice e)) (hq : Try.prog.cellsOf e = q) (hq0 : 0 < q)
  (hop : ∀ {n : Nat} {cs : List Value} {y : DataW H × List MemPlace}, DataW.trod enc Try.prog W base sp hd n e cs = some y → cs.length = q ∧ Pr cs)
  (hf : DataW.trod enc Try.prog W base sp hd fuel T [v] = some x) : ∃ rows : List (List Value), SlR W W.heap.size v q rows ∧ ∀ r, r ∈ rows → r.length = q ∧ Pr r := by
 rcases open_slice hu hf with ⟨hcs, _⟩ | ⟨a, len, cap, m, n, D, Pl, hcs, _, hle, hcm, hm, _, hi⟩
 ·simp only [List.cons.injEq, and_true] at hcs
  subst hcs
  exact ⟨[], SlR.nil _ _ _, fun r hr => by cases hr⟩
 ·simp only [List.cons.injEq, and_true] at hcs
  subst hcs
  have hlm : len ≤ m := by rw [hm]; split <;> omega
  have key : ∀ i, i < len → ∃ r : List Value, (r.length = q ∧ Pr r) ∧ ∀ j u, r[j]? = some u → W.cell? ((a.add (i * q)).add j) = some u := by
   intro i hil
   obtain ⟨cs', hc, ht⟩ := hi i (by omega)
   rw [hq] at hc
   obtain ⟨_, hl, hat⟩ := World.cells?_some hc
   have h1 := hop ht
   refine ⟨cs', h1, fun j u hj => ?_⟩
   have hjl := (List.getElem?_eq_some_iff.1 hj).1
   have h2 := hat j (by omega)
   rw [h2]
   exact hj
  have hex : ∃ f : Nat → List Value, ∀ i, i < len → ((f i).length = q ∧ Pr (f i)) ∧ ∀ j u, (f i)[j]? = some u → W.cell? ((a.add (i * q)).add j) = some u := by
   refine ⟨fun i => if hil : i < len then Classical.choose (key i hil) else [], fun i hil => ?_⟩
   simp only [dif_pos hil]
   exact Classical.choose_spec (key i hil)
  obtain ⟨f, hfi⟩ := hex
  refine ⟨(List.range len).map f, ⟨some a, cap, by simp, by simpa using hle, by unfold maxLen at hcm; omega, fun hn => ?_⟩, ?_⟩
  ·have hl0 : 0 < len := by simpa using hn
   obtain ⟨⟨hlen0, _⟩, hc00⟩ := hfi 0 hl0
   have hc0 := hc00 0 _ (List.getElem?_eq_getElem (by omega))
   have ha0 : (a.add (0 * q)).add 0 = a := by rw [Nat.zero_mul]; rfl
   rw [ha0] at hc0
   have hlt := lt_of_cell hc0
   obtain ⟨b, o, s⟩ := a
   have hs : s = none := by
    cases s with
    | none => rfl
    | some z => simp [World.cell?] at hc0; split at hc0 <;> simp_all
   subst hs
   refine ⟨b, o, rfl, hlt, fun i r hir j u hj => ?_⟩
   have hil : i < len := by
    have := (List.getElem?_eq_some_iff.1 hir).1
    simpa using this
   have hee : r = f i := by
    rw [List.getElem?_map, List.getElem?_range hil] at hir
    simpa using hir.symm
   subst hee
   have k0 := (hfi i hil).2 j u hj
   have ea : ∀ o j, (⟨b, o, none⟩ : Addr).add j = ⟨b, o + j, none⟩ := by
    intro o j
    unfold Addr.add
    split <;> simp_all
   rw [ea, ea] at k0
   exact k0
  ·intro r hr
   rw [List.mem_map] at hr
   obtain ⟨i, hir, rfl⟩ := hr
   exact (hfi i (by simpa using hir)).1

theorem open_rowsV {T e : TypeId} {q : Nat} {r : Reach} {b0 : Nat} {v : Value} {d : DataW H} {ps : List MemPlace} (Pr : List Value → Prop) (hu : Try.prog.underlying T = some (.slice e)) (hq : Try.prog.cellsOf e = q) (hq0 : 0 < q)
  (hop : ∀ {n : Nat} {cs : List Value} {y : DataW H × List MemPlace}, DataW.trod enc Try.prog W base sp hd n e cs = some y → cs.length = q ∧ Pr cs)
  (hval : Value.okWide Try.prog W r b0 T v) (h : DataW.Trod enc Try.prog W base sp hd T v d ps) : ∃ rows : List (List Value), SlR W W.heap.size v q rows ∧ ∀ r, r ∈ rows → r.length = q ∧ Pr r := by
 obtain ⟨a0, len, cap, rfl⟩ := okWide_slice hu hval
 obtain ⟨fuel, hf⟩ := h
 exact open_rows Pr hu hq hq0 hop hf

theorem trod_b16 {T : TypeId} (hu : Try.prog.underlying T = some (.array 16 5)) (hq : Try.prog.cellsOf T = 16) {fuel : Nat} {cs : List Value} {x : DataW H × List MemPlace} (h : DataW.trod enc Try.prog W base sp hd fuel T cs = some x) :
  ∃ k : List Int, cs = cells8 k ∧ k.length = 16 ∧ B8 k := by
 obtain ⟨xs, m, _, _, hlen, hxl, hg⟩ := DataW.trod_array hu h
 rw [cells_u8s] at hg
 have hl : cs.length = 16 := hlen.trans hq
 have hc : ∀ i, i < 16 → ∃ n : Int, cs[i]? = some (.int .u8 n) ∧ 0 ≤ n ∧ n ≤ 255 := by
  intro i hi
  have h0 := hg i hi
  rw [Nat.mul_one] at h0
  have hci : i < cs.length := by omega
  have h1 : (cs.drop i).take 1 = [cs[i]] := by
   rw [List.drop_eq_getElem_cons hci]
   rfl
  rw [h1] at h0
  obtain ⟨y, hy⟩ : ∃ y, xs[i]? = some y := ⟨_, List.getElem?_eq_getElem (by omega)⟩
  rw [hy] at h0
  obtain ⟨n0, e0, _, w0⟩ := DataW.trod_int Try.underlying5 h0
  have e1 : cs[i] = .int .u8 n0 := (List.cons.inj e0).1
  exact ⟨n0, by rw [List.getElem?_eq_getElem hci, e1], wf_u8 w0⟩
 have hex : ∃ f : Nat → Int, ∀ i, i < 16 → cs[i]? = some (.int .u8 (f i)) ∧ 0 ≤ f i ∧ f i ≤ 255 := by
  refine ⟨fun i => if hil : i < 16 then Classical.choose (hc i hil) else 0, fun i hil => ?_⟩
  simp only [dif_pos hil]
  exact Classical.choose_spec (hc i hil)
 obtain ⟨f, hf⟩ := hex
 refine ⟨(List.range 16).map f, ?_, by rw [List.length_map, List.length_range], fun z hz => ?_⟩
 ·apply List.ext_getElem?
  intro i
  by_cases hi : i < 16
  ·rw [(hf i hi).1]
   unfold cells8
   rw [List.getElem?_map, List.getElem?_map, List.getElem?_range hi]
   rfl
  ·rw [List.getElem?_eq_none (by omega), List.getElem?_eq_none (by rw [cells8_length, List.length_map, List.length_range]; omega)]
 ·obtain ⟨i, hi, rfl⟩ := List.mem_map.1 hz
  exact (hf i (by simpa using hi)).2

theorem elem_lists : ∀ (rows : List (List Value)), (∀ r, r ∈ rows → ∃ e : E, r = [.int .u64 e.1, .int .u64 e.2] ∧ okE e) → ∃ es : List E, rows = es.map (fun e => [.int .u64 e.1, .int .u64 e.2]) ∧ ∀ e, e ∈ es → okE e
 | [], _ => ⟨[], rfl, fun e h => (by cases h)⟩
 | r :: rows, h => by
  obtain ⟨es, h1, h2⟩ := elem_lists rows fun q hq => h q (List.mem_cons_of_mem _ hq)
  obtain ⟨e, rfl, he⟩ := h r (List.mem_cons_self ..)
  refine ⟨e :: es, by rw [List.map_cons, ← h1], fun x hx => ?_⟩
  rcases List.mem_cons.1 hx with rfl | hx
  ·exact he
  ·exact h2 x hx
theorem open_elemsS {fuel : Nat} {v : Value} {x : DataW H × List MemPlace} (hf : DataW.trod enc Try.prog W base sp hd fuel 73 [v] = some x) :
  ∃ xs : List E, SlE W W.heap.size v xs := by
 obtain ⟨rows, ⟨A, c, hv, h1, h2, h3⟩, h4⟩ := open_rows (q := 2) (fun r => ∃ e : E, r = [.int .u64 e.1, .int .u64 e.2] ∧ okE e) Try.underlying73 cellsOf_elem (by omega) (fun hx => by
  obtain ⟨e, rfl, he⟩ := trod_elem hx
  exact ⟨rfl, e, rfl, he⟩) hf
 obtain ⟨es, he, hok⟩ := elem_lists rows fun r hr => (h4 r hr).2
 subst he
 rw [List.length_map] at hv h1 h3
 refine ⟨es, ⟨A, c, hv, h1, h2, fun hp => ?_⟩, hok⟩
 obtain ⟨b, o, k1, k2, k3⟩ := h3 hp
 refine ⟨b, o, k1, k2, fun i e hi => ?_⟩
 have hr : (es.map (fun e => [Value.int .u64 e.1, Value.int .u64 e.2]))[i]? = some [.int .u64 e.1, .int .u64 e.2] := by
  rw [List.getElem?_map, hi]
  rfl
 exact ⟨k3 i _ hr 0 _ rfl, k3 i _ hr 1 _ rfl⟩

def RepOk (W : World) (r : List Value) : Prop := ∃ (id : List Int) (u : Value) (es : List E), r = repL id u ∧ id.length = 16 ∧ B8 id ∧ SlE W W.heap.size u es
theorem trod_rep {n : Nat} {cs : List Value} {y : DataW H × List MemPlace} (h : DataW.trod enc Try.prog W base sp hd n 91 cs = some y) : cs.length = 17 ∧ RepOk W cs := by
 obtain ⟨ys, n, _, _, hlen, hyl, hg⟩ := DataW.trod_struct Try.underlying91 h
 have hq : Try.prog.cellsOf 91 = 17 := by kernel_rfl
 rw [hq] at hlen
 have hy : ∀ j, j < 2 → ys[j]? = some (ys.getD j (.lit (.bool false), [])) := by
  intro j hj
  have : j < ys.length := by rw [hyl]; exact hj
  rw [List.getD_eq_getElem?_getD, List.getElem?_eq_getElem this]
  rfl
 have g0 := (hg 0 _ rfl).trans (hy 0 (by decide))
 have g1 := (hg 1 _ rfl).trans (hy 1 (by decide))
 have q0 : Try.prog.cellsOf 34 = 16 := by kernel_rfl
 have q1 : Try.prog.cellsOf 73 = 1 := by kernel_rfl
 have c0 : DataW.trod enc Try.prog W base sp hd n 34 ((cs.drop 0).take 16) = some (ys.getD 0 (.lit (.bool false), [])) := by
  have h1 : DataW.trod enc Try.prog W base sp hd n 34 ((cs.drop 0).take (Try.prog.cellsOf 34)) = some (ys.getD 0 (.lit (.bool false), [])) := g0
  rw [q0] at h1
  exact h1
 have c1 : DataW.trod enc Try.prog W base sp hd n 73 ((cs.drop 16).take 1) = some (ys.getD 1 (.lit (.bool false), [])) := by
  have h1 : DataW.trod enc Try.prog W base sp hd n 73 ((cs.drop 16).take (Try.prog.cellsOf 73)) = some (ys.getD 1 (.lit (.bool false), [])) := g1
  rw [q1] at h1
  exact h1
 obtain ⟨id, hk, hid, hid8⟩ := trod_b16 Try.underlying34 q0 c0
 have h16 : 16 < cs.length := by omega
 have hu : (cs.drop 16).take 1 = [cs[16]] := by
  rw [List.drop_eq_getElem_cons h16]
  rfl
 rw [hu] at c1
 obtain ⟨es, hes⟩ := open_elemsS c1
 refine ⟨hlen, id, cs[16], es, ?_, hid, hid8, hes⟩
 unfold repL
 rw [← hk, List.drop_zero]
 have h2 : cs.drop 16 = [cs[16]] := by
  rw [List.drop_eq_getElem_cons h16, List.drop_of_length_le (by omega)]
 rw [← h2, List.take_append_drop]
theorem rep_lists {W : World} : ∀ (rows : List (List Value)), (∀ r, r ∈ rows → RepOk W r) → ∃ (ids : List (List Int)) (us : List Value) (ess : List (List E)), rows = List.zipWith repL ids us ∧ ids.length = rows.length ∧ us.length = rows.length ∧ ess.length = rows.length ∧ (∀ x, x ∈ ids → x.length = 16 ∧ B8 x) ∧
  ∀ (i : Nat) (u : Value) (es : List E), us[i]? = some u → ess[i]? = some es → SlE W W.heap.size u es
 | [], _ => ⟨[], [], [], rfl, rfl, rfl, rfl, fun x h => (by cases h), fun i u es h => (by simp at h)⟩
 | r :: rows, h => by
  obtain ⟨ids, us, ess, h1, h2, h3, h4, h5, h6⟩ := rep_lists rows fun q hq => h q (List.mem_cons_of_mem _ hq)
  obtain ⟨id, u, es, rfl, k1, k2, k3⟩ := h r (List.mem_cons_self ..)
  refine ⟨id :: ids, u :: us, es :: ess, by rw [List.zipWith_cons_cons, ← h1], by simp [h2], by simp [h3], by simp [h4], fun x hx => ?_, fun i v vs e1 e2 => ?_⟩
  ·rcases List.mem_cons.1 hx with rfl | hx
   ·exact ⟨k1, k2⟩
   ·exact h5 x hx
  ·cases i with
   | zero =>
    simp only [List.getElem?_cons_zero, Option.some.injEq] at e1 e2
    subst e1 e2
    exact k3
   | succ i => exact h6 i v vs (by simpa using e1) (by simpa using e2)
theorem open_reports {r : Reach} {b0 : Nat} {v : Value} {d : DataW H} {pl : List MemPlace} (hval : Value.okWide Try.prog W r b0 72 v) (h : DataW.Trod enc Try.prog W base sp hd 72 v d pl) :
  ∃ (N : Nat) (ids : List (List Int)) (us : List Value) (ess : List (List E)), SlR W W.heap.size v 17 (List.zipWith repL ids us) ∧ ids.length = N ∧ us.length = N ∧ ess.length = N ∧ (∀ x, x ∈ ids → x.length = 16 ∧ B8 x) ∧ ∀ (i : Nat) (u : Value) (es : List E), us[i]? = some u → ess[i]? = some es → SlE W W.heap.size u es := by
 obtain ⟨rows, h1, h2⟩ := open_rowsV (q := 17) (RepOk W) Try.underlying72 (by kernel_rfl) (by omega) (fun hx => trod_rep hx) hval h
 obtain ⟨ids, us, ess, k1, k2, k3, k4, k5, k6⟩ := rep_lists rows fun r hr => (h2 r hr).2
 rw [k1] at h1
 exact ⟨rows.length, ids, us, ess, h1, k2, k3, k4, k5, k6⟩
end

end Go.Proofs.Ytbakkmfjamcbfaa
