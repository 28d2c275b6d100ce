/-
 Nums8, CnC, OpenM: for ClientNone.
-/
import Derived.BigQuiet
import Derived.Laws.Bits64b
import Derived.Test.YtbakkmfjamcbfaaQac
namespace Go.Proofs.Ytbakkmfjamcbfaa
open Go.RowKit Fm Go.ChangeShapes Go.WideShapes Go.Deep
set_option linter.unusedVariables false
set_option maxRecDepth 100000

def Row8 (w : World) (b o : Nat) (xs : List Int) : Prop := ∀ (i : Nat) (e : Int), xs[i]? = some e → w.cell? ⟨b, o + i, none⟩ = some (.int .u8 e)
def ok8 (e : Int) : Prop := 0 ≤ e ∧ e ≤ 255

structure Sl8 (w : World) (B : Nat) (v : Value) (xs : List Int) : Prop where
 ex : ∃ (A : Option Addr) (c : Nat), v = .slice A xs.length c ∧ xs.length ≤ c ∧ c ≤ 9223372036854775807 ∧ (0 < xs.length → ∃ b o, A = some ⟨b, o, none⟩ ∧ b < B ∧ Row8 w b o xs)
 ok : ∀ e, e ∈ xs → ok8 e

theorem Row8.below {w w' : World} {B b o : Nat} {xs : List Int} (h : Row8 w b o xs) (hb : Below B w w') (hB : b < B) : Row8 w' b o xs := fun i e hi => (hb.cell (p := ⟨b, o + i, none⟩) hB).trans (h i e hi)
theorem Sl8.below {w w' : World} {B : Nat} {v : Value} {xs : List Int} (h : Sl8 w B v xs) (hb : Below B w w') : Sl8 w' B v xs := by
 obtain ⟨⟨A, c, hv, h1, h2, h3⟩, ok⟩ := h
 exact ⟨⟨A, c, hv, h1, h2, fun hn => let ⟨b, o, hA, hB, hr⟩ := h3 hn; ⟨b, o, hA, hB, hr.below hb hB⟩⟩, ok⟩
theorem Sl8.mono {w : World} {B B' : Nat} {v : Value} {xs : List Int} (h : Sl8 w B v xs) (hB : B ≤ B') : Sl8 w B' v xs := by
 obtain ⟨⟨A, c, hv, h1, h2, h3⟩, ok⟩ := h
 exact ⟨⟨A, c, hv, h1, h2, fun hn => let ⟨b, o, hA, hb, hr⟩ := h3 hn; ⟨b, o, hA, Nat.lt_of_lt_of_le hb hB, hr⟩⟩, ok⟩
theorem Sl8.nil (w : World) (B : Nat) : Sl8 w B (.slice none 0 0) [] := ⟨⟨none, 0, rfl, Nat.le_refl _, by simp, fun h => absurd h (by simp)⟩, fun _ h => by cases h⟩

theorem cellsOf_u8 : Try.prog.cellsOf 5 = 1 := by kernel_rfl
section
variable {H : Type} {enc : TypeId × Value → H} {W : World} {base : Nat} {sp : Nat → Bool} {hd : Bool}
theorem open_u8s {r : Reach} {b0 : Nat} {v : Value} {d : DataW H} {ps : List MemPlace} (hval : Value.okWide Try.prog W r b0 28 v) (h : DataW.Trod enc Try.prog W base sp hd 28 v d ps) :
  ∃ xs : List Int, Sl8 W W.heap.size v xs := by
 obtain ⟨a0, len, cap, rfl⟩ := okWide_slice Try.underlying28 hval
 obtain ⟨fuel, hf⟩ := h
 rcases open_slice Try.underlying28 hf with ⟨hcs, _⟩ | ⟨a, len', cap', m, n, D, Pl, hcs, _, hle, hcm, hm, _, hi⟩
 ·simp only [Value.cells, List.cons.injEq, Value.slice.injEq, and_true] at hcs
  obtain ⟨rfl, rfl, rfl⟩ := hcs
  exact ⟨[], Sl8.nil _ _⟩
 ·simp only [Value.cells, List.cons.injEq, Value.slice.injEq, and_true] at hcs
  obtain ⟨rfl, rfl, rfl⟩ := hcs
  have hlm : len ≤ m := by rw [hm]; split <;> omega
  have key : ∀ i, i < len → ∃ e : Int, W.cell? (a.add i) = some (.int .u8 e) ∧ ok8 e := by
   intro i hil
   obtain ⟨cs', hc, ht⟩ := hi i (by omega)
   rw [cellsOf_u8] at hc
   obtain ⟨e, he, _, hw⟩ := DataW.trod_int Try.underlying5 ht
   subst he
   obtain ⟨_, _, hat⟩ := World.cells?_some hc
   have h0 := hat 0 (by omega)
   have e0 : (a.add (i * 1)).add 0 = a.add i := by rw [Nat.mul_one]; rfl
   rw [e0] at h0
   exact ⟨e, h0, wf_u8 hw⟩
  have hex : ∃ f : Nat → Int, ∀ i, i < len → W.cell? (a.add i) = some (.int .u8 (f i)) ∧ ok8 (f i) := by
   refine ⟨fun i => if hil : i < len then Classical.choose (key i hil) else 0, fun i hil => ?_⟩
   simp only [dif_pos hil]
   exact Classical.choose_spec (key i hil)
  obtain ⟨f, hfi⟩ := hex
  refine ⟨(List.range len).map f, ⟨⟨some a, cap, by simp, by simpa using hle, by unfold maxLen at hcm; omega, fun hn => ?_⟩, ?_⟩⟩
  ·have hl0 : 0 < len := by simpa using hn
   have hc0 := (hfi 0 hl0).1
   have ha0 : a.add 0 = a := rfl
   rw [ha0] at hc0
   have hlt := lt_of_cell hc0
   obtain ⟨b, o, s⟩ := a
   have hs : s = none := by
    cases s with
    | none => rfl
    | some q => simp [World.cell?] at hc0; split at hc0 <;> simp_all
   subst hs
   refine ⟨b, o, rfl, hlt, fun i e hie => ?_⟩
   have hil : i < len := by
    have := (List.getElem?_eq_some_iff.1 hie).1
    simpa using this
   have hee : e = f i := by
    rw [List.getElem?_map, List.getElem?_range hil] at hie
    simpa using hie.symm
   subst hee
   obtain ⟨k0, _⟩ := hfi i hil
   have ea : (⟨b, o, none⟩ : Addr).add i = ⟨b, o + i, none⟩ := by
    unfold Addr.add
    split <;> simp_all
   rw [ea] at k0
   exact k0
  ·intro e he
   rw [List.mem_map] at he
   obtain ⟨i, hir, rfl⟩ := he
   exact (hfi i (by simpa using hir)).2
end

end Go.Proofs.Ytbakkmfjamcbfaa

namespace Go.Proofs.Ytbakkmfjamcbfaa
open Go.RowKit Fm
set_option linter.unusedVariables false
set_option maxRecDepth 100000

theorem walk_ClientNoneJ (kind job start many code : Int) (sum : List Int) (hsum : sum.length = 16) (es vb : Value) (rows : List (List Value)) (bs : List Int) (frm now over : Int) (hnow : 0 ≤ now ∧ now ≤ 18446744073709551615) (hov : 0 ≤ over ∧ over ≤ 255) (w : World)
  (hes : SlR w w.heap.size es 20 rows) (hb : Sl8 w w.heap.size vb bs) :
  Calls Try.prog 3 #[.agg (msgL kind job start many sum code es).toArray, .int .i64 frm, .int .u64 now, vb, .int .u8 over] w fun e w' => e = .returned (.bool true) ∧ Below w.heap.size w w' := by
 obtain ⟨A, c, rfl, _, _, _⟩ := hes
 obtain ⟨⟨A', c', rfl, h1, h2, h3⟩, _⟩ := hb
 by_cases h : 100 < bs.length ∨ 20 < rows.length
 ·exact walk_ClientNone0 kind job start many code sum hsum A rows.length c frm now A' bs.length c' over w h
 ·have h9 : bs.length ≤ 100 ∧ rows.length ≤ 20 := by omega
  exact walk_ClientNone kind job start many code sum hsum A rows.length c frm now hnow.1 A' bs.length c' bs over hov w h9.1 h9.2 ⟨rfl, by omega, fun hn => by
   obtain ⟨b, o, k1, k2, k3⟩ := h3 hn
   exact ⟨b, o, k1, k2, k3⟩⟩

end Go.Proofs.Ytbakkmfjamcbfaa

namespace Go.Proofs.Ytbakkmfjamcbfaa
open Go.RowKit Go.Joins Go.ChangeShapes Go.WideShapes Go.Deep
set_option linter.unusedVariables false
set_option maxRecDepth 100000

theorem take_one {cs : List Value} {i : Nat} (h : i < cs.length) : (cs.drop i).take 1 = [cs.getD i undef] := by
 rw [List.drop_eq_getElem_cons h, List.getD_eq_getElem?_getD, List.getElem?_eq_getElem h]
 rfl
theorem split_at (cs : List Value) (i k : Nat) : cs.drop i = (cs.drop i).take k ++ cs.drop (i + k) := by
 rw [← List.drop_drop, List.take_append_drop]
section
variable {H : Type} {enc : TypeId × Value → H} {W : World} {base : Nat} {sp : Nat → Bool} {hd : Bool}
def EntOk (r : List Value) : Prop := ∃ (id : List Int) (t : Int) (pu sh : Value) (c : Int), r = entL id t pu sh c ∧ id.length = 16
def MsgOk (W : World) (r : List Value) : Prop := ∃ (kind job start many : Int) (sum : List Int) (code : Int) (es : Value) (rows : List (List Value)), r = msgL kind job start many sum code es ∧ sum.length = 16 ∧ SlR W W.heap.size es 20 rows ∧ ∀ e, e ∈ rows → EntOk e
theorem trod_ent {n : Nat} {cs : List Value} {y : DataW H × List MemPlace} (h : DataW.trod enc Try.prog W base sp hd n 44 cs = some y) : cs.length = 20 ∧ EntOk cs := by
 obtain ⟨ys, n, _, _, hlen, hyl, hg⟩ := DataW.trod_struct Try.underlying44 h
 have hq : Try.prog.cellsOf 44 = 20 := by kernel_rfl
 rw [hq] at hlen
 have hy : ∀ j, j < 5 → ys[j]? = some (ys.getD j (.lit (.bool false), [])) := by
  intro j hj
  have : j < ys.length := by rw [hyl]; exact hj
  rw [List.getD_eq_getElem?_getD, List.getElem?_eq_getElem this]
  rfl
 have g0 := (hg 0 _ rfl).trans (hy 0 (by decide))
 have q0 : Try.prog.cellsOf 34 = 16 := by kernel_rfl
 have c0 : DataW.trod enc Try.prog W base sp hd n 34 ((cs.drop 0).take 16) = some (ys.getD 0 (.lit (.bool false), [])) := by
  have h1 : DataW.trod enc Try.prog W base sp hd n 34 ((cs.drop 0).take (Try.prog.cellsOf 34)) = some (ys.getD 0 (.lit (.bool false), [])) := g0
  rw [q0] at h1
  exact h1
 have g1 := (hg 1 _ rfl).trans (hy 1 (by decide))
 have q1 : Try.prog.cellsOf 22 = 1 := by kernel_rfl
 have c1 : DataW.trod enc Try.prog W base sp hd n 22 ((cs.drop 16).take 1) = some (ys.getD 1 (.lit (.bool false), [])) := by
  have h1 : DataW.trod enc Try.prog W base sp hd n 22 ((cs.drop 16).take (Try.prog.cellsOf 22)) = some (ys.getD 1 (.lit (.bool false), [])) := g1
  rw [q1] at h1
  exact h1
 have u1 : (cs.drop 16).take 1 = [cs.getD 16 undef] := take_one (by omega)
 rw [u1] at c1
 have g2 := (hg 2 _ rfl).trans (hy 2 (by decide))
 have q2 : Try.prog.cellsOf 28 = 1 := by kernel_rfl
 have c2 : DataW.trod enc Try.prog W base sp hd n 28 ((cs.drop 17).take 1) = some (ys.getD 2 (.lit (.bool false), [])) := by
  have h1 : DataW.trod enc Try.prog W base sp hd n 28 ((cs.drop 17).take (Try.prog.cellsOf 28)) = some (ys.getD 2 (.lit (.bool false), [])) := g2
  rw [q2] at h1
  exact h1
 have u2 : (cs.drop 17).take 1 = [cs.getD 17 undef] := take_one (by omega)
 rw [u2] at c2
 have g3 := (hg 3 _ rfl).trans (hy 3 (by decide))
 have q3 : Try.prog.cellsOf 28 = 1 := by kernel_rfl
 have c3 : DataW.trod enc Try.prog W base sp hd n 28 ((cs.drop 18).take 1) = some (ys.getD 3 (.lit (.bool false), [])) := by
  have h1 : DataW.trod enc Try.prog W base sp hd n 28 ((cs.drop 18).take (Try.prog.cellsOf 28)) = some (ys.getD 3 (.lit (.bool false), [])) := g3
  rw [q3] at h1
  exact h1
 have u3 : (cs.drop 18).take 1 = [cs.getD 18 undef] := take_one (by omega)
 rw [u3] at c3
 have g4 := (hg 4 _ rfl).trans (hy 4 (by decide))
 have q4 : Try.prog.cellsOf 24 = 1 := by kernel_rfl
 have c4 : DataW.trod enc Try.prog W base sp hd n 24 ((cs.drop 19).take 1) = some (ys.getD 4 (.lit (.bool false), [])) := by
  have h1 : DataW.trod enc Try.prog W base sp hd n 24 ((cs.drop 19).take (Try.prog.cellsOf 24)) = some (ys.getD 4 (.lit (.bool false), [])) := g4
  rw [q4] at h1
  exact h1
 have u4 : (cs.drop 19).take 1 = [cs.getD 19 undef] := take_one (by omega)
 rw [u4] at c4
 obtain ⟨id, hk, hid, _⟩ := trod_b16 Try.underlying34 q0 c0
 obtain ⟨n1, e1, _, w1⟩ := DataW.trod_int Try.underlying22 c1
 obtain ⟨n4, e4, _, w4⟩ := DataW.trod_int Try.underlying24 c4
 refine ⟨hlen, id, n1, cs.getD 17 undef, cs.getD 18 undef, n4, ?_, hid⟩
 have e9 : cs = (cs.drop 0).take 16 ++ ((cs.drop 16).take 1 ++ ((cs.drop 17).take 1 ++ ((cs.drop 18).take 1 ++ ((cs.drop 19).take 1 ++ cs.drop 20)))) := by
  rw [← split_at cs 19 1, ← split_at cs 18 1, ← split_at cs 17 1, ← split_at cs 16 1, ← split_at cs 0 16, List.drop_zero]
 rw [List.drop_of_length_le (by omega : cs.length ≤ 20), hk, u1, u2, u3, u4, e1, e4] at e9
 exact e9
theorem trod_msg {n : Nat} {cs : List Value} {y : DataW H × List MemPlace} (h : DataW.trod enc Try.prog W base sp hd n 27 cs = some y) : cs.length = 22 ∧ MsgOk W cs := by
 obtain ⟨ys, n, _, _, hlen, hyl, hg⟩ := DataW.trod_struct Try.underlying27 h
 have hq : Try.prog.cellsOf 27 = 22 := by kernel_rfl
 rw [hq] at hlen
 have hy : ∀ j, j < 7 → ys[j]? = some (ys.getD j (.lit (.bool false), [])) := by
  intro j hj
  have : j < ys.length := by rw [hyl]; exact hj
  rw [List.getD_eq_getElem?_getD, List.getElem?_eq_getElem this]
  rfl
 have g0 := (hg 0 _ rfl).trans (hy 0 (by decide))
 have q0 : Try.prog.cellsOf 5 = 1 := by kernel_rfl
 have c0 : DataW.trod enc Try.prog W base sp hd n 5 ((cs.drop 0).take 1) = some (ys.getD 0 (.lit (.bool false), [])) := by
  have h1 : DataW.trod enc Try.prog W base sp hd n 5 ((cs.drop 0).take (Try.prog.cellsOf 5)) = some (ys.getD 0 (.lit (.bool false), [])) := g0
  rw [q0] at h1
  exact h1
 have u0 : (cs.drop 0).take 1 = [cs.getD 0 undef] := take_one (by omega)
 rw [u0] at c0
 have g1 := (hg 1 _ rfl).trans (hy 1 (by decide))
 have q1 : Try.prog.cellsOf 22 = 1 := by kernel_rfl
 have c1 : DataW.trod enc Try.prog W base sp hd n 22 ((cs.drop 1).take 1) = some (ys.getD 1 (.lit (.bool false), [])) := by
  have h1 : DataW.trod enc Try.prog W base sp hd n 22 ((cs.drop 1).take (Try.prog.cellsOf 22)) = some (ys.getD 1 (.lit (.bool false), [])) := g1
  rw [q1] at h1
  exact h1
 have u1 : (cs.drop 1).take 1 = [cs.getD 1 undef] := take_one (by omega)
 rw [u1] at c1
 have g2 := (hg 2 _ rfl).trans (hy 2 (by decide))
 have q2 : Try.prog.cellsOf 22 = 1 := by kernel_rfl
 have c2 : DataW.trod enc Try.prog W base sp hd n 22 ((cs.drop 2).take 1) = some (ys.getD 2 (.lit (.bool false), [])) := by
  have h1 : DataW.trod enc Try.prog W base sp hd n 22 ((cs.drop 2).take (Try.prog.cellsOf 22)) = some (ys.getD 2 (.lit (.bool false), [])) := g2
  rw [q2] at h1
  exact h1
 have u2 : (cs.drop 2).take 1 = [cs.getD 2 undef] := take_one (by omega)
 rw [u2] at c2
 have g3 := (hg 3 _ rfl).trans (hy 3 (by decide))
 have q3 : Try.prog.cellsOf 3 = 1 := by kernel_rfl
 have c3 : DataW.trod enc Try.prog W base sp hd n 3 ((cs.drop 3).take 1) = some (ys.getD 3 (.lit (.bool false), [])) := by
  have h1 : DataW.trod enc Try.prog W base sp hd n 3 ((cs.drop 3).take (Try.prog.cellsOf 3)) = some (ys.getD 3 (.lit (.bool false), [])) := g3
  rw [q3] at h1
  exact h1
 have u3 : (cs.drop 3).take 1 = [cs.getD 3 undef] := take_one (by omega)
 rw [u3] at c3
 have g4 := (hg 4 _ rfl).trans (hy 4 (by decide))
 have q4 : Try.prog.cellsOf 23 = 16 := by kernel_rfl
 have c4 : DataW.trod enc Try.prog W base sp hd n 23 ((cs.drop 4).take 16) = some (ys.getD 4 (.lit (.bool false), [])) := by
  have h1 : DataW.trod enc Try.prog W base sp hd n 23 ((cs.drop 4).take (Try.prog.cellsOf 23)) = some (ys.getD 4 (.lit (.bool false), [])) := g4
  rw [q4] at h1
  exact h1
 have g5 := (hg 5 _ rfl).trans (hy 5 (by decide))
 have q5 : Try.prog.cellsOf 24 = 1 := by kernel_rfl
 have c5 : DataW.trod enc Try.prog W base sp hd n 24 ((cs.drop 20).take 1) = some (ys.getD 5 (.lit (.bool false), [])) := by
  have h1 : DataW.trod enc Try.prog W base sp hd n 24 ((cs.drop 20).take (Try.prog.cellsOf 24)) = some (ys.getD 5 (.lit (.bool false), [])) := g5
  rw [q5] at h1
  exact h1
 have u5 : (cs.drop 20).take 1 = [cs.getD 20 undef] := take_one (by omega)
 rw [u5] at c5
 have g6 := (hg 6 _ rfl).trans (hy 6 (by decide))
 have q6 : Try.prog.cellsOf 25 = 1 := by kernel_rfl
 have c6 : DataW.trod enc Try.prog W base sp hd n 25 ((cs.drop 21).take 1) = some (ys.getD 6 (.lit (.bool false), [])) := by
  have h1 : DataW.trod enc Try.prog W base sp hd n 25 ((cs.drop 21).take (Try.prog.cellsOf 25)) = some (ys.getD 6 (.lit (.bool false), [])) := g6
  rw [q6] at h1
  exact h1
 have u6 : (cs.drop 21).take 1 = [cs.getD 21 undef] := take_one (by omega)
 rw [u6] at c6
 obtain ⟨sum, hk, hid, _⟩ := trod_b16 Try.underlying23 q4 c4
 obtain ⟨n0, e0, _, w0⟩ := DataW.trod_int Try.underlying5 c0
 obtain ⟨n1, e1, _, w1⟩ := DataW.trod_int Try.underlying22 c1
 obtain ⟨n2, e2, _, w2⟩ := DataW.trod_int Try.underlying22 c2
 obtain ⟨n3, e3, _, w3⟩ := DataW.trod_int Try.underlying3 c3
 obtain ⟨n5, e5, _, w5⟩ := DataW.trod_int Try.underlying24 c5
 obtain ⟨rows, hr, hro⟩ := open_rows (q := 20) EntOk Try.underlying25 (by kernel_rfl) (by omega) (fun hx => trod_ent hx) c6
 refine ⟨hlen, n0, n1, n2, n3, sum, n5, cs.getD 21 undef, rows, ?_, hid, hr, fun e he => (hro e he).2⟩
 have e9 : cs = (cs.drop 0).take 1 ++ ((cs.drop 1).take 1 ++ ((cs.drop 2).take 1 ++ ((cs.drop 3).take 1 ++ ((cs.drop 4).take 16 ++ ((cs.drop 20).take 1 ++ ((cs.drop 21).take 1 ++ cs.drop 22)))))) := by
  rw [← split_at cs 21 1, ← split_at cs 20 1, ← split_at cs 4 16, ← split_at cs 3 1, ← split_at cs 2 1, ← split_at cs 1 1, ← split_at cs 0 1, List.drop_zero]
 rw [List.drop_of_length_le (by omega : cs.length ≤ 22), hk, u0, u1, u2, u3, u5, u6, e0, e1, e2, e3, e5] at e9
 exact e9
theorem open_msg {r : Reach} {b0 : Nat} {v : Value} {d : DataW H} {ps : List MemPlace} (hval : Value.okWide Try.prog W r b0 27 v) (h : DataW.Trod enc Try.prog W base sp hd 27 v d ps) :
  ∃ (kind job start many : Int) (sum : List Int) (code : Int) (es : Value) (rows : List (List Value)), v = .agg (msgL kind job start many sum code es).toArray ∧ sum.length = 16 ∧ SlR W W.heap.size es 20 rows ∧ ∀ e, e ∈ rows → EntOk e := by
 obtain ⟨cs, rfl, hsz⟩ := okWide_struct Try.underlying27 hval
 obtain ⟨cs⟩ := cs
 obtain ⟨fuel, hf⟩ := h
 have hf2 : DataW.trod enc Try.prog W base sp hd fuel 27 cs = some (d, ps) := hf
 obtain ⟨_, kind, job, start, many, sum, code, es, rows, rfl, h1, h2, h3⟩ := trod_msg hf2
 exact ⟨kind, job, start, many, sum, code, es, rows, rfl, h1, h2, h3⟩
end

end Go.Proofs.Ytbakkmfjamcbfaa
