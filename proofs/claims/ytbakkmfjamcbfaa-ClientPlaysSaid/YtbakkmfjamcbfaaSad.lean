/-
 OpenM, CnD: for ClientPlays.
-/
import Derived.BigQuiet
import Derived.Laws.Bits64b
import Derived.Test.YtbakkmfjamcbfaaSac
namespace Go.Proofs.Ytbakkmfjamcbfaa
open Go.RowKit Go.Joins Go.ChangeShapes Go.WideShapes Go.Deep
set_option linter.unusedVariables false
set_option maxRecDepth 100000

theorem take_one {cs : List Value} {i : Nat} (h : i < cs.length) : (cs.drop i).take 1 = [cs.getD i undef] := by
 rw [List.drop_eq_getElem_cons h, List.getD_eq_getElem?_getD, List.getElem?_eq_getElem h]
 rfl
theorem split_at (cs : List Value) (i k : Nat) : cs.drop i = (cs.drop i).take k ++ cs.drop (i + k) := by
 rw [← List.drop_drop, List.take_append_drop]
section
variable {H : Type} {enc : TypeId × Value → H} {W : World} {base : Nat} {sp : Nat → Bool} {hd : Bool}
def EntOk (r : List Value) : Prop := ∃ (id : List Int) (t : Int) (pu sh : Value) (c : Int), r = entL id t pu sh c ∧ id.length = 16
def MsgOk (W : World) (r : List Value) : Prop := ∃ (kind job start many : Int) (sum : List Int) (code : Int) (es : Value) (rows : List (List Value)), r = msgL kind job start many sum code es ∧ sum.length = 16 ∧ SlR W W.heap.size es 20 rows ∧ ∀ e, e ∈ rows → EntOk e
def ActOk (W : World) (r : List Value) : Prop := ∃ (a b c d : Int) (m : List Value) (n : Int), r = [.int .u8 a, .int .u8 b, .int .u8 c, .int .u8 d] ++ (m ++ [.int .i64 n]) ∧ MsgOk W m ∧ (0 ≤ a ∧ a ≤ 255) ∧ (0 ≤ b ∧ b ≤ 255) ∧ (0 ≤ c ∧ c ≤ 255) ∧ (0 ≤ d ∧ d ≤ 255)

theorem trod_ent {n : Nat} {cs : List Value} {y : DataW H × List MemPlace} (h : DataW.trod enc Try.prog W base sp hd n 44 cs = some y) : cs.length = 20 ∧ EntOk cs := by
 obtain ⟨ys, n, _, _, hlen, hyl, hg⟩ := DataW.trod_struct Try.underlying44 h
 have hq : Try.prog.cellsOf 44 = 20 := by kernel_rfl
 rw [hq] at hlen
 have hy : ∀ j, j < 5 → ys[j]? = some (ys.getD j (.lit (.bool false), [])) := by
  intro j hj
  have : j < ys.length := by rw [hyl]; exact hj
  rw [List.getD_eq_getElem?_getD, List.getElem?_eq_getElem this]
  rfl
 have g0 := (hg 0 _ rfl).trans (hy 0 (by decide))
 have q0 : Try.prog.cellsOf 34 = 16 := by kernel_rfl
 have c0 : DataW.trod enc Try.prog W base sp hd n 34 ((cs.drop 0).take 16) = some (ys.getD 0 (.lit (.bool false), [])) := by
  have h1 : DataW.trod enc Try.prog W base sp hd n 34 ((cs.drop 0).take (Try.prog.cellsOf 34)) = some (ys.getD 0 (.lit (.bool false), [])) := g0
  rw [q0] at h1
  exact h1
 have g1 := (hg 1 _ rfl).trans (hy 1 (by decide))
 have q1 : Try.prog.cellsOf 22 = 1 := by kernel_rfl
 have c1 : DataW.trod enc Try.prog W base sp hd n 22 ((cs.drop 16).take 1) = some (ys.getD 1 (.lit (.bool false), [])) := by
  have h1 : DataW.trod enc Try.prog W base sp hd n 22 ((cs.drop 16).take (Try.prog.cellsOf 22)) = some (ys.getD 1 (.lit (.bool false), [])) := g1
  rw [q1] at h1
  exact h1
 have u1 : (cs.drop 16).take 1 = [cs.getD 16 undef] := take_one (by omega)
 rw [u1] at c1
 have g2 := (hg 2 _ rfl).trans (hy 2 (by decide))
 have q2 : Try.prog.cellsOf 28 = 1 := by kernel_rfl
 have c2 : DataW.trod enc Try.prog W base sp hd n 28 ((cs.drop 17).take 1) = some (ys.getD 2 (.lit (.bool false), [])) := by
  have h1 : DataW.trod enc Try.prog W base sp hd n 28 ((cs.drop 17).take (Try.prog.cellsOf 28)) = some (ys.getD 2 (.lit (.bool false), [])) := g2
  rw [q2] at h1
  exact h1
 have u2 : (cs.drop 17).take 1 = [cs.getD 17 undef] := take_one (by omega)
 rw [u2] at c2
 have g3 := (hg 3 _ rfl).trans (hy 3 (by decide))
 have q3 : Try.prog.cellsOf 28 = 1 := by kernel_rfl
 have c3 : DataW.trod enc Try.prog W base sp hd n 28 ((cs.drop 18).take 1) = some (ys.getD 3 (.lit (.bool false), [])) := by
  have h1 : DataW.trod enc Try.prog W base sp hd n 28 ((cs.drop 18).take (Try.prog.cellsOf 28)) = some (ys.getD 3 (.lit (.bool false), [])) := g3
  rw [q3] at h1
  exact h1
 have u3 : (cs.drop 18).take 1 = [cs.getD 18 undef] := take_one (by omega)
 rw [u3] at c3
 have g4 := (hg 4 _ rfl).trans (hy 4 (by decide))
 have q4 : Try.prog.cellsOf 24 = 1 := by kernel_rfl
 have c4 : DataW.trod enc Try.prog W base sp hd n 24 ((cs.drop 19).take 1) = some (ys.getD 4 (.lit (.bool false), [])) := by
  have h1 : DataW.trod enc Try.prog W base sp hd n 24 ((cs.drop 19).take (Try.prog.cellsOf 24)) = some (ys.getD 4 (.lit (.bool false), [])) := g4
  rw [q4] at h1
  exact h1
 have u4 : (cs.drop 19).take 1 = [cs.getD 19 undef] := take_one (by omega)
 rw [u4] at c4
 obtain ⟨id, hk, hid, _⟩ := trod_b16 Try.underlying34 q0 c0
 obtain ⟨n1, e1, _, w1⟩ := DataW.trod_int Try.underlying22 c1
 obtain ⟨n4, e4, _, w4⟩ := DataW.trod_int Try.underlying24 c4
 refine ⟨hlen, id, n1, cs.getD 17 undef, cs.getD 18 undef, n4, ?_, hid⟩
 have e9 : cs = (cs.drop 0).take 16 ++ ((cs.drop 16).take 1 ++ ((cs.drop 17).take 1 ++ ((cs.drop 18).take 1 ++ ((cs.drop 19).take 1 ++ cs.drop 20)))) := by
  rw [← split_at cs 19 1, ← split_at cs 18 1, ← split_at cs 17 1, ← split_at cs 16 1, ← split_at cs 0 16, List.drop_zero]
 rw [List.drop_of_length_le (by omega : cs.length ≤ 20), hk, u1, u2, u3, u4, e1, e4] at e9
 exact e9
theorem trod_msg {n : Nat} {cs : List Value} {y : DataW H × List MemPlace} (h : DataW.trod enc Try.prog W base sp hd n 27 cs = some y) : cs.length = 22 ∧ MsgOk W cs := by
 obtain ⟨ys, n, _, _, hlen, hyl, hg⟩ := DataW.trod_struct Try.underlying27 h
 have hq : Try.prog.cellsOf 27 = 22 := by kernel_rfl
 rw [hq] at hlen
 have hy : ∀ j, j < 7 → ys[j]? = some (ys.getD j (.lit (.bool false), [])) := by
  intro j hj
  have : j < ys.length := by rw [hyl]; exact hj
  rw [List.getD_eq_getElem?_getD, List.getElem?_eq_getElem this]
  rfl
 have g0 := (hg 0 _ rfl).trans (hy 0 (by decide))
 have q0 : Try.prog.cellsOf 5 = 1 := by kernel_rfl
 have c0 : DataW.trod enc Try.prog W base sp hd n 5 ((cs.drop 0).take 1) = some (ys.getD 0 (.lit (.bool false), [])) := by
  have h1 : DataW.trod enc Try.prog W base sp hd n 5 ((cs.drop 0).take (Try.prog.cellsOf 5)) = some (ys.getD 0 (.lit (.bool false), [])) := g0
  rw [q0] at h1
  exact h1
 have u0 : (cs.drop 0).take 1 = [cs.getD 0 undef] := take_one (by omega)
 rw [u0] at c0
 have g1 := (hg 1 _ rfl).trans (hy 1 (by decide))
 have q1 : Try.prog.cellsOf 22 = 1 := by kernel_rfl
 have c1 : DataW.trod enc Try.prog W base sp hd n 22 ((cs.drop 1).take 1) = some (ys.getD 1 (.lit (.bool false), [])) := by
  have h1 : DataW.trod enc Try.prog W base sp hd n 22 ((cs.drop 1).take (Try.prog.cellsOf 22)) = some (ys.getD 1 (.lit (.bool false), [])) := g1
  rw [q1] at h1
  exact h1
 have u1 : (cs.drop 1).take 1 = [cs.getD 1 undef] := take_one (by omega)
 rw [u1] at c1
 have g2 := (hg 2 _ rfl).trans (hy 2 (by decide))
 have q2 : Try.prog.cellsOf 22 = 1 := by kernel_rfl
 have c2 : DataW.trod enc Try.prog W base sp hd n 22 ((cs.drop 2).take 1) = some (ys.getD 2 (.lit (.bool false), [])) := by
  have h1 : DataW.trod enc Try.prog W base sp hd n 22 ((cs.drop 2).take (Try.prog.cellsOf 22)) = some (ys.getD 2 (.lit (.bool false), [])) := g2
  rw [q2] at h1
  exact h1
 have u2 : (cs.drop 2).take 1 = [cs.getD 2 undef] := take_one (by omega)
 rw [u2] at c2
 have g3 := (hg 3 _ rfl).trans (hy 3 (by decide))
 have q3 : Try.prog.cellsOf 3 = 1 := by kernel_rfl
 have c3 : DataW.trod enc Try.prog W base sp hd n 3 ((cs.drop 3).take 1) = some (ys.getD 3 (.lit (.bool false), [])) := by
  have h1 : DataW.trod enc Try.prog W base sp hd n 3 ((cs.drop 3).take (Try.prog.cellsOf 3)) = some (ys.getD 3 (.lit (.bool false), [])) := g3
  rw [q3] at h1
  exact h1
 have u3 : (cs.drop 3).take 1 = [cs.getD 3 undef] := take_one (by omega)
 rw [u3] at c3
 have g4 := (hg 4 _ rfl).trans (hy 4 (by decide))
 have q4 : Try.prog.cellsOf 23 = 16 := by kernel_rfl
 have c4 : DataW.trod enc Try.prog W base sp hd n 23 ((cs.drop 4).take 16) = some (ys.getD 4 (.lit (.bool false), [])) := by
  have h1 : DataW.trod enc Try.prog W base sp hd n 23 ((cs.drop 4).take (Try.prog.cellsOf 23)) = some (ys.getD 4 (.lit (.bool false), [])) := g4
  rw [q4] at h1
  exact h1
 have g5 := (hg 5 _ rfl).trans (hy 5 (by decide))
 have q5 : Try.prog.cellsOf 24 = 1 := by kernel_rfl
 have c5 : DataW.trod enc Try.prog W base sp hd n 24 ((cs.drop 20).take 1) = some (ys.getD 5 (.lit (.bool false), [])) := by
  have h1 : DataW.trod enc Try.prog W base sp hd n 24 ((cs.drop 20).take (Try.prog.cellsOf 24)) = some (ys.getD 5 (.lit (.bool false), [])) := g5
  rw [q5] at h1
  exact h1
 have u5 : (cs.drop 20).take 1 = [cs.getD 20 undef] := take_one (by omega)
 rw [u5] at c5
 have g6 := (hg 6 _ rfl).trans (hy 6 (by decide))
 have q6 : Try.prog.cellsOf 25 = 1 := by kernel_rfl
 have c6 : DataW.trod enc Try.prog W base sp hd n 25 ((cs.drop 21).take 1) = some (ys.getD 6 (.lit (.bool false), [])) := by
  have h1 : DataW.trod enc Try.prog W base sp hd n 25 ((cs.drop 21).take (Try.prog.cellsOf 25)) = some (ys.getD 6 (.lit (.bool false), [])) := g6
  rw [q6] at h1
  exact h1
 have u6 : (cs.drop 21).take 1 = [cs.getD 21 undef] := take_one (by omega)
 rw [u6] at c6
 obtain ⟨sum, hk, hid, _⟩ := trod_b16 Try.underlying23 q4 c4
 obtain ⟨n0, e0, _, w0⟩ := DataW.trod_int Try.underlying5 c0
 obtain ⟨n1, e1, _, w1⟩ := DataW.trod_int Try.underlying22 c1
 obtain ⟨n2, e2, _, w2⟩ := DataW.trod_int Try.underlying22 c2
 obtain ⟨n3, e3, _, w3⟩ := DataW.trod_int Try.underlying3 c3
 obtain ⟨n5, e5, _, w5⟩ := DataW.trod_int Try.underlying24 c5
 obtain ⟨rows, hr, hro⟩ := open_rows (q := 20) EntOk Try.underlying25 (by kernel_rfl) (by omega) (fun hx => trod_ent hx) c6
 refine ⟨hlen, n0, n1, n2, n3, sum, n5, cs.getD 21 undef, rows, ?_, hid, hr, fun e he => (hro e he).2⟩
 have e9 : cs = (cs.drop 0).take 1 ++ ((cs.drop 1).take 1 ++ ((cs.drop 2).take 1 ++ ((cs.drop 3).take 1 ++ ((cs.drop 4).take 16 ++ ((cs.drop 20).take 1 ++ ((cs.drop 21).take 1 ++ cs.drop 22)))))) := by
  rw [← split_at cs 21 1, ← split_at cs 20 1, ← split_at cs 4 16, ← split_at cs 3 1, ← split_at cs 2 1, ← split_at cs 1 1, ← split_at cs 0 1, List.drop_zero]
 rw [List.drop_of_length_le (by omega : cs.length ≤ 22), hk, u0, u1, u2, u3, u5, u6, e0, e1, e2, e3, e5] at e9
 exact e9
theorem trod_act {n : Nat} {cs : List Value} {y : DataW H × List MemPlace} (h : DataW.trod enc Try.prog W base sp hd n 50 cs = some y) : cs.length = 27 ∧ ActOk W cs := by
 obtain ⟨ys, n, _, _, hlen, hyl, hg⟩ := DataW.trod_struct Try.underlying50 h
 have hq : Try.prog.cellsOf 50 = 27 := by kernel_rfl
 rw [hq] at hlen
 have hy : ∀ j, j < 6 → ys[j]? = some (ys.getD j (.lit (.bool false), [])) := by
  intro j hj
  have : j < ys.length := by rw [hyl]; exact hj
  rw [List.getD_eq_getElem?_getD, List.getElem?_eq_getElem this]
  rfl
 have g0 := (hg 0 _ rfl).trans (hy 0 (by decide))
 have q0 : Try.prog.cellsOf 5 = 1 := by kernel_rfl
 have c0 : DataW.trod enc Try.prog W base sp hd n 5 ((cs.drop 0).take 1) = some (ys.getD 0 (.lit (.bool false), [])) := by
  have h1 : DataW.trod enc Try.prog W base sp hd n 5 ((cs.drop 0).take (Try.prog.cellsOf 5)) = some (ys.getD 0 (.lit (.bool false), [])) := g0
  rw [q0] at h1
  exact h1
 have u0 : (cs.drop 0).take 1 = [cs.getD 0 undef] := take_one (by omega)
 rw [u0] at c0
 have g1 := (hg 1 _ rfl).trans (hy 1 (by decide))
 have q1 : Try.prog.cellsOf 5 = 1 := by kernel_rfl
 have c1 : DataW.trod enc Try.prog W base sp hd n 5 ((cs.drop 1).take 1) = some (ys.getD 1 (.lit (.bool false), [])) := by
  have h1 : DataW.trod enc Try.prog W base sp hd n 5 ((cs.drop 1).take (Try.prog.cellsOf 5)) = some (ys.getD 1 (.lit (.bool false), [])) := g1
  rw [q1] at h1
  exact h1
 have u1 : (cs.drop 1).take 1 = [cs.getD 1 undef] := take_one (by omega)
 rw [u1] at c1
 have g2 := (hg 2 _ rfl).trans (hy 2 (by decide))
 have q2 : Try.prog.cellsOf 5 = 1 := by kernel_rfl
 have c2 : DataW.trod enc Try.prog W base sp hd n 5 ((cs.drop 2).take 1) = some (ys.getD 2 (.lit (.bool false), [])) := by
  have h1 : DataW.trod enc Try.prog W base sp hd n 5 ((cs.drop 2).take (Try.prog.cellsOf 5)) = some (ys.getD 2 (.lit (.bool false), [])) := g2
  rw [q2] at h1
  exact h1
 have u2 : (cs.drop 2).take 1 = [cs.getD 2 undef] := take_one (by omega)
 rw [u2] at c2
 have g3 := (hg 3 _ rfl).trans (hy 3 (by decide))
 have q3 : Try.prog.cellsOf 5 = 1 := by kernel_rfl
 have c3 : DataW.trod enc Try.prog W base sp hd n 5 ((cs.drop 3).take 1) = some (ys.getD 3 (.lit (.bool false), [])) := by
  have h1 : DataW.trod enc Try.prog W base sp hd n 5 ((cs.drop 3).take (Try.prog.cellsOf 5)) = some (ys.getD 3 (.lit (.bool false), [])) := g3
  rw [q3] at h1
  exact h1
 have u3 : (cs.drop 3).take 1 = [cs.getD 3 undef] := take_one (by omega)
 rw [u3] at c3
 have g4 := (hg 4 _ rfl).trans (hy 4 (by decide))
 have q4 : Try.prog.cellsOf 27 = 22 := by kernel_rfl
 have c4 : DataW.trod enc Try.prog W base sp hd n 27 ((cs.drop 4).take 22) = some (ys.getD 4 (.lit (.bool false), [])) := by
  have h1 : DataW.trod enc Try.prog W base sp hd n 27 ((cs.drop 4).take (Try.prog.cellsOf 27)) = some (ys.getD 4 (.lit (.bool false), [])) := g4
  rw [q4] at h1
  exact h1
 have g5 := (hg 5 _ rfl).trans (hy 5 (by decide))
 have q5 : Try.prog.cellsOf 3 = 1 := by kernel_rfl
 have c5 : DataW.trod enc Try.prog W base sp hd n 3 ((cs.drop 26).take 1) = some (ys.getD 5 (.lit (.bool false), [])) := by
  have h1 : DataW.trod enc Try.prog W base sp hd n 3 ((cs.drop 26).take (Try.prog.cellsOf 3)) = some (ys.getD 5 (.lit (.bool false), [])) := g5
  rw [q5] at h1
  exact h1
 have u5 : (cs.drop 26).take 1 = [cs.getD 26 undef] := take_one (by omega)
 rw [u5] at c5
 obtain ⟨n0, e0, _, w0⟩ := DataW.trod_int Try.underlying5 c0
 obtain ⟨n1, e1, _, w1⟩ := DataW.trod_int Try.underlying5 c1
 obtain ⟨n2, e2, _, w2⟩ := DataW.trod_int Try.underlying5 c2
 obtain ⟨n3, e3, _, w3⟩ := DataW.trod_int Try.underlying5 c3
 obtain ⟨n5, e5, _, w5⟩ := DataW.trod_int Try.underlying3 c5
 have hm := (trod_msg c4).2
 refine ⟨hlen, n0, n1, n2, n3, (cs.drop 4).take 22, n5, ?_, hm, wf_u8 w0, wf_u8 w1, wf_u8 w2, wf_u8 w3⟩
 have e9 : cs = (cs.drop 0).take 1 ++ ((cs.drop 1).take 1 ++ ((cs.drop 2).take 1 ++ ((cs.drop 3).take 1 ++ ((cs.drop 4).take 22 ++ ((cs.drop 26).take 1 ++ cs.drop 27))))) := by
  rw [← split_at cs 26 1, ← split_at cs 4 22, ← split_at cs 3 1, ← split_at cs 2 1, ← split_at cs 1 1, ← split_at cs 0 1, List.drop_zero]
 rw [List.drop_of_length_le (by omega : cs.length ≤ 27)] at e9
 generalize (cs.drop 4).take 22 = m at e9 ⊢
 rw [u0, u1, u2, u3, u5, e0, e1, e2, e3, e5] at e9
 exact e9
theorem open_acts {r : Reach} {b0 : Nat} {v : Value} {d : DataW H} {pl : List MemPlace} (hval : Value.okWide Try.prog W r b0 47 v) (h : DataW.Trod enc Try.prog W base sp hd 47 v d pl) :
  ∃ rows : List (List Value), SlR W W.heap.size v 27 rows ∧ ∀ r, r ∈ rows → r.length = 27 ∧ ActOk W r :=
 open_rowsV (q := 27) (ActOk W) Try.underlying47 (by kernel_rfl) (by omega) (fun hx => trod_act hx) hval h
end

end Go.Proofs.Ytbakkmfjamcbfaa

namespace Go.Proofs.Ytbakkmfjamcbfaa
open Go.RowKit Fm
set_option linter.unusedVariables false
set_option maxRecDepth 100000

def cellsN (xs : List Int) : List Value := xs.map (.int .i64)
theorem cellsN_at {xs : List Int} {i : Nat} {e : Int} (h : xs[i]? = some e) : (cellsN xs)[i]? = some (.int .i64 e) := by unfold cellsN; rw [List.getElem?_map, h]; rfl
theorem infoInt : (Try.prog.info? 3).map (fun i => (i.zero, i.size, i.bytes)) = some (some (.int .i64 0), 1, 8) := by kernel_rfl
theorem wpList_append_N {w : World} {ops : Array Oper} {rest : List Oper} {o : Oper} {a : Act} {Q : Exit → Act → World → Prop} (hgd : o.guard = none) (s x : Operand)
  (ho : o.op = .call { callee := .builtin .append, args := #[s, x], argTypes := #[51, 51] })
  (base : Nat) (v : Value) (n : Nat) (xs : List Int) (hs : a.eval s = v) (hown : w.ownsRow base 3 1 v n (cellsN xs)) (nb : Nat) (y : Int) (hx : a.eval x = .slice (some ⟨nb, 0, none⟩) 1 1)
  (hN : Vs w nb [.int .i64 y]) (hbound : n + 1 ≤ 1000000) (hbase : base ≤ w.heap.size)
  (h : ∀ v' w', w'.ownsRow base 3 1 v' (n + 1) (cellsN (xs ++ [y])) → w.grownBy w' v.ownBlock → (v'.ownBlock = v.ownBlock ∨ v'.ownBlock = some w.heap.size) → wpList Try.prog ops Q rest (a.put o.dst v') w') : wpList Try.prog ops Q (o :: rest) a w := by
 obtain ⟨i, hi, hz, hi1, hi2⟩ := info_parts infoInt
 obtain ⟨v', w', hrun, h3, h4, _, h5⟩ := run_append_own_at (P := Try.prog) w base 51 o.type 3 i _ 1 8 Try.underlying51 hi hz hi1 hi2 rfl (by omega) v n _ hown ⟨nb, 0, none⟩ 1 1 [.int .i64 y]
  (by rfl) (fun j u hu => by
   have ha : (⟨nb, 0, none⟩ : Addr).add j = ⟨nb, 0 + j, none⟩ := by
    unfold Addr.add
    split <;> simp_all
   rw [ha, Nat.zero_add]
   exact hN.cell j u hu) (fun u hu => by simp at hu; subst hu; rfl) (by unfold maxLen; omega) (by omega) hbase
 have e : cellsN (xs ++ [y]) = cellsN xs ++ [.int .i64 y] := by unfold cellsN; rw [List.map_append]; rfl
 refine wpList_plain hgd fun K hK => ?_
 unfold Oper.wp execOp
 simp only [ho, resolve, invoke, builtin, Sem.run_bind, Sem.run_pure, Result.andThen_ok, List.map_toArray, List.map_cons, List.map_nil, hs, hx, hrun]
 exact hK _ _ (h v' w' (by rw [e]; exact h3) h4 h5)
theorem own_cellN {w : World} {base g n cap : Nat} {xs : List Int} (h : w.ownsRow base 3 1 (.slice (some ⟨g, 0, none⟩) n cap) n (cellsN xs)) (i : Nat) (e : Int) (hi : xs[i]? = some e) : w.cell? ⟨g, i, none⟩ = some (.int .i64 e) := by
 have f1 := h.cells (g := g) rfl i _ (cellsN_at hi)
 have ha : (⟨g, 0, none⟩ : Addr).add i = ⟨g, 0 + i, none⟩ := by
  unfold Addr.add
  split <;> simp_all
 rwa [ha, Nat.zero_add] at f1

def actL (a b c d : Int) (m : List Value) (n : Int) : List Value := [.int .u8 a, .int .u8 b, .int .u8 c, .int .u8 d] ++ (m ++ [.int .i64 n])
def mz0 : List Value := msgL 0 0 0 0 z16 0 (.slice none 0 0)
theorem mz0_length : mz0.length = 22 := msgL_length z16_length
section
variable {w : World} {bk : Nat} {a b c d n : Int} {m : List Value} {kind job start many code : Int} {sum : List Int} {es : Value}
theorem actL_length (hm : m.length = 22) : (actL a b c d m n).length = 27 := by unfold actL; rw [List.length_append, List.length_append, hm]; rfl
theorem size_act : (Try.prog.info? 50).map (·.size) = some 27 := by kernel_rfl
theorem actL_one (hm : ∀ v, v ∈ m → v.oneCell' = true) : ∀ v, v ∈ actL a b c d m n → v.oneCell' = true := by
 intro v hv
 unfold actL at hv
 rcases List.mem_append.1 hv with h | h
 ·simp at h
  rcases h with rfl | rfl | rfl | rfl <;> rfl
 ·rcases List.mem_append.1 h with h | h
  ·exact hm v h
  ·simp at h
   subst h
   rfl
theorem load_act {o : Nat} (hm : m.length = 22) (h : w.rangeAt bk o (actL a b c d m n)) : (Instr.loadAt 50 (.pointer (some ⟨bk, o, none⟩))).run Try.prog w = .ok (.agg (actL a b c d m n).toArray) w :=
 load_R h Try.underlying50 rfl (by rw [actL_length hm]; exact size_act)
theorem Vs.storeAct (h : Vs w bk (actL 0 0 0 0 mz0 0)) (hm : m.length = 22) (h1 : ∀ v, v ∈ m → v.oneCell' = true) : (Instr.storeAt 50 (.pointer (some ⟨bk, 0, none⟩)) (.agg (actL a b c d m n).toArray)).run Try.prog w = .ok () (w.setCells bk 0 (actL a b c d m n)) ∧ Vs (w.setCells bk 0 (actL a b c d m n)) bk (actL a b c d m n) :=
 ⟨store_W h (by rw [actL_length hm, actL_length mz0_length]) (by rw [actL_length hm]; exact size_act) (actL_one h1), h.setW (by rw [actL_length hm, actL_length mz0_length])⟩
theorem Vs.act (hm : m.length = 22) (h : Vs w bk (actL a b c d m n)) : w.cell? ⟨bk, 0, none⟩ = some (.int .u8 a) ∧ w.cell? ⟨bk, 1, none⟩ = some (.int .u8 b) ∧ w.cell? ⟨bk, 2, none⟩ = some (.int .u8 c) ∧ w.cell? ⟨bk, 3, none⟩ = some (.int .u8 d) ∧ w.cell? ⟨bk, 26, none⟩ = some (.int .i64 n) ∧ bk < w.heap.size := by
 refine ⟨h.cell 0 _ rfl, h.cell 1 _ rfl, h.cell 2 _ rfl, h.cell 3 _ rfl, h.cell 26 _ ?_, h.lt⟩
 unfold actL
 rw [List.getElem?_append_right (by simp), List.getElem?_append_right (by rw [hm]; simp), hm]
 rfl
theorem Vs.loadAny (hm : m.length = 22) (h : Vs w bk (actL a b c d m n)) : (Instr.loadAt 27 (.pointer (some ⟨bk, 4, none⟩))).run Try.prog w = .ok (.agg m.toArray) w := by
 unfold actL at h
 rw [← List.append_assoc] at h
 exact load_P h Try.underlying27 rfl (by rw [hm]; exact size_msg)
end
theorem build_entC {id : List Int} (hid : id.length = 16) (code : Int) (w : World) : (Instr.build 44 #[(0, .agg (cells8 id).toArray), (4, .int .i64 code)]).run Try.prog w = .ok (.agg (entL id 0 (.slice none 0 0) (.slice none 0 0) code).toArray) w := by
 obtain ⟨x0, x1, x2, x3, x4, x5, x6, x7, y0, y1, y2, y3, y4, y5, y6, y7, rfl⟩ := list16 hid
 kernel_rfl
theorem build_msg7 (g : Nat) (w : World) : (Instr.build 27 #[(0, .int .u8 7), (6, .slice (some ⟨g, 0, none⟩) 1 1)]).run Try.prog w = .ok (.agg (msgL 7 0 0 0 z16 0 (.slice (some ⟨g, 0, none⟩) 1 1)).toArray) w := by kernel_rfl
def wtK (d0 d1 : Bool) : Nat → List Int
 | 0 => []
 | 1 => if d0 then [] else [0]
 | _ => (if d0 then [] else [0]) ++ (if d1 then [] else [1])
theorem wtK_le (d0 d1 : Bool) (k : Nat) : (wtK d0 d1 k).length ≤ 2 := by
 unfold wtK
 split <;> (try split) <;> (try split) <;> simp
theorem wt_it (d0 d1 : Bool) (zs1 zs2 : List Int) (n1 n2 : Nat) : (itK d0 d1 zs1 zs2 n1 n2 2).length = (wtK d0 d1 2).length ∧ ∀ (j : Nat) it, (itK d0 d1 zs1 zs2 n1 n2 2)[j]? = some it → (wtK d0 d1 2)[j]? = some it.1 ∧ (it = (0, zs1, n1) ∨ it = (1, zs2, n2)) := by
 cases d0 <;> cases d1 <;> refine ⟨rfl, fun j it h => ?_⟩
 ·match j, h with
  | 0, h => injection h with h; subst h; exact ⟨rfl, .inl rfl⟩
  | 1, h => injection h with h; subst h; exact ⟨rfl, .inr rfl⟩
  | (j + 2), h => simp [itK] at h
 ·match j, h with
  | 0, h => injection h with h; subst h; exact ⟨rfl, .inl rfl⟩
  | (j + 1), h => simp [itK] at h
 ·match j, h with
  | 0, h => injection h with h; subst h; exact ⟨rfl, .inr rfl⟩
  | (j + 1), h => simp [itK] at h
 ·simp [itK] at h

end Go.Proofs.Ytbakkmfjamcbfaa
