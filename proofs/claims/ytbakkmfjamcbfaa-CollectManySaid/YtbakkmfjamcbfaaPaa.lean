/-
 Append, Law9b, RegG, Sums, Nums, EncM, RefV, Exc, CoA, CoB, CoC, CoD: for CollectMany.
-/
import Derived.Maps.AppendAt
import Derived.BigQuiet
import Derived.Laws.OwnMore
import Derived.Laws.Bits64b
import Derived.Test.YtbakkmfjamcbfaaKat
namespace Go.Proofs.Ytbakkmfjamcbfaa
open Go.RowKit Fm
set_option linter.unusedVariables false
set_option maxRecDepth 100000

theorem SlE.of_own {w : World} {base : Nat} {v : Value} {xs : List E} (h : w.ownsRow base 99 2 v xs.length (cellsE xs)) (ok : ∀ e, e ∈ xs → okE e) : SlE w w.heap.size v xs := by
 rcases h.2 with ⟨rfl, h0⟩ | ⟨g, cap, cur, rfl, hb, hg, hnc, hcm, hcs, htk⟩
 ·refine ⟨⟨none, 0, by rw [h0], by omega, by omega, fun hn => by omega⟩, ok⟩
 ·refine ⟨⟨some ⟨g, 0, none⟩, cap, rfl, hnc, by unfold maxLen at hcm; omega, fun _ => ⟨g, 0, rfl, (Array.getElem?_eq_some_iff.1 hg).1, fun i e hi => ?_⟩⟩, ok⟩
  obtain ⟨e1, e2⟩ := cellsE_at xs i e hi
  have hc := fun j u hu => h.cells (g := g) rfl j u hu
  have ha : ∀ j, (⟨g, 0, none⟩ : Addr).add j = ⟨g, 0 + j, none⟩ := by
   intro j
   unfold Addr.add
   split <;> simp_all
  have f1 := hc _ _ e1
  have f2 := hc _ _ e2
  rw [ha] at f1 f2
  exact ⟨f1, by rw [Nat.add_assoc]; exact f2⟩

end Go.Proofs.Ytbakkmfjamcbfaa

namespace Go.Proofs.Ytbakkmfjamcbfaa
open Go.RowKit Fm
set_option linter.unusedVariables false
set_option maxRecDepth 100000

theorem own_slice {w : World} {base : Nat} {e : TypeId} {size : Nat} {v : Value} {n : Nat} {xs : List Value} (h : w.ownsRow base e size v (n + 1) xs) : ∃ g cap, v = .slice (some ⟨g, 0, none⟩) (n + 1) cap := by
 rcases h.2 with h | ⟨g, cap, cur, h1, _⟩
 ·omega
 ·exact ⟨g, cap, h1⟩

section
variable {f : Nat} (hf : IsF f)
include hf

end

end Go.Proofs.Ytbakkmfjamcbfaa

namespace Go.Proofs.Ytbakkmfjamcbfaa
open Go Go.RowKit

section
variable {P : Program} {ops : Array Oper} {Q : Exit → Act → World → Prop} {md : Region.Mode}

variable {n m : Nat} {L : Act → World → Prop} {S : World → Prop} {f : Nat} {listed : Array Bool} {a : Act}

end

section
variable {P : Program} {Q : Exit → Act → World → Prop}
theorem Fresh.var {ops : Array Oper} {S : World → Prop} {o : Oper} {a : Act} {B : Nat} (cs : List Value) (t : TypeId) (hw : Region.wanted o (yielded ops a.tmps) = true) (hB : ∀ w, S w → B ≤ w.heap.size)
  (h : ∀ w, S w → (execOp a.eval o).run P w = .ok (.value (.pointer (some ⟨w.heap.size, 0, none⟩))) (w.alloc (.cells cs.toArray t))) {R : Nat → World → Prop} (hR : ∀ w, S w → R w.heap.size (w.alloc (.cells cs.toArray t))) :
  Fresh P ops S (fun b : Nat => .pointer (some ⟨b, 0, none⟩)) (fun b w => B ≤ b ∧ R b w) o a :=
 ⟨hw, fun w hS => by rw [h w hS]; exact ⟨w.heap.size, rfl, ⟨hB w hS, hR w hS⟩, (Below.refl _ _).alloc (Nat.le_refl _) _⟩⟩
end

end Go.Proofs.Ytbakkmfjamcbfaa

namespace Go.Proofs.Ytbakkmfjamcbfaa
open Go.RowKit Fm
set_option linter.unusedVariables false
set_option maxRecDepth 100000

theorem ksum_take {f : Nat} (l : KL f) (k : Nat) (x : Fin (Pm f)) (h : l[k]? = some x) : ksum (l.take (k + 1)) = ksum (l.take k) + x := by
 unfold ksum
 rw [List.take_add_one, h, List.foldl_append]
 rfl
def kpow (f : Nat) : Nat → Fin (Pm f)
 | 0 => 1
 | k + 1 => kpow f k + kpow f k
theorem knum_take {f : Nat} : ∀ (l : KL f) (k : Nat) (x : Fin (Pm f)), l[k]? = some x → knum (l.take (k + 1)) = knum (l.take k) + kpow f k * x
 | [], k, x, h => by simp at h
 | y :: l, 0, x, h => by
  obtain rfl : y = x := by simpa using h
  show (0 : Fin (Pm f)) + 0 + y = 0 + 1 * y
  grind
 | y :: l, k + 1, x, h => by
  have ih := knum_take l k x (by simpa using h)
  rw [List.take_succ_cons, List.take_succ_cons]
  show knum (l.take (k + 1)) + knum (l.take (k + 1)) + y = knum (l.take k) + knum (l.take k) + y + (kpow f k + kpow f k) * x
  rw [ih]
  grind

section
variable {f : Nat} (hf : IsF f)
include hf

end

end Go.Proofs.Ytbakkmfjamcbfaa

namespace Go.Proofs.Ytbakkmfjamcbfaa
open Go.RowKit Fm Go.ChangeShapes Go.WideShapes Go.Deep
set_option linter.unusedVariables false
set_option maxRecDepth 100000

theorem length_cellsU (xs : List Int) : (cellsU xs).length = xs.length := by unfold cellsU; rw [List.length_map]
theorem cellsU_at {xs : List Int} {i : Nat} {e : Int} (h : xs[i]? = some e) : (cellsU xs)[i]? = some (.int .u64 e) := by unfold cellsU; rw [List.getElem?_map, h]; rfl
theorem cellsU_append (xs ys : List Int) : cellsU (xs ++ ys) = cellsU xs ++ cellsU ys := by unfold cellsU; rw [List.map_append]

theorem infoU64 : (Try.prog.info? 22).map (fun i => (i.zero, i.size, i.bytes)) = some (some (.int .u64 0), 1, 8) := by kernel_rfl

theorem oneCell_cellsU (xs : List Int) : ∀ u, u ∈ cellsU xs → u.oneCell' = true := by
 intro u h
 unfold cellsU at h
 rw [List.mem_map] at h
 obtain ⟨e, _, rfl⟩ := h
 rfl

theorem run_append_U (w : World) (base : Nat) (ty : TypeId) (v : Value) (n : Nat) (xs : List Int) (hown : w.ownsRow base 22 1 v n (cellsU xs)) (A : Option Addr) (m c : Nat) (ys : List Int)
  (hm : ys.length = m) (hy : 0 < m → ∃ b o, A = some ⟨b, o, none⟩ ∧ RowU w b o ys) (hbound : n + m ≤ 1099511627776) (hbase : base ≤ w.heap.size) :
  ∃ v' w', (Builtin.append_ #[88, 88] ty #[v, .slice A m c]).run Try.prog w = .ok v' w' ∧ w'.ownsRow base 22 1 v' (n + m) (cellsU (xs ++ ys)) ∧ w.grownBy w' v.ownBlock ∧
   (v'.ownBlock = v.ownBlock ∨ v'.ownBlock = some w.heap.size) := by
 obtain ⟨i, hi, hz, h1, h2⟩ := info_parts infoU64
 rw [cellsU_append]
 rcases A with _ | ad
 ·have hm0 : m = 0 := by
   rcases Nat.eq_zero_or_pos m with h0 | h0
   ·exact h0
   ·obtain ⟨b, o, h, _⟩ := hy h0
    cases h
  subst hm0
  obtain rfl : ys = [] := List.eq_nil_of_length_eq_zero hm
  refine ⟨v, w, ?_, by simpa [cellsU] using hown, World.grownBy.refl w _, .inl rfl⟩
  rcases hown.2 with ⟨rfl, rfl⟩ | ⟨g, cap, cur, rfl, _, _, hnc, _⟩
  ·simp [Builtin.append_, run_underlying Try.underlying88, sizeOf, typeInfo, hi, Builtin.lenOf, Builtin.firstCells]
  ·simp [Builtin.append_, run_underlying Try.underlying88, sizeOf, typeInfo, hi, Builtin.lenOf, Builtin.firstCells, hnc, storeCells]
 ·have hcells : ∀ j u, (cellsU ys)[j]? = some u → w.cell? (ad.add j) = some u := by
   intro j u hu
   rcases Nat.eq_zero_or_pos m with h0 | h0
   ·subst h0
    obtain rfl : ys = [] := List.eq_nil_of_length_eq_zero hm
    simp [cellsU] at hu
   ·obtain ⟨b, o, h, hr⟩ := hy h0
    injection h with h
    subst h
    exact hr.cells j u hu
  obtain ⟨v', w', hrun, h3, h4, _, h5⟩ := run_append_own_at (P := Try.prog) w base 88 ty 22 i _ 1 8 Try.underlying88 hi hz h1 h2 rfl (by omega) v n _ hown ad m c (cellsU ys)
   (by rw [length_cellsU, hm, Nat.mul_one]) hcells (oneCell_cellsU ys) (by unfold maxLen; omega) (by omega) hbase
  exact ⟨v', w', hrun, h3, h4, h5⟩

theorem wpList_append_U {w : World} {ops : Array Oper} {rest : List Oper} {o : Oper} {a : Act} {Q : Exit → Act → World → Prop} (hgd : o.guard = none) (s x : Operand)
  (ho : o.op = .call { callee := .builtin .append, args := #[s, x], argTypes := #[88, 88] })
  (base : Nat) (v : Value) (n : Nat) (xs : List Int) (hs : a.eval s = v) (hown : w.ownsRow base 22 1 v n (cellsU xs)) (A : Option Addr) (m c : Nat) (ys : List Int) (hx : a.eval x = .slice A m c)
  (hm : ys.length = m) (hy : 0 < m → ∃ b o, A = some ⟨b, o, none⟩ ∧ RowU w b o ys) (hbound : n + m ≤ 1099511627776) (hbase : base ≤ w.heap.size)
  (h : ∀ v' w', w'.ownsRow base 22 1 v' (n + m) (cellsU (xs ++ ys)) → w.grownBy w' v.ownBlock → (v'.ownBlock = v.ownBlock ∨ v'.ownBlock = some w.heap.size) → wpList Try.prog ops Q rest (a.put o.dst v') w') : wpList Try.prog ops Q (o :: rest) a w := by
 obtain ⟨v', w', hrun, h2, h3, h4⟩ := run_append_U w base o.type v n xs hown A m c ys hm hy hbound hbase
 refine wpList_plain hgd fun K hK => ?_
 unfold Oper.wp execOp
 simp only [ho, resolve, invoke, builtin, Sem.run_bind, Sem.run_pure, Result.andThen_ok, List.map_toArray, List.map_cons, List.map_nil, hs, hx, hrun]
 exact hK _ _ (h v' w' h2 h3 h4)

theorem SlU.of_own {w : World} {base : Nat} {v : Value} {xs : List Int} (h : w.ownsRow base 22 1 v xs.length (cellsU xs)) (ok : ∀ e, e ∈ xs → okU e) : SlU w w.heap.size v xs := by
 rcases h.2 with ⟨rfl, h0⟩ | ⟨g, cap, cur, rfl, hb, hg, hnc, hcm, hcs, htk⟩
 ·refine ⟨⟨none, 0, by rw [h0], by omega, by omega, fun hn => by omega⟩, ok⟩
 ·refine ⟨⟨some ⟨g, 0, none⟩, cap, rfl, hnc, by unfold maxLen at hcm; omega, fun _ => ⟨g, 0, rfl, (Array.getElem?_eq_some_iff.1 hg).1, fun i e hi => ?_⟩⟩, ok⟩
  have f1 := h.cells (g := g) rfl i _ (cellsU_at hi)
  have ha : (⟨g, 0, none⟩ : Addr).add i = ⟨g, 0 + i, none⟩ := by
   unfold Addr.add
   split <;> simp_all
  rw [ha] at f1
  exact f1

section
variable {H : Type} {enc : TypeId × Value → H} {W : World} {base : Nat} {sp : Nat → Bool} {hd : Bool}
end

end Go.Proofs.Ytbakkmfjamcbfaa

namespace Go.Proofs.Ytbakkmfjamcbfaa
open Go.RowKit Fm
set_option linter.unusedVariables false
set_option maxRecDepth 100000

theorem own_shape {w : World} {base : Nat} {e : TypeId} {size : Nat} {v : Value} {n : Nat} {xs : List Value} (h : w.ownsRow base e size v n xs) : ∃ (A : Option Addr) (cp : Nat), v = .slice A n cp := by
 rcases h.2 with ⟨hv, hn⟩ | ⟨g, cap, cur, hv, _⟩
 ·subst hn
  exact ⟨_, _, hv⟩
 ·exact ⟨_, _, hv⟩

section
variable {f : Nat} (hf : IsF f)
include hf

end

end Go.Proofs.Ytbakkmfjamcbfaa

namespace Go.Proofs.Ytbakkmfjamcbfaa
open Go.RowKit Fm
set_option linter.unusedVariables false
set_option maxRecDepth 100000

theorem Cnt.no {f : Nat} {l : KL f} {N k s : Nat} (h : Cnt l N k s) (hx : l[k]? = some 0) : Cnt l N (k + 1) s := by
 by_cases hk : k < N
 ·unfold Cnt at *
  rw [show min (k + 1) N = k + 1 by omega, ksum_take l k _ hx, h, show min k N = k by omega]
  grind
 ·exact h.out hk
theorem Num.no {f : Nat} {l : KL f} {j v : Nat} (h : Num l j v) (hx : l[j]? = some 0) : Num l (j + 1) v := by
 refine ⟨?_, ?_⟩
 ·rw [knum_take l j _ hx, ← h.1]
  grind
 ·have := h.2
  rw [Nat.pow_succ]
  omega
section
variable {f : Nat} (hf : IsF f)
include hf

end

end Go.Proofs.Ytbakkmfjamcbfaa

namespace Go.Proofs.Ytbakkmfjamcbfaa
open Go.RowKit Fm
set_option linter.unusedVariables false
set_option maxRecDepth 100000

/-! ### what is known of worlds within a region in which the gadget is asked -/
section
variable {D D1 : Nat → Prop} {w0 w w' : World} {I : (Nat → Prop) → World → Prop}
end

theorem Rd.from {D : Nat → Prop} {w0 w w' : World} {I : (Nat → Prop) → World → Prop} (h : Rd D w I w') (k : Exc D w0.heap.size w0 w) : Rd D w0 I w' := ⟨k.more h.1 fun _ hq => .inl hq, by
 obtain ⟨D', h1, h2⟩ := h.2
 exact ⟨D', h1, fun q hq => (h2 q hq).imp_right fun h3 => Nat.le_trans k.size h3⟩⟩
end Go.Proofs.Ytbakkmfjamcbfaa

namespace Go.Proofs.Ytbakkmfjamcbfaa
open Go.RowKit Fm
set_option linter.unusedVariables false
set_option maxRecDepth 100000

theorem mem_take_step {qs : List Int} {k : Nat} {e s : Int} (h : ¬ s ∈ qs.take k) (he : qs[k]? = some e) (hs : ¬ s = e) : ¬ s ∈ qs.take (k + 1) := by
 rw [List.take_add_one, he, List.mem_append]
 rintro (h1 | h1)
 ·exact h h1
 ·simp at h1
  exact hs h1

set_option maxHeartbeats 1000000 in
theorem idx_u64 (v : Value) (qs : List Int) (s : Int) (t : Bool) (ht : decide (s ∈ qs) = t) (w : World) (hq : SlU w w.heap.size v qs) :
  Calls Try.prog 88 #[v, .int .u64 s] w fun e w' => (∃ r : Int, e = .returned (.int .i64 r) ∧ decide (0 ≤ r) = t) ∧ Below w.heap.size w w' := by
 have HT := Lib.hid ht
 obtain ⟨⟨A, c, rfl, hc, hcm, hA⟩, hokx⟩ := hq
 clear ht
 go_enter Try.func88, Try.ntmps88
 go_wp2
 go_loopw [8] (fun i wr => ∃ k : Nat, k ≤ qs.length ∧ i = .int .i64 k ∧ Hid (¬ s ∈ qs.take k) ∧ Below w.heap.size w wr) (fun i _ => qs.length - (intOf i).toNat)
 case atStart => exact ⟨0, Nat.zero_le _, rfl, Lib.hid (by simp), Below.refl _ _⟩
 case round =>
  obtain ⟨k, hk, rfl, HN, hbw⟩ := hrel
  by_cases hlt : k < qs.length
  ·obtain ⟨b, o, rfl, hB, hr⟩ := hA (by omega)
   obtain ⟨e, he⟩ : ∃ e, qs[k]? = some e := ⟨_, List.getElem?_eq_getElem hlt⟩
   have c0 := (hr.below hbw hB) k _ he
   have HE := Lib.hid he
   clear he hr hA
   by_cases heq : s = e
   ·have hb1 : (s == e) = true := by simpa using heq
    have HS := Lib.hid heq
    clear heq
    go_wp2_with fail
    go_ret
    refine ⟨⟨k, rfl, ?_⟩, hbw⟩
    rw [← HT.out]
    have h1 : s ∈ qs := by
     rw [HS.out]
     exact List.mem_of_getElem? HE.out
    simp [h1]
   ·have hb1 : (s == e) = false := by simpa using heq
    have HS := Lib.hid heq
    clear heq
    go_wp2_with fail
    go_roundw
    case rel => exact ⟨k + 1, by omega, by go_num, Lib.hid (mem_take_step HN.out HE.out HS.out), hbw⟩
    case measure => simp [intOf]; omega
  ·obtain rfl : k = qs.length := by omega
   go_wp2
   go_ret
   refine ⟨⟨-1, rfl, ?_⟩, hbw⟩
   rw [← HT.out]
   have h1 := HN.out
   rw [List.take_of_length_le (Nat.le_refl _)] at h1
   simp [h1]

set_option maxHeartbeats 1000000 in
theorem contains_u64 (v : Value) (qs : List Int) (s : Int) (t : Bool) (ht : decide (s ∈ qs) = t) (w : World) (hq : SlU w w.heap.size v qs) :
  Calls Try.prog 53 #[v, .int .u64 s] w fun e w' => e = .returned (.bool t) ∧ Below w.heap.size w w' := by
 have HI := Lib.hid (idx_u64 v qs s t ht w hq)
 clear ht
 obtain ⟨⟨A, c, rfl, _⟩, _⟩ := hq
 go_enter Try.func53, Try.ntmps53
 go_wp2_with (go_at_call 88; refine HI.out.mono ?_; rintro e w5 ⟨⟨r, rfl, hr⟩, hb5⟩)
 go_ret
 exact ⟨rfl, hb5⟩

/-! ### a collector -/
def colL (tk : List Value) (now qv : Value) (nx : Int) (res : Value) : List Value := tk ++ [now, qv, .int .u64 nx, res]
section
variable {w w' : World} {b : Nat} {tk : List Value} {now qv res : Value} {nx : Int}
theorem colL_length (ht : tk.length = 8) : (colL tk now qv nx res).length = 12 := by unfold colL; rw [List.length_append, ht]; rfl
theorem Vs.col (ht : tk.length = 8) (h : Vs w b (colL tk now qv nx res)) : w.cell? ⟨b, 8, none⟩ = some now ∧ w.cell? ⟨b, 9, none⟩ = some qv ∧ w.cell? ⟨b, 10, none⟩ = some (.int .u64 nx) ∧ w.cell? ⟨b, 11, none⟩ = some res ∧ w.frozen? ⟨b, 8, none⟩ = false ∧ w.frozen? ⟨b, 9, none⟩ = false ∧ w.frozen? ⟨b, 10, none⟩ = false ∧ b < w.heap.size := by
 have hl := colL_length (now := now) (qv := qv) (nx := nx) (res := res) ht
 have key : ∀ i (x : Value), [now, qv, .int .u64 nx, res][i]? = some x → w.cell? ⟨b, 8 + i, none⟩ = some x := fun i x hi => h.cell (8 + i) x (by
  unfold colL
  rw [List.getElem?_append_right (by omega), ht, show 8 + i - 8 = i by omega]
  exact hi)
 exact ⟨key 0 _ rfl, key 1 _ rfl, key 2 _ rfl, key 3 _ rfl, h.frz 8 (by omega), h.frz 9 (by omega), h.frz 10 (by omega), h.lt⟩
theorem Vs.setQ (ht : tk.length = 8) (h : Vs w b (colL tk now qv nx res)) (v : Value) : Vs (w.setCell ⟨b, 9, none⟩ v) b (colL tk now v nx res) := by
 have h1 := h.put 9 (by rw [colL_length ht]; omega) v
 have h2 : (colL tk now qv nx res).set 9 v = colL tk now v nx res := by
  unfold colL
  rw [List.set_append_right _ _ (by omega), ht]
  rfl
 rwa [h2] at h1
end

structure ColK (w : World) (B c : Nat) (tk : List Value) (nx : Int) (qs : List Int) : Prop where
 ex : ∃ (A : Option Addr) (cp : Nat), Vs w c (colL tk (.pointer none) (.slice A qs.length cp) nx (.slice none 0 0)) ∧ w.ownsRow B 22 1 (.slice A qs.length cp) qs.length (cellsU qs) ∧ ∀ g, (Value.slice A qs.length cp).ownBlock = some g → g ≠ c
 l : B ≤ c
 lb : B ≤ w.heap.size
 ok : ∀ e, e ∈ qs → okU e
theorem ColK.call {w w' : World} {B c : Nat} {tk : List Value} {nx : Int} {qs : List Int} (h : ColK w B c tk nx qs) (hb : Below w.heap.size w w') : ColK w' B c tk nx qs := by
 obtain ⟨⟨A, cp, h1, h2, h3⟩, h4, h5, h6⟩ := h
 exact ⟨⟨A, cp, h1.call hb, own_call h2 hb, h3⟩, h4, Nat.le_trans h5 hb.size, h6⟩

def wantC (qs : List Int) (s : Int) : Int := if 1099511627776 < s then 15 else if s ∈ qs then 29 else if 32 ≤ qs.length then 5 else 0
def wantQ (qs : List Int) (s : Int) : List Int := if wantC qs s = 0 then qs ++ [s] else qs

theorem wantC_0 {qs : List Int} {s : Int} (h1 : ¬ 1099511627776 < s) (h2 : ¬ s ∈ qs) (h3 : ¬ 32 ≤ qs.length) : wantC qs s = 0 ∧ wantQ qs s = qs ++ [s] := by
 have h : wantC qs s = 0 := by unfold wantC; rw [if_neg h1, if_neg h2, if_neg h3]
 exact ⟨h, by unfold wantQ; rw [if_pos h]⟩
theorem wantQ_ne {qs : List Int} {s : Int} (h : wantC qs s ≠ 0) : wantQ qs s = qs := by unfold wantQ; rw [if_neg h]

set_option maxHeartbeats 4000000 in
theorem collect_Want (tk : List Value) (ht : tk.length = 8) (nx : Int) (qs : List Int) (c B : Nat) (s : Int) (hs : okU s) (hql : qs.length ≤ 100) (w : World) (h : ColK w B c tk nx qs) :
  Calls Try.prog 22 #[.pointer (some ⟨c, 0, none⟩), .int .u64 s] w fun e w' => e = .returned (.int .i64 (wantC qs s)) ∧ Below B w w' ∧ ColK w' B c tk nx (wantQ qs s) := by
 have HTK := Lib.hid ht
 have HK := Lib.hid h
 obtain ⟨⟨A, cp, hV, hown, hob⟩, hBc, hBw, hok⟩ := h
 have hc0 := hV.col ht
 obtain ⟨c8, c9, c10, c11, f8, f9, f10, hcl⟩ := hc0
 by_cases h1 : 1099511627776 < s
 ·have hw : wantC qs s = 15 := by unfold wantC; rw [if_pos h1]
  rw [wantQ_ne (by rw [hw]; decide), hw]
  have hd : decide (1099511627776 < s) = true := by simpa using h1
  clear hw h1 hV hown hob
  go_enter Try.func22, Try.ntmps22
  go_wp2_with fail
  go_ret
  exact ⟨rfl, Below.refl _ _, HK.out⟩
 have hd : decide (1099511627776 < s) = false := by simpa using h1
 obtain ⟨t, ht2⟩ : ∃ t, decide (s ∈ qs) = t := ⟨_, rfl⟩
 have HCO := Lib.hid (contains_u64 (.slice A qs.length cp) qs s t ht2 w (SlU.of_own (hown) hok))
 cases t with
 | true =>
  have h2 : s ∈ qs := by simpa using ht2
  have hw : wantC qs s = 29 := by unfold wantC; rw [if_neg h1, if_pos h2]
  rw [wantQ_ne (by rw [hw]; decide), hw]
  clear hw h1 h2 ht2 hV hown hob
  go_enter Try.func22, Try.ntmps22
  go_wp2_with (go_at_call 53; refine HCO.out.mono ?_; rintro e w2 ⟨rfl, hb2⟩; have hK2 := HK.out.call hb2; clear c8 c9 c10 c11 f8 f9 f10; have hB2 := hb2.mono hBw)
  go_ret
  exact ⟨rfl, hB2, hK2⟩
 | false =>
  have h2 : ¬ s ∈ qs := by simpa using ht2
  by_cases h3 : 32 ≤ qs.length
  ·have hw : wantC qs s = 5 := by unfold wantC; rw [if_neg h1, if_neg h2, if_pos h3]
   rw [wantQ_ne (by rw [hw]; decide), hw]
   have hl3 : (32 : Int) ≤ (qs.length : Int) := by omega
   clear hw h1 h2 ht2 hown hob h3
   go_enter Try.func22, Try.ntmps22
   go_wp2_with (go_at_call 53; refine HCO.out.mono ?_; rintro e w2 ⟨rfl, hb2⟩; have hK2 := HK.out.call hb2; clear c8 c9 c10 c11 f8 f9 f10; have hV2 := hV.call hb2; have hc2 := hV2.col HTK.out; clear hV2; obtain ⟨c8, c9, c10, c11, f8, f9, f10, hcl2⟩ := hc2; have hB2 := hb2.mono hBw)
   go_ret
   exact ⟨rfl, hB2, hK2⟩
  ·obtain ⟨hw, hwq⟩ := wantC_0 h1 h2 h3
   rw [hw, hwq]
   have hl3 : (qs.length : Int) < 32 := by omega
   clear hw hwq h1 h2 ht2 h3
   go_enter Try.func22, Try.ntmps22
   go_upto_region 7 with (go_at_call 53; refine HCO.out.mono ?_; rintro e w2 ⟨rfl, hb2⟩; clear c8 c9 c10 c11 f8 f9 f10; have hV2 := hV.call hb2; have hc2 := hV2.col HTK.out; obtain ⟨c8, c9, c10, c11, f8, f9, f10, hcl2⟩ := hc2; have hB2 := hb2.mono hBw; have hown2 := own_call hown hb2)
   have hal := (Below.refl w2.heap.size w2).alloc (Nat.le_refl _) (.cells #[.int .u64 s] 22)
   have hVa := hV2.call hal
   have HOW := Lib.hid (own_call hown2 hal)
   have hBa := hB2.trans (hal.mono (Nat.le_trans hBw hb2.size))
   have hR1 : RowU (w2.alloc (.cells #[.int .u64 s] 22)) w2.heap.size 0 [s] := fun i e hi => by
    have hn := (Vs.new w2 [.int .u64 s] #[.int .u64 s] 22 rfl).cell
    match i, hi with
    | 0, hi =>
     injection hi with hi
     subst hi
     exact hn 0 _ rfl
   have HR1 : Hid (0 < 1 → ∃ b o, (some ⟨w2.heap.size, 0, none⟩ : Option Addr) = some ⟨b, o, none⟩ ∧ RowU (w2.alloc (.cells #[.int .u64 s] 22)) b o [s]) := Lib.hid fun _ => ⟨_, _, rfl, hR1⟩
   have hk1 : qs.length + 1 ≤ 1099511627776 := by omega
   have hbase : B ≤ (w2.alloc (.cells #[.int .u64 s] 22)).heap.size := Nat.le_trans (Nat.le_trans hBw hb2.size) hal.size
   have hca : c < (w2.alloc (.cells #[.int .u64 s] 22)).heap.size := hVa.lt
   clear hR1 hown2 hV2 hal hb2 hB2 hown hV
   go_wp2_with (at_builtin; (refine wpList_append_U rfl (.tmp 47) (.tmp 49) rfl B _ qs.length qs rfl HOW.out (some ⟨w2.heap.size, 0, none⟩) 1 1 [s] rfl rfl HR1.out hk1 hbase ?_; intro v2 w7 hown7 hg7 hat7; obtain ⟨g2, cap2, hv2⟩ := own_slice hown7; subst hv2; have hV7 := hVa.exc (S := fun q => (Value.slice A qs.length cp).ownBlock = some q) (fun e => hob _ e rfl) (grown_exc hg7); have hc7 := hV7.col HTK.out; clear c8 c9 c10 c11 f8 f9 f10; obtain ⟨c8, c9, c10, c11, f8, f9, f10, hcl7⟩ := hc7))
   go_ret
   have hb7 := hBa.grown hg7 hbase (fun q hq => (HOW.out.lt q hq).1)
   have hne : ∀ q, (Value.slice (some ⟨g2, 0, none⟩) (qs.length + 1) cap2).ownBlock = some q → q ≠ c := fun q hq => by
    rcases hat7 with h | h
    ·exact hob q (h ▸ hq)
    ·rw [h] at hq
     injection hq with hq
     omega
   refine ⟨rfl, bl_set (p := ⟨c, 9, none⟩) hb7 hBc _, ⟨⟨some ⟨g2, 0, none⟩, cap2, ?_, ?_, ?_⟩, hBc, ?_, ?_⟩⟩
   ·rw [List.length_append]
    exact hV7.setQ HTK.out _
   ·rw [List.length_append]
    exact own_other hown7 (exc_sc (S := fun q => q = c) (exc_of (Below.refl _ _)) (.inl rfl) 9 _) (fun g hg => hne g hg)
   ·rw [List.length_append]
    exact hne
   ·exact Nat.le_trans hBw (bl_set (p := ⟨c, 9, none⟩) hb7 hBc (.slice (some ⟨g2, 0, none⟩) (qs.length + 1) cap2)).size
   ·intro e he
    rcases List.mem_append.1 he with h | h
    ·exact hok e h
    ·simp at h
     subst h
     exact hs

end Go.Proofs.Ytbakkmfjamcbfaa

namespace Go.Proofs.Ytbakkmfjamcbfaa
open Go.RowKit Fm
set_option linter.unusedVariables false
set_option maxRecDepth 100000

def tkL (k f b l m c p : Int) (s : ByteArray) : List Value := [.int .u8 k, .int .u8 f, .int .i64 b, .int .i64 l, .int .i64 m, .int .i64 c, .int .i64 p, .string s]

set_option maxHeartbeats 4000000 in
theorem collect_New (k f b l m c p : Int) (s : ByteArray) (HC : ∀ wz, Calls Try.prog 43 #[.agg #[.int .u8 k, .int .u8 f, .int .i64 b, .int .i64 l, .int .i64 m, .int .i64 c, .int .i64 p, .string s]] wz (RetC 0 wz)) (w : World) :
  Calls Try.prog 20 #[.agg #[.int .u8 k, .int .u8 f, .int .i64 b, .int .i64 l, .int .i64 m, .int .i64 c, .int .i64 p, .string s]] w fun e w' =>
   ∃ cb : Nat, e = .returned (.tuple #[.pointer (some ⟨cb, 0, none⟩), .int .i64 0]) ∧ ColK w' w.heap.size cb (tkL k f b l m c p s) 1 [] ∧ Below w.heap.size w w' := by
 have HC := Lib.hid HC
 go_enter Try.func20, Try.ntmps20
 go_upto_region 1 with fail
 have hT := Vs.new w [.int .u8 k, .int .u8 f, .int .i64 b, .int .i64 l, .int .i64 m, .int .i64 c, .int .i64 p, .string s] #[.int .u8 k, .int .u8 f, .int .i64 b, .int .i64 l, .int .i64 m, .int .i64 c, .int .i64 p, .string s] 62 rfl
 have hb00 : Below w.heap.size w (w.alloc (.cells #[.int .u8 k, .int .u8 f, .int .i64 b, .int .i64 l, .int .i64 m, .int .i64 c, .int .i64 p, .string s] 62)) := by repeat (first | exact bA | with_reducible assumption | apply bB)
 have hszn : w.heap.size + 1 ≤ (w.alloc (.cells #[.int .u8 k, .int .u8 f, .int .i64 b, .int .i64 l, .int .i64 m, .int .i64 c, .int .i64 p, .string s] 62)).heap.size := by simp only [World.size_alloc]; omega
 generalize (w.alloc (.cells #[.int .u8 k, .int .u8 f, .int .i64 b, .int .i64 l, .int .i64 m, .int .i64 c, .int .i64 p, .string s] 62)) = w1 at hT hb00 hszn ⊢
 obtain ⟨⟨T0, T1, T2, T3, T4, T5, T6, T7⟩, ⟨T8, T9, T10, T11, T12, T13, T14, T15⟩, T16⟩ := hT.get8
 go_upto_region 4 with (first
  | (go_at_call 43; refine (HC.out _).mono ?_; rintro e w2 ⟨rfl, hb2⟩; replace hb00 := bl_call hb00 (Nat.le_refl _) hb2; replace hT := hT.call hb2; clear T0 T1 T2 T3 T4 T5 T6 T7 T8 T9 T10 T11 T12 T13 T14 T15 T16; clear hb2; obtain ⟨⟨T0, T1, T2, T3, T4, T5, T6, T7⟩, ⟨T8, T9, T10, T11, T12, T13, T14, T15⟩, T16⟩ := hT.get8))
 obtain ⟨⟨T0, T1, T2, T3, T4, T5, T6, T7⟩, ⟨T8, T9, T10, T11, T12, T13, T14, T15⟩, T16⟩ := hT.get8
 go_wp2_with fail
 go_ret2
 have hal := (Below.refl w2.heap.size w2).alloc (Nat.le_refl _) (.cells #[.int .u8 k, .int .u8 f, .int .i64 b, .int .i64 l, .int .i64 m, .int .i64 c, .int .i64 p, .string s, .pointer none, .slice none 0 0, .int .u64 1, .slice none 0 0] 136)
 have hs2 := hb00.size
 exact ⟨w2.heap.size, rfl, ⟨⟨none, 0, Vs.new w2 (colL (tkL k f b l m c p s) (.pointer none) (.slice none 0 0) 1 (.slice none 0 0)) _ _ rfl, World.ownsRow_nil _ _ _ _, fun g hg => (by cases hg)⟩, hs2, Nat.le_trans hs2 hal.size, fun e he => (by cases he)⟩, hb00.trans (hal.mono hs2)⟩

set_option maxHeartbeats 4000000 in
theorem collect_Busy (tk : List Value) (ht : tk.length = 8) (nx : Int) (qs : List Int) (c B : Nat) (w : World) (h : ColK w B c tk nx qs) :
  Calls Try.prog 23 #[.pointer (some ⟨c, 0, none⟩)] w fun e w' => e = .returned (.tuple #[.bool false, .int .i64 qs.length]) ∧ Below w.heap.size w w' := by
 obtain ⟨⟨A, cp, hV, hown, hob⟩, hBc, hBw, hok⟩ := h
 obtain ⟨c8, c9, c10, c11, f8, f9, f10, hcl⟩ := hV.col ht
 clear hV hown hob ht
 go_enter Try.func23, Try.ntmps23
 go_upto_region 3 with fail
 refine region_B (n := 12) (m := 12) (f := 12) (by kernel_rfl) (by kernel_rfl) rfl ?_
 refine WpH.vD 0 (some 6) ?_ rfl rfl (by kernel_rfl) (fun _ _ _ h => h) rfl (fun wz hwz => ?_) ?_
 rotate_left
 ·go_simp; try (with_reducible rfl)
 simp only [Zp, Zq, Zr, Zs]
 refine WpH.vD 1 (some 7) ?_ rfl rfl (by kernel_rfl) (fun _ _ _ h => h) rfl (fun wz hwz => ?_) ?_
 rotate_left
 ·go_simp; try (with_reducible rfl)
 simp only [Zp, Zq, Zr, Zs]
 refine WpH.vD 2 (some 8) ?_ rfl rfl (by kernel_rfl) (fun _ _ _ h => h) rfl (fun wz hwz => ?_) ?_
 rotate_left
 ·go_simp; try (with_reducible rfl)
 simp only [Zp, Zq, Zr, Zs]
 refine WpH.vD 3 (some 9) ?_ rfl rfl (by kernel_rfl) (fun _ _ _ h => h) rfl (fun wz hwz => ?_) ?_
 rotate_left
 ·(obtain ⟨hcz, hfz⟩ := bcell hwz; go_simp; try (with_reducible rfl))
 simp only [Zp, Zq, Zr, Zs]
 refine WpH.vD 4 (some 10) ?_ rfl rfl (by kernel_rfl) (fun _ _ _ h => h) rfl (fun wz hwz => ?_) ?_
 rotate_left
 ·go_simp; try (with_reducible rfl)
 simp only [Zp, Zq, Zr, Zs]
 refine WpH.vD 5 (some 11) ?_ rfl rfl (by kernel_rfl) (fun _ _ _ h => h) rfl (fun wz hwz => ?_) ?_
 rotate_left
 ·go_simp; try (with_reducible rfl)
 simp only [Zp, Zq, Zr, Zs]
 refine WpH.vD 6 (some 12) ?_ rfl rfl (by kernel_rfl) (fun _ _ _ h => h) rfl (fun wz hwz => ?_) ?_
 rotate_left
 ·go_simp; try (with_reducible rfl)
 simp only [Zp, Zq, Zr, Zs]
 refine WpH.vD 7 (some 13) ?_ rfl rfl (by kernel_rfl) (fun _ _ _ h => h) rfl (fun wz hwz => ?_) ?_
 rotate_left
 ·go_simp; try (with_reducible rfl)
 simp only [Zp, Zq, Zr, Zs]
 refine WpH.vD 8 (some 14) ?_ rfl rfl (by kernel_rfl) (fun _ _ _ h => h) rfl (fun wz hwz => ?_) ?_
 rotate_left
 ·(obtain ⟨hcz, hfz⟩ := bcell hwz; go_simp; try (with_reducible rfl))
 simp only [Zp, Zq, Zr, Zs]
 refine WpH.vD 9 (some 15) ?_ rfl rfl (by kernel_rfl) (fun _ _ _ h => h) rfl (fun wz hwz => ?_) ?_
 rotate_left
 ·go_simp; try (with_reducible rfl)
 simp only [Zp, Zq, Zr, Zs]
 refine WpH.vD 10 (some 2) ?_ rfl rfl (by kernel_rfl) (fun _ _ _ h => h) rfl (fun wz hwz => ?_) ?_
 rotate_left
 ·go_simp; try (with_reducible rfl)
 simp only [Zp, Zq, Zr, Zs]
 refine WpH.vD 11 (some 3) ?_ rfl rfl (by kernel_rfl) (fun _ _ _ h => h) rfl (fun wz hwz => ?_) ?_
 rotate_left
 ·go_simp; try (with_reducible rfl)
 simp only [Zp, Zq, Zr, Zs]
 refine WpH.doneB (by kernel_rfl) (fun w4 hw4 => ?_)
 (try simp only [List.drop_succ_cons]); (try simp only [List.drop_zero]); (try simp only [Nat.reduceSub]); (try simp only [List.take_succ_cons]); (try simp only [List.take_zero])
 go_wp2_with fail
 go_ret2
 exact ⟨rfl, hw4⟩

end Go.Proofs.Ytbakkmfjamcbfaa

namespace Go.Proofs.Ytbakkmfjamcbfaa
open Go.RowKit Fm
set_option linter.unusedVariables false
set_option maxRecDepth 100000

set_option maxHeartbeats 2000000 in
theorem clone_U (p : Addr) (c : Nat) (w : World) :
  Calls Try.prog 83 #[.slice (some p) 0 c] w fun e w' => ∃ (A : Option Addr) (c' : Nat), e = .returned (.slice A 0 c') ∧ Below w.heap.size w w' := by
 have hown0 : (w.alloc (.cells #[] 22)).ownsRow w.heap.size 22 1 (.slice (some ⟨w.heap.size, 0, none⟩) 0 0) 0 (cellsU []) := World.ownsRow_made w #[] 0 (Nat.le_refl _) (by unfold maxLen; omega) rfl
 have hb1 : Below w.heap.size w (w.alloc (.cells #[] 22)) := (Below.refl _ _).alloc (Nat.le_refl _) _
 have HYR : Hid (0 < 0 → ∃ b o, (some p : Option Addr) = some ⟨b, o, none⟩ ∧ RowU (w.alloc (.cells #[] 22)) b o []) := Lib.hid fun h => absurd h (by omega)
 have hnil := Lib.run_eql_slice_nil (P := Try.prog)
 have HW := Lib.hid hown0
 clear hown0
 go_enter Try.func83, Try.ntmps83
 go_wp2_with (at_builtin; (refine wpList_append_U rfl (.tmp 5) (.tmp 6) rfl w.heap.size _ 0 [] rfl HW.out (some p) 0 c [] rfl rfl HYR.out (by omega) (by simp) ?_; intro v2 w2 hown2 hg2 hat2; have hb2 : Below w.heap.size w w2 := hb1.trans ((Below.refl _ _).grown hg2 (by simp) (fun k hk => Nat.le_of_eq (Option.some.inj hk)))))
 go_ret
 obtain ⟨A, cp, h⟩ := own_shape hown2
 exact ⟨A, cp, by subst h; rfl, hb2⟩

section
variable {w w' : World} {b : Nat} {tk : List Value} {now qv res : Value} {nx : Int}
theorem Vs.setN (ht : tk.length = 8) (h : Vs w b (colL tk now qv nx res)) (v : Value) : Vs (w.setCell ⟨b, 8, none⟩ v) b (colL tk v qv nx res) := by
 have h1 := h.put 8 (by rw [colL_length ht]; omega) v
 have h2 : (colL tk now qv nx res).set 8 v = colL tk v qv nx res := by
  unfold colL
  rw [List.set_append_right _ _ (by omega), ht]
  rfl
 rwa [h2] at h1
theorem Vs.setX (ht : tk.length = 8) (h : Vs w b (colL tk now qv nx res)) (n : Int) : Vs (w.setCell ⟨b, 10, none⟩ (.int .u64 n)) b (colL tk now qv n res) := by
 have h1 := h.put 10 (by rw [colL_length ht]; omega) (.int .u64 n)
 have h2 : (colL tk now qv nx res).set 10 (.int .u64 n) = colL tk now qv n res := by
  unfold colL
  rw [List.set_append_right _ _ (by omega), ht]
  rfl
 rwa [h2] at h1
end

theorem size_letter : (Try.prog.info? 127).map (·.size) = some 23 := by kernel_rfl
def let1 : List Value := [.int .i64 0, .int .u8 4, .int .u64 1, .int .u64 20, .int .i64 0, .int .u8 0, .int .u8 0, .int .u8 0, .int .u8 0, .int .u8 0, .int .u8 0, .int .u8 0, .int .u8 0, .int .u8 0, .int .u8 0, .int .u8 0, .int .u8 0, .int .u8 0, .int .u8 0, .int .u8 0, .int .u8 0, .int .i64 0, .slice none 0 0]
theorem results_letter {w : World} {b : Nat} {fn : Func} {p : Tmp} {tmps : Array Value} (hv : Vs w b let1) (h : fn.results = #[.cell p 127]) (hp : tmps.getD p undef = .pointer (some ⟨b, 0, none⟩)) :
  (results fn tmps).run Try.prog w = .ok (.agg let1.toArray) w := by
 have hl : (loadVar 127 ⟨b, 0, none⟩).run Try.prog w = _ := loadVar_W hv Try.underlying127 rfl size_letter
 rw [Array.getD_eq_getD_getElem?] at hp
 simp only [results, h]
 simp [asAddr, hp, hl]

set_option maxHeartbeats 4000000 in
theorem collect_letter (tk : List Value) (ht : tk.length = 8) (nx : Int) (qv : Value) (c a : Nat) (due wait : Int) (w : World) (hV : Vs w c (colL tk (.pointer (some ⟨a, 0, none⟩)) qv nx (.slice none 0 0))) (hA : Vs w a [.int .u64 1, .int .u64 20, .bool false, .slice none 0 0, .int .i64 0, .int .u8 0, .int .u8 0, .int .u8 0, .int .u8 0, .int .u8 0, .int .u8 0, .int .u8 0, .int .u8 0, .int .u8 0, .int .u8 0, .int .u8 0, .int .u8 0, .int .u8 0, .int .u8 0, .int .u8 0, .int .u8 0, .int .u64 due, .int .u64 wait]) :
  Calls Try.prog 84 #[.pointer (some ⟨c, 0, none⟩)] w fun e w' => e = .returned (.agg #[.int .i64 0, .int .u8 4, .int .u64 1, .int .u64 20, .int .i64 0, .int .u8 0, .int .u8 0, .int .u8 0, .int .u8 0, .int .u8 0, .int .u8 0, .int .u8 0, .int .u8 0, .int .u8 0, .int .u8 0, .int .u8 0, .int .u8 0, .int .u8 0, .int .u8 0, .int .u8 0, .int .u8 0, .int .i64 0, .slice none 0 0]) ∧ Below w.heap.size w w' := by
 have HTK := Lib.hid ht
 clear ht
 have hal := hA.lt
 go_enter Try.func84, Try.ntmps84
 go_upto_region 1 with fail
 have hL := Vs.new w [.int .i64 0, .int .u8 0, .int .u64 0, .int .u64 0, .int .i64 0, .int .u8 0, .int .u8 0, .int .u8 0, .int .u8 0, .int .u8 0, .int .u8 0, .int .u8 0, .int .u8 0, .int .u8 0, .int .u8 0, .int .u8 0, .int .u8 0, .int .u8 0, .int .u8 0, .int .u8 0, .int .u8 0, .int .i64 0, .slice none 0 0] #[.int .i64 0, .int .u8 0, .int .u64 0, .int .u64 0, .int .i64 0, .int .u8 0, .int .u8 0, .int .u8 0, .int .u8 0, .int .u8 0, .int .u8 0, .int .u8 0, .int .u8 0, .int .u8 0, .int .u8 0, .int .u8 0, .int .u8 0, .int .u8 0, .int .u8 0, .int .u8 0, .int .u8 0, .int .i64 0, .slice none 0 0] 127 rfl
 have hb00 : Below w.heap.size w (w.alloc (.cells #[.int .i64 0, .int .u8 0, .int .u64 0, .int .u64 0, .int .i64 0, .int .u8 0, .int .u8 0, .int .u8 0, .int .u8 0, .int .u8 0, .int .u8 0, .int .u8 0, .int .u8 0, .int .u8 0, .int .u8 0, .int .u8 0, .int .u8 0, .int .u8 0, .int .u8 0, .int .u8 0, .int .u8 0, .int .i64 0, .slice none 0 0] 127)) := by repeat (first | exact bA | with_reducible assumption | apply bB)
 have hszn : w.heap.size + 1 ≤ (w.alloc (.cells #[.int .i64 0, .int .u8 0, .int .u64 0, .int .u64 0, .int .i64 0, .int .u8 0, .int .u8 0, .int .u8 0, .int .u8 0, .int .u8 0, .int .u8 0, .int .u8 0, .int .u8 0, .int .u8 0, .int .u8 0, .int .u8 0, .int .u8 0, .int .u8 0, .int .u8 0, .int .u8 0, .int .u8 0, .int .i64 0, .slice none 0 0] 127)).heap.size := by simp only [World.size_alloc]; omega
 generalize (w.alloc (.cells #[.int .i64 0, .int .u8 0, .int .u64 0, .int .u64 0, .int .i64 0, .int .u8 0, .int .u8 0, .int .u8 0, .int .u8 0, .int .u8 0, .int .u8 0, .int .u8 0, .int .u8 0, .int .u8 0, .int .u8 0, .int .u8 0, .int .u8 0, .int .u8 0, .int .u8 0, .int .u8 0, .int .u8 0, .int .i64 0, .slice none 0 0] 127)) = w1 at hL hb00 hszn ⊢
 replace hV := hV.call hb00
 replace hA := hA.call hb00
 have hc0 := hV.col HTK.out
 obtain ⟨c8, c9, c10, c11, f8, f9, f10, hcl⟩ := hc0
 have a0 := hA.cell 0 _ rfl
 have a1 := hA.cell 1 _ rfl
 have a2 := hA.cell 2 _ rfl
 have hal1 := hA.lt
 go_upto_region 3 with fail
 refine region_B (n := 10) (m := 11) (f := 10) (by kernel_rfl) (by kernel_rfl) rfl ?_
 refine WpH.vD 0 (some 13) ?_ rfl rfl (by kernel_rfl) (fun _ _ _ h => h) rfl (fun wz hwz => ?_) ?_
 rotate_left
 ·go_simp; try (with_reducible rfl)
 simp only [Zp, Zq, Zr, Zs]
 refine WpH.vD 1 (some 14) ?_ rfl rfl (by kernel_rfl) (fun _ _ _ h => h) rfl (fun wz hwz => ?_) ?_
 rotate_left
 ·go_simp; try (with_reducible rfl)
 simp only [Zp, Zq, Zr, Zs]
 refine WpH.vD 2 (some 15) ?_ rfl rfl (by kernel_rfl) (fun _ _ _ h => h) rfl (fun wz hwz => ?_) ?_
 rotate_left
 ·go_simp; try (with_reducible rfl)
 simp only [Zp, Zq, Zr, Zs]
 refine WpH.vD 3 (some 16) ?_ rfl rfl (by kernel_rfl) (fun _ _ _ h => h) rfl (fun wz hwz => ?_) ?_
 rotate_left
 ·(obtain ⟨hcz, hfz⟩ := bcell hwz; go_simp; try (with_reducible rfl))
 simp only [Zp, Zq, Zr, Zs]
 refine WpH.vD 4 (some 17) ?_ rfl rfl (by kernel_rfl) (fun _ _ _ h => h) rfl (fun wz hwz => ?_) ?_
 rotate_left
 ·go_simp; try (with_reducible rfl)
 simp only [Zp, Zq, Zr, Zs]
 refine WpH.vD 5 (some 18) ?_ rfl rfl (by kernel_rfl) (fun _ _ _ h => h) rfl (fun wz hwz => ?_) ?_
 rotate_left
 ·go_simp; try (with_reducible rfl)
 simp only [Zp, Zq, Zr, Zs]
 refine WpH.vD 6 (some 19) ?_ rfl rfl (by kernel_rfl) (fun _ _ _ h => h) rfl (fun wz hwz => ?_) ?_
 rotate_left
 ·go_simp; try (with_reducible rfl)
 simp only [Zp, Zq, Zr, Zs]
 refine WpH.vD 7 (some 20) ?_ rfl rfl (by kernel_rfl) (fun _ _ _ h => h) rfl (fun wz hwz => ?_) ?_
 rotate_left
 ·(obtain ⟨hcz, hfz⟩ := bcell hwz; go_simp; try (with_reducible rfl))
 simp only [Zp, Zq, Zr, Zs]
 refine WpH.vD 8 (some 21) ?_ rfl rfl (by kernel_rfl) (fun _ _ _ h => h) rfl (fun wz hwz => ?_) ?_
 rotate_left
 ·go_simp; try (with_reducible rfl)
 simp only [Zp, Zq, Zr, Zs]
 refine WpH.vD 9 (some 22) ?_ rfl rfl (by kernel_rfl) (fun _ _ _ h => h) rfl (fun wz hwz => ?_) ?_
 rotate_left
 ·go_simp; try (with_reducible rfl)
 simp only [Zp, Zq, Zr, Zs]
 refine WpH.doneB (by kernel_rfl) (fun w4 hw4 => ?_)
 (try simp only [List.drop_succ_cons]); (try simp only [List.drop_zero]); (try simp only [Nat.reduceSub]); (try simp only [List.take_succ_cons]); (try simp only [List.take_zero])
 clear c8 c9 c10 c11 f8 f9 f10 a0 a1 a2
 have hLw := hL.call hw4
 have hb4 := hb00.trans (hw4.mono hb00.size)
 have hst := store_W (T := 127) hLw (l' := let1) rfl size_letter (by
  intro v hv
  have h : (let1.all fun v => v.oneCell') = true := by kernel_rfl
  exact List.all_eq_true.1 h v hv)
 have HR := Lib.hid (hLw.setW (l' := let1) rfl)
 have HB := Lib.hid (bl_setCells hb4 (b := w.heap.size) (Nat.le_refl _) 0 let1)
 clear hL hb00 hV hA hLw hb4 hw4
 refine wpList_skipD rfl rfl (exec_store rfl (by kernel_rfl) (by kernel_rfl) hst) ?_
 clear hst
 go_upto_region 99 with fail
 exact bodyPost_ret (results_letter (b := w.heap.size) HR.out rfl rfl) rfl ⟨rfl, HB.out⟩

theorem slice_q (A : Addr) (cp : Nat) (hc : 1 ≤ cp) (w : World) : ∃ p : Addr, (Instr.sliceAt 88 (.slice (some A) 1 cp) (some (.int .i64 1)) none none).run Try.prog w = .ok (.slice (some p) 0 (cp - 1)) w := by
 obtain ⟨i, hi, _⟩ := info_parts infoU64
 have h := sliceAt_l Try.underlying88 (by kernel_rfl) hi 1 (by kernel_rfl) (some A) 1 cp 1 (Nat.le_refl _) w
 by_cases h1 : cp = 1
 ·rw [if_pos h1] at h
  exact ⟨A, h⟩
 ·rw [if_neg h1] at h
  exact ⟨A.add 1, h⟩

set_option maxHeartbeats 8000000 in
theorem collect_Tick (tk : List Value) (ht : tk.length = 8) (c B : Nat) (w : World) (h : ColK w B c tk 1 [20]) :
  Calls Try.prog 44 #[.pointer (some ⟨c, 0, none⟩), .int .u64 3] w fun e w' => ∃ g : Nat, e = .returned (.slice (some ⟨g, 0, none⟩) 1 1) ∧ Vs w' g let1 ∧ Below B w w' := by
 have HTK := Lib.hid ht
 clear ht
 obtain ⟨⟨A, cp, hV, hown, hob⟩, hBc, hBw, hok⟩ := h
 obtain ⟨g, cp', hgs⟩ := own_slice hown
 injection hgs with e1 e2 e3
 subst e1
 subst e3
 clear e2
 have hq0 : w.cell? ⟨g, 0, none⟩ = some (.int .u64 20) := hown.cells (g := g) rfl 0 _ rfl
 have hgl : g < w.heap.size := lt_of_cell hq0
 have hgc : g ≠ c := hob g rfl
 have hcp : 1 ≤ cp := by
  obtain ⟨_, h2⟩ := hown
  rcases h2 with ⟨h, _⟩ | ⟨g', cap', cur, h1, h2, h3, h4, _⟩
  ·cases h
  ·injection h1 with e1 e2 e3
   rw [e3]
   exact h4
 have hcl0 := hV.lt
 have HOWN := Lib.hid hown
 have hc0 := hV.col HTK.out
 obtain ⟨c8, c9, c10, c11, f8, f9, f10, hcl⟩ := hc0
 clear hown hob
 go_enter Try.func44, Try.ntmps44
 go_upto_region 6 with fail
 refine region_G (n := 16) (m := 17) (f := 16) (by kernel_rfl) (by kernel_rfl) rfl ?_
 refine WpG.vD 0 (some 19) ?_ rfl rfl (by kernel_rfl) (fun _ _ _ h => h) rfl (fun wz hwz => ?_) ?_
 rotate_left
 ·go_simp; try (with_reducible rfl)
 simp only [Zp, Zq, Zr, Zs]
 refine WpG.vD 1 (some 20) ?_ rfl rfl (by kernel_rfl) (fun _ _ _ h => h) rfl (fun wz hwz => ?_) ?_
 rotate_left
 ·go_simp; try (with_reducible rfl)
 simp only [Zp, Zq, Zr, Zs]
 refine WpG.vD 2 (some 21) ?_ rfl rfl (by kernel_rfl) (fun _ _ _ h => h) rfl (fun wz hwz => ?_) ?_
 rotate_left
 ·go_simp; try (with_reducible rfl)
 simp only [Zp, Zq, Zr, Zs]
 refine WpG.vD 3 (some 22) ?_ rfl rfl (by kernel_rfl) (fun _ _ _ h => h) rfl (fun wz hwz => ?_) ?_
 rotate_left
 ·go_simp; try (with_reducible rfl)
 simp only [Zp, Zq, Zr, Zs]
 refine WpG.vD 4 (some 23) ?_ rfl rfl (by kernel_rfl) (fun _ _ _ h => h) rfl (fun wz hwz => ?_) ?_
 rotate_left
 ·(obtain ⟨hcz, hfz⟩ := bcell (hwz); go_simp; try (with_reducible rfl))
 simp only [Zp, Zq, Zr, Zs]
 refine WpG.vD 5 (some 24) ?_ rfl rfl (by kernel_rfl) (fun _ _ _ h => h) rfl (fun wz hwz => ?_) ?_
 rotate_left
 ·go_simp; try (with_reducible rfl)
 simp only [Zp, Zq, Zr, Zs]
 refine WpG.vD 6 (some 25) ?_ rfl rfl (by kernel_rfl) (fun _ _ _ h => h) rfl (fun wz hwz => ?_) ?_
 rotate_left
 ·go_simp; try (with_reducible rfl)
 simp only [Zp, Zq, Zr, Zs]
 refine WpG.vD 7 (some 26) ?_ rfl rfl (by kernel_rfl) (fun _ _ _ h => h) rfl (fun wz hwz => ?_) ?_
 rotate_left
 ·go_simp; try (with_reducible rfl)
 simp only [Zp, Zq, Zr, Zs]
 refine WpG.vD 8 (some 27) ?_ rfl rfl (by kernel_rfl) (fun _ _ _ h => h) rfl (fun wz hwz => ?_) ?_
 rotate_left
 ·(obtain ⟨hcz, hfz⟩ := bcell (hwz); go_simp; try (with_reducible rfl))
 simp only [Zp, Zq, Zr, Zs]
 refine WpG.vD 9 (some 28) ?_ rfl rfl (by kernel_rfl) (fun _ _ _ h => h) rfl (fun wz hwz => ?_) ?_
 rotate_left
 ·go_simp; try (with_reducible rfl)
 simp only [Zp, Zq, Zr, Zs]
 refine WpG.vD 10 (some 29) ?_ rfl rfl (by kernel_rfl) (fun _ _ _ h => h) rfl (fun wz hwz => ?_) ?_
 rotate_left
 ·(obtain ⟨hcz, hfz⟩ := bcell (hwz); go_simp; try (with_reducible rfl))
 simp only [Zp, Zq, Zr, Zs]
 refine WpG.vD 11 (some 30) ?_ rfl rfl (by kernel_rfl) (fun _ _ _ h => h) rfl (fun wz hwz => ?_) ?_
 rotate_left
 ·go_simp; try (with_reducible rfl)
 simp only [Zp, Zq, Zr, Zs]
 refine WpG.vD 12 (some 31) ?_ rfl rfl (by kernel_rfl) (fun _ _ _ h => h) rfl (fun wz hwz => ?_) ?_
 rotate_left
 ·go_simp; try (with_reducible rfl)
 simp only [Zp, Zq, Zr, Zs]
 refine WpG.oneD 13 (some 32) rfl rfl (by kernel_rfl) (fun b : Nat => Value.pointer (some ⟨b, 0, none⟩)) (fun b wz => w.heap.size ≤ b ∧ Vs wz b [.int .u64 1, .int .u64 20, .bool false, .slice none 0 0, .int .i64 0, .int .u8 0, .int .u8 0, .int .u8 0, .int .u8 0, .int .u8 0, .int .u8 0, .int .u8 0, .int .u8 0, .int .u8 0, .int .u8 0, .int .u8 0, .int .u8 0, .int .u8 0, .int .u8 0, .int .u8 0, .int .u8 0, .int .u64 3, .int .u64 1]) (fun _ _ _ h hb => ⟨h.1, h.2.call hb⟩) (Fresh.var [.int .u64 1, .int .u64 20, .bool false, .slice none 0 0, .int .i64 0, .int .u8 0, .int .u8 0, .int .u8 0, .int .u8 0, .int .u8 0, .int .u8 0, .int .u8 0, .int .u8 0, .int .u8 0, .int .u8 0, .int .u8 0, .int .u8 0, .int .u8 0, .int .u8 0, .int .u8 0, .int .u8 0, .int .u64 3, .int .u64 1] 141 rfl (fun wz hwz => (hwz).size) (fun wz hwz => by go_simp; try (with_reducible rfl)) (R := fun b wz => Vs wz b [.int .u64 1, .int .u64 20, .bool false, .slice none 0 0, .int .i64 0, .int .u8 0, .int .u8 0, .int .u8 0, .int .u8 0, .int .u8 0, .int .u8 0, .int .u8 0, .int .u8 0, .int .u8 0, .int .u8 0, .int .u8 0, .int .u8 0, .int .u8 0, .int .u8 0, .int .u8 0, .int .u8 0, .int .u64 3, .int .u64 1]) (fun wz hwz => Vs.new wz _ _ _ rfl)) (fun ab w0b' hw0b' hR0b' => ?_)
 simp only [Zp, Zq, Zr, Zs]
 refine WpG.vD 14 (some 33) ?_ rfl rfl (by kernel_rfl) (fun _ _ _ h => h) rfl (fun wz hwz => ?_) ?_
 rotate_left
 ·go_simp; try (with_reducible rfl)
 simp only [Zp, Zq, Zr, Zs]
 refine WpG.vD 15 (some 34) ?_ rfl rfl (by kernel_rfl) (fun _ _ _ h => h) rfl (fun wz hwz => ?_) ?_
 rotate_left
 ·go_simp; try (with_reducible rfl)
 simp only [Zp, Zq, Zr, Zs]
 refine WpG.done (by kernel_rfl) (fun w5 hS => ?_)
 (try simp only [List.drop_succ_cons]); (try simp only [List.drop_zero]); (try simp only [Nat.reduceSub]); (try simp only [List.take_succ_cons]); (try simp only [List.take_zero])
 obtain ⟨hb5, habl, hAs⟩ := hS
 have hV5 := hV.call hb5
 have hc5 := hV5.col HTK.out
 clear c8 c9 c10 c11 f8 f9 f10 hcl hq0 hw0b' hR0b'
 obtain ⟨c8, c9, c10, c11, f8, f9, f10, hcl⟩ := hc5
 go_upto_region 7 with fail
 clear c8 c9 c10 c11 f8 f9 f10 hcl
 have hV6 := hV5.setN HTK.out (.pointer (some ⟨ab, 0, none⟩))
 have hAs6 := hAs.far (p := ⟨c, 8, none⟩) (by dsimp only; omega) (.pointer (some ⟨ab, 0, none⟩))
 have hb6 := bl_set (p := ⟨c, 8, none⟩) (hb5.mono hBw) hBc (.pointer (some ⟨ab, 0, none⟩))
 clear hV hV5 hAs hb5
 generalize w5.setCell ⟨c, 8, none⟩ (.pointer (some ⟨ab, 0, none⟩)) = w6 at hV6 hAs6 hb6 ⊢
 have hc6 := hV6.col HTK.out
 obtain ⟨c8, c9, c10, c11, f8, f9, f10, hcl⟩ := hc6
 obtain ⟨pp, hsl⟩ := slice_q ⟨g, 0, none⟩ cp hcp w6
 refine wp_region_lit ?_
 refine wpList_valD (some 35) rfl rfl (by (go_simp; first | with_reducible rfl | exact ⟨rfl, rfl⟩ | (trace_state; fail))) ?_
 simp only [Zp, Zq, Zr, Zs]
 refine wpList_valD (some 36) rfl rfl (by (go_simp; first | with_reducible rfl | exact ⟨rfl, rfl⟩ | (trace_state; fail))) ?_
 simp only [Zp, Zq, Zr, Zs]
 refine wpList_valD (some 37) rfl rfl (by (go_simp; first | with_reducible rfl | exact ⟨rfl, rfl⟩ | (trace_state; fail))) ?_
 simp only [Zp, Zq, Zr, Zs]
 refine wpList_valD (some 38) rfl rfl (by (go_simp; first | with_reducible rfl | exact ⟨rfl, rfl⟩ | (trace_state; fail))) ?_
 simp only [Zp, Zq, Zr, Zs]
 refine wpList_valD (some 39) rfl rfl (by (go_simp; first | with_reducible rfl | exact ⟨rfl, rfl⟩ | (trace_state; fail))) ?_
 simp only [Zp, Zq, Zr, Zs]
 refine wpList_valD (some 40) rfl rfl (exec_slice rfl (by kernel_rfl) (by kernel_rfl) (by kernel_rfl) (by kernel_rfl) hsl) ?_
 simp only [Zp, Zq, Zr, Zs]
 refine wpList_callD (some 41) rfl rfl 83 _ ?_ (clone_U pp (cp - 1) w6) ?_
 ·go_simp; try (with_reducible rfl)
 rintro e w7 ⟨A7, c7, rfl, hb7⟩
 refine ⟨_, rfl, ?_⟩
 simp only [Zp, Zq, Zr, Zs]
 have hV7 := hV6.call hb7
 have hAs7 := hAs6.call hb7
 have hb8 := bl_call hb6 hBw hb7
 clear c8 c9 c10 c11 f8 f9 f10 hcl
 have hc7 := hV7.col HTK.out
 obtain ⟨c8, c9, c10, c11, f8, f9, f10, hcl⟩ := hc7
 refine wpList_valD (some 42) rfl rfl (by (go_simp; first | with_reducible rfl | exact ⟨rfl, rfl⟩ | (trace_state; fail))) ?_
 simp only [Zp, Zq, Zr, Zs]
 refine wpList_valD (some 43) rfl rfl (by (go_simp; first | with_reducible rfl | exact ⟨rfl, rfl⟩ | (trace_state; fail))) ?_
 simp only [Zp, Zq, Zr, Zs]
 refine wpList_skipD rfl rfl (by (skip; go_simp; first | with_reducible rfl | exact ⟨rfl, rfl⟩ | (trace_state; fail))) ?_
 clear c8 c9 c10 c11 f8 f9 f10 hcl
 have hV8 := hV7.setQ HTK.out (.slice A7 0 c7)
 have hAs8 := hAs7.far (p := ⟨c, 9, none⟩) (by dsimp only; omega) (.slice A7 0 c7)
 have hbq := bl_set (p := ⟨c, 9, none⟩) hb8 hBc (.slice A7 0 c7)
 clear hV6 hAs6 hb6 hV7 hAs7 hb8 hsl
 go_upto_region 8 with fail
 generalize w7.setCell ⟨c, 9, none⟩ (.slice A7 0 c7) = w8 at hV8 hAs8 hbq ⊢
 have hc8 := hV8.col HTK.out
 obtain ⟨c8, c9, c10, c11, f8, f9, f10, hcl⟩ := hc8
 go_upto_region 9 with fail
 clear c8 c9 c10 c11 f8 f9 f10 hcl
 have hV9 := hV8.setX HTK.out 2
 have hAs9 := hAs8.far (p := ⟨c, 10, none⟩) (by dsimp only; omega) (.int .u64 2)
 have hb9 := bl_set (p := ⟨c, 10, none⟩) hbq hBc (.int .u64 2)
 clear hV8 hAs8 hbq
 generalize w8.setCell ⟨c, 10, none⟩ (.int .u64 2) = w9 at hV9 hAs9 hb9 ⊢
 have hc9 := hV9.col HTK.out
 obtain ⟨c8, c9, c10, c11, f8, f9, f10, hcl⟩ := hc9
 have a21 := hAs9.cell 21 _ rfl
 have a22 := hAs9.cell 22 _ rfl
 have g21 := hAs9.frz 21 (by decide)
 have g22 := hAs9.frz 22 (by decide)
 have hal := hAs9.lt
 go_upto_region 13 with fail
 clear c8 c9 c10 c11 f8 f9 f10 hcl a21 a22 g21 g22 hal
 have hV10 := hV9.far (p := ⟨ab, 21, none⟩) (by dsimp only; omega) (.int .u64 4)
 have hAs10 : Vs (w9.setCell ⟨ab, 21, none⟩ (.int .u64 4)) ab [.int .u64 1, .int .u64 20, .bool false, .slice none 0 0, .int .i64 0, .int .u8 0, .int .u8 0, .int .u8 0, .int .u8 0, .int .u8 0, .int .u8 0, .int .u8 0, .int .u8 0, .int .u8 0, .int .u8 0, .int .u8 0, .int .u8 0, .int .u8 0, .int .u8 0, .int .u8 0, .int .u8 0, .int .u64 4, .int .u64 1] := hAs9.put 21 (by decide) (.int .u64 4)
 have hb10 := bl_set (p := ⟨ab, 21, none⟩) hb9 (by dsimp only; omega) (.int .u64 4)
 clear hV9 hAs9 hb9
 generalize w9.setCell ⟨ab, 21, none⟩ (.int .u64 4) = w10 at hV10 hAs10 hb10 ⊢
 have a22 := hAs10.cell 22 _ rfl
 have g22 := hAs10.frz 22 (by decide)
 have hal := hAs10.lt
 go_upto_region 14 with fail
 rw [show min (2 : Int) 16 = 2 from rfl]
 clear a22 g22 hal
 have hV11 := hV10.far (p := ⟨ab, 22, none⟩) (by dsimp only; omega) (.int .u64 2)
 have hAs11 : Vs (w10.setCell ⟨ab, 22, none⟩ (.int .u64 2)) ab [.int .u64 1, .int .u64 20, .bool false, .slice none 0 0, .int .i64 0, .int .u8 0, .int .u8 0, .int .u8 0, .int .u8 0, .int .u8 0, .int .u8 0, .int .u8 0, .int .u8 0, .int .u8 0, .int .u8 0, .int .u8 0, .int .u8 0, .int .u8 0, .int .u8 0, .int .u8 0, .int .u8 0, .int .u64 4, .int .u64 2] := hAs10.put 22 (by decide) (.int .u64 2)
 have hb11 := bl_set (p := ⟨ab, 22, none⟩) hb10 (by dsimp only; omega) (.int .u64 2)
 clear hV10 hAs10 hb10
 generalize w10.setCell ⟨ab, 22, none⟩ (.int .u64 2) = w11 at hV11 hAs11 hb11 ⊢
 have HLE := Lib.hid (collect_letter tk HTK.out 2 (.slice A7 0 c7) c ab 4 2 w11 hV11 hAs11)
 clear hV11 hAs11
 go_wp2_with (go_at_call 84; refine HLE.out.mono ?_; rintro e w12 ⟨rfl, hb12⟩)
 go_ret
 have hb13 := bl_call hb11 hBw hb12
 have hs13 := hb13.size
 exact ⟨w12.heap.size, rfl, Vs.new w12 let1 _ _ rfl, hb13.trans (((Below.refl _ _).alloc (Nat.le_refl _) _).mono (Nat.le_trans hBw hs13))⟩

end Go.Proofs.Ytbakkmfjamcbfaa

namespace Go.Proofs.Ytbakkmfjamcbfaa
open Go.RowKit Fm
set_option linter.unusedVariables false
set_option maxRecDepth 100000

theorem law25_Task : ∃ (k f b l m c p : Int) (s : ByteArray), (∀ w, Calls Try.prog 21 #[.agg #[.int .u8 0, .int .u8 0, .int .u8 0, .int .u8 0, .int .u8 0, .int .u8 0, .int .u8 0, .int .u8 0]] w fun e w' => e = .returned (.agg #[.int .u8 k, .int .u8 f, .int .i64 b, .int .i64 l, .int .i64 m, .int .i64 c, .int .i64 p, .string s]) ∧ Below w.heap.size w w') ∧
  ∀ wz, Calls Try.prog 43 #[.agg #[.int .u8 k, .int .u8 f, .int .i64 b, .int .i64 l, .int .i64 m, .int .i64 c, .int .i64 p, .string s]] wz (RetC 0 wz) := by
 obtain ⟨F, y, s, hF, hy9, hs32, hT⟩ := law13_Task 0 0 0 0 0 0 0 0 (by omega) (by omega) (by omega) (by omega) (by omega) (by omega) (by omega) (by omega)
 have hcl := hy9.calls
 exact ⟨_, _, _, _, _, _, _, s, hT, fun wz => small_code (by omega) hy9.ok hF _ (by omega) s hs32 wz⟩

theorem want_20 : wantC [] 20 = 0 ∧ wantQ [] 20 = [20] := wantC_0 (by omega) (by simp) (by simp)

set_option maxHeartbeats 4000000 in
theorem law25_Awake (w : World) : Calls Try.prog 19 #[] w fun e w' => e = .returned (.bool true) ∧ Below w.heap.size w w' := by
 obtain ⟨k, f, b, l, m, c, p, s, hT, hC⟩ := law25_Task
 have HT := Lib.hid hT
 have HN := Lib.hid fun wz => collect_New k f b l m c p s hC wz
 clear hT hC
 go_enter Try.func19, Try.ntmps19
 go_upto_region 2 with (first | (go_at_call 21; refine (HT.out _).mono ?_; rintro e w2 ⟨rfl, hb2⟩) | (go_at_call 20; refine (HN.out w2).mono ?_; rintro e w3 ⟨cb, rfl, hK3, hb3⟩))
 have HW : Hid (Calls Try.prog 22 #[.pointer (some ⟨cb, 0, none⟩), .int .u64 20] w3 fun e w' => e = .returned (.int .i64 0) ∧ Below w2.heap.size w3 w' ∧ ColK w' w2.heap.size cb (tkL k f b l m c p s) 1 [20]) := by
  have h := collect_Want (tkL k f b l m c p s) rfl 1 [] cb w2.heap.size 20 ⟨by omega, by omega⟩ (by simp) w3 hK3
  rw [want_20.1, want_20.2] at h
  exact h
 go_upto_region 3 with (go_at_call 22; refine HW.out.mono ?_; rintro e w4 ⟨rfl, hb4, hK4⟩)
 have HTI := Lib.hid (collect_Tick (tkL k f b l m c p s) rfl cb w2.heap.size w4 hK4)
 go_upto_region 4 with (go_at_call 44; refine HTI.out.mono ?_; rintro e w5 ⟨g, rfl, hL, hb5⟩)
 have l0 := hL.cell 0 _ rfl
 have l1 := hL.cell 1 _ rfl
 have l3 := hL.cell 3 _ rfl
 have hll := hL.lt
 go_wp2_with fail
 go_ret
 exact ⟨rfl, hb2.trans (((hb3.trans hb4).trans hb5).mono hb2.size)⟩

def qL (k : Nat) : List Int := (List.range (min k 32)).map fun j : Nat => (j : Int)
theorem qL_length (k : Nat) : (qL k).length = min k 32 := by unfold qL; rw [List.length_map, List.length_range]
theorem qL_mem (k : Nat) : ¬ (k : Int) ∈ qL k := by
 unfold qL
 rw [List.mem_map]
 rintro ⟨j, h1, h2⟩
 rw [List.mem_range] at h1
 omega
theorem qL_want0 {k : Nat} (h : k < 32) : wantC (qL k) k = 0 ∧ wantQ (qL k) k = qL (k + 1) := by
 have h1 := wantC_0 (qs := qL k) (s := (k : Int)) (by omega) (qL_mem k) (by rw [qL_length]; omega)
 refine ⟨h1.1, h1.2.trans ?_⟩
 unfold qL
 rw [Nat.min_eq_left (by omega), Nat.min_eq_left (by omega), List.range_succ, List.map_append]
 rfl
theorem qL_want5 {k : Nat} (h : 32 ≤ k) (h2 : k < 40) : wantC (qL k) k = 5 ∧ wantQ (qL k) k = qL (k + 1) := by
 have h1 : wantC (qL k) k = 5 := by
  unfold wantC
  rw [if_neg (by omega), if_neg (qL_mem k), if_pos (by rw [qL_length]; omega)]
 refine ⟨h1, (wantQ_ne (by rw [h1]; decide)).trans ?_⟩
 unfold qL
 rw [Nat.min_eq_right (by omega), Nat.min_eq_right (by omega)]

set_option maxHeartbeats 8000000 in
theorem walk_CollectMany (n far : Int) (hn : 0 ≤ n ∧ n ≤ 255) (hfar : 0 ≤ far ∧ far ≤ 18446744073709551615) (w : World) :
  Calls Try.prog 5 #[.int .u8 n, .int .u64 far] w fun e w' => e = .returned (.bool true) ∧ Below w.heap.size w w' := by
 obtain ⟨k, f, b, l, m, c, p, s, hT, hC⟩ := law25_Task
 have HT := Lib.hid hT
 have HN := Lib.hid fun wz => collect_New k f b l m c p s hC wz
 have HAW := Lib.hid law25_Awake
 obtain ⟨N, hN⟩ : ∃ N : Nat, n % 40 = (N : Int) := ⟨(n % 40).toNat, by omega⟩
 have hN40 : N < 40 := by omega
 have hwN : IntKind.u64.wrap (N : Int) = (N : Int) := IntWalk.u64_in _ (by omega)
 clear hT hC
 go_enter Try.func5, Try.ntmps5
 go_upto_region 3 with (go_at_call 19; refine (HAW.out _).mono ?_; rintro e w1 ⟨rfl, hb1⟩)
 go_upto_region 4 with (first | (go_at_call 21; refine (HT.out _).mono ?_; rintro e w2 ⟨rfl, hb2⟩) | (go_at_call 20; refine (HN.out w2).mono ?_; rintro e w3 ⟨cb, rfl, hK3, hb3⟩))
 have hwN2 : IntKind.i64.wrap (N : Int) = (N : Int) := IntWalk.i64_in _ (by omega)
 obtain ⟨d, hd⟩ : ∃ d, far % 1000 = d := ⟨_, rfl⟩
 have hd1 : 0 ≤ d ∧ d < 1000 := by omega
 obtain ⟨s1, hs1⟩ : ∃ z, 1099511627777 + d = z := ⟨_, rfl⟩
 have hs2 : 1099511627776 < s1 ∧ s1 ≤ 1099511628777 := by omega
 have hws : IntKind.u64.wrap (1099511627777 + d) = s1 := by
  rw [hs1]
  exact IntWalk.u64_in _ (by omega)
 obtain ⟨M, hM⟩ : ∃ z : Nat, min N 32 = z := ⟨_, rfl⟩
 have HM := Lib.hid hM
 have hmin : min (N : Int) 32 = (M : Int) := by omega
 clear hs1 hM
 obtain ⟨B, hB⟩ : ∃ z, w2.heap.size = z := ⟨_, rfl⟩
 have hB1 : w.heap.size ≤ B := by
  rw [← hB]
  exact Nat.le_trans hb1.size hb2.size
 have hb4 : Below w.heap.size w w3 := (hb1.trans (hb2.mono hb1.size)).trans (hb3.mono (by rw [← hB] at hB1; exact hB1))
 rw [hB] at hK3
 clear hB hb1 hb2 hb3 HT HN HAW
 go_wp2_with fail
 go_loopw [23] (fun i wr => ∃ j : Nat, j ≤ N ∧ i = .int .u64 j ∧ ColK wr B cb (tkL k f b l m c p s) 1 (qL j) ∧ Below w.heap.size w wr) (fun i _ => N - (intOf i).toNat)
 case atStart => exact ⟨0, Nat.zero_le _, rfl, hK3, hb4⟩
 case round =>
  clear hK3 hb4
  obtain ⟨j, hj, rfl, hK, hbw⟩ := hrel
  by_cases hlt : j < N
  ·have hji : (j : Int) < (N : Int) := by omega
   have hj0 : (0 : Int) ≤ (j : Int) := by omega
   have hwk : IntKind.u64.wrap ((j : Int) + 1) = (j : Int) + 1 := IntWalk.u64_in _ (by omega)
   have hw := collect_Want (tkL k f b l m c p s) rfl 1 (qL j) cb B (j : Int) ⟨by omega, by omega⟩ (by rw [qL_length]; omega) wr hK
   by_cases h32 : j < 32
   ·rw [(qL_want0 h32).1, (qL_want0 h32).2] at hw
    have HW := Lib.hid hw
    have h3 : (j : Int) < 32 := by omega
    clear hw h32 hK
    go_wp2_with (go_at_call 22; refine HW.out.mono ?_; rintro e w5 ⟨rfl, hb5, hK5⟩)
    go_roundw
    case rel => exact ⟨_, _, _, .int .u64 ((j : Int) + 1), ⟨j + 1, by omega, by go_num, hK5, hbw.trans (hb5.mono hB1)⟩, rfl, rfl, rfl, rfl⟩
    case measure => simp [intOf]; omega
   ·rw [(qL_want5 (by omega) (by omega)).1, (qL_want5 (by omega) (by omega)).2] at hw
    have HW := Lib.hid hw
    have h3 : (32 : Int) ≤ (j : Int) := by omega
    clear hw h32 hK
    go_wp2_with (go_at_call 22; refine HW.out.mono ?_; rintro e w5 ⟨rfl, hb5, hK5⟩)
    go_roundw
    case rel => exact ⟨_, _, _, .int .u64 ((j : Int) + 1), ⟨j + 1, by omega, by go_num, hK5, hbw.trans (hb5.mono hB1)⟩, rfl, rfl, rfl, rfl⟩
    case measure => simp [intOf]; omega
  ·obtain rfl : j = N := by omega
   have hbu := collect_Busy (tkL k f b l m c p s) rfl 1 (qL j) cb B wr hK
   rw [qL_length, HM.out] at hbu
   have HBU := Lib.hid hbu
   have HKK := Lib.hid hK
   have HW : Hid (∀ wz, ColK wz B cb (tkL k f b l m c p s) 1 (qL j) → Calls Try.prog 22 #[.pointer (some ⟨cb, 0, none⟩), .int .u64 s1] wz fun e w' => e = .returned (.int .i64 15) ∧ Below B wz w') := fun wz h => by
    have h1 := collect_Want (tkL k f b l m c p s) rfl 1 (qL j) cb B s1 ⟨by omega, by omega⟩ (by rw [qL_length]; omega) wz h
    have h2 : wantC (qL j) s1 = 15 := by unfold wantC; rw [if_pos hs2.1]
    rw [h2] at h1
    exact h1.mono fun e w' h => ⟨h.1, h.2.1⟩
   clear hbu hK
   go_wp2_with (first | (go_at_call 23; refine HBU.out.mono ?_; rintro e w5 ⟨rfl, hb5⟩) | (go_at_call 22; refine (HW.out _ (HKK.out.call hb5)).mono ?_; rintro e w6 ⟨rfl, hb6⟩))
   go_ret
   exact ⟨rfl, (bl_call hbw (Nat.le_refl _) hb5).trans (hb6.mono hB1)⟩

end Go.Proofs.Ytbakkmfjamcbfaa
