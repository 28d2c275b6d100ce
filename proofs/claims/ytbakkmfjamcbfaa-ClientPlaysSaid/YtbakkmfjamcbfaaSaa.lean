/-
 Vs, Law9b, Nums, EncM, ExcA, TaA, RwA, Exc, PsX, TaH, OpenTo, MsA, MsB, MsC, MsD, ClA, ClB, ClC: for ClientPlays.
-/
import Derived.BigQuiet
import Derived.Laws.OwnMore
import Derived.Laws.Bits64b
import Derived.ChangeKeysEq
import Derived.IntWalk
import Derived.Test.YtbakkmfjamcbfaaKat
import Derived.Test.YtbakkmfjamcbfaaKax
namespace Go.Proofs.Ytbakkmfjamcbfaa
open Go.RowKit Fm
set_option linter.unusedVariables false
set_option maxRecDepth 100000

section
variable {w w' : World} {b : Nat} {cs : List Value}
theorem Vs.of2 {u v : Value} (h : V2 w b u v) : Vs w b [u, v] := by
 refine ⟨fun i x hi => ?_, fun i hi => ?_, h.lt⟩
 ·match i, hi with
  | 0, hi => obtain rfl : u = x := by simpa using hi
             exact h.c0
  | 1, hi => obtain rfl : v = x := by simpa using hi
             exact h.c1
 ·match i, hi with
  | 0, _ => exact h.f0
  | 1, _ => exact h.f1
end

end Go.Proofs.Ytbakkmfjamcbfaa

namespace Go.Proofs.Ytbakkmfjamcbfaa
open Go.RowKit Fm
set_option linter.unusedVariables false
set_option maxRecDepth 100000

theorem Vs.belowB {w w' : World} {b B : Nat} {cs : List Value} (h : Vs w b cs) (hb : Below B w w') (hB : b < B) : Vs w' b cs :=
 ⟨fun i v hi => (hb.cell (p := ⟨b, i, none⟩) hB).trans (h.cell i v hi), fun i hi => (hb.frozen (p := ⟨b, i, none⟩) hB).trans (h.frz i hi), Nat.lt_of_lt_of_le h.lt hb.size⟩
theorem own_slice {w : World} {base : Nat} {e : TypeId} {size : Nat} {v : Value} {n : Nat} {xs : List Value} (h : w.ownsRow base e size v (n + 1) xs) : ∃ g cap, v = .slice (some ⟨g, 0, none⟩) (n + 1) cap := by
 rcases h.2 with h | ⟨g, cap, cur, h1, _⟩
 ·omega
 ·exact ⟨g, cap, h1⟩

section
variable {f : Nat} (hf : IsF f)
include hf

end

end Go.Proofs.Ytbakkmfjamcbfaa

namespace Go.Proofs.Ytbakkmfjamcbfaa
open Go.RowKit Fm Go.ChangeShapes Go.WideShapes Go.Deep
set_option linter.unusedVariables false
set_option maxRecDepth 100000

theorem length_cellsU (xs : List Int) : (cellsU xs).length = xs.length := by unfold cellsU; rw [List.length_map]
theorem cellsU_at {xs : List Int} {i : Nat} {e : Int} (h : xs[i]? = some e) : (cellsU xs)[i]? = some (.int .u64 e) := by unfold cellsU; rw [List.getElem?_map, h]; rfl
theorem cellsU_append (xs ys : List Int) : cellsU (xs ++ ys) = cellsU xs ++ cellsU ys := by unfold cellsU; rw [List.map_append]

theorem infoU64 : (Try.prog.info? 22).map (fun i => (i.zero, i.size, i.bytes)) = some (some (.int .u64 0), 1, 8) := by kernel_rfl

theorem oneCell_cellsU (xs : List Int) : ∀ u, u ∈ cellsU xs → u.oneCell' = true := by
 intro u h
 unfold cellsU at h
 rw [List.mem_map] at h
 obtain ⟨e, _, rfl⟩ := h
 rfl

theorem run_append_U (w : World) (base : Nat) (ty : TypeId) (v : Value) (n : Nat) (xs : List Int) (hown : w.ownsRow base 22 1 v n (cellsU xs)) (A : Option Addr) (m c : Nat) (ys : List Int)
  (hm : ys.length = m) (hy : 0 < m → ∃ b o, A = some ⟨b, o, none⟩ ∧ RowU w b o ys) (hbound : n + m ≤ 1099511627776) (hbase : base ≤ w.heap.size) :
  ∃ v' w', (Builtin.append_ #[88, 88] ty #[v, .slice A m c]).run Try.prog w = .ok v' w' ∧ w'.ownsRow base 22 1 v' (n + m) (cellsU (xs ++ ys)) ∧ w.grownBy w' v.ownBlock ∧
   (v'.ownBlock = v.ownBlock ∨ v'.ownBlock = some w.heap.size) := by
 obtain ⟨i, hi, hz, h1, h2⟩ := info_parts infoU64
 rw [cellsU_append]
 rcases A with _ | ad
 ·have hm0 : m = 0 := by
   rcases Nat.eq_zero_or_pos m with h0 | h0
   ·exact h0
   ·obtain ⟨b, o, h, _⟩ := hy h0
    cases h
  subst hm0
  obtain rfl : ys = [] := List.eq_nil_of_length_eq_zero hm
  refine ⟨v, w, ?_, by simpa [cellsU] using hown, World.grownBy.refl w _, .inl rfl⟩
  rcases hown.2 with ⟨rfl, rfl⟩ | ⟨g, cap, cur, rfl, _, _, hnc, _⟩
  ·simp [Builtin.append_, run_underlying Try.underlying88, sizeOf, typeInfo, hi, Builtin.lenOf, Builtin.firstCells]
  ·simp [Builtin.append_, run_underlying Try.underlying88, sizeOf, typeInfo, hi, Builtin.lenOf, Builtin.firstCells, hnc, storeCells]
 ·have hcells : ∀ j u, (cellsU ys)[j]? = some u → w.cell? (ad.add j) = some u := by
   intro j u hu
   rcases Nat.eq_zero_or_pos m with h0 | h0
   ·subst h0
    obtain rfl : ys = [] := List.eq_nil_of_length_eq_zero hm
    simp [cellsU] at hu
   ·obtain ⟨b, o, h, hr⟩ := hy h0
    injection h with h
    subst h
    exact hr.cells j u hu
  obtain ⟨v', w', hrun, h3, h4, _, h5⟩ := run_append_own_at (P := Try.prog) w base 88 ty 22 i _ 1 8 Try.underlying88 hi hz h1 h2 rfl (by omega) v n _ hown ad m c (cellsU ys)
   (by rw [length_cellsU, hm, Nat.mul_one]) hcells (oneCell_cellsU ys) (by unfold maxLen; omega) (by omega) hbase
  exact ⟨v', w', hrun, h3, h4, h5⟩

theorem wpList_append_U {w : World} {ops : Array Oper} {rest : List Oper} {o : Oper} {a : Act} {Q : Exit → Act → World → Prop} (hgd : o.guard = none) (s x : Operand)
  (ho : o.op = .call { callee := .builtin .append, args := #[s, x], argTypes := #[88, 88] })
  (base : Nat) (v : Value) (n : Nat) (xs : List Int) (hs : a.eval s = v) (hown : w.ownsRow base 22 1 v n (cellsU xs)) (A : Option Addr) (m c : Nat) (ys : List Int) (hx : a.eval x = .slice A m c)
  (hm : ys.length = m) (hy : 0 < m → ∃ b o, A = some ⟨b, o, none⟩ ∧ RowU w b o ys) (hbound : n + m ≤ 1099511627776) (hbase : base ≤ w.heap.size)
  (h : ∀ v' w', w'.ownsRow base 22 1 v' (n + m) (cellsU (xs ++ ys)) → w.grownBy w' v.ownBlock → (v'.ownBlock = v.ownBlock ∨ v'.ownBlock = some w.heap.size) → wpList Try.prog ops Q rest (a.put o.dst v') w') : wpList Try.prog ops Q (o :: rest) a w := by
 obtain ⟨v', w', hrun, h2, h3, h4⟩ := run_append_U w base o.type v n xs hown A m c ys hm hy hbound hbase
 refine wpList_plain hgd fun K hK => ?_
 unfold Oper.wp execOp
 simp only [ho, resolve, invoke, builtin, Sem.run_bind, Sem.run_pure, Result.andThen_ok, List.map_toArray, List.map_cons, List.map_nil, hs, hx, hrun]
 exact hK _ _ (h v' w' h2 h3 h4)

section
variable {H : Type} {enc : TypeId × Value → H} {W : World} {base : Nat} {sp : Nat → Bool} {hd : Bool}
end

end Go.Proofs.Ytbakkmfjamcbfaa

namespace Go.Proofs.Ytbakkmfjamcbfaa
open Go.RowKit Fm
set_option linter.unusedVariables false
set_option maxRecDepth 100000

theorem own_shape {w : World} {base : Nat} {e : TypeId} {size : Nat} {v : Value} {n : Nat} {xs : List Value} (h : w.ownsRow base e size v n xs) : ∃ (A : Option Addr) (cp : Nat), v = .slice A n cp := by
 rcases h.2 with ⟨hv, hn⟩ | ⟨g, cap, cur, hv, _⟩
 ·subst hn
  exact ⟨_, _, hv⟩
 ·exact ⟨_, _, hv⟩

section
variable {f : Nat} (hf : IsF f)
include hf

end

end Go.Proofs.Ytbakkmfjamcbfaa

namespace Go.Proofs.Ytbakkmfjamcbfaa
open Go.RowKit Fm
set_option linter.unusedVariables false
set_option maxRecDepth 100000

section
variable {S : Nat → Prop} {B : Nat} {a w w' w'' : World}
theorem Exc.two (w : World) (b b' : Nat) (x y x' y' : Value) : Exc (fun q => q = b ∨ q = b') w.heap.size w ((((w.setCell ⟨b, 0, none⟩ x).setCell ⟨b, 1, none⟩ y).setCell ⟨b', 0, none⟩ x').setCell ⟨b', 1, none⟩ y') :=
 ⟨rfl, rfl, rfl, by simp [World.setCell], fun k hk hn => by
  have h1 : k ≠ b := fun e => hn (.inl e)
  have h2 : k ≠ b' := fun e => hn (.inr e)
  rw [Below.heap_setCell _ _ y' k h2, Below.heap_setCell _ _ x' k h2, Below.heap_setCell _ _ y k h1, Below.heap_setCell _ _ x k h1]⟩
variable {f : Nat} {v : Value} {l : KL f}
end

end Go.Proofs.Ytbakkmfjamcbfaa

namespace Go.Proofs.Ytbakkmfjamcbfaa
open Go.RowKit Fm
set_option linter.unusedVariables false
set_option maxRecDepth 100000

/-! ### 'exclusive or' of bytes -/
/-! ### loads and stores of many cells at once -/
theorem wpList_passG {ops : Array Oper} {rest : List Oper} {o : Oper} {a : Act} {w : World} {Q : Exit → Act → World → Prop} (d : Option Tmp) (hd : o.dst = d) (hg : Region.wanted o (yielded ops a.tmps) = false) (hK : wpList Try.prog ops Q rest (a.put d undef) w) : wpList Try.prog ops Q (o :: rest) a w :=
 wpList_step fun K hk => by
  rw [if_neg (by rw [hg]; simp)]
  exact hk _ _ (by rw [hd]; exact hK)

/-! ### a total's eighteen cells -/
section
variable {w : World} {b : Nat} {k : List Int} {v : Value} {m : Int}
end

/-! ### '==' of sixteen bytes -/
end Go.Proofs.Ytbakkmfjamcbfaa

namespace Go.Proofs.Ytbakkmfjamcbfaa
open Go.RowKit Fm
set_option linter.unusedVariables false
set_option maxRecDepth 100000

section
variable {f : Nat}

theorem RwK.drew {w : World} {g : Nat} {l : KL f} (h : RwK w g l) : RwK w.drew g l := Vs.drew h
theorem RwK.belowB {w w' : World} {B g : Nat} {l : KL f} (h : RwK w g l) (hb : Below B w w') (hlt : g < B) : RwK w' g l := Vs.belowB h hb hlt
end

end Go.Proofs.Ytbakkmfjamcbfaa

namespace Go.Proofs.Ytbakkmfjamcbfaa
open Go.RowKit Fm
set_option linter.unusedVariables false
set_option maxRecDepth 100000

/-! ### what is known of worlds within a region in which the gadget is asked -/
section
variable {D D1 : Nat → Prop} {w0 w w' : World} {I : (Nat → Prop) → World → Prop}
end

theorem Rd.from {D : Nat → Prop} {w0 w w' : World} {I : (Nat → Prop) → World → Prop} (h : Rd D w I w') (k : Exc D w0.heap.size w0 w) : Rd D w0 I w' := ⟨k.more h.1 fun _ hq => .inl hq, by
 obtain ⟨D', h1, h2⟩ := h.2
 exact ⟨D', h1, fun q hq => (h2 q hq).imp_right fun h3 => Nat.le_trans k.size h3⟩⟩
end Go.Proofs.Ytbakkmfjamcbfaa

namespace Go.Proofs.Ytbakkmfjamcbfaa
open Go.RowKit Fm
set_option linter.unusedVariables false
set_option maxRecDepth 100000

section
variable {S T : Nat → Prop} {w w' : World} {f : Nat} {v : Value} {l : KL f}
theorem own_ne {b1 b2 : Nat} {e1 e2 : TypeId} {s1 s2 n1 n2 : Nat} {v1 v2 : Value} {x1 x2 : List Value} (he : e1 ≠ e2) (h1 : w.ownsRow b1 e1 s1 v1 n1 x1) (h2 : w.ownsRow b2 e2 s2 v2 n2 x2) {g : Nat} (hg : v1.ownBlock = some g) : ¬ (v2.ownBlock = some g) := by
 intro hg2
 rcases h1.2 with ⟨h, _⟩ | ⟨g1, c1, u1, k1, _, k2, _⟩
 ·rw [h] at hg
  cases hg
 ·rcases h2.2 with ⟨h, _⟩ | ⟨g2, c2, u2, k3, _, k4, _⟩
  ·rw [h] at hg2
   cases hg2
  ·rw [k1] at hg
   rw [k3] at hg2
   have e1' : g1 = g := Option.some.inj hg
   have e2' : g2 = g := Option.some.inj hg2
   subst e1'
   subst e2'
   rw [k2] at k4
   injection k4 with k4
   injection k4 with _ k5 _
   exact he k5

variable {vs : List Value} {ps : List (KL f)}
end

end Go.Proofs.Ytbakkmfjamcbfaa

namespace Go.Proofs.Ytbakkmfjamcbfaa
open Go.RowKit Fm
set_option linter.unusedVariables false
set_option maxRecDepth 100000

section
variable {w w' : World} {b : Nat} {v : Value} {m : Int} {k : List Int}
theorem RowB.belowB {g o B : Nat} {xs : List Int} (h : RowB w g o xs) (hb : Below B w w') (hg : g < B) : RowB w' g o xs := fun i e hi => (hb.cell (p := ⟨g, o + i, none⟩) hg).trans (h i e hi)
end
end Go.Proofs.Ytbakkmfjamcbfaa

namespace Go.Proofs.Ytbakkmfjamcbfaa
open Go.RowKit Go.Joins Go.ChangeShapes Go.WideShapes Go.Deep
set_option linter.unusedVariables false
set_option maxRecDepth 100000

section
variable {H : Type} {enc : TypeId × Value → H} {W : World} {base : Nat} {sp : Nat → Bool} {hd : Bool}

theorem okWide_array {P : Program} {w : World} {r : Reach} {b0 : Nat} {t e : TypeId} {n : Nat} {v : Value} (ht : P.underlying t = some (.array n e)) (h : Value.okWide P w r b0 t v) : ∃ cs, v = .agg cs ∧ cs.size = P.cellsOf t := by
 simp only [Value.okWide, ht] at h
 obtain ⟨cs, h1, h2, _⟩ := h
 exact ⟨cs, h1, h2⟩

theorem open_id {r : Reach} {b0 : Nat} {v : Value} {d : DataW H} {ps : List MemPlace} (hval : Value.okWide Try.prog W r b0 34 v) (h : DataW.Trod enc Try.prog W base sp hd 34 v d ps) :
  ∃ k : List Int, v = .agg (cells8 k).toArray ∧ k.length = 16 ∧ B8 k := by
 obtain ⟨cs, rfl, hsz⟩ := okWide_array Try.underlying34 hval
 obtain ⟨l⟩ := cs
 obtain ⟨fuel, hf⟩ := h
 have hf2 : DataW.trod enc Try.prog W base sp hd fuel 34 l = some (d, ps) := hf
 obtain ⟨k, rfl, h1, h2⟩ := trod_b16 Try.underlying34 (by kernel_rfl) hf2
 exact ⟨k, rfl, h1, h2⟩

end

end Go.Proofs.Ytbakkmfjamcbfaa

namespace Go.Proofs.Ytbakkmfjamcbfaa
open Go.RowKit Fm
set_option linter.unusedVariables false
set_option maxRecDepth 100000

def entL (id : List Int) (time : Int) (pu sh : Value) (code : Int) : List Value := cells8 id ++ [.int .u64 time, pu, sh, .int .i64 code]
def msgL (kind job start many : Int) (sum : List Int) (code : Int) (es : Value) : List Value := [.int .u8 kind, .int .u64 job, .int .u64 start, .int .i64 many] ++ (cells8 sum ++ [.int .i64 code, es])
section
variable {w : World} {b : Nat} {id sum : List Int} {time code kind job start many : Int} {pu sh es : Value}
theorem entL_length (h : id.length = 16) : (entL id time pu sh code).length = 20 := by unfold entL; rw [List.length_append, cells8_length, h]; rfl
theorem msgL_length (h : sum.length = 16) : (msgL kind job start many sum code es).length = 22 := by unfold msgL; rw [List.length_append, List.length_append, cells8_length, h]; rfl
theorem Vs.ent (h : id.length = 16) (hv : Vs w b (entL id time pu sh code)) : w.cell? ⟨b, 16, none⟩ = some (.int .u64 time) ∧ w.cell? ⟨b, 17, none⟩ = some pu ∧ w.cell? ⟨b, 18, none⟩ = some sh ∧ w.cell? ⟨b, 19, none⟩ = some (.int .i64 code) ∧ w.frozen? ⟨b, 17, none⟩ = false ∧ w.frozen? ⟨b, 18, none⟩ = false ∧ b < w.heap.size := by
 have hl := entL_length (time := time) (pu := pu) (sh := sh) (code := code) h
 have key : ∀ i (x : Value), [.int .u64 time, pu, sh, .int .i64 code][i]? = some x → w.cell? ⟨b, 16 + i, none⟩ = some x := fun i x hi => hv.cell (16 + i) x (by
  unfold entL
  rw [List.getElem?_append_right (by rw [cells8_length]; omega), cells8_length, h, show 16 + i - 16 = i by omega]
  exact hi)
 exact ⟨key 0 _ rfl, key 1 _ rfl, key 2 _ rfl, key 3 _ rfl, hv.frz 17 (by omega), hv.frz 18 (by omega), hv.lt⟩
theorem Vs.msg (h : sum.length = 16) (hv : Vs w b (msgL kind job start many sum code es)) : w.cell? ⟨b, 0, none⟩ = some (.int .u8 kind) ∧ w.cell? ⟨b, 1, none⟩ = some (.int .u64 job) ∧ w.cell? ⟨b, 2, none⟩ = some (.int .u64 start) ∧ w.cell? ⟨b, 3, none⟩ = some (.int .i64 many) ∧ w.cell? ⟨b, 20, none⟩ = some (.int .i64 code) ∧ w.cell? ⟨b, 21, none⟩ = some es ∧ w.frozen? ⟨b, 21, none⟩ = false ∧ b < w.heap.size := by
 have hl := msgL_length (kind := kind) (job := job) (start := start) (many := many) (code := code) (es := es) h
 have key : ∀ i (x : Value), [.int .i64 code, es][i]? = some x → w.cell? ⟨b, 20 + i, none⟩ = some x := fun i x hi => hv.cell (20 + i) x (by
  unfold msgL
  rw [List.getElem?_append_right (by simp; omega), List.getElem?_append_right (by rw [cells8_length, h]; simp; omega), cells8_length, h]
  rw [show 20 + i - [Value.int .u8 kind, .int .u64 job, .int .u64 start, .int .i64 many].length - 16 = i by simp; omega]
  exact hi)
 exact ⟨hv.cell 0 _ rfl, hv.cell 1 _ rfl, hv.cell 2 _ rfl, hv.cell 3 _ rfl, key 0 _ rfl, key 1 _ rfl, hv.frz 21 (by omega), hv.lt⟩
end

def entC (time code : Int) (n n' : Nat) : Int := if 1099511627776 < time ∨ code < 0 ∨ 31 < code then 6 else if 65536 < n ∨ 65536 < n' then 4 else 0

set_option maxHeartbeats 4000000 in
theorem entry_check (id : List Int) (hid : id.length = 16) (time code : Int) (A A' : Option Addr) (n c n' c' : Nat) (w : World) :
  Calls Try.prog 87 #[.agg (entL id time (.slice A n c) (.slice A' n' c') code).toArray] w (RetC (entC time code n n') w) := by
 have HID := Lib.hid hid
 clear hid
 unfold entC
 by_cases h1 : 1099511627776 < time
 ·rw [if_pos (.inl h1)]
  go_enter Try.func87, Try.ntmps87
  go_upto_region 1 with fail
  have hX := Vs.new w (entL id time (.slice A n c) (.slice A' n' c') code) ((entL id time (.slice A n c) (.slice A' n' c') code).toArray) 44 rfl
  have hb00 : Below w.heap.size w (w.alloc (.cells (entL id time (.slice A n c) (.slice A' n' c') code).toArray 44)) := by repeat (first | exact bA | with_reducible assumption | apply bB)
  have hszn : w.heap.size + 1 ≤ (w.alloc (.cells (entL id time (.slice A n c) (.slice A' n' c') code).toArray 44)).heap.size := by simp only [World.size_alloc]; omega
  generalize (w.alloc (.cells (entL id time (.slice A n c) (.slice A' n' c') code).toArray 44)) = w1 at hX hb00 hszn ⊢
  obtain ⟨x0, x1, x2, x3, x4, x5, x6⟩ := hX.ent HID.out
  clear hX
  go_wp2_with fail
  go_ret
  exact ⟨rfl, hb00⟩
 by_cases h2 : code < 0
 ·rw [if_pos (.inr (.inl h2))]
  go_enter Try.func87, Try.ntmps87
  go_upto_region 1 with fail
  have hX := Vs.new w (entL id time (.slice A n c) (.slice A' n' c') code) ((entL id time (.slice A n c) (.slice A' n' c') code).toArray) 44 rfl
  have hb00 : Below w.heap.size w (w.alloc (.cells (entL id time (.slice A n c) (.slice A' n' c') code).toArray 44)) := by repeat (first | exact bA | with_reducible assumption | apply bB)
  have hszn : w.heap.size + 1 ≤ (w.alloc (.cells (entL id time (.slice A n c) (.slice A' n' c') code).toArray 44)).heap.size := by simp only [World.size_alloc]; omega
  generalize (w.alloc (.cells (entL id time (.slice A n c) (.slice A' n' c') code).toArray 44)) = w1 at hX hb00 hszn ⊢
  obtain ⟨x0, x1, x2, x3, x4, x5, x6⟩ := hX.ent HID.out
  clear hX
  go_wp2_with fail
  go_ret
  exact ⟨rfl, hb00⟩
 by_cases h3 : 31 < code
 ·rw [if_pos (.inr (.inr h3))]
  go_enter Try.func87, Try.ntmps87
  go_upto_region 1 with fail
  have hX := Vs.new w (entL id time (.slice A n c) (.slice A' n' c') code) ((entL id time (.slice A n c) (.slice A' n' c') code).toArray) 44 rfl
  have hb00 : Below w.heap.size w (w.alloc (.cells (entL id time (.slice A n c) (.slice A' n' c') code).toArray 44)) := by repeat (first | exact bA | with_reducible assumption | apply bB)
  have hszn : w.heap.size + 1 ≤ (w.alloc (.cells (entL id time (.slice A n c) (.slice A' n' c') code).toArray 44)).heap.size := by simp only [World.size_alloc]; omega
  generalize (w.alloc (.cells (entL id time (.slice A n c) (.slice A' n' c') code).toArray 44)) = w1 at hX hb00 hszn ⊢
  obtain ⟨x0, x1, x2, x3, x4, x5, x6⟩ := hX.ent HID.out
  clear hX
  go_wp2_with fail
  go_ret
  exact ⟨rfl, hb00⟩
 rw [if_neg (by omega)]
 by_cases h4 : 65536 < n
 ·rw [if_pos (.inl h4)]
  have h4' : (65536 : Int) < (n : Int) := by omega
  go_enter Try.func87, Try.ntmps87
  go_upto_region 1 with fail
  have hX := Vs.new w (entL id time (.slice A n c) (.slice A' n' c') code) ((entL id time (.slice A n c) (.slice A' n' c') code).toArray) 44 rfl
  have hb00 : Below w.heap.size w (w.alloc (.cells (entL id time (.slice A n c) (.slice A' n' c') code).toArray 44)) := by repeat (first | exact bA | with_reducible assumption | apply bB)
  have hszn : w.heap.size + 1 ≤ (w.alloc (.cells (entL id time (.slice A n c) (.slice A' n' c') code).toArray 44)).heap.size := by simp only [World.size_alloc]; omega
  generalize (w.alloc (.cells (entL id time (.slice A n c) (.slice A' n' c') code).toArray 44)) = w1 at hX hb00 hszn ⊢
  obtain ⟨x0, x1, x2, x3, x4, x5, x6⟩ := hX.ent HID.out
  clear hX
  go_wp2_with fail
  go_ret
  exact ⟨rfl, hb00⟩
 have h4' : (n : Int) ≤ 65536 := by omega
 by_cases h5 : 65536 < n'
 ·rw [if_pos (.inr h5)]
  have h5' : (65536 : Int) < (n' : Int) := by omega
  go_enter Try.func87, Try.ntmps87
  go_upto_region 1 with fail
  have hX := Vs.new w (entL id time (.slice A n c) (.slice A' n' c') code) ((entL id time (.slice A n c) (.slice A' n' c') code).toArray) 44 rfl
  have hb00 : Below w.heap.size w (w.alloc (.cells (entL id time (.slice A n c) (.slice A' n' c') code).toArray 44)) := by repeat (first | exact bA | with_reducible assumption | apply bB)
  have hszn : w.heap.size + 1 ≤ (w.alloc (.cells (entL id time (.slice A n c) (.slice A' n' c') code).toArray 44)).heap.size := by simp only [World.size_alloc]; omega
  generalize (w.alloc (.cells (entL id time (.slice A n c) (.slice A' n' c') code).toArray 44)) = w1 at hX hb00 hszn ⊢
  obtain ⟨x0, x1, x2, x3, x4, x5, x6⟩ := hX.ent HID.out
  clear hX
  go_wp2_with fail
  go_ret
  exact ⟨rfl, hb00⟩
 have h5' : (n' : Int) ≤ 65536 := by omega
 rw [if_neg (by omega)]
 go_enter Try.func87, Try.ntmps87
 go_upto_region 1 with fail
 have hX := Vs.new w (entL id time (.slice A n c) (.slice A' n' c') code) ((entL id time (.slice A n c) (.slice A' n' c') code).toArray) 44 rfl
 have hb00 : Below w.heap.size w (w.alloc (.cells (entL id time (.slice A n c) (.slice A' n' c') code).toArray 44)) := by repeat (first | exact bA | with_reducible assumption | apply bB)
 have hszn : w.heap.size + 1 ≤ (w.alloc (.cells (entL id time (.slice A n c) (.slice A' n' c') code).toArray 44)).heap.size := by simp only [World.size_alloc]; omega
 generalize (w.alloc (.cells (entL id time (.slice A n c) (.slice A' n' c') code).toArray 44)) = w1 at hX hb00 hszn ⊢
 obtain ⟨x0, x1, x2, x3, x4, x5, x6⟩ := hX.ent HID.out
 clear hX
 go_wp2_with fail
 go_ret
 exact ⟨rfl, hb00⟩

end Go.Proofs.Ytbakkmfjamcbfaa

namespace Go.Proofs.Ytbakkmfjamcbfaa
open Go.RowKit Fm
set_option linter.unusedVariables false
set_option maxRecDepth 100000

theorem size_entry : (Try.prog.info? 44).map (·.size) = some 20 := by kernel_rfl
theorem entL_one (id : List Int) (time code : Int) {pu sh : Value} (h1 : pu.oneCell' = true) (h2 : sh.oneCell' = true) : ∀ v, v ∈ entL id time pu sh code → v.oneCell' = true := by
 intro v hv
 unfold entL at hv
 rcases List.mem_append.1 hv with h | h
 ·exact one8 id v h
 ·simp at h
  rcases h with rfl | rfl | rfl | rfl
  ·rfl
  ·exact h1
  ·exact h2
  ·rfl
section
variable {w : World} {b : Nat} {id id' : List Int} {time code time' code' : Int} {pu sh pu' sh' : Value}
theorem Vs.loadE (h : Vs w b (entL id time pu sh code)) (hk : id.length = 16) : (Instr.loadAt 44 (.pointer (some ⟨b, 0, none⟩))).run Try.prog w = .ok (.agg (entL id time pu sh code).toArray) w :=
 load_W h Try.underlying44 rfl (by rw [entL_length hk]; exact size_entry)
theorem Vs.storeE (h : Vs w b (entL id' time' pu' sh' code')) (hk' : id'.length = 16) (hk : id.length = 16) (h1 : pu.oneCell' = true) (h2 : sh.oneCell' = true) : (Instr.storeAt 44 (.pointer (some ⟨b, 0, none⟩)) (.agg (entL id time pu sh code).toArray)).run Try.prog w = .ok () (w.setCells b 0 (entL id time pu sh code)) :=
 store_W h (by rw [entL_length hk, entL_length hk']) (by rw [entL_length hk]; exact size_entry) (entL_one id time code h1 h2)
theorem Vs.setE (h : Vs w b (entL id' time' pu' sh' code')) (hk' : id'.length = 16) (hk : id.length = 16) : Vs (w.setCells b 0 (entL id time pu sh code)) b (entL id time pu sh code) := h.setW (by rw [entL_length hk, entL_length hk'])
end

set_option maxHeartbeats 4000000 in
theorem msg_Check1 (id : List Int) (hid : id.length = 16) (time code : Int) (A A' : Option Addr) (n c n' c' g cg : Nat) (w : World) (hE : Vs w g (entL id time (.slice A n c) (.slice A' n' c') code)) :
  Calls Try.prog 49 #[.agg (msgL 1 0 0 0 z16 0 (.slice (some ⟨g, 0, none⟩) 1 cg)).toArray] w (RetC (entC time code n n') w) := by
 have HID := Lib.hid hid
 have HCE := Lib.hid fun wz => entry_check id hid time code A A' n c n' c' wz
 obtain ⟨ec, hec⟩ : ∃ z, entC time code n n' = z := ⟨_, rfl⟩
 rw [hec] at HCE ⊢
 clear hec hid
 go_enter Try.func49, Try.ntmps49
 go_upto_region 1 with fail
 have hM := Vs.new w (msgL 1 0 0 0 z16 0 (.slice (some ⟨g, 0, none⟩) 1 cg)) ((msgL 1 0 0 0 z16 0 (.slice (some ⟨g, 0, none⟩) 1 cg)).toArray) 27 rfl
 have hb00 : Below w.heap.size w (w.alloc (.cells (msgL 1 0 0 0 z16 0 (.slice (some ⟨g, 0, none⟩) 1 cg)).toArray 27)) := by repeat (first | exact bA | with_reducible assumption | apply bB)
 have hszn : w.heap.size + 1 ≤ (w.alloc (.cells (msgL 1 0 0 0 z16 0 (.slice (some ⟨g, 0, none⟩) 1 cg)).toArray 27)).heap.size := by simp only [World.size_alloc]; omega
 generalize (w.alloc (.cells (msgL 1 0 0 0 z16 0 (.slice (some ⟨g, 0, none⟩) 1 cg)).toArray 27)) = w1 at hM hb00 hszn ⊢
 replace hE := hE.call hb00
 obtain ⟨m0, m1, m2, m3, m4, m5, m6, m7⟩ := hM.msg z16_length
 go_upto_region 9 with fail
 go_wp2_with fail
 clear m0 m1 m2 m3 m4 m5 m6 m7 hM
 go_loopw [66] (fun i wr => ∃ k : Nat, k ≤ 1 ∧ i = .int .i64 k ∧ Hid (k = 1 → ec = 0) ∧ Vs wr g (entL id time (.slice A n c) (.slice A' n' c') code) ∧ Below w.heap.size w wr) (fun i _ => 1 - (intOf i).toNat)
 case atStart => exact ⟨0, by omega, rfl, Lib.hid fun h => by omega, hE, hb00⟩
 case round =>
  clear hE hb00
  obtain ⟨k, hk, rfl, HK, hE, hbw⟩ := hrel
  by_cases hlt : k < 1
  ·obtain rfl : k = 0 := by omega
   clear hlt hk HK
   go_upto_region 11 with fail
   refine wp_region_lit ?_
   refine wpList_valD (some 68) rfl rfl (by (go_simp; first | with_reducible rfl | exact ⟨rfl, rfl⟩ | (trace_state; fail))) ?_
   simp only [Zp, Zq, Zr, Zs]
   refine wpList_valD (some 69) rfl rfl (exec_load rfl (by kernel_rfl) (hE.loadE HID.out)) ?_
   simp only [Zp, Zq, Zr, Zs]
   refine wpList_valD (some 4) rfl rfl (by (skip; go_simp; first | with_reducible rfl | exact ⟨rfl, rfl⟩ | (trace_state; fail))) ?_
   simp only [Zp, Zq, Zr, Zs]
   have hN := Vs.new wr (entL z16 0 (.slice none 0 0) (.slice none 0 0) 0) #[.int .u8 0, .int .u8 0, .int .u8 0, .int .u8 0, .int .u8 0, .int .u8 0, .int .u8 0, .int .u8 0, .int .u8 0, .int .u8 0, .int .u8 0, .int .u8 0, .int .u8 0, .int .u8 0, .int .u8 0, .int .u8 0, .int .u64 0, .slice none 0 0, .slice none 0 0, .int .i64 0] 44 rfl
   have hbA := (Below.refl wr.heap.size wr).alloc (Nat.le_refl _) (.cells #[.int .u8 0, .int .u8 0, .int .u8 0, .int .u8 0, .int .u8 0, .int .u8 0, .int .u8 0, .int .u8 0, .int .u8 0, .int .u8 0, .int .u8 0, .int .u8 0, .int .u8 0, .int .u8 0, .int .u8 0, .int .u8 0, .int .u64 0, .slice none 0 0, .slice none 0 0, .int .i64 0] 44)
   have hst := hN.storeE (id := id) (time := time) (code := code) (pu := .slice A n c) (sh := .slice A' n' c') z16_length HID.out rfl rfl
   refine wpList_skipD rfl rfl (exec_store rfl (by kernel_rfl) (by kernel_rfl) hst) ?_
   replace hN := hN.setE (id := id) (time := time) (code := code) (pu := .slice A n c) (sh := .slice A' n' c') z16_length HID.out
   have hbC := bl_setCells hbA (Nat.le_refl _) 0 (entL id time (.slice A n c) (.slice A' n' c') code)
   replace hbw := bl_call hbw (Nat.le_refl _) hbC
   replace hE := hE.call hbC
   clear hst hbA hbC
   generalize (wr.alloc (.cells #[.int .u8 0, .int .u8 0, .int .u8 0, .int .u8 0, .int .u8 0, .int .u8 0, .int .u8 0, .int .u8 0, .int .u8 0, .int .u8 0, .int .u8 0, .int .u8 0, .int .u8 0, .int .u8 0, .int .u8 0, .int .u8 0, .int .u64 0, .slice none 0 0, .slice none 0 0, .int .i64 0] 44)).setCells wr.heap.size 0 (entL id time (.slice A n c) (.slice A' n' c') code) = w3 at hN hE hbw ⊢
   go_upto_region 12 with fail
   refine wp_region_lit ?_
   refine wpList_valD (some 70) rfl rfl (exec_load rfl (by kernel_rfl) (hN.loadE HID.out)) ?_
   simp only [Zp, Zq, Zr, Zs]
   refine wpList_callD (some 71) rfl rfl 87 _ ?_ (HCE.out _) ?_
   ·go_simp; try (with_reducible rfl)
   rintro e w4 ⟨rfl, hb4⟩
   refine ⟨_, rfl, ?_⟩
   simp only [Zp, Zq, Zr, Zs]
   replace hbw := bl_call hbw (Nat.le_refl _) hb4
   replace hE := hE.call hb4
   clear hb4 hN
   refine wpList_valD (some 5) rfl rfl (by (go_simp; first | with_reducible rfl | exact ⟨rfl, rfl⟩ | (trace_state; fail))) ?_
   simp only [Zp, Zq, Zr, Zs]
   by_cases he : ec = 0
   ·have h2 : (ec != 0) = false := by simpa using he
    have HEE := Lib.hid he
    clear he
    go_wp2_with fail
    go_roundw
    case rel => exact ⟨1, by omega, by go_num, Lib.hid fun _ => HEE.out, hE, hbw⟩
    case measure => simp [intOf]
   ·have h2 : (ec != 0) = true := by simpa using he
    clear he
    go_wp2_with fail
    go_ret
    exact ⟨rfl, hbw⟩
  ·obtain rfl : k = 1 := by omega
   obtain rfl : ec = 0 := HK.out rfl
   go_wp2_with fail
   go_ret
   exact ⟨rfl, hbw⟩

end Go.Proofs.Ytbakkmfjamcbfaa

namespace Go.Proofs.Ytbakkmfjamcbfaa
open Go.RowKit Fm
set_option linter.unusedVariables false
set_option maxRecDepth 100000

theorem info_entry : (Try.prog.info? 44).map (fun i => (i.zero, i.size, i.bytes)) = some (some (.agg #[.int .u8 0, .int .u8 0, .int .u8 0, .int .u8 0, .int .u8 0, .int .u8 0, .int .u8 0, .int .u8 0, .int .u8 0, .int .u8 0, .int .u8 0, .int .u8 0, .int .u8 0, .int .u8 0, .int .u8 0, .int .u8 0, .int .u64 0, .slice none 0 0, .slice none 0 0, .int .i64 0]), 20, 80) := by kernel_rfl

theorem run_append_Ent (w : World) (base : Nat) (ty : TypeId) (v : Value) (n : Nat) (xs : List Value) (hown : w.ownsRow base 44 20 v n xs) (nb : Nat) (ys : List Value) (hys : ys.length = 20) (hN : Vs w nb ys) (h1 : ∀ u, u ∈ ys → u.oneCell' = true) (hbound : n + 1 ≤ 1000000) (hbase : base ≤ w.heap.size) :
  ∃ v' w', (Builtin.append_ #[25, 25] ty #[v, .slice (some ⟨nb, 0, none⟩) 1 1]).run Try.prog w = .ok v' w' ∧ w'.ownsRow base 44 20 v' (n + 1) (xs ++ ys) ∧ w.grownBy w' v.ownBlock ∧
   (v'.ownBlock = v.ownBlock ∨ v'.ownBlock = some w.heap.size) := by
 obtain ⟨i, hi, hz, hi1, hi2⟩ := info_parts info_entry
 obtain ⟨v', w', hrun, h3, h4, _, h5⟩ := run_append_own_at (P := Try.prog) w base 25 ty 44 i _ 20 80 Try.underlying25 hi hz hi1 hi2 rfl (by omega) v n _ hown ⟨nb, 0, none⟩ 1 1 ys
  (by rw [hys]) (fun j u hu => by
   have ha : (⟨nb, 0, none⟩ : Addr).add j = ⟨nb, 0 + j, none⟩ := by
    unfold Addr.add
    split <;> simp_all
   rw [ha, Nat.zero_add]
   exact hN.cell j u hu) h1 (by unfold maxLen; omega) (by omega) hbase
 exact ⟨v', w', hrun, h3, h4, h5⟩

theorem wpList_append_Ent {w : World} {ops : Array Oper} {rest : List Oper} {o : Oper} {a : Act} {Q : Exit → Act → World → Prop} (hgd : o.guard = none) (s x : Operand)
  (ho : o.op = .call { callee := .builtin .append, args := #[s, x], argTypes := #[25, 25] })
  (base : Nat) (v : Value) (n : Nat) (xs : List Value) (hs : a.eval s = v) (hown : w.ownsRow base 44 20 v n xs) (nb : Nat) (ys : List Value) (hx : a.eval x = .slice (some ⟨nb, 0, none⟩) 1 1)
  (hys : ys.length = 20) (hN : Vs w nb ys) (h1 : ∀ u, u ∈ ys → u.oneCell' = true) (hbound : n + 1 ≤ 1000000) (hbase : base ≤ w.heap.size)
  (h : ∀ v' w', w'.ownsRow base 44 20 v' (n + 1) (xs ++ ys) → w.grownBy w' v.ownBlock → (v'.ownBlock = v.ownBlock ∨ v'.ownBlock = some w.heap.size) → wpList Try.prog ops Q rest (a.put o.dst v') w') : wpList Try.prog ops Q (o :: rest) a w := by
 obtain ⟨v', w', hrun, h2, h3, h4⟩ := run_append_Ent w base o.type v n xs hown nb ys hys hN h1 hbound hbase
 refine wpList_plain hgd fun K hK => ?_
 unfold Oper.wp execOp
 simp only [ho, resolve, invoke, builtin, Sem.run_bind, Sem.run_pure, Result.andThen_ok, List.map_toArray, List.map_cons, List.map_nil, hs, hx, hrun]
 exact hK _ _ (h v' w' h2 h3 h4)

end Go.Proofs.Ytbakkmfjamcbfaa

namespace Go.Proofs.Ytbakkmfjamcbfaa
open Go.RowKit Fm
set_option linter.unusedVariables false
set_option maxRecDepth 100000

theorem size_msg : (Try.prog.info? 27).map (·.size) = some 22 := by kernel_rfl
theorem msgL_one (kind job start many : Int) (sum : List Int) (code : Int) {es : Value} (h1 : es.oneCell' = true) : ∀ v, v ∈ msgL kind job start many sum code es → v.oneCell' = true := by
 intro v hv
 unfold msgL at hv
 rcases List.mem_append.1 hv with h | h
 ·simp at h
  rcases h with rfl | rfl | rfl | rfl <;> rfl
 ·rcases List.mem_append.1 h with h | h
  ·exact one8 sum v h
  ·simp at h
   rcases h with rfl | rfl
   ·rfl
   ·exact h1
section
variable {w : World} {b : Nat} {id sum sum' : List Int} {time code kind job start many kind' job' start' many' code' : Int} {pu sh es es' : Value}
theorem Vs.loadM (h : Vs w b (msgL kind job start many sum code es)) (hk : sum.length = 16) : (Instr.loadAt 27 (.pointer (some ⟨b, 0, none⟩))).run Try.prog w = .ok (.agg (msgL kind job start many sum code es).toArray) w :=
 load_W h Try.underlying27 rfl (by rw [msgL_length hk]; exact size_msg)
theorem Vs.storeM (h : Vs w b (msgL kind' job' start' many' sum' code' es')) (hk' : sum'.length = 16) (hk : sum.length = 16) (h1 : es.oneCell' = true) : (Instr.storeAt 27 (.pointer (some ⟨b, 0, none⟩)) (.agg (msgL kind job start many sum code es).toArray)).run Try.prog w = .ok () (w.setCells b 0 (msgL kind job start many sum code es)) :=
 store_W h (by rw [msgL_length hk, msgL_length hk']) (by rw [msgL_length hk]; exact size_msg) (msgL_one kind job start many sum code h1)
theorem Vs.setMsg (h : Vs w b (msgL kind' job' start' many' sum' code' es')) (hk' : sum'.length = 16) (hk : sum.length = 16) : Vs (w.setCells b 0 (msgL kind job start many sum code es)) b (msgL kind job start many sum code es) := h.setW (by rw [msgL_length hk, msgL_length hk'])
theorem Vs.setPu (hid : id.length = 16) (h : Vs w b (entL id time pu sh code)) (v : Value) : Vs (w.setCell ⟨b, 17, none⟩ v) b (entL id time v sh code) := by
 have h1 := h.put 17 (by rw [entL_length hid]; omega) v
 have h2 : (entL id time pu sh code).set 17 v = entL id time v sh code := by
  unfold entL
  rw [List.set_append_right _ _ (by rw [cells8_length]; omega), cells8_length, hid]
  rfl
 rwa [h2] at h1
theorem Vs.setSh (hid : id.length = 16) (h : Vs w b (entL id time pu sh code)) (v : Value) : Vs (w.setCell ⟨b, 18, none⟩ v) b (entL id time pu v code) := by
 have h1 := h.put 18 (by rw [entL_length hid]; omega) v
 have h2 : (entL id time pu sh code).set 18 v = entL id time pu v code := by
  unfold entL
  rw [List.set_append_right _ _ (by rw [cells8_length]; omega), cells8_length, hid]
  rfl
 rwa [h2] at h1
theorem Vs.setEs (hk : sum.length = 16) (h : Vs w b (msgL kind job start many sum code es)) (v : Value) : Vs (w.setCell ⟨b, 21, none⟩ v) b (msgL kind job start many sum code v) := by
 have h1 := h.put 21 (by rw [msgL_length hk]; omega) v
 have h2 : (msgL kind job start many sum code es).set 21 v = msgL kind job start many sum code v := by
  unfold msgL
  rw [List.set_append_right _ _ (by simp), List.set_append_right _ _ (by rw [cells8_length, hk]; simp), cells8_length, hk]
  rfl
 rwa [h2] at h1
theorem results_msg {fn : Func} {p : Tmp} {tmps : Array Value} (hv : Vs w b (msgL kind job start many sum code es)) (hk : sum.length = 16) (h : fn.results = #[.cell p 27]) (hp : tmps.getD p undef = .pointer (some ⟨b, 0, none⟩)) :
  (results fn tmps).run Try.prog w = .ok (.agg (msgL kind job start many sum code es).toArray) w := by
 have hl : (loadVar 27 ⟨b, 0, none⟩).run Try.prog w = _ := loadVar_W hv Try.underlying27 rfl (by rw [msgL_length hk]; exact size_msg)
 rw [Array.getD_eq_getD_getElem?] at hp
 simp only [results, h]
 simp [asAddr, hp, hl]
end
theorem exec_buildSlice {w w' : World} {ρ : Operand → Value} {o : Oper} {T : TypeId} {n : Nat} {ps : Array (Nat × Operand)} {qs : Array (Nat × Value)} {v : Value} (ho : o.op = .buildSlice T n ps) (hx : (ps.map fun (i, x) => (i, ρ x)) = qs) (h : (Instr.buildSlice T n qs).run Try.prog w = .ok v w') : (execOp ρ o).run Try.prog w = .ok (.value v) w' := by
 unfold execOp
 simp only [ho, hx, Sem.run_bind, h, Result.andThen_ok, Sem.run_pure]
theorem build_entry {id : List Int} (hid : id.length = 16) (time code : Int) (A A' : Option Addr) (n c n' c' : Nat) (w : World) :
  (Instr.buildSlice 25 1 #[(0, .agg (entL id time (.slice A n c) (.slice A' n' c') code).toArray)]).run Try.prog w = .ok (.slice (some ⟨w.heap.size, 0, none⟩) 1 1) (w.alloc (.cells (entL id time (.slice A n c) (.slice A' n' c') code).toArray 44)) := by
 obtain ⟨x0, x1, x2, x3, x4, x5, x6, x7, y0, y1, y2, y3, y4, y5, y6, y7, rfl⟩ := list16 hid
 kernel_rfl

theorem own_vs20 {w : World} {base g c : Nat} {e : TypeId} {xs : List Value} (h : w.ownsRow base e 20 (.slice (some ⟨g, 0, none⟩) 1 c) 1 xs) : Vs w g xs ∧ base ≤ g := by
 have hl := h.1
 rcases h.2 with ⟨hv, _⟩ | ⟨g', cap, cur, hv, hb, hg, hnc, hcm, hcs, ht⟩
 ·cases hv
 ·injection hv with e1 e2 e3
  injection e1 with e1
  injection e1 with e1
  subst e1
  subst e3
  refine ⟨⟨fun i v hi => ?_, fun i hi => ?_, ?_⟩, hb⟩
  ·rw [← ht] at hi
   have hlt : i < 1 * 20 := by
    obtain ⟨h1, _⟩ := List.getElem?_eq_some_iff.1 hi
    rw [List.length_take] at h1
    omega
   rw [List.getElem?_take_of_lt hlt] at hi
   simp [World.cell?, hg]
   simpa using hi
  ·simp [World.frozen?, hg]
  ·exact (Array.getElem?_eq_some_iff.1 hg).1

structure ClE (B : Nat) (w' : World) (id : List Int) (time code : Int) (xs ys : List Int) (n n' : Nat) (v : Value) : Prop where
 ex : ∃ (A2 A3 : Option Addr) (c2 c3 g cg : Nat), v = .slice (some ⟨g, 0, none⟩) 1 cg ∧ B ≤ g ∧ Vs w' g (entL id time (.slice A2 n c2) (.slice A3 n' c3) code) ∧ w'.ownsRow B 5 1 (.slice A2 n c2) n (cells8 xs) ∧ w'.ownsRow B 5 1 (.slice A3 n' c3) n' (cells8 ys) ∧ ∀ q, (Value.slice A3 n' c3).ownBlock = some q → q ≠ g
theorem ClE.call {B : Nat} {w' w2 : World} {id : List Int} {time code : Int} {xs ys : List Int} {n n' : Nat} {v : Value} (h : ClE B w' id time code xs ys n n' v) (hb : Below w'.heap.size w' w2) : ClE B w2 id time code xs ys n n' v := by
 obtain ⟨A2, A3, c2, c3, g, cg, h1, h2, h3, h4, h5, h6⟩ := h
 exact ⟨A2, A3, c2, c3, g, cg, h1, h2, h3.call hb, own_call h4 hb, own_call h5 hb, h6⟩

set_option maxHeartbeats 8000000 in
theorem msg_Clone1 (id : List Int) (hid : id.length = 16) (time code : Int) (A A' : Option Addr) (n c n' c' g cg : Nat) (xs ys : List Int) (hx : xs.length = n) (hy : ys.length = n') (hn : n ≤ 1000000) (hn' : n' ≤ 1000000) (w : World)
  (hX : 0 < n → ∃ b o, A = some ⟨b, o, none⟩ ∧ b < w.heap.size ∧ RowB w b o xs) (hY : 0 < n' → ∃ b o, A' = some ⟨b, o, none⟩ ∧ b < w.heap.size ∧ RowB w b o ys)
  (hE : Vs w g (entL id time (.slice A n c) (.slice A' n' c') code)) :
  Calls Try.prog 50 #[.agg (msgL 1 0 0 0 z16 0 (.slice (some ⟨g, 0, none⟩) 1 cg)).toArray] w fun e w' => ∃ v, e = .returned (.agg (msgL 1 0 0 0 z16 0 v).toArray) ∧ ClE (w.heap.size + 2) w' id time code xs ys n n' v ∧ Below w.heap.size w w' := by
 have HID := Lib.hid hid
 have HX := Lib.hid hX
 have HY := Lib.hid hY
 have HXL := Lib.hid hx
 have HYL := Lib.hid hy
 clear hid hX hY hx hy
 go_enter Try.func50, Try.ntmps50
 go_upto_region 1 with fail
 have hM := (Vs.new w (msgL 1 0 0 0 z16 0 (.slice (some ⟨g, 0, none⟩) 1 cg)) ((msgL 1 0 0 0 z16 0 (.slice (some ⟨g, 0, none⟩) 1 cg)).toArray) 27 rfl).alloc (.cells #[.int .u8 0, .int .u64 0, .int .u64 0, .int .i64 0, .int .u8 0, .int .u8 0, .int .u8 0, .int .u8 0, .int .u8 0, .int .u8 0, .int .u8 0, .int .u8 0, .int .u8 0, .int .u8 0, .int .u8 0, .int .u8 0, .int .u8 0, .int .u8 0, .int .u8 0, .int .u8 0, .int .i64 0, .slice none 0 0] 27)
 have hr := Vs.new (w.alloc (.cells (msgL 1 0 0 0 z16 0 (.slice (some ⟨g, 0, none⟩) 1 cg)).toArray 27)) (msgL 0 0 0 0 z16 0 (.slice none 0 0)) (#[.int .u8 0, .int .u64 0, .int .u64 0, .int .i64 0, .int .u8 0, .int .u8 0, .int .u8 0, .int .u8 0, .int .u8 0, .int .u8 0, .int .u8 0, .int .u8 0, .int .u8 0, .int .u8 0, .int .u8 0, .int .u8 0, .int .u8 0, .int .u8 0, .int .u8 0, .int .u8 0, .int .i64 0, .slice none 0 0]) 27 rfl
 simp only [World.size_alloc] at hr
 have hb00 : Below w.heap.size w ((w.alloc (.cells (msgL 1 0 0 0 z16 0 (.slice (some ⟨g, 0, none⟩) 1 cg)).toArray 27)).alloc (.cells #[.int .u8 0, .int .u64 0, .int .u64 0, .int .i64 0, .int .u8 0, .int .u8 0, .int .u8 0, .int .u8 0, .int .u8 0, .int .u8 0, .int .u8 0, .int .u8 0, .int .u8 0, .int .u8 0, .int .u8 0, .int .u8 0, .int .u8 0, .int .u8 0, .int .u8 0, .int .u8 0, .int .i64 0, .slice none 0 0] 27)) := by repeat (first | exact bA | with_reducible assumption | apply bB)
 have hszn : w.heap.size + 2 ≤ ((w.alloc (.cells (msgL 1 0 0 0 z16 0 (.slice (some ⟨g, 0, none⟩) 1 cg)).toArray 27)).alloc (.cells #[.int .u8 0, .int .u64 0, .int .u64 0, .int .i64 0, .int .u8 0, .int .u8 0, .int .u8 0, .int .u8 0, .int .u8 0, .int .u8 0, .int .u8 0, .int .u8 0, .int .u8 0, .int .u8 0, .int .u8 0, .int .u8 0, .int .u8 0, .int .u8 0, .int .u8 0, .int .u8 0, .int .i64 0, .slice none 0 0] 27)).heap.size := by simp only [World.size_alloc]; omega
 generalize ((w.alloc (.cells (msgL 1 0 0 0 z16 0 (.slice (some ⟨g, 0, none⟩) 1 cg)).toArray 27)).alloc (.cells #[.int .u8 0, .int .u64 0, .int .u64 0, .int .i64 0, .int .u8 0, .int .u8 0, .int .u8 0, .int .u8 0, .int .u8 0, .int .u8 0, .int .u8 0, .int .u8 0, .int .u8 0, .int .u8 0, .int .u8 0, .int .u8 0, .int .u8 0, .int .u8 0, .int .u8 0, .int .u8 0, .int .i64 0, .slice none 0 0] 27)) = w1 at hM hr hb00 hszn ⊢
 replace hE := hE.call hb00
 obtain ⟨m0, m1, m2, m3, m4, m5, m6, m7⟩ := hM.msg z16_length
 go_upto_region 2 with fail
 go_wp2_with fail
 clear m0 m1 m2 m3 m4 m5 m6 m7
 go_loopw [3, 9] (fun v3 i wr => ((i = .int .i64 0 ∧ v3 = .slice none 0 0) ∨ (i = .int .i64 1 ∧ ClE (w.heap.size + 2) wr id time code xs ys n n' v3)) ∧ Vs wr w.heap.size (msgL 1 0 0 0 z16 0 (.slice (some ⟨g, 0, none⟩) 1 cg)) ∧ Vs wr (w.heap.size + 1) (msgL 0 0 0 0 z16 0 (.slice none 0 0)) ∧ Vs wr g (entL id time (.slice A n c) (.slice A' n' c') code) ∧ Below w.heap.size w wr) (fun _ i _ => 1 - (intOf i).toNat)
 case atStart => exact ⟨.inl ⟨rfl, rfl⟩, hM, hr, hE, hb00⟩
 case round =>
  clear hM hr hE hb00
  obtain ⟨hcase, hM, hr, hE, hbw⟩ := hrel
  rcases hcase with ⟨rfl, rfl⟩ | ⟨rfl, hcl⟩
  ·go_upto_region 4 with fail
   refine wp_region_lit ?_
   refine wpList_valD (some 11) rfl rfl (by (go_simp; first | with_reducible rfl | exact ⟨rfl, rfl⟩ | (trace_state; fail))) ?_
   simp only [Zp, Zq, Zr, Zs]
   refine wpList_valD (some 12) rfl rfl (exec_load rfl (by kernel_rfl) (hE.loadE HID.out)) ?_
   simp only [Zp, Zq, Zr, Zs]
   refine wpList_valD (some 5) rfl rfl (by (skip; go_simp; first | with_reducible rfl | exact ⟨rfl, rfl⟩ | (trace_state; fail))) ?_
   simp only [Zp, Zq, Zr, Zs]
   have hN := Vs.new wr (entL z16 0 (.slice none 0 0) (.slice none 0 0) 0) #[.int .u8 0, .int .u8 0, .int .u8 0, .int .u8 0, .int .u8 0, .int .u8 0, .int .u8 0, .int .u8 0, .int .u8 0, .int .u8 0, .int .u8 0, .int .u8 0, .int .u8 0, .int .u8 0, .int .u8 0, .int .u8 0, .int .u64 0, .slice none 0 0, .slice none 0 0, .int .i64 0] 44 rfl
   have hbA := (Below.refl wr.heap.size wr).alloc (Nat.le_refl _) (.cells #[.int .u8 0, .int .u8 0, .int .u8 0, .int .u8 0, .int .u8 0, .int .u8 0, .int .u8 0, .int .u8 0, .int .u8 0, .int .u8 0, .int .u8 0, .int .u8 0, .int .u8 0, .int .u8 0, .int .u8 0, .int .u8 0, .int .u64 0, .slice none 0 0, .slice none 0 0, .int .i64 0] 44)
   have hst := hN.storeE (id := id) (time := time) (code := code) (pu := .slice A n c) (sh := .slice A' n' c') z16_length HID.out rfl rfl
   refine wpList_skipD rfl rfl (exec_store rfl (by kernel_rfl) (by kernel_rfl) hst) ?_
   replace hN := hN.setE (id := id) (time := time) (code := code) (pu := .slice A n c) (sh := .slice A' n' c') z16_length HID.out
   have hbC := bl_setCells hbA (Nat.le_refl _) 0 (entL id time (.slice A n c) (.slice A' n' c') code)
   have hwl := hbw.size
   have hrl := hr.lt
   have hgl := hE.lt
   replace hbw := bl_call hbw (Nat.le_refl _) hbC
   replace hM := hM.call hbC
   replace hr := hr.call hbC
   replace hE := hE.call hbC
   clear hst hbA hbC
   generalize (wr.alloc (.cells #[.int .u8 0, .int .u8 0, .int .u8 0, .int .u8 0, .int .u8 0, .int .u8 0, .int .u8 0, .int .u8 0, .int .u8 0, .int .u8 0, .int .u8 0, .int .u8 0, .int .u8 0, .int .u8 0, .int .u8 0, .int .u8 0, .int .u64 0, .slice none 0 0, .slice none 0 0, .int .i64 0] 44)).setCells wr.heap.size 0 (entL id time (.slice A n c) (.slice A' n' c') code) = w3 at hN hM hr hE hbw ⊢
   generalize wr.heap.size = nb at hN hwl hrl hgl ⊢
   have hnl := hN.lt
   go_upto_region 5 with fail
   have HR5 : Hid (0 < n → ∃ b o, A = some ⟨b, o, none⟩ ∧ RowB w3 b o xs) := Lib.hid fun h => by
    obtain ⟨b, o, h1, h2, h3⟩ := HX.out h
    exact ⟨b, o, h1, h3.belowB hbw h2⟩
   have hbase5 : w.heap.size + 2 ≤ w3.heap.size := by
    have := hr.lt
    omega
   have hk5 : 0 + n ≤ 1099511627776 := by omega
   obtain ⟨e0, e1, e2, e3, e4, e5, e6⟩ := hN.ent HID.out
   go_upto_region 6 with (at_builtin; (refine wpList_append_B rfl (.const (.slice none 0 0)) (.tmp 14) rfl (w.heap.size + 2) _ 0 [] rfl (World.ownsRow_nil _ _ _ _) A n c xs rfl HXL.out HR5.out hk5 hbase5 ?_; intro v2 w7 hown5 hg5 hat5; rw [Nat.zero_add, List.nil_append] at hown5; obtain ⟨A2, c2, hv2⟩ := own_shape hown5; subst hv2; have hbx5 := (Below.refl w3.heap.size w3).grown hg5 (Nat.le_refl _) (fun q hq => by have h : (none : Option Nat) = some q := hq; cases h); have hN7 := hN.call hbx5; clear e0 e1 e2 e3 e4 e5 e6; obtain ⟨e0, e1, e2, e3, e4, e5, e6⟩ := hN7.ent HID.out))
   clear e0 e1 e2 e3 e4 e5 e6
   have hq5 : ∀ q, (Value.slice A2 n c2).ownBlock = some q → q ≠ nb := fun q hq => by
    rcases hat5 with h | h
    ·rw [h] at hq
     have h9 : (none : Option Nat) = some q := hq
     cases h9
    ·rw [h] at hq
     injection hq with hq
     omega
   have hN8 := hN7.setPu HID.out (.slice A2 n c2)
   have hM8 := (hM.call hbx5).far (p := ⟨nb, 17, none⟩) (by dsimp only; omega) (.slice A2 n c2)
   have hr8 := (hr.call hbx5).far (p := ⟨nb, 17, none⟩) (by dsimp only; omega) (.slice A2 n c2)
   have hE8 := (hE.call hbx5).far (p := ⟨nb, 17, none⟩) (by dsimp only; omega) (.slice A2 n c2)
   have hbw8 := bl_set (p := ⟨nb, 17, none⟩) (bl_call hbw (Nat.le_refl _) hbx5) (by dsimp only; omega) (.slice A2 n c2)
   have hex5 := exc_sc (S := fun q => q = nb) (exc_of (Below.refl w7.heap.size w7)) (.inl rfl) 17 (.slice A2 n c2)
   have hO5 := own_other hown5 hex5 (fun q hq => hq5 q hq)
   clear hN hN7 hM hr hE hbw hbx5 hown5 hex5 hat5 hg5 HR5 hbase5 hk5
   generalize w7.setCell ⟨nb, 17, none⟩ (.slice A2 n c2) = w8 at hN8 hM8 hr8 hE8 hbw8 hO5 ⊢
   have hN := hN8
   have hM := hM8
   have hr := hr8
   have hE := hE8
   have hbw := hbw8
   clear hN8 hM8 hr8 hE8 hbw8
   have hnl := hN.lt
   have HR6 : Hid (0 < n' → ∃ b o, A' = some ⟨b, o, none⟩ ∧ RowB w8 b o ys) := Lib.hid fun h => by
    obtain ⟨b, o, h1, h2, h3⟩ := HY.out h
    exact ⟨b, o, h1, h3.belowB hbw h2⟩
   have hbase6 : w.heap.size + 2 ≤ w8.heap.size := by
    have := hr.lt
    omega
   have hk6 : 0 + n' ≤ 1099511627776 := by omega
   obtain ⟨e0, e1, e2, e3, e4, e5, e6⟩ := hN.ent HID.out
   go_upto_region 7 with (at_builtin; (refine wpList_append_B rfl (.const (.slice none 0 0)) (.tmp 18) rfl (w.heap.size + 2) _ 0 [] rfl (World.ownsRow_nil _ _ _ _) A' n' c' ys rfl HYL.out HR6.out hk6 hbase6 ?_; intro v2 w9 hown6 hg6 hat6; rw [Nat.zero_add, List.nil_append] at hown6; obtain ⟨A3, c3, hv2⟩ := own_shape hown6; subst hv2; have hbx6 := (Below.refl w8.heap.size w8).grown hg6 (Nat.le_refl _) (fun q hq => by have h : (none : Option Nat) = some q := hq; cases h); have hN7 := hN.call hbx6; clear e0 e1 e2 e3 e4 e5 e6; obtain ⟨e0, e1, e2, e3, e4, e5, e6⟩ := hN7.ent HID.out))
   clear e0 e1 e2 e3 e4 e5 e6
   have hq6 : ∀ q, (Value.slice A3 n' c3).ownBlock = some q → q ≠ nb := fun q hq => by
    rcases hat6 with h | h
    ·rw [h] at hq
     have h9 : (none : Option Nat) = some q := hq
     cases h9
    ·rw [h] at hq
     injection hq with hq
     omega
   have hN8 := hN7.setSh HID.out (.slice A3 n' c3)
   have hM8 := (hM.call hbx6).far (p := ⟨nb, 18, none⟩) (by dsimp only; omega) (.slice A3 n' c3)
   have hr8 := (hr.call hbx6).far (p := ⟨nb, 18, none⟩) (by dsimp only; omega) (.slice A3 n' c3)
   have hE8 := (hE.call hbx6).far (p := ⟨nb, 18, none⟩) (by dsimp only; omega) (.slice A3 n' c3)
   have hbw8 := bl_set (p := ⟨nb, 18, none⟩) (bl_call hbw (Nat.le_refl _) hbx6) (by dsimp only; omega) (.slice A3 n' c3)
   have hex6 := exc_sc (S := fun q => q = nb) (exc_of (Below.refl w9.heap.size w9)) (.inl rfl) 18 (.slice A3 n' c3)
   have hO6 := own_other hown6 hex6 (fun q hq => hq6 q hq)
   have hO5b := own_other (own_call hO5 hbx6) hex6 (fun q hq => hq5 q hq)
   clear hO5
   clear hN hN7 hM hr hE hbw hbx6 hown6 hex6 hat6 hg6 HR6 hbase6 hk6
   generalize w9.setCell ⟨nb, 18, none⟩ (.slice A3 n' c3) = w10 at hN8 hM8 hr8 hE8 hbw8 hO6 hO5b ⊢
   have hN := hN8
   have hM := hM8
   have hr := hr8
   have hE := hE8
   have hbw := hbw8
   clear hN8 hM8 hr8 hE8 hbw8
   have hnl := hN.lt
   have hHS := hbw.size
   refine wp_region_lit ?_
   refine wpList_valD (some 21) rfl rfl (by (go_simp; first | with_reducible rfl | exact ⟨rfl, rfl⟩ | (trace_state; fail))) ?_
   simp only [Zp, Zq, Zr, Zs]
   refine wpList_valD (some 22) rfl rfl (exec_load rfl (by kernel_rfl) (hN.loadE HID.out)) ?_
   simp only [Zp, Zq, Zr, Zs]
   refine wpList_valD (some 23) rfl rfl (exec_buildSlice rfl (by kernel_rfl) (build_entry HID.out time code A2 A3 n c2 n' c3 w10)) ?_
   simp only [Zp, Zq, Zr, Zs]
   have hB9 := Vs.new w10 (entL id time (.slice A2 n c2) (.slice A3 n' c3) code) _ 44 rfl
   have hbA := (Below.refl w10.heap.size w10).alloc (Nat.le_refl _) (.cells (entL id time (.slice A2 n c2) (.slice A3 n' c3) code).toArray 44)
   have hO5c := own_call hO5b hbA
   have hO6c := own_call hO6 hbA
   replace hbw := bl_call hbw (Nat.le_refl _) hbA
   replace hM := hM.call hbA
   replace hr := hr.call hbA
   replace hE := hE.call hbA
   clear hO5b hO6 hbA hN
   generalize w10.alloc (.cells (entL id time (.slice A2 n c2) (.slice A3 n' c3) code).toArray 44) = w11 at hB9 hO5c hO6c hM hr hE hbw ⊢
   obtain ⟨ab, hab⟩ : ∃ z, w10.heap.size = z := ⟨_, rfl⟩
   rw [hab] at hB9
   simp only [hab]
   clear hab
   have hbase : w.heap.size + 2 ≤ w11.heap.size := by
    have := hr.lt
    omega
   refine wpList_append_Ent rfl (.tmp 21) (.tmp 23) rfl (w.heap.size + 2) (.slice none 0 0) 0 [] (by kernel_rfl) (World.ownsRow_nil _ _ _ _) ab (entL id time (.slice A2 n c2) (.slice A3 n' c3) code) (by kernel_rfl) (entL_length HID.out) hB9 (entL_one id time code rfl rfl) (by omega) hbase ?_
   intro v9 w12 hown9 hg9 hat9
   rw [Nat.zero_add, List.nil_append] at hown9
   obtain ⟨gg, cgg, hv9⟩ := own_slice (n := 0) hown9
   subst hv9
   obtain ⟨hVg, hgg⟩ := own_vs20 hown9
   have hbx := (Below.refl w11.heap.size w11).grown hg9 (Nat.le_refl _) (fun q hq => by have h : (none : Option Nat) = some q := hq; cases h)
   have HCL : Hid (ClE (w.heap.size + 2) w12 id time code xs ys n n' (.slice (some ⟨gg, 0, none⟩) 1 cgg)) := Lib.hid ⟨A2, A3, c2, c3, gg, cgg, rfl, hgg, hVg, own_call hO5c hbx, own_call hO6c hbx, fun q hq e => own_ne (by decide) (own_call hO6c hbx) hown9 hq (by rw [e]; rfl)⟩
   replace hbw := bl_call hbw (Nat.le_refl _) hbx
   replace hM := hM.call hbx
   replace hr := hr.call hbx
   replace hE := hE.call hbx
   clear hB9 hO5c hO6c hown9 hVg hbx hat9 hg9 hbase
   go_wp2_with fail
   go_roundw
   case rel => exact ⟨.inr ⟨by go_num, HCL.out⟩, hM, hr, hE, hbw⟩
   case measure => simp [intOf]
  ·obtain ⟨A2, A3, c2, c3, g2, cg2, rfl, h2, h3, h4, h5, h6⟩ := hcl
   obtain ⟨m0, m1, m2, m3, m4, m5, m6, m7⟩ := hM.msg z16_length
   go_upto_region 10 with fail
   clear m0 m1 m2 m3 m4 m5 m6 m7
   have hwl := hr.lt
   have hM2 := hM.setEs z16_length (.slice (some ⟨g2, 0, none⟩) 1 cg2)
   have hr2 := hr.far (p := ⟨w.heap.size, 21, none⟩) (by dsimp only; omega) (.slice (some ⟨g2, 0, none⟩) 1 cg2)
   have hb2 := bl_set (p := ⟨w.heap.size, 21, none⟩) hbw (Nat.le_refl _) (.slice (some ⟨g2, 0, none⟩) 1 cg2)
   have h3b := h3.far (p := ⟨w.heap.size, 21, none⟩) (by dsimp only; omega) (.slice (some ⟨g2, 0, none⟩) 1 cg2)
   have hexm := exc_sc (S := fun q => q = w.heap.size) (exc_of (Below.refl wr.heap.size wr)) (.inl rfl) 21 (.slice (some ⟨g2, 0, none⟩) 1 cg2)
   have h4b := own_other h4 hexm (fun q hq h => by
    have h9 : q = w.heap.size := h
    have := (World.ownsRow.lt h4 q hq).1
    omega)
   have h5b := own_other h5 hexm (fun q hq h => by
    have h9 : q = w.heap.size := h
    have := (World.ownsRow.lt h5 q hq).1
    omega)
   clear hM hr hE hbw h3 h4 h5 hexm
   generalize wr.setCell ⟨w.heap.size, 21, none⟩ (.slice (some ⟨g2, 0, none⟩) 1 cg2) = w13 at hM2 hr2 hb2 h3b h4b h5b ⊢
   have hst := hr2.storeM (kind := 1) (job := 0) (start := 0) (many := 0) (sum := z16) (code := 0) (es := (.slice (some ⟨g2, 0, none⟩) 1 cg2)) z16_length z16_length rfl
   have HR := Lib.hid (hr2.setMsg (kind := 1) (job := 0) (start := 0) (many := 0) (sum := z16) (code := 0) (es := (.slice (some ⟨g2, 0, none⟩) 1 cg2)) z16_length z16_length)
   have HB := Lib.hid (bl_setCells hb2 (b := w.heap.size + 1) (by omega) 0 (msgL 1 0 0 0 z16 0 (.slice (some ⟨g2, 0, none⟩) 1 cg2)))
   have hexr := exc_setCells (S := fun q => q = w.heap.size + 1) (B := w13.heap.size) (w.heap.size + 1) rfl (msgL 1 0 0 0 z16 0 (.slice (some ⟨g2, 0, none⟩) 1 cg2)) 0 w13 (exc_of (Below.refl _ _))
   have h4c := own_other h4b hexr (fun q hq h => by
    have h9 : q = w.heap.size + 1 := h
    have := (World.ownsRow.lt h4b q hq).1
    omega)
   have h5c := own_other h5b hexr (fun q hq h => by
    have h9 : q = w.heap.size + 1 := h
    have := (World.ownsRow.lt h5b q hq).1
    omega)
   have HCL : Hid (ClE (w.heap.size + 2) (w13.setCells (w.heap.size + 1) 0 (msgL 1 0 0 0 z16 0 (.slice (some ⟨g2, 0, none⟩) 1 cg2))) id time code xs ys n n' (.slice (some ⟨g2, 0, none⟩) 1 cg2)) := Lib.hid ⟨A2, A3, c2, c3, g2, cg2, rfl, h2, Vs.farW h3b (b' := w.heap.size + 1) (by omega) 0 (msgL 1 0 0 0 z16 0 (.slice (some ⟨g2, 0, none⟩) 1 cg2)), h4c, h5c, h6⟩
   clear h3b h4b h5b h4c h5c hexr hr2 hb2
   refine wp_region_lit ?_
   refine wpList_valD (some 28) rfl rfl (exec_load rfl (by kernel_rfl) (hM2.loadM z16_length)) ?_
   simp only [Zp, Zq, Zr, Zs]
   refine wpList_skipD rfl rfl (exec_store rfl (by kernel_rfl) (by kernel_rfl) hst) ?_
   go_upto_region 99 with fail
   exact bodyPost_ret (results_msg (b := w.heap.size + 1) HR.out z16_length rfl rfl) rfl ⟨_, rfl, HCL.out, HB.out⟩

end Go.Proofs.Ytbakkmfjamcbfaa

namespace Go.Proofs.Ytbakkmfjamcbfaa
open Go.RowKit Fm
set_option linter.unusedVariables false
set_option maxRecDepth 100000

section
variable {w : World} {b : Nat} {p l l' q : List Value}
theorem Vs.thereP (h : Vs w b (p ++ l ++ q)) : w.there b p.length l.length := fun j hj => by
 have hi : (p ++ l ++ q)[p.length + j]? = some l[j] := by
  rw [List.append_assoc, List.getElem?_append_right (by omega), show p.length + j - p.length = j by omega, List.getElem?_append_left hj]
  exact List.getElem?_eq_getElem hj
 rw [h.cell _ _ hi]
 exact ⟨rfl, h.frz _ (by rw [List.length_append, List.length_append]; omega)⟩
theorem store_P {T : TypeId} (h : Vs w b (p ++ l ++ q)) (hl : l'.length = l.length) (hi : (Try.prog.info? T).map (·.size) = some l'.length) (h1 : ∀ v, v ∈ l' → v.oneCell' = true) :
  (Instr.storeAt T (.pointer (some ⟨b, p.length, none⟩)) (.agg l'.toArray)).run Try.prog w = .ok () (w.setCells b p.length l') :=
 run_storeAt_mid w b p.length T l'.toArray (by rw [List.size_toArray, hl]; exact h.thereP) (by rw [List.size_toArray]; exact hi) (all_oneCell_toArray h1)
theorem Vs.setP (h : Vs w b (p ++ l ++ q)) (hl : l'.length = l.length) : Vs (w.setCells b p.length l') b (p ++ l' ++ q) := by
 refine ⟨fun i x hi => ?_, fun i hi => ?_, by rw [size_setCells]; exact h.lt⟩
 ·by_cases h1 : i < p.length
  ·rw [World.cell?_setCells_out b l' p.length w ⟨b, i, none⟩ (fun _ _ => .inl h1)]
   refine h.cell i x ?_
   rw [List.append_assoc, List.getElem?_append_left h1] at hi ⊢
   exact hi
  ·by_cases h2 : i < p.length + l'.length
   ·obtain ⟨j, rfl⟩ : ∃ j, i = p.length + j := ⟨i - p.length, by omega⟩
    have hj : j < l'.length := by omega
    rw [World.cell?_setCells_in b l' p.length w (fun k hk => (h.thereP k (by rw [← hl]; exact hk)).1) j hj]
    rw [List.append_assoc, List.getElem?_append_right (by omega), show p.length + j - p.length = j by omega, List.getElem?_append_left hj, List.getElem?_eq_getElem hj] at hi
    exact hi
   ·rw [World.cell?_setCells_out b l' p.length w ⟨b, i, none⟩ (fun _ _ => .inr (by dsimp only; omega))]
    refine h.cell i x ?_
    rw [List.getElem?_append_right (by rw [List.length_append]; omega), List.length_append] at hi ⊢
    rw [← hl]
    exact hi
 ·rw [World.frozen?_setCells]
  exact h.frz i (by rw [List.length_append, List.length_append] at hi ⊢; omega)
end

def clL (id : List Int) (m0 m1 : List Value) (d0 d1 : Bool) (k0 k1 due wait tries : Int) : List Value := cells8 id ++ (m0 ++ (m1 ++ [.bool d0, .bool d1, .int .i64 k0, .int .i64 k1, .int .u64 due, .int .u64 wait, .int .i64 tries]))
section
variable {w : World} {b : Nat} {id : List Int} {m0 m1 m : List Value} {d0 d1 : Bool} {k0 k1 due wait tries : Int}
theorem clL_length (hi : id.length = 16) (h0 : m0.length = 22) (h1 : m1.length = 22) : (clL id m0 m1 d0 d1 k0 k1 due wait tries).length = 67 := by
 unfold clL
 rw [List.length_append, List.length_append, List.length_append, cells8_length, hi, h0, h1]
 rfl
theorem Vs.cl (hi : id.length = 16) (h0 : m0.length = 22) (h1 : m1.length = 22) (h : Vs w b (clL id m0 m1 d0 d1 k0 k1 due wait tries)) :
  (w.cell? ⟨b, 60, none⟩ = some (.bool d0) ∧ w.cell? ⟨b, 61, none⟩ = some (.bool d1) ∧ w.cell? ⟨b, 62, none⟩ = some (.int .i64 k0) ∧ w.cell? ⟨b, 63, none⟩ = some (.int .i64 k1) ∧ w.cell? ⟨b, 64, none⟩ = some (.int .u64 due) ∧ w.cell? ⟨b, 65, none⟩ = some (.int .u64 wait) ∧ w.cell? ⟨b, 66, none⟩ = some (.int .i64 tries)) ∧
  (∀ i, i < 67 → w.frozen? ⟨b, i, none⟩ = false) ∧ b < w.heap.size := by
 have hl := clL_length (d0 := d0) (d1 := d1) (k0 := k0) (k1 := k1) (due := due) (wait := wait) (tries := tries) hi h0 h1
 have key : ∀ i (x : Value), [.bool d0, .bool d1, .int .i64 k0, .int .i64 k1, .int .u64 due, .int .u64 wait, .int .i64 tries][i]? = some x → w.cell? ⟨b, 60 + i, none⟩ = some x := fun i x hx => h.cell (60 + i) x (by
  unfold clL
  rw [List.getElem?_append_right (by rw [cells8_length]; omega), List.getElem?_append_right (by rw [cells8_length]; omega), List.getElem?_append_right (by rw [cells8_length]; omega), cells8_length, hi, h0, h1, show 60 + i - 16 - 22 - 22 = i by omega]
  exact hx)
 exact ⟨⟨key 0 _ rfl, key 1 _ rfl, key 2 _ rfl, key 3 _ rfl, key 4 _ rfl, key 5 _ rfl, key 6 _ rfl⟩, fun i hx => h.frz i (by omega), h.lt⟩
theorem Vs.loadUp0 (hi : id.length = 16) (h0 : m0.length = 22) (h : Vs w b (clL id m0 m1 d0 d1 k0 k1 due wait tries)) : (Instr.loadAt 27 (.pointer (some ⟨b, 16, none⟩))).run Try.prog w = .ok (.agg m0.toArray) w := by
 unfold clL at h
 rw [← List.append_assoc] at h
 have h2 := load_P h Try.underlying27 rfl (by rw [h0]; exact size_msg)
 rw [cells8_length, hi] at h2
 exact h2
theorem Vs.loadUp1 (hi : id.length = 16) (h0 : m0.length = 22) (h1 : m1.length = 22) (h : Vs w b (clL id m0 m1 d0 d1 k0 k1 due wait tries)) : (Instr.loadAt 27 (.pointer (some ⟨b, 38, none⟩))).run Try.prog w = .ok (.agg m1.toArray) w := by
 unfold clL at h
 rw [← List.append_assoc, ← List.append_assoc] at h
 have h2 := load_P h Try.underlying27 rfl (by rw [h1]; exact size_msg)
 rw [List.length_append, cells8_length, hi, h0] at h2
 exact h2
theorem Vs.storeUp0 (hi : id.length = 16) (h0 : m0.length = 22) (hm : m.length = 22) (ho : ∀ v, v ∈ m → v.oneCell' = true) (h : Vs w b (clL id m0 m1 d0 d1 k0 k1 due wait tries)) : (Instr.storeAt 27 (.pointer (some ⟨b, 16, none⟩)) (.agg m.toArray)).run Try.prog w = .ok () (w.setCells b 16 m) ∧ Vs (w.setCells b 16 m) b (clL id m m1 d0 d1 k0 k1 due wait tries) := by
 unfold clL at h ⊢
 rw [← List.append_assoc] at h ⊢
 have h2 := store_P (T := 27) h (l' := m) (by omega) (by rw [hm]; exact size_msg) ho
 have h3 := Vs.setP h (l' := m) (by omega)
 rw [cells8_length, hi] at h2 h3
 exact ⟨h2, h3⟩
theorem Vs.storeUp1 (hi : id.length = 16) (h0 : m0.length = 22) (h1 : m1.length = 22) (hm : m.length = 22) (ho : ∀ v, v ∈ m → v.oneCell' = true) (h : Vs w b (clL id m0 m1 d0 d1 k0 k1 due wait tries)) : (Instr.storeAt 27 (.pointer (some ⟨b, 38, none⟩)) (.agg m.toArray)).run Try.prog w = .ok () (w.setCells b 38 m) ∧ Vs (w.setCells b 38 m) b (clL id m0 m d0 d1 k0 k1 due wait tries) := by
 unfold clL at h ⊢
 rw [← List.append_assoc, ← List.append_assoc] at h ⊢
 have h2 := store_P (T := 27) h (l' := m) (by omega) (by rw [hm]; exact size_msg) ho
 have h3 := Vs.setP h (l' := m) (by omega)
 rw [List.length_append, cells8_length, hi, h0] at h2 h3
 exact ⟨h2, h3⟩
theorem Vs.loadCid (hi : id.length = 16) (h : Vs w b (clL id m0 m1 d0 d1 k0 k1 due wait tries)) : (Instr.loadAt 34 (.pointer (some ⟨b, 0, none⟩))).run Try.prog w = .ok (.agg (cells8 id).toArray) w := by
 unfold clL at h
 have h9 : Vs w b ([] ++ cells8 id ++ (m0 ++ (m1 ++ [.bool d0, .bool d1, .int .i64 k0, .int .i64 k1, .int .u64 due, .int .u64 wait, .int .i64 tries]))) := h
 exact load_P h9 Try.underlying34 rfl (by rw [cells8_length, hi]; exact size_id)
end

end Go.Proofs.Ytbakkmfjamcbfaa

namespace Go.Proofs.Ytbakkmfjamcbfaa
open Go.RowKit Fm
set_option linter.unusedVariables false
set_option maxRecDepth 100000

theorem results_tmp_cell {fn : Func} {p u : Tmp} {ty : TypeId} (h : fn.results = #[.tmp u, .cell p ty]) (tmps : Array Value) (P : Program) (w : World) :
  (results fn tmps).run P w =
   ((asAddr (tmps.getD p undef)).run P w).andThen fun a w₁ => ((loadVar ty a).run P w₁).andThen fun v w₂ => .ok (.tuple #[tmps.getD u undef, v]) w₂ := by
 simp only [results, h]
 simp [Sem.run_bind, Result.andThen]
theorem results_codes {w : World} {b : Nat} {k0 k1 : Int} {fn : Func} {p e : Tmp} {tmps : Array Value} (hv : Vs w b [.int .i64 k0, .int .i64 k1]) (h : fn.results = #[.tmp e, .cell p 31]) (hp : tmps.getD p undef = .pointer (some ⟨b, 0, none⟩)) :
  (results fn tmps).run Try.prog w = .ok (.tuple #[tmps.getD e undef, .agg #[.int .i64 k0, .int .i64 k1]]) w := by
 have hl : (loadVar 31 ⟨b, 0, none⟩).run Try.prog w = _ := loadVar_W hv Try.underlying31 rfl (by kernel_rfl)
 rw [results_tmp_cell h, hp]
 simp only [asAddr, Sem.run_pure, Result.andThen, hl]
theorem results_idn {w : World} {b : Nat} {id : List Int} {fn : Func} {p e : Tmp} {tmps : Array Value} (hv : Vs w b (cells8 id)) (hk : id.length = 16) (h : fn.results = #[.cell p 34, .tmp e]) (hp : tmps.getD p undef = .pointer (some ⟨b, 0, none⟩)) :
  (results fn tmps).run Try.prog w = .ok (.tuple #[.agg (cells8 id).toArray, tmps.getD e undef]) w := by
 have hl : (loadVar 34 ⟨b, 0, none⟩).run Try.prog w = _ := loadVar_W hv Try.underlying34 rfl (by rw [cells8_length, hk]; exact size_id)
 rw [results_cell_tmp h, hp]
 simp only [asAddr, Sem.run_pure, Result.andThen, hl]

end Go.Proofs.Ytbakkmfjamcbfaa

namespace Go.Proofs.Ytbakkmfjamcbfaa
open Go.RowKit Fm
set_option linter.unusedVariables false
set_option maxRecDepth 100000

def mz : List Value := msgL 0 0 0 0 z16 0 (.slice none 0 0)
theorem mz_length : mz.length = 22 := msgL_length z16_length
theorem build_cl {id : List Int} (hid : id.length = 16) (w : World) : (Instr.build 131 #[(0, .agg (cells8 id).toArray), (5, .int .u64 1)]).run Try.prog w = .ok (.agg (clL id mz mz false false 0 0 0 1 0).toArray) w := by
 obtain ⟨x0, x1, x2, x3, x4, x5, x6, x7, y0, y1, y2, y3, y4, y5, y6, y7, rfl⟩ := list16 hid
 kernel_rfl
theorem build_ent {id : List Int} (hid : id.length = 16) (now : Int) (A A' : Option Addr) (n c n' c' : Nat) (w : World) : (Instr.build 44 #[(0, .agg (cells8 id).toArray), (1, .int .u64 now), (2, .slice A n c), (3, .slice A' n' c')]).run Try.prog w = .ok (.agg (entL id now (.slice A n c) (.slice A' n' c') 0).toArray) w := by
 obtain ⟨x0, x1, x2, x3, x4, x5, x6, x7, y0, y1, y2, y3, y4, y5, y6, y7, rfl⟩ := list16 hid
 kernel_rfl
theorem build_msg1 (g : Nat) (w : World) : (Instr.build 27 #[(0, .int .u8 1), (6, .slice (some ⟨g, 0, none⟩) 1 1)]).run Try.prog w = .ok (.agg (msgL 1 0 0 0 z16 0 (.slice (some ⟨g, 0, none⟩) 1 1)).toArray) w := by kernel_rfl

def ReT (w0 : World) (cb : Nat) (o1 : Option Nat) (o2 : Option Value) (wz : World) : Prop := Exc (fun q => q = cb) w0.heap.size w0 wz
structure ReK (w0 : World) (cb : Nat) (ents : List Value) (Cl : World → Value → Prop) (old : List Value) (new : Value → List Value) (o1 : Option Nat) (o2 : Option Value) (s : Bool) (wz : World) : Prop where
 t : Exc (fun q => q = cb) w0.heap.size w0 wz
 l : cb < w0.heap.size
 a : ∀ g, o1 = some g → w0.heap.size ≤ g ∧ Vs wz g ents
 b : ∀ v, o2 = some v → Cl wz v
 v : s = false → Vs wz cb old
 u : s = true → ∀ x, o2 = some x → Vs wz cb (new x)
section
variable {w0 w w' : World} {cb : Nat} {ents old : List Value} {Cl : World → Value → Prop} {new : Value → List Value} {o1 : Option Nat} {o2 : Option Value} {s : Bool}
theorem ReK.weak (o1 : Option Nat) (o2 : Option Value) (s : Bool) (w : World) (h : ReK w0 cb ents Cl old new o1 o2 s w) : ReT w0 cb o1 o2 w := h.t
theorem ReK.clo (hC : ∀ v, Clo fun w => Cl w v) : Clo (ReK w0 cb ents Cl old new o1 o2 s) := fun w w' h hb => ⟨h.t.call hb, h.l, fun g e => ⟨(h.a g e).1, (h.a g e).2.call hb⟩, fun v e => hC v w w' (h.b v e) hb, fun e => (h.v e).call hb, fun e x e2 => (h.u e x e2).call hb⟩
theorem ReK.start (h : Vs w0 cb old) : ReK w0 cb ents Cl old new none none false w0.drew :=
 ⟨exc_of ((Below.refl _ _).drew), h.lt, fun _ e => (by cases e), fun _ e => (by cases e), fun _ => h.drew, fun e => (by cases e)⟩
theorem ReK.mkA {cs : Array Value} {t : TypeId} (hC : ∀ v, Clo fun w => Cl w v) (h : ReK w0 cb ents Cl old new none o2 s w) (hc : cs = ents.toArray) : ReK w0 cb ents Cl old new (some w.heap.size) o2 s (w.alloc (.cells cs t)) := by
 have h2 := ReK.clo hC _ _ h ((Below.refl w.heap.size w).alloc (Nat.le_refl _) (.cells cs t))
 refine ⟨h2.t, h2.l, fun g e => ?_, h2.b, h2.v, h2.u⟩
 injection e with e
 subst e
 exact ⟨h.t.size, Vs.new w ents cs t hc⟩
theorem ReK.mkB (hC : ∀ v, Clo fun w => Cl w v) (x : Value) (h : ReK w0 cb ents Cl old new o1 none false w) (hb : Below w.heap.size w w') (hx : Cl w' x) : ReK w0 cb ents Cl old new o1 (some x) false w' := by
 have h2 := ReK.clo hC _ _ h hb
 refine ⟨h2.t, h2.l, h2.a, fun v e => ?_, h2.v, fun e => (by cases e)⟩
 injection e with e
 subst e
 exact hx
theorem ReK.put {x : Value} {o : Nat} {l : List Value} (h : ReK w0 cb ents Cl old new o1 (some x) false w) (hn : Vs (w.setCells cb o l) cb (new x)) (hx : Cl (w.setCells cb o l) x) : ReK w0 cb ents Cl old new o1 (some x) true (w.setCells cb o l) := by
 have hl := h.l
 refine ⟨exc_setCells (S := fun q => q = cb) (B := w0.heap.size) cb rfl l o w h.t, h.l, fun g e => ⟨(h.a g e).1, Vs.farW (h.a g e).2 (b' := cb) (by have := (h.a g e).1; omega) o l⟩, fun v e => ?_, fun e => (by cases e), fun _ v e => ?_⟩
 ·injection e with e
  subst e
  exact hx
 ·injection e with e
  subst e
  exact hn
end

end Go.Proofs.Ytbakkmfjamcbfaa
