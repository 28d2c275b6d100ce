/-
 Sums, Nums, BitsOf, EncM, Valid: for TotalUnshards.
-/
import Derived.BigQuiet
import Derived.Laws.Bits64b
import Derived.Test.YtbakkmfjamcbfaaKaj
import Derived.Test.YtbakkmfjamcbfaaRaa
namespace Go.Proofs.Ytbakkmfjamcbfaa
open Go.RowKit Fm
set_option linter.unusedVariables false
set_option maxRecDepth 100000

theorem nK_kI (f n : Nat) : nK f n = kI (Pm f) (n : Int) := by
 unfold nK
 rw [← kI_nI]
 congr 1
 unfold nI
 split <;> omega
theorem nK_add (f m n : Nat) : nK f (m + n) = nK f m + nK f n := by rw [nK_kI, nK_kI, nK_kI, Int.natCast_add, kI_add]
theorem nK_one (f : Nat) : nK f 1 = 1 := kL_one

theorem knum_drop {f : Nat} (p : KL f) (k : Nat) (a : Fin (Pm f)) (h : p[k]? = some a) : knum (p.drop k) = knum (p.drop (k + 1)) + knum (p.drop (k + 1)) + a := by
 obtain ⟨hlt, rfl⟩ := List.getElem?_eq_some_iff.1 h
 rw [List.drop_eq_getElem_cons hlt]
 rfl
def kpow (f : Nat) : Nat → Fin (Pm f)
 | 0 => 1
 | k + 1 => kpow f k + kpow f k
theorem knum_take {f : Nat} : ∀ (l : KL f) (k : Nat) (x : Fin (Pm f)), l[k]? = some x → knum (l.take (k + 1)) = knum (l.take k) + kpow f k * x
 | [], k, x, h => by simp at h
 | y :: l, 0, x, h => by
  obtain rfl : y = x := by simpa using h
  show (0 : Fin (Pm f)) + 0 + y = 0 + 1 * y
  grind
 | y :: l, k + 1, x, h => by
  have ih := knum_take l k x (by simpa using h)
  rw [List.take_succ_cons, List.take_succ_cons]
  show knum (l.take (k + 1)) + knum (l.take (k + 1)) + y = knum (l.take k) + knum (l.take k) + y + (kpow f k + kpow f k) * x
  rw [ih]
  grind

section
variable {f : Nat} (hf : IsF f)
include hf

end

end Go.Proofs.Ytbakkmfjamcbfaa

namespace Go.Proofs.Ytbakkmfjamcbfaa
open Go.RowKit Fm Go.ChangeShapes Go.WideShapes Go.Deep
set_option linter.unusedVariables false
set_option maxRecDepth 100000

theorem length_cellsU (xs : List Int) : (cellsU xs).length = xs.length := by unfold cellsU; rw [List.length_map]
theorem cellsU_at {xs : List Int} {i : Nat} {e : Int} (h : xs[i]? = some e) : (cellsU xs)[i]? = some (.int .u64 e) := by unfold cellsU; rw [List.getElem?_map, h]; rfl
theorem cellsU_append (xs ys : List Int) : cellsU (xs ++ ys) = cellsU xs ++ cellsU ys := by unfold cellsU; rw [List.map_append]

theorem infoU64 : (Try.prog.info? 22).map (fun i => (i.zero, i.size, i.bytes)) = some (some (.int .u64 0), 1, 8) := by kernel_rfl

theorem oneCell_cellsU (xs : List Int) : ∀ u, u ∈ cellsU xs → u.oneCell' = true := by
 intro u h
 unfold cellsU at h
 rw [List.mem_map] at h
 obtain ⟨e, _, rfl⟩ := h
 rfl

theorem run_append_U (w : World) (base : Nat) (ty : TypeId) (v : Value) (n : Nat) (xs : List Int) (hown : w.ownsRow base 22 1 v n (cellsU xs)) (A : Option Addr) (m c : Nat) (ys : List Int)
  (hm : ys.length = m) (hy : 0 < m → ∃ b o, A = some ⟨b, o, none⟩ ∧ RowU w b o ys) (hbound : n + m ≤ 1099511627776) (hbase : base ≤ w.heap.size) :
  ∃ v' w', (Builtin.append_ #[88, 88] ty #[v, .slice A m c]).run Try.prog w = .ok v' w' ∧ w'.ownsRow base 22 1 v' (n + m) (cellsU (xs ++ ys)) ∧ w.grownBy w' v.ownBlock ∧
   (v'.ownBlock = v.ownBlock ∨ v'.ownBlock = some w.heap.size) := by
 obtain ⟨i, hi, hz, h1, h2⟩ := info_parts infoU64
 rw [cellsU_append]
 rcases A with _ | ad
 ·have hm0 : m = 0 := by
   rcases Nat.eq_zero_or_pos m with h0 | h0
   ·exact h0
   ·obtain ⟨b, o, h, _⟩ := hy h0
    cases h
  subst hm0
  obtain rfl : ys = [] := List.eq_nil_of_length_eq_zero hm
  refine ⟨v, w, ?_, by simpa [cellsU] using hown, World.grownBy.refl w _, .inl rfl⟩
  rcases hown.2 with ⟨rfl, rfl⟩ | ⟨g, cap, cur, rfl, _, _, hnc, _⟩
  ·simp [Builtin.append_, run_underlying Try.underlying88, sizeOf, typeInfo, hi, Builtin.lenOf, Builtin.firstCells]
  ·simp [Builtin.append_, run_underlying Try.underlying88, sizeOf, typeInfo, hi, Builtin.lenOf, Builtin.firstCells, hnc, storeCells]
 ·have hcells : ∀ j u, (cellsU ys)[j]? = some u → w.cell? (ad.add j) = some u := by
   intro j u hu
   rcases Nat.eq_zero_or_pos m with h0 | h0
   ·subst h0
    obtain rfl : ys = [] := List.eq_nil_of_length_eq_zero hm
    simp [cellsU] at hu
   ·obtain ⟨b, o, h, hr⟩ := hy h0
    injection h with h
    subst h
    exact hr.cells j u hu
  obtain ⟨v', w', hrun, h3, h4, _, h5⟩ := run_append_own_at (P := Try.prog) w base 88 ty 22 i _ 1 8 Try.underlying88 hi hz h1 h2 rfl (by omega) v n _ hown ad m c (cellsU ys)
   (by rw [length_cellsU, hm, Nat.mul_one]) hcells (oneCell_cellsU ys) (by unfold maxLen; omega) (by omega) hbase
  exact ⟨v', w', hrun, h3, h4, h5⟩

theorem wpList_append_U {w : World} {ops : Array Oper} {rest : List Oper} {o : Oper} {a : Act} {Q : Exit → Act → World → Prop} (hgd : o.guard = none) (s x : Operand)
  (ho : o.op = .call { callee := .builtin .append, args := #[s, x], argTypes := #[88, 88] })
  (base : Nat) (v : Value) (n : Nat) (xs : List Int) (hs : a.eval s = v) (hown : w.ownsRow base 22 1 v n (cellsU xs)) (A : Option Addr) (m c : Nat) (ys : List Int) (hx : a.eval x = .slice A m c)
  (hm : ys.length = m) (hy : 0 < m → ∃ b o, A = some ⟨b, o, none⟩ ∧ RowU w b o ys) (hbound : n + m ≤ 1099511627776) (hbase : base ≤ w.heap.size)
  (h : ∀ v' w', w'.ownsRow base 22 1 v' (n + m) (cellsU (xs ++ ys)) → w.grownBy w' v.ownBlock → (v'.ownBlock = v.ownBlock ∨ v'.ownBlock = some w.heap.size) → wpList Try.prog ops Q rest (a.put o.dst v') w') : wpList Try.prog ops Q (o :: rest) a w := by
 obtain ⟨v', w', hrun, h2, h3, h4⟩ := run_append_U w base o.type v n xs hown A m c ys hm hy hbound hbase
 refine wpList_plain hgd fun K hK => ?_
 unfold Oper.wp execOp
 simp only [ho, resolve, invoke, builtin, Sem.run_bind, Sem.run_pure, Result.andThen_ok, List.map_toArray, List.map_cons, List.map_nil, hs, hx, hrun]
 exact hK _ _ (h v' w' h2 h3 h4)

theorem SlU.of_own {w : World} {base : Nat} {v : Value} {xs : List Int} (h : w.ownsRow base 22 1 v xs.length (cellsU xs)) (ok : ∀ e, e ∈ xs → okU e) : SlU w w.heap.size v xs := by
 rcases h.2 with ⟨rfl, h0⟩ | ⟨g, cap, cur, rfl, hb, hg, hnc, hcm, hcs, htk⟩
 ·refine ⟨⟨none, 0, by rw [h0], by omega, by omega, fun hn => by omega⟩, ok⟩
 ·refine ⟨⟨some ⟨g, 0, none⟩, cap, rfl, hnc, by unfold maxLen at hcm; omega, fun _ => ⟨g, 0, rfl, (Array.getElem?_eq_some_iff.1 hg).1, fun i e hi => ?_⟩⟩, ok⟩
  have f1 := h.cells (g := g) rfl i _ (cellsU_at hi)
  have ha : (⟨g, 0, none⟩ : Addr).add i = ⟨g, 0 + i, none⟩ := by
   unfold Addr.add
   split <;> simp_all
  rw [ha] at f1
  exact f1

section
variable {H : Type} {enc : TypeId × Value → H} {W : World} {base : Nat} {sp : Nat → Bool} {hd : Bool}
end

end Go.Proofs.Ytbakkmfjamcbfaa

namespace Go.Proofs.Ytbakkmfjamcbfaa
open Go.RowKit Fm
set_option linter.unusedVariables false
set_option maxRecDepth 100000

def bitsL (n : Nat) : Nat → List Nat
 | 0 => []
 | q + 1 => bitsL n q ++ [n / 2 ^ q % 2]
theorem bitsL_length (n : Nat) : ∀ q, (bitsL n q).length = q
 | 0 => rfl
 | q + 1 => by rw [bitsL, List.length_append, bitsL_length n q]; rfl

def RetOwn {f : Nat} (l : KL f) (w : World) (e : Ending) (w' : World) : Prop :=
 ∃ v, e = .returned v ∧ w'.ownsRow w.heap.size 99 2 v l.length (cellsE (esK l)) ∧ Below w.heap.size w w'

theorem own_sl {f : Nat} {w : World} {base : Nat} {v : Value} {n : Nat} {l : KL f} (hl : l.length = n) (h : w.ownsRow base 99 2 v n (cellsE (esK l))) : SlK w w.heap.size v l := by
 subst hl
 exact (SlE.of_own (xs := esK l) (by rw [esK_length]; exact h) (esK_ok l)).toK

theorem own_mono {w : World} {base base' : Nat} {e : TypeId} {size : Nat} {v : Value} {n : Nat} {xs : List Value} (h : w.ownsRow base e size v n xs) (hB : base' ≤ base) : w.ownsRow base' e size v n xs := by
 refine ⟨h.1, ?_⟩
 rcases h.2 with h | ⟨g, cap, cur, h1, h2, h3⟩
 ·exact .inl h
 ·exact .inr ⟨g, cap, cur, h1, Nat.le_trans hB h2, h3⟩

section
variable {f : Nat} (hf : IsF f)
include hf

set_option maxHeartbeats 4000000 in
theorem circuit_bitsOf (k b l m c : Int) (n q : Nat) (hn : n ≤ 18446744073709551615) (hq : q ≤ 64) (w : World) :
  Calls Try.prog 62 #[.agg #[.int .u8 k, .int .u8 f, .int .i64 b, .int .i64 l, .int .i64 m, .int .i64 c], .int .u64 n, .int .i64 q] w (RetOwn ((bitsL n q).map (nK f)) w) := by
 have hfb0 : (1 : Int) ≤ (f : Int) := by rcases hf.or with rfl | rfl <;> omega
 have hfb1 : (f : Int) ≤ 2 := by rcases hf.or with rfl | rfl <;> omega
 have hb00 : Below w.heap.size w w := Below.refl _ _
 go_enter Try.func62, Try.ntmps62
 go_upto_region 2 with fail
 have hx := Vs.new w [.int .u8 k, .int .u8 f, .int .i64 b, .int .i64 l, .int .i64 m, .int .i64 c] #[.int .u8 k, .int .u8 f, .int .i64 b, .int .i64 l, .int .i64 m, .int .i64 c] 60 rfl
 have hbA : Below w.heap.size w (w.alloc (.cells #[.int .u8 k, .int .u8 f, .int .i64 b, .int .i64 l, .int .i64 m, .int .i64 c] 60)) := by repeat (first | exact bA | with_reducible assumption | apply bB)
 replace hb00 := bl_call hb00 (Nat.le_refl _) hbA
 clear hbA
 generalize w.alloc (.cells #[.int .u8 k, .int .u8 f, .int .i64 b, .int .i64 l, .int .i64 m, .int .i64 c] 60) = w1 at hb00 hx ⊢
 have hxl := hx.lt
 go_wp2
 go_loopw [7, 10] (fun vr i wr => ∃ (j : Nat) (A : Option Addr) (cp : Nat), j ≤ q ∧ i = .int .i64 j ∧ vr = .slice A j cp ∧ Vs wr w.heap.size [.int .u8 k, .int .u8 f, .int .i64 b, .int .i64 l, .int .i64 m, .int .i64 c] ∧ wr.ownsRow (w.heap.size + 1) 99 2 (.slice A j cp) j (cellsE (esK ((bitsL n j).map (nK f)))) ∧ Below w.heap.size w wr ∧ w.heap.size + 1 ≤ wr.heap.size) (fun _ i _ => q - (intOf i).toNat)
 case atStart => exact ⟨0, none, 0, Nat.zero_le _, rfl, rfl, hx, World.ownsRow_nil _ _ _ _, hb00, hxl⟩
 case round =>
  clear hx hb00 hxl
  obtain ⟨j, A, cp, hj, rfl, rfl, hx, hown, hbw, hsz⟩ := hrel
  by_cases hlt : j < q
  ·skip
   obtain ⟨⟨x0, x1, x2, x3, x4, x5⟩, ⟨x6, x7, x8, x9, x10, x11⟩, x12⟩ := hx.get6
   have hw1 : (0 : Int) ≤ (j : Int) := by omega
   have HZ : Hid ((bitsL n (j + 1)).map (nK f) = (bitsL n j).map (nK f) ++ [nK f (n / 2 ^ j % 2)]) := by show (bitsL n j ++ [n / 2 ^ j % 2]).map (nK f) = _; rw [List.map_append]; rfl
   obtain ⟨y, hy⟩ : ∃ y, nK f (n / 2 ^ j % 2) = y := ⟨_, rfl⟩
   obtain ⟨d, hd⟩ : ∃ d, n / 2 ^ j % 2 = d := ⟨_, rfl⟩
   have hd2 : d < 2 := by rw [← hd]; exact Nat.mod_lt _ (by omega)
   have HO : Hid (∀ wz, Calls Try.prog 63 #[.int .u8 f, .int .u64 d] wz (RetK y wz)) := by
    intro wz
    have h := field_Of hf (d : Int) wz (by omega) (by omega)
    rwa [show kL f (d : Int) 0 = y by rw [← hy, hd]; rfl] at h
   have hdi : (n : Int) / 2 ^ j % 2 = (d : Int) := by rw [← hd, Int.natCast_emod, Int.natCast_ediv, Int.natCast_pow]; rfl
   have hand : bits .and .u64 ((n : Int) / 2 ^ j) 1 = (d : Int) := by
    rw [show (n : Int) / 2 ^ j = ((n / 2 ^ j : Nat) : Int) by rw [Int.natCast_ediv, Int.natCast_pow]; rfl, show (1 : Int) = ((1 : Nat) : Int) from rfl,
     bits_and_u64_nat _ _ (Nat.lt_of_le_of_lt (Nat.div_le_self _ _) (by omega)) (by omega), Nat.and_one_is_mod, hd]
   rw [hd] at hy
   have HYY := Lib.hid hy
   rw [hd] at HZ
   clear hd hy
   go_upto_region 5 with fail
   refine region_G (n := 9) (m := 11) (f := 9) (by kernel_rfl) (by kernel_rfl) rfl ?_
   refine WpG.vD 0 (some 13) ?_ rfl rfl (by kernel_rfl) (fun _ _ _ h => h) rfl (fun wz hwz => ?_) ?_
   rotate_left
   ·go_simp; try (with_reducible rfl)
   simp only [Zp, Zq, Zr, Zs]
   refine WpG.vD 1 (some 14) ?_ rfl rfl (by kernel_rfl) (fun _ _ _ h => h) rfl (fun wz hwz => ?_) ?_
   rotate_left
   ·go_simp; try (with_reducible rfl)
   simp only [Zp, Zq, Zr, Zs]
   refine WpG.vD 2 (some 15) ?_ rfl rfl (by kernel_rfl) (fun _ _ _ h => h) rfl (fun wz hwz => ?_) ?_
   rotate_left
   ·(obtain ⟨hcz, hfz⟩ := bcell (hwz); go_simp; try (with_reducible rfl))
   simp only [Zp, Zq, Zr, Zs]
   refine WpG.vD 3 (some 16) ?_ rfl rfl (by kernel_rfl) (fun _ _ _ h => h) rfl (fun wz hwz => ?_) ?_
   rotate_left
   ·go_simp; try (with_reducible rfl)
   simp only [Zp, Zq, Zr, Zs]
   refine WpG.vD 4 (some 17) ?_ rfl rfl (by kernel_rfl) (fun _ _ _ h => h) rfl (fun wz hwz => ?_) ?_
   rotate_left
   ·go_simp; try (with_reducible rfl)
   simp only [Zp, Zq, Zr, Zs]
   refine WpG.vD 5 (some 18) ?_ rfl rfl (by kernel_rfl) (fun _ _ _ h => h) rfl (fun wz hwz => ?_) ?_
   rotate_left
   ·go_simp; try (with_reducible rfl)
   simp only [Zp, Zq, Zr, Zs]
   refine WpG.vD 6 (some 19) ?_ rfl rfl (by kernel_rfl) (fun _ _ _ h => h) rfl (fun wz hwz => ?_) ?_
   rotate_left
   ·go_simp; try (with_reducible rfl)
   simp only [Zp, Zq, Zr, Zs]
   refine WpG.takeD 7 (some 20) rfl rfl (by kernel_rfl) (fun _ _ _ h => h) (.call rfl (fun wz hwz => HO.out wz) (fun wz hwz => ?_)) ?_
   ·go_simp; try (with_reducible rfl)
   simp only [Zp, Zq, Zr, Zs]
   refine WpG.oneD 8 (some 21) rfl rfl (by kernel_rfl) (fun b : Nat => Value.slice (some ⟨b, 0, none⟩) 1 1) (fun b w => wr.heap.size ≤ b ∧ BlkE w b [eK y]) (fun x w w' h hb => ⟨h.1, h.2.call hb⟩) (Fresh.slice 1 1 [.int .u64 (lo y), .int .u64 (hi y)] 99 rfl (fun wz hwz => (hwz).size) (fun wz hwz => by go_simp; try (with_reducible rfl)) (fun wz hwz => BlkE.new wz [eK y] _ rfl)) (fun nb w0 hw0 hR0 => ?_)
   simp only [Zp, Zq, Zr, Zs]
   refine WpG.done (by kernel_rfl) (fun w6 hS => ?_)
   (try simp only [List.drop_succ_cons]); (try simp only [List.drop_zero]); (try simp only [Nat.reduceSub]); (try simp only [List.take_succ_cons]); (try simp only [List.take_zero])
   obtain ⟨hb6, hnb, hE⟩ := hS
   clear hR0 hw0 hdi
   clear x0 x1 x2 x3 x4 x5 x6 x7 x8 x9 x10 x11 x12
   have hown6 := own_call hown hb6
   replace hbw := bl_call hbw (Nat.le_refl _) hb6
   replace hx := hx.call hb6
   have hz6 := hb6.size
   have HOW := Lib.hid hown6
   have HR1 := Lib.hid (show 0 < 1 → ∃ b o, (some ⟨nb, 0, none⟩ : Option Addr) = some ⟨b, o, none⟩ ∧ RowE w6 b o [eK y] from fun _ => ⟨_, _, rfl, hE.rowE⟩)
   have hk1 : j + 1 ≤ 1099511627776 := by omega
   have hbase : w.heap.size + 1 ≤ w6.heap.size := by omega
   have hL := (bitsL_length n j)
   clear hown hown6 hb6 hL
   go_wp2_with (at_builtin; (refine wpList_append_E rfl (.tmp 13) (.tmp 21) rfl (w.heap.size + 1) _ j (esK ((bitsL n j).map (nK f))) rfl HOW.out (some ⟨nb, 0, none⟩) 1 1 [eK y] rfl rfl HR1.out hk1 hbase ?_; intro v2 w2 hown2 hg2 hat2; have hb2 : Below (w.heap.size + 1) w6 w2 := (Below.refl _ _).grown hg2 hbase (fun q hq => (HOW.out.lt q hq).1); obtain ⟨g2, cap2, hv2⟩ := own_slice hown2; rw [hv2]))
   rw [hv2, show (esK ((bitsL n j).map (nK f))) ++ [eK y] = esK ((bitsL n (j + 1)).map (nK f)) by rw [HZ.out, esK_append, HYY.out]; rfl] at hown2
   have hx2 := hx.belowB hb2 (by omega)
   have hbw2 : Below w.heap.size w w2 := hbw.trans (hb2.mono (by omega))
   have hz2 := hb2.size
   go_roundw
   case rel => exact ⟨j + 1, _, cap2, by omega, by go_num, rfl, hx2, hown2, hbw2, by omega⟩
   case measure => simp [intOf]; omega
  ·obtain rfl : j = q := by omega
   have hlen : ((bitsL n j).map (nK f)).length = j := by rw [List.length_map, bitsL_length]
   have HL := Lib.hid hlen
   have HW := Lib.hid hown
   clear hlen hown
   go_wp2
   go_ret
   exact ⟨_, rfl, by rw [HL.out]; exact own_mono HW.out (by omega), hbw⟩
end

end Go.Proofs.Ytbakkmfjamcbfaa

namespace Go.Proofs.Ytbakkmfjamcbfaa
open Go.RowKit Fm
set_option linter.unusedVariables false
set_option maxRecDepth 100000

def natsI (ms : List Nat) : List Int := ms.map fun n : Nat => (n : Int)
theorem natsI_length (ms : List Nat) : (natsI ms).length = ms.length := by unfold natsI; rw [List.length_map]
theorem natsI_at {ms : List Nat} {i n : Nat} (h : ms[i]? = some n) : (natsI ms)[i]? = some (n : Int) := by unfold natsI; rw [List.getElem?_map, h]; rfl

theorem sum_take {ms : List Nat} {k n : Nat} (h : ms[k]? = some n) : (ms.take (k + 1)).sum = (ms.take k).sum + n := by
 rw [List.take_add_one, h]
 simp
theorem all_take {ms : List Nat} {k n : Nat} {P : Nat → Prop} (h : ms[k]? = some n) (ha : ∀ x, x ∈ ms.take k → P x) (hn : P n) : ∀ x, x ∈ ms.take (k + 1) → P x := by
 intro x hx
 rw [List.take_add_one, h] at hx
 rcases List.mem_append.1 hx with h1 | h1
 ·exact ha x h1
 ·have : x = n := by simpa using h1
  subst this
  exact hn

def okMulti (m : Nat) (ms : List Nat) : Prop := (∀ x, x ∈ ms → x ≤ 1) ∧ ms.sum ≤ m
def encMulti (m : Nat) (ms : List Nat) : List Nat := ms ++ bitsL (ms.sum + offN m) (Lib.bitLen m)

def RetEnc {f : Nat} (ok : Prop) (l : KL f) (w : World) (e : Ending) (w' : World) : Prop :=
 (ok ∧ ∃ v, e = .returned (.tuple #[v, .int .i64 0]) ∧ w'.ownsRow w.heap.size 99 2 v l.length (cellsE (esK l)) ∧ Below w.heap.size w w') ∨
 (¬ ok ∧ e = .returned (.tuple #[.slice none 0 0, .int .i64 6]) ∧ Below w.heap.size w w')

theorem own_shape {w : World} {base : Nat} {e : TypeId} {size : Nat} {v : Value} {n : Nat} {xs : List Value} (h : w.ownsRow base e size v n xs) : ∃ (A : Option Addr) (cp : Nat), v = .slice A n cp := by
 rcases h.2 with ⟨hv, hn⟩ | ⟨g, cap, cur, hv, _⟩
 ·subst hn
  exact ⟨_, _, hv⟩
 ·exact ⟨_, _, hv⟩

section
variable {f : Nat} (hf : IsF f)
include hf

set_option maxHeartbeats 8000000 in
theorem circuit_Encode_multi (l m c : Nat) (hy : (CK.multi l m c).ok) (hcalls : ¬ 511 < (CK.multi l m c).calls) (vm : Value) (ms : List Nat) (w : World) (hm : SlU w w.heap.size vm (natsI ms)) (hl : ms.length = l) :
  Calls Try.prog 33 #[(CK.multi l m c).val f, vm] w (RetEnc (okMulti m ms) ((encMulti m ms).map (nK f)) w) := by
 have HC : Hid (∀ wz, Calls Try.prog 60 #[(CK.multi l m c).val f] wz (RetC 0 wz)) := by
  intro wz
  have h := circuit_Check_ok hf (.multi l m c) hy wz
  rwa [CK.code_ok hcalls] at h
 have HO := Lib.hid (fun wz => circuit_Out f (.multi l m c) hy wz)
 rw [show CK.nout (.multi l m c) = l from rfl] at HO
 rw [val_multi] at HC HO ⊢
 obtain ⟨⟨A, cc, rfl, hcc, hcm, hA⟩, hok⟩ := hm
 rw [natsI_length, hl] at hcc hA
 rw [natsI_length, hl]
 have hl64 : l ≤ 64 := hy.1.2
 have hl1 : 1 ≤ l := hy.1.1
 have hml : m ≤ l := hy.2.1.2
 have HOF := Lib.hid (fun (n : Nat) (hn : n ≤ 18446744073709551615) wz => field_Of hf (n : Int) wz (by omega) (by omega))
 have HL := Lib.hid hl
 have hfb0 : (1 : Int) ≤ (f : Int) := by rcases hf.or with rfl | rfl <;> omega
 have hfb1 : (f : Int) ≤ 2 := by rcases hf.or with rfl | rfl <;> omega
 have hb00 : Below w.heap.size w w := Below.refl _ _
 clear hl hok hy hcalls
 go_enter Try.func33, Try.ntmps33
 go_upto_region 1 with fail
 have hx := Vs.new w [.int .u8 5, .int .u8 f, .int .i64 0, .int .i64 l, .int .i64 m, .int .i64 c] #[.int .u8 5, .int .u8 f, .int .i64 0, .int .i64 l, .int .i64 m, .int .i64 c] 60 rfl
 have hbA : Below w.heap.size w (w.alloc (.cells #[.int .u8 5, .int .u8 f, .int .i64 0, .int .i64 l, .int .i64 m, .int .i64 c] 60)) := by repeat (first | exact bA | with_reducible assumption | apply bB)
 replace hb00 := bl_call hb00 (Nat.le_refl _) hbA
 clear hbA
 generalize w.alloc (.cells #[.int .u8 5, .int .u8 f, .int .i64 0, .int .i64 l, .int .i64 m, .int .i64 c] 60) = w1 at hb00 hx ⊢
 obtain ⟨⟨x0, x1, x2, x3, x4, x5⟩, ⟨x6, x7, x8, x9, x10, x11⟩, x12⟩ := hx.get6
 have hxl : w.heap.size < w1.heap.size := hx.lt
 go_upto_region 28 with (first
  | (go_at_call 60; refine (HC.out _).mono ?_; rintro e w2 ⟨rfl, hb2⟩; replace hb00 := bl_call hb00 (Nat.le_refl _) hb2; replace hx := hx.call hb2; obtain ⟨⟨x0, x1, x2, x3, x4, x5⟩, ⟨x6, x7, x8, x9, x10, x11⟩, x12⟩ := hx.get6)
  | (go_at_call 32; refine (HO.out _).mono ?_; rintro e w3 ⟨rfl, hb3⟩; replace hb00 := bl_call hb00 (Nat.le_refl _) hb3; replace hx := hx.call hb3; obtain ⟨⟨x0, x1, x2, x3, x4, x5⟩, ⟨x6, x7, x8, x9, x10, x11⟩, x12⟩ := hx.get6))
 have hsz : w.heap.size + 1 ≤ w3.heap.size := hx.lt
 clear HC HO hb2 hb3
 clear x0 x1 x2 x3 x4 x5 x6 x7 x8 x9 x10 x11 x12
 go_wp2_with fail
 go_loopw [8, 9, 76] (fun v8 v9 i wr => ∃ (k : Nat) (A' : Option Addr) (cp s : Nat), k ≤ l ∧ i = .int .i64 k ∧ v8 = .slice A' k cp ∧ v9 = .int .i64 s ∧ Hid ((ms.take k).sum = s) ∧ s ≤ k ∧ Hid (∀ x, x ∈ ms.take k → x ≤ 1) ∧
   Vs wr w.heap.size [.int .u8 5, .int .u8 f, .int .i64 0, .int .i64 l, .int .i64 m, .int .i64 c] ∧ wr.ownsRow (w.heap.size + 1) 99 2 (.slice A' k cp) k (cellsE (esK ((ms.take k).map (nK f)))) ∧ Below w.heap.size w wr ∧ w.heap.size + 1 ≤ wr.heap.size) (fun _ _ i _ => l - (intOf i).toNat)
 case atStart => exact ⟨0, none, 0, 0, Nat.zero_le _, rfl, rfl, rfl, rfl, Nat.le_refl _, fun x h => (by simp at h), hx, World.ownsRow_nil _ _ _ _, hb00, hsz⟩
 case round =>
  clear hx hb00 hsz hxl
  obtain ⟨k, A', cp, s, hk, rfl, rfl, rfl, hs, hsk, hall, hx, hown, hbw, hsz⟩ := hrel
  obtain ⟨⟨x0, x1, x2, x3, x4, x5⟩, ⟨x6, x7, x8, x9, x10, x11⟩, x12⟩ := hx.get6
  by_cases hlt : k < l
  ·obtain ⟨b, o, rfl, hB, hr⟩ := hA (by omega)
   obtain ⟨n, hn⟩ : ∃ n, ms[k]? = some n := ⟨_, List.getElem?_eq_getElem (by rw [HL.out]; exact hlt)⟩
   have d0 := (hr.below hbw hB) _ _ (natsI_at hn)
   have HN := Lib.hid hn
   clear hn hr hA
   by_cases hn1 : n ≤ 1
   ·have hn2 : n ≤ 18446744073709551615 := by omega
    have HS2 := Lib.hid (sum_take HN.out)
    have HA2 := Lib.hid (all_take HN.out hall.out hn1)
    have HT2 : Hid (esK ((ms.take (k + 1)).map (nK f)) = esK ((ms.take k).map (nK f)) ++ [eK (nK f n)]) := by
     show esK ((ms.take (k + 1)).map (nK f)) = _
     rw [List.take_add_one, HN.out, List.map_append, esK_append]
     rfl
    have hk1 : k + 1 ≤ 1099511627776 := by omega
    obtain ⟨y, hy⟩ : ∃ y, kL f (n : Int) 0 = y := ⟨_, rfl⟩
    have HOY : Hid (∀ wz, Calls Try.prog 63 #[.int .u8 f, .int .u64 n] wz (RetK y wz)) := by
     intro wz
     have h := HOF.out n hn2 wz
     rwa [hy] at h
    have HTY : Hid (esK ((ms.take (k + 1)).map (nK f)) = esK ((ms.take k).map (nK f)) ++ [eK y]) := by rw [← hy]; exact HT2.out
    clear HT2 hy
    go_wp2_with (first
     | (go_at_call 63; refine (HOY.out _).mono ?_; rintro e w6 ⟨rfl, hb6⟩; have hbw6 := bl_call hbw (Nat.le_refl _) hb6; have hx6 := hx.call hb6; have hown6 := own_call hown hb6; have hs6 := hb6.size; have HOW := Lib.hid (hown6.alloc (.cells #[.int .u64 (lo y), .int .u64 (hi y)] 99)); have hbase : w.heap.size + 1 ≤ (w6.alloc (.cells #[.int .u64 (lo y), .int .u64 (hi y)] 99)).heap.size := (by rw [World.size_alloc]; omega); have HR1 := Lib.hid (show 0 < 1 → ∃ b o, (some ⟨w6.heap.size, 0, none⟩ : Option Addr) = some ⟨b, o, none⟩ ∧ RowE (w6.alloc (.cells #[.int .u64 (lo y), .int .u64 (hi y)] 99)) b o [eK y] from fun _ => ⟨_, _, rfl, (BlkE.new w6 [eK y] _ rfl).rowE⟩); clear hown6)
     | (at_builtin; (refine wpList_append_E rfl (.tmp 86) (.tmp 91) rfl (w.heap.size + 1) _ k (esK ((ms.take k).map (nK f))) rfl HOW.out (some ⟨w6.heap.size, 0, none⟩) 1 1 [eK y] rfl rfl HR1.out hk1 hbase ?_; intro v2 w7 hown7 hg7 hat7; have hb7 : Below (w.heap.size + 1) (w6.alloc (.cells #[.int .u64 (lo y), .int .u64 (hi y)] 99)) w7 := (Below.refl _ _).grown hg7 hbase (fun q hq => (HOW.out.lt q hq).1); obtain ⟨g2, cap2, hv2⟩ := own_slice hown7; rw [hv2])))
    rw [hv2, ← HTY.out] at hown7
    have hx7 := (hx6.alloc (.cells #[.int .u64 (lo y), .int .u64 (hi y)] 99)).belowB hb7 (by omega)
    have hbw7 : Below w.heap.size w w7 := (hbw6.alloc (by omega) (.cells #[.int .u64 (lo y), .int .u64 (hi y)] 99)).trans (hb7.mono (by omega))
    have hz7 := hb7.size
    go_roundw
    case rel => exact ⟨k + 1, _, cap2, s + n, by omega, by go_num, rfl, by go_num, (by rw [HS2.out, hs.out] : (ms.take (k + 1)).sum = s + n), by omega, HA2.out, hx7, hown7, hbw7, by omega⟩
    case measure => simp [intOf]; omega
   ·have hbad : ¬ okMulti m ms := fun h => hn1 (h.1 n (List.mem_of_getElem? HN.out))
    have HBAD := Lib.hid hbad
    clear hbad
    go_wp2_with fail
    go_ret2
    exact .inr ⟨HBAD.out, rfl, hbw⟩
  ·obtain rfl : k = l := by omega
   rw [List.take_of_length_le (by rw [HL.out]; exact Nat.le_refl _)] at hs hall hown
   by_cases hsm : s ≤ m
   ·have hgood : okMulti m ms := ⟨hall.out, by rw [hs.out]; exact hsm⟩
    have HGOOD := Lib.hid hgood
    have hoff : offN m ≤ 128 := by
     have h1 := (bitLen_small m (by omega)).1
     have h2 : 2 ^ Lib.bitLen m ≤ 2 ^ 7 := Nat.pow_le_pow_right (by omega) h1
     have h3 : (2 : Nat) ^ 7 = 128 := rfl
     show 2 ^ Lib.bitLen m - 1 - m ≤ 128
     omega
    have hq7 := (bitLen_small m (by omega)).1
    have HOFF := Lib.hid (fun wz => circuit_offset 5 f 0 k c m (by omega) wz)
    have HWB := Lib.hid (fun wz => circuit_weightBits 5 f 0 k c m (by omega) wz)
    have HE : Hid (encMulti m ms = ms ++ bitsL (s + offN m) (Lib.bitLen m)) := by show encMulti m ms = _; unfold encMulti; rw [hs.out]
    have HBO := Lib.hid (fun (n q : Nat) (hn : n ≤ 18446744073709551615) (hq : q ≤ 64) wz => circuit_bitsOf hf 5 0 k m c n q hn hq wz)
    generalize offN m = of at *
    generalize Lib.bitLen m = q at *
    obtain ⟨N, hN⟩ : ∃ N, s + of = N := ⟨_, rfl⟩
    have hN2 : N ≤ 256 := by omega
    rw [hN] at HE
    have hNi : IntKind.u64.wrap (N : Int) = (N : Int) := IntWalk.u64_in _ (by omega)
    have hws : IntKind.u64.wrap (s : Int) = (s : Int) := IntWalk.u64_in _ (by omega)
    have hNi2 : (s : Int) + (of : Int) = (N : Int) := by omega
    have HBQ : Hid (∀ wz, Calls Try.prog 62 #[.agg #[.int .u8 5, .int .u8 f, .int .i64 0, .int .i64 k, .int .i64 m, .int .i64 c], .int .u64 N, .int .i64 q] wz fun e w' => ∃ x : Option Addr × Nat, e = .returned (Value.slice x.1 q x.2) ∧ SlK w' w'.heap.size (.slice x.1 q x.2) ((bitsL N q).map (nK f)) ∧ Below wz.heap.size wz w') := by
     intro wz
     refine (HBO.out N q (by omega) (by omega) wz).mono ?_
     rintro e w' ⟨v, rfl, hown', hb'⟩
     have hlen : ((bitsL N q).map (nK f)).length = q := by rw [List.length_map, bitsL_length]
     rw [hlen] at hown'
     obtain ⟨A9, c9, rfl⟩ := own_shape hown'
     exact ⟨(A9, c9), rfl, own_sl hlen hown', hb'⟩
    clear hgood hoff HBO hN
    go_upto_region 39 with fail
    refine region_G (n := 10) (m := 12) (f := 10) (by kernel_rfl) (by kernel_rfl) rfl ?_
    refine WpG.vD 0 (some 101) ?_ rfl rfl (by kernel_rfl) (fun _ _ _ h => h) rfl (fun wz hwz => ?_) ?_
    rotate_left
    ·go_simp; try (with_reducible rfl)
    (simp only [Act.put]); (try simp only [List.setIfInBounds_toArray]); (try simp only [List.set_cons_succ]); (try simp only [List.set_cons_zero])
    refine WpG.vD 1 (some 102) ?_ rfl rfl (by kernel_rfl) (fun _ _ _ h => h) rfl (fun wz hwz => ?_) ?_
    rotate_left
    ·(obtain ⟨hcz, hfz⟩ := bcell (hwz); go_simp; try (with_reducible rfl))
    (simp only [Act.put]); (try simp only [List.setIfInBounds_toArray]); (try simp only [List.set_cons_succ]); (try simp only [List.set_cons_zero])
    refine WpG.vD 2 (some 103) ?_ rfl rfl (by kernel_rfl) (fun _ _ _ h => h) rfl (fun wz hwz => ?_) ?_
    rotate_left
    ·go_simp; try (with_reducible rfl)
    (simp only [Act.put]); (try simp only [List.setIfInBounds_toArray]); (try simp only [List.set_cons_succ]); (try simp only [List.set_cons_zero])
    refine WpG.vD 3 (some 104) ?_ rfl rfl (by kernel_rfl) (fun _ _ _ h => h) rfl (fun wz hwz => ?_) ?_
    rotate_left
    ·go_simp; try (with_reducible rfl)
    (simp only [Act.put]); (try simp only [List.setIfInBounds_toArray]); (try simp only [List.set_cons_succ]); (try simp only [List.set_cons_zero])
    refine WpG.vD 4 (some 105) ?_ rfl rfl (by kernel_rfl) (fun _ _ _ h => h) rfl (fun wz hwz => ?_) ?_
    rotate_left
    ·(obtain ⟨hcz, hfz⟩ := bcell (hwz); go_simp; try (with_reducible rfl))
    (simp only [Act.put]); (try simp only [List.setIfInBounds_toArray]); (try simp only [List.set_cons_succ]); (try simp only [List.set_cons_zero])
    refine WpG.takeD 5 (some 106) rfl rfl (by kernel_rfl) (fun _ _ _ h => h) (.call rfl (fun wz hwz => HOFF.out wz) (fun wz hwz => ?_)) ?_
    ·go_simp; try (with_reducible rfl)
    (simp only [Act.put]); (try simp only [List.setIfInBounds_toArray]); (try simp only [List.set_cons_succ]); (try simp only [List.set_cons_zero])
    refine WpG.vD 6 (some 107) ?_ rfl rfl (by kernel_rfl) (fun _ _ _ h => h) rfl (fun wz hwz => ?_) ?_
    rotate_left
    ·go_simp; try (with_reducible rfl)
    (simp only [Act.put]); (try simp only [List.setIfInBounds_toArray]); (try simp only [List.set_cons_succ]); (try simp only [List.set_cons_zero])
    refine WpG.vD 7 (some 108) ?_ rfl rfl (by kernel_rfl) (fun _ _ _ h => h) rfl (fun wz hwz => ?_) ?_
    rotate_left
    ·(obtain ⟨hcz, hfz⟩ := bcell (hwz); go_simp; try (with_reducible rfl))
    (simp only [Act.put]); (try simp only [List.setIfInBounds_toArray]); (try simp only [List.set_cons_succ]); (try simp only [List.set_cons_zero])
    refine WpG.takeD 8 (some 109) rfl rfl (by kernel_rfl) (fun _ _ _ h => h) (.call rfl (fun wz hwz => HWB.out wz) (fun wz hwz => ?_)) ?_
    ·go_simp; try (with_reducible rfl)
    (simp only [Act.put]); (try simp only [List.setIfInBounds_toArray]); (try simp only [List.set_cons_succ]); (try simp only [List.set_cons_zero])
    refine WpG.oneD 9 (some 110) rfl rfl (by kernel_rfl) (fun x : Option Addr × Nat => Value.slice x.1 q x.2) (fun x w => SlK w w.heap.size (.slice x.1 q x.2) ((bitsL N q).map (nK f))) (fun _ _ _ h hb => h.later hb) (Fresh.call rfl (fun wz hwz => HBQ.out wz) (fun wz hwz => by go_simp; try (with_reducible rfl))) (fun xx w0 hw0 hR0 => ?_)
    simp only [Zp, Zq, Zr, Zs]
    refine WpG.done (by kernel_rfl) (fun w6 hS => ?_)
    (try simp only [List.drop_succ_cons]); (try simp only [List.drop_zero]); (try simp only [Nat.reduceSub]); (try simp only [List.take_succ_cons]); (try simp only [List.take_zero])
    obtain ⟨hb6, hE⟩ := hS
    obtain ⟨A9, c9⟩ := xx
    dsimp only at hE hR0
    clear x0 x1 x2 x3 x4 x5 x6 x7 x8 x9 x10 x11 x12
    have hown6 := own_call hown hb6
    replace hbw := bl_call hbw (Nat.le_refl _) hb6
    replace hx := hx.call hb6
    have hz6 := hb6.size
    have HOW := Lib.hid hown6
    have hlen : ((bitsL N q).map (nK f)).length = q := by rw [List.length_map, bitsL_length]
    have HR1 : Hid (0 < q → ∃ b o, A9 = some ⟨b, o, none⟩ ∧ RowE w6 b o (esK ((bitsL N q).map (nK f)))) := by
     intro hq0
     obtain ⟨A8, c8, h8, _, _, h9⟩ := hE
     rw [hlen] at h8 h9
     injection h8 with h1 h2 h3
     subst h1
     obtain ⟨b8, o8, e8, _, r8⟩ := h9 hq0
     exact ⟨b8, o8, e8, r8⟩
    have HM : Hid ((esK ((bitsL N q).map (nK f))).length = q) := by show (esK _).length = q; rw [esK_length, hlen]
    have hk1 : k + q ≤ 1099511627776 := by omega
    have hbase : w.heap.size + 1 ≤ w6.heap.size := by omega
    clear hown hown6 hb6 hE hR0 hw0 hlen hNi hNi2 hws
    go_wp2_with (at_builtin; (refine wpList_append_E rfl (.tmp 101) (.tmp 110) rfl (w.heap.size + 1) _ k (esK (ms.map (nK f))) rfl HOW.out A9 q c9 (esK ((bitsL N q).map (nK f))) rfl HM.out HR1.out hk1 hbase ?_; intro v2 w7 hown7 hg7 hat7; have hb7 : Below (w.heap.size + 1) w6 w7 := (Below.refl _ _).grown hg7 hbase (fun q hq => (HOW.out.lt q hq).1); obtain ⟨A7, cap7, hv7⟩ := own_shape hown7; rw [hv7]))
    go_ret2
    rw [hv7, ← esK_append, ← List.map_append, ← HE.out] at hown7
    refine .inl ⟨HGOOD.out, _, rfl, ?_, hbw.trans (hb7.mono (by omega))⟩
    have hlen2 : ((encMulti m ms).map (nK f)).length = k + q := by rw [HE.out, List.length_map, List.length_append, HL.out, bitsL_length]
    rw [hlen2]
    exact own_mono hown7 (by omega)
   ·have hbad : ¬ okMulti m ms := fun h => hsm (by rw [← hs.out]; exact h.2)
    have HBAD := Lib.hid hbad
    clear hbad
    go_wp2_with fail
    go_ret2
    exact .inr ⟨HBAD.out, rfl, hbw⟩
end

end Go.Proofs.Ytbakkmfjamcbfaa

namespace Go.Proofs.Ytbakkmfjamcbfaa
open Go.RowKit Fm
set_option linter.unusedVariables false
set_option maxRecDepth 100000

theorem SlK.takeN {f : Nat} {w : World} {B : Nat} {A : Option Addr} {c : Nat} {l : KL f} {n : Nat} (h : SlK w B (.slice A l.length c) l) (hn : n ≤ l.length) (v : Value) (hv : v = .slice A n c) : SlK w B v (l.take n) := by
 obtain ⟨A', c', hh, h1, h2, h3⟩ := h
 injection hh with e1 e2 e3
 subst e1
 subst e3
 have hl : (l.take n).length = n := by rw [List.length_take]; omega
 refine ⟨A, c, by rw [hl]; exact hv, by omega, h2, fun h0 => ?_⟩
 rw [hl] at h0
 obtain ⟨b, o, hA, hB, hr⟩ := h3 (by omega)
 refine ⟨b, o, hA, hB, fun i e hi => hr i e ?_⟩
 unfold esK at hi ⊢
 rw [List.map_take] at hi
 rw [← hi, List.getElem?_take]
 split
 ·rfl
 ·rename_i hge
  rw [List.getElem?_take, if_neg hge] at hi
  cases hi

theorem SlK.dropN {f : Nat} {w : World} {B b o : Nat} {c : Nat} {l : KL f} {n : Nat} (h : SlK w B (.slice (some ⟨b, o, none⟩) l.length c) l) (hn : n < l.length) : SlK w B (.slice (some ⟨b, o + n * 2, none⟩) (l.length - n) (c - n)) (l.drop n) := by
 obtain ⟨A', c', hh, h1, h2, h3⟩ := h
 injection hh with e1 e2 e3
 subst e1
 subst e3
 have hl : (l.drop n).length = l.length - n := List.length_drop
 refine ⟨some ⟨b, o + n * 2, none⟩, c - n, by rw [hl], by omega, by omega, fun h0 => ?_⟩
 obtain ⟨b', o', hA, hB, hr⟩ := h3 (by omega)
 injection hA with hA
 injection hA with hb ho
 subst hb
 subst ho
 refine ⟨b, o + n * 2, rfl, hB, fun i e hi => ?_⟩
 unfold esK at hi
 rw [List.map_drop, List.getElem?_drop] at hi
 have h4 := hr (n + i) e hi
 rw [show o + n * 2 + i * 2 = o + (n + i) * 2 by omega]
 exact h4

section
variable {f : Nat} (hf : IsF f)
include hf

end

end Go.Proofs.Ytbakkmfjamcbfaa
