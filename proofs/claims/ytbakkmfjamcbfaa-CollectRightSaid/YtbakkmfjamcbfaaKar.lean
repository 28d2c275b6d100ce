/-
 TaB, TaC, TaD, TaE, Sls, TaF: what the statements of this layer share.
-/
import Derived.BigQuiet
import Derived.Laws.Bits64b
import Derived.Laws.IdiomCopy
import Derived.Test.YtbakkmfjamcbfaaKaq
namespace Go.Proofs.Ytbakkmfjamcbfaa
open Go.RowKit Fm
set_option linter.unusedVariables false
set_option maxRecDepth 100000

def mixX (a b : List Int) : Nat → List Int
 | 0 => a
 | i + 1 => (mixX a b i).set i (X8 ((mixX a b i).getD i 0) (b.getD i 0))
theorem mixX_length (a b : List Int) : ∀ i, (mixX a b i).length = a.length
 | 0 => rfl
 | i + 1 => by
  show ((mixX a b i).set _ _).length = _
  rw [List.length_set, mixX_length a b i]
theorem mixX_eq (a b : List Int) (hl : b.length = a.length) : ∀ i, i ≤ a.length → mixX a b i = (xorL a b).take i ++ a.drop i
 | 0, _ => by simp [mixX]
 | i + 1, hi => by
  have ih := mixX_eq a b hl i (by omega)
  have hx : (xorL a b).length = a.length := xorL_length rfl hl
  have hd : a.drop i = a.getD i 0 :: a.drop (i + 1) := by
   rw [List.getD_eq_getElem?_getD, List.getElem?_eq_getElem (by omega)]
   exact List.drop_eq_getElem_cons (by omega)
  have ht : ((xorL a b).take i).length = i := by rw [List.length_take]; omega
  have hg : ((xorL a b).take i ++ a.getD i 0 :: a.drop (i + 1)).getD i 0 = a.getD i 0 := by
   rw [List.getD_eq_getElem?_getD, List.getElem?_append_right (by omega), ht, Nat.sub_self]
   rfl
  have hz : (xorL a b)[i]? = some (X8 (a.getD i 0) (b.getD i 0)) := by
   unfold xorL
   rw [List.getElem?_zipWith, List.getD_eq_getElem?_getD, List.getD_eq_getElem?_getD, List.getElem?_eq_getElem (by omega), List.getElem?_eq_getElem (by omega)]
   rfl
  show (mixX a b i).set i (X8 ((mixX a b i).getD i 0) (b.getD i 0)) = _
  rw [ih, hd, hg, List.set_append_right _ _ (by omega), ht, Nat.sub_self, List.set_cons_zero, List.take_add_one, hz, List.append_assoc]
  rfl

set_option maxHeartbeats 4000000 in
theorem total_With (k1 k2 : List Int) (h1 : k1.length = 16) (h2 : k2.length = 16) (w : World) :
  Calls Try.prog 29 #[.agg (cells8 k1).toArray, .agg (cells8 k2).toArray] w fun e w' => e = .returned (.agg (cells8 (xorL k1 k2)).toArray) ∧ Below w.heap.size w w' := by
 have HX : ∀ a b : Int, bits BinOp.xor IntKind.u8 a b = X8 a b := fun _ _ => rfl
 have H1 : Hid (∀ i, (mixX k1 k2 i).length = 16) := fun i => (mixX_length k1 k2 i).trans h1
 have H2 := Lib.hid h2
 have HE : Hid (mixX k1 k2 16 = xorL k1 k2) := by
  show _ = _
  rw [mixX_eq k1 k2 (h2.trans h1.symm) 16 (by omega), List.take_of_length_le (by rw [xorL_length h1 h2]; exact Nat.le_refl _), List.drop_of_length_le (by omega), List.append_nil]
 clear h1 h2
 go_enter Try.func29, Try.ntmps29
 go_upto_region 1 with fail
 have hx0 := ((Vs.new w (cells8 k1) ((cells8 k1).toArray) 74 rfl).alloc (.cells (cells8 k2).toArray 74)).alloc (.cells #[.int .u8 0, .int .u8 0, .int .u8 0, .int .u8 0, .int .u8 0, .int .u8 0, .int .u8 0, .int .u8 0, .int .u8 0, .int .u8 0, .int .u8 0, .int .u8 0, .int .u8 0, .int .u8 0, .int .u8 0, .int .u8 0] 74)
 have hy := (Vs.new (w.alloc (.cells (cells8 k1).toArray 74)) (cells8 k2) ((cells8 k2).toArray) 74 rfl).alloc (.cells #[.int .u8 0, .int .u8 0, .int .u8 0, .int .u8 0, .int .u8 0, .int .u8 0, .int .u8 0, .int .u8 0, .int .u8 0, .int .u8 0, .int .u8 0, .int .u8 0, .int .u8 0, .int .u8 0, .int .u8 0, .int .u8 0] 74)
 have hr := Vs.new ((w.alloc (.cells (cells8 k1).toArray 74)).alloc (.cells (cells8 k2).toArray 74)) (cells8 z16) (#[.int .u8 0, .int .u8 0, .int .u8 0, .int .u8 0, .int .u8 0, .int .u8 0, .int .u8 0, .int .u8 0, .int .u8 0, .int .u8 0, .int .u8 0, .int .u8 0, .int .u8 0, .int .u8 0, .int .u8 0, .int .u8 0]) 74 rfl
 simp only [World.size_alloc] at hy hr
 have hb00 : Below w.heap.size w (((w.alloc (.cells (cells8 k1).toArray 74)).alloc (.cells (cells8 k2).toArray 74)).alloc (.cells #[.int .u8 0, .int .u8 0, .int .u8 0, .int .u8 0, .int .u8 0, .int .u8 0, .int .u8 0, .int .u8 0, .int .u8 0, .int .u8 0, .int .u8 0, .int .u8 0, .int .u8 0, .int .u8 0, .int .u8 0, .int .u8 0] 74)) := by repeat (first | exact bA | with_reducible assumption | apply bB)
 have hszn : w.heap.size + 3 ≤ (((w.alloc (.cells (cells8 k1).toArray 74)).alloc (.cells (cells8 k2).toArray 74)).alloc (.cells #[.int .u8 0, .int .u8 0, .int .u8 0, .int .u8 0, .int .u8 0, .int .u8 0, .int .u8 0, .int .u8 0, .int .u8 0, .int .u8 0, .int .u8 0, .int .u8 0, .int .u8 0, .int .u8 0, .int .u8 0, .int .u8 0] 74)).heap.size := by simp only [World.size_alloc]; omega
 generalize (((w.alloc (.cells (cells8 k1).toArray 74)).alloc (.cells (cells8 k2).toArray 74)).alloc (.cells #[.int .u8 0, .int .u8 0, .int .u8 0, .int .u8 0, .int .u8 0, .int .u8 0, .int .u8 0, .int .u8 0, .int .u8 0, .int .u8 0, .int .u8 0, .int .u8 0, .int .u8 0, .int .u8 0, .int .u8 0, .int .u8 0] 74)) = w1 at hx0 hy hr hb00 hszn ⊢
 have hx : Vs w1 w.heap.size (cells8 (mixX k1 k2 0)) := hx0
 clear hx0
 go_wp2_with fail
 go_loopw [6] (fun v6 wr => ∃ i : Nat, i ≤ 16 ∧ v6 = .int .i64 i ∧ Vs wr w.heap.size (cells8 (mixX k1 k2 i)) ∧ Vs wr (w.heap.size + 1) (cells8 k2) ∧ Vs wr (w.heap.size + 1 + 1) (cells8 z16) ∧ Below w.heap.size w wr) (fun v6 _ => 16 - (intOf v6).toNat)
 case atStart => exact ⟨0, by omega, rfl, hx, hy, hr, hb00⟩
 case round =>
  clear hx hy hr hb00
  obtain ⟨i, hin, rfl, hx, hy, hr, hb00⟩ := hrel
  by_cases hlt : i < 16
  ·obtain ⟨a0, a1, a2⟩ := hx.at16 (i := i) (by rw [H1.out]; exact hlt)
   obtain ⟨x9, hx9⟩ : ∃ z, (mixX k1 k2 i).getD i 0 = z := ⟨_, rfl⟩
   rw [hx9] at a0
   obtain ⟨b0, b1, b2⟩ := hy.at16 (i := i) (by rw [H2.out]; exact hlt)
   obtain ⟨y9, hy9⟩ : ∃ z, k2.getD i 0 = z := ⟨_, rfl⟩
   rw [hy9] at b0
   have HN : Hid (mixX k1 k2 (i + 1) = (mixX k1 k2 i).set i (X8 x9 y9)) := by
    show (mixX k1 k2 i).set i (X8 ((mixX k1 k2 i).getD i 0) (k2.getD i 0)) = _
    rw [hx9, hy9]
   clear hx9 hy9
   have hi1 : (i : Int) < 16 := by omega
   go_upto_region 4 with fail
   refine region_B (n := 8) (m := 9) (f := 8) (by kernel_rfl) (by kernel_rfl) rfl ?_
   refine WpH.vD 0 (some 9) ?_ rfl rfl (by kernel_rfl) (fun _ _ _ h => h) rfl (fun wz hwz => ?_) ?_
   rotate_left
   ·go_simp; try (with_reducible rfl)
   simp only [Zp, Zq, Zr, Zs]
   refine WpH.vD 1 (some 10) ?_ rfl rfl (by kernel_rfl) (fun _ _ _ h => h) rfl (fun wz hwz => ?_) ?_
   rotate_left
   ·go_simp; try (with_reducible rfl)
   simp only [Zp, Zq, Zr, Zs]
   refine WpH.vD 2 (some 11) ?_ rfl rfl (by kernel_rfl) (fun _ _ _ h => h) rfl (fun wz hwz => ?_) ?_
   rotate_left
   ·(obtain ⟨hcz, hfz⟩ := bcell hwz; go_simp; try (with_reducible rfl))
   simp only [Zp, Zq, Zr, Zs]
   refine WpH.vD 3 (some 12) ?_ rfl rfl (by kernel_rfl) (fun _ _ _ h => h) rfl (fun wz hwz => ?_) ?_
   rotate_left
   ·go_simp; try (with_reducible rfl)
   simp only [Zp, Zq, Zr, Zs]
   refine WpH.vD 4 (some 13) ?_ rfl rfl (by kernel_rfl) (fun _ _ _ h => h) rfl (fun wz hwz => ?_) ?_
   rotate_left
   ·go_simp; try (with_reducible rfl)
   simp only [Zp, Zq, Zr, Zs]
   refine WpH.vD 5 (some 14) ?_ rfl rfl (by kernel_rfl) (fun _ _ _ h => h) rfl (fun wz hwz => ?_) ?_
   rotate_left
   ·(obtain ⟨hcz, hfz⟩ := bcell hwz; go_simp; try (with_reducible rfl))
   simp only [Zp, Zq, Zr, Zs]
   refine WpH.vD 6 (some 15) ?_ rfl rfl (by kernel_rfl) (fun _ _ _ h => h) rfl (fun wz hwz => ?_) ?_
   rotate_left
   ·go_simp; try (with_reducible rfl)
   simp only [Zp, Zq, Zr, Zs]
   refine WpH.vD 7 (some 16) ?_ rfl rfl (by kernel_rfl) (fun _ _ _ h => h) rfl (fun wz hwz => ?_) ?_
   rotate_left
   ·go_simp; try (with_reducible rfl)
   simp only [Zp, Zq, Zr, Zs]
   refine WpH.doneB (by kernel_rfl) (fun w4 hw4 => ?_)
   (try simp only [List.drop_succ_cons]); (try simp only [List.drop_zero]); (try simp only [Nat.reduceSub]); (try simp only [List.take_succ_cons]); (try simp only [List.take_zero])
   clear a0 a1 a2 b0 b1 b2
   replace hb00 := bl_call hb00 (Nat.le_refl _) hw4
   replace hx := hx.call hw4
   replace hy := hy.call hw4
   replace hr := hr.call hw4
   clear hw4
   obtain ⟨a0, a1, a2⟩ := hx.at16 (i := i) (by rw [H1.out]; exact hlt)
   have HP := Lib.hid (hx.put16 (i := i) (by rw [H1.out]; exact hlt) (X8 x9 y9))
   have hi2 : w.heap.size ≠ w.heap.size + 1 := by omega
   have hi3 : w.heap.size ≠ w.heap.size + 1 + 1 := by omega
   clear hx
   go_wp2_with fail
   go_roundw
   case rel => exact ⟨i + 1, by omega, by go_num, by rw [HN.out]; exact HP.out, hy.far (p := ⟨w.heap.size, i, none⟩) hi2 _, hr.far (p := ⟨w.heap.size, i, none⟩) hi3 _, bl_set (p := ⟨w.heap.size, i, none⟩) hb00 (Nat.le_refl _) _⟩
   case measure => simp [intOf]; omega
  ·obtain rfl : i = 16 := by omega
   rw [HE.out] at hx
   have HL : Hid ((xorL k1 k2).length = 16) := by rw [← HE.out]; exact H1.out 16
   have hld := hx.load16 HL.out
   have hst := hr.store16 z16_length HL.out
   have HR := Lib.hid (hr.set16 z16_length HL.out)
   have HB := Lib.hid (bl_setCells hb00 (b := w.heap.size + 1 + 1) (by omega) 0 (cells8 (xorL k1 k2)))
   clear hx hy hr hb00
   go_upto_region 6 with fail
   refine wp_region_lit ?_
   refine wpList_valD (some 18) rfl rfl (exec_load rfl (by kernel_rfl) hld) ?_
   simp only [Zp, Zq, Zr, Zs]
   refine wpList_skipD rfl rfl (exec_store rfl (by kernel_rfl) (by kernel_rfl) hst) ?_
   go_upto_region 99 with fail
   exact bodyPost_ret (results_check (b := w.heap.size + 1 + 1) HR.out HL.out rfl rfl) rfl ⟨rfl, HB.out⟩

theorem wpList_copy16 {w : World} {ops : Array Oper} {rest : List Oper} {o : Oper} {a : Act} {Q : Exit → Act → World → Prop} (hgd : o.guard = none) (s x : Operand) (dT sT : TypeId)
  (ho : o.op = .call { callee := .builtin .copy, args := #[s, x], argTypes := #[dT, sT] }) (hu : Try.prog.underlying dT = some (.slice 5))
  (b dc g sc : Nat) (hs : a.eval s = .slice (some ⟨b, 0, none⟩) 16 dc) (hx : a.eval x = .slice (some ⟨g, 0, none⟩) 16 sc) (cs old : List Int) (hcs : cs.length = 16) (hold : old.length = 16) (hb : Vs w b (cells8 old)) (hrow : RowB w g 0 cs)
  (h : wpList Try.prog ops Q rest (a.put o.dst (.int .i64 16)) (w.setCells b 0 (cells8 cs))) : wpList Try.prog ops Q (o :: rest) a w := by
 have hl : (cells8 cs).length = 16 := by rw [cells8_length, hcs]
 have hlo : (cells8 old).length = 16 := by rw [cells8_length, hold]
 have hrun := run_copy_cells (P := Try.prog) w dT sT o.type 5 b 0 16 dc ⟨g, 0, none⟩ 16 sc (cells8 cs) hu (by kernel_rfl) hl (fun j u hu => hrow.cells j u hu)
  (fun j hj => (hb.thereW j (by rw [hlo, ← hl]; exact hj)).1) (fun j hj => (hb.thereW j (by rw [hlo, ← hl]; exact hj)).2) (one8 cs)
 rw [hl] at hrun
 refine wpList_plain hgd fun K hK => ?_
 unfold Oper.wp execOp
 simp only [ho, resolve, invoke, builtin, Sem.run_bind, Sem.run_pure, Result.andThen_ok, List.map_toArray, List.map_cons, List.map_nil, hs, hx, hrun]
 exact hK _ _ h
theorem own_rowB {w : World} {base g n c : Nat} {xs : List Int} (h : w.ownsRow base 5 1 (.slice (some ⟨g, 0, none⟩) n c) n (cells8 xs)) : RowB w g 0 xs ∧ g < w.heap.size ∧ base ≤ g := by
 rcases h.2 with ⟨hv, _⟩ | ⟨g', cap, cur, hv, h2, h3, h4, h5, h6, ht⟩
 ·cases hv
 ·injection hv with e1 e2 e3
  injection e1 with e1
  injection e1 with e1
  subst e1
  refine ⟨fun i e hi => ?_, (Array.getElem?_eq_some_iff.1 h3).1, h2⟩
  have h7 := cells8_at hi
  rw [← ht] at h7
  have hlt : i < n * 1 := by
   obtain ⟨k1, _⟩ := List.getElem?_eq_some_iff.1 h7
   rw [List.length_take] at k1
   omega
  rw [List.getElem?_take_of_lt hlt] at h7
  simp [World.cell?, h3]
  simpa using h7

set_option maxHeartbeats 4000000 in
theorem total_OfId (k : List Int) (hk : k.length = 16) (hk8 : B8 k) (w : World) :
  Calls Try.prog 54 #[.agg (cells8 k).toArray] w fun e w' => e = .returned (.agg (cells8 (hashF 7 k)).toArray) ∧ Below w.heap.size w w' := by
 have HH : Hid (∀ (b cc : Nat) (wz : World), (∀ i, i < k.length → wz.cell? ⟨b, 0 + i, none⟩ = some (.int .u8 (k.getD i 0))) → b < wz.heap.size →
   Calls Try.prog 57 #[.int .u8 7, .slice (some ⟨b, 0, none⟩) 16 cc, .int .i64 16] wz fun e w' => ∃ g cp, e = .returned (.slice (some ⟨g, 0, none⟩) 16 cp) ∧ w'.ownsRow wz.heap.size 5 1 (.slice (some ⟨g, 0, none⟩) 16 cp) 16 (cells8 (hashF 7 k)) ∧ Below wz.heap.size wz w') := fun b cc wz h1 h2 => by
  have h := keccak_Hash 7 (by omega) k (fun i hi => hk8 _ (by rw [List.getD_eq_getElem?_getD, List.getElem?_eq_getElem hi]; exact List.getElem_mem hi)) (by omega) b 0 cc wz h1 h2
  rw [hk] at h
  exact h
 have HL : Hid ((hashF 7 k).length = 16) := (hashF_ok 7 k).1
 have HK := Lib.hid hk
 clear hk hk8
 generalize hashF 7 k = z at HH HL ⊢
 go_enter Try.func54, Try.ntmps54
 go_upto_region 2 with fail
 have hx := ((Vs.new w (cells8 k) ((cells8 k).toArray) 34 rfl).alloc (.cells #[.int .u8 0, .int .u8 0, .int .u8 0, .int .u8 0, .int .u8 0, .int .u8 0, .int .u8 0, .int .u8 0, .int .u8 0, .int .u8 0, .int .u8 0, .int .u8 0, .int .u8 0, .int .u8 0, .int .u8 0, .int .u8 0] 74)).alloc (.cells #[.int .u8 0, .int .u8 0, .int .u8 0, .int .u8 0, .int .u8 0, .int .u8 0, .int .u8 0, .int .u8 0, .int .u8 0, .int .u8 0, .int .u8 0, .int .u8 0, .int .u8 0, .int .u8 0, .int .u8 0, .int .u8 0] 74)
 have hr := (Vs.new (w.alloc (.cells (cells8 k).toArray 34)) (cells8 z16) (#[.int .u8 0, .int .u8 0, .int .u8 0, .int .u8 0, .int .u8 0, .int .u8 0, .int .u8 0, .int .u8 0, .int .u8 0, .int .u8 0, .int .u8 0, .int .u8 0, .int .u8 0, .int .u8 0, .int .u8 0, .int .u8 0]) 74 rfl).alloc (.cells #[.int .u8 0, .int .u8 0, .int .u8 0, .int .u8 0, .int .u8 0, .int .u8 0, .int .u8 0, .int .u8 0, .int .u8 0, .int .u8 0, .int .u8 0, .int .u8 0, .int .u8 0, .int .u8 0, .int .u8 0, .int .u8 0] 74)
 have hc := Vs.new ((w.alloc (.cells (cells8 k).toArray 34)).alloc (.cells #[.int .u8 0, .int .u8 0, .int .u8 0, .int .u8 0, .int .u8 0, .int .u8 0, .int .u8 0, .int .u8 0, .int .u8 0, .int .u8 0, .int .u8 0, .int .u8 0, .int .u8 0, .int .u8 0, .int .u8 0, .int .u8 0] 74)) (cells8 z16) (#[.int .u8 0, .int .u8 0, .int .u8 0, .int .u8 0, .int .u8 0, .int .u8 0, .int .u8 0, .int .u8 0, .int .u8 0, .int .u8 0, .int .u8 0, .int .u8 0, .int .u8 0, .int .u8 0, .int .u8 0, .int .u8 0]) 74 rfl
 simp only [World.size_alloc] at hr hc
 have hb00 : Below w.heap.size w (((w.alloc (.cells (cells8 k).toArray 34)).alloc (.cells #[.int .u8 0, .int .u8 0, .int .u8 0, .int .u8 0, .int .u8 0, .int .u8 0, .int .u8 0, .int .u8 0, .int .u8 0, .int .u8 0, .int .u8 0, .int .u8 0, .int .u8 0, .int .u8 0, .int .u8 0, .int .u8 0] 74)).alloc (.cells #[.int .u8 0, .int .u8 0, .int .u8 0, .int .u8 0, .int .u8 0, .int .u8 0, .int .u8 0, .int .u8 0, .int .u8 0, .int .u8 0, .int .u8 0, .int .u8 0, .int .u8 0, .int .u8 0, .int .u8 0, .int .u8 0] 74)) := by repeat (first | exact bA | with_reducible assumption | apply bB)
 have hszn : w.heap.size + 3 ≤ (((w.alloc (.cells (cells8 k).toArray 34)).alloc (.cells #[.int .u8 0, .int .u8 0, .int .u8 0, .int .u8 0, .int .u8 0, .int .u8 0, .int .u8 0, .int .u8 0, .int .u8 0, .int .u8 0, .int .u8 0, .int .u8 0, .int .u8 0, .int .u8 0, .int .u8 0, .int .u8 0] 74)).alloc (.cells #[.int .u8 0, .int .u8 0, .int .u8 0, .int .u8 0, .int .u8 0, .int .u8 0, .int .u8 0, .int .u8 0, .int .u8 0, .int .u8 0, .int .u8 0, .int .u8 0, .int .u8 0, .int .u8 0, .int .u8 0, .int .u8 0] 74)).heap.size := by simp only [World.size_alloc]; omega
 generalize (((w.alloc (.cells (cells8 k).toArray 34)).alloc (.cells #[.int .u8 0, .int .u8 0, .int .u8 0, .int .u8 0, .int .u8 0, .int .u8 0, .int .u8 0, .int .u8 0, .int .u8 0, .int .u8 0, .int .u8 0, .int .u8 0, .int .u8 0, .int .u8 0, .int .u8 0, .int .u8 0] 74)).alloc (.cells #[.int .u8 0, .int .u8 0, .int .u8 0, .int .u8 0, .int .u8 0, .int .u8 0, .int .u8 0, .int .u8 0, .int .u8 0, .int .u8 0, .int .u8 0, .int .u8 0, .int .u8 0, .int .u8 0, .int .u8 0, .int .u8 0] 74)) = w1 at hx hr hc hb00 hszn ⊢
 refine region_G (n := 3) (m := 4) (f := 3) (by kernel_rfl) (by kernel_rfl) rfl ?_
 refine WpG.vD 0 (some 4) ?_ rfl rfl (by kernel_rfl) (fun _ _ _ h => h) rfl (fun wz hwz => ?_) ?_
 rotate_left
 ·go_simp; try (with_reducible rfl)
 simp only [Zp, Zq, Zr, Zs]
 refine WpG.vD 1 (some 5) ?_ rfl rfl (by kernel_rfl) (fun _ _ _ h => h) rfl (fun wz hwz => ?_) ?_
 rotate_left
 ·go_simp; try (with_reducible rfl)
 simp only [Zp, Zq, Zr, Zs]
 refine WpG.oneD 2 (some 6) rfl rfl (by kernel_rfl) (fun q : Nat × Nat => Value.slice (some ⟨q.1, 0, none⟩) 16 q.2) (fun q wz => w1.heap.size ≤ q.1 ∧ wz.ownsRow w1.heap.size 5 1 (.slice (some ⟨q.1, 0, none⟩) 16 q.2) 16 (cells8 z)) (fun _ _ _ h hb => ⟨h.1, own_call h.2 hb⟩) (Fresh.call rfl (fun wz hwz => (HH.out _ _ wz (fun i hi => by rw [Nat.zero_add]; exact ((hx.call (hwz)).at16 hi).1) (hx.call (hwz)).lt).mono fun e w' ⟨g, cp, he, ho, hb'⟩ => ⟨(g, cp), he, ⟨Nat.le_trans (hwz).size (own_rowB ho).2.2, own_base9 ho (hwz).size⟩, hb'⟩) (fun wz hwz => by go_simp; try (with_reducible rfl))) (fun q0 w0 hw0 hR0 => ?_)
 simp only [Zp, Zq, Zr, Zs]
 refine WpG.done (by kernel_rfl) (fun w4 hS => ?_)
 (try simp only [List.drop_succ_cons]); (try simp only [List.drop_zero]); (try simp only [Nat.reduceSub]); (try simp only [List.take_succ_cons]); (try simp only [List.take_zero])
 obtain ⟨hb4, hg4, ho4⟩ := hS
 replace hb00 := bl_call hb00 (Nat.le_refl _) hb4
 replace hx := hx.call hb4
 replace hr := hr.call hb4
 replace hc := hc.call hb4
 clear hb4
 refine wpList_copy16 rfl (.tmp 4) (.tmp 6) _ _ rfl (by kernel_rfl) (w.heap.size + 1 + 1) 16 q0.1 q0.2 (by kernel_rfl) (by kernel_rfl) z z16 HL.out z16_length hc (own_rowB ho4).1 ?_
 have hc2 := hc.set16 z16_length HL.out
 have hr2 := hr.farW (b' := w.heap.size + 1 + 1) (by omega) 0 (cells8 z)
 have hb2 := bl_setCells hb00 (b := w.heap.size + 1 + 1) (by omega) 0 (cells8 z)
 generalize w4.setCells (w.heap.size + 1 + 1) 0 (cells8 z) = w5 at hc2 hr2 hb2 ⊢
 clear hx hr hc hb00 ho4
 have hld := hc2.load16 HL.out
 have hst := hr2.store16 z16_length HL.out
 have HR := Lib.hid (hr2.set16 z16_length HL.out)
 have HB := Lib.hid (bl_setCells hb2 (b := w.heap.size + 1) (by omega) 0 (cells8 z))
 clear hc2 hr2 hb2
 go_upto_region 3 with fail
 refine wp_region_lit ?_
 refine wpList_valD (some 8) rfl rfl (exec_load rfl (by kernel_rfl) hld) ?_
 simp only [Zp, Zq, Zr, Zs]
 refine wpList_skipD rfl rfl (exec_store rfl (by kernel_rfl) (by kernel_rfl) hst) ?_
 go_upto_region 99 with fail
 exact bodyPost_ret (results_check (b := w.heap.size + 1) HR.out HL.out rfl rfl) rfl ⟨rfl, HB.out⟩

end Go.Proofs.Ytbakkmfjamcbfaa

namespace Go.Proofs.Ytbakkmfjamcbfaa
open Go.RowKit Fm
set_option linter.unusedVariables false
set_option maxRecDepth 100000

def RetT {f : Nat} (n : Nat) (m : Int) (k : List Int) (zs : KL f) (w : World) (e : Ending) (w' : World) : Prop :=
 ∃ g, e = .returned (.agg (totL (.slice (some ⟨g, 0, none⟩) n n) m k).toArray) ∧ BlkE w' g (esK zs) ∧ w.heap.size ≤ g ∧ Below w.heap.size w w'
def RetTE {f : Nat} (n : Nat) (m : Int) (k : List Int) (zs : KL f) (w : World) (e : Ending) (w' : World) : Prop :=
 ∃ g, e = .returned (.tuple #[.agg (totL (.slice (some ⟨g, 0, none⟩) n n) m k).toArray, .int .i64 0]) ∧ BlkE w' g (esK zs) ∧ w.heap.size ≤ g ∧ Below w.heap.size w w'
theorem BlkE.farC {w : World} {g b : Nat} {xs : List E} (h : BlkE w g xs) (hb : b ≠ g) (o : Nat) (l : List Value) : BlkE (w.setCells b o l) g xs :=
 ((exc_setCells (S := fun q => q = b) b rfl l o w (exc_of (Below.refl w.heap.size w))).block g h.lt (fun e => hb e.symm)).trans h

set_option maxHeartbeats 4000000 in
theorem total_New {f : Nat} (k b l m c p : Int) (s : ByteArray) (n : Nat) (hn : n ≤ 1000000) (HC : ∀ wz, Calls Try.prog 43 #[.agg #[.int .u8 k, .int .u8 f, .int .i64 b, .int .i64 l, .int .i64 m, .int .i64 c, .int .i64 p, .string s]] wz (RetC 0 wz))
  (HO : ∀ wz, Calls Try.prog 32 #[.agg #[.int .u8 k, .int .u8 f, .int .i64 b, .int .i64 l, .int .i64 m, .int .i64 c]] wz (RetI n wz)) (w : World) :
  Calls Try.prog 31 #[.agg #[.int .u8 k, .int .u8 f, .int .i64 b, .int .i64 l, .int .i64 m, .int .i64 c, .int .i64 p, .string s]] w (RetT n 0 z16 (List.replicate n (0 : Fin (Pm f))) w) := by
 have HC := Lib.hid HC
 have HO := Lib.hid HO
 have hmk := make_elem n (by omega)
 have HZ : Hid (esK (List.replicate n (0 : Fin (Pm f))) = List.replicate n (0, 0)) := by
  show _ = _
  unfold esK
  rw [List.map_replicate, eK_zero]
 generalize (f : Int) = F at HC HO ⊢
 go_enter Try.func31, Try.ntmps31
 go_upto_region 1 with fail
 have hx := (Vs.new w [.int .u8 k, .int .u8 F, .int .i64 b, .int .i64 l, .int .i64 m, .int .i64 c, .int .i64 p, .string s] #[.int .u8 k, .int .u8 F, .int .i64 b, .int .i64 l, .int .i64 m, .int .i64 c, .int .i64 p, .string s] 62 rfl).alloc (.cells #[.slice none 0 0, .int .i64 0, .int .u8 0, .int .u8 0, .int .u8 0, .int .u8 0, .int .u8 0, .int .u8 0, .int .u8 0, .int .u8 0, .int .u8 0, .int .u8 0, .int .u8 0, .int .u8 0, .int .u8 0, .int .u8 0, .int .u8 0, .int .u8 0] 76)
 have hr := Vs.new (w.alloc (.cells #[.int .u8 k, .int .u8 F, .int .i64 b, .int .i64 l, .int .i64 m, .int .i64 c, .int .i64 p, .string s] 62)) (totL (.slice none 0 0) 0 z16) (#[.slice none 0 0, .int .i64 0, .int .u8 0, .int .u8 0, .int .u8 0, .int .u8 0, .int .u8 0, .int .u8 0, .int .u8 0, .int .u8 0, .int .u8 0, .int .u8 0, .int .u8 0, .int .u8 0, .int .u8 0, .int .u8 0, .int .u8 0, .int .u8 0]) 76 rfl
 simp only [World.size_alloc] at hr
 have hb00 : Below w.heap.size w ((w.alloc (.cells #[.int .u8 k, .int .u8 F, .int .i64 b, .int .i64 l, .int .i64 m, .int .i64 c, .int .i64 p, .string s] 62)).alloc (.cells #[.slice none 0 0, .int .i64 0, .int .u8 0, .int .u8 0, .int .u8 0, .int .u8 0, .int .u8 0, .int .u8 0, .int .u8 0, .int .u8 0, .int .u8 0, .int .u8 0, .int .u8 0, .int .u8 0, .int .u8 0, .int .u8 0, .int .u8 0, .int .u8 0] 76)) := by repeat (first | exact bA | with_reducible assumption | apply bB)
 have hszn : w.heap.size + 2 ≤ ((w.alloc (.cells #[.int .u8 k, .int .u8 F, .int .i64 b, .int .i64 l, .int .i64 m, .int .i64 c, .int .i64 p, .string s] 62)).alloc (.cells #[.slice none 0 0, .int .i64 0, .int .u8 0, .int .u8 0, .int .u8 0, .int .u8 0, .int .u8 0, .int .u8 0, .int .u8 0, .int .u8 0, .int .u8 0, .int .u8 0, .int .u8 0, .int .u8 0, .int .u8 0, .int .u8 0, .int .u8 0, .int .u8 0] 76)).heap.size := by simp only [World.size_alloc]; omega
 generalize ((w.alloc (.cells #[.int .u8 k, .int .u8 F, .int .i64 b, .int .i64 l, .int .i64 m, .int .i64 c, .int .i64 p, .string s] 62)).alloc (.cells #[.slice none 0 0, .int .i64 0, .int .u8 0, .int .u8 0, .int .u8 0, .int .u8 0, .int .u8 0, .int .u8 0, .int .u8 0, .int .u8 0, .int .u8 0, .int .u8 0, .int .u8 0, .int .u8 0, .int .u8 0, .int .u8 0, .int .u8 0, .int .u8 0] 76)) = w1 at hx hr hb00 hszn ⊢
 obtain ⟨⟨x0, x1, x2, x3, x4, x5, x6, x7⟩, ⟨x8, x9, x10, x11, x12, x13, x14, x15⟩, x16⟩ := hx.get8
 go_upto_region 3 with (first
  | (go_at_call 43; refine (HC.out _).mono ?_; rintro e w2 ⟨rfl, hb2⟩; replace hb00 := bl_call hb00 (Nat.le_refl _) hb2; replace hx := hx.call hb2; replace hr := hr.call hb2; clear x0 x1 x2 x3 x4 x5 x6 x7 x8 x9 x10 x11 x12 x13 x14 x15 x16; clear hb2; obtain ⟨⟨x0, x1, x2, x3, x4, x5, x6, x7⟩, ⟨x8, x9, x10, x11, x12, x13, x14, x15⟩, x16⟩ := hx.get8))
 have hxl := hx.lt
 have hrl := hr.lt
 refine wp_region_lit ?_
 refine wpList_valD (some 7) rfl rfl (by (go_simp; first | with_reducible rfl | exact ⟨rfl, rfl⟩ | (trace_state; fail))) ?_
 simp only [Zp, Zq, Zr, Zs]
 refine wpList_valD (some 8) rfl rfl (by (go_simp; first | with_reducible rfl | exact ⟨rfl, rfl⟩ | (trace_state; fail))) ?_
 simp only [Zp, Zq, Zr, Zs]
 refine wpList_callD (some 9) rfl rfl 32 _ ?_ (HO.out _) ?_
 ·go_simp; try (with_reducible rfl)
 rintro e w3 ⟨rfl, hb3⟩
 refine ⟨_, rfl, ?_⟩
 simp only [Zp, Zq, Zr, Zs]
 clear x0 x1 x2 x3 x4 x5 x6 x7 x8 x9 x10 x11 x12 x13 x14 x15 x16
 replace hb00 := bl_call hb00 (Nat.le_refl _) hb3
 replace hx := hx.call hb3
 replace hr := hr.call hb3
 refine wpList_valD (some 10) rfl rfl (by (skip; go_simp; first | with_reducible rfl | exact ⟨rfl, rfl⟩ | (trace_state; fail))) ?_
 simp only [Zp, Zq, Zr, Zs]
 have hbA := (Below.refl w3.heap.size w3).alloc (Nat.le_refl _) (.cells (cellsE (List.replicate n (0, 0))).toArray 99)
 have hr3 := hr.call hbA
 have hst := hr3.storeT (k := z16) (v := .slice (some ⟨w3.heap.size, 0, none⟩) n n) (m := 0) z16_length z16_length rfl
 refine wpList_valD (some 11) rfl rfl (exec_build rfl (by kernel_rfl) (build_total1 (some ⟨w3.heap.size, 0, none⟩) n n _)) ?_
 simp only [Zp, Zq, Zr, Zs]
 refine wpList_skipD rfl rfl (exec_store rfl (by kernel_rfl) (by kernel_rfl) hst) ?_
 have HR := Lib.hid (hr3.setT (k := z16) (v := .slice (some ⟨w3.heap.size, 0, none⟩) n n) (m := 0) z16_length z16_length)
 have HB := Lib.hid (bl_setCells (bl_call hb00 (Nat.le_refl _) hbA) (b := w.heap.size + 1) (by omega) 0 (totL (.slice (some ⟨w3.heap.size, 0, none⟩) n n) 0 z16))
 have HG := Lib.hid (show w.heap.size ≤ w3.heap.size from hb00.size)
 have hlt := hr.lt
 have HBK := Lib.hid (BlkE.farC (b := w.heap.size + 1) (BlkE.new w3 (List.replicate n (0, 0)) _ rfl) (by omega) 0 (totL (.slice (some ⟨w3.heap.size, 0, none⟩) n n) 0 z16))
 clear hr hb00 hx hst hbA hr3
 go_upto_region 99 with fail
 exact bodyPost_ret (results_total (b := w.heap.size + 1) HR.out z16_length rfl rfl) rfl ⟨w3.heap.size, rfl, by rw [HZ.out]; exact HBK.out, HG.out, HB.out⟩

end Go.Proofs.Ytbakkmfjamcbfaa

namespace Go.Proofs.Ytbakkmfjamcbfaa
open Go.RowKit Fm
set_option linter.unusedVariables false
set_option maxRecDepth 100000

theorem addL_len {f : Nat} {xs ys : KL f} {n : Nat} (h1 : xs.length = n) (h2 : ys.length = n) : (addL xs ys).length = n := by
 unfold addL
 rw [List.length_zipWith, h1, h2, Nat.min_self]
theorem addvec_n {f : Nat} (hf : IsF f) {n : Nat} (hn : n ≤ 1000000) {vx vo : Value} {xs os : KL f} (hxl : xs.length = n) (hol : os.length = n) (wz : World) (hx : SlK wz wz.heap.size vx xs) (ho : SlK wz wz.heap.size vo os) :
  Calls Try.prog 58 #[.int .u8 f, vx, vo] wz fun e w' => ∃ g, e = .returned (.tuple #[.slice (some ⟨g, 0, none⟩) n n, .int .i64 0]) ∧ BlkE w' g (esK (addL xs os)) ∧ wz.heap.size ≤ g ∧ Below wz.heap.size wz w' := by
 have h := field_AddVecK hf vx vo xs os wz hx ho (by omega) (by omega)
 unfold RetSK at h
 rwa [addL_len hxl hol] at h

set_option maxHeartbeats 8000000 in
theorem total_Add {f : Nat} (hf : IsF f) (k b l m c p : Int) (s : ByteArray) (n : Nat) (hn : n ≤ 1000000) (HC : ∀ wz, Calls Try.prog 43 #[.agg #[.int .u8 k, .int .u8 f, .int .i64 b, .int .i64 l, .int .i64 m, .int .i64 c, .int .i64 p, .string s]] wz (RetC 0 wz))
  (HO : ∀ wz, Calls Try.prog 32 #[.agg #[.int .u8 k, .int .u8 f, .int .i64 b, .int .i64 l, .int .i64 m, .int .i64 c]] wz (RetI n wz))
  (M : Int) (hM : 0 ≤ M ∧ M < 256) (K id : List Int) (hK : K.length = 16) (hid : id.length = 16) (hid8 : B8 id) (vx vo : Value) (xs os : KL f) (w : World) (hx : SlK w w.heap.size vx xs) (ho : SlK w w.heap.size vo os) (hxl : xs.length = n) (hol : os.length = n) :
  Calls Try.prog 37 #[.agg (totL vx M K).toArray, .agg #[.int .u8 k, .int .u8 f, .int .i64 b, .int .i64 l, .int .i64 m, .int .i64 c, .int .i64 p, .string s], .agg (cells8 id).toArray, vo] w (RetTE n (M + 1) (xorL K (hashF 7 id)) (addL xs os) w) := by
 have HADD : Hid (∀ wz, Below w.heap.size w wz → Calls Try.prog 58 #[.int .u8 f, vx, vo] wz fun e w' => ∃ g, e = .returned (.tuple #[.slice (some ⟨g, 0, none⟩) n n, .int .i64 0]) ∧ BlkE w' g (esK (addL xs os)) ∧ wz.heap.size ≤ g ∧ Below wz.heap.size wz w') := fun wz hb =>
  addvec_n hf hn hxl hol wz (hx.later hb) (ho.later hb)
 have HOF : Hid (∀ wz, Calls Try.prog 54 #[.agg (cells8 id).toArray] wz fun e w' => e = .returned (.agg (cells8 (hashF 7 id)).toArray) ∧ Below wz.heap.size wz w') := fun wz => total_OfId id hid hid8 wz
 have HHL : Hid ((hashF 7 id).length = 16) := (hashF_ok 7 id).1
 generalize hashF 7 id = z at HOF HHL ⊢
 have HWI : Hid (∀ wz, Calls Try.prog 29 #[.agg (cells8 K).toArray, .agg (cells8 z).toArray] wz fun e w' => e = .returned (.agg (cells8 (xorL K z)).toArray) ∧ Below wz.heap.size wz w') := fun wz => total_With K z hK HHL.out wz
 have HL : Hid ((xorL K z).length = 16) := xorL_length hK HHL.out
 generalize xorL K z = q at HWI HL ⊢
 generalize addL xs os = zs at HADD ⊢
 have HC := Lib.hid HC
 have HO := Lib.hid HO
 have HK := Lib.hid hK
 have HI := Lib.hid hid
 have hx9 := hx
 obtain ⟨A1, c1, hv1, _⟩ := hx9
 have ho9 := ho
 obtain ⟨A2, c2, hv2, _⟩ := ho9
 rw [hxl] at hv1
 rw [hol] at hv2
 subst hv1 hv2
 clear hK hid hid8 hx ho hxl hol hf
 generalize (f : Int) = F at HC HO HADD ⊢
 have HBD : Hid (∀ (g : Nat) wz, (Instr.build 76 #[(0, .slice (some ⟨g, 0, none⟩) n n), (1, .int .i64 (M + 1)), (2, .agg (cells8 q).toArray)]).run Try.prog wz = .ok (.agg (totL (.slice (some ⟨g, 0, none⟩) n n) (M + 1) q).toArray) wz) := fun g wz => build_total _ _ _ _ HL.out wz
 have hM1 : decide (M < 0) = false := by simp; omega
 have hM2 : decide (256 ≤ M) = false := by simp; omega
 have hwM : IntKind.i64.wrap (M + 1) = M + 1 := IntWalk.i64_in _ (by omega)
 clear hM
 go_enter Try.func37, Try.ntmps37
 go_upto_region 1 with fail
 have hX := (((Vs.new w (totL (.slice A1 n c1) M K) ((totL (.slice A1 n c1) M K).toArray) 76 rfl).alloc (.cells #[.int .u8 k, .int .u8 F, .int .i64 b, .int .i64 l, .int .i64 m, .int .i64 c, .int .i64 p, .string s] 62)).alloc (.cells (cells8 id).toArray 34)).alloc (.cells #[.slice none 0 0, .int .i64 0, .int .u8 0, .int .u8 0, .int .u8 0, .int .u8 0, .int .u8 0, .int .u8 0, .int .u8 0, .int .u8 0, .int .u8 0, .int .u8 0, .int .u8 0, .int .u8 0, .int .u8 0, .int .u8 0, .int .u8 0, .int .u8 0] 76)
 have hT := ((Vs.new (w.alloc (.cells (totL (.slice A1 n c1) M K).toArray 76)) [.int .u8 k, .int .u8 F, .int .i64 b, .int .i64 l, .int .i64 m, .int .i64 c, .int .i64 p, .string s] #[.int .u8 k, .int .u8 F, .int .i64 b, .int .i64 l, .int .i64 m, .int .i64 c, .int .i64 p, .string s] 62 rfl).alloc (.cells (cells8 id).toArray 34)).alloc (.cells #[.slice none 0 0, .int .i64 0, .int .u8 0, .int .u8 0, .int .u8 0, .int .u8 0, .int .u8 0, .int .u8 0, .int .u8 0, .int .u8 0, .int .u8 0, .int .u8 0, .int .u8 0, .int .u8 0, .int .u8 0, .int .u8 0, .int .u8 0, .int .u8 0] 76)
 have hI := (Vs.new ((w.alloc (.cells (totL (.slice A1 n c1) M K).toArray 76)).alloc (.cells #[.int .u8 k, .int .u8 F, .int .i64 b, .int .i64 l, .int .i64 m, .int .i64 c, .int .i64 p, .string s] 62)) (cells8 id) ((cells8 id).toArray) 34 rfl).alloc (.cells #[.slice none 0 0, .int .i64 0, .int .u8 0, .int .u8 0, .int .u8 0, .int .u8 0, .int .u8 0, .int .u8 0, .int .u8 0, .int .u8 0, .int .u8 0, .int .u8 0, .int .u8 0, .int .u8 0, .int .u8 0, .int .u8 0, .int .u8 0, .int .u8 0] 76)
 have hr := Vs.new (((w.alloc (.cells (totL (.slice A1 n c1) M K).toArray 76)).alloc (.cells #[.int .u8 k, .int .u8 F, .int .i64 b, .int .i64 l, .int .i64 m, .int .i64 c, .int .i64 p, .string s] 62)).alloc (.cells (cells8 id).toArray 34)) (totL (.slice none 0 0) 0 z16) (#[.slice none 0 0, .int .i64 0, .int .u8 0, .int .u8 0, .int .u8 0, .int .u8 0, .int .u8 0, .int .u8 0, .int .u8 0, .int .u8 0, .int .u8 0, .int .u8 0, .int .u8 0, .int .u8 0, .int .u8 0, .int .u8 0, .int .u8 0, .int .u8 0]) 76 rfl
 simp only [World.size_alloc] at hT hI hr
 have hb00 : Below w.heap.size w ((((w.alloc (.cells (totL (.slice A1 n c1) M K).toArray 76)).alloc (.cells #[.int .u8 k, .int .u8 F, .int .i64 b, .int .i64 l, .int .i64 m, .int .i64 c, .int .i64 p, .string s] 62)).alloc (.cells (cells8 id).toArray 34)).alloc (.cells #[.slice none 0 0, .int .i64 0, .int .u8 0, .int .u8 0, .int .u8 0, .int .u8 0, .int .u8 0, .int .u8 0, .int .u8 0, .int .u8 0, .int .u8 0, .int .u8 0, .int .u8 0, .int .u8 0, .int .u8 0, .int .u8 0, .int .u8 0, .int .u8 0] 76)) := by repeat (first | exact bA | with_reducible assumption | apply bB)
 have hszn : w.heap.size + 4 ≤ ((((w.alloc (.cells (totL (.slice A1 n c1) M K).toArray 76)).alloc (.cells #[.int .u8 k, .int .u8 F, .int .i64 b, .int .i64 l, .int .i64 m, .int .i64 c, .int .i64 p, .string s] 62)).alloc (.cells (cells8 id).toArray 34)).alloc (.cells #[.slice none 0 0, .int .i64 0, .int .u8 0, .int .u8 0, .int .u8 0, .int .u8 0, .int .u8 0, .int .u8 0, .int .u8 0, .int .u8 0, .int .u8 0, .int .u8 0, .int .u8 0, .int .u8 0, .int .u8 0, .int .u8 0, .int .u8 0, .int .u8 0] 76)).heap.size := by simp only [World.size_alloc]; omega
 generalize ((((w.alloc (.cells (totL (.slice A1 n c1) M K).toArray 76)).alloc (.cells #[.int .u8 k, .int .u8 F, .int .i64 b, .int .i64 l, .int .i64 m, .int .i64 c, .int .i64 p, .string s] 62)).alloc (.cells (cells8 id).toArray 34)).alloc (.cells #[.slice none 0 0, .int .i64 0, .int .u8 0, .int .u8 0, .int .u8 0, .int .u8 0, .int .u8 0, .int .u8 0, .int .u8 0, .int .u8 0, .int .u8 0, .int .u8 0, .int .u8 0, .int .u8 0, .int .u8 0, .int .u8 0, .int .u8 0, .int .u8 0] 76)) = w1 at hX hT hI hr hb00 hszn ⊢
 obtain ⟨⟨T0, T1, T2, T3, T4, T5, T6, T7⟩, ⟨T8, T9, T10, T11, T12, T13, T14, T15⟩, T16⟩ := hT.get8
 obtain ⟨x0, x1, x2, x3, x4⟩ := hX.tot
 go_upto_region 6 with (first
  | (go_at_call 43; refine (HC.out _).mono ?_; rintro e w2 ⟨rfl, hb2⟩; replace hb00 := bl_call hb00 (Nat.le_refl _) hb2; replace hX := hX.call hb2; replace hT := hT.call hb2; replace hI := hI.call hb2; replace hr := hr.call hb2; clear T0 T1 T2 T3 T4 T5 T6 T7 T8 T9 T10 T11 T12 T13 T14 T15 T16; clear hb2; obtain ⟨⟨T0, T1, T2, T3, T4, T5, T6, T7⟩, ⟨T8, T9, T10, T11, T12, T13, T14, T15⟩, T16⟩ := hT.get8; clear x0 x1 x2 x3 x4; obtain ⟨x0, x1, x2, x3, x4⟩ := hX.tot))
 clear hM1 hM2
 go_upto_region 8 with (first
  | (go_at_call 32; refine (HO.out _).mono ?_; rintro e w3 ⟨rfl, hb3⟩; replace hb00 := bl_call hb00 (Nat.le_refl _) hb3; replace hX := hX.call hb3; replace hT := hT.call hb3; replace hI := hI.call hb3; replace hr := hr.call hb3; clear T0 T1 T2 T3 T4 T5 T6 T7 T8 T9 T10 T11 T12 T13 T14 T15 T16; clear hb3; obtain ⟨⟨T0, T1, T2, T3, T4, T5, T6, T7⟩, ⟨T8, T9, T10, T11, T12, T13, T14, T15⟩, T16⟩ := hT.get8; clear x0 x1 x2 x3 x4; obtain ⟨x0, x1, x2, x3, x4⟩ := hX.tot))
 go_upto_region 11 with (go_at_call 58; refine (HADD.out _ hb00).mono ?_; rintro e w5 ⟨g, rfl, hB, hg, hb5⟩)
 clear x0 x1 x2 x3 x4
 clear T0 T1 T2 T3 T4 T5 T6 T7 T8 T9 T10 T11 T12 T13 T14 T15 T16
 have HG : Hid (w.heap.size ≤ g) := Nat.le_trans hb00.size hg
 have HNE : Hid (w.heap.size + 1 + 1 + 1 ≠ g) := by
  have h1 := hr.lt
  show _ ≠ _
  omega
 replace hb00 := bl_call hb00 (Nat.le_refl _) hb5
 replace hX := hX.call hb5
 replace hI := hI.call hb5
 replace hr := hr.call hb5
 clear hb5 hg hT HADD
 obtain ⟨x0, x1, x2, x3, x4⟩ := hX.tot
 refine region_G (n := 10) (m := 12) (f := 10) (by kernel_rfl) (by kernel_rfl) rfl ?_
 refine WpG.vD 0 (some 49) ?_ rfl rfl (by kernel_rfl) (fun _ _ _ h => h) rfl (fun wz hwz => ?_) ?_
 rotate_left
 ·go_simp; try (with_reducible rfl)
 simp only [Zp, Zq, Zr, Zs]
 refine WpG.vD 1 (some 50) ?_ rfl rfl (by kernel_rfl) (fun _ _ _ h => h) rfl (fun wz hwz => ?_) ?_
 rotate_left
 ·go_simp; try (with_reducible rfl)
 simp only [Zp, Zq, Zr, Zs]
 refine WpG.vD 2 (some 51) ?_ rfl rfl (by kernel_rfl) (fun _ _ _ h => h) rfl (fun wz hwz => ?_) ?_
 rotate_left
 ·(obtain ⟨hcz, hfz⟩ := bcell (hwz); go_simp; try (with_reducible rfl))
 simp only [Zp, Zq, Zr, Zs]
 refine WpG.vD 3 (some 52) ?_ rfl rfl (by kernel_rfl) (fun _ _ _ h => h) rfl (fun wz hwz => ?_) ?_
 rotate_left
 ·go_simp; try (with_reducible rfl)
 simp only [Zp, Zq, Zr, Zs]
 refine WpG.vD 4 (some 53) ?_ rfl rfl (by kernel_rfl) (fun _ _ _ h => h) rfl (fun wz hwz => ?_) ?_
 rotate_left
 ·go_simp; try (with_reducible rfl)
 simp only [Zp, Zq, Zr, Zs]
 refine WpG.vD 5 (some 54) ?_ rfl rfl (by kernel_rfl) (fun _ _ _ h => h) rfl (fun wz hwz => ?_) ?_
 rotate_left
 ·(refine Eq.trans (exec_load rfl (by kernel_rfl) ((hX.call (hwz)).loadTC HK.out)) ?_; with_reducible rfl)
 simp only [Zp, Zq, Zr, Zs]
 refine WpG.vD 6 (some 55) ?_ rfl rfl (by kernel_rfl) (fun _ _ _ h => h) rfl (fun wz hwz => ?_) ?_
 rotate_left
 ·(refine Eq.trans (exec_load rfl (by kernel_rfl) ((hI.call (hwz)).loadId HI.out)) ?_; with_reducible rfl)
 simp only [Zp, Zq, Zr, Zs]
 refine WpG.takeD 7 (some 56) rfl rfl (by kernel_rfl) (fun _ _ _ h => h) (.call rfl (fun wz hwz => HOF.out wz) (fun wz hwz => ?_)) ?_
 ·go_simp; try (with_reducible rfl)
 simp only [Zp, Zq, Zr, Zs]
 refine WpG.takeD 8 (some 57) rfl rfl (by kernel_rfl) (fun _ _ _ h => h) (.call rfl (fun wz hwz => HWI.out wz) (fun wz hwz => ?_)) ?_
 ·go_simp; try (with_reducible rfl)
 simp only [Zp, Zq, Zr, Zs]
 refine WpG.vD 9 (some 58) ?_ rfl rfl (by kernel_rfl) (fun _ _ _ h => h) rfl (fun wz hwz => ?_) ?_
 rotate_left
 ·(refine Eq.trans (exec_build rfl (by kernel_rfl) (HBD.out g wz)) ?_; with_reducible rfl)
 simp only [Zp, Zq, Zr, Zs]
 refine WpG.done (by kernel_rfl) (fun w6 hS => ?_)
 (try simp only [List.drop_succ_cons]); (try simp only [List.drop_zero]); (try simp only [Nat.reduceSub]); (try simp only [List.take_succ_cons]); (try simp only [List.take_zero])
 replace hb00 := bl_call hb00 (Nat.le_refl _) hS
 replace hr := hr.call hS
 replace hB := hB.call hS
 clear hS x0 x1 x2 x3 x4 hX hI
 have hst := hr.storeT (k := q) (v := .slice (some ⟨g, 0, none⟩) n n) (m := M + 1) z16_length HL.out rfl
 have HR := Lib.hid (hr.setT (k := q) (v := .slice (some ⟨g, 0, none⟩) n n) (m := M + 1) z16_length HL.out)
 have HB := Lib.hid (bl_setCells hb00 (b := w.heap.size + 1 + 1 + 1) (by omega) 0 (totL (.slice (some ⟨g, 0, none⟩) n n) (M + 1) q))
 have HBK := Lib.hid (hB.farC HNE.out 0 (totL (.slice (some ⟨g, 0, none⟩) n n) (M + 1) q))
 clear hr hb00 hB
 refine wpList_skipD rfl rfl (exec_store rfl (by kernel_rfl) (by kernel_rfl) hst) ?_
 clear hst
 go_upto_region 99 with fail
 exact bodyPost_ret (results_totalE (b := w.heap.size + 1 + 1 + 1) HR.out HL.out rfl rfl) rfl ⟨g, rfl, HBK.out, HG.out, HB.out⟩

set_option maxHeartbeats 8000000 in
theorem total_Merge {f : Nat} (hf : IsF f) (k b l m c p : Int) (s : ByteArray) (n : Nat) (hn : n ≤ 1000000) (HC : ∀ wz, Calls Try.prog 43 #[.agg #[.int .u8 k, .int .u8 f, .int .i64 b, .int .i64 l, .int .i64 m, .int .i64 c, .int .i64 p, .string s]] wz (RetC 0 wz))
  (M1 M2 : Int) (hM : 0 ≤ M1 ∧ 0 ≤ M2 ∧ M1 + M2 ≤ 256) (K1 K2 : List Int) (hK1 : K1.length = 16) (hK2 : K2.length = 16) (vx vo : Value) (xs os : KL f) (w : World) (hx : SlK w w.heap.size vx xs) (ho : SlK w w.heap.size vo os) (hxl : xs.length = n) (hol : os.length = n) :
  Calls Try.prog 27 #[.agg (totL vx M1 K1).toArray, .agg #[.int .u8 k, .int .u8 f, .int .i64 b, .int .i64 l, .int .i64 m, .int .i64 c, .int .i64 p, .string s], .agg (totL vo M2 K2).toArray] w (RetTE n (M1 + M2) (xorL K1 K2) (addL xs os) w) := by
 have HADD : Hid (∀ wz, Below w.heap.size w wz → Calls Try.prog 58 #[.int .u8 f, vx, vo] wz fun e w' => ∃ g, e = .returned (.tuple #[.slice (some ⟨g, 0, none⟩) n n, .int .i64 0]) ∧ BlkE w' g (esK (addL xs os)) ∧ wz.heap.size ≤ g ∧ Below wz.heap.size wz w') := fun wz hb =>
  addvec_n hf hn hxl hol wz (hx.later hb) (ho.later hb)
 have HWI : Hid (∀ wz, Calls Try.prog 29 #[.agg (cells8 K1).toArray, .agg (cells8 K2).toArray] wz fun e w' => e = .returned (.agg (cells8 (xorL K1 K2)).toArray) ∧ Below wz.heap.size wz w') := fun wz => total_With K1 K2 hK1 hK2 wz
 have HL : Hid ((xorL K1 K2).length = 16) := xorL_length hK1 hK2
 generalize xorL K1 K2 = q at HWI HL ⊢
 generalize addL xs os = zs at HADD ⊢
 have HC := Lib.hid HC
 have HK1 := Lib.hid hK1
 have HK2 := Lib.hid hK2
 have hx9 := hx
 obtain ⟨A1, c1, hv1, _⟩ := hx9
 have ho9 := ho
 obtain ⟨A2, c2, hv2, _⟩ := ho9
 rw [hxl] at hv1
 rw [hol] at hv2
 subst hv1 hv2
 clear hK1 hK2 hx ho hxl hol hf
 generalize (f : Int) = F at HC HADD ⊢
 obtain ⟨M, hMe⟩ : ∃ z, M1 + M2 = z := ⟨_, rfl⟩
 have hwM : IntKind.i64.wrap (M1 + M2) = M := by rw [IntWalk.i64_in _ (by omega)]; exact hMe
 have HBD : Hid (∀ (g : Nat) wz, (Instr.build 76 #[(0, .slice (some ⟨g, 0, none⟩) n n), (1, .int .i64 M), (2, .agg (cells8 q).toArray)]).run Try.prog wz = .ok (.agg (totL (.slice (some ⟨g, 0, none⟩) n n) M q).toArray) wz) := fun g wz => build_total _ _ _ _ HL.out wz
 obtain ⟨d, hd⟩ : ∃ z, 256 - M1 = z := ⟨_, rfl⟩
 have hwd : IntKind.i64.wrap (256 - M1) = d := by rw [IntWalk.i64_in _ (by omega)]; exact hd
 have hM1 : decide (M1 < 0) = false := by simp; omega
 have hM2 : decide (M2 < 0) = false := by simp; omega
 have hM3 : decide (256 < M1) = false := by simp; omega
 have hM4 : decide (d < M2) = false := by simp; omega
 rw [hMe]
 clear hM hd hMe
 go_enter Try.func27, Try.ntmps27
 go_upto_region 1 with fail
 have hX := (((Vs.new w (totL (.slice A1 n c1) M1 K1) ((totL (.slice A1 n c1) M1 K1).toArray) 76 rfl).alloc (.cells #[.int .u8 k, .int .u8 F, .int .i64 b, .int .i64 l, .int .i64 m, .int .i64 c, .int .i64 p, .string s] 62)).alloc (.cells (totL (.slice A2 n c2) M2 K2).toArray 76)).alloc (.cells #[.slice none 0 0, .int .i64 0, .int .u8 0, .int .u8 0, .int .u8 0, .int .u8 0, .int .u8 0, .int .u8 0, .int .u8 0, .int .u8 0, .int .u8 0, .int .u8 0, .int .u8 0, .int .u8 0, .int .u8 0, .int .u8 0, .int .u8 0, .int .u8 0] 76)
 have hT := ((Vs.new (w.alloc (.cells (totL (.slice A1 n c1) M1 K1).toArray 76)) [.int .u8 k, .int .u8 F, .int .i64 b, .int .i64 l, .int .i64 m, .int .i64 c, .int .i64 p, .string s] #[.int .u8 k, .int .u8 F, .int .i64 b, .int .i64 l, .int .i64 m, .int .i64 c, .int .i64 p, .string s] 62 rfl).alloc (.cells (totL (.slice A2 n c2) M2 K2).toArray 76)).alloc (.cells #[.slice none 0 0, .int .i64 0, .int .u8 0, .int .u8 0, .int .u8 0, .int .u8 0, .int .u8 0, .int .u8 0, .int .u8 0, .int .u8 0, .int .u8 0, .int .u8 0, .int .u8 0, .int .u8 0, .int .u8 0, .int .u8 0, .int .u8 0, .int .u8 0] 76)
 have hY := (Vs.new ((w.alloc (.cells (totL (.slice A1 n c1) M1 K1).toArray 76)).alloc (.cells #[.int .u8 k, .int .u8 F, .int .i64 b, .int .i64 l, .int .i64 m, .int .i64 c, .int .i64 p, .string s] 62)) (totL (.slice A2 n c2) M2 K2) ((totL (.slice A2 n c2) M2 K2).toArray) 76 rfl).alloc (.cells #[.slice none 0 0, .int .i64 0, .int .u8 0, .int .u8 0, .int .u8 0, .int .u8 0, .int .u8 0, .int .u8 0, .int .u8 0, .int .u8 0, .int .u8 0, .int .u8 0, .int .u8 0, .int .u8 0, .int .u8 0, .int .u8 0, .int .u8 0, .int .u8 0] 76)
 have hr := Vs.new (((w.alloc (.cells (totL (.slice A1 n c1) M1 K1).toArray 76)).alloc (.cells #[.int .u8 k, .int .u8 F, .int .i64 b, .int .i64 l, .int .i64 m, .int .i64 c, .int .i64 p, .string s] 62)).alloc (.cells (totL (.slice A2 n c2) M2 K2).toArray 76)) (totL (.slice none 0 0) 0 z16) (#[.slice none 0 0, .int .i64 0, .int .u8 0, .int .u8 0, .int .u8 0, .int .u8 0, .int .u8 0, .int .u8 0, .int .u8 0, .int .u8 0, .int .u8 0, .int .u8 0, .int .u8 0, .int .u8 0, .int .u8 0, .int .u8 0, .int .u8 0, .int .u8 0]) 76 rfl
 simp only [World.size_alloc] at hT hY hr
 have hb00 : Below w.heap.size w ((((w.alloc (.cells (totL (.slice A1 n c1) M1 K1).toArray 76)).alloc (.cells #[.int .u8 k, .int .u8 F, .int .i64 b, .int .i64 l, .int .i64 m, .int .i64 c, .int .i64 p, .string s] 62)).alloc (.cells (totL (.slice A2 n c2) M2 K2).toArray 76)).alloc (.cells #[.slice none 0 0, .int .i64 0, .int .u8 0, .int .u8 0, .int .u8 0, .int .u8 0, .int .u8 0, .int .u8 0, .int .u8 0, .int .u8 0, .int .u8 0, .int .u8 0, .int .u8 0, .int .u8 0, .int .u8 0, .int .u8 0, .int .u8 0, .int .u8 0] 76)) := by repeat (first | exact bA | with_reducible assumption | apply bB)
 have hszn : w.heap.size + 4 ≤ ((((w.alloc (.cells (totL (.slice A1 n c1) M1 K1).toArray 76)).alloc (.cells #[.int .u8 k, .int .u8 F, .int .i64 b, .int .i64 l, .int .i64 m, .int .i64 c, .int .i64 p, .string s] 62)).alloc (.cells (totL (.slice A2 n c2) M2 K2).toArray 76)).alloc (.cells #[.slice none 0 0, .int .i64 0, .int .u8 0, .int .u8 0, .int .u8 0, .int .u8 0, .int .u8 0, .int .u8 0, .int .u8 0, .int .u8 0, .int .u8 0, .int .u8 0, .int .u8 0, .int .u8 0, .int .u8 0, .int .u8 0, .int .u8 0, .int .u8 0] 76)).heap.size := by simp only [World.size_alloc]; omega
 generalize ((((w.alloc (.cells (totL (.slice A1 n c1) M1 K1).toArray 76)).alloc (.cells #[.int .u8 k, .int .u8 F, .int .i64 b, .int .i64 l, .int .i64 m, .int .i64 c, .int .i64 p, .string s] 62)).alloc (.cells (totL (.slice A2 n c2) M2 K2).toArray 76)).alloc (.cells #[.slice none 0 0, .int .i64 0, .int .u8 0, .int .u8 0, .int .u8 0, .int .u8 0, .int .u8 0, .int .u8 0, .int .u8 0, .int .u8 0, .int .u8 0, .int .u8 0, .int .u8 0, .int .u8 0, .int .u8 0, .int .u8 0, .int .u8 0, .int .u8 0] 76)) = w1 at hX hT hY hr hb00 hszn ⊢
 obtain ⟨⟨T0, T1, T2, T3, T4, T5, T6, T7⟩, ⟨T8, T9, T10, T11, T12, T13, T14, T15⟩, T16⟩ := hT.get8
 obtain ⟨x0, x1, x2, x3, x4⟩ := hX.tot
 obtain ⟨y0, y1, y2, y3, y4⟩ := hY.tot
 go_upto_region 6 with (first
  | (go_at_call 43; refine (HC.out _).mono ?_; rintro e w2 ⟨rfl, hb2⟩; replace hb00 := bl_call hb00 (Nat.le_refl _) hb2; replace hX := hX.call hb2; replace hT := hT.call hb2; replace hY := hY.call hb2; replace hr := hr.call hb2; clear T0 T1 T2 T3 T4 T5 T6 T7 T8 T9 T10 T11 T12 T13 T14 T15 T16; clear hb2; obtain ⟨⟨T0, T1, T2, T3, T4, T5, T6, T7⟩, ⟨T8, T9, T10, T11, T12, T13, T14, T15⟩, T16⟩ := hT.get8; clear x0 x1 x2 x3 x4 y0 y1 y2 y3 y4; obtain ⟨x0, x1, x2, x3, x4⟩ := hX.tot; obtain ⟨y0, y1, y2, y3, y4⟩ := hY.tot))
 clear hM1 hM2 hM3 hM4 hwd
 go_upto_region 9 with (go_at_call 58; refine (HADD.out _ hb00).mono ?_; rintro e w5 ⟨g, rfl, hB, hg, hb5⟩)
 clear x0 x1 x2 x3 x4 y0 y1 y2 y3 y4
 clear T0 T1 T2 T3 T4 T5 T6 T7 T8 T9 T10 T11 T12 T13 T14 T15 T16
 have HG : Hid (w.heap.size ≤ g) := Nat.le_trans hb00.size hg
 have HNE : Hid (w.heap.size + 1 + 1 + 1 ≠ g) := by
  have h1 := hr.lt
  show _ ≠ _
  omega
 replace hb00 := bl_call hb00 (Nat.le_refl _) hb5
 replace hX := hX.call hb5
 replace hY := hY.call hb5
 replace hr := hr.call hb5
 clear hb5 hg hT HADD
 obtain ⟨x0, x1, x2, x3, x4⟩ := hX.tot
 obtain ⟨y0, y1, y2, y3, y4⟩ := hY.tot
 refine region_G (n := 12) (m := 14) (f := 12) (by kernel_rfl) (by kernel_rfl) rfl ?_
 refine WpG.vD 0 (some 54) ?_ rfl rfl (by kernel_rfl) (fun _ _ _ h => h) rfl (fun wz hwz => ?_) ?_
 rotate_left
 ·go_simp; try (with_reducible rfl)
 simp only [Zp, Zq, Zr, Zs]
 refine WpG.vD 1 (some 55) ?_ rfl rfl (by kernel_rfl) (fun _ _ _ h => h) rfl (fun wz hwz => ?_) ?_
 rotate_left
 ·go_simp; try (with_reducible rfl)
 simp only [Zp, Zq, Zr, Zs]
 refine WpG.vD 2 (some 56) ?_ rfl rfl (by kernel_rfl) (fun _ _ _ h => h) rfl (fun wz hwz => ?_) ?_
 rotate_left
 ·(obtain ⟨hcz, hfz⟩ := bcell (hwz); go_simp; try (with_reducible rfl))
 simp only [Zp, Zq, Zr, Zs]
 refine WpG.vD 3 (some 57) ?_ rfl rfl (by kernel_rfl) (fun _ _ _ h => h) rfl (fun wz hwz => ?_) ?_
 rotate_left
 ·go_simp; try (with_reducible rfl)
 simp only [Zp, Zq, Zr, Zs]
 refine WpG.vD 4 (some 58) ?_ rfl rfl (by kernel_rfl) (fun _ _ _ h => h) rfl (fun wz hwz => ?_) ?_
 rotate_left
 ·(obtain ⟨hcz, hfz⟩ := bcell (hwz); go_simp; try (with_reducible rfl))
 simp only [Zp, Zq, Zr, Zs]
 refine WpG.vD 5 (some 59) ?_ rfl rfl (by kernel_rfl) (fun _ _ _ h => h) rfl (fun wz hwz => ?_) ?_
 rotate_left
 ·go_simp; try (with_reducible rfl)
 simp only [Zp, Zq, Zr, Zs]
 refine WpG.vD 6 (some 60) ?_ rfl rfl (by kernel_rfl) (fun _ _ _ h => h) rfl (fun wz hwz => ?_) ?_
 rotate_left
 ·go_simp; try (with_reducible rfl)
 simp only [Zp, Zq, Zr, Zs]
 refine WpG.vD 7 (some 61) ?_ rfl rfl (by kernel_rfl) (fun _ _ _ h => h) rfl (fun wz hwz => ?_) ?_
 rotate_left
 ·(refine Eq.trans (exec_load rfl (by kernel_rfl) ((hX.call (hwz)).loadTC HK1.out)) ?_; with_reducible rfl)
 simp only [Zp, Zq, Zr, Zs]
 refine WpG.vD 8 (some 62) ?_ rfl rfl (by kernel_rfl) (fun _ _ _ h => h) rfl (fun wz hwz => ?_) ?_
 rotate_left
 ·go_simp; try (with_reducible rfl)
 simp only [Zp, Zq, Zr, Zs]
 refine WpG.vD 9 (some 63) ?_ rfl rfl (by kernel_rfl) (fun _ _ _ h => h) rfl (fun wz hwz => ?_) ?_
 rotate_left
 ·(refine Eq.trans (exec_load rfl (by kernel_rfl) ((hY.call (hwz)).loadTC HK2.out)) ?_; with_reducible rfl)
 simp only [Zp, Zq, Zr, Zs]
 refine WpG.takeD 10 (some 64) rfl rfl (by kernel_rfl) (fun _ _ _ h => h) (.call rfl (fun wz hwz => HWI.out wz) (fun wz hwz => ?_)) ?_
 ·go_simp; try (with_reducible rfl)
 simp only [Zp, Zq, Zr, Zs]
 refine WpG.vD 11 (some 65) ?_ rfl rfl (by kernel_rfl) (fun _ _ _ h => h) rfl (fun wz hwz => ?_) ?_
 rotate_left
 ·(refine Eq.trans (exec_build rfl (by kernel_rfl) (HBD.out g wz)) ?_; with_reducible rfl)
 simp only [Zp, Zq, Zr, Zs]
 refine WpG.done (by kernel_rfl) (fun w6 hS => ?_)
 (try simp only [List.drop_succ_cons]); (try simp only [List.drop_zero]); (try simp only [Nat.reduceSub]); (try simp only [List.take_succ_cons]); (try simp only [List.take_zero])
 replace hb00 := bl_call hb00 (Nat.le_refl _) hS
 replace hr := hr.call hS
 replace hB := hB.call hS
 clear hS x0 x1 x2 x3 x4 y0 y1 y2 y3 y4 hX hY
 have hst := hr.storeT (k := q) (v := .slice (some ⟨g, 0, none⟩) n n) (m := M) z16_length HL.out rfl
 have HR := Lib.hid (hr.setT (k := q) (v := .slice (some ⟨g, 0, none⟩) n n) (m := M) z16_length HL.out)
 have HB := Lib.hid (bl_setCells hb00 (b := w.heap.size + 1 + 1 + 1) (by omega) 0 (totL (.slice (some ⟨g, 0, none⟩) n n) M q))
 have HBK := Lib.hid (hB.farC HNE.out 0 (totL (.slice (some ⟨g, 0, none⟩) n n) M q))
 clear hr hb00 hB
 refine wpList_skipD rfl rfl (exec_store rfl (by kernel_rfl) (by kernel_rfl) hst) ?_
 clear hst
 go_upto_region 99 with fail
 exact bodyPost_ret (results_totalE (b := w.heap.size + 1 + 1 + 1) HR.out HL.out rfl rfl) rfl ⟨g, rfl, HBK.out, HG.out, HB.out⟩

end Go.Proofs.Ytbakkmfjamcbfaa

namespace Go.Proofs.Ytbakkmfjamcbfaa
open Go.RowKit Fm
set_option linter.unusedVariables false
set_option maxRecDepth 100000

set_option maxHeartbeats 4000000 in
theorem total_Same (va vb : Value) (xs : List E) (M : Int) (K : List Int) (hK : K.length = 16) (w : World) (hx : SlE w w.heap.size va xs) (hy : SlE w w.heap.size vb xs) :
  Calls Try.prog 28 #[.agg (totL va M K).toArray, .agg (totL vb M K).toArray] w fun e w' => e = .returned (.bool true) ∧ Below w.heap.size w w' := by
 have hne := neq_elem
 have HNC : Hid (∀ wz, (Op.equalIn 10000 74 (.agg (cells8 K).toArray) (.agg (cells8 K).toArray)).run Try.prog wz = .ok true wz) := fun wz => by
  rw [run_equalIn_16 9998 Try.underlying74 hK hK]
  simp
 have HK := Lib.hid hK
 obtain ⟨⟨A, c, rfl, hc, hcm, hA⟩, hokx⟩ := hx
 obtain ⟨⟨A', c', rfl, hc', hcm', hA'⟩, hoky⟩ := hy
 clear hK
 go_enter Try.func28, Try.ntmps28
 go_upto_region 1 with fail
 have hX := (Vs.new w (totL (.slice A xs.length c) M K) ((totL (.slice A xs.length c) M K).toArray) 76 rfl).alloc (.cells (totL (.slice A' xs.length c') M K).toArray 76)
 have hY := Vs.new (w.alloc (.cells (totL (.slice A xs.length c) M K).toArray 76)) (totL (.slice A' xs.length c') M K) ((totL (.slice A' xs.length c') M K).toArray) 76 rfl
 simp only [World.size_alloc] at hY
 have hb00 : Below w.heap.size w ((w.alloc (.cells (totL (.slice A xs.length c) M K).toArray 76)).alloc (.cells (totL (.slice A' xs.length c') M K).toArray 76)) := by repeat (first | exact bA | with_reducible assumption | apply bB)
 have hszn : w.heap.size + 2 ≤ ((w.alloc (.cells (totL (.slice A xs.length c) M K).toArray 76)).alloc (.cells (totL (.slice A' xs.length c') M K).toArray 76)).heap.size := by simp only [World.size_alloc]; omega
 generalize ((w.alloc (.cells (totL (.slice A xs.length c) M K).toArray 76)).alloc (.cells (totL (.slice A' xs.length c') M K).toArray 76)) = w1 at hX hY hb00 hszn ⊢
 obtain ⟨x0, x1, x2, x3, x4⟩ := hX.tot
 obtain ⟨y0, y1, y2, y3, y4⟩ := hY.tot
 refine wp_region_lit ?_
 refine wpList_valD (some 6) rfl rfl (by (go_simp; first | with_reducible rfl | exact ⟨rfl, rfl⟩ | (trace_state; fail))) ?_
 simp only [Zp, Zq, Zr, Zs]
 refine wpList_valD (some 7) rfl rfl (by (go_simp; first | with_reducible rfl | exact ⟨rfl, rfl⟩ | (trace_state; fail))) ?_
 simp only [Zp, Zq, Zr, Zs]
 refine wpList_valD (some 8) rfl rfl (by (go_simp; first | with_reducible rfl | exact ⟨rfl, rfl⟩ | (trace_state; fail))) ?_
 simp only [Zp, Zq, Zr, Zs]
 refine wpList_valD (some 9) rfl rfl (by (go_simp; first | with_reducible rfl | exact ⟨rfl, rfl⟩ | (trace_state; fail))) ?_
 simp only [Zp, Zq, Zr, Zs]
 refine wpList_valD (some 10) rfl rfl (by (go_simp; first | with_reducible rfl | exact ⟨rfl, rfl⟩ | (trace_state; fail))) ?_
 simp only [Zp, Zq, Zr, Zs]
 refine wpList_valD (some 11) rfl rfl (by (go_simp; first | with_reducible rfl | exact ⟨rfl, rfl⟩ | (trace_state; fail))) ?_
 simp only [Zp, Zq, Zr, Zs]
 refine wpList_valG (some 12) rfl (by kernel_rfl) (by (go_simp; first | with_reducible rfl | exact ⟨rfl, rfl⟩ | (trace_state; fail))) ?_
 simp only [Zp, Zq, Zr, Zs]
 refine wpList_valG (some 13) rfl (by kernel_rfl) (exec_load rfl (by kernel_rfl) (hX.loadTC HK.out)) ?_
 simp only [Zp, Zq, Zr, Zs]
 refine wpList_valG (some 14) rfl (by kernel_rfl) (by (go_simp; first | with_reducible rfl | exact ⟨rfl, rfl⟩ | (trace_state; fail))) ?_
 simp only [Zp, Zq, Zr, Zs]
 refine wpList_valG (some 15) rfl (by kernel_rfl) (exec_load rfl (by kernel_rfl) (hY.loadTC HK.out)) ?_
 simp only [Zp, Zq, Zr, Zs]
 refine wpList_valG (some 16) rfl (by kernel_rfl) (by (have hz := HNC.out w1; go_simp; first | with_reducible rfl | exact ⟨rfl, rfl⟩ | (trace_state; fail))) ?_
 simp only [Zp, Zq, Zr, Zs]
 refine wpList_valD (some 17) rfl rfl (by (go_simp; first | with_reducible rfl | exact ⟨rfl, rfl⟩ | (trace_state; fail))) ?_
 simp only [Zp, Zq, Zr, Zs]
 refine wpList_valD (some 18) rfl rfl (by (go_simp; first | with_reducible rfl | exact ⟨rfl, rfl⟩ | (trace_state; fail))) ?_
 simp only [Zp, Zq, Zr, Zs]
 refine wpList_valG (some 19) rfl (by kernel_rfl) (by (go_simp; first | with_reducible rfl | exact ⟨rfl, rfl⟩ | (trace_state; fail))) ?_
 simp only [Zp, Zq, Zr, Zs]
 refine wpList_valG (some 20) rfl (by kernel_rfl) (by (go_simp; first | with_reducible rfl | exact ⟨rfl, rfl⟩ | (trace_state; fail))) ?_
 simp only [Zp, Zq, Zr, Zs]
 refine wpList_valG (some 21) rfl (by kernel_rfl) (by (go_simp; first | with_reducible rfl | exact ⟨rfl, rfl⟩ | (trace_state; fail))) ?_
 simp only [Zp, Zq, Zr, Zs]
 refine wpList_valG (some 22) rfl (by kernel_rfl) (by (go_simp; first | with_reducible rfl | exact ⟨rfl, rfl⟩ | (trace_state; fail))) ?_
 simp only [Zp, Zq, Zr, Zs]
 refine wpList_valG (some 23) rfl (by kernel_rfl) (by (go_simp; first | with_reducible rfl | exact ⟨rfl, rfl⟩ | (trace_state; fail))) ?_
 simp only [Zp, Zq, Zr, Zs]
 refine wpList_valG (some 24) rfl (by kernel_rfl) (by (go_simp; first | with_reducible rfl | exact ⟨rfl, rfl⟩ | (trace_state; fail))) ?_
 simp only [Zp, Zq, Zr, Zs]
 refine wpList_valG (some 25) rfl (by kernel_rfl) (by (go_simp; first | with_reducible rfl | exact ⟨rfl, rfl⟩ | (trace_state; fail))) ?_
 simp only [Zp, Zq, Zr, Zs]
 refine wpList_valD (some 26) rfl rfl (by (go_simp; first | with_reducible rfl | exact ⟨rfl, rfl⟩ | (trace_state; fail))) ?_
 simp only [Zp, Zq, Zr, Zs]
 go_upto_region 4 with fail
 clear x0 x1 x2 x3 x4 y0 y1 y2 y3 y4
 go_wp2_with fail
 go_loopw [30] (fun i wr => ∃ k : Nat, k ≤ xs.length ∧ i = .int .i64 k ∧ Vs wr w.heap.size (totL (.slice A xs.length c) M K) ∧ Vs wr (w.heap.size + 1) (totL (.slice A' xs.length c') M K) ∧ Below w.heap.size w wr) (fun i _ => xs.length - (intOf i).toNat)
 case atStart => exact ⟨0, Nat.zero_le _, rfl, hX, hY, hb00⟩
 case round =>
  clear hX hY hb00
  obtain ⟨k, hk, rfl, hX, hY, hbw⟩ := hrel
  by_cases hlt : k < xs.length
  ·obtain ⟨b, o, rfl, hB, hr⟩ := hA (by omega)
   obtain ⟨b', o', rfl, hB', hr'⟩ := hA' (by omega)
   obtain ⟨e, he⟩ : ∃ e, xs[k]? = some e := ⟨_, List.getElem?_eq_getElem hlt⟩
   obtain ⟨e0, e1⟩ := e
   obtain ⟨c0, c1⟩ := (hr.below hbw hB) k _ he
   obtain ⟨d0, d1⟩ := (hr'.below hbw hB') k _ he
   have hBr : b < wr.heap.size := Nat.lt_of_lt_of_le hB hbw.size
   have hBr' : b' < wr.heap.size := Nat.lt_of_lt_of_le hB' hbw.size
   obtain ⟨x0, x1, x2, x3, x4⟩ := hX.tot
   obtain ⟨y0, y1, y2, y3, y4⟩ := hY.tot
   have hki : (k : Int) < (xs.length : Int) := by omega
   have hwk : IntKind.i64.wrap ((k : Int) + 1) = (k : Int) + 1 := IntWalk.i64_in _ (by omega)
   clear he hr hr' hA hA'
   go_upto_region 6 with fail
   refine region_B (n := 10) (m := 11) (f := 10) (by kernel_rfl) (by kernel_rfl) rfl ?_
   refine WpH.vD 0 (some 33) ?_ rfl rfl (by kernel_rfl) (fun _ _ _ h => h) rfl (fun wz hwz => ?_) ?_
   rotate_left
   ·go_simp; try (with_reducible rfl)
   simp only [Zp, Zq, Zr, Zs]
   refine WpH.vD 1 (some 34) ?_ rfl rfl (by kernel_rfl) (fun _ _ _ h => h) rfl (fun wz hwz => ?_) ?_
   rotate_left
   ·(obtain ⟨hcz, hfz⟩ := bcell hwz; go_simp; try (with_reducible rfl))
   simp only [Zp, Zq, Zr, Zs]
   refine WpH.vD 2 (some 35) ?_ rfl rfl (by kernel_rfl) (fun _ _ _ h => h) rfl (fun wz hwz => ?_) ?_
   rotate_left
   ·go_simp; try (with_reducible rfl)
   simp only [Zp, Zq, Zr, Zs]
   refine WpH.vD 3 (some 36) ?_ rfl rfl (by kernel_rfl) (fun _ _ _ h => h) rfl (fun wz hwz => ?_) ?_
   rotate_left
   ·go_simp; try (with_reducible rfl)
   simp only [Zp, Zq, Zr, Zs]
   refine WpH.vD 4 (some 37) ?_ rfl rfl (by kernel_rfl) (fun _ _ _ h => h) rfl (fun wz hwz => ?_) ?_
   rotate_left
   ·(obtain ⟨hcz, hfz⟩ := bcell hwz; go_simp; try (with_reducible rfl))
   simp only [Zp, Zq, Zr, Zs]
   refine WpH.vD 5 (some 38) ?_ rfl rfl (by kernel_rfl) (fun _ _ _ h => h) rfl (fun wz hwz => ?_) ?_
   rotate_left
   ·go_simp; try (with_reducible rfl)
   simp only [Zp, Zq, Zr, Zs]
   refine WpH.vD 6 (some 39) ?_ rfl rfl (by kernel_rfl) (fun _ _ _ h => h) rfl (fun wz hwz => ?_) ?_
   rotate_left
   ·(obtain ⟨hcz, hfz⟩ := bcell hwz; go_simp; try (with_reducible rfl))
   simp only [Zp, Zq, Zr, Zs]
   refine WpH.vD 7 (some 40) ?_ rfl rfl (by kernel_rfl) (fun _ _ _ h => h) rfl (fun wz hwz => ?_) ?_
   rotate_left
   ·go_simp; try (with_reducible rfl)
   simp only [Zp, Zq, Zr, Zs]
   refine WpH.vD 8 (some 41) ?_ rfl rfl (by kernel_rfl) (fun _ _ _ h => h) rfl (fun wz hwz => ?_) ?_
   rotate_left
   ·go_simp; try (with_reducible rfl)
   simp only [Zp, Zq, Zr, Zs]
   refine WpH.vD 9 (some 42) ?_ rfl rfl (by kernel_rfl) (fun _ _ _ h => h) rfl (fun wz hwz => ?_) ?_
   rotate_left
   ·(obtain ⟨hcz, hfz⟩ := bcell hwz; go_simp; try (with_reducible rfl))
   simp only [Zp, Zq, Zr, Zs]
   refine WpH.doneB (by kernel_rfl) (fun w4 hw4 => ?_)
   (try simp only [List.drop_succ_cons]); (try simp only [List.drop_zero]); (try simp only [Nat.reduceSub]); (try simp only [List.take_succ_cons]); (try simp only [List.take_zero])
   clear c0 c1 d0 d1 x0 x1 x2 x3 x4 y0 y1 y2 y3 y4
   replace hbw := bl_call hbw (Nat.le_refl _) hw4
   replace hX := hX.call hw4
   replace hY := hY.call hw4
   clear hw4
   go_wp2_with fail
   go_roundw
   case rel => exact ⟨k + 1, by omega, by go_num, hX, hY, hbw⟩
   case measure => simp [intOf]; omega
  ·obtain rfl : k = xs.length := by omega
   go_wp2_with fail
   go_ret
   exact ⟨rfl, hbw⟩

set_option maxHeartbeats 4000000 in
theorem law15_same (va vb : Value) (xs : List E) (M : Int) (K : List Int) (hK : K.length = 16) (w : World) (hx : SlE w w.heap.size va xs) (hy : SlE w w.heap.size vb xs) :
  Calls Try.prog 30 #[.agg (totL va M K).toArray, .agg (totL vb M K).toArray] w fun e w' => e = .returned (.bool true) ∧ Below w.heap.size w w' := by
 have HNC : Hid (∀ wz, (Op.equalIn 10000 74 (.agg (cells8 K).toArray) (.agg (cells8 K).toArray)).run Try.prog wz = .ok true wz) := fun wz => by
  rw [run_equalIn_16 9998 Try.underlying74 hK hK]
  simp
 have HK := Lib.hid hK
 have HSM : Hid (∀ wz, Below w.heap.size w wz → Calls Try.prog 59 #[va, vb] wz fun e w' => e = .returned (.bool true) ∧ Below wz.heap.size wz w') := fun wz hb => by
  have hs := ref_Same va vb xs xs wz (hx.later hb) (hy.later hb)
  rwa [decide_eq_true rfl] at hs
 obtain ⟨⟨A, c, rfl, hc, hcm, hA⟩, hokx⟩ := hx
 obtain ⟨⟨A', c', rfl, hc', hcm', hA'⟩, hoky⟩ := hy
 clear hK hA hA'
 go_enter Try.func30, Try.ntmps30
 go_upto_region 1 with fail
 have hX := (Vs.new w (totL (.slice A xs.length c) M K) ((totL (.slice A xs.length c) M K).toArray) 76 rfl).alloc (.cells (totL (.slice A' xs.length c') M K).toArray 76)
 have hY := Vs.new (w.alloc (.cells (totL (.slice A xs.length c) M K).toArray 76)) (totL (.slice A' xs.length c') M K) ((totL (.slice A' xs.length c') M K).toArray) 76 rfl
 simp only [World.size_alloc] at hY
 have hb00 : Below w.heap.size w ((w.alloc (.cells (totL (.slice A xs.length c) M K).toArray 76)).alloc (.cells (totL (.slice A' xs.length c') M K).toArray 76)) := by repeat (first | exact bA | with_reducible assumption | apply bB)
 have hszn : w.heap.size + 2 ≤ ((w.alloc (.cells (totL (.slice A xs.length c) M K).toArray 76)).alloc (.cells (totL (.slice A' xs.length c') M K).toArray 76)).heap.size := by simp only [World.size_alloc]; omega
 generalize ((w.alloc (.cells (totL (.slice A xs.length c) M K).toArray 76)).alloc (.cells (totL (.slice A' xs.length c') M K).toArray 76)) = w1 at hX hY hb00 hszn ⊢
 obtain ⟨x0, x1, x2, x3, x4⟩ := hX.tot
 obtain ⟨y0, y1, y2, y3, y4⟩ := hY.tot
 refine wp_region_lit ?_
 refine wpList_valD (some 5) rfl rfl (by (go_simp; first | with_reducible rfl | exact ⟨rfl, rfl⟩ | (trace_state; fail))) ?_
 simp only [Zp, Zq, Zr, Zs]
 refine wpList_valD (some 6) rfl rfl (by (go_simp; first | with_reducible rfl | exact ⟨rfl, rfl⟩ | (trace_state; fail))) ?_
 simp only [Zp, Zq, Zr, Zs]
 refine wpList_valD (some 7) rfl rfl (by (go_simp; first | with_reducible rfl | exact ⟨rfl, rfl⟩ | (trace_state; fail))) ?_
 simp only [Zp, Zq, Zr, Zs]
 refine wpList_valD (some 8) rfl rfl (by (go_simp; first | with_reducible rfl | exact ⟨rfl, rfl⟩ | (trace_state; fail))) ?_
 simp only [Zp, Zq, Zr, Zs]
 refine wpList_valD (some 9) rfl rfl (by (go_simp; first | with_reducible rfl | exact ⟨rfl, rfl⟩ | (trace_state; fail))) ?_
 simp only [Zp, Zq, Zr, Zs]
 refine wpList_valD (some 10) rfl rfl (by (go_simp; first | with_reducible rfl | exact ⟨rfl, rfl⟩ | (trace_state; fail))) ?_
 simp only [Zp, Zq, Zr, Zs]
 refine wpList_valG (some 11) rfl (by kernel_rfl) (by (go_simp; first | with_reducible rfl | exact ⟨rfl, rfl⟩ | (trace_state; fail))) ?_
 simp only [Zp, Zq, Zr, Zs]
 refine wpList_valG (some 12) rfl (by kernel_rfl) (exec_load rfl (by kernel_rfl) (hX.loadTC HK.out)) ?_
 simp only [Zp, Zq, Zr, Zs]
 refine wpList_valG (some 13) rfl (by kernel_rfl) (by (go_simp; first | with_reducible rfl | exact ⟨rfl, rfl⟩ | (trace_state; fail))) ?_
 simp only [Zp, Zq, Zr, Zs]
 refine wpList_valG (some 14) rfl (by kernel_rfl) (exec_load rfl (by kernel_rfl) (hY.loadTC HK.out)) ?_
 simp only [Zp, Zq, Zr, Zs]
 refine wpList_valG (some 15) rfl (by kernel_rfl) (by (have hz := HNC.out w1; go_simp; first | with_reducible rfl | exact ⟨rfl, rfl⟩ | (trace_state; fail))) ?_
 simp only [Zp, Zq, Zr, Zs]
 refine wpList_valD (some 16) rfl rfl (by (go_simp; first | with_reducible rfl | exact ⟨rfl, rfl⟩ | (trace_state; fail))) ?_
 simp only [Zp, Zq, Zr, Zs]
 refine wpList_valD (some 17) rfl rfl (by (go_simp; first | with_reducible rfl | exact ⟨rfl, rfl⟩ | (trace_state; fail))) ?_
 simp only [Zp, Zq, Zr, Zs]
 refine wpList_valG (some 18) rfl (by kernel_rfl) (by (go_simp; first | with_reducible rfl | exact ⟨rfl, rfl⟩ | (trace_state; fail))) ?_
 simp only [Zp, Zq, Zr, Zs]
 refine wpList_valG (some 19) rfl (by kernel_rfl) (by (go_simp; first | with_reducible rfl | exact ⟨rfl, rfl⟩ | (trace_state; fail))) ?_
 simp only [Zp, Zq, Zr, Zs]
 refine wpList_valG (some 20) rfl (by kernel_rfl) (by (go_simp; first | with_reducible rfl | exact ⟨rfl, rfl⟩ | (trace_state; fail))) ?_
 simp only [Zp, Zq, Zr, Zs]
 refine wpList_valG (some 21) rfl (by kernel_rfl) (by (go_simp; first | with_reducible rfl | exact ⟨rfl, rfl⟩ | (trace_state; fail))) ?_
 simp only [Zp, Zq, Zr, Zs]
 refine wpList_callG (some 22) rfl (by kernel_rfl) 59 _ ?_ (HSM.out _ hb00) ?_
 ·go_simp; try (with_reducible rfl)
 rintro e w2 ⟨rfl, hb2⟩
 refine ⟨_, rfl, ?_⟩
 simp only [Zp, Zq, Zr, Zs]
 replace hb00 := bl_call hb00 (Nat.le_refl _) hb2
 refine wpList_valD (some 23) rfl rfl (by (go_simp; first | with_reducible rfl | exact ⟨rfl, rfl⟩ | (trace_state; fail))) ?_
 simp only [Zp, Zq, Zr, Zs]
 refine wpList_valD (some 4) rfl rfl (by (go_simp; first | with_reducible rfl | exact ⟨rfl, rfl⟩ | (trace_state; fail))) ?_
 simp only [Zp, Zq, Zr, Zs]
 go_upto_region 99 with fail
 go_ret
 exact ⟨rfl, hb00⟩

end Go.Proofs.Ytbakkmfjamcbfaa

namespace Go.Proofs.Ytbakkmfjamcbfaa
open Go.RowKit Fm
set_option linter.unusedVariables false
set_option maxRecDepth 100000

def IsSl (u : Value) : Prop := ∃ (A : Option Addr) (n c : Nat), u = .slice A n c
theorem info_sl : (Try.prog.info? 73).map (fun i => (i.zero, i.size, i.bytes)) = some (some (.slice none 0 0), 1, 24) := by kernel_rfl
theorem isSl_one {u : Value} (h : IsSl u) : u.oneCell' = true := by
 obtain ⟨A, n, c, rfl⟩ := h
 rfl

theorem run_append_S (w : World) (base : Nat) (ty : TypeId) (v : Value) (n : Nat) (vs : List Value) (hown : w.ownsRow base 73 1 v n vs) (b o c : Nat) (u : Value) (hu : IsSl u) (hcell : w.cell? ⟨b, o, none⟩ = some u) (hbound : n + 1 ≤ 1000000) (hbase : base ≤ w.heap.size) :
  ∃ v' w', (Builtin.append_ #[77, 77] ty #[v, .slice (some ⟨b, o, none⟩) 1 c]).run Try.prog w = .ok v' w' ∧ w'.ownsRow base 73 1 v' (n + 1) (vs ++ [u]) ∧ w.grownBy w' v.ownBlock ∧
   (v'.ownBlock = v.ownBlock ∨ v'.ownBlock = some w.heap.size) := by
 obtain ⟨i, hi, hz, h1, h2⟩ := info_parts info_sl
 have hcells : ∀ j u', ([u] : List Value)[j]? = some u' → w.cell? ((⟨b, o, none⟩ : Addr).add j) = some u' := by
  intro j u' hj
  cases j with
  | zero =>
   injection hj with hj
   subst hj
   exact hcell
  | succ j => simp at hj
 obtain ⟨v', w', hrun, h3, h4, _, h5⟩ := run_append_own_at (P := Try.prog) w base 77 ty 73 i _ 1 24 Try.underlying77 hi hz h1 h2 rfl (by omega) v n _ hown ⟨b, o, none⟩ 1 c [u]
  rfl hcells (fun q hq => by rw [List.mem_singleton.1 hq]; exact isSl_one hu) (by unfold maxLen; omega) (by omega) hbase
 exact ⟨v', w', hrun, h3, h4, h5⟩

theorem wpList_append_S {w : World} {ops : Array Oper} {rest : List Oper} {o : Oper} {a : Act} {Q : Exit → Act → World → Prop} (hgd : o.guard = none) (s x : Operand)
  (ho : o.op = .call { callee := .builtin .append, args := #[s, x], argTypes := #[77, 77] })
  (base : Nat) (v : Value) (n : Nat) (vs : List Value) (hs : a.eval s = v) (hown : w.ownsRow base 73 1 v n vs) (b c : Nat) (u : Value) (hx : a.eval x = .slice (some ⟨b, 0, none⟩) 1 c)
  (hu : IsSl u) (hcell : w.cell? ⟨b, 0, none⟩ = some u) (hbound : n + 1 ≤ 1000000) (hbase : base ≤ w.heap.size)
  (h : ∀ v' w', w'.ownsRow base 73 1 v' (n + 1) (vs ++ [u]) → w.grownBy w' v.ownBlock → (v'.ownBlock = v.ownBlock ∨ v'.ownBlock = some w.heap.size) → wpList Try.prog ops Q rest (a.put o.dst v') w') : wpList Try.prog ops Q (o :: rest) a w := by
 obtain ⟨v', w', hrun, h2, h3, h4⟩ := run_append_S w base o.type v n vs hown b 0 c u hu hcell hbound hbase
 refine wpList_plain hgd fun K hK => ?_
 unfold Oper.wp execOp
 simp only [ho, resolve, invoke, builtin, Sem.run_bind, Sem.run_pure, Result.andThen_ok, List.map_toArray, List.map_cons, List.map_nil, hs, hx, hrun]
 exact hK _ _ (h v' w' h2 h3 h4)

def RowS (w : World) (b o : Nat) (vs : List Value) : Prop := ∀ (i : Nat) (u : Value), vs[i]? = some u → w.cell? ⟨b, o + i, none⟩ = some u
theorem RowS.below {w w' : World} {B b o : Nat} {vs : List Value} (h : RowS w b o vs) (hb : Below B w w') (hB : b < B) : RowS w' b o vs :=
 fun i u hi => (hb.cell (p := ⟨b, o + i, none⟩) hB).trans (h i u hi)
theorem own_rowS {w : World} {base n : Nat} {v : Value} {vs : List Value} (hn : 0 < n) (h : w.ownsRow base 73 1 v n vs) : ∃ g c, v = .slice (some ⟨g, 0, none⟩) n c ∧ RowS w g 0 vs ∧ base ≤ g ∧ g < w.heap.size ∧ vs.length = n ∧ n ≤ c := by
 have hl := h.1
 rcases h.2 with ⟨_, h0⟩ | ⟨g, cap, cur, hv, hb, hg, hnc, hcm, hcs, ht⟩
 ·omega
 ·refine ⟨g, cap, hv, fun i u hi => ?_, hb, (Array.getElem?_eq_some_iff.1 hg).1, by omega, hnc⟩
  rw [← ht] at hi
  have hlt : i < n * 1 := by
   obtain ⟨h1, _⟩ := List.getElem?_eq_some_iff.1 hi
   rw [List.length_take] at h1
   omega
  rw [List.getElem?_take_of_lt hlt] at hi
  simp [World.cell?, hg]
  simpa using hi

structure PsK {f : Nat} (w : World) (vs : List Value) (ps : List (KL f)) : Prop where
 len : vs.length = ps.length
 at' : ∀ (i : Nat) (v : Value) (p : KL f), vs[i]? = some v → ps[i]? = some p → SlK w w.heap.size v p
theorem PsK.later {f : Nat} {w w' : World} {vs : List Value} {ps : List (KL f)} (h : PsK w vs ps) (hb : Below w.heap.size w w') : PsK w' vs ps :=
 ⟨h.len, fun i v p h1 h2 => (h.at' i v p h1 h2).later hb⟩
theorem PsK.nil {f : Nat} (w : World) : PsK w [] ([] : List (KL f)) := ⟨rfl, fun i v p h => by cases h⟩
theorem PsK.snoc {f : Nat} {w : World} {vs : List Value} {ps : List (KL f)} (h : PsK w vs ps) {v : Value} {p : KL f} (hv : SlK w w.heap.size v p) : PsK w (vs ++ [v]) (ps ++ [p]) := by
 refine ⟨by rw [List.length_append, List.length_append, h.len]; rfl, fun i u q h1 h2 => ?_⟩
 by_cases hi : i < vs.length
 ·rw [List.getElem?_append_left hi] at h1
  rw [List.getElem?_append_left (by rw [← h.len]; exact hi)] at h2
  exact h.at' i u q h1 h2
 ·rw [List.getElem?_append_right (by omega)] at h1
  rw [List.getElem?_append_right (by rw [← h.len]; omega), ← h.len] at h2
  obtain ⟨k, hk⟩ : ∃ k, i - vs.length = k := ⟨_, rfl⟩
  rw [hk] at h1 h2
  cases k with
  | zero =>
   injection h1 with h1
   injection h2 with h2
   subst h1
   subst h2
   exact hv
  | succ k => simp at h1
end Go.Proofs.Ytbakkmfjamcbfaa

namespace Go.Proofs.Ytbakkmfjamcbfaa
open Go.RowKit Fm
set_option linter.unusedVariables false
set_option maxRecDepth 100000

def SlR (w : World) (B : Nat) (v : Value) (q : Nat) (rows : List (List Value)) : Prop :=
 ∃ (A : Option Addr) (c : Nat), v = .slice A rows.length c ∧ rows.length ≤ c ∧ c ≤ 9223372036854775807 ∧ (0 < rows.length → ∃ b o, A = some ⟨b, o, none⟩ ∧ b < B ∧
  ∀ i r, rows[i]? = some r → ∀ j u, r[j]? = some u → w.cell? ⟨b, o + i * q + j, none⟩ = some u)
theorem SlR.nil (w : World) (B q : Nat) : SlR w B (.slice none 0 0) q [] := ⟨none, 0, rfl, Nat.le_refl _, by simp, fun h => absurd h (by simp)⟩
theorem SlR.later {w w' : World} {v : Value} {q : Nat} {rows : List (List Value)} (h : SlR w w.heap.size v q rows) (hb : Below w.heap.size w w') : SlR w' w'.heap.size v q rows := by
 obtain ⟨A, c, hv, h1, h2, h3⟩ := h
 refine ⟨A, c, hv, h1, h2, fun hp => ?_⟩
 obtain ⟨b, o, k1, k2, k3⟩ := h3 hp
 exact ⟨b, o, k1, Nat.lt_of_lt_of_le k2 hb.size, fun i r hi j u hj => (hb.cell (p := ⟨b, o + i * q + j, none⟩) k2).trans (k3 i r hi j u hj)⟩

def repL (id : List Int) (v : Value) : List Value := cells8 id ++ [v]
theorem repL_length {id : List Int} (h : id.length = 16) (v : Value) : (repL id v).length = 17 := by
 unfold repL
 rw [List.length_append, cells8_length, h]
 rfl
theorem size_rep : (Try.prog.info? 91).map (·.size) = some 17 := by kernel_rfl
section
variable {w : World} {b : Nat} {id : List Int} {v : Value}
theorem Vs.loadRI (h : Vs w b (repL id v)) (hid : id.length = 16) : (Instr.loadAt 34 (.pointer (some ⟨b, 0, none⟩))).run Try.prog w = .ok (.agg (cells8 id).toArray) w :=
 load_P (p := []) (l := cells8 id) (q := [v]) h Try.underlying34 rfl (by rw [cells8_length, hid]; exact size_id)
theorem Vs.storeR {id' : List Int} {v' : Value} (h : Vs w b (repL id' v')) (hid' : id'.length = 16) (hid : id.length = 16) (hv : v.oneCell' = true) : (Instr.storeAt 91 (.pointer (some ⟨b, 0, none⟩)) (.agg (repL id v).toArray)).run Try.prog w = .ok () (w.setCells b 0 (repL id v)) :=
 store_W h (by rw [repL_length hid, repL_length hid']) (by rw [repL_length hid]; exact size_rep) (fun x hx => by
  rcases List.mem_append.1 hx with h1 | h1
  ·exact one8 id x h1
  ·rw [List.mem_singleton.1 h1]; exact hv)
theorem Vs.setR {id' : List Int} {v' : Value} (h : Vs w b (repL id' v')) (hid' : id'.length = 16) (hid : id.length = 16) : Vs (w.setCells b 0 (repL id v)) b (repL id v) := h.setW (by rw [repL_length hid, repL_length hid'])
theorem load_rep {o i : Nat} (hid : id.length = 16) (h : ∀ j u, (repL id v)[j]? = some u → w.cell? ⟨b, o + i * 17 + j, none⟩ = some u) : (Instr.loadAt 91 (.pointer (some ⟨b, o + i * 17, none⟩))).run Try.prog w = .ok (.agg (repL id v).toArray) w :=
 run_loadAt_mid w b (o + i * 17) 91 (repL id v) _ h Try.underlying91 rfl (by rw [repL_length hid]; exact size_rep)
end

def chkF (K : List Int) (ids : List (List Int)) : List Int := ids.foldl (fun K id => xorL K (hashF 7 id)) K
theorem chkF_length {K : List Int} (hK : K.length = 16) : ∀ (ids : List (List Int)), (chkF K ids).length = 16
 | [] => hK
 | id :: ids => chkF_length (K := xorL K (hashF 7 id)) (xorL_length hK (hashF_ok 7 id).1) ids
def sumF {f : Nat} (z : KL f) (ps : List (KL f)) : KL f := ps.foldl addL z
theorem sumF_len {f n : Nat} {z : KL f} (hz : z.length = n) : ∀ (ps : List (KL f)), (∀ p, p ∈ ps → p.length = n) → (sumF z ps).length = n
 | [], _ => hz
 | p :: ps, h => sumF_len (z := addL z p) (addL_len hz (h p (List.mem_cons_self ..))) ps fun q hq => h q (List.mem_cons_of_mem _ hq)
theorem chkF_step {K : List Int} {ids : List (List Int)} {i : Nat} {id : List Int} (h : ids[i]? = some id) : chkF K (ids.take (i + 1)) = xorL (chkF K (ids.take i)) (hashF 7 id) := by
 unfold chkF
 rw [List.take_add_one, h, List.foldl_append]
 rfl
theorem sumF_step {f : Nat} {z : KL f} {ps : List (KL f)} {i : Nat} {p : KL f} (h : ps[i]? = some p) : sumF z (ps.take (i + 1)) = addL (sumF z (ps.take i)) p := by
 unfold sumF
 rw [List.take_add_one, h, List.foldl_append]
 rfl
def zK (f n : Nat) : KL f := List.replicate n 0
theorem zK_length (f n : Nat) : (zK f n).length = n := List.length_replicate

theorem BlkE.slNn {f n : Nat} {w : World} {g : Nat} {zs : KL f} (h : BlkE w g (esK zs)) (hz : zs.length = n) (hn : n ≤ 1000000) : SlK w w.heap.size (.slice (some ⟨g, 0, none⟩) n n) zs := by
 have h1 := h.slK (by omega) h.lt
 rwa [hz] at h1
theorem blk_vs {w : World} {g xb n c : Nat} {A : Option Addr} {m : Int} {k : List Int} {zs : List E} (h : BlkE w g zs) (kk : Vs w xb (totL (.slice A n c) m k)) : g ≠ xb := by
 rintro rfl
 have h1 := kk.cell 0 _ rfl
 cases zs with
 | nil =>
  unfold BlkE at h
  simp [World.cell?, h, cellsE] at h1
 | cons e zs =>
  have h2 := (h.row 0 e rfl).1
  rw [h1] at h2
  cases h2
/-! ### a region that reads a total, makes another one, and writes it in the elder's place -/
def ToT (w0 : World) (xb : Nat) (o1 : Option Unit) (o2 : Option Nat) (wz : World) : Prop := Exc (fun q => q = xb) w0.heap.size w0 wz
structure ToK (w0 : World) (xb : Nat) (old : List Value) (new : Nat → List Value) (zs : List E) (o1 : Option Unit) (o2 : Option Nat) (s : Bool) (wz : World) : Prop where
 t : Exc (fun q => q = xb) w0.heap.size w0 wz
 l : xb < w0.heap.size
 v : s = false → Vs wz xb old
 u : ∀ g, o2 = some g → s = true → Vs wz xb (new g)
 r : ∀ g, o2 = some g → w0.heap.size ≤ g ∧ BlkE wz g zs
section
variable {w0 w w' : World} {xb : Nat} {old : List Value} {new : Nat → List Value} {zs : List E} {o1 : Option Unit} {o2 : Option Nat} {s : Bool}
theorem ToK.weak (o1 : Option Unit) (o2 : Option Nat) (s : Bool) (w : World) (h : ToK w0 xb old new zs o1 o2 s w) : ToT w0 xb o1 o2 w := h.t
theorem ToK.clo : Clo (ToK w0 xb old new zs o1 o2 s) := fun w w' h hb => ⟨h.t.call hb, h.l, fun e => (h.v e).call hb, fun g e1 e2 => (h.u g e1 e2).call hb, fun g e => ⟨(h.r g e).1, (h.r g e).2.call hb⟩⟩
theorem ToK.start (h : Vs w0 xb old) : ToK w0 xb old new zs none none false w0.drew :=
 ⟨exc_of ((Below.refl _ _).drew), h.lt, fun _ => h.drew, fun _ e => (by cases e), fun _ e => (by cases e)⟩
theorem ToK.ld (h : ToK w0 xb old new zs none o2 s w) : ToK w0 xb old new zs (some ()) o2 s w := ⟨h.t, h.l, h.v, h.u, h.r⟩
theorem ToK.made {g : Nat} (h : ToK w0 xb old new zs o1 none false w) (hB : BlkE w' g zs) (hg : w.heap.size ≤ g) (hb : Below w.heap.size w w') : ToK w0 xb old new zs o1 (some g) false w' := by
 have h2 := ToK.clo _ _ h hb
 refine ⟨h2.t, h2.l, h2.v, fun _ _ e => (by cases e), fun g' e => ?_⟩
 injection e with e
 subst e
 exact ⟨Nat.le_trans h.t.size hg, hB⟩
theorem ToK.put {g : Nat} (h : ToK w0 xb old new zs o1 (some g) false w) (hl : (new g).length = old.length) : ToK w0 xb old new zs o1 (some g) true (w.setCells xb 0 (new g)) := by
 have hl0 := h.l
 refine ⟨exc_setCells (S := fun q => q = xb) xb rfl _ _ _ h.t, h.l, fun e => (by cases e), fun g' e _ => ?_, fun g' e => ?_⟩
 ·injection e with e
  subst e
  exact (h.v rfl).setW hl
 ·obtain ⟨h1, h2⟩ := h.r g' e
  exact ⟨h1, h2.farC (by omega) _ _⟩
end

set_option maxHeartbeats 8000000 in
theorem law15_add {f : Nat} (hf : IsF f) (k b l m c p : Int) (s : ByteArray) (n : Nat) (hn : n ≤ 1000000) (HC : ∀ wz, Calls Try.prog 43 #[.agg #[.int .u8 k, .int .u8 f, .int .i64 b, .int .i64 l, .int .i64 m, .int .i64 c, .int .i64 p, .string s]] wz (RetC 0 wz))
  (HO : ∀ wz, Calls Try.prog 32 #[.agg #[.int .u8 k, .int .u8 f, .int .i64 b, .int .i64 l, .int .i64 m, .int .i64 c]] wz (RetI n wz))
  (ids : List (List Int)) (us vs : List Value) (ps : List (KL f)) (N : Nat) (hN : N ≤ 100) (hi : ids.length = N) (hu : us.length = N) (hv : vs.length = N) (hp : ps.length = N) (hid : ∀ x, x ∈ ids → x.length = 16 ∧ B8 x) (hus : ∀ x, x ∈ us → IsSl x) (hpn : ∀ x, x ∈ ps → x.length = n)
  (vl vo : Value) (w : World) (hl : SlR w w.heap.size vl 17 (List.zipWith repL ids us)) (ho : SlR w w.heap.size vo 1 (vs.map fun v => [v])) (hps : PsK w vs ps) :
  Calls Try.prog 26 #[.agg #[.int .u8 k, .int .u8 f, .int .i64 b, .int .i64 l, .int .i64 m, .int .i64 c, .int .i64 p, .string s], vl, vo] w (RetTE n N (chkF z16 ids) (sumF (zK f n) ps) w) := by
 have HNEW : Hid (∀ wz, Calls Try.prog 31 #[.agg #[.int .u8 k, .int .u8 f, .int .i64 b, .int .i64 l, .int .i64 m, .int .i64 c, .int .i64 p, .string s]] wz (RetT n 0 z16 (zK f n) wz)) := fun wz => total_New k b l m c p s n hn HC HO wz
 have HADD : Hid (∀ (g i : Nat) (K id : List Int) (vx vo : Value) (xs os : KL f) wz, i < 256 → K.length = 16 → id.length = 16 → B8 id → SlK wz wz.heap.size vx xs → SlK wz wz.heap.size vo os → xs.length = n → os.length = n →
   Calls Try.prog 37 #[.agg (totL vx (i : Int) K).toArray, .agg #[.int .u8 k, .int .u8 f, .int .i64 b, .int .i64 l, .int .i64 m, .int .i64 c, .int .i64 p, .string s], .agg (cells8 id).toArray, vo] wz (RetTE n (((i + 1 : Nat) : Int)) (xorL K (hashF 7 id)) (addL xs os) wz)) :=
  fun g i K id vx vo xs os wz h0 h1 h2 h3 h4 h5 h6 h7 => total_Add hf k b l m c p s n hn HC HO (i : Int) ⟨by omega, by omega⟩ K id h1 h2 h3 vx vo xs os wz h4 h5 h6 h7
 have HROW : Hid (∀ (i : Nat), i < N → ∃ id u v p, ids[i]? = some id ∧ us[i]? = some u ∧ vs[i]? = some v ∧ ps[i]? = some p ∧ id.length = 16 ∧ B8 id ∧ IsSl u ∧ p.length = n ∧ (List.zipWith repL ids us)[i]? = some (repL id u) ∧ (vs.map fun v => [v])[i]? = some [v] ∧ SlK w w.heap.size v p) := fun i h => by
  have e1 : ids[i]? = some (ids[i]'(by omega)) := List.getElem?_eq_getElem _
  have e2 : us[i]? = some (us[i]'(by omega)) := List.getElem?_eq_getElem _
  have e3 : vs[i]? = some (vs[i]'(by omega)) := List.getElem?_eq_getElem _
  have e4 : ps[i]? = some (ps[i]'(by omega)) := List.getElem?_eq_getElem _
  obtain ⟨h1, h2⟩ := hid _ (List.getElem_mem (by omega : i < ids.length))
  refine ⟨_, _, _, _, e1, e2, e3, e4, h1, h2, hus _ (List.getElem_mem _), hpn _ (List.getElem_mem _), ?_, ?_, hps.at' i _ _ e3 e4⟩
  ·rw [List.getElem?_zipWith, e1, e2]
  ·rw [List.getElem?_map, e3]
   rfl
 have HCL : Hid (∀ i, (chkF z16 (ids.take i)).length = 16) := fun i => chkF_length z16_length _
 have HSL : Hid (∀ i, (sumF (zK f n) (ps.take i)).length = n) := fun i => sumF_len (zK_length f n) _ fun q hq => hpn q (List.mem_of_mem_take hq)
 have HC0 : Hid (chkF z16 (ids.take N) = chkF z16 ids ∧ sumF (zK f n) (ps.take N) = sumF (zK f n) ps) := ⟨by rw [List.take_of_length_le (by omega)], by rw [List.take_of_length_le (by omega)]⟩
 have HST : Hid (∀ i id p, ids[i]? = some id → ps[i]? = some p → chkF z16 (ids.take (i + 1)) = xorL (chkF z16 (ids.take i)) (hashF 7 id) ∧ sumF (zK f n) (ps.take (i + 1)) = addL (sumF (zK f n) (ps.take i)) p) := fun i id p h1 h2 => ⟨chkF_step h1, sumF_step h2⟩
 have hzl : (List.zipWith repL ids us).length = N := by rw [List.length_zipWith, hi, hu, Nat.min_self]
 have hvl : (vs.map fun v => [v]).length = N := by rw [List.length_map, hv]
 obtain ⟨A, ca, hA0, hca, hcam, hA⟩ := hl
 obtain ⟨A', cb, hB0, hcb, hcbm, hA'⟩ := ho
 rw [hzl] at hA0 hca hA
 rw [hvl] at hB0 hcb hA'
 subst hA0 hB0
 have HA := Lib.hid hA
 have HA' := Lib.hid hA'
 clear hi hu hv hp hid hus hpn hps hzl hvl hA hA' HC HO hf
 rw [← HC0.out.1, ← HC0.out.2]
 generalize (f : Int) = F at HNEW HADD ⊢
 go_enter Try.func26, Try.ntmps26
 go_upto_region 1 with fail
 have hT := (Vs.new w [.int .u8 k, .int .u8 F, .int .i64 b, .int .i64 l, .int .i64 m, .int .i64 c, .int .i64 p, .string s] #[.int .u8 k, .int .u8 F, .int .i64 b, .int .i64 l, .int .i64 m, .int .i64 c, .int .i64 p, .string s] 62 rfl).alloc (.cells #[.slice none 0 0, .int .i64 0, .int .u8 0, .int .u8 0, .int .u8 0, .int .u8 0, .int .u8 0, .int .u8 0, .int .u8 0, .int .u8 0, .int .u8 0, .int .u8 0, .int .u8 0, .int .u8 0, .int .u8 0, .int .u8 0, .int .u8 0, .int .u8 0] 76)
 have hr := Vs.new (w.alloc (.cells #[.int .u8 k, .int .u8 F, .int .i64 b, .int .i64 l, .int .i64 m, .int .i64 c, .int .i64 p, .string s] 62)) (totL (.slice none 0 0) 0 z16) (#[.slice none 0 0, .int .i64 0, .int .u8 0, .int .u8 0, .int .u8 0, .int .u8 0, .int .u8 0, .int .u8 0, .int .u8 0, .int .u8 0, .int .u8 0, .int .u8 0, .int .u8 0, .int .u8 0, .int .u8 0, .int .u8 0, .int .u8 0, .int .u8 0]) 76 rfl
 simp only [World.size_alloc] at hr
 have hb00 : Below w.heap.size w ((w.alloc (.cells #[.int .u8 k, .int .u8 F, .int .i64 b, .int .i64 l, .int .i64 m, .int .i64 c, .int .i64 p, .string s] 62)).alloc (.cells #[.slice none 0 0, .int .i64 0, .int .u8 0, .int .u8 0, .int .u8 0, .int .u8 0, .int .u8 0, .int .u8 0, .int .u8 0, .int .u8 0, .int .u8 0, .int .u8 0, .int .u8 0, .int .u8 0, .int .u8 0, .int .u8 0, .int .u8 0, .int .u8 0] 76)) := by repeat (first | exact bA | with_reducible assumption | apply bB)
 have hszn : w.heap.size + 2 ≤ ((w.alloc (.cells #[.int .u8 k, .int .u8 F, .int .i64 b, .int .i64 l, .int .i64 m, .int .i64 c, .int .i64 p, .string s] 62)).alloc (.cells #[.slice none 0 0, .int .i64 0, .int .u8 0, .int .u8 0, .int .u8 0, .int .u8 0, .int .u8 0, .int .u8 0, .int .u8 0, .int .u8 0, .int .u8 0, .int .u8 0, .int .u8 0, .int .u8 0, .int .u8 0, .int .u8 0, .int .u8 0, .int .u8 0] 76)).heap.size := by simp only [World.size_alloc]; omega
 generalize ((w.alloc (.cells #[.int .u8 k, .int .u8 F, .int .i64 b, .int .i64 l, .int .i64 m, .int .i64 c, .int .i64 p, .string s] 62)).alloc (.cells #[.slice none 0 0, .int .i64 0, .int .u8 0, .int .u8 0, .int .u8 0, .int .u8 0, .int .u8 0, .int .u8 0, .int .u8 0, .int .u8 0, .int .u8 0, .int .u8 0, .int .u8 0, .int .u8 0, .int .u8 0, .int .u8 0, .int .u8 0, .int .u8 0] 76)) = w1 at hT hr hb00 hszn ⊢
 obtain ⟨⟨T0, T1, T2, T3, T4, T5, T6, T7⟩, ⟨T8, T9, T10, T11, T12, T13, T14, T15⟩, T16⟩ := hT.get8
 have hb00s := hr.lt
 refine wp_region_lit ?_
 refine wpList_valD (some 12) rfl rfl (by (go_simp; first | with_reducible rfl | exact ⟨rfl, rfl⟩ | (trace_state; fail))) ?_
 simp only [Zp, Zq, Zr, Zs]
 refine wpList_callD (some 13) rfl rfl 31 _ ?_ (HNEW.out _) ?_
 ·go_simp; try (with_reducible rfl)
 rintro e w2 ⟨g, rfl, hB, hg, hb2⟩
 refine ⟨_, rfl, ?_⟩
 simp only [Zp, Zq, Zr, Zs]
 clear T0 T1 T2 T3 T4 T5 T6 T7 T8 T9 T10 T11 T12 T13 T14 T15 T16
 replace hb00 := bl_call hb00 (Nat.le_refl _) hb2
 replace hT := hT.call hb2
 replace hr := hr.call hb2
 have hsz := hb00.size
 refine wpList_valD (some 8) rfl rfl (by (skip; go_simp; first | with_reducible rfl | exact ⟨rfl, rfl⟩ | (trace_state; fail))) ?_
 simp only [Zp, Zq, Zr, Zs]
 have hX := Vs.new w2 (totL (.slice none 0 0) 0 z16) #[.slice none 0 0, .int .i64 0, .int .u8 0, .int .u8 0, .int .u8 0, .int .u8 0, .int .u8 0, .int .u8 0, .int .u8 0, .int .u8 0, .int .u8 0, .int .u8 0, .int .u8 0, .int .u8 0, .int .u8 0, .int .u8 0, .int .u8 0, .int .u8 0] 76 rfl
 have hbA := (Below.refl w2.heap.size w2).alloc (Nat.le_refl _) (.cells #[.slice none 0 0, .int .i64 0, .int .u8 0, .int .u8 0, .int .u8 0, .int .u8 0, .int .u8 0, .int .u8 0, .int .u8 0, .int .u8 0, .int .u8 0, .int .u8 0, .int .u8 0, .int .u8 0, .int .u8 0, .int .u8 0, .int .u8 0, .int .u8 0] 76)
 have hst := hX.storeT (k := z16) (v := .slice (some ⟨g, 0, none⟩) n n) (m := 0) z16_length z16_length rfl
 refine wpList_skipD rfl rfl (exec_store rfl (by kernel_rfl) (by kernel_rfl) hst) ?_
 replace hX := hX.setT (k := z16) (v := .slice (some ⟨g, 0, none⟩) n n) (m := 0) z16_length z16_length
 have hrl := hr.lt
 have hbC := bl_setCells hbA (Nat.le_refl _) 0 (totL (.slice (some ⟨g, 0, none⟩) n n) 0 z16)
 replace hb00 := bl_call hb00 (Nat.le_refl _) hbC
 replace hT := hT.call hbC
 replace hr := hr.call hbC
 replace hB := hB.call hbC
 clear hst hbA hb2 hb00s hbC
 generalize (w2.alloc (.cells #[.slice none 0 0, .int .i64 0, .int .u8 0, .int .u8 0, .int .u8 0, .int .u8 0, .int .u8 0, .int .u8 0, .int .u8 0, .int .u8 0, .int .u8 0, .int .u8 0, .int .u8 0, .int .u8 0, .int .u8 0, .int .u8 0, .int .u8 0, .int .u8 0] 76)).setCells w2.heap.size 0 (totL (.slice (some ⟨g, 0, none⟩) n n) 0 z16) = w3 at hX hB hr hT hb00 ⊢
 have hgw : w.heap.size ≤ g := by
  have h := hb00.size
  omega
 obtain ⟨xb, hxb⟩ : ∃ z, w2.heap.size = z := ⟨_, rfl⟩
 rw [hxb] at hX hsz hrl
 simp only [hxb]
 have HXB : Hid (w.heap.size + 1 < xb) := hrl
 clear hxb hrl hsz
 go_upto_region 2 with fail
 go_wp2_with fail
 go_loopw [16] (fun v16 wr => ∃ i g : Nat, i ≤ N ∧ v16 = .int .i64 i ∧ Vs wr xb (totL (.slice (some ⟨g, 0, none⟩) n n) (i : Int) (chkF z16 (ids.take i))) ∧ BlkE wr g (esK (sumF (zK f n) (ps.take i))) ∧ w.heap.size ≤ g ∧
  Vs wr w.heap.size [.int .u8 k, .int .u8 F, .int .i64 b, .int .i64 l, .int .i64 m, .int .i64 c, .int .i64 p, .string s] ∧ Vs wr (w.heap.size + 1) (totL (.slice none 0 0) 0 z16) ∧ Below w.heap.size w wr) (fun v16 _ => N - (intOf v16).toNat)
 case atStart => exact ⟨0, g, by omega, rfl, hX, hB, hgw, hT, hr, hb00⟩
 case round =>
  clear hX hB hgw hT hr hb00
  obtain ⟨i, g, hin, rfl, hX, hB, hgw, hT, hr, hb00⟩ := hrel
  by_cases hlt : i < N
  ·obtain ⟨id, u, v, p9, e1, e2, e3, e4, hid16, hid8, hu, hpl, hr1, hr2, hsl⟩ := HROW.out i hlt
   obtain ⟨b1, o1, hAe, hb1, hrw1⟩ := HA.out (by omega)
   obtain ⟨b2, o2, hBe, hb2, hrw2⟩ := HA'.out (by omega)
   subst hAe hBe
   have hrep := load_rep (w := wr) (b := b1) (o := o1) (i := i) hid16 (fun j u h => (hb00.cell (p := ⟨b1, o1 + i * 17 + j, none⟩) hb1).trans (hrw1 i _ hr1 j u h))
   have ho2 := (hb00.cell (p := ⟨b2, o2 + i * 1 + 0, none⟩) hb2).trans (hrw2 i _ hr2 0 v rfl)
   obtain ⟨H1, H2⟩ := HST.out i id p9 e1 e4
   have H1 := Lib.hid H1
   have H2 := Lib.hid H2
   have hzl := HCL.out i
   have hsn := HSL.out i
   have hSL := Lib.hid (hsl.later hb00)
   have hsl0 := hsl
   clear e1 e2 e3 e4 hr1 hr2 hrw1 hrw2 hsl
   generalize chkF z16 (ids.take i) = K at hX hzl H1
   generalize sumF (zK f n) (ps.take i) = S at hB hsn H2
   have HKL := Lib.hid hzl
   have HSN := Lib.hid hsn
   have HID := Lib.hid hid16
   have HI8 := Lib.hid hid8
   have HPL := Lib.hid hpl
   clear hzl hsn hid16 hid8 hpl
   have hi1 : (i : Int) < (N : Int) := by omega
   go_upto_region 4 with fail
   refine wp_region_lit ?_
   refine wpList_valD (some 18) rfl rfl (by (go_simp; first | with_reducible rfl | exact ⟨rfl, rfl⟩ | (trace_state; fail))) ?_
   simp only [Zp, Zq, Zr, Zs]
   refine wpList_valD (some 19) rfl rfl (by (go_simp; first | with_reducible rfl | exact ⟨rfl, rfl⟩ | (trace_state; fail))) ?_
   simp only [Zp, Zq, Zr, Zs]
   refine wpList_valD (some 20) rfl rfl (exec_load rfl (by kernel_rfl) hrep) ?_
   simp only [Zp, Zq, Zr, Zs]
   refine wpList_valD (some 10) rfl rfl (by (skip; go_simp; first | with_reducible rfl | exact ⟨rfl, rfl⟩ | (trace_state; fail))) ?_
   simp only [Zp, Zq, Zr, Zs]
   have hR := Vs.new wr (repL z16 (.slice none 0 0)) #[.int .u8 0, .int .u8 0, .int .u8 0, .int .u8 0, .int .u8 0, .int .u8 0, .int .u8 0, .int .u8 0, .int .u8 0, .int .u8 0, .int .u8 0, .int .u8 0, .int .u8 0, .int .u8 0, .int .u8 0, .int .u8 0, .slice none 0 0] 91 rfl
   have hbA := (Below.refl wr.heap.size wr).alloc (Nat.le_refl _) (.cells #[.int .u8 0, .int .u8 0, .int .u8 0, .int .u8 0, .int .u8 0, .int .u8 0, .int .u8 0, .int .u8 0, .int .u8 0, .int .u8 0, .int .u8 0, .int .u8 0, .int .u8 0, .int .u8 0, .int .u8 0, .int .u8 0, .slice none 0 0] 91)
   have hst := hR.storeR (id := id) (v := u) z16_length HID.out (isSl_one hu)
   refine wpList_valD (some 9) rfl rfl (by (go_simp; first | with_reducible rfl | exact ⟨rfl, rfl⟩ | (trace_state; fail))) ?_
   simp only [Zp, Zq, Zr, Zs]
   refine wpList_skipD rfl rfl (exec_store rfl (by kernel_rfl) (by kernel_rfl) hst) ?_
   replace hR := hR.setR (id := id) (v := u) z16_length HID.out
   have hbC := bl_setCells hbA (Nat.le_refl _) 0 (repL id u)
   have ho3 := (hbC.cell (p := ⟨b2, o2 + i * 1 + 0, none⟩) (Nat.lt_of_lt_of_le hb2 hb00.size)).trans ho2
   have HSL2 := Lib.hid (SlK.later hSL.out hbC)
   have HSW0 := Lib.hid hsl0
   have HNGX : Hid (¬ g = xb) := fun e => blk_vs hB hX e
   have hxw := hX.lt
   replace hb00 := bl_call hb00 (Nat.le_refl _) hbC
   replace hX := hX.call hbC
   replace hT := hT.call hbC
   replace hr := hr.call hbC
   replace hB := hB.call hbC
   generalize (wr.alloc (.cells #[.int .u8 0, .int .u8 0, .int .u8 0, .int .u8 0, .int .u8 0, .int .u8 0, .int .u8 0, .int .u8 0, .int .u8 0, .int .u8 0, .int .u8 0, .int .u8 0, .int .u8 0, .int .u8 0, .int .u8 0, .int .u8 0, .slice none 0 0] 91)).setCells wr.heap.size 0 (repL id u) = w5 at hR hB hX hT hr hb00 ho3 HSL2 ⊢
   have hrb1 := hR.lt
   obtain ⟨rb, hrb⟩ : ∃ z, wr.heap.size = z := ⟨_, rfl⟩
   rw [hrb] at hR hrb1
   simp only [hrb]
   have HRX : Hid (xb < rb) := by rw [← hrb]; exact hxw
   clear hrb ho2 hbC hxw
   clear hst hbA hrep hSL
   rw [Nat.mul_one, Nat.add_zero] at ho3
   have hb25 : b2 < w5.heap.size := Nat.lt_of_lt_of_le hb2 hb00.size
   obtain ⟨x0, x1, x2, x3, x4⟩ := hX.tot
   have HXX := Lib.hid hX
   have HRR := Lib.hid hR
   have HBB := Lib.hid hB
   go_upto_region 6 with fail
   obtain ⟨⟨T0, T1, T2, T3, T4, T5, T6, T7⟩, ⟨T8, T9, T10, T11, T12, T13, T14, T15⟩, T16⟩ := hT.get8
   clear x0 x1 x2 x3 x4
   clear T0 T1 T2 T3 T4 T5 T6 T7 T8 T9 T10 T11 T12 T13 T14 T15 T16
   have HTT := Lib.hid hT
   have hbs := hb00.size
   have hXl := hX.lt
   have hHX := HXB.out
   have n1 : ¬ w.heap.size = xb := by omega
   have n2 : ¬ rb = xb := by
    have h := HRX.out
    omega
   have n3 : ¬ b2 = xb := by omega
   have n4 : w.heap.size ≤ xb := by omega
   have HN1 := Lib.hid n1
   have HN2 := Lib.hid n2
   have HN3 := Lib.hid n3
   have HN4 := Lib.hid n4
   have HB0 := Lib.hid hb00
   have HNG : Hid (∀ wz, Exc (fun q => q = xb) w5.heap.size w5 wz → Below w.heap.size w wz) := fun wz h => HB0.out.trans (exc_own (h.mono HB0.out.size) HN4.out)
   have HNEW2 : Hid (∀ g : Nat, (totL (.slice (some ⟨g, 0, none⟩) n n) (((i + 1 : Nat) : Int)) (xorL K (hashF 7 id))).length = (totL (.slice (some ⟨g, 0, none⟩) n n) (i : Int) K).length) := fun g => by rw [totL_length _ _ HKL.out, totL_length _ _ (xorL_length HKL.out (hashF_ok 7 id).1)]
   have HZL : Hid ((xorL K (hashF 7 id)).length = 16) := xorL_length HKL.out (hashF_ok 7 id).1
   have HSW : Hid (SlK w w.heap.size v p9) := HSW0.out
   clear n1 n2 n3 n4 hHX hXl hbs
   apply region_Z2 (n := 13) (m := 14) (f := 13) (fun x0 x1 => (ToK w5 xb (totL (.slice (some ⟨g, 0, none⟩) n n) (i : Int) K) (fun g => totL (.slice (some ⟨g, 0, none⟩) n n) (((i + 1 : Nat) : Int)) (xorL K (hashF 7 id))) (esK (addL S p9))) (some x0) (some x1) true) ((ToT w5 xb) none none) ((ToK w5 xb (totL (.slice (some ⟨g, 0, none⟩) n n) (i : Int) K) (fun g => totL (.slice (some ⟨g, 0, none⟩) n n) (((i + 1 : Nat) : Int)) (xorL K (hashF 7 id))) (esK (addL S p9))) none none false) ((ToK.weak _ _ _)) (ToK.clo) ((ToK.start HXX.out))
   case hm => kernel_rfl
   case hB => kernel_rfl
   case hf => rfl
   case' h =>
    refine WpX.vD 1 (some 23) ?_ rfl rfl (by kernel_rfl) (fun _ _ _ h => h) rfl (fun wz hwz => ?_) ?_
    rotate_left
    ·(have hz := (HTT.out.exc (S := fun q => q = xb) HN1.out hwz).get8; obtain ⟨⟨z0, z1, z2, z3, z4, z5, z6, z7⟩, ⟨y0, y1, y2, y3, y4, y5, y6, y7⟩, y8⟩ := hz; go_simp; try (with_reducible rfl))
    simp only [Zp, Zq, Zr, Zs]
    refine WpX.vD 2 (some 24) ?_ rfl rfl (by kernel_rfl) (fun _ _ _ h => h) rfl (fun wz hwz => ?_) ?_
    rotate_left
    ·go_simp; try (with_reducible rfl)
    simp only [Zp, Zq, Zr, Zs]
    refine WpX.vD 3 (some 25) ?_ rfl rfl (by kernel_rfl) (fun _ _ _ h => h) rfl (fun wz hwz => ?_) ?_
    rotate_left
    ·(refine Eq.trans (exec_load rfl (by kernel_rfl) ((HRR.out.exc (S := fun q => q = xb) HN2.out hwz).loadRI HID.out)) ?_; with_reducible rfl)
    simp only [Zp, Zq, Zr, Zs]
    refine WpX.vD 4 (some 26) ?_ rfl rfl (by kernel_rfl) (fun _ _ _ h => h) rfl (fun wz hwz => ?_) ?_
    rotate_left
    ·go_simp; try (with_reducible rfl)
    simp only [Zp, Zq, Zr, Zs]
    refine WpX.vD 5 (some 27) ?_ rfl rfl (by kernel_rfl) (fun _ _ _ h => h) rfl (fun wz hwz => ?_) ?_
    rotate_left
    ·go_simp; try (with_reducible rfl)
    simp only [Zp, Zq, Zr, Zs]
    refine WpX.vD 6 (some 28) ?_ rfl rfl (by kernel_rfl) (fun _ _ _ h => h) rfl (fun wz hwz => ?_) ?_
    rotate_left
    ·go_simp; try (with_reducible rfl)
    simp only [Zp, Zq, Zr, Zs]
    refine WpX.vD 7 (some 29) ?_ rfl rfl (by kernel_rfl) (fun _ _ _ h => h) rfl (fun wz hwz => ?_) ?_
    rotate_left
    ·(have hz := (Exc.cell hwz (p := ⟨b2, o2 + i, none⟩) hb25 HN3.out).trans ho3; go_simp; try (with_reducible rfl))
    simp only [Zp, Zq, Zr, Zs]
    refine WpX.oneD 0 (some 22) rfl rfl (by kernel_rfl) (fun _ : Unit => Value.agg (totL (.slice (some ⟨g, 0, none⟩) n n) (i : Int) K).toArray) (fun ld => (ToT w5 xb) (some ld) none) (fun ld => (ToK w5 xb (totL (.slice (some ⟨g, 0, none⟩) n n) (i : Int) K) (fun g => totL (.slice (some ⟨g, 0, none⟩) n n) (((i + 1 : Nat) : Int)) (xorL K (hashF 7 id))) (esK (addL S p9))) (some ld) none false) (Turns.val rfl (fun _ _ h => h) (fun _ => (ToK.weak _ _ _)) (fun _ => ToK.clo) (fun wz hS => ⟨(), wz, exec_load rfl (by kernel_rfl) ((hS.v rfl).loadT HKL.out), hS.ld⟩)) (fun ld => ?_)
    simp only [Zp, Zq, Zr, Zs]
    refine WpX.oneD 8 (some 30) rfl rfl (by kernel_rfl) (fun g2 : Nat => Value.tuple #[.agg (totL (.slice (some ⟨g2, 0, none⟩) n n) (((i + 1 : Nat) : Int)) (xorL K (hashF 7 id))).toArray, .int .i64 0]) (fun g2 => (ToT w5 xb) (some ld) (some g2)) (fun g2 => (ToK w5 xb (totL (.slice (some ⟨g, 0, none⟩) n n) (i : Int) K) (fun g => totL (.slice (some ⟨g, 0, none⟩) n n) (((i + 1 : Nat) : Int)) (xorL K (hashF 7 id))) (esK (addL S p9))) (some ld) (some g2) false) (Turns.call rfl (fun _ _ h => h) (fun _ => (ToK.weak _ _ _)) (fun _ => ToK.clo) (fun wz hS => (HADD.out g i K id _ _ S p9 wz (by omega) HKL.out HID.out HI8.out (BlkE.slNn (HBB.out.exc (S := fun q => q = xb) HNGX.out hS.t) HSN.out (by omega)) (SlK.later HSW.out (HNG.out wz hS.t)) HSN.out HPL.out).mono fun e w' ⟨g2, he, h1, h2, hb'⟩ => ⟨g2, he, hS.made h1 h2 hb'⟩) (fun wz hS => by go_simp; try (with_reducible rfl))) (fun g2 => ?_)
    simp only [Zp, Zq, Zr, Zs]
    refine WpX.vD 9 (some 21) ?_ rfl rfl (by kernel_rfl) (fun _ _ _ h => h) rfl (fun wz hwz => ?_) ?_
    rotate_left
    ·go_simp; try (with_reducible rfl)
    simp only [Zp, Zq, Zr, Zs]
    refine WpX.vD 10 (some 31) ?_ rfl rfl (by kernel_rfl) (fun _ _ _ h => h) rfl (fun wz hwz => ?_) ?_
    rotate_left
    ·go_simp; try (with_reducible rfl)
    simp only [Zp, Zq, Zr, Zs]
    refine WpX.vD 11 (some 32) ?_ rfl rfl (by kernel_rfl) (fun _ _ _ h => h) rfl (fun wz hwz => ?_) ?_
    rotate_left
    ·go_simp; try (with_reducible rfl)
    simp only [Zp, Zq, Zr, Zs]
    refine WpX.oneSkip 12 none rfl rfl (by kernel_rfl) ((ToT w5 xb) (some ld) (some g2)) ((ToK w5 xb (totL (.slice (some ⟨g, 0, none⟩) n n) (i : Int) K) (fun g => totL (.slice (some ⟨g, 0, none⟩) n n) (((i + 1 : Nat) : Int)) (xorL K (hashF 7 id))) (esK (addL S p9))) (some ld) (some g2) true) (fun _ h => h) ((ToK.weak _ _ _)) (ToK.clo) rfl (fun wz hS => ?_) ?_
    ·(exact ⟨_, exec_store rfl (by kernel_rfl) (by kernel_rfl) ((hS.v rfl).storeT HKL.out HZL.out rfl), hS.put (HNEW2.out _)⟩)
    simp only [Act.put]
    refine WpX.done (by kernel_rfl) (fun w6 hS => ⟨ld, g2, rfl, ?_⟩)
    ·exact hS
   intro ld g2 w6 hS
   (try simp only [List.drop_succ_cons]); (try simp only [List.drop_zero]); (try simp only [Nat.reduceSub]); (try simp only [List.take_succ_cons]); (try simp only [List.take_zero])
   have hX6 := hS.u g2 rfl rfl
   obtain ⟨hg2, hB6⟩ := hS.r g2 rfl
   have hT6 := HTT.out.exc (S := fun q => q = xb) HN1.out hS.t
   have hr6 := hr.exc (S := fun q => q = xb) (fun e => by
    have h := HXB.out
    have e2 : w.heap.size + 1 = xb := e
    omega) hS.t
   have hb6 := HNG.out w6 hS.t
   have hgw2 : w.heap.size ≤ g2 := by
    have h := hb00.size
    omega
   clear hS hT hr hb00 hX hB hR HTT HXX HRR HBB HB0 HNG hg2 ho3 hgw
   have HCC := Lib.hid hX6
   have HDD := Lib.hid hB6
   clear hX6 hB6
   go_wp2_with fail
   go_roundw
   case rel => exact ⟨i + 1, g2, by omega, by go_num, by rw [H1.out]; exact HCC.out, by rw [H2.out]; exact HDD.out, hgw2, hT6, hr6, hb6⟩
   case measure => simp [intOf]; omega
  ·obtain rfl : i = N := by omega
   have HKL := Lib.hid (HCL.out i)
   obtain ⟨K, hK⟩ : ∃ K, chkF z16 (ids.take i) = K := ⟨_, rfl⟩
   have HKE := Lib.hid hK
   rw [hK] at hX HKL
   clear hK
   have hld := hX.loadT HKL.out
   have hst := hr.storeT (k := K) (v := .slice (some ⟨g, 0, none⟩) n n) (m := (i : Int)) z16_length HKL.out rfl
   have HR := Lib.hid (hr.setT (k := K) (v := .slice (some ⟨g, 0, none⟩) n n) (m := (i : Int)) z16_length HKL.out)
   have HB := Lib.hid (bl_setCells hb00 (b := w.heap.size + 1) (by omega) 0 (totL (.slice (some ⟨g, 0, none⟩) n n) (i : Int) K))
   have hrn : w.heap.size + 1 ≠ g := fun e => blk_vs (k := z16) (A := none) (n := 0) (c := 0) (m := 0) hB hr e.symm
   have HBK := Lib.hid (hB.farC hrn 0 (totL (.slice (some ⟨g, 0, none⟩) n n) (i : Int) K))
   have HG := Lib.hid hgw
   clear hX hB hr hb00 hT hrn hgw
   go_upto_region 10 with fail
   refine wp_region_lit ?_
   refine wpList_valD (some 38) rfl rfl (exec_load rfl (by kernel_rfl) hld) ?_
   simp only [Zp, Zq, Zr, Zs]
   refine wpList_skipD rfl rfl (exec_store rfl (by kernel_rfl) (by kernel_rfl) hst) ?_
   refine wpList_valD (some 7) rfl rfl (by (go_simp; first | with_reducible rfl | exact ⟨rfl, rfl⟩ | (trace_state; fail))) ?_
   simp only [Zp, Zq, Zr, Zs]
   go_upto_region 99 with fail
   exact bodyPost_ret (results_totalE (b := w.heap.size + 1) HR.out HKL.out rfl rfl) rfl ⟨g, by rw [HKE.out]; rfl, HBK.out, HG.out, HB.out⟩

end Go.Proofs.Ytbakkmfjamcbfaa
