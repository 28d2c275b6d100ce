/-
  WALKS: the reference's Product and Sum; tallymanlaw05.some, Awake.
-/
/-
  WHAT IS KNOWN OF A CIRCUIT whose check says n; a circuit in range as six numbers.
-/
/-
  WALKS: share.Task.Check of whatever task; tape.Spread, tape.Other, tape.Swap where they end in an error.
-/
/-
  WALKS: gold.Bytes, wide.Bytes, field.Bytes, field.Vec: elements as bytes.
-/
/-
  WALKS: field.Bytes, field.Vec; what elements' bytes tell.
-/
/-
  WALKS: 'append' of bytes; field.Vec; tape.Swap of elements of the field.
-/
/-
  WALKS: tallymanlaw04.NttValues, NttBack.
-/
import Derived.Test.YtfhmineolncefaaDoorMas
import Derived.Test.YtfhmineolncefaaDoorMah
import Derived.Test.YtfhmineolncefaaDoorMag
import Derived.Test.YtfhmineolncefaaDoorMao
import Derived.Test.YtfhmineolncefaaDoorMaf
import Derived.Test.YtfhmineolncefaaDoorMal
import Derived.Laws.BytesArg
import Derived.Test.YtfhmineolncefaaDoorMar
import Derived.Test.YtfhmineolncefaaDoorMai
namespace Go.Proofs.YtfhmineolncefaaDoor
open Go.RowKit Fm
set_option linter.unusedVariables false
set_option maxRecDepth 100000

theorem getD_out {f k : Nat} {l : KL f} (h : l.length ≤ k) : l.getD k 0 = 0 := by
  rw [List.getD_eq_getElem?_getD, List.getElem?_eq_none h]; rfl

theorem own_stb {w : World} {base b : Nat} {e : TypeId} {size : Nat} {v : Value} {n : Nat} {xs : List Value} (h : w.ownsRow base e size v n xs) (hb : ∀ q, v.ownBlock = some q → q ≠ b) (x y : Value) : ((w.setCell ⟨b, 0, none⟩ x).setCell ⟨b, 1, none⟩ y).ownsRow base e size v n xs := by
  refine ⟨h.1, ?_⟩
  rcases h.2 with h | ⟨g, cap, cur, rfl, h2, h3, h4⟩
  · exact .inl h
  · refine .inr ⟨g, cap, cur, rfl, h2, ?_, h4⟩
    rw [Below.heap_setCell _ _ _ _ (hb g rfl), Below.heap_setCell _ _ _ _ (hb g rfl)]
    exact h3

section
variable {f : Nat} (hf : IsF f)
include hf

set_option maxHeartbeats 8000000 in
theorem ref_Product (va vb : Value) (a b : KL f) (w : World) (ha : SlK w w.heap.size va a) (hb : SlK w w.heap.size vb b) (hal : a.length ≤ 400000) (hbl : b.length ≤ 400000) :
    Calls Tryd.prog 36 #[.int .i64 f, va, vb] w (RetSq (pmul a b) w) := by
  have hfb0 : (1 : Int) ≤ (f : Int) := by rcases hf.or with rfl | rfl <;> omega
  have hfb1 : (f : Int) ≤ 2 := by rcases hf.or with rfl | rfl <;> omega
  have HADD := Lib.hid (fun x y wz => ref_AddK hf x y wz)
  have HMU := Lib.hid (fun x y wz => ref_MulK hf x y wz)
  have HPM := Lib.hid (pmul_trim (a := a) (b := b) hal hbl)
  obtain ⟨A, ca, rfl, hca, hcam, hA⟩ := id ha
  obtain ⟨B, cb, rfl, hcb, hcbm, hB⟩ := id hb
  have HTA := Lib.hid (ref_Trim A ca a w ha (by omega))
  have HTB := Lib.hid (ref_Trim B cb b w hb (by omega))
  have hta := trim_le a
  have htb := trim_le b
  have hsa := ha.takeK hta
  have hsb := hb.takeK htb
  rw [← trim_take] at hsa hsb
  generalize trim a = ta at *
  generalize trim b = tb at *
  obtain ⟨na, hna⟩ : ∃ n, a.length = n := ⟨_, rfl⟩
  obtain ⟨nb, hnb⟩ : ∃ n, b.length = n := ⟨_, rfl⟩
  rw [hna] at hal hta HTA hca ⊢
  rw [hnb] at hbl htb HTB hcb ⊢
  clear hna hnb hA hB ha hb
  obtain ⟨la, hla⟩ : ∃ n, ta.length = n := ⟨_, rfl⟩
  obtain ⟨lb, hlb⟩ : ∃ n, tb.length = n := ⟨_, rfl⟩
  rw [hla] at hta HTA hsa
  rw [hlb] at htb HTB hsb
  have HLA := Lib.hid hla
  have HLB := Lib.hid hlb
  clear hla hlb
  by_cases ha0 : la = 0
  · subst ha0
    have HPN : Hid (pmul a b = []) := by
      show _ = _
      rw [← HPM.out, List.length_eq_zero_iff.1 HLA.out]
      exact pmul_nil_left _
    clear hsa hsb
    go_enter Tryd.func36, Tryd.ntmps36
    go_wp2_with fail
    refine HTA.out.mono ?_
    rintro e w' ⟨rfl, rfl⟩
    go_wp2_with fail
    refine HTB.out.mono ?_
    rintro e w' ⟨rfl, rfl⟩
    go_wp2_with fail
    go_ret
    refine ⟨(none, 0), by rw [HPN.out]; rfl, ?_, Below.refl _ _⟩
    rw [HPN.out]
    exact (SlE.nil w _).toK (l := [])
  by_cases hb0 : lb = 0
  · subst hb0
    have HPN : Hid (pmul a b = []) := by
      show _ = _
      rw [← HPM.out, List.length_eq_zero_iff.1 HLB.out]
      exact pmul_nil_right _
    have t1 : ¬ (la = 0) := ha0
    clear hsa hsb
    go_enter Tryd.func36, Tryd.ntmps36
    go_wp2_with fail
    refine HTA.out.mono ?_
    rintro e w' ⟨rfl, rfl⟩
    go_wp2_with fail
    refine HTB.out.mono ?_
    rintro e w' ⟨rfl, rfl⟩
    go_wp2_with fail
    go_ret
    refine ⟨(none, 0), by rw [HPN.out]; rfl, ?_, Below.refl _ _⟩
    rw [HPN.out]
    exact (SlE.nil w _).toK (l := [])
  have t1 : ¬ (la = 0) := ha0
  have t2 : ¬ (lb = 0) := hb0
  have t3 : ((la : Int) == 0) = false := by rw [beq_eq_false_iff_ne]; omega
  have t4 : ((lb : Int) == 0) = false := by rw [beq_eq_false_iff_ne]; omega
  obtain ⟨b1, o1, hAe, hbw1, hrow1⟩ := hsa.rowOf (by rw [HLA.out]; omega)
  obtain ⟨b2, o2, hBe, hbw2, hrow2⟩ := hsb.rowOf (by rw [HLB.out]; omega)
  subst hAe
  subst hBe
  obtain ⟨N, hN⟩ : ∃ N, la + lb - 1 = N := ⟨_, rfl⟩
  have hN1 : (la : Int) + (lb : Int) - 1 = (N : Int) := by omega
  have hN2 : N + 1 = la + lb := by omega
  have hmk := make_elem N (by omega)
  have HDL : Hid (∀ I K, (dl ta tb I K).length = N) := fun I K => by rw [dl_length, HLA.out, HLB.out, hN]
  have HPL : Hid ((prodL ta tb).length = N) := by show _ = _; rw [prodL_length, HLA.out, HLB.out, hN]
  have HZ : Hid (List.replicate N 0 = dl ta tb 0 0) := by show _ = _; rw [dl_zero, HLA.out, HLB.out, hN]
  have HNX : Hid (∀ I K z, I < la → K < lb → z = (dl ta tb I K).getD (I + K) 0 + ta.getD I 0 * tb.getD K 0 → (dl ta tb I K).set (I + K) z = dl ta tb I (K + 1)) := fun I K z h1 h2 h3 => dl_next ta tb I K (by rw [HLA.out]; exact h1) (by rw [HLB.out]; exact h2) z h3
  have HRO : Hid (∀ I, dl ta tb I lb = dl ta tb (I + 1) 0) := fun I => by rw [← HLB.out]; exact dl_row ta tb I
  have HEN : Hid (dl ta tb la 0 = prodL ta tb) := by show _ = _; rw [← HLA.out]; exact dl_end ta tb
  have HTR : Hid (trim (prodL ta tb) = pmul a b) := HPM.out
  have HR1 := Lib.hid hrow1
  have HR2 := Lib.hid hrow2
  clear hN hrow1 hrow2 hsa hsb
  go_enter Tryd.func36, Tryd.ntmps36
  go_wp2_with fail
  refine HTA.out.mono ?_
  rintro e w' ⟨rfl, rfl⟩
  go_wp2_with fail
  refine HTB.out.mono ?_
  rintro e w' ⟨rfl, rfl⟩
  go_upto_region 5 with fail
  have hB0 := RwK.new w (List.replicate N (0 : Fin (Pm f))) (cellsE (List.replicate N (0, 0))).toArray (by unfold esK; rw [List.map_replicate, eK_zero]) 28
  rw [HZ.out] at hB0
  have hb00 : Below w.heap.size w (w.alloc (.cells (cellsE (List.replicate N (0, 0))).toArray 28)) := by repeat (first | exact Below.refl _ _ | with_reducible assumption | (refine bl_alloc ?_ (Nat.le_refl _) _) | (refine bl_set ?_ (by dsimp only; omega) _) | (refine Below.drew ?_) | (refine bl_drewN ?_ _) | (refine bl_call ?_ (Nat.le_refl _) (by assumption)))
  generalize w.alloc (.cells (cellsE (List.replicate N (0, 0))).toArray 28) = w1 at hB0 hb00 ⊢
  clear hmk HZ HTA HTB
  go_wp2_with fail
  go_loopw [8] (fun kv wr => ∃ I : Nat, I ≤ la ∧ kv = .int .i64 I ∧ RwK wr w.heap.size (dl ta tb I 0) ∧ Below w.heap.size w wr) (fun kv _ => la - (intOf kv).toNat)
  case atStart => exact ⟨0, Nat.zero_le _, rfl, hB0, hb00⟩
  case round =>
    clear hB0 hb00
    obtain ⟨I, hI, rfl, hR, hb00⟩ := hrel
    by_cases hIa : I < la
    · obtain ⟨x, hx⟩ : ∃ x, ta[I]? = some x := ⟨_, List.getElem?_eq_getElem (by rw [HLA.out]; exact hIa)⟩
      have HXA : Hid (ta.getD I 0 = x) := by show _ = _; rw [List.getD_eq_getElem?_getD, hx]; rfl
      have HX := Lib.hid hx
      have u1 : (0 : Int) ≤ (I : Int) := by omega
      have u3 : (I : Int) < (la : Int) := by omega
      clear hx
      go_wp2_with fail
      go_loopw [9] (fun kv wi => ∃ K : Nat, K ≤ lb ∧ kv = .int .i64 K ∧ RwK wi w.heap.size (dl ta tb I K) ∧ Below w.heap.size w wi) (fun kv _ => lb - (intOf kv).toNat)
      case atStart => exact ⟨0, Nat.zero_le _, rfl, hR, hb00⟩
      case round =>
        clear hR hb00
        obtain ⟨K, hK, rfl, hR, hb00⟩ := hrel
        by_cases hKb : K < lb
        · obtain ⟨y, hy⟩ : ∃ y, tb[K]? = some y := ⟨_, List.getElem?_eq_getElem (by rw [HLB.out]; exact hKb)⟩
          have HYB : Hid (tb.getD K 0 = y) := by show _ = _; rw [List.getD_eq_getElem?_getD, hy]; rfl
          obtain ⟨d0, d1⟩ := (HR2.out.below hb00 hbw2).kat hy
          obtain ⟨e0, e1⟩ := (HR1.out.below hb00 hbw1).kat HX.out
          obtain ⟨q, hq⟩ : ∃ q, I + K = q := ⟨_, rfl⟩
          have hqN : q < N := by omega
          obtain ⟨z, hz⟩ : ∃ z, (dl ta tb I K)[q]? = some z := ⟨_, List.getElem?_eq_getElem (by rw [HDL.out]; exact hqN)⟩
          have HZD : Hid ((dl ta tb I K).set q (z + x * y) = dl ta tb I (K + 1)) := by
            show _ = _
            rw [← hq]
            refine HNX.out I K _ hIa hKb ?_
            rw [HXA.out, HYB.out, hq, List.getD_eq_getElem?_getD, hz]
            rfl
          have HZX := Lib.hid hz
          have v1 : IntKind.i64.wrap (q : Int) = (q : Int) := IntWalk.i64_in _ (by omega)
          have v2 : (I : Int) + (K : Int) = (q : Int) := by omega
          have g1 : (0 : Int) ≤ (q : Int) := by omega
          have g3 : (q : Int) < (N : Int) := by omega
          have g4 : (0 : Int) ≤ (K : Int) := by omega
          have g5 : (K : Int) < (lb : Int) := by omega
          have l1 : b1 < wr.heap.size := Nat.lt_of_lt_of_le hbw1 hb00.size
          have l2 : b2 < wr.heap.size := Nat.lt_of_lt_of_le hbw2 hb00.size
          clear hy hz hq
          obtain ⟨c0, c1⟩ := hR.at HZX.out
          have g9 := hR.lt
          go_upto_region 11 with fail
          refine region_B (n := 22) (m := 24) (f := 22) (by kernel_rfl) (by kernel_rfl) rfl ?_
          refine WpH.takeD 0 (some 41) (v := ?_) rfl rfl (by kernel_rfl) (fun _ _ _ h => h) (.val rfl (fun wz hwz => ?_)) ?_
          rotate_left
          · go_simp; try (with_reducible rfl)
          (simp only [Act.put]); (try simp only [List.setIfInBounds_toArray]); (try simp only [List.set_cons_succ]); (try simp only [List.set_cons_zero])
          refine WpH.takeD 1 (some 42) (v := ?_) rfl rfl (by kernel_rfl) (fun _ _ _ h => h) (.val rfl (fun wz hwz => ?_)) ?_
          rotate_left
          · go_simp; try (with_reducible rfl)
          (simp only [Act.put]); (try simp only [List.setIfInBounds_toArray]); (try simp only [List.set_cons_succ]); (try simp only [List.set_cons_zero])
          refine WpH.takeD 2 (some 43) (v := ?_) rfl rfl (by kernel_rfl) (fun _ _ _ h => h) (.val rfl (fun wz hwz => ?_)) ?_
          rotate_left
          · go_simp; try (with_reducible rfl)
          (simp only [Act.put]); (try simp only [List.setIfInBounds_toArray]); (try simp only [List.set_cons_succ]); (try simp only [List.set_cons_zero])
          refine WpH.takeD 3 (some 44) (v := ?_) rfl rfl (by kernel_rfl) (fun _ _ _ h => h) (.val rfl (fun wz hwz => ?_)) ?_
          rotate_left
          · go_simp; try (with_reducible rfl)
          (simp only [Act.put]); (try simp only [List.setIfInBounds_toArray]); (try simp only [List.set_cons_succ]); (try simp only [List.set_cons_zero])
          refine WpH.takeD 4 (some 45) (v := ?_) rfl rfl (by kernel_rfl) (fun _ _ _ h => h) (.val rfl (fun wz hwz => ?_)) ?_
          rotate_left
          · go_simp; try (with_reducible rfl)
          (simp only [Act.put]); (try simp only [List.setIfInBounds_toArray]); (try simp only [List.set_cons_succ]); (try simp only [List.set_cons_zero])
          refine WpH.takeD 5 (some 46) (v := ?_) rfl rfl (by kernel_rfl) (fun _ _ _ h => h) (.val rfl (fun wz hwz => ?_)) ?_
          rotate_left
          · go_simp; try (with_reducible rfl)
          (simp only [Act.put]); (try simp only [List.setIfInBounds_toArray]); (try simp only [List.set_cons_succ]); (try simp only [List.set_cons_zero])
          refine WpH.takeD 6 (some 47) (v := ?_) rfl rfl (by kernel_rfl) (fun _ _ _ h => h) (.val rfl (fun wz hwz => ?_)) ?_
          rotate_left
          · go_simp; try (with_reducible rfl)
          (simp only [Act.put]); (try simp only [List.setIfInBounds_toArray]); (try simp only [List.set_cons_succ]); (try simp only [List.set_cons_zero])
          refine WpH.takeD 7 (some 48) (v := ?_) rfl rfl (by kernel_rfl) (fun _ _ _ h => h) (.val rfl (fun wz hwz => ?_)) ?_
          rotate_left
          · go_simp; try (with_reducible rfl)
          (simp only [Act.put]); (try simp only [List.setIfInBounds_toArray]); (try simp only [List.set_cons_succ]); (try simp only [List.set_cons_zero])
          refine WpH.takeD 8 (some 49) (v := ?_) rfl rfl (by kernel_rfl) (fun _ _ _ h => h) (.val rfl (fun wz hwz => ?_)) ?_
          rotate_left
          · go_simp; try (with_reducible rfl)
          (simp only [Act.put]); (try simp only [List.setIfInBounds_toArray]); (try simp only [List.set_cons_succ]); (try simp only [List.set_cons_zero])
          refine WpH.takeD 9 (some 50) (v := ?_) rfl rfl (by kernel_rfl) (fun _ _ _ h => h) (.val rfl (fun wz hwz => ?_)) ?_
          rotate_left
          · go_simp; try (with_reducible rfl)
          (simp only [Act.put]); (try simp only [List.setIfInBounds_toArray]); (try simp only [List.set_cons_succ]); (try simp only [List.set_cons_zero])
          refine WpH.takeD 10 (some 51) (v := ?_) rfl rfl (by kernel_rfl) (fun _ _ _ h => h) (.val rfl (fun wz hwz => ?_)) ?_
          rotate_left
          · (obtain ⟨hcz, hfz⟩ := bcell hwz; go_simp; try (with_reducible rfl))
          (simp only [Act.put]); (try simp only [List.setIfInBounds_toArray]); (try simp only [List.set_cons_succ]); (try simp only [List.set_cons_zero])
          refine WpH.takeD 11 (some 52) (v := ?_) rfl rfl (by kernel_rfl) (fun _ _ _ h => h) (.val rfl (fun wz hwz => ?_)) ?_
          rotate_left
          · go_simp; try (with_reducible rfl)
          (simp only [Act.put]); (try simp only [List.setIfInBounds_toArray]); (try simp only [List.set_cons_succ]); (try simp only [List.set_cons_zero])
          refine WpH.takeD 12 (some 53) (v := ?_) rfl rfl (by kernel_rfl) (fun _ _ _ h => h) (.val rfl (fun wz hwz => ?_)) ?_
          rotate_left
          · go_simp; try (with_reducible rfl)
          (simp only [Act.put]); (try simp only [List.setIfInBounds_toArray]); (try simp only [List.set_cons_succ]); (try simp only [List.set_cons_zero])
          refine WpH.takeD 13 (some 54) (v := ?_) rfl rfl (by kernel_rfl) (fun _ _ _ h => h) (.val rfl (fun wz hwz => ?_)) ?_
          rotate_left
          · go_simp; try (with_reducible rfl)
          (simp only [Act.put]); (try simp only [List.setIfInBounds_toArray]); (try simp only [List.set_cons_succ]); (try simp only [List.set_cons_zero])
          refine WpH.takeD 14 (some 55) (v := ?_) rfl rfl (by kernel_rfl) (fun _ _ _ h => h) (.val rfl (fun wz hwz => ?_)) ?_
          rotate_left
          · go_simp; try (with_reducible rfl)
          (simp only [Act.put]); (try simp only [List.setIfInBounds_toArray]); (try simp only [List.set_cons_succ]); (try simp only [List.set_cons_zero])
          refine WpH.takeD 15 (some 56) (v := ?_) rfl rfl (by kernel_rfl) (fun _ _ _ h => h) (.val rfl (fun wz hwz => ?_)) ?_
          rotate_left
          · (obtain ⟨hcz, hfz⟩ := bcell hwz; go_simp; try (with_reducible rfl))
          (simp only [Act.put]); (try simp only [List.setIfInBounds_toArray]); (try simp only [List.set_cons_succ]); (try simp only [List.set_cons_zero])
          refine WpH.takeD 16 (some 57) (v := ?_) rfl rfl (by kernel_rfl) (fun _ _ _ h => h) (.val rfl (fun wz hwz => ?_)) ?_
          rotate_left
          · go_simp; try (with_reducible rfl)
          (simp only [Act.put]); (try simp only [List.setIfInBounds_toArray]); (try simp only [List.set_cons_succ]); (try simp only [List.set_cons_zero])
          refine WpH.takeD 17 (some 58) (v := ?_) rfl rfl (by kernel_rfl) (fun _ _ _ h => h) (.val rfl (fun wz hwz => ?_)) ?_
          rotate_left
          · go_simp; try (with_reducible rfl)
          (simp only [Act.put]); (try simp only [List.setIfInBounds_toArray]); (try simp only [List.set_cons_succ]); (try simp only [List.set_cons_zero])
          refine WpH.takeD 18 (some 59) (v := ?_) rfl rfl (by kernel_rfl) (fun _ _ _ h => h) (.val rfl (fun wz hwz => ?_)) ?_
          rotate_left
          · go_simp; try (with_reducible rfl)
          (simp only [Act.put]); (try simp only [List.setIfInBounds_toArray]); (try simp only [List.set_cons_succ]); (try simp only [List.set_cons_zero])
          refine WpH.takeD 19 (some 60) (v := ?_) rfl rfl (by kernel_rfl) (fun _ _ _ h => h) (.val rfl (fun wz hwz => ?_)) ?_
          rotate_left
          · (obtain ⟨hcz, hfz⟩ := bcell hwz; go_simp; try (with_reducible rfl))
          (simp only [Act.put]); (try simp only [List.setIfInBounds_toArray]); (try simp only [List.set_cons_succ]); (try simp only [List.set_cons_zero])
          refine WpH.takeD 20 (some 61) rfl rfl (by kernel_rfl) (fun _ _ _ h => h) (.call rfl (fun wz hwz => HMU.out x y wz) (fun wz hwz => ?_)) ?_
          · go_simp; try (with_reducible rfl)
          (simp only [Act.put]); (try simp only [List.setIfInBounds_toArray]); (try simp only [List.set_cons_succ]); (try simp only [List.set_cons_zero])
          refine WpH.takeD 21 (some 62) rfl rfl (by kernel_rfl) (fun _ _ _ h => h) (.call rfl (fun wz hwz => HADD.out z (x * y) wz) (fun wz hwz => ?_)) ?_
          · go_simp; try (with_reducible rfl)
          (simp only [Act.put]); (try simp only [List.setIfInBounds_toArray]); (try simp only [List.set_cons_succ]); (try simp only [List.set_cons_zero])
          refine WpH.doneB (by kernel_rfl) (fun w7 hw7 => ?_)
          (try simp only [List.drop_succ_cons]); (try simp only [List.drop_zero]); (try simp only [Nat.reduceSub]); (try simp only [List.take_succ_cons]); (try simp only [List.take_zero])
          clear c0 c1 d0 d1 e0 e1 g9 l1 l2
          replace hb00 := bl_call hb00 (Nat.le_refl _) hw7
          replace hR := hR.call hw7
          clear hw7
          obtain ⟨c0, c1⟩ := hR.at HZX.out
          obtain ⟨f0, f1⟩ := hR.frz (i := q) (by rw [HDL.out]; exact hqN)
          have g9 := hR.lt
          go_wp2_with fail
          go_roundw
          case rel =>
            have h := hR.set q (by rw [HDL.out]; exact hqN) (z + x * y)
            rw [HZD.out] at h
            exact ⟨K + 1, by omega, by go_num, h, by repeat (first | exact Below.refl _ _ | with_reducible assumption | (refine bl_alloc ?_ (Nat.le_refl _) _) | (refine bl_set ?_ (by dsimp only; omega) _) | (refine Below.drew ?_) | (refine bl_drewN ?_ _) | (refine bl_call ?_ (Nat.le_refl _) (by assumption)))⟩
          case measure => simp [intOf]; omega
        · obtain hKe : K = lb := by omega
          subst hKe
          rw [HRO.out] at hR
          go_wp2_with fail
          go_roundw
          case rel => exact ⟨I + 1, by omega, by go_num, hR, hb00⟩
          case measure => simp [intOf]; omega
    · obtain hIe : I = la := by omega
      subst hIe
      rw [HEN.out] at hR
      have ss := hR.sl HPL.out (Nat.le_refl _) (by omega)
      rw [← HPL.out] at ss
      have HT := Lib.hid (ref_Trim _ _ (prodL ta tb) wr ss (by rw [HPL.out]; omega))
      have hss := ss.takeK (trim_le (prodL ta tb))
      rw [← trim_take, HTR.out] at hss
      rw [HTR.out, HPL.out] at HT
      rw [HPL.out] at hss
      have HSS := Lib.hid hss
      clear ss hss hR HTR
      go_wp2_with fail
      refine HT.out.mono ?_
      rintro e w' ⟨rfl, rfl⟩
      go_wp2_with fail
      go_ret
      exact ⟨(some ⟨w.heap.size, 0, none⟩, N), rfl, HSS.out, hb00⟩

set_option maxHeartbeats 8000000 in
theorem ref_Sum (va vb : Value) (a b : KL f) (w : World) (ha : SlK w w.heap.size va a) (hb : SlK w w.heap.size vb b) (hal : a.length ≤ 400000) (hbl : b.length ≤ 400000) :
    Calls Tryd.prog 35 #[.int .i64 f, va, vb] w (RetSq (padd a b) w) := by
  have hfb0 : (1 : Int) ≤ (f : Int) := by rcases hf.or with rfl | rfl <;> omega
  have hfb1 : (f : Int) ≤ 2 := by rcases hf.or with rfl | rfl <;> omega
  have HADD := Lib.hid (fun x y wz => ref_AddK hf x y wz)
  obtain ⟨A, ca, rfl, _, _, hA⟩ := ha
  obtain ⟨B, cb, rfl, _, _, hB⟩ := hb
  obtain ⟨N, hN⟩ : ∃ N, max a.length b.length = N := ⟨_, rfl⟩
  have hNa : a.length ≤ N := by omega
  have hNb : b.length ≤ N := by omega
  have hNm : N ≤ 400000 := by omega
  have hNor : ∀ k, k < N → k < a.length ∨ k < b.length := fun k hk => by omega
  have HNO := Lib.hid hNor
  have hNN : ¬ (N < a.length) ∧ ¬ (N < b.length) := by omega
  have HSL : Hid (∀ k, (ofF k fun i => a.getD i 0 + b.getD i 0).length = k) := fun k => ofF_length ..
  have HSN : Hid (∀ k, (ofF (k + 1) fun i => a.getD i 0 + b.getD i 0) = (ofF k fun i => a.getD i 0 + b.getD i 0) ++ [a.getD k 0 + b.getD k 0]) := fun k => by
    unfold ofF
    rw [List.range_succ, List.map_append]
    rfl
  have HEND : Hid (trim (ofF N fun i => a.getD i 0 + b.getD i 0) = padd a b) := by show _ = _; unfold padd; rw [hN]
  have HA := Lib.hid hA
  have HB := Lib.hid hB
  clear hA hB hN hNor
  have hb00 : Below w.heap.size w w := Below.refl _ _
  go_enter Tryd.func35, Tryd.ntmps35
  go_wp2
  go_loopw [7, 8] (fun vr iv wr => ∃ (k : Nat) (D : Option Addr) (cp : Nat), k ≤ N ∧ iv = .int .i64 k ∧ vr = .slice D k cp ∧ wr.ownsRow w.heap.size 28 2 (.slice D k cp) k (cellsE (esK (ofF k fun i => a.getD i 0 + b.getD i 0))) ∧ Below w.heap.size w wr) (fun _ iv _ => N - (intOf iv).toNat)
  case atStart => exact ⟨0, none, 0, Nat.zero_le _, rfl, rfl, World.ownsRow_nil _ _ _ _, hb00⟩
  case round =>
    clear hb00
    obtain ⟨k, D, cp, hk, rfl, rfl, hown, hb00⟩ := hrel
    have hsz := hb00.size
    by_cases hkN : k < N
    · have g1 : (0 : Int) ≤ (k : Int) := by omega
      have hkor := HNO.out k hkN
      have HK := Lib.hid hkor
      clear hkor
      by_cases hka : k < a.length
      · by_cases hkb : k < b.length
        · skip
          have HNQ0 : Hid (∀ q, (Value.slice D k cp).ownBlock = some q → q < wr.heap.size) := fun q hq => (hown.lt q hq).2
          go_upto_region 6 with fail
          have x0 := V2.new wr (.int .u64 0) (.int .u64 0) 28
          have hbA : Below wr.heap.size wr (wr.alloc (.cells #[.int .u64 0, .int .u64 0] 28)) := by repeat (first | exact Below.refl _ _ | with_reducible assumption | (refine bl_alloc ?_ (Nat.le_refl _) _))
          replace hb00 := bl_call hb00 (Nat.le_refl _) hbA
          replace hown := own_call hown hbA
          clear hbA
          generalize wr.alloc (.cells #[.int .u64 0, .int .u64 0] 28) = w3 at hb00 hown x0 ⊢
          have HNQ : Hid (∀ q, (Value.slice D k cp).ownBlock = some q → q ≠ wr.heap.size) := fun q hq => by have := (HNQ0.out q hq); omega
          obtain ⟨xb, hxb⟩ : ∃ z, wr.heap.size = z := ⟨_, rfl⟩
          rw [hxb] at x0 hsz HNQ
          simp only [hxb]
          have hx3 : xb < w3.heap.size := x0.lt
          clear hxb
          obtain ⟨b1, o1, hAe, hbw1, hrow1⟩ := HA.out (by omega)
          obtain ⟨z, hz⟩ : ∃ z, a[k]? = some z := ⟨_, List.getElem?_eq_getElem hka⟩
          have HXA : Hid (a.getD k 0 = z) := by show _ = _; rw [List.getD_eq_getElem?_getD, hz]; rfl
          obtain ⟨d0, d1⟩ := (hrow1.below hb00 hbw1).kat hz
          have g6 : (k : Int) < (a.length : Int) := by omega
          have l1 : b1 < w3.heap.size := Nat.lt_of_lt_of_le hbw1 hb00.size
          subst hAe
          clear hz hrow1
          go_upto_region 7 with fail
          obtain ⟨x00, x01, x02, x03, x04⟩ := V2.mk x0.c0 x0.c1 x0.f0 x0.f1 x0.lt
          have HAD0 : Hid (∀ wz, Calls Tryd.prog 67 #[.int .i64 f, .agg #[.int .u64 0, .int .u64 0], vK z] wz (RetK z wz)) := fun wz => by
            have h := HADD.out 0 z wz
            rwa [vK_zero, show 0 + z = z by grind] at h
          refine region_B (n := 7) (m := 8) (f := 7) (by kernel_rfl) (by kernel_rfl) rfl ?_
          refine WpH.takeD 0 (some 26) (v := ?_) rfl rfl (by kernel_rfl) (fun _ _ _ h => h) (.val rfl (fun wz hwz => ?_)) ?_
          rotate_left
          · go_simp; try (with_reducible rfl)
          (simp only [Act.put]); (try simp only [List.setIfInBounds_toArray]); (try simp only [List.set_cons_succ]); (try simp only [List.set_cons_zero])
          refine WpH.takeD 1 (some 27) (v := ?_) rfl rfl (by kernel_rfl) (fun _ _ _ h => h) (.val rfl (fun wz hwz => ?_)) ?_
          rotate_left
          · (obtain ⟨hcz, hfz⟩ := bcell hwz; go_simp; try (with_reducible rfl))
          (simp only [Act.put]); (try simp only [List.setIfInBounds_toArray]); (try simp only [List.set_cons_succ]); (try simp only [List.set_cons_zero])
          refine WpH.takeD 2 (some 28) (v := ?_) rfl rfl (by kernel_rfl) (fun _ _ _ h => h) (.val rfl (fun wz hwz => ?_)) ?_
          rotate_left
          · go_simp; try (with_reducible rfl)
          (simp only [Act.put]); (try simp only [List.setIfInBounds_toArray]); (try simp only [List.set_cons_succ]); (try simp only [List.set_cons_zero])
          refine WpH.takeD 3 (some 29) (v := ?_) rfl rfl (by kernel_rfl) (fun _ _ _ h => h) (.val rfl (fun wz hwz => ?_)) ?_
          rotate_left
          · go_simp; try (with_reducible rfl)
          (simp only [Act.put]); (try simp only [List.setIfInBounds_toArray]); (try simp only [List.set_cons_succ]); (try simp only [List.set_cons_zero])
          refine WpH.takeD 4 (some 30) (v := ?_) rfl rfl (by kernel_rfl) (fun _ _ _ h => h) (.val rfl (fun wz hwz => ?_)) ?_
          rotate_left
          · go_simp; try (with_reducible rfl)
          (simp only [Act.put]); (try simp only [List.setIfInBounds_toArray]); (try simp only [List.set_cons_succ]); (try simp only [List.set_cons_zero])
          refine WpH.takeD 5 (some 31) (v := ?_) rfl rfl (by kernel_rfl) (fun _ _ _ h => h) (.val rfl (fun wz hwz => ?_)) ?_
          rotate_left
          · (obtain ⟨hcz, hfz⟩ := bcell hwz; go_simp; try (with_reducible rfl))
          (simp only [Act.put]); (try simp only [List.setIfInBounds_toArray]); (try simp only [List.set_cons_succ]); (try simp only [List.set_cons_zero])
          refine WpH.takeD 6 (some 32) rfl rfl (by kernel_rfl) (fun _ _ _ h => h) (.call rfl (fun wz hwz => HAD0.out wz) (fun wz hwz => ?_)) ?_
          · go_simp; try (with_reducible rfl)
          (simp only [Act.put]); (try simp only [List.setIfInBounds_toArray]); (try simp only [List.set_cons_succ]); (try simp only [List.set_cons_zero])
          refine WpH.doneB (by kernel_rfl) (fun w5 hw5 => ?_)
          (try simp only [List.drop_succ_cons]); (try simp only [List.drop_zero]); (try simp only [Nat.reduceSub]); (try simp only [List.take_succ_cons]); (try simp only [List.take_zero])
          clear x00 x01 x02 x03 x04
          clear d0 d1 l1
          replace hb00 := bl_call hb00 (Nat.le_refl _) hw5
          replace hown := own_call hown hw5
          replace x0 := x0.call hw5
          clear hw5
          obtain ⟨x00, x01, x02, x03, x04⟩ := V2.mk x0.c0 x0.c1 x0.f0 x0.f1 x0.lt
          go_upto_region 8 with fail
          clear x00 x01 x02 x03 x04
          replace hown := own_stb hown (b := xb) HNQ.out (.int .u64 (lo z)) (.int .u64 (hi z))
          replace hb00 := bl_st hb00 (b := xb) (by omega) (.int .u64 (lo z)) (.int .u64 (hi z))
          replace x0 : V2 ((w5.setCell ⟨xb, 0, none⟩ (.int .u64 (lo z))).setCell ⟨xb, 1, none⟩ (.int .u64 (hi z))) xb (.int .u64 (lo z)) (.int .u64 (hi z)) := V2.set x0 _ _
          generalize (w5.setCell ⟨xb, 0, none⟩ (.int .u64 (lo z))).setCell ⟨xb, 1, none⟩ (.int .u64 (hi z)) = w6 at hown hb00 x0 ⊢
          obtain ⟨b2, o2, hBe, hbw2, hrow2⟩ := HB.out (by omega)
          obtain ⟨y, hy⟩ : ∃ y, b[k]? = some y := ⟨_, List.getElem?_eq_getElem hkb⟩
          have HYB : Hid (b.getD k 0 = y) := by show _ = _; rw [List.getD_eq_getElem?_getD, hy]; rfl
          obtain ⟨d0, d1⟩ := (hrow2.below hb00 hbw2).kat hy
          have g7 : (k : Int) < (b.length : Int) := by omega
          have l1 : b2 < w6.heap.size := Nat.lt_of_lt_of_le hbw2 hb00.size
          have hx3 : xb < w6.heap.size := x0.lt
          subst hBe
          clear hy hrow2
          go_upto_region 9 with fail
          obtain ⟨x00, x01, x02, x03, x04⟩ := V2.mk x0.c0 x0.c1 x0.f0 x0.f1 x0.lt
          obtain ⟨u, hu⟩ : ∃ u, z + y = u := ⟨_, rfl⟩
          have HU := Lib.hid hu
          have HAD2 : Hid (∀ wz, Calls Tryd.prog 67 #[.int .i64 f, vK z, vK y] wz (RetK u wz)) := fun wz => by
            have h := HADD.out z y wz
            rw [hu] at h
            exact h
          clear hu
          refine region_B (n := 7) (m := 8) (f := 7) (by kernel_rfl) (by kernel_rfl) rfl ?_
          refine WpH.takeD 0 (some 37) (v := ?_) rfl rfl (by kernel_rfl) (fun _ _ _ h => h) (.val rfl (fun wz hwz => ?_)) ?_
          rotate_left
          · go_simp; try (with_reducible rfl)
          (simp only [Act.put]); (try simp only [List.setIfInBounds_toArray]); (try simp only [List.set_cons_succ]); (try simp only [List.set_cons_zero])
          refine WpH.takeD 1 (some 38) (v := ?_) rfl rfl (by kernel_rfl) (fun _ _ _ h => h) (.val rfl (fun wz hwz => ?_)) ?_
          rotate_left
          · (obtain ⟨hcz, hfz⟩ := bcell hwz; go_simp; try (with_reducible rfl))
          (simp only [Act.put]); (try simp only [List.setIfInBounds_toArray]); (try simp only [List.set_cons_succ]); (try simp only [List.set_cons_zero])
          refine WpH.takeD 2 (some 39) (v := ?_) rfl rfl (by kernel_rfl) (fun _ _ _ h => h) (.val rfl (fun wz hwz => ?_)) ?_
          rotate_left
          · go_simp; try (with_reducible rfl)
          (simp only [Act.put]); (try simp only [List.setIfInBounds_toArray]); (try simp only [List.set_cons_succ]); (try simp only [List.set_cons_zero])
          refine WpH.takeD 3 (some 40) (v := ?_) rfl rfl (by kernel_rfl) (fun _ _ _ h => h) (.val rfl (fun wz hwz => ?_)) ?_
          rotate_left
          · go_simp; try (with_reducible rfl)
          (simp only [Act.put]); (try simp only [List.setIfInBounds_toArray]); (try simp only [List.set_cons_succ]); (try simp only [List.set_cons_zero])
          refine WpH.takeD 4 (some 41) (v := ?_) rfl rfl (by kernel_rfl) (fun _ _ _ h => h) (.val rfl (fun wz hwz => ?_)) ?_
          rotate_left
          · go_simp; try (with_reducible rfl)
          (simp only [Act.put]); (try simp only [List.setIfInBounds_toArray]); (try simp only [List.set_cons_succ]); (try simp only [List.set_cons_zero])
          refine WpH.takeD 5 (some 42) (v := ?_) rfl rfl (by kernel_rfl) (fun _ _ _ h => h) (.val rfl (fun wz hwz => ?_)) ?_
          rotate_left
          · (obtain ⟨hcz, hfz⟩ := bcell hwz; go_simp; try (with_reducible rfl))
          (simp only [Act.put]); (try simp only [List.setIfInBounds_toArray]); (try simp only [List.set_cons_succ]); (try simp only [List.set_cons_zero])
          refine WpH.takeD 6 (some 43) rfl rfl (by kernel_rfl) (fun _ _ _ h => h) (.call rfl (fun wz hwz => HAD2.out wz) (fun wz hwz => ?_)) ?_
          · go_simp; try (with_reducible rfl)
          (simp only [Act.put]); (try simp only [List.setIfInBounds_toArray]); (try simp only [List.set_cons_succ]); (try simp only [List.set_cons_zero])
          refine WpH.doneB (by kernel_rfl) (fun w7 hw7 => ?_)
          (try simp only [List.drop_succ_cons]); (try simp only [List.drop_zero]); (try simp only [Nat.reduceSub]); (try simp only [List.take_succ_cons]); (try simp only [List.take_zero])
          clear x00 x01 x02 x03 x04
          clear d0 d1 l1
          replace hb00 := bl_call hb00 (Nat.le_refl _) hw7
          replace hown := own_call hown hw7
          replace x0 := x0.call hw7
          clear hw7
          obtain ⟨x00, x01, x02, x03, x04⟩ := V2.mk x0.c0 x0.c1 x0.f0 x0.f1 x0.lt
          go_upto_region 10 with fail
          clear x00 x01 x02 x03 x04
          replace hown := own_stb hown (b := xb) HNQ.out (.int .u64 (lo u)) (.int .u64 (hi u))
          replace hb00 := bl_st hb00 (b := xb) (by omega) (.int .u64 (lo u)) (.int .u64 (hi u))
          replace x0 : V2 ((w7.setCell ⟨xb, 0, none⟩ (.int .u64 (lo u))).setCell ⟨xb, 1, none⟩ (.int .u64 (hi u))) xb (.int .u64 (lo u)) (.int .u64 (hi u)) := V2.set x0 _ _
          generalize (w7.setCell ⟨xb, 0, none⟩ (.int .u64 (lo u))).setCell ⟨xb, 1, none⟩ (.int .u64 (hi u)) = w8 at hown hb00 x0 ⊢
          have HY : Hid (a.getD k 0 + b.getD k 0 = u) := by show _ = _; rw [HXA.out, HYB.out, HU.out]
          clear HNQ HNQ0 HU HXA HYB HAD2 HAD0 HK
          have hbA : Below w8.heap.size w8 (w8.alloc (.cells #[.int .u64 (lo u), .int .u64 (hi u)] 28)) := (Below.refl _ _).alloc (Nat.le_refl _) _
          have hE := BlkE.new w8 [eK u] #[.int .u64 (lo u), .int .u64 (hi u)] rfl
          have HOW := Lib.hid (own_call hown hbA)
          have HR1 := Lib.hid (show 0 < 1 → ∃ b o, (some ⟨w8.heap.size, 0, none⟩ : Option Addr) = some ⟨b, o, none⟩ ∧ RowE (w8.alloc (.cells #[.int .u64 (lo u), .int .u64 (hi u)] 28)) b o [eK u] from fun _ => ⟨_, _, rfl, hE.rowE⟩)
          have hk1 : k + 1 ≤ 1099511627776 := by omega
          have hbase : w.heap.size ≤ (w8.alloc (.cells #[.int .u64 (lo u), .int .u64 (hi u)] 28)).heap.size := by rw [World.size_alloc]; have := hb00.size; omega
          clear hown hE hbA
          obtain ⟨x00, x01, x02, x03, x04⟩ := V2.mk x0.c0 x0.c1 x0.f0 x0.f1 x0.lt
          go_upto_region 4 with (at_builtin; (refine wpList_append_E rfl (.tmp 44) (.tmp 46) rfl w.heap.size _ k (esK (ofF k fun i => a.getD i 0 + b.getD i 0)) rfl HOW.out (some ⟨w8.heap.size, 0, none⟩) 1 1 [eK u] rfl rfl HR1.out hk1 hbase ?_; intro v2 w2 hown2 hg2 hat2; have hb2 : Below w.heap.size w w2 := (hb00.trans ((Below.refl _ _).alloc hb00.size _)).trans ((Below.refl _ _).grown hg2 hbase (fun q hq => (HOW.out.lt q hq).1)); obtain ⟨g2, cap2, hv2⟩ := own_slice hown2; rw [hv2]))
          rw [hv2, show esK (ofF k fun i => a.getD i 0 + b.getD i 0) ++ [eK u] = esK (ofF (k + 1) fun i => a.getD i 0 + b.getD i 0) by rw [HSN.out, esK_append, HY.out]; rfl] at hown2
          clear HOW HR1 hg2 hat2 hbase x0 x00 x01 x02 x03 x04
          go_wp2_with fail
          go_roundw
          case rel => exact ⟨k + 1, _, cap2, by omega, by go_num, rfl, hown2, hb2⟩
          case measure => simp [intOf]; omega
        · skip
          have HNQ0 : Hid (∀ q, (Value.slice D k cp).ownBlock = some q → q < wr.heap.size) := fun q hq => (hown.lt q hq).2
          go_upto_region 6 with fail
          have x0 := V2.new wr (.int .u64 0) (.int .u64 0) 28
          have hbA : Below wr.heap.size wr (wr.alloc (.cells #[.int .u64 0, .int .u64 0] 28)) := by repeat (first | exact Below.refl _ _ | with_reducible assumption | (refine bl_alloc ?_ (Nat.le_refl _) _))
          replace hb00 := bl_call hb00 (Nat.le_refl _) hbA
          replace hown := own_call hown hbA
          clear hbA
          generalize wr.alloc (.cells #[.int .u64 0, .int .u64 0] 28) = w3 at hb00 hown x0 ⊢
          have HNQ : Hid (∀ q, (Value.slice D k cp).ownBlock = some q → q ≠ wr.heap.size) := fun q hq => by have := (HNQ0.out q hq); omega
          obtain ⟨xb, hxb⟩ : ∃ z, wr.heap.size = z := ⟨_, rfl⟩
          rw [hxb] at x0 hsz HNQ
          simp only [hxb]
          have hx3 : xb < w3.heap.size := x0.lt
          clear hxb
          obtain ⟨b1, o1, hAe, hbw1, hrow1⟩ := HA.out (by omega)
          obtain ⟨z, hz⟩ : ∃ z, a[k]? = some z := ⟨_, List.getElem?_eq_getElem hka⟩
          have HXA : Hid (a.getD k 0 = z) := by show _ = _; rw [List.getD_eq_getElem?_getD, hz]; rfl
          obtain ⟨d0, d1⟩ := (hrow1.below hb00 hbw1).kat hz
          have g6 : (k : Int) < (a.length : Int) := by omega
          have l1 : b1 < w3.heap.size := Nat.lt_of_lt_of_le hbw1 hb00.size
          subst hAe
          clear hz hrow1
          go_upto_region 7 with fail
          obtain ⟨x00, x01, x02, x03, x04⟩ := V2.mk x0.c0 x0.c1 x0.f0 x0.f1 x0.lt
          have HAD0 : Hid (∀ wz, Calls Tryd.prog 67 #[.int .i64 f, .agg #[.int .u64 0, .int .u64 0], vK z] wz (RetK z wz)) := fun wz => by
            have h := HADD.out 0 z wz
            rwa [vK_zero, show 0 + z = z by grind] at h
          refine region_B (n := 7) (m := 8) (f := 7) (by kernel_rfl) (by kernel_rfl) rfl ?_
          refine WpH.takeD 0 (some 26) (v := ?_) rfl rfl (by kernel_rfl) (fun _ _ _ h => h) (.val rfl (fun wz hwz => ?_)) ?_
          rotate_left
          · go_simp; try (with_reducible rfl)
          (simp only [Act.put]); (try simp only [List.setIfInBounds_toArray]); (try simp only [List.set_cons_succ]); (try simp only [List.set_cons_zero])
          refine WpH.takeD 1 (some 27) (v := ?_) rfl rfl (by kernel_rfl) (fun _ _ _ h => h) (.val rfl (fun wz hwz => ?_)) ?_
          rotate_left
          · (obtain ⟨hcz, hfz⟩ := bcell hwz; go_simp; try (with_reducible rfl))
          (simp only [Act.put]); (try simp only [List.setIfInBounds_toArray]); (try simp only [List.set_cons_succ]); (try simp only [List.set_cons_zero])
          refine WpH.takeD 2 (some 28) (v := ?_) rfl rfl (by kernel_rfl) (fun _ _ _ h => h) (.val rfl (fun wz hwz => ?_)) ?_
          rotate_left
          · go_simp; try (with_reducible rfl)
          (simp only [Act.put]); (try simp only [List.setIfInBounds_toArray]); (try simp only [List.set_cons_succ]); (try simp only [List.set_cons_zero])
          refine WpH.takeD 3 (some 29) (v := ?_) rfl rfl (by kernel_rfl) (fun _ _ _ h => h) (.val rfl (fun wz hwz => ?_)) ?_
          rotate_left
          · go_simp; try (with_reducible rfl)
          (simp only [Act.put]); (try simp only [List.setIfInBounds_toArray]); (try simp only [List.set_cons_succ]); (try simp only [List.set_cons_zero])
          refine WpH.takeD 4 (some 30) (v := ?_) rfl rfl (by kernel_rfl) (fun _ _ _ h => h) (.val rfl (fun wz hwz => ?_)) ?_
          rotate_left
          · go_simp; try (with_reducible rfl)
          (simp only [Act.put]); (try simp only [List.setIfInBounds_toArray]); (try simp only [List.set_cons_succ]); (try simp only [List.set_cons_zero])
          refine WpH.takeD 5 (some 31) (v := ?_) rfl rfl (by kernel_rfl) (fun _ _ _ h => h) (.val rfl (fun wz hwz => ?_)) ?_
          rotate_left
          · (obtain ⟨hcz, hfz⟩ := bcell hwz; go_simp; try (with_reducible rfl))
          (simp only [Act.put]); (try simp only [List.setIfInBounds_toArray]); (try simp only [List.set_cons_succ]); (try simp only [List.set_cons_zero])
          refine WpH.takeD 6 (some 32) rfl rfl (by kernel_rfl) (fun _ _ _ h => h) (.call rfl (fun wz hwz => HAD0.out wz) (fun wz hwz => ?_)) ?_
          · go_simp; try (with_reducible rfl)
          (simp only [Act.put]); (try simp only [List.setIfInBounds_toArray]); (try simp only [List.set_cons_succ]); (try simp only [List.set_cons_zero])
          refine WpH.doneB (by kernel_rfl) (fun w5 hw5 => ?_)
          (try simp only [List.drop_succ_cons]); (try simp only [List.drop_zero]); (try simp only [Nat.reduceSub]); (try simp only [List.take_succ_cons]); (try simp only [List.take_zero])
          clear x00 x01 x02 x03 x04
          clear d0 d1 l1
          replace hb00 := bl_call hb00 (Nat.le_refl _) hw5
          replace hown := own_call hown hw5
          replace x0 := x0.call hw5
          clear hw5
          obtain ⟨x00, x01, x02, x03, x04⟩ := V2.mk x0.c0 x0.c1 x0.f0 x0.f1 x0.lt
          go_upto_region 8 with fail
          clear x00 x01 x02 x03 x04
          replace hown := own_stb hown (b := xb) HNQ.out (.int .u64 (lo z)) (.int .u64 (hi z))
          replace hb00 := bl_st hb00 (b := xb) (by omega) (.int .u64 (lo z)) (.int .u64 (hi z))
          replace x0 : V2 ((w5.setCell ⟨xb, 0, none⟩ (.int .u64 (lo z))).setCell ⟨xb, 1, none⟩ (.int .u64 (hi z))) xb (.int .u64 (lo z)) (.int .u64 (hi z)) := V2.set x0 _ _
          generalize (w5.setCell ⟨xb, 0, none⟩ (.int .u64 (lo z))).setCell ⟨xb, 1, none⟩ (.int .u64 (hi z)) = w6 at hown hb00 x0 ⊢
          go_upto_region 10 with fail
          have HY : Hid (a.getD k 0 + b.getD k 0 = z) := by show _ = _; rw [HXA.out, getD_out (by omega)]; grind
          clear HNQ HNQ0 HXA HAD0 HK
          have hbA : Below w6.heap.size w6 (w6.alloc (.cells #[.int .u64 (lo z), .int .u64 (hi z)] 28)) := (Below.refl _ _).alloc (Nat.le_refl _) _
          have hE := BlkE.new w6 [eK z] #[.int .u64 (lo z), .int .u64 (hi z)] rfl
          have HOW := Lib.hid (own_call hown hbA)
          have HR1 := Lib.hid (show 0 < 1 → ∃ b o, (some ⟨w6.heap.size, 0, none⟩ : Option Addr) = some ⟨b, o, none⟩ ∧ RowE (w6.alloc (.cells #[.int .u64 (lo z), .int .u64 (hi z)] 28)) b o [eK z] from fun _ => ⟨_, _, rfl, hE.rowE⟩)
          have hk1 : k + 1 ≤ 1099511627776 := by omega
          have hbase : w.heap.size ≤ (w6.alloc (.cells #[.int .u64 (lo z), .int .u64 (hi z)] 28)).heap.size := by rw [World.size_alloc]; have := hb00.size; omega
          clear hown hE hbA
          obtain ⟨x00, x01, x02, x03, x04⟩ := V2.mk x0.c0 x0.c1 x0.f0 x0.f1 x0.lt
          go_upto_region 4 with (at_builtin; (refine wpList_append_E rfl (.tmp 44) (.tmp 46) rfl w.heap.size _ k (esK (ofF k fun i => a.getD i 0 + b.getD i 0)) rfl HOW.out (some ⟨w6.heap.size, 0, none⟩) 1 1 [eK z] rfl rfl HR1.out hk1 hbase ?_; intro v2 w2 hown2 hg2 hat2; have hb2 : Below w.heap.size w w2 := (hb00.trans ((Below.refl _ _).alloc hb00.size _)).trans ((Below.refl _ _).grown hg2 hbase (fun q hq => (HOW.out.lt q hq).1)); obtain ⟨g2, cap2, hv2⟩ := own_slice hown2; rw [hv2]))
          rw [hv2, show esK (ofF k fun i => a.getD i 0 + b.getD i 0) ++ [eK z] = esK (ofF (k + 1) fun i => a.getD i 0 + b.getD i 0) by rw [HSN.out, esK_append, HY.out]; rfl] at hown2
          clear HOW HR1 hg2 hat2 hbase x0 x00 x01 x02 x03 x04
          go_wp2_with fail
          go_roundw
          case rel => exact ⟨k + 1, _, cap2, by omega, by go_num, rfl, hown2, hb2⟩
          case measure => simp [intOf]; omega
      · have hkb : k < b.length := by rcases HK.out with h | h <;> omega
        have HNQ0 : Hid (∀ q, (Value.slice D k cp).ownBlock = some q → q < wr.heap.size) := fun q hq => (hown.lt q hq).2
        go_upto_region 6 with fail
        have x0 := V2.new wr (.int .u64 0) (.int .u64 0) 28
        have hbA : Below wr.heap.size wr (wr.alloc (.cells #[.int .u64 0, .int .u64 0] 28)) := by repeat (first | exact Below.refl _ _ | with_reducible assumption | (refine bl_alloc ?_ (Nat.le_refl _) _))
        replace hb00 := bl_call hb00 (Nat.le_refl _) hbA
        replace hown := own_call hown hbA
        clear hbA
        generalize wr.alloc (.cells #[.int .u64 0, .int .u64 0] 28) = w3 at hb00 hown x0 ⊢
        have HNQ : Hid (∀ q, (Value.slice D k cp).ownBlock = some q → q ≠ wr.heap.size) := fun q hq => by have := (HNQ0.out q hq); omega
        obtain ⟨xb, hxb⟩ : ∃ z, wr.heap.size = z := ⟨_, rfl⟩
        rw [hxb] at x0 hsz HNQ
        simp only [hxb]
        have hx3 : xb < w3.heap.size := x0.lt
        clear hxb
        go_upto_region 8 with fail
        obtain ⟨b2, o2, hBe, hbw2, hrow2⟩ := HB.out (by omega)
        obtain ⟨y, hy⟩ : ∃ y, b[k]? = some y := ⟨_, List.getElem?_eq_getElem hkb⟩
        have HYB : Hid (b.getD k 0 = y) := by show _ = _; rw [List.getD_eq_getElem?_getD, hy]; rfl
        obtain ⟨d0, d1⟩ := (hrow2.below hb00 hbw2).kat hy
        have g7 : (k : Int) < (b.length : Int) := by omega
        have l1 : b2 < w3.heap.size := Nat.lt_of_lt_of_le hbw2 hb00.size
        have hx3 : xb < w3.heap.size := x0.lt
        subst hBe
        clear hy hrow2
        go_upto_region 9 with fail
        obtain ⟨x00, x01, x02, x03, x04⟩ := V2.mk x0.c0 x0.c1 x0.f0 x0.f1 x0.lt
        obtain ⟨u, hu⟩ : ∃ u, (0 : Fin (Pm f)) + y = u := ⟨_, rfl⟩
        have HU := Lib.hid hu
        have HAD2 : Hid (∀ wz, Calls Tryd.prog 67 #[.int .i64 f, .agg #[.int .u64 0, .int .u64 0], vK y] wz (RetK u wz)) := fun wz => by
          have h := HADD.out (0 : Fin (Pm f)) y wz
          rw [hu] at h
          rwa [vK_zero] at h
        clear hu
        refine region_B (n := 7) (m := 8) (f := 7) (by kernel_rfl) (by kernel_rfl) rfl ?_
        refine WpH.takeD 0 (some 37) (v := ?_) rfl rfl (by kernel_rfl) (fun _ _ _ h => h) (.val rfl (fun wz hwz => ?_)) ?_
        rotate_left
        · go_simp; try (with_reducible rfl)
        (simp only [Act.put]); (try simp only [List.setIfInBounds_toArray]); (try simp only [List.set_cons_succ]); (try simp only [List.set_cons_zero])
        refine WpH.takeD 1 (some 38) (v := ?_) rfl rfl (by kernel_rfl) (fun _ _ _ h => h) (.val rfl (fun wz hwz => ?_)) ?_
        rotate_left
        · (obtain ⟨hcz, hfz⟩ := bcell hwz; go_simp; try (with_reducible rfl))
        (simp only [Act.put]); (try simp only [List.setIfInBounds_toArray]); (try simp only [List.set_cons_succ]); (try simp only [List.set_cons_zero])
        refine WpH.takeD 2 (some 39) (v := ?_) rfl rfl (by kernel_rfl) (fun _ _ _ h => h) (.val rfl (fun wz hwz => ?_)) ?_
        rotate_left
        · go_simp; try (with_reducible rfl)
        (simp only [Act.put]); (try simp only [List.setIfInBounds_toArray]); (try simp only [List.set_cons_succ]); (try simp only [List.set_cons_zero])
        refine WpH.takeD 3 (some 40) (v := ?_) rfl rfl (by kernel_rfl) (fun _ _ _ h => h) (.val rfl (fun wz hwz => ?_)) ?_
        rotate_left
        · go_simp; try (with_reducible rfl)
        (simp only [Act.put]); (try simp only [List.setIfInBounds_toArray]); (try simp only [List.set_cons_succ]); (try simp only [List.set_cons_zero])
        refine WpH.takeD 4 (some 41) (v := ?_) rfl rfl (by kernel_rfl) (fun _ _ _ h => h) (.val rfl (fun wz hwz => ?_)) ?_
        rotate_left
        · go_simp; try (with_reducible rfl)
        (simp only [Act.put]); (try simp only [List.setIfInBounds_toArray]); (try simp only [List.set_cons_succ]); (try simp only [List.set_cons_zero])
        refine WpH.takeD 5 (some 42) (v := ?_) rfl rfl (by kernel_rfl) (fun _ _ _ h => h) (.val rfl (fun wz hwz => ?_)) ?_
        rotate_left
        · (obtain ⟨hcz, hfz⟩ := bcell hwz; go_simp; try (with_reducible rfl))
        (simp only [Act.put]); (try simp only [List.setIfInBounds_toArray]); (try simp only [List.set_cons_succ]); (try simp only [List.set_cons_zero])
        refine WpH.takeD 6 (some 43) rfl rfl (by kernel_rfl) (fun _ _ _ h => h) (.call rfl (fun wz hwz => HAD2.out wz) (fun wz hwz => ?_)) ?_
        · go_simp; try (with_reducible rfl)
        (simp only [Act.put]); (try simp only [List.setIfInBounds_toArray]); (try simp only [List.set_cons_succ]); (try simp only [List.set_cons_zero])
        refine WpH.doneB (by kernel_rfl) (fun w7 hw7 => ?_)
        (try simp only [List.drop_succ_cons]); (try simp only [List.drop_zero]); (try simp only [Nat.reduceSub]); (try simp only [List.take_succ_cons]); (try simp only [List.take_zero])
        clear x00 x01 x02 x03 x04
        clear d0 d1 l1
        replace hb00 := bl_call hb00 (Nat.le_refl _) hw7
        replace hown := own_call hown hw7
        replace x0 := x0.call hw7
        clear hw7
        obtain ⟨x00, x01, x02, x03, x04⟩ := V2.mk x0.c0 x0.c1 x0.f0 x0.f1 x0.lt
        go_upto_region 10 with fail
        clear x00 x01 x02 x03 x04
        replace hown := own_stb hown (b := xb) HNQ.out (.int .u64 (lo u)) (.int .u64 (hi u))
        replace hb00 := bl_st hb00 (b := xb) (by omega) (.int .u64 (lo u)) (.int .u64 (hi u))
        replace x0 : V2 ((w7.setCell ⟨xb, 0, none⟩ (.int .u64 (lo u))).setCell ⟨xb, 1, none⟩ (.int .u64 (hi u))) xb (.int .u64 (lo u)) (.int .u64 (hi u)) := V2.set x0 _ _
        generalize (w7.setCell ⟨xb, 0, none⟩ (.int .u64 (lo u))).setCell ⟨xb, 1, none⟩ (.int .u64 (hi u)) = w8 at hown hb00 x0 ⊢
        have HY : Hid (a.getD k 0 + b.getD k 0 = u) := by show _ = _; rw [HYB.out, ← HU.out, getD_out (by omega)]
        clear HNQ HNQ0 HU HYB HAD2 HK
        have hbA : Below w8.heap.size w8 (w8.alloc (.cells #[.int .u64 (lo u), .int .u64 (hi u)] 28)) := (Below.refl _ _).alloc (Nat.le_refl _) _
        have hE := BlkE.new w8 [eK u] #[.int .u64 (lo u), .int .u64 (hi u)] rfl
        have HOW := Lib.hid (own_call hown hbA)
        have HR1 := Lib.hid (show 0 < 1 → ∃ b o, (some ⟨w8.heap.size, 0, none⟩ : Option Addr) = some ⟨b, o, none⟩ ∧ RowE (w8.alloc (.cells #[.int .u64 (lo u), .int .u64 (hi u)] 28)) b o [eK u] from fun _ => ⟨_, _, rfl, hE.rowE⟩)
        have hk1 : k + 1 ≤ 1099511627776 := by omega
        have hbase : w.heap.size ≤ (w8.alloc (.cells #[.int .u64 (lo u), .int .u64 (hi u)] 28)).heap.size := by rw [World.size_alloc]; have := hb00.size; omega
        clear hown hE hbA
        obtain ⟨x00, x01, x02, x03, x04⟩ := V2.mk x0.c0 x0.c1 x0.f0 x0.f1 x0.lt
        go_upto_region 4 with (at_builtin; (refine wpList_append_E rfl (.tmp 44) (.tmp 46) rfl w.heap.size _ k (esK (ofF k fun i => a.getD i 0 + b.getD i 0)) rfl HOW.out (some ⟨w8.heap.size, 0, none⟩) 1 1 [eK u] rfl rfl HR1.out hk1 hbase ?_; intro v2 w2 hown2 hg2 hat2; have hb2 : Below w.heap.size w w2 := (hb00.trans ((Below.refl _ _).alloc hb00.size _)).trans ((Below.refl _ _).grown hg2 hbase (fun q hq => (HOW.out.lt q hq).1)); obtain ⟨g2, cap2, hv2⟩ := own_slice hown2; rw [hv2]))
        rw [hv2, show esK (ofF k fun i => a.getD i 0 + b.getD i 0) ++ [eK u] = esK (ofF (k + 1) fun i => a.getD i 0 + b.getD i 0) by rw [HSN.out, esK_append, HY.out]; rfl] at hown2
        clear HOW HR1 hg2 hat2 hbase x0 x00 x01 x02 x03 x04
        go_wp2_with fail
        go_roundw
        case rel => exact ⟨k + 1, _, cap2, by omega, by go_num, rfl, hown2, hb2⟩
        case measure => simp [intOf]; omega
    · obtain hkE : k = N := by omega
      subst hkE
      obtain ⟨t5, t6⟩ := hNN
      have hs := own_sl (HSL.out k) hown
      have HT := Lib.hid (ref_Trim D cp (ofF k fun i => a.getD i 0 + b.getD i 0) wr (by rw [HSL.out]; exact hs) (by rw [HSL.out]; omega))
      have hss : SlK wr wr.heap.size (.slice D (trim (ofF k fun i => a.getD i 0 + b.getD i 0)).length cp) (trim (ofF k fun i => a.getD i 0 + b.getD i 0)) := by
        have h : SlK wr wr.heap.size (.slice D (ofF k fun i => a.getD i 0 + b.getD i 0).length cp) (ofF k fun i => a.getD i 0 + b.getD i 0) := by rw [HSL.out]; exact hs
        have h2 := h.takeK (trim_le _)
        rwa [← trim_take] at h2
      rw [HEND.out] at hss
      rw [HEND.out, HSL.out] at HT
      have HSS := Lib.hid hss
      clear hs hss hown HEND
      go_wp2_with fail
      refine HT.out.mono ?_
      rintro e w' ⟨rfl, rfl⟩
      go_wp2_with fail
      go_ret
      exact ⟨(D, cp), rfl, HSS.out, hb00⟩
end

end Go.Proofs.YtfhmineolncefaaDoor

namespace Go.Proofs.YtfhmineolncefaaDoor
open Go.RowKit Fm
set_option linter.unusedVariables false
set_option maxRecDepth 100000

/-- a circuit in range, as six numbers -/
def CK.raw (y : CK) (F : Nat) : Raw := ⟨y.k, F, y.b, y.l, y.m, y.c⟩
theorem CK.raw_is {y : CK} {F : Nat} (hF : IsF F) (hy : y.ok) (hc : ¬ 511 < y.calls) : (y.raw F).Is F y := ⟨hF, hy, hc, rfl, rfl⟩
theorem CK.k_le (y : CK) : 1 ≤ y.k ∧ y.k ≤ 5 := by cases y <;> exact ⟨Nat.le_of_ble_eq_true rfl, Nat.le_of_ble_eq_true rfl⟩
end Go.Proofs.YtfhmineolncefaaDoor

namespace Go.Proofs.YtfhmineolncefaaDoor
open Go.RowKit Fm
set_option linter.unusedVariables false
set_option maxRecDepth 100000

theorem Vs.get4 {w : World} {b : Nat} {x y z p : Value} (h : Vs w b [x, y, z, p]) : (w.cell? ⟨b, 0, none⟩ = some x ∧ w.cell? ⟨b, 1, none⟩ = some y ∧ w.cell? ⟨b, 2, none⟩ = some z ∧ w.cell? ⟨b, 3, none⟩ = some p) ∧
    (w.frozen? ⟨b, 0, none⟩ = false ∧ w.frozen? ⟨b, 1, none⟩ = false ∧ w.frozen? ⟨b, 2, none⟩ = false ∧ w.frozen? ⟨b, 3, none⟩ = false) ∧ b < w.heap.size :=
  ⟨⟨h.cell 0 _ rfl, h.cell 1 _ rfl, h.cell 2 _ rfl, h.cell 3 _ rfl⟩, ⟨h.frz 0 (by simp), h.frz 1 (by simp), h.frz 2 (by simp), h.frz 3 (by simp)⟩, h.lt⟩
theorem Vs.get8 {w : World} {b : Nat} {x y z p q r s t : Value} (h : Vs w b [x, y, z, p, q, r, s, t]) : (w.cell? ⟨b, 0, none⟩ = some x ∧ w.cell? ⟨b, 1, none⟩ = some y ∧ w.cell? ⟨b, 2, none⟩ = some z ∧ w.cell? ⟨b, 3, none⟩ = some p ∧ w.cell? ⟨b, 4, none⟩ = some q ∧ w.cell? ⟨b, 5, none⟩ = some r ∧ w.cell? ⟨b, 6, none⟩ = some s ∧ w.cell? ⟨b, 7, none⟩ = some t) ∧
    (w.frozen? ⟨b, 0, none⟩ = false ∧ w.frozen? ⟨b, 1, none⟩ = false ∧ w.frozen? ⟨b, 2, none⟩ = false ∧ w.frozen? ⟨b, 3, none⟩ = false ∧ w.frozen? ⟨b, 4, none⟩ = false ∧ w.frozen? ⟨b, 5, none⟩ = false ∧ w.frozen? ⟨b, 6, none⟩ = false ∧ w.frozen? ⟨b, 7, none⟩ = false) ∧ b < w.heap.size :=
  ⟨⟨h.cell 0 _ rfl, h.cell 1 _ rfl, h.cell 2 _ rfl, h.cell 3 _ rfl, h.cell 4 _ rfl, h.cell 5 _ rfl, h.cell 6 _ rfl, h.cell 7 _ rfl⟩, ⟨h.frz 0 (by simp), h.frz 1 (by simp), h.frz 2 (by simp), h.frz 3 (by simp), h.frz 4 (by simp), h.frz 5 (by simp), h.frz 6 (by simp), h.frz 7 (by simp)⟩, h.lt⟩

/-- a task's eight cells -/
structure RawT where
  c : Raw
  p : Int
  s : ByteArray
def RawT.val (t : RawT) : Value := .agg #[.int .u8 t.c.k, .int .u8 t.c.f, .int .i64 t.c.b, .int .i64 t.c.l, .int .i64 t.c.m, .int .i64 t.c.c, .int .i64 t.p, .string t.s]

theorem Vs.set4 {w : World} {b : Nat} {p q r s : Value} (h : Vs w b [p, q, r, s]) (x0 x1 x2 x3 : Value) :
    Vs ((((w.setCell ⟨b, 0, none⟩ x0).setCell ⟨b, 1, none⟩ x1).setCell ⟨b, 2, none⟩ x2).setCell ⟨b, 3, none⟩ x3) b [x0, x1, x2, x3] :=
  (((h.put 0 (by simp) x0).put 1 (by simp) x1).put 2 (by simp) x2).put 3 (by simp) x3

/-- no slices and a code come back -/
def RetNil2 (n : Int) (w : World) (e : Ending) (w' : World) : Prop := e = .returned (.tuple #[.slice none 0 0, .slice none 0 0, .int .i64 n]) ∧ Below w.heap.size w w'

section
variable {f : Nat} (hf : IsF f)
include hf

end

end Go.Proofs.YtfhmineolncefaaDoor

namespace Go.Proofs.YtfhmineolncefaaDoor
open Go.RowKit Fm
set_option linter.unusedVariables false
set_option maxRecDepth 100000

/-- a number's bytes, the lowest first -/
def byteN (x i : Nat) : Nat := x / 2 ^ (8 * i) % 256
def bytesN (x n : Nat) : List Int := (List.range n).map fun i => ((byteN x i : Nat) : Int)
theorem bytesN_length (x n : Nat) : (bytesN x n).length = n := by unfold bytesN; rw [List.length_map, List.length_range]
theorem bytesN_at (x n i : Nat) (h : i < n) : (bytesN x n)[i]? = some ((byteN x i : Nat) : Int) := by unfold bytesN; rw [List.getElem?_map, List.getElem?_range h]; rfl
theorem u8_wrap (n : Int) : IntKind.u8.wrap n = n % 256 := by
  first | rfl | simp [IntKind.wrap, IntKind.signed, IntKind.bits, IntKind.min, IntKind.max]
theorem byteN_wrap (x s : Nat) : IntKind.u8.wrap ((x : Int) / 2 ^ s) = ((x / 2 ^ s % 256 : Nat) : Int) := by
  rw [u8_wrap, Int.natCast_emod, Int.natCast_ediv, Int.natCast_pow]
  rfl

def cells8 (xs : List Int) : List Value := xs.map (.int .u8)
theorem cells8_length (xs : List Int) : (cells8 xs).length = xs.length := List.length_map ..
theorem cells8_at {xs : List Int} {i : Nat} {e : Int} (h : xs[i]? = some e) : (cells8 xs)[i]? = some (.int .u8 e) := by unfold cells8; rw [List.getElem?_map, h]; rfl

/-- a list filled from its head on -/
theorem fill_set {α : Type} (xs : List α) (z x : α) (n i : Nat) (hl : xs.length = n) (hi : i < n) (hx : xs[i]? = some x) :
    (xs.take i ++ List.replicate (n - i) z).set i x = xs.take (i + 1) ++ List.replicate (n - (i + 1)) z := by
  have h1 : (xs.take i).length = i := by rw [List.length_take]; omega
  rw [List.set_append_right _ _ (by rw [h1]; exact Nat.le_refl _), h1, Nat.sub_self, show n - i = (n - (i + 1)) + 1 by omega, List.replicate_succ, List.set_cons_zero, List.take_add_one, hx, List.append_assoc]
  rfl

theorem Vs.set8 {w : World} {b : Nat} {p q r s t u v z : Value} (h : Vs w b [p, q, r, s, t, u, v, z]) (x0 x1 x2 x3 x4 x5 x6 x7 : Value) :
    Vs ((((((((w.setCell ⟨b, 0, none⟩ x0).setCell ⟨b, 1, none⟩ x1).setCell ⟨b, 2, none⟩ x2).setCell ⟨b, 3, none⟩ x3).setCell ⟨b, 4, none⟩ x4).setCell ⟨b, 5, none⟩ x5).setCell ⟨b, 6, none⟩ x6).setCell ⟨b, 7, none⟩ x7) b [x0, x1, x2, x3, x4, x5, x6, x7] :=
  (((((((h.put 0 (by simp) x0).put 1 (by simp) x1).put 2 (by simp) x2).put 3 (by simp) x3).put 4 (by simp) x4).put 5 (by simp) x5).put 6 (by simp) x6).put 7 (by simp) x7
theorem bl_set8 {B b : Nat} {a w : World} (h : Below B a w) (hp : B ≤ b) (x0 x1 x2 x3 x4 x5 x6 x7 : Value) :
    Below B a ((((((((w.setCell ⟨b, 0, none⟩ x0).setCell ⟨b, 1, none⟩ x1).setCell ⟨b, 2, none⟩ x2).setCell ⟨b, 3, none⟩ x3).setCell ⟨b, 4, none⟩ x4).setCell ⟨b, 5, none⟩ x5).setCell ⟨b, 6, none⟩ x6).setCell ⟨b, 7, none⟩ x7) :=
  bl_set (bl_set (bl_set (bl_set (bl_set (bl_set (bl_set (bl_set h hp x0) hp x1) hp x2) hp x3) hp x4) hp x5) hp x6) hp x7

theorem Vs.get16 {w : World} {b : Nat} {x0 x1 x2 x3 x4 x5 x6 x7 y0 y1 y2 y3 y4 y5 y6 y7 : Value} (h : Vs w b [x0, x1, x2, x3, x4, x5, x6, x7, y0, y1, y2, y3, y4, y5, y6, y7]) :
    (w.cell? ⟨b, 0, none⟩ = some x0 ∧ w.cell? ⟨b, 1, none⟩ = some x1 ∧ w.cell? ⟨b, 2, none⟩ = some x2 ∧ w.cell? ⟨b, 3, none⟩ = some x3 ∧ w.cell? ⟨b, 4, none⟩ = some x4 ∧ w.cell? ⟨b, 5, none⟩ = some x5 ∧ w.cell? ⟨b, 6, none⟩ = some x6 ∧ w.cell? ⟨b, 7, none⟩ = some x7 ∧ w.cell? ⟨b, 8, none⟩ = some y0 ∧ w.cell? ⟨b, 9, none⟩ = some y1 ∧ w.cell? ⟨b, 10, none⟩ = some y2 ∧ w.cell? ⟨b, 11, none⟩ = some y3 ∧ w.cell? ⟨b, 12, none⟩ = some y4 ∧ w.cell? ⟨b, 13, none⟩ = some y5 ∧ w.cell? ⟨b, 14, none⟩ = some y6 ∧ w.cell? ⟨b, 15, none⟩ = some y7) ∧ (w.frozen? ⟨b, 0, none⟩ = false ∧ w.frozen? ⟨b, 1, none⟩ = false ∧ w.frozen? ⟨b, 2, none⟩ = false ∧ w.frozen? ⟨b, 3, none⟩ = false ∧ w.frozen? ⟨b, 4, none⟩ = false ∧ w.frozen? ⟨b, 5, none⟩ = false ∧ w.frozen? ⟨b, 6, none⟩ = false ∧ w.frozen? ⟨b, 7, none⟩ = false ∧ w.frozen? ⟨b, 8, none⟩ = false ∧ w.frozen? ⟨b, 9, none⟩ = false ∧ w.frozen? ⟨b, 10, none⟩ = false ∧ w.frozen? ⟨b, 11, none⟩ = false ∧ w.frozen? ⟨b, 12, none⟩ = false ∧ w.frozen? ⟨b, 13, none⟩ = false ∧ w.frozen? ⟨b, 14, none⟩ = false ∧ w.frozen? ⟨b, 15, none⟩ = false) ∧ b < w.heap.size :=
  ⟨⟨h.cell 0 _ rfl, h.cell 1 _ rfl, h.cell 2 _ rfl, h.cell 3 _ rfl, h.cell 4 _ rfl, h.cell 5 _ rfl, h.cell 6 _ rfl, h.cell 7 _ rfl, h.cell 8 _ rfl, h.cell 9 _ rfl, h.cell 10 _ rfl, h.cell 11 _ rfl, h.cell 12 _ rfl, h.cell 13 _ rfl, h.cell 14 _ rfl, h.cell 15 _ rfl⟩, ⟨h.frz 0 (by simp), h.frz 1 (by simp), h.frz 2 (by simp), h.frz 3 (by simp), h.frz 4 (by simp), h.frz 5 (by simp), h.frz 6 (by simp), h.frz 7 (by simp), h.frz 8 (by simp), h.frz 9 (by simp), h.frz 10 (by simp), h.frz 11 (by simp), h.frz 12 (by simp), h.frz 13 (by simp), h.frz 14 (by simp), h.frz 15 (by simp)⟩, h.lt⟩
end Go.Proofs.YtfhmineolncefaaDoor

namespace Go.Proofs.YtfhmineolncefaaDoor
open Go.RowKit Fm
set_option linter.unusedVariables false
set_option maxRecDepth 100000

theorem bytes_eq : ∀ (n a b : Nat), a < 256 ^ n → b < 256 ^ n → (∀ i, i < n → a / 256 ^ i % 256 = b / 256 ^ i % 256) → a = b
  | 0, a, b, ha, hb, _ => by simp at ha hb; omega
  | n + 1, a, b, ha, hb, h => by
    have h0 := h 0 (by omega)
    simp only [Nat.pow_zero, Nat.div_one] at h0
    have h1 : a / 256 = b / 256 := by
      refine bytes_eq n _ _ ?_ ?_ fun i hi => ?_
      · rw [Nat.pow_succ, Nat.mul_comm] at ha
        exact (Nat.div_lt_iff_lt_mul (by omega)).2 (by rwa [Nat.mul_comm])
      · rw [Nat.pow_succ, Nat.mul_comm] at hb
        exact (Nat.div_lt_iff_lt_mul (by omega)).2 (by rwa [Nat.mul_comm])
      · have h2 := h (i + 1) (by omega)
        rw [Nat.pow_succ, Nat.mul_comm, ← Nat.div_div_eq_div_mul, ← Nat.div_div_eq_div_mul] at h2
        exact h2
    omega
theorem byteN_256 (x i : Nat) : byteN x i = x / 256 ^ i % 256 := by
  unfold byteN
  rw [Nat.pow_mul]
theorem bytesN_inj {a b : Nat} (ha : a < 18446744073709551616) (hb : b < 18446744073709551616) (h : bytesN a 8 = bytesN b 8) : a = b := by
  refine bytes_eq 8 a b (by simpa using ha) (by simpa using hb) fun i hi => ?_
  have h1 := bytesN_at a 8 i hi
  rw [h, bytesN_at b 8 i hi] at h1
  have h2 : ((byteN b i : Nat) : Int) = ((byteN a i : Nat) : Int) := Option.some.inj h1
  rw [← byteN_256, ← byteN_256]
  omega

/-- an element's bytes -/
def bytesK {f : Nat} (x : Fin (Pm f)) : List Int := if f = 1 then bytesN (lo x).toNat 8 else bytesN (lo x).toNat 8 ++ bytesN (hi x).toNat 8
def sizeK (f : Nat) : Nat := if f = 1 then 8 else 16
theorem bytesK_length {f : Nat} (x : Fin (Pm f)) : (bytesK x).length = sizeK f := by
  unfold bytesK sizeK
  split
  · exact bytesN_length _ _
  · rw [List.length_append, bytesN_length, bytesN_length]
theorem bytesK_inj {f : Nat} (hf : IsF f) {x y : Fin (Pm f)} (h : bytesK x = bytesK y) : x = y := by
  have h0 := lo_0 x
  have h1 := lo_1 x
  have h2 := lo_0 y
  have h3 := lo_1 y
  have g0 := hi_0 x
  have g1 := hi_1 x
  have g2 := hi_0 y
  have g3 := hi_1 y
  unfold bytesK at h
  by_cases h1f : f = 1
  · rw [if_pos h1f, if_pos h1f] at h
    have e := bytesN_inj (by omega) (by omega) h
    refine lohi_inj (by omega) ?_
    subst h1f
    have a1 := val_lohi x
    have a2 := val_lohi y
    have b1 := x.isLt
    have b2 := y.isLt
    have hp : Pm 1 = 18446744069414584321 := rfl
    omega
  · rw [if_neg h1f, if_neg h1f] at h
    obtain ⟨e1, e2⟩ := List.append_inj h (by rw [bytesN_length, bytesN_length])
    have e3 := bytesN_inj (by omega) (by omega) e1
    have e4 := bytesN_inj (by omega) (by omega) e2
    exact lohi_inj (by omega) (by omega)
theorem bytesK_u8 {f : Nat} (x : Fin (Pm f)) : ∀ e, e ∈ bytesK x → 0 ≤ e ∧ e ≤ 255 := by
  have key : ∀ a n e, e ∈ bytesN a n → 0 ≤ e ∧ e ≤ 255 := by
    intro a n e he
    unfold bytesN at he
    obtain ⟨i, _, rfl⟩ := List.mem_map.1 he
    have : byteN a i < 256 := Nat.mod_lt _ (by omega)
    omega
  intro e he
  unfold bytesK at he
  split at he
  · exact key _ _ e he
  · rcases List.mem_append.1 he with h | h <;> exact key _ _ e h

/-- a vector's bytes -/
def vecB {f : Nat} (l : KL f) : List Int := l.flatMap bytesK
theorem vecB_length {f : Nat} (l : KL f) : (vecB l).length = l.length * sizeK f := by
  unfold vecB
  induction l with
  | nil => simp
  | cons x l ih => rw [List.flatMap_cons, List.length_append, ih, bytesK_length, List.length_cons, Nat.succ_mul, Nat.add_comm]
theorem vecB_inj {f : Nat} (hf : IsF f) : ∀ {l m : KL f}, l.length = m.length → vecB l = vecB m → l = m
  | [], [], _, _ => rfl
  | [], _ :: _, h, _ => by simp at h
  | _ :: _, [], h, _ => by simp at h
  | x :: l, y :: m, hl, h => by
    unfold vecB at h
    rw [List.flatMap_cons, List.flatMap_cons] at h
    obtain ⟨e1, e2⟩ := List.append_inj h (by rw [bytesK_length, bytesK_length])
    rw [bytesK_inj hf e1, vecB_inj hf (by simpa using hl) e2]
theorem vecB_u8 {f : Nat} (l : KL f) : ∀ e, e ∈ vecB l → 0 ≤ e ∧ e ≤ 255 := by
  intro e he
  unfold vecB at he
  obtain ⟨x, _, h⟩ := List.mem_flatMap.1 he
  exact bytesK_u8 x e h
theorem str_inj : ∀ {xs ys : List Int}, (∀ e, e ∈ xs → 0 ≤ e ∧ e ≤ 255) → (∀ e, e ∈ ys → 0 ≤ e ∧ e ≤ 255) → (xs.map fun n => UInt8.ofNat n.toNat) = (ys.map fun n => UInt8.ofNat n.toNat) → xs = ys
  | [], [], _, _, _ => rfl
  | [], _ :: _, _, _, h => by simp at h
  | _ :: _, [], _, _, h => by simp at h
  | x :: xs, y :: ys, hx, hy, h => by
    rw [List.map_cons, List.map_cons] at h
    injection h with h1 h2
    have a := hx x (List.mem_cons_self ..)
    have b := hy y (List.mem_cons_self ..)
    have h3 := congrArg UInt8.toNat h1
    rw [UInt8.toNat_ofNat', UInt8.toNat_ofNat'] at h3
    have h4 : x = y := by omega
    rw [h4, str_inj (fun e he => hx e (List.mem_cons_of_mem _ he)) (fun e he => hy e (List.mem_cons_of_mem _ he)) h2]
theorem vec_str_inj {f : Nat} (hf : IsF f) {l m : KL f} (hl : l.length = m.length) (h : strOfNums (vecB l) = strOfNums (vecB m)) : l = m := by
  refine vecB_inj hf hl (str_inj (vecB_u8 l) (vecB_u8 m) ?_)
  have h1 := congrArg (fun s : ByteArray => s.data.toList) h
  exact h1

section
variable {f : Nat} (hf : IsF f)
include hf

end

end Go.Proofs.YtfhmineolncefaaDoor

namespace Go.Proofs.YtfhmineolncefaaDoor
open Go.RowKit Fm Go.ChangeShapes Go.WideShapes Go.Deep
set_option linter.unusedVariables false
set_option maxRecDepth 100000

theorem cells8_append (xs ys : List Int) : cells8 (xs ++ ys) = cells8 xs ++ cells8 ys := by unfold cells8; rw [List.map_append]

/-- the cells from ⟨b, o⟩ on hold the numbers xs -/
def RowB (w : World) (b o : Nat) (xs : List Int) : Prop := ∀ (i : Nat) (e : Int), xs[i]? = some e → w.cell? ⟨b, o + i, none⟩ = some (.int .u8 e)
theorem infoU8 : (Tryd.prog.info? 5).map (fun i => (i.zero, i.size, i.bytes)) = some (some (.int .u8 0), 1, 1) := by kernel_rfl

theorem RowB.cells {w : World} {b o : Nat} {xs : List Int} (h : RowB w b o xs) (j : Nat) (u : Value) (hu : (cells8 xs)[j]? = some u) : w.cell? ((⟨b, o, none⟩ : Addr).add j) = some u := by
  have ha : (⟨b, o, none⟩ : Addr).add j = ⟨b, o + j, none⟩ := by
    unfold Addr.add
    split <;> simp_all
  rw [ha]
  unfold cells8 at hu
  rw [List.getElem?_map] at hu
  cases hx : xs[j]? with
  | none => rw [hx] at hu; cases hu
  | some e =>
    rw [hx] at hu
    injection hu with hu
    subst hu
    exact h j e hx

theorem oneCell_cells8 (xs : List Int) : ∀ u, u ∈ cells8 xs → u.oneCell' = true := by
  intro u h
  unfold cells8 at h
  rw [List.mem_map] at h
  obtain ⟨e, _, rfl⟩ := h
  rfl

theorem run_append_B (w : World) (base : Nat) (ty : TypeId) (v : Value) (n : Nat) (xs : List Int) (hown : w.ownsRow base 5 1 v n (cells8 xs)) (A : Option Addr) (m c : Nat) (ys : List Int)
    (hm : ys.length = m) (hy : 0 < m → ∃ b o, A = some ⟨b, o, none⟩ ∧ RowB w b o ys) (hbound : n + m ≤ 1099511627776) (hbase : base ≤ w.heap.size) :
    ∃ v' w', (Builtin.append_ #[76, 76] ty #[v, .slice A m c]).run Tryd.prog w = .ok v' w' ∧ w'.ownsRow base 5 1 v' (n + m) (cells8 (xs ++ ys)) ∧ w.grownBy w' v.ownBlock ∧
      (v'.ownBlock = v.ownBlock ∨ v'.ownBlock = some w.heap.size) := by
  obtain ⟨i, hi, hz, h1, h2⟩ := info_parts infoU8
  rw [cells8_append]
  rcases A with _ | ad
  · have hm0 : m = 0 := by
      rcases Nat.eq_zero_or_pos m with h0 | h0
      · exact h0
      · obtain ⟨b, o, h, _⟩ := hy h0
        cases h
    subst hm0
    obtain rfl : ys = [] := List.eq_nil_of_length_eq_zero hm
    refine ⟨v, w, ?_, by simpa [cells8] using hown, World.grownBy.refl w _, .inl rfl⟩
    rcases hown.2 with ⟨rfl, rfl⟩ | ⟨g, cap, cur, rfl, _, _, hnc, _⟩
    · simp [Builtin.append_, run_underlying Tryd.underlying76, sizeOf, typeInfo, hi, Builtin.lenOf, Builtin.firstCells]
    · simp [Builtin.append_, run_underlying Tryd.underlying76, sizeOf, typeInfo, hi, Builtin.lenOf, Builtin.firstCells, hnc, storeCells]
  · have hcells : ∀ j u, (cells8 ys)[j]? = some u → w.cell? (ad.add j) = some u := by
      intro j u hu
      rcases Nat.eq_zero_or_pos m with h0 | h0
      · subst h0
        obtain rfl : ys = [] := List.eq_nil_of_length_eq_zero hm
        simp [cells8] at hu
      · obtain ⟨b, o, h, hr⟩ := hy h0
        injection h with h
        subst h
        exact hr.cells j u hu
    obtain ⟨v', w', hrun, h3, h4, _, h5⟩ := run_append_own_at (P := Tryd.prog) w base 76 ty 5 i _ 1 1 Tryd.underlying76 hi hz h1 h2 rfl (by omega) v n _ hown ad m c (cells8 ys)
      (by rw [cells8_length, hm, Nat.mul_one]) hcells (oneCell_cells8 ys) (by unfold maxLen; omega) (by omega) hbase
    exact ⟨v', w', hrun, h3, h4, h5⟩

theorem wpList_append_B {w : World} {ops : Array Oper} {rest : List Oper} {o : Oper} {a : Act} {Q : Exit → Act → World → Prop} (hgd : o.guard = none) (s x : Operand)
    (ho : o.op = .call { callee := .builtin .append, args := #[s, x], argTypes := #[76, 76] })
    (base : Nat) (v : Value) (n : Nat) (xs : List Int) (hs : a.eval s = v) (hown : w.ownsRow base 5 1 v n (cells8 xs)) (A : Option Addr) (m c : Nat) (ys : List Int) (hx : a.eval x = .slice A m c)
    (hm : ys.length = m) (hy : 0 < m → ∃ b o, A = some ⟨b, o, none⟩ ∧ RowB w b o ys) (hbound : n + m ≤ 1099511627776) (hbase : base ≤ w.heap.size)
    (h : ∀ v' w', w'.ownsRow base 5 1 v' (n + m) (cells8 (xs ++ ys)) → w.grownBy w' v.ownBlock → (v'.ownBlock = v.ownBlock ∨ v'.ownBlock = some w.heap.size) → wpList Tryd.prog ops Q rest (a.put o.dst v') w') : wpList Tryd.prog ops Q (o :: rest) a w := by
  obtain ⟨v', w', hrun, h2, h3, h4⟩ := run_append_B w base o.type v n xs hown A m c ys hm hy hbound hbase
  refine wpList_plain hgd fun K hK => ?_
  unfold Oper.wp execOp
  simp only [ho, resolve, invoke, builtin, Sem.run_bind, Sem.run_pure, Result.andThen_ok, List.map_toArray, List.map_cons, List.map_nil, hs, hx, hrun]
  exact hK _ _ (h v' w' h2 h3 h4)


theorem cell_own {w : World} {base g n cap : Nat} {xs : List Int} (h : w.ownsRow base 5 1 (.slice (some ⟨g, 0, none⟩) n cap) n (cells8 xs)) (i : Nat) (e : Int) (hi : xs[i]? = some e) : w.cell? ⟨g, i, none⟩ = some (.int .u8 e) := by
  have f1 := h.cells (g := g) rfl i _ (cells8_at hi)
  have ha : (⟨g, 0, none⟩ : Addr).add i = ⟨g, 0 + i, none⟩ := by
    unfold Addr.add
    split <;> simp_all
  rwa [ha, Nat.zero_add] at f1

/-- bytes come back, and make that string -/
def RetStr (bs : List Int) (w : World) (e : Ending) (w' : World) : Prop :=
  ∃ (A : Option Addr) (n cp : Nat), e = .returned (.slice A n cp) ∧ (∀ wz, Below w'.heap.size w' wz → (convert 76 9 (.slice A n cp)).run Tryd.prog wz = .ok (.string (strOfNums bs)) wz) ∧ Below w.heap.size w w'

theorem str_own {w : World} {base n : Nat} {A : Option Addr} {cp : Nat} {xs : List Int} (h : w.ownsRow base 5 1 (.slice A n cp) n (cells8 xs)) (hn : xs.length = n) :
    ∀ wz, Below w.heap.size w wz → (convert 76 9 (.slice A n cp)).run Tryd.prog wz = .ok (.string (strOfNums xs)) wz := by
  intro wz hb
  rcases h.2 with ⟨hv, h0⟩ | ⟨g, cap, cur, hv, h1, h2, h3⟩
  · injection hv with e1 e2 e3
    subst e1
    obtain rfl : xs = [] := List.eq_nil_of_length_eq_zero (by omega)
    exact run_convert_bytes_nil wz _ 5 Tryd.underlying76 Tryd.underlying5 _ _ _ Tryd.underlying9
  · injection hv with e1 e2 e3
    subst e1
    have hlt : g < w.heap.size := (Array.getElem?_eq_some_iff.1 h2).1
    refine run_convert_bytes_arg wz _ 5 Tryd.underlying76 Tryd.underlying5 g 0 n cp xs hn (fun i hi => ?_) _ Tryd.underlying9
    have hx : xs[i]? = some (xs.getD i 0) := by
      rw [List.getD_eq_getElem?_getD, List.getElem?_eq_getElem (by omega)]
      rfl
    rw [Nat.zero_add]
    exact (hb.cell (p := ⟨g, i, none⟩) hlt).trans (cell_own h i _ hx)

section
variable {f : Nat} (hf : IsF f)
include hf

omit hf in
theorem zip_esK (op : Int → Int → Int) (ok : Fin (Pm f) → Fin (Pm f) → Fin (Pm f)) (h : ∀ x y : Int, kI (Pm f) (op x y) = ok (kI (Pm f) x) (kI (Pm f) y)) (m : Int) (hm : m = (Pm f : Int)) :
    ∀ (a b : KL f), zipO op f m (esK a) (esK b) = esK (List.zipWith ok a b)
  | [], _ => rfl
  | _ :: _, [] => rfl
  | x :: a, y :: b => by
    have ih := zip_esK op ok h m hm a b
    unfold zipO at ih ⊢
    rw [esK_cons, esK_cons, List.zipWith_cons_cons, List.zipWith_cons_cons, esK_cons, ih]
    congr 1
    have h1 : nI (f : Int) (eK x).1 (eK x).2 = nI (f : Int) (lo x) (hi x) := rfl
    have h2 : nI (f : Int) (eK y).1 (eK y).2 = nI (f : Int) (lo y) (hi y) := rfl
    rw [h1, h2, hm, ← eK_kI, h, kI_nI, kI_nI, kL_lohi, kL_lohi]
def addL (a b : KL f) : KL f := List.zipWith (· + ·) a b
def subL (a b : KL f) : KL f := List.zipWith (· - ·) a b
omit hf in
theorem zip_addL (a b : KL f) : zipO (· + ·) f (Pm f : Int) (esK a) (esK b) = esK (addL a b) := zip_esK _ _ (fun x y => kI_add x y) _ rfl a b
omit hf in
theorem zip_subL (a b : KL f) : zipO (· - ·) f (Pm f : Int) (esK a) (esK b) = esK (subL a b) := zip_esK _ _ (fun x y => kI_sub x y) _ rfl a b
omit hf in
theorem addL_length (a b : KL f) (h : a.length = b.length) : (addL a b).length = a.length := by unfold addL; rw [List.length_zipWith]; omega
omit hf in
theorem subL_length (a b : KL f) (h : a.length = b.length) : (subL a b).length = a.length := by unfold subL; rw [List.length_zipWith]; omega
omit hf in
theorem allIn_esK (l : KL f) : AllIn ((Pm f : Nat) : Int) (esK l) := by
  intro e he
  unfold esK at he
  obtain ⟨x, _, rfl⟩ := List.mem_map.1 he
  have h1 := val_lohi x
  have h2 := x.isLt
  show lo x + 18446744073709551616 * hi x < _
  omega

/-- a new slice of elements and no error come back -/
def RetSK (zs : KL f) (w : World) (e : Ending) (w' : World) : Prop :=
  ∃ g, e = .returned (.tuple #[.slice (some ⟨g, 0, none⟩) zs.length zs.length, .int .i64 0]) ∧ BlkE w' g (esK zs) ∧ w.heap.size ≤ g ∧ Below w.heap.size w w'

theorem field_AddVecK (va vb : Value) (a b : KL f) (w : World) (ha : SlK w w.heap.size va a) (hb : SlK w w.heap.size vb b) (hl : a.length = b.length) (hn : a.length ≤ 1000000) :
    Calls Tryd.prog 19 #[.int .u8 f, va, vb] w (RetSK (addL a b) w) :=
  (field_AddVec f _ (FM.ofN hf) va vb (esK a) (esK b) w ha.toE hb.toE (by rw [esK_length, esK_length, hl]) (by rw [esK_length]; omega)).mono fun e w' ⟨g, he, hB, h1, h2⟩ => by
    rw [zip_addL] at he hB
    exact ⟨g, by rw [← esK_length]; exact he, hB, h1, h2⟩
/-- what Swap answers: by both sums, and what is drawn anew -/
def RetSw (s1 s2 r1 r2 : KL f) (w : World) (e : Ending) (w' : World) : Prop :=
  (s1 = s2 ∧ ∃ u v : Value, e = .returned (.tuple #[u, v, .int .i64 0]) ∧ SlK w' w'.heap.size u r1 ∧ SlK w' w'.heap.size v r2 ∧ Below w.heap.size w w') ∨ (s1 ≠ s2 ∧ RetNil2 31 w e w')

end

end Go.Proofs.YtfhmineolncefaaDoor

namespace Go.Proofs.YtfhmineolncefaaDoor
open Go.RowKit Fm
set_option linter.unusedVariables false
set_option maxRecDepth 100000

theorem law03_FN (n : Int) (h0 : 0 ≤ n) (h1 : n ≤ 255) : ∃ f : Nat, IsF f ∧ ∀ w, Calls Tryd.prog 16 #[.int .u8 n] w fun e w' => e = .returned (.int .u8 f) ∧ w = w' := by
  rcases (by omega : n % 2 = 0 ∨ n % 2 = 1) with h | h
  · exact ⟨1, isF1, fun w => (law03_F n w h0 h1).mono fun _ _ ⟨he, hw⟩ => ⟨by rw [he, h]; rfl, hw⟩⟩
  · exact ⟨2, isF2, fun w => (law03_F n w h0 h1).mono fun _ _ ⟨he, hw⟩ => ⟨by rw [he, h]; rfl, hw⟩⟩

theorem RwK.sl2 {f : Nat} {w : World} {g n : Nat} {l : KL f} (h : RwK w g l) (hl : l.length = n) (hn : n ≤ 1000000) : SlK w w.heap.size (.slice (some ⟨g, 0, none⟩) n n) l := h.sl hl (Nat.le_refl _) (by omega)

set_option maxHeartbeats 4000000 in
theorem walk_NttValues (n : Int) (vl : Value) (l : List E) (w : World) (hT : TabW w) (hn : 0 ≤ n ∧ n ≤ 255) (hl : SlE w w.heap.size vl l) :
    Calls Tryd.prog 4 #[.int .u8 n, vl] w fun e w' => e = .returned (.bool true) ∧ Below w.heap.size w w' := by
  obtain ⟨f, hf, hF⟩ := law03_FN n hn.1 hn.2
  clear hn
  have HF := Lib.hid hF
  have HAW := Lib.hid (fun wz h => law04_Awake wz h)
  have HPAD := Lib.hid (fun wz h => law04_Pad hf vl l wz h)
  have H0 := Lib.hid hl
  have heq := neq_elem
  have hfb0 : (1 : Int) ≤ (f : Int) := by rcases hf.or with rfl | rfl <;> omega
  have hfb1 : (f : Int) ≤ 2 := by rcases hf.or with rfl | rfl <;> omega
  obtain ⟨⟨A, c, rfl, _, _, _⟩, _⟩ := hl
  have hb00 : Below w.heap.size w w := Below.refl _ _
  go_enter Tryd.func4, Tryd.ntmps4
  go_wp2_with fail
  refine (HAW.out _ hT).mono ?_
  rintro e w1 ⟨rfl, hb1⟩
  replace hb00 := bl_call hb00 (Nat.le_refl _) hb1
  replace hT := hT.call hb1
  clear hb1
  go_upto_region 4 with (first
    | (go_at_call 16; refine (HF.out _).mono ?_; rintro e wq ⟨rfl, rfl⟩))
  go_wp2_with fail
  refine (HPAD.out _ (H0.out.later hb00)).mono ?_
  rintro e w2 ⟨L, g, p, hL, hpl, rfl, hR, _, hb2⟩
  replace hb00 := bl_call hb00 (Nat.le_refl _) hb2
  replace hT := hT.call hb2
  clear hb2
  rw [hpl]
  have HPL := Lib.hid hpl
  have HV := Lib.hid (fun v wz hT hs => ntt_Values hf L (by omega) v p hpl wz hT hs)
  have HC := Lib.hid (fun v (q : KL f) (hq : q.length = 2 ^ L) wz hT hs => ntt_Coefs hf L (by omega) v q hq wz hT hs)
  have HPT := Lib.hid (fun wz => ntt_Points hf L (by omega) wz)
  have HLG := Lib.hid (fun wz => law04_log_ok L (by omega) wz)
  have HBK : Hid (coefsK L (valsK L p) = p) := coefsK_vals (by omega) p hpl
  have HVL : Hid ((valsK L p).length = 2 ^ L) := valsK_length L p
  have HPP : Hid ((pows (rootK f L) (2 ^ L)).length = 2 ^ L) := pows_length _ _
  have HAT : Hid (∀ i, i < 2 ^ L → ∃ x v : Fin (Pm f), (pows (rootK f L) (2 ^ L))[i]? = some x ∧ (valsK L p)[i]? = some v ∧ v = horner x p) := fun i hi => by
    refine ⟨_, _, ?_, ?_, (horner_ev (Fm.kpow (rootK f L) i) p).symm⟩
    · simp [pows, ofF, hi]
    · simp [vals, ofF, hi]
  have hp16 : 2 ^ L ≤ 2 ^ 4 := Nat.pow_le_pow_right (by omega) hL
  have hp0 := Nat.two_pow_pos L
  have HRA := Lib.hid (fun v (x : Fin (Pm f)) wz hs => ref_At hf v p x wz hs (by omega))
  have hs := hR.sl2 hpl (by omega)
  clear hpl hL
  generalize valsK L p = vv at *
  generalize pows (rootK f L) (2 ^ L) = pp at *
  obtain ⟨N, hN⟩ : ∃ N, 2 ^ L = N := ⟨_, rfl⟩
  rw [hN] at HPL HC HLG HVL HPP HAT hp16 hp0 hs ⊢
  clear hN hR
  go_wp2_with fail
  refine (HV.out _ _ hT hs).mono ?_
  rintro e w3 ⟨gv, rfl, hRv, _, hb3⟩
  replace hb00 := bl_call hb00 (Nat.le_refl _) hb3
  replace hT := hT.call hb3
  replace hs := hs.later hb3
  rw [HVL.out]
  clear hb3
  go_wp2_with fail
  refine (HLG.out _).mono ?_
  rintro e wq ⟨rfl, rfl⟩
  go_wp2_with fail
  refine (HPT.out _).mono ?_
  rintro e w4 ⟨vp, rfl, hown, hb4⟩
  replace hb00 := bl_call hb00 (Nat.le_refl _) hb4
  replace hT := hT.call hb4
  replace hs := hs.later hb4
  replace hRv := hRv.call hb4
  rw [HPP.out] at hown
  have hsp := own_sl HPP.out hown
  obtain ⟨Ap, cp, rfl⟩ := own_shape hown
  clear hb4 hown
  go_wp2_with fail
  obtain ⟨bp, op, hAp, hbp, hrp⟩ := hsp.rowOf (by rw [HPP.out]; exact hp0)
  subst hAp
  obtain ⟨wo, hwo⟩ : ∃ wo : World, wo = w4 := ⟨_, rfl⟩
  rw [← hwo] at hs hRv hb00 hT hrp hbp ⊢
  clear hwo hsp
  go_loopw [62] (fun kv wr => ∃ k : Nat, k ≤ N ∧ kv = .int .i64 k ∧ Below wo.heap.size wo wr) (fun kv _ => N - (intOf kv).toNat)
  case atStart => exact ⟨0, Nat.zero_le _, rfl, Below.refl _ _⟩
  case round =>
    obtain ⟨k, hk, rfl, hbo⟩ := hrel
    have hs1 := hs.later hbo
    have hRv1 := hRv.call hbo
    by_cases hkN : k < N
    · obtain ⟨x, v, hx, hv, hvx⟩ := HAT.out k hkN
      have hrp1 := hrp.call hbo
      obtain ⟨a0, a1⟩ := hrp1.kat hx
      have HX := Lib.hid hv
      have HVX := Lib.hid hvx
      have hbp1 : bp < wr.heap.size := Nat.lt_of_lt_of_le hbp hbo.size
      clear hv hx hvx hrp1
      go_upto_region 12 with fail
      have x0 := V2.new wr (.int .u64 (lo x)) (.int .u64 (hi x)) 28
      have hbA : Below wr.heap.size wr (wr.alloc (.cells #[.int .u64 (lo x), .int .u64 (hi x)] 28)) := by repeat (first | exact Below.refl _ _ | with_reducible assumption | (refine bl_alloc ?_ (Nat.le_refl _) _))
      replace hbo := bl_call hbo (Nat.le_refl _) hbA
      replace hs1 := hs1.later hbA
      replace hRv1 := hRv1.call hbA
      clear hbA
      generalize wr.alloc (.cells #[.int .u64 (lo x), .int .u64 (hi x)] 28) = w5 at hbo hs1 hRv1 x0 ⊢
      obtain ⟨d0, d1⟩ := hRv1.at HX.out
      have g1 : (0 : Int) ≤ (k : Int) := by omega
      have g2 : (k : Int) < (N : Int) := by omega
      have g5 := hRv1.lt
      clear a0 a1
      obtain ⟨x00, x01, x02, x03, x04⟩ := V2.mk x0.c0 x0.c1 x0.f0 x0.f1 x0.lt
      have HRX : Hid (∀ wz, Below w5.heap.size w5 wz → Calls Tryd.prog 25 #[.int .i64 f, .slice (some ⟨g, 0, none⟩) N N, vK x] wz (RetK v wz)) := fun wz hb => by
        rw [HVX.out]
        exact HRA.out _ x wz (hs1.later hb)
      refine region_B (n := 9) (m := 9) (f := 9) (by kernel_rfl) (by kernel_rfl) rfl ?_
      refine WpH.takeD 0 (some 67) (v := ?_) rfl rfl (by kernel_rfl) (fun _ _ _ h => h) (.val rfl (fun wz hwz => ?_)) ?_
      rotate_left
      · go_simp; try (with_reducible rfl)
      (simp only [Act.put]); (try simp only [List.setIfInBounds_toArray]); (try simp only [List.set_cons_succ]); (try simp only [List.set_cons_zero])
      refine WpH.takeD 1 (some 68) (v := ?_) rfl rfl (by kernel_rfl) (fun _ _ _ h => h) (.val rfl (fun wz hwz => ?_)) ?_
      rotate_left
      · go_simp; try (with_reducible rfl)
      (simp only [Act.put]); (try simp only [List.setIfInBounds_toArray]); (try simp only [List.set_cons_succ]); (try simp only [List.set_cons_zero])
      refine WpH.takeD 2 (some 69) (v := ?_) rfl rfl (by kernel_rfl) (fun _ _ _ h => h) (.val rfl (fun wz hwz => ?_)) ?_
      rotate_left
      · go_simp; try (with_reducible rfl)
      (simp only [Act.put]); (try simp only [List.setIfInBounds_toArray]); (try simp only [List.set_cons_succ]); (try simp only [List.set_cons_zero])
      refine WpH.takeD 3 (some 70) (v := ?_) rfl rfl (by kernel_rfl) (fun _ _ _ h => h) (.val rfl (fun wz hwz => ?_)) ?_
      rotate_left
      · (obtain ⟨hcz, hfz⟩ := bcell hwz; go_simp; try (with_reducible rfl))
      (simp only [Act.put]); (try simp only [List.setIfInBounds_toArray]); (try simp only [List.set_cons_succ]); (try simp only [List.set_cons_zero])
      refine WpH.takeD 4 (some 71) (v := ?_) rfl rfl (by kernel_rfl) (fun _ _ _ h => h) (.val rfl (fun wz hwz => ?_)) ?_
      rotate_left
      · go_simp; try (with_reducible rfl)
      (simp only [Act.put]); (try simp only [List.setIfInBounds_toArray]); (try simp only [List.set_cons_succ]); (try simp only [List.set_cons_zero])
      refine WpH.takeD 5 (some 72) (v := ?_) rfl rfl (by kernel_rfl) (fun _ _ _ h => h) (.val rfl (fun wz hwz => ?_)) ?_
      rotate_left
      · go_simp; try (with_reducible rfl)
      (simp only [Act.put]); (try simp only [List.setIfInBounds_toArray]); (try simp only [List.set_cons_succ]); (try simp only [List.set_cons_zero])
      refine WpH.takeD 6 (some 73) (v := ?_) rfl rfl (by kernel_rfl) (fun _ _ _ h => h) (.val rfl (fun wz hwz => ?_)) ?_
      rotate_left
      · (obtain ⟨hcz, hfz⟩ := bcell hwz; go_simp; try (with_reducible rfl))
      (simp only [Act.put]); (try simp only [List.setIfInBounds_toArray]); (try simp only [List.set_cons_succ]); (try simp only [List.set_cons_zero])
      refine WpH.takeD 7 (some 74) rfl rfl (by kernel_rfl) (fun _ _ _ h => h) (.call rfl (fun wz hwz => HRX.out wz hwz) (fun wz hwz => ?_)) ?_
      · go_simp; try (with_reducible rfl)
      (simp only [Act.put]); (try simp only [List.setIfInBounds_toArray]); (try simp only [List.set_cons_succ]); (try simp only [List.set_cons_zero])
      refine WpH.takeD 8 (some 75) (v := ?_) rfl rfl (by kernel_rfl) (fun _ _ _ h => h) (.val rfl (fun wz hwz => ?_)) ?_
      rotate_left
      · go_simp; try (with_reducible rfl)
      (simp only [Act.put]); (try simp only [List.setIfInBounds_toArray]); (try simp only [List.set_cons_succ]); (try simp only [List.set_cons_zero])
      refine WpH.doneB (by kernel_rfl) (fun w6 hw6 => ?_)
      (try simp only [List.drop_succ_cons]); (try simp only [List.drop_zero]); (try simp only [Nat.reduceSub]); (try simp only [List.take_succ_cons]); (try simp only [List.take_zero])
      clear x00 x01 x02 x03 x04
      clear d0 d1 g5 x0
      replace hbo := bl_call hbo (Nat.le_refl _) hw6
      go_wp2_with fail
      go_roundw
      case rel => exact ⟨k + 1, by omega, by go_num, hbo⟩
      case measure => simp [intOf]; omega
    · obtain rfl : k = N := by omega
      have hb9 : Below w.heap.size w wr := bl_call hb00 (Nat.le_refl _) hbo
      have hT9 := hT.call hbo
      have hsv := hRv1.sl2 HVL.out (by omega)
      have HVS := Lib.hid hsv
      clear hRv hRv1 hsv hrp hbp hb00 hT hs hbo
      go_wp2_with fail
      refine (HC.out _ vv HVL.out _ hT9 HVS.out).mono ?_
      rintro e w7 ⟨gc, rfl, hRc, _, hb7⟩
      replace hb9 := bl_call hb9 (Nat.le_refl _) hb7
      replace hs1 := hs1.later hb7
      rw [HBK.out] at hRc ⊢
      rw [HPL.out]
      have hsc := hRc.sl2 HPL.out (by omega)
      clear hRc hb7
      go_wp2_with fail
      refine (ref_Same_eq _ _ _ _ _ hsc.toE hs1.toE rfl).mono ?_
      rintro e w8 ⟨rfl, hb8⟩
      replace hb9 := bl_call hb9 (Nat.le_refl _) hb8
      go_wp2_with fail
      go_ret
      exact ⟨rfl, hb9⟩

end Go.Proofs.YtfhmineolncefaaDoor
