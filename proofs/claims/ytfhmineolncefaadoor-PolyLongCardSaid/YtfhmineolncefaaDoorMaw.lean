/-
  WALKS: the reference's Product and Sum; tallymanlaw05.some, Awake.
-/
/-
  WALKS: tallymanlaw05.some, Awake.
-/
/-
  WALK: tallymanlaw05.PolySums.
-/
import Derived.Test.YtfhmineolncefaaDoorMav
import Derived.Test.YtfhmineolncefaaDoorMah
import Derived.Test.YtfhmineolncefaaDoorMag
import Derived.Test.YtfhmineolncefaaDoorMat
namespace Go.Proofs.YtfhmineolncefaaDoor
open Go.RowKit Fm
set_option linter.unusedVariables false
set_option maxRecDepth 100000

theorem getD_out {f k : Nat} {l : KL f} (h : l.length ≤ k) : l.getD k 0 = 0 := by
  rw [List.getD_eq_getElem?_getD, List.getElem?_eq_none h]; rfl

theorem own_stb {w : World} {base b : Nat} {e : TypeId} {size : Nat} {v : Value} {n : Nat} {xs : List Value} (h : w.ownsRow base e size v n xs) (hb : ∀ q, v.ownBlock = some q → q ≠ b) (x y : Value) : ((w.setCell ⟨b, 0, none⟩ x).setCell ⟨b, 1, none⟩ y).ownsRow base e size v n xs := by
  refine ⟨h.1, ?_⟩
  rcases h.2 with h | ⟨g, cap, cur, rfl, h2, h3, h4⟩
  · exact .inl h
  · refine .inr ⟨g, cap, cur, rfl, h2, ?_, h4⟩
    rw [Below.heap_setCell _ _ _ _ (hb g rfl), Below.heap_setCell _ _ _ _ (hb g rfl)]
    exact h3

section
variable {f : Nat} (hf : IsF f)
include hf

set_option maxHeartbeats 8000000 in
theorem ref_Product (va vb : Value) (a b : KL f) (w : World) (ha : SlK w w.heap.size va a) (hb : SlK w w.heap.size vb b) (hal : a.length ≤ 400000) (hbl : b.length ≤ 400000) :
    Calls Tryd.prog 36 #[.int .i64 f, va, vb] w (RetSq (pmul a b) w) := by
  have hfb0 : (1 : Int) ≤ (f : Int) := by rcases hf.or with rfl | rfl <;> omega
  have hfb1 : (f : Int) ≤ 2 := by rcases hf.or with rfl | rfl <;> omega
  have HADD := Lib.hid (fun x y wz => ref_AddK hf x y wz)
  have HMU := Lib.hid (fun x y wz => ref_MulK hf x y wz)
  have HPM := Lib.hid (pmul_trim (a := a) (b := b) hal hbl)
  obtain ⟨A, ca, rfl, hca, hcam, hA⟩ := id ha
  obtain ⟨B, cb, rfl, hcb, hcbm, hB⟩ := id hb
  have HTA := Lib.hid (ref_Trim A ca a w ha (by omega))
  have HTB := Lib.hid (ref_Trim B cb b w hb (by omega))
  have hta := trim_le a
  have htb := trim_le b
  have hsa := ha.takeK hta
  have hsb := hb.takeK htb
  rw [← trim_take] at hsa hsb
  generalize trim a = ta at *
  generalize trim b = tb at *
  obtain ⟨na, hna⟩ : ∃ n, a.length = n := ⟨_, rfl⟩
  obtain ⟨nb, hnb⟩ : ∃ n, b.length = n := ⟨_, rfl⟩
  rw [hna] at hal hta HTA hca ⊢
  rw [hnb] at hbl htb HTB hcb ⊢
  clear hna hnb hA hB ha hb
  obtain ⟨la, hla⟩ : ∃ n, ta.length = n := ⟨_, rfl⟩
  obtain ⟨lb, hlb⟩ : ∃ n, tb.length = n := ⟨_, rfl⟩
  rw [hla] at hta HTA hsa
  rw [hlb] at htb HTB hsb
  have HLA := Lib.hid hla
  have HLB := Lib.hid hlb
  clear hla hlb
  by_cases ha0 : la = 0
  · subst ha0
    have HPN : Hid (pmul a b = []) := by
      show _ = _
      rw [← HPM.out, List.length_eq_zero_iff.1 HLA.out]
      exact pmul_nil_left _
    clear hsa hsb
    go_enter Tryd.func36, Tryd.ntmps36
    go_wp2_with fail
    refine HTA.out.mono ?_
    rintro e w' ⟨rfl, rfl⟩
    go_wp2_with fail
    refine HTB.out.mono ?_
    rintro e w' ⟨rfl, rfl⟩
    go_wp2_with fail
    go_ret
    refine ⟨(none, 0), by rw [HPN.out]; rfl, ?_, Below.refl _ _⟩
    rw [HPN.out]
    exact (SlE.nil w _).toK (l := [])
  by_cases hb0 : lb = 0
  · subst hb0
    have HPN : Hid (pmul a b = []) := by
      show _ = _
      rw [← HPM.out, List.length_eq_zero_iff.1 HLB.out]
      exact pmul_nil_right _
    have t1 : ¬ (la = 0) := ha0
    clear hsa hsb
    go_enter Tryd.func36, Tryd.ntmps36
    go_wp2_with fail
    refine HTA.out.mono ?_
    rintro e w' ⟨rfl, rfl⟩
    go_wp2_with fail
    refine HTB.out.mono ?_
    rintro e w' ⟨rfl, rfl⟩
    go_wp2_with fail
    go_ret
    refine ⟨(none, 0), by rw [HPN.out]; rfl, ?_, Below.refl _ _⟩
    rw [HPN.out]
    exact (SlE.nil w _).toK (l := [])
  have t1 : ¬ (la = 0) := ha0
  have t2 : ¬ (lb = 0) := hb0
  have t3 : ((la : Int) == 0) = false := by rw [beq_eq_false_iff_ne]; omega
  have t4 : ((lb : Int) == 0) = false := by rw [beq_eq_false_iff_ne]; omega
  obtain ⟨b1, o1, hAe, hbw1, hrow1⟩ := hsa.rowOf (by rw [HLA.out]; omega)
  obtain ⟨b2, o2, hBe, hbw2, hrow2⟩ := hsb.rowOf (by rw [HLB.out]; omega)
  subst hAe
  subst hBe
  obtain ⟨N, hN⟩ : ∃ N, la + lb - 1 = N := ⟨_, rfl⟩
  have hN1 : (la : Int) + (lb : Int) - 1 = (N : Int) := by omega
  have hN2 : N + 1 = la + lb := by omega
  have hmk := make_elem N (by omega)
  have HDL : Hid (∀ I K, (dl ta tb I K).length = N) := fun I K => by rw [dl_length, HLA.out, HLB.out, hN]
  have HPL : Hid ((prodL ta tb).length = N) := by show _ = _; rw [prodL_length, HLA.out, HLB.out, hN]
  have HZ : Hid (List.replicate N 0 = dl ta tb 0 0) := by show _ = _; rw [dl_zero, HLA.out, HLB.out, hN]
  have HNX : Hid (∀ I K z, I < la → K < lb → z = (dl ta tb I K).getD (I + K) 0 + ta.getD I 0 * tb.getD K 0 → (dl ta tb I K).set (I + K) z = dl ta tb I (K + 1)) := fun I K z h1 h2 h3 => dl_next ta tb I K (by rw [HLA.out]; exact h1) (by rw [HLB.out]; exact h2) z h3
  have HRO : Hid (∀ I, dl ta tb I lb = dl ta tb (I + 1) 0) := fun I => by rw [← HLB.out]; exact dl_row ta tb I
  have HEN : Hid (dl ta tb la 0 = prodL ta tb) := by show _ = _; rw [← HLA.out]; exact dl_end ta tb
  have HTR : Hid (trim (prodL ta tb) = pmul a b) := HPM.out
  have HR1 := Lib.hid hrow1
  have HR2 := Lib.hid hrow2
  clear hN hrow1 hrow2 hsa hsb
  go_enter Tryd.func36, Tryd.ntmps36
  go_wp2_with fail
  refine HTA.out.mono ?_
  rintro e w' ⟨rfl, rfl⟩
  go_wp2_with fail
  refine HTB.out.mono ?_
  rintro e w' ⟨rfl, rfl⟩
  go_upto_region 5 with fail
  have hB0 := RwK.new w (List.replicate N (0 : Fin (Pm f))) (cellsE (List.replicate N (0, 0))).toArray (by unfold esK; rw [List.map_replicate, eK_zero]) 28
  rw [HZ.out] at hB0
  have hb00 : Below w.heap.size w (w.alloc (.cells (cellsE (List.replicate N (0, 0))).toArray 28)) := by repeat (first | exact Below.refl _ _ | with_reducible assumption | (refine bl_alloc ?_ (Nat.le_refl _) _) | (refine bl_set ?_ (by dsimp only; omega) _) | (refine Below.drew ?_) | (refine bl_drewN ?_ _) | (refine bl_call ?_ (Nat.le_refl _) (by assumption)))
  generalize w.alloc (.cells (cellsE (List.replicate N (0, 0))).toArray 28) = w1 at hB0 hb00 ⊢
  clear hmk HZ HTA HTB
  go_wp2_with fail
  go_loopw [8] (fun kv wr => ∃ I : Nat, I ≤ la ∧ kv = .int .i64 I ∧ RwK wr w.heap.size (dl ta tb I 0) ∧ Below w.heap.size w wr) (fun kv _ => la - (intOf kv).toNat)
  case atStart => exact ⟨0, Nat.zero_le _, rfl, hB0, hb00⟩
  case round =>
    clear hB0 hb00
    obtain ⟨I, hI, rfl, hR, hb00⟩ := hrel
    by_cases hIa : I < la
    · obtain ⟨x, hx⟩ : ∃ x, ta[I]? = some x := ⟨_, List.getElem?_eq_getElem (by rw [HLA.out]; exact hIa)⟩
      have HXA : Hid (ta.getD I 0 = x) := by show _ = _; rw [List.getD_eq_getElem?_getD, hx]; rfl
      have HX := Lib.hid hx
      have u1 : (0 : Int) ≤ (I : Int) := by omega
      have u3 : (I : Int) < (la : Int) := by omega
      clear hx
      go_wp2_with fail
      go_loopw [9] (fun kv wi => ∃ K : Nat, K ≤ lb ∧ kv = .int .i64 K ∧ RwK wi w.heap.size (dl ta tb I K) ∧ Below w.heap.size w wi) (fun kv _ => lb - (intOf kv).toNat)
      case atStart => exact ⟨0, Nat.zero_le _, rfl, hR, hb00⟩
      case round =>
        clear hR hb00
        obtain ⟨K, hK, rfl, hR, hb00⟩ := hrel
        by_cases hKb : K < lb
        · obtain ⟨y, hy⟩ : ∃ y, tb[K]? = some y := ⟨_, List.getElem?_eq_getElem (by rw [HLB.out]; exact hKb)⟩
          have HYB : Hid (tb.getD K 0 = y) := by show _ = _; rw [List.getD_eq_getElem?_getD, hy]; rfl
          obtain ⟨d0, d1⟩ := (HR2.out.below hb00 hbw2).kat hy
          obtain ⟨e0, e1⟩ := (HR1.out.below hb00 hbw1).kat HX.out
          obtain ⟨q, hq⟩ : ∃ q, I + K = q := ⟨_, rfl⟩
          have hqN : q < N := by omega
          obtain ⟨z, hz⟩ : ∃ z, (dl ta tb I K)[q]? = some z := ⟨_, List.getElem?_eq_getElem (by rw [HDL.out]; exact hqN)⟩
          have HZD : Hid ((dl ta tb I K).set q (z + x * y) = dl ta tb I (K + 1)) := by
            show _ = _
            rw [← hq]
            refine HNX.out I K _ hIa hKb ?_
            rw [HXA.out, HYB.out, hq, List.getD_eq_getElem?_getD, hz]
            rfl
          have HZX := Lib.hid hz
          have v1 : IntKind.i64.wrap (q : Int) = (q : Int) := IntWalk.i64_in _ (by omega)
          have v2 : (I : Int) + (K : Int) = (q : Int) := by omega
          have g1 : (0 : Int) ≤ (q : Int) := by omega
          have g3 : (q : Int) < (N : Int) := by omega
          have g4 : (0 : Int) ≤ (K : Int) := by omega
          have g5 : (K : Int) < (lb : Int) := by omega
          have l1 : b1 < wr.heap.size := Nat.lt_of_lt_of_le hbw1 hb00.size
          have l2 : b2 < wr.heap.size := Nat.lt_of_lt_of_le hbw2 hb00.size
          clear hy hz hq
          obtain ⟨c0, c1⟩ := hR.at HZX.out
          have g9 := hR.lt
          go_upto_region 11 with fail
          refine region_B (n := 22) (m := 24) (f := 22) (by kernel_rfl) (by kernel_rfl) rfl ?_
          refine WpH.takeD 0 (some 41) (v := ?_) rfl rfl (by kernel_rfl) (fun _ _ _ h => h) (.val rfl (fun wz hwz => ?_)) ?_
          rotate_left
          · go_simp; try (with_reducible rfl)
          (simp only [Act.put]); (try simp only [List.setIfInBounds_toArray]); (try simp only [List.set_cons_succ]); (try simp only [List.set_cons_zero])
          refine WpH.takeD 1 (some 42) (v := ?_) rfl rfl (by kernel_rfl) (fun _ _ _ h => h) (.val rfl (fun wz hwz => ?_)) ?_
          rotate_left
          · go_simp; try (with_reducible rfl)
          (simp only [Act.put]); (try simp only [List.setIfInBounds_toArray]); (try simp only [List.set_cons_succ]); (try simp only [List.set_cons_zero])
          refine WpH.takeD 2 (some 43) (v := ?_) rfl rfl (by kernel_rfl) (fun _ _ _ h => h) (.val rfl (fun wz hwz => ?_)) ?_
          rotate_left
          · go_simp; try (with_reducible rfl)
          (simp only [Act.put]); (try simp only [List.setIfInBounds_toArray]); (try simp only [List.set_cons_succ]); (try simp only [List.set_cons_zero])
          refine WpH.takeD 3 (some 44) (v := ?_) rfl rfl (by kernel_rfl) (fun _ _ _ h => h) (.val rfl (fun wz hwz => ?_)) ?_
          rotate_left
          · go_simp; try (with_reducible rfl)
          (simp only [Act.put]); (try simp only [List.setIfInBounds_toArray]); (try simp only [List.set_cons_succ]); (try simp only [List.set_cons_zero])
          refine WpH.takeD 4 (some 45) (v := ?_) rfl rfl (by kernel_rfl) (fun _ _ _ h => h) (.val rfl (fun wz hwz => ?_)) ?_
          rotate_left
          · go_simp; try (with_reducible rfl)
          (simp only [Act.put]); (try simp only [List.setIfInBounds_toArray]); (try simp only [List.set_cons_succ]); (try simp only [List.set_cons_zero])
          refine WpH.takeD 5 (some 46) (v := ?_) rfl rfl (by kernel_rfl) (fun _ _ _ h => h) (.val rfl (fun wz hwz => ?_)) ?_
          rotate_left
          · go_simp; try (with_reducible rfl)
          (simp only [Act.put]); (try simp only [List.setIfInBounds_toArray]); (try simp only [List.set_cons_succ]); (try simp only [List.set_cons_zero])
          refine WpH.takeD 6 (some 47) (v := ?_) rfl rfl (by kernel_rfl) (fun _ _ _ h => h) (.val rfl (fun wz hwz => ?_)) ?_
          rotate_left
          · go_simp; try (with_reducible rfl)
          (simp only [Act.put]); (try simp only [List.setIfInBounds_toArray]); (try simp only [List.set_cons_succ]); (try simp only [List.set_cons_zero])
          refine WpH.takeD 7 (some 48) (v := ?_) rfl rfl (by kernel_rfl) (fun _ _ _ h => h) (.val rfl (fun wz hwz => ?_)) ?_
          rotate_left
          · go_simp; try (with_reducible rfl)
          (simp only [Act.put]); (try simp only [List.setIfInBounds_toArray]); (try simp only [List.set_cons_succ]); (try simp only [List.set_cons_zero])
          refine WpH.takeD 8 (some 49) (v := ?_) rfl rfl (by kernel_rfl) (fun _ _ _ h => h) (.val rfl (fun wz hwz => ?_)) ?_
          rotate_left
          · go_simp; try (with_reducible rfl)
          (simp only [Act.put]); (try simp only [List.setIfInBounds_toArray]); (try simp only [List.set_cons_succ]); (try simp only [List.set_cons_zero])
          refine WpH.takeD 9 (some 50) (v := ?_) rfl rfl (by kernel_rfl) (fun _ _ _ h => h) (.val rfl (fun wz hwz => ?_)) ?_
          rotate_left
          · go_simp; try (with_reducible rfl)
          (simp only [Act.put]); (try simp only [List.setIfInBounds_toArray]); (try simp only [List.set_cons_succ]); (try simp only [List.set_cons_zero])
          refine WpH.takeD 10 (some 51) (v := ?_) rfl rfl (by kernel_rfl) (fun _ _ _ h => h) (.val rfl (fun wz hwz => ?_)) ?_
          rotate_left
          · (obtain ⟨hcz, hfz⟩ := bcell hwz; go_simp; try (with_reducible rfl))
          (simp only [Act.put]); (try simp only [List.setIfInBounds_toArray]); (try simp only [List.set_cons_succ]); (try simp only [List.set_cons_zero])
          refine WpH.takeD 11 (some 52) (v := ?_) rfl rfl (by kernel_rfl) (fun _ _ _ h => h) (.val rfl (fun wz hwz => ?_)) ?_
          rotate_left
          · go_simp; try (with_reducible rfl)
          (simp only [Act.put]); (try simp only [List.setIfInBounds_toArray]); (try simp only [List.set_cons_succ]); (try simp only [List.set_cons_zero])
          refine WpH.takeD 12 (some 53) (v := ?_) rfl rfl (by kernel_rfl) (fun _ _ _ h => h) (.val rfl (fun wz hwz => ?_)) ?_
          rotate_left
          · go_simp; try (with_reducible rfl)
          (simp only [Act.put]); (try simp only [List.setIfInBounds_toArray]); (try simp only [List.set_cons_succ]); (try simp only [List.set_cons_zero])
          refine WpH.takeD 13 (some 54) (v := ?_) rfl rfl (by kernel_rfl) (fun _ _ _ h => h) (.val rfl (fun wz hwz => ?_)) ?_
          rotate_left
          · go_simp; try (with_reducible rfl)
          (simp only [Act.put]); (try simp only [List.setIfInBounds_toArray]); (try simp only [List.set_cons_succ]); (try simp only [List.set_cons_zero])
          refine WpH.takeD 14 (some 55) (v := ?_) rfl rfl (by kernel_rfl) (fun _ _ _ h => h) (.val rfl (fun wz hwz => ?_)) ?_
          rotate_left
          · go_simp; try (with_reducible rfl)
          (simp only [Act.put]); (try simp only [List.setIfInBounds_toArray]); (try simp only [List.set_cons_succ]); (try simp only [List.set_cons_zero])
          refine WpH.takeD 15 (some 56) (v := ?_) rfl rfl (by kernel_rfl) (fun _ _ _ h => h) (.val rfl (fun wz hwz => ?_)) ?_
          rotate_left
          · (obtain ⟨hcz, hfz⟩ := bcell hwz; go_simp; try (with_reducible rfl))
          (simp only [Act.put]); (try simp only [List.setIfInBounds_toArray]); (try simp only [List.set_cons_succ]); (try simp only [List.set_cons_zero])
          refine WpH.takeD 16 (some 57) (v := ?_) rfl rfl (by kernel_rfl) (fun _ _ _ h => h) (.val rfl (fun wz hwz => ?_)) ?_
          rotate_left
          · go_simp; try (with_reducible rfl)
          (simp only [Act.put]); (try simp only [List.setIfInBounds_toArray]); (try simp only [List.set_cons_succ]); (try simp only [List.set_cons_zero])
          refine WpH.takeD 17 (some 58) (v := ?_) rfl rfl (by kernel_rfl) (fun _ _ _ h => h) (.val rfl (fun wz hwz => ?_)) ?_
          rotate_left
          · go_simp; try (with_reducible rfl)
          (simp only [Act.put]); (try simp only [List.setIfInBounds_toArray]); (try simp only [List.set_cons_succ]); (try simp only [List.set_cons_zero])
          refine WpH.takeD 18 (some 59) (v := ?_) rfl rfl (by kernel_rfl) (fun _ _ _ h => h) (.val rfl (fun wz hwz => ?_)) ?_
          rotate_left
          · go_simp; try (with_reducible rfl)
          (simp only [Act.put]); (try simp only [List.setIfInBounds_toArray]); (try simp only [List.set_cons_succ]); (try simp only [List.set_cons_zero])
          refine WpH.takeD 19 (some 60) (v := ?_) rfl rfl (by kernel_rfl) (fun _ _ _ h => h) (.val rfl (fun wz hwz => ?_)) ?_
          rotate_left
          · (obtain ⟨hcz, hfz⟩ := bcell hwz; go_simp; try (with_reducible rfl))
          (simp only [Act.put]); (try simp only [List.setIfInBounds_toArray]); (try simp only [List.set_cons_succ]); (try simp only [List.set_cons_zero])
          refine WpH.takeD 20 (some 61) rfl rfl (by kernel_rfl) (fun _ _ _ h => h) (.call rfl (fun wz hwz => HMU.out x y wz) (fun wz hwz => ?_)) ?_
          · go_simp; try (with_reducible rfl)
          (simp only [Act.put]); (try simp only [List.setIfInBounds_toArray]); (try simp only [List.set_cons_succ]); (try simp only [List.set_cons_zero])
          refine WpH.takeD 21 (some 62) rfl rfl (by kernel_rfl) (fun _ _ _ h => h) (.call rfl (fun wz hwz => HADD.out z (x * y) wz) (fun wz hwz => ?_)) ?_
          · go_simp; try (with_reducible rfl)
          (simp only [Act.put]); (try simp only [List.setIfInBounds_toArray]); (try simp only [List.set_cons_succ]); (try simp only [List.set_cons_zero])
          refine WpH.doneB (by kernel_rfl) (fun w7 hw7 => ?_)
          (try simp only [List.drop_succ_cons]); (try simp only [List.drop_zero]); (try simp only [Nat.reduceSub]); (try simp only [List.take_succ_cons]); (try simp only [List.take_zero])
          clear c0 c1 d0 d1 e0 e1 g9 l1 l2
          replace hb00 := bl_call hb00 (Nat.le_refl _) hw7
          replace hR := hR.call hw7
          clear hw7
          obtain ⟨c0, c1⟩ := hR.at HZX.out
          obtain ⟨f0, f1⟩ := hR.frz (i := q) (by rw [HDL.out]; exact hqN)
          have g9 := hR.lt
          go_wp2_with fail
          go_roundw
          case rel =>
            have h := hR.set q (by rw [HDL.out]; exact hqN) (z + x * y)
            rw [HZD.out] at h
            exact ⟨K + 1, by omega, by go_num, h, by repeat (first | exact Below.refl _ _ | with_reducible assumption | (refine bl_alloc ?_ (Nat.le_refl _) _) | (refine bl_set ?_ (by dsimp only; omega) _) | (refine Below.drew ?_) | (refine bl_drewN ?_ _) | (refine bl_call ?_ (Nat.le_refl _) (by assumption)))⟩
          case measure => simp [intOf]; omega
        · obtain hKe : K = lb := by omega
          subst hKe
          rw [HRO.out] at hR
          go_wp2_with fail
          go_roundw
          case rel => exact ⟨I + 1, by omega, by go_num, hR, hb00⟩
          case measure => simp [intOf]; omega
    · obtain hIe : I = la := by omega
      subst hIe
      rw [HEN.out] at hR
      have ss := hR.sl HPL.out (Nat.le_refl _) (by omega)
      rw [← HPL.out] at ss
      have HT := Lib.hid (ref_Trim _ _ (prodL ta tb) wr ss (by rw [HPL.out]; omega))
      have hss := ss.takeK (trim_le (prodL ta tb))
      rw [← trim_take, HTR.out] at hss
      rw [HTR.out, HPL.out] at HT
      rw [HPL.out] at hss
      have HSS := Lib.hid hss
      clear ss hss hR HTR
      go_wp2_with fail
      refine HT.out.mono ?_
      rintro e w' ⟨rfl, rfl⟩
      go_wp2_with fail
      go_ret
      exact ⟨(some ⟨w.heap.size, 0, none⟩, N), rfl, HSS.out, hb00⟩

set_option maxHeartbeats 8000000 in
theorem ref_Sum (va vb : Value) (a b : KL f) (w : World) (ha : SlK w w.heap.size va a) (hb : SlK w w.heap.size vb b) (hal : a.length ≤ 400000) (hbl : b.length ≤ 400000) :
    Calls Tryd.prog 35 #[.int .i64 f, va, vb] w (RetSq (padd a b) w) := by
  have hfb0 : (1 : Int) ≤ (f : Int) := by rcases hf.or with rfl | rfl <;> omega
  have hfb1 : (f : Int) ≤ 2 := by rcases hf.or with rfl | rfl <;> omega
  have HADD := Lib.hid (fun x y wz => ref_AddK hf x y wz)
  obtain ⟨A, ca, rfl, _, _, hA⟩ := ha
  obtain ⟨B, cb, rfl, _, _, hB⟩ := hb
  obtain ⟨N, hN⟩ : ∃ N, max a.length b.length = N := ⟨_, rfl⟩
  have hNa : a.length ≤ N := by omega
  have hNb : b.length ≤ N := by omega
  have hNm : N ≤ 400000 := by omega
  have hNor : ∀ k, k < N → k < a.length ∨ k < b.length := fun k hk => by omega
  have HNO := Lib.hid hNor
  have hNN : ¬ (N < a.length) ∧ ¬ (N < b.length) := by omega
  have HSL : Hid (∀ k, (ofF k fun i => a.getD i 0 + b.getD i 0).length = k) := fun k => ofF_length ..
  have HSN : Hid (∀ k, (ofF (k + 1) fun i => a.getD i 0 + b.getD i 0) = (ofF k fun i => a.getD i 0 + b.getD i 0) ++ [a.getD k 0 + b.getD k 0]) := fun k => by
    unfold ofF
    rw [List.range_succ, List.map_append]
    rfl
  have HEND : Hid (trim (ofF N fun i => a.getD i 0 + b.getD i 0) = padd a b) := by show _ = _; unfold padd; rw [hN]
  have HA := Lib.hid hA
  have HB := Lib.hid hB
  clear hA hB hN hNor
  have hb00 : Below w.heap.size w w := Below.refl _ _
  go_enter Tryd.func35, Tryd.ntmps35
  go_wp2
  go_loopw [7, 8] (fun vr iv wr => ∃ (k : Nat) (D : Option Addr) (cp : Nat), k ≤ N ∧ iv = .int .i64 k ∧ vr = .slice D k cp ∧ wr.ownsRow w.heap.size 28 2 (.slice D k cp) k (cellsE (esK (ofF k fun i => a.getD i 0 + b.getD i 0))) ∧ Below w.heap.size w wr) (fun _ iv _ => N - (intOf iv).toNat)
  case atStart => exact ⟨0, none, 0, Nat.zero_le _, rfl, rfl, World.ownsRow_nil _ _ _ _, hb00⟩
  case round =>
    clear hb00
    obtain ⟨k, D, cp, hk, rfl, rfl, hown, hb00⟩ := hrel
    have hsz := hb00.size
    by_cases hkN : k < N
    · have g1 : (0 : Int) ≤ (k : Int) := by omega
      have hkor := HNO.out k hkN
      have HK := Lib.hid hkor
      clear hkor
      by_cases hka : k < a.length
      · by_cases hkb : k < b.length
        · skip
          have HNQ0 : Hid (∀ q, (Value.slice D k cp).ownBlock = some q → q < wr.heap.size) := fun q hq => (hown.lt q hq).2
          go_upto_region 6 with fail
          have x0 := V2.new wr (.int .u64 0) (.int .u64 0) 28
          have hbA : Below wr.heap.size wr (wr.alloc (.cells #[.int .u64 0, .int .u64 0] 28)) := by repeat (first | exact Below.refl _ _ | with_reducible assumption | (refine bl_alloc ?_ (Nat.le_refl _) _))
          replace hb00 := bl_call hb00 (Nat.le_refl _) hbA
          replace hown := own_call hown hbA
          clear hbA
          generalize wr.alloc (.cells #[.int .u64 0, .int .u64 0] 28) = w3 at hb00 hown x0 ⊢
          have HNQ : Hid (∀ q, (Value.slice D k cp).ownBlock = some q → q ≠ wr.heap.size) := fun q hq => by have := (HNQ0.out q hq); omega
          obtain ⟨xb, hxb⟩ : ∃ z, wr.heap.size = z := ⟨_, rfl⟩
          rw [hxb] at x0 hsz HNQ
          simp only [hxb]
          have hx3 : xb < w3.heap.size := x0.lt
          clear hxb
          obtain ⟨b1, o1, hAe, hbw1, hrow1⟩ := HA.out (by omega)
          obtain ⟨z, hz⟩ : ∃ z, a[k]? = some z := ⟨_, List.getElem?_eq_getElem hka⟩
          have HXA : Hid (a.getD k 0 = z) := by show _ = _; rw [List.getD_eq_getElem?_getD, hz]; rfl
          obtain ⟨d0, d1⟩ := (hrow1.below hb00 hbw1).kat hz
          have g6 : (k : Int) < (a.length : Int) := by omega
          have l1 : b1 < w3.heap.size := Nat.lt_of_lt_of_le hbw1 hb00.size
          subst hAe
          clear hz hrow1
          go_upto_region 7 with fail
          obtain ⟨x00, x01, x02, x03, x04⟩ := V2.mk x0.c0 x0.c1 x0.f0 x0.f1 x0.lt
          have HAD0 : Hid (∀ wz, Calls Tryd.prog 67 #[.int .i64 f, .agg #[.int .u64 0, .int .u64 0], vK z] wz (RetK z wz)) := fun wz => by
            have h := HADD.out 0 z wz
            rwa [vK_zero, show 0 + z = z by grind] at h
          refine region_B (n := 7) (m := 8) (f := 7) (by kernel_rfl) (by kernel_rfl) rfl ?_
          refine WpH.takeD 0 (some 26) (v := ?_) rfl rfl (by kernel_rfl) (fun _ _ _ h => h) (.val rfl (fun wz hwz => ?_)) ?_
          rotate_left
          · go_simp; try (with_reducible rfl)
          (simp only [Act.put]); (try simp only [List.setIfInBounds_toArray]); (try simp only [List.set_cons_succ]); (try simp only [List.set_cons_zero])
          refine WpH.takeD 1 (some 27) (v := ?_) rfl rfl (by kernel_rfl) (fun _ _ _ h => h) (.val rfl (fun wz hwz => ?_)) ?_
          rotate_left
          · (obtain ⟨hcz, hfz⟩ := bcell hwz; go_simp; try (with_reducible rfl))
          (simp only [Act.put]); (try simp only [List.setIfInBounds_toArray]); (try simp only [List.set_cons_succ]); (try simp only [List.set_cons_zero])
          refine WpH.takeD 2 (some 28) (v := ?_) rfl rfl (by kernel_rfl) (fun _ _ _ h => h) (.val rfl (fun wz hwz => ?_)) ?_
          rotate_left
          · go_simp; try (with_reducible rfl)
          (simp only [Act.put]); (try simp only [List.setIfInBounds_toArray]); (try simp only [List.set_cons_succ]); (try simp only [List.set_cons_zero])
          refine WpH.takeD 3 (some 29) (v := ?_) rfl rfl (by kernel_rfl) (fun _ _ _ h => h) (.val rfl (fun wz hwz => ?_)) ?_
          rotate_left
          · go_simp; try (with_reducible rfl)
          (simp only [Act.put]); (try simp only [List.setIfInBounds_toArray]); (try simp only [List.set_cons_succ]); (try simp only [List.set_cons_zero])
          refine WpH.takeD 4 (some 30) (v := ?_) rfl rfl (by kernel_rfl) (fun _ _ _ h => h) (.val rfl (fun wz hwz => ?_)) ?_
          rotate_left
          · go_simp; try (with_reducible rfl)
          (simp only [Act.put]); (try simp only [List.setIfInBounds_toArray]); (try simp only [List.set_cons_succ]); (try simp only [List.set_cons_zero])
          refine WpH.takeD 5 (some 31) (v := ?_) rfl rfl (by kernel_rfl) (fun _ _ _ h => h) (.val rfl (fun wz hwz => ?_)) ?_
          rotate_left
          · (obtain ⟨hcz, hfz⟩ := bcell hwz; go_simp; try (with_reducible rfl))
          (simp only [Act.put]); (try simp only [List.setIfInBounds_toArray]); (try simp only [List.set_cons_succ]); (try simp only [List.set_cons_zero])
          refine WpH.takeD 6 (some 32) rfl rfl (by kernel_rfl) (fun _ _ _ h => h) (.call rfl (fun wz hwz => HAD0.out wz) (fun wz hwz => ?_)) ?_
          · go_simp; try (with_reducible rfl)
          (simp only [Act.put]); (try simp only [List.setIfInBounds_toArray]); (try simp only [List.set_cons_succ]); (try simp only [List.set_cons_zero])
          refine WpH.doneB (by kernel_rfl) (fun w5 hw5 => ?_)
          (try simp only [List.drop_succ_cons]); (try simp only [List.drop_zero]); (try simp only [Nat.reduceSub]); (try simp only [List.take_succ_cons]); (try simp only [List.take_zero])
          clear x00 x01 x02 x03 x04
          clear d0 d1 l1
          replace hb00 := bl_call hb00 (Nat.le_refl _) hw5
          replace hown := own_call hown hw5
          replace x0 := x0.call hw5
          clear hw5
          obtain ⟨x00, x01, x02, x03, x04⟩ := V2.mk x0.c0 x0.c1 x0.f0 x0.f1 x0.lt
          go_upto_region 8 with fail
          clear x00 x01 x02 x03 x04
          replace hown := own_stb hown (b := xb) HNQ.out (.int .u64 (lo z)) (.int .u64 (hi z))
          replace hb00 := bl_st hb00 (b := xb) (by omega) (.int .u64 (lo z)) (.int .u64 (hi z))
          replace x0 : V2 ((w5.setCell ⟨xb, 0, none⟩ (.int .u64 (lo z))).setCell ⟨xb, 1, none⟩ (.int .u64 (hi z))) xb (.int .u64 (lo z)) (.int .u64 (hi z)) := V2.set x0 _ _
          generalize (w5.setCell ⟨xb, 0, none⟩ (.int .u64 (lo z))).setCell ⟨xb, 1, none⟩ (.int .u64 (hi z)) = w6 at hown hb00 x0 ⊢
          obtain ⟨b2, o2, hBe, hbw2, hrow2⟩ := HB.out (by omega)
          obtain ⟨y, hy⟩ : ∃ y, b[k]? = some y := ⟨_, List.getElem?_eq_getElem hkb⟩
          have HYB : Hid (b.getD k 0 = y) := by show _ = _; rw [List.getD_eq_getElem?_getD, hy]; rfl
          obtain ⟨d0, d1⟩ := (hrow2.below hb00 hbw2).kat hy
          have g7 : (k : Int) < (b.length : Int) := by omega
          have l1 : b2 < w6.heap.size := Nat.lt_of_lt_of_le hbw2 hb00.size
          have hx3 : xb < w6.heap.size := x0.lt
          subst hBe
          clear hy hrow2
          go_upto_region 9 with fail
          obtain ⟨x00, x01, x02, x03, x04⟩ := V2.mk x0.c0 x0.c1 x0.f0 x0.f1 x0.lt
          obtain ⟨u, hu⟩ : ∃ u, z + y = u := ⟨_, rfl⟩
          have HU := Lib.hid hu
          have HAD2 : Hid (∀ wz, Calls Tryd.prog 67 #[.int .i64 f, vK z, vK y] wz (RetK u wz)) := fun wz => by
            have h := HADD.out z y wz
            rw [hu] at h
            exact h
          clear hu
          refine region_B (n := 7) (m := 8) (f := 7) (by kernel_rfl) (by kernel_rfl) rfl ?_
          refine WpH.takeD 0 (some 37) (v := ?_) rfl rfl (by kernel_rfl) (fun _ _ _ h => h) (.val rfl (fun wz hwz => ?_)) ?_
          rotate_left
          · go_simp; try (with_reducible rfl)
          (simp only [Act.put]); (try simp only [List.setIfInBounds_toArray]); (try simp only [List.set_cons_succ]); (try simp only [List.set_cons_zero])
          refine WpH.takeD 1 (some 38) (v := ?_) rfl rfl (by kernel_rfl) (fun _ _ _ h => h) (.val rfl (fun wz hwz => ?_)) ?_
          rotate_left
          · (obtain ⟨hcz, hfz⟩ := bcell hwz; go_simp; try (with_reducible rfl))
          (simp only [Act.put]); (try simp only [List.setIfInBounds_toArray]); (try simp only [List.set_cons_succ]); (try simp only [List.set_cons_zero])
          refine WpH.takeD 2 (some 39) (v := ?_) rfl rfl (by kernel_rfl) (fun _ _ _ h => h) (.val rfl (fun wz hwz => ?_)) ?_
          rotate_left
          · go_simp; try (with_reducible rfl)
          (simp only [Act.put]); (try simp only [List.setIfInBounds_toArray]); (try simp only [List.set_cons_succ]); (try simp only [List.set_cons_zero])
          refine WpH.takeD 3 (some 40) (v := ?_) rfl rfl (by kernel_rfl) (fun _ _ _ h => h) (.val rfl (fun wz hwz => ?_)) ?_
          rotate_left
          · go_simp; try (with_reducible rfl)
          (simp only [Act.put]); (try simp only [List.setIfInBounds_toArray]); (try simp only [List.set_cons_succ]); (try simp only [List.set_cons_zero])
          refine WpH.takeD 4 (some 41) (v := ?_) rfl rfl (by kernel_rfl) (fun _ _ _ h => h) (.val rfl (fun wz hwz => ?_)) ?_
          rotate_left
          · go_simp; try (with_reducible rfl)
          (simp only [Act.put]); (try simp only [List.setIfInBounds_toArray]); (try simp only [List.set_cons_succ]); (try simp only [List.set_cons_zero])
          refine WpH.takeD 5 (some 42) (v := ?_) rfl rfl (by kernel_rfl) (fun _ _ _ h => h) (.val rfl (fun wz hwz => ?_)) ?_
          rotate_left
          · (obtain ⟨hcz, hfz⟩ := bcell hwz; go_simp; try (with_reducible rfl))
          (simp only [Act.put]); (try simp only [List.setIfInBounds_toArray]); (try simp only [List.set_cons_succ]); (try simp only [List.set_cons_zero])
          refine WpH.takeD 6 (some 43) rfl rfl (by kernel_rfl) (fun _ _ _ h => h) (.call rfl (fun wz hwz => HAD2.out wz) (fun wz hwz => ?_)) ?_
          · go_simp; try (with_reducible rfl)
          (simp only [Act.put]); (try simp only [List.setIfInBounds_toArray]); (try simp only [List.set_cons_succ]); (try simp only [List.set_cons_zero])
          refine WpH.doneB (by kernel_rfl) (fun w7 hw7 => ?_)
          (try simp only [List.drop_succ_cons]); (try simp only [List.drop_zero]); (try simp only [Nat.reduceSub]); (try simp only [List.take_succ_cons]); (try simp only [List.take_zero])
          clear x00 x01 x02 x03 x04
          clear d0 d1 l1
          replace hb00 := bl_call hb00 (Nat.le_refl _) hw7
          replace hown := own_call hown hw7
          replace x0 := x0.call hw7
          clear hw7
          obtain ⟨x00, x01, x02, x03, x04⟩ := V2.mk x0.c0 x0.c1 x0.f0 x0.f1 x0.lt
          go_upto_region 10 with fail
          clear x00 x01 x02 x03 x04
          replace hown := own_stb hown (b := xb) HNQ.out (.int .u64 (lo u)) (.int .u64 (hi u))
          replace hb00 := bl_st hb00 (b := xb) (by omega) (.int .u64 (lo u)) (.int .u64 (hi u))
          replace x0 : V2 ((w7.setCell ⟨xb, 0, none⟩ (.int .u64 (lo u))).setCell ⟨xb, 1, none⟩ (.int .u64 (hi u))) xb (.int .u64 (lo u)) (.int .u64 (hi u)) := V2.set x0 _ _
          generalize (w7.setCell ⟨xb, 0, none⟩ (.int .u64 (lo u))).setCell ⟨xb, 1, none⟩ (.int .u64 (hi u)) = w8 at hown hb00 x0 ⊢
          have HY : Hid (a.getD k 0 + b.getD k 0 = u) := by show _ = _; rw [HXA.out, HYB.out, HU.out]
          clear HNQ HNQ0 HU HXA HYB HAD2 HAD0 HK
          have hbA : Below w8.heap.size w8 (w8.alloc (.cells #[.int .u64 (lo u), .int .u64 (hi u)] 28)) := (Below.refl _ _).alloc (Nat.le_refl _) _
          have hE := BlkE.new w8 [eK u] #[.int .u64 (lo u), .int .u64 (hi u)] rfl
          have HOW := Lib.hid (own_call hown hbA)
          have HR1 := Lib.hid (show 0 < 1 → ∃ b o, (some ⟨w8.heap.size, 0, none⟩ : Option Addr) = some ⟨b, o, none⟩ ∧ RowE (w8.alloc (.cells #[.int .u64 (lo u), .int .u64 (hi u)] 28)) b o [eK u] from fun _ => ⟨_, _, rfl, hE.rowE⟩)
          have hk1 : k + 1 ≤ 1099511627776 := by omega
          have hbase : w.heap.size ≤ (w8.alloc (.cells #[.int .u64 (lo u), .int .u64 (hi u)] 28)).heap.size := by rw [World.size_alloc]; have := hb00.size; omega
          clear hown hE hbA
          obtain ⟨x00, x01, x02, x03, x04⟩ := V2.mk x0.c0 x0.c1 x0.f0 x0.f1 x0.lt
          go_upto_region 4 with (at_builtin; (refine wpList_append_E rfl (.tmp 44) (.tmp 46) rfl w.heap.size _ k (esK (ofF k fun i => a.getD i 0 + b.getD i 0)) rfl HOW.out (some ⟨w8.heap.size, 0, none⟩) 1 1 [eK u] rfl rfl HR1.out hk1 hbase ?_; intro v2 w2 hown2 hg2 hat2; have hb2 : Below w.heap.size w w2 := (hb00.trans ((Below.refl _ _).alloc hb00.size _)).trans ((Below.refl _ _).grown hg2 hbase (fun q hq => (HOW.out.lt q hq).1)); obtain ⟨g2, cap2, hv2⟩ := own_slice hown2; rw [hv2]))
          rw [hv2, show esK (ofF k fun i => a.getD i 0 + b.getD i 0) ++ [eK u] = esK (ofF (k + 1) fun i => a.getD i 0 + b.getD i 0) by rw [HSN.out, esK_append, HY.out]; rfl] at hown2
          clear HOW HR1 hg2 hat2 hbase x0 x00 x01 x02 x03 x04
          go_wp2_with fail
          go_roundw
          case rel => exact ⟨k + 1, _, cap2, by omega, by go_num, rfl, hown2, hb2⟩
          case measure => simp [intOf]; omega
        · skip
          have HNQ0 : Hid (∀ q, (Value.slice D k cp).ownBlock = some q → q < wr.heap.size) := fun q hq => (hown.lt q hq).2
          go_upto_region 6 with fail
          have x0 := V2.new wr (.int .u64 0) (.int .u64 0) 28
          have hbA : Below wr.heap.size wr (wr.alloc (.cells #[.int .u64 0, .int .u64 0] 28)) := by repeat (first | exact Below.refl _ _ | with_reducible assumption | (refine bl_alloc ?_ (Nat.le_refl _) _))
          replace hb00 := bl_call hb00 (Nat.le_refl _) hbA
          replace hown := own_call hown hbA
          clear hbA
          generalize wr.alloc (.cells #[.int .u64 0, .int .u64 0] 28) = w3 at hb00 hown x0 ⊢
          have HNQ : Hid (∀ q, (Value.slice D k cp).ownBlock = some q → q ≠ wr.heap.size) := fun q hq => by have := (HNQ0.out q hq); omega
          obtain ⟨xb, hxb⟩ : ∃ z, wr.heap.size = z := ⟨_, rfl⟩
          rw [hxb] at x0 hsz HNQ
          simp only [hxb]
          have hx3 : xb < w3.heap.size := x0.lt
          clear hxb
          obtain ⟨b1, o1, hAe, hbw1, hrow1⟩ := HA.out (by omega)
          obtain ⟨z, hz⟩ : ∃ z, a[k]? = some z := ⟨_, List.getElem?_eq_getElem hka⟩
          have HXA : Hid (a.getD k 0 = z) := by show _ = _; rw [List.getD_eq_getElem?_getD, hz]; rfl
          obtain ⟨d0, d1⟩ := (hrow1.below hb00 hbw1).kat hz
          have g6 : (k : Int) < (a.length : Int) := by omega
          have l1 : b1 < w3.heap.size := Nat.lt_of_lt_of_le hbw1 hb00.size
          subst hAe
          clear hz hrow1
          go_upto_region 7 with fail
          obtain ⟨x00, x01, x02, x03, x04⟩ := V2.mk x0.c0 x0.c1 x0.f0 x0.f1 x0.lt
          have HAD0 : Hid (∀ wz, Calls Tryd.prog 67 #[.int .i64 f, .agg #[.int .u64 0, .int .u64 0], vK z] wz (RetK z wz)) := fun wz => by
            have h := HADD.out 0 z wz
            rwa [vK_zero, show 0 + z = z by grind] at h
          refine region_B (n := 7) (m := 8) (f := 7) (by kernel_rfl) (by kernel_rfl) rfl ?_
          refine WpH.takeD 0 (some 26) (v := ?_) rfl rfl (by kernel_rfl) (fun _ _ _ h => h) (.val rfl (fun wz hwz => ?_)) ?_
          rotate_left
          · go_simp; try (with_reducible rfl)
          (simp only [Act.put]); (try simp only [List.setIfInBounds_toArray]); (try simp only [List.set_cons_succ]); (try simp only [List.set_cons_zero])
          refine WpH.takeD 1 (some 27) (v := ?_) rfl rfl (by kernel_rfl) (fun _ _ _ h => h) (.val rfl (fun wz hwz => ?_)) ?_
          rotate_left
          · (obtain ⟨hcz, hfz⟩ := bcell hwz; go_simp; try (with_reducible rfl))
          (simp only [Act.put]); (try simp only [List.setIfInBounds_toArray]); (try simp only [List.set_cons_succ]); (try simp only [List.set_cons_zero])
          refine WpH.takeD 2 (some 28) (v := ?_) rfl rfl (by kernel_rfl) (fun _ _ _ h => h) (.val rfl (fun wz hwz => ?_)) ?_
          rotate_left
          · go_simp; try (with_reducible rfl)
          (simp only [Act.put]); (try simp only [List.setIfInBounds_toArray]); (try simp only [List.set_cons_succ]); (try simp only [List.set_cons_zero])
          refine WpH.takeD 3 (some 29) (v := ?_) rfl rfl (by kernel_rfl) (fun _ _ _ h => h) (.val rfl (fun wz hwz => ?_)) ?_
          rotate_left
          · go_simp; try (with_reducible rfl)
          (simp only [Act.put]); (try simp only [List.setIfInBounds_toArray]); (try simp only [List.set_cons_succ]); (try simp only [List.set_cons_zero])
          refine WpH.takeD 4 (some 30) (v := ?_) rfl rfl (by kernel_rfl) (fun _ _ _ h => h) (.val rfl (fun wz hwz => ?_)) ?_
          rotate_left
          · go_simp; try (with_reducible rfl)
          (simp only [Act.put]); (try simp only [List.setIfInBounds_toArray]); (try simp only [List.set_cons_succ]); (try simp only [List.set_cons_zero])
          refine WpH.takeD 5 (some 31) (v := ?_) rfl rfl (by kernel_rfl) (fun _ _ _ h => h) (.val rfl (fun wz hwz => ?_)) ?_
          rotate_left
          · (obtain ⟨hcz, hfz⟩ := bcell hwz; go_simp; try (with_reducible rfl))
          (simp only [Act.put]); (try simp only [List.setIfInBounds_toArray]); (try simp only [List.set_cons_succ]); (try simp only [List.set_cons_zero])
          refine WpH.takeD 6 (some 32) rfl rfl (by kernel_rfl) (fun _ _ _ h => h) (.call rfl (fun wz hwz => HAD0.out wz) (fun wz hwz => ?_)) ?_
          · go_simp; try (with_reducible rfl)
          (simp only [Act.put]); (try simp only [List.setIfInBounds_toArray]); (try simp only [List.set_cons_succ]); (try simp only [List.set_cons_zero])
          refine WpH.doneB (by kernel_rfl) (fun w5 hw5 => ?_)
          (try simp only [List.drop_succ_cons]); (try simp only [List.drop_zero]); (try simp only [Nat.reduceSub]); (try simp only [List.take_succ_cons]); (try simp only [List.take_zero])
          clear x00 x01 x02 x03 x04
          clear d0 d1 l1
          replace hb00 := bl_call hb00 (Nat.le_refl _) hw5
          replace hown := own_call hown hw5
          replace x0 := x0.call hw5
          clear hw5
          obtain ⟨x00, x01, x02, x03, x04⟩ := V2.mk x0.c0 x0.c1 x0.f0 x0.f1 x0.lt
          go_upto_region 8 with fail
          clear x00 x01 x02 x03 x04
          replace hown := own_stb hown (b := xb) HNQ.out (.int .u64 (lo z)) (.int .u64 (hi z))
          replace hb00 := bl_st hb00 (b := xb) (by omega) (.int .u64 (lo z)) (.int .u64 (hi z))
          replace x0 : V2 ((w5.setCell ⟨xb, 0, none⟩ (.int .u64 (lo z))).setCell ⟨xb, 1, none⟩ (.int .u64 (hi z))) xb (.int .u64 (lo z)) (.int .u64 (hi z)) := V2.set x0 _ _
          generalize (w5.setCell ⟨xb, 0, none⟩ (.int .u64 (lo z))).setCell ⟨xb, 1, none⟩ (.int .u64 (hi z)) = w6 at hown hb00 x0 ⊢
          go_upto_region 10 with fail
          have HY : Hid (a.getD k 0 + b.getD k 0 = z) := by show _ = _; rw [HXA.out, getD_out (by omega)]; grind
          clear HNQ HNQ0 HXA HAD0 HK
          have hbA : Below w6.heap.size w6 (w6.alloc (.cells #[.int .u64 (lo z), .int .u64 (hi z)] 28)) := (Below.refl _ _).alloc (Nat.le_refl _) _
          have hE := BlkE.new w6 [eK z] #[.int .u64 (lo z), .int .u64 (hi z)] rfl
          have HOW := Lib.hid (own_call hown hbA)
          have HR1 := Lib.hid (show 0 < 1 → ∃ b o, (some ⟨w6.heap.size, 0, none⟩ : Option Addr) = some ⟨b, o, none⟩ ∧ RowE (w6.alloc (.cells #[.int .u64 (lo z), .int .u64 (hi z)] 28)) b o [eK z] from fun _ => ⟨_, _, rfl, hE.rowE⟩)
          have hk1 : k + 1 ≤ 1099511627776 := by omega
          have hbase : w.heap.size ≤ (w6.alloc (.cells #[.int .u64 (lo z), .int .u64 (hi z)] 28)).heap.size := by rw [World.size_alloc]; have := hb00.size; omega
          clear hown hE hbA
          obtain ⟨x00, x01, x02, x03, x04⟩ := V2.mk x0.c0 x0.c1 x0.f0 x0.f1 x0.lt
          go_upto_region 4 with (at_builtin; (refine wpList_append_E rfl (.tmp 44) (.tmp 46) rfl w.heap.size _ k (esK (ofF k fun i => a.getD i 0 + b.getD i 0)) rfl HOW.out (some ⟨w6.heap.size, 0, none⟩) 1 1 [eK z] rfl rfl HR1.out hk1 hbase ?_; intro v2 w2 hown2 hg2 hat2; have hb2 : Below w.heap.size w w2 := (hb00.trans ((Below.refl _ _).alloc hb00.size _)).trans ((Below.refl _ _).grown hg2 hbase (fun q hq => (HOW.out.lt q hq).1)); obtain ⟨g2, cap2, hv2⟩ := own_slice hown2; rw [hv2]))
          rw [hv2, show esK (ofF k fun i => a.getD i 0 + b.getD i 0) ++ [eK z] = esK (ofF (k + 1) fun i => a.getD i 0 + b.getD i 0) by rw [HSN.out, esK_append, HY.out]; rfl] at hown2
          clear HOW HR1 hg2 hat2 hbase x0 x00 x01 x02 x03 x04
          go_wp2_with fail
          go_roundw
          case rel => exact ⟨k + 1, _, cap2, by omega, by go_num, rfl, hown2, hb2⟩
          case measure => simp [intOf]; omega
      · have hkb : k < b.length := by rcases HK.out with h | h <;> omega
        have HNQ0 : Hid (∀ q, (Value.slice D k cp).ownBlock = some q → q < wr.heap.size) := fun q hq => (hown.lt q hq).2
        go_upto_region 6 with fail
        have x0 := V2.new wr (.int .u64 0) (.int .u64 0) 28
        have hbA : Below wr.heap.size wr (wr.alloc (.cells #[.int .u64 0, .int .u64 0] 28)) := by repeat (first | exact Below.refl _ _ | with_reducible assumption | (refine bl_alloc ?_ (Nat.le_refl _) _))
        replace hb00 := bl_call hb00 (Nat.le_refl _) hbA
        replace hown := own_call hown hbA
        clear hbA
        generalize wr.alloc (.cells #[.int .u64 0, .int .u64 0] 28) = w3 at hb00 hown x0 ⊢
        have HNQ : Hid (∀ q, (Value.slice D k cp).ownBlock = some q → q ≠ wr.heap.size) := fun q hq => by have := (HNQ0.out q hq); omega
        obtain ⟨xb, hxb⟩ : ∃ z, wr.heap.size = z := ⟨_, rfl⟩
        rw [hxb] at x0 hsz HNQ
        simp only [hxb]
        have hx3 : xb < w3.heap.size := x0.lt
        clear hxb
        go_upto_region 8 with fail
        obtain ⟨b2, o2, hBe, hbw2, hrow2⟩ := HB.out (by omega)
        obtain ⟨y, hy⟩ : ∃ y, b[k]? = some y := ⟨_, List.getElem?_eq_getElem hkb⟩
        have HYB : Hid (b.getD k 0 = y) := by show _ = _; rw [List.getD_eq_getElem?_getD, hy]; rfl
        obtain ⟨d0, d1⟩ := (hrow2.below hb00 hbw2).kat hy
        have g7 : (k : Int) < (b.length : Int) := by omega
        have l1 : b2 < w3.heap.size := Nat.lt_of_lt_of_le hbw2 hb00.size
        have hx3 : xb < w3.heap.size := x0.lt
        subst hBe
        clear hy hrow2
        go_upto_region 9 with fail
        obtain ⟨x00, x01, x02, x03, x04⟩ := V2.mk x0.c0 x0.c1 x0.f0 x0.f1 x0.lt
        obtain ⟨u, hu⟩ : ∃ u, (0 : Fin (Pm f)) + y = u := ⟨_, rfl⟩
        have HU := Lib.hid hu
        have HAD2 : Hid (∀ wz, Calls Tryd.prog 67 #[.int .i64 f, .agg #[.int .u64 0, .int .u64 0], vK y] wz (RetK u wz)) := fun wz => by
          have h := HADD.out (0 : Fin (Pm f)) y wz
          rw [hu] at h
          rwa [vK_zero] at h
        clear hu
        refine region_B (n := 7) (m := 8) (f := 7) (by kernel_rfl) (by kernel_rfl) rfl ?_
        refine WpH.takeD 0 (some 37) (v := ?_) rfl rfl (by kernel_rfl) (fun _ _ _ h => h) (.val rfl (fun wz hwz => ?_)) ?_
        rotate_left
        · go_simp; try (with_reducible rfl)
        (simp only [Act.put]); (try simp only [List.setIfInBounds_toArray]); (try simp only [List.set_cons_succ]); (try simp only [List.set_cons_zero])
        refine WpH.takeD 1 (some 38) (v := ?_) rfl rfl (by kernel_rfl) (fun _ _ _ h => h) (.val rfl (fun wz hwz => ?_)) ?_
        rotate_left
        · (obtain ⟨hcz, hfz⟩ := bcell hwz; go_simp; try (with_reducible rfl))
        (simp only [Act.put]); (try simp only [List.setIfInBounds_toArray]); (try simp only [List.set_cons_succ]); (try simp only [List.set_cons_zero])
        refine WpH.takeD 2 (some 39) (v := ?_) rfl rfl (by kernel_rfl) (fun _ _ _ h => h) (.val rfl (fun wz hwz => ?_)) ?_
        rotate_left
        · go_simp; try (with_reducible rfl)
        (simp only [Act.put]); (try simp only [List.setIfInBounds_toArray]); (try simp only [List.set_cons_succ]); (try simp only [List.set_cons_zero])
        refine WpH.takeD 3 (some 40) (v := ?_) rfl rfl (by kernel_rfl) (fun _ _ _ h => h) (.val rfl (fun wz hwz => ?_)) ?_
        rotate_left
        · go_simp; try (with_reducible rfl)
        (simp only [Act.put]); (try simp only [List.setIfInBounds_toArray]); (try simp only [List.set_cons_succ]); (try simp only [List.set_cons_zero])
        refine WpH.takeD 4 (some 41) (v := ?_) rfl rfl (by kernel_rfl) (fun _ _ _ h => h) (.val rfl (fun wz hwz => ?_)) ?_
        rotate_left
        · go_simp; try (with_reducible rfl)
        (simp only [Act.put]); (try simp only [List.setIfInBounds_toArray]); (try simp only [List.set_cons_succ]); (try simp only [List.set_cons_zero])
        refine WpH.takeD 5 (some 42) (v := ?_) rfl rfl (by kernel_rfl) (fun _ _ _ h => h) (.val rfl (fun wz hwz => ?_)) ?_
        rotate_left
        · (obtain ⟨hcz, hfz⟩ := bcell hwz; go_simp; try (with_reducible rfl))
        (simp only [Act.put]); (try simp only [List.setIfInBounds_toArray]); (try simp only [List.set_cons_succ]); (try simp only [List.set_cons_zero])
        refine WpH.takeD 6 (some 43) rfl rfl (by kernel_rfl) (fun _ _ _ h => h) (.call rfl (fun wz hwz => HAD2.out wz) (fun wz hwz => ?_)) ?_
        · go_simp; try (with_reducible rfl)
        (simp only [Act.put]); (try simp only [List.setIfInBounds_toArray]); (try simp only [List.set_cons_succ]); (try simp only [List.set_cons_zero])
        refine WpH.doneB (by kernel_rfl) (fun w7 hw7 => ?_)
        (try simp only [List.drop_succ_cons]); (try simp only [List.drop_zero]); (try simp only [Nat.reduceSub]); (try simp only [List.take_succ_cons]); (try simp only [List.take_zero])
        clear x00 x01 x02 x03 x04
        clear d0 d1 l1
        replace hb00 := bl_call hb00 (Nat.le_refl _) hw7
        replace hown := own_call hown hw7
        replace x0 := x0.call hw7
        clear hw7
        obtain ⟨x00, x01, x02, x03, x04⟩ := V2.mk x0.c0 x0.c1 x0.f0 x0.f1 x0.lt
        go_upto_region 10 with fail
        clear x00 x01 x02 x03 x04
        replace hown := own_stb hown (b := xb) HNQ.out (.int .u64 (lo u)) (.int .u64 (hi u))
        replace hb00 := bl_st hb00 (b := xb) (by omega) (.int .u64 (lo u)) (.int .u64 (hi u))
        replace x0 : V2 ((w7.setCell ⟨xb, 0, none⟩ (.int .u64 (lo u))).setCell ⟨xb, 1, none⟩ (.int .u64 (hi u))) xb (.int .u64 (lo u)) (.int .u64 (hi u)) := V2.set x0 _ _
        generalize (w7.setCell ⟨xb, 0, none⟩ (.int .u64 (lo u))).setCell ⟨xb, 1, none⟩ (.int .u64 (hi u)) = w8 at hown hb00 x0 ⊢
        have HY : Hid (a.getD k 0 + b.getD k 0 = u) := by show _ = _; rw [HYB.out, ← HU.out, getD_out (by omega)]
        clear HNQ HNQ0 HU HYB HAD2 HK
        have hbA : Below w8.heap.size w8 (w8.alloc (.cells #[.int .u64 (lo u), .int .u64 (hi u)] 28)) := (Below.refl _ _).alloc (Nat.le_refl _) _
        have hE := BlkE.new w8 [eK u] #[.int .u64 (lo u), .int .u64 (hi u)] rfl
        have HOW := Lib.hid (own_call hown hbA)
        have HR1 := Lib.hid (show 0 < 1 → ∃ b o, (some ⟨w8.heap.size, 0, none⟩ : Option Addr) = some ⟨b, o, none⟩ ∧ RowE (w8.alloc (.cells #[.int .u64 (lo u), .int .u64 (hi u)] 28)) b o [eK u] from fun _ => ⟨_, _, rfl, hE.rowE⟩)
        have hk1 : k + 1 ≤ 1099511627776 := by omega
        have hbase : w.heap.size ≤ (w8.alloc (.cells #[.int .u64 (lo u), .int .u64 (hi u)] 28)).heap.size := by rw [World.size_alloc]; have := hb00.size; omega
        clear hown hE hbA
        obtain ⟨x00, x01, x02, x03, x04⟩ := V2.mk x0.c0 x0.c1 x0.f0 x0.f1 x0.lt
        go_upto_region 4 with (at_builtin; (refine wpList_append_E rfl (.tmp 44) (.tmp 46) rfl w.heap.size _ k (esK (ofF k fun i => a.getD i 0 + b.getD i 0)) rfl HOW.out (some ⟨w8.heap.size, 0, none⟩) 1 1 [eK u] rfl rfl HR1.out hk1 hbase ?_; intro v2 w2 hown2 hg2 hat2; have hb2 : Below w.heap.size w w2 := (hb00.trans ((Below.refl _ _).alloc hb00.size _)).trans ((Below.refl _ _).grown hg2 hbase (fun q hq => (HOW.out.lt q hq).1)); obtain ⟨g2, cap2, hv2⟩ := own_slice hown2; rw [hv2]))
        rw [hv2, show esK (ofF k fun i => a.getD i 0 + b.getD i 0) ++ [eK u] = esK (ofF (k + 1) fun i => a.getD i 0 + b.getD i 0) by rw [HSN.out, esK_append, HY.out]; rfl] at hown2
        clear HOW HR1 hg2 hat2 hbase x0 x00 x01 x02 x03 x04
        go_wp2_with fail
        go_roundw
        case rel => exact ⟨k + 1, _, cap2, by omega, by go_num, rfl, hown2, hb2⟩
        case measure => simp [intOf]; omega
    · obtain hkE : k = N := by omega
      subst hkE
      obtain ⟨t5, t6⟩ := hNN
      have hs := own_sl (HSL.out k) hown
      have HT := Lib.hid (ref_Trim D cp (ofF k fun i => a.getD i 0 + b.getD i 0) wr (by rw [HSL.out]; exact hs) (by rw [HSL.out]; omega))
      have hss : SlK wr wr.heap.size (.slice D (trim (ofF k fun i => a.getD i 0 + b.getD i 0)).length cp) (trim (ofF k fun i => a.getD i 0 + b.getD i 0)) := by
        have h : SlK wr wr.heap.size (.slice D (ofF k fun i => a.getD i 0 + b.getD i 0).length cp) (ofF k fun i => a.getD i 0 + b.getD i 0) := by rw [HSL.out]; exact hs
        have h2 := h.takeK (trim_le _)
        rwa [← trim_take] at h2
      rw [HEND.out] at hss
      rw [HEND.out, HSL.out] at HT
      have HSS := Lib.hid hss
      clear hs hss hown HEND
      go_wp2_with fail
      refine HT.out.mono ?_
      rintro e w' ⟨rfl, rfl⟩
      go_wp2_with fail
      go_ret
      exact ⟨(D, cp), rfl, HSS.out, hb00⟩
end

end Go.Proofs.YtfhmineolncefaaDoor

namespace Go.Proofs.YtfhmineolncefaaDoor
open Go.RowKit Fm
set_option linter.unusedVariables false
set_option maxRecDepth 100000

theorem awake05_mul : pmul (f := 1) [1, 1] [1, 1] = [1, 1 + 1, 1] := by decide +kernel
theorem awake05_len : (trim ([1, 1] : KL 1)).length = 2 := by decide +kernel

set_option maxHeartbeats 1000000 in
theorem law05_Awake (w : World) (hT : TabW w) : Calls Tryd.prog 28 #[] w fun e w' => e = .returned (.bool true) ∧ Below w.heap.size w w' := by
  have heq := eql_elem
  have hE : esK ([1, 1] : KL 1) = [(1, 0), (1, 0)] := by
    show [eK 1, eK 1] = _
    rw [eK_one]
  have hA : #[.int .u64 1, .int .u64 0, .int .u64 1, .int .u64 0] = (cellsE (esK ([1, 1] : KL 1))).toArray := by rw [hE]; rfl
  have hR := RwK.new (f := 1) w [1, 1] #[.int .u64 1, .int .u64 0, .int .u64 1, .int .u64 0] hA 28
  have hb1 : Below w.heap.size w (w.alloc (.cells #[.int .u64 1, .int .u64 0, .int .u64 1, .int .u64 0] 28)) := (Below.refl _ _).alloc (Nat.le_refl _) _
  have hR2 := RwK.new (f := 1) (w.alloc (.cells #[.int .u64 1, .int .u64 0, .int .u64 1, .int .u64 0] 28)) [1, 1] #[.int .u64 1, .int .u64 0, .int .u64 1, .int .u64 0] hA 28
  have hb2 := hb1.alloc (by rw [World.size_alloc]; omega) (.cells #[.int .u64 1, .int .u64 0, .int .u64 1, .int .u64 0] 28)
  replace hR := hR.call ((Below.refl _ _).alloc (Nat.le_refl _) (.cells #[.int .u64 1, .int .u64 0, .int .u64 1, .int .u64 0] 28))
  have hT1 := hT.call hb2
  have h := poly_Mul isF1 _ _ [1, 1] [1, 1] _ hT1 (hR.sl (n := 2) (c := 2) rfl (by omega) (by omega)) (hR2.sl (n := 2) (c := 2) rfl (by omega) (by omega)) (by decide) (by decide) (by rw [awake05_len]; omega)
  rw [awake05_mul] at h
  rw [World.size_alloc] at h
  have HV := Lib.hid h
  have HH := Lib.hid lohi2
  have HB2 := Lib.hid hb2
  clear hR hR2 h hT1 hT hE hA hb1 hb2
  go_enter Tryd.func28, Tryd.ntmps28
  go_wp2_with fail
  refine HV.out.mono ?_
  rintro e w1 ⟨v, rfl, ho, hb1⟩
  obtain ⟨g, cp, rfl⟩ := own_slice ho
  obtain ⟨hR, hg, _⟩ := own_rw ho
  obtain ⟨d0, d1⟩ := hR.at (i := 1) rfl
  rw [HH.out.1] at d0
  rw [HH.out.2] at d1
  simp only [Nat.one_mul, Nat.reduceAdd] at d0 d1
  have hb00 : Below w.heap.size w w1 := HB2.out.trans (hb1.mono HB2.out.size)
  clear ho hR hb1 hg
  go_wp2
  go_ret
  exact ⟨rfl, hb00⟩

/-- so many elements at most come back, in a row of their own -/
def RetSm (f most : Nat) (w : World) (e : Ending) (w' : World) : Prop := ∃ p : KL f, p.length ≤ most ∧ RetOwn p w e w'

section
variable {f : Nat} (hf : IsF f)
include hf

set_option maxHeartbeats 8000000 in
theorem law05_some (vl : Value) (l : List E) (most : Nat) (w : World) (hs : SlE w w.heap.size vl l) (hmo : most ≤ 1000) :
    Calls Tryd.prog 32 #[.int .i64 f, vl, .int .i64 most] w (RetSm f most w) := by
  have hfb0 : (1 : Int) ≤ (f : Int) := by rcases hf.or with rfl | rfl <;> omega
  have hfb1 : (f : Int) ≤ 2 := by rcases hf.or with rfl | rfl <;> omega
  have HOF := Lib.hid (fun a0 a1 wz h0 h1 k0 k1 => ref_OfL hf a0 a1 wz h0 h1 k0 k1)
  obtain ⟨⟨A, c, rfl, hc, hcm, hA⟩, hok⟩ := hs
  have HA := Lib.hid hA
  have HOK := Lib.hid hok
  clear hA hok
  have hb00 : Below w.heap.size w w := Below.refl _ _
  go_enter Tryd.func32, Tryd.ntmps32
  go_wp2
  go_loopw [7, 12] (fun vr iv wr => ∃ (k J : Nat) (P : KL f) (D : Option Addr) (cp : Nat), k ≤ l.length ∧ iv = .int .i64 k ∧ vr = .slice D J cp ∧ J ≤ k ∧ J ≤ most ∧ Hid (P.length = J) ∧ wr.ownsRow w.heap.size 28 2 (.slice D J cp) J (cellsE (esK P)) ∧ Below w.heap.size w wr) (fun _ iv _ => l.length - (intOf iv).toNat)
  case atStart => exact ⟨0, 0, [], none, 0, Nat.zero_le _, rfl, rfl, Nat.le_refl _, Nat.zero_le _, rfl, World.ownsRow_nil _ _ _ _, hb00⟩
  case round =>
    clear hb00
    obtain ⟨k, J, P, D, cp, hk, rfl, rfl, hJk, hJm, hP, hown, hb00⟩ := hrel
    have hsz := hb00.size
    by_cases hka : k < l.length
    · obtain ⟨b, o, hAe, hbw, hrow⟩ := HA.out (by omega)
      obtain ⟨⟨x0, x1⟩, he⟩ : ∃ e, l[k]? = some e := ⟨_, List.getElem?_eq_getElem (by omega)⟩
      obtain ⟨hx0, hx1, hx2, hx3⟩ := HOK.out _ (List.mem_of_getElem? he)
      obtain ⟨c0, c1⟩ := (hrow.below hb00 hbw) k _ he
      dsimp only at hx0 hx1 hx2 hx3 c0 c1
      subst hAe
      have g1 : (0 : Int) ≤ (k : Int) := by omega
      have g3 : (k : Int) < (l.length : Int) := by omega
      clear he hrow
      go_upto_region 5 with fail
      have z0 := V2.new wr (.int .u64 x0) (.int .u64 x1) 28
      have hbA : Below wr.heap.size wr (wr.alloc (.cells #[.int .u64 x0, .int .u64 x1] 28)) := by repeat (first | exact Below.refl _ _ | with_reducible assumption | (refine bl_alloc ?_ (Nat.le_refl _) _))
      replace hb00 := bl_call hb00 (Nat.le_refl _) hbA
      replace hown := own_call hown hbA
      clear hbA
      generalize wr.alloc (.cells #[.int .u64 x0, .int .u64 x1] 28) = w5 at hb00 hown z0 ⊢
      clear c0 c1
      have hsz5 := z0.lt
      by_cases hkm : k < most
      · skip
        obtain ⟨z00, z01, z02, z03, z04⟩ := V2.mk z0.c0 z0.c1 z0.f0 z0.f1 z0.lt
        go_upto_region 6 with fail
        go_wp2_with fail
        refine (HOF.out x0 x1 _ hx0 hx1 hx2 hx3).mono ?_
        rintro e w6 ⟨rfl, hb6⟩
        clear z00 z01 z02 z03 z04
        replace hb00 := bl_call hb00 (Nat.le_refl _) hb6
        replace hown := own_call hown hb6
        replace z0 := z0.call hb6
        clear hb6
        obtain ⟨y, hy⟩ : ∃ y, kL f x0 x1 = y := ⟨_, rfl⟩
        rw [hy]
        have hbA : Below w6.heap.size w6 (w6.alloc (.cells #[.int .u64 (lo y), .int .u64 (hi y)] 28)) := (Below.refl _ _).alloc (Nat.le_refl _) _
        have hE := BlkE.new w6 [eK y] #[.int .u64 (lo y), .int .u64 (hi y)] rfl
        have HOW := Lib.hid (own_call hown hbA)
        have HR1 := Lib.hid (show 0 < 1 → ∃ b o, (some ⟨w6.heap.size, 0, none⟩ : Option Addr) = some ⟨b, o, none⟩ ∧ RowE (w6.alloc (.cells #[.int .u64 (lo y), .int .u64 (hi y)] 28)) b o [eK y] from fun _ => ⟨_, _, rfl, hE.rowE⟩)
        have hk1 : J + 1 ≤ 1099511627776 := by omega
        have hbase : w.heap.size ≤ (w6.alloc (.cells #[.int .u64 (lo y), .int .u64 (hi y)] 28)).heap.size := by rw [World.size_alloc]; have := hb00.size; omega
        clear hown hE hbA hy
        go_upto_region 7 with (at_builtin; (refine wpList_append_E rfl (.tmp 20) (.tmp 24) rfl w.heap.size _ J (esK P) rfl HOW.out (some ⟨w6.heap.size, 0, none⟩) 1 1 [eK y] rfl rfl HR1.out hk1 hbase ?_; intro v2 w2 hown2 hg2 hat2; have hb2 : Below w.heap.size w w2 := (hb00.trans ((Below.refl _ _).alloc hb00.size _)).trans ((Below.refl _ _).grown hg2 hbase (fun q hq => (HOW.out.lt q hq).1)); obtain ⟨g2, cap2, hv2⟩ := own_slice hown2; rw [hv2]))
        rw [hv2, show esK P ++ [eK y] = esK (P ++ [y]) by rw [esK_append]; rfl] at hown2
        clear HOW HR1 hg2 hat2 hbase z0
        go_wp2_with fail
        go_roundw
        case rel => exact ⟨k + 1, J + 1, P ++ [y], _, cap2, by omega, by go_num, rfl, by omega, by omega, by show _ = _; rw [List.length_append, hP.out]; rfl, hown2, hb2⟩
        case measure => simp [intOf]; omega
      · clear z0
        go_wp2_with fail
        go_roundw
        case rel => exact ⟨k + 1, J, P, D, cp, by omega, by go_num, rfl, by omega, hJm, hP, hown, hb00⟩
        case measure => simp [intOf]; omega
    · obtain hkE : k = l.length := by omega
      subst hkE
      go_wp2_with fail
      go_ret
      exact ⟨P, by rw [hP.out]; exact hJm, _, rfl, by rw [hP.out]; exact hown, hb00⟩
end

end Go.Proofs.YtfhmineolncefaaDoor

namespace Go.Proofs.YtfhmineolncefaaDoor
open Go.RowKit Fm
set_option linter.unusedVariables false
set_option maxRecDepth 100000

theorem ofF_pscale {f : Nat} (y : Fin (Pm f)) (p : KL f) : trim (ofF p.length fun i => p.getD i 0 * y) = pscale y p := by
  unfold pscale
  congr 1
  refine ext_getD (by rw [ofF_length, List.length_map]) fun i => ?_
  rw [map_getD]
  by_cases h : i < p.length
  · rw [ofF_getD, if_pos h]
  · rw [ofF_getD, if_neg h, Fm.getD_end (by omega)]
    grind

set_option maxHeartbeats 8000000 in
theorem walk_PolySums (n : Int) (va vb : Value) (la lb : List E) (x : E) (w : World) (hT : TabW w) (hn : 0 ≤ n ∧ n ≤ 255) (hla : SlE w w.heap.size va la) (hlb : SlE w w.heap.size vb lb) (hx : okE x) :
    Calls Tryd.prog 8 #[.int .u8 n, va, vb, .agg #[.int .u64 x.1, .int .u64 x.2]] w fun e w' => e = .returned (.bool true) ∧ Below w.heap.size w w' := by
  obtain ⟨f, hf, hF⟩ := law03_FN n hn.1 hn.2
  obtain ⟨x0, x1⟩ := x
  obtain ⟨hx0, hx1, hx2, hx3⟩ := hx
  dsimp only at hx0 hx1 hx2 hx3 ⊢
  have heq := eql_elem
  have HF := Lib.hid hF
  have HAW := Lib.hid (fun wz h => law05_Awake wz h)
  have htl := hT.lt
  have hfb0 : (1 : Int) ≤ (f : Int) := by rcases hf.or with rfl | rfl <;> omega
  have hfb1 : (f : Int) ≤ 2 := by rcases hf.or with rfl | rfl <;> omega
  have hwF : IntKind.i64.wrap (f : Int) = (f : Int) := IntWalk.i64_in _ (by omega)
  have HOF := Lib.hid (fun wz => ref_OfL hf x0 x1 wz hx0 hx1 hx2 hx3)
  have HSM := Lib.hid (fun v l wz hs => law05_some hf v l 24 wz hs (by omega))
  have HRM := Lib.hid (fun y z wz => ref_MulK hf y z wz)
  have HA := Lib.hid hla
  have HB := Lib.hid hlb
  obtain ⟨⟨A1, c1, rfl, _, _, _⟩, _⟩ := hla
  obtain ⟨⟨A2, c2, rfl, _, _, _⟩, _⟩ := hlb
  have hb00 : Below w.heap.size w w := Below.refl _ _
  go_enter Tryd.func8, Tryd.ntmps8
  go_upto_region 1 with fail
  have q0 := V2.new w (.int .u64 x0) (.int .u64 x1) 28
  have hbA : Below w.heap.size w (w.alloc (.cells #[.int .u64 x0, .int .u64 x1] 28)) := by repeat (first | exact Below.refl _ _ | with_reducible assumption | (refine bl_alloc ?_ (Nat.le_refl _) _))
  replace hb00 := bl_call hb00 (Nat.le_refl _) hbA
  replace hT := hT.call hbA
  clear hbA
  generalize w.alloc (.cells #[.int .u64 x0, .int .u64 x1] 28) = w1 at hb00 hT q0 ⊢
  go_wp2_with fail
  refine (HAW.out _ hT).mono ?_
  rintro e w2 ⟨rfl, hb2⟩
  replace hb00 := bl_call hb00 (Nat.le_refl _) hb2
  replace hT := hT.call hb2
  replace q0 := q0.call hb2
  clear hb2
  go_upto_region 4 with (first
    | (go_at_call 16; refine (HF.out _).mono ?_; rintro e wq ⟨rfl, rfl⟩))
  go_wp2_with fail
  refine (HSM.out _ la _ ((HA.out.below hb00).mono hb00.size)).mono ?_
  rintro e w3 ⟨p, hpl, vp, rfl, hop, hb3⟩
  obtain ⟨AP, cP, rfl⟩ := own_shape hop
  replace hop := own_mono hop (show w.heap.size + 1 ≤ w2.heap.size from q0.lt)
  replace hb00 := bl_call hb00 (Nat.le_refl _) hb3
  replace hT := hT.call hb3
  replace q0 := q0.call hb3
  clear hb3
  go_wp2_with fail
  refine (HSM.out _ lb _ ((HB.out.below hb00).mono hb00.size)).mono ?_
  rintro e w4 ⟨q, hql, vq, rfl, hoq, hb4⟩
  obtain ⟨AQ, cQ, rfl⟩ := own_shape hoq
  replace hoq := own_mono hoq (show w.heap.size + 1 ≤ w3.heap.size from q0.lt)
  replace hb00 := bl_call hb00 (Nat.le_refl _) hb4
  replace hT := hT.call hb4
  replace q0 := q0.call hb4
  replace hop := own_call hop hb4
  clear hb4
  obtain ⟨q00, q01, q02, q03, q04⟩ := V2.mk q0.c0 q0.c1 q0.f0 q0.f1 q0.lt
  go_wp2_with fail
  refine (HOF.out _).mono ?_
  rintro e w5 ⟨rfl, hb5⟩
  clear q00 q01 q02 q03 q04
  replace hb00 := bl_call hb00 (Nat.le_refl _) hb5
  replace hT := hT.call hb5
  replace q0 := q0.call hb5
  replace hop := own_call hop hb5
  replace hoq := own_call hoq hb5
  clear hb5
  obtain ⟨y, hy⟩ : ∃ y, kL f x0 x1 = y := ⟨_, rfl⟩
  rw [hy]
  clear hy
  obtain ⟨q00, q01, q02, q03, q04⟩ := V2.mk q0.c0 q0.c1 q0.f0 q0.f1 q0.lt
  go_upto_region 6 with fail
  clear q00 q01 q02 q03 q04
  replace hop := own_st hop (b := w.heap.size) (by omega) (.int .u64 (lo y)) (.int .u64 (hi y))
  replace hoq := own_st hoq (b := w.heap.size) (by omega) (.int .u64 (lo y)) (.int .u64 (hi y))
  replace hT := (hT.st (p := ⟨w.heap.size, 0, none⟩) (by dsimp only; omega) (.int .u64 (lo y))).st (p := ⟨w.heap.size, 1, none⟩) (by dsimp only; omega) (.int .u64 (hi y))
  replace hb00 := bl_st hb00 (b := w.heap.size) (Nat.le_refl _) (.int .u64 (lo y)) (.int .u64 (hi y))
  replace q0 : V2 ((w5.setCell ⟨w.heap.size, 0, none⟩ (.int .u64 (lo y))).setCell ⟨w.heap.size, 1, none⟩ (.int .u64 (hi y))) w.heap.size (.int .u64 (lo y)) (.int .u64 (hi y)) := V2.set q0 _ _
  generalize (w5.setCell ⟨w.heap.size, 0, none⟩ (.int .u64 (lo y))).setCell ⟨w.heap.size, 1, none⟩ (.int .u64 (hi y)) = w6 at hop hoq hT hb00 q0 ⊢
  have hp := own_sl rfl hop
  have hq := own_sl rfl hoq
  clear hop hoq
  obtain ⟨PM, hPM⟩ : ∃ z, pmul p q = z := ⟨_, rfl⟩
  have HPM := Lib.hid hPM
  have hMUL := poly_Mul hf _ _ p q w6 hT hp hq (by omega) (by omega) (by have := trim_le p; have := trim_le q; omega)
  rw [hPM] at hMUL
  have HMUL := Lib.hid hMUL
  clear hMUL hPM
  go_wp2_with fail
  refine HMUL.out.mono ?_
  rintro e w7 ⟨vm, rfl, hom, hb7⟩
  obtain ⟨AM, cM, rfl⟩ := own_shape hom
  have hm := own_sl rfl hom
  clear hom HMUL HSM HOF HAW hT htl HF hF HA HB
  replace hb00 := bl_call hb00 (Nat.le_refl _) hb7
  replace hp := hp.later hb7
  replace hq := hq.later hb7
  replace q0 := q0.call hb7
  clear hb7
  have HP := Lib.hid hp
  have HQ := Lib.hid hq
  have HM := Lib.hid hm
  have HX := Lib.hid q0
  have hqlt := q0.lt
  clear hp hq hm q0
  have HSL : Hid (∀ k, (ofF k fun i => p.getD i 0 * y).length = k) := fun k => ofF_length ..
  have HSN : Hid (∀ k, (ofF (k + 1) fun i => p.getD i 0 * y) = (ofF k fun i => p.getD i 0 * y) ++ [p.getD k 0 * y]) := fun k => by
    unfold ofF
    rw [List.range_succ, List.map_append]
    rfl
  have HSE : Hid (trim (ofF p.length fun i => p.getD i 0 * y) = pscale y p) := ofF_pscale y p
  obtain ⟨xb, hxb⟩ : ∃ z, w.heap.size = z := ⟨_, rfl⟩
  rw [hxb] at HX hqlt
  simp only [hxb]
  obtain ⟨np, hnp⟩ : ∃ z, p.length = z := ⟨_, rfl⟩
  have HNP := Lib.hid hnp
  rw [hnp] at hpl
  have hb70 : Below w7.heap.size w7 w7 := Below.refl _ _
  clear hxb hnp
  rw [HNP.out]
  go_wp2_with fail
  go_loopw [15, 43] (fun vr iv wr => ∃ (k : Nat) (D : Option Addr) (cp : Nat), k ≤ np ∧ iv = .int .i64 k ∧ vr = .slice D k cp ∧ wr.ownsRow w7.heap.size 28 2 (.slice D k cp) k (cellsE (esK (ofF k fun i => p.getD i 0 * y))) ∧ Below w7.heap.size w7 wr) (fun _ iv _ => np - (intOf iv).toNat)
  case atStart => exact ⟨0, none, 0, Nat.zero_le _, rfl, rfl, World.ownsRow_nil _ _ _ _, hb70⟩
  case round =>
    clear hb70
    obtain ⟨k, D, cp, hk, rfl, rfl, hown, hbo⟩ := hrel
    have hsz := hbo.size
    have hx9 := HX.out.call hbo
    by_cases hka : k < np
    · obtain ⟨z, hz⟩ : ∃ z, p[k]? = some z := ⟨_, List.getElem?_eq_getElem (by rw [HNP.out]; exact hka)⟩
      have HXA : Hid (p.getD k 0 = z) := by show _ = _; rw [List.getD_eq_getElem?_getD, hz]; rfl
      obtain ⟨b1, o1, hAe, hbw1, hrow1⟩ := HP.out.rowOf (by rw [HNP.out]; omega)
      obtain ⟨d0, d1⟩ := (hrow1.below hbo hbw1).kat hz
      have g1 : (0 : Int) ≤ (k : Int) := by omega
      have g3 : (k : Int) < (np : Int) := by omega
      subst hAe
      clear hz hrow1
      go_upto_region 11 with fail
      have z0 := V2.new wr (.int .u64 (lo z)) (.int .u64 (hi z)) 28
      have hbA : Below wr.heap.size wr (wr.alloc (.cells #[.int .u64 (lo z), .int .u64 (hi z)] 28)) := by repeat (first | exact Below.refl _ _ | with_reducible assumption | (refine bl_alloc ?_ (Nat.le_refl _) _))
      replace hbo := bl_call hbo (Nat.le_refl _) hbA
      replace hx9 := hx9.call hbA
      replace hown := own_call hown hbA
      clear hbA
      generalize wr.alloc (.cells #[.int .u64 (lo z), .int .u64 (hi z)] 28) = w8 at hbo hx9 hown z0 ⊢
      clear d0 d1
      obtain ⟨z00, z01, z02, z03, z04⟩ := V2.mk z0.c0 z0.c1 z0.f0 z0.f1 z0.lt
      obtain ⟨x90, x91, x92, x93, x94⟩ := V2.mk hx9.c0 hx9.c1 hx9.f0 hx9.f1 hx9.lt
      go_wp2_with fail
      refine (HRM.out z y _).mono ?_
      rintro e w9 ⟨rfl, hb9⟩
      clear z00 z01 z02 z03 z04 x90 x91 x92 x93 x94
      replace hbo := bl_call hbo (Nat.le_refl _) hb9
      replace hx9 := hx9.call hb9
      replace hown := own_call hown hb9
      replace z0 := z0.call hb9
      clear hb9 z0
      obtain ⟨u, hu⟩ : ∃ u, z * y = u := ⟨_, rfl⟩
      rw [hu]
      have HU := Lib.hid hu
      clear hu
      have hbA : Below w9.heap.size w9 (w9.alloc (.cells #[.int .u64 (lo u), .int .u64 (hi u)] 28)) := (Below.refl _ _).alloc (Nat.le_refl _) _
      have hE := BlkE.new w9 [eK u] #[.int .u64 (lo u), .int .u64 (hi u)] rfl
      have HOW := Lib.hid (own_call hown hbA)
      have HR1 := Lib.hid (show 0 < 1 → ∃ b o, (some ⟨w9.heap.size, 0, none⟩ : Option Addr) = some ⟨b, o, none⟩ ∧ RowE (w9.alloc (.cells #[.int .u64 (lo u), .int .u64 (hi u)] 28)) b o [eK u] from fun _ => ⟨_, _, rfl, hE.rowE⟩)
      have hk1 : k + 1 ≤ 1099511627776 := by omega
      have hbase : w7.heap.size ≤ (w9.alloc (.cells #[.int .u64 (lo u), .int .u64 (hi u)] 28)).heap.size := by rw [World.size_alloc]; have := hbo.size; omega
      clear hown hE hbA
      go_upto_region 12 with (at_builtin; (refine wpList_append_E rfl (.tmp 47) (.tmp 52) rfl w7.heap.size _ k (esK (ofF k fun i => p.getD i 0 * y)) rfl HOW.out (some ⟨w9.heap.size, 0, none⟩) 1 1 [eK u] rfl rfl HR1.out hk1 hbase ?_; intro v2 w2 hown2 hg2 hat2; have hb2 : Below w7.heap.size w7 w2 := (hbo.trans ((Below.refl _ _).alloc hbo.size _)).trans ((Below.refl _ _).grown hg2 hbase (fun q hq => (HOW.out.lt q hq).1)); obtain ⟨g2, cap2, hv2⟩ := own_slice hown2; rw [hv2]))
      rw [hv2, show esK (ofF k fun i => p.getD i 0 * y) ++ [eK u] = esK (ofF (k + 1) fun i => p.getD i 0 * y) by rw [HSN.out, esK_append, HXA.out, HU.out]; rfl] at hown2
      clear HOW HR1 hg2 hat2 hbase
      go_wp2_with fail
      go_roundw
      case rel => exact ⟨k + 1, _, cap2, by omega, by go_num, rfl, hown2, hb2⟩
      case measure => simp [intOf]; omega
    · obtain hkE : k = np := by omega
      subst hkE
      have hs := own_sl (HSL.out k) hown
      have hpw := HP.out.later hbo
      have hqw := HQ.out.later hbo
      have hmw := HM.out.later hbo
      replace hb00 : Below w.heap.size w wr := bl_call hb00 (Nat.le_refl _) hbo
      have HQ2 := Lib.hid hqw
      clear hbo hown HP HQ HM
      have hpl9 := hpl
      have hqN : q.length ≤ 24 := hql
      have htp := trim_le p
      have hss : SlK wr wr.heap.size (.slice D (trim (ofF k fun i => p.getD i 0 * y)).length cp) (trim (ofF k fun i => p.getD i 0 * y)) := by
        have h : SlK wr wr.heap.size (.slice D (ofF k fun i => p.getD i 0 * y).length cp) (ofF k fun i => p.getD i 0 * y) := by rw [HSL.out]; exact hs
        have h2 := h.takeK (trim_le _)
        rwa [← trim_take] at h2
      have HSE : Hid (trim (ofF k fun i => p.getD i 0 * y) = pscale y p) := by show _ = _; rw [← HSE.out, HNP.out]
      rw [HSE.out] at hss
      have hst := hpw.takeK (trim_le p)
      rw [← trim_take] at hst
      rw [HNP.out] at htp
      obtain ⟨PA, hPA⟩ : ∃ z, padd p q = z := ⟨_, rfl⟩
      obtain ⟨PS, hPS⟩ : ∃ z, pscale y p = z := ⟨_, rfl⟩
      obtain ⟨PT, hPT⟩ : ∃ z, trim p = z := ⟨_, rfl⟩
      have HPR : Hid (∀ wz, Below wr.heap.size wr wz → Calls Tryd.prog 36 #[.int .i64 f, .slice AP k cP, .slice AQ q.length cQ] wz (RetSq PM wz)) := fun wz hb => by
        have h := ref_Product hf _ _ p q wz (hpw.later hb) (HQ2.out.later hb) (by rw [HNP.out]; omega) (by omega)
        rw [HPM.out, HNP.out] at h
        exact h
      have HPA : Hid (∀ wz, Below wr.heap.size wr wz → Calls Tryd.prog 38 #[.int .u8 f, .slice AP k cP, .slice AQ q.length cQ] wz (RetSq PA wz)) := fun wz hb => by
        have h := (poly_Add hf _ _ p q wz (hpw.later hb) (HQ2.out.later hb) (by rw [HNP.out]; omega) (by omega)).mono fun _ _ h => h.sq
        rw [hPA, HNP.out] at h
        exact h
      have HRA : Hid (∀ wz, Below wr.heap.size wr wz → Calls Tryd.prog 35 #[.int .i64 f, .slice AP k cP, .slice AQ q.length cQ] wz (RetSq PA wz)) := fun wz hb => by
        have h := ref_Sum hf _ _ p q wz (hpw.later hb) (HQ2.out.later hb) (by rw [HNP.out]; omega) (by omega)
        rw [hPA, HNP.out] at h
        exact h
      have HPS : Hid (∀ wz, Below wr.heap.size wr wz → Calls Tryd.prog 39 #[.int .u8 f, .slice AP k cP, vK y] wz (RetSq PS wz)) := fun wz hb => by
        have h := (poly_Scale hf _ p y wz (hpw.later hb) (by rw [HNP.out]; omega)).mono fun _ _ h => h.sq
        rw [hPS, HNP.out] at h
        exact h
      have HTS : Hid (∀ wz, Below wr.heap.size wr wz → Calls Tryd.prog 34 #[.slice D k cp] wz fun e w' => e = .returned (.slice D PS.length cp) ∧ Below wz.heap.size wz w') := fun wz hb => by
        have h := (ref_Trim D cp _ wz (by rw [HSL.out]; exact hs.later hb) (by rw [HSL.out]; omega)).mono fun _ w' h => (⟨h.1, h.2 ▸ Below.refl _ _⟩ : _ ∧ Below wz.heap.size wz w')
        rw [HSE.out, hPS, HSL.out] at h
        exact h
      have HAT : Hid (∀ wz, Below wr.heap.size wr wz → Calls Tryd.prog 30 #[.int .u8 f, .slice AP k cP, vK y] wz (RetK (horner y p) wz)) := fun wz hb => by
        have h := poly_At hf _ p y wz (hpw.later hb) (by rw [HNP.out]; omega)
        rw [HNP.out] at h
        exact h
      have HRT : Hid (∀ wz, Below wr.heap.size wr wz → Calls Tryd.prog 25 #[.int .i64 f, .slice AP k cP, vK y] wz (RetK (horner y p) wz)) := fun wz hb => by
        have h := ref_At hf _ p y wz (hpw.later hb) (by rw [HNP.out]; omega)
        rw [HNP.out] at h
        exact h
      have HPT : Hid (∀ wz, Below wr.heap.size wr wz → Calls Tryd.prog 40 #[.slice AP k cP] wz (RetSq PT wz)) := fun wz hb => by
        have h := (poly_Trim _ p wz (hpw.later hb) (by rw [HNP.out]; omega)).mono fun _ _ h => h.sq
        rw [hPT, HNP.out] at h
        exact h
      have HTP : Hid (∀ wz, Below wr.heap.size wr wz → Calls Tryd.prog 34 #[.slice AP k cP] wz fun e w' => e = .returned (.slice AP PT.length cP) ∧ Below wz.heap.size wz w') := fun wz hb => by
        have h := (ref_Trim AP cP p wz (hpw.later hb) (by rw [HNP.out]; omega)).mono fun _ w' h => (⟨h.1, h.2 ▸ Below.refl _ _⟩ : _ ∧ Below wz.heap.size wz w')
        rw [hPT, HNP.out] at h
        exact h
      have HDG : Hid (∀ wz, Below wr.heap.size wr wz → Calls Tryd.prog 41 #[.slice AP k cP] wz fun e w' => e = .returned (.int .i64 ((PT.length : Int) - 1)) ∧ Below wz.heap.size wz w') := fun wz hb => by
        have h := poly_Degree _ p wz (hpw.later hb) (by rw [HNP.out]; omega)
        rw [hPT, HNP.out] at h
        exact h
      rw [hPT] at hst htp
      rw [hPS] at hss
      rw [HNP.out] at hpw
      have hw9 : IntKind.i64.wrap ((PT.length : Int) - 1) = (PT.length : Int) - 1 := IntWalk.i64_in _ (by omega)
      have hxl : xb < wr.heap.size := hx9.lt
      clear hPA hPS hPT HSE HSL HSN HPM hs hpw hqw HNP HX HRM HQ2
      go_upto_region 13 with fail
      obtain ⟨x90, x91, x92, x93, x94⟩ := V2.mk hx9.c0 hx9.c1 hx9.f0 hx9.f1 hx9.lt
      refine region_G (n := 57) (m := 58) (f := 57) (by kernel_rfl) (by kernel_rfl) rfl ?_
      refine WpG.takeD 0 (some 55) (v := ?_) rfl rfl (by kernel_rfl) (fun _ _ _ h => h) (.val rfl (fun wz hwz => ?_)) ?_
      rotate_left
      · go_simp; try (with_reducible rfl)
      (simp only [Act.put]); (try simp only [List.setIfInBounds_toArray]); (try simp only [List.set_cons_succ]); (try simp only [List.set_cons_zero])
      refine WpG.takeD 1 (some 56) (v := ?_) rfl rfl (by kernel_rfl) (fun _ _ _ h => h) (.val rfl (fun wz hwz => ?_)) ?_
      rotate_left
      · go_simp; try (with_reducible rfl)
      (simp only [Act.put]); (try simp only [List.setIfInBounds_toArray]); (try simp only [List.set_cons_succ]); (try simp only [List.set_cons_zero])
      refine WpG.takeD 2 (some 57) (v := ?_) rfl rfl (by kernel_rfl) (fun _ _ _ h => h) (.val rfl (fun wz hwz => ?_)) ?_
      rotate_left
      · go_simp; try (with_reducible rfl)
      (simp only [Act.put]); (try simp only [List.setIfInBounds_toArray]); (try simp only [List.set_cons_succ]); (try simp only [List.set_cons_zero])
      refine WpG.takeD 3 (some 58) (v := ?_) rfl rfl (by kernel_rfl) (fun _ _ _ h => h) (.val rfl (fun wz hwz => ?_)) ?_
      rotate_left
      · go_simp; try (with_reducible rfl)
      (simp only [Act.put]); (try simp only [List.setIfInBounds_toArray]); (try simp only [List.set_cons_succ]); (try simp only [List.set_cons_zero])
      refine WpG.takeD 4 (some 59) (v := ?_) rfl rfl (by kernel_rfl) (fun _ _ _ h => h) (.val rfl (fun wz hwz => ?_)) ?_
      rotate_left
      · go_simp; try (with_reducible rfl)
      (simp only [Act.put]); (try simp only [List.setIfInBounds_toArray]); (try simp only [List.set_cons_succ]); (try simp only [List.set_cons_zero])
      refine WpG.takeD 5 (some 60) (v := ?_) rfl rfl (by kernel_rfl) (fun _ _ _ h => h) (.val rfl (fun wz hwz => ?_)) ?_
      rotate_left
      · go_simp; try (with_reducible rfl)
      (simp only [Act.put]); (try simp only [List.setIfInBounds_toArray]); (try simp only [List.set_cons_succ]); (try simp only [List.set_cons_zero])
      refine WpG.takeD 6 (some 61) (v := ?_) rfl rfl (by kernel_rfl) (fun _ _ _ h => h) (.val rfl (fun wz hwz => ?_)) ?_
      rotate_left
      · go_simp; try (with_reducible rfl)
      (simp only [Act.put]); (try simp only [List.setIfInBounds_toArray]); (try simp only [List.set_cons_succ]); (try simp only [List.set_cons_zero])
      refine WpG.oneD 7 (some 62) rfl rfl (by kernel_rfl) (fun u : Option Addr × Nat => Value.slice u.1 PM.length u.2) (fun u wz => SlK wz wz.heap.size (.slice u.1 PM.length u.2) PM) (fun _ _ _ h hb => h.later hb) (Fresh.call rfl (fun wz hwz => HPR.out wz (hwz)) (fun wz hwz => by go_simp; try (with_reducible rfl))) (fun u1 w0u1 hw0u1 hR0u1 => ?_)
      (simp only [Act.put]); (try simp only [List.setIfInBounds_toArray]); (try simp only [List.set_cons_succ]); (try simp only [List.set_cons_zero])
      refine WpG.takeD 8 (some 63) rfl rfl (by kernel_rfl) (fun _ _ _ h => h) (.call rfl (fun wz hwz => ref_Same_eq _ _ _ _ wz (hmw.toE.later (hwz.1)) (hwz.2).toE rfl) (fun wz hwz => ?_)) ?_
      · go_simp; try (with_reducible rfl)
      (simp only [Act.put]); (try simp only [List.setIfInBounds_toArray]); (try simp only [List.set_cons_succ]); (try simp only [List.set_cons_zero])
      refine WpG.takeD 9 (some 64) (v := ?_) rfl rfl (by kernel_rfl) (fun _ _ _ h => h) (.val rfl (fun wz hwz => ?_)) ?_
      rotate_left
      · go_simp; try (with_reducible rfl)
      (simp only [Act.put]); (try simp only [List.setIfInBounds_toArray]); (try simp only [List.set_cons_succ]); (try simp only [List.set_cons_zero])
      refine WpG.takeD 10 (some 65) (v := ?_) rfl rfl (by kernel_rfl) (fun _ _ _ h => h) (.val rfl (fun wz hwz => ?_)) ?_
      rotate_left
      · go_simp; try (with_reducible rfl)
      (simp only [Act.put]); (try simp only [List.setIfInBounds_toArray]); (try simp only [List.set_cons_succ]); (try simp only [List.set_cons_zero])
      refine WpG.takeD 11 (some 66) (v := ?_) rfl rfl (by kernel_rfl) (fun _ _ _ h => h) (.val rfl (fun wz hwz => ?_)) ?_
      rotate_left
      · go_simp; try (with_reducible rfl)
      (simp only [Act.put]); (try simp only [List.setIfInBounds_toArray]); (try simp only [List.set_cons_succ]); (try simp only [List.set_cons_zero])
      refine WpG.takeD 12 (some 67) (v := ?_) rfl rfl (by kernel_rfl) (fun _ _ _ h => h) (.val rfl (fun wz hwz => ?_)) ?_
      rotate_left
      · go_simp; try (with_reducible rfl)
      (simp only [Act.put]); (try simp only [List.setIfInBounds_toArray]); (try simp only [List.set_cons_succ]); (try simp only [List.set_cons_zero])
      refine WpG.takeD 13 (some 68) (v := ?_) rfl rfl (by kernel_rfl) (fun _ _ _ h => h) (.val rfl (fun wz hwz => ?_)) ?_
      rotate_left
      · go_simp; try (with_reducible rfl)
      (simp only [Act.put]); (try simp only [List.setIfInBounds_toArray]); (try simp only [List.set_cons_succ]); (try simp only [List.set_cons_zero])
      refine WpG.takeD 15 (some 70) (v := ?_) rfl rfl (by kernel_rfl) (fun _ _ _ h => h) (.val rfl (fun wz hwz => ?_)) ?_
      rotate_left
      · go_simp; try (with_reducible rfl)
      (simp only [Act.put]); (try simp only [List.setIfInBounds_toArray]); (try simp only [List.set_cons_succ]); (try simp only [List.set_cons_zero])
      refine WpG.takeD 16 (some 71) (v := ?_) rfl rfl (by kernel_rfl) (fun _ _ _ h => h) (.val rfl (fun wz hwz => ?_)) ?_
      rotate_left
      · go_simp; try (with_reducible rfl)
      (simp only [Act.put]); (try simp only [List.setIfInBounds_toArray]); (try simp only [List.set_cons_succ]); (try simp only [List.set_cons_zero])
      refine WpG.takeD 17 (some 72) (v := ?_) rfl rfl (by kernel_rfl) (fun _ _ _ h => h) (.val rfl (fun wz hwz => ?_)) ?_
      rotate_left
      · go_simp; try (with_reducible rfl)
      (simp only [Act.put]); (try simp only [List.setIfInBounds_toArray]); (try simp only [List.set_cons_succ]); (try simp only [List.set_cons_zero])
      refine WpG.oneD 14 (some 69) rfl rfl (by kernel_rfl) (fun u : Option Addr × Nat => Value.slice u.1 PA.length u.2) (fun u wz => SlK wz wz.heap.size (.slice u.1 PA.length u.2) PA) (fun _ _ _ h hb => h.later hb) (Fresh.call rfl (fun wz hwz => HPA.out wz (hwz.1)) (fun wz hwz => by go_simp; try (with_reducible rfl))) (fun u2 w0u2 hw0u2 hR0u2 => ?_)
      (simp only [Act.put]); (try simp only [List.setIfInBounds_toArray]); (try simp only [List.set_cons_succ]); (try simp only [List.set_cons_zero])
      refine WpG.oneD 18 (some 73) rfl rfl (by kernel_rfl) (fun u : Option Addr × Nat => Value.slice u.1 PA.length u.2) (fun u wz => SlK wz wz.heap.size (.slice u.1 PA.length u.2) PA) (fun _ _ _ h hb => h.later hb) (Fresh.call rfl (fun wz hwz => HRA.out wz (hwz.1.1)) (fun wz hwz => by go_simp; try (with_reducible rfl))) (fun u3 w0u3 hw0u3 hR0u3 => ?_)
      (simp only [Act.put]); (try simp only [List.setIfInBounds_toArray]); (try simp only [List.set_cons_succ]); (try simp only [List.set_cons_zero])
      refine WpG.takeD 19 (some 74) rfl rfl (by kernel_rfl) (fun _ _ _ h => h) (.call rfl (fun wz hwz => ref_Same_eq _ _ _ _ wz (hwz.1.2).toE (hwz.2).toE rfl) (fun wz hwz => ?_)) ?_
      · go_simp; try (with_reducible rfl)
      (simp only [Act.put]); (try simp only [List.setIfInBounds_toArray]); (try simp only [List.set_cons_succ]); (try simp only [List.set_cons_zero])
      refine WpG.takeD 20 (some 75) (v := ?_) rfl rfl (by kernel_rfl) (fun _ _ _ h => h) (.val rfl (fun wz hwz => ?_)) ?_
      rotate_left
      · go_simp; try (with_reducible rfl)
      (simp only [Act.put]); (try simp only [List.setIfInBounds_toArray]); (try simp only [List.set_cons_succ]); (try simp only [List.set_cons_zero])
      refine WpG.takeD 21 (some 76) (v := ?_) rfl rfl (by kernel_rfl) (fun _ _ _ h => h) (.val rfl (fun wz hwz => ?_)) ?_
      rotate_left
      · go_simp; try (with_reducible rfl)
      (simp only [Act.put]); (try simp only [List.setIfInBounds_toArray]); (try simp only [List.set_cons_succ]); (try simp only [List.set_cons_zero])
      refine WpG.takeD 22 (some 77) (v := ?_) rfl rfl (by kernel_rfl) (fun _ _ _ h => h) (.val rfl (fun wz hwz => ?_)) ?_
      rotate_left
      · go_simp; try (with_reducible rfl)
      (simp only [Act.put]); (try simp only [List.setIfInBounds_toArray]); (try simp only [List.set_cons_succ]); (try simp only [List.set_cons_zero])
      refine WpG.takeD 23 (some 78) (v := ?_) rfl rfl (by kernel_rfl) (fun _ _ _ h => h) (.val rfl (fun wz hwz => ?_)) ?_
      rotate_left
      · go_simp; try (with_reducible rfl)
      (simp only [Act.put]); (try simp only [List.setIfInBounds_toArray]); (try simp only [List.set_cons_succ]); (try simp only [List.set_cons_zero])
      refine WpG.takeD 24 (some 79) (v := ?_) rfl rfl (by kernel_rfl) (fun _ _ _ h => h) (.val rfl (fun wz hwz => ?_)) ?_
      rotate_left
      · (obtain ⟨hcz, hfz⟩ := bcell (hwz.1.1.1); go_simp; try (with_reducible rfl))
      (simp only [Act.put]); (try simp only [List.setIfInBounds_toArray]); (try simp only [List.set_cons_succ]); (try simp only [List.set_cons_zero])
      refine WpG.takeD 26 (some 81) (v := ?_) rfl rfl (by kernel_rfl) (fun _ _ _ h => h) (.val rfl (fun wz hwz => ?_)) ?_
      rotate_left
      · go_simp; try (with_reducible rfl)
      (simp only [Act.put]); (try simp only [List.setIfInBounds_toArray]); (try simp only [List.set_cons_succ]); (try simp only [List.set_cons_zero])
      refine WpG.oneD 25 (some 80) rfl rfl (by kernel_rfl) (fun u : Option Addr × Nat => Value.slice u.1 PS.length u.2) (fun u wz => SlK wz wz.heap.size (.slice u.1 PS.length u.2) PS) (fun _ _ _ h hb => h.later hb) (Fresh.call rfl (fun wz hwz => HPS.out wz (hwz.1.1.1)) (fun wz hwz => by go_simp; try (with_reducible rfl))) (fun u4 w0u4 hw0u4 hR0u4 => ?_)
      (simp only [Act.put]); (try simp only [List.setIfInBounds_toArray]); (try simp only [List.set_cons_succ]); (try simp only [List.set_cons_zero])
      refine WpG.takeD 27 (some 82) rfl rfl (by kernel_rfl) (fun _ _ _ h => h) (.call rfl (fun wz hwz => HTS.out wz (hwz.1.1.1.1)) (fun wz hwz => ?_)) ?_
      · go_simp; try (with_reducible rfl)
      (simp only [Act.put]); (try simp only [List.setIfInBounds_toArray]); (try simp only [List.set_cons_succ]); (try simp only [List.set_cons_zero])
      refine WpG.takeD 28 (some 83) rfl rfl (by kernel_rfl) (fun _ _ _ h => h) (.call rfl (fun wz hwz => ref_Same_eq _ _ _ _ wz (hwz.2).toE (hss.toE.later (hwz.1.1.1.1)) rfl) (fun wz hwz => ?_)) ?_
      · go_simp; try (with_reducible rfl)
      (simp only [Act.put]); (try simp only [List.setIfInBounds_toArray]); (try simp only [List.set_cons_succ]); (try simp only [List.set_cons_zero])
      refine WpG.takeD 29 (some 84) (v := ?_) rfl rfl (by kernel_rfl) (fun _ _ _ h => h) (.val rfl (fun wz hwz => ?_)) ?_
      rotate_left
      · go_simp; try (with_reducible rfl)
      (simp only [Act.put]); (try simp only [List.setIfInBounds_toArray]); (try simp only [List.set_cons_succ]); (try simp only [List.set_cons_zero])
      refine WpG.takeD 30 (some 85) (v := ?_) rfl rfl (by kernel_rfl) (fun _ _ _ h => h) (.val rfl (fun wz hwz => ?_)) ?_
      rotate_left
      · go_simp; try (with_reducible rfl)
      (simp only [Act.put]); (try simp only [List.setIfInBounds_toArray]); (try simp only [List.set_cons_succ]); (try simp only [List.set_cons_zero])
      refine WpG.takeD 31 (some 86) (v := ?_) rfl rfl (by kernel_rfl) (fun _ _ _ h => h) (.val rfl (fun wz hwz => ?_)) ?_
      rotate_left
      · go_simp; try (with_reducible rfl)
      (simp only [Act.put]); (try simp only [List.setIfInBounds_toArray]); (try simp only [List.set_cons_succ]); (try simp only [List.set_cons_zero])
      refine WpG.takeD 32 (some 87) (v := ?_) rfl rfl (by kernel_rfl) (fun _ _ _ h => h) (.val rfl (fun wz hwz => ?_)) ?_
      rotate_left
      · go_simp; try (with_reducible rfl)
      (simp only [Act.put]); (try simp only [List.setIfInBounds_toArray]); (try simp only [List.set_cons_succ]); (try simp only [List.set_cons_zero])
      refine WpG.takeD 33 (some 88) (v := ?_) rfl rfl (by kernel_rfl) (fun _ _ _ h => h) (.val rfl (fun wz hwz => ?_)) ?_
      rotate_left
      · (obtain ⟨hcz, hfz⟩ := bcell (hwz.1.1.1.1); go_simp; try (with_reducible rfl))
      (simp only [Act.put]); (try simp only [List.setIfInBounds_toArray]); (try simp only [List.set_cons_succ]); (try simp only [List.set_cons_zero])
      refine WpG.takeD 34 (some 89) rfl rfl (by kernel_rfl) (fun _ _ _ h => h) (.call rfl (fun wz hwz => HAT.out wz (hwz.1.1.1.1)) (fun wz hwz => ?_)) ?_
      · go_simp; try (with_reducible rfl)
      (simp only [Act.put]); (try simp only [List.setIfInBounds_toArray]); (try simp only [List.set_cons_succ]); (try simp only [List.set_cons_zero])
      refine WpG.takeD 35 (some 90) (v := ?_) rfl rfl (by kernel_rfl) (fun _ _ _ h => h) (.val rfl (fun wz hwz => ?_)) ?_
      rotate_left
      · go_simp; try (with_reducible rfl)
      (simp only [Act.put]); (try simp only [List.setIfInBounds_toArray]); (try simp only [List.set_cons_succ]); (try simp only [List.set_cons_zero])
      refine WpG.takeD 36 (some 91) (v := ?_) rfl rfl (by kernel_rfl) (fun _ _ _ h => h) (.val rfl (fun wz hwz => ?_)) ?_
      rotate_left
      · go_simp; try (with_reducible rfl)
      (simp only [Act.put]); (try simp only [List.setIfInBounds_toArray]); (try simp only [List.set_cons_succ]); (try simp only [List.set_cons_zero])
      refine WpG.takeD 37 (some 92) (v := ?_) rfl rfl (by kernel_rfl) (fun _ _ _ h => h) (.val rfl (fun wz hwz => ?_)) ?_
      rotate_left
      · (obtain ⟨hcz, hfz⟩ := bcell (hwz.1.1.1.1); go_simp; try (with_reducible rfl))
      (simp only [Act.put]); (try simp only [List.setIfInBounds_toArray]); (try simp only [List.set_cons_succ]); (try simp only [List.set_cons_zero])
      refine WpG.takeD 38 (some 93) rfl rfl (by kernel_rfl) (fun _ _ _ h => h) (.call rfl (fun wz hwz => HRT.out wz (hwz.1.1.1.1)) (fun wz hwz => ?_)) ?_
      · go_simp; try (with_reducible rfl)
      (simp only [Act.put]); (try simp only [List.setIfInBounds_toArray]); (try simp only [List.set_cons_succ]); (try simp only [List.set_cons_zero])
      refine WpG.takeD 39 (some 94) (v := ?_) rfl rfl (by kernel_rfl) (fun _ _ _ h => h) (.val rfl (fun wz hwz => ?_)) ?_
      rotate_left
      · go_simp; try (with_reducible rfl)
      (simp only [Act.put]); (try simp only [List.setIfInBounds_toArray]); (try simp only [List.set_cons_succ]); (try simp only [List.set_cons_zero])
      refine WpG.takeD 40 (some 95) (v := ?_) rfl rfl (by kernel_rfl) (fun _ _ _ h => h) (.val rfl (fun wz hwz => ?_)) ?_
      rotate_left
      · go_simp; try (with_reducible rfl)
      (simp only [Act.put]); (try simp only [List.setIfInBounds_toArray]); (try simp only [List.set_cons_succ]); (try simp only [List.set_cons_zero])
      refine WpG.takeD 41 (some 96) (v := ?_) rfl rfl (by kernel_rfl) (fun _ _ _ h => h) (.val rfl (fun wz hwz => ?_)) ?_
      rotate_left
      · go_simp; try (with_reducible rfl)
      (simp only [Act.put]); (try simp only [List.setIfInBounds_toArray]); (try simp only [List.set_cons_succ]); (try simp only [List.set_cons_zero])
      refine WpG.takeD 42 (some 97) (v := ?_) rfl rfl (by kernel_rfl) (fun _ _ _ h => h) (.val rfl (fun wz hwz => ?_)) ?_
      rotate_left
      · go_simp; try (with_reducible rfl)
      (simp only [Act.put]); (try simp only [List.setIfInBounds_toArray]); (try simp only [List.set_cons_succ]); (try simp only [List.set_cons_zero])
      refine WpG.takeD 44 (some 99) (v := ?_) rfl rfl (by kernel_rfl) (fun _ _ _ h => h) (.val rfl (fun wz hwz => ?_)) ?_
      rotate_left
      · go_simp; try (with_reducible rfl)
      (simp only [Act.put]); (try simp only [List.setIfInBounds_toArray]); (try simp only [List.set_cons_succ]); (try simp only [List.set_cons_zero])
      refine WpG.oneD 43 (some 98) rfl rfl (by kernel_rfl) (fun u : Option Addr × Nat => Value.slice u.1 PT.length u.2) (fun u wz => SlK wz wz.heap.size (.slice u.1 PT.length u.2) PT) (fun _ _ _ h hb => h.later hb) (Fresh.call rfl (fun wz hwz => HPT.out wz (hwz.1.1.1.1)) (fun wz hwz => by go_simp; try (with_reducible rfl))) (fun u5 w0u5 hw0u5 hR0u5 => ?_)
      (simp only [Act.put]); (try simp only [List.setIfInBounds_toArray]); (try simp only [List.set_cons_succ]); (try simp only [List.set_cons_zero])
      refine WpG.takeD 45 (some 100) rfl rfl (by kernel_rfl) (fun _ _ _ h => h) (.call rfl (fun wz hwz => HTP.out wz (hwz.1.1.1.1.1)) (fun wz hwz => ?_)) ?_
      · go_simp; try (with_reducible rfl)
      (simp only [Act.put]); (try simp only [List.setIfInBounds_toArray]); (try simp only [List.set_cons_succ]); (try simp only [List.set_cons_zero])
      refine WpG.takeD 46 (some 101) rfl rfl (by kernel_rfl) (fun _ _ _ h => h) (.call rfl (fun wz hwz => ref_Same_eq _ _ _ _ wz (hwz.2).toE (hst.toE.later (hwz.1.1.1.1.1)) rfl) (fun wz hwz => ?_)) ?_
      · go_simp; try (with_reducible rfl)
      (simp only [Act.put]); (try simp only [List.setIfInBounds_toArray]); (try simp only [List.set_cons_succ]); (try simp only [List.set_cons_zero])
      refine WpG.takeD 47 (some 102) (v := ?_) rfl rfl (by kernel_rfl) (fun _ _ _ h => h) (.val rfl (fun wz hwz => ?_)) ?_
      rotate_left
      · go_simp; try (with_reducible rfl)
      (simp only [Act.put]); (try simp only [List.setIfInBounds_toArray]); (try simp only [List.set_cons_succ]); (try simp only [List.set_cons_zero])
      refine WpG.takeD 48 (some 103) (v := ?_) rfl rfl (by kernel_rfl) (fun _ _ _ h => h) (.val rfl (fun wz hwz => ?_)) ?_
      rotate_left
      · go_simp; try (with_reducible rfl)
      (simp only [Act.put]); (try simp only [List.setIfInBounds_toArray]); (try simp only [List.set_cons_succ]); (try simp only [List.set_cons_zero])
      refine WpG.takeD 49 (some 104) (v := ?_) rfl rfl (by kernel_rfl) (fun _ _ _ h => h) (.val rfl (fun wz hwz => ?_)) ?_
      rotate_left
      · go_simp; try (with_reducible rfl)
      (simp only [Act.put]); (try simp only [List.setIfInBounds_toArray]); (try simp only [List.set_cons_succ]); (try simp only [List.set_cons_zero])
      refine WpG.takeD 50 (some 105) rfl rfl (by kernel_rfl) (fun _ _ _ h => h) (.call rfl (fun wz hwz => HDG.out wz (hwz.1.1.1.1.1)) (fun wz hwz => ?_)) ?_
      · go_simp; try (with_reducible rfl)
      (simp only [Act.put]); (try simp only [List.setIfInBounds_toArray]); (try simp only [List.set_cons_succ]); (try simp only [List.set_cons_zero])
      refine WpG.takeD 51 (some 106) (v := ?_) rfl rfl (by kernel_rfl) (fun _ _ _ h => h) (.val rfl (fun wz hwz => ?_)) ?_
      rotate_left
      · go_simp; try (with_reducible rfl)
      (simp only [Act.put]); (try simp only [List.setIfInBounds_toArray]); (try simp only [List.set_cons_succ]); (try simp only [List.set_cons_zero])
      refine WpG.takeD 52 (some 107) rfl rfl (by kernel_rfl) (fun _ _ _ h => h) (.call rfl (fun wz hwz => HTP.out wz (hwz.1.1.1.1.1)) (fun wz hwz => ?_)) ?_
      · go_simp; try (with_reducible rfl)
      (simp only [Act.put]); (try simp only [List.setIfInBounds_toArray]); (try simp only [List.set_cons_succ]); (try simp only [List.set_cons_zero])
      refine WpG.takeD 53 (some 108) (v := ?_) rfl rfl (by kernel_rfl) (fun _ _ _ h => h) (.val rfl (fun wz hwz => ?_)) ?_
      rotate_left
      · go_simp; try (with_reducible rfl)
      (simp only [Act.put]); (try simp only [List.setIfInBounds_toArray]); (try simp only [List.set_cons_succ]); (try simp only [List.set_cons_zero])
      refine WpG.takeD 54 (some 109) (v := ?_) rfl rfl (by kernel_rfl) (fun _ _ _ h => h) (.val rfl (fun wz hwz => ?_)) ?_
      rotate_left
      · go_simp; try (with_reducible rfl)
      (simp only [Act.put]); (try simp only [List.setIfInBounds_toArray]); (try simp only [List.set_cons_succ]); (try simp only [List.set_cons_zero])
      refine WpG.takeD 55 (some 110) (v := ?_) rfl rfl (by kernel_rfl) (fun _ _ _ h => h) (.val rfl (fun wz hwz => ?_)) ?_
      rotate_left
      · go_simp; try (with_reducible rfl)
      (simp only [Act.put]); (try simp only [List.setIfInBounds_toArray]); (try simp only [List.set_cons_succ]); (try simp only [List.set_cons_zero])
      refine WpG.takeD 56 (some 111) (v := ?_) rfl rfl (by kernel_rfl) (fun _ _ _ h => h) (.val rfl (fun wz hwz => ?_)) ?_
      rotate_left
      · go_simp; try (with_reducible rfl)
      (simp only [Act.put]); (try simp only [List.setIfInBounds_toArray]); (try simp only [List.set_cons_succ]); (try simp only [List.set_cons_zero])
      refine WpG.done (by kernel_rfl) (fun w8 hS => ?_)
      (try simp only [List.drop_succ_cons]); (try simp only [List.drop_zero]); (try simp only [Nat.reduceSub]); (try simp only [List.take_succ_cons]); (try simp only [List.take_zero])
      obtain ⟨⟨⟨⟨⟨hb8, _⟩, _⟩, _⟩, _⟩, _⟩ := hS
      replace hb00 := bl_call hb00 (Nat.le_refl _) hb8
      clear hb8 hx9
      go_wp2_with fail
      go_ret
      exact ⟨rfl, hb00⟩

end Go.Proofs.YtfhmineolncefaaDoor
