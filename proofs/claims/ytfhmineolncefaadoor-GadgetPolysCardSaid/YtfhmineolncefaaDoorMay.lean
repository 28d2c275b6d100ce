/-
  WALKS, OF WHATEVER LIMBS: slices.Clone, poly.Trim, poly.direct, poly.At.
-/
/-
  WALKS, OF WHATEVER LIMBS: poly.Mul, poly.Add, poly.Scale.
-/
/-
  WALKS, OF WHATEVER LIMBS: poly.Add, poly.Scale, poly.Through.
-/
import Derived.Test.YtfhmineolncefaaDoorMaw
import Derived.Test.YtfhmineolncefaaDoorMar
import Derived.Test.YtfhmineolncefaaDoorMag
import Derived.Test.YtfhmineolncefaaDoorMas
namespace Go.Proofs.YtfhmineolncefaaDoor
open Go.RowKit Fm
set_option linter.unusedVariables false
set_option maxRecDepth 100000

theorem own_slE {w : World} {base n c : Nat} {A : Option Addr} {l : List E} (hn : l.length = n) (h : w.ownsRow base 28 2 (.slice A n c) n (cellsE l)) (ok : OkL l) : SlE w w.heap.size (.slice A n c) l := by
  subst hn
  exact SlE.of_own h ok

set_option maxHeartbeats 2000000 in
theorem slices_Clone_E (vl : Value) (l : List E) (w : World) (hs : SlE w w.heap.size vl l) (hn : l.length ≤ 1000000) :
    Calls Tryd.prog 74 #[vl] w fun e w' => ∃ v, e = .returned v ∧ w'.ownsRow w.heap.size 28 2 v l.length (cellsE l) ∧ Below w.heap.size w w' := by
  obtain ⟨⟨A, c, rfl, hc, hcm, hA⟩, _⟩ := hs
  cases A with
  | none =>
    have hl : l = [] := by
      cases l with
      | nil => rfl
      | cons a l =>
        obtain ⟨b, o, h, _⟩ := hA (by simp)
        cases h
    subst hl
    have hnil := Lib.run_eql_slice_nil (P := Tryd.prog)
    go_enter Tryd.func74, Tryd.ntmps74
    go_wp2
    go_ret
    exact ⟨_, rfl, World.ownsRow_nil _ _ _ _, Below.refl _ _⟩
  | some p =>
    have hown0 : (w.alloc (.cells #[] 28)).ownsRow w.heap.size 28 2 (.slice (some ⟨w.heap.size, 0, none⟩) 0 0) 0 (cellsE []) := World.ownsRow_made w #[] 0 (Nat.le_refl _) (by unfold maxLen; omega) rfl
    have hb1 : Below w.heap.size w (w.alloc (.cells #[] 28)) := (Below.refl _ _).alloc (Nat.le_refl _) _
    have HYR : Hid (0 < l.length → ∃ b o, (some p : Option Addr) = some ⟨b, o, none⟩ ∧ RowE (w.alloc (.cells #[] 28)) b o l) := by
      intro h
      obtain ⟨b, o, h1, h2, h3⟩ := hA h
      exact ⟨b, o, h1, h3.below hb1 h2⟩
    have hnil := Lib.run_eql_slice_nil (P := Tryd.prog)
    have HW := Lib.hid hown0
    clear hA hown0
    go_enter Tryd.func74, Tryd.ntmps74
    go_wp2_with (at_builtin; (refine wpList_append_E rfl (.tmp 5) (.tmp 6) rfl w.heap.size _ 0 [] rfl HW.out (some p) l.length c l rfl rfl HYR.out (by omega) (by simp) ?_; intro v2 w2 hown2 hg2 hat2; have hb2 : Below w.heap.size w w2 := hb1.trans ((Below.refl _ _).grown hg2 (by simp) (fun k hk => Nat.le_of_eq (Option.some.inj hk)))))
    go_ret
    exact ⟨_, rfl, by simpa using hown2, hb2⟩

set_option maxHeartbeats 4000000 in
theorem poly_Trim_E (vl : Value) (l : List E) (w : World) (hs : SlE w w.heap.size vl l) (hn : l.length ≤ 1000000) :
    Calls Tryd.prog 40 #[vl] w (RetOwnE l.length w) := by
  have H0 := Lib.hid hs
  have heq := eql_elem
  have hok : OkL l := hs.2
  have HOK := Lib.hid hok
  obtain ⟨⟨A, c, rfl, hc, hcm, hA⟩, _⟩ := hs
  have HA := Lib.hid hA
  clear hA hok
  go_enter Tryd.func40, Tryd.ntmps40
  go_wp2
  go_loop [3] (fun nv => ∃ n : Nat, n ≤ l.length ∧ nv = .int .i64 n) (fun nv => (intOf nv).toNat)
  case atStart => exact ⟨l.length, Nat.le_refl _, rfl⟩
  case round =>
    obtain ⟨n, hnl, rfl⟩ := hrel
    by_cases hn0 : n = 0
    · subst hn0
      have HS : Hid (SlE w w.heap.size (.slice A 0 c) (l.take 0)) := H0.out.takeN hnl
      have HTL : Hid ((l.take 0).length = 0) := by show _ = _; rw [List.length_take]; omega
      have HTL2 : Hid ((l.take 0).length ≤ 1000000) := by show _ ≤ _; rw [List.length_take]; omega
      go_wp2_with fail
      refine (slices_Clone_E _ (l.take 0) w HS.out HTL2.out).mono ?_
      rintro e w1 ⟨v, rfl, ho, hb1⟩
      go_wp2
      go_ret
      exact ⟨_, l.take 0, rfl, ho, by rw [HTL.out]; exact hnl, HOK.out.take _, hb1⟩
    · obtain ⟨m, rfl⟩ : ∃ m, n = m + 1 := ⟨n - 1, by omega⟩
      obtain ⟨⟨x0, x1⟩, hx⟩ : ∃ x, l[m]? = some x := ⟨_, List.getElem?_eq_getElem (by omega)⟩
      obtain ⟨b, o, hAe, hB, hrow⟩ := HA.out (by omega)
      obtain ⟨c0, c1⟩ := hrow m _ hx
      dsimp only at c0 c1
      have hml : m < l.length := by omega
      have g1 : (0 : Int) ≤ (m : Int) := by omega
      have g2 : (m : Int) < (l.length : Int) := by omega
      clear hx hrow
      rcases Bool.eq_false_or_eq_true (x0 == 0 && x1 == 0) with hbx | hbx
      · subst hAe
        go_wp2
        go_round
        case rel => exact ⟨m, by omega, by go_num⟩
        case measure => simp [intOf]
      · subst hAe
        have HS : Hid (SlE w w.heap.size (.slice (some ⟨b, o, none⟩) (m + 1) c) (l.take (m + 1))) := H0.out.takeN hnl
        have HTL : Hid ((l.take (m + 1)).length = (m + 1)) := by show _ = _; rw [List.length_take]; omega
        have HTL2 : Hid ((l.take (m + 1)).length ≤ 1000000) := by show _ ≤ _; rw [List.length_take]; omega
        go_wp2_with fail
        refine (slices_Clone_E _ (l.take (m + 1)) w HS.out HTL2.out).mono ?_
        rintro e w1 ⟨v, rfl, ho, hb1⟩
        go_wp2
        go_ret
        exact ⟨_, l.take (m + 1), rfl, ho, by rw [HTL.out]; exact hnl, HOK.out.take _, hb1⟩

section
variable {f : Nat} (hf : IsF f)
include hf

set_option maxHeartbeats 8000000 in
theorem poly_direct_E (va vb : Value) (a b : List E) (w : World) (ha : SlE w w.heap.size va a) (hb : SlE w w.heap.size vb b) (ha0 : 0 < a.length) (hb0 : 0 < b.length) (hal : a.length ≤ 400000) (hbl : b.length ≤ 400000) :
    Calls Tryd.prog 69 #[.int .u8 f, va, vb] w (RetBlkE (a.length + b.length - 1) w) := by
  have hfb0 : (1 : Int) ≤ (f : Int) := by rcases hf.or with rfl | rfl <;> omega
  have hfb1 : (f : Int) ≤ 2 := by rcases hf.or with rfl | rfl <;> omega
  have hoka : OkL a := ha.2
  have HOKA := Lib.hid hoka
  have hokb : OkL b := hb.2
  have HOKB := Lib.hid hokb
  obtain ⟨⟨A, c, rfl, hc, hcm, hA⟩, _⟩ := ha
  obtain ⟨⟨B, d, rfl, hd, hdm, hB⟩, _⟩ := hb
  obtain ⟨b1, o1, rfl, hbw1, hrow1⟩ := hA ha0
  obtain ⟨b2, o2, rfl, hbw2, hrow2⟩ := hB hb0
  obtain ⟨N, hN⟩ : ∃ N, a.length + b.length - 1 = N := ⟨_, rfl⟩
  have hN1 : (a.length : Int) + (b.length : Int) - 1 = (N : Int) := by omega
  have hN2 : N + 1 = a.length + b.length := by omega
  have hmk := make_elem N (by omega)
  rw [hN]
  have HR1 := Lib.hid hrow1
  have HR2 := Lib.hid hrow2
  clear hA hB hN hrow1 hrow2 hoka hokb
  go_enter Tryd.func69, Tryd.ntmps69
  go_upto_region 2 with fail
  have hB0 : RwE (w.alloc (.cells (cellsE (List.replicate N (0, 0))).toArray 28)) w.heap.size (List.replicate N (0, 0)) := BlkE.rwE (heap_alloc_new w _)
  have hb00 : Below w.heap.size w (w.alloc (.cells (cellsE (List.replicate N (0, 0))).toArray 28)) := by repeat (first | exact Below.refl _ _ | with_reducible assumption | (refine bl_alloc ?_ (Nat.le_refl _) _) | (refine bl_set ?_ (by dsimp only; omega) _) | (refine Below.drew ?_) | (refine bl_drewN ?_ _) | (refine bl_call ?_ (Nat.le_refl _) (by assumption)))
  generalize w.alloc (.cells (cellsE (List.replicate N (0, 0))).toArray 28) = w1 at hB0 hb00 ⊢
  have HL0 : Hid ((List.replicate N ((0, 0) : E)).length = N ∧ OkL (List.replicate N (0, 0))) := ⟨List.length_replicate, OkL.zeros N⟩
  generalize List.replicate N ((0, 0) : E) = S0 at hB0 HL0
  clear hmk
  go_wp2_with fail
  go_loopw [21] (fun kv wr => ∃ (I : Nat) (S : List E), I ≤ a.length ∧ kv = .int .i64 I ∧ RwE wr w.heap.size S ∧ Hid (S.length = N ∧ OkL S) ∧ Below w.heap.size w wr) (fun kv _ => a.length - (intOf kv).toNat)
  case atStart => exact ⟨0, S0, Nat.zero_le _, rfl, hB0, HL0, hb00⟩
  case round =>
    clear hB0 hb00 HL0 S0
    obtain ⟨I, S, hI, rfl, hR, HS, hb00⟩ := hrel
    by_cases hIa : I < a.length
    · obtain ⟨⟨x0, x1⟩, hx⟩ : ∃ x, a[I]? = some x := ⟨_, List.getElem?_eq_getElem hIa⟩
      have HX : Hid (okE (x0, x1)) := HOKA.out.at hx
      obtain ⟨d0, d1⟩ := (HR1.out.below hb00 hbw1) I _ hx
      dsimp only at d0 d1
      have hrl := hR.lt
      clear hx
      go_upto_region 5 with fail
      have xv := V2.new wr (.int .u64 x0) (.int .u64 x1) 28
      have hbA : Below wr.heap.size wr (wr.alloc (.cells #[.int .u64 x0, .int .u64 x1] 28)) := by repeat (first | exact Below.refl _ _ | with_reducible assumption | (refine bl_alloc ?_ (Nat.le_refl _) _))
      replace hb00 := bl_call hb00 (Nat.le_refl _) hbA
      replace hR := hR.call hbA
      clear hbA
      generalize wr.alloc (.cells #[.int .u64 x0, .int .u64 x1] 28) = w5 at hb00 hR xv ⊢
      obtain ⟨xb, hxb⟩ : ∃ q, wr.heap.size = q := ⟨_, rfl⟩
      rw [hxb] at xv hrl
      simp only [hxb]
      clear hxb d0 d1
      go_wp2_with fail
      go_loopw [28] (fun kv wi => ∃ (K : Nat) (S : List E), K ≤ b.length ∧ kv = .int .i64 K ∧ RwE wi w.heap.size S ∧ Hid (S.length = N ∧ OkL S) ∧ V2 wi xb (.int .u64 x0) (.int .u64 x1) ∧ Below w.heap.size w wi) (fun kv _ => b.length - (intOf kv).toNat)
      case atStart => exact ⟨0, S, Nat.zero_le _, rfl, hR, HS, xv, hb00⟩
      case round =>
        clear hR xv hb00 HS S
        obtain ⟨K, S, hK, rfl, hR, HS, xv, hb00⟩ := hrel
        by_cases hKb : K < b.length
        · obtain ⟨⟨y0, y1⟩, hy⟩ : ∃ y, b[K]? = some y := ⟨_, List.getElem?_eq_getElem hKb⟩
          have HY : Hid (okE (y0, y1)) := HOKB.out.at hy
          obtain ⟨d0, d1⟩ := (HR2.out.below hb00 hbw2) K _ hy
          dsimp only at d0 d1
          obtain ⟨q, hq⟩ : ∃ q, I + K = q := ⟨_, rfl⟩
          have hqN : q < N := by omega
          obtain ⟨⟨z0, z1⟩, hz⟩ : ∃ z, S[q]? = some z := ⟨_, List.getElem?_eq_getElem (by rw [HS.out.1]; exact hqN)⟩
          have HZ : Hid (okE (z0, z1)) := HS.out.2.at hz
          have HZX := Lib.hid hz
          have v1 : IntKind.i64.wrap (q : Int) = (q : Int) := IntWalk.i64_in _ (by omega)
          have v2 : (I : Int) + (K : Int) = (q : Int) := by omega
          have g1 : (0 : Int) ≤ (q : Int) := by omega
          have g3 : (q : Int) < (N : Int) := by omega
          obtain ⟨xy, hxy⟩ : ∃ z, kL f x0 x1 * kL f y0 y1 = z := ⟨_, rfl⟩
          obtain ⟨zz, hzz⟩ : ∃ z, kL f z0 z1 + xy = z := ⟨_, rfl⟩
          have HMU : Hid (∀ wz, Calls Tryd.prog 31 #[.int .u8 f, .agg #[.int .u64 x0, .int .u64 x1], .agg #[.int .u64 y0, .int .u64 y1]] wz (RetK xy wz)) := fun wz => by
            have h := field_MulE hf HX.out HY.out wz
            rwa [hxy] at h
          have HADD : Hid (∀ wz, Calls Tryd.prog 63 #[.int .u8 f, .agg #[.int .u64 z0, .int .u64 z1], vK xy] wz (RetK zz wz)) := fun wz => by
            have h := field_AddE hf HZ.out (okE_K xy) wz
            rwa [kL_lohi, hzz] at h
          clear hy hz hq hxy hzz
          go_upto_region 8 with fail
          have yv := V2.new wr (.int .u64 y0) (.int .u64 y1) 28
          have hbA : Below wr.heap.size wr (wr.alloc (.cells #[.int .u64 y0, .int .u64 y1] 28)) := by repeat (first | exact Below.refl _ _ | with_reducible assumption | (refine bl_alloc ?_ (Nat.le_refl _) _))
          replace hb00 := bl_call hb00 (Nat.le_refl _) hbA
          replace hR := hR.call hbA
          replace xv := xv.call hbA
          clear hbA
          generalize wr.alloc (.cells #[.int .u64 y0, .int .u64 y1] 28) = w6 at hb00 hR xv yv ⊢
          clear d0 d1
          obtain ⟨c0, c1⟩ := hR.at HZX.out
          dsimp only at c0 c1
          have g9 := hR.lt
          obtain ⟨xv0, xv1, xv2, xv3, xv4⟩ := V2.mk xv.c0 xv.c1 xv.f0 xv.f1 xv.lt
          obtain ⟨yv0, yv1, yv2, yv3, yv4⟩ := V2.mk yv.c0 yv.c1 yv.f0 yv.f1 yv.lt
          refine region_B (n := 16) (m := 18) (f := 16) (by kernel_rfl) (by kernel_rfl) rfl ?_
          refine WpH.takeD 0 (some 33) (v := ?_) rfl rfl (by kernel_rfl) (fun _ _ _ h => h) (.val rfl (fun wz hwz => ?_)) ?_
          rotate_left
          · go_simp; try (with_reducible rfl)
          (simp only [Act.put]); (try simp only [List.setIfInBounds_toArray]); (try simp only [List.set_cons_succ]); (try simp only [List.set_cons_zero])
          refine WpH.takeD 1 (some 34) (v := ?_) rfl rfl (by kernel_rfl) (fun _ _ _ h => h) (.val rfl (fun wz hwz => ?_)) ?_
          rotate_left
          · go_simp; try (with_reducible rfl)
          (simp only [Act.put]); (try simp only [List.setIfInBounds_toArray]); (try simp only [List.set_cons_succ]); (try simp only [List.set_cons_zero])
          refine WpH.takeD 2 (some 35) (v := ?_) rfl rfl (by kernel_rfl) (fun _ _ _ h => h) (.val rfl (fun wz hwz => ?_)) ?_
          rotate_left
          · go_simp; try (with_reducible rfl)
          (simp only [Act.put]); (try simp only [List.setIfInBounds_toArray]); (try simp only [List.set_cons_succ]); (try simp only [List.set_cons_zero])
          refine WpH.takeD 3 (some 36) (v := ?_) rfl rfl (by kernel_rfl) (fun _ _ _ h => h) (.val rfl (fun wz hwz => ?_)) ?_
          rotate_left
          · go_simp; try (with_reducible rfl)
          (simp only [Act.put]); (try simp only [List.setIfInBounds_toArray]); (try simp only [List.set_cons_succ]); (try simp only [List.set_cons_zero])
          refine WpH.takeD 4 (some 37) (v := ?_) rfl rfl (by kernel_rfl) (fun _ _ _ h => h) (.val rfl (fun wz hwz => ?_)) ?_
          rotate_left
          · go_simp; try (with_reducible rfl)
          (simp only [Act.put]); (try simp only [List.setIfInBounds_toArray]); (try simp only [List.set_cons_succ]); (try simp only [List.set_cons_zero])
          refine WpH.takeD 5 (some 38) (v := ?_) rfl rfl (by kernel_rfl) (fun _ _ _ h => h) (.val rfl (fun wz hwz => ?_)) ?_
          rotate_left
          · go_simp; try (with_reducible rfl)
          (simp only [Act.put]); (try simp only [List.setIfInBounds_toArray]); (try simp only [List.set_cons_succ]); (try simp only [List.set_cons_zero])
          refine WpH.takeD 6 (some 39) (v := ?_) rfl rfl (by kernel_rfl) (fun _ _ _ h => h) (.val rfl (fun wz hwz => ?_)) ?_
          rotate_left
          · go_simp; try (with_reducible rfl)
          (simp only [Act.put]); (try simp only [List.setIfInBounds_toArray]); (try simp only [List.set_cons_succ]); (try simp only [List.set_cons_zero])
          refine WpH.takeD 7 (some 40) (v := ?_) rfl rfl (by kernel_rfl) (fun _ _ _ h => h) (.val rfl (fun wz hwz => ?_)) ?_
          rotate_left
          · go_simp; try (with_reducible rfl)
          (simp only [Act.put]); (try simp only [List.setIfInBounds_toArray]); (try simp only [List.set_cons_succ]); (try simp only [List.set_cons_zero])
          refine WpH.takeD 8 (some 41) (v := ?_) rfl rfl (by kernel_rfl) (fun _ _ _ h => h) (.val rfl (fun wz hwz => ?_)) ?_
          rotate_left
          · go_simp; try (with_reducible rfl)
          (simp only [Act.put]); (try simp only [List.setIfInBounds_toArray]); (try simp only [List.set_cons_succ]); (try simp only [List.set_cons_zero])
          refine WpH.takeD 9 (some 42) (v := ?_) rfl rfl (by kernel_rfl) (fun _ _ _ h => h) (.val rfl (fun wz hwz => ?_)) ?_
          rotate_left
          · go_simp; try (with_reducible rfl)
          (simp only [Act.put]); (try simp only [List.setIfInBounds_toArray]); (try simp only [List.set_cons_succ]); (try simp only [List.set_cons_zero])
          refine WpH.takeD 10 (some 43) (v := ?_) rfl rfl (by kernel_rfl) (fun _ _ _ h => h) (.val rfl (fun wz hwz => ?_)) ?_
          rotate_left
          · (obtain ⟨hcz, hfz⟩ := bcell hwz; go_simp; try (with_reducible rfl))
          (simp only [Act.put]); (try simp only [List.setIfInBounds_toArray]); (try simp only [List.set_cons_succ]); (try simp only [List.set_cons_zero])
          refine WpH.takeD 11 (some 44) (v := ?_) rfl rfl (by kernel_rfl) (fun _ _ _ h => h) (.val rfl (fun wz hwz => ?_)) ?_
          rotate_left
          · go_simp; try (with_reducible rfl)
          (simp only [Act.put]); (try simp only [List.setIfInBounds_toArray]); (try simp only [List.set_cons_succ]); (try simp only [List.set_cons_zero])
          refine WpH.takeD 12 (some 45) (v := ?_) rfl rfl (by kernel_rfl) (fun _ _ _ h => h) (.val rfl (fun wz hwz => ?_)) ?_
          rotate_left
          · (obtain ⟨hcz, hfz⟩ := bcell hwz; go_simp; try (with_reducible rfl))
          (simp only [Act.put]); (try simp only [List.setIfInBounds_toArray]); (try simp only [List.set_cons_succ]); (try simp only [List.set_cons_zero])
          refine WpH.takeD 13 (some 46) (v := ?_) rfl rfl (by kernel_rfl) (fun _ _ _ h => h) (.val rfl (fun wz hwz => ?_)) ?_
          rotate_left
          · (obtain ⟨hcz, hfz⟩ := bcell hwz; go_simp; try (with_reducible rfl))
          (simp only [Act.put]); (try simp only [List.setIfInBounds_toArray]); (try simp only [List.set_cons_succ]); (try simp only [List.set_cons_zero])
          refine WpH.takeD 14 (some 47) rfl rfl (by kernel_rfl) (fun _ _ _ h => h) (.call rfl (fun wz hwz => HMU.out wz) (fun wz hwz => ?_)) ?_
          · go_simp; try (with_reducible rfl)
          (simp only [Act.put]); (try simp only [List.setIfInBounds_toArray]); (try simp only [List.set_cons_succ]); (try simp only [List.set_cons_zero])
          refine WpH.takeD 15 (some 48) rfl rfl (by kernel_rfl) (fun _ _ _ h => h) (.call rfl (fun wz hwz => HADD.out wz) (fun wz hwz => ?_)) ?_
          · go_simp; try (with_reducible rfl)
          (simp only [Act.put]); (try simp only [List.setIfInBounds_toArray]); (try simp only [List.set_cons_succ]); (try simp only [List.set_cons_zero])
          refine WpH.doneB (by kernel_rfl) (fun w7 hw7 => ?_)
          (try simp only [List.drop_succ_cons]); (try simp only [List.drop_zero]); (try simp only [Nat.reduceSub]); (try simp only [List.take_succ_cons]); (try simp only [List.take_zero])
          clear xv0 xv1 xv2 xv3 xv4 yv0 yv1 yv2 yv3 yv4
          clear c0 c1 g9
          replace hb00 := bl_call hb00 (Nat.le_refl _) hw7
          replace hR := hR.call hw7
          replace xv := xv.call hw7
          clear hw7 yv
          obtain ⟨c0, c1⟩ := hR.at HZX.out
          obtain ⟨f0, f1⟩ := hR.frz (i := q) (by rw [HS.out.1]; exact hqN)
          have g9 := hR.lt
          go_wp2_with fail
          go_roundw
          case rel => exact ⟨K + 1, _, by omega, by go_num, hR.set q (by rw [HS.out.1]; exact hqN) (lo zz) (hi zz), ⟨by rw [List.length_set]; exact HS.out.1, HS.out.2.set _ (okE_K zz)⟩, V2.setOther (V2.setOther xv (by dsimp only; omega) _) (by dsimp only; omega) _, by repeat (first | exact Below.refl _ _ | with_reducible assumption | (refine bl_alloc ?_ (Nat.le_refl _) _) | (refine bl_set ?_ (by dsimp only; omega) _) | (refine Below.drew ?_) | (refine bl_drewN ?_ _) | (refine bl_call ?_ (Nat.le_refl _) (by assumption)))⟩
          case measure => simp [intOf]; omega
        · obtain hKe : K = b.length := by omega
          subst hKe
          go_wp2_with fail
          go_roundw
          case rel => exact ⟨I + 1, S, by omega, by go_num, hR, HS, hb00⟩
          case measure => simp [intOf]; omega
    · obtain hIe : I = a.length := by omega
      subst hIe
      have HRR := Lib.hid hR
      clear hR
      go_wp2_with fail
      go_ret
      exact ⟨w.heap.size, S, rfl, HRR.out, HS.out.1, HS.out.2, Nat.le_refl _, hb00⟩

set_option maxHeartbeats 4000000 in
theorem poly_At_E (vp : Value) (p : List E) (x0 x1 : Int) (hx : okE (x0, x1)) (w : World) (hp : SlE w w.heap.size vp p) (hn : p.length ≤ 1099511627776) :
    Calls Tryd.prog 30 #[.int .u8 f, vp, .agg #[.int .u64 x0, .int .u64 x1]] w (RetK (horner (kL f x0 x1) (p.map (kE f))) w) := by
  have hok : OkL p := hp.2
  have HOK := Lib.hid hok
  obtain ⟨x, hxk⟩ : ∃ x, kL f x0 x1 = x := ⟨_, rfl⟩
  have HMX : Hid (∀ (s t : Fin (Pm f)) wz, s * x = t → Calls Tryd.prog 31 #[.int .u8 f, vK s, .agg #[.int .u64 x0, .int .u64 x1]] wz (RetK t wz)) := fun s t wz ht => by
    have h := field_MulE hf (okE_K s) hx wz
    rwa [kL_lohi, hxk, ht] at h
  obtain ⟨⟨A, c, rfl, hc, hcm, hA⟩, _⟩ := hp
  obtain ⟨q, hq⟩ : ∃ q : KL f, p.map (kE f) = q := ⟨_, rfl⟩
  have HQL : Hid (q.length = p.length) := by show _ = _; rw [← hq, List.length_map]
  have HQ : Hid (∀ k y0 y1, p[k]? = some (y0, y1) → q[k]? = some (kL f y0 y1)) := fun k y0 y1 h => by rw [← hq, List.getElem?_map, h]; rfl
  rw [hq, hxk]
  clear hok hx hxk hq
  go_enter Tryd.func30, Tryd.ntmps30
  go_wp2
  go_loopw [8] (fun i wr => ∃ k : Nat, k ≤ p.length ∧ i = .int .i64 ((k : Int) - 1) ∧ V2 wr w.heap.size (.int .u64 x0) (.int .u64 x1) ∧ V2 wr (w.heap.size + 1) (.int .u64 0) (.int .u64 0) ∧
      V2 wr (w.heap.size + 1 + 1) (.int .u64 (lo (horner x (q.drop k)))) (.int .u64 (hi (horner x (q.drop k)))) ∧ Below w.heap.size w wr) (fun i _ => (intOf i + 1).toNat)
  case atStart =>
    refine ⟨p.length, Nat.le_refl _, rfl, ((V2.new w _ _ 28).alloc _).alloc _, ?_, ?_, by repeat (first | exact Below.refl _ _ | with_reducible assumption | (refine bl_alloc ?_ (Nat.le_refl _) _) | (refine bl_set ?_ (by dsimp only; omega) _) | (refine Below.drew ?_) | (refine bl_drewN ?_ _) | (refine bl_call ?_ (Nat.le_refl _) (by assumption)))⟩
    · have h := (V2.new (w.alloc (.cells #[.int .u64 x0, .int .u64 x1] 28)) (.int .u64 0) (.int .u64 0) 28).alloc (.cells #[.int .u64 0, .int .u64 0] 28)
      simpa only [World.size_alloc] using h
    · have h := V2.new ((w.alloc (.cells #[.int .u64 x0, .int .u64 x1] 28)).alloc (.cells #[.int .u64 0, .int .u64 0] 28)) (.int .u64 0) (.int .u64 0) 28
      rw [← HQL.out, List.drop_length, show horner x ([] : KL f) = 0 from rfl, lo_zero, hi_zero]
      simpa only [World.size_alloc] using h
  case round =>
    obtain ⟨k, hk, rfl, hx, hz, hy, hbw⟩ := hrel
    by_cases hk0 : k = 0
    · subst hk0
      rw [List.drop_zero] at hy
      obtain ⟨y0, y1, y2, y3, y4⟩ := hy
      obtain ⟨z0, z1, z2, z3, z4⟩ := hz
      go_wp2
      refine bodyPost_ret (results_v2 (b := w.heap.size + 1) (u := .int .u64 (lo (horner x q))) (v := .int .u64 (hi (horner x q))) ?_ rfl rfl) rfl ?_
      · exact V2.set ⟨z0, z1, z2, z3, z4⟩ _ _
      · exact ⟨rfl, by repeat (first | exact Below.refl _ _ | with_reducible assumption | (refine bl_alloc ?_ (Nat.le_refl _) _) | (refine bl_set ?_ (by dsimp only; omega) _) | (refine Below.drew ?_) | (refine bl_drewN ?_ _) | (refine bl_call ?_ (Nat.le_refl _) (by assumption)))⟩
    · obtain ⟨k, rfl⟩ : ∃ j, k = j + 1 := ⟨k - 1, by omega⟩
      obtain ⟨b, o, rfl, hB, hr⟩ := hA (by omega)
      obtain ⟨⟨y0, y1⟩, he⟩ : ∃ e, p[k]? = some e := ⟨_, List.getElem?_eq_getElem (by omega)⟩
      have HY : Hid (okE (y0, y1)) := HOK.out.at he
      obtain ⟨c0, c1⟩ := (hr.below hbw hB) k _ he
      dsimp only at c0 c1
      have hst := horner_drop x q k (kL f y0 y1) (HQ.out k y0 y1 he)
      generalize horner x (q.drop (k + 1)) = s at *
      obtain ⟨sx, hsx⟩ : ∃ z, s * x = z := ⟨_, rfl⟩
      obtain ⟨sy, hsy⟩ : ∃ z, sx + kL f y0 y1 = z := ⟨_, rfl⟩
      rw [hsx, hsy] at hst
      have HST := Lib.hid hst
      have HMU : Hid (∀ wz, Calls Tryd.prog 31 #[.int .u8 f, vK s, .agg #[.int .u64 x0, .int .u64 x1]] wz (RetK sx wz)) := fun wz => HMX.out s sx wz hsx
      have HADD : Hid (∀ wz, Calls Tryd.prog 63 #[.int .u8 f, vK sx, .agg #[.int .u64 y0, .int .u64 y1]] wz (RetK sy wz)) := fun wz => by
        have h := field_AddE hf (okE_K sx) HY.out wz
        rwa [kL_lohi, hsy] at h
      clear he hr hA hsx hsy hst
      have hyy := hy
      obtain ⟨y0', y1', y2, y3, y4⟩ := hyy
      have hxx := hx
      obtain ⟨x0', x1', x2, x3, x4⟩ := hxx
      have hkl : k < p.length := by omega
      have hbl : b < wr.heap.size := Nat.lt_of_lt_of_le hB hbw.size
      go_wp2_with fail
      refine region_B (n := 10) (m := 11) (f := 10) (by kernel_rfl) (by kernel_rfl) rfl ?_
      refine WpH.takeD 0 (some 16) (v := ?_) rfl rfl (by kernel_rfl) (fun _ _ _ h => h) (.val rfl (fun wz hwz => ?_)) ?_
      rotate_left
      · go_simp; try (with_reducible rfl)
      (simp only [Act.put]); (try simp only [List.setIfInBounds_toArray]); (try simp only [List.set_cons_succ]); (try simp only [List.set_cons_zero])
      refine WpH.takeD 1 (some 17) (v := ?_) rfl rfl (by kernel_rfl) (fun _ _ _ h => h) (.val rfl (fun wz hwz => ?_)) ?_
      rotate_left
      · go_simp; try (with_reducible rfl)
      (simp only [Act.put]); (try simp only [List.setIfInBounds_toArray]); (try simp only [List.set_cons_succ]); (try simp only [List.set_cons_zero])
      refine WpH.takeD 2 (some 18) (v := ?_) rfl rfl (by kernel_rfl) (fun _ _ _ h => h) (.val rfl (fun wz hwz => ?_)) ?_
      rotate_left
      · (obtain ⟨hcz, hfz⟩ := bcell hwz; go_simp; try (with_reducible rfl))
      (simp only [Act.put]); (try simp only [List.setIfInBounds_toArray]); (try simp only [List.set_cons_succ]); (try simp only [List.set_cons_zero])
      refine WpH.takeD 3 (some 19) (v := ?_) rfl rfl (by kernel_rfl) (fun _ _ _ h => h) (.val rfl (fun wz hwz => ?_)) ?_
      rotate_left
      · (obtain ⟨hcz, hfz⟩ := bcell hwz; go_simp; try (with_reducible rfl))
      (simp only [Act.put]); (try simp only [List.setIfInBounds_toArray]); (try simp only [List.set_cons_succ]); (try simp only [List.set_cons_zero])
      refine WpH.takeD 4 (some 20) rfl rfl (by kernel_rfl) (fun _ _ _ h => h) (.call rfl (fun wz hwz => HMU.out wz) (fun wz hwz => ?_)) ?_
      · go_simp; try (with_reducible rfl)
      (simp only [Act.put]); (try simp only [List.setIfInBounds_toArray]); (try simp only [List.set_cons_succ]); (try simp only [List.set_cons_zero])
      refine WpH.takeD 5 (some 21) (v := ?_) rfl rfl (by kernel_rfl) (fun _ _ _ h => h) (.val rfl (fun wz hwz => ?_)) ?_
      rotate_left
      · go_simp; try (with_reducible rfl)
      (simp only [Act.put]); (try simp only [List.setIfInBounds_toArray]); (try simp only [List.set_cons_succ]); (try simp only [List.set_cons_zero])
      refine WpH.takeD 6 (some 22) (v := ?_) rfl rfl (by kernel_rfl) (fun _ _ _ h => h) (.val rfl (fun wz hwz => ?_)) ?_
      rotate_left
      · go_simp; try (with_reducible rfl)
      (simp only [Act.put]); (try simp only [List.setIfInBounds_toArray]); (try simp only [List.set_cons_succ]); (try simp only [List.set_cons_zero])
      refine WpH.takeD 7 (some 23) (v := ?_) rfl rfl (by kernel_rfl) (fun _ _ _ h => h) (.val rfl (fun wz hwz => ?_)) ?_
      rotate_left
      · go_simp; try (with_reducible rfl)
      (simp only [Act.put]); (try simp only [List.setIfInBounds_toArray]); (try simp only [List.set_cons_succ]); (try simp only [List.set_cons_zero])
      refine WpH.takeD 8 (some 24) (v := ?_) rfl rfl (by kernel_rfl) (fun _ _ _ h => h) (.val rfl (fun wz hwz => ?_)) ?_
      rotate_left
      · (obtain ⟨hcz, hfz⟩ := bcell hwz; go_simp; try (with_reducible rfl))
      (simp only [Act.put]); (try simp only [List.setIfInBounds_toArray]); (try simp only [List.set_cons_succ]); (try simp only [List.set_cons_zero])
      refine WpH.takeD 9 (some 25) rfl rfl (by kernel_rfl) (fun _ _ _ h => h) (.call rfl (fun wz hwz => HADD.out wz) (fun wz hwz => ?_)) ?_
      · go_simp; try (with_reducible rfl)
      (simp only [Act.put]); (try simp only [List.setIfInBounds_toArray]); (try simp only [List.set_cons_succ]); (try simp only [List.set_cons_zero])
      refine WpH.doneB (by kernel_rfl) (fun w6 hw6 => ?_)
      (try simp only [List.drop_succ_cons]); (try simp only [List.drop_zero]); (try simp only [Nat.reduceSub]); (try simp only [List.take_succ_cons]); (try simp only [List.take_zero])
      obtain ⟨y0', y1', y2, y3, y4⟩ := hy.call hw6
      have hx6 := hx.call hw6
      have hz6 := hz.call hw6
      go_wp2
      go_roundw
      case rel => exact ⟨k, by omega, by go_num, hx6.setOther (by dsimp only; omega) _ |>.setOther (by dsimp only; omega) _, hz6.setOther (by dsimp only; omega) _ |>.setOther (by dsimp only; omega) _, by rw [HST.out]; exact V2.set ⟨y0', y1', y2, y3, y4⟩ _ _, by repeat (first | exact Below.refl _ _ | with_reducible assumption | (refine bl_alloc ?_ (Nat.le_refl _) _) | (refine bl_set ?_ (by dsimp only; omega) _) | (refine Below.drew ?_) | (refine bl_drewN ?_ _) | (refine bl_call ?_ (Nat.le_refl _) (by assumption)))⟩
      case measure => simp [intOf]
end

end Go.Proofs.YtfhmineolncefaaDoor

namespace Go.Proofs.YtfhmineolncefaaDoor
open Go.RowKit Fm
set_option linter.unusedVariables false
set_option maxRecDepth 100000

theorem run_append_ZE (w : World) (base g n c k : Nat) (ty : TypeId) (l : List E) (hl : l.length = n) (hown : w.ownsRow base 28 2 (.slice (some ⟨g, 0, none⟩) n c) n (cellsE l)) (hbase : base ≤ w.heap.size) (hk : n + k ≤ 1099511627776) :
    ∃ g' c' w', (Builtin.append_ #[22, 3] ty #[.slice (some ⟨g, 0, none⟩) n c, .int .i64 (k : Int)]).run Tryd.prog w = .ok (.slice (some ⟨g', 0, none⟩) (n + k) c') w' ∧
      w'.ownsRow base 28 2 (.slice (some ⟨g', 0, none⟩) (n + k) c') (n + k) (cellsE (l ++ List.replicate k (0, 0))) ∧ Exc (fun q => q = g) w.heap.size w w' ∧ (g' = g ∨ w.heap.size ≤ g') := by
  subst hl
  obtain ⟨i, hi, hz, h1, h2⟩ := info_parts info_elem
  rw [cellsE_append]
  have hown0 := hown
  rcases hown.2 with ⟨hv, _⟩ | ⟨g0, cap, cur, hv, hbg, hgg, hnc, hcm, hcs, htake⟩
  · cases hv
  injection hv with e1 e2 e3
  injection e1 with e1
  injection e1 with e1
  subst e1
  subst e3
  have hlenz : (cellsE (List.replicate k ((0 : Int), (0 : Int)))).length = k * 2 := by rw [length_cellsE, List.length_replicate]
  have hlt := (Array.getElem?_eq_some_iff.1 hgg).1
  by_cases hk0 : k = 0
  · subst hk0
    refine ⟨g, c, w, ?_, ?_, exc_of (Below.refl _ _), .inl rfl⟩
    · simp [Builtin.append_, run_underlying Tryd.underlying22, run_underlying Tryd.underlying3, sizeOf, typeInfo, hi, asInt, asIntOf, hnc, storeCells, IntKind.wrap_i64]
    · simpa [cellsE] using hown0
  have hz0 : Builtin.zeroCells (Value.agg #[.int .u64 0, .int .u64 0]).cells k = (cellsE (List.replicate k (0, 0))).toArray := zeroCells_elem k
  have hzl : (Builtin.zeroCells (Value.agg #[.int .u64 0, .int .u64 0]).cells k).toList = cellsE (List.replicate k (0, 0)) := by rw [hz0]
  by_cases hroom : l.length + k ≤ c
  · have hr := run_append_zroom (P := Tryd.prog) (w := w) 22 3 ty 28 i _ .i64 .i64 Tryd.underlying22 Tryd.underlying3 hi hz g l.length c cur hgg k (by omega) (by rw [h2]; omega) (by rw [hzl]; exact oneCell_cellsE _) (by rw [h1]; omega) hroom (by rw [h1, hzl, hlenz, hcs]; omega)
    rw [h1, hzl, hlenz] at hr
    have hset := setRow_heap w g cur (cur.toList.take (l.length * 2) ++ cellsE (List.replicate k (0, 0)) ++ cur.toList.drop (l.length * 2 + k * 2)).toArray 28 (0, 0) hgg
    have hE : Exc (fun q => q = g) w.heap.size w (w.setRow g (cur.toList.take (l.length * 2) ++ cellsE (List.replicate k (0, 0)) ++ cur.toList.drop (l.length * 2 + k * 2)).toArray) :=
      ⟨rfl, rfl, rfl, by simp, fun k hk hne => setRow_other w g k _ hne⟩
    have hcl : cur.toList.length = c * 2 := by rw [Array.length_toList]; exact hcs
    have htl : (cur.toList.take (l.length * 2)).length = l.length * 2 := by rw [List.length_take, hcl]; omega
    refine ⟨g, c, _, hr, ⟨?_, .inr ⟨g, c, _, rfl, hbg, hset, hroom, hcm, ?_, ?_⟩⟩, hE, .inl rfl⟩
    · rw [List.length_append, hlenz, length_cellsE, Nat.add_mul]
    · simp only [List.size_toArray, List.length_append, htl, hlenz, List.length_drop, hcl]
      omega
    · show List.take _ (_ ++ _ ++ _) = _
      rw [List.take_append_of_le_length (by rw [List.length_append, htl, hlenz]; omega), List.take_of_length_le (by rw [List.length_append, htl, hlenz]; omega), htake]
  · have hcells := hown0.cells rfl
    have hold : (Builtin.firstCells i.size l.length (.slice (some ⟨g, 0, none⟩) l.length c)).run Tryd.prog w.drew = .ok (cellsE l).toArray w.drew :=
      run_firstCells_some (P := Tryd.prog) (w := w.drew) i.size l.length ⟨g, 0, none⟩ l.length c (cellsE l) (by rw [length_cellsE, h1]) (fun j u hj => hcells j u hj)
    have hr := Lib.run_append_grow_zeros (P := Tryd.prog) w 22 3 ty 28 i _ .i64 .i64 Tryd.underlying22 Tryd.underlying3 hi hz (some ⟨g, 0, none⟩) l.length c (cellsE l) hold k (by omega) (by omega) (by omega) (by omega) (by rw [h2]; omega) (growslice_fits (by omega) (by rw [h2]; omega))
    refine ⟨w.heap.size, _, _, hr, ⟨by rw [List.length_append, hlenz, length_cellsE, Nat.add_mul], .inr ⟨w.heap.size, _, _, rfl, hbase, heap_alloc_new w.drew _, ?_, ?_, ?_, ?_⟩⟩, exc_of (undrew ((Below.refl _ _).alloc (Nat.le_refl _) _)), .inr (Nat.le_refl _)⟩
    · exact grownCap_ge _ _ _ _
    · exact grownCap_le_maxLen _ _ _ _ (by unfold maxLen; omega)
    · have hge := grownCap_ge w (l.length + k) c 28
      rw [hz0]
      simp only [zeroCells_elem, Value.cells, Array.size_append, List.size_toArray, hlenz, length_cellsE, List.length_replicate]
      omega
    · rw [hz0]
      simp only [Array.toList_append, List.append_toArray]
      rw [List.take_append_of_le_length (by simp [length_cellsE]; omega), List.take_of_length_le (by simp [length_cellsE]; omega)]

/-- elements of the call's own and no error, or another code and nothing -/
def RetMulE (na nb : Nat) (w : World) (e : Ending) (w' : World) : Prop :=
  ∃ (v : Value) (S : List E), e = .returned (.tuple #[v, .int .i64 0]) ∧ w'.ownsRow w.heap.size 28 2 v S.length (cellsE S) ∧ (S.length ≤ 2 * (na + nb) ∧ (nb ≤ 16 → S.length ≤ na + nb)) ∧ OkL S ∧ Below w.heap.size w w'
theorem nextP_two {n : Nat} (h : 1 ≤ n) : nextP n ≤ 2 * n := by
  unfold nextP
  repeat' split
  all_goals omega

section
variable {f : Nat} (hf : IsF f)
include hf

set_option maxHeartbeats 16000000 in
theorem poly_Mul_E (va vb : Value) (a b : List E) (w : World) (hT : TabW w) (ha : SlE w w.heap.size va a) (hb : SlE w w.heap.size vb b) (hn : a.length + b.length ≤ 1025) :
    Calls Tryd.prog 29 #[.int .u8 f, va, vb] w (RetMulE a.length b.length w) := by
  have HVA := Lib.hid (fun wz => field_ValidT hf wz)
  have HTA : Hid (Calls Tryd.prog 40 #[va] w (RetOwnE a.length w)) := poly_Trim_E va a w ha (by omega)
  have HTB := Lib.hid (fun wz (h : SlE wz wz.heap.size vb b) => poly_Trim_E vb b wz h (by omega))
  have HB0 := Lib.hid hb
  have HT0 := Lib.hid hT
  have hfb0 : (1 : Int) ≤ (f : Int) := by rcases hf.or with rfl | rfl <;> omega
  have hfb1 : (f : Int) ≤ 2 := by rcases hf.or with rfl | rfl <;> omega
  have HDI := Lib.hid (fun va vb (a b : List E) wz h1 h2 h3 h4 h5 h6 => poly_direct_E hf va vb a b wz h1 h2 h3 h4 h5 h6)
  have HVV := Lib.hid (fun L (hL : L ≤ 10) v (l : List E) hl wz h1 h2 => ntt_Values_E hf L hL v l hl wz h1 h2)
  have HCC := Lib.hid (fun L (hL : L ≤ 10) v (l : List E) hl wz h1 h2 => ntt_Coefs_E hf L hL v l hl wz h1 h2)
  obtain ⟨⟨A, ca, rfl, _, _, _⟩, _⟩ := ha
  obtain ⟨⟨B, cb, rfl, _, _, _⟩, _⟩ := hb
  obtain ⟨na, hna⟩ : ∃ n, a.length = n := ⟨_, rfl⟩
  obtain ⟨nb, hnb⟩ : ∃ n, b.length = n := ⟨_, rfl⟩
  rw [hna] at hn HTA ⊢
  rw [hnb] at hn HTB HB0 ⊢
  clear hna hnb hT
  have hb00 : Below w.heap.size w w := Below.refl _ _
  go_enter Tryd.func29, Tryd.ntmps29
  go_wp2_with fail
  refine (HVA.out _).mono ?_
  rintro e w' ⟨rfl, rfl⟩
  go_wp2_with fail
  refine HTA.out.mono ?_
  rintro e w1 ⟨v1, ta, rfl, ho1, hta, hoka, hb1⟩
  have HLT1 : Hid (∀ q, v1.ownBlock = some q → q < w1.heap.size) := fun q hq => (ho1.lt q hq).2
  have HOKA := Lib.hid hoka
  clear hoka
  replace hb00 := bl_call hb00 (Nat.le_refl _) hb1
  go_wp2_with fail
  refine (HTB.out _ (HB0.out.later hb00)).mono ?_
  rintro e w2 ⟨v2, tb, rfl, ho2, htb, hokb, hb2⟩
  have HOKB := Lib.hid hokb
  clear hokb
  replace ho1 := own_call ho1 hb2
  have hb12' := hb00.size
  have hb12 := hb1.size
  have HC1 := Lib.hid (own_casesE ho1)
  have HC2 := Lib.hid (own_casesE ho2)
  replace hb00 := bl_call hb00 (Nat.le_refl _) hb2
  clear hb1 hb2 HB0 HTA HTB
  have hs2 := hb00.size
  obtain ⟨A1, c1, e1⟩ := own_shape ho1
  obtain ⟨A2, c2, e2⟩ := own_shape ho2
  obtain ⟨la, hla⟩ : ∃ n, ta.length = n := ⟨_, rfl⟩
  obtain ⟨lb, hlb⟩ : ∃ n, tb.length = n := ⟨_, rfl⟩
  rw [hla] at hta e1 ho1 HC1
  rw [hlb] at htb e2 ho2 HC2
  have HLA := Lib.hid hla
  have HLB := Lib.hid hlb
  subst e1
  subst e2
  clear hla hlb
  by_cases ha0 : la = 0
  · subst ha0
    clear ho1 ho2 HC1 HC2
    go_wp2_with fail
    go_ret2
    exact ⟨_, [], rfl, World.ownsRow_nil _ _ _ _, ⟨Nat.zero_le _, fun _ => Nat.zero_le _⟩, (fun e h => absurd h (List.not_mem_nil)), hb00⟩
  by_cases hb0 : lb = 0
  · subst hb0
    have t1 : ¬ (la = 0) := ha0
    clear ho1 ho2 HC1 HC2
    go_wp2_with fail
    go_ret2
    exact ⟨_, [], rfl, World.ownsRow_nil _ _ _ _, ⟨Nat.zero_le _, fun _ => Nat.zero_le _⟩, (fun e h => absurd h (List.not_mem_nil)), hb00⟩
  obtain ⟨ga, ka, eA, ra, hga, hka, hkam⟩ : ∃ g c, Value.slice A1 la c1 = .slice (some ⟨g, 0, none⟩) la c ∧ RwE w2 g ta ∧ w.heap.size ≤ g ∧ la ≤ c ∧ c ≤ 9223372036854775807 := by
    rcases HC1.out with ⟨h, h2⟩ | h
    · exact absurd (by rw [← HLA.out, h2]; rfl) ha0
    · exact h
  obtain ⟨gb, kb, eB, rb, hgb, hkb, hkbm⟩ : ∃ g c, Value.slice A2 lb c2 = .slice (some ⟨g, 0, none⟩) lb c ∧ RwE w2 g tb ∧ w1.heap.size ≤ g ∧ lb ≤ c ∧ c ≤ 9223372036854775807 := by
    rcases HC2.out with ⟨h, h2⟩ | h
    · exact absurd (by rw [← HLB.out, h2]; rfl) hb0
    · exact h
  injection eA with eA1 _ eA2
  injection eB with eB1 _ eB2
  subst eA1
  subst eA2
  subst eB1
  subst eB2
  have t1 : ¬ (la = 0) := ha0
  have t2 : ¬ (lb = 0) := hb0
  have t3 : ((la : Int) == 0) = false := by rw [beq_eq_false_iff_ne]; omega
  have t4 : ((lb : Int) == 0) = false := by rw [beq_eq_false_iff_ne]; omega
  obtain ⟨n, hn1⟩ : ∃ n, la + lb - 1 = n := ⟨_, rfl⟩
  have hni : (la : Int) + (lb : Int) - 1 = (n : Int) := by omega
  have hn2 : (n : Int) ≤ 1024 := by omega
  have hn3 : n + 1 = la + lb := by omega
  have hn4 : n ≤ 1024 := by omega
  obtain ⟨mn, hmn⟩ : ∃ n, min la lb = n := ⟨_, rfl⟩
  have hmi : min (la : Int) (lb : Int) = (mn : Int) := by omega
  clear hn1 HC1 HC2
  by_cases h16 : mn ≤ 16
  · have sa := ra.sl HLA.out hka (by omega) HOKA.out
    have sb := rb.sl HLB.out hkb (by omega) HOKB.out
    have HNN : Hid (ta.length + tb.length - 1 = n) := by show _ = _; rw [HLA.out, HLB.out]; omega
    clear ra rb ho1 ho2 hmn
    go_wp2_with fail
    refine (HDI.out _ _ ta tb _ sa sb (by rw [HLA.out]; omega) (by rw [HLB.out]; omega) (by rw [HLA.out]; omega) (by rw [HLB.out]; omega)).mono ?_
    rintro e w3 ⟨g, S, rfl, hR, hSl, hSo, _, hb3⟩
    rw [HNN.out] at hSl ⊢
    replace hb00 := bl_call hb00 (Nat.le_refl _) hb3
    clear hb3
    have ss := hR.sl (n := n) (c := n) hSl (Nat.le_refl _) (by omega) hSo
    have HSL := Lib.hid hSl
    have HSO := Lib.hid hSo
    clear hR hSl hSo
    go_wp2_with fail
    refine (poly_Trim_E _ S _ ss (by rw [HSL.out]; omega)).mono ?_
    rintro e w4 ⟨v, S2, rfl, ho, hl2, hk2, hb4⟩
    have HO := Lib.hid ho
    have HL2 := Lib.hid hl2
    have HK2 := Lib.hid hk2
    clear ho hl2 hk2
    go_wp2_with fail
    go_ret2
    exact ⟨v, S2, rfl, own_mono HO.out hb00.size, by have := HL2.out; have := HSL.out; exact ⟨by omega, fun _ => by omega⟩, HK2.out, bl_call hb00 (Nat.le_refl _) hb4⟩
  · obtain ⟨L, hL, hLn, hLs⟩ := nextP_pow n hn4
    have HNX : Hid (∀ wz, Calls Tryd.prog 27 #[.int .i64 n] wz fun e w' => e = .returned (.int .i64 ((2 ^ L : Nat) : Int)) ∧ wz = w') := fun wz => by rw [← hLn]; exact ntt_Next n hn4 wz
    have hL2 : 2 ^ L ≤ 1024 := by rw [← hLn]; exact (nextP_le n).2
    have HN9 : Hid (2 ^ L ≤ 2 * (na + nb) ∧ 16 < nb) := by
      have h1 := nextP_two (n := n) (by omega)
      exact ⟨by rw [← hLn]; omega, by omega⟩
    replace HVV : Hid (∀ v (l : List E), l.length = 2 ^ L → ∀ wz, TabW wz → SlE wz wz.heap.size v l → Calls Tryd.prog 18 #[.int .u8 f, v] wz (RetBlkE0 (2 ^ L) wz)) := fun v l hl wz h1 h2 => HVV.out L hL v l hl wz h1 h2
    replace HCC : Hid (∀ v (l : List E), l.length = 2 ^ L → ∀ wz, TabW wz → SlE wz wz.heap.size v l → Calls Tryd.prog 20 #[.int .u8 f, v] wz (RetBlkE0 (2 ^ L) wz)) := fun v l hl wz h1 h2 => HCC.out L hL v l hl wz h1 h2
    clear hLn
    obtain ⟨N, hN⟩ : ∃ N, 2 ^ L = N := ⟨_, rfl⟩
    rw [hN] at HNX hL2 hLs HVV HCC HN9
    clear hN HDI
    obtain ⟨k1, hk1⟩ : ∃ k, N - la = k := ⟨_, rfl⟩
    obtain ⟨k2, hk2⟩ : ∃ k, N - lb = k := ⟨_, rfl⟩
    have hi1 : (N : Int) - (la : Int) = (k1 : Int) := by omega
    have hi2 : (N : Int) - (lb : Int) = (k2 : Int) := by omega
    have hs1 : la + k1 = N := by omega
    have hs2' : lb + k2 = N := by omega
    have h16' : ¬ (mn ≤ 16) := h16
    have hgab : ga ≠ gb := by have := HLT1.out ga rfl; omega
    clear hk1 hk2 hmn
    have HOA := Lib.hid ho1
    have HOB := Lib.hid ho2
    clear ho1 ho2 ra rb
    go_wp2_with fail
    refine (HNX.out _).mono ?_
    rintro e w' ⟨rfl, rfl⟩
    obtain ⟨g3, c3, w3, hr3, ho3, he3, hg3⟩ := run_append_ZE w2 w.heap.size ga la c1 k1 22 ta HLA.out (own_mono HOA.out (Nat.le_refl _)) hs2 (by omega)
    have hr3' := Lib.hid hr3
    clear hr3
    go_wp2_with (at_builtin; refine Lib.wpList_append_run _ rfl _ _ _ _ rfl _ _ rfl rfl _ _ hr3'.out ?_)
    have hb3 : Below w.heap.size w2 w3 := he3.belowB2 hga hs2
    have hob3 := own_far HOB.out (fun e => hgab e.symm) he3
    have HOB3 := Lib.hid hob3
    replace hb00 : Below w.heap.size w w3 := hb00.trans hb3
    have hsz3 := he3.size
    obtain ⟨rx3, _, hc3, hcm3, hlen3⟩ := own_rwE ho3
    have sx3 := rx3.sl hlen3 hc3 hcm3 (HOKA.out.append (OkL.zeros k1))
    rw [hs1] at sx3
    have HL3 : Hid ((ta ++ List.replicate k1 (0, 0)).length = N) := hlen3.trans hs1
    have hg3b : gb ≠ g3 := by
      have h1 := HLT1.out ga rfl
      have h2 := (HOB.out.lt gb rfl).2
      rcases hg3 with h | h
      · omega
      · omega
    clear hob3 he3 hb3 ho3 rx3 hc3 hcm3 hlen3 hg3 hr3' HOA
    go_wp2_with fail
    refine (HVV.out _ _ HL3.out _ (HT0.out.call hb00) sx3).mono ?_
    rintro e w4 ⟨gx, X, rfl, rx, hXl, hXo, hgx, hb4⟩
    have hobl := (HOB3.out.lt gb rfl).2
    have hob4 := own_call HOB3.out hb4
    have HX9 : Hid (X.length = N ∧ OkL X) := ⟨hXl, hXo⟩
    replace hb00 := bl_call hb00 (Nat.le_refl _) hb4
    have hs4 := hb00.size
    have hgxb : gx ≠ gb := by omega
    have HOB4 := Lib.hid hob4
    clear hob4 HOB3 HOB hb4 sx3 hXl hXo
    have hgbw : w.heap.size ≤ gb := by omega
    obtain ⟨g5, c5, w5, hr5, ho5, he5, hg5⟩ := run_append_ZE w4 w.heap.size gb lb c2 k2 22 tb HLB.out (own_mono HOB4.out hb12') hs4 (by omega)
    have hr5' := Lib.hid hr5
    clear hr5
    go_wp2_with (at_builtin; refine Lib.wpList_append_run _ rfl _ _ _ _ rfl _ _ rfl rfl _ _ hr5'.out ?_)
    have hb5 : Below w.heap.size w4 w5 := he5.belowB2 hgbw hs4
    have rx5' : RwE w5 gx X := Vs.exc rx hgxb he5
    replace rx := rx5'
    replace hb00 : Below w.heap.size w w5 := hb00.trans hb5
    have hsz5 := he5.size
    obtain ⟨rx5, _, hc5, hcm5, hlen5⟩ := own_rwE ho5
    have sx5 := rx5.sl hlen5 hc5 hcm5 (HOKB.out.append (OkL.zeros k2))
    rw [hs2'] at sx5
    have HL5 : Hid ((tb ++ List.replicate k2 (0, 0)).length = N) := hlen5.trans hs2'
    clear he5 hb5 ho5 rx5 hc5 hcm5 hlen5 hg5 hr5' HOB4 rx5'
    go_wp2_with fail
    refine (HVV.out _ _ HL5.out _ (HT0.out.call hb00) sx5).mono ?_
    rintro e w6 ⟨gy, Y, rfl, ry, hYl, hYo, hgy, hb6⟩
    have HY9 : Hid (Y.length = N ∧ OkL Y) := ⟨hYl, hYo⟩
    have hgxy : gx < gy := Nat.lt_of_lt_of_le rx.lt hgy
    replace hb00 := bl_call hb00 (Nat.le_refl _) hb6
    replace rx := rx.call hb6
    have hgxw : w.heap.size ≤ gx := by omega
    clear hb6 sx5 hYl hYo
    go_wp2_with fail
    go_loopw [81] (fun kv wr => ∃ (k : Nat) (S : List E), k ≤ N ∧ kv = .int .i64 k ∧ RwE wr gx S ∧ RwE wr gy Y ∧ Hid (S.length = N ∧ OkL S) ∧ Below w.heap.size w wr) (fun kv _ => N - (intOf kv).toNat)
    case atStart => exact ⟨0, X, Nat.zero_le _, rfl, rx, ry, HX9, hb00⟩
    case round =>
      clear rx ry hb00
      obtain ⟨k, S, hk, rfl, rx, ry, HS, hb00⟩ := hrel
      by_cases hkN : k < N
      · have g1 : (0 : Int) ≤ (k : Int) := by omega
        have g3 : (k : Int) < (N : Int) := by omega
        obtain ⟨⟨x0, x1⟩, hx⟩ : ∃ x, S[k]? = some x := ⟨_, List.getElem?_eq_getElem (by have := HS.out.1; omega)⟩
        obtain ⟨⟨y0, y1⟩, hy⟩ : ∃ y, Y[k]? = some y := ⟨_, List.getElem?_eq_getElem (by have := HY9.out.1; omega)⟩
        have HX : Hid (okE (x0, x1)) := HS.out.2.at hx
        have HY : Hid (okE (y0, y1)) := HY9.out.2.at hy
        obtain ⟨c0, c1⟩ := rx.at hx
        obtain ⟨d0, d1⟩ := ry.at hy
        dsimp only at c0 c1 d0 d1
        have g8 := rx.lt
        have g9 := ry.lt
        obtain ⟨xy, hxy⟩ : ∃ z, kL f x0 x1 * kL f y0 y1 = z := ⟨_, rfl⟩
        have HMU : Hid (∀ wz, Calls Tryd.prog 31 #[.int .u8 f, .agg #[.int .u64 x0, .int .u64 x1], .agg #[.int .u64 y0, .int .u64 y1]] wz (RetK xy wz)) := fun wz => by
          have h := field_MulE hf HX.out HY.out wz
          rwa [hxy] at h
        clear hx hy hxy
        go_upto_region 21 with fail
        refine region_B (n := 12) (m := 14) (f := 12) (by kernel_rfl) (by kernel_rfl) rfl ?_
        refine WpH.takeD 0 (some 84) (v := ?_) rfl rfl (by kernel_rfl) (fun _ _ _ h => h) (.val rfl (fun wz hwz => ?_)) ?_
        rotate_left
        · go_simp; try (with_reducible rfl)
        (simp only [Act.put]); (try simp only [List.setIfInBounds_toArray]); (try simp only [List.set_cons_succ]); (try simp only [List.set_cons_zero])
        refine WpH.takeD 1 (some 85) (v := ?_) rfl rfl (by kernel_rfl) (fun _ _ _ h => h) (.val rfl (fun wz hwz => ?_)) ?_
        rotate_left
        · go_simp; try (with_reducible rfl)
        (simp only [Act.put]); (try simp only [List.setIfInBounds_toArray]); (try simp only [List.set_cons_succ]); (try simp only [List.set_cons_zero])
        refine WpH.takeD 2 (some 86) (v := ?_) rfl rfl (by kernel_rfl) (fun _ _ _ h => h) (.val rfl (fun wz hwz => ?_)) ?_
        rotate_left
        · go_simp; try (with_reducible rfl)
        (simp only [Act.put]); (try simp only [List.setIfInBounds_toArray]); (try simp only [List.set_cons_succ]); (try simp only [List.set_cons_zero])
        refine WpH.takeD 3 (some 87) (v := ?_) rfl rfl (by kernel_rfl) (fun _ _ _ h => h) (.val rfl (fun wz hwz => ?_)) ?_
        rotate_left
        · go_simp; try (with_reducible rfl)
        (simp only [Act.put]); (try simp only [List.setIfInBounds_toArray]); (try simp only [List.set_cons_succ]); (try simp only [List.set_cons_zero])
        refine WpH.takeD 4 (some 88) (v := ?_) rfl rfl (by kernel_rfl) (fun _ _ _ h => h) (.val rfl (fun wz hwz => ?_)) ?_
        rotate_left
        · go_simp; try (with_reducible rfl)
        (simp only [Act.put]); (try simp only [List.setIfInBounds_toArray]); (try simp only [List.set_cons_succ]); (try simp only [List.set_cons_zero])
        refine WpH.takeD 5 (some 89) (v := ?_) rfl rfl (by kernel_rfl) (fun _ _ _ h => h) (.val rfl (fun wz hwz => ?_)) ?_
        rotate_left
        · go_simp; try (with_reducible rfl)
        (simp only [Act.put]); (try simp only [List.setIfInBounds_toArray]); (try simp only [List.set_cons_succ]); (try simp only [List.set_cons_zero])
        refine WpH.takeD 6 (some 90) (v := ?_) rfl rfl (by kernel_rfl) (fun _ _ _ h => h) (.val rfl (fun wz hwz => ?_)) ?_
        rotate_left
        · (obtain ⟨hcz, hfz⟩ := bcell hwz; go_simp; try (with_reducible rfl))
        (simp only [Act.put]); (try simp only [List.setIfInBounds_toArray]); (try simp only [List.set_cons_succ]); (try simp only [List.set_cons_zero])
        refine WpH.takeD 7 (some 91) (v := ?_) rfl rfl (by kernel_rfl) (fun _ _ _ h => h) (.val rfl (fun wz hwz => ?_)) ?_
        rotate_left
        · go_simp; try (with_reducible rfl)
        (simp only [Act.put]); (try simp only [List.setIfInBounds_toArray]); (try simp only [List.set_cons_succ]); (try simp only [List.set_cons_zero])
        refine WpH.takeD 8 (some 92) (v := ?_) rfl rfl (by kernel_rfl) (fun _ _ _ h => h) (.val rfl (fun wz hwz => ?_)) ?_
        rotate_left
        · go_simp; try (with_reducible rfl)
        (simp only [Act.put]); (try simp only [List.setIfInBounds_toArray]); (try simp only [List.set_cons_succ]); (try simp only [List.set_cons_zero])
        refine WpH.takeD 9 (some 93) (v := ?_) rfl rfl (by kernel_rfl) (fun _ _ _ h => h) (.val rfl (fun wz hwz => ?_)) ?_
        rotate_left
        · go_simp; try (with_reducible rfl)
        (simp only [Act.put]); (try simp only [List.setIfInBounds_toArray]); (try simp only [List.set_cons_succ]); (try simp only [List.set_cons_zero])
        refine WpH.takeD 10 (some 94) (v := ?_) rfl rfl (by kernel_rfl) (fun _ _ _ h => h) (.val rfl (fun wz hwz => ?_)) ?_
        rotate_left
        · (obtain ⟨hcz, hfz⟩ := bcell hwz; go_simp; try (with_reducible rfl))
        (simp only [Act.put]); (try simp only [List.setIfInBounds_toArray]); (try simp only [List.set_cons_succ]); (try simp only [List.set_cons_zero])
        refine WpH.takeD 11 (some 95) rfl rfl (by kernel_rfl) (fun _ _ _ h => h) (.call rfl (fun wz hwz => HMU.out wz) (fun wz hwz => ?_)) ?_
        · go_simp; try (with_reducible rfl)
        (simp only [Act.put]); (try simp only [List.setIfInBounds_toArray]); (try simp only [List.set_cons_succ]); (try simp only [List.set_cons_zero])
        refine WpH.doneB (by kernel_rfl) (fun w7 hw7 => ?_)
        (try simp only [List.drop_succ_cons]); (try simp only [List.drop_zero]); (try simp only [Nat.reduceSub]); (try simp only [List.take_succ_cons]); (try simp only [List.take_zero])
        clear c0 c1 d0 d1 g8 g9
        replace hb00 := bl_call hb00 (Nat.le_refl _) hw7
        replace rx := rx.call hw7
        replace ry := ry.call hw7
        clear hw7
        obtain ⟨x9, hx9⟩ : ∃ x, S[k]? = some x := ⟨_, List.getElem?_eq_getElem (by have := HS.out.1; omega)⟩
        obtain ⟨c0, c1⟩ := rx.at hx9
        obtain ⟨f0, f1⟩ := rx.frz (i := k) (by have := HS.out.1; omega)
        have g8 := rx.lt
        clear hx9
        go_wp2_with fail
        go_roundw
        case rel => exact ⟨k + 1, _, by omega, by go_num, rx.set k (by have := HS.out.1; omega) (lo xy) (hi xy), (ry.far (by dsimp only; omega) _).far (by dsimp only; omega) _, ⟨by rw [List.length_set]; exact HS.out.1, HS.out.2.set _ (okE_K xy)⟩, by repeat (first | exact Below.refl _ _ | with_reducible assumption | (refine bl_alloc ?_ (Nat.le_refl _) _) | (refine bl_set ?_ (by dsimp only; omega) _) | (refine Below.drew ?_) | (refine bl_drewN ?_ _) | (refine bl_call ?_ (Nat.le_refl _) (by assumption)))⟩
        case measure => simp [intOf]; omega
      · obtain rfl : k = N := by omega
        have sx := rx.sl HS.out.1 (Nat.le_refl _) (by omega) HS.out.2
        have HSL : Hid (S.length = k) := HS.out.1
        have hT9 := HT0.out.call hb00
        have HT9 := Lib.hid hT9
        clear rx ry HS hT9
        go_wp2_with fail
        refine (HCC.out _ S HSL.out _ HT9.out sx).mono ?_
        rintro e w8 ⟨gc, C, rfl, rc, hCl, hCo, _, hb8⟩
        replace hb00 := bl_call hb00 (Nat.le_refl _) hb8
        have sc := rc.sl hCl (Nat.le_refl _) (by omega) hCo
        have HCB : Hid (C.length = k) := hCl
        clear rc hb8 sx hCl hCo
        go_wp2_with fail
        refine (poly_Trim_E _ C _ sc (by rw [HCB.out]; omega)).mono ?_
        rintro e w9 ⟨v, S2, rfl, ho, hl2, hk2, hb9⟩
        have HO := Lib.hid ho
        have HL2 := Lib.hid hl2
        have HK2 := Lib.hid hk2
        clear ho hl2 hk2
        go_wp2_with fail
        go_ret2
        exact ⟨v, S2, rfl, own_mono HO.out hb00.size, by have := HL2.out; have := HCB.out; have := HN9.out; exact ⟨by omega, fun _ => by omega⟩, HK2.out, bl_call hb00 (Nat.le_refl _) hb9⟩
end

end Go.Proofs.YtfhmineolncefaaDoor

namespace Go.Proofs.YtfhmineolncefaaDoor
open Go.RowKit Fm
set_option linter.unusedVariables false
set_option maxRecDepth 100000

/-- whatever, and some code -/
def RetAny (w : World) (e : Ending) (w' : World) : Prop := ∃ (v : Value) (c : Int), e = .returned (.tuple #[v, .int .i64 c]) ∧ Below w.heap.size w w'

theorem SlE.pair (w : World) {a0 a1 b0 b1 : Int} (ha : okE (a0, a1)) (hb : okE (b0, b1)) : SlE (w.alloc (.cells #[.int .u64 a0, .int .u64 a1, .int .u64 b0, .int .u64 b1] 28)) (w.alloc (.cells #[.int .u64 a0, .int .u64 a1, .int .u64 b0, .int .u64 b1] 28)).heap.size (.slice (some ⟨w.heap.size, 0, none⟩) 2 2) [(a0, a1), (b0, b1)] :=
  RwE.sl (l := [(a0, a1), (b0, b1)]) (Vs.new w (cellsE [(a0, a1), (b0, b1)]) #[.int .u64 a0, .int .u64 a1, .int .u64 b0, .int .u64 b1] 28 rfl) (n := 2) (c := 2) rfl (by omega) (by omega) (fun e he => by
    rcases List.mem_cons.1 he with rfl | he
    · exact ha
    · rw [List.mem_singleton.1 he]
      exact hb)
theorem SlE.sing (w : World) {a0 a1 : Int} (ha : okE (a0, a1)) : SlE (w.alloc (.cells #[.int .u64 a0, .int .u64 a1] 28)) (w.alloc (.cells #[.int .u64 a0, .int .u64 a1] 28)).heap.size (.slice (some ⟨w.heap.size, 0, none⟩) 1 1) [(a0, a1)] :=
  RwE.sl (l := [(a0, a1)]) (Vs.new w (cellsE [(a0, a1)]) #[.int .u64 a0, .int .u64 a1] 28 rfl) (n := 1) (c := 1) rfl (by omega) (by omega) (OkL.one ha)

section
variable {f : Nat} (hf : IsF f)
include hf

set_option maxHeartbeats 8000000 in
theorem poly_Add_E (va vb : Value) (a b : List E) (w : World) (ha : SlE w w.heap.size va a) (hb : SlE w w.heap.size vb b) (hal : a.length ≤ 400000) (hbl : b.length ≤ 400000) :
    Calls Tryd.prog 38 #[.int .u8 f, va, vb] w (RetOwnE (max a.length b.length) w) := by
  have hfb0 : (1 : Int) ≤ (f : Int) := by rcases hf.or with rfl | rfl <;> omega
  have hfb1 : (f : Int) ≤ 2 := by rcases hf.or with rfl | rfl <;> omega
  have hoka : OkL a := ha.2
  have HOKA := Lib.hid hoka
  have hokb : OkL b := hb.2
  have HOKB := Lib.hid hokb
  obtain ⟨⟨A, c, rfl, hc, hcm, hA⟩, _⟩ := ha
  obtain ⟨⟨B, d, rfl, hd, hdm, hB⟩, _⟩ := hb
  obtain ⟨N, hN⟩ : ∃ N, max a.length b.length = N := ⟨_, rfl⟩
  have hNi : max (a.length : Int) (b.length : Int) = (N : Int) := by omega
  have hNa : a.length ≤ N := by omega
  have hNb : b.length ≤ N := by omega
  have hNm : N ≤ 400000 := by omega
  have hmk := make_elem N (by omega)
  have HA := Lib.hid hA
  have HB := Lib.hid hB
  rw [hN]
  clear hA hB hN hoka hokb
  go_enter Tryd.func38, Tryd.ntmps38
  go_upto_region 3 with fail
  have hB0 : RwE (w.alloc (.cells (cellsE (List.replicate N (0, 0))).toArray 28)) w.heap.size (List.replicate N (0, 0)) := BlkE.rwE (heap_alloc_new w _)
  have hb00 : Below w.heap.size w (w.alloc (.cells (cellsE (List.replicate N (0, 0))).toArray 28)) := by repeat (first | exact Below.refl _ _ | with_reducible assumption | (refine bl_alloc ?_ (Nat.le_refl _) _) | (refine bl_set ?_ (by dsimp only; omega) _) | (refine Below.drew ?_) | (refine bl_drewN ?_ _) | (refine bl_call ?_ (Nat.le_refl _) (by assumption)))
  generalize w.alloc (.cells (cellsE (List.replicate N (0, 0))).toArray 28) = w1 at hB0 hb00 ⊢
  have HL0 : Hid ((List.replicate N ((0, 0) : E)).length = N ∧ OkL (List.replicate N (0, 0))) := ⟨List.length_replicate, OkL.zeros N⟩
  generalize List.replicate N ((0, 0) : E) = S0 at hB0 HL0
  clear hmk
  go_wp2_with fail
  go_loopw [19] (fun kv wr => ∃ (k : Nat) (S : List E), k ≤ N ∧ kv = .int .i64 k ∧ Hid (S.length = N ∧ OkL S) ∧ RwE wr w.heap.size S ∧ Below w.heap.size w wr) (fun kv _ => N - (intOf kv).toNat)
  case atStart => exact ⟨0, S0, Nat.zero_le _, rfl, HL0, hB0, hb00⟩
  case round =>
    clear hB0 hb00 HL0 S0
    obtain ⟨k, S, hk, rfl, HS, hR, hb00⟩ := hrel
    by_cases hkN : k < N
    · have g1 : (0 : Int) ≤ (k : Int) := by omega
      have g3 : (k : Int) < (N : Int) := by omega
      obtain ⟨⟨x0, x1⟩, hx⟩ : ∃ x, S[k]? = some x := ⟨_, List.getElem?_eq_getElem (by have := HS.out.1; omega)⟩
      by_cases hka : k < a.length
      · obtain ⟨b1, o1, hAe, hbw1, hrow1⟩ := HA.out (by omega)
        obtain ⟨⟨z0, z1⟩, hz⟩ : ∃ z, a[k]? = some z := ⟨_, List.getElem?_eq_getElem hka⟩
        have HZ : Hid (okE (z0, z1)) := HOKA.out.at hz
        obtain ⟨d0, d1⟩ := (hrow1.below hb00 hbw1) k _ hz
        obtain ⟨c0, c1⟩ := hR.at hx
        dsimp only at c0 c1 d0 d1
        obtain ⟨f0, f1⟩ := hR.frz (i := k) (by have := HS.out.1; omega)
        have g6 : (k : Int) < (a.length : Int) := by omega
        have g9 := hR.lt
        subst hAe
        clear hz hx hrow1
        go_upto_region 8 with fail
        replace hR := hR.set k (by have := HS.out.1; omega) z0 z1
        replace hb00 := bl_set (p := ⟨w.heap.size, k * 2 + 1, none⟩) (bl_set (p := ⟨w.heap.size, k * 2, none⟩) hb00 (by dsimp only; omega) (.int .u64 z0)) (by dsimp only; omega) (.int .u64 z1)
        generalize (wr.setCell ⟨w.heap.size, k * 2, none⟩ (.int .u64 z0)).setCell ⟨w.heap.size, k * 2 + 1, none⟩ (.int .u64 z1) = w5 at hR hb00 ⊢
        have HX2 : Hid ((S.set k (z0, z1))[k]? = some (z0, z1)) := List.getElem?_set_self (by have := HS.out.1; omega)
        replace HS : Hid ((S.set k (z0, z1)).length = N ∧ OkL (S.set k (z0, z1))) := ⟨by rw [List.length_set]; exact HS.out.1, HS.out.2.set _ HZ.out⟩
        generalize S.set k (z0, z1) = S2 at *
        clear S x0 x1 c0 c1 d0 d1 f0 f1 g9 g6
        obtain ⟨S, hS9⟩ : ∃ S : List E, S = S2 := ⟨_, rfl⟩
        obtain ⟨x0, hx9⟩ : ∃ x : Int, x = z0 := ⟨_, rfl⟩
        obtain ⟨x1, hx8⟩ : ∃ x : Int, x = z1 := ⟨_, rfl⟩
        subst hS9
        subst hx9
        subst hx8
        have HX := HX2
        by_cases hkb : k < b.length
        · obtain ⟨b2, o2, hBe, hbw2, hrow2⟩ := HB.out (by omega)
          obtain ⟨⟨y0, y1⟩, hy⟩ : ∃ y, b[k]? = some y := ⟨_, List.getElem?_eq_getElem hkb⟩
          have HY : Hid (okE (y0, y1)) := HOKB.out.at hy
          obtain ⟨d0, d1⟩ := (hrow2.below hb00 hbw2) k _ hy
          obtain ⟨c0, c1⟩ := hR.at HX.out
          have HXO : Hid (okE (x0, x1)) := HS.out.2.at HX.out
          dsimp only at c0 c1 d0 d1
          have g6 : (k : Int) < (b.length : Int) := by omega
          have hbl2 : b2 < w5.heap.size := Nat.lt_of_lt_of_le hbw2 hb00.size
          have g9 := hR.lt
          obtain ⟨xy, hxy⟩ : ∃ z, kL f x0 x1 + kL f y0 y1 = z := ⟨_, rfl⟩
          have HADD : Hid (∀ wz, Calls Tryd.prog 63 #[.int .u8 f, .agg #[.int .u64 x0, .int .u64 x1], .agg #[.int .u64 y0, .int .u64 y1]] wz (RetK xy wz)) := fun wz => by
            have h := field_AddE hf HXO.out HY.out wz
            rwa [hxy] at h
          subst hBe
          clear hy hxy hrow2
          go_upto_region 9 with fail
          refine region_B (n := 12) (m := 14) (f := 12) (by kernel_rfl) (by kernel_rfl) rfl ?_
          refine WpH.takeD 0 (some 37) (v := ?_) rfl rfl (by kernel_rfl) (fun _ _ _ h => h) (.val rfl (fun wz hwz => ?_)) ?_
          rotate_left
          · go_simp; try (with_reducible rfl)
          (simp only [Act.put]); (try simp only [List.setIfInBounds_toArray]); (try simp only [List.set_cons_succ]); (try simp only [List.set_cons_zero])
          refine WpH.takeD 1 (some 38) (v := ?_) rfl rfl (by kernel_rfl) (fun _ _ _ h => h) (.val rfl (fun wz hwz => ?_)) ?_
          rotate_left
          · go_simp; try (with_reducible rfl)
          (simp only [Act.put]); (try simp only [List.setIfInBounds_toArray]); (try simp only [List.set_cons_succ]); (try simp only [List.set_cons_zero])
          refine WpH.takeD 2 (some 39) (v := ?_) rfl rfl (by kernel_rfl) (fun _ _ _ h => h) (.val rfl (fun wz hwz => ?_)) ?_
          rotate_left
          · go_simp; try (with_reducible rfl)
          (simp only [Act.put]); (try simp only [List.setIfInBounds_toArray]); (try simp only [List.set_cons_succ]); (try simp only [List.set_cons_zero])
          refine WpH.takeD 3 (some 40) (v := ?_) rfl rfl (by kernel_rfl) (fun _ _ _ h => h) (.val rfl (fun wz hwz => ?_)) ?_
          rotate_left
          · go_simp; try (with_reducible rfl)
          (simp only [Act.put]); (try simp only [List.setIfInBounds_toArray]); (try simp only [List.set_cons_succ]); (try simp only [List.set_cons_zero])
          refine WpH.takeD 4 (some 41) (v := ?_) rfl rfl (by kernel_rfl) (fun _ _ _ h => h) (.val rfl (fun wz hwz => ?_)) ?_
          rotate_left
          · go_simp; try (with_reducible rfl)
          (simp only [Act.put]); (try simp only [List.setIfInBounds_toArray]); (try simp only [List.set_cons_succ]); (try simp only [List.set_cons_zero])
          refine WpH.takeD 5 (some 42) (v := ?_) rfl rfl (by kernel_rfl) (fun _ _ _ h => h) (.val rfl (fun wz hwz => ?_)) ?_
          rotate_left
          · go_simp; try (with_reducible rfl)
          (simp only [Act.put]); (try simp only [List.setIfInBounds_toArray]); (try simp only [List.set_cons_succ]); (try simp only [List.set_cons_zero])
          refine WpH.takeD 6 (some 43) (v := ?_) rfl rfl (by kernel_rfl) (fun _ _ _ h => h) (.val rfl (fun wz hwz => ?_)) ?_
          rotate_left
          · (obtain ⟨hcz, hfz⟩ := bcell hwz; go_simp; try (with_reducible rfl))
          (simp only [Act.put]); (try simp only [List.setIfInBounds_toArray]); (try simp only [List.set_cons_succ]); (try simp only [List.set_cons_zero])
          refine WpH.takeD 7 (some 44) (v := ?_) rfl rfl (by kernel_rfl) (fun _ _ _ h => h) (.val rfl (fun wz hwz => ?_)) ?_
          rotate_left
          · go_simp; try (with_reducible rfl)
          (simp only [Act.put]); (try simp only [List.setIfInBounds_toArray]); (try simp only [List.set_cons_succ]); (try simp only [List.set_cons_zero])
          refine WpH.takeD 8 (some 45) (v := ?_) rfl rfl (by kernel_rfl) (fun _ _ _ h => h) (.val rfl (fun wz hwz => ?_)) ?_
          rotate_left
          · go_simp; try (with_reducible rfl)
          (simp only [Act.put]); (try simp only [List.setIfInBounds_toArray]); (try simp only [List.set_cons_succ]); (try simp only [List.set_cons_zero])
          refine WpH.takeD 9 (some 46) (v := ?_) rfl rfl (by kernel_rfl) (fun _ _ _ h => h) (.val rfl (fun wz hwz => ?_)) ?_
          rotate_left
          · go_simp; try (with_reducible rfl)
          (simp only [Act.put]); (try simp only [List.setIfInBounds_toArray]); (try simp only [List.set_cons_succ]); (try simp only [List.set_cons_zero])
          refine WpH.takeD 10 (some 47) (v := ?_) rfl rfl (by kernel_rfl) (fun _ _ _ h => h) (.val rfl (fun wz hwz => ?_)) ?_
          rotate_left
          · (obtain ⟨hcz, hfz⟩ := bcell hwz; go_simp; try (with_reducible rfl))
          (simp only [Act.put]); (try simp only [List.setIfInBounds_toArray]); (try simp only [List.set_cons_succ]); (try simp only [List.set_cons_zero])
          refine WpH.takeD 11 (some 48) rfl rfl (by kernel_rfl) (fun _ _ _ h => h) (.call rfl (fun wz hwz => HADD.out wz) (fun wz hwz => ?_)) ?_
          · go_simp; try (with_reducible rfl)
          (simp only [Act.put]); (try simp only [List.setIfInBounds_toArray]); (try simp only [List.set_cons_succ]); (try simp only [List.set_cons_zero])
          refine WpH.doneB (by kernel_rfl) (fun w6 hw6 => ?_)
          (try simp only [List.drop_succ_cons]); (try simp only [List.drop_zero]); (try simp only [Nat.reduceSub]); (try simp only [List.take_succ_cons]); (try simp only [List.take_zero])
          clear c0 c1 d0 d1 hbl2 g9
          replace hb00 := bl_call hb00 (Nat.le_refl _) hw6
          replace hR := hR.call hw6
          clear hw6
          obtain ⟨c0, c1⟩ := hR.at HX.out
          obtain ⟨f0, f1⟩ := hR.frz (i := k) (by have := HS.out.1; omega)
          have g9 := hR.lt
          go_wp2_with fail
          go_roundw
          case rel => exact ⟨k + 1, _, by omega, by go_num, ⟨by rw [List.length_set]; exact HS.out.1, HS.out.2.set _ (okE_K xy)⟩, hR.set k (by have := HS.out.1; omega) (lo xy) (hi xy), by repeat (first | exact Below.refl _ _ | with_reducible assumption | (refine bl_alloc ?_ (Nat.le_refl _) _) | (refine bl_set ?_ (by dsimp only; omega) _) | (refine Below.drew ?_) | (refine bl_drewN ?_ _) | (refine bl_call ?_ (Nat.le_refl _) (by assumption)))⟩
          case measure => simp [intOf]; omega
        · go_wp2_with fail
          go_roundw
          case rel => exact ⟨k + 1, _, by omega, by go_num, HS, hR, hb00⟩
          case measure => simp [intOf]; omega
      · have HX := Lib.hid hx
        clear hx
        by_cases hkb : k < b.length
        · obtain ⟨b2, o2, hBe, hbw2, hrow2⟩ := HB.out (by omega)
          obtain ⟨⟨y0, y1⟩, hy⟩ : ∃ y, b[k]? = some y := ⟨_, List.getElem?_eq_getElem hkb⟩
          have HY : Hid (okE (y0, y1)) := HOKB.out.at hy
          obtain ⟨d0, d1⟩ := (hrow2.below hb00 hbw2) k _ hy
          obtain ⟨c0, c1⟩ := hR.at HX.out
          have HXO : Hid (okE (x0, x1)) := HS.out.2.at HX.out
          dsimp only at c0 c1 d0 d1
          have g6 : (k : Int) < (b.length : Int) := by omega
          have hbl2 : b2 < wr.heap.size := Nat.lt_of_lt_of_le hbw2 hb00.size
          have g9 := hR.lt
          obtain ⟨xy, hxy⟩ : ∃ z, kL f x0 x1 + kL f y0 y1 = z := ⟨_, rfl⟩
          have HADD : Hid (∀ wz, Calls Tryd.prog 63 #[.int .u8 f, .agg #[.int .u64 x0, .int .u64 x1], .agg #[.int .u64 y0, .int .u64 y1]] wz (RetK xy wz)) := fun wz => by
            have h := field_AddE hf HXO.out HY.out wz
            rwa [hxy] at h
          subst hBe
          clear hy hxy hrow2
          go_upto_region 9 with fail
          refine region_B (n := 12) (m := 14) (f := 12) (by kernel_rfl) (by kernel_rfl) rfl ?_
          refine WpH.takeD 0 (some 37) (v := ?_) rfl rfl (by kernel_rfl) (fun _ _ _ h => h) (.val rfl (fun wz hwz => ?_)) ?_
          rotate_left
          · go_simp; try (with_reducible rfl)
          (simp only [Act.put]); (try simp only [List.setIfInBounds_toArray]); (try simp only [List.set_cons_succ]); (try simp only [List.set_cons_zero])
          refine WpH.takeD 1 (some 38) (v := ?_) rfl rfl (by kernel_rfl) (fun _ _ _ h => h) (.val rfl (fun wz hwz => ?_)) ?_
          rotate_left
          · go_simp; try (with_reducible rfl)
          (simp only [Act.put]); (try simp only [List.setIfInBounds_toArray]); (try simp only [List.set_cons_succ]); (try simp only [List.set_cons_zero])
          refine WpH.takeD 2 (some 39) (v := ?_) rfl rfl (by kernel_rfl) (fun _ _ _ h => h) (.val rfl (fun wz hwz => ?_)) ?_
          rotate_left
          · go_simp; try (with_reducible rfl)
          (simp only [Act.put]); (try simp only [List.setIfInBounds_toArray]); (try simp only [List.set_cons_succ]); (try simp only [List.set_cons_zero])
          refine WpH.takeD 3 (some 40) (v := ?_) rfl rfl (by kernel_rfl) (fun _ _ _ h => h) (.val rfl (fun wz hwz => ?_)) ?_
          rotate_left
          · go_simp; try (with_reducible rfl)
          (simp only [Act.put]); (try simp only [List.setIfInBounds_toArray]); (try simp only [List.set_cons_succ]); (try simp only [List.set_cons_zero])
          refine WpH.takeD 4 (some 41) (v := ?_) rfl rfl (by kernel_rfl) (fun _ _ _ h => h) (.val rfl (fun wz hwz => ?_)) ?_
          rotate_left
          · go_simp; try (with_reducible rfl)
          (simp only [Act.put]); (try simp only [List.setIfInBounds_toArray]); (try simp only [List.set_cons_succ]); (try simp only [List.set_cons_zero])
          refine WpH.takeD 5 (some 42) (v := ?_) rfl rfl (by kernel_rfl) (fun _ _ _ h => h) (.val rfl (fun wz hwz => ?_)) ?_
          rotate_left
          · go_simp; try (with_reducible rfl)
          (simp only [Act.put]); (try simp only [List.setIfInBounds_toArray]); (try simp only [List.set_cons_succ]); (try simp only [List.set_cons_zero])
          refine WpH.takeD 6 (some 43) (v := ?_) rfl rfl (by kernel_rfl) (fun _ _ _ h => h) (.val rfl (fun wz hwz => ?_)) ?_
          rotate_left
          · (obtain ⟨hcz, hfz⟩ := bcell hwz; go_simp; try (with_reducible rfl))
          (simp only [Act.put]); (try simp only [List.setIfInBounds_toArray]); (try simp only [List.set_cons_succ]); (try simp only [List.set_cons_zero])
          refine WpH.takeD 7 (some 44) (v := ?_) rfl rfl (by kernel_rfl) (fun _ _ _ h => h) (.val rfl (fun wz hwz => ?_)) ?_
          rotate_left
          · go_simp; try (with_reducible rfl)
          (simp only [Act.put]); (try simp only [List.setIfInBounds_toArray]); (try simp only [List.set_cons_succ]); (try simp only [List.set_cons_zero])
          refine WpH.takeD 8 (some 45) (v := ?_) rfl rfl (by kernel_rfl) (fun _ _ _ h => h) (.val rfl (fun wz hwz => ?_)) ?_
          rotate_left
          · go_simp; try (with_reducible rfl)
          (simp only [Act.put]); (try simp only [List.setIfInBounds_toArray]); (try simp only [List.set_cons_succ]); (try simp only [List.set_cons_zero])
          refine WpH.takeD 9 (some 46) (v := ?_) rfl rfl (by kernel_rfl) (fun _ _ _ h => h) (.val rfl (fun wz hwz => ?_)) ?_
          rotate_left
          · go_simp; try (with_reducible rfl)
          (simp only [Act.put]); (try simp only [List.setIfInBounds_toArray]); (try simp only [List.set_cons_succ]); (try simp only [List.set_cons_zero])
          refine WpH.takeD 10 (some 47) (v := ?_) rfl rfl (by kernel_rfl) (fun _ _ _ h => h) (.val rfl (fun wz hwz => ?_)) ?_
          rotate_left
          · (obtain ⟨hcz, hfz⟩ := bcell hwz; go_simp; try (with_reducible rfl))
          (simp only [Act.put]); (try simp only [List.setIfInBounds_toArray]); (try simp only [List.set_cons_succ]); (try simp only [List.set_cons_zero])
          refine WpH.takeD 11 (some 48) rfl rfl (by kernel_rfl) (fun _ _ _ h => h) (.call rfl (fun wz hwz => HADD.out wz) (fun wz hwz => ?_)) ?_
          · go_simp; try (with_reducible rfl)
          (simp only [Act.put]); (try simp only [List.setIfInBounds_toArray]); (try simp only [List.set_cons_succ]); (try simp only [List.set_cons_zero])
          refine WpH.doneB (by kernel_rfl) (fun w6 hw6 => ?_)
          (try simp only [List.drop_succ_cons]); (try simp only [List.drop_zero]); (try simp only [Nat.reduceSub]); (try simp only [List.take_succ_cons]); (try simp only [List.take_zero])
          clear c0 c1 d0 d1 hbl2 g9
          replace hb00 := bl_call hb00 (Nat.le_refl _) hw6
          replace hR := hR.call hw6
          clear hw6
          obtain ⟨c0, c1⟩ := hR.at HX.out
          obtain ⟨f0, f1⟩ := hR.frz (i := k) (by have := HS.out.1; omega)
          have g9 := hR.lt
          go_wp2_with fail
          go_roundw
          case rel => exact ⟨k + 1, _, by omega, by go_num, ⟨by rw [List.length_set]; exact HS.out.1, HS.out.2.set _ (okE_K xy)⟩, hR.set k (by have := HS.out.1; omega) (lo xy) (hi xy), by repeat (first | exact Below.refl _ _ | with_reducible assumption | (refine bl_alloc ?_ (Nat.le_refl _) _) | (refine bl_set ?_ (by dsimp only; omega) _) | (refine Below.drew ?_) | (refine bl_drewN ?_ _) | (refine bl_call ?_ (Nat.le_refl _) (by assumption)))⟩
          case measure => simp [intOf]; omega
        · go_wp2_with fail
          go_roundw
          case rel => exact ⟨k + 1, _, by omega, by go_num, HS, hR, hb00⟩
          case measure => simp [intOf]; omega
    · obtain rfl : k = N := by omega
      have hs := hR.sl HS.out.1 (Nat.le_refl _) (by omega) HS.out.2
      have HSL : Hid (S.length = k) := HS.out.1
      clear HS hR HA HB
      go_wp2_with fail
      refine (poly_Trim_E _ S _ hs (by rw [HSL.out]; omega)).mono ?_
      rintro e w7 ⟨v, S2, rfl, ho, hl2, hk2, hb7⟩
      have HO := Lib.hid ho
      have HL2 := Lib.hid hl2
      have HK2 := Lib.hid hk2
      clear ho hl2 hk2
      go_wp2
      go_ret
      exact ⟨_, S2, rfl, own_mono HO.out hb00.size, by have := HL2.out; have := HSL.out; omega, HK2.out, bl_call hb00 (Nat.le_refl _) hb7⟩

set_option maxHeartbeats 8000000 in
theorem poly_Scale_E (va : Value) (a : List E) (x : Fin (Pm f)) (w : World) (ha : SlE w w.heap.size va a) (hal : a.length ≤ 400000) :
    Calls Tryd.prog 39 #[.int .u8 f, va, vK x] w (RetOwnE a.length w) := by
  have hfb0 : (1 : Int) ≤ (f : Int) := by rcases hf.or with rfl | rfl <;> omega
  have hfb1 : (f : Int) ≤ 2 := by rcases hf.or with rfl | rfl <;> omega
  have hoka : OkL a := ha.2
  have HOKA := Lib.hid hoka
  obtain ⟨⟨A, c, rfl, hc, hcm, hA⟩, _⟩ := ha
  have hmk := make_elem a.length (by omega)
  have HA := Lib.hid hA
  clear hA hoka
  have hb00 : Below w.heap.size w w := Below.refl _ _
  go_enter Tryd.func39, Tryd.ntmps39
  go_upto_region 1 with fail
  clear hb00
  have q0 := V2.new w (.int .u64 (lo x)) (.int .u64 (hi x)) 28
  have hb00 : Below w.heap.size w (w.alloc (.cells #[(.int .u64 (lo x)), (.int .u64 (hi x))] 28)) := by repeat (first | exact Below.refl _ _ | with_reducible assumption | (refine bl_alloc ?_ (Nat.le_refl _) _))
  have hsz : w.heap.size + 1 ≤ (w.alloc (.cells #[(.int .u64 (lo x)), (.int .u64 (hi x))] 28)).heap.size := by simp only [World.size_alloc]; omega
  generalize (w.alloc (.cells #[(.int .u64 (lo x)), (.int .u64 (hi x))] 28)) = w1 at q0 hb00 hsz ⊢
  go_upto_region 2 with fail
  obtain ⟨g, hg⟩ : ∃ z, w1.heap.size = z := ⟨_, rfl⟩
  have hB0 : RwE (w1.alloc (.cells (cellsE (List.replicate a.length (0, 0))).toArray 28)) w1.heap.size (List.replicate a.length (0, 0)) := BlkE.rwE (heap_alloc_new w1 _)
  rw [hg] at hB0
  replace q0 := q0.alloc (.cells (cellsE (List.replicate a.length (0, 0))).toArray 28)
  replace hb00 : Below w.heap.size w (w1.alloc (.cells (cellsE (List.replicate a.length (0, 0))).toArray 28)) := by repeat (first | exact Below.refl _ _ | with_reducible assumption | (refine bl_alloc ?_ (Nat.le_refl _) _) | (refine bl_set ?_ (by dsimp only; omega) _) | (refine Below.drew ?_) | (refine bl_drewN ?_ _) | (refine bl_call ?_ (Nat.le_refl _) (by assumption)))
  simp only [hg]
  have hgw : w.heap.size < g := by omega
  generalize w1.alloc (.cells (cellsE (List.replicate a.length (0, 0))).toArray 28) = w2 at hB0 hb00 q0 ⊢
  have HL0 : Hid ((List.replicate a.length ((0, 0) : E)).length = a.length ∧ OkL (List.replicate a.length (0, 0))) := ⟨List.length_replicate, OkL.zeros _⟩
  generalize List.replicate a.length ((0, 0) : E) = S0 at hB0 HL0
  clear hmk hg hsz
  go_wp2_with fail
  go_loopw [15] (fun kv wr => ∃ (k : Nat) (S : List E), k ≤ a.length ∧ kv = .int .i64 k ∧ Hid (S.length = a.length ∧ OkL S) ∧ RwE wr g S ∧ V2 wr w.heap.size (.int .u64 (lo x)) (.int .u64 (hi x)) ∧ Below w.heap.size w wr) (fun kv _ => a.length - (intOf kv).toNat)
  case atStart => exact ⟨0, S0, Nat.zero_le _, rfl, HL0, hB0, q0, hb00⟩
  case round =>
    clear hB0 hb00 q0 HL0 S0
    obtain ⟨k, S, hk, rfl, HS, hR, q0, hb00⟩ := hrel
    by_cases hka : k < a.length
    · have g1 : (0 : Int) ≤ (k : Int) := by omega
      have g3 : (k : Int) < (a.length : Int) := by omega
      obtain ⟨b1, o1, hAe, hbw1, hrow1⟩ := HA.out (by omega)
      obtain ⟨⟨z0, z1⟩, hz⟩ : ∃ z, a[k]? = some z := ⟨_, List.getElem?_eq_getElem hka⟩
      have HZ : Hid (okE (z0, z1)) := HOKA.out.at hz
      obtain ⟨d0, d1⟩ := (hrow1.below hb00 hbw1) k _ hz
      dsimp only at d0 d1
      have hrl := hR.lt
      obtain ⟨zx, hzx⟩ : ∃ y, kL f z0 z1 * x = y := ⟨_, rfl⟩
      have HMU : Hid (∀ wz, Calls Tryd.prog 31 #[.int .u8 f, .agg #[.int .u64 z0, .int .u64 z1], vK x] wz (RetK zx wz)) := fun wz => by
        have h := field_MulE hf HZ.out (okE_K x) wz
        rwa [kL_lohi, hzx] at h
      subst hAe
      clear hz hrow1 hzx
      go_upto_region 5 with fail
      have zv := V2.new wr (.int .u64 z0) (.int .u64 z1) 28
      have hbA : Below wr.heap.size wr (wr.alloc (.cells #[.int .u64 z0, .int .u64 z1] 28)) := by repeat (first | exact Below.refl _ _ | with_reducible assumption | (refine bl_alloc ?_ (Nat.le_refl _) _))
      replace hb00 := bl_call hb00 (Nat.le_refl _) hbA
      replace hR := hR.call hbA
      replace q0 := q0.call hbA
      clear hbA
      generalize wr.alloc (.cells #[.int .u64 z0, .int .u64 z1] 28) = w5 at hb00 hR q0 zv ⊢
      obtain ⟨zb, hzb⟩ : ∃ q, wr.heap.size = q := ⟨_, rfl⟩
      rw [hzb] at zv hrl
      simp only [hzb]
      clear hzb d0 d1
      obtain ⟨zv0, zv1, zv2, zv3, zv4⟩ := V2.mk zv.c0 zv.c1 zv.f0 zv.f1 zv.lt
      obtain ⟨q00, q01, q02, q03, q04⟩ := V2.mk q0.c0 q0.c1 q0.f0 q0.f1 q0.lt
      go_wp2_with fail
      refine (HMU.out _).mono ?_
      rintro e w6 ⟨rfl, hb6⟩
      clear zv0 zv1 zv2 zv3 zv4 q00 q01 q02 q03 q04
      replace hb00 := bl_call hb00 (Nat.le_refl _) hb6
      replace hR := hR.call hb6
      replace q0 := q0.call hb6
      replace zv := zv.call hb6
      clear hb6
      obtain ⟨y9, hy9⟩ : ∃ x, S[k]? = some x := ⟨_, List.getElem?_eq_getElem (by have := HS.out.1; omega)⟩
      obtain ⟨c0, c1⟩ := hR.at hy9
      obtain ⟨f0, f1⟩ := hR.frz (i := k) (by have := HS.out.1; omega)
      have g9 := hR.lt
      clear hy9
      go_wp2_with fail
      go_roundw
      case rel => exact ⟨k + 1, _, by omega, by go_num, ⟨by rw [List.length_set]; exact HS.out.1, HS.out.2.set _ (okE_K zx)⟩, hR.set k (by have := HS.out.1; omega) (lo zx) (hi zx), V2.setOther (V2.setOther q0 (by dsimp only; omega) _) (by dsimp only; omega) _, by repeat (first | exact Below.refl _ _ | with_reducible assumption | (refine bl_alloc ?_ (Nat.le_refl _) _) | (refine bl_set ?_ (by dsimp only; omega) _) | (refine Below.drew ?_) | (refine bl_drewN ?_ _) | (refine bl_call ?_ (Nat.le_refl _) (by assumption)))⟩
      case measure => simp [intOf]; omega
    · obtain hke : k = a.length := by omega
      subst hke
      have hs := hR.sl HS.out.1 (Nat.le_refl _) (by omega) HS.out.2
      have HSL : Hid (S.length = a.length) := HS.out.1
      clear HS hR HA q0
      go_wp2_with fail
      refine (poly_Trim_E _ S _ hs (by rw [HSL.out]; omega)).mono ?_
      rintro e w7 ⟨v, S2, rfl, ho, hl2, hk2, hb7⟩
      have HO := Lib.hid ho
      have HL2 := Lib.hid hl2
      have HK2 := Lib.hid hk2
      clear ho hl2 hk2
      go_wp2
      go_ret
      exact ⟨_, S2, rfl, own_mono HO.out hb00.size, by have := HL2.out; have := HSL.out; omega, HK2.out, bl_call hb00 (Nat.le_refl _) hb7⟩

set_option maxHeartbeats 16000000 in
theorem poly_Through_E (va : Value) (x : List E) (w : World) (hT : TabW w) (hx : SlE w w.heap.size va x) (hxl : x.length ≤ 64) :
    Calls Tryd.prog 42 #[.int .u8 f, va, va] w (RetAny w) := by
  have HVA := Lib.hid (fun wz => field_ValidT hf wz)
  have HON := Lib.hid (fun wz => field_One hf wz)
  have HIN := Lib.hid (fun x wz => field_Inv hf x wz)
  have HMU := Lib.hid (fun x y wz => field_MulK hf x y wz)
  have HAT := Lib.hid (fun v (p : List E) x0 x1 h0 wz h1 h2 => poly_At_E hf v p x0 x1 h0 wz h1 h2)
  have HSC := Lib.hid (fun va (x : List E) k wz h1 h2 => poly_Scale_E hf va x k wz h1 h2)
  have HAD := Lib.hid (fun va vb (a b : List E) wz h1 h2 h3 h4 => poly_Add_E hf va vb a b wz h1 h2 h3 h4)
  have HML := Lib.hid (fun va vb (a b : List E) wz h0 h1 h2 h3 => poly_Mul_E hf va vb a b wz h0 h1 h2 h3)
  have hfb0 : (1 : Int) ≤ (f : Int) := by rcases hf.or with rfl | rfl <;> omega
  have hfb1 : (f : Int) ≤ 2 := by rcases hf.or with rfl | rfl <;> omega
  have HX := Lib.hid hx
  have HT := Lib.hid hT
  obtain ⟨A, ca, rfl, _, _⟩ := hx.shape
  obtain ⟨n, hn⟩ : ∃ n, x.length = n := ⟨_, rfl⟩
  have HXL := Lib.hid hn
  rw [hn] at hxl HX ⊢
  clear hn hT hx
  have hb00 : Below w.heap.size w w := Below.refl _ _
  go_enter Tryd.func42, Tryd.ntmps42
  go_wp2_with fail
  refine (HVA.out _).mono ?_
  rintro e w' ⟨rfl, rfl⟩
  have hn5 : ¬ (64 < n) := by omega
  go_wp2_with fail
  refine (HON.out _).mono ?_
  rintro e w1 ⟨rfl, hb1⟩
  replace hb00 := bl_call hb00 (Nat.le_refl _) hb1
  clear hb1
  have hbs := SlE.sing w1 (okE_K (1 : Fin (Pm f)))
  have hb2 : Below w.heap.size w (w1.alloc (.cells #[.int .u64 (lo (1 : Fin (Pm f))), .int .u64 (hi (1 : Fin (Pm f)))] 28)) := hb00.alloc hb00.size _
  go_upto_region 9 with fail
  generalize w1.alloc (.cells #[.int .u64 (lo (1 : Fin (Pm f))), .int .u64 (hi (1 : Fin (Pm f)))] 28) = w2 at hbs hb2 ⊢
  generalize (⟨w1.heap.size, 0, none⟩ : Addr) = g1 at hbs ⊢
  have HL1 : Hid (([(lo (1 : Fin (Pm f)), hi (1 : Fin (Pm f)))] : List E).length = 1) := rfl
  generalize [(lo (1 : Fin (Pm f)), hi (1 : Fin (Pm f)))] = L1 at hbs HL1
  clear hb00
  go_wp2_with fail
  go_loopw [8, 9, 34] (fun ov bv iv wr => ∃ (i : Nat) (out base : List E) (lo9 lb9 : Nat) (D E' : Option Addr) (cp dp : Nat), i ≤ n ∧ iv = .int .i64 i ∧ ov = .slice D lo9 cp ∧ bv = .slice E' lb9 dp ∧ Hid (out.length = lo9 ∧ base.length = lb9 ∧ lo9 ≤ 2 * i + 1 ∧ lb9 ≤ 2 * i + 1) ∧ SlE wr wr.heap.size (.slice D lo9 cp) out ∧ SlE wr wr.heap.size (.slice E' lb9 dp) base ∧ Below w.heap.size w wr) (fun _ _ iv _ => n - (intOf iv).toNat)
  case atStart => exact ⟨0, [], L1, 0, 1, none, some g1, 0, 1, Nat.zero_le _, rfl, rfl, rfl, ⟨rfl, HL1.out, by omega, by omega⟩, SlE.nil _ _, hbs, hb2⟩
  case round =>
    clear hbs hb2 HL1 L1
    obtain ⟨i, out, base, lo9, lb9, D, E', cp, dp, hi9, rfl, rfl, rfl, hI, hos, hbs, hb00⟩ := hrel
    by_cases hin : i < n
    · obtain ⟨⟨p0, p1⟩, hp⟩ : ∃ z, x[i]? = some z := ⟨_, List.getElem?_eq_getElem (by rw [HXL.out]; exact hin)⟩
      have HP : Hid (okE (p0, p1)) := HX.out.2 _ (List.mem_of_getElem? hp)
      have HPX := Lib.hid hp
      obtain ⟨b1, o1, hAe, hbw1, hrow1⟩ := HX.out.rowOf (by rw [HXL.out]; omega)
      subst hAe
      have HR2 := Lib.hid hrow1
      obtain ⟨d0, d1⟩ := (hrow1.below hb00 hbw1) i _ hp
      dsimp only at d0 d1
      have g1' : (0 : Int) ≤ (i : Int) := by omega
      have g2 : (i : Int) < (n : Int) := by omega
      have HOL : Hid (out.length = lo9) := hI.out.1
      have HBL : Hid (base.length = lb9) := hI.out.2.1
      have hol : lo9 ≤ 2 * i + 1 := hI.out.2.2.1
      have hbl : lb9 ≤ 2 * i + 1 := hI.out.2.2.2
      clear hp hrow1 hI
      have hwz := hb00.size
      go_upto_region 12 with fail
      have pv := V2.new wr (.int .u64 p0) (.int .u64 p1) 28
      have hbA : Below wr.heap.size wr (wr.alloc (.cells #[.int .u64 p0, .int .u64 p1] 28)) := by repeat (first | exact Below.refl _ _ | with_reducible assumption | (refine bl_alloc ?_ (Nat.le_refl _) _))
      replace hb00 := bl_call hb00 (Nat.le_refl _) hbA
      replace hos := hos.later hbA
      replace hbs := hbs.later hbA
      clear hbA
      generalize wr.alloc (.cells #[.int .u64 p0, .int .u64 p1] 28) = w3 at hb00 hos hbs pv ⊢
      obtain ⟨pb, hpb⟩ : ∃ z, wr.heap.size = z := ⟨_, rfl⟩
      rw [hpb] at pv hwz
      simp only [hpb]
      clear hpb d0 d1
      obtain ⟨v, hv⟩ : ∃ v, horner (kL f p0 p1) (base.map (kE f)) = v := ⟨_, rfl⟩
      have HA1 : Hid (∀ wz, SlE wz wz.heap.size (.slice E' lb9 dp) base → Calls Tryd.prog 30 #[.int .u8 f, .slice E' lb9 dp, .agg #[.int .u64 p0, .int .u64 p1]] wz (RetK v wz)) := fun wz h => by
        have h2 := HAT.out _ base p0 p1 HP.out wz h (by rw [HBL.out]; omega)
        rwa [hv] at h2
      clear hv
      obtain ⟨pv0, pv1, pv2, pv3, pv4⟩ := V2.mk pv.c0 pv.c1 pv.f0 pv.f1 pv.lt
      go_wp2_with fail
      refine (HA1.out _ hbs).mono ?_
      rintro e w4 ⟨rfl, hb4⟩
      clear pv0 pv1 pv2 pv3 pv4
      replace hb00 := bl_call hb00 (Nat.le_refl _) hb4
      replace hos := hos.later hb4
      replace hbs := hbs.later hb4
      replace pv := pv.call hb4
      clear hb4
      go_wp2_with fail
      refine (HIN.out v _).mono ?_
      rintro e w5 (⟨h0, rfl, hb5⟩ | ⟨hv0, rfl, hb5⟩)
      · skip
        replace hb00 := bl_call hb00 (Nat.le_refl _) hb5
        replace hos := hos.later hb5
        replace hbs := hbs.later hb5
        replace pv := pv.call hb5
        clear hb5 h0 hos hbs pv
        go_wp2_with fail
        go_ret2
        exact ⟨_, _, rfl, by repeat (first | exact Below.refl _ _ | with_reducible assumption | (refine bl_alloc ?_ (Nat.le_refl _) _) | (refine bl_set ?_ (by dsimp only; omega) _) | (refine Below.drew ?_) | (refine bl_drewN ?_ _) | (refine bl_call ?_ (Nat.le_refl _) (by assumption)))⟩
      · skip
        replace hb00 := bl_call hb00 (Nat.le_refl _) hb5
        replace hos := hos.later hb5
        replace hbs := hbs.later hb5
        replace pv := pv.call hb5
        clear hb5
        obtain ⟨k, hk⟩ : ∃ k, kinv v = k := ⟨_, rfl⟩
        rw [hk]
        clear hk hv0
        go_upto_region 13 with fail
        have uv := V2.new w5 (.int .u64 (lo k)) (.int .u64 (hi k)) 28
        have hbA : Below w5.heap.size w5 (w5.alloc (.cells #[.int .u64 (lo k), .int .u64 (hi k)] 28)) := by repeat (first | exact Below.refl _ _ | with_reducible assumption | (refine bl_alloc ?_ (Nat.le_refl _) _))
        replace hb00 := bl_call hb00 (Nat.le_refl _) hbA
        replace hos := hos.later hbA
        replace hbs := hbs.later hbA
        replace pv := pv.call hbA
        clear hbA
        generalize w5.alloc (.cells #[.int .u64 (lo k), .int .u64 (hi k)] 28) = w6 at hb00 hos hbs pv uv ⊢
        obtain ⟨ub, hub⟩ : ∃ z, w5.heap.size = z := ⟨_, rfl⟩
        rw [hub] at uv
        simp only [hub]
        clear hub
        obtain ⟨d0, d1⟩ := (HR2.out.below hb00 hbw1) i _ HPX.out
        dsimp only at d0 d1
        have l1 : b1 < w6.heap.size := Nat.lt_of_lt_of_le hbw1 hb00.size
        have l2 := pv.lt
        have l3 := uv.lt
        obtain ⟨o, ho⟩ : ∃ o, horner (kL f p0 p1) (out.map (kE f)) = o := ⟨_, rfl⟩
        have HA2 : Hid (∀ wz, SlE wz wz.heap.size (.slice D lo9 cp) out → Calls Tryd.prog 30 #[.int .u8 f, .slice D lo9 cp, .agg #[.int .u64 p0, .int .u64 p1]] wz (RetK o wz)) := fun wz h => by
          have h2 := HAT.out _ out p0 p1 HP.out wz h (by rw [HOL.out]; omega)
          rwa [ho] at h2
        obtain ⟨d, hd⟩ : ∃ d, kL f p0 p1 - o = d := ⟨_, rfl⟩
        have HSU : Hid (∀ wz, Calls Tryd.prog 72 #[.int .u8 f, .agg #[.int .u64 p0, .int .u64 p1], vK o] wz (RetK d wz)) := fun wz => by
          have h := field_SubE hf HP.out (okE_K o) wz
          rwa [kL_lohi, hd] at h
        clear ho hd
        go_upto_region 15 with fail
        obtain ⟨pv0, pv1, pv2, pv3, pv4⟩ := V2.mk pv.c0 pv.c1 pv.f0 pv.f1 pv.lt
        obtain ⟨uv0, uv1, uv2, uv3, uv4⟩ := V2.mk uv.c0 uv.c1 uv.f0 uv.f1 uv.lt
        have hNew := newE_stable (w6.heap.size)
        refine region_N (n := 14) (m := 15) (f := 14) 13 14 (NewE (w6.heap.size)) (by kernel_rfl) (by kernel_rfl) rfl ?_
        refine WpH.takeND hNew 0 (some 51) (v := ?_) rfl rfl (by kernel_rfl) rfl rfl (fun _ _ _ h => h) (.val rfl (fun wz hwz => ?_)) ?_
        rotate_left
        · go_simp; try (with_reducible rfl)
        (simp only [Act.put]); (try simp only [List.setIfInBounds_toArray]); (try simp only [List.set_cons_succ]); (try simp only [List.set_cons_zero])
        refine WpH.takeND hNew 1 (some 52) (v := ?_) rfl rfl (by kernel_rfl) rfl rfl (fun _ _ _ h => h) (.val rfl (fun wz hwz => ?_)) ?_
        rotate_left
        · go_simp; try (with_reducible rfl)
        (simp only [Act.put]); (try simp only [List.setIfInBounds_toArray]); (try simp only [List.set_cons_succ]); (try simp only [List.set_cons_zero])
        refine WpH.takeND hNew 2 (some 53) (v := ?_) rfl rfl (by kernel_rfl) rfl rfl (fun _ _ _ h => h) (.val rfl (fun wz hwz => ?_)) ?_
        rotate_left
        · go_simp; try (with_reducible rfl)
        (simp only [Act.put]); (try simp only [List.setIfInBounds_toArray]); (try simp only [List.set_cons_succ]); (try simp only [List.set_cons_zero])
        refine WpH.takeND hNew 3 (some 54) (v := ?_) rfl rfl (by kernel_rfl) rfl rfl (fun _ _ _ h => h) (.val rfl (fun wz hwz => ?_)) ?_
        rotate_left
        · go_simp; try (with_reducible rfl)
        (simp only [Act.put]); (try simp only [List.setIfInBounds_toArray]); (try simp only [List.set_cons_succ]); (try simp only [List.set_cons_zero])
        refine WpH.takeND hNew 4 (some 55) (v := ?_) rfl rfl (by kernel_rfl) rfl rfl (fun _ _ _ h => h) (.val rfl (fun wz hwz => ?_)) ?_
        rotate_left
        · go_simp; try (with_reducible rfl)
        (simp only [Act.put]); (try simp only [List.setIfInBounds_toArray]); (try simp only [List.set_cons_succ]); (try simp only [List.set_cons_zero])
        refine WpH.takeND hNew 5 (some 56) (v := ?_) rfl rfl (by kernel_rfl) rfl rfl (fun _ _ _ h => h) (.val rfl (fun wz hwz => ?_)) ?_
        rotate_left
        · (obtain ⟨hcz, hfz⟩ := bcell hwz; go_simp; try (with_reducible rfl))
        (simp only [Act.put]); (try simp only [List.setIfInBounds_toArray]); (try simp only [List.set_cons_succ]); (try simp only [List.set_cons_zero])
        refine WpH.takeND hNew 6 (some 57) (v := ?_) rfl rfl (by kernel_rfl) rfl rfl (fun _ _ _ h => h) (.val rfl (fun wz hwz => ?_)) ?_
        rotate_left
        · go_simp; try (with_reducible rfl)
        (simp only [Act.put]); (try simp only [List.setIfInBounds_toArray]); (try simp only [List.set_cons_succ]); (try simp only [List.set_cons_zero])
        refine WpH.takeND hNew 7 (some 58) (v := ?_) rfl rfl (by kernel_rfl) rfl rfl (fun _ _ _ h => h) (.val rfl (fun wz hwz => ?_)) ?_
        rotate_left
        · go_simp; try (with_reducible rfl)
        (simp only [Act.put]); (try simp only [List.setIfInBounds_toArray]); (try simp only [List.set_cons_succ]); (try simp only [List.set_cons_zero])
        refine WpH.takeND hNew 8 (some 59) (v := ?_) rfl rfl (by kernel_rfl) rfl rfl (fun _ _ _ h => h) (.val rfl (fun wz hwz => ?_)) ?_
        rotate_left
        · (obtain ⟨hcz, hfz⟩ := bcell hwz; go_simp; try (with_reducible rfl))
        (simp only [Act.put]); (try simp only [List.setIfInBounds_toArray]); (try simp only [List.set_cons_succ]); (try simp only [List.set_cons_zero])
        refine WpH.takeND hNew 9 (some 60) rfl rfl (by kernel_rfl) rfl rfl (fun _ _ _ h => h) (.call rfl (fun wz hwz => HA2.out wz (hos.later hwz)) (fun wz hwz => ?_)) ?_
        · go_simp; try (with_reducible rfl)
        (simp only [Act.put]); (try simp only [List.setIfInBounds_toArray]); (try simp only [List.set_cons_succ]); (try simp only [List.set_cons_zero])
        refine WpH.takeND hNew 10 (some 61) rfl rfl (by kernel_rfl) rfl rfl (fun _ _ _ h => h) (.call rfl (fun wz hwz => HSU.out wz) (fun wz hwz => ?_)) ?_
        · go_simp; try (with_reducible rfl)
        (simp only [Act.put]); (try simp only [List.setIfInBounds_toArray]); (try simp only [List.set_cons_succ]); (try simp only [List.set_cons_zero])
        refine WpH.takeND hNew 11 (some 62) (v := ?_) rfl rfl (by kernel_rfl) rfl rfl (fun _ _ _ h => h) (.val rfl (fun wz hwz => ?_)) ?_
        rotate_left
        · (obtain ⟨hcz, hfz⟩ := bcell hwz; go_simp; try (with_reducible rfl))
        (simp only [Act.put]); (try simp only [List.setIfInBounds_toArray]); (try simp only [List.set_cons_succ]); (try simp only [List.set_cons_zero])
        refine WpH.takeND hNew 12 (some 63) rfl rfl (by kernel_rfl) rfl rfl (fun _ _ _ h => h) (.call rfl (fun wz hwz => HMU.out d k wz) (fun wz hwz => ?_)) ?_
        · go_simp; try (with_reducible rfl)
        (simp only [Act.put]); (try simp only [List.setIfInBounds_toArray]); (try simp only [List.set_cons_succ]); (try simp only [List.set_cons_zero])
        refine WpH.one (i := 13) (by kernel_rfl) (fun w2 hw2 => ?_)
        refine wpOp_valueD (some 14) rfl rfl rfl (by go_simp; first | rfl | exact ⟨rfl, rfl⟩) ⟨⟨hw2.1.trans (((Below.refl _ _).alloc (Nat.le_refl _) _).mono hw2.1.size), fun _ => ⟨_, rfl, (by have hsz2 := hw2.1.size; (try simp only [World.size_alloc] at hsz2); omega), V2.new _ _ _ _⟩⟩, ?_⟩
        (simp only [Act.put]); (try simp only [List.setIfInBounds_toArray]); (try simp only [List.set_cons_succ]); (try simp only [List.set_cons_zero])
        refine WpH.done (by kernel_rfl) (fun w7 hw7n => ?_)
        obtain ⟨hw7, hnw7⟩ := hw7n
        obtain ⟨av, hbew7, hBav, hVav⟩ := hnw7 rfl
        simp at hbew7
        rw [hbew7]
        clear hNew hnw7 hw2 hbew7 w2
        (try simp only [List.drop_succ_cons]); (try simp only [List.drop_zero]); (try simp only [Nat.reduceSub]); (try simp only [List.take_succ_cons]); (try simp only [List.take_zero])
        clear pv0 pv1 pv2 pv3 pv4 uv0 uv1 uv2 uv3 uv4
        clear d0 d1 l1 l3 uv
        obtain ⟨c, hc⟩ : ∃ c, d * k = c := ⟨_, rfl⟩
        rw [hc]
        clear hc HPX HR2 HA2 HSU
        obtain ⟨m, hm⟩ : ∃ m, -(kL f p0 p1) = m := ⟨_, rfl⟩
        have HNE : Hid (∀ wz, Calls Tryd.prog 76 #[.int .u8 f, .agg #[.int .u64 p0, .int .u64 p1]] wz (RetK m wz)) := fun wz => by
          have h := field_NegL hf p0 p1 wz HP.out.1 HP.out.2.1 HP.out.2.2.1 HP.out.2.2.2
          rwa [hm] at h
        clear hm
        replace pv := pv.call hw7
        obtain ⟨Vav0, Vav1, Vav2, Vav3, Vav4⟩ := V2.mk hVav.c0 hVav.c1 hVav.f0 hVav.f1 hVav.lt
        go_upto_region 16 with fail
        clear Vav0 Vav1 Vav2 Vav3 Vav4
        have hpa : pb ≠ av := by omega
        replace hw7 := bl_st hw7 (b := av) (by omega) (.int .u64 (lo c)) (.int .u64 (hi c))
        replace pv := V2.oth pv (b := av) (by omega) (.int .u64 (lo c)) (.int .u64 (hi c))
        replace hVav := V2.set hVav (.int .u64 (lo c)) (.int .u64 (hi c))
        generalize (w7.setCell ⟨av, 0, none⟩ (.int .u64 (lo c))).setCell ⟨av, 1, none⟩ (.int .u64 (hi c)) = w8 at hVav hw7 pv ⊢
        replace hos := hos.later hw7
        replace hbs := hbs.later hw7
        replace hb00 := bl_call hb00 (Nat.le_refl _) hw7
        clear hw7 HIN HMU HAT
        obtain ⟨Vav0, Vav1, Vav2, Vav3, Vav4⟩ := V2.mk hVav.c0 hVav.c1 hVav.f0 hVav.f1 hVav.lt
        go_wp2_with fail
        refine (HSC.out _ base c _ hbs (by rw [HBL.out]; omega)).mono ?_
        rintro e w9 ⟨v9, S9, rfl, ho9, hl9, hk9, hb9⟩
        clear Vav0 Vav1 Vav2 Vav3 Vav4
        replace hb00 := bl_call hb00 (Nat.le_refl _) hb9
        replace hos := hos.later hb9
        replace hbs := hbs.later hb9
        replace pv := pv.call hb9
        clear hb9 hVav
        obtain ⟨A9, c9, rfl⟩ := own_shape ho9
        have hss := own_slE rfl ho9 hk9
        have HL9 := Lib.hid hl9
        clear ho9 hl9 hk9
        go_wp2_with fail
        refine (HAD.out _ _ out S9 _ hos hss (by rw [HOL.out]; omega) (by have := HL9.out; have := HBL.out; omega)).mono ?_
        rintro e w10 ⟨v10, S10, rfl, ho10, hl10, hk10, hb10⟩
        obtain ⟨A10, c10, rfl⟩ := own_shape ho10
        have hns := own_slE rfl ho10 hk10
        obtain ⟨n10, hn10⟩ : ∃ z, S10.length = z := ⟨_, rfl⟩
        rw [hn10] at hl10 hns ⊢
        have HN10 := Lib.hid hn10
        have hm10 : n10 ≤ 2 * i + 1 := by have := HOL.out; have := HL9.out; have := HBL.out; omega
        replace hb00 := bl_call hb00 (Nat.le_refl _) hb10
        replace hbs := hbs.later hb10
        replace pv := pv.call hb10
        clear hb10 ho10 hl10 hk10 hss hos hn10
        obtain ⟨pv0, pv1, pv2, pv3, pv4⟩ := V2.mk pv.c0 pv.c1 pv.f0 pv.f1 pv.lt
        go_wp2_with fail
        refine (HNE.out _).mono ?_
        rintro e w11 ⟨rfl, hb11⟩
        clear pv0 pv1 pv2 pv3 pv4
        replace hb00 := bl_call hb00 (Nat.le_refl _) hb11
        replace hbs := hbs.later hb11
        replace hns := hns.later hb11
        clear hb11 pv
        go_wp2_with fail
        refine (HON.out _).mono ?_
        rintro e w12 ⟨rfl, hb12⟩
        replace hb00 := bl_call hb00 (Nat.le_refl _) hb12
        replace hbs := hbs.later hb12
        replace hns := hns.later hb12
        clear hb12
        have hpr := SlE.pair w12 (okE_K m) (okE_K (1 : Fin (Pm f)))
        have hbA : Below w12.heap.size w12 (w12.alloc (.cells #[.int .u64 (lo m), .int .u64 (hi m), .int .u64 (lo (1 : Fin (Pm f))), .int .u64 (hi (1 : Fin (Pm f)))] 28)) := (Below.refl _ _).alloc (Nat.le_refl _) _
        have hbs2 := hbs.later hbA
        have hns2 := hns.later hbA
        have hb13 := bl_call hb00 (Nat.le_refl _) hbA
        have HMM := Lib.hid (HML.out _ _ base [(lo m, hi m), (lo (1 : Fin (Pm f)), hi (1 : Fin (Pm f)))] _ (HT.out.call hb13) hbs2 hpr (by rw [HBL.out]; simp only [List.length_cons, List.length_nil]; omega))
        clear hbs hns hb00 hpr hbs2 hbA
        go_wp2_with fail
        refine HMM.out.mono ?_
        rintro e w14 ⟨vm, SM, rfl, hom, hlm, hkm, hb14⟩
        obtain ⟨AM, cM, rfl⟩ := own_shape hom
        have hms := own_slE rfl hom hkm
        obtain ⟨nm, hnm⟩ : ∃ z, SM.length = z := ⟨_, rfl⟩
        rw [hnm] at hlm hms ⊢
        have HNM := Lib.hid hnm
        have hmm : nm ≤ 2 * i + 3 := by
          have h1 := hlm.2 (by simp only [List.length_cons, List.length_nil]; omega)
          rw [HBL.out] at h1
          simp only [List.length_cons, List.length_nil] at h1
          omega
        replace hb13 := bl_call hb13 (Nat.le_refl _) hb14
        replace hns2 := hns2.later hb14
        clear hb14 hom HMM hlm hkm hnm
        go_wp2_with fail
        go_roundw
        case rel => exact ⟨i + 1, S10, SM, _, _, A10, AM, c10, cM, by omega, by go_num, rfl, rfl, ⟨HN10.out, HNM.out, by omega, by omega⟩, hns2, hms, hb13⟩
        case measure => simp [intOf]; omega
    · obtain hie : i = n := by omega
      subst hie
      clear hI hbs hos
      go_wp2_with fail
      go_ret2
      exact ⟨_, _, rfl, hb00⟩
end

end Go.Proofs.YtfhmineolncefaaDoor
