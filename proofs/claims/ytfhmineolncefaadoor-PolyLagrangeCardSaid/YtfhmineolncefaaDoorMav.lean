/-
  WALK: tallymanlaw05.PolyLagrange (under way).
-/
import Derived.Test.YtfhmineolncefaaDoorMau
import Derived.Test.YtfhmineolncefaaDoorMar
import Derived.Test.YtfhmineolncefaaDoorMag
namespace Go.Proofs.YtfhmineolncefaaDoor
open Go.RowKit Fm
set_option linter.unusedVariables false
set_option maxRecDepth 100000

set_option maxHeartbeats 16000000 in
theorem walk_PolyLagrange (n : Int) (vl : Value) (at9 : Int) (l : List E) (x : E) (w : World) (hT : TabW w) (hn : 0 ≤ n ∧ n ≤ 255) (hl : SlE w w.heap.size vl l) (hx : okE x) (hat : 0 ≤ at9 ∧ at9 ≤ 255) :
    Calls Tryd.prog 11 #[.int .u8 n, vl, .agg #[.int .u64 x.1, .int .u64 x.2], .int .u8 at9] w fun e w' => e = .returned (.bool true) ∧ Below w.heap.size w w' := by
  obtain ⟨f, hf, hF⟩ := law03_FN n hn.1 hn.2
  obtain ⟨x0, x1⟩ := x
  obtain ⟨hx0, hx1, hx2, hx3⟩ := hx
  dsimp only at hx0 hx1 hx2 hx3 ⊢
  have heq := eql_elem
  have HF := Lib.hid hF
  have HAW := Lib.hid (fun wz h => law05_Awake wz h)
  have htl := hT.lt
  have hfb0 : (1 : Int) ≤ (f : Int) := by rcases hf.or with rfl | rfl <;> omega
  have hfb1 : (f : Int) ≤ 2 := by rcases hf.or with rfl | rfl <;> omega
  have hwF : IntKind.i64.wrap (f : Int) = (f : Int) := IntWalk.i64_in _ (by omega)
  have HOX := Lib.hid (fun wz => ref_OfL hf x0 x1 wz hx0 hx1 hx2 hx3)
  have HPD := Lib.hid (fun v l wz h => law04_Pad hf v l wz h)
  have HL := Lib.hid hl
  obtain ⟨⟨A1, c1, rfl, _, _, _⟩, _⟩ := hl
  have hb00 : Below w.heap.size w w := Below.refl _ _
  go_enter Tryd.func11, Tryd.ntmps11
  go_upto_region 1 with fail
  have q0 := V2.new w (.int .u64 x0) (.int .u64 x1) 28
  have hbA : Below w.heap.size w (w.alloc (.cells #[.int .u64 x0, .int .u64 x1] 28)) := by repeat (first | exact Below.refl _ _ | with_reducible assumption | (refine bl_alloc ?_ (Nat.le_refl _) _))
  replace hb00 := bl_call hb00 (Nat.le_refl _) hbA
  replace hT := hT.call hbA
  clear hbA
  generalize w.alloc (.cells #[.int .u64 x0, .int .u64 x1] 28) = w1 at hb00 hT q0 ⊢
  go_wp2_with fail
  refine (HAW.out _ hT).mono ?_
  rintro e w2 ⟨rfl, hb2⟩
  replace hb00 := bl_call hb00 (Nat.le_refl _) hb2
  replace hT := hT.call hb2
  replace q0 := q0.call hb2
  clear hb2
  go_upto_region 4 with (first
    | (go_at_call 16; refine (HF.out _).mono ?_; rintro e wq ⟨rfl, rfl⟩))
  go_wp2_with fail
  refine (HPD.out _ l _ ((HL.out.below hb00).mono hb00.size)).mono ?_
  rintro e w3 ⟨L, g, p, hL4, hpl, rfl, hR, hg, hb3⟩
  have hgw : w.heap.size < g := Nat.lt_of_lt_of_le q0.lt hg
  have HPL := Lib.hid hpl
  have hp4 : 2 ^ L ≤ 2 ^ 4 := Nat.pow_le_pow_right (by omega) hL4
  have hp0 := Nat.two_pow_pos L
  rw [hpl]
  clear hpl hg HPD HL
  replace hb00 := bl_call hb00 (Nat.le_refl _) hb3
  replace hT := hT.call hb3
  replace q0 := q0.call hb3
  clear hb3
  have HLO := Lib.hid (fun wz h => ntt_Log_ok L (by omega) wz h)
  have HPO := Lib.hid (fun wz => ntt_Points hf L (by omega) wz)
  have HPSL : Hid ((pows (rootK f L) (2 ^ L)).length = 2 ^ L) := pows_length ..
  obtain ⟨N, hN⟩ : ∃ N, 2 ^ L = N := ⟨_, rfl⟩
  have HNL := Lib.hid hN
  rw [hN] at HLO HPO HPSL hp4 hp0 HPL ⊢
  clear hN
  go_wp2_with fail
  refine (HLO.out _ hT).mono ?_
  rintro e w' ⟨rfl, rfl⟩
  go_wp2_with fail
  refine (HPO.out _).mono ?_
  rintro e w4 ⟨vp, rfl, hop, hb4⟩
  obtain ⟨AP, cP, rfl⟩ := own_shape hop
  replace hop := own_mono hop (show w.heap.size + 1 ≤ w3.heap.size from q0.lt)
  rw [HPSL.out] at hop ⊢
  replace hb00 := bl_call hb00 (Nat.le_refl _) hb4
  replace hT := hT.call hb4
  replace q0 := q0.call hb4
  replace hR := hR.call hb4
  clear hb4
  obtain ⟨q00, q01, q02, q03, q04⟩ := V2.mk q0.c0 q0.c1 q0.f0 q0.f1 q0.lt
  go_wp2_with fail
  refine (HOX.out _).mono ?_
  rintro e w5 ⟨rfl, hb5⟩
  clear q00 q01 q02 q03 q04
  replace hb00 := bl_call hb00 (Nat.le_refl _) hb5
  replace hT := hT.call hb5
  replace q0 := q0.call hb5
  replace hR := hR.call hb5
  replace hop := own_call hop hb5
  clear hb5
  obtain ⟨y, hy⟩ : ∃ y, kL f x0 x1 = y := ⟨_, rfl⟩
  rw [hy]
  clear hy
  obtain ⟨q00, q01, q02, q03, q04⟩ := V2.mk q0.c0 q0.c1 q0.f0 q0.f1 q0.lt
  go_upto_region 8 with fail
  clear q00 q01 q02 q03 q04
  replace hop := own_st hop (b := w.heap.size) (by omega) (.int .u64 (lo y)) (.int .u64 (hi y))
  replace hT := (hT.st (p := ⟨w.heap.size, 0, none⟩) (by dsimp only; omega) (.int .u64 (lo y))).st (p := ⟨w.heap.size, 1, none⟩) (by dsimp only; omega) (.int .u64 (hi y))
  replace hR := (hR.far (p := ⟨w.heap.size, 0, none⟩) (by dsimp only; omega) (.int .u64 (lo y))).far (p := ⟨w.heap.size, 1, none⟩) (by dsimp only; omega) (.int .u64 (hi y))
  replace hb00 := bl_st hb00 (b := w.heap.size) (Nat.le_refl _) (.int .u64 (lo y)) (.int .u64 (hi y))
  replace q0 : V2 ((w5.setCell ⟨w.heap.size, 0, none⟩ (.int .u64 (lo y))).setCell ⟨w.heap.size, 1, none⟩ (.int .u64 (hi y))) w.heap.size (.int .u64 (lo y)) (.int .u64 (hi y)) := V2.set q0 _ _
  generalize (w5.setCell ⟨w.heap.size, 0, none⟩ (.int .u64 (lo y))).setCell ⟨w.heap.size, 1, none⟩ (.int .u64 (hi y)) = w6 at hop hT hR hb00 q0 ⊢
  have HPT := Lib.hid (own_sl HPSL.out hop)
  have HPS := Lib.hid (hR.sl HPL.out (Nat.le_refl _) (by omega))
  have HTB := Lib.hid hT
  have HX := Lib.hid q0
  have hbo : Below w6.heap.size w6 w6 := Below.refl _ _
  clear hop hR hT htl
  obtain ⟨bp, op, hAp, hbp, hrp⟩ := HPT.out.rowOf (by rw [HPSL.out]; exact hp0)
  subst hAp
  have HPR := Lib.hid hrp
  have HPTL : Hid ((pows (rootK f L) N).length = N) := HPSL
  have HKP : Hid (∀ k q, (pows (rootK f L) N)[k]? = some q → Fm.kpow q N = 1) := fun k q hq => by
    have hk : k < N := by
      obtain ⟨h1, _⟩ := List.getElem?_eq_some_iff.1 hq
      rwa [HPTL.out] at h1
    have h2 : (pows (rootK f L) N).getD k 0 = q := by rw [List.getD_eq_getElem?_getD, hq]; rfl
    unfold pows at h2
    rw [ofF_getD, if_pos hk] at h2
    rw [← h2, ← Fm.kpow_mul, Nat.mul_comm, Fm.kpow_mul, ← HNL.out, (rt_root f L (by omega)).one, one_kpow]
  have HON : Hid (Fm.kpow y N = 1 → ∃ k, k < N ∧ (pows (rootK f L) N)[k]? = some y) := fun h => by
    rw [← HNL.out] at h
    obtain ⟨k, hk, he⟩ := Rt.only (rt_root f L (by omega)) (by omega) h
    rw [HNL.out] at hk
    refine ⟨k, hk, ?_⟩
    have h2 : (pows (rootK f L) N).getD k 0 = y := by unfold pows; rw [ofF_getD, if_pos hk]; exact he.symm
    obtain ⟨z, hz⟩ : ∃ z, (pows (rootK f L) N)[k]? = some z := ⟨_, List.getElem?_eq_getElem (by rw [HPTL.out]; exact hk)⟩
    rw [List.getD_eq_getElem?_getD, hz] at h2
    rw [hz]
    exact congrArg some h2
  have HAT : Hid (∀ k, k < N → ∃ q, (pows (rootK f L) N)[k]? = some q) := fun k hk => ⟨_, List.getElem?_eq_getElem (by rw [HPTL.out]; exact hk)⟩
  have HLAG : Hid (∀ (x : Fin (Pm f)) wz, Below w6.heap.size w6 wz → Calls Tryd.prog 44 #[.int .u8 f, .slice (some ⟨g, 0, none⟩) N N, vK x] wz (fun e w' => (Fm.kpow x N = 1 ∧ e = .returned (.tuple #[.agg #[.int .u64 0, .int .u64 0], .int .i64 12]) ∧ Below wz.heap.size wz w') ∨ (Fm.kpow x N ≠ 1 ∧ RetK0 (ev x (coefsK L p)) wz e w'))) := fun x wz hb => by
    have h := poly_Lagrange hf L (by omega) _ p (by rw [HNL.out]; exact HPL.out) x wz (HTB.out.call hb) (HPS.out.later hb)
    unfold RetLag at h
    rwa [HNL.out] at h
  have HWT : Hid (∀ wz, Calls Tryd.prog 45 #[.int .u8 f, .int .i64 L, vK y] wz (fun e w' => (Fm.kpow y N = 1 ∧ RetE9 12 wz e w') ∨ (Fm.kpow y N ≠ 1 ∧ RetOwn0 (wts L y) wz e w'))) := fun wz => by
    have h := poly_Weights hf L (by omega) y wz
    unfold RetWts at h
    rwa [HNL.out] at h
  have HCO : Hid (∀ wz, Below w6.heap.size w6 wz → Calls Tryd.prog 20 #[.int .u8 f, .slice (some ⟨g, 0, none⟩) N N] wz (RetBlk0 (coefsK L p) wz)) := fun wz hb => ntt_Coefs hf L (by omega) _ p (by rw [HNL.out]; exact HPL.out) wz (HTB.out.call hb) (HPS.out.later hb)
  have HCL : Hid ((coefsK L p).length = N) := by show _ = _; rw [coefsK_length, HNL.out]
  have HWL : Hid ((wts L y).length = N) := by show _ = _; rw [← HNL.out]; exact ofF_length ..
  have HDOT : Hid (∀ va wz, Fm.kpow y N ≠ 1 → Below w6.heap.size w6 wz → SlK wz wz.heap.size va (wts L y) → Calls Tryd.prog 46 #[.int .u8 f, va, .slice (some ⟨g, 0, none⟩) N N] wz (RetK0 (ev y (coefsK L p)) wz)) := fun va wz hne hb hs => by
    have h := field_Dot hf va _ (wts L y) p wz hs (HPS.out.later hb) (by rw [HWL.out, HPL.out]) (by rw [HWL.out]; omega)
    have h2 := lag_sum L (by omega) y p (by rw [HNL.out]; exact HPL.out) (by rw [HNL.out]; exact hne)
    rw [HNL.out] at h2
    rwa [HWL.out, h2] at h
  have HRA : Hid (∀ v wz, SlK wz wz.heap.size v (coefsK L p) → Calls Tryd.prog 25 #[.int .i64 f, v, vK y] wz (RetK (ev y (coefsK L p)) wz)) := fun v wz hs => by
    have h := ref_At hf v (coefsK L p) y wz hs (by rw [HCL.out]; omega)
    rwa [horner_ev] at h
  have HEQ := Lib.hid (vK_eq (f := f))
  clear hrp
  generalize pows (rootK f L) N = PT at *
  generalize coefsK L p = C at *
  generalize wts L y = WT at *
  have HLAGY := Lib.hid (fun wz hb => HLAG.out y wz hb)
  generalize ev y C = r at *
  obtain ⟨j, hj1, hjm⟩ : ∃ j : Nat, j < N ∧ at9.tmod (N : Int) = (j : Int) := by
    have h1 := Int.emod_nonneg at9 (show (N : Int) ≠ 0 by omega)
    have h2 := Int.emod_lt_of_pos at9 (show (0 : Int) < (N : Int) by omega)
    exact ⟨(at9 % N).toNat, by omega, by rw [Int.tmod_eq_emod_of_nonneg hat.1]; omega⟩
  have hjm2 : at9 % (N : Int) = (j : Int) := by rw [← hjm, Int.tmod_eq_emod_of_nonneg hat.1]
  obtain ⟨q, hq⟩ := HAT.out j hj1
  have HQ := Lib.hid hq
  have HQ1 : Hid (Fm.kpow q N = 1) := HKP.out j q hq
  have hjN : (j : Int) < (N : Int) := by omega
  have hj0 : (0 : Int) ≤ (j : Int) := by omega
  clear hq
  obtain ⟨hat0, hat1⟩ := hat
  have HW6 := Lib.hid hb00
  obtain ⟨q00, q01, q02, q03, q04⟩ := V2.mk q0.c0 q0.c1 q0.f0 q0.f1 q0.lt
  go_wp2_with fail
  refine (HLAGY.out _ hbo).mono ?_
  rintro e w7 (⟨hx1, rfl, hb7⟩ | ⟨hx1, rfl, hb7⟩)
  · have HX1 := Lib.hid hx1
    clear q00 q01 q02 q03 q04
    replace hbo := bl_call hbo (Nat.le_refl _) hb7
    replace hb00 := bl_call hb00 (Nat.le_refl _) hb7
    replace q0 := q0.call hb7
    clear hb7 hx1
    go_upto_region 9 with fail
    have gv := V2.new w7 (.int .u64 0) (.int .u64 0) 28
    have hbA : Below w7.heap.size w7 (w7.alloc (.cells #[.int .u64 0, .int .u64 0] 28)) := by repeat (first | exact Below.refl _ _ | with_reducible assumption | (refine bl_alloc ?_ (Nat.le_refl _) _))
    replace hbo := bl_call hbo (Nat.le_refl _) hbA
    replace hb00 := bl_call hb00 (Nat.le_refl _) hbA
    replace q0 := q0.call hbA
    clear hbA
    generalize w7.alloc (.cells #[.int .u64 0, .int .u64 0] 28) = w8 at hbo hb00 q0 gv ⊢
    clear gv
    obtain ⟨q00, q01, q02, q03, q04⟩ := V2.mk q0.c0 q0.c1 q0.f0 q0.f1 q0.lt
    go_wp2_with fail
    refine (HWT.out _).mono ?_
    rintro e w9 (⟨_, rfl, hb9⟩ | ⟨h2, _⟩)
    rotate_left
    · exact absurd HX1.out h2
    clear q00 q01 q02 q03 q04
    replace hbo := bl_call hbo (Nat.le_refl _) hb9
    replace hb00 := bl_call hb00 (Nat.le_refl _) hb9
    replace q0 := q0.call hb9
    clear hb9
    obtain ⟨d0, d1⟩ := (HPR.out.below hbo hbp).kat HQ.out
    have hbpl : bp < w9.heap.size := Nat.lt_of_lt_of_le hbp hbo.size
    go_wp2_with fail
    refine (HLAG.out q _ hbo).mono ?_
    rintro e wl (⟨_, rfl, hbl⟩ | ⟨h2, _⟩)
    rotate_left
    · exact absurd HQ1.out h2
    clear d0 d1 hbpl
    replace hbo := bl_call hbo (Nat.le_refl _) hbl
    replace hb00 := bl_call hb00 (Nat.le_refl _) hbl
    replace q0 := q0.call hbl
    clear hbl
    have hc6 : w.heap.size < wl.heap.size := q0.lt
    go_upto_region 11 with fail
    have jv := V2.new wl (.int .u64 0) (.int .u64 0) 28
    have hbA : Below wl.heap.size wl (wl.alloc (.cells #[.int .u64 0, .int .u64 0] 28)) := by repeat (first | exact Below.refl _ _ | with_reducible assumption | (refine bl_alloc ?_ (Nat.le_refl _) _))
    replace hbo := bl_call hbo (Nat.le_refl _) hbA
    replace hb00 := bl_call hb00 (Nat.le_refl _) hbA
    replace q0 := q0.call hbA
    clear hbA
    generalize wl.alloc (.cells #[.int .u64 0, .int .u64 0] 28) = wm at hbo hb00 q0 jv ⊢
    clear jv
    go_wp2_with fail
    go_loopw [83] (fun kv wr => ∃ k : Nat, k ≤ N ∧ kv = .int .i64 k ∧ Hid (∀ i, i < k → PT[i]? ≠ some y) ∧ V2 wr w.heap.size (.int .u64 (lo y)) (.int .u64 (hi y)) ∧ Below w6.heap.size w6 wr ) (fun kv _ => N - (intOf kv).toNat)
    case atStart => exact ⟨0, Nat.zero_le _, rfl, fun i h => absurd h (Nat.not_lt_zero _), q0, hbo ⟩
    case round =>
      clear q0 hbo hb00 
      obtain ⟨k, hk, rfl, HNE, q0, hbo ⟩ := hrel
      by_cases hkN : k < N
      · obtain ⟨z, hz⟩ := HAT.out k hkN
        obtain ⟨d0, d1⟩ := (HPR.out.below hbo hbp).kat hz
        have HZ := Lib.hid hz
        have g1 : (0 : Int) ≤ (k : Int) := by omega
        have g2 : (k : Int) < (N : Int) := by omega
        have hbx := HEQ.out z y
        clear hz
        go_upto_region 14 with fail
        have zv := V2.new wr (.int .u64 (lo z)) (.int .u64 (hi z)) 28
        have hbA : Below wr.heap.size wr (wr.alloc (.cells #[.int .u64 (lo z), .int .u64 (hi z)] 28)) := by repeat (first | exact Below.refl _ _ | with_reducible assumption | (refine bl_alloc ?_ (Nat.le_refl _) _))
        replace hbo := bl_call hbo (Nat.le_refl _) hbA
        replace q0 := q0.call hbA
        clear hbA
        generalize wr.alloc (.cells #[.int .u64 (lo z), .int .u64 (hi z)] 28) = wn at hbo q0 zv ⊢
        clear d0 d1
        by_cases hzy : z = y
        · rw [decide_eq_true hzy] at hbx
          obtain ⟨zv0, zv1, zv2, zv3, zv4⟩ := V2.mk zv.c0 zv.c1 zv.f0 zv.f1 zv.lt
          obtain ⟨q00, q01, q02, q03, q04⟩ := V2.mk q0.c0 q0.c1 q0.f0 q0.f1 q0.lt
          go_wp2_with fail
          clear zv0 zv1 zv2 zv3 zv4 q00 q01 q02 q03 q04
          go_ret
          exact ⟨rfl, bl_call HW6.out (Nat.le_refl _) hbo⟩
        · rw [decide_eq_false hzy] at hbx
          have HNK : Hid (∀ i, i < k + 1 → PT[i]? ≠ some y) := fun i hi h => by
            by_cases hik : i = k
            · rw [hik, HZ.out] at h
              exact hzy (Option.some.inj h)
            · exact HNE.out i (by omega) h
          obtain ⟨zv0, zv1, zv2, zv3, zv4⟩ := V2.mk zv.c0 zv.c1 zv.f0 zv.f1 zv.lt
          obtain ⟨q00, q01, q02, q03, q04⟩ := V2.mk q0.c0 q0.c1 q0.f0 q0.f1 q0.lt
          go_wp2_with fail
          clear zv0 zv1 zv2 zv3 zv4 q00 q01 q02 q03 q04
          go_roundw
          case rel => exact ⟨k + 1, by omega, by go_num, HNK.out, q0, hbo ⟩
          case measure => simp [intOf]; omega
      · obtain rfl : k = N := by omega
        obtain ⟨i, h1, h2⟩ := HON.out HX1.out
        exact absurd h2 (HNE.out i h1)
  · have HX1 := Lib.hid hx1
    clear q00 q01 q02 q03 q04
    replace hbo := bl_call hbo (Nat.le_refl _) hb7
    replace hb00 := bl_call hb00 (Nat.le_refl _) hb7
    replace q0 := q0.call hb7
    clear hb7 hx1
    go_upto_region 9 with fail
    have gv := V2.new w7 (.int .u64 (lo r)) (.int .u64 (hi r)) 28
    have hbA : Below w7.heap.size w7 (w7.alloc (.cells #[.int .u64 (lo r), .int .u64 (hi r)] 28)) := by repeat (first | exact Below.refl _ _ | with_reducible assumption | (refine bl_alloc ?_ (Nat.le_refl _) _))
    replace hbo := bl_call hbo (Nat.le_refl _) hbA
    replace hb00 := bl_call hb00 (Nat.le_refl _) hbA
    replace q0 := q0.call hbA
    clear hbA
    generalize w7.alloc (.cells #[.int .u64 (lo r), .int .u64 (hi r)] 28) = w8 at hbo hb00 q0 gv ⊢
    obtain ⟨gb, hgb⟩ : ∃ z, w7.heap.size = z := ⟨_, rfl⟩
    rw [hgb] at gv
    simp only [hgb]
    clear hgb
    obtain ⟨q00, q01, q02, q03, q04⟩ := V2.mk q0.c0 q0.c1 q0.f0 q0.f1 q0.lt
    go_wp2_with fail
    refine (HWT.out _).mono ?_
    rintro e w9 (⟨h2, _⟩ | ⟨_, vw, rfl, how, hb9⟩)
    · exact absurd h2 HX1.out
    obtain ⟨AW, cW, rfl⟩ := own_shape how
    have hws := own_sl rfl how
    rw [HWL.out] at hws ⊢
    clear q00 q01 q02 q03 q04
    replace hbo := bl_call hbo (Nat.le_refl _) hb9
    replace hb00 := bl_call hb00 (Nat.le_refl _) hb9
    replace q0 := q0.call hb9
    replace gv := gv.call hb9
    clear hb9 how
    obtain ⟨d0, d1⟩ := (HPR.out.below hbo hbp).kat HQ.out
    have hbpl : bp < w9.heap.size := Nat.lt_of_lt_of_le hbp hbo.size
    go_wp2_with fail
    refine (HLAG.out q _ hbo).mono ?_
    rintro e wl (⟨_, rfl, hbl⟩ | ⟨h2, _⟩)
    rotate_left
    · exact absurd HQ1.out h2
    clear d0 d1 hbpl
    replace hbo := bl_call hbo (Nat.le_refl _) hbl
    replace hb00 := bl_call hb00 (Nat.le_refl _) hbl
    replace q0 := q0.call hbl
    replace gv := gv.call hbl
    replace hws := hws.later hbl
    clear hbl
    have hc6 : w.heap.size < wl.heap.size := q0.lt
    go_upto_region 11 with fail
    have jv := V2.new wl (.int .u64 0) (.int .u64 0) 28
    have hbA : Below wl.heap.size wl (wl.alloc (.cells #[.int .u64 0, .int .u64 0] 28)) := by repeat (first | exact Below.refl _ _ | with_reducible assumption | (refine bl_alloc ?_ (Nat.le_refl _) _))
    replace hbo := bl_call hbo (Nat.le_refl _) hbA
    replace hb00 := bl_call hb00 (Nat.le_refl _) hbA
    replace q0 := q0.call hbA
    replace gv := gv.call hbA
    replace hws := hws.later hbA
    clear hbA
    generalize wl.alloc (.cells #[.int .u64 0, .int .u64 0] 28) = wm at hbo hb00 q0 gv hws jv ⊢
    clear jv
    go_wp2_with fail
    go_loopw [83] (fun kv wr => ∃ k : Nat, k ≤ N ∧ kv = .int .i64 k ∧ Hid (∀ i, i < k → PT[i]? ≠ some y) ∧ V2 wr w.heap.size (.int .u64 (lo y)) (.int .u64 (hi y)) ∧ Below w6.heap.size w6 wr ∧ V2 wr gb (.int .u64 (lo r)) (.int .u64 (hi r)) ∧ SlK wr wr.heap.size (.slice AW N cW) WT) (fun kv _ => N - (intOf kv).toNat)
    case atStart => exact ⟨0, Nat.zero_le _, rfl, fun i h => absurd h (Nat.not_lt_zero _), q0, hbo , gv, hws⟩
    case round =>
      clear q0 hbo hb00 gv hws
      obtain ⟨k, hk, rfl, HNE, q0, hbo , gv, hws⟩ := hrel
      by_cases hkN : k < N
      · obtain ⟨z, hz⟩ := HAT.out k hkN
        obtain ⟨d0, d1⟩ := (HPR.out.below hbo hbp).kat hz
        have HZ := Lib.hid hz
        have g1 : (0 : Int) ≤ (k : Int) := by omega
        have g2 : (k : Int) < (N : Int) := by omega
        have hbx := HEQ.out z y
        clear hz
        go_upto_region 14 with fail
        have zv := V2.new wr (.int .u64 (lo z)) (.int .u64 (hi z)) 28
        have hbA : Below wr.heap.size wr (wr.alloc (.cells #[.int .u64 (lo z), .int .u64 (hi z)] 28)) := by repeat (first | exact Below.refl _ _ | with_reducible assumption | (refine bl_alloc ?_ (Nat.le_refl _) _))
        replace hbo := bl_call hbo (Nat.le_refl _) hbA
        replace q0 := q0.call hbA
        replace gv := gv.call hbA
        replace hws := hws.later hbA
        clear hbA
        generalize wr.alloc (.cells #[.int .u64 (lo z), .int .u64 (hi z)] 28) = wn at hbo q0 gv hws zv ⊢
        clear d0 d1
        by_cases hzy : z = y
        · rw [decide_eq_true hzy] at hbx
          exact absurd (by rw [← hzy]; exact HKP.out k z HZ.out) HX1.out
        · rw [decide_eq_false hzy] at hbx
          have HNK : Hid (∀ i, i < k + 1 → PT[i]? ≠ some y) := fun i hi h => by
            by_cases hik : i = k
            · rw [hik, HZ.out] at h
              exact hzy (Option.some.inj h)
            · exact HNE.out i (by omega) h
          obtain ⟨zv0, zv1, zv2, zv3, zv4⟩ := V2.mk zv.c0 zv.c1 zv.f0 zv.f1 zv.lt
          obtain ⟨q00, q01, q02, q03, q04⟩ := V2.mk q0.c0 q0.c1 q0.f0 q0.f1 q0.lt
          go_wp2_with fail
          clear zv0 zv1 zv2 zv3 zv4 q00 q01 q02 q03 q04
          go_roundw
          case rel => exact ⟨k + 1, by omega, by go_num, HNK.out, q0, hbo , gv, hws⟩
          case measure => simp [intOf]; omega
      · obtain rfl : k = N := by omega
        clear hkN
        go_wp2_with fail
        refine (HCO.out _ hbo).mono ?_
        rintro e wc ⟨gc, rfl, hRc, _, hbc⟩
        replace hbo := bl_call hbo (Nat.le_refl _) hbc
        replace q0 := q0.call hbc
        replace gv := gv.call hbc
        replace hws := hws.later hbc
        rw [HCL.out]
        have hcs := hRc.sl HCL.out (Nat.le_refl _) (by omega)
        clear hRc hbc
        go_wp2_with fail
        refine (HDOT.out _ _ HX1.out hbo hws).mono ?_
        rintro e wd ⟨rfl, hbd⟩
        replace hbo := bl_call hbo (Nat.le_refl _) hbd
        replace q0 := q0.call hbd
        replace gv := gv.call hbd
        replace hcs := hcs.later hbd
        clear hbd hws
        go_upto_region 19 with fail
        have mv := V2.new wd (.int .u64 (lo r)) (.int .u64 (hi r)) 28
        have hbA : Below wd.heap.size wd (wd.alloc (.cells #[.int .u64 (lo r), .int .u64 (hi r)] 28)) := by repeat (first | exact Below.refl _ _ | with_reducible assumption | (refine bl_alloc ?_ (Nat.le_refl _) _))
        replace hbo := bl_call hbo (Nat.le_refl _) hbA
        replace q0 := q0.call hbA
        replace gv := gv.call hbA
        replace hcs := hcs.later hbA
        clear hbA
        generalize wd.alloc (.cells #[.int .u64 (lo r), .int .u64 (hi r)] 28) = we at hbo q0 gv hcs mv ⊢
        obtain ⟨q00, q01, q02, q03, q04⟩ := V2.mk q0.c0 q0.c1 q0.f0 q0.f1 q0.lt
        obtain ⟨gv0, gv1, gv2, gv3, gv4⟩ := V2.mk gv.c0 gv.c1 gv.f0 gv.f1 gv.lt
        obtain ⟨mv0, mv1, mv2, mv3, mv4⟩ := V2.mk mv.c0 mv.c1 mv.f0 mv.f1 mv.lt
        refine region_B (n := 31) (m := 32) (f := 31) (by kernel_rfl) (by kernel_rfl) rfl ?_
        refine WpH.takeD 0 (some 114) (v := ?_) rfl rfl (by kernel_rfl) (fun _ _ _ h => h) (.val rfl (fun wz hwz => ?_)) ?_
        rotate_left
        · go_simp; try (with_reducible rfl)
        (simp only [Act.put]); (try simp only [List.setIfInBounds_toArray]); (try simp only [List.set_cons_succ]); (try simp only [List.set_cons_zero])
        refine WpH.takeD 1 (some 115) (v := ?_) rfl rfl (by kernel_rfl) (fun _ _ _ h => h) (.val rfl (fun wz hwz => ?_)) ?_
        rotate_left
        · go_simp; try (with_reducible rfl)
        (simp only [Act.put]); (try simp only [List.setIfInBounds_toArray]); (try simp only [List.set_cons_succ]); (try simp only [List.set_cons_zero])
        refine WpH.takeD 2 (some 116) (v := ?_) rfl rfl (by kernel_rfl) (fun _ _ _ h => h) (.val rfl (fun wz hwz => ?_)) ?_
        rotate_left
        · go_simp; try (with_reducible rfl)
        (simp only [Act.put]); (try simp only [List.setIfInBounds_toArray]); (try simp only [List.set_cons_succ]); (try simp only [List.set_cons_zero])
        refine WpH.takeD 3 (some 117) (v := ?_) rfl rfl (by kernel_rfl) (fun _ _ _ h => h) (.val rfl (fun wz hwz => ?_)) ?_
        rotate_left
        · go_simp; try (with_reducible rfl)
        (simp only [Act.put]); (try simp only [List.setIfInBounds_toArray]); (try simp only [List.set_cons_succ]); (try simp only [List.set_cons_zero])
        refine WpH.takeD 4 (some 118) (v := ?_) rfl rfl (by kernel_rfl) (fun _ _ _ h => h) (.val rfl (fun wz hwz => ?_)) ?_
        rotate_left
        · go_simp; try (with_reducible rfl)
        (simp only [Act.put]); (try simp only [List.setIfInBounds_toArray]); (try simp only [List.set_cons_succ]); (try simp only [List.set_cons_zero])
        refine WpH.takeD 5 (some 119) (v := ?_) rfl rfl (by kernel_rfl) (fun _ _ _ h => h) (.val rfl (fun wz hwz => ?_)) ?_
        rotate_left
        · go_simp; try (with_reducible rfl)
        (simp only [Act.put]); (try simp only [List.setIfInBounds_toArray]); (try simp only [List.set_cons_succ]); (try simp only [List.set_cons_zero])
        refine WpH.takeD 6 (some 120) (v := ?_) rfl rfl (by kernel_rfl) (fun _ _ _ h => h) (.val rfl (fun wz hwz => ?_)) ?_
        rotate_left
        · go_simp; try (with_reducible rfl)
        (simp only [Act.put]); (try simp only [List.setIfInBounds_toArray]); (try simp only [List.set_cons_succ]); (try simp only [List.set_cons_zero])
        refine WpH.takeD 7 (some 121) (v := ?_) rfl rfl (by kernel_rfl) (fun _ _ _ h => h) (.val rfl (fun wz hwz => ?_)) ?_
        rotate_left
        · go_simp; try (with_reducible rfl)
        (simp only [Act.put]); (try simp only [List.setIfInBounds_toArray]); (try simp only [List.set_cons_succ]); (try simp only [List.set_cons_zero])
        refine WpH.takeD 8 (some 122) (v := ?_) rfl rfl (by kernel_rfl) (fun _ _ _ h => h) (.val rfl (fun wz hwz => ?_)) ?_
        rotate_left
        · go_simp; try (with_reducible rfl)
        (simp only [Act.put]); (try simp only [List.setIfInBounds_toArray]); (try simp only [List.set_cons_succ]); (try simp only [List.set_cons_zero])
        refine WpH.takeD 9 (some 123) (v := ?_) rfl rfl (by kernel_rfl) (fun _ _ _ h => h) (.val rfl (fun wz hwz => ?_)) ?_
        rotate_left
        · go_simp; try (with_reducible rfl)
        (simp only [Act.put]); (try simp only [List.setIfInBounds_toArray]); (try simp only [List.set_cons_succ]); (try simp only [List.set_cons_zero])
        refine WpH.takeD 10 (some 124) (v := ?_) rfl rfl (by kernel_rfl) (fun _ _ _ h => h) (.val rfl (fun wz hwz => ?_)) ?_
        rotate_left
        · go_simp; try (with_reducible rfl)
        (simp only [Act.put]); (try simp only [List.setIfInBounds_toArray]); (try simp only [List.set_cons_succ]); (try simp only [List.set_cons_zero])
        refine WpH.takeD 11 (some 125) (v := ?_) rfl rfl (by kernel_rfl) (fun _ _ _ h => h) (.val rfl (fun wz hwz => ?_)) ?_
        rotate_left
        · go_simp; try (with_reducible rfl)
        (simp only [Act.put]); (try simp only [List.setIfInBounds_toArray]); (try simp only [List.set_cons_succ]); (try simp only [List.set_cons_zero])
        refine WpH.takeD 12 (some 126) (v := ?_) rfl rfl (by kernel_rfl) (fun _ _ _ h => h) (.val rfl (fun wz hwz => ?_)) ?_
        rotate_left
        · go_simp; try (with_reducible rfl)
        (simp only [Act.put]); (try simp only [List.setIfInBounds_toArray]); (try simp only [List.set_cons_succ]); (try simp only [List.set_cons_zero])
        refine WpH.takeD 13 (some 127) (v := ?_) rfl rfl (by kernel_rfl) (fun _ _ _ h => h) (.val rfl (fun wz hwz => ?_)) ?_
        rotate_left
        · go_simp; try (with_reducible rfl)
        (simp only [Act.put]); (try simp only [List.setIfInBounds_toArray]); (try simp only [List.set_cons_succ]); (try simp only [List.set_cons_zero])
        refine WpH.takeD 14 (some 128) (v := ?_) rfl rfl (by kernel_rfl) (fun _ _ _ h => h) (.val rfl (fun wz hwz => ?_)) ?_
        rotate_left
        · go_simp; try (with_reducible rfl)
        (simp only [Act.put]); (try simp only [List.setIfInBounds_toArray]); (try simp only [List.set_cons_succ]); (try simp only [List.set_cons_zero])
        refine WpH.takeD 15 (some 129) (v := ?_) rfl rfl (by kernel_rfl) (fun _ _ _ h => h) (.val rfl (fun wz hwz => ?_)) ?_
        rotate_left
        · go_simp; try (with_reducible rfl)
        (simp only [Act.put]); (try simp only [List.setIfInBounds_toArray]); (try simp only [List.set_cons_succ]); (try simp only [List.set_cons_zero])
        refine WpH.takeD 16 (some 130) (v := ?_) rfl rfl (by kernel_rfl) (fun _ _ _ h => h) (.val rfl (fun wz hwz => ?_)) ?_
        rotate_left
        · go_simp; try (with_reducible rfl)
        (simp only [Act.put]); (try simp only [List.setIfInBounds_toArray]); (try simp only [List.set_cons_succ]); (try simp only [List.set_cons_zero])
        refine WpH.takeD 17 (some 131) (v := ?_) rfl rfl (by kernel_rfl) (fun _ _ _ h => h) (.val rfl (fun wz hwz => ?_)) ?_
        rotate_left
        · go_simp; try (with_reducible rfl)
        (simp only [Act.put]); (try simp only [List.setIfInBounds_toArray]); (try simp only [List.set_cons_succ]); (try simp only [List.set_cons_zero])
        refine WpH.takeD 18 (some 132) (v := ?_) rfl rfl (by kernel_rfl) (fun _ _ _ h => h) (.val rfl (fun wz hwz => ?_)) ?_
        rotate_left
        · go_simp; try (with_reducible rfl)
        (simp only [Act.put]); (try simp only [List.setIfInBounds_toArray]); (try simp only [List.set_cons_succ]); (try simp only [List.set_cons_zero])
        refine WpH.takeD 19 (some 133) (v := ?_) rfl rfl (by kernel_rfl) (fun _ _ _ h => h) (.val rfl (fun wz hwz => ?_)) ?_
        rotate_left
        · (obtain ⟨hcz, hfz⟩ := bcell hwz; go_simp; try (with_reducible rfl))
        (simp only [Act.put]); (try simp only [List.setIfInBounds_toArray]); (try simp only [List.set_cons_succ]); (try simp only [List.set_cons_zero])
        refine WpH.takeD 20 (some 134) (v := ?_) rfl rfl (by kernel_rfl) (fun _ _ _ h => h) (.val rfl (fun wz hwz => ?_)) ?_
        rotate_left
        · go_simp; try (with_reducible rfl)
        (simp only [Act.put]); (try simp only [List.setIfInBounds_toArray]); (try simp only [List.set_cons_succ]); (try simp only [List.set_cons_zero])
        refine WpH.takeD 21 (some 135) (v := ?_) rfl rfl (by kernel_rfl) (fun _ _ _ h => h) (.val rfl (fun wz hwz => ?_)) ?_
        rotate_left
        · go_simp; try (with_reducible rfl)
        (simp only [Act.put]); (try simp only [List.setIfInBounds_toArray]); (try simp only [List.set_cons_succ]); (try simp only [List.set_cons_zero])
        refine WpH.takeD 22 (some 136) (v := ?_) rfl rfl (by kernel_rfl) (fun _ _ _ h => h) (.val rfl (fun wz hwz => ?_)) ?_
        rotate_left
        · (obtain ⟨hcz, hfz⟩ := bcell hwz; go_simp; try (with_reducible rfl))
        (simp only [Act.put]); (try simp only [List.setIfInBounds_toArray]); (try simp only [List.set_cons_succ]); (try simp only [List.set_cons_zero])
        refine WpH.takeD 23 (some 137) rfl rfl (by kernel_rfl) (fun _ _ _ h => h) (.call rfl (fun wz hwz => HRA.out _ wz (hcs.later hwz)) (fun wz hwz => ?_)) ?_
        · go_simp; try (with_reducible rfl)
        (simp only [Act.put]); (try simp only [List.setIfInBounds_toArray]); (try simp only [List.set_cons_succ]); (try simp only [List.set_cons_zero])
        refine WpH.takeD 24 (some 138) (v := ?_) rfl rfl (by kernel_rfl) (fun _ _ _ h => h) (.val rfl (fun wz hwz => ?_)) ?_
        rotate_left
        · go_simp; try (with_reducible rfl)
        (simp only [Act.put]); (try simp only [List.setIfInBounds_toArray]); (try simp only [List.set_cons_succ]); (try simp only [List.set_cons_zero])
        refine WpH.takeD 25 (some 139) (v := ?_) rfl rfl (by kernel_rfl) (fun _ _ _ h => h) (.val rfl (fun wz hwz => ?_)) ?_
        rotate_left
        · go_simp; try (with_reducible rfl)
        (simp only [Act.put]); (try simp only [List.setIfInBounds_toArray]); (try simp only [List.set_cons_succ]); (try simp only [List.set_cons_zero])
        refine WpH.takeD 26 (some 140) (v := ?_) rfl rfl (by kernel_rfl) (fun _ _ _ h => h) (.val rfl (fun wz hwz => ?_)) ?_
        rotate_left
        · go_simp; try (with_reducible rfl)
        (simp only [Act.put]); (try simp only [List.setIfInBounds_toArray]); (try simp only [List.set_cons_succ]); (try simp only [List.set_cons_zero])
        refine WpH.takeD 27 (some 141) (v := ?_) rfl rfl (by kernel_rfl) (fun _ _ _ h => h) (.val rfl (fun wz hwz => ?_)) ?_
        rotate_left
        · (obtain ⟨hcz, hfz⟩ := bcell hwz; go_simp; try (with_reducible rfl))
        (simp only [Act.put]); (try simp only [List.setIfInBounds_toArray]); (try simp only [List.set_cons_succ]); (try simp only [List.set_cons_zero])
        refine WpH.takeD 28 (some 142) (v := ?_) rfl rfl (by kernel_rfl) (fun _ _ _ h => h) (.val rfl (fun wz hwz => ?_)) ?_
        rotate_left
        · (obtain ⟨hcz, hfz⟩ := bcell hwz; go_simp; try (with_reducible rfl))
        (simp only [Act.put]); (try simp only [List.setIfInBounds_toArray]); (try simp only [List.set_cons_succ]); (try simp only [List.set_cons_zero])
        refine WpH.takeD 29 (some 143) (v := ?_) rfl rfl (by kernel_rfl) (fun _ _ _ h => h) (.val rfl (fun wz hwz => ?_)) ?_
        rotate_left
        · go_simp; try (with_reducible rfl)
        (simp only [Act.put]); (try simp only [List.setIfInBounds_toArray]); (try simp only [List.set_cons_succ]); (try simp only [List.set_cons_zero])
        refine WpH.takeD 30 (some 144) (v := ?_) rfl rfl (by kernel_rfl) (fun _ _ _ h => h) (.val rfl (fun wz hwz => ?_)) ?_
        rotate_left
        · go_simp; try (with_reducible rfl)
        (simp only [Act.put]); (try simp only [List.setIfInBounds_toArray]); (try simp only [List.set_cons_succ]); (try simp only [List.set_cons_zero])
        refine WpH.doneB (by kernel_rfl) (fun w8 hw8 => ?_)
        (try simp only [List.drop_succ_cons]); (try simp only [List.drop_zero]); (try simp only [Nat.reduceSub]); (try simp only [List.take_succ_cons]); (try simp only [List.take_zero])
        go_wp2_with fail
        go_ret
        exact ⟨rfl, bl_call HW6.out (Nat.le_refl _) (hbo.trans (hw8.mono hbo.size))⟩

end Go.Proofs.YtfhmineolncefaaDoor
