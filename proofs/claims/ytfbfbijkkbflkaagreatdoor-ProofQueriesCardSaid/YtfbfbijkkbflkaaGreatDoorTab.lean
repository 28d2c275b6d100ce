/-
 Wts, Dot, Lag, PfM, PfQ, PfQ2, RegZ, Vector, PfQ3: for ProofQueries.
-/
import Derived.Test.YtfbfbijkkbflkaaGreatDoorMba
import Derived.Test.YtfbfbijkkbflkaaGreatDoorTaa
namespace Go.Proofs.YtfbfbijkkbflkaaGreatDoor
open Go.RowKit Fm
set_option linter.unusedVariables false
set_option maxRecDepth 100000

section
variable {f : Nat}
def wt (L : Nat) (x : Fin (Pm f)) (k : Nat) : Fin (Pm f) := (Fm.kpow x (2 ^ L) - 1) * kinv (nK f (2 ^ L)) * Fm.kpow (rootK f L) k * kinv (x - Fm.kpow (rootK f L) k)
def wts (L : Nat) (x : Fin (Pm f)) : KL f := ofF (2 ^ L) (wt L x)
def RetWts (L : Nat) (x : Fin (Pm f)) (w : World) (e : Ending) (w' : World) : Prop :=
 (Fm.kpow x (2 ^ L) = 1 ∧ RetE9 12 w e w') ∨ (Fm.kpow x (2 ^ L) ≠ 1 ∧ RetOwn0 (wts L x) w e w')

variable (hf : IsF f)
include hf
set_option maxHeartbeats 8000000 in
theorem poly_WeightsL (L : Nat) (hL : L ≤ 10) (x0 x1 : Int) (hx : okE (x0, x1)) (w : World) :
  Calls Tryz.prog 63 #[.int .u8 f, .int .i64 L, .agg #[.int .u64 x0, .int .u64 x1]] w (RetWts L (kL f x0 x1) w) := by
 obtain ⟨x, hxk⟩ : ∃ x, kL f x0 x1 = x := ⟨_, rfl⟩
 have HSX : Hid (∀ y wz, Calls Tryz.prog 62 #[.int .u8 f, .agg #[.int .u64 x0, .int .u64 x1], vK y] wz (RetK (x - y) wz)) := fun y wz => by
  have h := field_SubL hf x0 x1 (lo y) (hi y) wz hx.1 hx.2.1 hx.2.2.1 hx.2.2.2 (lo_0 y) (lo_1 y) (hi_0 y) (hi_1 y)
  rwa [kL_lohi, hxk] at h
 have hfb0 : (1 : Int) ≤ (f : Int) := by rcases hf.or with rfl | rfl <;> omega
 have hfb1 : (f : Int) ≤ 2 := by rcases hf.or with rfl | rfl <;> omega
 have heq := eql_elem
 have HE := Lib.hid (vK_eq0 (f := f))
 have HPO := Lib.hid (fun wz => ntt_Points hf L hL wz)
 have HON := Lib.hid (fun wz => field_One hf wz)
 have HSU := Lib.hid (fun x y wz => field_SubK hf x y wz)
 have HMU := Lib.hid (fun x y wz => field_MulK hf x y wz)
 have HIN := Lib.hid (fun x wz => field_Inv hf x wz)
 have hp : 2 ^ L ≤ 2 ^ 10 := Nat.pow_le_pow_right (by omega) hL
 have hp0 := Nat.two_pow_pos L
 have HNN : Hid (nK f (2 ^ L) ≠ 0) := by
  show _ ≠ _
  rw [← nn_nK]
  exact nn_ne f _ hp0 (two_pow_lt (by omega))
 have HOF : Hid (∀ wz, Calls Tryz.prog 52 #[.int .u8 f, .int .u64 ((2 ^ L : Nat) : Int)] wz (RetK (nK f (2 ^ L)) wz)) := fun wz => by
  exact field_Of hf _ wz (by omega) (by omega)
 have HPW : Hid (∀ wz, Calls Tryz.prog 15 #[.int .u8 f, .agg #[.int .u64 x0, .int .u64 x1], .int .u64 ((2 ^ L : Nat) : Int)] wz (RetK (Fm.kpow x (2 ^ L)) wz)) := fun wz => by
  have h := field_PowL hf x0 x1 hx (2 ^ L) (by omega) wz
  rwa [hxk] at h
 rw [hxk]
 clear hxk hx
 have HRN : Hid (∀ k, Fm.kpow x (2 ^ L) ≠ 1 → x - Fm.kpow (rootK f L) k ≠ 0) := fun k h1 h2 => by
  have h3 : x = Fm.kpow (rootK f L) k := by grind
  apply h1
  rw [h3, ← Fm.kpow_mul, Nat.mul_comm, Fm.kpow_mul, (rt_root f L (by omega)).one, one_kpow]
 have HWT : Hid (∀ k, wt L x k = (Fm.kpow x (2 ^ L) - 1) * kinv (nK f (2 ^ L)) * Fm.kpow (rootK f L) k * kinv (x - Fm.kpow (rootK f L) k)) := fun _ => rfl
 have HPA : Hid (∀ k, k < 2 ^ L → (pows (rootK f L) (2 ^ L))[k]? = some (Fm.kpow (rootK f L) k)) := fun k hk => by
  have h1 : (pows (rootK f L) (2 ^ L)).getD k 0 = Fm.kpow (rootK f L) k := by unfold pows; rw [ofF_getD, if_pos hk]
  rw [List.getD_eq_getElem?_getD] at h1
  obtain ⟨z, hz⟩ : ∃ z, (pows (rootK f L) (2 ^ L))[k]? = some z := ⟨_, List.getElem?_eq_getElem (by rw [pows_length]; exact hk)⟩
  rw [hz] at h1 ⊢
  exact congrArg some h1
 have HPL : Hid ((pows (rootK f L) (2 ^ L)).length = 2 ^ L) := pows_length ..
 have hwn : IntKind.u64.wrap ((2 ^ L : Nat) : Int) = ((2 ^ L : Nat) : Int) := IntWalk.u64_in _ (by omega)
 obtain ⟨N, hN⟩ : ∃ N, 2 ^ L = N := ⟨_, rfl⟩
 have HNL := Lib.hid hN
 have HWL : Hid ((wts L x).length = 2 ^ L) := ofF_length ..
 have HWS : Hid (wts L x = ofF (2 ^ L) (wt L x)) := rfl
 have HGO : Hid (∀ (e : Ending) (w' : World), RetWts L x w e w' ↔ ((Fm.kpow x (2 ^ L) = 1 ∧ RetE9 12 w e w') ∨ (Fm.kpow x (2 ^ L) ≠ 1 ∧ RetOwn0 (wts L x) w e w'))) := fun _ _ => Iff.rfl
 rw [hN] at hp hp0 HNN HOF HPW HRN HWT HPA HPL hwn HWL HWS HGO
 rw [hN] at HPO
 have HSN : Hid (∀ k, ofF (k + 1) (wt L x) = ofF k (wt L x) ++ [wt L x k]) := fun k => by
  unfold ofF
  rw [List.range_succ, List.map_append]
  rfl
 have HSL : Hid (∀ k, (ofF k (wt L x)).length = k) := fun k => ofF_length ..
 clear hN
 obtain ⟨xn, hxn⟩ : ∃ z, Fm.kpow x N = z := ⟨_, rfl⟩
 rw [hxn] at HPW HRN HWT HGO
 clear hxn
 generalize nK f N = nn0 at *
 have hb00 : Below w.heap.size w w := Below.refl _ _
 go_enter Tryz.func63, Tryz.ntmps63
 go_upto_region 1 with fail
 clear hb00
 have q0 := V2.new w (.int .u64 x0) (.int .u64 x1) 36
 have hb00 : Below w.heap.size w (w.alloc (.cells #[(.int .u64 x0), (.int .u64 x1)] 36)) := by repeat (first | exact bA | with_reducible assumption | apply bB)
 have hsz : w.heap.size + 1 ≤ (w.alloc (.cells #[(.int .u64 x0), (.int .u64 x1)] 36)).heap.size := by simp only [World.size_alloc]; omega
 generalize (w.alloc (.cells #[(.int .u64 x0), (.int .u64 x1)] 36)) = w1 at q0 hb00 hsz ⊢
 go_wp2_with fail
 refine (HPO.out _).mono ?_
 rintro e w2 ⟨vp, rfl, hop, hb2⟩
 obtain ⟨AP, cP, rfl⟩ := own_shape hop
 have hps := own_sl rfl hop
 rw [HPL.out] at hps ⊢
 replace hb00 := bl_call hb00 (Nat.le_refl _) hb2
 replace q0 := q0.call hb2
 clear hb2 hop HPO
 obtain ⟨q00, q01, q02, q03, q04⟩ := V2.mk q0.c0 q0.c1 q0.f0 q0.f1 q0.lt
 go_wp2_with fail
 refine (HPW.out _).mono ?_
 rintro e w3 ⟨rfl, hb3⟩
 clear q00 q01 q02 q03 q04
 replace hb00 := bl_call hb00 (Nat.le_refl _) hb3
 replace q0 := q0.call hb3
 replace hps := hps.later hb3
 clear hb3
 go_wp2_with fail
 refine (HON.out _).mono ?_
 rintro e w4 ⟨rfl, hb4⟩
 replace hb00 := bl_call hb00 (Nat.le_refl _) hb4
 replace q0 := q0.call hb4
 replace hps := hps.later hb4
 clear hb4
 go_wp2_with fail
 refine (HSU.out xn 1 _).mono ?_
 rintro e w5 ⟨rfl, hb5⟩
 replace hb00 := bl_call hb00 (Nat.le_refl _) hb5
 replace q0 := q0.call hb5
 replace hps := hps.later hb5
 clear hb5
 obtain ⟨top, htop⟩ : ∃ t, xn - 1 = t := ⟨_, rfl⟩
 rw [htop]
 go_upto_region 6 with fail
 have HPS := Lib.hid hps
 have hw5q := q0.lt
 have hc00 : Below w5.heap.size w5 w5 := Below.refl _ _
 clear hps
 have tv := V2.new w5 (.int .u64 (lo top)) (.int .u64 (hi top)) 36
 have hbA : Below w5.heap.size w5 (w5.alloc (.cells #[.int .u64 (lo top), .int .u64 (hi top)] 36)) := by repeat (first | exact bA | with_reducible assumption | apply bB)
 replace hb00 := bl_call hb00 (Nat.le_refl _) hbA
 replace hc00 := bl_call hc00 (Nat.le_refl _) hbA
 replace q0 := q0.call hbA
 clear hbA
 generalize w5.alloc (.cells #[.int .u64 (lo top), .int .u64 (hi top)] 36) = w6 at hb00 hc00 q0 tv ⊢
 obtain ⟨tb, htb⟩ : ∃ z, w5.heap.size = z := ⟨_, rfl⟩
 have hwt : w.heap.size < tb := by rw [← htb]; exact hw5q
 have htc : w5.heap.size ≤ tb := by omega
 rw [htb] at tv
 simp only [htb]
 clear htb hw5q
 have hE0 := HE.out top
 by_cases ht0 : top = 0
 ·rw [decide_eq_true ht0] at hE0
  have HX1 : Hid (xn = 1) := by show _ = _; rw [ht0] at htop; grind
  clear htop ht0
  obtain ⟨tv0, tv1, tv2, tv3, tv4⟩ := V2.mk tv.c0 tv.c1 tv.f0 tv.f1 tv.lt
  go_wp2_with fail
  go_ret2
  exact (HGO.out _ _).2 (.inl ⟨HX1.out, rfl, hb00⟩)
 ·rw [decide_eq_false ht0] at hE0
  have HX1 : Hid (xn ≠ 1) := fun h => ht0 (by rw [← htop, h]; grind)
  have HTP := Lib.hid htop
  clear htop ht0
  obtain ⟨tv0, tv1, tv2, tv3, tv4⟩ := V2.mk tv.c0 tv.c1 tv.f0 tv.f1 tv.lt
  go_wp2_with fail
  refine (HOF.out _).mono ?_
  rintro e w7 ⟨rfl, hb7⟩
  clear tv0 tv1 tv2 tv3 tv4
  replace hb00 := bl_call hb00 (Nat.le_refl _) hb7
  replace hc00 := bl_call hc00 (Nat.le_refl _) hb7
  replace q0 := q0.call hb7
  replace tv := tv.call hb7
  clear hb7
  go_wp2_with fail
  refine (HIN.out nn0 _).mono ?_
  rintro e w8 (⟨h0, _⟩ | ⟨_, rfl, hb8⟩)
  ·exact absurd h0 HNN.out
  replace hb00 := bl_call hb00 (Nat.le_refl _) hb8
  replace hc00 := bl_call hc00 (Nat.le_refl _) hb8
  replace q0 := q0.call hb8
  replace tv := tv.call hb8
  clear hb8
  obtain ⟨m, hm⟩ : ∃ t, kinv nn0 = t := ⟨_, rfl⟩
  rw [hm] at HWT ⊢
  clear hm
  go_upto_region 9 with fail
  have mv := V2.new w8 (.int .u64 (lo m)) (.int .u64 (hi m)) 36
  have hbA : Below w8.heap.size w8 (w8.alloc (.cells #[.int .u64 (lo m), .int .u64 (hi m)] 36)) := by repeat (first | exact bA | with_reducible assumption | apply bB)
  replace hb00 := bl_call hb00 (Nat.le_refl _) hbA
  replace hc00 := bl_call hc00 (Nat.le_refl _) hbA
  replace q0 := q0.call hbA
  replace tv := tv.call hbA
  clear hbA
  generalize w8.alloc (.cells #[.int .u64 (lo m), .int .u64 (hi m)] 36) = w9 at hb00 hc00 q0 tv mv ⊢
  obtain ⟨mb, hmb⟩ : ∃ z, w8.heap.size = z := ⟨_, rfl⟩
  rw [hmb] at mv
  simp only [hmb]
  clear hmb
  obtain ⟨tv0, tv1, tv2, tv3, tv4⟩ := V2.mk tv.c0 tv.c1 tv.f0 tv.f1 tv.lt
  obtain ⟨mv0, mv1, mv2, mv3, mv4⟩ := V2.mk mv.c0 mv.c1 mv.f0 mv.f1 mv.lt
  go_wp2_with fail
  refine (HMU.out top m _).mono ?_
  rintro e w10 ⟨rfl, hb10⟩
  clear tv0 tv1 tv2 tv3 tv4 mv0 mv1 mv2 mv3 mv4
  replace hb00 := bl_call hb00 (Nat.le_refl _) hb10
  replace hc00 := bl_call hc00 (Nat.le_refl _) hb10
  replace q0 := q0.call hb10
  replace tv := tv.call hb10
  replace mv := mv.call hb10
  clear hb10 mv
  obtain ⟨c, hc⟩ : ∃ c, top * m = c := ⟨_, rfl⟩
  have HWT2 : Hid (∀ k, wt L x k = c * Fm.kpow (rootK f L) k * kinv (x - Fm.kpow (rootK f L) k)) := fun k => by rw [HWT.out, HTP.out, hc]
  rw [hc]
  clear hc HWT HTP
  obtain ⟨tv0, tv1, tv2, tv3, tv4⟩ := V2.mk tv.c0 tv.c1 tv.f0 tv.f1 tv.lt
  go_upto_region 12 with fail
  clear tv0 tv1 tv2 tv3 tv4
  replace q0 := V2.oth q0 (b := tb) (by omega) (.int .u64 (lo c)) (.int .u64 (hi c))
  replace hb00 := bl_st hb00 (b := tb) (by omega) (.int .u64 (lo c)) (.int .u64 (hi c))
  replace hc00 := bl_st hc00 (b := tb) htc (.int .u64 (lo c)) (.int .u64 (hi c))
  replace tv : V2 ((w10.setCell ⟨tb, 0, none⟩ (.int .u64 (lo c))).setCell ⟨tb, 1, none⟩ (.int .u64 (hi c))) tb (.int .u64 (lo c)) (.int .u64 (hi c)) := V2.set tv _ _
  generalize (w10.setCell ⟨tb, 0, none⟩ (.int .u64 (lo c))).setCell ⟨tb, 1, none⟩ (.int .u64 (hi c)) = w11 at hb00 hc00 q0 tv ⊢
  have HQ := Lib.hid q0
  have HTV := Lib.hid tv
  have HPS2 := Lib.hid (HPS.out.later hc00)
  clear q0 tv hc00 HPS htc hwt
  have hbo : Below w11.heap.size w11 w11 := Below.refl _ _
  go_wp2_with fail
  go_loopw [13, 58] (fun vr iv wr => ∃ (k : Nat) (D : Option Addr) (cp : Nat), k ≤ N ∧ iv = .int .i64 k ∧ vr = .slice D k cp ∧ wr.ownsRow w11.heap.size 36 2 (.slice D k cp) k (cellsE (esK (ofF k (wt L x)))) ∧ Below w11.heap.size w11 wr) (fun _ iv _ => N - (intOf iv).toNat)
  case atStart => exact ⟨0, none, 0, Nat.zero_le _, rfl, rfl, World.ownsRow_nil _ _ _ _, hbo⟩
  case round =>
   clear hbo
   obtain ⟨k, D, cp, hk, rfl, rfl, hown, hbo⟩ := hrel
   by_cases hkN : k < N
   ·obtain ⟨b1, o1, hAe, hbw1, hrow1⟩ := HPS2.out.rowOf (by rw [HPL.out]; omega)
    obtain ⟨p, hp9⟩ : ∃ p, Fm.kpow (rootK f L) k = p := ⟨_, rfl⟩
    have hpk := HPA.out k hkN
    have HNZ := HRN.out k HX1.out
    have HWK := HWT2.out k
    rw [hp9] at hpk HNZ HWK
    obtain ⟨d0, d1⟩ := (hrow1.below hbo hbw1).kat hpk
    have HNZ' := Lib.hid HNZ
    have HWK' := Lib.hid HWK
    have g1 : (0 : Int) ≤ (k : Int) := by omega
    have g3 : (k : Int) < (N : Int) := by omega
    have q0 := HQ.out.call hbo
    have tv := HTV.out.call hbo
    have hwz := hbo.size
    subst hAe
    clear hpk hrow1 HNZ HWK hp9
    go_upto_region 16 with fail
    have pv := V2.new wr (.int .u64 (lo p)) (.int .u64 (hi p)) 36
    have hbA : Below wr.heap.size wr (wr.alloc (.cells #[.int .u64 (lo p), .int .u64 (hi p)] 36)) := by repeat (first | exact bA | with_reducible assumption | apply bB)
    replace hbo := bl_call hbo (Nat.le_refl _) hbA
    replace hown := own_call hown hbA
    replace q0 := q0.call hbA
    replace tv := tv.call hbA
    clear hbA
    generalize wr.alloc (.cells #[.int .u64 (lo p), .int .u64 (hi p)] 36) = w12 at hbo hown q0 tv pv ⊢
    clear d0 d1
    obtain ⟨q00, q01, q02, q03, q04⟩ := V2.mk q0.c0 q0.c1 q0.f0 q0.f1 q0.lt
    obtain ⟨pv0, pv1, pv2, pv3, pv4⟩ := V2.mk pv.c0 pv.c1 pv.f0 pv.f1 pv.lt
    go_wp2_with fail
    refine (HSX.out p _).mono ?_
    rintro e w13 ⟨rfl, hb13⟩
    clear q00 q01 q02 q03 q04 pv0 pv1 pv2 pv3 pv4
    replace hbo := bl_call hbo (Nat.le_refl _) hb13
    replace hown := own_call hown hb13
    replace tv := tv.call hb13
    replace pv := pv.call hb13
    clear hb13 q0
    go_wp2_with fail
    refine (HIN.out (x - p) _).mono ?_
    rintro e w14 (⟨h0, _⟩ | ⟨_, rfl, hb14⟩)
    ·exact absurd h0 HNZ'.out
    replace hbo := bl_call hbo (Nat.le_refl _) hb14
    replace hown := own_call hown hb14
    replace tv := tv.call hb14
    replace pv := pv.call hb14
    clear hb14
    obtain ⟨d, hd⟩ : ∃ t, kinv (x - p) = t := ⟨_, rfl⟩
    rw [hd] at HWK' ⊢
    clear hd
    go_upto_region 17 with fail
    have dv := V2.new w14 (.int .u64 (lo d)) (.int .u64 (hi d)) 36
    have hbA : Below w14.heap.size w14 (w14.alloc (.cells #[.int .u64 (lo d), .int .u64 (hi d)] 36)) := by repeat (first | exact bA | with_reducible assumption | apply bB)
    replace hbo := bl_call hbo (Nat.le_refl _) hbA
    replace hown := own_call hown hbA
    replace tv := tv.call hbA
    replace pv := pv.call hbA
    clear hbA
    generalize w14.alloc (.cells #[.int .u64 (lo d), .int .u64 (hi d)] 36) = w15 at hbo hown tv pv dv ⊢
    go_upto_region 19 with fail
    obtain ⟨tv0, tv1, tv2, tv3, tv4⟩ := V2.mk tv.c0 tv.c1 tv.f0 tv.f1 tv.lt
    obtain ⟨pv0, pv1, pv2, pv3, pv4⟩ := V2.mk pv.c0 pv.c1 pv.f0 pv.f1 pv.lt
    obtain ⟨dv0, dv1, dv2, dv3, dv4⟩ := V2.mk dv.c0 dv.c1 dv.f0 dv.f1 dv.lt
    refine region_G (n := 9) (m := 11) (f := 9) (by kernel_rfl) (by kernel_rfl) rfl ?_
    refine WpG.vD 0 (some 74) ?_ rfl rfl (by kernel_rfl) (fun _ _ _ h => h) rfl (fun wz hwz => ?_) ?_
    rotate_left
    ·go_simp; try (with_reducible rfl)
    simp only [Zp, Zq, Zr, Zs]
    refine WpG.vD 1 (some 75) ?_ rfl rfl (by kernel_rfl) (fun _ _ _ h => h) rfl (fun wz hwz => ?_) ?_
    rotate_left
    ·go_simp; try (with_reducible rfl)
    simp only [Zp, Zq, Zr, Zs]
    refine WpG.vD 2 (some 76) ?_ rfl rfl (by kernel_rfl) (fun _ _ _ h => h) rfl (fun wz hwz => ?_) ?_
    rotate_left
    ·go_simp; try (with_reducible rfl)
    simp only [Zp, Zq, Zr, Zs]
    refine WpG.vD 3 (some 77) ?_ rfl rfl (by kernel_rfl) (fun _ _ _ h => h) rfl (fun wz hwz => ?_) ?_
    rotate_left
    ·(obtain ⟨hcz, hfz⟩ := bcell (hwz); go_simp; try (with_reducible rfl))
    simp only [Zp, Zq, Zr, Zs]
    refine WpG.vD 4 (some 78) ?_ rfl rfl (by kernel_rfl) (fun _ _ _ h => h) rfl (fun wz hwz => ?_) ?_
    rotate_left
    ·(obtain ⟨hcz, hfz⟩ := bcell (hwz); go_simp; try (with_reducible rfl))
    simp only [Zp, Zq, Zr, Zs]
    refine WpG.takeD 5 (some 79) rfl rfl (by kernel_rfl) (fun _ _ _ h => h) (.call rfl (fun wz hwz => HMU.out c p wz) (fun wz hwz => ?_)) ?_
    ·go_simp; try (with_reducible rfl)
    simp only [Zp, Zq, Zr, Zs]
    refine WpG.vD 6 (some 80) ?_ rfl rfl (by kernel_rfl) (fun _ _ _ h => h) rfl (fun wz hwz => ?_) ?_
    rotate_left
    ·(obtain ⟨hcz, hfz⟩ := bcell (hwz); go_simp; try (with_reducible rfl))
    simp only [Zp, Zq, Zr, Zs]
    refine WpG.takeD 7 (some 81) rfl rfl (by kernel_rfl) (fun _ _ _ h => h) (.call rfl (fun wz hwz => HMU.out (c * p) d wz) (fun wz hwz => ?_)) ?_
    ·go_simp; try (with_reducible rfl)
    simp only [Zp, Zq, Zr, Zs]
    refine WpG.oneD 8 (some 82) rfl rfl (by kernel_rfl) (fun b : Nat => Value.slice (some ⟨b, 0, none⟩) 1 1) (fun b wz => w15.heap.size ≤ b ∧ BlkE wz b [eK (c * p * d)]) (fun _ _ _ h hb => ⟨h.1, h.2.call hb⟩) (Fresh.slice 1 1 [.int .u64 (lo (c * p * d)), .int .u64 (hi (c * p * d))] 36 rfl (fun wz hwz => (hwz).size) (fun wz hwz => by go_simp; try (with_reducible rfl)) (R := fun b wz => BlkE wz b [eK (c * p * d)]) (fun wz hwz => BlkE.new wz [eK (c * p * d)] _ rfl)) (fun nb w0 hw0 hR0 => ?_)
    simp only [Zp, Zq, Zr, Zs]
    refine WpG.done (by kernel_rfl) (fun w16 hS => ?_)
    (try simp only [List.drop_succ_cons]); (try simp only [List.drop_zero]); (try simp only [Nat.reduceSub]); (try simp only [List.take_succ_cons]); (try simp only [List.take_zero])
    obtain ⟨hb16, hnb, hE⟩ := hS
    clear tv0 tv1 tv2 tv3 tv4 pv0 pv1 pv2 pv3 pv4 dv0 dv1 dv2 dv3 dv4
    obtain ⟨u, hu⟩ : ∃ u, c * p * d = u := ⟨_, rfl⟩
    rw [hu] at hE
    have HU : Hid (wt L x k = u) := by show _ = _; rw [HWK'.out, hu]
    have hb15 := hbo.trans (hb16.mono hbo.size)
    have HOW := Lib.hid (own_call hown hb16)
    have HR1 := Lib.hid (show 0 < 1 → ∃ b o, (some ⟨nb, 0, none⟩ : Option Addr) = some ⟨b, o, none⟩ ∧ RowE w16 b o [eK u] from fun _ => ⟨_, _, rfl, hE.rowE⟩)
    have hk1 : k + 1 ≤ 1099511627776 := by omega
    have hbase : w11.heap.size ≤ w16.heap.size := hb15.size
    clear hown hE hu hb16 hnb hw0 hR0
    go_upto_region 20 with (at_builtin; (refine wpList_append_E rfl (.tmp 74) (.tmp 82) rfl w11.heap.size _ k (esK (ofF k (wt L x))) rfl HOW.out (some ⟨nb, 0, none⟩) 1 1 [eK u] rfl rfl HR1.out hk1 hbase ?_; intro v2 w2 hown2 hg2 hat2; have hb2 : Below w11.heap.size w11 w2 := hb15.trans ((Below.refl _ _).grown hg2 hbase (fun q hq => (HOW.out.lt q hq).1)); obtain ⟨g2, cap2, hv2⟩ := own_slice hown2; rw [hv2]))
    rw [hv2, show esK (ofF k (wt L x)) ++ [eK u] = esK (ofF (k + 1) (wt L x)) by rw [HSN.out, esK_append, HU.out]; rfl] at hown2
    clear HOW HR1 hg2 hat2 hbase
    go_wp2_with fail
    go_roundw
    case rel => exact ⟨k + 1, _, cap2, by omega, by go_num, rfl, hown2, hb2⟩
    case measure => simp [intOf]; omega
   ·obtain hke : k = N := by omega
    subst hke
    go_wp2_with fail
    go_ret2
    exact (HGO.out _ _).2 (.inr ⟨HX1.out, _, rfl, by rw [HWL.out, HWS.out]; exact own_mono hown hb00.size, bl_call hb00 (Nat.le_refl _) hbo⟩)
theorem poly_Weights (L : Nat) (hL : L ≤ 10) (x : Fin (Pm f)) (w : World) :
  Calls Tryz.prog 63 #[.int .u8 f, .int .i64 L, vK x] w (RetWts L x w) := by
 have h := poly_WeightsL hf L hL (lo x) (hi x) (okE_eK x) w
 rwa [kL_lohi] at h
end

end Go.Proofs.YtfbfbijkkbflkaaGreatDoor

namespace Go.Proofs.YtfbfbijkkbflkaaGreatDoor
open Go.RowKit Fm
set_option linter.unusedVariables false
set_option maxRecDepth 100000

section
variable {f : Nat} (hf : IsF f)
include hf
set_option maxHeartbeats 8000000 in
theorem pair_MulK (va vb : Value) (a b : KL f) (w : World) (ha : SlK w w.heap.size va a) (hb : SlK w w.heap.size vb b) (hl : a.length = b.length) (hn : a.length ≤ 100000) :
  Calls Tryz.prog 61 #[va, vb, .func (.func 79) #[.int .u8 f] #[]] w (RetBlk0 (ofF a.length fun i => a.getD i 0 * b.getD i 0) w) := by
 have HMU := Lib.hid (fun y z wz => field_MulK hf y z wz)
 obtain ⟨A, c, rfl, hc, hcm, hA⟩ := ha
 obtain ⟨B, d, rfl, hd, hdm, hB⟩ := hb
 have HL := Lib.hid hl
 obtain ⟨n, hnn⟩ : ∃ n, a.length = n := ⟨_, rfl⟩
 have hnb : b.length = n := by omega
 have HAL := Lib.hid hnn
 have HBL := Lib.hid hnb
 have hmk := make_elem n (by omega)
 have HA := Lib.hid hA
 have HB := Lib.hid hB
 rw [hnn] at hn ⊢
 rw [hnb]
 clear hA hB hl hnn hnb
 have HEND : Hid (∀ S : KL f, S.length = n → (∀ j, j < n → S.getD j 0 = a.getD j 0 * b.getD j 0) → S = ofF n fun i => a.getD i 0 * b.getD i 0) := fun S h1 h2 => eq_ofF h1 h2
 have HRT : Hid (∀ (e : Ending) (w' : World), RetBlk0 (ofF n fun i => a.getD i 0 * b.getD i 0) w e w' ↔ ∃ g, e = .returned (.tuple #[.slice (some ⟨g, 0, none⟩) n n, .int .i64 0]) ∧ RwK w' g (ofF n fun i => a.getD i 0 * b.getD i 0) ∧ w.heap.size ≤ g ∧ Below w.heap.size w w') := fun e w' => by
  unfold RetBlk0
  rw [show (ofF n fun i => a.getD i 0 * b.getD i 0).length = n from ofF_length ..]
 have hb : ((n : Int) != (n : Int)) = false := by simp
 go_enter Tryz.func61, Tryz.ntmps61
 go_wp2_with fail
 have hB0 := RwK.new w (List.replicate n (0 : Fin (Pm f))) (cellsE (List.replicate n (0, 0))).toArray (by unfold esK; rw [List.map_replicate, eK_zero]) 36
 have hb00 : Below w.heap.size w (w.alloc (.cells (cellsE (List.replicate n (0, 0))).toArray 36)) := by repeat (first | exact bA | with_reducible assumption | apply bB | (refine bC ?_ (by dsimp only; omega)) | apply bD | apply bE | (refine bF ?_ (by assumption)))
 generalize w.alloc (.cells (cellsE (List.replicate n (0, 0))).toArray 36) = w1 at hB0 hb00 ⊢
 clear hmk
 go_loopw [20] (fun kv wr => ∃ (k : Nat) (S : KL f), k ≤ n ∧ kv = .int .i64 k ∧ Hid (S.length = n ∧ ∀ j, j < k → S.getD j 0 = a.getD j 0 * b.getD j 0) ∧ RwK wr w.heap.size S ∧ Below w.heap.size w wr) (fun kv _ => n - (intOf kv).toNat)
 case atStart => exact ⟨0, _, Nat.zero_le _, rfl, ⟨List.length_replicate .., fun j h => absurd h (Nat.not_lt_zero _)⟩, hB0, hb00⟩
 case round =>
  clear hB0 hb00
  obtain ⟨k, S, hk, rfl, hS, hR, hb00⟩ := hrel
  by_cases hkn : k < n
  ·have g1 : (0 : Int) ≤ (k : Int) := by omega
   have g3 : (k : Int) < (n : Int) := by omega
   have HSL : Hid (S.length = n) := hS.out.1
   have HS1 : Hid (∀ j, j < k → S.getD j 0 = a.getD j 0 * b.getD j 0) := hS.out.2
   obtain ⟨b1, o1, hAe, hbw1, hrow1⟩ := HA.out (by rw [HAL.out]; omega)
   obtain ⟨b2, o2, hBe, hbw2, hrow2⟩ := HB.out (by rw [HBL.out]; omega)
   obtain ⟨y, hy⟩ : ∃ z, a[k]? = some z := ⟨_, List.getElem?_eq_getElem (by rw [HAL.out]; exact hkn)⟩
   obtain ⟨z, hz⟩ : ∃ z, b[k]? = some z := ⟨_, List.getElem?_eq_getElem (by rw [HBL.out]; exact hkn)⟩
   have HPR : Hid (a.getD k 0 * b.getD k 0 = y * z) := by show _ = _; rw [List.getD_eq_getElem?_getD, hy, List.getD_eq_getElem?_getD, hz]; rfl
   obtain ⟨d0, d1⟩ := (hrow1.below hb00 hbw1).kat hy
   obtain ⟨e0, e1⟩ := (hrow2.below hb00 hbw2).kat hz
   have l1 : b1 < wr.heap.size := Nat.lt_of_lt_of_le hbw1 hb00.size
   have l2 : b2 < wr.heap.size := Nat.lt_of_lt_of_le hbw2 hb00.size
   subst hAe
   subst hBe
   obtain ⟨y9, hy9⟩ : ∃ x, S[k]? = some x := ⟨_, List.getElem?_eq_getElem (by have := HSL.out; omega)⟩
   have HY9 := Lib.hid hy9
   obtain ⟨c0, c1⟩ := hR.at hy9
   have g9 := hR.lt
   clear hy hz hrow1 hrow2 hy9 hS
   go_upto_region 7 with fail
   refine region_B (n := 12) (m := 14) (f := 12) (by kernel_rfl) (by kernel_rfl) rfl ?_
   refine WpH.vD 0 (some 23) ?_ rfl rfl (by kernel_rfl) (fun _ _ _ h => h) rfl (fun wz hwz => ?_) ?_
   rotate_left
   ·go_simp; try (with_reducible rfl)
   simp only [Zp, Zq, Zr, Zs]
   refine WpH.vD 1 (some 24) ?_ rfl rfl (by kernel_rfl) (fun _ _ _ h => h) rfl (fun wz hwz => ?_) ?_
   rotate_left
   ·go_simp; try (with_reducible rfl)
   simp only [Zp, Zq, Zr, Zs]
   refine WpH.vD 2 (some 25) ?_ rfl rfl (by kernel_rfl) (fun _ _ _ h => h) rfl (fun wz hwz => ?_) ?_
   rotate_left
   ·go_simp; try (with_reducible rfl)
   simp only [Zp, Zq, Zr, Zs]
   refine WpH.vD 3 (some 26) ?_ rfl rfl (by kernel_rfl) (fun _ _ _ h => h) rfl (fun wz hwz => ?_) ?_
   rotate_left
   ·go_simp; try (with_reducible rfl)
   simp only [Zp, Zq, Zr, Zs]
   refine WpH.vD 4 (some 27) ?_ rfl rfl (by kernel_rfl) (fun _ _ _ h => h) rfl (fun wz hwz => ?_) ?_
   rotate_left
   ·go_simp; try (with_reducible rfl)
   simp only [Zp, Zq, Zr, Zs]
   refine WpH.vD 5 (some 28) ?_ rfl rfl (by kernel_rfl) (fun _ _ _ h => h) rfl (fun wz hwz => ?_) ?_
   rotate_left
   ·go_simp; try (with_reducible rfl)
   simp only [Zp, Zq, Zr, Zs]
   refine WpH.vD 6 (some 29) ?_ rfl rfl (by kernel_rfl) (fun _ _ _ h => h) rfl (fun wz hwz => ?_) ?_
   rotate_left
   ·(obtain ⟨hcz, hfz⟩ := bcell hwz; go_simp; try (with_reducible rfl))
   simp only [Zp, Zq, Zr, Zs]
   refine WpH.vD 7 (some 30) ?_ rfl rfl (by kernel_rfl) (fun _ _ _ h => h) rfl (fun wz hwz => ?_) ?_
   rotate_left
   ·go_simp; try (with_reducible rfl)
   simp only [Zp, Zq, Zr, Zs]
   refine WpH.vD 8 (some 31) ?_ rfl rfl (by kernel_rfl) (fun _ _ _ h => h) rfl (fun wz hwz => ?_) ?_
   rotate_left
   ·go_simp; try (with_reducible rfl)
   simp only [Zp, Zq, Zr, Zs]
   refine WpH.vD 9 (some 32) ?_ rfl rfl (by kernel_rfl) (fun _ _ _ h => h) rfl (fun wz hwz => ?_) ?_
   rotate_left
   ·go_simp; try (with_reducible rfl)
   simp only [Zp, Zq, Zr, Zs]
   refine WpH.vD 10 (some 33) ?_ rfl rfl (by kernel_rfl) (fun _ _ _ h => h) rfl (fun wz hwz => ?_) ?_
   rotate_left
   ·(obtain ⟨hcz, hfz⟩ := bcell hwz; go_simp; try (with_reducible rfl))
   simp only [Zp, Zq, Zr, Zs]
   refine WpH.takeD 11 (some 34) rfl rfl (by kernel_rfl) (fun _ _ _ h => h) (.call rfl (fun wz hwz => HMU.out y z wz) (fun wz hwz => ?_)) ?_
   ·go_simp; try (with_reducible rfl)
   simp only [Zp, Zq, Zr, Zs]
   refine WpH.doneB (by kernel_rfl) (fun w7 hw7 => ?_)
   (try simp only [List.drop_succ_cons]); (try simp only [List.drop_zero]); (try simp only [Nat.reduceSub]); (try simp only [List.take_succ_cons]); (try simp only [List.take_zero])
   clear d0 d1 e0 e1 l1 l2 c0 c1 g9
   replace hb00 := bl_call hb00 (Nat.le_refl _) hw7
   replace hR := hR.call hw7
   clear hw7
   obtain ⟨c0, c1⟩ := hR.at HY9.out
   obtain ⟨f0, f1⟩ := hR.frz (i := k) (by have := HSL.out; omega)
   have g9 := hR.lt
   go_wp2_with fail
   go_roundw
   case rel => exact ⟨k + 1, _, by omega, by go_num, ⟨by rw [List.length_set]; exact HSL.out, fun j hj => by
    rw [set_getD _ _ _ (by have := HSL.out; omega)]
    by_cases he : j = k
    ·rw [if_pos he, he, HPR.out]
    ·rw [if_neg he]
     exact HS1.out j (by omega)⟩, hR.set k (by have := HSL.out; omega) (y * z), by repeat (first | exact bA | with_reducible assumption | apply bB | (refine bC ?_ (by dsimp only; omega)) | apply bD | apply bE | (refine bF ?_ (by assumption)))⟩
   case measure => simp [intOf]; omega
  ·obtain hke : k = n := by omega
   subst hke
   have HT := Lib.hid (HEND.out S hS.out.1 hS.out.2)
   rw [HT.out] at hR
   go_wp2_with fail
   go_ret2
   exact (HRT.out _ _).2 ⟨_, rfl, hR, Nat.le_refl _, hb00⟩

def RetK0 {f : Nat} (x : Fin (Pm f)) (w : World) (e : Ending) (w' : World) : Prop := e = .returned (.tuple #[vK x, .int .i64 0]) ∧ Below w.heap.size w w'

set_option maxHeartbeats 4000000 in
theorem field_Dot (va vb : Value) (a b : KL f) (w : World) (ha : SlK w w.heap.size va a) (hb : SlK w w.heap.size vb b) (hl : a.length = b.length) (hn : a.length ≤ 100000) :
  Calls Tryz.prog 69 #[.int .u8 f, va, vb] w (RetK0 (ksum (ofF a.length fun i => a.getD i 0 * b.getD i 0)) w) := by
 have HPM : Hid (∀ wz, Below w.heap.size w wz → Calls Tryz.prog 61 #[va, vb, .func (.func 79) #[.int .u8 f] #[]] wz (RetBlk0 (ofF a.length fun i => a.getD i 0 * b.getD i 0) wz)) := fun wz h => pair_MulK hf va vb a b wz (ha.later h) (hb.later h) hl hn
 have HSM := Lib.hid (fun v (l : KL f) wz h1 h2 => field_SumK hf v l wz h1 h2)
 have HPL : Hid ((ofF a.length fun i => a.getD i 0 * b.getD i 0).length ≤ 100000) := by show _ ≤ _; rw [ofF_length]; exact hn
 obtain ⟨A, c, rfl, _, _, _⟩ := ha
 obtain ⟨B, d, rfl, _, _, _⟩ := hb
 generalize (ofF a.length fun i => a.getD i 0 * b.getD i 0) = P at *
 obtain ⟨s, hs⟩ : ∃ s, ksum P = s := ⟨_, rfl⟩
 rw [hs]
 have HS := Lib.hid hs
 clear hs hl
 have hmf : ∀ (fn : Fn) (first cap : Array Value) (w : World), (Instr.makeFunc fn first cap).run Tryz.prog w = .ok (.func fn first cap) w := fun _ _ _ _ => rfl
 go_enter Tryz.func69, Tryz.ntmps69
 go_upto_region 1 with fail
 have s0 := V2.new w (.int .u64 0) (.int .u64 0) 36
 have hb00 : Below w.heap.size w (w.alloc (.cells #[(.int .u64 0), (.int .u64 0)] 36)) := by repeat (first | exact bA | with_reducible assumption | apply bB)
 have hsz : w.heap.size + 1 ≤ (w.alloc (.cells #[(.int .u64 0), (.int .u64 0)] 36)).heap.size := by simp only [World.size_alloc]; omega
 generalize (w.alloc (.cells #[(.int .u64 0), (.int .u64 0)] 36)) = w1 at s0 hb00 hsz ⊢
 go_wp2_with fail
 refine (HPM.out _ hb00).mono ?_
 rintro e w2 ⟨g, rfl, hR, _, hb2⟩
 replace hb00 := bl_call hb00 (Nat.le_refl _) hb2
 replace s0 := s0.call hb2
 clear hb2
 have ss := hR.sl (n := P.length) (c := P.length) rfl (Nat.le_refl _) (by have := HPL.out; omega)
 clear hR
 go_wp2_with fail
 refine (HSM.out _ P _ ss (by have := HPL.out; omega)).mono ?_
 rintro e w3 ⟨rfl, hb3⟩
 rw [HS.out]
 replace hb00 := bl_call hb00 (Nat.le_refl _) hb3
 replace s0 := s0.call hb3
 clear hb3
 obtain ⟨s00, s01, s02, s03, s04⟩ := V2.mk s0.c0 s0.c1 s0.f0 s0.f1 s0.lt
 go_wp2_with fail
 refine bodyPost_ret (results_v2_tmp (b := w.heap.size) (u := .int .u64 (lo s)) (v := .int .u64 (hi s)) ?_ rfl rfl) rfl ?_
 ·exact V2.set s0 _ _
 ·exact ⟨rfl, by repeat (first | exact bA | with_reducible assumption | apply bB | (refine bC ?_ (by dsimp only; omega)) | apply bD | apply bE | (refine bF ?_ (by assumption)))⟩
end

end Go.Proofs.YtfbfbijkkbflkaaGreatDoor

namespace Go.Proofs.YtfbfbijkkbflkaaGreatDoor
open Go.RowKit Fm
set_option linter.unusedVariables false
set_option maxRecDepth 100000

section
variable {f : Nat}
theorem ksum_ofF (g : Nat → Fin (Pm f)) : ∀ n, ksum (ofF n g) = sm g n
 | 0 => rfl
 | n + 1 => by
  have h : ofF (n + 1) g = ofF n g ++ [g n] := by
   unfold ofF
   rw [List.range_succ, List.map_append]
   rfl
  rw [h]
  unfold ksum
  rw [List.foldl_append]
  have ih := ksum_ofF g n
  unfold ksum at ih
  rw [ih]
  rfl
theorem lag_sum (L : Nat) (hL : L ≤ 10) (x : Fin (Pm f)) (v : KL f) (hv : v.length = 2 ^ L) (hx : Fm.kpow x (2 ^ L) ≠ 1) : ksum (ofF (2 ^ L) fun i => (wts L x).getD i 0 * v.getD i 0) = ev x (coefsK L v) := by
 rw [ksum_ofF]
 have hr := rt_root f L (by omega)
 have hd : ∀ k, k < 2 ^ L → (x - Fm.kpow (rootK f L) k) * kinv (x - Fm.kpow (rootK f L) k) = 1 := fun k _ => mul_kinvK _ fun h2 => by
  have h3 : x = Fm.kpow (rootK f L) k := by grind
  apply hx
  rw [h3, ← Fm.kpow_mul, Nat.mul_comm, Fm.kpow_mul, hr.one, one_kpow]
 have h := lagrange (x := x) (m := Fm.kinv (nn f (2 ^ L))) hr (mul_kinv _ hr.ne_zero) v hv (fun k => kinv (x - Fm.kpow (rootK f L) k)) hd
 refine Eq.trans (sm_congr fun k hk => ?_) h
 unfold wts
 rw [ofF_getD, if_pos hk]
 unfold wt
 rw [kinv_fm (nK f (2 ^ L)), nn_nK]

variable (hf : IsF f)
include hf
end

end Go.Proofs.YtfbfbijkkbflkaaGreatDoor

namespace Go.Proofs.YtfbfbijkkbflkaaGreatDoor
open Go.RowKit Fm
set_option linter.unusedVariables false
set_option maxRecDepth 100000

section
variable {f : Nat}
theorem padTo_length {L : Nat} {l : KL f} (h : l.length ≤ 2 ^ L) : (padTo L l).length = 2 ^ L := by
 unfold padTo
 rw [List.length_append, List.length_replicate]
 omega
end

end Go.Proofs.YtfbfbijkkbflkaaGreatDoor

namespace Go.Proofs.YtfbfbijkkbflkaaGreatDoor
open Go.RowKit Fm
set_option linter.unusedVariables false
set_option maxRecDepth 100000

section
variable {f : Nat} (hf : IsF f)
include hf

set_option maxHeartbeats 4000000 in
theorem query_closure (E : Nat → Prop) (wE : World) (pb cb fb qb tb wb sz : Nat) (vp vt : Value) (P T : KL f) (hC : CapQ E wE pb fb qb tb wb vp vt P T) (hcE : ¬ E cb)
  (lsOf : Nat → List (KL f)) (k : Nat) (l : KL f) (hlen : ∀ (i : Nat) (x : KL f), (lsOf k)[i]? = some x → x.length = k + 1) (hk : k + 1 < sz) (hsz : sz ≤ 4096) (hll : (lsOf k).length = l.length) (ha1 : 1 ≤ l.length) (ha2 : l.length ≤ 32) (hstep : apn (lsOf k) l (lsOf k).length = lsOf (k + 1))
  (hP : P.length ≤ 100000) (x : Fin (Pm f)) (hx : T[k + 1]? = some x)
  (D : Nat → Prop) (w : World) (va : Value) (hst : St (InvQ wb sz cb E wE lsOf k) D w) (hl : SlX D w va l) :
  Calls Tryz.prog 65 #[va, .pointer (some ⟨pb, 0, none⟩), .pointer (some ⟨cb, 0, none⟩), .pointer (some ⟨fb, 0, none⟩), .pointer (some ⟨qb, 0, none⟩), .pointer (some ⟨tb, 0, none⟩)] w fun e w' => e = .returned (.tuple #[vK (horner x P), .int .i64 0]) ∧
   ∃ D', St (InvQ wb sz cb E wE lsOf (k + 1)) D' w' ∧ (∀ q, D' q → D q ∨ w.heap.size ≤ q) ∧ Exc D w.heap.size w w' := by
 obtain ⟨lb, cp, vs, hW, hDD, hEW, hAg, hcc⟩ := hst.here
 have hWD : ∀ q, WrD wb lb vs q → D q := fun q hq => (hDD q).2 (.inl hq)
 have hltE := hC.lt
 have hcD : D cb := (hDD cb).2 (.inr (.inl rfl))
 have hcW : ¬ WrD wb lb vs cb := hEW cb (.inl rfl)
 have HASK : Hid (∀ wz, Below w.heap.size w wz → Calls Tryz.prog 66 #[.pointer (some ⟨wb, 0, none⟩), va] wz (RetAsk wb lb cp sz vs (lsOf k) l wz)) := fun wz hb => proof_ask wb lb cp sz k vs (lsOf k) l va wz (hW.call hb) hlen hk hsz ((hl.call hb).set fun b hb => .inl (hWD b hb)) hll.symm (by omega) (by omega)
 obtain ⟨z, hz⟩ : ∃ z, horner x P = z := ⟨_, rfl⟩
 have HAT : Hid (∀ wz, SlK wz wz.heap.size vp P → Calls Tryz.prog 67 #[.int .u8 f, vp, .agg #[.int .u64 (lo x), .int .u64 (hi x)]] wz (RetK z wz)) := fun wz hs => by
  rw [← hz]
  exact poly_At hf vp P x wz hs (by omega)
 rw [hz]
 obtain ⟨h1, h2, h3, h4, h5, h6⟩ := hC.at hAg
 have HCC := Lib.hid hC
 have HAG := Lib.hid hAg
 have HST := Lib.hid hst
 have HSL := Lib.hid hl
 have HW := Lib.hid hW
 have HD := Lib.hid hDD
 have HEW := Lib.hid hEW
 have HSTEP := Lib.hid hstep
 have HLT := Lib.hid hltE
 have HWD := Lib.hid hWD
 have HCV := Lib.hid hcc
 have HCD := Lib.hid hcD
 have HCW := Lib.hid hcW
 have HCE := Lib.hid hcE
 have HX := Lib.hid hx
 have hk4 : k ≤ 4096 := by omega
 obtain ⟨A, cl, cc, rfl⟩ : ∃ (A : Option Addr) (a c : Nat), va = .slice A a c := hl.isSl
 obtain ⟨A2, c2, rfl, _, _, _⟩ := id h5
 obtain ⟨A3, c3, rfl, hc31, hc32, hA3⟩ := id h6
 obtain ⟨b3, o3, rfl, _, _⟩ := hA3 (by have := (List.getElem?_eq_some_iff.1 hx).1; omega)
 have hkT : (k : Int) + 1 < (T.length : Int) := by have := (List.getElem?_eq_some_iff.1 hx).1; omega
 have hkT0 : (0 : Int) ≤ (k : Int) + 1 := by omega
 clear hz hll ha1 ha2 hstep hk hsz hlen hst hl hW hDD hEW hAg hC h1 h2 h3 h4 h5 h6 hltE hWD hcc hcD hcW hcE hx hA3
 go_enter Tryz.func65, Tryz.ntmps65
 go_upto_region 1 with fail
 have s0 := V2.new w (.int .u64 0) (.int .u64 0) 36
 have hbA : Below w.heap.size w (w.alloc (.cells #[.int .u64 0, .int .u64 0] 36)) := (Below.refl _ _).alloc (Nat.le_refl _) _
 have hsz1 : (w.alloc (.cells #[.int .u64 0, .int .u64 0] 36)).heap.size = w.heap.size + 1 := World.size_alloc _ _
 generalize w.alloc (.cells #[.int .u64 0, .int .u64 0] 36) = w1 at s0 hbA hsz1 ⊢
 have hAg1 : Agr E wE w1 := HAG.out.exc (S := fun _ => False) (exc_of hbA) (fun q _ h => h) HLT.out
 have hs0 : ¬ WrD wb lb vs w.heap.size := fun h => by have := HW.out.lt _ h; omega
 have hc1 := HCV.out.call hbA
 have hcl : cb < w.heap.size := HCV.out.lt
 obtain ⟨p0, p1, p2⟩ := (HCC.out.at hAg1).1.get1
 have HAG1 := Lib.hid hAg1
 have HS0 := Lib.hid hs0
 have HS1 := Lib.hid hsz1
 have HBA := Lib.hid hbA
 have HV0 := Lib.hid s0
 have HC1 := Lib.hid hc1
 clear hAg1 hs0 hsz1 hbA s0 hc1
 go_upto_region 2 with (go_at_call 66; refine (HASK.out _ HBA.out).mono ?_; rintro e w2 ⟨rfl, us, hW2, hD2, hE2⟩; clear p0 p1 p2)
 have hAg2 : Agr E wE w2 := HAG1.out.exc hE2 (fun q hq => HEW.out q (.inr hq)) HLT.out
 have hE02 : Exc D w.heap.size w w2 := (exc_of HBA.out).more hE2 (fun q hq => .inl (HWD.out q hq))
 have hv2 : V2 w2 w.heap.size (.int .u64 0) (.int .u64 0) := HV0.out.exc HS0.out hE2
 have hc2 : Vs w2 cb [.int .i64 (k : Nat)] := HC1.out.exc HCW.out hE2
 have hs12 := hE2.size
 have hs1 := HS1.out
 have hcW2 : ¬ WrD wb lb us cb := fun h => (hD2 cb h).elim HCW.out (fun h => by omega)
 -- the count of calls goes up
 obtain ⟨c0, c1, c2⟩ := hc2.get1
 have hw1 : IntKind.i64.wrap ((k : Int) + 1) = (k : Int) + 1 := IntWalk.i64_in _ (by omega)
 have HV2 := Lib.hid hv2
 have HC2 := Lib.hid hc2
 have HE02 := Lib.hid hE02
 have HAG2 := Lib.hid hAg2
 have HW2 := Lib.hid hW2
 have HD2 := Lib.hid hD2
 have HCW2 := Lib.hid hcW2
 have HS12' := Lib.hid hs12
 have HS12 := Lib.hid hs12
 clear hv2 hc2 hE02 hAg2 hW2 hD2 hE2 hcW2 hs12 hs1
 go_upto_region 5 with fail
 have hc3 : Vs (w2.setCell ⟨cb, 0, none⟩ (.int .i64 ((k : Int) + 1))) cb [.int .i64 ((k + 1 : Nat) : Int)] := HC2.out.put 0 (by simp) _
 have hE3 : Exc D w.heap.size w (w2.setCell ⟨cb, 0, none⟩ (.int .i64 ((k : Int) + 1))) := HE02.out.trans ⟨rfl, rfl, rfl, by simp [World.setCell], fun q hq hn => Below.heap_setCell _ _ _ _ (fun e => hn (e ▸ HCD.out))⟩
 have hAg3 : Agr E wE (w2.setCell ⟨cb, 0, none⟩ (.int .i64 ((k : Int) + 1))) := fun q hq => (Below.heap_setCell _ _ _ _ (fun e => HCE.out (by have e2 : q = cb := e; rw [← e2]; exact hq))).trans (HAG2.out q hq)
 have hW3 : WrI wb lb cp sz us (apn (lsOf k) l (lsOf k).length) (w2.setCell ⟨cb, 0, none⟩ (.int .i64 ((k : Int) + 1))) := HW2.out.same fun q hq => Below.heap_setCell _ _ _ _ (fun e => HCW2.out (by have e2 : q = cb := e; rw [← e2]; exact hq))
 have hv3 : V2 (w2.setCell ⟨cb, 0, none⟩ (.int .i64 ((k : Int) + 1))) w.heap.size (.int .u64 0) (.int .u64 0) := ((Vs.of2 HV2.out).far (p := ⟨cb, 0, none⟩) (by dsimp only; omega) _).to2
 have hs3 : w1.heap.size ≤ (w2.setCell ⟨cb, 0, none⟩ (.int .i64 ((k : Int) + 1))).heap.size := by
  have := HS12.out
  simpa [World.setCell] using this
 generalize w2.setCell ⟨cb, 0, none⟩ (.int .i64 ((k : Int) + 1)) = w3 at *
 clear c0 c1 c2
 obtain ⟨h1, hff, hqq, htt, hsp, hst⟩ := HCC.out.at hAg3
 obtain ⟨d3, d4, d5⟩ := hst.cells HX.out
 have HSP := Lib.hid hsp
 have HC3 := Lib.hid hc3
 have HV3 := Lib.hid hv3
 have HE3 := Lib.hid hE3
 have HAG3 := Lib.hid hAg3
 have HW3 := Lib.hid hW3
 have hc3l := hc3.lt
 have hc3c : w3.cell? ⟨cb, 0, none⟩ = some (.int .i64 ((k : Int) + 1)) := hc3.get1.1
 have hc3f := hc3.get1.2.1
 clear h1 hsp hst hE3 hAg3 hW3 hc3
 obtain ⟨ff0, ff1, ff2⟩ := hff.get1
 obtain ⟨qq0, qq1, qq2⟩ := hqq.get1
 obtain ⟨tt0, tt1, tt2⟩ := htt.get1
 refine region_B (n := 7) (m := 9) (f := 7) (by kernel_rfl) (by kernel_rfl) rfl ?_
 refine WpH.vD 0 (some 19) ?_ rfl rfl (by kernel_rfl) (fun _ _ _ h => h) rfl (fun wz hwz => ?_) ?_
 rotate_left
 ·(obtain ⟨hcz, hfz⟩ := bcell hwz; go_simp; try (with_reducible rfl))
 simp only [Zp, Zq, Zr, Zs]
 refine WpH.vD 1 (some 20) ?_ rfl rfl (by kernel_rfl) (fun _ _ _ h => h) rfl (fun wz hwz => ?_) ?_
 rotate_left
 ·(obtain ⟨hcz, hfz⟩ := bcell hwz; go_simp; try (with_reducible rfl))
 simp only [Zp, Zq, Zr, Zs]
 refine WpH.vD 2 (some 21) ?_ rfl rfl (by kernel_rfl) (fun _ _ _ h => h) rfl (fun wz hwz => ?_) ?_
 rotate_left
 ·(obtain ⟨hcz, hfz⟩ := bcell hwz; go_simp; try (with_reducible rfl))
 simp only [Zp, Zq, Zr, Zs]
 refine WpH.vD 3 (some 22) ?_ rfl rfl (by kernel_rfl) (fun _ _ _ h => h) rfl (fun wz hwz => ?_) ?_
 rotate_left
 ·(obtain ⟨hcz, hfz⟩ := bcell hwz; go_simp; try (with_reducible rfl))
 simp only [Zp, Zq, Zr, Zs]
 refine WpH.vD 4 (some 23) ?_ rfl rfl (by kernel_rfl) (fun _ _ _ h => h) rfl (fun wz hwz => ?_) ?_
 rotate_left
 ·go_simp; try (with_reducible rfl)
 simp only [Zp, Zq, Zr, Zs]
 refine WpH.vD 5 (some 24) ?_ rfl rfl (by kernel_rfl) (fun _ _ _ h => h) rfl (fun wz hwz => ?_) ?_
 rotate_left
 ·(obtain ⟨hcz, hfz⟩ := bcell hwz; go_simp; try (with_reducible rfl))
 simp only [Zp, Zq, Zr, Zs]
 refine WpH.takeD 6 (some 25) rfl rfl (by kernel_rfl) (fun _ _ _ h => h) (.call rfl (fun wz hwz => HAT.out wz (HSP.out.later hwz)) (fun wz hwz => ?_)) ?_
 ·go_simp; try (with_reducible rfl)
 simp only [Zp, Zq, Zr, Zs]
 refine WpH.doneB (by kernel_rfl) (fun w4 hw4 => ?_)
 (try simp only [List.drop_succ_cons]); (try simp only [List.drop_zero]); (try simp only [Nat.reduceSub]); (try simp only [List.take_succ_cons]); (try simp only [List.take_zero])
 have HB4 := Lib.hid hw4
 obtain ⟨t0, t1, t2, t3, t4⟩ := HV3.out.call hw4
 clear hw4
 go_wp2_with fail
 have hs1 := HS1.out
 have hs12 := HS12.out
 have hcl9 : cb < w.heap.size := HCV.out.lt
 have hlw : ∀ q, WrD wb lb us q → q ≠ w.heap.size := fun q hq e => by
  rcases HD2.out q hq with h | h
  ·exact HS0.out (e ▸ h)
  ·omega
 have hlE : ∀ q, E q → q < w.heap.size := fun q hq => HAG.out.lt hq (HLT.out q hq)
 refine bodyPost_ret (results_v2_tmp (b := w.heap.size) (u := .int .u64 (lo z)) (v := .int .u64 (hi z)) ?_ rfl rfl) rfl ?_
 ·exact V2.set ⟨t0, t1, t2, t3, t4⟩ _ _
 ·have hc4 := (HC3.out.call HB4.out)
  refine ⟨rfl, fun q => WrD wb lb us q ∨ (q = cb ∨ E q), InvQ.st ⟨lb, cp, us, ?_, fun q => Iff.rfl, ?_, ?_, ?_⟩ HLT.out, ?_, ?_⟩
  ·rw [← HSTEP.out]
   exact (HW3.out.call HB4.out).same fun q hq => (Below.heap_setCell _ _ _ _ (hlw q hq)).trans (Below.heap_setCell _ _ _ _ (hlw q hq))
  ·rintro q (rfl | hq) hw
   ·exact HCW2.out hw
   ·exact (HD2.out q hw).elim (HEW.out q (.inr hq)) (fun h => by have := hlE q hq; omega)
  ·intro q hq
   have h0 : q ≠ w.heap.size := Nat.ne_of_lt (hlE q hq)
   exact ((Below.heap_setCell _ _ _ _ h0).trans (Below.heap_setCell _ _ _ _ h0)).trans ((HB4.out.block q (HAG3.out.lt hq (HLT.out q hq))).trans (HAG3.out q hq))
  ·exact ((hc4.far (p := ⟨w.heap.size, 0, none⟩) (by dsimp only; omega) _).far (p := ⟨w.heap.size, 1, none⟩) (by dsimp only; omega) _)
  ·rintro q (hq | rfl | hq)
   ·exact (HD2.out q hq).imp (HWD.out q) (fun h => by omega)
   ·exact .inl HCD.out
   ·exact .inl ((HD.out q).2 (.inr (.inr hq)))
  ·exact (HE3.out.call HB4.out).st (Nat.le_refl _) _ _
end

end Go.Proofs.YtfbfbijkkbflkaaGreatDoor

namespace Go.Proofs.YtfbfbijkkbflkaaGreatDoor
open Go.RowKit Fm
set_option linter.unusedVariables false
set_option maxRecDepth 100000

section
variable {f : Nat}
def ansQ (L : Nat) (P : KL f) (k : Nat) : Fin (Pm f) := ev (Fm.kpow (rootK f L) (k + 1)) P
def qryL (y : CK) (L : Nat) (v j : KL f) (part : Fin (Pm f)) (p : KL f) (x : Fin (Pm f)) : KL f :=
 runF y v j part (ansQ L (p.drop y.arity)) :: ((polysA L (p.take y.arity) (argOf y v j part) y.calls y.arity).map (ev x) ++ [ev x (p.drop y.arity)])
theorem qryL_length (y : CK) (L : Nat) (v j : KL f) (part : Fin (Pm f)) (p : KL f) (x : Fin (Pm f)) : (qryL y L v j part p x).length = y.arity + 2 := by
 unfold qryL
 rw [List.length_cons, List.length_append, List.length_map, polysA_length]
 rfl
def RetQy (y : CK) (L : Nat) (v j : KL f) (part : Fin (Pm f)) (p : KL f) (x : Fin (Pm f)) (w : World) (e : Ending) (w' : World) : Prop :=
 (Fm.kpow x (2 ^ L) = 1 ∧ RetE9 12 w e w') ∨ (Fm.kpow x (2 ^ L) ≠ 1 ∧ RetSq0 (qryL y L v j part p x) w e w')
theorem pows_get (x : Fin (Pm f)) (n k : Nat) (h : k < n) : (pows x n)[k]? = some (Fm.kpow x k) := by
 unfold pows ofF
 rw [List.getElem?_map, List.getElem?_range h]
 rfl
end

section
variable {f : Nat} (hf : IsF f)
include hf
theorem asked_query (y : CK) (hy : y.ok) (hcl : y.calls ≤ 511) (v j seeds P : KL f) (part : Fin (Pm f)) (L : Nat) (hN : nextP (y.calls + 1) = 2 ^ L) (E : Nat → Prop) (wE : World) (pb cb fb qb tb wb : Nat) (vp vt : Value)
  (hC : CapQ E wE pb fb qb tb wb vp vt P (pows (rootK f L) (2 ^ L))) (hcE : ¬ E cb) (hP : P.length ≤ 100000) :
  Asked y v j part 65 #[.pointer (some ⟨pb, 0, none⟩), .pointer (some ⟨cb, 0, none⟩), .pointer (some ⟨fb, 0, none⟩), .pointer (some ⟨qb, 0, none⟩), .pointer (some ⟨tb, 0, none⟩)] (InvQ wb (2 ^ L) cb E wE (linesA seeds (argOf y v j part) y.arity)) (ansQ L P) 0 := by
 refine ⟨fun args w => by kernel_rfl, fun k D w va hk hst hv => ?_⟩
 obtain ⟨L', hL', hN', hN2⟩ := nextP_pow (y.calls + 1) (by omega)
 have hN4 := (nextP_le (y.calls + 1)).2
 have hal := CK.arity_le hy
 have hga := gad_arity f y
 have harg := argOf_lenP y v j part k
 have hk2 : k + 1 < 2 ^ L := by rw [← hN, hN']; omega
 exact query_closure hf E wE pb cb fb qb tb wb (2 ^ L) vp vt P _ hC hcE _ k (argOf y v j part k) (fun i x h => linesA_at _ _ _ _ _ _ h) hk2 (by omega) (by rw [linesA_length, harg, hga]) (by rw [harg, hga]; exact hal.1) (by rw [harg, hga]; exact hal.2) (linesA_step _ _ _ _) hP _ (pows_get _ _ _ hk2) D w va hst hv
end

/-! ### c.Field and c.Gadget() are laid in two variables -/
/-! ### the wires begin, and a variable for them -/
def QbT (w0 : World) (o1 : Option (Nat × Nat × Nat × List Value)) (o2 : Option Nat) (wz : World) : Prop := Below w0.heap.size w0 wz
end Go.Proofs.YtfbfbijkkbflkaaGreatDoor

namespace Go.Proofs.YtfbfbijkkbflkaaGreatDoor
open Go Go.RowKit
set_option linter.unusedVariables false

section
variable {P : Program} {ops : Array Oper} {Q : Exit → Act → World → Prop} {md : Region.Mode} {n m : Nat} {L : Act → World → Prop} {f : Nat} {listed : Array Bool} {a : Act} {T S : World → Prop}
variable {L' : Act → World → Prop}
theorem region_Z2 {id n m f : Nat} {l : List Oper} {a : Act} {w : World} {α β : Type} (R : α → β → World → Prop) (T S : World → Prop) (hST : ∀ w, S w → T w) (hC : Clo S) (hS : S w.drew) {E : α → β → Act} (hm : P.follows .mixedOrders = true) (hB : partsB .any l.toArray n m (Array.replicate l.length false) = true) (hf : f + (m - n) = l.length)
  (h : WpX P .any l.toArray Q n m (fun a w => ∃ x y, a = E x y ∧ R x y w) f (Array.replicate l.length false) a T S)
  (hc : ∀ x y w', R x y w' → wpList P l.toArray Q ((l.drop n).take (m - n)) (E x y) w') : (Code.region id l.toArray true).wp P Q a w :=
 region_X T S hST hC hS hm hB hf (h.monoZ fun _ w ⟨x, y, e, hr⟩ => e ▸ hc x y w hr)
end

end Go.Proofs.YtfbfbijkkbflkaaGreatDoor

namespace Go.Proofs.YtfbfbijkkbflkaaGreatDoor
open Go.RowKit Fm
set_option linter.unusedVariables false
set_option maxRecDepth 100000

def RetV (f n : Nat) (w : World) (e : Ending) (w' : World) : Prop :=
 ∃ (g : Nat) (zs : KL f), zs.length = n ∧ e = .returned (.slice (some ⟨g, 0, none⟩) n n) ∧ BlkE w' g (esK zs) ∧ w.heap.size ≤ g ∧ Below w.heap.size w w'

theorem fill_put {f : Nat} (zs : KL f) (n k : Nat) (hz : zs.length = k) (hk : k < n) (y : Fin (Pm f)) (a b : Int) (hy : eK y = (a, b)) :
  (esK zs ++ List.replicate (n - k) ((0, 0) : E)).set k (a, b) = esK (zs ++ [y]) ++ List.replicate (n - (k + 1)) (0, 0) := by
 have hl : (esK zs).length = k := by rw [esK_length, hz]
 rw [List.set_append_right _ _ (by rw [hl]; exact Nat.le_refl _), hl, Nat.sub_self, show n - k = (n - (k + 1)) + 1 by omega, List.replicate_succ, List.set_cons_zero, esK_append, esK_cons, esK_nil, hy, List.append_assoc]
 rfl
theorem fill_none {f : Nat} (zs : KL f) (n k : Nat) (hk : k < n) :
  esK zs ++ List.replicate (n - k) ((0, 0) : E) = esK (zs ++ [(0 : Fin (Pm f))]) ++ List.replicate (n - (k + 1)) (0, 0) := by
 rw [show n - k = (n - (k + 1)) + 1 by omega, List.replicate_succ, esK_append, esK_cons, esK_nil, eK_zero, List.append_assoc]
 rfl
section
variable {f : Nat} (hf : IsF f)
include hf

set_option maxHeartbeats 8000000 in
theorem law10_Vector (y : CK) (hy : y.ok) (vl : Value) (l : List E) (sm : Bool) (w : World) (hl : SlE w w.heap.size vl l) (hl60 : l.length ≤ 60) :
  Calls Tryz.prog 12 #[y.val f, vl, .bool sm] w (RetV f y.nin w) := by
 have HI := Lib.hid (fun wz => circuit_In f y hy wz)
 have hnin := CK.nin_le hy
 obtain ⟨⟨A, c, rfl, hlc, hcm, hA⟩, hok⟩ := hl
 have hfb0 : (1 : Int) ≤ (f : Int) := by rcases hf.or with rfl | rfl <;> omega
 have hfb1 : (f : Int) ≤ 2 := by rcases hf.or with rfl | rfl <;> omega
 unfold CK.val at HI ⊢
 obtain ⟨K, hK⟩ : ∃ K : Int, ((y.k : Nat) : Int) = K := ⟨_, rfl⟩
 obtain ⟨B, hB⟩ : ∃ K : Int, ((y.b : Nat) : Int) = K := ⟨_, rfl⟩
 obtain ⟨N, hN⟩ : ∃ K : Int, ((y.l : Nat) : Int) = K := ⟨_, rfl⟩
 obtain ⟨M, hM⟩ : ∃ K : Int, ((y.m : Nat) : Int) = K := ⟨_, rfl⟩
 obtain ⟨C, hC⟩ : ∃ K : Int, ((y.c : Nat) : Int) = K := ⟨_, rfl⟩
 rw [hK, hB, hN, hM, hC] at HI ⊢
 clear hK hB hN hM hC hy
 generalize y.nin = n at *
 have hmk := make_elem n (by omega)
 have hb00 : Below w.heap.size w w := Below.refl _ _
 go_enter Tryz.func12, Tryz.ntmps12
 go_upto_region 1 with fail
 have hx := Vs.new w [.int .u8 K, .int .u8 f, .int .i64 B, .int .i64 N, .int .i64 M, .int .i64 C] #[.int .u8 K, .int .u8 f, .int .i64 B, .int .i64 N, .int .i64 M, .int .i64 C] 30 rfl
 have hbA : Below w.heap.size w (w.alloc (.cells #[.int .u8 K, .int .u8 f, .int .i64 B, .int .i64 N, .int .i64 M, .int .i64 C] 30)) := by repeat (first | exact bA | with_reducible assumption | apply bB)
 replace hb00 := bl_call hb00 (Nat.le_refl _) hbA
 clear hbA
 generalize w.alloc (.cells #[.int .u8 K, .int .u8 f, .int .i64 B, .int .i64 N, .int .i64 M, .int .i64 C] 30) = w1 at hb00 hx ⊢
 obtain ⟨⟨x0, x1, x2, x3, x4, x5⟩, ⟨x6, x7, x8, x9, x10, x11⟩, x12⟩ := hx.get6
 go_upto_region 2 with (first
  | (go_at_call 42; refine (HI.out _).mono ?_; rintro e w2 ⟨rfl, hb2⟩; replace hb00 := bl_call hb00 (Nat.le_refl _) hb2; replace hx := hx.call hb2; obtain ⟨⟨x0, x1, x2, x3, x4, x5⟩, ⟨x6, x7, x8, x9, x10, x11⟩, x12⟩ := hx.get6))
 have hBk : BlkE (w2.alloc (.cells (cellsE (List.replicate n (0, 0))).toArray 36)) w2.heap.size (List.replicate n (0, 0)) := heap_alloc_new w2 _
 have hbA : Below w2.heap.size w2 (w2.alloc (.cells (cellsE (List.replicate n (0, 0))).toArray 36)) := by repeat (first | exact bA | with_reducible assumption | apply bB | (refine bC ?_ (by dsimp only; omega)) | apply bD | apply bE | (refine bF ?_ (by assumption)))
 have hgx : w.heap.size < w2.heap.size := hx.lt
 clear x0 x1 x2 x3 x4 x5 x6 x7 x8 x9 x10 x11 x12
 replace hb00 := bl_call hb00 (Nat.le_refl _) hbA
 replace hx := hx.call hbA
 clear hbA hb2
 obtain ⟨g, hg⟩ : ∃ g, w2.heap.size = g := ⟨_, rfl⟩
 rw [hg] at hBk hgx ⊢
 generalize w2.alloc (.cells (cellsE (List.replicate n (0, 0))).toArray 36) = w3 at hBk hx hb00 ⊢
 clear hg hmk HI
 go_wp2_with fail
 go_loopw [14] (fun i wr => ∃ (k : Nat) (zs : KL f), zs.length = k ∧ k ≤ n ∧ i = .int .i64 k ∧ BlkE wr g (esK zs ++ List.replicate (n - k) (0, 0)) ∧ Vs wr w.heap.size [.int .u8 K, .int .u8 f, .int .i64 B, .int .i64 N, .int .i64 M, .int .i64 C] ∧ Below w.heap.size w wr) (fun i _ => n - (intOf i).toNat)
 case atStart => exact ⟨0, [], rfl, Nat.zero_le _, rfl, hBk, hx, hb00⟩
 case round =>
  clear hBk hx hb00
  obtain ⟨k, zs, hzl, hk, rfl, hBk, hx, hbw⟩ := hrel
  obtain ⟨⟨x0, x1, x2, x3, x4, x5⟩, ⟨x6, x7, x8, x9, x10, x11⟩, x12⟩ := hx.get6
  have HZ := Lib.hid hzl
  clear hzl
  by_cases hlt : k < n
  ·by_cases hl0 : l.length = 0
   ·rw [fill_none zs n k hlt] at hBk
    have HBK := Lib.hid hBk
    clear hBk hA
    go_wp2
    go_roundw
    case rel => exact ⟨k + 1, zs ++ [0], (by rw [List.length_append, HZ.out]; rfl), by omega, by go_num, HBK.out, hx, hbw⟩
    case measure => simp [intOf]; omega
   ·obtain ⟨b, o, rfl, hBl, hr⟩ := hA (by omega)
    have hjm : k % l.length < l.length := Nat.mod_lt _ (by omega)
    obtain ⟨⟨e0, e1⟩, he⟩ : ∃ e, l[k % l.length]? = some e := ⟨_, List.getElem?_eq_getElem hjm⟩
    obtain ⟨h0, h1, h2, h3⟩ := hok _ (List.mem_of_getElem? he)
    obtain ⟨c0, c1⟩ := (hr.below hbw hBl) _ _ he
    dsimp only at h0 h1 h2 h3 c0 c1
    have hbl : b < wr.heap.size := Nat.lt_of_lt_of_le hBl hbw.size
    have HO := Lib.hid (fun wz => ref_OfL hf e0 e1 wz h0 h1 h2 h3)
    obtain ⟨x, hxx⟩ : ∃ x, kL f e0 e1 = x := ⟨_, rfl⟩
    rw [hxx] at HO
    have hjn : 0 ≤ (k : Int) % (l.length : Int) := Int.emod_nonneg _ (by omega)
    have hjl : (k : Int) % (l.length : Int) < (l.length : Int) := Int.emod_lt_of_pos _ (by omega)
    have hjt : ((k : Int) % (l.length : Int)).toNat = k % l.length := by rw [← Int.natCast_emod, Int.toNat_natCast]
    have hjd : (k : Int).tmod (l.length : Int) = (k : Int) % (l.length : Int) := Int.tmod_eq_emod_of_nonneg (by omega)
    have hgl : g < wr.heap.size := hBk.lt
    have hl9 : ¬ (l.length = 0) := hl0
    have hwf : IntKind.i64.wrap (f : Int) = (f : Int) := IntWalk.i64_in _ (by omega)
    clear he hr hA hxx
    go_upto_region 6 with fail
    refine region_B (n := 14) (m := 15) (f := 14) (by kernel_rfl) (by kernel_rfl) rfl ?_
    refine WpH.vD 0 (some 20) ?_ rfl rfl (by kernel_rfl) (fun _ _ _ h => h) rfl (fun wz hwz => ?_) ?_
    rotate_left
    ·go_simp; try (with_reducible rfl)
    simp only [Zp, Zq, Zr, Zs]
    refine WpH.vD 1 (some 21) ?_ rfl rfl (by kernel_rfl) (fun _ _ _ h => h) rfl (fun wz hwz => ?_) ?_
    rotate_left
    ·go_simp; try (with_reducible rfl)
    simp only [Zp, Zq, Zr, Zs]
    refine WpH.vD 2 (some 22) ?_ rfl rfl (by kernel_rfl) (fun _ _ _ h => h) rfl (fun wz hwz => ?_) ?_
    rotate_left
    ·go_simp; try (with_reducible rfl)
    simp only [Zp, Zq, Zr, Zs]
    refine WpH.vD 3 (some 23) ?_ rfl rfl (by kernel_rfl) (fun _ _ _ h => h) rfl (fun wz hwz => ?_) ?_
    rotate_left
    ·(obtain ⟨hcz, hfz⟩ := bcell hwz; go_simp; try (with_reducible rfl))
    simp only [Zp, Zq, Zr, Zs]
    refine WpH.vD 4 (some 24) ?_ rfl rfl (by kernel_rfl) (fun _ _ _ h => h) rfl (fun wz hwz => ?_) ?_
    rotate_left
    ·go_simp; try (with_reducible rfl)
    simp only [Zp, Zq, Zr, Zs]
    refine WpH.vD 5 (some 25) ?_ rfl rfl (by kernel_rfl) (fun _ _ _ h => h) rfl (fun wz hwz => ?_) ?_
    rotate_left
    ·go_simp; try (with_reducible rfl)
    simp only [Zp, Zq, Zr, Zs]
    refine WpH.vD 6 (some 26) ?_ rfl rfl (by kernel_rfl) (fun _ _ _ h => h) rfl (fun wz hwz => ?_) ?_
    rotate_left
    ·go_simp; try (with_reducible rfl)
    simp only [Zp, Zq, Zr, Zs]
    refine WpH.vD 7 (some 27) ?_ rfl rfl (by kernel_rfl) (fun _ _ _ h => h) rfl (fun wz hwz => ?_) ?_
    rotate_left
    ·go_simp; try (with_reducible rfl)
    simp only [Zp, Zq, Zr, Zs]
    refine WpH.vD 8 (some 28) ?_ rfl rfl (by kernel_rfl) (fun _ _ _ h => h) rfl (fun wz hwz => ?_) ?_
    rotate_left
    ·go_simp; try (with_reducible rfl)
    simp only [Zp, Zq, Zr, Zs]
    refine WpH.vD 9 (some 29) ?_ rfl rfl (by kernel_rfl) (fun _ _ _ h => h) rfl (fun wz hwz => ?_) ?_
    rotate_left
    ·go_simp; try (with_reducible rfl)
    simp only [Zp, Zq, Zr, Zs]
    refine WpH.vD 10 (some 30) ?_ rfl rfl (by kernel_rfl) (fun _ _ _ h => h) rfl (fun wz hwz => ?_) ?_
    rotate_left
    ·go_simp; try (with_reducible rfl)
    simp only [Zp, Zq, Zr, Zs]
    refine WpH.vD 11 (some 31) ?_ rfl rfl (by kernel_rfl) (fun _ _ _ h => h) rfl (fun wz hwz => ?_) ?_
    rotate_left
    ·(obtain ⟨hcz, hfz⟩ := bcell hwz; go_simp; try (with_reducible rfl))
    simp only [Zp, Zq, Zr, Zs]
    refine WpH.takeD 12 (some 32) rfl rfl (by kernel_rfl) (fun _ _ _ h => h) (.call rfl (fun wz hwz => HO.out wz) (fun wz hwz => ?_)) ?_
    ·go_simp; try (with_reducible rfl)
    simp only [Zp, Zq, Zr, Zs]
    refine WpH.vD 13 (some 33) ?_ rfl rfl (by kernel_rfl) (fun _ _ _ h => h) rfl (fun wz hwz => ?_) ?_
    rotate_left
    ·go_simp; try (with_reducible rfl)
    simp only [Zp, Zq, Zr, Zs]
    refine WpH.doneB (by kernel_rfl) (fun w6 hw6 => ?_)
    (try simp only [List.drop_succ_cons]); (try simp only [List.drop_zero]); (try simp only [Nat.reduceSub]); (try simp only [List.take_succ_cons]); (try simp only [List.take_zero])
    replace hBk := hBk.call hw6
    clear x0 x1 x2 x3 x4 x5 x6 x7 x8 x9 x10 x11 x12
    replace hbw := bl_call hbw (Nat.le_refl _) hw6
    replace hx := hx.call hw6
    obtain ⟨⟨x0, x1, x2, x3, x4, x5⟩, ⟨x6, x7, x8, x9, x10, x11⟩, x12⟩ := hx.get6
    have hzk : ∃ u v : Value, w6.cell? ⟨g, k * 2, none⟩ = some u ∧ w6.cell? ⟨g, k * 2 + 1, none⟩ = some v := by
     have hlen : k < (esK zs ++ List.replicate (n - k) ((0, 0) : E)).length := by
      rw [List.length_append, List.length_replicate, esK_length, HZ.out]
      omega
     obtain ⟨e1, e2⟩ := hBk.row k _ (List.getElem?_eq_getElem hlen)
     exact ⟨_, _, e1, e2⟩
    obtain ⟨u, v, z0, z1⟩ := hzk
    have fz0 := hBk.frozen (k * 2)
    have fz1 := hBk.frozen (k * 2 + 1)
    have HS : Hid ((esK zs ++ List.replicate (n - k) ((0, 0) : E)).set k (lo x, hi x) = esK (zs ++ [x]) ++ List.replicate (n - (k + 1)) (0, 0)) := fill_put zs n k HZ.out hlt x _ _ rfl
    have HBS := Lib.hid (hBk.set k (lo x) (hi x))
    clear hBk
    have hgw : w.heap.size ≤ g := by omega
    cases sm with
    | false =>
     go_wp2
     go_roundw
     case rel =>
      have h := HBS.out
      rw [HS.out] at h
      exact ⟨k + 1, zs ++ [x], (by rw [List.length_append, HZ.out]; rfl), by omega, by go_num, h, (hx.far (by dsimp only; omega) _).far (by dsimp only; omega) _, by repeat (first | exact bA | with_reducible assumption | apply bB | (refine bC ?_ (by dsimp only; omega)) | apply bD | apply bE | (refine bF ?_ (by assumption)))⟩
     case measure => simp [intOf]; omega
    | true =>
     obtain ⟨q, hq, hq2⟩ : ∃ q : Nat, lo x % 2 = (q : Int) ∧ q ≤ 1 := ⟨(lo x % 2).toNat, by omega, by omega⟩
     have hx0 := lo_0 x
     have hqm : (lo x).tmod 2 = (q : Int) := by rw [Int.tmod_eq_emod_of_nonneg hx0]; exact hq
     have hwq : IntKind.u64.wrap (q : Int) = (q : Int) := IntWalk.u64_in _ (by omega)
     go_upto_region 8 with fail
     clear x0 x1 x2 x3 x4 x5 x6 x7 x8 x9 x10 x11 x12
     have hB2 := HBS.out
     have hx2 := (hx.far (p := ⟨g, k * 2, none⟩) (by dsimp only; omega) (.int .u64 (lo x))).far (p := ⟨g, k * 2 + 1, none⟩) (by dsimp only; omega) (.int .u64 (hi x))
     have hbw2 := bl_set (p := ⟨g, k * 2 + 1, none⟩) (bl_set (p := ⟨g, k * 2, none⟩) hbw hgw (.int .u64 (lo x))) hgw (.int .u64 (hi x))
     clear hx hbw HBS z0 z1 fz0 fz1 hw6
     generalize (w6.setCell ⟨g, k * 2, none⟩ (.int .u64 (lo x))).setCell ⟨g, k * 2 + 1, none⟩ (.int .u64 (hi x)) = w7 at hB2 hx2 hbw2 ⊢
     rw [HS.out] at hB2
     have hzx : (esK (zs ++ [x]) ++ List.replicate (n - (k + 1)) ((0, 0) : E))[k]? = some (lo x, hi x) := by
      rw [← HS.out, List.getElem?_set_self]
      ·rw [List.length_append, List.length_replicate, esK_length, HZ.out]
       omega
     obtain ⟨z0, z1⟩ := hB2.row k _ hzx
     have fz0 := hB2.frozen (k * 2)
     have fz1 := hB2.frozen (k * 2 + 1)
     have HB3 : Hid (BlkE ((w7.setCell ⟨g, k * 2, none⟩ (.int .u64 q)).setCell ⟨g, k * 2 + 1, none⟩ (.int .u64 0)) g (esK (zs ++ [nK f q]) ++ List.replicate (n - (k + 1)) (0, 0))) := by
      have h := hB2.set k (q : Int) 0
      rw [← HS.out, List.set_set, fill_put zs n k HZ.out hlt (nK f q) _ _ (eK_nK hf (by omega))] at h
      exact h
     clear hB2 hzx
     dsimp only at z0 z1
     go_wp2
     go_roundw
     case rel => exact ⟨k + 1, zs ++ [nK f q], (by rw [List.length_append, HZ.out]; rfl), by omega, by go_num, HB3.out, (hx2.far (by dsimp only; omega) _).far (by dsimp only; omega) _, by repeat (first | exact bA | with_reducible assumption | apply bB | (refine bC ?_ (by dsimp only; omega)) | apply bD | apply bE | (refine bF ?_ (by assumption)))⟩
     case measure => simp [intOf]; omega
  ·obtain rfl : k = n := by omega
   rw [Nat.sub_self, List.replicate_zero, List.append_nil] at hBk
   go_wp2
   go_ret
   exact ⟨g, zs, HZ.out, rfl, hBk, by omega, hbw⟩
end

end Go.Proofs.YtfbfbijkkbflkaaGreatDoor

namespace Go.Proofs.YtfbfbijkkbflkaaGreatDoor
open Go.RowKit Fm
set_option linter.unusedVariables false
set_option maxRecDepth 100000

section
variable {f : Nat}
theorem wpList_append_Ex {w : World} {ops : Array Oper} {rest : List Oper} {o : Oper} {a : Act} {Q : Exit → Act → World → Prop} (hgd : o.guard = none) (s x : Operand)
  (ho : o.op = .call { callee := .builtin .append, args := #[s, x], argTypes := #[24, 24] })
  (base n m : Nat) (v v2 : Value) (l l2 : KL f) (hs : a.eval s = v) (hx : a.eval x = v2) (hl : l.length = n) (hl2 : l2.length = m) (hown : w.ownsRow base 36 2 v n (cellsE (esK l))) (hv2 : SlK w w.heap.size v2 l2) (hbase : base ≤ w.heap.size) (hk : n + m ≤ 1099511627776) (hm : 0 < n + m)
  (h : ∀ (q : Nat × Nat) (w' : World), w'.ownsRow base 36 2 (.slice (some ⟨q.1, 0, none⟩) (n + m) q.2) (n + m) (cellsE (esK (l ++ l2))) → Exc (fun k => v.ownBlock = some k) w.heap.size w w' → (v.ownBlock = some q.1 ∨ q.1 = w.heap.size) → wpList Tryz.prog ops Q rest (a.put o.dst (.slice (some ⟨q.1, 0, none⟩) (n + m) q.2)) w') : wpList Tryz.prog ops Q (o :: rest) a w := by
 subst hl2
 obtain ⟨A, c, rfl, _, _, hA⟩ := hv2
 refine wpList_append_E hgd s x ho base v n (esK l) hs hown A l2.length c (esK l2) hx (esK_length l2) (fun h0 => ?_) hk hbase ?_
 ·obtain ⟨b, o', k1, _, k3⟩ := hA h0
  exact ⟨b, o', k1, k3⟩
 ·intro v' w' ho2 hg hat
  obtain ⟨g2, c2, rfl⟩ := own_sliceP ho2 hm
  rw [← esK_append] at ho2
  refine h (g2, c2) w' ho2 (grown_exc hg) ?_
  rcases hat with hat | hat
  ·exact .inl hat.symm
  ·exact .inr (Option.some.inj hat)
theorem row_ne {w : World} {g b o : Nat} {e : E} {l : KL f} (h : BlkE w g [e]) (hr : RowE w b o (esK l)) (hl : 2 ≤ l.length) : b ≠ g := by
 rintro rfl
 obtain ⟨x, hx⟩ : ∃ x, l[1]? = some x := ⟨_, List.getElem?_eq_getElem (by omega)⟩
 have h1 := (hr.kat hx).1
 have h2 : w.heap[b]? = some (.cells (cellsE [e]).toArray 36) := h
 simp only [World.cell?, h2] at h1
 obtain ⟨e0, e1⟩ := e
 simp [cellsE] at h1
theorem SlK.outOf {w : World} {g : Nat} {e : E} {v : Value} {l : KL f} (h : SlK w w.heap.size v l) (hB : BlkE w g [e]) (hl : 2 ≤ l.length) : SlX (fun q => q = g) w v l := by
 obtain ⟨A, c, hv, h1, h2, h3⟩ := h
 refine ⟨A, c, hv, h1, h2, fun h0 => ?_⟩
 obtain ⟨b, o, k1, k2, k3⟩ := h3 h0
 exact ⟨b, o, k1, k2, row_ne hB k3 hl, k3⟩
theorem rowS_ne {w : World} {g b : Nat} {e : E} {us : List Value} {A : Option Addr} {n c : Nat} (h : BlkE w g [e]) (hr : RowS w b 0 us) (hu : us[0]? = some (.slice A n c)) : b ≠ g := by
 rintro rfl
 have h1 := hr 0 _ hu
 have h2 : w.heap[b]? = some (.cells (cellsE [e]).toArray 36) := h
 simp only [World.cell?, h2] at h1
 obtain ⟨e0, e1⟩ := e
 simp [cellsE] at h1
end

def QE (pb fb qb tb bp gt : Nat) : Nat → Prop := fun q => q = pb ∨ q = fb ∨ q = qb ∨ q = tb ∨ q = bp ∨ q = gt
theorem QE.all (pb fb qb tb bp gt : Nat) : QE pb fb qb tb bp gt pb ∧ QE pb fb qb tb bp gt fb ∧ QE pb fb qb tb bp gt qb ∧ QE pb fb qb tb bp gt tb ∧ QE pb fb qb tb bp gt bp ∧ QE pb fb qb tb bp gt gt :=
 ⟨.inl rfl, .inr (.inl rfl), .inr (.inr (.inl rfl)), .inr (.inr (.inr (.inl rfl))), .inr (.inr (.inr (.inr (.inl rfl)))), .inr (.inr (.inr (.inr (.inr rfl))))⟩
theorem qry_blocks (W : Nat → Prop) (n b2 b8 b10 b12 b14 fb gw gt tb pb qb cb bp : Nat) (h1 : n + 1 < b2) (h2 : b2 ≤ fb) (h3 : fb < b8) (h4 : b8 ≤ gw) (h5 : gw < b10) (h6 : b10 ≤ gt) (h7 : gt < tb) (h8 : b12 = tb + 1) (h9 : b12 ≤ pb) (h10 : pb < b14) (h11 : b14 ≤ qb) (h12 : cb = qb + 1) (h13 : bp < n)
  (hd : ∀ q, W q → b12 ≤ q) (hl : ∀ q, W q → q < b14) (hp : ¬ W pb) :
  (∀ q, QE pb fb qb tb bp gt q → (q = bp ∨ n ≤ q) ∧ q < cb ∧ q ≠ gw ∧ q ≠ n + 1 ∧ ¬ W q) ∧ (∀ q, (W q ∨ (q = cb ∨ QE pb fb qb tb bp gt q)) → (q = bp ∨ n ≤ q) ∧ q ≠ gw ∧ q ≠ n + 1 ∧ (q < n → QE pb fb qb tb bp gt q)) ∧ ¬ W cb ∧ ¬ QE pb fb qb tb bp gt cb := by
 have hE : ∀ q, QE pb fb qb tb bp gt q → (q = bp ∨ n ≤ q) ∧ q < cb ∧ q ≠ gw ∧ q ≠ n + 1 ∧ ¬ W q := fun q hq => by
  refine ⟨?_, ?_, ?_, ?_, ?_⟩
  ·unfold QE at hq
   omega
  ·unfold QE at hq
   omega
  ·unfold QE at hq
   omega
  ·unfold QE at hq
   omega
  ·intro hw
   have k1 := hd q hw
   have k2 := hl q hw
   unfold QE at hq
   rcases hq with hq | hq | hq | hq | hq | hq
   ·exact hp (hq ▸ hw)
   all_goals omega
 refine ⟨hE, fun q hq => ?_, fun hw => by have := hl cb hw; omega, fun h => by have := (hE cb h).2.1; omega⟩
 rcases hq with hq | hq | hq
 ·have k1 := hd q hq
  exact ⟨by omega, by omega, by omega, fun h => by omega⟩
 ·exact ⟨by omega, by omega, by omega, fun h => by omega⟩
 ·obtain ⟨k1, k2, k3, k4, _⟩ := hE q hq
  exact ⟨k1, k3, k4, fun _ => hq⟩

end Go.Proofs.YtfbfbijkkbflkaaGreatDoor
