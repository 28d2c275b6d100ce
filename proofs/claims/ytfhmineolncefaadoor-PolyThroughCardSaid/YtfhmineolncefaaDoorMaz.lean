/-
  WALK: poly.Through.
-/
/-
  WALK: tallymanlaw05.PolyThrough.
-/
import Derived.Test.YtfhmineolncefaaDoorMax
import Derived.Test.YtfhmineolncefaaDoorMag
namespace Go.Proofs.YtfhmineolncefaaDoor
open Go.RowKit Fm
set_option linter.unusedVariables false
set_option maxRecDepth 100000

section
variable {f : Nat}

/-- within Through: out goes through the first i points, base is nought at just these -/
def ThrIn (x y : KL f) (i : Nat) (out base : KL f) : Prop :=
  trim out = out ∧ out.length ≤ i ∧ base.length ≤ i + 1 ∧ (∀ j, j < i → ev (x.getD j 0) out = y.getD j 0) ∧ (∀ p, ev p base = 0 ↔ ∃ j, j < i ∧ p = x.getD j 0) ∧ ∀ j k, j < k → k < i → x.getD k 0 ≠ x.getD j 0
theorem ThrIn.start (x y : KL f) : ThrIn x y 0 [] [1] :=
  ⟨rfl, Nat.le_refl _, Nat.le_refl _, fun j h => absurd h (Nat.not_lt_zero _), fun p => ⟨fun h => by
    rw [ev_cons, ev_nil] at h
    exact absurd (by grind) (k_one_ne (f := f)), fun ⟨j, h, _⟩ => absurd h (Nat.not_lt_zero _)⟩, fun j k _ h => absurd h (Nat.not_lt_zero _)⟩
theorem ThrIn.next {x y out base : KL f} {i : Nat} (h : ThrIn x y i out base) {p v o t : Fin (Pm f)} (hp : x.getD i 0 = p) (hv : ev p base = v) (hv0 : v ≠ 0) (ho : ev p out = o) (hy : y.getD i 0 = t) :
    ThrIn x y (i + 1) (padd out (pscale ((t - o) * kinv v) base)) (pmul base [-p, 1]) := by
  obtain ⟨h1, h2, h3, h4, h5, h6⟩ := h
  have hk := mul_kinvK v hv0
  have hb2 : ∀ q, ev q ([-p, 1] : KL f) = q - p := fun q => by
    rw [ev_cons, ev_cons, ev_nil]
    grind
  refine ⟨by unfold padd; exact trim_trim _, ?_, ?_, fun j hj => ?_, fun q => ?_, fun j k hjk hk2 => ?_⟩
  · have := padd_le out (pscale ((t - o) * kinv v) base)
    have := pscale_le ((t - o) * kinv v) base
    omega
  · have := pmul_le base [-p, 1]
    simp only [List.length_cons, List.length_nil] at this
    omega
  · rw [ev_padd, ev_pscale]
    by_cases hji : j = i
    · subst hji
      rw [hp, hv, ho, hy]
      have : v * ((t - o) * kinv v) = (t - o) * (v * kinv v) := by grind
      rw [this, hk]
      grind
    · rw [h4 j (by omega), (h5 _).2 ⟨j, by omega, rfl⟩]
      grind
  · rw [ev_pmul, hb2]
    constructor
    · intro h
      rcases k_mul_eq_zero _ _ h with h | h
      · obtain ⟨j, hj, e⟩ := (h5 q).1 h
        exact ⟨j, by omega, e⟩
      · exact ⟨i, by omega, by rw [hp]; grind⟩
    · rintro ⟨j, hj, e⟩
      by_cases hji : j = i
      · subst hji
        rw [e, hp]
        grind
      · rw [(h5 q).2 ⟨j, by omega, e⟩]
        grind
  · by_cases hki : k = i
    · subst hki
      intro e
      apply hv0
      rw [← hv, ← hp]
      exact (h5 _).2 ⟨j, hjk, e⟩
    · exact h6 j k hjk (by omega)

def RetThr (x y : KL f) (w : World) (e : Ending) (w' : World) : Prop :=
  ((∃ j k, j < k ∧ k < x.length ∧ x.getD k 0 = x.getD j 0) ∧ e = .returned (.tuple #[.slice none 0 0, .int .i64 8]) ∧ Below w.heap.size w w') ∨
  ∃ (P : KL f) (q : Option Addr × Nat), (∀ j k, j < k → k < x.length → x.getD k 0 ≠ x.getD j 0) ∧ trim P = P ∧ P.length ≤ x.length ∧ (∀ j, j < x.length → ev (x.getD j 0) P = y.getD j 0) ∧ e = .returned (.tuple #[.slice q.1 P.length q.2, .int .i64 0]) ∧ SlK w' w'.heap.size (.slice q.1 P.length q.2) P ∧ Below w.heap.size w w'

theorem SlK.pair (w : World) (a b : Fin (Pm f)) : SlK (w.alloc (.cells #[.int .u64 (lo a), .int .u64 (hi a), .int .u64 (lo b), .int .u64 (hi b)] 28)) (w.alloc (.cells #[.int .u64 (lo a), .int .u64 (hi a), .int .u64 (lo b), .int .u64 (hi b)] 28)).heap.size (.slice (some ⟨w.heap.size, 0, none⟩) 2 2) [a, b] :=
  (RwK.new w [a, b] #[.int .u64 (lo a), .int .u64 (hi a), .int .u64 (lo b), .int .u64 (hi b)] rfl 28).sl (n := 2) (c := 2) rfl (by omega) (by omega)
theorem SlK.one (w : World) : SlK (w.alloc (.cells #[.int .u64 (lo (1 : Fin (Pm f))), .int .u64 (hi (1 : Fin (Pm f)))] 28)) (w.alloc (.cells #[.int .u64 (lo (1 : Fin (Pm f))), .int .u64 (hi (1 : Fin (Pm f)))] 28)).heap.size (.slice (some ⟨w.heap.size, 0, none⟩) 1 1) [(1 : Fin (Pm f))] :=
  (RwK.new w [(1 : Fin (Pm f))] #[.int .u64 (lo (1 : Fin (Pm f))), .int .u64 (hi (1 : Fin (Pm f)))] rfl 28).sl (n := 1) (c := 1) rfl (by omega) (by omega)

variable (hf : IsF f)
include hf

set_option maxHeartbeats 8000000 in
theorem poly_Through (va vb : Value) (x y : KL f) (w : World) (hT : TabW w) (hx : SlK w w.heap.size va x) (hy : SlK w w.heap.size vb y) (hxy : x.length = y.length) (hxl : x.length ≤ 64) :
    Calls Tryd.prog 42 #[.int .u8 f, va, vb] w (RetThr x y w) := by
  have HVA := Lib.hid (fun wz => field_ValidT hf wz)
  have HON := Lib.hid (fun wz => field_One hf wz)
  have HIN := Lib.hid (fun x wz => field_Inv hf x wz)
  have HSU := Lib.hid (fun x y wz => field_SubK hf x y wz)
  have HMU := Lib.hid (fun x y wz => field_MulK hf x y wz)
  have HNE := Lib.hid (fun x wz => field_NegK hf x wz)
  have HAT := Lib.hid (fun v (p : KL f) a wz h1 h2 => poly_At hf v p a wz h1 h2)
  have HSC := Lib.hid (fun va (x : KL f) k wz h1 h2 => poly_Scale hf va x k wz h1 h2)
  have HAD := Lib.hid (fun va vb (a b : KL f) wz h1 h2 h3 h4 => poly_Add hf va vb a b wz h1 h2 h3 h4)
  have HML := Lib.hid (fun va vb (a b : KL f) wz h0 h1 h2 h3 h4 h5 => poly_Mul hf va vb a b wz h0 h1 h2 h3 h4 h5)
  have hfb0 : (1 : Int) ≤ (f : Int) := by rcases hf.or with rfl | rfl <;> omega
  have hfb1 : (f : Int) ≤ 2 := by rcases hf.or with rfl | rfl <;> omega
  have HX := Lib.hid hx
  have HY := Lib.hid hy
  have HT := Lib.hid hT
  obtain ⟨A, ca, rfl, _, _, _⟩ := hx
  obtain ⟨B, cb, rfl, _, _, _⟩ := hy
  obtain ⟨n, hn⟩ : ∃ n, x.length = n := ⟨_, rfl⟩
  have hny : y.length = n := by omega
  have HXL := Lib.hid hn
  have HYL := Lib.hid hny
  rw [hn] at hxl HX ⊢
  rw [hny] at HY ⊢
  clear hn hny hxy hT
  have hb00 : Below w.heap.size w w := Below.refl _ _
  go_enter Tryd.func42, Tryd.ntmps42
  go_wp2_with fail
  refine (HVA.out _).mono ?_
  rintro e w' ⟨rfl, rfl⟩
  have hn5 : ¬ (64 < n) := by omega
  go_wp2_with fail
  refine (HON.out _).mono ?_
  rintro e w1 ⟨rfl, hb1⟩
  replace hb00 := bl_call hb00 (Nat.le_refl _) hb1
  clear hb1
  have hbs := SlK.one (f := f) w1
  have hb2 : Below w.heap.size w (w1.alloc (.cells #[.int .u64 (lo (1 : Fin (Pm f))), .int .u64 (hi (1 : Fin (Pm f)))] 28)) := hb00.alloc hb00.size _
  go_upto_region 9 with fail
  generalize w1.alloc (.cells #[.int .u64 (lo (1 : Fin (Pm f))), .int .u64 (hi (1 : Fin (Pm f)))] 28) = w2 at hbs hb2 ⊢
  generalize (⟨w1.heap.size, 0, none⟩ : Addr) = g1 at hbs ⊢
  clear hb00
  go_wp2_with fail
  go_loopw [8, 9, 34] (fun ov bv iv wr => ∃ (i : Nat) (out base : KL f) (lo9 lb9 : Nat) (D E : Option Addr) (cp dp : Nat), i ≤ n ∧ iv = .int .i64 i ∧ ov = .slice D lo9 cp ∧ bv = .slice E lb9 dp ∧ Hid (out.length = lo9 ∧ base.length = lb9 ∧ ThrIn x y i out base) ∧ SlK wr wr.heap.size (.slice D lo9 cp) out ∧ SlK wr wr.heap.size (.slice E lb9 dp) base ∧ Below w.heap.size w wr) (fun _ _ iv _ => n - (intOf iv).toNat)
  case atStart => exact ⟨0, [], [1], 0, 1, none, some g1, 0, 1, Nat.zero_le _, rfl, rfl, rfl, ⟨rfl, rfl, ThrIn.start x y⟩, (SlE.nil _ _).toK (l := []), hbs, hb2⟩
  case round =>
    clear hbs hb2
    obtain ⟨i, out, base, lo9, lb9, D, E, cp, dp, hi9, rfl, rfl, rfl, hI, hos, hbs, hb00⟩ := hrel
    by_cases hin : i < n
    · obtain ⟨p, hp⟩ : ∃ z, x[i]? = some z := ⟨_, List.getElem?_eq_getElem (by rw [HXL.out]; exact hin)⟩
      obtain ⟨t, ht⟩ : ∃ z, y[i]? = some z := ⟨_, List.getElem?_eq_getElem (by rw [HYL.out]; exact hin)⟩
      have HP : Hid (x.getD i 0 = p) := by show _ = _; rw [List.getD_eq_getElem?_getD, hp]; rfl
      have HTY : Hid (y.getD i 0 = t) := by show _ = _; rw [List.getD_eq_getElem?_getD, ht]; rfl
      have HPX := Lib.hid hp
      have HTX := Lib.hid ht
      obtain ⟨b1, o1, hAe, hbw1, hrow1⟩ := HX.out.rowOf (by rw [HXL.out]; omega)
      obtain ⟨b2, o2, hBe, hbw2, hrow2⟩ := HY.out.rowOf (by rw [HYL.out]; omega)
      subst hAe
      subst hBe
      have HR2 := Lib.hid hrow2
      obtain ⟨d0, d1⟩ := (hrow1.below hb00 hbw1).kat hp
      have g1' : (0 : Int) ≤ (i : Int) := by omega
      have g2 : (i : Int) < (n : Int) := by omega
      obtain ⟨v, hv⟩ : ∃ v, ev p base = v := ⟨_, rfl⟩
      obtain ⟨o, ho⟩ : ∃ o, ev p out = o := ⟨_, rfl⟩
      have HV := Lib.hid hv
      have HO := Lib.hid ho
      have HOL : Hid (out.length = lo9) := hI.out.1
      have HBL : Hid (base.length = lb9) := hI.out.2.1
      have hol : lo9 ≤ i := by have := hI.out.2.2.2.1; have := hI.out.1; omega
      have hbl : lb9 ≤ i + 1 := by have := hI.out.2.2.2.2.1; have := hI.out.2.1; omega
      clear hp ht hv ho hrow1 hrow2
      have hwz := hb00.size
      go_upto_region 12 with fail
      have pv := V2.new wr (.int .u64 (lo p)) (.int .u64 (hi p)) 28
      have hbA : Below wr.heap.size wr (wr.alloc (.cells #[.int .u64 (lo p), .int .u64 (hi p)] 28)) := by repeat (first | exact Below.refl _ _ | with_reducible assumption | (refine bl_alloc ?_ (Nat.le_refl _) _))
      replace hb00 := bl_call hb00 (Nat.le_refl _) hbA
      replace hos := hos.later hbA
      replace hbs := hbs.later hbA
      clear hbA
      generalize wr.alloc (.cells #[.int .u64 (lo p), .int .u64 (hi p)] 28) = w3 at hb00 hos hbs pv ⊢
      obtain ⟨pb, hpb⟩ : ∃ z, wr.heap.size = z := ⟨_, rfl⟩
      rw [hpb] at pv hwz
      simp only [hpb]
      clear hpb d0 d1
      have HA1 : Hid (∀ wz, SlK wz wz.heap.size (.slice E lb9 dp) base → Calls Tryd.prog 30 #[.int .u8 f, .slice E lb9 dp, vK p] wz (RetK v wz)) := fun wz h => by
        have h2 := HAT.out _ base p wz h (by rw [HBL.out]; omega)
        rwa [horner_ev, HV.out] at h2
      have HA2 : Hid (∀ wz, SlK wz wz.heap.size (.slice D lo9 cp) out → Calls Tryd.prog 30 #[.int .u8 f, .slice D lo9 cp, vK p] wz (RetK o wz)) := fun wz h => by
        have h2 := HAT.out _ out p wz h (by rw [HOL.out]; omega)
        rwa [horner_ev, HO.out] at h2
      obtain ⟨pv0, pv1, pv2, pv3, pv4⟩ := V2.mk pv.c0 pv.c1 pv.f0 pv.f1 pv.lt
      go_wp2_with fail
      refine (HA1.out _ hbs).mono ?_
      rintro e w4 ⟨rfl, hb4⟩
      clear pv0 pv1 pv2 pv3 pv4
      replace hb00 := bl_call hb00 (Nat.le_refl _) hb4
      replace hos := hos.later hb4
      replace hbs := hbs.later hb4
      replace pv := pv.call hb4
      clear hb4
      go_wp2_with fail
      refine (HIN.out v _).mono ?_
      rintro e w5 (⟨h0, rfl, hb5⟩ | ⟨hv0, rfl, hb5⟩)
      · have HER : Hid (∃ j k, j < k ∧ k < x.length ∧ x.getD k 0 = x.getD j 0) := by
          obtain ⟨j, hj, e⟩ := (hI.out.2.2.2.2.2.2.1 p).1 (by rw [HV.out, h0])
          exact ⟨j, i, hj, by rw [HXL.out]; exact hin, by rw [HP.out, e]⟩
        replace hb00 := bl_call hb00 (Nat.le_refl _) hb5
        replace hos := hos.later hb5
        replace hbs := hbs.later hb5
        replace pv := pv.call hb5
        clear hb5 hI h0 hos hbs pv
        go_wp2_with fail
        go_ret2
        exact .inl ⟨HER.out, rfl, by repeat (first | exact Below.refl _ _ | with_reducible assumption | (refine bl_alloc ?_ (Nat.le_refl _) _) | (refine bl_set ?_ (by dsimp only; omega) _) | (refine Below.drew ?_) | (refine bl_drewN ?_ _) | (refine bl_call ?_ (Nat.le_refl _) (by assumption)))⟩
      · skip
        replace hb00 := bl_call hb00 (Nat.le_refl _) hb5
        replace hos := hos.later hb5
        replace hbs := hbs.later hb5
        replace pv := pv.call hb5
        clear hb5
        obtain ⟨k, hk⟩ : ∃ k, kinv v = k := ⟨_, rfl⟩
        rw [hk]
        go_upto_region 13 with fail
        have uv := V2.new w5 (.int .u64 (lo k)) (.int .u64 (hi k)) 28
        have hbA : Below w5.heap.size w5 (w5.alloc (.cells #[.int .u64 (lo k), .int .u64 (hi k)] 28)) := by repeat (first | exact Below.refl _ _ | with_reducible assumption | (refine bl_alloc ?_ (Nat.le_refl _) _))
        replace hb00 := bl_call hb00 (Nat.le_refl _) hbA
        replace hos := hos.later hbA
        replace hbs := hbs.later hbA
        replace pv := pv.call hbA
        clear hbA
        generalize w5.alloc (.cells #[.int .u64 (lo k), .int .u64 (hi k)] 28) = w6 at hb00 hos hbs pv uv ⊢
        obtain ⟨ub, hub⟩ : ∃ z, w5.heap.size = z := ⟨_, rfl⟩
        rw [hub] at uv
        simp only [hub]
        clear hub
        obtain ⟨d0, d1⟩ := (HR2.out.below hb00 hbw2).kat HTX.out
        have l1 : b2 < w6.heap.size := Nat.lt_of_lt_of_le hbw2 hb00.size
        have l2 := pv.lt
        have l3 := uv.lt
        go_upto_region 15 with fail
        obtain ⟨pv0, pv1, pv2, pv3, pv4⟩ := V2.mk pv.c0 pv.c1 pv.f0 pv.f1 pv.lt
        obtain ⟨uv0, uv1, uv2, uv3, uv4⟩ := V2.mk uv.c0 uv.c1 uv.f0 uv.f1 uv.lt
        have hNew := newE_stable (w6.heap.size)
        refine region_N (n := 14) (m := 15) (f := 14) 13 14 (NewE (w6.heap.size)) (by kernel_rfl) (by kernel_rfl) rfl ?_
        refine WpH.takeND hNew 0 (some 51) (v := ?_) rfl rfl (by kernel_rfl) rfl rfl (fun _ _ _ h => h) (.val rfl (fun wz hwz => ?_)) ?_
        rotate_left
        · go_simp; try (with_reducible rfl)
        (simp only [Act.put]); (try simp only [List.setIfInBounds_toArray]); (try simp only [List.set_cons_succ]); (try simp only [List.set_cons_zero])
        refine WpH.takeND hNew 1 (some 52) (v := ?_) rfl rfl (by kernel_rfl) rfl rfl (fun _ _ _ h => h) (.val rfl (fun wz hwz => ?_)) ?_
        rotate_left
        · go_simp; try (with_reducible rfl)
        (simp only [Act.put]); (try simp only [List.setIfInBounds_toArray]); (try simp only [List.set_cons_succ]); (try simp only [List.set_cons_zero])
        refine WpH.takeND hNew 2 (some 53) (v := ?_) rfl rfl (by kernel_rfl) rfl rfl (fun _ _ _ h => h) (.val rfl (fun wz hwz => ?_)) ?_
        rotate_left
        · go_simp; try (with_reducible rfl)
        (simp only [Act.put]); (try simp only [List.setIfInBounds_toArray]); (try simp only [List.set_cons_succ]); (try simp only [List.set_cons_zero])
        refine WpH.takeND hNew 3 (some 54) (v := ?_) rfl rfl (by kernel_rfl) rfl rfl (fun _ _ _ h => h) (.val rfl (fun wz hwz => ?_)) ?_
        rotate_left
        · go_simp; try (with_reducible rfl)
        (simp only [Act.put]); (try simp only [List.setIfInBounds_toArray]); (try simp only [List.set_cons_succ]); (try simp only [List.set_cons_zero])
        refine WpH.takeND hNew 4 (some 55) (v := ?_) rfl rfl (by kernel_rfl) rfl rfl (fun _ _ _ h => h) (.val rfl (fun wz hwz => ?_)) ?_
        rotate_left
        · go_simp; try (with_reducible rfl)
        (simp only [Act.put]); (try simp only [List.setIfInBounds_toArray]); (try simp only [List.set_cons_succ]); (try simp only [List.set_cons_zero])
        refine WpH.takeND hNew 5 (some 56) (v := ?_) rfl rfl (by kernel_rfl) rfl rfl (fun _ _ _ h => h) (.val rfl (fun wz hwz => ?_)) ?_
        rotate_left
        · (obtain ⟨hcz, hfz⟩ := bcell hwz; go_simp; try (with_reducible rfl))
        (simp only [Act.put]); (try simp only [List.setIfInBounds_toArray]); (try simp only [List.set_cons_succ]); (try simp only [List.set_cons_zero])
        refine WpH.takeND hNew 6 (some 57) (v := ?_) rfl rfl (by kernel_rfl) rfl rfl (fun _ _ _ h => h) (.val rfl (fun wz hwz => ?_)) ?_
        rotate_left
        · go_simp; try (with_reducible rfl)
        (simp only [Act.put]); (try simp only [List.setIfInBounds_toArray]); (try simp only [List.set_cons_succ]); (try simp only [List.set_cons_zero])
        refine WpH.takeND hNew 7 (some 58) (v := ?_) rfl rfl (by kernel_rfl) rfl rfl (fun _ _ _ h => h) (.val rfl (fun wz hwz => ?_)) ?_
        rotate_left
        · go_simp; try (with_reducible rfl)
        (simp only [Act.put]); (try simp only [List.setIfInBounds_toArray]); (try simp only [List.set_cons_succ]); (try simp only [List.set_cons_zero])
        refine WpH.takeND hNew 8 (some 59) (v := ?_) rfl rfl (by kernel_rfl) rfl rfl (fun _ _ _ h => h) (.val rfl (fun wz hwz => ?_)) ?_
        rotate_left
        · (obtain ⟨hcz, hfz⟩ := bcell hwz; go_simp; try (with_reducible rfl))
        (simp only [Act.put]); (try simp only [List.setIfInBounds_toArray]); (try simp only [List.set_cons_succ]); (try simp only [List.set_cons_zero])
        refine WpH.takeND hNew 9 (some 60) rfl rfl (by kernel_rfl) rfl rfl (fun _ _ _ h => h) (.call rfl (fun wz hwz => HA2.out wz (hos.later hwz)) (fun wz hwz => ?_)) ?_
        · go_simp; try (with_reducible rfl)
        (simp only [Act.put]); (try simp only [List.setIfInBounds_toArray]); (try simp only [List.set_cons_succ]); (try simp only [List.set_cons_zero])
        refine WpH.takeND hNew 10 (some 61) rfl rfl (by kernel_rfl) rfl rfl (fun _ _ _ h => h) (.call rfl (fun wz hwz => HSU.out t o wz) (fun wz hwz => ?_)) ?_
        · go_simp; try (with_reducible rfl)
        (simp only [Act.put]); (try simp only [List.setIfInBounds_toArray]); (try simp only [List.set_cons_succ]); (try simp only [List.set_cons_zero])
        refine WpH.takeND hNew 11 (some 62) (v := ?_) rfl rfl (by kernel_rfl) rfl rfl (fun _ _ _ h => h) (.val rfl (fun wz hwz => ?_)) ?_
        rotate_left
        · (obtain ⟨hcz, hfz⟩ := bcell hwz; go_simp; try (with_reducible rfl))
        (simp only [Act.put]); (try simp only [List.setIfInBounds_toArray]); (try simp only [List.set_cons_succ]); (try simp only [List.set_cons_zero])
        refine WpH.takeND hNew 12 (some 63) rfl rfl (by kernel_rfl) rfl rfl (fun _ _ _ h => h) (.call rfl (fun wz hwz => HMU.out (t - o) k wz) (fun wz hwz => ?_)) ?_
        · go_simp; try (with_reducible rfl)
        (simp only [Act.put]); (try simp only [List.setIfInBounds_toArray]); (try simp only [List.set_cons_succ]); (try simp only [List.set_cons_zero])
        refine WpH.one (i := 13) (by kernel_rfl) (fun w2 hw2 => ?_)
        refine wpOp_valueD (some 14) rfl rfl rfl (by go_simp; first | rfl | exact ⟨rfl, rfl⟩) ⟨⟨hw2.1.trans (((Below.refl _ _).alloc (Nat.le_refl _) _).mono hw2.1.size), fun _ => ⟨_, rfl, (by have hsz2 := hw2.1.size; (try simp only [World.size_alloc] at hsz2); omega), V2.new _ _ _ _⟩⟩, ?_⟩
        (simp only [Act.put]); (try simp only [List.setIfInBounds_toArray]); (try simp only [List.set_cons_succ]); (try simp only [List.set_cons_zero])
        refine WpH.done (by kernel_rfl) (fun w7 hw7n => ?_)
        obtain ⟨hw7, hnw7⟩ := hw7n
        obtain ⟨av, hbew7, hBav, hVav⟩ := hnw7 rfl
        simp at hbew7
        rw [hbew7]
        clear hNew hnw7 hw2 hbew7 w2
        (try simp only [List.drop_succ_cons]); (try simp only [List.drop_zero]); (try simp only [Nat.reduceSub]); (try simp only [List.take_succ_cons]); (try simp only [List.take_zero])
        clear pv0 pv1 pv2 pv3 pv4 uv0 uv1 uv2 uv3 uv4
        clear d0 d1 l1 l3 uv
        have HNX : Hid (ThrIn x y (i + 1) (padd out (pscale ((t - o) * k) base)) (pmul base [-p, 1])) := by
          show ThrIn _ _ _ _ _
          rw [← hk]
          exact hI.out.2.2.next HP.out HV.out hv0 HO.out HTY.out
        obtain ⟨c, hc⟩ : ∃ c, (t - o) * k = c := ⟨_, rfl⟩
        rw [hc] at HNX ⊢
        clear hc hk hv0 hI HP HV HO HTY HPX HTX HR2 HA1 HA2
        replace pv := pv.call hw7
        obtain ⟨Vav0, Vav1, Vav2, Vav3, Vav4⟩ := V2.mk hVav.c0 hVav.c1 hVav.f0 hVav.f1 hVav.lt
        go_upto_region 16 with fail
        clear Vav0 Vav1 Vav2 Vav3 Vav4
        have hpa : pb ≠ av := by omega
        replace hw7 := bl_st hw7 (b := av) (by omega) (.int .u64 (lo c)) (.int .u64 (hi c))
        replace pv := V2.oth pv (b := av) (by omega) (.int .u64 (lo c)) (.int .u64 (hi c))
        replace hVav := V2.set hVav (.int .u64 (lo c)) (.int .u64 (hi c))
        generalize (w7.setCell ⟨av, 0, none⟩ (.int .u64 (lo c))).setCell ⟨av, 1, none⟩ (.int .u64 (hi c)) = w8 at hVav hw7 pv ⊢
        replace hos := hos.later hw7
        replace hbs := hbs.later hw7
        replace hb00 := bl_call hb00 (Nat.le_refl _) hw7
        clear hw7 HIN HSU HMU HAT
        obtain ⟨Vav0, Vav1, Vav2, Vav3, Vav4⟩ := V2.mk hVav.c0 hVav.c1 hVav.f0 hVav.f1 hVav.lt
        go_wp2_with fail
        refine (HSC.out _ base c _ hbs (by rw [HBL.out]; omega)).mono ?_
        rintro e w9 ⟨v9, rfl, ho9, hb9⟩
        clear Vav0 Vav1 Vav2 Vav3 Vav4
        replace hb00 := bl_call hb00 (Nat.le_refl _) hb9
        replace hos := hos.later hb9
        replace hbs := hbs.later hb9
        replace pv := pv.call hb9
        clear hb9 hVav
        obtain ⟨A9, c9, rfl⟩ := own_shape ho9
        have hss := own_sl rfl ho9
        clear ho9
        go_wp2_with fail
        refine (HAD.out _ _ out (pscale c base) _ hos hss (by rw [HOL.out]; omega) (by have := pscale_le c base; have := HBL.out; omega)).mono ?_
        rintro e w10 ⟨v10, rfl, ho10, hb10⟩
        obtain ⟨A10, c10, rfl⟩ := own_shape ho10
        have hns := own_sl rfl ho10
        replace hb00 := bl_call hb00 (Nat.le_refl _) hb10
        replace hbs := hbs.later hb10
        replace pv := pv.call hb10
        clear hb10 ho10 hss hos
        obtain ⟨pv0, pv1, pv2, pv3, pv4⟩ := V2.mk pv.c0 pv.c1 pv.f0 pv.f1 pv.lt
        go_wp2_with fail
        refine (HNE.out p _).mono ?_
        rintro e w11 ⟨rfl, hb11⟩
        clear pv0 pv1 pv2 pv3 pv4
        replace hb00 := bl_call hb00 (Nat.le_refl _) hb11
        replace hbs := hbs.later hb11
        replace hns := hns.later hb11
        clear hb11 pv
        go_wp2_with fail
        refine (HON.out _).mono ?_
        rintro e w12 ⟨rfl, hb12⟩
        replace hb00 := bl_call hb00 (Nat.le_refl _) hb12
        replace hbs := hbs.later hb12
        replace hns := hns.later hb12
        clear hb12
        have hpr := SlK.pair (f := f) w12 (-p) 1
        have hbA : Below w12.heap.size w12 (w12.alloc (.cells #[.int .u64 (lo (-p)), .int .u64 (hi (-p)), .int .u64 (lo (1 : Fin (Pm f))), .int .u64 (hi (1 : Fin (Pm f)))] 28)) := (Below.refl _ _).alloc (Nat.le_refl _) _
        have hbs2 := hbs.later hbA
        have hns2 := hns.later hbA
        have hb13 := bl_call hb00 (Nat.le_refl _) hbA
        have HMM := Lib.hid (HML.out _ _ base [-p, 1] _ (HT.out.call hb13) hbs2 hpr (by rw [HBL.out]; omega) (by simp) (by have h1 := trim_le base; have h2 := trim_le [-p, 1]; have := HBL.out; simp only [List.length_cons, List.length_nil] at h2; omega))
        clear hbs hns hb00 hpr hbs2 hbA
        go_wp2_with fail
        refine HMM.out.mono ?_
        rintro e w14 ⟨vm, rfl, hom, hb14⟩
        obtain ⟨AM, cM, rfl⟩ := own_shape hom
        have hms := own_sl rfl hom
        replace hb13 := bl_call hb13 (Nat.le_refl _) hb14
        replace hns2 := hns2.later hb14
        clear hb14 hom HMM
        go_wp2_with fail
        go_roundw
        case rel => exact ⟨i + 1, padd out (pscale c base), pmul base [-p, 1], _, _, A10, AM, c10, cM, by omega, by go_num, rfl, rfl, ⟨rfl, rfl, HNX.out⟩, hns2, hms, hb13⟩
        case measure => simp [intOf]; omega
    · obtain hie : i = n := by omega
      subst hie
      have HOL : Hid (out.length = lo9) := hI.out.1
      have HRS := Lib.hid hI.out.2.2
      clear hI hbs
      go_wp2_with fail
      go_ret2
      obtain ⟨r1, r2, r3, r4, r5, r6⟩ := HRS.out
      exact .inr ⟨out, (D, cp), fun j k h1 h2 => r6 j k h1 (by rw [← HXL.out]; exact h2), r1, by rw [HXL.out]; exact r2, fun j hj => r4 j (by rw [← HXL.out]; exact hj), by rw [HOL.out]; rfl, by rw [HOL.out]; exact hos, hb00⟩
end

end Go.Proofs.YtfhmineolncefaaDoor

namespace Go.Proofs.YtfhmineolncefaaDoor
open Go.RowKit Fm
set_option linter.unusedVariables false
set_option maxRecDepth 100000

section
variable {f : Nat} (hf : IsF f)
include hf
theorem poly_Through_size (A B : Option Addr) (n m c d : Nat) (w : World) (h : ¬ (n = m)) :
    Calls Tryd.prog 42 #[.int .u8 f, .slice A n c, .slice B m d] w (RetNil 9 w) := by
  have HVA := Lib.hid (fun wz => field_ValidT hf wz)
  have t1 : ((n : Int) == (m : Int)) = false := by rw [beq_eq_false_iff_ne]; omega
  have t2 : ((n : Int) != (m : Int)) = true := by rw [bne_iff_ne]; omega
  go_enter Tryd.func42, Tryd.ntmps42
  go_wp2_with fail
  refine (HVA.out _).mono ?_
  rintro e w' ⟨rfl, rfl⟩
  go_wp2_with fail
  go_ret2
  exact ⟨rfl, Below.refl _ _⟩
end

set_option maxHeartbeats 16000000 in
theorem walk_PolyThrough (n : Int) (va vb : Value) (la lb : List E) (w : World) (hT : TabW w) (hn : 0 ≤ n ∧ n ≤ 255) (hla : SlE w w.heap.size va la) (hlb : SlE w w.heap.size vb lb) :
    Calls Tryd.prog 9 #[.int .u8 n, va, vb] w fun e w' => e = .returned (.bool true) ∧ Below w.heap.size w w' := by
  obtain ⟨f, hf, hF⟩ := law03_FN n hn.1 hn.2
  have HF := Lib.hid hF
  have heq := eql_elem
  have hneq := neq_elem
  have HAW := Lib.hid (fun wz h => law05_Awake wz h)
  have hfb0 : (1 : Int) ≤ (f : Int) := by rcases hf.or with rfl | rfl <;> omega
  have hfb1 : (f : Int) ≤ 2 := by rcases hf.or with rfl | rfl <;> omega
  have hwF : IntKind.i64.wrap (f : Int) = (f : Int) := IntWalk.i64_in _ (by omega)
  have HSM := Lib.hid (fun v l wz hs => law05_some hf v l 8 wz hs (by omega))
  have HEQ := Lib.hid (vK_eq (f := f))
  have HRA := Lib.hid (fun v (p : KL f) a wz h1 h2 => ref_At hf v p a wz h1 h2)
  have HA := Lib.hid hla
  have HB := Lib.hid hlb
  have HTB := Lib.hid hT
  obtain ⟨⟨A1, c1, rfl, _, _, _⟩, _⟩ := hla
  obtain ⟨⟨A2, c2, rfl, _, _, _⟩, _⟩ := hlb
  have hb00 : Below w.heap.size w w := Below.refl _ _
  go_enter Tryd.func9, Tryd.ntmps9
  go_wp2_with fail
  refine (HAW.out _ hT).mono ?_
  rintro e w2 ⟨rfl, hb2⟩
  replace hb00 := bl_call hb00 (Nat.le_refl _) hb2
  clear hb2 hT HAW
  go_upto_region 4 with (first
    | (go_at_call 16; refine (HF.out _).mono ?_; rintro e wq ⟨rfl, rfl⟩))
  go_wp2_with fail
  refine (HSM.out _ la _ ((HA.out.below hb00).mono hb00.size)).mono ?_
  rintro e w3 ⟨p, hpl, vp, rfl, hop, hb3⟩
  obtain ⟨AP, cP, rfl⟩ := own_shape hop
  have hp := own_sl rfl hop
  clear hop
  replace hb00 := bl_call hb00 (Nat.le_refl _) hb3
  clear hb3
  go_wp2_with fail
  refine (HSM.out _ lb _ ((HB.out.below hb00).mono hb00.size)).mono ?_
  rintro e w4 ⟨q, hql, vq, rfl, hoq, hb4⟩
  obtain ⟨AQ, cQ, rfl⟩ := own_shape hoq
  have hq := own_sl rfl hoq
  clear hoq
  replace hb00 := bl_call hb00 (Nat.le_refl _) hb4
  replace hp := hp.later hb4
  clear hb4 HSM HA HB HF
  obtain ⟨np, hnp⟩ : ∃ z, p.length = z := ⟨_, rfl⟩
  obtain ⟨nq, hnq⟩ : ∃ z, q.length = z := ⟨_, rfl⟩
  by_cases hpq : np = nq
  · have hTR := poly_Through hf _ _ p q w4 (HTB.out.call hb00) hp hq (by omega) (by omega)
    subst hpq
    rw [hnp, hnq] at hTR
    have HTR := Lib.hid hTR
    have HNP := Lib.hid hnp
    have HNQ := Lib.hid hnq
    rw [hnp] at hpl hp ⊢
    rw [hnq] at hql hq ⊢
    have HP := Lib.hid hp
    have HQ := Lib.hid hq
    have hcp : np ≤ cP ∧ cP ≤ 9223372036854775807 := by
      obtain ⟨A', c', e, h1, h2, _⟩ := hp
      injection e with _ e2 e3
      omega
    obtain ⟨hcp1, hcp2⟩ := hcp
    clear hTR hnp hnq hp hq
    have hb4 : Below w4.heap.size w4 w4 := Below.refl _ _
    go_wp2_with fail
    refine HTR.out.mono ?_
    rintro e w5 (⟨hER, rfl, hbo⟩ | ⟨P, ⟨PA, Pc⟩, hND, hPT, hPL, hPV, rfl, hPs, hbo⟩)
    · rw [HNP.out] at hER
      have HER := Lib.hid hER
      replace HP := Lib.hid (HP.out.later hbo)
      replace hb00 := bl_call hb00 (Nat.le_refl _) hbo
      replace hbo : Below w5.heap.size w5 w5 := Below.refl _ _
      clear hER hb4 HTR
      go_wp2_with fail
      go_loopw [47] (fun iv wr => ∃ i : Nat, i ≤ np ∧ iv = .int .i64 i ∧ Hid (∀ j k, j < k → k < i → p.getD k 0 ≠ p.getD j 0) ∧ Below w5.heap.size w5 wr) (fun iv _ => np - (intOf iv).toNat)
      case atStart => exact ⟨0, Nat.zero_le _, rfl, fun j k _ h => absurd h (Nat.not_lt_zero _), hbo⟩
      case round =>
        clear hbo
        obtain ⟨i, hi9, rfl, hI, hbo⟩ := hrel
        by_cases hin : i < np
        · obtain ⟨x, hx⟩ : ∃ z, p[i]? = some z := ⟨_, List.getElem?_eq_getElem (by rw [HNP.out]; exact hin)⟩
          have HX : Hid (p.getD i 0 = x) := by show _ = _; rw [List.getD_eq_getElem?_getD, hx]; rfl
          obtain ⟨b1, o1, hAe, hbw1, hrow1⟩ := HP.out.rowOf (by rw [HNP.out]; omega)
          obtain ⟨d0, d1⟩ := (hrow1.below hbo hbw1).kat hx
          have g1 : (0 : Int) ≤ (i : Int) := by omega
          have g2 : (i : Int) < (np : Int) := by omega
          have HR1 := Lib.hid hrow1
          have HAE := Lib.hid hAe
          rw [hAe]
          clear hx hrow1 hAe
          go_upto_region 11 with fail
          have xv := V2.new wr (.int .u64 (lo x)) (.int .u64 (hi x)) 28
          have hbA : Below wr.heap.size wr (wr.alloc (.cells #[.int .u64 (lo x), .int .u64 (hi x)] 28)) := by repeat (first | exact Below.refl _ _ | with_reducible assumption | (refine bl_alloc ?_ (Nat.le_refl _) _))
          replace hbo := bl_call hbo (Nat.le_refl _) hbA
          clear hbA
          generalize wr.alloc (.cells #[.int .u64 (lo x), .int .u64 (hi x)] 28) = w7 at hbo xv ⊢
          obtain ⟨xb, hxb⟩ : ∃ z, wr.heap.size = z := ⟨_, rfl⟩
          rw [hxb] at xv
          simp only [hxb]
          clear hxb d0 d1
          have hic : i ≤ cP := by omega
          go_wp2_with fail
          go_loopw [56] (fun kv wr => ∃ k : Nat, k ≤ i ∧ kv = .int .i64 k ∧ Hid (∀ j, j < k → x ≠ p.getD j 0) ∧ V2 wr xb (.int .u64 (lo x)) (.int .u64 (hi x)) ∧ Below w5.heap.size w5 wr) (fun kv _ => i - (intOf kv).toNat)
          case atStart => exact ⟨0, Nat.zero_le _, rfl, fun j h => absurd h (Nat.not_lt_zero _), xv, hbo⟩
          case round =>
            clear xv hbo
            obtain ⟨k, hk9, rfl, hK, xv, hbo⟩ := hrel
            by_cases hki : k < i
            · obtain ⟨y, hy⟩ : ∃ z, p[k]? = some z := ⟨_, List.getElem?_eq_getElem (by rw [HNP.out]; omega)⟩
              have HY : Hid (p.getD k 0 = y) := by show _ = _; rw [List.getD_eq_getElem?_getD, hy]; rfl
              obtain ⟨d0, d1⟩ := (HR1.out.below hbo hbw1).kat hy
              have g3 : (0 : Int) ≤ (k : Int) := by omega
              have g4 : (k : Int) < (i : Int) := by omega
              clear hy
              go_upto_region 14 with fail
              have yv := V2.new wr (.int .u64 (lo y)) (.int .u64 (hi y)) 28
              have hbA : Below wr.heap.size wr (wr.alloc (.cells #[.int .u64 (lo y), .int .u64 (hi y)] 28)) := by repeat (first | exact Below.refl _ _ | with_reducible assumption | (refine bl_alloc ?_ (Nat.le_refl _) _))
              replace hbo := bl_call hbo (Nat.le_refl _) hbA
              replace xv := xv.call hbA
              clear hbA
              generalize wr.alloc (.cells #[.int .u64 (lo y), .int .u64 (hi y)] 28) = w8 at hbo xv yv ⊢
              have hbx := HEQ.out x y
              clear d0 d1
              by_cases hxy : x = y
              · rw [decide_eq_true hxy] at hbx
                have HDUP : Hid (∃ j k, j < k ∧ k < np ∧ p.getD k 0 = p.getD j 0) := ⟨k, i, hki, hin, by rw [HX.out, HY.out, hxy]⟩
                obtain ⟨xv0, xv1, xv2, xv3, xv4⟩ := V2.mk xv.c0 xv.c1 xv.f0 xv.f1 xv.lt
                obtain ⟨yv0, yv1, yv2, yv3, yv4⟩ := V2.mk yv.c0 yv.c1 yv.f0 yv.f1 yv.lt
                go_wp2_with fail
                clear xv0 xv1 xv2 xv3 xv4 yv0 yv1 yv2 yv3 yv4
                go_ret
                exact ⟨rfl, bl_call hb00 (Nat.le_refl _) hbo⟩
              · rw [decide_eq_false hxy] at hbx
                have HNK : Hid (∀ j, j < k + 1 → x ≠ p.getD j 0) := fun j hj => by
                  by_cases hjk : j = k
                  · rw [hjk, HY.out]
                    exact hxy
                  · exact hK.out j (by omega)
                obtain ⟨xv0, xv1, xv2, xv3, xv4⟩ := V2.mk xv.c0 xv.c1 xv.f0 xv.f1 xv.lt
                obtain ⟨yv0, yv1, yv2, yv3, yv4⟩ := V2.mk yv.c0 yv.c1 yv.f0 yv.f1 yv.lt
                go_wp2_with fail
                clear xv0 xv1 xv2 xv3 xv4 yv0 yv1 yv2 yv3 yv4
                go_roundw
                case rel => exact ⟨k + 1, by omega, by go_num, HNK.out, xv, hbo⟩
                case measure => simp [intOf]; omega
            · obtain hke : k = i := by omega
              subst hke
              have HNI : Hid (∀ j m, j < m → m < k + 1 → p.getD m 0 ≠ p.getD j 0) := fun j m h1 h2 => by
                by_cases hmk : m = k
                · rw [hmk, HX.out]
                  exact hK.out j (by omega)
                · exact hI.out j m h1 (by omega)
              clear xv
              go_wp2_with fail
              go_roundw
              case rel => exact ⟨k + 1, by omega, by go_num, HNI.out, hbo⟩
              case measure => simp [intOf]; omega
        · obtain hie : i = np := by omega
          subst hie
          obtain ⟨j, k, h1, h2, h3⟩ := HER.out
          exact absurd h3 (hI.out j k h1 h2)
    · rw [HNP.out] at hND hPL hPV
      have HND := Lib.hid hND
      have HPT := Lib.hid hPT
      have HPV := Lib.hid hPV
      dsimp only at hPs ⊢
      obtain ⟨lP, hlP⟩ : ∃ z, P.length = z := ⟨_, rfl⟩
      have HLP := Lib.hid hlP
      rw [hlP] at hPL hPs ⊢
      have HPS := Lib.hid hPs
      replace HP := Lib.hid (HP.out.later hbo)
      replace HQ := Lib.hid (HQ.out.later hbo)
      replace hb00 := bl_call hb00 (Nat.le_refl _) hbo
      replace hbo : Below w5.heap.size w5 w5 := Below.refl _ _
      clear hND hb4 HTR hPT hPV hlP hPs
      go_wp2_with fail
      go_loopw [47] (fun iv wr => ∃ i : Nat, i ≤ np ∧ iv = .int .i64 i ∧ Hid (∀ j k, j < k → k < i → p.getD k 0 ≠ p.getD j 0) ∧ Below w5.heap.size w5 wr) (fun iv _ => np - (intOf iv).toNat)
      case atStart => exact ⟨0, Nat.zero_le _, rfl, fun j k _ h => absurd h (Nat.not_lt_zero _), hbo⟩
      case round =>
        clear hbo
        obtain ⟨i, hi9, rfl, hI, hbo⟩ := hrel
        by_cases hin : i < np
        · obtain ⟨x, hx⟩ : ∃ z, p[i]? = some z := ⟨_, List.getElem?_eq_getElem (by rw [HNP.out]; exact hin)⟩
          have HX : Hid (p.getD i 0 = x) := by show _ = _; rw [List.getD_eq_getElem?_getD, hx]; rfl
          obtain ⟨b1, o1, hAe, hbw1, hrow1⟩ := HP.out.rowOf (by rw [HNP.out]; omega)
          obtain ⟨d0, d1⟩ := (hrow1.below hbo hbw1).kat hx
          have g1 : (0 : Int) ≤ (i : Int) := by omega
          have g2 : (i : Int) < (np : Int) := by omega
          have HR1 := Lib.hid hrow1
          have HAE := Lib.hid hAe
          rw [hAe]
          clear hx hrow1 hAe
          go_upto_region 11 with fail
          have xv := V2.new wr (.int .u64 (lo x)) (.int .u64 (hi x)) 28
          have hbA : Below wr.heap.size wr (wr.alloc (.cells #[.int .u64 (lo x), .int .u64 (hi x)] 28)) := by repeat (first | exact Below.refl _ _ | with_reducible assumption | (refine bl_alloc ?_ (Nat.le_refl _) _))
          replace hbo := bl_call hbo (Nat.le_refl _) hbA
          clear hbA
          generalize wr.alloc (.cells #[.int .u64 (lo x), .int .u64 (hi x)] 28) = w7 at hbo xv ⊢
          obtain ⟨xb, hxb⟩ : ∃ z, wr.heap.size = z := ⟨_, rfl⟩
          rw [hxb] at xv
          simp only [hxb]
          clear hxb d0 d1
          have hic : i ≤ cP := by omega
          go_wp2_with fail
          go_loopw [56] (fun kv wr => ∃ k : Nat, k ≤ i ∧ kv = .int .i64 k ∧ Hid (∀ j, j < k → x ≠ p.getD j 0) ∧ V2 wr xb (.int .u64 (lo x)) (.int .u64 (hi x)) ∧ Below w5.heap.size w5 wr) (fun kv _ => i - (intOf kv).toNat)
          case atStart => exact ⟨0, Nat.zero_le _, rfl, fun j h => absurd h (Nat.not_lt_zero _), xv, hbo⟩
          case round =>
            clear xv hbo
            obtain ⟨k, hk9, rfl, hK, xv, hbo⟩ := hrel
            by_cases hki : k < i
            · obtain ⟨y, hy⟩ : ∃ z, p[k]? = some z := ⟨_, List.getElem?_eq_getElem (by rw [HNP.out]; omega)⟩
              have HY : Hid (p.getD k 0 = y) := by show _ = _; rw [List.getD_eq_getElem?_getD, hy]; rfl
              obtain ⟨d0, d1⟩ := (HR1.out.below hbo hbw1).kat hy
              have g3 : (0 : Int) ≤ (k : Int) := by omega
              have g4 : (k : Int) < (i : Int) := by omega
              clear hy
              go_upto_region 14 with fail
              have yv := V2.new wr (.int .u64 (lo y)) (.int .u64 (hi y)) 28
              have hbA : Below wr.heap.size wr (wr.alloc (.cells #[.int .u64 (lo y), .int .u64 (hi y)] 28)) := by repeat (first | exact Below.refl _ _ | with_reducible assumption | (refine bl_alloc ?_ (Nat.le_refl _) _))
              replace hbo := bl_call hbo (Nat.le_refl _) hbA
              replace xv := xv.call hbA
              clear hbA
              generalize wr.alloc (.cells #[.int .u64 (lo y), .int .u64 (hi y)] 28) = w8 at hbo xv yv ⊢
              have hbx := HEQ.out x y
              clear d0 d1
              by_cases hxy : x = y
              · rw [decide_eq_true hxy] at hbx
                have HDUP : Hid (∃ j k, j < k ∧ k < np ∧ p.getD k 0 = p.getD j 0) := ⟨k, i, hki, hin, by rw [HX.out, HY.out, hxy]⟩
                obtain ⟨j, k, h1, h2, h3⟩ := HDUP.out
                exact absurd h3 (HND.out j k h1 h2)
              · rw [decide_eq_false hxy] at hbx
                have HNK : Hid (∀ j, j < k + 1 → x ≠ p.getD j 0) := fun j hj => by
                  by_cases hjk : j = k
                  · rw [hjk, HY.out]
                    exact hxy
                  · exact hK.out j (by omega)
                obtain ⟨xv0, xv1, xv2, xv3, xv4⟩ := V2.mk xv.c0 xv.c1 xv.f0 xv.f1 xv.lt
                obtain ⟨yv0, yv1, yv2, yv3, yv4⟩ := V2.mk yv.c0 yv.c1 yv.f0 yv.f1 yv.lt
                go_wp2_with fail
                clear xv0 xv1 xv2 xv3 xv4 yv0 yv1 yv2 yv3 yv4
                go_roundw
                case rel => exact ⟨k + 1, by omega, by go_num, HNK.out, xv, hbo⟩
                case measure => simp [intOf]; omega
            · obtain hke : k = i := by omega
              subst hke
              have HNI : Hid (∀ j m, j < m → m < k + 1 → p.getD m 0 ≠ p.getD j 0) := fun j m h1 h2 => by
                by_cases hmk : m = k
                · rw [hmk, HX.out]
                  exact hK.out j (by omega)
                · exact hI.out j m h1 (by omega)
              clear xv
              go_wp2_with fail
              go_roundw
              case rel => exact ⟨k + 1, by omega, by go_num, HNI.out, hbo⟩
              case measure => simp [intOf]; omega
        · obtain hie : i = np := by omega
          subst hie
          have hps := HPS.out.later hbo
          have HTP : Hid (Calls Tryd.prog 34 #[.slice PA lP Pc] wr fun e w' => e = .returned (.slice PA lP Pc) ∧ wr = w') := by
            have h2 := ref_Trim PA Pc P wr (by rw [HLP.out]; exact hps) (by rw [HLP.out]; omega)
            rw [HPT.out, HLP.out] at h2
            exact h2
          have hnl : ¬ (i < lP) := by omega
          clear hps
          go_wp2_with fail
          refine HTP.out.mono ?_
          rintro e w' ⟨rfl, rfl⟩
          clear HTP
          go_wp2_with fail
          go_loopw [91] (fun jv wr => ∃ j : Nat, j ≤ i ∧ jv = .int .i64 j ∧ Below w5.heap.size w5 wr) (fun jv _ => i - (intOf jv).toNat)
          case atStart => exact ⟨0, Nat.zero_le _, rfl, hbo⟩
          case round =>
            clear hbo
            obtain ⟨j, hj9, rfl, hbo⟩ := hrel
            by_cases hji : j < i
            · obtain ⟨x, hx⟩ : ∃ z, p[j]? = some z := ⟨_, List.getElem?_eq_getElem (by rw [HNP.out]; exact hji)⟩
              obtain ⟨t, ht⟩ : ∃ z, q[j]? = some z := ⟨_, List.getElem?_eq_getElem (by rw [HNQ.out]; exact hji)⟩
              have HV : Hid (ev x P = t) := by
                have h := HPV.out j hji
                rw [List.getD_eq_getElem?_getD, hx, List.getD_eq_getElem?_getD, ht] at h
                exact h
              obtain ⟨b1, o1, hAe, hbw1, hrow1⟩ := HP.out.rowOf (by rw [HNP.out]; omega)
              obtain ⟨b2, o2, hBe, hbw2, hrow2⟩ := HQ.out.rowOf (by rw [HNQ.out]; omega)
              obtain ⟨d0, d1⟩ := (hrow1.below hbo hbw1).kat hx
              obtain ⟨e0, e1⟩ := (hrow2.below hbo hbw2).kat ht
              have l1 : b1 < wr.heap.size := Nat.lt_of_lt_of_le hbw1 hbo.size
              have l2 : b2 < wr.heap.size := Nat.lt_of_lt_of_le hbw2 hbo.size
              have g1 : (0 : Int) ≤ (j : Int) := by omega
              have g2 : (j : Int) < (i : Int) := by omega
              have HR2 : Hid (∀ wz, Below wr.heap.size wr wz → Calls Tryd.prog 25 #[.int .i64 f, .slice PA lP Pc, vK x] wz (RetK t wz)) := fun wz hb => by
                have h := HRA.out _ P x wz (HPS.out.later (hbo.trans (hb.mono hbo.size))) (by rw [HLP.out]; omega)
                rwa [horner_ev, HV.out] at h
              have HAE := Lib.hid hAe
              have HBE := Lib.hid hBe
              rw [hAe, hBe]
              clear hx ht hrow1 hrow2 hAe hBe
              go_upto_region 23 with fail
              refine region_B (n := 12) (m := 12) (f := 12) (by kernel_rfl) (by kernel_rfl) rfl ?_
              refine WpH.takeD 0 (some 94) (v := ?_) rfl rfl (by kernel_rfl) (fun _ _ _ h => h) (.val rfl (fun wz hwz => ?_)) ?_
              rotate_left
              · go_simp; try (with_reducible rfl)
              (simp only [Act.put]); (try simp only [List.setIfInBounds_toArray]); (try simp only [List.set_cons_succ]); (try simp only [List.set_cons_zero])
              refine WpH.takeD 1 (some 95) (v := ?_) rfl rfl (by kernel_rfl) (fun _ _ _ h => h) (.val rfl (fun wz hwz => ?_)) ?_
              rotate_left
              · go_simp; try (with_reducible rfl)
              (simp only [Act.put]); (try simp only [List.setIfInBounds_toArray]); (try simp only [List.set_cons_succ]); (try simp only [List.set_cons_zero])
              refine WpH.takeD 2 (some 96) (v := ?_) rfl rfl (by kernel_rfl) (fun _ _ _ h => h) (.val rfl (fun wz hwz => ?_)) ?_
              rotate_left
              · go_simp; try (with_reducible rfl)
              (simp only [Act.put]); (try simp only [List.setIfInBounds_toArray]); (try simp only [List.set_cons_succ]); (try simp only [List.set_cons_zero])
              refine WpH.takeD 3 (some 97) (v := ?_) rfl rfl (by kernel_rfl) (fun _ _ _ h => h) (.val rfl (fun wz hwz => ?_)) ?_
              rotate_left
              · go_simp; try (with_reducible rfl)
              (simp only [Act.put]); (try simp only [List.setIfInBounds_toArray]); (try simp only [List.set_cons_succ]); (try simp only [List.set_cons_zero])
              refine WpH.takeD 4 (some 98) (v := ?_) rfl rfl (by kernel_rfl) (fun _ _ _ h => h) (.val rfl (fun wz hwz => ?_)) ?_
              rotate_left
              · go_simp; try (with_reducible rfl)
              (simp only [Act.put]); (try simp only [List.setIfInBounds_toArray]); (try simp only [List.set_cons_succ]); (try simp only [List.set_cons_zero])
              refine WpH.takeD 5 (some 99) (v := ?_) rfl rfl (by kernel_rfl) (fun _ _ _ h => h) (.val rfl (fun wz hwz => ?_)) ?_
              rotate_left
              · (obtain ⟨hcz, hfz⟩ := bcell hwz; go_simp; try (with_reducible rfl))
              (simp only [Act.put]); (try simp only [List.setIfInBounds_toArray]); (try simp only [List.set_cons_succ]); (try simp only [List.set_cons_zero])
              refine WpH.takeD 6 (some 100) rfl rfl (by kernel_rfl) (fun _ _ _ h => h) (.call rfl (fun wz hwz => HR2.out wz hwz) (fun wz hwz => ?_)) ?_
              · go_simp; try (with_reducible rfl)
              (simp only [Act.put]); (try simp only [List.setIfInBounds_toArray]); (try simp only [List.set_cons_succ]); (try simp only [List.set_cons_zero])
              refine WpH.takeD 7 (some 101) (v := ?_) rfl rfl (by kernel_rfl) (fun _ _ _ h => h) (.val rfl (fun wz hwz => ?_)) ?_
              rotate_left
              · go_simp; try (with_reducible rfl)
              (simp only [Act.put]); (try simp only [List.setIfInBounds_toArray]); (try simp only [List.set_cons_succ]); (try simp only [List.set_cons_zero])
              refine WpH.takeD 8 (some 102) (v := ?_) rfl rfl (by kernel_rfl) (fun _ _ _ h => h) (.val rfl (fun wz hwz => ?_)) ?_
              rotate_left
              · go_simp; try (with_reducible rfl)
              (simp only [Act.put]); (try simp only [List.setIfInBounds_toArray]); (try simp only [List.set_cons_succ]); (try simp only [List.set_cons_zero])
              refine WpH.takeD 9 (some 103) (v := ?_) rfl rfl (by kernel_rfl) (fun _ _ _ h => h) (.val rfl (fun wz hwz => ?_)) ?_
              rotate_left
              · go_simp; try (with_reducible rfl)
              (simp only [Act.put]); (try simp only [List.setIfInBounds_toArray]); (try simp only [List.set_cons_succ]); (try simp only [List.set_cons_zero])
              refine WpH.takeD 10 (some 104) (v := ?_) rfl rfl (by kernel_rfl) (fun _ _ _ h => h) (.val rfl (fun wz hwz => ?_)) ?_
              rotate_left
              · (obtain ⟨hcz, hfz⟩ := bcell hwz; go_simp; try (with_reducible rfl))
              (simp only [Act.put]); (try simp only [List.setIfInBounds_toArray]); (try simp only [List.set_cons_succ]); (try simp only [List.set_cons_zero])
              refine WpH.takeD 11 (some 105) (v := ?_) rfl rfl (by kernel_rfl) (fun _ _ _ h => h) (.val rfl (fun wz hwz => ?_)) ?_
              rotate_left
              · go_simp; try (with_reducible rfl)
              (simp only [Act.put]); (try simp only [List.setIfInBounds_toArray]); (try simp only [List.set_cons_succ]); (try simp only [List.set_cons_zero])
              refine WpH.doneB (by kernel_rfl) (fun w9 hw9 => ?_)
              (try simp only [List.drop_succ_cons]); (try simp only [List.drop_zero]); (try simp only [Nat.reduceSub]); (try simp only [List.take_succ_cons]); (try simp only [List.take_zero])
              clear d0 d1 e0 e1 l1 l2
              replace hbo := hbo.trans (hw9.mono hbo.size)
              clear hw9 HR2
              go_wp2_with fail
              go_roundw
              case rel => exact ⟨j + 1, by omega, by go_num, hbo⟩
              case measure => simp [intOf]; omega
            · obtain hje : j = i := by omega
              subst hje
              go_wp2_with fail
              go_ret
              exact ⟨rfl, bl_call hb00 (Nat.le_refl _) hbo⟩
  · have HTS := Lib.hid (poly_Through_size hf AP AQ np nq cP cQ w4 hpq)
    have t1 : ((np : Int) == (nq : Int)) = false := by rw [beq_eq_false_iff_ne]; omega
    have t2 : ((np : Int) != (nq : Int)) = true := by rw [bne_iff_ne]; omega
    have hpq2 : ¬ (np = nq) := hpq
    rw [hnp, hnq]
    clear hnp hnq hp hq
    go_wp2_with fail
    refine HTS.out.mono ?_
    rintro e w5 ⟨rfl, hb5⟩
    replace hb00 := bl_call hb00 (Nat.le_refl _) hb5
    go_wp2_with fail
    go_ret
    exact ⟨rfl, hb00⟩

end Go.Proofs.YtfhmineolncefaaDoor
