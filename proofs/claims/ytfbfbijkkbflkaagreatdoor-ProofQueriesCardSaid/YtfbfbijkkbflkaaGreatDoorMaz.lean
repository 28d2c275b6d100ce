/-
 GPoly, PfQ2, RegZ, PfF, PfFW, PfD: what the statements of this layer share.
-/
import Derived.Test.YtfbfbijkkbflkaaGreatDoorMay
namespace Go.Proofs.YtfbfbijkkbflkaaGreatDoor
open Go.RowKit Fm
set_option linter.unusedVariables false
set_option maxRecDepth 100000

section
variable {f : Nat}
def RetSq0 (l : KL f) (w : World) (e : Ending) (w' : World) : Prop := ∃ q : Option Addr × Nat, e = .returned (.tuple #[.slice q.1 l.length q.2, .int .i64 0]) ∧ SlK w' w'.heap.size (.slice q.1 l.length q.2) l ∧ Below w.heap.size w w'
theorem RetOwn0.sq {l : KL f} {w w' : World} {e : Ending} (h : RetOwn0 l w e w') : RetSq0 l w e w' := by
 obtain ⟨v, rfl, ho, hb⟩ := h
 obtain ⟨A, c, rfl⟩ := own_shape ho
 exact ⟨(A, c), rfl, own_sl rfl ho, hb⟩
theorem SlK.sing (w : World) (a : Fin (Pm f)) : SlK (w.alloc (.cells #[.int .u64 (lo a), .int .u64 (hi a)] 36)) (w.alloc (.cells #[.int .u64 (lo a), .int .u64 (hi a)] 36)).heap.size (.slice (some ⟨w.heap.size, 0, none⟩) 1 1) [a] :=
 (RwK.new w [a] #[.int .u64 (lo a), .int .u64 (hi a)] rfl 36).sl (n := 1) (c := 1) rfl (by omega) (by omega)

variable (hf : IsF f)
include hf
set_option maxHeartbeats 8000000 in
theorem gadget_compose (n : Int) (sl : Value) (cs : KL f) (vp : Value) (p : KL f) (w : World) (hT : TabW w) (hs : SlK w w.heap.size sl cs) (hC : cs.length ≤ 4) (hp : SlK w w.heap.size vp p) (hpl : p.length ≤ 300) :
  Calls Tryz.prog 115 #[.agg #[.int .u8 2, sl, .int .i64 n], .int .u8 f, vp] w (RetSq0 (comp p cs) w) := by
 have HML := Lib.hid (fun va vb (a b : KL f) wz h0 h1 h2 h3 h4 h5 => (poly_Mul hf va vb a b wz h0 h1 h2 h3 h4 h5).mono fun _ _ h => h.sq)
 have HAD := Lib.hid (fun va vb (a b : KL f) wz h1 h2 h3 h4 => (poly_Add hf va vb a b wz h1 h2 h3 h4).mono fun _ _ h => h.sq)
 have HCL := Lib.hid (fun l => comp_le p l)
 have HL := Lib.hid hp
 have HT := Lib.hid hT
 obtain ⟨A, c, rfl, hc, hcm, hR⟩ := hs
 have HR := Lib.hid hR
 obtain ⟨A2, c2, rfl, hc2, hcm2, _⟩ := hp
 obtain ⟨mC, hmC⟩ : ∃ z, cs.length = z := ⟨_, rfl⟩
 have HMC := Lib.hid hmC
 obtain ⟨ml, hml⟩ : ∃ z, p.length = z := ⟨_, rfl⟩
 have HLM := Lib.hid hml
 rw [hmC] at hc hC ⊢
 rw [hml] at hc2 hpl HL ⊢
 have HDE : Hid (cs.drop mC = []) := List.drop_of_length_le (Nat.le_of_eq hmC)
 have HD0 : Hid (cs.drop 0 = cs) := rfl
 clear hmC hml hR hT
 go_enter Tryz.func115, Tryz.ntmps115
 go_upto_region 1 with fail
 have hx := Vs.new w [.int .u8 2, .slice A mC c, .int .i64 n] #[.int .u8 2, .slice A mC c, .int .i64 n] 54 rfl
 have hb00 : Below w.heap.size w (w.alloc (.cells #[.int .u8 2, .slice A mC c, .int .i64 n] 54)) := by repeat (first | exact bA | with_reducible assumption | apply bB)
 have hszn : w.heap.size + 1 ≤ (w.alloc (.cells #[.int .u8 2, .slice A mC c, .int .i64 n] 54)).heap.size := by simp only [World.size_alloc]; omega
 generalize (w.alloc (.cells #[.int .u8 2, .slice A mC c, .int .i64 n] 54)) = w1 at hx hb00 hszn ⊢
 obtain ⟨x0, x1, x2, x3, x4, x5, x6⟩ := hx.get3
 go_wp2_with fail
 clear x0 x1 x2 x3 x4 x5 x6
 go_loopw [8, 9] (fun ov iv wr => ∃ (j lo9 : Nat) (out : KL f) (D : Option Addr) (cp : Nat), j ≤ mC ∧ iv = .int .i64 ((j : Int) - 1) ∧ ov = .slice D lo9 cp ∧ Hid (out.length = lo9 ∧ out = comp p (cs.drop j)) ∧ SlK wr wr.heap.size (.slice D lo9 cp) out ∧ Vs wr w.heap.size [.int .u8 2, .slice A mC c, .int .i64 n] ∧ Below w.heap.size w wr) (fun _ iv _ => (intOf iv + 1).toNat)
 case atStart => exact ⟨mC, 0, [], none, 0, Nat.le_refl _, rfl, rfl, ⟨rfl, by rw [HDE.out]; rfl⟩, (SlE.nil _ _).toK (l := []), hx, hb00⟩
 case round =>
  clear hx hb00
  obtain ⟨j, lo9, out, D, cp, hjd, rfl, rfl, hI, hos, hx, hb00⟩ := hrel
  by_cases hj0 : j = 0
  ·subst hj0
   have HOU : Hid (out = comp p cs) := hI.out.2
   have HOL : Hid (out.length = lo9) := hI.out.1
   clear hI hx
   go_wp2_with fail
   go_ret2
   exact ⟨(D, cp), by rw [← HOU.out, HOL.out]; rfl, by rw [← HOU.out, HOL.out]; exact hos, hb00⟩
  ·obtain ⟨k, rfl⟩ : ∃ q, j = q + 1 := ⟨j - 1, by omega⟩
   have HOU : Hid (out = comp p (cs.drop (k + 1))) := hI.out.2
   have HOL : Hid (out.length = lo9) := hI.out.1
   have hl9 : lo9 ≤ 900 := by
    have h1 := HCL.out (cs.drop (k + 1))
    rw [← HOU.out, HOL.out, List.length_drop, HMC.out, HLM.out] at h1
    have h2 : (mC - (k + 1) - 1) * (ml - 1) ≤ 2 * (ml - 1) := Nat.mul_le_mul_right _ (by omega)
    omega
   have hl8 : lo9 ≤ 2 * (ml - 1) + 1 := by
    have h1 := HCL.out (cs.drop (k + 1))
    rw [← HOU.out, HOL.out, List.length_drop, HMC.out, HLM.out] at h1
    have h2 : (mC - (k + 1) - 1) * (ml - 1) ≤ 2 * (ml - 1) := Nat.mul_le_mul_right _ (by omega)
    omega
   clear hI
   have hkC : k < mC := by omega
   have g1 : (0 : Int) ≤ (k : Int) := by omega
   have g2 : (k : Int) < (mC : Int) := by omega
   obtain ⟨y, hy⟩ : ∃ y, cs[k]? = some y := ⟨_, List.getElem?_eq_getElem (by rw [HMC.out]; exact hkC)⟩
   have HDR : Hid (cs.drop k = y :: cs.drop (k + 1)) := by
    show _ = _
    obtain ⟨hlt, rfl⟩ := List.getElem?_eq_some_iff.1 hy
    exact List.drop_eq_getElem_cons hlt
   have HY := Lib.hid hy
   clear hy
   go_wp2_with fail
   refine (HML.out _ _ out p _ (HT.out.call hb00) hos (HL.out.later hb00) (by rw [HOL.out]; omega) (by rw [HLM.out]; omega) (by have h1 := trim_le out; have h2 := trim_le p; rw [HOL.out] at h1; rw [HLM.out] at h2; omega)).mono ?_
   rintro e w2 ⟨⟨AS, cS⟩, rfl, hss, hb2⟩
   dsimp only at hss ⊢
   obtain ⟨S, hS⟩ : ∃ S, pmul out p = S := ⟨_, rfl⟩
   have HSE : Hid (S = pmul (comp p (cs.drop (k + 1))) p) := by show _ = _; rw [← hS, HOU.out]
   rw [hS] at hss ⊢
   have hms3 : S.length ≤ 1300 := by
    have h1 := pmul_le out p
    rw [hS, HOL.out, HLM.out] at h1
    omega
   obtain ⟨ms, hms⟩ : ∃ z, S.length = z := ⟨_, rfl⟩
   rw [hms] at hss hms3 ⊢
   have HMS := Lib.hid hms
   clear hms hS
   replace hb00 := bl_call hb00 (Nat.le_refl _) hb2
   replace hx := hx.call hb2
   clear hb2 hos
   obtain ⟨b, o, hAe, hB, hrow⟩ := HR.out (by rw [HMC.out]; omega)
   have hrb := (hrow.below hb00 hB).kat HY.out
   obtain ⟨d0, d1⟩ := hrb
   have hbl : b < w2.heap.size := Nat.lt_of_lt_of_le hB hb00.size
   subst hAe
   clear hrow
   have hbA : Below w2.heap.size w2 (w2.alloc (.cells #[.int .u64 (lo y), .int .u64 (hi y)] 36)) := (Below.refl _ _).alloc (Nat.le_refl _) _
   have hpr := SlK.sing w2 y
   have hss2 := hss.later hbA
   have hx2 := hx.call hbA
   have hb02 := bl_call hb00 (Nat.le_refl _) hbA
   have HA9 := Lib.hid (HAD.out _ _ S [y] _ hss2 hpr (by rw [HMS.out]; omega) (by simp))
   obtain ⟨x0, x1, x2, x3, x4, x5, x6⟩ := hx.get3
   clear hbA hpr hss2
   go_wp2_with fail
   refine HA9.out.mono ?_
   rintro e w4 ⟨⟨A4, c4⟩, rfl, hs4, hb4⟩
   dsimp only at hs4 ⊢
   have HCO : Hid (padd S [y] = comp p (cs.drop k)) := by show _ = _; rw [HSE.out, HDR.out]; rfl
   rw [HCO.out] at hs4 ⊢
   clear x0 x1 x2 x3 x4 x5 x6
   clear d0 d1 hbl hx hb00 HA9
   replace hb02 := bl_call hb02 (Nat.le_refl _) hb4
   replace hx2 := hx2.call hb4
   clear hb4 hss
   go_wp2_with fail
   go_roundw
   case rel => exact ⟨k, _, comp p (cs.drop k), A4, c4, by omega, by go_num, rfl, ⟨rfl, rfl⟩, hs4, hx2, hb02⟩
   case measure => simp [intOf]

set_option maxHeartbeats 8000000 in
theorem gadget_Poly_pairs (w : World) (g : Gad f) (k : Int) (n : Int) (hg : RepG w w.heap.size k (.slice none 0 0) n g) (hk : (k == 2) = false) (hT : TabW w) (b o c : Nat) (vs : List Value) (ps : List (KL f)) (hrow : RowS w b o vs) (hb : b < w.heap.size) (hps : PsK w vs ps) (hM : ∀ i, (ps.getD i []).length ≤ 500)
  (q : Nat) (hq : ps.length = 2 * q) (ha : g.arity = 2 * q) (hq16 : q ≤ 16) (hv : gpoly g ps = ppsum ps q) :
  Calls Tryz.prog 85 #[.agg #[.int .u8 k, .slice none 0 0, .int .i64 n], .int .u8 f, .slice (some ⟨b, o, none⟩) (2 * q : Nat) c] w (RetSq0 (gpoly g ps) w) := by
 have HC := Lib.hid (fun wz (h : Below w.heap.size w wz) => gadget_Check hf wz g k _ n (hg.later h))
 have HAA : Hid (∀ wz, Below w.heap.size w wz → Calls Tryz.prog 28 #[.agg #[.int .u8 k, .slice none 0 0, .int .i64 n]] wz fun e w' => e = .returned (.int .i64 ((2 * q : Nat) : Int)) ∧ Below wz.heap.size wz w') := fun wz hb => by
  have h := gadget_Arity wz w.heap.size g k (.slice none 0 0) n (hg.below hb)
  rwa [ha] at h
 rw [hv]
 have HQ := Lib.hid hq
 have HML := Lib.hid (fun va vb (a b : KL f) wz h0 h1 h2 h3 h4 h5 => (poly_Mul hf va vb a b wz h0 h1 h2 h3 h4 h5).mono fun _ _ h => h.sq)
 have HAD := Lib.hid (fun va vb (a b : KL f) wz h1 h2 h3 h4 => (poly_Add hf va vb a b wz h1 h2 h3 h4).mono fun _ _ h => h.sq)
 have HPL := Lib.hid (fun k => ppsum_le hM k)
 have HM := Lib.hid hM
 have HRO := Lib.hid hrow
 have HPS := Lib.hid hps
 have HT := Lib.hid hT
 clear hq ha hv hg hM hrow hps hT
 go_enter Tryz.func85, Tryz.ntmps85
 go_upto_region 1 with fail
 have hx := Vs.new w [.int .u8 k, .slice none 0 0, .int .i64 n] #[.int .u8 k, .slice none 0 0, .int .i64 n] 54 rfl
 have hb00 : Below w.heap.size w (w.alloc (.cells #[.int .u8 k, .slice none 0 0, .int .i64 n] 54)) := by repeat (first | exact bA | with_reducible assumption | apply bB)
 have hszn : w.heap.size + 1 ≤ (w.alloc (.cells #[.int .u8 k, .slice none 0 0, .int .i64 n] 54)).heap.size := by simp only [World.size_alloc]; omega
 generalize (w.alloc (.cells #[.int .u8 k, .slice none 0 0, .int .i64 n] 54)) = w1 at hx hb00 hszn ⊢
 obtain ⟨x0, x1, x2, x3, x4, x5, x6⟩ := hx.get3
 go_wp2_with fail
 refine (HC.out _ hb00).mono ?_
 rintro e w2 ⟨rfl, hb2⟩
 clear x0 x1 x2 x3 x4 x5 x6
 replace hb00 := bl_call hb00 (Nat.le_refl _) hb2
 replace hx := hx.call hb2
 clear hb2
 obtain ⟨x0, x1, x2, x3, x4, x5, x6⟩ := hx.get3
 go_wp2_with fail
 refine (HAA.out _ hb00).mono ?_
 rintro e w3 ⟨rfl, hb3⟩
 clear x0 x1 x2 x3 x4 x5 x6
 replace hb00 := bl_call hb00 (Nat.le_refl _) hb3
 replace hx := hx.call hb3
 clear hb3
 obtain ⟨x0, x1, x2, x3, x4, x5, x6⟩ := hx.get3
 go_wp2_with fail
 clear x0 x1 x2 x3 x4 x5 x6
 clear hx HC HAA
 go_loopw [9, 10] (fun ov iv wr => ∃ (j lo9 : Nat) (D : Option Addr) (cp : Nat), j ≤ q ∧ iv = .int .i64 ((2 * j : Nat) : Int) ∧ ov = .slice D lo9 cp ∧ Hid ((ppsum ps j).length = lo9) ∧ SlK wr wr.heap.size (.slice D lo9 cp) (ppsum ps j) ∧ Below w.heap.size w wr) (fun _ iv _ => (2 * q + 1) - (intOf iv).toNat)
 case atStart => exact ⟨0, 0, none, 0, Nat.zero_le _, rfl, rfl, rfl, (SlE.nil _ _).toK (l := []), hb00⟩
 case round =>
  clear hb00
  obtain ⟨j, lo9, D, cp, hj, rfl, rfl, HL9, hos, hb00⟩ := hrel
  by_cases hlt : j < q
  ·obtain ⟨x, hx⟩ : ∃ e, ps[2 * j]? = some e := ⟨_, List.getElem?_eq_getElem (by have := HQ.out; omega)⟩
   obtain ⟨y, hy⟩ : ∃ e, ps[2 * j + 1]? = some e := ⟨_, List.getElem?_eq_getElem (by have := HQ.out; omega)⟩
   obtain ⟨vx, hvx, hsx⟩ := HPS.out.get hx
   obtain ⟨vy, hvy, hsy⟩ := HPS.out.get hy
   have hxl : x.length ≤ 500 := by have h := HM.out (2 * j); rwa [List.getD_eq_getElem?_getD, hx] at h
   have hyl : y.length ≤ 500 := by have h := HM.out (2 * j + 1); rwa [List.getD_eq_getElem?_getD, hy] at h
   have HST : Hid (ppsum ps (j + 1) = padd (ppsum ps j) (pmul x y)) := by
    show padd _ (pmul (ps.getD (2 * j) []) (ps.getD (2 * j + 1) [])) = _
    rw [List.getD_eq_getElem?_getD, List.getD_eq_getElem?_getD, hx, hy]
    rfl
   have hroww := HRO.out.below hb00 hb
   have d0 := hroww _ _ hvx
   have d1 := hroww _ _ hvy
   have hbl : b < wr.heap.size := Nat.lt_of_lt_of_le hb hb00.size
   have HSX := Lib.hid (hsx.later hb00)
   have HSY := Lib.hid (hsy.later hb00)
   obtain ⟨Ax, cx, rfl, _, _, _⟩ := hsx
   obtain ⟨Ay, cy, rfl, _, _, _⟩ := hsy
   have hmb := pmul_le x y
   obtain ⟨M, hMe⟩ : ∃ M, pmul x y = M := ⟨_, rfl⟩
   have HMUL : Hid (∀ wz, Below wr.heap.size wr wz → Calls Tryz.prog 116 #[.int .u8 f, .slice Ax x.length cx, .slice Ay y.length cy] wz (RetSq0 M wz)) := fun wz hbz => by
    have h := HML.out _ _ x y wz (HT.out.call (hb00.trans (hbz.mono hb00.size))) (HSX.out.later hbz) (HSY.out.later hbz) (by omega) (by omega) (by have h1 := trim_le x; have h2 := trim_le y; omega)
    rwa [hMe] at h
   rw [hMe] at HST hmb
   have hpb := HPL.out j
   rw [HL9.out] at hpb
   generalize ppsum ps j = s at *
   have hj1 : 2 * j < 2 * q := by omega
   have hj2 : 2 * j + 1 < 2 * q := by omega
   have hj3 : 2 * j + 2 ≤ 2 * q := by omega
   generalize hjj : 2 * j = jj at *
   have HJJ := Lib.hid hjj
   generalize hqq : 2 * q = qq at *
   have HQQ := Lib.hid hqq
   have hqq32 : qq ≤ 32 := by omega
   generalize x.length = nx at *
   generalize y.length = ny at *
   clear hjj hqq hx hy hroww hMe hvx hvy HSX HSY HML HM
   have hj4 : 0 ≤ (jj : Int) + 1 := by omega
   have hj5 : (jj : Int) + 1 < (qq : Int) := by omega
   have hw1 : IntKind.i64.wrap ((jj : Int) + 1) = (jj : Int) + 1 := IntWalk.i64_in _ (by omega)
   go_wp2_with fail
   refine region_G (n := 15) (m := 16) (f := 15) (by kernel_rfl) (by kernel_rfl) rfl ?_
   refine WpG.vD 0 (some 42) ?_ rfl rfl (by kernel_rfl) (fun _ _ _ h => h) rfl (fun wz hwz => ?_) ?_
   rotate_left
   ·go_simp; try (with_reducible rfl)
   simp only [Zp, Zq, Zr, Zs]
   refine WpG.vD 1 (some 43) ?_ rfl rfl (by kernel_rfl) (fun _ _ _ h => h) rfl (fun wz hwz => ?_) ?_
   rotate_left
   ·go_simp; try (with_reducible rfl)
   simp only [Zp, Zq, Zr, Zs]
   refine WpG.vD 2 (some 44) ?_ rfl rfl (by kernel_rfl) (fun _ _ _ h => h) rfl (fun wz hwz => ?_) ?_
   rotate_left
   ·go_simp; try (with_reducible rfl)
   simp only [Zp, Zq, Zr, Zs]
   refine WpG.vD 3 (some 45) ?_ rfl rfl (by kernel_rfl) (fun _ _ _ h => h) rfl (fun wz hwz => ?_) ?_
   rotate_left
   ·go_simp; try (with_reducible rfl)
   simp only [Zp, Zq, Zr, Zs]
   refine WpG.vD 4 (some 46) ?_ rfl rfl (by kernel_rfl) (fun _ _ _ h => h) rfl (fun wz hwz => ?_) ?_
   rotate_left
   ·(obtain ⟨hcz, hfz⟩ := bcell (hwz); go_simp; try (with_reducible rfl))
   simp only [Zp, Zq, Zr, Zs]
   refine WpG.vD 5 (some 47) ?_ rfl rfl (by kernel_rfl) (fun _ _ _ h => h) rfl (fun wz hwz => ?_) ?_
   rotate_left
   ·go_simp; try (with_reducible rfl)
   simp only [Zp, Zq, Zr, Zs]
   refine WpG.vD 6 (some 48) ?_ rfl rfl (by kernel_rfl) (fun _ _ _ h => h) rfl (fun wz hwz => ?_) ?_
   rotate_left
   ·go_simp; try (with_reducible rfl)
   simp only [Zp, Zq, Zr, Zs]
   refine WpG.vD 7 (some 49) ?_ rfl rfl (by kernel_rfl) (fun _ _ _ h => h) rfl (fun wz hwz => ?_) ?_
   rotate_left
   ·go_simp; try (with_reducible rfl)
   simp only [Zp, Zq, Zr, Zs]
   refine WpG.vD 8 (some 50) ?_ rfl rfl (by kernel_rfl) (fun _ _ _ h => h) rfl (fun wz hwz => ?_) ?_
   rotate_left
   ·go_simp; try (with_reducible rfl)
   simp only [Zp, Zq, Zr, Zs]
   refine WpG.vD 9 (some 51) ?_ rfl rfl (by kernel_rfl) (fun _ _ _ h => h) rfl (fun wz hwz => ?_) ?_
   rotate_left
   ·(obtain ⟨hcz, hfz⟩ := bcell (hwz); go_simp; try (with_reducible rfl))
   simp only [Zp, Zq, Zr, Zs]
   refine WpG.oneD 10 (some 52) rfl rfl (by kernel_rfl) (fun u : Option Addr × Nat => Value.tuple #[.slice u.1 M.length u.2, .int .i64 0]) (fun u wz => SlK wz wz.heap.size (.slice u.1 M.length u.2) M) (fun _ _ _ h hb => h.later hb) (Fresh.call rfl (fun wz hwz => HMUL.out wz (hwz)) (fun wz hwz => by go_simp; try (with_reducible rfl))) (fun u1 w0u1 hw0u1 hR0u1 => ?_)
   simp only [Zp, Zq, Zr, Zs]
   refine WpG.vD 11 (some 41) ?_ rfl rfl (by kernel_rfl) (fun _ _ _ h => h) rfl (fun wz hwz => ?_) ?_
   rotate_left
   ·go_simp; try (with_reducible rfl)
   simp only [Zp, Zq, Zr, Zs]
   refine WpG.vD 12 (some 53) ?_ rfl rfl (by kernel_rfl) (fun _ _ _ h => h) rfl (fun wz hwz => ?_) ?_
   rotate_left
   ·go_simp; try (with_reducible rfl)
   simp only [Zp, Zq, Zr, Zs]
   refine WpG.vD 13 (some 54) ?_ rfl rfl (by kernel_rfl) (fun _ _ _ h => h) rfl (fun wz hwz => ?_) ?_
   rotate_left
   ·go_simp; try (with_reducible rfl)
   simp only [Zp, Zq, Zr, Zs]
   refine WpG.vD 14 (some 11) ?_ rfl rfl (by kernel_rfl) (fun _ _ _ h => h) rfl (fun wz hwz => ?_) ?_
   rotate_left
   ·go_simp; try (with_reducible rfl)
   simp only [Zp, Zq, Zr, Zs]
   refine WpG.done (by kernel_rfl) (fun w6 hS => ?_)
   (try simp only [List.drop_succ_cons]); (try simp only [List.drop_zero]); (try simp only [Nat.reduceSub]); (try simp only [List.take_succ_cons]); (try simp only [List.take_zero])
   obtain ⟨hb6, hsm⟩ := hS
   clear d0 d1 hbl HMUL
   replace hb00 := bl_call hb00 (Nat.le_refl _) hb6
   replace hos := hos.later hb6
   clear hb6 hj4 hj5 hw1
   obtain ⟨lm, hlm⟩ : ∃ z, M.length = z := ⟨_, rfl⟩
   rw [hlm] at hsm hmb ⊢
   have HLM := Lib.hid hlm
   clear hlm
   go_wp2_with fail
   refine (HAD.out _ _ s M _ hos hsm (by rw [HL9.out]; omega) (by rw [HLM.out]; omega)).mono ?_
   rintro e w7 ⟨⟨A7, c7⟩, rfl, hs7, hb7⟩
   dsimp only at hs7 ⊢
   rw [← HST.out] at hs7 ⊢
   replace hb00 := bl_call hb00 (Nat.le_refl _) hb7
   clear hb7 hos hsm
   go_wp2_with fail
   go_roundw
   case rel => exact ⟨j + 1, _, A7, c7, by omega, by have := HJJ.out; have := HQQ.out; rw [show 2 * (j + 1) = jj + 2 by omega]; go_num, rfl, rfl, hs7, hb00⟩
   case measure => simp [intOf]; omega
  ·obtain rfl : j = q := by omega
   go_wp2_with fail
   go_ret2
   exact ⟨(D, cp), by rw [HL9.out]; rfl, by rw [HL9.out]; exact hos, hb00⟩

set_option maxHeartbeats 8000000 in
theorem gadget_Poly (w : World) (g : Gad f) (k : Int) (sl : Value) (n : Int) (hg : RepG w w.heap.size k sl n g) (hT : TabW w) (b o c : Nat) (vs : List Value) (ps : List (KL f)) (hrow : RowS w b o vs) (hb : b < w.heap.size) (hps : PsK w vs ps) (hM : ∀ i, (ps.getD i []).length ≤ 300) (hq : ps.length = g.arity) :
  Calls Tryz.prog 85 #[.agg #[.int .u8 k, sl, .int .i64 n], .int .u8 f, .slice (some ⟨b, o, none⟩) ps.length c] w (RetSq0 (gpoly g ps) w) := by
 cases g with
 | mul =>
  have hg' := hg
  obtain ⟨rfl, rfl, rfl⟩ := hg
  rw [show ps.length = 2 * 1 from hq]
  exact gadget_Poly_pairs hf w .mul 1 0 hg' rfl hT b o c vs ps hrow hb hps (fun i => Nat.le_trans (hM i) (by omega)) 1 hq rfl (by omega) rfl
 | par m =>
  have hg' := hg
  obtain ⟨rfl, rfl, rfl, h1, h2⟩ := hg
  rw [show ps.length = 2 * m from hq]
  exact gadget_Poly_pairs hf w (.par m) 3 m hg' rfl hT b o c vs ps hrow hb hps (fun i => Nat.le_trans (hM i) (by omega)) m hq rfl h2 rfl
 | eval cs =>
  have HC := Lib.hid (fun wz (h : Below w.heap.size w wz) => gadget_Check hf wz (.eval cs) k _ n (hg.later h))
  have HAA : Hid (∀ wz, Below w.heap.size w wz → Calls Tryz.prog 28 #[.agg #[.int .u8 k, sl, .int .i64 n]] wz fun e w' => e = .returned (.int .i64 1) ∧ Below wz.heap.size wz w') := fun wz hb => gadget_Arity wz w.heap.size (.eval cs) k sl n (hg.below hb)
  obtain ⟨rfl, rfl, hs, m, y, hm, hy, hy0, h1, h2⟩ := hg
  have hq1 : ps.length = 1 := hq
  rw [hq1]
  obtain ⟨p, hp⟩ : ∃ e, ps[0]? = some e := ⟨_, List.getElem?_eq_getElem (by omega)⟩
  obtain ⟨vp, hvp, hsp⟩ := hps.get hp
  have hgv : gpoly (.eval cs) ps = comp p cs := by
   show comp (ps.getD 0 []) cs = _
   rw [List.getD_eq_getElem?_getD, hp]
   rfl
  have hpl : p.length ≤ 300 := by have h := hM 0; rwa [List.getD_eq_getElem?_getD, hp] at h
  rw [hgv]
  have HCO : Hid (∀ wz, Below w.heap.size w wz → Calls Tryz.prog 115 #[.agg #[.int .u8 2, sl, .int .i64 0], .int .u8 f, vp] wz (RetSq0 (comp p cs) wz)) := fun wz h => gadget_compose hf 0 sl cs vp p wz (hT.call h) (hs.later h) (by omega) (hsp.later h) hpl
  have d0' := hrow 0 _ hvp
  rw [Nat.add_zero] at d0'
  obtain ⟨A', c', rfl, _, _, _⟩ := hsp
  generalize comp p cs = R at *
  clear hs hy hm hp hvp hps hq hq1 hgv hrow hT hM
  go_enter Tryz.func85, Tryz.ntmps85
  go_upto_region 1 with fail
  have hx := Vs.new w [.int .u8 2, sl, .int .i64 0] #[.int .u8 2, sl, .int .i64 0] 54 rfl
  have hb00 : Below w.heap.size w (w.alloc (.cells #[.int .u8 2, sl, .int .i64 0] 54)) := by repeat (first | exact bA | with_reducible assumption | apply bB)
  have hszn : w.heap.size + 1 ≤ (w.alloc (.cells #[.int .u8 2, sl, .int .i64 0] 54)).heap.size := by simp only [World.size_alloc]; omega
  generalize (w.alloc (.cells #[.int .u8 2, sl, .int .i64 0] 54)) = w1 at hx hb00 hszn ⊢
  obtain ⟨x0, x1, x2, x3, x4, x5, x6⟩ := hx.get3
  go_wp2_with fail
  refine (HC.out _ hb00).mono ?_
  rintro e w2 ⟨rfl, hb2⟩
  clear x0 x1 x2 x3 x4 x5 x6
  replace hb00 := bl_call hb00 (Nat.le_refl _) hb2
  replace hx := hx.call hb2
  clear hb2
  obtain ⟨x0, x1, x2, x3, x4, x5, x6⟩ := hx.get3
  go_wp2_with fail
  refine (HAA.out _ hb00).mono ?_
  rintro e w3 ⟨rfl, hb3⟩
  clear x0 x1 x2 x3 x4 x5 x6
  replace hb00 := bl_call hb00 (Nat.le_refl _) hb3
  replace hx := hx.call hb3
  clear hb3
  obtain ⟨x0, x1, x2, x3, x4, x5, x6⟩ := hx.get3
  go_upto_region 7 with fail
  obtain ⟨hcb, hfb⟩ := bcell hb00
  have d0 := (hcb b o hb).trans d0'
  have hbl : b < w3.heap.size := Nat.lt_of_lt_of_le hb hb00.size
  clear hcb hfb d0' HC HAA
  have HCO2 : Hid (∀ wz, Below w3.heap.size w3 wz → Calls Tryz.prog 115 #[.agg #[.int .u8 2, sl, .int .i64 0], .int .u8 f, .slice A' p.length c'] wz (RetSq0 R wz)) := fun wz h => HCO.out wz (hb00.trans (h.mono hb00.size))
  clear HCO
  generalize p.length = np at *
  refine region_G (n := 9) (m := 10) (f := 9) (by kernel_rfl) (by kernel_rfl) rfl ?_
  refine WpG.vD 0 (some 27) ?_ rfl rfl (by kernel_rfl) (fun _ _ _ h => h) rfl (fun wz hwz => ?_) ?_
  rotate_left
  ·(obtain ⟨hcz, hfz⟩ := bcell (hwz); go_simp; try (with_reducible rfl))
  simp only [Zp, Zq, Zr, Zs]
  refine WpG.vD 1 (some 28) ?_ rfl rfl (by kernel_rfl) (fun _ _ _ h => h) rfl (fun wz hwz => ?_) ?_
  rotate_left
  ·go_simp; try (with_reducible rfl)
  simp only [Zp, Zq, Zr, Zs]
  refine WpG.vD 2 (some 29) ?_ rfl rfl (by kernel_rfl) (fun _ _ _ h => h) rfl (fun wz hwz => ?_) ?_
  rotate_left
  ·go_simp; try (with_reducible rfl)
  simp only [Zp, Zq, Zr, Zs]
  refine WpG.vD 3 (some 30) ?_ rfl rfl (by kernel_rfl) (fun _ _ _ h => h) rfl (fun wz hwz => ?_) ?_
  rotate_left
  ·go_simp; try (with_reducible rfl)
  simp only [Zp, Zq, Zr, Zs]
  refine WpG.vD 4 (some 31) ?_ rfl rfl (by kernel_rfl) (fun _ _ _ h => h) rfl (fun wz hwz => ?_) ?_
  rotate_left
  ·(obtain ⟨hcz, hfz⟩ := bcell (hwz); go_simp; try (with_reducible rfl))
  simp only [Zp, Zq, Zr, Zs]
  refine WpG.oneD 5 (some 32) rfl rfl (by kernel_rfl) (fun u : Option Addr × Nat => Value.tuple #[.slice u.1 R.length u.2, .int .i64 0]) (fun u wz => SlK wz wz.heap.size (.slice u.1 R.length u.2) R) (fun _ _ _ h hb => h.later hb) (Fresh.call rfl (fun wz hwz => HCO2.out wz (hwz)) (fun wz hwz => by go_simp; try (with_reducible rfl))) (fun u1 w0u1 hw0u1 hR0u1 => ?_)
  simp only [Zp, Zq, Zr, Zs]
  refine WpG.vD 6 (some 33) ?_ rfl rfl (by kernel_rfl) (fun _ _ _ h => h) rfl (fun wz hwz => ?_) ?_
  rotate_left
  ·go_simp; try (with_reducible rfl)
  simp only [Zp, Zq, Zr, Zs]
  refine WpG.vD 7 (some 34) ?_ rfl rfl (by kernel_rfl) (fun _ _ _ h => h) rfl (fun wz hwz => ?_) ?_
  rotate_left
  ·go_simp; try (with_reducible rfl)
  simp only [Zp, Zq, Zr, Zs]
  refine WpG.vD 8 (some 6) ?_ rfl rfl (by kernel_rfl) (fun _ _ _ h => h) rfl (fun wz hwz => ?_) ?_
  rotate_left
  ·go_simp; try (with_reducible rfl)
  simp only [Zp, Zq, Zr, Zs]
  refine WpG.done (by kernel_rfl) (fun w8 hS => ?_)
  (try simp only [List.drop_succ_cons]); (try simp only [List.drop_zero]); (try simp only [Nat.reduceSub]); (try simp only [List.take_succ_cons]); (try simp only [List.take_zero])
  obtain ⟨hb8, hs8⟩ := hS
  clear x0 x1 x2 x3 x4 x5 x6
  clear d0 hbl hx
  replace hb00 := bl_call hb00 (Nat.le_refl _) hb8
  clear hb8
  have HS8 := Lib.hid hs8
  clear hs8
  go_wp2_with fail
  go_ret2
  exact ⟨u1, rfl, HS8.out, hb00⟩
end

end Go.Proofs.YtfbfbijkkbflkaaGreatDoor

namespace Go.Proofs.YtfbfbijkkbflkaaGreatDoor
open Go.RowKit Fm
set_option linter.unusedVariables false
set_option maxRecDepth 100000

section
variable {f : Nat}
end

section
variable {f : Nat} (hf : IsF f)
include hf
end

/-! ### c.Field and c.Gadget() are laid in two variables -/
def QyT {f : Nat} (w3 : World) (gd : Gad f) (o1 : Option (Int × Value × Int)) (o2 o3 : Option Nat) (wz : World) : Prop := Below w3.heap.size w3 wz
structure QyK {f : Nat} (w3 : World) (gd : Gad f) (o1 : Option (Int × Value × Int)) (o2 o3 : Option Nat) (wz : World) : Prop where
 t : Below w3.heap.size w3 wz
 a : ∀ q, o1 = some q → RepG wz wz.heap.size q.1 q.2.1 q.2.2 gd
 b : ∀ b, o2 = some b → w3.heap.size ≤ b ∧ Vs wz b [.int .u8 0]
 c : ∀ b, o3 = some b → w3.heap.size ≤ b ∧ Vs wz b [.int .u8 0, .slice none 0 0, .int .i64 0]
 d1 : ∀ (q : Int × Value × Int) (b : Nat) (p : Addr) (a c : Nat), o1 = some q → o2 = some b → q.2.1 = .slice (some p) a c → p.block ≠ b
 d2 : ∀ (q : Int × Value × Int) (b : Nat) (p : Addr) (a c : Nat), o1 = some q → o3 = some b → q.2.1 = .slice (some p) a c → p.block ≠ b
 d3 : ∀ b c, o2 = some b → o3 = some c → b ≠ c
theorem QyK.clo {f : Nat} {w3 : World} {gd : Gad f} {o1 : Option (Int × Value × Int)} {o2 o3 : Option Nat} : Clo (QyK w3 gd o1 o2 o3) := fun _ _ h hb =>
 ⟨bl_call h.t (Nat.le_refl _) hb, fun q e => (h.a q e).later hb, fun b e => ⟨(h.b b e).1, (h.b b e).2.call hb⟩, fun b e => ⟨(h.c b e).1, (h.c b e).2.call hb⟩, h.d1, h.d2, h.d3⟩
theorem QyK.mk1 {f : Nat} {w3 w w' : World} {gd : Gad f} {o2 o3 : Option Nat} (h : QyK w3 gd none o2 o3 w) (q : Int × Value × Int) (hq : RepG w' w'.heap.size q.1 q.2.1 q.2.2 gd) (hb : Below w.heap.size w w') (hn : ∀ (p : Addr) (a c : Nat), q.2.1 = .slice (some p) a c → w.heap.size ≤ p.block) : QyK w3 gd (some q) o2 o3 w' :=
 ⟨bl_call h.t (Nat.le_refl _) hb, fun q' e => by injection e with e; subst e; exact hq, fun b e => ⟨(h.b b e).1, (h.b b e).2.call hb⟩, fun b e => ⟨(h.c b e).1, (h.c b e).2.call hb⟩, fun q' b p a c e1 e2 e3 => by
  injection e1 with e1
  subst e1
  have h1 := hn p a c e3
  have h2 := (h.b b e2).2.lt
  omega, fun q' b p a c e1 e2 e3 => by
  injection e1 with e1
  subst e1
  have h1 := hn p a c e3
  have h2 := (h.c b e2).2.lt
  omega, h.d3⟩
theorem QyK.mk2 {f : Nat} {w3 w : World} {gd : Gad f} {o1 : Option (Int × Value × Int)} {o3 : Option Nat} (h : QyK w3 gd o1 none o3 w) : QyK w3 gd o1 (some w.heap.size) o3 (w.alloc (.cells #[.int .u8 0] 28)) := by
 have h2 := QyK.clo _ _ h ((Below.refl w.heap.size w).alloc (Nat.le_refl _) (.cells #[.int .u8 0] 28))
 refine ⟨h2.t, h2.a, fun b e => ?_, h2.c, fun q b p a c e1 e2 e3 => ?_, h2.d2, fun b c e1 e2 => ?_⟩
 ·injection e with e
  subst e
  exact ⟨h.t.size, Vs.new w _ _ _ rfl⟩
 ·injection e2 with e2
  have h3 := (h.a q e1).ltB p a c e3
  omega
 ·injection e1 with e1
  have h3 := (h.c c e2).2.lt
  omega
theorem QyK.mk3 {f : Nat} {w3 w : World} {gd : Gad f} {o1 : Option (Int × Value × Int)} {o2 : Option Nat} (h : QyK w3 gd o1 o2 none w) : QyK w3 gd o1 o2 (some w.heap.size) (w.alloc (.cells #[.int .u8 0, .slice none 0 0, .int .i64 0] 54)) := by
 have h2 := QyK.clo _ _ h ((Below.refl w.heap.size w).alloc (Nat.le_refl _) (.cells #[.int .u8 0, .slice none 0 0, .int .i64 0] 54))
 refine ⟨h2.t, h2.a, h2.b, fun b e => ?_, h2.d1, fun q b p a c e1 e2 e3 => ?_, fun b c e1 e2 => ?_⟩
 ·injection e with e
  subst e
  exact ⟨h.t.size, Vs.new w _ _ _ rfl⟩
 ·injection e2 with e2
  have h3 := (h.a q e1).ltB p a c e3
  omega
 ·injection e2 with e2
  have h3 := (h.b b e1).2.lt
  omega
theorem QyK.start {f : Nat} (w3 : World) (gd : Gad f) : QyK w3 gd none none none w3.drew :=
 ⟨(Below.refl _ _).drew, fun _ e => (by cases e), fun _ e => (by cases e), fun _ e => (by cases e), fun _ _ _ _ _ e => (by cases e), fun _ _ _ _ _ e => (by cases e), fun _ _ e => (by cases e)⟩

/-! ### the wires begin, and a variable for them -/
structure QbK {f : Nat} (w0 : World) (N : Nat) (ls : List (KL f)) (o1 : Option (Nat × Nat × Nat × List Value)) (o2 : Option Nat) (wz : World) : Prop where
 t : Below w0.heap.size w0 wz
 a : ∀ q, o1 = some q → WrI q.1 q.2.1 q.2.2.1 N q.2.2.2 ls wz ∧ ∀ i, WrD q.1 q.2.1 q.2.2.2 i → w0.heap.size ≤ i
 b : ∀ b, o2 = some b → w0.heap.size ≤ b ∧ Vs wz b [.pointer none]
 d : ∀ q b, o1 = some q → o2 = some b → ¬ WrD q.1 q.2.1 q.2.2.2 b
theorem QbK.clo {f : Nat} {w0 : World} {N : Nat} {ls : List (KL f)} {o1 : Option (Nat × Nat × Nat × List Value)} {o2 : Option Nat} : Clo (QbK w0 N ls o1 o2) := fun _ _ h hb =>
 ⟨bl_call h.t (Nat.le_refl _) hb, fun q e => ⟨(h.a q e).1.call hb, (h.a q e).2⟩, fun b e => ⟨(h.b b e).1, (h.b b e).2.call hb⟩, h.d⟩
theorem QbK.mk1 {f : Nat} {w0 w w' : World} {N : Nat} {ls : List (KL f)} {o2 : Option Nat} (h : QbK w0 N ls none o2 w) (q : Nat × Nat × Nat × List Value) (hq : WrI q.1 q.2.1 q.2.2.1 N q.2.2.2 ls w') (hd : ∀ i, WrD q.1 q.2.1 q.2.2.2 i → w.heap.size ≤ i) (hb : Below w.heap.size w w') : QbK w0 N ls (some q) o2 w' :=
 ⟨bl_call h.t (Nat.le_refl _) hb, fun q' e => by
  injection e with e
  subst e
  exact ⟨hq, fun i hi => Nat.le_trans h.t.size (hd i hi)⟩, fun b e => ⟨(h.b b e).1, (h.b b e).2.call hb⟩, fun q' b e1 e2 hw => by
  injection e1 with e1
  subst e1
  have h1 := hd b hw
  have h2 := (h.b b e2).2.lt
  omega⟩
theorem QbK.mk2 {f : Nat} {w0 w : World} {N : Nat} {ls : List (KL f)} {o1 : Option (Nat × Nat × Nat × List Value)} (h : QbK w0 N ls o1 none w) : QbK w0 N ls o1 (some w.heap.size) (w.alloc (.cells #[.pointer none] 94)) := by
 have h2 := QbK.clo _ _ h ((Below.refl w.heap.size w).alloc (Nat.le_refl _) (.cells #[.pointer none] 94))
 refine ⟨h2.t, h2.a, fun b e => ?_, fun q b e1 e2 hw => ?_⟩
 ·injection e with e
  subst e
  exact ⟨h.t.size, Vs.new w _ _ _ rfl⟩
 ·injection e2 with e2
  have h3 := (h.a q e1).1.lt b hw
  omega
theorem QbK.start {f : Nat} (w0 : World) (N : Nat) (ls : List (KL f)) : QbK w0 N ls none none w0.drew :=
 ⟨(Below.refl _ _).drew, fun _ e => (by cases e), fun _ e => (by cases e), fun _ _ e => (by cases e)⟩

end Go.Proofs.YtfbfbijkkbflkaaGreatDoor

namespace Go.Proofs.YtfbfbijkkbflkaaGreatDoor
open Go Go.RowKit
set_option linter.unusedVariables false

section
variable {P : Program} {ops : Array Oper} {Q : Exit → Act → World → Prop} {md : Region.Mode} {n m : Nat} {L : Act → World → Prop} {f : Nat} {listed : Array Bool} {a : Act} {T S : World → Prop}
theorem WpX.threeD (i j k : Nat) (d d' d'' : Option Tmp) {oi oj ok : Oper} (hi : ops[i]? = some oi) (hd : oi.dst = d) (hj : ops[j]? = some oj) (hd' : oj.dst = d') (hk : ops[k]? = some ok) (hd'' : ok.dst = d'') (hB : (decide (i < n) && decide (j < n) && decide (k < n) && decide (Region.ready md ops listed = [i, j, k])) = true)
  {ι κ μ : Type} (F : ι → Value) (T1 S1 : ι → World → Prop) (hy : Turns P ops T S F T1 S1 oi a)
  (G : κ → Value) (T2 S2 : κ → World → Prop) (hz : Turns P ops T S G T2 S2 oj a)
  (H : μ → Value) (T3 S3 : μ → World → Prop) (hu : Turns P ops T S H T3 S3 ok a)
  (h1 : ∀ x, WpX P md ops Q n m L f (listed.setIfInBounds i true) (a.put d (F x)) (T1 x) (S1 x))
  (h2 : ∀ x, WpX P md ops Q n m L f (listed.setIfInBounds j true) (a.put d' (G x)) (T2 x) (S2 x))
  (h3 : ∀ x, WpX P md ops Q n m L f (listed.setIfInBounds k true) (a.put d'' (H x)) (T3 x) (S3 x)) : WpX P md ops Q n m L (f + 1) listed a T S := by
 subst hd
 subst hd'
 subst hd''
 simp only [Bool.and_eq_true, decide_eq_true_eq] at hB
 obtain ⟨⟨⟨hin, hjn⟩, hkn⟩, hr⟩ := hB
 intro hST hC hp inv
 refine ⟨by rw [hr]; simp, fun q hq => ?_⟩
 have hq' : q = i ∨ q = j ∨ q = k := by rw [hr] at hq; simpa using hq
 rcases hq' with rfl | rfl | rfl
 ·refine ⟨hin, fun w hS => hy.wpOp hi hS fun x w' hS' => ?_⟩
  exact ⟨T1 x, S1 x, hy.2.1 x, hy.2.2.1 x, hy.2.2.2.1 x, hS', h1 x (hy.2.2.1 x) (hy.2.2.2.1 x) hp (inv.set hq hin hp.lt)⟩
 ·refine ⟨hjn, fun w hS => hz.wpOp hj hS fun x w' hS' => ?_⟩
  exact ⟨T2 x, S2 x, hz.2.1 x, hz.2.2.1 x, hz.2.2.2.1 x, hS', h2 x (hz.2.2.1 x) (hz.2.2.2.1 x) hp (inv.set hq hjn hp.lt)⟩
 ·refine ⟨hkn, fun w hS => hu.wpOp hk hS fun x w' hS' => ?_⟩
  exact ⟨T3 x, S3 x, hu.2.1 x, hu.2.2.1 x, hu.2.2.2.1 x, hS', h3 x (hu.2.2.1 x) (hu.2.2.2.1 x) hp (inv.set hq hkn hp.lt)⟩
variable {L' : Act → World → Prop}
theorem wpX_monoZ (hL : ∀ a w, L a w → L' a w) : ∀ (f : Nat) (listed : Array Bool) (a : Act) (T S : World → Prop), wpX P md ops Q n m L f listed a T S → wpX P md ops Q n m L' f listed a T S
 | 0, listed, a, T, S, h => ⟨h.1, fun w hS => hL _ _ (h.2 w hS)⟩
 | f + 1, listed, a, T, S, h => ⟨h.1, fun i hi => ⟨(h.2 i hi).1, fun w hS => wpOp_mono (fun a' w' h' => by
   obtain ⟨T', S', h1, h2, h3, h4, h5⟩ := h'
   exact ⟨T', S', h1, h2, h3, h4, wpX_monoZ hL f _ a' T' S' h5⟩) ((h.2 i hi).2 w hS)⟩⟩
theorem WpX.monoZ (hL : ∀ a w, L a w → L' a w) (h : WpX P md ops Q n m L f listed a T S) : WpX P md ops Q n m L' f listed a T S :=
 fun hST hC hp inv => wpX_monoZ hL f listed a T S (h hST hC hp inv)
theorem region_Z3 {id n m f : Nat} {l : List Oper} {a : Act} {w : World} {α β γ : Type} (R : α → β → γ → World → Prop) (T S : World → Prop) (hST : ∀ w, S w → T w) (hC : Clo S) (hS : S w.drew) {E : α → β → γ → Act} (hm : P.follows .mixedOrders = true) (hB : partsB .any l.toArray n m (Array.replicate l.length false) = true) (hf : f + (m - n) = l.length)
  (h : WpX P .any l.toArray Q n m (fun a w => ∃ x y z, a = E x y z ∧ R x y z w) f (Array.replicate l.length false) a T S)
  (hc : ∀ x y z w', R x y z w' → wpList P l.toArray Q ((l.drop n).take (m - n)) (E x y z) w') : (Code.region id l.toArray true).wp P Q a w :=
 region_X T S hST hC hS hm hB hf (h.monoZ fun _ w ⟨x, y, z, e, hr⟩ => e ▸ hc x y z w hr)
end

end Go.Proofs.YtfbfbijkkbflkaaGreatDoor

namespace Go.Proofs.YtfbfbijkkbflkaaGreatDoor
open Go.RowKit Fm
set_option linter.unusedVariables false
set_option maxRecDepth 100000

theorem exec_append_z {w w' : World} {o : Oper} {a : Act} (s x : Operand) (ho : o.op = .call { callee := .builtin .append, args := #[s, x], argTypes := #[24, 3] }) {v1 v2 v' : Value} (hs : a.eval s = v1) (hx : a.eval x = v2)
  (hrun : (Builtin.append_ #[24, 3] o.type #[v1, v2]).run Tryz.prog w = .ok v' w') : (execOp a.eval o).run Tryz.prog w = .ok (.value v') w' := by
 unfold execOp
 simp only [ho, resolve, invoke, builtin, Sem.run_bind, Sem.run_pure, Result.andThen_ok, List.map_toArray, List.map_cons, List.map_nil, hs, hx, hrun]

section
variable {f : Nat}
structure FuI (w0 : World) (us : List Value) (ps : List (KL f)) (v : Value) (i : Nat) (w : World) : Prop where
 rows : w.ownsRow w0.heap.size 24 1 v i us
 ps : PsX (fun b => v.ownBlock = some b ∨ False) w us ps
 bl : Below w0.heap.size w0 w
variable {w0 w4 wz : World} {us : List Value} {ps : List (KL f)} {v : Value} {i n kz zb sb : Nat} {l : KL f} {q : Nat × Nat}
theorem FuI.call {w w' : World} (h : FuI w0 us ps v i w) (hb : Below w.heap.size w w') : FuI w0 us ps v i w' := ⟨own_call h.rows hb, h.ps.call hb, bl_call h.bl (Nat.le_refl _) hb⟩
def FuT (w0 : World) (wz : World) : Prop := Below w0.heap.size w0 wz
theorem FuT.clo (w0 : World) : Clo (FuT w0) := fun _ _ h hb => bl_call h (Nat.le_refl _) hb
def FuS0 (w4 : World) (wz : World) : Prop := Below w4.heap.size w4 wz
theorem FuS0.clo (w4 : World) : Clo (FuS0 w4) := fun _ _ h hb => bl_call h (Nat.le_refl _) hb
def FuS1 (w4 : World) (zb : Nat) (wz : World) : Prop := FuS0 w4 wz ∧ wz.ownsRow w4.heap.size 36 2 (.slice (some ⟨zb, 0, none⟩) 0 0) 0 (cellsE [])
theorem FuS1.clo (w4 : World) (zb : Nat) : Clo (FuS1 w4 zb) := fun _ _ h hb => ⟨FuS0.clo w4 _ _ h.1 hb, own_call h.2 hb⟩
def FuS2 (w4 : World) (n : Nat) (l : KL f) (q : Nat × Nat) (wz : World) : Prop := FuS0 w4 wz ∧ wz.ownsRow w4.heap.size 36 2 (.slice (some ⟨q.1, 0, none⟩) n q.2) n (cellsE (esK l))
theorem FuS2.clo (w4 : World) (n : Nat) (l : KL f) (q : Nat × Nat) : Clo (FuS2 w4 n l q) := fun _ _ h hb => ⟨FuS0.clo w4 _ _ h.1 hb, own_call h.2 hb⟩
def FuS4 (w4 : World) (n : Nat) (l : KL f) (q : Nat × Nat) (sb : Nat) (wz : World) : Prop := FuS2 w4 n l q wz ∧ Vs wz sb [.slice (some ⟨q.1, 0, none⟩) n q.2]
theorem FuS4.clo (w4 : World) (n : Nat) (l : KL f) (q : Nat × Nat) (sb : Nat) : Clo (FuS4 w4 n l q sb) := fun _ _ h hb => ⟨FuS2.clo w4 n l q _ _ h.1 hb, h.2.call hb⟩
theorem FuS0.mk1 (h : FuS0 w4 wz) : FuS1 w4 wz.heap.size (wz.alloc (.cells #[] 36)) :=
 ⟨FuS0.clo w4 _ _ h ((Below.refl _ _).alloc (Nat.le_refl _) _), BlkE.own (l := []) (heap_alloc_new wz _) (by simp) h.size⟩
theorem FuS1.app (h : FuS1 w4 zb wz) {A : Option Addr} {c : Nat} (hl : l.length = n) (hy : 0 < n → ∃ b o, A = some ⟨b, o, none⟩ ∧ RowE wz b o (esK l)) (hn1 : 1 ≤ n) (hn : n ≤ 100000) (ty : TypeId) :
  ∃ q : Nat × Nat, ∃ w', (Builtin.append_ #[24, 24] ty #[.slice (some ⟨zb, 0, none⟩) 0 0, .slice A n c]).run Tryz.prog wz = .ok (.slice (some ⟨q.1, 0, none⟩) n q.2) w' ∧ FuS2 w4 n l q w' := by
 obtain ⟨v', w', hr, ho, hg, hat⟩ := run_append_E wz w4.heap.size ty _ 0 [] h.2 A n c (esK l) (by rw [esK_length, hl]) hy (by omega) h.1.size
 rw [Nat.zero_add, List.nil_append] at ho
 obtain ⟨m, rfl⟩ : ∃ m, n = m + 1 := ⟨n - 1, by omega⟩
 obtain ⟨g2, c2, rfl⟩ := own_slice ho
 refine ⟨(g2, c2), w', hr, Below.grown h.1 hg h.1.size (fun k hk => ?_), ho⟩
 exact (h.2.lt k hk).1
theorem FuS2.pad (h : FuS2 w4 n l q wz) (hl : l.length = n) (hn : n + kz ≤ 100000) (ty : TypeId) :
  ∃ q' : Nat × Nat, ∃ w', (Builtin.append_ #[24, 3] ty #[.slice (some ⟨q.1, 0, none⟩) n q.2, .int .i64 (kz : Int)]).run Tryz.prog wz = .ok (.slice (some ⟨q'.1, 0, none⟩) (n + kz) q'.2) w' ∧ FuS2 w4 (n + kz) (l ++ List.replicate kz 0) q' w' := by
 obtain ⟨g', c', w', hr, ho, hE, hat⟩ := run_append_Z wz w4.heap.size q.1 n q.2 kz ty l hl h.2 h.1.size (by omega)
 have hq := (h.2.lt q.1 rfl).1
 exact ⟨(g', c'), w', hr, h.1.trans (hE.belowB2 hq h.1.size), ho⟩
theorem FuS2.mk4 (h : FuS2 w4 n l q wz) : FuS4 w4 n l q wz.heap.size (wz.alloc (.cells #[.slice (some ⟨q.1, 0, none⟩) n q.2] 24)) :=
 ⟨FuS2.clo w4 n l q _ _ h ((Below.refl _ _).alloc (Nat.le_refl _) _), Vs.new wz _ _ _ rfl⟩
theorem FuS4.app (h : FuS4 w4 n l q sb wz) (hI : FuI w0 us ps v i w4) (hl : l.length = n) (hi : i + 1 ≤ 1000000) (ty : TypeId) :
  ∃ q' : Nat × Nat, ∃ w', (Builtin.append_ #[59, 59] ty #[v, .slice (some ⟨sb, 0, none⟩) 1 1]).run Tryz.prog wz = .ok (.slice (some ⟨q'.1, 0, none⟩) (i + 1) q'.2) w' ∧
   FuI w0 (us ++ [.slice (some ⟨q.1, 0, none⟩) n q.2]) (ps ++ [l]) (.slice (some ⟨q'.1, 0, none⟩) (i + 1) q'.2) (i + 1) w' := by
 have hs4 := hI.bl.size
 have hJ := hI.call h.1.1
 have hsz := h.1.1.size
 obtain ⟨v', w', hr, ho, hg, hat⟩ := run_append_S wz w0.heap.size ty v i us hJ.rows sb 0 1 _ ⟨_, _, _, rfl⟩ h.2.get1.1 hi (by omega)
 obtain ⟨g2, c2, rfl⟩ := own_slice ho
 have hX : SlX (fun b => v.ownBlock = some b ∨ False) wz (.slice (some ⟨q.1, 0, none⟩) n q.2) l := own_slX hl h.1.2 fun b hb => (hI.rows.lt b (hb.resolve_right id)).2
 exact ⟨(g2, c2), w', hr, ho, (hJ.ps.snoc hX).grown hg hat, hJ.bl.grown hg (by omega) (fun k hk => (hJ.rows.lt k hk).1)⟩
def RetFull (ps : List (KL f)) (w : World) (e : Ending) (w' : World) : Prop := ∃ (v : Value) (us : List Value), e = .returned v ∧ FuI w us ps v ps.length w'
end

end Go.Proofs.YtfbfbijkkbflkaaGreatDoor

namespace Go.Proofs.YtfbfbijkkbflkaaGreatDoor
open Go.RowKit Fm
set_option linter.unusedVariables false
set_option maxRecDepth 100000

section
variable {f : Nat}
set_option maxHeartbeats 8000000 in
theorem proof_full (wb lb cp sz n1 : Nat) (vs : List Value) (ls : List (KL f)) (w : World) (hW : WrI wb lb cp sz vs ls w) (hl : ∀ (i : Nat) (l : KL f), ls[i]? = some l → l.length = n1) (h1 : 1 ≤ n1) (h2 : n1 ≤ sz) (hsz : sz ≤ 4096) (hn2 : ls.length ≤ 1000) :
  Calls Tryz.prog 68 #[.pointer (some ⟨wb, 0, none⟩)] w (RetFull (ls.map fun l => l ++ List.replicate (sz - n1) 0) w) := by
 obtain ⟨n, hn⟩ : ∃ n, ls.length = n := ⟨_, rfl⟩
 obtain ⟨kz, hkz⟩ : ∃ kz, sz - n1 = kz := ⟨_, rfl⟩
 rw [hkz]
 have HWW := Lib.hid hW
 have HLL := Lib.hid hl
 have HLN := Lib.hid hn
 have HK : Hid (n1 + kz ≤ 100000 ∧ 1 ≤ n1 ∧ n1 ≤ 100000) := ⟨by omega, h1, by omega⟩
 have HK0 : Hid ((sz : Int) - (n1 : Int) = (kz : Int)) := by show _ = _; omega
 have HK1 : Hid (IntKind.i64.wrap (kz : Int) = (kz : Int)) := IntWalk.i64_in _ (by omega)
 have hcl : vs.length = n := hW.len.trans hn
 have hcc : n ≤ cp := hn ▸ hW.cap
 have hst := hW.st
 rw [hn] at hst
 have HST := Lib.hid hst
 have HVN := Lib.hid hcl
 have HN2 : Hid (n ≤ 1000) := by show _ ≤ _; omega
 obtain ⟨z0, z1, z2, z3, hwbl⟩ := V2.mk hst.to2.c0 hst.to2.c1 hst.to2.f0 hst.to2.f1 hst.to2.lt
 clear hl hn hcl hW hst hkz h1 h2 hsz hn2
 go_enter Tryz.func68, Tryz.ntmps68
 have hF0 : FuI w [] ((ls.take 0).map fun l => l ++ List.replicate kz 0) (.slice none 0 0) 0 w := ⟨World.ownsRow_nil _ _ _ _, PsX.nil _ _, Below.refl _ _⟩
 go_wp2_with fail
 clear z0 z1 z2 z3 hwbl
 go_loopw [3, 11] (fun ov iv wr => ∃ (i : Nat) (us : List Value), i ≤ n ∧ iv = .int .i64 i ∧ FuI w us ((ls.take i).map fun l => l ++ List.replicate kz 0) ov i wr) (fun _ iv _ => n - (intOf iv).toNat)
 case atStart => exact ⟨0, [], Nat.zero_le _, rfl, hF0⟩
 case round =>
  clear hF0
  obtain ⟨i, us, hin, rfl, hFI⟩ := hrel
  by_cases hlt : i < n
  ·obtain ⟨u, hu⟩ : ∃ u, vs[i]? = some u := ⟨_, List.getElem?_eq_getElem (by have := HVN.out; omega)⟩
   obtain ⟨l, hl⟩ : ∃ l, ls[i]? = some l := ⟨_, List.getElem?_eq_getElem (by have := HLN.out; omega)⟩
   have hll := HLL.out i l hl
   have ho := HWW.out.own i u l hu hl
   have hu0 := (HWW.out.call hFI.bl).rows.cell i u hu
   have hlbl := (HWW.out.call hFI.bl).rows.lt
   have HGC : Hid (∃ (g c : Nat), u = .slice (some ⟨g, 0, none⟩) n1 c ∧ n1 ≤ c ∧ RowE w g 0 (esK l) ∧ g < w.heap.size) := by
    rcases own_cases ho with ⟨_, h0⟩ | ⟨g, c, hv, hr, _, hc, _⟩
    ·have := HK.out.2.1
     rw [h0] at hll
     simp at hll
     omega
    ·rw [hll] at hv hc
     exact ⟨g, c, hv, hc, hr.row, hr.lt⟩
   obtain ⟨g, c, hgc, hnc, hrow⟩ := HGC.out
   subst hgc
   have HROW := Lib.hid hrow
   have HLI := Lib.hid hl
   have HLL1 := Lib.hid hll
   have HFI := Lib.hid hFI
   have g1 : (0 : Int) ≤ (i : Int) := by omega
   have g2 : (i : Int) < (n : Int) := by omega
   have HTT : Hid (∀ wz, FuS0 wr wz → FuT w wz) := fun wz h => HFI.out.bl.trans (h.mono HFI.out.bl.size)
   clear ho hrow hl hll hFI hu HGC
   go_upto_region 5 with fail
   have hS00 : FuS0 wr wr.drew := (Below.refl _ _).drew
   clear hu0 hlbl
   refine region_X (FuT w) (FuS0 wr) (fun _ h => HTT.out _ h) (FuS0.clo wr) hS00 (n := 14) (m := 15) (f := 14) (by kernel_rfl) (by kernel_rfl) rfl ?_
   refine WpX.vD 0 (some 15) ?_ rfl rfl (by kernel_rfl) (fun _ _ _ h => h) rfl (fun wz hwz => ?_) ?_
   rotate_left
   ·go_simp; try (with_reducible rfl)
   simp only [Zp, Zq, Zr, Zs]
   refine WpX.vD 2 (some 17) ?_ rfl rfl (by kernel_rfl) (fun _ _ _ h => h) rfl (fun wz hwz => ?_) ?_
   rotate_left
   ·go_simp; try (with_reducible rfl)
   simp only [Zp, Zq, Zr, Zs]
   refine WpX.vD 4 (some 19) ?_ rfl rfl (by kernel_rfl) (fun _ _ _ h => h) rfl (fun wz hwz => ?_) ?_
   rotate_left
   ·go_simp; try (with_reducible rfl)
   simp only [Zp, Zq, Zr, Zs]
   refine WpX.vD 5 (some 20) ?_ rfl rfl (by kernel_rfl) (fun _ _ _ h => h) rfl (fun wz hwz => ?_) ?_
   rotate_left
   ·go_simp; try (with_reducible rfl)
   simp only [Zp, Zq, Zr, Zs]
   refine WpX.vD 6 (some 21) ?_ rfl rfl (by kernel_rfl) (fun _ _ _ h => h) rfl (fun wz hwz => ?_) ?_
   rotate_left
   ·go_simp; try (with_reducible rfl)
   simp only [Zp, Zq, Zr, Zs]
   refine WpX.vD 7 (some 22) ?_ rfl rfl (by kernel_rfl) (fun _ _ _ h => h) rfl (fun wz hwz => ?_) ?_
   rotate_left
   ·(have hz2 := (HST.out.call hwz).to2; obtain ⟨z0, z1, z2, z3, z4⟩ := V2.mk hz2.c0 hz2.c1 hz2.f0 hz2.f1 hz2.lt; go_simp; try (with_reducible rfl))
   simp only [Zp, Zq, Zr, Zs]
   refine WpX.vD 8 (some 23) ?_ rfl rfl (by kernel_rfl) (fun _ _ _ h => h) rfl (fun wz hwz => ?_) ?_
   rotate_left
   ·go_simp; try (with_reducible rfl)
   simp only [Zp, Zq, Zr, Zs]
   refine WpX.vD 9 (some 24) ?_ rfl rfl (by kernel_rfl) (fun _ _ _ h => h) rfl (fun wz hwz => ?_) ?_
   rotate_left
   ·go_simp; try (with_reducible rfl)
   simp only [Zp, Zq, Zr, Zs]
   refine WpX.vD 10 (some 25) ?_ rfl rfl (by kernel_rfl) (fun _ _ _ h => h) rfl (fun wz hwz => ?_) ?_
   rotate_left
   ·(have z0 := HK0.out; have z1 := HK1.out; go_simp; try (with_reducible rfl))
   simp only [Zp, Zq, Zr, Zs]
   refine WpX.oneD 1 (some 16) rfl rfl (by kernel_rfl) (fun b : Nat => Value.slice (some ⟨b, 0, none⟩) 0 0) (fun _ => FuT w) (fun zb => FuS1 wr zb) (Turns.val rfl (fun _ _ h => h) (fun _ _ h => HTT.out _ h.1) (fun zb => FuS1.clo wr zb) (fun wz hS => ⟨wz.heap.size, wz.alloc (.cells #[] 36), by go_simp; try rfl, hS.mk1⟩)) (fun zb => ?_)
   simp only [Zp, Zq, Zr, Zs]
   refine WpX.oneD 3 (some 18) rfl rfl (by kernel_rfl) (fun q : Nat × Nat => Value.slice (some ⟨q.1, 0, none⟩) n1 q.2) (fun _ => FuT w) (fun q => FuS2 wr n1 l q) (Turns.val rfl (fun _ _ h => h) (fun _ _ h => HTT.out _ h.1) (fun q => FuS2.clo wr n1 l q) (fun wz hS => by obtain ⟨q, w', hr, hK⟩ := hS.app HLL1.out (fun _ => ⟨g, 0, rfl, HROW.out.1.below (HTT.out _ hS.1) HROW.out.2⟩) HK.out.2.1 HK.out.2.2 _; exact ⟨q, w', exec_append (.tmp 16) (.tmp 17) rfl rfl rfl hr, hK⟩)) (fun qa => ?_)
   simp only [Zp, Zq, Zr, Zs]
   refine WpX.oneD 11 (some 26) rfl rfl (by kernel_rfl) (fun q : Nat × Nat => Value.slice (some ⟨q.1, 0, none⟩) (n1 + kz) q.2) (fun _ => FuT w) (fun q => FuS2 wr (n1 + kz) (l ++ List.replicate kz 0) q) (Turns.val rfl (fun _ _ h => h) (fun _ _ h => HTT.out _ h.1) (fun q => FuS2.clo wr (n1 + kz) (l ++ List.replicate kz 0) q) (fun wz hS => by obtain ⟨q, w', hr, hK⟩ := hS.pad HLL1.out HK.out.1 _; exact ⟨q, w', exec_append_z (.tmp 18) (.tmp 25) rfl rfl rfl hr, hK⟩)) (fun qb => ?_)
   simp only [Zp, Zq, Zr, Zs]
   refine WpX.oneD 12 (some 27) rfl rfl (by kernel_rfl) (fun b : Nat => Value.slice (some ⟨b, 0, none⟩) 1 1) (fun _ => FuT w) (fun sb => FuS4 wr (n1 + kz) (l ++ List.replicate kz 0) qb sb) (Turns.val rfl (fun _ _ h => h) (fun _ _ h => HTT.out _ h.1.1) (fun sb => FuS4.clo wr (n1 + kz) (l ++ List.replicate kz 0) qb sb) (fun wz hS => ⟨wz.heap.size, wz.alloc (.cells #[.slice (some ⟨qb.1, 0, none⟩) (n1 + kz) qb.2] 24), by go_simp; try (with_reducible rfl), hS.mk4⟩)) (fun sb => ?_)
   simp only [Zp, Zq, Zr, Zs]
   refine WpX.oneD 13 (some 28) rfl rfl (by kernel_rfl) (fun q : Nat × Nat => Value.slice (some ⟨q.1, 0, none⟩) (i + 1) q.2) (fun _ => FuT w) (fun q => FuI w (us ++ [.slice (some ⟨qb.1, 0, none⟩) (n1 + kz) qb.2]) (((ls.take i).map fun l => l ++ List.replicate kz 0) ++ [l ++ List.replicate kz 0]) (.slice (some ⟨q.1, 0, none⟩) (i + 1) q.2) (i + 1)) (Turns.val rfl (fun _ _ h => h) (fun _ _ h => h.bl) (fun q => fun _ _ h hb => h.call hb) (fun wz hS => by obtain ⟨q, w', hr, hK⟩ := hS.app HFI.out (by rw [List.length_append, List.length_replicate, HLL1.out]) (by have := HN2.out; omega) _; exact ⟨q, w', exec_append_S (.tmp 15) (.tmp 27) rfl rfl rfl hr, hK⟩)) (fun q => ?_)
   simp only [Zp, Zq, Zr, Zs]
   refine WpX.done (by kernel_rfl) (fun w5 hS => ?_)
   (try simp only [List.drop_succ_cons]); (try simp only [List.drop_zero]); (try simp only [Nat.reduceSub]); (try simp only [List.take_succ_cons]); (try simp only [List.take_zero])
   have HS := Lib.hid hS
   clear hS
   have hn10 : n ≤ 1000 := HN2.out
   go_wp2_with fail
   go_roundw
   case rel =>
    refine ⟨i + 1, us ++ [.slice (some ⟨qb.1, 0, none⟩) (n1 + kz) qb.2], by omega, by go_num, ?_⟩
    have h := HS.out
    have ht : (ls.take (i + 1)).map (fun l => l ++ List.replicate kz 0) = ((ls.take i).map fun l => l ++ List.replicate kz 0) ++ [l ++ List.replicate kz 0] := by
     rw [List.take_add_one, HLI.out]
     simp
    rw [ht]
    exact h
   case measure => simp [intOf]; omega
  ·obtain rfl : i = n := by omega
   have HF := Lib.hid hFI
   clear hFI
   go_wp2_with fail
   go_ret
   have h1 := HF.out
   rw [List.take_of_length_le (Nat.le_of_eq HLN.out)] at h1
   refine ⟨_, us, rfl, ?_⟩
   rw [List.length_map, HLN.out]
   exact h1
end

end Go.Proofs.YtfbfbijkkbflkaaGreatDoor

namespace Go.Proofs.YtfbfbijkkbflkaaGreatDoor
open Go.RowKit Fm
set_option linter.unusedVariables false
set_option maxRecDepth 100000

theorem own_sliceP {w : World} {base : Nat} {e : TypeId} {size : Nat} {v : Value} {n : Nat} {xs : List Value} (h : w.ownsRow base e size v n xs) (hn : 0 < n) : ∃ g cap, v = .slice (some ⟨g, 0, none⟩) n cap := by
 obtain ⟨m, rfl⟩ : ∃ m, n = m + 1 := ⟨n - 1, by omega⟩
 exact own_slice h

section
variable {f : Nat}
theorem wpList_append_Fu {w : World} {ops : Array Oper} {rest : List Oper} {o : Oper} {a : Act} {Q : Exit → Act → World → Prop} (hgd : o.guard = none) (s x : Operand)
  (ho : o.op = .call { callee := .builtin .append, args := #[s, x], argTypes := #[59, 59] })
  (w0 : World) (us : List Value) (ps : List (KL f)) (v : Value) (i : Nat) (hs : a.eval s = v) (hI : FuI w0 us ps v i w) (sb c : Nat) (u : Value) (l : KL f) (hx : a.eval x = .slice (some ⟨sb, 0, none⟩) 1 c)
  (hcell : w.cell? ⟨sb, 0, none⟩ = some u) (hX : SlX (fun b => v.ownBlock = some b ∨ False) w u l) (hi : i + 1 ≤ 1000000)
  (h : ∀ (q : Nat × Nat) (w' : World), FuI w0 (us ++ [u]) (ps ++ [l]) (.slice (some ⟨q.1, 0, none⟩) (i + 1) q.2) (i + 1) w' → wpList Tryz.prog ops Q rest (a.put o.dst (.slice (some ⟨q.1, 0, none⟩) (i + 1) q.2)) w') : wpList Tryz.prog ops Q (o :: rest) a w := by
 refine wpList_append_S hgd s x ho w0.heap.size v i us hs hI.rows sb c u hx hX.isSl hcell hi hI.bl.size ?_
 intro v' w' hown hg hat
 obtain ⟨g2, c2, rfl⟩ := own_slice hown
 exact h (g2, c2) w' ⟨hown, (hI.ps.snoc hX).grown hg hat, hI.bl.grown hg hI.bl.size (fun k hk => (hI.rows.lt k hk).1)⟩
theorem wpList_append_Zr {w : World} {ops : Array Oper} {rest : List Oper} {o : Oper} {a : Act} {Q : Exit → Act → World → Prop} (hgd : o.guard = none) (s x : Operand)
  (ho : o.op = .call { callee := .builtin .append, args := #[s, x], argTypes := #[24, 3] })
  (base g n c k : Nat) (l : KL f) (hs : a.eval s = .slice (some ⟨g, 0, none⟩) n c) (hx : a.eval x = .int .i64 (k : Int)) (hl : l.length = n) (hown : w.ownsRow base 36 2 (.slice (some ⟨g, 0, none⟩) n c) n (cellsE (esK l))) (hbase : base ≤ w.heap.size) (hk : n + k ≤ 1099511627776)
  (h : ∀ (q : Nat × Nat) (w' : World), w'.ownsRow base 36 2 (.slice (some ⟨q.1, 0, none⟩) (n + k) q.2) (n + k) (cellsE (esK (l ++ List.replicate k 0))) → Below base w w' → wpList Tryz.prog ops Q rest (a.put o.dst (.slice (some ⟨q.1, 0, none⟩) (n + k) q.2)) w') : wpList Tryz.prog ops Q (o :: rest) a w := by
 obtain ⟨g', c', w', hrun, ho2, hE, _⟩ := run_append_Z w base g n c k o.type l hl hown hbase hk
 refine wpList_plain hgd fun K hK => ?_
 unfold Oper.wp execOp
 simp only [ho, resolve, invoke, builtin, Sem.run_bind, Sem.run_pure, Result.andThen_ok, List.map_toArray, List.map_cons, List.map_nil, hs, hx, hrun]
 exact hK _ _ (h (g', c') w' ho2 (hE.belowB2 ((hown.lt g rfl).1) hbase))
theorem wpList_append_Er {w : World} {ops : Array Oper} {rest : List Oper} {o : Oper} {a : Act} {Q : Exit → Act → World → Prop} (hgd : o.guard = none) (s x : Operand)
  (ho : o.op = .call { callee := .builtin .append, args := #[s, x], argTypes := #[24, 24] })
  (base n m : Nat) (v v2 : Value) (l l2 : KL f) (hs : a.eval s = v) (hx : a.eval x = v2) (hl : l.length = n) (hl2 : l2.length = m) (hown : w.ownsRow base 36 2 v n (cellsE (esK l))) (hv2 : SlK w w.heap.size v2 l2) (hbase : base ≤ w.heap.size) (hk : n + m ≤ 1099511627776) (hm : 0 < n + m)
  (h : ∀ (q : Nat × Nat) (w' : World), w'.ownsRow base 36 2 (.slice (some ⟨q.1, 0, none⟩) (n + m) q.2) (n + m) (cellsE (esK (l ++ l2))) → Below base w w' → wpList Tryz.prog ops Q rest (a.put o.dst (.slice (some ⟨q.1, 0, none⟩) (n + m) q.2)) w') : wpList Tryz.prog ops Q (o :: rest) a w := by
 subst hl2
 obtain ⟨A, c, rfl, _, _, hA⟩ := hv2
 refine wpList_append_E hgd s x ho base v n (esK l) hs hown A l2.length c (esK l2) hx (esK_length l2) (fun h0 => ?_) hk hbase ?_
 ·obtain ⟨b, o', k1, _, k3⟩ := hA h0
  exact ⟨b, o', k1, k3⟩
 ·intro v' w' ho2 hg _
  obtain ⟨g2, c2, rfl⟩ := own_sliceP ho2 hm
  rw [← esK_append] at ho2
  exact h (g2, c2) w' ho2 ((Below.refl _ _).grown hg hbase (fun k hk => (hown.lt k hk).1))
end

end Go.Proofs.YtfbfbijkkbflkaaGreatDoor
