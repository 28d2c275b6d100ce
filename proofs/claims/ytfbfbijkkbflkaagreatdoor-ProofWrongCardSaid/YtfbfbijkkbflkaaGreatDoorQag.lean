/-
 DirectC: for ProofWrong.
-/
import Derived.Test.YtfbfbijkkbflkaaGreatDoorQaf
namespace Go.Proofs.YtfbfbijkkbflkaaGreatDoor
open Go.RowKit Fm
set_option linter.unusedVariables false
set_option maxRecDepth 100000

section
variable {f : Nat} (hf : IsF f)
include hf

set_option maxHeartbeats 8000000 in
theorem ref9_DirectK (K : Int) (hK : K = 3 ∨ K = 4 ∨ K = 5) (b : Int) (l m : Nat) (s : Nat) (hs1 : 1 ≤ s) (vl vj : Value) (v j : KL f) (w : World) (hv : SlK w w.heap.size vl v) (hj : SlK w w.heap.size vj j) (hl0 : 1 ≤ v.length) (hl : v.length ≤ 4096) (hjl : ∀ i, i < v.length → i / s < j.length) (hj1 : 1 ≤ j.length) (hj2 : j.length ≤ 4096) (hl64 : l ≤ 64) (hm64 : m ≤ 64) (hvl : l ≤ v.length) (hv5 : K = 5 → l < v.length) (R : Fin (Pm f)) (hR : (K = 3 ∧ R = dirP v j s v.length) ∨ (K = 4 ∧ R = dirP v j s v.length + j.getD (j.length - 1) 0 * (ksum (v.take l) - 1)) ∨ (K = 5 ∧ R = dirP v j s v.length + j.getD (j.length - 1) 0 * (ksum (v.take l) + nK f (offN m) - knum (v.drop l)))) :
  Calls Tryz.prog 86 #[.agg #[.int .i64 K, .int .i64 f, .int .i64 b, .int .i64 l, .int .i64 m, .int .i64 s], vl, vj] w (RetK (R) w) := by
 have HADD := Lib.hid (fun (x y : Fin (Pm f)) wz => ref_AddK hf x y wz)
 have HSUB := Lib.hid (fun (x y : Fin (Pm f)) wz => ref_SubK hf x y wz)
 have HMUL := Lib.hid (fun (x y : Fin (Pm f)) wz => ref_MulK hf x y wz)
 have HSUB1 : Hid (∀ (x : Fin (Pm f)) wz, Calls Tryz.prog 118 #[.int .i64 f, vK x, .agg #[.int .u64 1, .int .u64 0]] wz (RetK (x - 1) wz)) := fun x wz => by
  have h := ref_SubK hf x 1 wz
  rwa [vK_one] at h
 obtain ⟨A, cc, rfl, hcc, hcm, hA⟩ := id hv
 obtain ⟨bi, oi, rfl, hbi, HRI⟩ := hA (by omega)
 obtain ⟨A2, cc2, rfl, hcc2, hcm2, hA2⟩ := id hj
 obtain ⟨bj, oj, rfl, hbj, HRJ⟩ := hA2 (by omega)
 clear hA HRI hbi hA2 HRJ hcc2 hbj
 obtain ⟨n, hn⟩ : ∃ n, v.length = n := ⟨_, rfl⟩
 obtain ⟨nj, hnj⟩ : ∃ n, j.length = n := ⟨_, rfl⟩
 have hv0 := hv
 rw [hn] at hv hl0 hl hjl hcc ⊢
 rw [hnj] at hj hjl hj1 hj2 ⊢
 have HN := Lib.hid hn
 have HNJ := Lib.hid hnj
 have HJL := Lib.hid hjl
 have HV := Lib.hid hv
 have HJ := Lib.hid hj
 have HVL : l ≤ n := by rw [← hn]; exact hvl
 clear hvl
 have hdr : K = 5 → SlK w w.heap.size (.slice (some ⟨bi, oi + l * 2, none⟩) (n - l) (cc - l)) (v.drop l) := fun h5 => by
  have h := SlK.dropN (n := l) hv0 (hv5 h5)
  rwa [hn] at h
 rw [hn, hnj] at hR
 have HR := Lib.hid hR
 have HV5 : Hid (K = 5 → l < n) := by rw [← hn]; exact hv5
 have HDR := Lib.hid hdr
 have hlcc : l ≤ cc := by omega
 have hK1 : (K == 1) = false := by rcases hK with rfl | rfl | rfl <;> rfl
 have hK2 : (K == 2) = false := by rcases hK with rfl | rfl | rfl <;> rfl
 obtain ⟨off, hoff⟩ : ∃ o, offN m = o := ⟨_, rfl⟩
 have hof7 : off < 4294967296 := by
  rw [← hoff]
  unfold offN
  obtain ⟨g1, g2, g3⟩ := bitLen_small m hm64
  have := Nat.pow_le_pow_right (show 0 < 2 by omega) g1
  omega
 have HOFF : Hid (∀ wz, Calls Tryz.prog 119 #[.agg #[.int .i64 K, .int .i64 f, .int .i64 b, .int .i64 l, .int .i64 m, .int .i64 s]] wz (RetI off wz)) := fun wz => by
  have h := ref9_Offset K f b l s m hm64 wz
  rwa [hoff] at h
 have HADDO : Hid (∀ (x : Fin (Pm f)) wz, Calls Tryz.prog 80 #[.int .i64 f, vK x, .agg #[.int .u64 off, .int .u64 0]] wz (RetK (x + nK f off) wz)) := fun x wz => by
  have h := ref_AddK hf x (nK f off) wz
  rwa [vK_eN _ _ (eK_nK hf hof7)] at h
 have HNUM : Hid (∀ (vx : Value) wz, SlK wz wz.heap.size vx (v.drop l) → Calls Tryz.prog 120 #[.int .i64 f, vx] wz (RetK (knum (v.drop l)) wz)) := fun vx wz h => ref9_Number hf vx _ wz h (by rw [List.length_drop]; omega)
 rw [hoff] at HR
 have hwo : IntKind.u64.wrap (off : Int) = (off : Int) := IntWalk.u64_in _ (by omega)
 clear hdr hoff hv0 hR hv5 hK
 clear hn hnj hjl hv hj
 have hfb0 : (1 : Int) ≤ (f : Int) := by rcases hf.or with rfl | rfl <;> omega
 have hfb1 : (f : Int) ≤ 2 := by rcases hf.or with rfl | rfl <;> omega
 go_enter Tryz.func86, Tryz.ntmps86
 go_upto_region 1 with fail
 have hx := (Vs.new w [.int .i64 K, .int .i64 f, .int .i64 b, .int .i64 l, .int .i64 m, .int .i64 s] #[.int .i64 K, .int .i64 f, .int .i64 b, .int .i64 l, .int .i64 m, .int .i64 s] 72 rfl).alloc (.cells #[.int .u64 0, .int .u64 0] 36)
 have s0 := V2.new (w.alloc (.cells #[.int .i64 K, .int .i64 f, .int .i64 b, .int .i64 l, .int .i64 m, .int .i64 s] 72)) (.int .u64 0) (.int .u64 0) 36
 simp only [World.size_alloc] at s0
 have hb00 : Below w.heap.size w ((w.alloc (.cells #[.int .i64 K, .int .i64 f, .int .i64 b, .int .i64 l, .int .i64 m, .int .i64 s] 72)).alloc (.cells #[.int .u64 0, .int .u64 0] 36)) := by repeat (first | exact bA | with_reducible assumption | apply bB)
 have hszn : w.heap.size + 2 ≤ ((w.alloc (.cells #[.int .i64 K, .int .i64 f, .int .i64 b, .int .i64 l, .int .i64 m, .int .i64 s] 72)).alloc (.cells #[.int .u64 0, .int .u64 0] 36)).heap.size := by simp only [World.size_alloc]; omega
 generalize ((w.alloc (.cells #[.int .i64 K, .int .i64 f, .int .i64 b, .int .i64 l, .int .i64 m, .int .i64 s] 72)).alloc (.cells #[.int .u64 0, .int .u64 0] 36)) = w1 at hx s0 hb00 hszn ⊢
 obtain ⟨⟨x0, x1, x2, x3, x4, x5⟩, ⟨x6, x7, x8, x9, x10, x11⟩, x12⟩ := hx.get6
 go_upto_region 3 with fail
 clear x0 x1 x2 x3 x4 x5 x6 x7 x8 x9 x10 x11 x12
 have hone := V2.new w1 (.int .u64 1) (.int .u64 0) 36
 have hbA : Below w1.heap.size w1 (w1.alloc (.cells #[.int .u64 1, .int .u64 0] 36)) := by repeat (first | exact bA | with_reducible assumption | apply bB)
 replace hb00 := bl_call hb00 (Nat.le_refl _) hbA
 replace hx := hx.call hbA
 replace s0 := s0.call hbA
 clear hbA
 generalize w1.alloc (.cells #[.int .u64 1, .int .u64 0] 36) = w2 at hb00 hx s0 hone ⊢
 go_upto_region 4 with fail
 have hs12 : w1.heap.size < w2.heap.size := hone.lt
 have hout := V2.new w2 (.int .u64 0) (.int .u64 0) 36
 have hbA : Below w2.heap.size w2 (w2.alloc (.cells #[.int .u64 0, .int .u64 0] 36)) := by repeat (first | exact bA | with_reducible assumption | apply bB)
 replace hb00 := bl_call hb00 (Nat.le_refl _) hbA
 replace hx := hx.call hbA
 replace s0 := s0.call hbA
 replace hone := hone.call hbA
 clear hbA
 generalize w2.alloc (.cells #[.int .u64 0, .int .u64 0] 36) = w3 at hb00 hx s0 hone hout ⊢
 obtain ⟨b1, hb1⟩ : ∃ q, w1.heap.size = q := ⟨_, rfl⟩
 obtain ⟨b2, hb2⟩ : ∃ q, w2.heap.size = q := ⟨_, rfl⟩
 rw [hb1] at hone hs12 hszn
 rw [hb2] at hout hs12
 simp only [hb1, hb2]
 clear hb1 hb2
 obtain ⟨⟨x0, x1, x2, x3, x4, x5⟩, ⟨x6, x7, x8, x9, x10, x11⟩, x12⟩ := hx.get6
 go_wp2_with fail
 clear x0 x1 x2 x3 x4 x5 x6 x7 x8 x9 x10 x11 x12
 go_loopw [11] (fun i wr => ∃ k : Nat, k ≤ n ∧ i = .int .i64 k ∧ Vs wr w.heap.size [.int .i64 K, .int .i64 f, .int .i64 b, .int .i64 l, .int .i64 m, .int .i64 s] ∧ V2 wr (w.heap.size + 1) (.int .u64 0) (.int .u64 0) ∧ V2 wr b1 (.int .u64 1) (.int .u64 0) ∧
   V2 wr b2 (.int .u64 (lo (dirP v j s k))) (.int .u64 (hi (dirP v j s k))) ∧ Below w.heap.size w wr) (fun i _ => n - (intOf i).toNat)
 case atStart =>
  refine ⟨0, Nat.zero_le _, rfl, hx, s0, hone, ?_, hb00⟩
  rw [dirP_zero, lo_zero, hi_zero]
  exact hout
 case round =>
  clear hx s0 hone hout hb00
  obtain ⟨k, hk, rfl, hx, s0, hone, hout, hbw⟩ := hrel
  have hsz := hbw.size
  by_cases hlt : k < n
  ·obtain ⟨x, hxx⟩ : ∃ e, v[k]? = some e := ⟨_, List.getElem?_eq_getElem (by rw [HN.out]; exact hlt)⟩
   obtain ⟨r, hrr⟩ : ∃ e, j[k / s]? = some e := ⟨_, List.getElem?_eq_getElem (by rw [HNJ.out]; exact HJL.out k hlt)⟩
   have HST : Hid (dirP v j s (k + 1) = dirP v j s k + kpw r (k % s + 1) * (x * (x - 1))) := dirP_succ hxx hrr
   have HX := Lib.hid hxx
   have HR := Lib.hid hrr
   have hjk := HJL.out k hlt
   obtain ⟨p, hp⟩ : ∃ p, k / s = p := ⟨_, rfl⟩
   obtain ⟨q, hq⟩ : ∃ q, k % s = q := ⟨_, rfl⟩
   have hkd : (k : Int).tdiv (s : Int) = (p : Int) := by rw [Int.tdiv_eq_ediv_of_nonneg (by omega), ← hp]; rfl
   have hkm : (k : Int).tmod (s : Int) = (q : Int) := by rw [Int.tmod_eq_emod_of_nonneg (by omega), ← hq]; rfl
   have hpk : p ≤ k := by rw [← hp]; exact Nat.div_le_self _ _
   have hqk : q ≤ k := by rw [← hq]; exact Nat.mod_le _ _
   rw [hp] at HR hjk
   rw [hq] at HST
   clear hxx hrr hp hq
   obtain ⟨a, ha⟩ : ∃ a, dirP v j s k = a := ⟨_, rfl⟩
   rw [ha] at HST hout
   clear ha
   obtain ⟨hbj, d0, d1⟩ := (HJ.out.below hbw).cells HR.out
   have hbjw : bj < wr.heap.size := by omega
   go_upto_region 13 with fail
   clear d0 d1 hbj hbjw
   have hs13 : b2 < wr.heap.size := hout.lt
   have hrb := V2.new wr (.int .u64 (lo r)) (.int .u64 (hi r)) 36
   have hbA : Below wr.heap.size wr (wr.alloc (.cells #[.int .u64 (lo r), .int .u64 (hi r)] 36)) := by repeat (first | exact bA | with_reducible assumption | apply bB)
   replace hbw := bl_call hbw (Nat.le_refl _) hbA
   replace hx := hx.call hbA
   replace s0 := s0.call hbA
   replace hone := hone.call hbA
   replace hout := hout.call hbA
   clear hbA
   generalize wr.alloc (.cells #[.int .u64 (lo r), .int .u64 (hi r)] 36) = w4 at hbw hx s0 hone hout hrb ⊢
   obtain ⟨rb0, rb1, rb2, rb3, rb4⟩ := V2.mk hrb.c0 hrb.c1 hrb.f0 hrb.f1 hrb.lt
   go_upto_region 14 with fail
   clear rb0 rb1 rb2 rb3 rb4
   have hs14 : wr.heap.size < w4.heap.size := hrb.lt
   have hpw := V2.new w4 (.int .u64 (lo r)) (.int .u64 (hi r)) 36
   have hbA : Below w4.heap.size w4 (w4.alloc (.cells #[.int .u64 (lo r), .int .u64 (hi r)] 36)) := by repeat (first | exact bA | with_reducible assumption | apply bB)
   replace hbw := bl_call hbw (Nat.le_refl _) hbA
   replace hx := hx.call hbA
   replace s0 := s0.call hbA
   replace hone := hone.call hbA
   replace hout := hout.call hbA
   replace hrb := hrb.call hbA
   clear hbA
   generalize w4.alloc (.cells #[.int .u64 (lo r), .int .u64 (hi r)] 36) = w5 at hbw hx s0 hone hout hrb hpw ⊢
   obtain ⟨rb, hrbe⟩ : ∃ q, wr.heap.size = q := ⟨_, rfl⟩
   obtain ⟨pb, hpbe⟩ : ∃ q, w4.heap.size = q := ⟨_, rfl⟩
   rw [hrbe] at hrb hs13 hs14 hsz
   rw [hpbe] at hpw hs14
   simp only [hrbe, hpbe]
   clear hrbe hpbe
   go_wp2_with fail
   go_loopw [14] (fun i wi => ∃ t : Nat, t ≤ q ∧ i = .int .i64 t ∧ Vs wi w.heap.size [.int .i64 K, .int .i64 f, .int .i64 b, .int .i64 l, .int .i64 m, .int .i64 s] ∧ V2 wi (w.heap.size + 1) (.int .u64 0) (.int .u64 0) ∧ V2 wi b1 (.int .u64 1) (.int .u64 0) ∧
    V2 wi b2 (.int .u64 (lo a)) (.int .u64 (hi a)) ∧ V2 wi rb (.int .u64 (lo r)) (.int .u64 (hi r)) ∧ V2 wi pb (.int .u64 (lo (kpw r (t + 1)))) (.int .u64 (hi (kpw r (t + 1)))) ∧ Below w.heap.size w wi) (fun i _ => q - (intOf i).toNat)
   case atStart =>
    refine ⟨0, Nat.zero_le _, rfl, hx, s0, hone, hout, hrb, ?_, hbw⟩
    rw [show kpw r (0 + 1) = r by show 1 * r = r; grind]
    exact hpw
   case round =>
    clear hx s0 hone hout hrb hpw hbw
    obtain ⟨t, ht, rfl, hx, s0, hone, hout, hrb, hpw, hbw⟩ := hrel
    by_cases htq : t < q
    ·skip
     obtain ⟨rb0, rb1, rb2, rb3, rb4⟩ := V2.mk hrb.c0 hrb.c1 hrb.f0 hrb.f1 hrb.lt
     obtain ⟨pw0, pw1, pw2, pw3, pw4⟩ := V2.mk hpw.c0 hpw.c1 hpw.f0 hpw.f1 hpw.lt
     go_wp2_with (first
      | (go_at_call 81; refine (HMUL.out (kpw r (t + 1)) r _).mono ?_; rintro e w6 ⟨rfl, hb6⟩; replace hbw := bl_call hbw (Nat.le_refl _) hb6; replace hx := hx.call hb6; replace s0 := s0.call hb6; replace hone := hone.call hb6; replace hout := hout.call hb6; replace hrb := hrb.call hb6; replace hpw := hpw.call hb6; clear rb0 rb1 rb2 rb3 rb4 pw0 pw1 pw2 pw3 pw4; clear hb6; obtain ⟨rb0, rb1, rb2, rb3, rb4⟩ := V2.mk hrb.c0 hrb.c1 hrb.f0 hrb.f1 hrb.lt; obtain ⟨pw0, pw1, pw2, pw3, pw4⟩ := V2.mk hpw.c0 hpw.c1 hpw.f0 hpw.f1 hpw.lt))
     go_roundw
     case rel => exact ⟨t + 1, by omega, by go_num, (hx.far (by dsimp only; omega) _).far (by dsimp only; omega) _, V2.oth s0 (by omega) _ _, V2.oth hone (by omega) _ _, V2.oth hout (by omega) _ _, V2.oth hrb (by omega) _ _, V2.set hpw _ _, by repeat (first | exact bA | with_reducible assumption | apply bB | (refine bC ?_ (by dsimp only; omega)) | apply bD | apply bE | (refine bF ?_ (by assumption)))⟩
     case measure => simp [intOf]; omega
    obtain rfl : t = q := by omega
    have hsz2 := hbw.size
    obtain ⟨hbi, d0, d1⟩ := (HV.out.below hbw).cells HX.out
    have hbiw : bi < wr.heap.size := by omega
    have hpbw : pb < wr.heap.size := hpw.lt
    go_upto_region 18 with fail
    obtain ⟨one0, one1, one2, one3, one4⟩ := V2.mk hone.c0 hone.c1 hone.f0 hone.f1 hone.lt
    have hNew := newE_stable (wr.heap.size)
    refine region_N (n := 14) (m := 15) (f := 14) 13 15 (NewE (wr.heap.size)) (by kernel_rfl) (by kernel_rfl) rfl ?_
    refine WpH.takeND hNew 0 (some 68) (v := ?_) rfl rfl (by kernel_rfl) rfl rfl (fun _ _ _ h => h) (.val rfl (fun wz hwz => ?_)) ?_
    rotate_left
    ·go_simp; try (with_reducible rfl)
    simp only [Zp, Zq, Zr, Zs]
    refine WpH.takeND hNew 1 (some 69) (v := ?_) rfl rfl (by kernel_rfl) rfl rfl (fun _ _ _ h => h) (.val rfl (fun wz hwz => ?_)) ?_
    rotate_left
    ·go_simp; try (with_reducible rfl)
    simp only [Zp, Zq, Zr, Zs]
    refine WpH.takeND hNew 2 (some 70) (v := ?_) rfl rfl (by kernel_rfl) rfl rfl (fun _ _ _ h => h) (.val rfl (fun wz hwz => ?_)) ?_
    rotate_left
    ·go_simp; try (with_reducible rfl)
    simp only [Zp, Zq, Zr, Zs]
    refine WpH.takeND hNew 3 (some 71) (v := ?_) rfl rfl (by kernel_rfl) rfl rfl (fun _ _ _ h => h) (.val rfl (fun wz hwz => ?_)) ?_
    rotate_left
    ·go_simp; try (with_reducible rfl)
    simp only [Zp, Zq, Zr, Zs]
    refine WpH.takeND hNew 4 (some 72) (v := ?_) rfl rfl (by kernel_rfl) rfl rfl (fun _ _ _ h => h) (.val rfl (fun wz hwz => ?_)) ?_
    rotate_left
    ·(obtain ⟨hcz, hfz⟩ := bcell hwz; go_simp; try (with_reducible rfl))
    simp only [Zp, Zq, Zr, Zs]
    refine WpH.takeND hNew 5 (some 73) (v := ?_) rfl rfl (by kernel_rfl) rfl rfl (fun _ _ _ h => h) (.val rfl (fun wz hwz => ?_)) ?_
    rotate_left
    ·go_simp; try (with_reducible rfl)
    simp only [Zp, Zq, Zr, Zs]
    refine WpH.takeND hNew 6 (some 74) (v := ?_) rfl rfl (by kernel_rfl) rfl rfl (fun _ _ _ h => h) (.val rfl (fun wz hwz => ?_)) ?_
    rotate_left
    ·go_simp; try (with_reducible rfl)
    simp only [Zp, Zq, Zr, Zs]
    refine WpH.takeND hNew 7 (some 75) (v := ?_) rfl rfl (by kernel_rfl) rfl rfl (fun _ _ _ h => h) (.val rfl (fun wz hwz => ?_)) ?_
    rotate_left
    ·go_simp; try (with_reducible rfl)
    simp only [Zp, Zq, Zr, Zs]
    refine WpH.takeND hNew 8 (some 76) (v := ?_) rfl rfl (by kernel_rfl) rfl rfl (fun _ _ _ h => h) (.val rfl (fun wz hwz => ?_)) ?_
    rotate_left
    ·go_simp; try (with_reducible rfl)
    simp only [Zp, Zq, Zr, Zs]
    refine WpH.takeND hNew 9 (some 77) (v := ?_) rfl rfl (by kernel_rfl) rfl rfl (fun _ _ _ h => h) (.val rfl (fun wz hwz => ?_)) ?_
    rotate_left
    ·(obtain ⟨hcz, hfz⟩ := bcell hwz; go_simp; try (with_reducible rfl))
    simp only [Zp, Zq, Zr, Zs]
    refine WpH.takeND hNew 10 (some 78) (v := ?_) rfl rfl (by kernel_rfl) rfl rfl (fun _ _ _ h => h) (.val rfl (fun wz hwz => ?_)) ?_
    rotate_left
    ·(obtain ⟨hcz, hfz⟩ := bcell hwz; go_simp; try (with_reducible rfl))
    simp only [Zp, Zq, Zr, Zs]
    refine WpH.takeND hNew 11 (some 79) rfl rfl (by kernel_rfl) rfl rfl (fun _ _ _ h => h) (.call rfl (fun wz hwz => HSUB1.out x wz) (fun wz hwz => ?_)) ?_
    ·go_simp; try (with_reducible rfl)
    simp only [Zp, Zq, Zr, Zs]
    refine WpH.takeND hNew 12 (some 80) rfl rfl (by kernel_rfl) rfl rfl (fun _ _ _ h => h) (.call rfl (fun wz hwz => HMUL.out x (x - 1) wz) (fun wz hwz => ?_)) ?_
    ·go_simp; try (with_reducible rfl)
    simp only [Zp, Zq, Zr, Zs]
    refine WpH.one (i := 13) (by kernel_rfl) (fun w2 hw2 => ?_)
    refine wpOp_valueD (some 15) rfl rfl rfl (by go_simp; first | rfl | exact ⟨rfl, rfl⟩) ⟨⟨hw2.1.trans (((Below.refl _ _).alloc (Nat.le_refl _) _).mono hw2.1.size), fun _ => ⟨_, rfl, (by have hsz2 := hw2.1.size; (try simp only [World.size_alloc] at hsz2); omega), V2.new _ _ _ _⟩⟩, ?_⟩
    simp only [Zp, Zq, Zr, Zs]
    refine WpH.done (by kernel_rfl) (fun w6 hw6n => ?_)
    obtain ⟨hw6, hnw6⟩ := hw6n
    obtain ⟨xb, hbew6, hBxb, hVxb⟩ := hnw6 rfl
    simp at hbew6
    rw [hbew6]
    clear hNew hnw6 hw2 hbew6 w2
    (try simp only [List.drop_succ_cons]); (try simp only [List.drop_zero]); (try simp only [Nat.reduceSub]); (try simp only [List.take_succ_cons]); (try simp only [List.take_zero])
    clear one0 one1 one2 one3 one4
    clear d0 d1 hbi hbiw
    replace hbw := bl_call hbw (Nat.le_refl _) hw6
    replace hx := hx.call hw6
    replace s0 := s0.call hw6
    replace hone := hone.call hw6
    replace hout := hout.call hw6
    replace hrb := hrb.call hw6
    replace hpw := hpw.call hw6
    clear hw6
    generalize x * (x - 1) = y at *
    obtain ⟨Vxb0, Vxb1, Vxb2, Vxb3, Vxb4⟩ := V2.mk hVxb.c0 hVxb.c1 hVxb.f0 hVxb.f1 hVxb.lt
    go_upto_region 19 with fail
    clear Vxb0 Vxb1 Vxb2 Vxb3 Vxb4
    replace hx := (hx.far (p := ⟨xb, 0, none⟩) (by dsimp only; omega) (.int .u64 (lo y))).far (p := ⟨xb, 1, none⟩) (by dsimp only; omega) (.int .u64 (hi y))
    replace s0 := V2.oth s0 (b := xb) (by omega) (.int .u64 (lo y)) (.int .u64 (hi y))
    replace hone := V2.oth hone (b := xb) (by omega) (.int .u64 (lo y)) (.int .u64 (hi y))
    replace hout := V2.oth hout (b := xb) (by omega) (.int .u64 (lo y)) (.int .u64 (hi y))
    replace hpw := V2.oth hpw (b := xb) (by omega) (.int .u64 (lo y)) (.int .u64 (hi y))
    replace hVxb := V2.set hVxb (.int .u64 (lo y)) (.int .u64 (hi y))
    replace hbw := bl_st hbw (b := xb) (by omega) (.int .u64 (lo y)) (.int .u64 (hi y))
    clear hrb
    generalize (w6.setCell ⟨xb, 0, none⟩ (.int .u64 (lo y))).setCell ⟨xb, 1, none⟩ (.int .u64 (hi y)) = w7 at *
    obtain ⟨out0, out1, out2, out3, out4⟩ := V2.mk hout.c0 hout.c1 hout.f0 hout.f1 hout.lt
    obtain ⟨pw0, pw1, pw2, pw3, pw4⟩ := V2.mk hpw.c0 hpw.c1 hpw.f0 hpw.f1 hpw.lt
    obtain ⟨Vxb0, Vxb1, Vxb2, Vxb3, Vxb4⟩ := V2.mk hVxb.c0 hVxb.c1 hVxb.f0 hVxb.f1 hVxb.lt
    refine region_B (n := 7) (m := 8) (f := 7) (by kernel_rfl) (by kernel_rfl) rfl ?_
    refine WpH.vD 0 (some 81) ?_ rfl rfl (by kernel_rfl) (fun _ _ _ h => h) rfl (fun wz hwz => ?_) ?_
    rotate_left
    ·go_simp; try (with_reducible rfl)
    simp only [Zp, Zq, Zr, Zs]
    refine WpH.vD 1 (some 82) ?_ rfl rfl (by kernel_rfl) (fun _ _ _ h => h) rfl (fun wz hwz => ?_) ?_
    rotate_left
    ·(obtain ⟨hcz, hfz⟩ := bcell hwz; go_simp; try (with_reducible rfl))
    simp only [Zp, Zq, Zr, Zs]
    refine WpH.vD 2 (some 83) ?_ rfl rfl (by kernel_rfl) (fun _ _ _ h => h) rfl (fun wz hwz => ?_) ?_
    rotate_left
    ·go_simp; try (with_reducible rfl)
    simp only [Zp, Zq, Zr, Zs]
    refine WpH.vD 3 (some 84) ?_ rfl rfl (by kernel_rfl) (fun _ _ _ h => h) rfl (fun wz hwz => ?_) ?_
    rotate_left
    ·(obtain ⟨hcz, hfz⟩ := bcell hwz; go_simp; try (with_reducible rfl))
    simp only [Zp, Zq, Zr, Zs]
    refine WpH.vD 4 (some 85) ?_ rfl rfl (by kernel_rfl) (fun _ _ _ h => h) rfl (fun wz hwz => ?_) ?_
    rotate_left
    ·(obtain ⟨hcz, hfz⟩ := bcell hwz; go_simp; try (with_reducible rfl))
    simp only [Zp, Zq, Zr, Zs]
    refine WpH.takeD 5 (some 86) rfl rfl (by kernel_rfl) (fun _ _ _ h => h) (.call rfl (fun wz hwz => HMUL.out (kpw r (t + 1)) y wz) (fun wz hwz => ?_)) ?_
    ·go_simp; try (with_reducible rfl)
    simp only [Zp, Zq, Zr, Zs]
    refine WpH.takeD 6 (some 87) rfl rfl (by kernel_rfl) (fun _ _ _ h => h) (.call rfl (fun wz hwz => HADD.out a (kpw r (t + 1) * y) wz) (fun wz hwz => ?_)) ?_
    ·go_simp; try (with_reducible rfl)
    simp only [Zp, Zq, Zr, Zs]
    refine WpH.doneB (by kernel_rfl) (fun w8 hw8 => ?_)
    (try simp only [List.drop_succ_cons]); (try simp only [List.drop_zero]); (try simp only [Nat.reduceSub]); (try simp only [List.take_succ_cons]); (try simp only [List.take_zero])
    clear out0 out1 out2 out3 out4 pw0 pw1 pw2 pw3 pw4 Vxb0 Vxb1 Vxb2 Vxb3 Vxb4
    clear hpw hVxb
    replace hbw := bl_call hbw (Nat.le_refl _) hw8
    replace hx := hx.call hw8
    replace s0 := s0.call hw8
    replace hone := hone.call hw8
    replace hout := hout.call hw8
    clear hw8
    obtain ⟨out0, out1, out2, out3, out4⟩ := V2.mk hout.c0 hout.c1 hout.f0 hout.f1 hout.lt
    go_wp2_with fail
    go_roundw
    case rel =>
     refine ⟨k + 1, by omega, by go_num, (hx.far (by dsimp only; omega) _).far (by dsimp only; omega) _, V2.oth s0 (by omega) _ _, V2.oth hone (by omega) _ _, ?_, by repeat (first | exact bA | with_reducible assumption | apply bB | (refine bC ?_ (by dsimp only; omega)) | apply bD | apply bE | (refine bF ?_ (by assumption)))⟩
     rw [HST.out]
     exact V2.set hout _ _
    case measure => simp [intOf]; omega
  ·obtain rfl : k = n := by omega
   rcases HR.out with ⟨rfl, hR3⟩ | h45
   ·have HR3 := Lib.hid hR3
    clear hR3 HR
    obtain ⟨⟨x0, x1, x2, x3, x4, x5⟩, ⟨x6, x7, x8, x9, x10, x11⟩, x12⟩ := hx.get6
    obtain ⟨out0, out1, out2, out3, out4⟩ := V2.mk hout.c0 hout.c1 hout.f0 hout.f1 hout.lt
    obtain ⟨s00, s01, s02, s03, s04⟩ := V2.mk s0.c0 s0.c1 s0.f0 s0.f1 s0.lt
    go_wp2_with fail
    refine bodyPost_ret (results_v2 (b := w.heap.size + 1) (u := .int .u64 (lo (dirP v j s k))) (v := .int .u64 (hi (dirP v j s k))) ?_ rfl rfl) rfl ?_
    ·exact V2.set s0 _ _
    ·exact ⟨by rw [HR3.out], by repeat (first | exact bA | with_reducible assumption | apply bB | (refine bC ?_ (by dsimp only; omega)) | apply bD | apply bE | (refine bF ?_ (by assumption)))⟩
   have hK4 : ¬ K < 4 := by rcases h45 with ⟨h, _⟩ | ⟨h, _⟩ <;> omega
   have HR45 := Lib.hid h45
   clear h45 HR
   generalize dirP v j s k = a at *
   obtain ⟨nq, hnq⟩ : ∃ nq, nj = nq + 1 := ⟨nj - 1, by omega⟩
   have HJQ : Hid (j[nq]? = some (j.getD (nj - 1) 0)) := by
    obtain ⟨jl, hjl⟩ : ∃ x, j[nq]? = some x := ⟨_, List.getElem?_eq_getElem (by rw [HNJ.out]; omega)⟩
    rw [show nj - 1 = nq by omega, getD_of hjl]
    exact hjl
   generalize j.getD (nj - 1) 0 = jl at *
   have hwq : IntKind.i64.wrap (nq : Int) = (nq : Int) := IntWalk.i64_in _ (by omega)
   have hjn : (nj : Int) - 1 = (nq : Int) := by omega
   have hqn : nq < nj := by omega
   clear hnq
   obtain ⟨⟨x0, x1, x2, x3, x4, x5⟩, ⟨x6, x7, x8, x9, x10, x11⟩, x12⟩ := hx.get6
   go_upto_region 23 with fail
   clear x0 x1 x2 x3 x4 x5 x6 x7 x8 x9 x10 x11 x12
   have hs13 : b2 < wr.heap.size := hout.lt
   have hrs := V2.new wr (.int .u64 0) (.int .u64 0) 36
   have hbA : Below wr.heap.size wr (wr.alloc (.cells #[.int .u64 0, .int .u64 0] 36)) := by repeat (first | exact bA | with_reducible assumption | apply bB)
   replace hbw := bl_call hbw (Nat.le_refl _) hbA
   replace hx := hx.call hbA
   replace s0 := s0.call hbA
   replace hone := hone.call hbA
   replace hout := hout.call hbA
   clear hbA
   generalize wr.alloc (.cells #[.int .u64 0, .int .u64 0] 36) = w4 at hbw hx s0 hone hout hrs ⊢
   obtain ⟨rb, hrbe⟩ : ∃ q, wr.heap.size = q := ⟨_, rfl⟩
   rw [hrbe] at hrs hs13 hsz
   simp only [hrbe]
   clear hrbe
   go_wp2_with fail
   go_loopw [17] (fun i wi => ∃ t : Nat, t ≤ l ∧ i = .int .i64 t ∧ Vs wi w.heap.size [.int .i64 K, .int .i64 f, .int .i64 b, .int .i64 l, .int .i64 m, .int .i64 s] ∧ V2 wi (w.heap.size + 1) (.int .u64 0) (.int .u64 0) ∧ V2 wi b1 (.int .u64 1) (.int .u64 0) ∧
    V2 wi b2 (.int .u64 (lo a)) (.int .u64 (hi a)) ∧ V2 wi rb (.int .u64 (lo (ksum (v.take t)))) (.int .u64 (hi (ksum (v.take t)))) ∧ Below w.heap.size w wi) (fun i _ => l - (intOf i).toNat)
   case atStart =>
    refine ⟨0, Nat.zero_le _, rfl, hx, s0, hone, hout, ?_, hbw⟩
    rw [List.take_zero, show ksum ([] : KL f) = 0 from rfl, lo_zero, hi_zero]
    exact hrs
   case round =>
    clear hx s0 hone hout hrs hbw
    obtain ⟨t, ht, rfl, hx, s0, hone, hout, hrs, hbw⟩ := hrel
    have hsz2 := hbw.size
    by_cases htl : t < l
    ·obtain ⟨x, hxx⟩ : ∃ e, v[t]? = some e := ⟨_, List.getElem?_eq_getElem (by rw [HN.out]; omega)⟩
     have HST : Hid (ksum (v.take (t + 1)) = ksum (v.take t) + x) := ksum_take v t x hxx
     have HX := Lib.hid hxx
     clear hxx
     obtain ⟨z, hz⟩ : ∃ z, ksum (v.take t) = z := ⟨_, rfl⟩
     rw [hz] at HST hrs
     clear hz
     obtain ⟨hbi, d0, d1⟩ := (HV.out.below hbw).cells HX.out
     have hbiw : bi < wr.heap.size := by omega
     have htn : t < k := by omega
     obtain ⟨⟨x0, x1, x2, x3, x4, x5⟩, ⟨x6, x7, x8, x9, x10, x11⟩, x12⟩ := hx.get6
     go_upto_region 26 with fail
     obtain ⟨rs0, rs1, rs2, rs3, rs4⟩ := V2.mk hrs.c0 hrs.c1 hrs.f0 hrs.f1 hrs.lt
     refine region_B (n := 7) (m := 8) (f := 7) (by kernel_rfl) (by kernel_rfl) rfl ?_
     refine WpH.vD 0 (some 98) ?_ rfl rfl (by kernel_rfl) (fun _ _ _ h => h) rfl (fun wz hwz => ?_) ?_
     rotate_left
     ·go_simp; try (with_reducible rfl)
     simp only [Zp, Zq, Zr, Zs]
     refine WpH.vD 1 (some 99) ?_ rfl rfl (by kernel_rfl) (fun _ _ _ h => h) rfl (fun wz hwz => ?_) ?_
     rotate_left
     ·(obtain ⟨hcz, hfz⟩ := bcell hwz; go_simp; try (with_reducible rfl))
     simp only [Zp, Zq, Zr, Zs]
     refine WpH.vD 2 (some 100) ?_ rfl rfl (by kernel_rfl) (fun _ _ _ h => h) rfl (fun wz hwz => ?_) ?_
     rotate_left
     ·go_simp; try (with_reducible rfl)
     simp only [Zp, Zq, Zr, Zs]
     refine WpH.vD 3 (some 101) ?_ rfl rfl (by kernel_rfl) (fun _ _ _ h => h) rfl (fun wz hwz => ?_) ?_
     rotate_left
     ·go_simp; try (with_reducible rfl)
     simp only [Zp, Zq, Zr, Zs]
     refine WpH.vD 4 (some 102) ?_ rfl rfl (by kernel_rfl) (fun _ _ _ h => h) rfl (fun wz hwz => ?_) ?_
     rotate_left
     ·go_simp; try (with_reducible rfl)
     simp only [Zp, Zq, Zr, Zs]
     refine WpH.vD 5 (some 103) ?_ rfl rfl (by kernel_rfl) (fun _ _ _ h => h) rfl (fun wz hwz => ?_) ?_
     rotate_left
     ·(obtain ⟨hcz, hfz⟩ := bcell hwz; go_simp; try (with_reducible rfl))
     simp only [Zp, Zq, Zr, Zs]
     refine WpH.takeD 6 (some 104) rfl rfl (by kernel_rfl) (fun _ _ _ h => h) (.call rfl (fun wz hwz => HADD.out z x wz) (fun wz hwz => ?_)) ?_
     ·go_simp; try (with_reducible rfl)
     simp only [Zp, Zq, Zr, Zs]
     refine WpH.doneB (by kernel_rfl) (fun w6 hw6 => ?_)
     (try simp only [List.drop_succ_cons]); (try simp only [List.drop_zero]); (try simp only [Nat.reduceSub]); (try simp only [List.take_succ_cons]); (try simp only [List.take_zero])
     clear x0 x1 x2 x3 x4 x5 x6 x7 x8 x9 x10 x11 x12 rs0 rs1 rs2 rs3 rs4
     clear d0 d1 hbi hbiw
     replace hbw := bl_call hbw (Nat.le_refl _) hw6
     replace hx := hx.call hw6
     replace s0 := s0.call hw6
     replace hone := hone.call hw6
     replace hout := hout.call hw6
     replace hrs := hrs.call hw6
     clear hw6
     obtain ⟨rs0, rs1, rs2, rs3, rs4⟩ := V2.mk hrs.c0 hrs.c1 hrs.f0 hrs.f1 hrs.lt
     go_wp2_with fail
     go_roundw
     case rel =>
      refine ⟨t + 1, by omega, by go_num, (hx.far (by dsimp only; omega) _).far (by dsimp only; omega) _, V2.oth s0 (by omega) _ _, V2.oth hone (by omega) _ _, V2.oth hout (by omega) _ _, ?_, by repeat (first | exact bA | with_reducible assumption | apply bB | (refine bC ?_ (by dsimp only; omega)) | apply bD | apply bE | (refine bF ?_ (by assumption)))⟩
      rw [HST.out]
      exact V2.set hrs _ _
     case measure => simp [intOf]; omega
    obtain rfl : t = l := by omega
    generalize ksum (v.take t) = z at *
    have hrbw : rb < wr.heap.size := hrs.lt
    rcases HR45.out with ⟨rfl, hRR⟩ | ⟨rfl, hRR⟩
    ·skip
     have HRR := Lib.hid hRR
     clear hRR HR45
     obtain ⟨⟨x0, x1, x2, x3, x4, x5⟩, ⟨x6, x7, x8, x9, x10, x11⟩, x12⟩ := hx.get6
     obtain ⟨rs0, rs1, rs2, rs3, rs4⟩ := V2.mk hrs.c0 hrs.c1 hrs.f0 hrs.f1 hrs.lt
     obtain ⟨one0, one1, one2, one3, one4⟩ := V2.mk hone.c0 hone.c1 hone.f0 hone.f1 hone.lt
     go_upto_region 31 with (first
      | (go_at_call 118; refine (HSUB1.out z _).mono ?_; rintro e w6 ⟨rfl, hb6⟩; replace hbw := bl_call hbw (Nat.le_refl _) hb6; replace hx := hx.call hb6; replace s0 := s0.call hb6; replace hone := hone.call hb6; replace hout := hout.call hb6; replace hrs := hrs.call hb6; clear x0 x1 x2 x3 x4 x5 x6 x7 x8 x9 x10 x11 x12 rs0 rs1 rs2 rs3 rs4 one0 one1 one2 one3 one4; clear hb6; obtain ⟨⟨x0, x1, x2, x3, x4, x5⟩, ⟨x6, x7, x8, x9, x10, x11⟩, x12⟩ := hx.get6; obtain ⟨rs0, rs1, rs2, rs3, rs4⟩ := V2.mk hrs.c0 hrs.c1 hrs.f0 hrs.f1 hrs.lt; obtain ⟨one0, one1, one2, one3, one4⟩ := V2.mk hone.c0 hone.c1 hone.f0 hone.f1 hone.lt))
     clear x0 x1 x2 x3 x4 x5 x6 x7 x8 x9 x10 x11 x12 rs0 rs1 rs2 rs3 rs4 one0 one1 one2 one3 one4
     replace hx := (hx.far (p := ⟨rb, 0, none⟩) (by dsimp only; omega) (.int .u64 (lo (z - 1)))).far (p := ⟨rb, 1, none⟩) (by dsimp only; omega) (.int .u64 (hi (z - 1)))
     replace s0 := V2.oth s0 (b := rb) (by omega) (.int .u64 (lo (z - 1))) (.int .u64 (hi (z - 1)))
     replace hone := V2.oth hone (b := rb) (by omega) (.int .u64 (lo (z - 1))) (.int .u64 (hi (z - 1)))
     replace hout := V2.oth hout (b := rb) (by omega) (.int .u64 (lo (z - 1))) (.int .u64 (hi (z - 1)))
     replace hrs := V2.set hrs (.int .u64 (lo (z - 1))) (.int .u64 (hi (z - 1)))
     replace hbw := bl_st hbw (b := rb) (by omega) (.int .u64 (lo (z - 1))) (.int .u64 (hi (z - 1)))
     generalize (w6.setCell ⟨rb, 0, none⟩ (.int .u64 (lo (z - 1)))).setCell ⟨rb, 1, none⟩ (.int .u64 (hi (z - 1))) = w7 at *
     have hsz7 := hbw.size
     obtain ⟨hbj, d0, d1⟩ := (HJ.out.below hbw).cells HJQ.out
     have hbjw : bj < w7.heap.size := by omega
     obtain ⟨out0, out1, out2, out3, out4⟩ := V2.mk hout.c0 hout.c1 hout.f0 hout.f1 hout.lt
     obtain ⟨rs0, rs1, rs2, rs3, rs4⟩ := V2.mk hrs.c0 hrs.c1 hrs.f0 hrs.f1 hrs.lt
     refine region_B (n := 12) (m := 13) (f := 12) (by kernel_rfl) (by kernel_rfl) rfl ?_
     refine WpH.vD 0 (some 128) ?_ rfl rfl (by kernel_rfl) (fun _ _ _ h => h) rfl (fun wz hwz => ?_) ?_
     rotate_left
     ·go_simp; try (with_reducible rfl)
     simp only [Zp, Zq, Zr, Zs]
     refine WpH.vD 1 (some 129) ?_ rfl rfl (by kernel_rfl) (fun _ _ _ h => h) rfl (fun wz hwz => ?_) ?_
     rotate_left
     ·(obtain ⟨hcz, hfz⟩ := bcell hwz; go_simp; try (with_reducible rfl))
     simp only [Zp, Zq, Zr, Zs]
     refine WpH.vD 2 (some 130) ?_ rfl rfl (by kernel_rfl) (fun _ _ _ h => h) rfl (fun wz hwz => ?_) ?_
     rotate_left
     ·go_simp; try (with_reducible rfl)
     simp only [Zp, Zq, Zr, Zs]
     refine WpH.vD 3 (some 131) ?_ rfl rfl (by kernel_rfl) (fun _ _ _ h => h) rfl (fun wz hwz => ?_) ?_
     rotate_left
     ·go_simp; try (with_reducible rfl)
     simp only [Zp, Zq, Zr, Zs]
     refine WpH.vD 4 (some 132) ?_ rfl rfl (by kernel_rfl) (fun _ _ _ h => h) rfl (fun wz hwz => ?_) ?_
     rotate_left
     ·go_simp; try (with_reducible rfl)
     simp only [Zp, Zq, Zr, Zs]
     refine WpH.vD 5 (some 133) ?_ rfl rfl (by kernel_rfl) (fun _ _ _ h => h) rfl (fun wz hwz => ?_) ?_
     rotate_left
     ·go_simp; try (with_reducible rfl)
     simp only [Zp, Zq, Zr, Zs]
     refine WpH.vD 6 (some 134) ?_ rfl rfl (by kernel_rfl) (fun _ _ _ h => h) rfl (fun wz hwz => ?_) ?_
     rotate_left
     ·go_simp; try (with_reducible rfl)
     simp only [Zp, Zq, Zr, Zs]
     refine WpH.vD 7 (some 135) ?_ rfl rfl (by kernel_rfl) (fun _ _ _ h => h) rfl (fun wz hwz => ?_) ?_
     rotate_left
     ·go_simp; try (with_reducible rfl)
     simp only [Zp, Zq, Zr, Zs]
     refine WpH.vD 8 (some 136) ?_ rfl rfl (by kernel_rfl) (fun _ _ _ h => h) rfl (fun wz hwz => ?_) ?_
     rotate_left
     ·(obtain ⟨hcz, hfz⟩ := bcell hwz; go_simp; try (with_reducible rfl))
     simp only [Zp, Zq, Zr, Zs]
     refine WpH.vD 9 (some 137) ?_ rfl rfl (by kernel_rfl) (fun _ _ _ h => h) rfl (fun wz hwz => ?_) ?_
     rotate_left
     ·(obtain ⟨hcz, hfz⟩ := bcell hwz; go_simp; try (with_reducible rfl))
     simp only [Zp, Zq, Zr, Zs]
     refine WpH.takeD 10 (some 138) rfl rfl (by kernel_rfl) (fun _ _ _ h => h) (.call rfl (fun wz hwz => HMUL.out jl (z - 1) wz) (fun wz hwz => ?_)) ?_
     ·go_simp; try (with_reducible rfl)
     simp only [Zp, Zq, Zr, Zs]
     refine WpH.takeD 11 (some 139) rfl rfl (by kernel_rfl) (fun _ _ _ h => h) (.call rfl (fun wz hwz => HADD.out a (jl * (z - 1)) wz) (fun wz hwz => ?_)) ?_
     ·go_simp; try (with_reducible rfl)
     simp only [Zp, Zq, Zr, Zs]
     refine WpH.doneB (by kernel_rfl) (fun w9 hw9 => ?_)
     (try simp only [List.drop_succ_cons]); (try simp only [List.drop_zero]); (try simp only [Nat.reduceSub]); (try simp only [List.take_succ_cons]); (try simp only [List.take_zero])
     replace hbw := bl_call hbw (Nat.le_refl _) hw9
     replace s0 := s0.call hw9
     obtain ⟨s00, s01, s02, s03, s04⟩ := V2.mk s0.c0 s0.c1 s0.f0 s0.f1 s0.lt
     go_wp2_with fail
     refine bodyPost_ret (results_v2 (b := w.heap.size + 1) (u := .int .u64 (lo (a + jl * (z - 1)))) (v := .int .u64 (hi (a + jl * (z - 1)))) ?_ rfl rfl) rfl ?_
     ·exact V2.set s0 _ _
     ·exact ⟨by rw [HRR.out], by repeat (first | exact bA | with_reducible assumption | apply bB | (refine bC ?_ (by dsimp only; omega)) | apply bD | apply bE | (refine bF ?_ (by assumption)))⟩
    ·skip
     have HRR := Lib.hid hRR
     clear hRR HR45
     obtain ⟨⟨x0, x1, x2, x3, x4, x5⟩, ⟨x6, x7, x8, x9, x10, x11⟩, x12⟩ := hx.get6
     obtain ⟨rs0, rs1, rs2, rs3, rs4⟩ := V2.mk hrs.c0 hrs.c1 hrs.f0 hrs.f1 hrs.lt
     obtain ⟨one0, one1, one2, one3, one4⟩ := V2.mk hone.c0 hone.c1 hone.f0 hone.f1 hone.lt
     have hlt5 : t < k := HV5.out rfl
     have hle : t ≤ k := by omega
     have hcn : ¬ cc = t := by omega
     go_upto_region 29 with fail
     refine region_B (n := 7) (m := 8) (f := 7) (by kernel_rfl) (by kernel_rfl) rfl ?_
     refine WpH.vD 0 (some 112) ?_ rfl rfl (by kernel_rfl) (fun _ _ _ h => h) rfl (fun wz hwz => ?_) ?_
     rotate_left
     ·go_simp; try (with_reducible rfl)
     simp only [Zp, Zq, Zr, Zs]
     refine WpH.vD 1 (some 113) ?_ rfl rfl (by kernel_rfl) (fun _ _ _ h => h) rfl (fun wz hwz => ?_) ?_
     rotate_left
     ·(obtain ⟨hcz, hfz⟩ := bcell hwz; go_simp; try (with_reducible rfl))
     simp only [Zp, Zq, Zr, Zs]
     refine WpH.vD 2 (some 114) ?_ rfl rfl (by kernel_rfl) (fun _ _ _ h => h) rfl (fun wz hwz => ?_) ?_
     rotate_left
     ·(obtain ⟨hcz, hfz⟩ := bcell hwz; go_simp; try (with_reducible rfl))
     simp only [Zp, Zq, Zr, Zs]
     refine WpH.takeD 3 (some 115) rfl rfl (by kernel_rfl) (fun _ _ _ h => h) (.call rfl (fun wz hwz => HOFF.out wz) (fun wz hwz => ?_)) ?_
     ·go_simp; try (with_reducible rfl)
     simp only [Zp, Zq, Zr, Zs]
     refine WpH.vD 4 (some 116) ?_ rfl rfl (by kernel_rfl) (fun _ _ _ h => h) rfl (fun wz hwz => ?_) ?_
     rotate_left
     ·go_simp; try (with_reducible rfl)
     simp only [Zp, Zq, Zr, Zs]
     refine WpH.vD 5 (some 117) ?_ rfl rfl (by kernel_rfl) (fun _ _ _ h => h) rfl (fun wz hwz => ?_) ?_
     rotate_left
     ·go_simp; try (with_reducible rfl)
     simp only [Zp, Zq, Zr, Zs]
     refine WpH.takeD 6 (some 118) rfl rfl (by kernel_rfl) (fun _ _ _ h => h) (.call rfl (fun wz hwz => HADDO.out z wz) (fun wz hwz => ?_)) ?_
     ·go_simp; try (with_reducible rfl)
     simp only [Zp, Zq, Zr, Zs]
     refine WpH.doneB (by kernel_rfl) (fun w6 hw6 => ?_)
     (try simp only [List.drop_succ_cons]); (try simp only [List.drop_zero]); (try simp only [Nat.reduceSub]); (try simp only [List.take_succ_cons]); (try simp only [List.take_zero])
     clear x0 x1 x2 x3 x4 x5 x6 x7 x8 x9 x10 x11 x12 rs0 rs1 rs2 rs3 rs4 one0 one1 one2 one3 one4
     replace hbw := bl_call hbw (Nat.le_refl _) hw6
     replace hx := hx.call hw6
     replace s0 := s0.call hw6
     replace hone := hone.call hw6
     replace hout := hout.call hw6
     replace hrs := hrs.call hw6
     clear hw6
     obtain ⟨rs0, rs1, rs2, rs3, rs4⟩ := V2.mk hrs.c0 hrs.c1 hrs.f0 hrs.f1 hrs.lt
     go_upto_region 30 with fail
     clear rs0 rs1 rs2 rs3 rs4
     replace hx := (hx.far (p := ⟨rb, 0, none⟩) (by dsimp only; omega) (.int .u64 (lo (z + nK f off)))).far (p := ⟨rb, 1, none⟩) (by dsimp only; omega) (.int .u64 (hi (z + nK f off)))
     replace s0 := V2.oth s0 (b := rb) (by omega) (.int .u64 (lo (z + nK f off))) (.int .u64 (hi (z + nK f off)))
     replace hone := V2.oth hone (b := rb) (by omega) (.int .u64 (lo (z + nK f off))) (.int .u64 (hi (z + nK f off)))
     replace hout := V2.oth hout (b := rb) (by omega) (.int .u64 (lo (z + nK f off))) (.int .u64 (hi (z + nK f off)))
     replace hrs := V2.set hrs (.int .u64 (lo (z + nK f off))) (.int .u64 (hi (z + nK f off)))
     replace hbw := bl_st hbw (b := rb) (by omega) (.int .u64 (lo (z + nK f off))) (.int .u64 (hi (z + nK f off)))
     generalize (w6.setCell ⟨rb, 0, none⟩ (.int .u64 (lo (z + nK f off)))).setCell ⟨rb, 1, none⟩ (.int .u64 (hi (z + nK f off))) = w7 at *
     have hrbw7 : rb < w7.heap.size := hrs.lt
     obtain ⟨⟨x0, x1, x2, x3, x4, x5⟩, ⟨x6, x7, x8, x9, x10, x11⟩, x12⟩ := hx.get6
     obtain ⟨rs0, rs1, rs2, rs3, rs4⟩ := V2.mk hrs.c0 hrs.c1 hrs.f0 hrs.f1 hrs.lt
     refine region_B (n := 9) (m := 10) (f := 9) (by kernel_rfl) (by kernel_rfl) rfl ?_
     refine WpH.vD 0 (some 119) ?_ rfl rfl (by kernel_rfl) (fun _ _ _ h => h) rfl (fun wz hwz => ?_) ?_
     rotate_left
     ·go_simp; try (with_reducible rfl)
     simp only [Zp, Zq, Zr, Zs]
     refine WpH.vD 1 (some 120) ?_ rfl rfl (by kernel_rfl) (fun _ _ _ h => h) rfl (fun wz hwz => ?_) ?_
     rotate_left
     ·(obtain ⟨hcz, hfz⟩ := bcell hwz; go_simp; try (with_reducible rfl))
     simp only [Zp, Zq, Zr, Zs]
     refine WpH.vD 2 (some 121) ?_ rfl rfl (by kernel_rfl) (fun _ _ _ h => h) rfl (fun wz hwz => ?_) ?_
     rotate_left
     ·go_simp; try (with_reducible rfl)
     simp only [Zp, Zq, Zr, Zs]
     refine WpH.vD 3 (some 122) ?_ rfl rfl (by kernel_rfl) (fun _ _ _ h => h) rfl (fun wz hwz => ?_) ?_
     rotate_left
     ·go_simp; try (with_reducible rfl)
     simp only [Zp, Zq, Zr, Zs]
     refine WpH.vD 4 (some 123) ?_ rfl rfl (by kernel_rfl) (fun _ _ _ h => h) rfl (fun wz hwz => ?_) ?_
     rotate_left
     ·go_simp; try (with_reducible rfl)
     simp only [Zp, Zq, Zr, Zs]
     refine WpH.vD 5 (some 124) ?_ rfl rfl (by kernel_rfl) (fun _ _ _ h => h) rfl (fun wz hwz => ?_) ?_
     rotate_left
     ·(obtain ⟨hcz, hfz⟩ := bcell hwz; go_simp; try (with_reducible rfl))
     simp only [Zp, Zq, Zr, Zs]
     refine WpH.vD 6 (some 125) ?_ rfl rfl (by kernel_rfl) (fun _ _ _ h => h) rfl (fun wz hwz => ?_) ?_
     rotate_left
     ·go_simp; try (with_reducible rfl)
     simp only [Zp, Zq, Zr, Zs]
     refine WpH.takeD 7 (some 126) rfl rfl (by kernel_rfl) (fun _ _ _ h => h) (.call rfl (fun wz hwz => HNUM.out (.slice (some ⟨bi, oi + t * 2, none⟩) (k - t) (cc - t)) wz ((((HDR.out rfl).below hbw).mono hbw.size).later hwz)) (fun wz hwz => ?_)) ?_
     ·go_simp; try (with_reducible rfl)
     simp only [Zp, Zq, Zr, Zs]
     refine WpH.takeD 8 (some 127) rfl rfl (by kernel_rfl) (fun _ _ _ h => h) (.call rfl (fun wz hwz => HSUB.out (z + nK f off) (knum (v.drop t)) wz) (fun wz hwz => ?_)) ?_
     ·go_simp; try (with_reducible rfl)
     simp only [Zp, Zq, Zr, Zs]
     refine WpH.doneB (by kernel_rfl) (fun w6 hw6 => ?_)
     (try simp only [List.drop_succ_cons]); (try simp only [List.drop_zero]); (try simp only [Nat.reduceSub]); (try simp only [List.take_succ_cons]); (try simp only [List.take_zero])
     clear x0 x1 x2 x3 x4 x5 x6 x7 x8 x9 x10 x11 x12 rs0 rs1 rs2 rs3 rs4
     replace hbw := bl_call hbw (Nat.le_refl _) hw6
     replace hx := hx.call hw6
     replace s0 := s0.call hw6
     replace hone := hone.call hw6
     replace hout := hout.call hw6
     replace hrs := hrs.call hw6
     clear hw6
     generalize knum (v.drop t) = y at *
     obtain ⟨rs0, rs1, rs2, rs3, rs4⟩ := V2.mk hrs.c0 hrs.c1 hrs.f0 hrs.f1 hrs.lt
     go_upto_region 31 with fail
     clear rs0 rs1 rs2 rs3 rs4
     replace hx := (hx.far (p := ⟨rb, 0, none⟩) (by dsimp only; omega) (.int .u64 (lo (z + nK f off - y)))).far (p := ⟨rb, 1, none⟩) (by dsimp only; omega) (.int .u64 (hi (z + nK f off - y)))
     replace s0 := V2.oth s0 (b := rb) (by omega) (.int .u64 (lo (z + nK f off - y))) (.int .u64 (hi (z + nK f off - y)))
     replace hone := V2.oth hone (b := rb) (by omega) (.int .u64 (lo (z + nK f off - y))) (.int .u64 (hi (z + nK f off - y)))
     replace hout := V2.oth hout (b := rb) (by omega) (.int .u64 (lo (z + nK f off - y))) (.int .u64 (hi (z + nK f off - y)))
     replace hrs := V2.set hrs (.int .u64 (lo (z + nK f off - y))) (.int .u64 (hi (z + nK f off - y)))
     replace hbw := bl_st hbw (b := rb) (by omega) (.int .u64 (lo (z + nK f off - y))) (.int .u64 (hi (z + nK f off - y)))
     generalize (w6.setCell ⟨rb, 0, none⟩ (.int .u64 (lo (z + nK f off - y)))).setCell ⟨rb, 1, none⟩ (.int .u64 (hi (z + nK f off - y))) = w8 at *
     have hsz7 := hbw.size
     obtain ⟨hbj, d0, d1⟩ := (HJ.out.below hbw).cells HJQ.out
     have hbjw : bj < w8.heap.size := by omega
     obtain ⟨out0, out1, out2, out3, out4⟩ := V2.mk hout.c0 hout.c1 hout.f0 hout.f1 hout.lt
     obtain ⟨rs0, rs1, rs2, rs3, rs4⟩ := V2.mk hrs.c0 hrs.c1 hrs.f0 hrs.f1 hrs.lt
     refine region_B (n := 12) (m := 13) (f := 12) (by kernel_rfl) (by kernel_rfl) rfl ?_
     refine WpH.vD 0 (some 128) ?_ rfl rfl (by kernel_rfl) (fun _ _ _ h => h) rfl (fun wz hwz => ?_) ?_
     rotate_left
     ·go_simp; try (with_reducible rfl)
     simp only [Zp, Zq, Zr, Zs]
     refine WpH.vD 1 (some 129) ?_ rfl rfl (by kernel_rfl) (fun _ _ _ h => h) rfl (fun wz hwz => ?_) ?_
     rotate_left
     ·(obtain ⟨hcz, hfz⟩ := bcell hwz; go_simp; try (with_reducible rfl))
     simp only [Zp, Zq, Zr, Zs]
     refine WpH.vD 2 (some 130) ?_ rfl rfl (by kernel_rfl) (fun _ _ _ h => h) rfl (fun wz hwz => ?_) ?_
     rotate_left
     ·go_simp; try (with_reducible rfl)
     simp only [Zp, Zq, Zr, Zs]
     refine WpH.vD 3 (some 131) ?_ rfl rfl (by kernel_rfl) (fun _ _ _ h => h) rfl (fun wz hwz => ?_) ?_
     rotate_left
     ·go_simp; try (with_reducible rfl)
     simp only [Zp, Zq, Zr, Zs]
     refine WpH.vD 4 (some 132) ?_ rfl rfl (by kernel_rfl) (fun _ _ _ h => h) rfl (fun wz hwz => ?_) ?_
     rotate_left
     ·go_simp; try (with_reducible rfl)
     simp only [Zp, Zq, Zr, Zs]
     refine WpH.vD 5 (some 133) ?_ rfl rfl (by kernel_rfl) (fun _ _ _ h => h) rfl (fun wz hwz => ?_) ?_
     rotate_left
     ·go_simp; try (with_reducible rfl)
     simp only [Zp, Zq, Zr, Zs]
     refine WpH.vD 6 (some 134) ?_ rfl rfl (by kernel_rfl) (fun _ _ _ h => h) rfl (fun wz hwz => ?_) ?_
     rotate_left
     ·go_simp; try (with_reducible rfl)
     simp only [Zp, Zq, Zr, Zs]
     refine WpH.vD 7 (some 135) ?_ rfl rfl (by kernel_rfl) (fun _ _ _ h => h) rfl (fun wz hwz => ?_) ?_
     rotate_left
     ·go_simp; try (with_reducible rfl)
     simp only [Zp, Zq, Zr, Zs]
     refine WpH.vD 8 (some 136) ?_ rfl rfl (by kernel_rfl) (fun _ _ _ h => h) rfl (fun wz hwz => ?_) ?_
     rotate_left
     ·(obtain ⟨hcz, hfz⟩ := bcell hwz; go_simp; try (with_reducible rfl))
     simp only [Zp, Zq, Zr, Zs]
     refine WpH.vD 9 (some 137) ?_ rfl rfl (by kernel_rfl) (fun _ _ _ h => h) rfl (fun wz hwz => ?_) ?_
     rotate_left
     ·(obtain ⟨hcz, hfz⟩ := bcell hwz; go_simp; try (with_reducible rfl))
     simp only [Zp, Zq, Zr, Zs]
     refine WpH.takeD 10 (some 138) rfl rfl (by kernel_rfl) (fun _ _ _ h => h) (.call rfl (fun wz hwz => HMUL.out jl (z + nK f off - y) wz) (fun wz hwz => ?_)) ?_
     ·go_simp; try (with_reducible rfl)
     simp only [Zp, Zq, Zr, Zs]
     refine WpH.takeD 11 (some 139) rfl rfl (by kernel_rfl) (fun _ _ _ h => h) (.call rfl (fun wz hwz => HADD.out a (jl * (z + nK f off - y)) wz) (fun wz hwz => ?_)) ?_
     ·go_simp; try (with_reducible rfl)
     simp only [Zp, Zq, Zr, Zs]
     refine WpH.doneB (by kernel_rfl) (fun w9 hw9 => ?_)
     (try simp only [List.drop_succ_cons]); (try simp only [List.drop_zero]); (try simp only [Nat.reduceSub]); (try simp only [List.take_succ_cons]); (try simp only [List.take_zero])
     replace hbw := bl_call hbw (Nat.le_refl _) hw9
     replace s0 := s0.call hw9
     obtain ⟨s00, s01, s02, s03, s04⟩ := V2.mk s0.c0 s0.c1 s0.f0 s0.f1 s0.lt
     go_wp2_with fail
     refine bodyPost_ret (results_v2 (b := w.heap.size + 1) (u := .int .u64 (lo (a + jl * (z + nK f off - y)))) (v := .int .u64 (hi (a + jl * (z + nK f off - y)))) ?_ rfl rfl) rfl ?_
     ·exact V2.set s0 _ _
     ·exact ⟨by rw [HRR.out], by repeat (first | exact bA | with_reducible assumption | apply bB | (refine bC ?_ (by dsimp only; omega)) | apply bD | apply bE | (refine bF ?_ (by assumption)))⟩

end

end Go.Proofs.YtfbfbijkkbflkaaGreatDoor
