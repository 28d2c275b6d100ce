/-
 RunMulti: what the statements of this layer share.
-/
import Derived.Test.YtfbfbijkkbflkaaGreatDoorMar
namespace Go.Proofs.YtfbfbijkkbflkaaGreatDoor
open Go.RowKit Fm
set_option linter.unusedVariables false
set_option maxRecDepth 100000

section
variable {f : Nat} (hf : IsF f)
include hf

set_option maxHeartbeats 4000000 in
theorem circuit_Run_multi (l m c : Nat) (hy : (CK.multi l m c).ok) (hcl : (CK.multi l m c).calls ≤ 511) (part : Fin (Pm f)) (sh : Nat) (hsh : sh = 1 ∨ sh = 2) (hpart : part = kinv (nK f sh)) (v j : KL f) (g : Nat) (cap : Array Value) (D : Nat → Prop) (Inv : Nat → (Nat → Prop) → World → Prop) (ans : Nat → Fin (Pm f)) (cd : Int)
  (HA : Asked (.multi l m c) v j part g cap Inv ans cd) (hl : v.length = (CK.multi l m c).nin) (hjl : j.length = (CK.multi l m c).calls + 1) (HC : Hid (∀ wz, Calls Tryz.prog 48 #[.agg #[.int .u8 5, .int .u8 f, .int .i64 0, .int .i64 l, .int .i64 m, .int .i64 c]] wz (RetC 0 wz)))
  (HI : Hid (∀ wz, Calls Tryz.prog 42 #[.agg #[.int .u8 5, .int .u8 f, .int .i64 0, .int .i64 l, .int .i64 m, .int .i64 c]] wz (RetI v.length wz)))
  (HJ : Hid (∀ wz, Calls Tryz.prog 14 #[.agg #[.int .u8 5, .int .u8 f, .int .i64 0, .int .i64 l, .int .i64 m, .int .i64 c]] wz (RetI j.length wz)))
  (vl vj : Value) (w : World) (hin : SlX D w vl v) (hjo : SlX D w vj j) (hinv : St (Inv 0) D w) :
  Calls Tryz.prog 32 #[.agg #[.int .u8 5, .int .u8 f, .int .i64 0, .int .i64 l, .int .i64 m, .int .i64 c], vl, vj, .int .i64 (sh : Int), .func (.func g) #[] cap] w (RetRun (runF (.multi l m c) v j part ans) ((CK.multi l m c).calls) cd Inv D w) := by
 obtain ⟨A, cc, rfl, hcc, hcm, hA⟩ := id hin
 obtain ⟨A2, cc2, rfl, hcc2, hcm2, hA2⟩ := id hjo
 have hn1 : 1 ≤ (CK.multi l m c).calls := CK.calls_pos hy
 have hnin1 := CK.nin_pos hy
 have hnin := CK.nin_le hy
 obtain ⟨bi, oi, rfl, hbi, hni, HR⟩ := hA (by omega)
 obtain ⟨bj, oj, rfl, hbj, hnj, HR2⟩ := hA2 (by omega)
 have HRJ := Lib.hid HR2
 have HCH : Hid (∀ wz, SlX D wz (.slice (some ⟨bi, oi, none⟩) v.length cc) v → SlX D wz (.slice (some ⟨bj, oj, none⟩) j.length cc2) j → St (Inv 0) D wz → Calls Tryz.prog 78 #[.agg #[.int .u8 5, .int .u8 f, .int .i64 0, .int .i64 l, .int .i64 m, .int .i64 c], .slice (some ⟨bi, oi, none⟩) v.length cc, .slice (some ⟨bj, oj, none⟩) j.length cc2, vK part, .func (.func g) #[] cap] wz fun e w' => e = .returned (.tuple #[vK (cdx (acc ans (CK.multi l m c).calls) cd), .int .i64 cd]) ∧ Rd D wz (Jn Inv (CK.multi l m c).calls cd) w') :=
  fun wz h1 h2 h3 => (circuit_chunks hf (.multi l m c) hy (by omega) c hy.2.2.1 hy.2.2.2 rfl v j part (fun _ => rfl) g cap D Inv ans cd HA hn1 hl (by omega) _ _ wz h1 h2 h3).mono fun e w' h => h.uni
 have hlv : l ≤ v.length := by rw [hl]; exact Nat.le_add_right _ _
 have hl64 : l ≤ 64 := hy.1.2
 have HTK : Hid (SlX D w (.slice (some ⟨bi, oi, none⟩) l cc) (v.take l)) := SlX.ofK (hin.toK.takeN hlv _ rfl) hni
 have HSUM : Hid (∀ wz (vx : Value), SlK wz wz.heap.size vx (v.take l) → Calls Tryz.prog 50 #[.int .u8 f, vx] wz (RetK (ksum (v.take l)) wz)) := fun wz vx h => field_SumK hf vx _ wz h (by rw [List.length_take]; omega)
 have HSUB := Lib.hid (fun (x y : Fin (Pm f)) wz => field_SubK hf x y wz)
 have HADD := Lib.hid (fun (x y : Fin (Pm f)) wz => field_AddK hf x y wz)
 have HMUL := Lib.hid (fun (x y : Fin (Pm f)) wz => field_MulK hf x y wz)
 obtain ⟨nq, hnq⟩ : ∃ nq, j.length = nq + 1 := ⟨j.length - 1, by omega⟩
 have hjm : j.length ≤ 4096 := by omega
 obtain ⟨jq, hjq⟩ : ∃ e, j[nq]? = some e := ⟨_, List.getElem?_eq_getElem (by omega)⟩
 have HJQ := Lib.hid hjq
 have HJD : Hid (j.getD (j.length - 1) 0 = jq) := by rw [show j.length - 1 = nq by omega]; exact getD_of hjq
 have hlt2 : l < v.length := by rw [hl]; have := (bitLen_small m (by have := hy.2.1; omega)).2.2 hy.2.1.1; show l < l + Lib.bitLen m; omega
 have HDR : Hid (SlX D w (.slice (some ⟨bi, oi + l * 2, none⟩) (v.length - l) (cc - l)) (v.drop l)) := SlX.ofK (hin.toK.dropN hlt2) hni
 have HNUM : Hid (∀ wz (vx : Value), SlK wz wz.heap.size vx (v.drop l) → Calls Tryz.prog 54 #[.agg #[.int .u8 5, .int .u8 f, .int .i64 0, .int .i64 l, .int .i64 m, .int .i64 c], vx] wz (RetK (knum (v.drop l)) wz)) := fun wz vx h => circuit_number hf 5 0 m c l vx _ wz h (by rw [List.length_drop]; omega)
 have hm64 : m ≤ 64 := by have := hy.2.1; omega
 have HOFF : Hid (∀ wz, Calls Tryz.prog 53 #[.agg #[.int .u8 5, .int .u8 f, .int .i64 0, .int .i64 l, .int .i64 m, .int .i64 c]] wz (RetU (offN m) wz)) := fun wz => circuit_offset 5 f 0 l c m hm64 wz
 have hof7 : offN m < 4294967296 := by
  unfold offN
  obtain ⟨g1, g2, g3⟩ := bitLen_small m hm64
  have := Nat.pow_le_pow_right (show 0 < 2 by omega) g1
  omega
 have HOFK : Hid (∀ wz, Calls Tryz.prog 52 #[.int .u8 f, .int .u64 (offN m : Nat)] wz (RetK (nK f (offN m)) wz)) := fun wz => field_Of hf ((offN m : Nat) : Int) wz (by omega) (by omega)
 have HRES : Hid (runF (.multi l m c) v j part ans = acc ans (CK.multi l m c).calls + jq * (ksum (v.take l) - knum (v.drop l) + nK f (offN m) * part)) := by
  show acc ans (CK.multi l m c).calls + j.getD (j.length - 1) 0 * _ = _
  rw [HJD.out]
 rw [HRES.out]
 generalize (CK.multi l m c).calls = q at *
 obtain ⟨nj, hnj2⟩ : ∃ nj, j.length = nj := ⟨_, rfl⟩
 rw [hnj2] at HCH HJ hjo hnq hjm ⊢
 generalize ksum (v.take l) = ks at *
 have HNQ := Lib.hid hnq
 clear hjq HJD hnq
 generalize knum (v.drop l) = kn at *
 generalize nK f (offN m) = ko at *
 generalize offN m = off at *
 obtain ⟨n, hn⟩ : ∃ n, v.length = n := ⟨_, rfl⟩
 rw [hn] at HCH HI hin hcc hlv hlt2 HDR ⊢
 have HIN := Lib.hid hin
 have HJO := Lib.hid hjo
 have HENT0 := HA.ent
 clear hA hA2 HR HR2 hin hjo hl hn hnj2 hjl hnin hnin1 hn1 hcl hy HRES hcc2 hbi hbj
 have heq := eql_func
 have HENT := HA.ent
 obtain ⟨xs, hO, hV⟩ := part_of hf sh hsh
 rw [← hpart] at hV
 have HO := Lib.hid hO
 have HV := Lib.hid hV
 have hsh0 : (0 : Int) ≤ (sh : Int) ∧ (sh : Int) ≤ 2 := by omega
 have hmx : max (sh : Int) 0 = (sh : Int) := by omega
 have hws : IntKind.u64.wrap (sh : Int) = (sh : Int) := IntWalk.u64_in _ (by omega)
 clear hO hV hsh hpart
 have hexc : Exc D w.heap.size w w := exc_of (Below.refl _ _)
 have hlt0 := hinv.lt
 have hfb0 : (1 : Int) ≤ (f : Int) := by rcases hf.or with rfl | rfl <;> omega
 have hfb1 : (f : Int) ≤ 2 := by rcases hf.or with rfl | rfl <;> omega
 go_enter Tryz.func32, Tryz.ntmps32
 go_upto_region 1 with fail
 have hx := (Vs.new w [.int .u8 5, .int .u8 f, .int .i64 0, .int .i64 l, .int .i64 m, .int .i64 c] #[.int .u8 5, .int .u8 f, .int .i64 0, .int .i64 l, .int .i64 m, .int .i64 c] 30 rfl).alloc (.cells #[.int .u64 0, .int .u64 0] 36)
 have s0 := V2.new (w.alloc (.cells #[.int .u8 5, .int .u8 f, .int .i64 0, .int .i64 l, .int .i64 m, .int .i64 c] 30)) (.int .u64 0) (.int .u64 0) 36
 simp only [World.size_alloc] at s0
 have hb00 : Below w.heap.size w ((w.alloc (.cells #[.int .u8 5, .int .u8 f, .int .i64 0, .int .i64 l, .int .i64 m, .int .i64 c] 30)).alloc (.cells #[.int .u64 0, .int .u64 0] 36)) := by repeat (first | exact bA | with_reducible assumption | apply bB)
 have hszn : w.heap.size + 2 ≤ ((w.alloc (.cells #[.int .u8 5, .int .u8 f, .int .i64 0, .int .i64 l, .int .i64 m, .int .i64 c] 30)).alloc (.cells #[.int .u64 0, .int .u64 0] 36)).heap.size := by simp only [World.size_alloc]; omega
 generalize ((w.alloc (.cells #[.int .u8 5, .int .u8 f, .int .i64 0, .int .i64 l, .int .i64 m, .int .i64 c] 30)).alloc (.cells #[.int .u64 0, .int .u64 0] 36)) = w1 at hx s0 hb00 hszn ⊢
 replace hinv := hinv.call hb00
 replace hexc := hexc.call hb00
 clear hb00
 obtain ⟨⟨x0, x1, x2, x3, x4, x5⟩, ⟨x6, x7, x8, x9, x10, x11⟩, x12⟩ := hx.get6
 go_upto_region 9 with (first
  | (go_at_call 48; refine (HC.out _).mono ?_; rintro e w2 ⟨rfl, hb2⟩; replace hexc := hexc.call hb2; replace hx := hx.call hb2; replace s0 := s0.call hb2; replace hinv := hinv.call hb2; clear x0 x1 x2 x3 x4 x5 x6 x7 x8 x9 x10 x11 x12; clear hb2; obtain ⟨⟨x0, x1, x2, x3, x4, x5⟩, ⟨x6, x7, x8, x9, x10, x11⟩, x12⟩ := hx.get6)
  | (go_at_call 42; refine (HI.out _).mono ?_; rintro e w3 ⟨rfl, hb3⟩; replace hexc := hexc.call hb3; replace hx := hx.call hb3; replace s0 := s0.call hb3; replace hinv := hinv.call hb3; clear x0 x1 x2 x3 x4 x5 x6 x7 x8 x9 x10 x11 x12; clear hb3; obtain ⟨⟨x0, x1, x2, x3, x4, x5⟩, ⟨x6, x7, x8, x9, x10, x11⟩, x12⟩ := hx.get6)
  | (go_at_call 14; refine (HJ.out _).mono ?_; rintro e w4 ⟨rfl, hb4⟩; replace hexc := hexc.call hb4; replace hx := hx.call hb4; replace s0 := s0.call hb4; replace hinv := hinv.call hb4; clear x0 x1 x2 x3 x4 x5 x6 x7 x8 x9 x10 x11 x12; clear hb4; obtain ⟨⟨x0, x1, x2, x3, x4, x5⟩, ⟨x6, x7, x8, x9, x10, x11⟩, x12⟩ := hx.get6))
 go_upto_region 10 with (first
  | (go_at_call 52; refine (HO.out _).mono ?_; rintro e w5 ⟨rfl, hb5⟩; replace hexc := hexc.call hb5; replace hx := hx.call hb5; replace s0 := s0.call hb5; replace hinv := hinv.call hb5; clear x0 x1 x2 x3 x4 x5 x6 x7 x8 x9 x10 x11 x12; clear hb5; obtain ⟨⟨x0, x1, x2, x3, x4, x5⟩, ⟨x6, x7, x8, x9, x10, x11⟩, x12⟩ := hx.get6)
  | (go_at_call 76; refine (HV.out _).mono ?_; rintro e w6 ⟨rfl, hb6⟩; replace hexc := hexc.call hb6; replace hx := hx.call hb6; replace s0 := s0.call hb6; replace hinv := hinv.call hb6; clear x0 x1 x2 x3 x4 x5 x6 x7 x8 x9 x10 x11 x12; clear hb6; obtain ⟨⟨x0, x1, x2, x3, x4, x5⟩, ⟨x6, x7, x8, x9, x10, x11⟩, x12⟩ := hx.get6))
 clear x0 x1 x2 x3 x4 x5 x6 x7 x8 x9 x10 x11 x12
 have hs6 := hexc.size
 have hs61 : w.heap.size + 1 < w6.heap.size := s0.lt
 have hpt := V2.new w6 (.int .u64 (lo part)) (.int .u64 (hi part)) 36
 have hbA : Below w6.heap.size w6 (w6.alloc (.cells #[.int .u64 (lo part), .int .u64 (hi part)] 36)) := by repeat (first | exact bA | with_reducible assumption | apply bB)
 replace hexc := hexc.call hbA
 replace hx := hx.call hbA
 replace s0 := s0.call hbA
 replace hinv := hinv.call hbA
 clear hbA
 generalize w6.alloc (.cells #[.int .u64 (lo part), .int .u64 (hi part)] 36) = w7 at hexc hx s0 hinv hpt ⊢
 have hs67 : w6.heap.size < w7.heap.size := hpt.lt
 obtain ⟨bp, hbpe⟩ : ∃ bp, w6.heap.size = bp := ⟨_, rfl⟩
 rw [hbpe] at hpt hs6 hs61 hs67
 simp only [hbpe]
 clear hbpe HO HV HC HI HJ
 obtain ⟨rb, hrb⟩ : ∃ z, cdx (acc ans q) cd = z := ⟨_, rfl⟩
 rw [hrb] at HCH
 have HRB := Lib.hid hrb
 clear hrb
 have hsz7 := hexc.size
 obtain ⟨⟨x0, x1, x2, x3, x4, x5⟩, ⟨x6, x7, x8, x9, x10, x11⟩, x12⟩ := hx.get6
 obtain ⟨pt0, pt1, pt2, pt3, pt4⟩ := V2.mk hpt.c0 hpt.c1 hpt.f0 hpt.f1 hpt.lt
 go_wp2_with fail
 clear x0 x1 x2 x3 x4 x5 x6 x7 x8 x9 x10 x11 x12 pt0 pt1 pt2 pt3 pt4
 refine (HCH.out w7 (HIN.out.exc hexc) (HJO.out.exc hexc) hinv).mono ?_
 rintro e w8 ⟨rfl, hR⟩
 clear HCH hinv
 replace hx := hx.exc (fun h => by have := hlt0 _ h; omega) hR.1
 replace s0 := s0.exc (fun h => by have := hlt0 _ h; omega) hR.1
 have hnp : ¬ D bp := fun h => by have := hlt0 _ h; omega
 replace hpt := hpt.exc hnp hR.1
 have hsz8 := hR.1.size
 have hb7 : w.heap.size + 1 < w7.heap.size := by omega
 go_upto_region 21 with fail
 have hob := V2.new w8 (.int .u64 (lo rb)) (.int .u64 (hi rb)) 36
 have hbA : Below w8.heap.size w8 (w8.alloc (.cells #[.int .u64 (lo rb), .int .u64 (hi rb)] 36)) := by repeat (first | exact bA | with_reducible assumption | apply bB)
 replace hR := hR.call hbA
 replace hx := hx.call hbA
 replace s0 := s0.call hbA
 replace hpt := hpt.call hbA
 clear hbA
 generalize w8.alloc (.cells #[.int .u64 (lo rb), .int .u64 (hi rb)] 36) = w9 at hR hx s0 hpt hob ⊢
 obtain ⟨bo, hbo⟩ : ∃ bo, w8.heap.size = bo := ⟨_, rfl⟩
 rw [hbo] at hob
 simp only [hbo]
 by_cases hcd : cd = 0
 rotate_left
 ·have hcd1 : (cd == 0) = false := by simpa using hcd
  have hcd2 : (cd != 0) = true := by simpa using hcd
  replace HRB : Hid (cdx (acc ans q + jq * (ks - kn + ko * part)) cd = rb) := by rw [← HRB.out]; unfold cdx; rw [if_neg hcd, if_neg hcd]; exact (rfl : (0 : Fin (Pm f)) = 0)
  obtain ⟨⟨x0, x1, x2, x3, x4, x5⟩, ⟨x6, x7, x8, x9, x10, x11⟩, x12⟩ := hx.get6
  obtain ⟨ob0, ob1, ob2, ob3, ob4⟩ := V2.mk hob.c0 hob.c1 hob.f0 hob.f1 hob.lt
  obtain ⟨s00, s01, s02, s03, s04⟩ := V2.mk s0.c0 s0.c1 s0.f0 s0.f1 s0.lt
  go_wp2_with fail
  refine bodyPost_ret (results_v2_tmp (b := w.heap.size + 1) (u := .int .u64 (lo rb)) (v := .int .u64 (hi rb)) ?_ rfl rfl) rfl ?_
  ·exact V2.set s0 _ _
  ·refine RetRun.ofUni ?_ ?_
   ·show Ending.returned (.tuple #[vK rb, .int .i64 _]) = _
    rw [HRB.out]
   ·exact hR.fin (b := w.heap.size + 1) hexc (by omega) hb7 (fun h => by have := hlt0 _ h; omega) _ _
 subst hcd
 have hrb1 : rb = acc ans q := by rw [← HRB.out]; rfl
 subst hrb1
 clear HRB
 generalize acc ans q = ac at *
 have hexc9 : Exc D w.heap.size w w9 := hexc.more hR.1 fun _ h => .inl h
 have HT9 := Lib.hid ((HTK.out.exc hexc9).toK)
 obtain ⟨D1, hst, hD1⟩ := hR.2
 replace hst : St (Inv q) D1 w9 := hst
 have hE := hR.1
 clear hR
 have hobl := hob.lt
 have hszz := hE.size
 have hlc : l ≤ cc := by omega
 obtain ⟨⟨x0, x1, x2, x3, x4, x5⟩, ⟨x6, x7, x8, x9, x10, x11⟩, x12⟩ := hx.get6
 go_upto_region 23 with fail
 obtain ⟨pt0, pt1, pt2, pt3, pt4⟩ := V2.mk hpt.c0 hpt.c1 hpt.f0 hpt.f1 hpt.lt
 have hNew := newE_stable (w9.heap.size)
 refine region_N (n := 10) (m := 11) (f := 10) 9 19 (NewE (w9.heap.size)) (by kernel_rfl) (by kernel_rfl) rfl ?_
 refine WpH.takeND hNew 0 (some 113) (v := ?_) rfl rfl (by kernel_rfl) rfl rfl (fun _ _ _ h => h) (.val rfl (fun wz hwz => ?_)) ?_
 rotate_left
 ·go_simp; try (with_reducible rfl)
 simp only [Zp, Zq, Zr, Zs]
 refine WpH.takeND hNew 1 (some 114) (v := ?_) rfl rfl (by kernel_rfl) rfl rfl (fun _ _ _ h => h) (.val rfl (fun wz hwz => ?_)) ?_
 rotate_left
 ·go_simp; try (with_reducible rfl)
 simp only [Zp, Zq, Zr, Zs]
 refine WpH.takeND hNew 2 (some 115) (v := ?_) rfl rfl (by kernel_rfl) rfl rfl (fun _ _ _ h => h) (.val rfl (fun wz hwz => ?_)) ?_
 rotate_left
 ·go_simp; try (with_reducible rfl)
 simp only [Zp, Zq, Zr, Zs]
 refine WpH.takeND hNew 3 (some 116) (v := ?_) rfl rfl (by kernel_rfl) rfl rfl (fun _ _ _ h => h) (.val rfl (fun wz hwz => ?_)) ?_
 rotate_left
 ·go_simp; try (with_reducible rfl)
 simp only [Zp, Zq, Zr, Zs]
 refine WpH.takeND hNew 4 (some 117) (v := ?_) rfl rfl (by kernel_rfl) rfl rfl (fun _ _ _ h => h) (.val rfl (fun wz hwz => ?_)) ?_
 rotate_left
 ·(obtain ⟨hcz, hfz⟩ := bcell hwz; go_simp; try (with_reducible rfl))
 simp only [Zp, Zq, Zr, Zs]
 refine WpH.takeND hNew 5 (some 118) (v := ?_) rfl rfl (by kernel_rfl) rfl rfl (fun _ _ _ h => h) (.val rfl (fun wz hwz => ?_)) ?_
 rotate_left
 ·go_simp; try (with_reducible rfl)
 simp only [Zp, Zq, Zr, Zs]
 refine WpH.takeND hNew 6 (some 119) rfl rfl (by kernel_rfl) rfl rfl (fun _ _ _ h => h) (.call rfl (fun wz hwz => HSUM.out wz (.slice (some ⟨bi, oi, none⟩) l cc) (HT9.out.later hwz)) (fun wz hwz => ?_)) ?_
 ·go_simp; try (with_reducible rfl)
 simp only [Zp, Zq, Zr, Zs]
 refine WpH.takeND hNew 7 (some 120) (v := ?_) rfl rfl (by kernel_rfl) rfl rfl (fun _ _ _ h => h) (.val rfl (fun wz hwz => ?_)) ?_
 rotate_left
 ·(obtain ⟨hcz, hfz⟩ := bcell hwz; go_simp; try (with_reducible rfl))
 simp only [Zp, Zq, Zr, Zs]
 refine WpH.takeND hNew 8 (some 121) rfl rfl (by kernel_rfl) rfl rfl (fun _ _ _ h => h) (.call rfl (fun wz hwz => HSUB.out ks part wz) (fun wz hwz => ?_)) ?_
 ·go_simp; try (with_reducible rfl)
 simp only [Zp, Zq, Zr, Zs]
 refine WpH.one (i := 9) (by kernel_rfl) (fun w2 hw2 => ?_)
 refine wpOp_valueD (some 19) rfl rfl rfl (by go_simp; first | rfl | exact ⟨rfl, rfl⟩) ⟨⟨hw2.1.trans (((Below.refl _ _).alloc (Nat.le_refl _) _).mono hw2.1.size), fun _ => ⟨_, rfl, (by have hsz2 := hw2.1.size; (try simp only [World.size_alloc] at hsz2); omega), V2.new _ _ _ _⟩⟩, ?_⟩
 simp only [Zp, Zq, Zr, Zs]
 refine WpH.done (by kernel_rfl) (fun w10 hw10n => ?_)
 obtain ⟨hw10, hnw10⟩ := hw10n
 obtain ⟨rs, hbew10, hBrs, hVrs⟩ := hnw10 rfl
 simp at hbew10
 rw [hbew10]
 clear hNew hnw10 hw2 hbew10 w2
 (try simp only [List.drop_succ_cons]); (try simp only [List.drop_zero]); (try simp only [Nat.reduceSub]); (try simp only [List.take_succ_cons]); (try simp only [List.take_zero])
 clear x0 x1 x2 x3 x4 x5 x6 x7 x8 x9 x10 x11 x12 pt0 pt1 pt2 pt3 pt4
 have nrs : ¬ D1 rs := fun h => by have := hst.lt _ h; omega
 replace hE := hE.call hw10
 replace hx := hx.call hw10
 replace s0 := s0.call hw10
 replace hpt := hpt.call hw10
 replace hob := hob.call hw10
 replace hst := hst.call hw10
 have hs10 := hw10.size
 clear hw10
 obtain ⟨Vrs0, Vrs1, Vrs2, Vrs3, Vrs4⟩ := V2.mk hVrs.c0 hVrs.c1 hVrs.f0 hVrs.f1 hVrs.lt
 go_upto_region 24 with fail
 clear Vrs0 Vrs1 Vrs2 Vrs3 Vrs4
 replace hx := (hx.far (p := ⟨rs, 0, none⟩) (by dsimp only; omega) (.int .u64 (lo (ks - part)))).far (p := ⟨rs, 1, none⟩) (by dsimp only; omega) (.int .u64 (hi (ks - part)))
 replace s0 := V2.oth s0 (b := rs) (by omega) (.int .u64 (lo (ks - part))) (.int .u64 (hi (ks - part)))
 replace hpt := V2.oth hpt (b := rs) (by omega) (.int .u64 (lo (ks - part))) (.int .u64 (hi (ks - part)))
 replace hob := V2.oth hob (b := rs) (by omega) (.int .u64 (lo (ks - part))) (.int .u64 (hi (ks - part)))
 replace hVrs := V2.set hVrs (.int .u64 (lo (ks - part))) (.int .u64 (hi (ks - part)))
 replace hst := hst.st nrs (.int .u64 (lo (ks - part))) (.int .u64 (hi (ks - part)))
 replace hE := hE.st (b := rs) (by omega) (.int .u64 (lo (ks - part))) (.int .u64 (hi (ks - part)))
 generalize (w10.setCell ⟨rs, 0, none⟩ (.int .u64 (lo (ks - part)))).setCell ⟨rs, 1, none⟩ (.int .u64 (hi (ks - part))) = w11 at *
 have hexc11 : Exc D w.heap.size w w11 := hexc.more hE fun _ h => .inl h
 have HT11 := Lib.hid ((HTK.out.exc hexc11).toK)
 have HD11 := Lib.hid ((HDR.out.exc hexc11).toK)
 have hln : l ≤ n := by omega
 have hcn : ¬ cc = l := by omega
 obtain ⟨⟨x0, x1, x2, x3, x4, x5⟩, ⟨x6, x7, x8, x9, x10, x11⟩, x12⟩ := hx.get6
 obtain ⟨pt0, pt1, pt2, pt3, pt4⟩ := V2.mk hpt.c0 hpt.c1 hpt.f0 hpt.f1 hpt.lt
 go_upto_region 25 with fail
 refine region_B (n := 23) (m := 24) (f := 23) (by kernel_rfl) (by kernel_rfl) rfl ?_
 refine WpH.vD 0 (some 125) ?_ rfl rfl (by kernel_rfl) (fun _ _ _ h => h) rfl (fun wz hwz => ?_) ?_
 rotate_left
 ·go_simp; try (with_reducible rfl)
 simp only [Zp, Zq, Zr, Zs]
 refine WpH.vD 1 (some 126) ?_ rfl rfl (by kernel_rfl) (fun _ _ _ h => h) rfl (fun wz hwz => ?_) ?_
 rotate_left
 ·go_simp; try (with_reducible rfl)
 simp only [Zp, Zq, Zr, Zs]
 refine WpH.vD 2 (some 127) ?_ rfl rfl (by kernel_rfl) (fun _ _ _ h => h) rfl (fun wz hwz => ?_) ?_
 rotate_left
 ·go_simp; try (with_reducible rfl)
 simp only [Zp, Zq, Zr, Zs]
 refine WpH.vD 3 (some 128) ?_ rfl rfl (by kernel_rfl) (fun _ _ _ h => h) rfl (fun wz hwz => ?_) ?_
 rotate_left
 ·go_simp; try (with_reducible rfl)
 simp only [Zp, Zq, Zr, Zs]
 refine WpH.vD 4 (some 129) ?_ rfl rfl (by kernel_rfl) (fun _ _ _ h => h) rfl (fun wz hwz => ?_) ?_
 rotate_left
 ·go_simp; try (with_reducible rfl)
 simp only [Zp, Zq, Zr, Zs]
 refine WpH.vD 5 (some 130) ?_ rfl rfl (by kernel_rfl) (fun _ _ _ h => h) rfl (fun wz hwz => ?_) ?_
 rotate_left
 ·(obtain ⟨hcz, hfz⟩ := bcell hwz; go_simp; try (with_reducible rfl))
 simp only [Zp, Zq, Zr, Zs]
 refine WpH.vD 6 (some 131) ?_ rfl rfl (by kernel_rfl) (fun _ _ _ h => h) rfl (fun wz hwz => ?_) ?_
 rotate_left
 ·go_simp; try (with_reducible rfl)
 simp only [Zp, Zq, Zr, Zs]
 refine WpH.takeD 7 (some 132) rfl rfl (by kernel_rfl) (fun _ _ _ h => h) (.call rfl (fun wz hwz => HSUM.out wz (.slice (some ⟨bi, oi, none⟩) l cc) (HT11.out.later hwz)) (fun wz hwz => ?_)) ?_
 ·go_simp; try (with_reducible rfl)
 simp only [Zp, Zq, Zr, Zs]
 refine WpH.vD 8 (some 133) ?_ rfl rfl (by kernel_rfl) (fun _ _ _ h => h) rfl (fun wz hwz => ?_) ?_
 rotate_left
 ·(obtain ⟨hcz, hfz⟩ := bcell hwz; go_simp; try (with_reducible rfl))
 simp only [Zp, Zq, Zr, Zs]
 refine WpH.vD 9 (some 134) ?_ rfl rfl (by kernel_rfl) (fun _ _ _ h => h) rfl (fun wz hwz => ?_) ?_
 rotate_left
 ·go_simp; try (with_reducible rfl)
 simp only [Zp, Zq, Zr, Zs]
 refine WpH.vD 10 (some 135) ?_ rfl rfl (by kernel_rfl) (fun _ _ _ h => h) rfl (fun wz hwz => ?_) ?_
 rotate_left
 ·go_simp; try (with_reducible rfl)
 simp only [Zp, Zq, Zr, Zs]
 refine WpH.vD 11 (some 136) ?_ rfl rfl (by kernel_rfl) (fun _ _ _ h => h) rfl (fun wz hwz => ?_) ?_
 rotate_left
 ·(obtain ⟨hcz, hfz⟩ := bcell hwz; go_simp; try (with_reducible rfl))
 simp only [Zp, Zq, Zr, Zs]
 refine WpH.vD 12 (some 137) ?_ rfl rfl (by kernel_rfl) (fun _ _ _ h => h) rfl (fun wz hwz => ?_) ?_
 rotate_left
 ·go_simp; try (with_reducible rfl)
 simp only [Zp, Zq, Zr, Zs]
 refine WpH.takeD 13 (some 138) rfl rfl (by kernel_rfl) (fun _ _ _ h => h) (.call rfl (fun wz hwz => HNUM.out wz (.slice (some ⟨bi, oi + l * 2, none⟩) (n - l) (cc - l)) (HD11.out.later hwz)) (fun wz hwz => ?_)) ?_
 ·go_simp; try (with_reducible rfl)
 simp only [Zp, Zq, Zr, Zs]
 refine WpH.takeD 14 (some 139) rfl rfl (by kernel_rfl) (fun _ _ _ h => h) (.call rfl (fun wz hwz => HSUB.out ks kn wz) (fun wz hwz => ?_)) ?_
 ·go_simp; try (with_reducible rfl)
 simp only [Zp, Zq, Zr, Zs]
 refine WpH.vD 15 (some 140) ?_ rfl rfl (by kernel_rfl) (fun _ _ _ h => h) rfl (fun wz hwz => ?_) ?_
 rotate_left
 ·go_simp; try (with_reducible rfl)
 simp only [Zp, Zq, Zr, Zs]
 refine WpH.vD 16 (some 141) ?_ rfl rfl (by kernel_rfl) (fun _ _ _ h => h) rfl (fun wz hwz => ?_) ?_
 rotate_left
 ·go_simp; try (with_reducible rfl)
 simp only [Zp, Zq, Zr, Zs]
 refine WpH.vD 17 (some 142) ?_ rfl rfl (by kernel_rfl) (fun _ _ _ h => h) rfl (fun wz hwz => ?_) ?_
 rotate_left
 ·(obtain ⟨hcz, hfz⟩ := bcell hwz; go_simp; try (with_reducible rfl))
 simp only [Zp, Zq, Zr, Zs]
 refine WpH.takeD 18 (some 143) rfl rfl (by kernel_rfl) (fun _ _ _ h => h) (.call rfl (fun wz hwz => HOFF.out wz) (fun wz hwz => ?_)) ?_
 ·go_simp; try (with_reducible rfl)
 simp only [Zp, Zq, Zr, Zs]
 refine WpH.takeD 19 (some 144) rfl rfl (by kernel_rfl) (fun _ _ _ h => h) (.call rfl (fun wz hwz => HOFK.out wz) (fun wz hwz => ?_)) ?_
 ·go_simp; try (with_reducible rfl)
 simp only [Zp, Zq, Zr, Zs]
 refine WpH.vD 20 (some 145) ?_ rfl rfl (by kernel_rfl) (fun _ _ _ h => h) rfl (fun wz hwz => ?_) ?_
 rotate_left
 ·(obtain ⟨hcz, hfz⟩ := bcell hwz; go_simp; try (with_reducible rfl))
 simp only [Zp, Zq, Zr, Zs]
 refine WpH.takeD 21 (some 146) rfl rfl (by kernel_rfl) (fun _ _ _ h => h) (.call rfl (fun wz hwz => HMUL.out ko part wz) (fun wz hwz => ?_)) ?_
 ·go_simp; try (with_reducible rfl)
 simp only [Zp, Zq, Zr, Zs]
 refine WpH.takeD 22 (some 147) rfl rfl (by kernel_rfl) (fun _ _ _ h => h) (.call rfl (fun wz hwz => HADD.out (ks - kn) (ko * part) wz) (fun wz hwz => ?_)) ?_
 ·go_simp; try (with_reducible rfl)
 simp only [Zp, Zq, Zr, Zs]
 refine WpH.doneB (by kernel_rfl) (fun w12 hw12 => ?_)
 (try simp only [List.drop_succ_cons]); (try simp only [List.drop_zero]); (try simp only [Nat.reduceSub]); (try simp only [List.take_succ_cons]); (try simp only [List.take_zero])
 clear x0 x1 x2 x3 x4 x5 x6 x7 x8 x9 x10 x11 x12 pt0 pt1 pt2 pt3 pt4
 replace hE := hE.call hw12
 replace hx := hx.call hw12
 replace s0 := s0.call hw12
 replace hpt := hpt.call hw12
 replace hob := hob.call hw12
 replace hst := hst.call hw12
 replace hVrs := hVrs.call hw12
 have hs12 := hw12.size
 clear hw12
 obtain ⟨Vrs0, Vrs1, Vrs2, Vrs3, Vrs4⟩ := V2.mk hVrs.c0 hVrs.c1 hVrs.f0 hVrs.f1 hVrs.lt
 go_upto_region 26 with fail
 clear Vrs0 Vrs1 Vrs2 Vrs3 Vrs4
 replace hx := (hx.far (p := ⟨rs, 0, none⟩) (by dsimp only; omega) (.int .u64 (lo (ks - kn + ko * part)))).far (p := ⟨rs, 1, none⟩) (by dsimp only; omega) (.int .u64 (hi (ks - kn + ko * part)))
 replace s0 := V2.oth s0 (b := rs) (by omega) (.int .u64 (lo (ks - kn + ko * part))) (.int .u64 (hi (ks - kn + ko * part)))
 replace hpt := V2.oth hpt (b := rs) (by omega) (.int .u64 (lo (ks - kn + ko * part))) (.int .u64 (hi (ks - kn + ko * part)))
 replace hob := V2.oth hob (b := rs) (by omega) (.int .u64 (lo (ks - kn + ko * part))) (.int .u64 (hi (ks - kn + ko * part)))
 replace hVrs := V2.set hVrs (.int .u64 (lo (ks - kn + ko * part))) (.int .u64 (hi (ks - kn + ko * part)))
 replace hst := hst.st nrs (.int .u64 (lo (ks - kn + ko * part))) (.int .u64 (hi (ks - kn + ko * part)))
 replace hE := hE.st (b := rs) (by omega) (.int .u64 (lo (ks - kn + ko * part))) (.int .u64 (hi (ks - kn + ko * part)))
 generalize (w12.setCell ⟨rs, 0, none⟩ (.int .u64 (lo (ks - kn + ko * part)))).setCell ⟨rs, 1, none⟩ (.int .u64 (hi (ks - kn + ko * part))) = w13 at *
 have hexcZ : Exc D w.heap.size w w13 := hexc.more hE fun _ h => .inl h
 obtain ⟨k0, k1⟩ := (RowE.exc HRJ.out hnj hexcZ).kat HJQ.out
 have hbjl := lt_of_cell k0
 dsimp only at hbjl
 have hjn : (nj : Int) - 1 = (nq : Int) := by have := HNQ.out; omega
 have hwq : IntKind.i64.wrap (nq : Int) = (nq : Int) := IntWalk.i64_in _ (by have := HNQ.out; omega)
 have hqn : nq < nj := by have := HNQ.out; omega
 obtain ⟨⟨x0, x1, x2, x3, x4, x5⟩, ⟨x6, x7, x8, x9, x10, x11⟩, x12⟩ := hx.get6
 go_upto_region 26 with fail
 clear x0 x1 x2 x3 x4 x5 x6 x7 x8 x9 x10 x11 x12
 obtain ⟨ob0, ob1, ob2, ob3, ob4⟩ := V2.mk hob.c0 hob.c1 hob.f0 hob.f1 hob.lt
 obtain ⟨Vrs0, Vrs1, Vrs2, Vrs3, Vrs4⟩ := V2.mk hVrs.c0 hVrs.c1 hVrs.f0 hVrs.f1 hVrs.lt
 refine region_B (n := 12) (m := 14) (f := 12) (by kernel_rfl) (by kernel_rfl) rfl ?_
 refine WpH.vD 0 (some 148) ?_ rfl rfl (by kernel_rfl) (fun _ _ _ h => h) rfl (fun wz hwz => ?_) ?_
 rotate_left
 ·go_simp; try (with_reducible rfl)
 simp only [Zp, Zq, Zr, Zs]
 refine WpH.vD 1 (some 149) ?_ rfl rfl (by kernel_rfl) (fun _ _ _ h => h) rfl (fun wz hwz => ?_) ?_
 rotate_left
 ·(obtain ⟨hcz, hfz⟩ := bcell hwz; go_simp; try (with_reducible rfl))
 simp only [Zp, Zq, Zr, Zs]
 refine WpH.vD 2 (some 150) ?_ rfl rfl (by kernel_rfl) (fun _ _ _ h => h) rfl (fun wz hwz => ?_) ?_
 rotate_left
 ·go_simp; try (with_reducible rfl)
 simp only [Zp, Zq, Zr, Zs]
 refine WpH.vD 3 (some 151) ?_ rfl rfl (by kernel_rfl) (fun _ _ _ h => h) rfl (fun wz hwz => ?_) ?_
 rotate_left
 ·go_simp; try (with_reducible rfl)
 simp only [Zp, Zq, Zr, Zs]
 refine WpH.vD 4 (some 152) ?_ rfl rfl (by kernel_rfl) (fun _ _ _ h => h) rfl (fun wz hwz => ?_) ?_
 rotate_left
 ·go_simp; try (with_reducible rfl)
 simp only [Zp, Zq, Zr, Zs]
 refine WpH.vD 5 (some 153) ?_ rfl rfl (by kernel_rfl) (fun _ _ _ h => h) rfl (fun wz hwz => ?_) ?_
 rotate_left
 ·go_simp; try (with_reducible rfl)
 simp only [Zp, Zq, Zr, Zs]
 refine WpH.vD 6 (some 154) ?_ rfl rfl (by kernel_rfl) (fun _ _ _ h => h) rfl (fun wz hwz => ?_) ?_
 rotate_left
 ·go_simp; try (with_reducible rfl)
 simp only [Zp, Zq, Zr, Zs]
 refine WpH.vD 7 (some 155) ?_ rfl rfl (by kernel_rfl) (fun _ _ _ h => h) rfl (fun wz hwz => ?_) ?_
 rotate_left
 ·go_simp; try (with_reducible rfl)
 simp only [Zp, Zq, Zr, Zs]
 refine WpH.vD 8 (some 156) ?_ rfl rfl (by kernel_rfl) (fun _ _ _ h => h) rfl (fun wz hwz => ?_) ?_
 rotate_left
 ·(obtain ⟨hcz, hfz⟩ := bcell hwz; go_simp; try (with_reducible rfl))
 simp only [Zp, Zq, Zr, Zs]
 refine WpH.vD 9 (some 157) ?_ rfl rfl (by kernel_rfl) (fun _ _ _ h => h) rfl (fun wz hwz => ?_) ?_
 rotate_left
 ·(obtain ⟨hcz, hfz⟩ := bcell hwz; go_simp; try (with_reducible rfl))
 simp only [Zp, Zq, Zr, Zs]
 refine WpH.takeD 10 (some 158) rfl rfl (by kernel_rfl) (fun _ _ _ h => h) (.call rfl (fun wz hwz => HMUL.out jq (ks - kn + ko * part) wz) (fun wz hwz => ?_)) ?_
 ·go_simp; try (with_reducible rfl)
 simp only [Zp, Zq, Zr, Zs]
 refine WpH.takeD 11 (some 159) rfl rfl (by kernel_rfl) (fun _ _ _ h => h) (.call rfl (fun wz hwz => HADD.out ac (jq * (ks - kn + ko * part)) wz) (fun wz hwz => ?_)) ?_
 ·go_simp; try (with_reducible rfl)
 simp only [Zp, Zq, Zr, Zs]
 refine WpH.doneB (by kernel_rfl) (fun w14 hw14 => ?_)
 (try simp only [List.drop_succ_cons]); (try simp only [List.drop_zero]); (try simp only [Nat.reduceSub]); (try simp only [List.take_succ_cons]); (try simp only [List.take_zero])
 replace hE := hE.call hw14
 replace s0 := s0.call hw14
 replace hst := hst.call hw14
 replace hx := hx.call hw14
 have hszE := hE.size
 obtain ⟨s00, s01, s02, s03, s04⟩ := V2.mk s0.c0 s0.c1 s0.f0 s0.f1 s0.lt
 go_wp2_with fail
 refine bodyPost_ret (results_v2_tmp (b := w.heap.size + 1) (u := .int .u64 (lo (ac + jq * (ks - kn + ko * part)))) (v := .int .u64 (hi (ac + jq * (ks - kn + ko * part)))) ?_ rfl rfl) rfl ?_
 ·exact V2.set s0 _ _
 ·exact ⟨.inl ⟨rfl, rfl, D1, hst.st (fun h => (hD1 _ h).elim (fun h2 => by have := hlt0 _ h2; omega) (fun h2 => by omega)) _ _, fun x hx => (hD1 x hx).imp_right fun h2 => by omega⟩, (hexc.more hE fun _ h => .inl h).st (by omega) _ _⟩

end

end Go.Proofs.YtfbfbijkkbflkaaGreatDoor
