/-
 PfLq: for ProofQueries.
-/
import Derived.Test.YtfbfbijkkbflkaaGreatDoorTae
namespace Go.Proofs.YtfbfbijkkbflkaaGreatDoor
open Go.RowKit Fm
set_option linter.unusedVariables false
set_option maxRecDepth 100000

section
variable {f : Nat} (hf : IsF f)
include hf

set_option maxHeartbeats 4000000 in
theorem lawq_closure (E : Nat → Prop) (wE : World) (kb sb gb pb ab tb aw ar L : Nat) (rb : Nat → Nat) (vp vt : Value) (p T : KL f) (hC : CapR E wE kb sb gb pb ab tb aw ar (2 ^ L) rb vp vt p T) (sd : KL f) (args : Nat → KL f) (k : Nat)
  (hk : k + 1 < 2 ^ L) (hsz : 2 ^ L ≤ 4096) (hla : (args k).length = ar) (ha1 : 1 ≤ ar) (ha2 : ar ≤ 32) (hpa : ar < p.length) (hpm : p.length ≤ 100000) (x : Fin (Pm f)) (hx : T[k + 1]? = some x)
  (D : Nat → Prop) (w : World) (va : Value) (hst : St (InvR kb ar L rb E wE sd args k) D w) (hl : SlX D w va (args k)) :
  Calls Tryz.prog 33 #[va, .pointer (some ⟨kb, 0, none⟩), .pointer (some ⟨sb, 0, none⟩), .pointer (some ⟨gb, 0, none⟩), .pointer (some ⟨pb, 0, none⟩), .pointer (some ⟨ab, 0, none⟩), .pointer (some ⟨tb, 0, none⟩)] w fun e w' => e = .returned (.tuple #[vK (horner x (p.drop ar)), .int .i64 0]) ∧
   ∃ D', St (InvR kb ar L rb E wE sd args (k + 1)) D' w' ∧ (∀ q, D' q → D q ∨ w.heap.size ≤ q) ∧ Exc D w.heap.size w w' := by
 have hI := hst.here
 obtain ⟨hDD, hAg, hcc, hrw⟩ := hI
 have hltE := hC.lt
 have hDlt := hst.lt
 obtain ⟨z, hz⟩ : ∃ z, horner x (p.drop ar) = z := ⟨_, rfl⟩
 have HAT : Hid (∀ wz u, SlK wz wz.heap.size u (p.drop ar) → Calls Tryz.prog 34 #[.int .i64 f, u, .agg #[.int .u64 (lo x), .int .u64 (hi x)]] wz (RetK z wz)) := fun wz u hs => by
  rw [← hz]
  exact ref_At hf u (p.drop ar) x wz hs (by rw [List.length_drop]; omega)
 rw [hz]
 obtain ⟨S, hS⟩ : ∃ S : Nat → Prop, (fun q => q = kb ∨ ∃ i, i < ar ∧ q = rb i) = S := ⟨_, rfl⟩
 have hSD : ∀ q, S q → D q := fun q hq => by
  rw [← hS] at hq
  rcases hq with h | ⟨i, h1, h2⟩
  ·exact (hDD q).2 (.inl h)
  ·exact (hDD q).2 (.inr (.inl ⟨i, h1, h2⟩))
 have hSE : ∀ q, E q → ¬ S q := fun q hq h => by
  rw [← hS] at h
  rcases h with h | ⟨i, h1, h2⟩
  ·exact hC.ek (h ▸ hq)
  ·exact hC.er i h1 (h2 ▸ hq)
 have hSk : S kb := by rw [← hS]; exact .inl rfl
 have hSr : ∀ i, i < ar → S (rb i) := fun i h => by rw [← hS]; exact .inr ⟨i, h, rfl⟩
 have hnd : p.length - ar ≤ p.length := Nat.sub_le _ _
 obtain ⟨A2, c2, rfl, hc21, hc22, hA2⟩ := id hC.sp
 obtain ⟨b2, o2, rfl, _, _⟩ := hA2 (by omega)
 have hTl := (List.getElem?_eq_some_iff.1 hx).1
 obtain ⟨A3, c3, rfl, hc31, hc32, hA3⟩ := id hC.st
 obtain ⟨b3, o3, rfl, _, _⟩ := hA3 (by omega)
 obtain ⟨A, cl, hv, hl1, hl2, hl3⟩ := id hl
 rw [hla] at hv hl1
 subst hv
 obtain ⟨bl, ol, rfl, hbl, hnD, hrow⟩ := hl3 (by omega)
 obtain ⟨k1, hk1⟩ : ∃ k1, k + 1 = k1 := ⟨_, rfl⟩
 have hstep : ∀ i, (rowA L (sd.getD i 0) args i k).set (k + 1) ((args k).getD i 0) = rowA L (sd.getD i 0) args i (k + 1) := fun i => rowA_step hk
 have hrl : ∀ i, (rowA L (sd.getD i 0) args i k).length = 2 ^ L := fun i => rowA_length (by omega)
 rw [hk1] at hx hk hTl hstep ⊢
 obtain ⟨N, hN⟩ : ∃ N, 2 ^ L = N := ⟨_, rfl⟩
 rw [hN] at hk hsz hC hrl
 have hw1 : IntKind.i64.wrap ((k : Int) + 1) = (k1 : Int) := by rw [IntWalk.i64_in _ (by omega)]; omega
 have HCC := Lib.hid hC
 have HAG := Lib.hid hAg
 have HLA := Lib.hid hla
 have HD := Lib.hid hDD
 have HLT := Lib.hid hltE
 have HDL := Lib.hid hDlt
 have HSD := Lib.hid hSD
 have HSE := Lib.hid hSE
 have HSK := Lib.hid hSk
 have HSR := Lib.hid hSr
 have HX := Lib.hid hx
 have HSTEP := Lib.hid hstep
 have HRL := Lib.hid hrl
 have HROW := Lib.hid hrow
 have HND := Lib.hid hnD
 have HBL : Hid (bl < w.heap.size) := hbl
 have HRW := Lib.hid hrw
 have HPA : Hid (ar < p.length) := hpa
 have HK1 := Lib.hid hk1
 have g1 : ar ≤ p.length := by omega
 have g2 : ¬ (c2 = ar) := by omega
 have g3 : ar ≤ c2 := by omega
 have hck := hDlt kb ((hDD kb).2 (.inl rfl))
 have HCK : Hid (kb < w.heap.size) := hck
 clear hz hS hSD hSE hSk hSr hnd hA2 hA3 hl3 hrow hnD hla hx hstep hrl hN hltE hDlt hDD hAg hC hst hl hrw hbl hpa hk1 hck
 go_enter Tryz.func33, Tryz.ntmps33
 go_upto_region 1 with fail
 have s0 := V2.new w (.int .u64 0) (.int .u64 0) 36
 have hbq : Below w.heap.size w (w.alloc (.cells #[.int .u64 0, .int .u64 0] 36)) := (Below.refl _ _).alloc (Nat.le_refl _) _
 generalize w.alloc (.cells #[.int .u64 0, .int .u64 0] 36) = w1 at s0 hbq ⊢
 replace hcc := hcc.call hbq
 obtain ⟨c0, c9, c8⟩ := hcc.get1
 go_upto_region 2 with fail
 clear c0 c9 c8
 have hck := HCK.out
 have hc2 : Vs (w1.setCell ⟨kb, 0, none⟩ (.int .i64 (k1 : Int))) kb [.int .i64 (k1 : Int)] := hcc.put 0 (by simp) _
 have hE : Exc S w.heap.size w (w1.setCell ⟨kb, 0, none⟩ (.int .i64 (k1 : Int))) := exc_set (exc_of hbq) (.inl HSK.out) _
 have s2 : V2 (w1.setCell ⟨kb, 0, none⟩ (.int .i64 (k1 : Int))) w.heap.size (.int .u64 0) (.int .u64 0) := ((Vs.of2 s0).far (p := ⟨kb, 0, none⟩) (by dsimp only; omega) _).to2
 have hrw : Hid (∀ j, j < ar → RwK (w1.setCell ⟨kb, 0, none⟩ (.int .i64 (k1 : Int))) (rb j) (rowA L (sd.getD j 0) args j k)) := fun j hj => RwK.far (RwK.call (HRW.out j hj) hbq) (by dsimp only; exact fun e => HCC.out.rk j hj e.symm) _
 clear hcc s0 hbq HRW hck
 generalize w1.setCell ⟨kb, 0, none⟩ (.int .i64 (k1 : Int)) = w2 at hc2 hE s2 hrw ⊢
 go_wp2_with fail
 go_loopw [16] (fun v16 wr => ∃ i : Nat, i ≤ ar ∧ v16 = .int .i64 i ∧ Exc S w.heap.size w wr ∧ Vs wr kb [.int .i64 (k1 : Int)] ∧ V2 wr w.heap.size (.int .u64 0) (.int .u64 0) ∧ Hid (∀ j, j < ar → RwK wr (rb j) (if j < i then rowA L (sd.getD j 0) args j k1 else rowA L (sd.getD j 0) args j k))) (fun v16 _ => ar - (intOf v16).toNat)
 case atStart => exact ⟨0, Nat.zero_le _, rfl, hE, hc2, s2, fun j hj => by rw [if_neg (Nat.not_lt_zero j)]; exact hrw.out j hj⟩
 case round =>
  clear hE hc2 s2 hrw
  obtain ⟨i, hin, rfl, hE, hcc, hs0, HRW⟩ := hrel
  have hwrs := hE.size
  by_cases hlt : i < ar
  ·obtain ⟨xa, hxa⟩ : ∃ e, (args k)[i]? = some e := ⟨_, List.getElem?_eq_getElem (by rw [HLA.out]; exact hlt)⟩
   have HXA := Lib.hid hxa
   have hbq : Below wr.heap.size wr wr := Below.refl _ _
   have hblr : bl < wr.heap.size := Nat.lt_of_lt_of_le HBL.out hwrs
   obtain ⟨d0, d1⟩ := (HROW.out.exc (fun h => HND.out (HSD.out _ h)) hE).kat hxa
   clear hxa
   go_upto_region 5 with fail
   clear d0 d1 hblr
   have hA := V2.new wr (.int .u64 (lo xa)) (.int .u64 (hi xa)) 36
   have hbA : Below wr.heap.size wr (wr.alloc (.cells #[.int .u64 (lo xa), .int .u64 (hi xa)] 36)) := by repeat (first | exact bA | with_reducible assumption | apply bB)
   replace hbq := bl_call hbq (Nat.le_refl _) hbA
   replace hE := hE.call hbA
   replace hcc := hcc.call hbA
   replace hs0 := hs0.call hbA
   clear hbA
   generalize wr.alloc (.cells #[.int .u64 (lo xa), .int .u64 (hi xa)] 36) = w5 at hbq hE hcc hs0 hA ⊢
   have hAg := HAG.out.exc hE HSE.out HLT.out
   obtain ⟨hss, _, _, _, _, _, _, hrows⟩ := HCC.out.at hAg
   have hawc := hrows i hlt
   have hawl : aw < w5.heap.size := hAg.lt HCC.out.ew (HLT.out _ HCC.out.ew)
   have hrl5 : rb i < w5.heap.size := Nat.lt_of_lt_of_le ((HRW.out i hlt).lt) hbq.size
   have hk2 : (k1 : Int) < (N : Int) := by omega
   clear hAg hrows
   obtain ⟨ss0, ss1, ss2⟩ := hss.get1
   obtain ⟨cc0, cc1, cc2⟩ := hcc.get1
   obtain ⟨A0, A1, A2, A3, A4⟩ := V2.mk hA.c0 hA.c1 hA.f0 hA.f1 hA.lt
   refine region_B (n := 7) (m := 8) (f := 7) (by kernel_rfl) (by kernel_rfl) rfl ?_
   refine WpH.vD 0 (some 21) ?_ rfl rfl (by kernel_rfl) (fun _ _ _ h => h) rfl (fun wz hwz => ?_) ?_
   rotate_left
   ·(obtain ⟨hcz, hfz⟩ := bcell hwz; go_simp; try (with_reducible rfl))
   simp only [Zp, Zq, Zr, Zs]
   refine WpH.vD 1 (some 22) ?_ rfl rfl (by kernel_rfl) (fun _ _ _ h => h) rfl (fun wz hwz => ?_) ?_
   rotate_left
   ·go_simp; try (with_reducible rfl)
   simp only [Zp, Zq, Zr, Zs]
   refine WpH.vD 2 (some 23) ?_ rfl rfl (by kernel_rfl) (fun _ _ _ h => h) rfl (fun wz hwz => ?_) ?_
   rotate_left
   ·go_simp; try (with_reducible rfl)
   simp only [Zp, Zq, Zr, Zs]
   refine WpH.vD 3 (some 24) ?_ rfl rfl (by kernel_rfl) (fun _ _ _ h => h) rfl (fun wz hwz => ?_) ?_
   rotate_left
   ·(obtain ⟨hcz, hfz⟩ := bcell hwz; go_simp; try (with_reducible rfl))
   simp only [Zp, Zq, Zr, Zs]
   refine WpH.vD 4 (some 25) ?_ rfl rfl (by kernel_rfl) (fun _ _ _ h => h) rfl (fun wz hwz => ?_) ?_
   rotate_left
   ·(obtain ⟨hcz, hfz⟩ := bcell hwz; go_simp; try (with_reducible rfl))
   simp only [Zp, Zq, Zr, Zs]
   refine WpH.vD 5 (some 26) ?_ rfl rfl (by kernel_rfl) (fun _ _ _ h => h) rfl (fun wz hwz => ?_) ?_
   rotate_left
   ·(obtain ⟨hcz, hfz⟩ := bcell hwz; go_simp; try (with_reducible rfl))
   simp only [Zp, Zq, Zr, Zs]
   refine WpH.vD 6 (some 27) ?_ rfl rfl (by kernel_rfl) (fun _ _ _ h => h) rfl (fun wz hwz => ?_) ?_
   rotate_left
   ·go_simp; try (with_reducible rfl)
   simp only [Zp, Zq, Zr, Zs]
   refine WpH.doneB (by kernel_rfl) (fun w6 hw6 => ?_)
   (try simp only [List.drop_succ_cons]); (try simp only [List.drop_zero]); (try simp only [Nat.reduceSub]); (try simp only [List.take_succ_cons]); (try simp only [List.take_zero])
   clear ss0 ss1 ss2 cc0 cc1 cc2 A0 A1 A2 A3 A4
   replace hbq := bl_call hbq (Nat.le_refl _) hw6
   replace hE := hE.call hw6
   replace hcc := hcc.call hw6
   replace hs0 := hs0.call hw6
   clear hw6 hss hA hawc hawl hrl5 hk2
   have hrw6 : ∀ j, j < ar → RwK w6 (rb j) (if j < i then rowA L (sd.getD j 0) args j k1 else rowA L (sd.getD j 0) args j k) := fun j hj => RwK.call (HRW.out j hj) hbq
   have hln : k1 < (rowA L (sd.getD i 0) args i k).length := by rw [HRL.out]; omega
   obtain ⟨xo, hxo⟩ : ∃ e, (rowA L (sd.getD i 0) args i k)[k1]? = some e := ⟨_, List.getElem?_eq_getElem hln⟩
   have hri := hrw6 i hlt
   rw [if_neg (Nat.lt_irrefl i)] at hri
   obtain ⟨z0, z1⟩ := RwK.at hri hxo
   obtain ⟨fz0, fz1⟩ := RwK.frz hri hln
   have hgx : (args k).getD i 0 = xa := getD_of HXA.out
   have HNX := Lib.hid (rows_step (A := fun j => rowA L (sd.getD j 0) args j k1) (B := fun j => rowA L (sd.getD j 0) args j k) hrw6 hlt HCC.out.rr xa hln (by rw [← hgx]; exact HSTEP.out i))
   have HNK : Hid (rb i ≠ kb) := HCC.out.rk i hlt
   have HN0 : Hid (rb i ≠ w.heap.size) := fun e => by
    have h := HDL.out _ (HSD.out _ (HSR.out i hlt))
    omega
   have HSI := Lib.hid (HSR.out i hlt)
   clear hri hrw6 hxo hln hgx hbq hwrs
   go_wp2_with fail
   go_roundw
   case rel => exact ⟨i + 1, by omega, by go_num, exc_set (exc_set hE (.inl HSI.out) _) (.inl HSI.out) _, (hcc.far (p := ⟨rb i, k1 * 2, none⟩) HNK.out _).far (p := ⟨rb i, k1 * 2 + 1, none⟩) HNK.out _, (((Vs.of2 hs0).far (p := ⟨rb i, k1 * 2, none⟩) HN0.out _).far (p := ⟨rb i, k1 * 2 + 1, none⟩) HN0.out _).to2, HNX.out⟩
   case measure => simp [intOf]; omega
  ·have hrwE : ∀ j, j < ar → RwK wr (rb j) (rowA L (sd.getD j 0) args j k1) := fun j hj => by
    have h := HRW.out j hj
    rwa [if_pos (by omega)] at h
   have HRE := Lib.hid hrwE
   have hAg := HAG.out.exc hE HSE.out HLT.out
   obtain ⟨hss, hgg, hpp, haa, htt, hsp, hstt, _⟩ := HCC.out.at hAg
   have hsd := hsp.dropN (n := ar) HPA.out
   obtain ⟨d3, d4, d5⟩ := hstt.cells HX.out
   have HAGR := Lib.hid hAg
   have HSDD := Lib.hid hsd
   have hkT : (k1 : Int) < (T.length : Int) := by omega
   have HE := Lib.hid hE
   have HS0 := Lib.hid hs0
   have HC1 := Lib.hid hcc
   clear hrwE hAg hss hsp hstt hsd HRW hE hs0
   go_upto_region 7 with fail
   obtain ⟨gg0, gg1, gg2⟩ := hgg.get1
   obtain ⟨pp0, pp1, pp2⟩ := hpp.get1
   obtain ⟨aa0, aa1, aa2⟩ := haa.get1
   obtain ⟨tt0, tt1, tt2⟩ := htt.get1
   obtain ⟨cc0, cc1, cc2⟩ := hcc.get1
   refine region_B (n := 9) (m := 11) (f := 9) (by kernel_rfl) (by kernel_rfl) rfl ?_
   refine WpH.vD 0 (some 29) ?_ rfl rfl (by kernel_rfl) (fun _ _ _ h => h) rfl (fun wz hwz => ?_) ?_
   rotate_left
   ·(obtain ⟨hcz, hfz⟩ := bcell hwz; go_simp; try (with_reducible rfl))
   simp only [Zp, Zq, Zr, Zs]
   refine WpH.vD 1 (some 30) ?_ rfl rfl (by kernel_rfl) (fun _ _ _ h => h) rfl (fun wz hwz => ?_) ?_
   rotate_left
   ·(obtain ⟨hcz, hfz⟩ := bcell hwz; go_simp; try (with_reducible rfl))
   simp only [Zp, Zq, Zr, Zs]
   refine WpH.vD 2 (some 31) ?_ rfl rfl (by kernel_rfl) (fun _ _ _ h => h) rfl (fun wz hwz => ?_) ?_
   rotate_left
   ·(obtain ⟨hcz, hfz⟩ := bcell hwz; go_simp; try (with_reducible rfl))
   simp only [Zp, Zq, Zr, Zs]
   refine WpH.vD 3 (some 32) ?_ rfl rfl (by kernel_rfl) (fun _ _ _ h => h) rfl (fun wz hwz => ?_) ?_
   rotate_left
   ·go_simp; try (with_reducible rfl)
   simp only [Zp, Zq, Zr, Zs]
   refine WpH.vD 4 (some 33) ?_ rfl rfl (by kernel_rfl) (fun _ _ _ h => h) rfl (fun wz hwz => ?_) ?_
   rotate_left
   ·(obtain ⟨hcz, hfz⟩ := bcell hwz; go_simp; try (with_reducible rfl))
   simp only [Zp, Zq, Zr, Zs]
   refine WpH.vD 5 (some 34) ?_ rfl rfl (by kernel_rfl) (fun _ _ _ h => h) rfl (fun wz hwz => ?_) ?_
   rotate_left
   ·(obtain ⟨hcz, hfz⟩ := bcell hwz; go_simp; try (with_reducible rfl))
   simp only [Zp, Zq, Zr, Zs]
   refine WpH.vD 6 (some 35) ?_ rfl rfl (by kernel_rfl) (fun _ _ _ h => h) rfl (fun wz hwz => ?_) ?_
   rotate_left
   ·go_simp; try (with_reducible rfl)
   simp only [Zp, Zq, Zr, Zs]
   refine WpH.vD 7 (some 36) ?_ rfl rfl (by kernel_rfl) (fun _ _ _ h => h) rfl (fun wz hwz => ?_) ?_
   rotate_left
   ·(obtain ⟨hcz, hfz⟩ := bcell hwz; go_simp; try (with_reducible rfl))
   simp only [Zp, Zq, Zr, Zs]
   refine WpH.takeD 8 (some 37) rfl rfl (by kernel_rfl) (fun _ _ _ h => h) (.call rfl (fun wz hwz => HAT.out wz (.slice (some ⟨b2, o2 + ar * 2, none⟩) (p.length - ar) (c2 - ar)) (HSDD.out.later hwz)) (fun wz hwz => ?_)) ?_
   ·go_simp; try (with_reducible rfl)
   simp only [Zp, Zq, Zr, Zs]
   refine WpH.doneB (by kernel_rfl) (fun w7 hw7 => ?_)
   (try simp only [List.drop_succ_cons]); (try simp only [List.drop_zero]); (try simp only [Nat.reduceSub]); (try simp only [List.take_succ_cons]); (try simp only [List.take_zero])
   have HB7 := Lib.hid hw7
   obtain ⟨t0, t1, t2, t3, t4⟩ := HS0.out.call hw7
   clear hw7
   go_wp2_with fail
   have hlw : ∀ q, D q → q ≠ w.heap.size := fun q hq e => by have := HDL.out q hq; omega
   have hkD : D kb := HSD.out _ HSK.out
   refine bodyPost_ret (results_v2_tmp (b := w.heap.size) (u := .int .u64 (lo z)) (v := .int .u64 (hi z)) ?_ rfl rfl) rfl ?_
   ·exact V2.set ⟨t0, t1, t2, t3, t4⟩ _ _
   ·refine ⟨rfl, D, InvR.st ⟨HD.out, ?_, ?_, ?_⟩ HLT.out, fun q hq => .inl hq, ?_⟩
    ·intro q hq
     have h0 : q ≠ w.heap.size := hlw q ((HD.out q).2 (.inr (.inr hq)))
     exact ((Below.heap_setCell _ _ _ _ h0).trans (Below.heap_setCell _ _ _ _ h0)).trans ((HB7.out.block q (HAGR.out.lt hq (HLT.out q hq))).trans (HAGR.out q hq))
    ·have h1 := (hlw kb hkD).symm
     exact (((HC1.out.call HB7.out).far (p := ⟨w.heap.size, 0, none⟩) h1 _).far (p := ⟨w.heap.size, 1, none⟩) h1 _)
    ·intro j hj
     have h1 := (hlw (rb j) (HSD.out _ (HSR.out j hj))).symm
     exact RwK.far (RwK.far (RwK.call (HRE.out j hj) HB7.out) (p := ⟨w.heap.size, 0, none⟩) h1 _) (p := ⟨w.heap.size, 1, none⟩) h1 _
    ·exact ((HE.out.less fun q _ hq => HSD.out q hq).call HB7.out).st (Nat.le_refl _) _ _

theorem asked_lawq (y : CK) (hy : y.ok) (hcl : y.calls ≤ 511) (v j sd p : KL f) (part : Fin (Pm f)) (L : Nat) (hL : L ≤ 8) (hN : nextP (y.calls + 1) = 2 ^ L) (E : Nat → Prop) (wE : World) (kb sb gb pb ab tb aw : Nat) (rb : Nat → Nat) (vp vt : Value)
  (hC : CapR E wE kb sb gb pb ab tb aw y.arity (2 ^ L) rb vp vt p (pows (rootK f L) (2 ^ L))) (hpa : y.arity < p.length) (hpm : p.length ≤ 100000) :
  Asked y v j part 33 #[.pointer (some ⟨kb, 0, none⟩), .pointer (some ⟨sb, 0, none⟩), .pointer (some ⟨gb, 0, none⟩), .pointer (some ⟨pb, 0, none⟩), .pointer (some ⟨ab, 0, none⟩), .pointer (some ⟨tb, 0, none⟩)] (InvR kb y.arity L rb E wE sd (argOf y v j part)) (ansQ L (p.drop y.arity)) 0 := by
 refine ⟨fun args w => by kernel_rfl, fun k D w va hk hst hv => ?_⟩
 obtain ⟨L', hL', hN', hN2⟩ := nextP_pow (y.calls + 1) (by omega)
 have h8 : 2 ^ L ≤ 256 := Nat.le_trans (Nat.pow_le_pow_right (by omega) hL) (by decide)
 have hal := CK.arity_le hy
 have hga := gad_arity f y
 have harg := argOf_lenP y v j part k
 have hk2 : k + 1 < 2 ^ L := by rw [← hN, hN']; omega
 exact lawq_closure hf E wE kb sb gb pb ab tb aw y.arity L rb vp vt p _ hC sd (argOf y v j part) k hk2 (by omega) (by rw [harg, hga]) hal.1 hal.2 hpa hpm _ (pows_get _ _ _ hk2) D w va hst hv
end

end Go.Proofs.YtfbfbijkkbflkaaGreatDoor
