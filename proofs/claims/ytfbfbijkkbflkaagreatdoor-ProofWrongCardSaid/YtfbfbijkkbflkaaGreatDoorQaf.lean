/-
 Direct: for ProofWrong.
-/
import Derived.Test.YtfbfbijkkbflkaaGreatDoorQac
namespace Go.Proofs.YtfbfbijkkbflkaaGreatDoor
open Go.RowKit Fm
set_option linter.unusedVariables false
set_option maxRecDepth 100000

def dirP {f : Nat} (v j : KL f) (s i : Nat) : Fin (Pm f) := acc (dirG v j s) i
theorem dirP_zero {f : Nat} (v j : KL f) (s : Nat) : dirP v j s 0 = 0 := rfl
theorem dirP_succ {f : Nat} {v j : KL f} {s i : Nat} {x r : Fin (Pm f)} (hx : v[i]? = some x) (hr : j[i / s]? = some r) : dirP v j s (i + 1) = dirP v j s i + kpw r (i % s + 1) * (x * (x - 1)) := by
 show acc (dirG v j s) i + dirG v j s i = _
 unfold dirG
 rw [getD_of hx, getD_of hr]
 rfl

section
variable {f : Nat} (hf : IsF f)
include hf

set_option maxHeartbeats 4000000 in
theorem ref9_Direct1 (b l m c : Int) (vl vj : Value) (v : KL f) (w : World) (hv : SlK w w.heap.size vl v) (hl : v.length = 1) :
  Calls Tryz.prog 86 #[.agg #[.int .i64 1, .int .i64 f, .int .i64 b, .int .i64 l, .int .i64 m, .int .i64 c], vl, vj] w (RetK (v.getD 0 0 * v.getD 0 0 - v.getD 0 0) w) := by
 have HSUB := Lib.hid (fun (x y : Fin (Pm f)) wz => ref_SubK hf x y wz)
 have HMUL := Lib.hid (fun (x y : Fin (Pm f)) wz => ref_MulK hf x y wz)
 obtain ⟨A, cc, rfl, hcc, hcm, hA⟩ := id hv
 obtain ⟨bi, oi, rfl, hbi, HRI⟩ := hA (by omega)
 obtain ⟨x, hx⟩ : ∃ e, v[0]? = some e := ⟨_, List.getElem?_eq_getElem (by omega)⟩
 have HX := Lib.hid hx
 rw [hl] at hv ⊢
 rw [getD_of hx]
 clear hA HRI hl hx hcc hbi
 have HV := Lib.hid hv
 clear hv
 have hfb0 : (1 : Int) ≤ (f : Int) := by rcases hf.or with rfl | rfl <;> omega
 have hfb1 : (f : Int) ≤ 2 := by rcases hf.or with rfl | rfl <;> omega
 go_enter Tryz.func86, Tryz.ntmps86
 go_upto_region 1 with fail
 have hx := (Vs.new w [.int .i64 1, .int .i64 f, .int .i64 b, .int .i64 l, .int .i64 m, .int .i64 c] #[.int .i64 1, .int .i64 f, .int .i64 b, .int .i64 l, .int .i64 m, .int .i64 c] 72 rfl).alloc (.cells #[.int .u64 0, .int .u64 0] 36)
 have s0 := V2.new (w.alloc (.cells #[.int .i64 1, .int .i64 f, .int .i64 b, .int .i64 l, .int .i64 m, .int .i64 c] 72)) (.int .u64 0) (.int .u64 0) 36
 simp only [World.size_alloc] at s0
 have hb00 : Below w.heap.size w ((w.alloc (.cells #[.int .i64 1, .int .i64 f, .int .i64 b, .int .i64 l, .int .i64 m, .int .i64 c] 72)).alloc (.cells #[.int .u64 0, .int .u64 0] 36)) := by repeat (first | exact bA | with_reducible assumption | apply bB)
 have hszn : w.heap.size + 2 ≤ ((w.alloc (.cells #[.int .i64 1, .int .i64 f, .int .i64 b, .int .i64 l, .int .i64 m, .int .i64 c] 72)).alloc (.cells #[.int .u64 0, .int .u64 0] 36)).heap.size := by simp only [World.size_alloc]; omega
 generalize ((w.alloc (.cells #[.int .i64 1, .int .i64 f, .int .i64 b, .int .i64 l, .int .i64 m, .int .i64 c] 72)).alloc (.cells #[.int .u64 0, .int .u64 0] 36)) = w1 at hx s0 hb00 hszn ⊢
 obtain ⟨⟨x0, x1, x2, x3, x4, x5⟩, ⟨x6, x7, x8, x9, x10, x11⟩, x12⟩ := hx.get6
 go_upto_region 3 with fail
 clear x0 x1 x2 x3 x4 x5 x6 x7 x8 x9 x10 x11 x12
 have hone := V2.new w1 (.int .u64 1) (.int .u64 0) 36
 have hbA : Below w1.heap.size w1 (w1.alloc (.cells #[.int .u64 1, .int .u64 0] 36)) := by repeat (first | exact bA | with_reducible assumption | apply bB)
 replace hb00 := bl_call hb00 (Nat.le_refl _) hbA
 replace hx := hx.call hbA
 replace s0 := s0.call hbA
 clear hbA
 generalize w1.alloc (.cells #[.int .u64 1, .int .u64 0] 36) = w2 at hb00 hx s0 hone ⊢
 go_upto_region 4 with fail
 have hout := V2.new w2 (.int .u64 0) (.int .u64 0) 36
 have hbA : Below w2.heap.size w2 (w2.alloc (.cells #[.int .u64 0, .int .u64 0] 36)) := by repeat (first | exact bA | with_reducible assumption | apply bB)
 replace hb00 := bl_call hb00 (Nat.le_refl _) hbA
 replace hx := hx.call hbA
 replace s0 := s0.call hbA
 replace hone := hone.call hbA
 clear hbA
 generalize w2.alloc (.cells #[.int .u64 0, .int .u64 0] 36) = w3 at hb00 hx s0 hone hout ⊢
 obtain ⟨⟨x0, x1, x2, x3, x4, x5⟩, ⟨x6, x7, x8, x9, x10, x11⟩, x12⟩ := hx.get6
 go_upto_region 5 with fail
 clear x0 x1 x2 x3 x4 x5 x6 x7 x8 x9 x10 x11 x12
 obtain ⟨hbi, d0, d1⟩ := (HV.out.below hb00).cells HX.out
 rw [Nat.zero_mul, Nat.add_zero] at d0 d1
 have hsz := hb00.size
 have hbl : bi < w3.heap.size := by omega
 refine region_B (n := 13) (m := 14) (f := 13) (by kernel_rfl) (by kernel_rfl) rfl ?_
 refine WpH.vD 0 (some 24) ?_ rfl rfl (by kernel_rfl) (fun _ _ _ h => h) rfl (fun wz hwz => ?_) ?_
 rotate_left
 ·go_simp; try (with_reducible rfl)
 simp only [Zp, Zq, Zr, Zs]
 refine WpH.vD 1 (some 25) ?_ rfl rfl (by kernel_rfl) (fun _ _ _ h => h) rfl (fun wz hwz => ?_) ?_
 rotate_left
 ·go_simp; try (with_reducible rfl)
 simp only [Zp, Zq, Zr, Zs]
 refine WpH.vD 2 (some 26) ?_ rfl rfl (by kernel_rfl) (fun _ _ _ h => h) rfl (fun wz hwz => ?_) ?_
 rotate_left
 ·go_simp; try (with_reducible rfl)
 simp only [Zp, Zq, Zr, Zs]
 refine WpH.vD 3 (some 27) ?_ rfl rfl (by kernel_rfl) (fun _ _ _ h => h) rfl (fun wz hwz => ?_) ?_
 rotate_left
 ·go_simp; try (with_reducible rfl)
 simp only [Zp, Zq, Zr, Zs]
 refine WpH.vD 4 (some 28) ?_ rfl rfl (by kernel_rfl) (fun _ _ _ h => h) rfl (fun wz hwz => ?_) ?_
 rotate_left
 ·(obtain ⟨hcz, hfz⟩ := bcell hwz; go_simp; try (with_reducible rfl))
 simp only [Zp, Zq, Zr, Zs]
 refine WpH.vD 5 (some 29) ?_ rfl rfl (by kernel_rfl) (fun _ _ _ h => h) rfl (fun wz hwz => ?_) ?_
 rotate_left
 ·go_simp; try (with_reducible rfl)
 simp only [Zp, Zq, Zr, Zs]
 refine WpH.vD 6 (some 30) ?_ rfl rfl (by kernel_rfl) (fun _ _ _ h => h) rfl (fun wz hwz => ?_) ?_
 rotate_left
 ·go_simp; try (with_reducible rfl)
 simp only [Zp, Zq, Zr, Zs]
 refine WpH.vD 7 (some 31) ?_ rfl rfl (by kernel_rfl) (fun _ _ _ h => h) rfl (fun wz hwz => ?_) ?_
 rotate_left
 ·(obtain ⟨hcz, hfz⟩ := bcell hwz; go_simp; try (with_reducible rfl))
 simp only [Zp, Zq, Zr, Zs]
 refine WpH.takeD 8 (some 32) rfl rfl (by kernel_rfl) (fun _ _ _ h => h) (.call rfl (fun wz hwz => HMUL.out x x wz) (fun wz hwz => ?_)) ?_
 ·go_simp; try (with_reducible rfl)
 simp only [Zp, Zq, Zr, Zs]
 refine WpH.vD 9 (some 33) ?_ rfl rfl (by kernel_rfl) (fun _ _ _ h => h) rfl (fun wz hwz => ?_) ?_
 rotate_left
 ·go_simp; try (with_reducible rfl)
 simp only [Zp, Zq, Zr, Zs]
 refine WpH.vD 10 (some 34) ?_ rfl rfl (by kernel_rfl) (fun _ _ _ h => h) rfl (fun wz hwz => ?_) ?_
 rotate_left
 ·go_simp; try (with_reducible rfl)
 simp only [Zp, Zq, Zr, Zs]
 refine WpH.vD 11 (some 35) ?_ rfl rfl (by kernel_rfl) (fun _ _ _ h => h) rfl (fun wz hwz => ?_) ?_
 rotate_left
 ·(obtain ⟨hcz, hfz⟩ := bcell hwz; go_simp; try (with_reducible rfl))
 simp only [Zp, Zq, Zr, Zs]
 refine WpH.takeD 12 (some 36) rfl rfl (by kernel_rfl) (fun _ _ _ h => h) (.call rfl (fun wz hwz => HSUB.out (x * x) x wz) (fun wz hwz => ?_)) ?_
 ·go_simp; try (with_reducible rfl)
 simp only [Zp, Zq, Zr, Zs]
 refine WpH.doneB (by kernel_rfl) (fun w4 hw4 => ?_)
 (try simp only [List.drop_succ_cons]); (try simp only [List.drop_zero]); (try simp only [Nat.reduceSub]); (try simp only [List.take_succ_cons]); (try simp only [List.take_zero])
 clear d0 d1 hbi
 replace hb00 := bl_call hb00 (Nat.le_refl _) hw4
 replace hx := hx.call hw4
 replace s0 := s0.call hw4
 replace hone := hone.call hw4
 replace hout := hout.call hw4
 obtain ⟨s00, s01, s02, s03, s04⟩ := V2.mk s0.c0 s0.c1 s0.f0 s0.f1 s0.lt
 go_wp2_with fail
 refine bodyPost_ret (results_v2 (b := w.heap.size + 1) (u := .int .u64 (lo (x * x - x))) (v := .int .u64 (hi (x * x - x))) ?_ rfl rfl) rfl ?_
 ·exact V2.set s0 _ _
 ·exact ⟨rfl, by repeat (first | exact bA | with_reducible assumption | apply bB | (refine bC ?_ (by dsimp only; omega)) | apply bD | apply bE | (refine bF ?_ (by assumption)))⟩

set_option maxHeartbeats 8000000 in
theorem ref9_Direct2 (l m c : Int) (s : Nat) (hs1 : 1 ≤ s) (vl vj : Value) (v j : KL f) (w : World) (hv : SlK w w.heap.size vl v) (hj : SlK w w.heap.size vj j) (hl0 : 1 ≤ v.length) (hl : v.length ≤ 4096) (hjl : ∀ i, i < v.length → i / s < j.length) (hj1 : 1 ≤ j.length) (hj2 : j.length ≤ 4096) :
  Calls Tryz.prog 86 #[.agg #[.int .i64 2, .int .i64 f, .int .i64 s, .int .i64 l, .int .i64 m, .int .i64 c], vl, vj] w (RetK (dirP v j s v.length) w) := by
 have HADD := Lib.hid (fun (x y : Fin (Pm f)) wz => ref_AddK hf x y wz)
 have HSUB := Lib.hid (fun (x y : Fin (Pm f)) wz => ref_SubK hf x y wz)
 have HMUL := Lib.hid (fun (x y : Fin (Pm f)) wz => ref_MulK hf x y wz)
 have HSUB1 : Hid (∀ (x : Fin (Pm f)) wz, Calls Tryz.prog 118 #[.int .i64 f, vK x, .agg #[.int .u64 1, .int .u64 0]] wz (RetK (x - 1) wz)) := fun x wz => by
  have h := ref_SubK hf x 1 wz
  rwa [vK_one] at h
 obtain ⟨A, cc, rfl, hcc, hcm, hA⟩ := id hv
 obtain ⟨bi, oi, rfl, hbi, HRI⟩ := hA (by omega)
 obtain ⟨A2, cc2, rfl, hcc2, hcm2, hA2⟩ := id hj
 obtain ⟨bj, oj, rfl, hbj, HRJ⟩ := hA2 (by omega)
 clear hA HRI hbi hA2 HRJ hcc2 hbj
 obtain ⟨n, hn⟩ : ∃ n, v.length = n := ⟨_, rfl⟩
 obtain ⟨nj, hnj⟩ : ∃ n, j.length = n := ⟨_, rfl⟩
 rw [hn] at hv hl0 hl hjl hcc ⊢
 rw [hnj] at hj hjl hj1 hj2 ⊢
 have HN := Lib.hid hn
 have HNJ := Lib.hid hnj
 have HJL := Lib.hid hjl
 have HV := Lib.hid hv
 have HJ := Lib.hid hj
 clear hn hnj hjl hv hj
 have hfb0 : (1 : Int) ≤ (f : Int) := by rcases hf.or with rfl | rfl <;> omega
 have hfb1 : (f : Int) ≤ 2 := by rcases hf.or with rfl | rfl <;> omega
 go_enter Tryz.func86, Tryz.ntmps86
 go_upto_region 1 with fail
 have hx := (Vs.new w [.int .i64 2, .int .i64 f, .int .i64 s, .int .i64 l, .int .i64 m, .int .i64 c] #[.int .i64 2, .int .i64 f, .int .i64 s, .int .i64 l, .int .i64 m, .int .i64 c] 72 rfl).alloc (.cells #[.int .u64 0, .int .u64 0] 36)
 have s0 := V2.new (w.alloc (.cells #[.int .i64 2, .int .i64 f, .int .i64 s, .int .i64 l, .int .i64 m, .int .i64 c] 72)) (.int .u64 0) (.int .u64 0) 36
 simp only [World.size_alloc] at s0
 have hb00 : Below w.heap.size w ((w.alloc (.cells #[.int .i64 2, .int .i64 f, .int .i64 s, .int .i64 l, .int .i64 m, .int .i64 c] 72)).alloc (.cells #[.int .u64 0, .int .u64 0] 36)) := by repeat (first | exact bA | with_reducible assumption | apply bB)
 have hszn : w.heap.size + 2 ≤ ((w.alloc (.cells #[.int .i64 2, .int .i64 f, .int .i64 s, .int .i64 l, .int .i64 m, .int .i64 c] 72)).alloc (.cells #[.int .u64 0, .int .u64 0] 36)).heap.size := by simp only [World.size_alloc]; omega
 generalize ((w.alloc (.cells #[.int .i64 2, .int .i64 f, .int .i64 s, .int .i64 l, .int .i64 m, .int .i64 c] 72)).alloc (.cells #[.int .u64 0, .int .u64 0] 36)) = w1 at hx s0 hb00 hszn ⊢
 obtain ⟨⟨x0, x1, x2, x3, x4, x5⟩, ⟨x6, x7, x8, x9, x10, x11⟩, x12⟩ := hx.get6
 go_upto_region 3 with fail
 clear x0 x1 x2 x3 x4 x5 x6 x7 x8 x9 x10 x11 x12
 have hone := V2.new w1 (.int .u64 1) (.int .u64 0) 36
 have hbA : Below w1.heap.size w1 (w1.alloc (.cells #[.int .u64 1, .int .u64 0] 36)) := by repeat (first | exact bA | with_reducible assumption | apply bB)
 replace hb00 := bl_call hb00 (Nat.le_refl _) hbA
 replace hx := hx.call hbA
 replace s0 := s0.call hbA
 clear hbA
 generalize w1.alloc (.cells #[.int .u64 1, .int .u64 0] 36) = w2 at hb00 hx s0 hone ⊢
 go_upto_region 4 with fail
 have hs12 : w1.heap.size < w2.heap.size := hone.lt
 have hout := V2.new w2 (.int .u64 0) (.int .u64 0) 36
 have hbA : Below w2.heap.size w2 (w2.alloc (.cells #[.int .u64 0, .int .u64 0] 36)) := by repeat (first | exact bA | with_reducible assumption | apply bB)
 replace hb00 := bl_call hb00 (Nat.le_refl _) hbA
 replace hx := hx.call hbA
 replace s0 := s0.call hbA
 replace hone := hone.call hbA
 clear hbA
 generalize w2.alloc (.cells #[.int .u64 0, .int .u64 0] 36) = w3 at hb00 hx s0 hone hout ⊢
 obtain ⟨b1, hb1⟩ : ∃ q, w1.heap.size = q := ⟨_, rfl⟩
 obtain ⟨b2, hb2⟩ : ∃ q, w2.heap.size = q := ⟨_, rfl⟩
 rw [hb1] at hone hs12 hszn
 rw [hb2] at hout hs12
 simp only [hb1, hb2]
 clear hb1 hb2
 obtain ⟨⟨x0, x1, x2, x3, x4, x5⟩, ⟨x6, x7, x8, x9, x10, x11⟩, x12⟩ := hx.get6
 go_wp2_with fail
 clear x0 x1 x2 x3 x4 x5 x6 x7 x8 x9 x10 x11 x12
 go_loopw [11] (fun i wr => ∃ k : Nat, k ≤ n ∧ i = .int .i64 k ∧ Vs wr w.heap.size [.int .i64 2, .int .i64 f, .int .i64 s, .int .i64 l, .int .i64 m, .int .i64 c] ∧ V2 wr (w.heap.size + 1) (.int .u64 0) (.int .u64 0) ∧ V2 wr b1 (.int .u64 1) (.int .u64 0) ∧
   V2 wr b2 (.int .u64 (lo (dirP v j s k))) (.int .u64 (hi (dirP v j s k))) ∧ Below w.heap.size w wr) (fun i _ => n - (intOf i).toNat)
 case atStart =>
  refine ⟨0, Nat.zero_le _, rfl, hx, s0, hone, ?_, hb00⟩
  rw [dirP_zero, lo_zero, hi_zero]
  exact hout
 case round =>
  clear hx s0 hone hout hb00
  obtain ⟨k, hk, rfl, hx, s0, hone, hout, hbw⟩ := hrel
  have hsz := hbw.size
  by_cases hlt : k < n
  ·obtain ⟨x, hxx⟩ : ∃ e, v[k]? = some e := ⟨_, List.getElem?_eq_getElem (by rw [HN.out]; exact hlt)⟩
   obtain ⟨r, hrr⟩ : ∃ e, j[k / s]? = some e := ⟨_, List.getElem?_eq_getElem (by rw [HNJ.out]; exact HJL.out k hlt)⟩
   have HST : Hid (dirP v j s (k + 1) = dirP v j s k + kpw r (k % s + 1) * (x * (x - 1))) := dirP_succ hxx hrr
   have HX := Lib.hid hxx
   have HR := Lib.hid hrr
   have hjk := HJL.out k hlt
   obtain ⟨p, hp⟩ : ∃ p, k / s = p := ⟨_, rfl⟩
   obtain ⟨q, hq⟩ : ∃ q, k % s = q := ⟨_, rfl⟩
   have hkd : (k : Int).tdiv (s : Int) = (p : Int) := by rw [Int.tdiv_eq_ediv_of_nonneg (by omega), ← hp]; rfl
   have hkm : (k : Int).tmod (s : Int) = (q : Int) := by rw [Int.tmod_eq_emod_of_nonneg (by omega), ← hq]; rfl
   have hpk : p ≤ k := by rw [← hp]; exact Nat.div_le_self _ _
   have hqk : q ≤ k := by rw [← hq]; exact Nat.mod_le _ _
   rw [hp] at HR hjk
   rw [hq] at HST
   clear hxx hrr hp hq
   obtain ⟨a, ha⟩ : ∃ a, dirP v j s k = a := ⟨_, rfl⟩
   rw [ha] at HST hout
   clear ha
   obtain ⟨hbj, d0, d1⟩ := (HJ.out.below hbw).cells HR.out
   have hbjw : bj < wr.heap.size := by omega
   go_upto_region 13 with fail
   clear d0 d1 hbj hbjw
   have hs13 : b2 < wr.heap.size := hout.lt
   have hrb := V2.new wr (.int .u64 (lo r)) (.int .u64 (hi r)) 36
   have hbA : Below wr.heap.size wr (wr.alloc (.cells #[.int .u64 (lo r), .int .u64 (hi r)] 36)) := by repeat (first | exact bA | with_reducible assumption | apply bB)
   replace hbw := bl_call hbw (Nat.le_refl _) hbA
   replace hx := hx.call hbA
   replace s0 := s0.call hbA
   replace hone := hone.call hbA
   replace hout := hout.call hbA
   clear hbA
   generalize wr.alloc (.cells #[.int .u64 (lo r), .int .u64 (hi r)] 36) = w4 at hbw hx s0 hone hout hrb ⊢
   obtain ⟨rb0, rb1, rb2, rb3, rb4⟩ := V2.mk hrb.c0 hrb.c1 hrb.f0 hrb.f1 hrb.lt
   go_upto_region 14 with fail
   clear rb0 rb1 rb2 rb3 rb4
   have hs14 : wr.heap.size < w4.heap.size := hrb.lt
   have hpw := V2.new w4 (.int .u64 (lo r)) (.int .u64 (hi r)) 36
   have hbA : Below w4.heap.size w4 (w4.alloc (.cells #[.int .u64 (lo r), .int .u64 (hi r)] 36)) := by repeat (first | exact bA | with_reducible assumption | apply bB)
   replace hbw := bl_call hbw (Nat.le_refl _) hbA
   replace hx := hx.call hbA
   replace s0 := s0.call hbA
   replace hone := hone.call hbA
   replace hout := hout.call hbA
   replace hrb := hrb.call hbA
   clear hbA
   generalize w4.alloc (.cells #[.int .u64 (lo r), .int .u64 (hi r)] 36) = w5 at hbw hx s0 hone hout hrb hpw ⊢
   obtain ⟨rb, hrbe⟩ : ∃ q, wr.heap.size = q := ⟨_, rfl⟩
   obtain ⟨pb, hpbe⟩ : ∃ q, w4.heap.size = q := ⟨_, rfl⟩
   rw [hrbe] at hrb hs13 hs14 hsz
   rw [hpbe] at hpw hs14
   simp only [hrbe, hpbe]
   clear hrbe hpbe
   go_wp2_with fail
   go_loopw [14] (fun i wi => ∃ t : Nat, t ≤ q ∧ i = .int .i64 t ∧ Vs wi w.heap.size [.int .i64 2, .int .i64 f, .int .i64 s, .int .i64 l, .int .i64 m, .int .i64 c] ∧ V2 wi (w.heap.size + 1) (.int .u64 0) (.int .u64 0) ∧ V2 wi b1 (.int .u64 1) (.int .u64 0) ∧
    V2 wi b2 (.int .u64 (lo a)) (.int .u64 (hi a)) ∧ V2 wi rb (.int .u64 (lo r)) (.int .u64 (hi r)) ∧ V2 wi pb (.int .u64 (lo (kpw r (t + 1)))) (.int .u64 (hi (kpw r (t + 1)))) ∧ Below w.heap.size w wi) (fun i _ => q - (intOf i).toNat)
   case atStart =>
    refine ⟨0, Nat.zero_le _, rfl, hx, s0, hone, hout, hrb, ?_, hbw⟩
    rw [show kpw r (0 + 1) = r by show 1 * r = r; grind]
    exact hpw
   case round =>
    clear hx s0 hone hout hrb hpw hbw
    obtain ⟨t, ht, rfl, hx, s0, hone, hout, hrb, hpw, hbw⟩ := hrel
    by_cases htq : t < q
    ·skip
     obtain ⟨rb0, rb1, rb2, rb3, rb4⟩ := V2.mk hrb.c0 hrb.c1 hrb.f0 hrb.f1 hrb.lt
     obtain ⟨pw0, pw1, pw2, pw3, pw4⟩ := V2.mk hpw.c0 hpw.c1 hpw.f0 hpw.f1 hpw.lt
     go_wp2_with (first
      | (go_at_call 81; refine (HMUL.out (kpw r (t + 1)) r _).mono ?_; rintro e w6 ⟨rfl, hb6⟩; replace hbw := bl_call hbw (Nat.le_refl _) hb6; replace hx := hx.call hb6; replace s0 := s0.call hb6; replace hone := hone.call hb6; replace hout := hout.call hb6; replace hrb := hrb.call hb6; replace hpw := hpw.call hb6; clear rb0 rb1 rb2 rb3 rb4 pw0 pw1 pw2 pw3 pw4; clear hb6; obtain ⟨rb0, rb1, rb2, rb3, rb4⟩ := V2.mk hrb.c0 hrb.c1 hrb.f0 hrb.f1 hrb.lt; obtain ⟨pw0, pw1, pw2, pw3, pw4⟩ := V2.mk hpw.c0 hpw.c1 hpw.f0 hpw.f1 hpw.lt))
     go_roundw
     case rel => exact ⟨t + 1, by omega, by go_num, (hx.far (by dsimp only; omega) _).far (by dsimp only; omega) _, V2.oth s0 (by omega) _ _, V2.oth hone (by omega) _ _, V2.oth hout (by omega) _ _, V2.oth hrb (by omega) _ _, V2.set hpw _ _, by repeat (first | exact bA | with_reducible assumption | apply bB | (refine bC ?_ (by dsimp only; omega)) | apply bD | apply bE | (refine bF ?_ (by assumption)))⟩
     case measure => simp [intOf]; omega
    obtain rfl : t = q := by omega
    have hsz2 := hbw.size
    obtain ⟨hbi, d0, d1⟩ := (HV.out.below hbw).cells HX.out
    have hbiw : bi < wr.heap.size := by omega
    have hpbw : pb < wr.heap.size := hpw.lt
    go_upto_region 18 with fail
    obtain ⟨one0, one1, one2, one3, one4⟩ := V2.mk hone.c0 hone.c1 hone.f0 hone.f1 hone.lt
    have hNew := newE_stable (wr.heap.size)
    refine region_N (n := 14) (m := 15) (f := 14) 13 15 (NewE (wr.heap.size)) (by kernel_rfl) (by kernel_rfl) rfl ?_
    refine WpH.takeND hNew 0 (some 68) (v := ?_) rfl rfl (by kernel_rfl) rfl rfl (fun _ _ _ h => h) (.val rfl (fun wz hwz => ?_)) ?_
    rotate_left
    ·go_simp; try (with_reducible rfl)
    simp only [Zp, Zq, Zr, Zs]
    refine WpH.takeND hNew 1 (some 69) (v := ?_) rfl rfl (by kernel_rfl) rfl rfl (fun _ _ _ h => h) (.val rfl (fun wz hwz => ?_)) ?_
    rotate_left
    ·go_simp; try (with_reducible rfl)
    simp only [Zp, Zq, Zr, Zs]
    refine WpH.takeND hNew 2 (some 70) (v := ?_) rfl rfl (by kernel_rfl) rfl rfl (fun _ _ _ h => h) (.val rfl (fun wz hwz => ?_)) ?_
    rotate_left
    ·go_simp; try (with_reducible rfl)
    simp only [Zp, Zq, Zr, Zs]
    refine WpH.takeND hNew 3 (some 71) (v := ?_) rfl rfl (by kernel_rfl) rfl rfl (fun _ _ _ h => h) (.val rfl (fun wz hwz => ?_)) ?_
    rotate_left
    ·go_simp; try (with_reducible rfl)
    simp only [Zp, Zq, Zr, Zs]
    refine WpH.takeND hNew 4 (some 72) (v := ?_) rfl rfl (by kernel_rfl) rfl rfl (fun _ _ _ h => h) (.val rfl (fun wz hwz => ?_)) ?_
    rotate_left
    ·(obtain ⟨hcz, hfz⟩ := bcell hwz; go_simp; try (with_reducible rfl))
    simp only [Zp, Zq, Zr, Zs]
    refine WpH.takeND hNew 5 (some 73) (v := ?_) rfl rfl (by kernel_rfl) rfl rfl (fun _ _ _ h => h) (.val rfl (fun wz hwz => ?_)) ?_
    rotate_left
    ·go_simp; try (with_reducible rfl)
    simp only [Zp, Zq, Zr, Zs]
    refine WpH.takeND hNew 6 (some 74) (v := ?_) rfl rfl (by kernel_rfl) rfl rfl (fun _ _ _ h => h) (.val rfl (fun wz hwz => ?_)) ?_
    rotate_left
    ·go_simp; try (with_reducible rfl)
    simp only [Zp, Zq, Zr, Zs]
    refine WpH.takeND hNew 7 (some 75) (v := ?_) rfl rfl (by kernel_rfl) rfl rfl (fun _ _ _ h => h) (.val rfl (fun wz hwz => ?_)) ?_
    rotate_left
    ·go_simp; try (with_reducible rfl)
    simp only [Zp, Zq, Zr, Zs]
    refine WpH.takeND hNew 8 (some 76) (v := ?_) rfl rfl (by kernel_rfl) rfl rfl (fun _ _ _ h => h) (.val rfl (fun wz hwz => ?_)) ?_
    rotate_left
    ·go_simp; try (with_reducible rfl)
    simp only [Zp, Zq, Zr, Zs]
    refine WpH.takeND hNew 9 (some 77) (v := ?_) rfl rfl (by kernel_rfl) rfl rfl (fun _ _ _ h => h) (.val rfl (fun wz hwz => ?_)) ?_
    rotate_left
    ·(obtain ⟨hcz, hfz⟩ := bcell hwz; go_simp; try (with_reducible rfl))
    simp only [Zp, Zq, Zr, Zs]
    refine WpH.takeND hNew 10 (some 78) (v := ?_) rfl rfl (by kernel_rfl) rfl rfl (fun _ _ _ h => h) (.val rfl (fun wz hwz => ?_)) ?_
    rotate_left
    ·(obtain ⟨hcz, hfz⟩ := bcell hwz; go_simp; try (with_reducible rfl))
    simp only [Zp, Zq, Zr, Zs]
    refine WpH.takeND hNew 11 (some 79) rfl rfl (by kernel_rfl) rfl rfl (fun _ _ _ h => h) (.call rfl (fun wz hwz => HSUB1.out x wz) (fun wz hwz => ?_)) ?_
    ·go_simp; try (with_reducible rfl)
    simp only [Zp, Zq, Zr, Zs]
    refine WpH.takeND hNew 12 (some 80) rfl rfl (by kernel_rfl) rfl rfl (fun _ _ _ h => h) (.call rfl (fun wz hwz => HMUL.out x (x - 1) wz) (fun wz hwz => ?_)) ?_
    ·go_simp; try (with_reducible rfl)
    simp only [Zp, Zq, Zr, Zs]
    refine WpH.one (i := 13) (by kernel_rfl) (fun w2 hw2 => ?_)
    refine wpOp_valueD (some 15) rfl rfl rfl (by go_simp; first | rfl | exact ⟨rfl, rfl⟩) ⟨⟨hw2.1.trans (((Below.refl _ _).alloc (Nat.le_refl _) _).mono hw2.1.size), fun _ => ⟨_, rfl, (by have hsz2 := hw2.1.size; (try simp only [World.size_alloc] at hsz2); omega), V2.new _ _ _ _⟩⟩, ?_⟩
    simp only [Zp, Zq, Zr, Zs]
    refine WpH.done (by kernel_rfl) (fun w6 hw6n => ?_)
    obtain ⟨hw6, hnw6⟩ := hw6n
    obtain ⟨xb, hbew6, hBxb, hVxb⟩ := hnw6 rfl
    simp at hbew6
    rw [hbew6]
    clear hNew hnw6 hw2 hbew6 w2
    (try simp only [List.drop_succ_cons]); (try simp only [List.drop_zero]); (try simp only [Nat.reduceSub]); (try simp only [List.take_succ_cons]); (try simp only [List.take_zero])
    clear one0 one1 one2 one3 one4
    clear d0 d1 hbi hbiw
    replace hbw := bl_call hbw (Nat.le_refl _) hw6
    replace hx := hx.call hw6
    replace s0 := s0.call hw6
    replace hone := hone.call hw6
    replace hout := hout.call hw6
    replace hrb := hrb.call hw6
    replace hpw := hpw.call hw6
    clear hw6
    generalize x * (x - 1) = y at *
    obtain ⟨Vxb0, Vxb1, Vxb2, Vxb3, Vxb4⟩ := V2.mk hVxb.c0 hVxb.c1 hVxb.f0 hVxb.f1 hVxb.lt
    go_upto_region 19 with fail
    clear Vxb0 Vxb1 Vxb2 Vxb3 Vxb4
    replace hx := (hx.far (p := ⟨xb, 0, none⟩) (by dsimp only; omega) (.int .u64 (lo y))).far (p := ⟨xb, 1, none⟩) (by dsimp only; omega) (.int .u64 (hi y))
    replace s0 := V2.oth s0 (b := xb) (by omega) (.int .u64 (lo y)) (.int .u64 (hi y))
    replace hone := V2.oth hone (b := xb) (by omega) (.int .u64 (lo y)) (.int .u64 (hi y))
    replace hout := V2.oth hout (b := xb) (by omega) (.int .u64 (lo y)) (.int .u64 (hi y))
    replace hpw := V2.oth hpw (b := xb) (by omega) (.int .u64 (lo y)) (.int .u64 (hi y))
    replace hVxb := V2.set hVxb (.int .u64 (lo y)) (.int .u64 (hi y))
    replace hbw := bl_st hbw (b := xb) (by omega) (.int .u64 (lo y)) (.int .u64 (hi y))
    clear hrb
    generalize (w6.setCell ⟨xb, 0, none⟩ (.int .u64 (lo y))).setCell ⟨xb, 1, none⟩ (.int .u64 (hi y)) = w7 at *
    obtain ⟨out0, out1, out2, out3, out4⟩ := V2.mk hout.c0 hout.c1 hout.f0 hout.f1 hout.lt
    obtain ⟨pw0, pw1, pw2, pw3, pw4⟩ := V2.mk hpw.c0 hpw.c1 hpw.f0 hpw.f1 hpw.lt
    obtain ⟨Vxb0, Vxb1, Vxb2, Vxb3, Vxb4⟩ := V2.mk hVxb.c0 hVxb.c1 hVxb.f0 hVxb.f1 hVxb.lt
    refine region_B (n := 7) (m := 8) (f := 7) (by kernel_rfl) (by kernel_rfl) rfl ?_
    refine WpH.vD 0 (some 81) ?_ rfl rfl (by kernel_rfl) (fun _ _ _ h => h) rfl (fun wz hwz => ?_) ?_
    rotate_left
    ·go_simp; try (with_reducible rfl)
    simp only [Zp, Zq, Zr, Zs]
    refine WpH.vD 1 (some 82) ?_ rfl rfl (by kernel_rfl) (fun _ _ _ h => h) rfl (fun wz hwz => ?_) ?_
    rotate_left
    ·(obtain ⟨hcz, hfz⟩ := bcell hwz; go_simp; try (with_reducible rfl))
    simp only [Zp, Zq, Zr, Zs]
    refine WpH.vD 2 (some 83) ?_ rfl rfl (by kernel_rfl) (fun _ _ _ h => h) rfl (fun wz hwz => ?_) ?_
    rotate_left
    ·go_simp; try (with_reducible rfl)
    simp only [Zp, Zq, Zr, Zs]
    refine WpH.vD 3 (some 84) ?_ rfl rfl (by kernel_rfl) (fun _ _ _ h => h) rfl (fun wz hwz => ?_) ?_
    rotate_left
    ·(obtain ⟨hcz, hfz⟩ := bcell hwz; go_simp; try (with_reducible rfl))
    simp only [Zp, Zq, Zr, Zs]
    refine WpH.vD 4 (some 85) ?_ rfl rfl (by kernel_rfl) (fun _ _ _ h => h) rfl (fun wz hwz => ?_) ?_
    rotate_left
    ·(obtain ⟨hcz, hfz⟩ := bcell hwz; go_simp; try (with_reducible rfl))
    simp only [Zp, Zq, Zr, Zs]
    refine WpH.takeD 5 (some 86) rfl rfl (by kernel_rfl) (fun _ _ _ h => h) (.call rfl (fun wz hwz => HMUL.out (kpw r (t + 1)) y wz) (fun wz hwz => ?_)) ?_
    ·go_simp; try (with_reducible rfl)
    simp only [Zp, Zq, Zr, Zs]
    refine WpH.takeD 6 (some 87) rfl rfl (by kernel_rfl) (fun _ _ _ h => h) (.call rfl (fun wz hwz => HADD.out a (kpw r (t + 1) * y) wz) (fun wz hwz => ?_)) ?_
    ·go_simp; try (with_reducible rfl)
    simp only [Zp, Zq, Zr, Zs]
    refine WpH.doneB (by kernel_rfl) (fun w8 hw8 => ?_)
    (try simp only [List.drop_succ_cons]); (try simp only [List.drop_zero]); (try simp only [Nat.reduceSub]); (try simp only [List.take_succ_cons]); (try simp only [List.take_zero])
    clear out0 out1 out2 out3 out4 pw0 pw1 pw2 pw3 pw4 Vxb0 Vxb1 Vxb2 Vxb3 Vxb4
    clear hpw hVxb
    replace hbw := bl_call hbw (Nat.le_refl _) hw8
    replace hx := hx.call hw8
    replace s0 := s0.call hw8
    replace hone := hone.call hw8
    replace hout := hout.call hw8
    clear hw8
    obtain ⟨out0, out1, out2, out3, out4⟩ := V2.mk hout.c0 hout.c1 hout.f0 hout.f1 hout.lt
    go_wp2_with fail
    go_roundw
    case rel =>
     refine ⟨k + 1, by omega, by go_num, (hx.far (by dsimp only; omega) _).far (by dsimp only; omega) _, V2.oth s0 (by omega) _ _, V2.oth hone (by omega) _ _, ?_, by repeat (first | exact bA | with_reducible assumption | apply bB | (refine bC ?_ (by dsimp only; omega)) | apply bD | apply bE | (refine bF ?_ (by assumption)))⟩
     rw [HST.out]
     exact V2.set hout _ _
    case measure => simp [intOf]; omega
  ·obtain rfl : k = n := by omega
   obtain ⟨⟨x0, x1, x2, x3, x4, x5⟩, ⟨x6, x7, x8, x9, x10, x11⟩, x12⟩ := hx.get6
   obtain ⟨out0, out1, out2, out3, out4⟩ := V2.mk hout.c0 hout.c1 hout.f0 hout.f1 hout.lt
   obtain ⟨s00, s01, s02, s03, s04⟩ := V2.mk s0.c0 s0.c1 s0.f0 s0.f1 s0.lt
   go_wp2_with fail
   refine bodyPost_ret (results_v2 (b := w.heap.size + 1) (u := .int .u64 (lo (dirP v j s k))) (v := .int .u64 (hi (dirP v j s k))) ?_ rfl rfl) rfl ?_
   ·exact V2.set s0 _ _
   ·exact ⟨rfl, by repeat (first | exact bA | with_reducible assumption | apply bB | (refine bC ?_ (by dsimp only; omega)) | apply bD | apply bE | (refine bF ?_ (by assumption)))⟩

end

end Go.Proofs.YtfbfbijkkbflkaaGreatDoor
