/-
 PfJw: for ProofJoint.
-/
import Derived.Test.YtfbfbijkkbflkaaGreatDoorSab
namespace Go.Proofs.YtfbfbijkkbflkaaGreatDoor
open Go.RowKit Fm
set_option linter.unusedVariables false
set_option maxRecDepth 100000

set_option maxHeartbeats 16000000 in
theorem walk_ProofJoint (k f b l m c : Int) (vl : Value) (xs : List E) (fr : Int) (w : World) (hT : TabW w) (hk : 0 ≤ k ∧ k ≤ 255) (hf : 0 ≤ f ∧ f ≤ 255) (hb : 0 ≤ b ∧ b ≤ 255) (hl : 0 ≤ l ∧ l ≤ 255) (hm : 0 ≤ m ∧ m ≤ 255) (hc : 0 ≤ c ∧ c ≤ 255)
  (hxs : SlE w w.heap.size vl xs) (hfr : 0 ≤ fr ∧ fr ≤ 18446744073709551615) :
  Calls Tryz.prog 3 #[.agg #[.int .u8 k, .int .u8 f, .int .u8 b, .int .u8 l, .int .u8 m, .int .u8 c], vl, .int .u64 fr] w fun e w' => e = .returned (.bool true) ∧ Below w.heap.size w w' := by
 obtain ⟨F, y, hF, hy, hCIR⟩ := law10_Circuit k f b l m c hk.1 hk.2 hf.1 hf.2 hb.1 hb.2 hl.1 hl.2 hm.1 hm.2 hc.1 hc.2
 have HAW : Hid (∀ wz, Below w.heap.size w wz → Calls Tryz.prog 10 #[] wz fun e w' => e = .returned (.bool true) ∧ Below wz.heap.size wz w') := fun wz h => law11_Awake wz (hT.call h)
 have HCIR := Lib.hid hCIR
 have hok := hy.ok
 have hcl : y.calls ≤ 511 := by have := hy.calls; omega
 have hnin := hy.nin
 have hjn : y.joint ≤ 512 := by cases y <;> simp only [CK.joint] <;> (try simp only [CK.calls] at hcl ⊢) <;> omega
 have HVEC : Hid (∀ (vx : Value) (es : List E) wz, SlE w w.heap.size vx es → Below w.heap.size w wz → es.length ≤ 60 → Calls Tryz.prog 12 #[y.val F, vx, .bool false] wz fun e w' => ∃ q : Nat × KL F, e = .returned (.slice (some ⟨q.1, 0, none⟩) y.nin y.nin) ∧ (q.2.length = y.nin ∧ wz.heap.size ≤ q.1 ∧ BlkE w' q.1 (esK q.2)) ∧ Below wz.heap.size wz w') :=
  fun vx es wz hs hb h60 => (law10_Vector hF y hok vx es false wz ((hs.below hb).mono hb.size) h60).mono fun e w' ⟨g, zs, h1, h2, h3, h4, h5⟩ => ⟨(g, zs), h2, ⟨h1, h4, h3⟩, h5⟩
 have HVT : Hid (∀ wz (gv : Nat) (v : KL F), v.length = y.nin → okVec y v → BlkE wz gv (esK v) → Calls Tryz.prog 13 #[y.val F, .slice (some ⟨gv, 0, none⟩) y.nin y.nin] wz fun e w' => e = .returned (.bool true) ∧ Below wz.heap.size wz w') :=
  fun wz gv v h1 hv b1 => (circuit_Valid hF y hok hy.calls _ v wz (b1.slM h1 (by omega)) h1).mono fun e w' ⟨⟨t, he, ht⟩, hb⟩ => by
   cases t with
   | true => exact ⟨he, hb⟩
   | false => exact absurd (ht.2 hv) (by decide)
 have HVF : Hid (∀ wz (gv : Nat) (v : KL F), v.length = y.nin → ¬ okVec y v → BlkE wz gv (esK v) → Calls Tryz.prog 13 #[y.val F, .slice (some ⟨gv, 0, none⟩) y.nin y.nin] wz fun e w' => e = .returned (.bool false) ∧ Below wz.heap.size wz w') :=
  fun wz gv v h1 hv b1 => (circuit_Valid hF y hok hy.calls _ v wz (b1.slM h1 (by omega)) h1).mono fun e w' ⟨⟨t, he, ht⟩, hb⟩ => by
   cases t with
   | false => exact ⟨he, hb⟩
   | true => exact absurd (ht.1 rfl) hv
 have HJN : Hid (∀ wz, Calls Tryz.prog 14 #[y.val F] wz (RetI y.joint wz)) := fun wz => circuit_Joint F y hok wz
 have HCAL : Hid (∀ wz, Calls Tryz.prog 16 #[y.val F] wz (RetI y.calls wz)) := fun wz => circuit_Calls F y hok wz
 have HBN : Hid (∀ wz, Calls Tryz.prog 17 #[y.val F] wz fun e w' => e = .returned (.bool true) ∧ Below wz.heap.size wz w') := fun wz => law11_bounds hF y hok hcl wz
 have HDIR : Hid (∀ wz (gv gj : Nat) (v j : KL F), v.length = y.nin → j.length = y.joint → BlkE wz gv (esK v) → RwK wz gj j → Calls Tryz.prog 18 #[y.val F, .slice (some ⟨gv, 0, none⟩) y.nin y.nin, .slice (some ⟨gj, 0, none⟩) y.joint y.joint] wz (RetK0 (dirF y v j) wz)) :=
  fun wz gv gj v j h1 h2 b1 b2 => proof_Direct hF y hok hcl v j h1 h2 _ _ wz (b1.slM h1 (by omega)) (b2.sl h2 (Nat.le_refl _) (by omega))
 have HPOW : Hid (∀ wz (r : Fin (Pm F)) (n : Nat), n ≤ 4000 → Calls Tryz.prog 15 #[.int .u8 (F : Int), .agg #[.int .u64 (lo r), .int .u64 (hi r)], .int .u64 (n : Nat)] wz (RetK (Fm.kpow r n) wz)) := fun wz r n hn => field_Pow hF r n (by omega) wz
 have HNIN : Hid (1 ≤ y.nin) := CK.nin_pos hok
 have EQL : ∀ (a0 a1 b0 b1 : Int) (wz : World), (Op.equalIn 10000 36 (.agg #[.int .u64 a0, .int .u64 a1]) (.agg #[.int .u64 b0, .int .u64 b1])).run Tryz.prog wz = .ok (a0 == b0 && a1 == b1) wz := fun a0 a1 b0 b1 wz => run_equalIn_elem 9998 a0 a1 b0 b1 wz
 obtain ⟨⟨A1, c1, rfl, _, _, _⟩, _⟩ := id hxs
 have HXS := Lib.hid hxs
 obtain ⟨fn, rfl⟩ : ∃ q : Nat, fr = (q : Int) := ⟨fr.toNat, by omega⟩
 obtain ⟨m9, hm9⟩ : ∃ r, fn % 1000 = r := ⟨_, rfl⟩
 have hm91 : m9 < 1000 := by rw [← hm9]; exact Nat.mod_lt _ (by omega)
 have hrd : (fn : Int).tmod 1000 = (m9 : Int) := by rw [Int.tmod_eq_emod_of_nonneg (by omega)]; omega
 have HK0 : Hid (y.k = 1 ∨ y.k ≠ 1) := Classical.em _
 have HKK : Hid (y.k ≠ 1 → ((y.k = 2 ∧ y.pows = y.b ∧ y.rst = false) ∨ (y.k ≠ 2 ∧ y.pows = y.c ∧ 1 ≤ y.c)) ∧ ((y.rst = false ∧ y.k ≠ 4 ∧ y.k ≠ 5) ∨ (y.rst = true ∧ y.k = 4) ∨ (y.rst = true ∧ y.k = 5))) := kinds y hok
 have HON : Hid (y.one ∨ ¬ y.one) := Classical.em _
 have HONE : Hid (y.one → y.k ≠ 2 → y.calls = 1) := fun h1 h2 => one_calls hok h1 h2
 have HMAN : Hid (¬ y.one → y.k ≠ 1 → 1 < y.calls ∧ y.k ≠ 2) := fun h1 h2 => many_calls h1 h2
 have HJI : Hid (y.one → ∀ r : Fin (Pm F), (y.rst = false → List.replicate y.joint r = jntF y r) ∧ (y.rst = true → (List.replicate y.joint r).set (y.joint - 1) (Fm.kpow r (y.c + 1)) = jntF y r)) := fun h r => jnt_is y hok h r
 have HJP : Hid (y.rst = true → 1 ≤ y.joint) := fun h => by
  cases y with
  | hist l c => exact Nat.succ_le_succ (Nat.zero_le _)
  | multi l m c => exact Nat.succ_le_succ (Nat.zero_le _)
  | count => cases h
  | sum b => cases h
  | vec b l c => cases h
 have HCT : Hid (y.one → ∀ (v : KL F), v.length = y.nin → ¬ okVec y v → ∀ (n : Nat) (hit : Nat → Bool), n ≤ 1000 → (∀ i, i < n → hit i = true → dirF y v (jntF y (nK F (m9 + i + 1))) = 0) → cntJ hit n ≤ y.pows + 1) := fun h1 v hl hv n hit hn hh => joint_count hF y hok h1 v hl hv m9 n hm91 hn hit hh
 have hpw := CK.pows_le hok
 have HEK : Hid (∀ n : Nat, n ≤ 100000 → lo (nK F n) = (n : Int) ∧ hi (nK F n) = 0) := fun n hn => Prod.mk.inj (eK_nK hF (n := n) (by omega))
 have hfb0 : (1 : Int) ≤ (F : Int) := by rcases hF.or with rfl | rfl <;> omega
 have hfb1 : (F : Int) ≤ 2 := by rcases hF.or with rfl | rfl <;> omega
 clear hxs hCIR hT hk hf hb hl hm hc hcl hok hnin hy hfr hm9
 unfold CK.val at HCIR HVEC HVT HVF HJN HCAL HBN HDIR
 obtain ⟨K, hK⟩ : ∃ K : Int, ((y.k : Nat) : Int) = K := ⟨_, rfl⟩
 obtain ⟨B, hB⟩ : ∃ K : Int, ((y.b : Nat) : Int) = K := ⟨_, rfl⟩
 obtain ⟨N, hN⟩ : ∃ K : Int, ((y.l : Nat) : Int) = K := ⟨_, rfl⟩
 obtain ⟨M, hM⟩ : ∃ K : Int, ((y.m : Nat) : Int) = K := ⟨_, rfl⟩
 obtain ⟨C, hC⟩ : ∃ K : Int, ((y.c : Nat) : Int) = K := ⟨_, rfl⟩
 rw [hK, hB, hN, hM, hC] at HCIR HVEC HVT HVF HJN HCAL HBN HDIR
 have HK := Lib.hid hK
 have HB := Lib.hid hB
 have HCC := Lib.hid hC
 clear hK hB hN hM hC
 generalize y.nin = ni at *
 generalize y.joint = nj at *
 generalize y.calls = nc at *
 have hb00 : Below w.heap.size w w := Below.refl _ _
 go_enter Tryz.func3, Tryz.ntmps3
 go_upto_region 1 with fail
 clear hb00
 have hs := Vs.new w [.int .u8 k, .int .u8 f, .int .u8 b, .int .u8 l, .int .u8 m, .int .u8 c] #[.int .u8 k, .int .u8 f, .int .u8 b, .int .u8 l, .int .u8 m, .int .u8 c] 23 rfl
 have hbw : Below w.heap.size w (w.alloc (.cells #[.int .u8 k, .int .u8 f, .int .u8 b, .int .u8 l, .int .u8 m, .int .u8 c] 23)) := by repeat (first | exact bA | with_reducible assumption | apply bB)
 have hszn : w.heap.size + 1 ≤ (w.alloc (.cells #[.int .u8 k, .int .u8 f, .int .u8 b, .int .u8 l, .int .u8 m, .int .u8 c] 23)).heap.size := by simp only [World.size_alloc]; omega
 generalize (w.alloc (.cells #[.int .u8 k, .int .u8 f, .int .u8 b, .int .u8 l, .int .u8 m, .int .u8 c] 23)) = w1 at hs hbw hszn ⊢
 by_cases h40 : 40 < xs.length
 ·skip
  go_wp2_with (first
   | (go_at_call 10; refine (HAW.out _ hbw).mono ?_; rintro e w2 ⟨rfl, hb2⟩; replace hbw := bl_call hbw (Nat.le_refl _) hb2; replace hs := hs.call hb2))
  go_ret
  exact ⟨rfl, hbw⟩
 obtain ⟨⟨s0, s1, s2, s3, s4, s5⟩, ⟨s6, s7, s8, s9, s10, s11⟩, s12⟩ := hs.get6
 go_upto_region 5 with (first
  | (go_at_call 10; refine (HAW.out _ hbw).mono ?_; rintro e w2 ⟨rfl, hb2⟩; replace hbw := bl_call hbw (Nat.le_refl _) hb2; replace hs := hs.call hb2; clear s0 s1 s2 s3 s4 s5 s6 s7 s8 s9 s10 s11 s12; clear hb2; obtain ⟨⟨s0, s1, s2, s3, s4, s5⟩, ⟨s6, s7, s8, s9, s10, s11⟩, s12⟩ := hs.get6))
 go_upto_region 6 with (first
  | (go_at_call 11; refine (HCIR.out _).mono ?_; rintro e w3 ⟨rfl, hb3⟩; replace hbw := bl_call hbw (Nat.le_refl _) hb3; replace hs := hs.call hb3; clear s0 s1 s2 s3 s4 s5 s6 s7 s8 s9 s10 s11 s12; clear hb3; obtain ⟨⟨s0, s1, s2, s3, s4, s5⟩, ⟨s6, s7, s8, s9, s10, s11⟩, s12⟩ := hs.get6))
 clear s0 s1 s2 s3 s4 s5 s6 s7 s8 s9 s10 s11 s12
 have hyb := hbw.size
 have hY := Vs.new w3 [.int .u8 K, .int .u8 (F : Int), .int .i64 B, .int .i64 N, .int .i64 M, .int .i64 C] #[.int .u8 K, .int .u8 (F : Int), .int .i64 B, .int .i64 N, .int .i64 M, .int .i64 C] 30 rfl
 have hbA : Below w3.heap.size w3 (w3.alloc (.cells #[.int .u8 K, .int .u8 (F : Int), .int .i64 B, .int .i64 N, .int .i64 M, .int .i64 C] 30)) := by repeat (first | exact bA | with_reducible assumption | apply bB)
 replace hbw := bl_call hbw (Nat.le_refl _) hbA
 replace hs := hs.call hbA
 clear hbA
 generalize w3.alloc (.cells #[.int .u8 K, .int .u8 (F : Int), .int .i64 B, .int .i64 N, .int .i64 M, .int .i64 C] 30) = w4 at hbw hs hY ⊢
 obtain ⟨yb, hybe⟩ : ∃ q, w3.heap.size = q := ⟨_, rfl⟩
 rw [hybe] at hY hyb
 simp only [hybe]
 clear hybe hs
 have h40' : xs.length ≤ 60 := by omega
 have hYl := hY.lt
 clear h40
 have h4 := hbw.size
 obtain ⟨⟨Y0, Y1, Y2, Y3, Y4, Y5⟩, ⟨Y6, Y7, Y8, Y9, Y10, Y11⟩, Y12⟩ := hY.get6
 go_upto_region 7 with (go_at_call 12; refine (HVEC.out _ xs _ HXS.out hbw h40').mono ?_; rintro e w5 ⟨⟨gi, v⟩, rfl, ⟨hvl, hgi, hBI⟩, hb5⟩; dsimp only at hvl hgi hBI ⊢)
 clear Y0 Y1 Y2 Y3 Y4 Y5 Y6 Y7 Y8 Y9 Y10 Y11 Y12
 replace hbw := bl_call hbw (Nat.le_refl _) hb5
 replace hY := hY.call hb5
 have HVL := Lib.hid hvl
 have hgy : w.heap.size ≤ gi := Nat.le_trans h4 hgi
 have hgy2 : yb < gi := Nat.lt_of_lt_of_le hYl hgi
 clear hb5 hvl h40' hgi h4 hYl
 obtain ⟨⟨Y0, Y1, Y2, Y3, Y4, Y5⟩, ⟨Y6, Y7, Y8, Y9, Y10, Y11⟩, Y12⟩ := hY.get6
 rcases Classical.em (okVec y v) with hv | hv
 ·have HV := Lib.hid (fun wz hb => HVT.out wz gi v HVL.out hv hb)
  go_wp2_with (first
   | (go_at_call 13; refine (HV.out _ hBI).mono ?_; rintro e w6 ⟨rfl, hb6⟩; replace hbw := bl_call hbw (Nat.le_refl _) hb6; replace hY := hY.call hb6; replace hBI := hBI.call hb6))
  go_ret
  exact ⟨rfl, hbw⟩
 have HV := Lib.hid (fun wz hb => HVF.out wz gi v HVL.out hv hb)
 have HNV := Lib.hid hv
 clear hv
 rcases HK0.out with hk1 | hk1
 ·have hk1' : (K == 1) = true := by rw [← HK.out, hk1]; rfl
  go_wp2_with (first
   | (go_at_call 13; refine (HV.out _ hBI).mono ?_; rintro e w6 ⟨rfl, hb6⟩; replace hbw := bl_call hbw (Nat.le_refl _) hb6; replace hY := hY.call hb6; replace hBI := hBI.call hb6; clear Y0 Y1 Y2 Y3 Y4 Y5 Y6 Y7 Y8 Y9 Y10 Y11 Y12; clear hb6; obtain ⟨⟨Y0, Y1, Y2, Y3, Y4, Y5⟩, ⟨Y6, Y7, Y8, Y9, Y10, Y11⟩, Y12⟩ := hY.get6))
  go_ret
  exact ⟨rfl, hbw⟩
 have hk1' : (K == 1) = false := by rw [← HK.out, beq_eq_false_iff_ne]; omega
 go_upto_region 10 with (first
  | (go_at_call 13; refine (HV.out _ hBI).mono ?_; rintro e w6 ⟨rfl, hb6⟩; replace hbw := bl_call hbw (Nat.le_refl _) hb6; replace hY := hY.call hb6; replace hBI := hBI.call hb6; clear Y0 Y1 Y2 Y3 Y4 Y5 Y6 Y7 Y8 Y9 Y10 Y11 Y12; clear hb6; obtain ⟨⟨Y0, Y1, Y2, Y3, Y4, Y5⟩, ⟨Y6, Y7, Y8, Y9, Y10, Y11⟩, Y12⟩ := hY.get6))
 clear hk1' HV HVT HVF
 have hmk := make_elem nj (by omega)
 rcases (HKK.out hk1).1 with ⟨h2, hp, _⟩ | ⟨h2, hp, hc1⟩
 ·have hk2 : (K != 2) = false := by rw [← HK.out, h2]; rfl
  have HS := Lib.hid h2
  have HPT := Lib.hid (show B = ((y.pows : Nat) : Int) by rw [← HB.out, hp])
  clear h2 hp
  obtain ⟨⟨Y0, Y1, Y2, Y3, Y4, Y5⟩, ⟨Y6, Y7, Y8, Y9, Y10, Y11⟩, Y12⟩ := hY.get6
  go_upto_region 13 with fail
  clear Y0 Y1 Y2 Y3 Y4 Y5 Y6 Y7 Y8 Y9 Y10 Y11 Y12
  obtain ⟨n, hn⟩ : ∃ n, y.pows + 4 = n := ⟨_, rfl⟩
  obtain ⟨n1, hn1⟩ : ∃ n, y.pows + 1 = n := ⟨_, rfl⟩
  have hpT := HPT.out
  have hn4 : n ≤ 104 := by omega
  have hw1 : IntKind.i64.wrap (B + 4) = (n : Int) := by rw [IntWalk.i64_in _ (by omega)]; omega
  have hw2 : IntKind.u64.wrap (n : Int) = (n : Int) := IntWalk.u64_in _ (by omega)
  have hw3 : IntKind.i64.wrap (B + 1) = (n1 : Int) := by rw [IntWalk.i64_in _ (by omega)]; omega
  have HN := Lib.hid hn
  have HN1 := Lib.hid hn1
  obtain ⟨hit, hhit⟩ : ∃ hit : Nat → Bool, hit = fun i => decide (dirF y v (jntF y (nK F (m9 + i + 1))) = 0) := ⟨_, rfl⟩
  have HHIT := Lib.hid hhit
  clear hn hn1 hpT hk2 hhit hpw
  obtain ⟨⟨Y0, Y1, Y2, Y3, Y4, Y5⟩, ⟨Y6, Y7, Y8, Y9, Y10, Y11⟩, Y12⟩ := hY.get6
  go_wp2_with fail
  clear Y0 Y1 Y2 Y3 Y4 Y5 Y6 Y7 Y8 Y9 Y10 Y11 Y12
  go_loopw [9, 46] (fun v9 v46 wr => ∃ (i cnt : Nat), i ≤ n ∧ v9 = .int .i64 cnt ∧ v46 = .int .u64 i ∧ Hid (cnt = cntJ hit i) ∧ cnt ≤ i ∧ Hid (¬ y.one → i = 0) ∧ Vs wr yb [.int .u8 K, .int .u8 (F : Int), .int .i64 B, .int .i64 N, .int .i64 M, .int .i64 C] ∧ BlkE wr gi (esK v) ∧ Below w.heap.size w wr) (fun _ v46 _ => n - (intOf v46).toNat)
  case atStart => exact ⟨0, 0, Nat.zero_le _, rfl, rfl, rfl, Nat.le_refl _, fun _ => rfl, hY, hBI, hbw⟩
  case round =>
   clear hY hBI hbw
   obtain ⟨i, cnt, hin, rfl, rfl, hcn, hci, hon, hY, hBI, hbw⟩ := hrel
   obtain ⟨⟨Y0, Y1, Y2, Y3, Y4, Y5⟩, ⟨Y6, Y7, Y8, Y9, Y10, Y11⟩, Y12⟩ := hY.get6
   by_cases hlt : i < n
   ·clear hw1 hw2 hw3
    go_upto_region 17 with (first
     | (go_at_call 14; refine (HJN.out _).mono ?_; rintro e w6 ⟨rfl, hb6⟩; replace hbw := bl_call hbw (Nat.le_refl _) hb6; replace hY := hY.call hb6; replace hBI := hBI.call hb6; clear Y0 Y1 Y2 Y3 Y4 Y5 Y6 Y7 Y8 Y9 Y10 Y11 Y12; clear hb6; obtain ⟨⟨Y0, Y1, Y2, Y3, Y4, Y5⟩, ⟨Y6, Y7, Y8, Y9, Y10, Y11⟩, Y12⟩ := hY.get6))
    clear Y0 Y1 Y2 Y3 Y4 Y5 Y6 Y7 Y8 Y9 Y10 Y11 Y12
    have hRJ : RwK (w6.alloc (.cells (cellsE (List.replicate nj (0, 0))).toArray 36)) w6.heap.size (List.replicate nj (0 : Fin (Pm F))) := RwK.new w6 _ _ (by unfold esK; rw [List.map_replicate, eK_zero]) _
    have hbA : Below w6.heap.size w6 (w6.alloc (.cells (cellsE (List.replicate nj (0, 0))).toArray 36)) := by repeat (first | exact bA | with_reducible assumption | apply bB | (refine bC ?_ (by dsimp only; omega)) | apply bD | apply bE | (refine bF ?_ (by assumption)))
    have lY : yb < w6.heap.size := hY.lt
    have lI : gi < w6.heap.size := hBI.lt
    have lW : w.heap.size ≤ w6.heap.size := hbw.size
    replace hbw := bl_call hbw (Nat.le_refl _) hbA
    replace hY := hY.call hbA
    replace hBI := hBI.call hbA
    clear hbA
    obtain ⟨gj, hgj⟩ : ∃ g, w6.heap.size = g := ⟨_, rfl⟩
    rw [hgj] at hRJ lY lI lW ⊢
    generalize w6.alloc (.cells (cellsE (List.replicate nj (0, 0))).toArray 36) = w7 at hRJ hY hBI hbw ⊢
    obtain ⟨p, hp⟩ : ∃ p, m9 + i + 1 = p := ⟨_, rfl⟩
    have hu1 : IntKind.u64.wrap ((m9 : Int) + (i : Int)) = (m9 : Int) + (i : Int) := IntWalk.u64_in _ (by omega)
    have hu2 : IntKind.u64.wrap ((m9 : Int) + (i : Int) + 1) = (p : Int) := by rw [IntWalk.u64_in _ (by omega)]; omega
    obtain ⟨e1, e2⟩ := HEK.out p (by omega)
    obtain ⟨r, hr⟩ : ∃ r : Fin (Pm F), nK F p = r := ⟨_, rfl⟩
    rw [hr] at e1 e2
    have HRP : Hid (nK F (m9 + i + 1) = r) := by rw [hp]; exact hr
    have E1 := Lib.hid e1
    have E2 := Lib.hid e2
    clear hgj hmk hr e1 e2 hp
    go_upto_region 18 with fail
    clear hu1 hu2
    have lJ : gj < w7.heap.size := hRJ.lt
    have hP := V2.new w7 (.int .u64 (p : Int)) (.int .u64 0) 36
    have hbA : Below w7.heap.size w7 (w7.alloc (.cells #[.int .u64 (p : Int), .int .u64 0] 36)) := by repeat (first | exact bA | with_reducible assumption | apply bB)
    replace hbw := bl_call hbw (Nat.le_refl _) hbA
    replace hY := hY.call hbA
    replace hBI := hBI.call hbA
    replace hRJ := hRJ.call hbA
    clear hbA
    generalize w7.alloc (.cells #[.int .u64 (p : Int), .int .u64 0] 36) = w8 at hbw hY hBI hRJ hP ⊢
    rw [← E1.out, ← E2.out] at hP
    have lP : gj < w7.heap.size := lJ
    obtain ⟨pb, hpb⟩ : ∃ q, w7.heap.size = q := ⟨_, rfl⟩
    rw [hpb] at hP lP
    simp only [hpb]
    have lp1 : w.heap.size ≤ pb := by omega
    clear hpb lJ
    go_wp2_with fail
    go_loopw [60] (fun v60 wi => ∃ q : Nat, q ≤ nj ∧ v60 = .int .i64 q ∧ RwK wi gj (List.replicate q r ++ List.replicate (nj - q) 0) ∧ V2 wi pb (.int .u64 (lo r)) (.int .u64 (hi r)) ∧ Vs wi yb [.int .u8 K, .int .u8 (F : Int), .int .i64 B, .int .i64 N, .int .i64 M, .int .i64 C] ∧ BlkE wi gi (esK v) ∧ Below w.heap.size w wi) (fun v60 _ => nj - (intOf v60).toNat)
    case atStart => exact ⟨0, Nat.zero_le _, rfl, hRJ, hP, hY, hBI, hbw⟩
    case round =>
     clear hRJ hP hY hBI hbw
     obtain ⟨q, hqj, rfl, hRJ, hP, hY, hBI, hbw⟩ := hrel
     by_cases hql : q < nj
     ·skip
      obtain ⟨P0, P1, P2, P3, P4⟩ := V2.mk hP.c0 hP.c1 hP.f0 hP.f1 hP.lt
      have hlen : q < (List.replicate q r ++ List.replicate (nj - q) (0 : Fin (Pm F))).length := by simp only [List.length_append, List.length_replicate]; omega
      obtain ⟨xo, hxo⟩ : ∃ e, (List.replicate q r ++ List.replicate (nj - q) (0 : Fin (Pm F)))[q]? = some e := ⟨_, List.getElem?_eq_getElem hlen⟩
      obtain ⟨z0, z1⟩ := hRJ.at hxo
      obtain ⟨fz0, fz1⟩ := hRJ.frz hlen
      have lr : gj < wr.heap.size := hRJ.lt
      have HRS : Hid (RwK ((wr.setCell ⟨gj, q * 2, none⟩ (.int .u64 (lo r))).setCell ⟨gj, q * 2 + 1, none⟩ (.int .u64 (hi r))) gj (List.replicate (q + 1) r ++ List.replicate (nj - (q + 1)) 0)) := by
       have h := hRJ.set q hlen r
       rwa [fill_next r nj q hql] at h
      have lW2 : w.heap.size ≤ gj := lW
      clear hRJ hlen hxo
      go_wp2_with fail
      go_roundw
      case rel => exact ⟨q + 1, by omega, by go_num, HRS.out, (hP.setOther (by dsimp only; omega) _).setOther (by dsimp only; omega) _, (hY.far (by dsimp only; omega) _).far (by dsimp only; omega) _, (hBI.far (by dsimp only; omega) _).far (by dsimp only; omega) _, by repeat (first | exact bA | with_reducible assumption | apply bB | (refine bC ?_ (by dsimp only; omega)) | apply bD | apply bE | (refine bF ?_ (by assumption)))⟩
      case measure => simp [intOf]; omega
     ·have hRQ : RwK wr gj (List.replicate nj r) := by
       have h9 : q = nj := by omega
       have h := hRJ
       rw [h9, Nat.sub_self, List.replicate_zero, List.append_nil] at h
       exact h
      clear hRJ
      have HJS := HJI.out
      rcases (HKK.out hk1).2 with ⟨hrs, h4, h5⟩ | ⟨hrs, h4⟩ | ⟨hrs, h5⟩
      ·have hk4 : (K == 4) = false := by rw [← HK.out, beq_eq_false_iff_ne]; omega
       have hk5 : (K == 5) = false := by rw [← HK.out, beq_eq_false_iff_ne]; omega
       have HJX : Hid (y.one → List.replicate nj r = jntF y r) := fun h => (HJI.out h r).1 hrs
       clear hrs h4 h5 HJS
       obtain ⟨⟨Y0, Y1, Y2, Y3, Y4, Y5⟩, ⟨Y6, Y7, Y8, Y9, Y10, Y11⟩, Y12⟩ := hY.get6
       go_upto_region 25 with fail
       clear hk4 hk5
       clear Y0 Y1 Y2 Y3 Y4 Y5 Y6 Y7 Y8 Y9 Y10 Y11 Y12
       obtain ⟨JL, hJL⟩ : ∃ q : KL F, List.replicate nj r = q := ⟨_, rfl⟩
       have HJLL : Hid (JL.length = nj) := by show _ = _; rw [← hJL, List.length_replicate]
       rw [hJL] at hRQ HJX
       clear hJL
       rcases HON.out with h1 | h1
       ·skip
        obtain ⟨d, hd⟩ : ∃ d, dirF y v JL = d := ⟨_, rfl⟩
        have HDD := Lib.hid (fun wz b1 b2 => HDIR.out wz gi gj v JL HVL.out HJLL.out b1 b2)
        rw [hd] at HDD
        have HHT : Hid (hit i = true ↔ d = 0) := by
         rw [HHIT.out]
         show decide (dirF y v (jntF y (nK F (m9 + i + 1))) = 0) = true ↔ _
         rw [HRP.out, ← HJX.out h1, hd, decide_eq_true_iff]
        clear hd
        have hk2 : (K != 2) = false := by rw [← HK.out, HS.out]; rfl
        rcases Nat.lt_or_ge 1 nc with h9 | h9
        ·skip
         obtain ⟨⟨Y0, Y1, Y2, Y3, Y4, Y5⟩, ⟨Y6, Y7, Y8, Y9, Y10, Y11⟩, Y12⟩ := hY.get6
         go_upto_region 28 with (first
          | (go_at_call 16; refine (HCAL.out _).mono ?_; rintro e w9 ⟨rfl, hb9⟩; replace hbw := bl_call hbw (Nat.le_refl _) hb9; replace hY := hY.call hb9; replace hBI := hBI.call hb9; replace hRQ := hRQ.call hb9; clear Y0 Y1 Y2 Y3 Y4 Y5 Y6 Y7 Y8 Y9 Y10 Y11 Y12; clear hb9; obtain ⟨⟨Y0, Y1, Y2, Y3, Y4, Y5⟩, ⟨Y6, Y7, Y8, Y9, Y10, Y11⟩, Y12⟩ := hY.get6)
          | (go_at_call 18; refine (HDD.out _ hBI hRQ).mono ?_; rintro e w10 ⟨rfl, hb10⟩; replace hbw := bl_call hbw (Nat.le_refl _) hb10; replace hY := hY.call hb10; replace hBI := hBI.call hb10; replace hRQ := hRQ.call hb10; clear Y0 Y1 Y2 Y3 Y4 Y5 Y6 Y7 Y8 Y9 Y10 Y11 Y12; clear hb10; obtain ⟨⟨Y0, Y1, Y2, Y3, Y4, Y5⟩, ⟨Y6, Y7, Y8, Y9, Y10, Y11⟩, Y12⟩ := hY.get6))
         clear Y0 Y1 Y2 Y3 Y4 Y5 Y6 Y7 Y8 Y9 Y10 Y11 Y12
         have hD := V2.new w10 (.int .u64 (lo d)) (.int .u64 (hi d)) 36
         have hbA : Below w10.heap.size w10 (w10.alloc (.cells #[.int .u64 (lo d), .int .u64 (hi d)] 36)) := by repeat (first | exact bA | with_reducible assumption | apply bB)
         replace hbw := bl_call hbw (Nat.le_refl _) hbA
         replace hY := hY.call hbA
         replace hBI := hBI.call hbA
         clear hbA
         generalize w10.alloc (.cells #[.int .u64 (lo d), .int .u64 (hi d)] 36) = w11 at hbw hY hBI hD ⊢
         obtain ⟨D0, D1, D2, D3, D4⟩ := V2.mk hD.c0 hD.c1 hD.f0 hD.f1 hD.lt
         by_cases hd0 : d = 0
         ·have he9 : (lo d == 0 && hi d == 0) = true := by rw [vK_eq0]; exact decide_eq_true hd0
          have HC9 := Lib.hid (show cnt + 1 = cntJ hit (i + 1) by rw [cntJ_succ, ← hcn.out, if_pos (HHT.out.2 hd0)])
          clear hd0
          go_wp2_with fail
          go_roundw
          case rel => exact ⟨i + 1, cnt + 1, by omega, by go_num, by go_num, HC9, by omega, fun h => absurd h1 h, hY, hBI, hbw⟩
          case measure => simp [intOf]; omega
         ·have he9 : (lo d == 0 && hi d == 0) = false := by rw [vK_eq0]; exact decide_eq_false hd0
          have HC9 := Lib.hid (show cnt = cntJ hit (i + 1) by rw [cntJ_succ, ← hcn.out, if_neg (fun h => hd0 (HHT.out.1 h))]; rfl)
          clear hd0
          go_wp2_with fail
          go_roundw
          case rel => exact ⟨i + 1, cnt, by omega, rfl, by go_num, HC9, by omega, fun h => absurd h1 h, hY, hBI, hbw⟩
          case measure => simp [intOf]; omega
        ·skip
         obtain ⟨⟨Y0, Y1, Y2, Y3, Y4, Y5⟩, ⟨Y6, Y7, Y8, Y9, Y10, Y11⟩, Y12⟩ := hY.get6
         go_upto_region 28 with (first
          | (go_at_call 16; refine (HCAL.out _).mono ?_; rintro e w9 ⟨rfl, hb9⟩; replace hbw := bl_call hbw (Nat.le_refl _) hb9; replace hY := hY.call hb9; replace hBI := hBI.call hb9; replace hRQ := hRQ.call hb9; clear Y0 Y1 Y2 Y3 Y4 Y5 Y6 Y7 Y8 Y9 Y10 Y11 Y12; clear hb9; obtain ⟨⟨Y0, Y1, Y2, Y3, Y4, Y5⟩, ⟨Y6, Y7, Y8, Y9, Y10, Y11⟩, Y12⟩ := hY.get6)
          | (go_at_call 18; refine (HDD.out _ hBI hRQ).mono ?_; rintro e w10 ⟨rfl, hb10⟩; replace hbw := bl_call hbw (Nat.le_refl _) hb10; replace hY := hY.call hb10; replace hBI := hBI.call hb10; replace hRQ := hRQ.call hb10; clear Y0 Y1 Y2 Y3 Y4 Y5 Y6 Y7 Y8 Y9 Y10 Y11 Y12; clear hb10; obtain ⟨⟨Y0, Y1, Y2, Y3, Y4, Y5⟩, ⟨Y6, Y7, Y8, Y9, Y10, Y11⟩, Y12⟩ := hY.get6))
         clear Y0 Y1 Y2 Y3 Y4 Y5 Y6 Y7 Y8 Y9 Y10 Y11 Y12
         have hD := V2.new w10 (.int .u64 (lo d)) (.int .u64 (hi d)) 36
         have hbA : Below w10.heap.size w10 (w10.alloc (.cells #[.int .u64 (lo d), .int .u64 (hi d)] 36)) := by repeat (first | exact bA | with_reducible assumption | apply bB)
         replace hbw := bl_call hbw (Nat.le_refl _) hbA
         replace hY := hY.call hbA
         replace hBI := hBI.call hbA
         clear hbA
         generalize w10.alloc (.cells #[.int .u64 (lo d), .int .u64 (hi d)] 36) = w11 at hbw hY hBI hD ⊢
         obtain ⟨D0, D1, D2, D3, D4⟩ := V2.mk hD.c0 hD.c1 hD.f0 hD.f1 hD.lt
         by_cases hd0 : d = 0
         ·have he9 : (lo d == 0 && hi d == 0) = true := by rw [vK_eq0]; exact decide_eq_true hd0
          have HC9 := Lib.hid (show cnt + 1 = cntJ hit (i + 1) by rw [cntJ_succ, ← hcn.out, if_pos (HHT.out.2 hd0)])
          clear hd0
          go_wp2_with fail
          go_roundw
          case rel => exact ⟨i + 1, cnt + 1, by omega, by go_num, by go_num, HC9, by omega, fun h => absurd h1 h, hY, hBI, hbw⟩
          case measure => simp [intOf]; omega
         ·have he9 : (lo d == 0 && hi d == 0) = false := by rw [vK_eq0]; exact decide_eq_false hd0
          have HC9 := Lib.hid (show cnt = cntJ hit (i + 1) by rw [cntJ_succ, ← hcn.out, if_neg (fun h => hd0 (HHT.out.1 h))]; rfl)
          clear hd0
          go_wp2_with fail
          go_roundw
          case rel => exact ⟨i + 1, cnt, by omega, rfl, by go_num, HC9, by omega, fun h => absurd h1 h, hY, hBI, hbw⟩
          case measure => simp [intOf]; omega
       ·exact absurd HS.out (HMAN.out h1 hk1).2
      ·have hk4 : (K == 4) = true := by rw [← HK.out, h4]; rfl
       have hk5 : (K == 5) = false := by rw [← HK.out, h4]; rfl
       exact absurd (HS.out.symm.trans h4) (by decide)
      ·have h4 := h5
       have hk4 : (K == 4) = false := by rw [← HK.out, h4]; rfl
       have hk5 : (K == 5) = true := by rw [← HK.out, h4]; rfl
       clear h5
       exact absurd (HS.out.symm.trans h4) (by decide)
   ·have hc9 : cnt ≤ n1 := by
     have hi9 : i = n := by omega
     rw [← HN1.out]
     rcases HON.out with h1 | h1
     ·rw [hcn.out]
      exact HCT.out h1 v HVL.out HNV.out i hit (by omega) (fun q hq hh => by rw [HHIT.out] at hh; exact of_decide_eq_true hh)
     ·have h2 := hon.out h1
      omega
    clear hci hin
    go_wp2_with (first
     | (go_at_call 17; refine (HBN.out _).mono ?_; rintro e w7 ⟨rfl, hb7⟩; replace hbw := bl_call hbw (Nat.le_refl _) hb7; replace hY := hY.call hb7; replace hBI := hBI.call hb7))
    go_ret
    exact ⟨rfl, hbw⟩
 ·have hk2 : (K != 2) = true := by rw [← HK.out, bne_iff_ne]; omega
  have HS := Lib.hid h2
  have HPT := Lib.hid (show C = ((y.pows : Nat) : Int) by rw [← HCC.out, hp])
  have hmx : max C 1 = C := by rw [← HCC.out]; omega
  clear h2 hp hc1
  obtain ⟨⟨Y0, Y1, Y2, Y3, Y4, Y5⟩, ⟨Y6, Y7, Y8, Y9, Y10, Y11⟩, Y12⟩ := hY.get6
  go_upto_region 13 with fail
  clear hmx
  clear Y0 Y1 Y2 Y3 Y4 Y5 Y6 Y7 Y8 Y9 Y10 Y11 Y12
  obtain ⟨n, hn⟩ : ∃ n, y.pows + 4 = n := ⟨_, rfl⟩
  obtain ⟨n1, hn1⟩ : ∃ n, y.pows + 1 = n := ⟨_, rfl⟩
  have hpT := HPT.out
  have hn4 : n ≤ 104 := by omega
  have hw1 : IntKind.i64.wrap (C + 4) = (n : Int) := by rw [IntWalk.i64_in _ (by omega)]; omega
  have hw2 : IntKind.u64.wrap (n : Int) = (n : Int) := IntWalk.u64_in _ (by omega)
  have hw3 : IntKind.i64.wrap (C + 1) = (n1 : Int) := by rw [IntWalk.i64_in _ (by omega)]; omega
  have HN := Lib.hid hn
  have HN1 := Lib.hid hn1
  obtain ⟨hit, hhit⟩ : ∃ hit : Nat → Bool, hit = fun i => decide (dirF y v (jntF y (nK F (m9 + i + 1))) = 0) := ⟨_, rfl⟩
  have HHIT := Lib.hid hhit
  clear hn hn1 hpT hk2 hhit hpw
  obtain ⟨⟨Y0, Y1, Y2, Y3, Y4, Y5⟩, ⟨Y6, Y7, Y8, Y9, Y10, Y11⟩, Y12⟩ := hY.get6
  go_wp2_with fail
  clear Y0 Y1 Y2 Y3 Y4 Y5 Y6 Y7 Y8 Y9 Y10 Y11 Y12
  go_loopw [9, 46] (fun v9 v46 wr => ∃ (i cnt : Nat), i ≤ n ∧ v9 = .int .i64 cnt ∧ v46 = .int .u64 i ∧ Hid (cnt = cntJ hit i) ∧ cnt ≤ i ∧ Hid (¬ y.one → i = 0) ∧ Vs wr yb [.int .u8 K, .int .u8 (F : Int), .int .i64 B, .int .i64 N, .int .i64 M, .int .i64 C] ∧ BlkE wr gi (esK v) ∧ Below w.heap.size w wr) (fun _ v46 _ => n - (intOf v46).toNat)
  case atStart => exact ⟨0, 0, Nat.zero_le _, rfl, rfl, rfl, Nat.le_refl _, fun _ => rfl, hY, hBI, hbw⟩
  case round =>
   clear hY hBI hbw
   obtain ⟨i, cnt, hin, rfl, rfl, hcn, hci, hon, hY, hBI, hbw⟩ := hrel
   obtain ⟨⟨Y0, Y1, Y2, Y3, Y4, Y5⟩, ⟨Y6, Y7, Y8, Y9, Y10, Y11⟩, Y12⟩ := hY.get6
   by_cases hlt : i < n
   ·clear hw1 hw2 hw3
    go_upto_region 17 with (first
     | (go_at_call 14; refine (HJN.out _).mono ?_; rintro e w6 ⟨rfl, hb6⟩; replace hbw := bl_call hbw (Nat.le_refl _) hb6; replace hY := hY.call hb6; replace hBI := hBI.call hb6; clear Y0 Y1 Y2 Y3 Y4 Y5 Y6 Y7 Y8 Y9 Y10 Y11 Y12; clear hb6; obtain ⟨⟨Y0, Y1, Y2, Y3, Y4, Y5⟩, ⟨Y6, Y7, Y8, Y9, Y10, Y11⟩, Y12⟩ := hY.get6))
    clear Y0 Y1 Y2 Y3 Y4 Y5 Y6 Y7 Y8 Y9 Y10 Y11 Y12
    have hRJ : RwK (w6.alloc (.cells (cellsE (List.replicate nj (0, 0))).toArray 36)) w6.heap.size (List.replicate nj (0 : Fin (Pm F))) := RwK.new w6 _ _ (by unfold esK; rw [List.map_replicate, eK_zero]) _
    have hbA : Below w6.heap.size w6 (w6.alloc (.cells (cellsE (List.replicate nj (0, 0))).toArray 36)) := by repeat (first | exact bA | with_reducible assumption | apply bB | (refine bC ?_ (by dsimp only; omega)) | apply bD | apply bE | (refine bF ?_ (by assumption)))
    have lY : yb < w6.heap.size := hY.lt
    have lI : gi < w6.heap.size := hBI.lt
    have lW : w.heap.size ≤ w6.heap.size := hbw.size
    replace hbw := bl_call hbw (Nat.le_refl _) hbA
    replace hY := hY.call hbA
    replace hBI := hBI.call hbA
    clear hbA
    obtain ⟨gj, hgj⟩ : ∃ g, w6.heap.size = g := ⟨_, rfl⟩
    rw [hgj] at hRJ lY lI lW ⊢
    generalize w6.alloc (.cells (cellsE (List.replicate nj (0, 0))).toArray 36) = w7 at hRJ hY hBI hbw ⊢
    obtain ⟨p, hp⟩ : ∃ p, m9 + i + 1 = p := ⟨_, rfl⟩
    have hu1 : IntKind.u64.wrap ((m9 : Int) + (i : Int)) = (m9 : Int) + (i : Int) := IntWalk.u64_in _ (by omega)
    have hu2 : IntKind.u64.wrap ((m9 : Int) + (i : Int) + 1) = (p : Int) := by rw [IntWalk.u64_in _ (by omega)]; omega
    obtain ⟨e1, e2⟩ := HEK.out p (by omega)
    obtain ⟨r, hr⟩ : ∃ r : Fin (Pm F), nK F p = r := ⟨_, rfl⟩
    rw [hr] at e1 e2
    have HRP : Hid (nK F (m9 + i + 1) = r) := by rw [hp]; exact hr
    have E1 := Lib.hid e1
    have E2 := Lib.hid e2
    clear hgj hmk hr e1 e2 hp
    go_upto_region 18 with fail
    clear hu1 hu2
    have lJ : gj < w7.heap.size := hRJ.lt
    have hP := V2.new w7 (.int .u64 (p : Int)) (.int .u64 0) 36
    have hbA : Below w7.heap.size w7 (w7.alloc (.cells #[.int .u64 (p : Int), .int .u64 0] 36)) := by repeat (first | exact bA | with_reducible assumption | apply bB)
    replace hbw := bl_call hbw (Nat.le_refl _) hbA
    replace hY := hY.call hbA
    replace hBI := hBI.call hbA
    replace hRJ := hRJ.call hbA
    clear hbA
    generalize w7.alloc (.cells #[.int .u64 (p : Int), .int .u64 0] 36) = w8 at hbw hY hBI hRJ hP ⊢
    rw [← E1.out, ← E2.out] at hP
    have lP : gj < w7.heap.size := lJ
    obtain ⟨pb, hpb⟩ : ∃ q, w7.heap.size = q := ⟨_, rfl⟩
    rw [hpb] at hP lP
    simp only [hpb]
    have lp1 : w.heap.size ≤ pb := by omega
    clear hpb lJ
    go_wp2_with fail
    go_loopw [60] (fun v60 wi => ∃ q : Nat, q ≤ nj ∧ v60 = .int .i64 q ∧ RwK wi gj (List.replicate q r ++ List.replicate (nj - q) 0) ∧ V2 wi pb (.int .u64 (lo r)) (.int .u64 (hi r)) ∧ Vs wi yb [.int .u8 K, .int .u8 (F : Int), .int .i64 B, .int .i64 N, .int .i64 M, .int .i64 C] ∧ BlkE wi gi (esK v) ∧ Below w.heap.size w wi) (fun v60 _ => nj - (intOf v60).toNat)
    case atStart => exact ⟨0, Nat.zero_le _, rfl, hRJ, hP, hY, hBI, hbw⟩
    case round =>
     clear hRJ hP hY hBI hbw
     obtain ⟨q, hqj, rfl, hRJ, hP, hY, hBI, hbw⟩ := hrel
     by_cases hql : q < nj
     ·skip
      obtain ⟨P0, P1, P2, P3, P4⟩ := V2.mk hP.c0 hP.c1 hP.f0 hP.f1 hP.lt
      have hlen : q < (List.replicate q r ++ List.replicate (nj - q) (0 : Fin (Pm F))).length := by simp only [List.length_append, List.length_replicate]; omega
      obtain ⟨xo, hxo⟩ : ∃ e, (List.replicate q r ++ List.replicate (nj - q) (0 : Fin (Pm F)))[q]? = some e := ⟨_, List.getElem?_eq_getElem hlen⟩
      obtain ⟨z0, z1⟩ := hRJ.at hxo
      obtain ⟨fz0, fz1⟩ := hRJ.frz hlen
      have lr : gj < wr.heap.size := hRJ.lt
      have HRS : Hid (RwK ((wr.setCell ⟨gj, q * 2, none⟩ (.int .u64 (lo r))).setCell ⟨gj, q * 2 + 1, none⟩ (.int .u64 (hi r))) gj (List.replicate (q + 1) r ++ List.replicate (nj - (q + 1)) 0)) := by
       have h := hRJ.set q hlen r
       rwa [fill_next r nj q hql] at h
      have lW2 : w.heap.size ≤ gj := lW
      clear hRJ hlen hxo
      go_wp2_with fail
      go_roundw
      case rel => exact ⟨q + 1, by omega, by go_num, HRS.out, (hP.setOther (by dsimp only; omega) _).setOther (by dsimp only; omega) _, (hY.far (by dsimp only; omega) _).far (by dsimp only; omega) _, (hBI.far (by dsimp only; omega) _).far (by dsimp only; omega) _, by repeat (first | exact bA | with_reducible assumption | apply bB | (refine bC ?_ (by dsimp only; omega)) | apply bD | apply bE | (refine bF ?_ (by assumption)))⟩
      case measure => simp [intOf]; omega
     ·have hRQ : RwK wr gj (List.replicate nj r) := by
       have h9 : q = nj := by omega
       have h := hRJ
       rw [h9, Nat.sub_self, List.replicate_zero, List.append_nil] at h
       exact h
      clear hRJ
      have HJS := HJI.out
      rcases (HKK.out hk1).2 with ⟨hrs, h4, h5⟩ | ⟨hrs, h4⟩ | ⟨hrs, h5⟩
      ·have hk4 : (K == 4) = false := by rw [← HK.out, beq_eq_false_iff_ne]; omega
       have hk5 : (K == 5) = false := by rw [← HK.out, beq_eq_false_iff_ne]; omega
       have HJX : Hid (y.one → List.replicate nj r = jntF y r) := fun h => (HJI.out h r).1 hrs
       clear hrs h4 h5 HJS
       obtain ⟨⟨Y0, Y1, Y2, Y3, Y4, Y5⟩, ⟨Y6, Y7, Y8, Y9, Y10, Y11⟩, Y12⟩ := hY.get6
       go_upto_region 25 with fail
       clear hk4 hk5
       clear Y0 Y1 Y2 Y3 Y4 Y5 Y6 Y7 Y8 Y9 Y10 Y11 Y12
       obtain ⟨JL, hJL⟩ : ∃ q : KL F, List.replicate nj r = q := ⟨_, rfl⟩
       have HJLL : Hid (JL.length = nj) := by show _ = _; rw [← hJL, List.length_replicate]
       rw [hJL] at hRQ HJX
       clear hJL
       rcases HON.out with h1 | h1
       ·skip
        obtain ⟨d, hd⟩ : ∃ d, dirF y v JL = d := ⟨_, rfl⟩
        have HDD := Lib.hid (fun wz b1 b2 => HDIR.out wz gi gj v JL HVL.out HJLL.out b1 b2)
        rw [hd] at HDD
        have HHT : Hid (hit i = true ↔ d = 0) := by
         rw [HHIT.out]
         show decide (dirF y v (jntF y (nK F (m9 + i + 1))) = 0) = true ↔ _
         rw [HRP.out, ← HJX.out h1, hd, decide_eq_true_iff]
        clear hd
        have h9 : nc ≤ 1 := Nat.le_of_eq (HONE.out h1 HS.out)
        obtain ⟨⟨Y0, Y1, Y2, Y3, Y4, Y5⟩, ⟨Y6, Y7, Y8, Y9, Y10, Y11⟩, Y12⟩ := hY.get6
        go_upto_region 28 with (first
         | (go_at_call 16; refine (HCAL.out _).mono ?_; rintro e w9 ⟨rfl, hb9⟩; replace hbw := bl_call hbw (Nat.le_refl _) hb9; replace hY := hY.call hb9; replace hBI := hBI.call hb9; replace hRQ := hRQ.call hb9; clear Y0 Y1 Y2 Y3 Y4 Y5 Y6 Y7 Y8 Y9 Y10 Y11 Y12; clear hb9; obtain ⟨⟨Y0, Y1, Y2, Y3, Y4, Y5⟩, ⟨Y6, Y7, Y8, Y9, Y10, Y11⟩, Y12⟩ := hY.get6)
         | (go_at_call 18; refine (HDD.out _ hBI hRQ).mono ?_; rintro e w10 ⟨rfl, hb10⟩; replace hbw := bl_call hbw (Nat.le_refl _) hb10; replace hY := hY.call hb10; replace hBI := hBI.call hb10; replace hRQ := hRQ.call hb10; clear Y0 Y1 Y2 Y3 Y4 Y5 Y6 Y7 Y8 Y9 Y10 Y11 Y12; clear hb10; obtain ⟨⟨Y0, Y1, Y2, Y3, Y4, Y5⟩, ⟨Y6, Y7, Y8, Y9, Y10, Y11⟩, Y12⟩ := hY.get6))
        clear Y0 Y1 Y2 Y3 Y4 Y5 Y6 Y7 Y8 Y9 Y10 Y11 Y12
        have hD := V2.new w10 (.int .u64 (lo d)) (.int .u64 (hi d)) 36
        have hbA : Below w10.heap.size w10 (w10.alloc (.cells #[.int .u64 (lo d), .int .u64 (hi d)] 36)) := by repeat (first | exact bA | with_reducible assumption | apply bB)
        replace hbw := bl_call hbw (Nat.le_refl _) hbA
        replace hY := hY.call hbA
        replace hBI := hBI.call hbA
        clear hbA
        generalize w10.alloc (.cells #[.int .u64 (lo d), .int .u64 (hi d)] 36) = w11 at hbw hY hBI hD ⊢
        obtain ⟨D0, D1, D2, D3, D4⟩ := V2.mk hD.c0 hD.c1 hD.f0 hD.f1 hD.lt
        by_cases hd0 : d = 0
        ·have he9 : (lo d == 0 && hi d == 0) = true := by rw [vK_eq0]; exact decide_eq_true hd0
         have HC9 := Lib.hid (show cnt + 1 = cntJ hit (i + 1) by rw [cntJ_succ, ← hcn.out, if_pos (HHT.out.2 hd0)])
         clear hd0
         go_wp2_with fail
         go_roundw
         case rel => exact ⟨i + 1, cnt + 1, by omega, by go_num, by go_num, HC9, by omega, fun h => absurd h1 h, hY, hBI, hbw⟩
         case measure => simp [intOf]; omega
        ·have he9 : (lo d == 0 && hi d == 0) = false := by rw [vK_eq0]; exact decide_eq_false hd0
         have HC9 := Lib.hid (show cnt = cntJ hit (i + 1) by rw [cntJ_succ, ← hcn.out, if_neg (fun h => hd0 (HHT.out.1 h))]; rfl)
         clear hd0
         go_wp2_with fail
         go_roundw
         case rel => exact ⟨i + 1, cnt, by omega, rfl, by go_num, HC9, by omega, fun h => absurd h1 h, hY, hBI, hbw⟩
         case measure => simp [intOf]; omega
       ·obtain ⟨h9, h10⟩ := HMAN.out h1 hk1
        have hk2 : (K != 2) = true := by rw [← HK.out, bne_iff_ne]; omega
        clear h10
        obtain ⟨⟨Y0, Y1, Y2, Y3, Y4, Y5⟩, ⟨Y6, Y7, Y8, Y9, Y10, Y11⟩, Y12⟩ := hY.get6
        go_wp2_with (first
         | (go_at_call 16; refine (HCAL.out _).mono ?_; rintro e w9 ⟨rfl, hb9⟩; replace hbw := bl_call hbw (Nat.le_refl _) hb9; replace hY := hY.call hb9; replace hBI := hBI.call hb9; replace hRQ := hRQ.call hb9; clear Y0 Y1 Y2 Y3 Y4 Y5 Y6 Y7 Y8 Y9 Y10 Y11 Y12; clear hb9; obtain ⟨⟨Y0, Y1, Y2, Y3, Y4, Y5⟩, ⟨Y6, Y7, Y8, Y9, Y10, Y11⟩, Y12⟩ := hY.get6)
         | (go_at_call 17; refine (HBN.out _).mono ?_; rintro e w7 ⟨rfl, hb7⟩; replace hbw := bl_call hbw (Nat.le_refl _) hb7; replace hY := hY.call hb7; replace hBI := hBI.call hb7; replace hRQ := hRQ.call hb7))
        go_ret
        exact ⟨rfl, hbw⟩
      ·have hk4 : (K == 4) = true := by rw [← HK.out, h4]; rfl
       have hk5 : (K == 5) = false := by rw [← HK.out, h4]; rfl
       obtain ⟨d9, hd9⟩ : ∃ d9, nj = d9 + 1 := ⟨nj - 1, by have := HJP.out hrs; omega⟩
       have hc100 : y.c ≤ 100 := by have h1 := HN.out; rcases (HKK.out hk1).1 with ⟨h, _⟩ | ⟨_, h, _⟩ <;> omega
       obtain ⟨c9, hc9⟩ : ∃ c9, y.c + 1 = c9 := ⟨_, rfl⟩
       have hw4 : IntKind.i64.wrap ((nj : Int) - 1) = (d9 : Int) := by rw [IntWalk.i64_in _ (by omega)]; omega
       have hw5 : IntKind.u64.wrap C = C := by rw [← HCC.out]; exact IntWalk.u64_in _ (by omega)
       have hw6 : IntKind.u64.wrap (C + 1) = (c9 : Int) := by rw [← HCC.out, IntWalk.u64_in _ (by omega)]; omega
       have hlen : d9 < (List.replicate nj r).length := by rw [List.length_replicate]; omega
       have HLEN := Lib.hid hlen
       have HX9 : Hid ((List.replicate nj r)[d9]? = some r) := by show _ = _; rw [List.getElem?_replicate, if_pos (by omega)]
       have hg1 : d9 < nj := by omega
       have HD9 : Hid (nj - 1 = d9) := by show _ = _; omega
       obtain ⟨z, hz⟩ : ∃ z, Fm.kpow r c9 = z := ⟨_, rfl⟩
       have HPW : Hid (∀ wz, Calls Tryz.prog 15 #[.int .u8 (F : Int), .agg #[.int .u64 (lo r), .int .u64 (hi r)], .int .u64 (c9 : Int)] wz (RetK z wz)) := fun wz => by rw [← hz]; exact HPOW.out wz r c9 (by omega)
       have HJX : Hid (y.one → (List.replicate nj r).set d9 z = jntF y r) := fun h => by rw [← hz, ← hc9, ← HD9.out]; exact (HJI.out h r).2 hrs
       clear hz hc9 hc100 hd9 hlen hrs h4 HJS
       obtain ⟨⟨Y0, Y1, Y2, Y3, Y4, Y5⟩, ⟨Y6, Y7, Y8, Y9, Y10, Y11⟩, Y12⟩ := hY.get6
       obtain ⟨P0, P1, P2, P3, P4⟩ := V2.mk hP.c0 hP.c1 hP.f0 hP.f1 hP.lt
       go_upto_region 25 with (go_at_call 15; refine (HPW.out _).mono ?_; rintro e w9 ⟨rfl, hb9⟩; replace hRQ := hRQ.call hb9; replace hY := hY.call hb9; replace hBI := hBI.call hb9; replace hbw := bl_call hbw (Nat.le_refl _) hb9; obtain ⟨z0, z1⟩ := hRQ.at HX9.out; obtain ⟨fz0, fz1⟩ := hRQ.frz HLEN.out; have lr : gj < w9.heap.size := hRQ.lt; clear hb9)
       clear Y0 Y1 Y2 Y3 Y4 Y5 Y6 Y7 Y8 Y9 Y10 Y11 Y12 P0 P1 P2 P3 P4
       clear hP hw4 hw5 hw6 z0 z1 fz0 fz1 hg1 lr hk4 hk5
       have hRS := hRQ.set d9 HLEN.out z
       have hYS := (hY.far (p := ⟨gj, d9 * 2, none⟩) (by dsimp only; omega) (.int .u64 (lo z))).far (p := ⟨gj, d9 * 2 + 1, none⟩) (by dsimp only; omega) (.int .u64 (hi z))
       have hBS := (hBI.far (p := ⟨gj, d9 * 2, none⟩) (by dsimp only; omega) (.int .u64 (lo z))).far (p := ⟨gj, d9 * 2 + 1, none⟩) (by dsimp only; omega) (.int .u64 (hi z))
       have hbS := bl_set (bl_set hbw (p := ⟨gj, d9 * 2, none⟩) lW (.int .u64 (lo z))) (p := ⟨gj, d9 * 2 + 1, none⟩) lW (.int .u64 (hi z))
       clear hRQ hY hBI hbw
       generalize (w9.setCell ⟨gj, d9 * 2, none⟩ (.int .u64 (lo z))).setCell ⟨gj, d9 * 2 + 1, none⟩ (.int .u64 (hi z)) = w8 at hRS hYS hBS hbS ⊢
       have hRQ := hRS
       have hY := hYS
       have hBI := hBS
       have hbw := hbS
       clear hRS hYS hBS hbS
       obtain ⟨JL, hJL⟩ : ∃ q : KL F, (List.replicate nj r).set d9 z = q := ⟨_, rfl⟩
       have HJLL : Hid (JL.length = nj) := by show _ = _; rw [← hJL, List.length_set, List.length_replicate]
       rw [hJL] at hRQ HJX
       clear hJL
       rcases HON.out with h1 | h1
       ·skip
        obtain ⟨d, hd⟩ : ∃ d, dirF y v JL = d := ⟨_, rfl⟩
        have HDD := Lib.hid (fun wz b1 b2 => HDIR.out wz gi gj v JL HVL.out HJLL.out b1 b2)
        rw [hd] at HDD
        have HHT : Hid (hit i = true ↔ d = 0) := by
         rw [HHIT.out]
         show decide (dirF y v (jntF y (nK F (m9 + i + 1))) = 0) = true ↔ _
         rw [HRP.out, ← HJX.out h1, hd, decide_eq_true_iff]
        clear hd
        have h9 : nc ≤ 1 := Nat.le_of_eq (HONE.out h1 HS.out)
        obtain ⟨⟨Y0, Y1, Y2, Y3, Y4, Y5⟩, ⟨Y6, Y7, Y8, Y9, Y10, Y11⟩, Y12⟩ := hY.get6
        go_upto_region 28 with (first
         | (go_at_call 16; refine (HCAL.out _).mono ?_; rintro e w9 ⟨rfl, hb9⟩; replace hbw := bl_call hbw (Nat.le_refl _) hb9; replace hY := hY.call hb9; replace hBI := hBI.call hb9; replace hRQ := hRQ.call hb9; clear Y0 Y1 Y2 Y3 Y4 Y5 Y6 Y7 Y8 Y9 Y10 Y11 Y12; clear hb9; obtain ⟨⟨Y0, Y1, Y2, Y3, Y4, Y5⟩, ⟨Y6, Y7, Y8, Y9, Y10, Y11⟩, Y12⟩ := hY.get6)
         | (go_at_call 18; refine (HDD.out _ hBI hRQ).mono ?_; rintro e w10 ⟨rfl, hb10⟩; replace hbw := bl_call hbw (Nat.le_refl _) hb10; replace hY := hY.call hb10; replace hBI := hBI.call hb10; replace hRQ := hRQ.call hb10; clear Y0 Y1 Y2 Y3 Y4 Y5 Y6 Y7 Y8 Y9 Y10 Y11 Y12; clear hb10; obtain ⟨⟨Y0, Y1, Y2, Y3, Y4, Y5⟩, ⟨Y6, Y7, Y8, Y9, Y10, Y11⟩, Y12⟩ := hY.get6))
        clear Y0 Y1 Y2 Y3 Y4 Y5 Y6 Y7 Y8 Y9 Y10 Y11 Y12
        have hD := V2.new w10 (.int .u64 (lo d)) (.int .u64 (hi d)) 36
        have hbA : Below w10.heap.size w10 (w10.alloc (.cells #[.int .u64 (lo d), .int .u64 (hi d)] 36)) := by repeat (first | exact bA | with_reducible assumption | apply bB)
        replace hbw := bl_call hbw (Nat.le_refl _) hbA
        replace hY := hY.call hbA
        replace hBI := hBI.call hbA
        clear hbA
        generalize w10.alloc (.cells #[.int .u64 (lo d), .int .u64 (hi d)] 36) = w11 at hbw hY hBI hD ⊢
        obtain ⟨D0, D1, D2, D3, D4⟩ := V2.mk hD.c0 hD.c1 hD.f0 hD.f1 hD.lt
        by_cases hd0 : d = 0
        ·have he9 : (lo d == 0 && hi d == 0) = true := by rw [vK_eq0]; exact decide_eq_true hd0
         have HC9 := Lib.hid (show cnt + 1 = cntJ hit (i + 1) by rw [cntJ_succ, ← hcn.out, if_pos (HHT.out.2 hd0)])
         clear hd0
         go_wp2_with fail
         go_roundw
         case rel => exact ⟨i + 1, cnt + 1, by omega, by go_num, by go_num, HC9, by omega, fun h => absurd h1 h, hY, hBI, hbw⟩
         case measure => simp [intOf]; omega
        ·have he9 : (lo d == 0 && hi d == 0) = false := by rw [vK_eq0]; exact decide_eq_false hd0
         have HC9 := Lib.hid (show cnt = cntJ hit (i + 1) by rw [cntJ_succ, ← hcn.out, if_neg (fun h => hd0 (HHT.out.1 h))]; rfl)
         clear hd0
         go_wp2_with fail
         go_roundw
         case rel => exact ⟨i + 1, cnt, by omega, rfl, by go_num, HC9, by omega, fun h => absurd h1 h, hY, hBI, hbw⟩
         case measure => simp [intOf]; omega
       ·obtain ⟨h9, h10⟩ := HMAN.out h1 hk1
        have hk2 : (K != 2) = true := by rw [← HK.out, bne_iff_ne]; omega
        clear h10
        obtain ⟨⟨Y0, Y1, Y2, Y3, Y4, Y5⟩, ⟨Y6, Y7, Y8, Y9, Y10, Y11⟩, Y12⟩ := hY.get6
        go_wp2_with (first
         | (go_at_call 16; refine (HCAL.out _).mono ?_; rintro e w9 ⟨rfl, hb9⟩; replace hbw := bl_call hbw (Nat.le_refl _) hb9; replace hY := hY.call hb9; replace hBI := hBI.call hb9; replace hRQ := hRQ.call hb9; clear Y0 Y1 Y2 Y3 Y4 Y5 Y6 Y7 Y8 Y9 Y10 Y11 Y12; clear hb9; obtain ⟨⟨Y0, Y1, Y2, Y3, Y4, Y5⟩, ⟨Y6, Y7, Y8, Y9, Y10, Y11⟩, Y12⟩ := hY.get6)
         | (go_at_call 17; refine (HBN.out _).mono ?_; rintro e w7 ⟨rfl, hb7⟩; replace hbw := bl_call hbw (Nat.le_refl _) hb7; replace hY := hY.call hb7; replace hBI := hBI.call hb7; replace hRQ := hRQ.call hb7))
        go_ret
        exact ⟨rfl, hbw⟩
      ·have h4 := h5
       have hk4 : (K == 4) = false := by rw [← HK.out, h4]; rfl
       have hk5 : (K == 5) = true := by rw [← HK.out, h4]; rfl
       clear h5
       obtain ⟨d9, hd9⟩ : ∃ d9, nj = d9 + 1 := ⟨nj - 1, by have := HJP.out hrs; omega⟩
       have hc100 : y.c ≤ 100 := by have h1 := HN.out; rcases (HKK.out hk1).1 with ⟨h, _⟩ | ⟨_, h, _⟩ <;> omega
       obtain ⟨c9, hc9⟩ : ∃ c9, y.c + 1 = c9 := ⟨_, rfl⟩
       have hw4 : IntKind.i64.wrap ((nj : Int) - 1) = (d9 : Int) := by rw [IntWalk.i64_in _ (by omega)]; omega
       have hw5 : IntKind.u64.wrap C = C := by rw [← HCC.out]; exact IntWalk.u64_in _ (by omega)
       have hw6 : IntKind.u64.wrap (C + 1) = (c9 : Int) := by rw [← HCC.out, IntWalk.u64_in _ (by omega)]; omega
       have hlen : d9 < (List.replicate nj r).length := by rw [List.length_replicate]; omega
       have HLEN := Lib.hid hlen
       have HX9 : Hid ((List.replicate nj r)[d9]? = some r) := by show _ = _; rw [List.getElem?_replicate, if_pos (by omega)]
       have hg1 : d9 < nj := by omega
       have HD9 : Hid (nj - 1 = d9) := by show _ = _; omega
       obtain ⟨z, hz⟩ : ∃ z, Fm.kpow r c9 = z := ⟨_, rfl⟩
       have HPW : Hid (∀ wz, Calls Tryz.prog 15 #[.int .u8 (F : Int), .agg #[.int .u64 (lo r), .int .u64 (hi r)], .int .u64 (c9 : Int)] wz (RetK z wz)) := fun wz => by rw [← hz]; exact HPOW.out wz r c9 (by omega)
       have HJX : Hid (y.one → (List.replicate nj r).set d9 z = jntF y r) := fun h => by rw [← hz, ← hc9, ← HD9.out]; exact (HJI.out h r).2 hrs
       clear hz hc9 hc100 hd9 hlen hrs h4 HJS
       obtain ⟨⟨Y0, Y1, Y2, Y3, Y4, Y5⟩, ⟨Y6, Y7, Y8, Y9, Y10, Y11⟩, Y12⟩ := hY.get6
       obtain ⟨P0, P1, P2, P3, P4⟩ := V2.mk hP.c0 hP.c1 hP.f0 hP.f1 hP.lt
       go_upto_region 25 with (go_at_call 15; refine (HPW.out _).mono ?_; rintro e w9 ⟨rfl, hb9⟩; replace hRQ := hRQ.call hb9; replace hY := hY.call hb9; replace hBI := hBI.call hb9; replace hbw := bl_call hbw (Nat.le_refl _) hb9; obtain ⟨z0, z1⟩ := hRQ.at HX9.out; obtain ⟨fz0, fz1⟩ := hRQ.frz HLEN.out; have lr : gj < w9.heap.size := hRQ.lt; clear hb9)
       clear Y0 Y1 Y2 Y3 Y4 Y5 Y6 Y7 Y8 Y9 Y10 Y11 Y12 P0 P1 P2 P3 P4
       clear hP hw4 hw5 hw6 z0 z1 fz0 fz1 hg1 lr hk4 hk5
       have hRS := hRQ.set d9 HLEN.out z
       have hYS := (hY.far (p := ⟨gj, d9 * 2, none⟩) (by dsimp only; omega) (.int .u64 (lo z))).far (p := ⟨gj, d9 * 2 + 1, none⟩) (by dsimp only; omega) (.int .u64 (hi z))
       have hBS := (hBI.far (p := ⟨gj, d9 * 2, none⟩) (by dsimp only; omega) (.int .u64 (lo z))).far (p := ⟨gj, d9 * 2 + 1, none⟩) (by dsimp only; omega) (.int .u64 (hi z))
       have hbS := bl_set (bl_set hbw (p := ⟨gj, d9 * 2, none⟩) lW (.int .u64 (lo z))) (p := ⟨gj, d9 * 2 + 1, none⟩) lW (.int .u64 (hi z))
       clear hRQ hY hBI hbw
       generalize (w9.setCell ⟨gj, d9 * 2, none⟩ (.int .u64 (lo z))).setCell ⟨gj, d9 * 2 + 1, none⟩ (.int .u64 (hi z)) = w8 at hRS hYS hBS hbS ⊢
       have hRQ := hRS
       have hY := hYS
       have hBI := hBS
       have hbw := hbS
       clear hRS hYS hBS hbS
       obtain ⟨JL, hJL⟩ : ∃ q : KL F, (List.replicate nj r).set d9 z = q := ⟨_, rfl⟩
       have HJLL : Hid (JL.length = nj) := by show _ = _; rw [← hJL, List.length_set, List.length_replicate]
       rw [hJL] at hRQ HJX
       clear hJL
       rcases HON.out with h1 | h1
       ·skip
        obtain ⟨d, hd⟩ : ∃ d, dirF y v JL = d := ⟨_, rfl⟩
        have HDD := Lib.hid (fun wz b1 b2 => HDIR.out wz gi gj v JL HVL.out HJLL.out b1 b2)
        rw [hd] at HDD
        have HHT : Hid (hit i = true ↔ d = 0) := by
         rw [HHIT.out]
         show decide (dirF y v (jntF y (nK F (m9 + i + 1))) = 0) = true ↔ _
         rw [HRP.out, ← HJX.out h1, hd, decide_eq_true_iff]
        clear hd
        have h9 : nc ≤ 1 := Nat.le_of_eq (HONE.out h1 HS.out)
        obtain ⟨⟨Y0, Y1, Y2, Y3, Y4, Y5⟩, ⟨Y6, Y7, Y8, Y9, Y10, Y11⟩, Y12⟩ := hY.get6
        go_upto_region 28 with (first
         | (go_at_call 16; refine (HCAL.out _).mono ?_; rintro e w9 ⟨rfl, hb9⟩; replace hbw := bl_call hbw (Nat.le_refl _) hb9; replace hY := hY.call hb9; replace hBI := hBI.call hb9; replace hRQ := hRQ.call hb9; clear Y0 Y1 Y2 Y3 Y4 Y5 Y6 Y7 Y8 Y9 Y10 Y11 Y12; clear hb9; obtain ⟨⟨Y0, Y1, Y2, Y3, Y4, Y5⟩, ⟨Y6, Y7, Y8, Y9, Y10, Y11⟩, Y12⟩ := hY.get6)
         | (go_at_call 18; refine (HDD.out _ hBI hRQ).mono ?_; rintro e w10 ⟨rfl, hb10⟩; replace hbw := bl_call hbw (Nat.le_refl _) hb10; replace hY := hY.call hb10; replace hBI := hBI.call hb10; replace hRQ := hRQ.call hb10; clear Y0 Y1 Y2 Y3 Y4 Y5 Y6 Y7 Y8 Y9 Y10 Y11 Y12; clear hb10; obtain ⟨⟨Y0, Y1, Y2, Y3, Y4, Y5⟩, ⟨Y6, Y7, Y8, Y9, Y10, Y11⟩, Y12⟩ := hY.get6))
        clear Y0 Y1 Y2 Y3 Y4 Y5 Y6 Y7 Y8 Y9 Y10 Y11 Y12
        have hD := V2.new w10 (.int .u64 (lo d)) (.int .u64 (hi d)) 36
        have hbA : Below w10.heap.size w10 (w10.alloc (.cells #[.int .u64 (lo d), .int .u64 (hi d)] 36)) := by repeat (first | exact bA | with_reducible assumption | apply bB)
        replace hbw := bl_call hbw (Nat.le_refl _) hbA
        replace hY := hY.call hbA
        replace hBI := hBI.call hbA
        clear hbA
        generalize w10.alloc (.cells #[.int .u64 (lo d), .int .u64 (hi d)] 36) = w11 at hbw hY hBI hD ⊢
        obtain ⟨D0, D1, D2, D3, D4⟩ := V2.mk hD.c0 hD.c1 hD.f0 hD.f1 hD.lt
        by_cases hd0 : d = 0
        ·have he9 : (lo d == 0 && hi d == 0) = true := by rw [vK_eq0]; exact decide_eq_true hd0
         have HC9 := Lib.hid (show cnt + 1 = cntJ hit (i + 1) by rw [cntJ_succ, ← hcn.out, if_pos (HHT.out.2 hd0)])
         clear hd0
         go_wp2_with fail
         go_roundw
         case rel => exact ⟨i + 1, cnt + 1, by omega, by go_num, by go_num, HC9, by omega, fun h => absurd h1 h, hY, hBI, hbw⟩
         case measure => simp [intOf]; omega
        ·have he9 : (lo d == 0 && hi d == 0) = false := by rw [vK_eq0]; exact decide_eq_false hd0
         have HC9 := Lib.hid (show cnt = cntJ hit (i + 1) by rw [cntJ_succ, ← hcn.out, if_neg (fun h => hd0 (HHT.out.1 h))]; rfl)
         clear hd0
         go_wp2_with fail
         go_roundw
         case rel => exact ⟨i + 1, cnt, by omega, rfl, by go_num, HC9, by omega, fun h => absurd h1 h, hY, hBI, hbw⟩
         case measure => simp [intOf]; omega
       ·obtain ⟨h9, h10⟩ := HMAN.out h1 hk1
        have hk2 : (K != 2) = true := by rw [← HK.out, bne_iff_ne]; omega
        clear h10
        obtain ⟨⟨Y0, Y1, Y2, Y3, Y4, Y5⟩, ⟨Y6, Y7, Y8, Y9, Y10, Y11⟩, Y12⟩ := hY.get6
        go_wp2_with (first
         | (go_at_call 16; refine (HCAL.out _).mono ?_; rintro e w9 ⟨rfl, hb9⟩; replace hbw := bl_call hbw (Nat.le_refl _) hb9; replace hY := hY.call hb9; replace hBI := hBI.call hb9; replace hRQ := hRQ.call hb9; clear Y0 Y1 Y2 Y3 Y4 Y5 Y6 Y7 Y8 Y9 Y10 Y11 Y12; clear hb9; obtain ⟨⟨Y0, Y1, Y2, Y3, Y4, Y5⟩, ⟨Y6, Y7, Y8, Y9, Y10, Y11⟩, Y12⟩ := hY.get6)
         | (go_at_call 17; refine (HBN.out _).mono ?_; rintro e w7 ⟨rfl, hb7⟩; replace hbw := bl_call hbw (Nat.le_refl _) hb7; replace hY := hY.call hb7; replace hBI := hBI.call hb7; replace hRQ := hRQ.call hb7))
        go_ret
        exact ⟨rfl, hbw⟩
   ·have hc9 : cnt ≤ n1 := by
     have hi9 : i = n := by omega
     rw [← HN1.out]
     rcases HON.out with h1 | h1
     ·rw [hcn.out]
      exact HCT.out h1 v HVL.out HNV.out i hit (by omega) (fun q hq hh => by rw [HHIT.out] at hh; exact of_decide_eq_true hh)
     ·have h2 := hon.out h1
      omega
    clear hci hin
    go_wp2_with (first
     | (go_at_call 17; refine (HBN.out _).mono ?_; rintro e w7 ⟨rfl, hb7⟩; replace hbw := bl_call hbw (Nat.le_refl _) hb7; replace hY := hY.call hb7; replace hBI := hBI.call hb7))
    go_ret
    exact ⟨rfl, hbw⟩

end Go.Proofs.YtfbfbijkkbflkaaGreatDoor
