/-
 CrJ: for CollectRight.
-/
import Derived.BigQuiet
import Derived.Test.YtbakkmfjamcbfaaUah
namespace Go.Proofs.Ytbakkmfjamcbfaa
open Go.RowKit Fm
set_option linter.unusedVariables false
set_option maxRecDepth 100000



set_option maxHeartbeats 16000000 in
theorem walk_CollectRight0
  (k f b l m c p t many bi : Int) (a d q : Nat) (id : List Int) (w : World) (hk : 0 ≤ k ∧ k ≤ 255) (hf : 0 ≤ f ∧ f ≤ 255) (hb : 0 ≤ b ∧ b ≤ 255) (hl : 0 ≤ l ∧ l ≤ 255) (hm : 0 ≤ m ∧ m ≤ 255) (hc : 0 ≤ c ∧ c ≤ 255) (hp : 0 ≤ p ∧ p ≤ 255) (ht : 0 ≤ t ∧ t ≤ 255)
    (hmany : 0 ≤ many ∧ many ≤ 255) (hq : many % 5 = (q : Int)) (ha : a ≤ 255) (hbi : 0 ≤ bi ∧ bi ≤ 255) (hd : bi % 2 = (d : Int)) (hid : id.length = 16) (hid8 : B8 id)
  : Calls Try.prog 10 #[.agg #[.int .u8 k, .int .u8 f, .int .u8 b, .int .u8 l, .int .u8 m, .int .u8 c, .int .u8 p, .int .u8 t], .int .u8 many, .int .u8 (a : Int), .int .u8 bi, .bool false, .agg (cells8 id).toArray] w fun e w' => e = .returned (.bool true) ∧ Below w.heap.size w w' := by
 obtain ⟨F, y, s, hF, hy, hs32, hTSK⟩ := law13_Task k f b l m c p t hk hf hb hl hm hc hp ht
 obtain ⟨pq, hpq, hpq1, hpq3⟩ : ∃ q : Int, 1 + p % 3 = q ∧ 1 ≤ q ∧ q ≤ 3 := ⟨_, rfl, by omega, by omega⟩
 rw [hpq] at hTSK
 have HTSK := Lib.hid hTSK
 have HAW := Lib.hid law25_Awake
 have hok := hy.ok
 have hcl : y.calls ≤ 511 := by have := hy.calls; omega
 have hno : y.nout ≤ 70 := by
  have h1 := CK.nout_le hok
  omega
 have hq4 : q ≤ 4 := by omega
 have hd1 : d ≤ 1 := by omega
 have HC : ∀ wz, Calls Try.prog 43 #[.agg #[.int .u8 ((y.k : Nat) : Int), .int .u8 (F : Int), .int .i64 ((y.b : Nat) : Int), .int .i64 ((y.l : Nat) : Int), .int .i64 ((y.m : Nat) : Int), .int .i64 ((y.c : Nat) : Int), .int .i64 pq, .string s]] wz (RetC 0 wz) := fun wz => small_code (by omega) hok hF pq ⟨hpq1, hpq3⟩ s hs32 wz
 have HO : ∀ wz, Calls Try.prog 32 #[.agg #[.int .u8 ((y.k : Nat) : Int), .int .u8 (F : Int), .int .i64 ((y.b : Nat) : Int), .int .i64 ((y.l : Nat) : Int), .int .i64 ((y.m : Nat) : Int), .int .i64 ((y.c : Nat) : Int)]] wz (RetI y.nout wz) := fun wz => circuit_Out F y hok wz
 generalize hne : y.nout = n at *
 obtain ⟨SA, hSA⟩ : ∃ z : KL F, List.replicate n (sumI (nK F (a + 1)) q) = z := ⟨_, rfl⟩
 obtain ⟨SB, hSB⟩ : ∃ z : KL F, List.replicate n (sumI (-(nK F (a + 1 - d))) q) = z := ⟨_, rfl⟩
 have HTOT : Hid (∀ wz, Calls Try.prog 45 #[.agg #[.int .u8 ((y.k : Nat) : Int), .int .u8 (F : Int), .int .i64 ((y.b : Nat) : Int), .int .i64 ((y.l : Nat) : Int), .int .i64 ((y.m : Nat) : Int), .int .i64 ((y.c : Nat) : Int), .int .i64 pq, .string s], .int .u8 many, .int .u8 (a : Int), .int .u8 bi] wz (RetT2 n (q : Int) (chkI q) SA SB wz)) := Lib.hid fun wz => by
  have h := law25_totals hF ((y.k : Nat) : Int) ((y.b : Nat) : Int) ((y.l : Nat) : Int) ((y.m : Nat) : Int) ((y.c : Nat) : Int) pq s n (by omega) HC HO many bi a q d hq hmany ha hbi hd wz
  rwa [hSA, hSB] at h
 have hT9 : addL SA SB = (List.replicate n (q * d)).map (nK F) := by
  rw [← hSA, ← hSB]
  exact sumI_T n a d q (by omega)
 have hSAn : SA.length = n := by rw [← hSA, List.length_replicate]
 have hSBn : SB.length = n := by rw [← hSB, List.length_replicate]
 clear hSA hSB
 have hKA := chkI_length q
 have hKA8 := chkI_b8 q
 generalize chkI q = KA at *
 obtain ⟨M, hM⟩ : ∃ z, n * sizeK F = z := ⟨_, rfl⟩
 obtain ⟨KB, hKBe⟩ : ∃ z, KA = z := ⟨_, rfl⟩
 have hKB : KB.length = 16 := by rw [← hKBe]; exact hKA
 have hKB8 : B8 KB := by rw [← hKBe]; exact hKA8
 obtain ⟨ns, hnse⟩ : ∃ z, n = z := ⟨_, rfl⟩
 obtain ⟨xs, hxs⟩ : ∃ z, natsI (List.replicate n (q * d)) = z := ⟨_, rfl⟩
 obtain ⟨code, hcode⟩ : ∃ z : Int, 0 = z := ⟨_, rfl⟩
 have hns : xs.length = ns := by rw [← hxs, ← hnse]; unfold natsI; rw [List.length_map, List.length_replicate]
 have hcx : code ≠ 0 → ns = 0 := fun h => absurd hcode.symm h
 have hns70 : ns ≤ 70 := by omega
 have HUN : ∀ (fv : Value) (A1 : Option Addr) (c1 : Nat) wz, SlK wz wz.heap.size fv SA → SlK wz wz.heap.size (.slice A1 n c1) SB → Calls Try.prog 38 #[.agg #[.int .u8 ((y.k : Nat) : Int), .int .u8 (F : Int), .int .i64 ((y.b : Nat) : Int), .int .i64 ((y.l : Nat) : Int), .int .i64 ((y.m : Nat) : Int), .int .i64 ((y.c : Nat) : Int), .int .i64 pq, .string s], .agg (totL fv (q : Int) KA).toArray, .agg (totL (.slice A1 n c1) (q : Int) KB).toArray] wz (RetUn ns xs code wz) := fun fv A1 c1 wz h1 h2 => by
  rw [← hKBe, ← hnse, ← hxs, ← hcode]
  have hqd : q * d ≤ 4 := Nat.le_trans (Nat.mul_le_mul hq4 hd1) (by omega)
  refine (total_UnshardO hF y hok (by omega) pq s n hne hno HC q (by omega) KA hKA fv _ SA SB (List.replicate n (q * d)) hT9 List.length_replicate (fun t ht => ?_) (fun t ht => ?_) wz h1 h2 hSAn hSBn).mono fun e w' ⟨A, cp, he, ho, hb⟩ => ⟨(A, cp), he, ho.2, hb⟩
  ·rw [List.mem_replicate] at ht
   omega
  ·rw [List.mem_replicate] at ht
   obtain ⟨_, rfl⟩ := ht
   exact Nat.mul_le_mul_left q (Nat.le_trans hd1 (CK.most_pos hok))
 have HEQ := Lib.hid (And.intro hcode (And.intro hxs hnse))
 have HKE := Lib.hid hKBe
 clear hcode hxs hnse hKBe
 have hBA : (putB q KA SA).length = 20 + M := by
  rw [← hM]
  exact (putB_parts q KA SA n hKA hSAn (by omega)).1
 have hBB : (putB q KB SB).length = 20 + M := by
  rw [← hM]
  exact (putB_parts q KB SB n hKB hSBn (by omega)).1
 have HPUA : Hid (∀ (g : Nat) wz, BlkE wz g (esK SA) → Calls Try.prog 39 #[.agg (totL (.slice (some ⟨g, 0, none⟩) n n) (q : Int) KA).toArray, .agg #[.int .u8 ((y.k : Nat) : Int), .int .u8 (F : Int), .int .i64 ((y.b : Nat) : Int), .int .i64 ((y.l : Nat) : Int), .int .i64 ((y.m : Nat) : Int), .int .i64 ((y.c : Nat) : Int), .int .i64 pq, .string s]] wz fun e w' => ∃ (A : Option Addr) (c : Nat), e = .returned (.slice A (20 + M) c) ∧ w'.ownsRow wz.heap.size 5 1 (.slice A (20 + M) c) (20 + M) (cells8 (putB q KA SA)) ∧ Below wz.heap.size wz w') := Lib.hid fun g wz h => by
  have h1 := total_Put hF ((y.k : Nat) : Int) ((y.b : Nat) : Int) ((y.l : Nat) : Int) ((y.m : Nat) : Int) ((y.c : Nat) : Int) pq s (.slice (some ⟨g, 0, none⟩) n n) SA q KA wz (h.slNn hSAn (by omega)) (by omega) (by omega) hKA
  unfold RetOB at h1
  rwa [hBA] at h1
 have HPUB : Hid (∀ (g : Nat) wz, BlkE wz g (esK SB) → Calls Try.prog 39 #[.agg (totL (.slice (some ⟨g, 0, none⟩) n n) (q : Int) KB).toArray, .agg #[.int .u8 ((y.k : Nat) : Int), .int .u8 (F : Int), .int .i64 ((y.b : Nat) : Int), .int .i64 ((y.l : Nat) : Int), .int .i64 ((y.m : Nat) : Int), .int .i64 ((y.c : Nat) : Int), .int .i64 pq, .string s]] wz fun e w' => ∃ (A : Option Addr) (c : Nat), e = .returned (.slice A (20 + M) c) ∧ w'.ownsRow wz.heap.size 5 1 (.slice A (20 + M) c) (20 + M) (cells8 (putB q KB SB)) ∧ Below wz.heap.size wz w') := Lib.hid fun g wz h => by
  have h1 := total_Put hF ((y.k : Nat) : Int) ((y.b : Nat) : Int) ((y.l : Nat) : Int) ((y.m : Nat) : Int) ((y.c : Nat) : Int) pq s (.slice (some ⟨g, 0, none⟩) n n) SB q KB wz (h.slNn hSBn (by omega)) (by omega) (by omega) hKB
  unfold RetOB at h1
  rwa [hBB] at h1
 obtain ⟨tk, htk⟩ : ∃ z, tkL ((y.k : Nat) : Int) (F : Int) ((y.b : Nat) : Int) ((y.l : Nat) : Int) ((y.m : Nat) : Int) ((y.c : Nat) : Int) pq s = z := ⟨_, rfl⟩
 have HRA : Hid (∀ (O : Nat → Prop) (cb a9 : Nat) (As : Option Addr) (cs eb : Nat) wz, SlB wz As (putB q KA SA) cs → Vs wz eb (entL z16 0 (.slice none 0 0) (.slice As (20 + M) cs) 0) → AskS wz O cb a9 tk 2 [] [] 1 7 false (.slice none 0 0) 0 z16 1 2 →
   Calls Try.prog 46 #[.pointer (some ⟨cb, 0, none⟩), .int .u64 1, .int .i64 0, .agg (msgL 6 1 7 (q : Int) KA 0 (.slice (some ⟨eb, 0, none⟩) 1 1)).toArray] wz fun e w' => ∃ r : Nat × Option Addr × Nat, e = .returned (.tuple #[.slice (some ⟨r.1, 0, none⟩) 1 1, .int .i64 0]) ∧ (AskS w' O cb a9 tk 2 [] [] 1 7 true (.slice r.2.1 n r.2.2) (q : Int) KA 2 1 ∧ w'.ownsRow wz.heap.size 99 2 (.slice r.2.1 n r.2.2) n (cellsE (esK SA))) ∧ Exc (fun q => q = a9) wz.heap.size wz w') := Lib.hid fun O cb a9 As cs eb wz h1 h2 h3 => by
  rw [← htk] at h3 ⊢
  exact (collect_RecvA hF _ _ _ _ _ pq s n (by omega) M hM.symm HC HO O cb a9 2 [] [] 1 7 (.slice none 0 0) 0 z16 1 2 1 q KA SA As cs eb 1 wz (by omega) hKA hKA8 hSAn (by omega) (by omega) h1 h2 h3 (by omega)).mono fun e w' ⟨g, A1, c1, he, _, hA, hO, hx⟩ => ⟨(g, A1, c1), he, ⟨hA, hO⟩, hx⟩
 have HRB : Hid (∀ (O : Nat → Prop) (cb a9 : Nat) (fv : Value) (As : Option Addr) (cs eb : Nat) wz, SlB wz As (putB q KB SB) cs → Vs wz eb (entL z16 0 (.slice none 0 0) (.slice As (20 + M) cs) 0) → SlK wz wz.heap.size fv SA → AskS wz O cb a9 tk 2 [] [] 1 7 true fv (q : Int) KA 2 1 →
   Calls Try.prog 46 #[.pointer (some ⟨cb, 0, none⟩), .int .u64 2, .int .i64 1, .agg (msgL 6 1 7 (q : Int) KB 0 (.slice (some ⟨eb, 0, none⟩) 1 1)).toArray] wz fun e w' => e = .returned (.tuple #[.slice none 0 0, .int .i64 0]) ∧ RbR wz O cb tk [⟨7, if code = 0 then (q : Int) else 0, xs, code⟩] () w' ∧ Exc O wz.heap.size wz w') := Lib.hid fun O cb a9 fv As cs eb wz h1 h2 h4 h3 => by
  rw [← htk] at h3 ⊢
  exact (collect_RecvB hF _ _ _ _ _ pq s n (by omega) M hM.symm HC HO O cb a9 2 [] [] 1 7 fv (q : Int) KA 2 1 2 q KB SB As cs eb 1 wz (by omega) hKB hKB8 hSBn (by omega) (by omega) h1 h2 h3 SA h4 (by simp) ns xs code hns hcx (fun A1 c1 wz hv1 hv2 => HUN fv A1 c1 wz hv1 hv2)).mono fun e w' ⟨he, O', hc, hr1, hr2⟩ => ⟨he, ⟨O', hc, hr1⟩, hr2⟩
 obtain ⟨RS, hRS⟩ : ∃ z : List ResK, [⟨7, if code = 0 then (q : Int) else 0, xs, code⟩] = z := ⟨_, rfl⟩
 rw [hRS] at HRB
 have HRS := Lib.hid hRS
 have HNS := Lib.hid (And.intro hns hns70)
 clear hRS hns hns70 hcx
 have HNW : Hid (∀ wz, Calls Try.prog 20 #[.agg #[.int .u8 ((y.k : Nat) : Int), .int .u8 (F : Int), .int .i64 ((y.b : Nat) : Int), .int .i64 ((y.l : Nat) : Int), .int .i64 ((y.m : Nat) : Int), .int .i64 ((y.c : Nat) : Int), .int .i64 pq, .string s]] wz fun e w' => ∃ cb : Nat, e = .returned (.tuple #[.pointer (some ⟨cb, 0, none⟩), .int .i64 0]) ∧ ColK w' wz.heap.size cb tk 1 [] ∧ Below wz.heap.size wz w') := Lib.hid fun wz => by
  rw [← htk]
  exact collect_New _ _ _ _ _ _ pq s HC wz
 have HTL : Hid (tk.length = 8) := Lib.hid (by rw [← htk]; rfl)
 have HO := Lib.hid HO
 have HN70 := Lib.hid hno
 have HAN := Lib.hid (And.intro hSAn hSBn)
 have HKA := Lib.hid hKA
 have HKB := Lib.hid hKB
 have HKB8 := Lib.hid hKB8
 have HBA := Lib.hid hBA
 have HBB := Lib.hid hBB
 have HDQ := Lib.hid (And.intro hq (And.intro hd (And.intro hmany hbi)))
 obtain ⟨L, hL⟩ : ∃ z, 20 + M = z := ⟨_, rfl⟩
 rw [hL] at HPUA HPUB HRA HRB HBA HBB
 obtain ⟨BA, hBAe⟩ : ∃ z, putB q KA SA = z := ⟨_, rfl⟩
 obtain ⟨BB, hBBe⟩ : ∃ z, putB q KB SB = z := ⟨_, rfl⟩
 rw [hBAe] at HPUA HRA HBA
 rw [hBBe] at HPUB HRB HBB
 clear HUN hBA hBB hL hBAe hBBe htk HC hM hT9 hSAn hSBn hKA8 hKB8 hKB hKA hne hno hcl hok hy hF hs32 hpq hpq1 hpq3 hTSK hk hf hb hl hm hc hp ht hbi
 generalize ((y.k : Nat) : Int) = yk at *
 generalize ((y.b : Nat) : Int) = yb at *
 generalize ((y.l : Nat) : Int) = yl at *
 generalize ((y.m : Nat) : Int) = ym at *
 generalize ((y.c : Nat) : Int) = yc at *
 have HID := Lib.hid (And.intro hid hid8)
 clear hid hid8
 go_enter Try.func10, Try.ntmps10
 go_upto_region 1 with fail
 have hs := (Vs.new w [.int .u8 k, .int .u8 f, .int .u8 b, .int .u8 l, .int .u8 m, .int .u8 c, .int .u8 p, .int .u8 t] #[.int .u8 k, .int .u8 f, .int .u8 b, .int .u8 l, .int .u8 m, .int .u8 c, .int .u8 p, .int .u8 t] 66 rfl).alloc (.cells (cells8 id).toArray 34)
 have hI := Vs.new (w.alloc (.cells #[.int .u8 k, .int .u8 f, .int .u8 b, .int .u8 l, .int .u8 m, .int .u8 c, .int .u8 p, .int .u8 t] 66)) (cells8 id) ((cells8 id).toArray) 34 rfl
 simp only [World.size_alloc] at hI
 have hb00 : Below w.heap.size w ((w.alloc (.cells #[.int .u8 k, .int .u8 f, .int .u8 b, .int .u8 l, .int .u8 m, .int .u8 c, .int .u8 p, .int .u8 t] 66)).alloc (.cells (cells8 id).toArray 34)) := by repeat (first | exact bA | with_reducible assumption | apply bB)
 have hszn : w.heap.size + 2 ≤ ((w.alloc (.cells #[.int .u8 k, .int .u8 f, .int .u8 b, .int .u8 l, .int .u8 m, .int .u8 c, .int .u8 p, .int .u8 t] 66)).alloc (.cells (cells8 id).toArray 34)).heap.size := by simp only [World.size_alloc]; omega
 generalize ((w.alloc (.cells #[.int .u8 k, .int .u8 f, .int .u8 b, .int .u8 l, .int .u8 m, .int .u8 c, .int .u8 p, .int .u8 t] 66)).alloc (.cells (cells8 id).toArray 34)) = w1 at hs hI hb00 hszn ⊢
 obtain ⟨⟨s0, s1, s2, s3, s4, s5, s6, s7⟩, ⟨s8, s9, s10, s11, s12, s13, s14, s15⟩, s16⟩ := hs.get8
 go_upto_region 3 with (first
  | (go_at_call 19; refine (HAW.out _).mono ?_; rintro e w2 ⟨rfl, hb2⟩; replace hb00 := bl_call hb00 (Nat.le_refl _) hb2; replace hs := hs.call hb2; replace hI := hI.call hb2; clear s0 s1 s2 s3 s4 s5 s6 s7 s8 s9 s10 s11 s12 s13 s14 s15 s16; clear hb2; obtain ⟨⟨s0, s1, s2, s3, s4, s5, s6, s7⟩, ⟨s8, s9, s10, s11, s12, s13, s14, s15⟩, s16⟩ := hs.get8))
 go_upto_region 4 with (first
  | (go_at_call 21; refine (HTSK.out _).mono ?_; rintro e w3 ⟨rfl, hb3⟩; replace hb00 := bl_call hb00 (Nat.le_refl _) hb3; replace hs := hs.call hb3; replace hI := hI.call hb3; clear s0 s1 s2 s3 s4 s5 s6 s7 s8 s9 s10 s11 s12 s13 s14 s15 s16; clear hb3; obtain ⟨⟨s0, s1, s2, s3, s4, s5, s6, s7⟩, ⟨s8, s9, s10, s11, s12, s13, s14, s15⟩, s16⟩ := hs.get8))
 clear s0 s1 s2 s3 s4 s5 s6 s7 s8 s9 s10 s11 s12 s13 s14 s15 s16
 clear hs HTSK HAW
 have hT := Vs.new w3 [.int .u8 yk, .int .u8 (F : Int), .int .i64 yb, .int .i64 yl, .int .i64 ym, .int .i64 yc, .int .i64 pq, .string s] #[.int .u8 yk, .int .u8 (F : Int), .int .i64 yb, .int .i64 yl, .int .i64 ym, .int .i64 yc, .int .i64 pq, .string s] 62 rfl
 have hbA : Below w3.heap.size w3 (w3.alloc (.cells #[.int .u8 yk, .int .u8 (F : Int), .int .i64 yb, .int .i64 yl, .int .i64 ym, .int .i64 yc, .int .i64 pq, .string s] 62)) := by repeat (first | exact bA | with_reducible assumption | apply bB)
 replace hb00 := bl_call hb00 (Nat.le_refl _) hbA
 replace hI := hI.call hbA
 clear hbA
 generalize w3.alloc (.cells #[.int .u8 yk, .int .u8 (F : Int), .int .i64 yb, .int .i64 yl, .int .i64 ym, .int .i64 yc, .int .i64 pq, .string s] 62) = w4 at hb00 hI hT ⊢
 obtain ⟨tb, htbe⟩ : ∃ z, w3.heap.size = z := ⟨_, rfl⟩
 rw [htbe] at hT
 simp only [htbe]
 clear htbe
 obtain ⟨⟨T0, T1, T2, T3, T4, T5, T6, T7⟩, ⟨T8, T9, T10, T11, T12, T13, T14, T15⟩, T16⟩ := hT.get8
 have HNW4 := Lib.hid (HNW.out w4)
 have hTl := hT.lt
 have hIl := hI.lt
 go_upto_region 5 with (go_at_call 20; refine HNW4.out.mono ?_; rintro e w5 ⟨cb, rfl, hK5, hb5⟩)
 clear T0 T1 T2 T3 T4 T5 T6 T7 T8 T9 T10 T11 T12 T13 T14 T15 T16
 have hbB := hb00.size
 obtain ⟨B, hB⟩ : ∃ z, w4.heap.size = z := ⟨_, rfl⟩
 have hT5 := hT.call hb5
 have hI5 := hI.call hb5
 have hb005 := bl_call hb00 (Nat.le_refl _) hb5
 rw [hB] at hK5 hTl hIl hbB
 clear HNW4 HNW hT hI hb00 hb5 hB
 have HW : Hid (Calls Try.prog 22 #[.pointer (some ⟨cb, 0, none⟩), .int .u64 7] w5 fun e w' => e = .returned (.int .i64 0) ∧ Below B w5 w' ∧ ColK w' B cb tk 1 [7]) := by
  have h := collect_Want tk HTL.out 1 [] cb B 7 ⟨by omega, by omega⟩ (by simp) w5 hK5
  rw [want_7.1, want_7.2] at h
  exact h
 go_upto_region 6 with (go_at_call 22; refine HW.out.mono ?_; rintro e w6 ⟨rfl, hb6, hK6⟩)
 have hT6 := hT5.belowB hb6 hTl
 have hI6 := hI5.belowB hb6 hIl
 have hb006 := hb005.trans (hb6.mono hbB)
 have hK6l := hK6.lb
 have HTI : Hid (Calls Try.prog 44 #[.pointer (some ⟨cb, 0, none⟩), .int .u64 0] w6 fun e w' => ∃ (g a9 : Nat) (O : Nat → Prop), e = .returned (.slice (some ⟨g, 0, none⟩) 1 1) ∧ AskS w' O cb a9 tk 2 [] [] 1 7 false (.slice none 0 0) 0 z16 1 2 ∧ ColR w6 w' (fun q => B ≤ q ∧ q < w6.heap.size) O) := by
  have h := collect_Tick1 tk HTL.out _ cb 1 7 [] [] 0 (by omega) (by omega) (by simp) w6 hK6.toS
  rw [show (1 : Int) + 1 = 2 from rfl, show (0 : Int) + 1 = 1 from rfl] at h
  exact h.mono fun e w' ⟨g, a9, O, he, _, _, hA, hR⟩ => ⟨g, a9, O, he, hA, hR⟩
 clear HW hK5 hT5 hI5 hb005 hb6 hK6
 go_upto_region 7 with (go_at_call 44; refine HTI.out.mono ?_; rintro e w7 ⟨g0, a9, O, rfl, hA7, hcr⟩)
 have hOB : ∀ q, O q → B ≤ q := fun q hq => by
  rcases hcr.1 q hq with h | h
  ·exact h.1
  ·omega
 have hb67 : Below B w6 w7 := (hcr.2.mono hK6l).below fun q hq e => by
  have := e.1
  omega
 have hT7 := hT6.belowB hb67 hTl
 have hI7 := hI6.belowB hb67 hIl
 have hb007 := hb006.trans (hb67.mono hbB)
 have HOB := Lib.hid hOB
 clear HTI hcr hT6 hI6 hb006 hb67 hK6l
 have hsl7 := hA7.col.lt
 obtain ⟨S0, hS0⟩ : ∃ z, w7.heap.size = z := ⟨_, rfl⟩
 have hT7l := hT7.lt
 have hBS : B ≤ S0 := by
  have := hOB a9 hA7.o.1
  have := hsl7 a9 hA7.o.1
  omega
 obtain ⟨⟨z0, z1, z2, z3, z4, z5, z6, z7⟩, ⟨y0, y1, y2, y3, y4, y5, y6, y7⟩, y8⟩ := hT7.get8
 refine wp_region_lit ?_
 refine wpList_valD (some 39) rfl rfl (by (go_simp; first | with_reducible rfl | exact ⟨rfl, rfl⟩ | (trace_state; fail))) ?_
 simp only [Zp, Zq, Zr, Zs]
 refine wpList_valD (some 40) rfl rfl (by (go_simp; first | with_reducible rfl | exact ⟨rfl, rfl⟩ | (trace_state; fail))) ?_
 simp only [Zp, Zq, Zr, Zs]
 refine wpList_valD (some 41) rfl rfl (by (go_simp; first | with_reducible rfl | exact ⟨rfl, rfl⟩ | (trace_state; fail))) ?_
 simp only [Zp, Zq, Zr, Zs]
 refine wpList_valD (some 42) rfl rfl (by (go_simp; first | with_reducible rfl | exact ⟨rfl, rfl⟩ | (trace_state; fail))) ?_
 simp only [Zp, Zq, Zr, Zs]
 refine wpList_callD (some 43) rfl rfl 45 _ ?_ (HTOT.out _) ?_
 ·go_simp; try (with_reducible rfl)
 rintro e w8 ⟨⟨ga, gb⟩, rfl, hGA, hGB, hga, hgb, hb8⟩
 refine ⟨_, rfl, ?_⟩
 simp only [Zp, Zq, Zr, Zs]
 clear z0 z1 z2 z3 z4 z5 z6 z7 y0 y1 y2 y3 y4 y5 y6 y7 y8
 refine wpList_valD (some 38) rfl rfl (by (go_simp; first | with_reducible rfl | exact ⟨rfl, rfl⟩ | (trace_state; fail))) ?_
 simp only [Zp, Zq, Zr, Zs]
 refine wpList_valD (some 44) rfl rfl (by (go_simp; first | with_reducible rfl | exact ⟨rfl, rfl⟩ | (trace_state; fail))) ?_
 simp only [Zp, Zq, Zr, Zs]
 refine wpList_valD (some 45) rfl rfl (by (go_simp; first | with_reducible rfl | exact ⟨rfl, rfl⟩ | (trace_state; fail))) ?_
 simp only [Zp, Zq, Zr, Zs]
 refine wpList_valD (some 16) rfl rfl (by (skip; go_simp; first | with_reducible rfl | exact ⟨rfl, rfl⟩ | (trace_state; fail))) ?_
 simp only [Zp, Zq, Zr, Zs]
 have hX0 := Vs.new w8 (totL (.slice none 0 0) 0 z16) #[.slice none 0 0, .int .i64 0, .int .u8 0, .int .u8 0, .int .u8 0, .int .u8 0, .int .u8 0, .int .u8 0, .int .u8 0, .int .u8 0, .int .u8 0, .int .u8 0, .int .u8 0, .int .u8 0, .int .u8 0, .int .u8 0, .int .u8 0, .int .u8 0] 76 rfl
 have hbA := (Below.refl w8.heap.size w8).alloc (Nat.le_refl _) (.cells #[.slice none 0 0, .int .i64 0, .int .u8 0, .int .u8 0, .int .u8 0, .int .u8 0, .int .u8 0, .int .u8 0, .int .u8 0, .int .u8 0, .int .u8 0, .int .u8 0, .int .u8 0, .int .u8 0, .int .u8 0, .int .u8 0, .int .u8 0, .int .u8 0] 76)
 obtain ⟨xa, hxa⟩ : ∃ z, w8.heap.size = z := ⟨_, rfl⟩
 rw [hxa] at hX0
 simp only [hxa]
 have HXA := Lib.hid hxa
 generalize w8.alloc (.cells #[.slice none 0 0, .int .i64 0, .int .u8 0, .int .u8 0, .int .u8 0, .int .u8 0, .int .u8 0, .int .u8 0, .int .u8 0, .int .u8 0, .int .u8 0, .int .u8 0, .int .u8 0, .int .u8 0, .int .u8 0, .int .u8 0, .int .u8 0, .int .u8 0] 76) = w9 at hX0 hbA ⊢
 clear hxa
 refine wpList_valD (some 17) rfl rfl (by (skip; go_simp; first | with_reducible rfl | exact ⟨rfl, rfl⟩ | (trace_state; fail))) ?_
 simp only [Zp, Zq, Zr, Zs]
 have hY0 := Vs.new w9 (totL (.slice none 0 0) 0 z16) #[.slice none 0 0, .int .i64 0, .int .u8 0, .int .u8 0, .int .u8 0, .int .u8 0, .int .u8 0, .int .u8 0, .int .u8 0, .int .u8 0, .int .u8 0, .int .u8 0, .int .u8 0, .int .u8 0, .int .u8 0, .int .u8 0, .int .u8 0, .int .u8 0] 76 rfl
 have hbBB := (Below.refl w9.heap.size w9).alloc (Nat.le_refl _) (.cells #[.slice none 0 0, .int .i64 0, .int .u8 0, .int .u8 0, .int .u8 0, .int .u8 0, .int .u8 0, .int .u8 0, .int .u8 0, .int .u8 0, .int .u8 0, .int .u8 0, .int .u8 0, .int .u8 0, .int .u8 0, .int .u8 0, .int .u8 0, .int .u8 0] 76)
 have hxab := hX0.lt
 obtain ⟨xb, hxb⟩ : ∃ z, w9.heap.size = z := ⟨_, rfl⟩
 rw [hxb] at hY0 hxab
 simp only [hxb]
 have HXB := Lib.hid hxb
 generalize w9.alloc (.cells #[.slice none 0 0, .int .i64 0, .int .u8 0, .int .u8 0, .int .u8 0, .int .u8 0, .int .u8 0, .int .u8 0, .int .u8 0, .int .u8 0, .int .u8 0, .int .u8 0, .int .u8 0, .int .u8 0, .int .u8 0, .int .u8 0, .int .u8 0, .int .u8 0] 76) = w10 at hY0 hbBB ⊢
 clear hxb
 have hX1 := hX0.call hbBB
 have hst := hX1.storeT (k := KA) (v := .slice (some ⟨ga, 0, none⟩) n n) (m := (q : Int)) z16_length HKA.out rfl
 have hY1 := hY0.farW (b' := xa) (by omega) 0 (totL (.slice (some ⟨ga, 0, none⟩) n n) (q : Int) KA)
 have hst2 := hY1.storeT (k := KA) (v := .slice (some ⟨gb, 0, none⟩) n n) (m := (q : Int)) z16_length HKA.out rfl
 refine wpList_skipD rfl rfl (exec_store rfl (by kernel_rfl) (by kernel_rfl) hst) ?_
 refine wpList_skipD rfl rfl (exec_store rfl (by kernel_rfl) (by kernel_rfl) hst2) ?_
 have hXAS : S0 ≤ xa := by
  have h1 := HXA.out
  have h2 := hb8.size
  omega
 have hGA10 := (hGA.call hbA).call hbBB
 have hGB10 := (hGB.call hbA).call hbBB
 have n1 := blk_vs (k := z16) (A := none) (n := 0) (c := 0) (m := 0) hGA10 hX1
 have n2 := blk_vs (k := z16) (A := none) (n := 0) (c := 0) (m := 0) hGA10 hY0
 have n3 := blk_vs (k := z16) (A := none) (n := 0) (c := 0) (m := 0) hGB10 hX1
 have n4 := blk_vs (k := z16) (A := none) (n := 0) (c := 0) (m := 0) hGB10 hY0
 have hX := (hX1.setT (k := KA) (v := .slice (some ⟨ga, 0, none⟩) n n) (m := (q : Int)) z16_length HKA.out).farW (b' := xb) (by omega) 0 (totL (.slice (some ⟨gb, 0, none⟩) n n) (q : Int) KA)
 have hY := hY1.setT (k := KA) (v := .slice (some ⟨gb, 0, none⟩) n n) (m := (q : Int)) z16_length HKA.out
 have hGA12 := (hGA10.farC n1.symm 0 (totL (.slice (some ⟨ga, 0, none⟩) n n) (q : Int) KA)).farC n2.symm 0 (totL (.slice (some ⟨gb, 0, none⟩) n n) (q : Int) KA)
 have hGB12 := (hGB10.farC n3.symm 0 (totL (.slice (some ⟨ga, 0, none⟩) n n) (q : Int) KA)).farC n4.symm 0 (totL (.slice (some ⟨gb, 0, none⟩) n n) (q : Int) KA)
 have hbq := bl_setCells (bl_setCells (bl_call (bl_call hb8 (Nat.le_refl _) hbA) (Nat.le_refl _) hbBB) (b := xa) (by omega) 0 (totL (.slice (some ⟨ga, 0, none⟩) n n) (q : Int) KA)) (b := xb) (by omega) 0 (totL (.slice (some ⟨gb, 0, none⟩) n n) (q : Int) KA)
 have HS7 := Lib.hid (And.intro hA7 (And.intro hT7 (And.intro hb007 hS0)))
 rw [hS0] at hsl7 hT7l hga hgb
 clear hst hst2 hX0 hX1 hY0 hY1 hGA hGB hbA hbBB hb8 n1 n2 n3 n4 hGA10 hGB10 HXA HXB hS0 HTOT
 generalize (w10.setCells xa 0 (totL (.slice (some ⟨ga, 0, none⟩) n n) (q : Int) KA)).setCells xb 0 (totL (.slice (some ⟨gb, 0, none⟩) n n) (q : Int) KA) = w12 at hX hY hGA12 hGB12 hbq ⊢
 have hA := hA7.call hbq
 have hT := hT7.call hbq
 have hI := hI7.call hbq
 have hb00 := bl_call hb007 (Nat.le_refl _) hbq
 have HOL := Lib.hid hsl7
 have HBQ := Lib.hid hbq
 clear hA7 hT7 hI7 hb007 hbq hsl7 hT7l
 rw [HKE.out] at hY
 go_upto_region 10 with fail
 have hxa9 : ¬ xa = a9 := by
  have := HOL.out a9 hA.o.1
  omega
 have hta9 : ¬ tb = a9 := by
  have := HOB.out a9 hA.o.1
  omega
 have HT12 := Lib.hid hT
 have HX12 := Lib.hid hX
 have HGA12 := Lib.hid hGA12
 have HA12 := Lib.hid hA
 apply region_Z3 (n := 16) (m := 17) (f := 16) (fun x0 x1 x2 => (RcK w12 (fun q => q = a9) BA L (RaR w12 O cb a9 tk n q KA (esK SA))) (some x0) (some x1) (some x2) ) ((RcT w12 (fun q => q = a9)) none none none) ((RcK w12 (fun q => q = a9) BA L (RaR w12 O cb a9 tk n q KA (esK SA))) none none none) ((RcK.weak _ _ _)) ((RcK.clo RaR.call)) (RcK.start)
 case hm => kernel_rfl
 case hB => kernel_rfl
 case hf => rfl
 case' h =>
  refine WpX.vD 0 (some 61) ?_ rfl rfl (by kernel_rfl) (fun _ _ _ h => h) rfl (fun wz hwz => ?_) ?_
  rotate_left
  ·go_simp; try (with_reducible rfl)
  simp only [Zp, Zq, Zr, Zs]
  refine WpX.vD 1 (some 62) ?_ rfl rfl (by kernel_rfl) (fun _ _ _ h => h) rfl (fun wz hwz => ?_) ?_
  rotate_left
  ·go_simp; try (with_reducible rfl)
  simp only [Zp, Zq, Zr, Zs]
  refine WpX.vD 2 (some 63) ?_ rfl rfl (by kernel_rfl) (fun _ _ _ h => h) rfl (fun wz hwz => ?_) ?_
  rotate_left
  ·(obtain ⟨x0, x1, x2, x3, x4⟩ := (HX12.out.exc (S := fun q => q = a9) hxa9 hwz).tot; go_simp; try (with_reducible rfl))
  simp only [Zp, Zq, Zr, Zs]
  refine WpX.vD 3 (some 64) ?_ rfl rfl (by kernel_rfl) (fun _ _ _ h => h) rfl (fun wz hwz => ?_) ?_
  rotate_left
  ·go_simp; try (with_reducible rfl)
  simp only [Zp, Zq, Zr, Zs]
  refine WpX.vD 4 (some 65) ?_ rfl rfl (by kernel_rfl) (fun _ _ _ h => h) rfl (fun wz hwz => ?_) ?_
  rotate_left
  ·(refine Eq.trans (exec_load rfl (by kernel_rfl) ((HX12.out.exc (S := fun q => q = a9) hxa9 hwz).loadTC HKA.out)) ?_; with_reducible rfl)
  simp only [Zp, Zq, Zr, Zs]
  refine WpX.vD 5 (some 66) ?_ rfl rfl (by kernel_rfl) (fun _ _ _ h => h) rfl (fun wz hwz => ?_) ?_
  rotate_left
  ·(refine Eq.trans (exec_load rfl (by kernel_rfl) ((HX12.out.exc (S := fun q => q = a9) hxa9 hwz).loadT HKA.out)) ?_; with_reducible rfl)
  simp only [Zp, Zq, Zr, Zs]
  refine WpX.vD 6 (some 67) ?_ rfl rfl (by kernel_rfl) (fun _ _ _ h => h) rfl (fun wz hwz => ?_) ?_
  rotate_left
  ·(have hz := (HT12.out.exc (S := fun q => q = a9) hta9 hwz).get8; obtain ⟨⟨z0, z1, z2, z3, z4, z5, z6, z7⟩, ⟨y0, y1, y2, y3, y4, y5, y6, y7⟩, y8⟩ := hz; go_simp; try (with_reducible rfl))
  simp only [Zp, Zq, Zr, Zs]
  refine WpX.oneD 7 (some 68) rfl rfl (by kernel_rfl) (fun pt : Option Addr × Nat => Value.slice pt.1 L pt.2) (fun pt => (RcT w12 (fun q => q = a9)) (some pt) none none) (fun pt => (RcK w12 (fun q => q = a9) BA L (RaR w12 O cb a9 tk n q KA (esK SA))) (some pt) none none) (Turns.call rfl (fun _ _ h => h) (fun _ => (RcK.weak _ _ _)) (fun _ => (RcK.clo RaR.call)) (fun wz hS => (HPUA.out ga wz (HGA12.out.call (hS.u rfl))).mono fun e w' ⟨A, c, he, ho, hb⟩ => ⟨(A, c), he, hS.mk1 ho HBA.out hb⟩) (fun wz hS => by go_simp; try (with_reducible rfl))) (fun pt => ?_)
  simp only [Zp, Zq, Zr, Zs]
  refine WpX.vD 8 (some 69) ?_ rfl rfl (by kernel_rfl) (fun _ _ _ h => h) rfl (fun wz hwz => ?_) ?_
  rotate_left
  ·(refine Eq.trans (exec_build rfl (by kernel_rfl) (build_entS pt.1 L pt.2 wz)) ?_; with_reducible rfl)
  simp only [Zp, Zq, Zr, Zs]
  refine WpX.oneD 9 (some 70) rfl rfl (by kernel_rfl) (fun eb : Nat => Value.slice (some ⟨eb, 0, none⟩) 1 1) (fun eb => (RcT w12 (fun q => q = a9)) (some pt) (some eb) none) (fun eb => (RcK w12 (fun q => q = a9) BA L (RaR w12 O cb a9 tk n q KA (esK SA))) (some pt) (some eb) none) (Turns.val rfl (fun _ _ h => h) (fun _ => (RcK.weak _ _ _)) (fun _ => (RcK.clo RaR.call)) (fun wz hS => ⟨wz.heap.size, wz.alloc (.cells (entL z16 0 (.slice none 0 0) (.slice pt.1 L pt.2) 0).toArray 44), exec_buildSlice rfl (by kernel_rfl) (build_entsS pt.1 L pt.2 wz), hS.mk2⟩)) (fun eb => ?_)
  simp only [Zp, Zq, Zr, Zs]
  refine WpX.vD 10 (some 71) ?_ rfl rfl (by kernel_rfl) (fun _ _ _ h => h) rfl (fun wz hwz => ?_) ?_
  rotate_left
  ·(refine Eq.trans (exec_build rfl (by kernel_rfl) (build_msg6 HKA.out (q : Int) eb wz)) ?_; with_reducible rfl)
  simp only [Zp, Zq, Zr, Zs]
  refine WpX.oneD 11 (some 72) rfl rfl (by kernel_rfl) (fun r : Nat × Option Addr × Nat => Value.tuple #[.slice (some ⟨r.1, 0, none⟩) 1 1, .int .i64 0]) (fun ra => (RcT w12 (fun q => q = a9)) (some pt) (some eb) (some ra)) (fun ra => (RcK w12 (fun q => q = a9) BA L (RaR w12 O cb a9 tk n q KA (esK SA))) (some pt) (some eb) (some ra)) (Turns.call rfl (fun _ _ h => h) (fun _ => (RcK.weak _ _ _)) (fun _ => (RcK.clo RaR.call)) (fun wz hS => (HRA.out O cb a9 pt.1 pt.2 eb wz (hS.a pt rfl rfl) (hS.b eb pt rfl rfl rfl) (HA12.out.call (hS.u rfl))).mono fun e w' ⟨r, he, hr, hx⟩ => ⟨r, he, hS.mk3 hx ⟨hr.1, own_lower hr.2 (hS.u rfl).size⟩⟩) (fun wz hS => by go_simp; try (with_reducible rfl))) (fun ra => ?_)
  simp only [Zp, Zq, Zr, Zs]
  refine WpX.vD 12 (some 60) ?_ rfl rfl (by kernel_rfl) (fun _ _ _ h => h) rfl (fun wz hwz => ?_) ?_
  rotate_left
  ·go_simp; try (with_reducible rfl)
  simp only [Zp, Zq, Zr, Zs]
  refine WpX.vD 13 (some 73) ?_ rfl rfl (by kernel_rfl) (fun _ _ _ h => h) rfl (fun wz hwz => ?_) ?_
  rotate_left
  ·go_simp; try (with_reducible rfl)
  simp only [Zp, Zq, Zr, Zs]
  refine WpX.vD 14 (some 74) ?_ rfl rfl (by kernel_rfl) (fun _ _ _ h => h) rfl (fun wz hwz => ?_) ?_
  rotate_left
  ·go_simp; try (with_reducible rfl)
  simp only [Zp, Zq, Zr, Zs]
  refine WpX.vD 15 (some 18) ?_ rfl rfl (by kernel_rfl) (fun _ _ _ h => h) rfl (fun wz hwz => ?_) ?_
  rotate_left
  ·go_simp; try (with_reducible rfl)
  simp only [Zp, Zq, Zr, Zs]
  refine WpX.done (by kernel_rfl) (fun w13 hS => ⟨pt, eb, ra, rfl, ?_⟩)
  ·exact hS
 intro pt eb ra w13 hS
 (try simp only [List.drop_succ_cons]); (try simp only [List.drop_zero]); (try simp only [Nat.reduceSub]); (try simp only [List.take_succ_cons]); (try simp only [List.take_zero])
 obtain ⟨hA13, hO13⟩ := hS.c ra rfl
 have hx13 : Exc (fun q => q = a9) w12.heap.size w12 w13 := hS.t
 have ha9S := HOL.out a9 hA.o.1
 have ha9B := HOB.out a9 hA.o.1
 have hxbS : S0 < xb := by omega
 have hT13 := hT.exc (S := fun q => q = a9) hta9 hx13
 have hY13 := hY.exc (S := fun q => q = a9) (fun e => by
  have e2 : xb = a9 := e
  omega) hx13
 have hGB13 := hGB12.exc (S := fun q => q = a9) (fun e => by
  have e2 : gb = a9 := e
  have e3 : S0 ≤ gb := hgb
  omega) hx13
 have hb013 := hb00.trans (exc_own (hx13.mono hb00.size) (by omega))
 have HT13 := Lib.hid hT13
 have HY13 := Lib.hid hY13
 have HG13 := Lib.hid hGB13
 have HA13 := Lib.hid hA13
 have HO13 := Lib.hid hO13
 have HB13 := Lib.hid hb013
 have HTB : Hid (¬ O tb) := Lib.hid fun e => by
  have := HOB.out tb e
  omega
 have HXB : Hid (¬ O xb) := Lib.hid fun e => by
  have := HOL.out xb e
  omega
 have HBW : Hid (w.heap.size ≤ B) := hbB
 clear HS7 HBQ hS hx13 hT13 hY13 hGB13 hA13 hO13 hb013 hb00 hT hY hX hI hA hGB12 hGA12 HT12 HX12 HGA12 HA12 HPUA HRA ha9S ha9B hxbS hxa9 hta9 hTl hIl hbB
 go_upto_region 11 with fail
 apply region_Z3 (n := 16) (m := 17) (f := 16) (fun x0 x1 x2 => (RcK w13 O BB L (RbR w13 O cb tk RS)) (some x0) (some x1) (some x2) ) ((RcT w13 O) none none none) ((RcK w13 O BB L (RbR w13 O cb tk RS)) none none none) ((RcK.weak _ _ _)) ((RcK.clo RbR.call)) (RcK.start)
 case hm => kernel_rfl
 case hB => kernel_rfl
 case hf => rfl
 case' h =>
  refine WpX.vD 0 (some 76) ?_ rfl rfl (by kernel_rfl) (fun _ _ _ h => h) rfl (fun wz hwz => ?_) ?_
  rotate_left
  ·go_simp; try (with_reducible rfl)
  simp only [Zp, Zq, Zr, Zs]
  refine WpX.vD 1 (some 77) ?_ rfl rfl (by kernel_rfl) (fun _ _ _ h => h) rfl (fun wz hwz => ?_) ?_
  rotate_left
  ·go_simp; try (with_reducible rfl)
  simp only [Zp, Zq, Zr, Zs]
  refine WpX.vD 2 (some 78) ?_ rfl rfl (by kernel_rfl) (fun _ _ _ h => h) rfl (fun wz hwz => ?_) ?_
  rotate_left
  ·(obtain ⟨x0, x1, x2, x3, x4⟩ := (HY13.out.exc (S := O) HXB.out hwz).tot; go_simp; try (with_reducible rfl))
  simp only [Zp, Zq, Zr, Zs]
  refine WpX.vD 3 (some 79) ?_ rfl rfl (by kernel_rfl) (fun _ _ _ h => h) rfl (fun wz hwz => ?_) ?_
  rotate_left
  ·go_simp; try (with_reducible rfl)
  simp only [Zp, Zq, Zr, Zs]
  refine WpX.vD 4 (some 80) ?_ rfl rfl (by kernel_rfl) (fun _ _ _ h => h) rfl (fun wz hwz => ?_) ?_
  rotate_left
  ·(refine Eq.trans (exec_load rfl (by kernel_rfl) ((HY13.out.exc (S := O) HXB.out hwz).loadTC HKB.out)) ?_; with_reducible rfl)
  simp only [Zp, Zq, Zr, Zs]
  refine WpX.vD 5 (some 81) ?_ rfl rfl (by kernel_rfl) (fun _ _ _ h => h) rfl (fun wz hwz => ?_) ?_
  rotate_left
  ·(refine Eq.trans (exec_load rfl (by kernel_rfl) ((HY13.out.exc (S := O) HXB.out hwz).loadT HKB.out)) ?_; with_reducible rfl)
  simp only [Zp, Zq, Zr, Zs]
  refine WpX.vD 6 (some 82) ?_ rfl rfl (by kernel_rfl) (fun _ _ _ h => h) rfl (fun wz hwz => ?_) ?_
  rotate_left
  ·(have hz := (HT13.out.exc (S := O) HTB.out hwz).get8; obtain ⟨⟨z0, z1, z2, z3, z4, z5, z6, z7⟩, ⟨y0, y1, y2, y3, y4, y5, y6, y7⟩, y8⟩ := hz; go_simp; try (with_reducible rfl))
  simp only [Zp, Zq, Zr, Zs]
  refine WpX.oneD 7 (some 83) rfl rfl (by kernel_rfl) (fun pt2 : Option Addr × Nat => Value.slice pt2.1 L pt2.2) (fun pt2 => (RcT w13 O) (some pt2) none none) (fun pt2 => (RcK w13 O BB L (RbR w13 O cb tk RS)) (some pt2) none none) (Turns.call rfl (fun _ _ h => h) (fun _ => (RcK.weak _ _ _)) (fun _ => (RcK.clo RbR.call)) (fun wz hS => (HPUB.out gb wz (HG13.out.call (hS.u rfl))).mono fun e w' ⟨A, c, he, ho, hb⟩ => ⟨(A, c), he, hS.mk1 ho HBB.out hb⟩) (fun wz hS => by go_simp; try (with_reducible rfl))) (fun pt2 => ?_)
  simp only [Zp, Zq, Zr, Zs]
  refine WpX.vD 8 (some 84) ?_ rfl rfl (by kernel_rfl) (fun _ _ _ h => h) rfl (fun wz hwz => ?_) ?_
  rotate_left
  ·(refine Eq.trans (exec_build rfl (by kernel_rfl) (build_entS pt2.1 L pt2.2 wz)) ?_; with_reducible rfl)
  simp only [Zp, Zq, Zr, Zs]
  refine WpX.oneD 9 (some 85) rfl rfl (by kernel_rfl) (fun eb2 : Nat => Value.slice (some ⟨eb2, 0, none⟩) 1 1) (fun eb2 => (RcT w13 O) (some pt2) (some eb2) none) (fun eb2 => (RcK w13 O BB L (RbR w13 O cb tk RS)) (some pt2) (some eb2) none) (Turns.val rfl (fun _ _ h => h) (fun _ => (RcK.weak _ _ _)) (fun _ => (RcK.clo RbR.call)) (fun wz hS => ⟨wz.heap.size, wz.alloc (.cells (entL z16 0 (.slice none 0 0) (.slice pt2.1 L pt2.2) 0).toArray 44), exec_buildSlice rfl (by kernel_rfl) (build_entsS pt2.1 L pt2.2 wz), hS.mk2⟩)) (fun eb2 => ?_)
  simp only [Zp, Zq, Zr, Zs]
  refine WpX.vD 10 (some 86) ?_ rfl rfl (by kernel_rfl) (fun _ _ _ h => h) rfl (fun wz hwz => ?_) ?_
  rotate_left
  ·(refine Eq.trans (exec_build rfl (by kernel_rfl) (build_msg6 HKB.out (q : Int) eb2 wz)) ?_; with_reducible rfl)
  simp only [Zp, Zq, Zr, Zs]
  refine WpX.oneD 11 (some 87) rfl rfl (by kernel_rfl) (fun _ : Unit => Value.tuple #[.slice none 0 0, .int .i64 0]) (fun un => (RcT w13 O) (some pt2) (some eb2) (some un)) (fun un => (RcK w13 O BB L (RbR w13 O cb tk RS)) (some pt2) (some eb2) (some un)) (Turns.call rfl (fun _ _ h => h) (fun _ => (RcK.weak _ _ _)) (fun _ => (RcK.clo RbR.call)) (fun wz hS => (HRB.out O cb a9 (.slice ra.2.1 n ra.2.2) pt2.1 pt2.2 eb2 wz (hS.a pt2 rfl rfl) (hS.b eb2 pt2 rfl rfl rfl) ((own_sl HAN.out.1 HO13.out).later (hS.u rfl)) (HA13.out.call (hS.u rfl))).mono fun e w' ⟨he, ⟨O', hc, h2⟩, hx⟩ => ⟨(), he, hS.mk3 hx ⟨O', hc, fun q hq => (h2 q hq).imp (fun h => h) (Nat.le_trans (hS.u rfl).size)⟩⟩) (fun wz hS => by go_simp; try (with_reducible rfl))) (fun un => ?_)
  simp only [Zp, Zq, Zr, Zs]
  refine WpX.vD 12 (some 75) ?_ rfl rfl (by kernel_rfl) (fun _ _ _ h => h) rfl (fun wz hwz => ?_) ?_
  rotate_left
  ·go_simp; try (with_reducible rfl)
  simp only [Zp, Zq, Zr, Zs]
  refine WpX.vD 13 (some 88) ?_ rfl rfl (by kernel_rfl) (fun _ _ _ h => h) rfl (fun wz hwz => ?_) ?_
  rotate_left
  ·go_simp; try (with_reducible rfl)
  simp only [Zp, Zq, Zr, Zs]
  refine WpX.vD 14 (some 89) ?_ rfl rfl (by kernel_rfl) (fun _ _ _ h => h) rfl (fun wz hwz => ?_) ?_
  rotate_left
  ·go_simp; try (with_reducible rfl)
  simp only [Zp, Zq, Zr, Zs]
  refine WpX.vD 15 (some 20) ?_ rfl rfl (by kernel_rfl) (fun _ _ _ h => h) rfl (fun wz hwz => ?_) ?_
  rotate_left
  ·go_simp; try (with_reducible rfl)
  simp only [Zp, Zq, Zr, Zs]
  refine WpX.done (by kernel_rfl) (fun w14 hS => ⟨pt2, eb2, un, rfl, ?_⟩)
  ·exact hS
 intro pt2 eb2 un w14 hS
 (try simp only [List.drop_succ_cons]); (try simp only [List.drop_zero]); (try simp only [Nat.reduceSub]); (try simp only [List.take_succ_cons]); (try simp only [List.take_zero])
 obtain ⟨O2, hC14, hO2⟩ := hS.c () rfl
 have hx14 : Exc O w13.heap.size w13 w14 := hS.t
 have hT14 := HT13.out.exc (S := O) HTB.out hx14
 have hb014 := HB13.out.trans ((hx14.mono HB13.out.size).below fun q hq e => by
  have h1 := HOB.out q e
  have h2 := HBW.out
  omega)
 have HRES : Hid (Calls Try.prog 47 #[.pointer (some ⟨cb, 0, none⟩)] w14 fun e w' => ∃ (A : Option Addr) (cp : Nat), e = .returned (.slice A 1 cp) ∧ ResR w' w14.heap.size (.slice A 1 cp) 1 RS ∧ Below w14.heap.size w14 w') := Lib.hid (by
  have h := collect_Results tk HTL.out O2 _ cb (.pointer none) 2 [] RS (by rw [← HRS.out]; simp) (fun r hr => by
   rw [← HRS.out, List.mem_singleton] at hr
   subst hr
   have h1 := HNS.out.1
   have h2 := HNS.out.2
   show xs.length ≤ 1000
   omega) w14 hC14
  have hl : RS.length = 1 := by rw [← HRS.out]; rfl
  rwa [hl] at h)
 clear hS hx14 hC14 hO2 HT13 HY13 HG13 HA13 HO13 HB13 HTB HXB HBW HPUB HRB HOB HOL
 go_upto_region 12 with fail
 go_upto_region 13 with (go_at_call 47; refine HRES.out.mono ?_; rintro e w15 ⟨A5, c5, rfl, hR15, hb15⟩)
 have hT15 := hT14.call hb15
 have hb015 := bl_call hb014 (Nat.le_refl _) hb15
 obtain ⟨_, vs, h1, h2, h3⟩ := hR15
 obtain ⟨v, rfl⟩ : ∃ v, vs = [v] := List.length_eq_one_iff.1 h2
 rw [← HRS.out] at h1 h3
 obtain ⟨A3, c3, rfl, ho3, _⟩ := h3 0 _ v rfl rfl
 obtain ⟨g5, cg5, hg5⟩ := own_sl9 h1 (by omega)
 rw [hg5] at h1
 rw [hg5]
 have hrc : ∀ (j : Nat) (u : Value), (resC ⟨7, if code = 0 then (q : Int) else 0, xs, code⟩ (.slice A3 xs.length c3))[j]? = some u → w15.cell? ⟨g5, j, none⟩ = some u := fun j u hj => by
  have h9 := h1.cells (g := g5) rfl (0 * 4 + j) u (resCs_at _ _ 0 _ _ rfl rfl j u hj)
  rwa [Addr.add_mid, Nat.zero_mul, Nat.zero_add, Nat.zero_add] at h9
 have r1 := hrc 1 _ rfl
 have r2 := hrc 2 _ rfl
 have r3 := hrc 3 _ rfl
 have hg5l := (h1.lt g5 rfl).2
 dsimp only at ho3
 clear hrc h1 h2 h3 hg5 hT14 hb014 hb15 HRES
 rw [HNS.out.1] at r2 ho3
 obtain ⟨hc0, hxs, hnse⟩ := HEQ.out
 subst hc0 hxs hnse
 rw [if_pos rfl] at r1
 have hqt : many.tmod 5 = (q : Int) := by rw [Int.tmod_eq_emod_of_nonneg hmany.1]; exact hq
 have hdt : bi.tmod 2 = (d : Int) := by rw [Int.tmod_eq_emod_of_nonneg HDQ.out.2.2.2.1]; exact hd
 have hwqi : IntKind.i64.wrap (q : Int) = (q : Int) := IntWalk.i64_in _ (by omega)
 have hwqu : IntKind.u64.wrap (q : Int) = (q : Int) := IntWalk.u64_in _ (by omega)
 have hwdu : IntKind.u64.wrap (d : Int) = (d : Int) := IntWalk.u64_in _ (by omega)
 have hqd4 : q * d ≤ 4 := Nat.le_trans (Nat.mul_le_mul hq4 hd1) (by omega)
 have hwm : IntKind.u64.wrap ((q : Int) * (d : Int)) = ((q * d : Nat) : Int) := by rw [Int.natCast_mul]; exact IntWalk.u64_in _ (by rw [← Int.natCast_mul]; omega)
 have hne9 := HN70.out
 go_upto_region 15 with fail
 go_upto_region 17 with fail
 obtain ⟨⟨z0, z1, z2, z3, z4, z5, z6, z7⟩, ⟨y0, y1, y2, y3, y4, y5, y6, y7⟩, y8⟩ := hT15.get8
 refine region_B (n := 25) (m := 26) (f := 25) (by kernel_rfl) (by kernel_rfl) rfl ?_
 refine WpH.vD 0 (some 133) ?_ rfl rfl (by kernel_rfl) (fun _ _ _ h => h) rfl (fun wz hwz => ?_) ?_
 rotate_left
 ·go_simp; try (with_reducible rfl)
 simp only [Zp, Zq, Zr, Zs]
 refine WpH.vD 1 (some 134) ?_ rfl rfl (by kernel_rfl) (fun _ _ _ h => h) rfl (fun wz hwz => ?_) ?_
 rotate_left
 ·go_simp; try (with_reducible rfl)
 simp only [Zp, Zq, Zr, Zs]
 refine WpH.vD 2 (some 135) ?_ rfl rfl (by kernel_rfl) (fun _ _ _ h => h) rfl (fun wz hwz => ?_) ?_
 rotate_left
 ·go_simp; try (with_reducible rfl)
 simp only [Zp, Zq, Zr, Zs]
 refine WpH.vD 3 (some 136) ?_ rfl rfl (by kernel_rfl) (fun _ _ _ h => h) rfl (fun wz hwz => ?_) ?_
 rotate_left
 ·(obtain ⟨hcz, hfz⟩ := bcell hwz; go_simp; try (with_reducible rfl))
 simp only [Zp, Zq, Zr, Zs]
 refine WpH.vD 4 (some 137) ?_ rfl rfl (by kernel_rfl) (fun _ _ _ h => h) rfl (fun wz hwz => ?_) ?_
 rotate_left
 ·go_simp; try (with_reducible rfl)
 simp only [Zp, Zq, Zr, Zs]
 refine WpH.vD 5 (some 138) ?_ rfl rfl (by kernel_rfl) (fun _ _ _ h => h) rfl (fun wz hwz => ?_) ?_
 rotate_left
 ·go_simp; try (with_reducible rfl)
 simp only [Zp, Zq, Zr, Zs]
 refine WpH.vD 6 (some 139) ?_ rfl rfl (by kernel_rfl) (fun _ _ _ h => h) rfl (fun wz hwz => ?_) ?_
 rotate_left
 ·go_simp; try (with_reducible rfl)
 simp only [Zp, Zq, Zr, Zs]
 refine WpH.vD 7 (some 140) ?_ rfl rfl (by kernel_rfl) (fun _ _ _ h => h) rfl (fun wz hwz => ?_) ?_
 rotate_left
 ·go_simp; try (with_reducible rfl)
 simp only [Zp, Zq, Zr, Zs]
 refine WpH.vD 8 (some 141) ?_ rfl rfl (by kernel_rfl) (fun _ _ _ h => h) rfl (fun wz hwz => ?_) ?_
 rotate_left
 ·go_simp; try (with_reducible rfl)
 simp only [Zp, Zq, Zr, Zs]
 refine WpH.vD 9 (some 142) ?_ rfl rfl (by kernel_rfl) (fun _ _ _ h => h) rfl (fun wz hwz => ?_) ?_
 rotate_left
 ·(obtain ⟨hcz, hfz⟩ := bcell hwz; go_simp; try (with_reducible rfl))
 simp only [Zp, Zq, Zr, Zs]
 refine WpH.vD 10 (some 143) ?_ rfl rfl (by kernel_rfl) (fun _ _ _ h => h) rfl (fun wz hwz => ?_) ?_
 rotate_left
 ·go_simp; try (with_reducible rfl)
 simp only [Zp, Zq, Zr, Zs]
 refine WpH.vD 11 (some 144) ?_ rfl rfl (by kernel_rfl) (fun _ _ _ h => h) rfl (fun wz hwz => ?_) ?_
 rotate_left
 ·go_simp; try (with_reducible rfl)
 simp only [Zp, Zq, Zr, Zs]
 refine WpH.vD 12 (some 145) ?_ rfl rfl (by kernel_rfl) (fun _ _ _ h => h) rfl (fun wz hwz => ?_) ?_
 rotate_left
 ·go_simp; try (with_reducible rfl)
 simp only [Zp, Zq, Zr, Zs]
 refine WpH.vD 13 (some 146) ?_ rfl rfl (by kernel_rfl) (fun _ _ _ h => h) rfl (fun wz hwz => ?_) ?_
 rotate_left
 ·go_simp; try (with_reducible rfl)
 simp only [Zp, Zq, Zr, Zs]
 refine WpH.vD 14 (some 147) ?_ rfl rfl (by kernel_rfl) (fun _ _ _ h => h) rfl (fun wz hwz => ?_) ?_
 rotate_left
 ·go_simp; try (with_reducible rfl)
 simp only [Zp, Zq, Zr, Zs]
 refine WpH.vD 15 (some 148) ?_ rfl rfl (by kernel_rfl) (fun _ _ _ h => h) rfl (fun wz hwz => ?_) ?_
 rotate_left
 ·go_simp; try (with_reducible rfl)
 simp only [Zp, Zq, Zr, Zs]
 refine WpH.vD 16 (some 149) ?_ rfl rfl (by kernel_rfl) (fun _ _ _ h => h) rfl (fun wz hwz => ?_) ?_
 rotate_left
 ·go_simp; try (with_reducible rfl)
 simp only [Zp, Zq, Zr, Zs]
 refine WpH.vD 17 (some 150) ?_ rfl rfl (by kernel_rfl) (fun _ _ _ h => h) rfl (fun wz hwz => ?_) ?_
 rotate_left
 ·go_simp; try (with_reducible rfl)
 simp only [Zp, Zq, Zr, Zs]
 refine WpH.vD 18 (some 151) ?_ rfl rfl (by kernel_rfl) (fun _ _ _ h => h) rfl (fun wz hwz => ?_) ?_
 rotate_left
 ·go_simp; try (with_reducible rfl)
 simp only [Zp, Zq, Zr, Zs]
 refine WpH.vD 19 (some 152) ?_ rfl rfl (by kernel_rfl) (fun _ _ _ h => h) rfl (fun wz hwz => ?_) ?_
 rotate_left
 ·(obtain ⟨hcz, hfz⟩ := bcell hwz; go_simp; try (with_reducible rfl))
 simp only [Zp, Zq, Zr, Zs]
 refine WpH.vD 20 (some 153) ?_ rfl rfl (by kernel_rfl) (fun _ _ _ h => h) rfl (fun wz hwz => ?_) ?_
 rotate_left
 ·go_simp; try (with_reducible rfl)
 simp only [Zp, Zq, Zr, Zs]
 refine WpH.vD 21 (some 154) ?_ rfl rfl (by kernel_rfl) (fun _ _ _ h => h) rfl (fun wz hwz => ?_) ?_
 rotate_left
 ·go_simp; try (with_reducible rfl)
 simp only [Zp, Zq, Zr, Zs]
 refine WpH.vD 22 (some 155) ?_ rfl rfl (by kernel_rfl) (fun _ _ _ h => h) rfl (fun wz hwz => ?_) ?_
 rotate_left
 ·(obtain ⟨hcz, hfz⟩ := bcell hwz; go_simp; try (with_reducible rfl))
 simp only [Zp, Zq, Zr, Zs]
 refine WpH.takeD 23 (some 156) rfl rfl (by kernel_rfl) (fun _ _ _ h => h) (.call rfl (fun wz hwz => HO.out wz) (fun wz hwz => ?_)) ?_
 ·go_simp; try (with_reducible rfl)
 simp only [Zp, Zq, Zr, Zs]
 refine WpH.vD 24 (some 157) ?_ rfl rfl (by kernel_rfl) (fun _ _ _ h => h) rfl (fun wz hwz => ?_) ?_
 rotate_left
 ·go_simp; try (with_reducible rfl)
 simp only [Zp, Zq, Zr, Zs]
 refine WpH.doneB (by kernel_rfl) (fun w16 hw16 => ?_)
 (try simp only [List.drop_succ_cons]); (try simp only [List.drop_zero]); (try simp only [Nat.reduceSub]); (try simp only [List.take_succ_cons]); (try simp only [List.take_zero])
 clear z0 z1 z2 z3 z4 z5 z6 z7 y0 y1 y2 y3 y4 y5 y6 y7 y8
 have r2b := cell_call r2 hw16
 have ho16 := own_call ho3 hw16
 have hb016 := bl_call hb015 (Nat.le_refl _) hw16
 have hg6l : g5 < w16.heap.size := Nat.lt_of_lt_of_le hg5l hw16.size
 clear r1 r2 r3 ho3 hb015 hw16 hT15 hg5l
 go_upto_region 19 with fail
 go_wp2_with fail
 go_loopw [164] (fun v164 wr => ∃ j : Nat, j ≤ n ∧ v164 = .int .i64 j ∧ wr = w16) (fun v164 _ => n - (intOf v164).toNat)
 case atStart => exact ⟨0, Nat.zero_le _, rfl, rfl⟩
 case round =>
  obtain ⟨j, hjn, rfl, rfl⟩ := hrel
  by_cases hlt : j < n
  ·have hji : (j : Int) < (n : Int) := by omega
   have hwj : IntKind.i64.wrap ((j : Int) + 1) = (j : Int) + 1 := IntWalk.i64_in _ (by omega)
   obtain ⟨g6, c6, hg6⟩ := own_sl9 ho16 (by omega)
   rw [hg6] at ho16
   rw [hg6]
   have hc := ho16.cells (g := g6) rfl j (.int .u64 ((q * d : Nat) : Int)) (by
    unfold cellsU natsI
    rw [List.getElem?_map, List.getElem?_map, List.getElem?_replicate, if_pos hlt]
    rfl)
   rw [Addr.add_mid, Nat.zero_add] at hc
   have hg6l2 := (ho16.lt g6 rfl).2
   go_upto_region 24 with fail
   go_wp2_with fail
   go_roundw
   case rel => exact ⟨j + 1, by omega, by go_num, by first | rfl | trivial⟩
   case measure => simp [intOf]; omega
  ·obtain rfl : n = j := by omega
   go_wp2_with fail
   go_ret
   exact ⟨by first | rfl | trivial, hb016⟩

set_option maxHeartbeats 16000000 in
theorem walk_CollectRight1
  (k f b l m c p t many bi : Int) (a d q : Nat) (id : List Int) (w : World) (hk : 0 ≤ k ∧ k ≤ 255) (hf : 0 ≤ f ∧ f ≤ 255) (hb : 0 ≤ b ∧ b ≤ 255) (hl : 0 ≤ l ∧ l ≤ 255) (hm : 0 ≤ m ∧ m ≤ 255) (hc : 0 ≤ c ∧ c ≤ 255) (hp : 0 ≤ p ∧ p ≤ 255) (ht : 0 ≤ t ∧ t ≤ 255)
    (hmany : 0 ≤ many ∧ many ≤ 255) (hq : many % 5 = (q : Int)) (ha : a ≤ 255) (hbi : 0 ≤ bi ∧ bi ≤ 255) (hd : bi % 2 = (d : Int)) (hid : id.length = 16) (hid8 : B8 id)
  : Calls Try.prog 10 #[.agg #[.int .u8 k, .int .u8 f, .int .u8 b, .int .u8 l, .int .u8 m, .int .u8 c, .int .u8 p, .int .u8 t], .int .u8 many, .int .u8 (a : Int), .int .u8 bi, .bool true, .agg (cells8 id).toArray] w fun e w' => e = .returned (.bool true) ∧ Below w.heap.size w w' := by
 have r0 : 0 ≤ id.getD 0 0 ∧ id.getD 0 0 ≤ 255 := hid8 _ (by rw [List.getD_eq_getElem?_getD, List.getElem?_eq_getElem (by rw [hid]; omega)]; exact List.getElem_mem _)
 have r1 : 0 ≤ id.getD 1 0 ∧ id.getD 1 0 ≤ 255 := hid8 _ (by rw [List.getD_eq_getElem?_getD, List.getElem?_eq_getElem (by rw [hid]; omega)]; exact List.getElem_mem _)
 obtain ⟨o0, ho0⟩ : ∃ z, id.getD 0 0 = z := ⟨_, rfl⟩
 obtain ⟨o1, ho1⟩ : ∃ z, id.getD 1 0 = z := ⟨_, rfl⟩
 rw [ho0] at r0
 rw [ho1] at r1
 have HOE := Lib.hid (And.intro ho0 (And.intro ho1 (And.intro r0 r1)))
 obtain ⟨q0, hq0⟩ : ∃ z : Nat, o0 % 16 = (z : Int) := ⟨(o0 % 16).toNat, by omega⟩
 have hq16 : q0 < 16 := by omega
 obtain ⟨z, hz⟩ : ∃ z, 1 + o1 % 255 = z := ⟨_, rfl⟩
 have hz1 : 1 ≤ z ∧ z ≤ 255 := by omega
 have HQE := Lib.hid (And.intro hq0 (And.intro hq16 (And.intro hz hz1)))
 clear hq0 hz ho0 ho1 r0 r1
 obtain ⟨F, y, s, hF, hy, hs32, hTSK⟩ := law13_Task k f b l m c p t hk hf hb hl hm hc hp ht
 obtain ⟨pq, hpq, hpq1, hpq3⟩ : ∃ q : Int, 1 + p % 3 = q ∧ 1 ≤ q ∧ q ≤ 3 := ⟨_, rfl, by omega, by omega⟩
 rw [hpq] at hTSK
 have HTSK := Lib.hid hTSK
 have HAW := Lib.hid law25_Awake
 have hok := hy.ok
 have hcl : y.calls ≤ 511 := by have := hy.calls; omega
 have hno : y.nout ≤ 70 := by
  have h1 := CK.nout_le hok
  omega
 have hq4 : q ≤ 4 := by omega
 have hd1 : d ≤ 1 := by omega
 have HC : ∀ wz, Calls Try.prog 43 #[.agg #[.int .u8 ((y.k : Nat) : Int), .int .u8 (F : Int), .int .i64 ((y.b : Nat) : Int), .int .i64 ((y.l : Nat) : Int), .int .i64 ((y.m : Nat) : Int), .int .i64 ((y.c : Nat) : Int), .int .i64 pq, .string s]] wz (RetC 0 wz) := fun wz => small_code (by omega) hok hF pq ⟨hpq1, hpq3⟩ s hs32 wz
 have HO : ∀ wz, Calls Try.prog 32 #[.agg #[.int .u8 ((y.k : Nat) : Int), .int .u8 (F : Int), .int .i64 ((y.b : Nat) : Int), .int .i64 ((y.l : Nat) : Int), .int .i64 ((y.m : Nat) : Int), .int .i64 ((y.c : Nat) : Int)]] wz (RetI y.nout wz) := fun wz => circuit_Out F y hok wz
 generalize hne : y.nout = n at *
 obtain ⟨SA, hSA⟩ : ∃ z : KL F, List.replicate n (sumI (nK F (a + 1)) q) = z := ⟨_, rfl⟩
 obtain ⟨SB, hSB⟩ : ∃ z : KL F, List.replicate n (sumI (-(nK F (a + 1 - d))) q) = z := ⟨_, rfl⟩
 have HTOT : Hid (∀ wz, Calls Try.prog 45 #[.agg #[.int .u8 ((y.k : Nat) : Int), .int .u8 (F : Int), .int .i64 ((y.b : Nat) : Int), .int .i64 ((y.l : Nat) : Int), .int .i64 ((y.m : Nat) : Int), .int .i64 ((y.c : Nat) : Int), .int .i64 pq, .string s], .int .u8 many, .int .u8 (a : Int), .int .u8 bi] wz (RetT2 n (q : Int) (chkI q) SA SB wz)) := Lib.hid fun wz => by
  have h := law25_totals hF ((y.k : Nat) : Int) ((y.b : Nat) : Int) ((y.l : Nat) : Int) ((y.m : Nat) : Int) ((y.c : Nat) : Int) pq s n (by omega) HC HO many bi a q d hq hmany ha hbi hd wz
  rwa [hSA, hSB] at h
 have hT9 : addL SA SB = (List.replicate n (q * d)).map (nK F) := by
  rw [← hSA, ← hSB]
  exact sumI_T n a d q (by omega)
 have hSAn : SA.length = n := by rw [← hSA, List.length_replicate]
 have hSBn : SB.length = n := by rw [← hSB, List.length_replicate]
 clear hSA hSB
 have hKA := chkI_length q
 have hKA8 := chkI_b8 q
 generalize chkI q = KA at *
 obtain ⟨M, hM⟩ : ∃ z, n * sizeK F = z := ⟨_, rfl⟩
 obtain ⟨kq, hkq⟩ : ∃ z, KA.getD q0 0 = z := ⟨_, rfl⟩
 obtain ⟨KB, hKBe⟩ : ∃ z', KA.set q0 (X8 kq z) = z' := ⟨_, rfl⟩
 have hKB : KB.length = 16 := by rw [← hKBe, List.length_set]; exact hKA
 have hKB8 : B8 KB := by rw [← hKBe]; exact set_b8 hKA8 _ _ _
 have hKne : (KA == KB) = false := by rw [← hKBe, ← hkq]; exact set_ne (by rw [hKA]; exact hq16) hz1
 obtain ⟨ns, hnse⟩ : ∃ z : Nat, 0 = z := ⟨_, rfl⟩
 obtain ⟨xs, hxs⟩ : ∃ z : List Int, [] = z := ⟨_, rfl⟩
 obtain ⟨code, hcode⟩ : ∃ z : Int, 22 = z := ⟨_, rfl⟩
 have hns : xs.length = ns := by rw [← hxs, ← hnse]; rfl
 have hcx : code ≠ 0 → ns = 0 := fun h => hnse.symm
 have hns70 : ns ≤ 70 := by omega
 have HUN : ∀ (fv : Value) (A1 : Option Addr) (c1 : Nat) wz, SlK wz wz.heap.size fv SA → SlK wz wz.heap.size (.slice A1 n c1) SB → Calls Try.prog 38 #[.agg #[.int .u8 ((y.k : Nat) : Int), .int .u8 (F : Int), .int .i64 ((y.b : Nat) : Int), .int .i64 ((y.l : Nat) : Int), .int .i64 ((y.m : Nat) : Int), .int .i64 ((y.c : Nat) : Int), .int .i64 pq, .string s], .agg (totL fv (q : Int) KA).toArray, .agg (totL (.slice A1 n c1) (q : Int) KB).toArray] wz (RetUn ns xs code wz) := fun fv A1 c1 wz h1 h2 => by
  rw [← hnse, ← hxs, ← hcode]
  exact (total_UnshardCheck _ _ _ _ _ _ pq s HC fv (.slice A1 n c1) (q : Int) KA KB hKA hKB hKne wz).mono fun e w' ⟨he, hb⟩ => ⟨(none, 0), he, World.ownsRow_nil _ _ _ _, hb⟩
 have HEQ := Lib.hid (And.intro hcode (And.intro hxs hnse))
 have HKE := Lib.hid (And.intro hkq hKBe)
 clear hcode hxs hnse hKBe hkq hKne hz1 hq16
 have hBA : (putB q KA SA).length = 20 + M := by
  rw [← hM]
  exact (putB_parts q KA SA n hKA hSAn (by omega)).1
 have hBB : (putB q KB SB).length = 20 + M := by
  rw [← hM]
  exact (putB_parts q KB SB n hKB hSBn (by omega)).1
 have HPUA : Hid (∀ (g : Nat) wz, BlkE wz g (esK SA) → Calls Try.prog 39 #[.agg (totL (.slice (some ⟨g, 0, none⟩) n n) (q : Int) KA).toArray, .agg #[.int .u8 ((y.k : Nat) : Int), .int .u8 (F : Int), .int .i64 ((y.b : Nat) : Int), .int .i64 ((y.l : Nat) : Int), .int .i64 ((y.m : Nat) : Int), .int .i64 ((y.c : Nat) : Int), .int .i64 pq, .string s]] wz fun e w' => ∃ (A : Option Addr) (c : Nat), e = .returned (.slice A (20 + M) c) ∧ w'.ownsRow wz.heap.size 5 1 (.slice A (20 + M) c) (20 + M) (cells8 (putB q KA SA)) ∧ Below wz.heap.size wz w') := Lib.hid fun g wz h => by
  have h1 := total_Put hF ((y.k : Nat) : Int) ((y.b : Nat) : Int) ((y.l : Nat) : Int) ((y.m : Nat) : Int) ((y.c : Nat) : Int) pq s (.slice (some ⟨g, 0, none⟩) n n) SA q KA wz (h.slNn hSAn (by omega)) (by omega) (by omega) hKA
  unfold RetOB at h1
  rwa [hBA] at h1
 have HPUB : Hid (∀ (g : Nat) wz, BlkE wz g (esK SB) → Calls Try.prog 39 #[.agg (totL (.slice (some ⟨g, 0, none⟩) n n) (q : Int) KB).toArray, .agg #[.int .u8 ((y.k : Nat) : Int), .int .u8 (F : Int), .int .i64 ((y.b : Nat) : Int), .int .i64 ((y.l : Nat) : Int), .int .i64 ((y.m : Nat) : Int), .int .i64 ((y.c : Nat) : Int), .int .i64 pq, .string s]] wz fun e w' => ∃ (A : Option Addr) (c : Nat), e = .returned (.slice A (20 + M) c) ∧ w'.ownsRow wz.heap.size 5 1 (.slice A (20 + M) c) (20 + M) (cells8 (putB q KB SB)) ∧ Below wz.heap.size wz w') := Lib.hid fun g wz h => by
  have h1 := total_Put hF ((y.k : Nat) : Int) ((y.b : Nat) : Int) ((y.l : Nat) : Int) ((y.m : Nat) : Int) ((y.c : Nat) : Int) pq s (.slice (some ⟨g, 0, none⟩) n n) SB q KB wz (h.slNn hSBn (by omega)) (by omega) (by omega) hKB
  unfold RetOB at h1
  rwa [hBB] at h1
 obtain ⟨tk, htk⟩ : ∃ z, tkL ((y.k : Nat) : Int) (F : Int) ((y.b : Nat) : Int) ((y.l : Nat) : Int) ((y.m : Nat) : Int) ((y.c : Nat) : Int) pq s = z := ⟨_, rfl⟩
 have HRA : Hid (∀ (O : Nat → Prop) (cb a9 : Nat) (As : Option Addr) (cs eb : Nat) wz, SlB wz As (putB q KA SA) cs → Vs wz eb (entL z16 0 (.slice none 0 0) (.slice As (20 + M) cs) 0) → AskS wz O cb a9 tk 2 [] [] 1 7 false (.slice none 0 0) 0 z16 1 2 →
   Calls Try.prog 46 #[.pointer (some ⟨cb, 0, none⟩), .int .u64 1, .int .i64 0, .agg (msgL 6 1 7 (q : Int) KA 0 (.slice (some ⟨eb, 0, none⟩) 1 1)).toArray] wz fun e w' => ∃ r : Nat × Option Addr × Nat, e = .returned (.tuple #[.slice (some ⟨r.1, 0, none⟩) 1 1, .int .i64 0]) ∧ (AskS w' O cb a9 tk 2 [] [] 1 7 true (.slice r.2.1 n r.2.2) (q : Int) KA 2 1 ∧ w'.ownsRow wz.heap.size 99 2 (.slice r.2.1 n r.2.2) n (cellsE (esK SA))) ∧ Exc (fun q => q = a9) wz.heap.size wz w') := Lib.hid fun O cb a9 As cs eb wz h1 h2 h3 => by
  rw [← htk] at h3 ⊢
  exact (collect_RecvA hF _ _ _ _ _ pq s n (by omega) M hM.symm HC HO O cb a9 2 [] [] 1 7 (.slice none 0 0) 0 z16 1 2 1 q KA SA As cs eb 1 wz (by omega) hKA hKA8 hSAn (by omega) (by omega) h1 h2 h3 (by omega)).mono fun e w' ⟨g, A1, c1, he, _, hA, hO, hx⟩ => ⟨(g, A1, c1), he, ⟨hA, hO⟩, hx⟩
 have HRB : Hid (∀ (O : Nat → Prop) (cb a9 : Nat) (fv : Value) (As : Option Addr) (cs eb : Nat) wz, SlB wz As (putB q KB SB) cs → Vs wz eb (entL z16 0 (.slice none 0 0) (.slice As (20 + M) cs) 0) → SlK wz wz.heap.size fv SA → AskS wz O cb a9 tk 2 [] [] 1 7 true fv (q : Int) KA 2 1 →
   Calls Try.prog 46 #[.pointer (some ⟨cb, 0, none⟩), .int .u64 2, .int .i64 1, .agg (msgL 6 1 7 (q : Int) KB 0 (.slice (some ⟨eb, 0, none⟩) 1 1)).toArray] wz fun e w' => e = .returned (.tuple #[.slice none 0 0, .int .i64 0]) ∧ RbR wz O cb tk [⟨7, if code = 0 then (q : Int) else 0, xs, code⟩] () w' ∧ Exc O wz.heap.size wz w') := Lib.hid fun O cb a9 fv As cs eb wz h1 h2 h4 h3 => by
  rw [← htk] at h3 ⊢
  exact (collect_RecvB hF _ _ _ _ _ pq s n (by omega) M hM.symm HC HO O cb a9 2 [] [] 1 7 fv (q : Int) KA 2 1 2 q KB SB As cs eb 1 wz (by omega) hKB hKB8 hSBn (by omega) (by omega) h1 h2 h3 SA h4 (by simp) ns xs code hns hcx (fun A1 c1 wz hv1 hv2 => HUN fv A1 c1 wz hv1 hv2)).mono fun e w' ⟨he, O', hc, hr1, hr2⟩ => ⟨he, ⟨O', hc, hr1⟩, hr2⟩
 obtain ⟨RS, hRS⟩ : ∃ z : List ResK, [⟨7, if code = 0 then (q : Int) else 0, xs, code⟩] = z := ⟨_, rfl⟩
 rw [hRS] at HRB
 have HRS := Lib.hid hRS
 have HNS := Lib.hid (And.intro hns hns70)
 clear hRS hns hns70 hcx
 have HNW : Hid (∀ wz, Calls Try.prog 20 #[.agg #[.int .u8 ((y.k : Nat) : Int), .int .u8 (F : Int), .int .i64 ((y.b : Nat) : Int), .int .i64 ((y.l : Nat) : Int), .int .i64 ((y.m : Nat) : Int), .int .i64 ((y.c : Nat) : Int), .int .i64 pq, .string s]] wz fun e w' => ∃ cb : Nat, e = .returned (.tuple #[.pointer (some ⟨cb, 0, none⟩), .int .i64 0]) ∧ ColK w' wz.heap.size cb tk 1 [] ∧ Below wz.heap.size wz w') := Lib.hid fun wz => by
  rw [← htk]
  exact collect_New _ _ _ _ _ _ pq s HC wz
 have HTL : Hid (tk.length = 8) := Lib.hid (by rw [← htk]; rfl)
 have HO := Lib.hid HO
 have HN70 := Lib.hid hno
 have HAN := Lib.hid (And.intro hSAn hSBn)
 have HKA := Lib.hid hKA
 have HKB := Lib.hid hKB
 have HKB8 := Lib.hid hKB8
 have HBA := Lib.hid hBA
 have HBB := Lib.hid hBB
 have HDQ := Lib.hid (And.intro hq (And.intro hd (And.intro hmany hbi)))
 obtain ⟨L, hL⟩ : ∃ z, 20 + M = z := ⟨_, rfl⟩
 rw [hL] at HPUA HPUB HRA HRB HBA HBB
 obtain ⟨BA, hBAe⟩ : ∃ z, putB q KA SA = z := ⟨_, rfl⟩
 obtain ⟨BB, hBBe⟩ : ∃ z, putB q KB SB = z := ⟨_, rfl⟩
 rw [hBAe] at HPUA HRA HBA
 rw [hBBe] at HPUB HRB HBB
 clear HUN hBA hBB hL hBAe hBBe htk HC hM hT9 hSAn hSBn hKA8 hKB8 hKB hKA hne hno hcl hok hy hF hs32 hpq hpq1 hpq3 hTSK hk hf hb hl hm hc hp ht hbi
 generalize ((y.k : Nat) : Int) = yk at *
 generalize ((y.b : Nat) : Int) = yb at *
 generalize ((y.l : Nat) : Int) = yl at *
 generalize ((y.m : Nat) : Int) = ym at *
 generalize ((y.c : Nat) : Int) = yc at *
 have HID := Lib.hid (And.intro hid hid8)
 clear hid hid8
 go_enter Try.func10, Try.ntmps10
 go_upto_region 1 with fail
 have hs := (Vs.new w [.int .u8 k, .int .u8 f, .int .u8 b, .int .u8 l, .int .u8 m, .int .u8 c, .int .u8 p, .int .u8 t] #[.int .u8 k, .int .u8 f, .int .u8 b, .int .u8 l, .int .u8 m, .int .u8 c, .int .u8 p, .int .u8 t] 66 rfl).alloc (.cells (cells8 id).toArray 34)
 have hI := Vs.new (w.alloc (.cells #[.int .u8 k, .int .u8 f, .int .u8 b, .int .u8 l, .int .u8 m, .int .u8 c, .int .u8 p, .int .u8 t] 66)) (cells8 id) ((cells8 id).toArray) 34 rfl
 simp only [World.size_alloc] at hI
 have hb00 : Below w.heap.size w ((w.alloc (.cells #[.int .u8 k, .int .u8 f, .int .u8 b, .int .u8 l, .int .u8 m, .int .u8 c, .int .u8 p, .int .u8 t] 66)).alloc (.cells (cells8 id).toArray 34)) := by repeat (first | exact bA | with_reducible assumption | apply bB)
 have hszn : w.heap.size + 2 ≤ ((w.alloc (.cells #[.int .u8 k, .int .u8 f, .int .u8 b, .int .u8 l, .int .u8 m, .int .u8 c, .int .u8 p, .int .u8 t] 66)).alloc (.cells (cells8 id).toArray 34)).heap.size := by simp only [World.size_alloc]; omega
 generalize ((w.alloc (.cells #[.int .u8 k, .int .u8 f, .int .u8 b, .int .u8 l, .int .u8 m, .int .u8 c, .int .u8 p, .int .u8 t] 66)).alloc (.cells (cells8 id).toArray 34)) = w1 at hs hI hb00 hszn ⊢
 obtain ⟨⟨s0, s1, s2, s3, s4, s5, s6, s7⟩, ⟨s8, s9, s10, s11, s12, s13, s14, s15⟩, s16⟩ := hs.get8
 go_upto_region 3 with (first
  | (go_at_call 19; refine (HAW.out _).mono ?_; rintro e w2 ⟨rfl, hb2⟩; replace hb00 := bl_call hb00 (Nat.le_refl _) hb2; replace hs := hs.call hb2; replace hI := hI.call hb2; clear s0 s1 s2 s3 s4 s5 s6 s7 s8 s9 s10 s11 s12 s13 s14 s15 s16; clear hb2; obtain ⟨⟨s0, s1, s2, s3, s4, s5, s6, s7⟩, ⟨s8, s9, s10, s11, s12, s13, s14, s15⟩, s16⟩ := hs.get8))
 go_upto_region 4 with (first
  | (go_at_call 21; refine (HTSK.out _).mono ?_; rintro e w3 ⟨rfl, hb3⟩; replace hb00 := bl_call hb00 (Nat.le_refl _) hb3; replace hs := hs.call hb3; replace hI := hI.call hb3; clear s0 s1 s2 s3 s4 s5 s6 s7 s8 s9 s10 s11 s12 s13 s14 s15 s16; clear hb3; obtain ⟨⟨s0, s1, s2, s3, s4, s5, s6, s7⟩, ⟨s8, s9, s10, s11, s12, s13, s14, s15⟩, s16⟩ := hs.get8))
 clear s0 s1 s2 s3 s4 s5 s6 s7 s8 s9 s10 s11 s12 s13 s14 s15 s16
 clear hs HTSK HAW
 have hT := Vs.new w3 [.int .u8 yk, .int .u8 (F : Int), .int .i64 yb, .int .i64 yl, .int .i64 ym, .int .i64 yc, .int .i64 pq, .string s] #[.int .u8 yk, .int .u8 (F : Int), .int .i64 yb, .int .i64 yl, .int .i64 ym, .int .i64 yc, .int .i64 pq, .string s] 62 rfl
 have hbA : Below w3.heap.size w3 (w3.alloc (.cells #[.int .u8 yk, .int .u8 (F : Int), .int .i64 yb, .int .i64 yl, .int .i64 ym, .int .i64 yc, .int .i64 pq, .string s] 62)) := by repeat (first | exact bA | with_reducible assumption | apply bB)
 replace hb00 := bl_call hb00 (Nat.le_refl _) hbA
 replace hI := hI.call hbA
 clear hbA
 generalize w3.alloc (.cells #[.int .u8 yk, .int .u8 (F : Int), .int .i64 yb, .int .i64 yl, .int .i64 ym, .int .i64 yc, .int .i64 pq, .string s] 62) = w4 at hb00 hI hT ⊢
 obtain ⟨tb, htbe⟩ : ∃ z, w3.heap.size = z := ⟨_, rfl⟩
 rw [htbe] at hT
 simp only [htbe]
 clear htbe
 obtain ⟨⟨T0, T1, T2, T3, T4, T5, T6, T7⟩, ⟨T8, T9, T10, T11, T12, T13, T14, T15⟩, T16⟩ := hT.get8
 have HNW4 := Lib.hid (HNW.out w4)
 have hTl := hT.lt
 have hIl := hI.lt
 go_upto_region 5 with (go_at_call 20; refine HNW4.out.mono ?_; rintro e w5 ⟨cb, rfl, hK5, hb5⟩)
 clear T0 T1 T2 T3 T4 T5 T6 T7 T8 T9 T10 T11 T12 T13 T14 T15 T16
 have hbB := hb00.size
 obtain ⟨B, hB⟩ : ∃ z, w4.heap.size = z := ⟨_, rfl⟩
 have hT5 := hT.call hb5
 have hI5 := hI.call hb5
 have hb005 := bl_call hb00 (Nat.le_refl _) hb5
 rw [hB] at hK5 hTl hIl hbB
 clear HNW4 HNW hT hI hb00 hb5 hB
 have HW : Hid (Calls Try.prog 22 #[.pointer (some ⟨cb, 0, none⟩), .int .u64 7] w5 fun e w' => e = .returned (.int .i64 0) ∧ Below B w5 w' ∧ ColK w' B cb tk 1 [7]) := by
  have h := collect_Want tk HTL.out 1 [] cb B 7 ⟨by omega, by omega⟩ (by simp) w5 hK5
  rw [want_7.1, want_7.2] at h
  exact h
 go_upto_region 6 with (go_at_call 22; refine HW.out.mono ?_; rintro e w6 ⟨rfl, hb6, hK6⟩)
 have hT6 := hT5.belowB hb6 hTl
 have hI6 := hI5.belowB hb6 hIl
 have hb006 := hb005.trans (hb6.mono hbB)
 have hK6l := hK6.lb
 have HTI : Hid (Calls Try.prog 44 #[.pointer (some ⟨cb, 0, none⟩), .int .u64 0] w6 fun e w' => ∃ (g a9 : Nat) (O : Nat → Prop), e = .returned (.slice (some ⟨g, 0, none⟩) 1 1) ∧ AskS w' O cb a9 tk 2 [] [] 1 7 false (.slice none 0 0) 0 z16 1 2 ∧ ColR w6 w' (fun q => B ≤ q ∧ q < w6.heap.size) O) := by
  have h := collect_Tick1 tk HTL.out _ cb 1 7 [] [] 0 (by omega) (by omega) (by simp) w6 hK6.toS
  rw [show (1 : Int) + 1 = 2 from rfl, show (0 : Int) + 1 = 1 from rfl] at h
  exact h.mono fun e w' ⟨g, a9, O, he, _, _, hA, hR⟩ => ⟨g, a9, O, he, hA, hR⟩
 clear HW hK5 hT5 hI5 hb005 hb6 hK6
 go_upto_region 7 with (go_at_call 44; refine HTI.out.mono ?_; rintro e w7 ⟨g0, a9, O, rfl, hA7, hcr⟩)
 have hOB : ∀ q, O q → B ≤ q := fun q hq => by
  rcases hcr.1 q hq with h | h
  ·exact h.1
  ·omega
 have hb67 : Below B w6 w7 := (hcr.2.mono hK6l).below fun q hq e => by
  have := e.1
  omega
 have hT7 := hT6.belowB hb67 hTl
 have hI7 := hI6.belowB hb67 hIl
 have hb007 := hb006.trans (hb67.mono hbB)
 have HOB := Lib.hid hOB
 clear HTI hcr hT6 hI6 hb006 hb67 hK6l
 have hsl7 := hA7.col.lt
 obtain ⟨S0, hS0⟩ : ∃ z, w7.heap.size = z := ⟨_, rfl⟩
 have hT7l := hT7.lt
 have hBS : B ≤ S0 := by
  have := hOB a9 hA7.o.1
  have := hsl7 a9 hA7.o.1
  omega
 obtain ⟨⟨z0, z1, z2, z3, z4, z5, z6, z7⟩, ⟨y0, y1, y2, y3, y4, y5, y6, y7⟩, y8⟩ := hT7.get8
 refine wp_region_lit ?_
 refine wpList_valD (some 39) rfl rfl (by (go_simp; first | with_reducible rfl | exact ⟨rfl, rfl⟩ | (trace_state; fail))) ?_
 simp only [Zp, Zq, Zr, Zs]
 refine wpList_valD (some 40) rfl rfl (by (go_simp; first | with_reducible rfl | exact ⟨rfl, rfl⟩ | (trace_state; fail))) ?_
 simp only [Zp, Zq, Zr, Zs]
 refine wpList_valD (some 41) rfl rfl (by (go_simp; first | with_reducible rfl | exact ⟨rfl, rfl⟩ | (trace_state; fail))) ?_
 simp only [Zp, Zq, Zr, Zs]
 refine wpList_valD (some 42) rfl rfl (by (go_simp; first | with_reducible rfl | exact ⟨rfl, rfl⟩ | (trace_state; fail))) ?_
 simp only [Zp, Zq, Zr, Zs]
 refine wpList_callD (some 43) rfl rfl 45 _ ?_ (HTOT.out _) ?_
 ·go_simp; try (with_reducible rfl)
 rintro e w8 ⟨⟨ga, gb⟩, rfl, hGA, hGB, hga, hgb, hb8⟩
 refine ⟨_, rfl, ?_⟩
 simp only [Zp, Zq, Zr, Zs]
 clear z0 z1 z2 z3 z4 z5 z6 z7 y0 y1 y2 y3 y4 y5 y6 y7 y8
 refine wpList_valD (some 38) rfl rfl (by (go_simp; first | with_reducible rfl | exact ⟨rfl, rfl⟩ | (trace_state; fail))) ?_
 simp only [Zp, Zq, Zr, Zs]
 refine wpList_valD (some 44) rfl rfl (by (go_simp; first | with_reducible rfl | exact ⟨rfl, rfl⟩ | (trace_state; fail))) ?_
 simp only [Zp, Zq, Zr, Zs]
 refine wpList_valD (some 45) rfl rfl (by (go_simp; first | with_reducible rfl | exact ⟨rfl, rfl⟩ | (trace_state; fail))) ?_
 simp only [Zp, Zq, Zr, Zs]
 refine wpList_valD (some 16) rfl rfl (by (skip; go_simp; first | with_reducible rfl | exact ⟨rfl, rfl⟩ | (trace_state; fail))) ?_
 simp only [Zp, Zq, Zr, Zs]
 have hX0 := Vs.new w8 (totL (.slice none 0 0) 0 z16) #[.slice none 0 0, .int .i64 0, .int .u8 0, .int .u8 0, .int .u8 0, .int .u8 0, .int .u8 0, .int .u8 0, .int .u8 0, .int .u8 0, .int .u8 0, .int .u8 0, .int .u8 0, .int .u8 0, .int .u8 0, .int .u8 0, .int .u8 0, .int .u8 0] 76 rfl
 have hbA := (Below.refl w8.heap.size w8).alloc (Nat.le_refl _) (.cells #[.slice none 0 0, .int .i64 0, .int .u8 0, .int .u8 0, .int .u8 0, .int .u8 0, .int .u8 0, .int .u8 0, .int .u8 0, .int .u8 0, .int .u8 0, .int .u8 0, .int .u8 0, .int .u8 0, .int .u8 0, .int .u8 0, .int .u8 0, .int .u8 0] 76)
 obtain ⟨xa, hxa⟩ : ∃ z, w8.heap.size = z := ⟨_, rfl⟩
 rw [hxa] at hX0
 simp only [hxa]
 have HXA := Lib.hid hxa
 generalize w8.alloc (.cells #[.slice none 0 0, .int .i64 0, .int .u8 0, .int .u8 0, .int .u8 0, .int .u8 0, .int .u8 0, .int .u8 0, .int .u8 0, .int .u8 0, .int .u8 0, .int .u8 0, .int .u8 0, .int .u8 0, .int .u8 0, .int .u8 0, .int .u8 0, .int .u8 0] 76) = w9 at hX0 hbA ⊢
 clear hxa
 refine wpList_valD (some 17) rfl rfl (by (skip; go_simp; first | with_reducible rfl | exact ⟨rfl, rfl⟩ | (trace_state; fail))) ?_
 simp only [Zp, Zq, Zr, Zs]
 have hY0 := Vs.new w9 (totL (.slice none 0 0) 0 z16) #[.slice none 0 0, .int .i64 0, .int .u8 0, .int .u8 0, .int .u8 0, .int .u8 0, .int .u8 0, .int .u8 0, .int .u8 0, .int .u8 0, .int .u8 0, .int .u8 0, .int .u8 0, .int .u8 0, .int .u8 0, .int .u8 0, .int .u8 0, .int .u8 0] 76 rfl
 have hbBB := (Below.refl w9.heap.size w9).alloc (Nat.le_refl _) (.cells #[.slice none 0 0, .int .i64 0, .int .u8 0, .int .u8 0, .int .u8 0, .int .u8 0, .int .u8 0, .int .u8 0, .int .u8 0, .int .u8 0, .int .u8 0, .int .u8 0, .int .u8 0, .int .u8 0, .int .u8 0, .int .u8 0, .int .u8 0, .int .u8 0] 76)
 have hxab := hX0.lt
 obtain ⟨xb, hxb⟩ : ∃ z, w9.heap.size = z := ⟨_, rfl⟩
 rw [hxb] at hY0 hxab
 simp only [hxb]
 have HXB := Lib.hid hxb
 generalize w9.alloc (.cells #[.slice none 0 0, .int .i64 0, .int .u8 0, .int .u8 0, .int .u8 0, .int .u8 0, .int .u8 0, .int .u8 0, .int .u8 0, .int .u8 0, .int .u8 0, .int .u8 0, .int .u8 0, .int .u8 0, .int .u8 0, .int .u8 0, .int .u8 0, .int .u8 0] 76) = w10 at hY0 hbBB ⊢
 clear hxb
 have hX1 := hX0.call hbBB
 have hst := hX1.storeT (k := KA) (v := .slice (some ⟨ga, 0, none⟩) n n) (m := (q : Int)) z16_length HKA.out rfl
 have hY1 := hY0.farW (b' := xa) (by omega) 0 (totL (.slice (some ⟨ga, 0, none⟩) n n) (q : Int) KA)
 have hst2 := hY1.storeT (k := KA) (v := .slice (some ⟨gb, 0, none⟩) n n) (m := (q : Int)) z16_length HKA.out rfl
 refine wpList_skipD rfl rfl (exec_store rfl (by kernel_rfl) (by kernel_rfl) hst) ?_
 refine wpList_skipD rfl rfl (exec_store rfl (by kernel_rfl) (by kernel_rfl) hst2) ?_
 have hXAS : S0 ≤ xa := by
  have h1 := HXA.out
  have h2 := hb8.size
  omega
 have hGA10 := (hGA.call hbA).call hbBB
 have hGB10 := (hGB.call hbA).call hbBB
 have n1 := blk_vs (k := z16) (A := none) (n := 0) (c := 0) (m := 0) hGA10 hX1
 have n2 := blk_vs (k := z16) (A := none) (n := 0) (c := 0) (m := 0) hGA10 hY0
 have n3 := blk_vs (k := z16) (A := none) (n := 0) (c := 0) (m := 0) hGB10 hX1
 have n4 := blk_vs (k := z16) (A := none) (n := 0) (c := 0) (m := 0) hGB10 hY0
 have hX := (hX1.setT (k := KA) (v := .slice (some ⟨ga, 0, none⟩) n n) (m := (q : Int)) z16_length HKA.out).farW (b' := xb) (by omega) 0 (totL (.slice (some ⟨gb, 0, none⟩) n n) (q : Int) KA)
 have hY := hY1.setT (k := KA) (v := .slice (some ⟨gb, 0, none⟩) n n) (m := (q : Int)) z16_length HKA.out
 have hGA12 := (hGA10.farC n1.symm 0 (totL (.slice (some ⟨ga, 0, none⟩) n n) (q : Int) KA)).farC n2.symm 0 (totL (.slice (some ⟨gb, 0, none⟩) n n) (q : Int) KA)
 have hGB12 := (hGB10.farC n3.symm 0 (totL (.slice (some ⟨ga, 0, none⟩) n n) (q : Int) KA)).farC n4.symm 0 (totL (.slice (some ⟨gb, 0, none⟩) n n) (q : Int) KA)
 have hbq := bl_setCells (bl_setCells (bl_call (bl_call hb8 (Nat.le_refl _) hbA) (Nat.le_refl _) hbBB) (b := xa) (by omega) 0 (totL (.slice (some ⟨ga, 0, none⟩) n n) (q : Int) KA)) (b := xb) (by omega) 0 (totL (.slice (some ⟨gb, 0, none⟩) n n) (q : Int) KA)
 have HS7 := Lib.hid (And.intro hA7 (And.intro hT7 (And.intro hb007 hS0)))
 rw [hS0] at hsl7 hT7l hga hgb
 clear hst hst2 hX0 hX1 hY0 hY1 hGA hGB hbA hbBB hb8 n1 n2 n3 n4 hGA10 hGB10 HXA HXB hS0 HTOT
 generalize (w10.setCells xa 0 (totL (.slice (some ⟨ga, 0, none⟩) n n) (q : Int) KA)).setCells xb 0 (totL (.slice (some ⟨gb, 0, none⟩) n n) (q : Int) KA) = w12 at hX hY hGA12 hGB12 hbq ⊢
 have hA := hA7.call hbq
 have hT := hT7.call hbq
 have hI := hI7.call hbq
 have hb00 := bl_call hb007 (Nat.le_refl _) hbq
 have HOL := Lib.hid hsl7
 have HBQ := Lib.hid hbq
 clear hA7 hT7 hI7 hb007 hbq hsl7 hT7l
 obtain ⟨⟨r00, r01⟩, r10, r11⟩ := HOE.out.2.2
 obtain ⟨hq0, hq16, hz, hz1⟩ := HQE.out
 have hq1 : (q0 : Int) < 16 := by omega
 have hqt : o0.tmod 16 = (q0 : Int) := by rw [Int.tmod_eq_emod_of_nonneg r00]; exact hq0
 have hzw : IntKind.u8.wrap (1 + o1 % 255) = z := by rw [hz, u8_wrap]; omega
 have hzt : IntKind.u8.wrap (1 + o1.tmod 255) = z := by rw [Int.tmod_eq_emod_of_nonneg r10]; exact hzw
 have HQ16 := Lib.hid hq16
 clear hz1 hz
 obtain ⟨c0, _, c2⟩ := hI.at16 (i := 0) (by rw [HID.out.1]; omega)
 obtain ⟨c1, _, _⟩ := hI.at16 (i := 1) (by rw [HID.out.1]; omega)
 rw [HOE.out.1] at c0
 rw [HOE.out.2.1] at c1
 obtain ⟨kc, _⟩ := hY.totK (i := q0) (by rw [HKA.out]; exact hq16)
 rw [HKE.out.1] at kc
 have hdl := hY.lt
 have HX9 : ∀ a b : Int, bits BinOp.xor IntKind.u8 a b = X8 a b := fun _ _ => rfl
 go_upto_region 9 with fail
 refine region_B (n := 13) (m := 14) (f := 13) (by kernel_rfl) (by kernel_rfl) rfl ?_
 refine WpH.vD 0 (some 47) ?_ rfl rfl (by kernel_rfl) (fun _ _ _ h => h) rfl (fun wz hwz => ?_) ?_
 rotate_left
 ·go_simp; try (with_reducible rfl)
 simp only [Zp, Zq, Zr, Zs]
 refine WpH.vD 1 (some 48) ?_ rfl rfl (by kernel_rfl) (fun _ _ _ h => h) rfl (fun wz hwz => ?_) ?_
 rotate_left
 ·(obtain ⟨hcz, hfz⟩ := bcell hwz; go_simp; try (with_reducible rfl))
 simp only [Zp, Zq, Zr, Zs]
 refine WpH.vD 2 (some 49) ?_ rfl rfl (by kernel_rfl) (fun _ _ _ h => h) rfl (fun wz hwz => ?_) ?_
 rotate_left
 ·go_simp; try (with_reducible rfl)
 simp only [Zp, Zq, Zr, Zs]
 refine WpH.vD 3 (some 50) ?_ rfl rfl (by kernel_rfl) (fun _ _ _ h => h) rfl (fun wz hwz => ?_) ?_
 rotate_left
 ·go_simp; try (with_reducible rfl)
 simp only [Zp, Zq, Zr, Zs]
 refine WpH.vD 4 (some 51) ?_ rfl rfl (by kernel_rfl) (fun _ _ _ h => h) rfl (fun wz hwz => ?_) ?_
 rotate_left
 ·go_simp; try (with_reducible rfl)
 simp only [Zp, Zq, Zr, Zs]
 refine WpH.vD 5 (some 52) ?_ rfl rfl (by kernel_rfl) (fun _ _ _ h => h) rfl (fun wz hwz => ?_) ?_
 rotate_left
 ·(obtain ⟨hcz, hfz⟩ := bcell hwz; go_simp; try (with_reducible rfl))
 simp only [Zp, Zq, Zr, Zs]
 refine WpH.vD 6 (some 53) ?_ rfl rfl (by kernel_rfl) (fun _ _ _ h => h) rfl (fun wz hwz => ?_) ?_
 rotate_left
 ·go_simp; try (with_reducible rfl)
 simp only [Zp, Zq, Zr, Zs]
 refine WpH.vD 7 (some 54) ?_ rfl rfl (by kernel_rfl) (fun _ _ _ h => h) rfl (fun wz hwz => ?_) ?_
 rotate_left
 ·(obtain ⟨hcz, hfz⟩ := bcell hwz; go_simp; try (with_reducible rfl))
 simp only [Zp, Zq, Zr, Zs]
 refine WpH.vD 8 (some 55) ?_ rfl rfl (by kernel_rfl) (fun _ _ _ h => h) rfl (fun wz hwz => ?_) ?_
 rotate_left
 ·go_simp; try (with_reducible rfl)
 simp only [Zp, Zq, Zr, Zs]
 refine WpH.vD 9 (some 56) ?_ rfl rfl (by kernel_rfl) (fun _ _ _ h => h) rfl (fun wz hwz => ?_) ?_
 rotate_left
 ·go_simp; try (with_reducible rfl)
 simp only [Zp, Zq, Zr, Zs]
 refine WpH.vD 10 (some 57) ?_ rfl rfl (by kernel_rfl) (fun _ _ _ h => h) rfl (fun wz hwz => ?_) ?_
 rotate_left
 ·go_simp; try (with_reducible rfl)
 simp only [Zp, Zq, Zr, Zs]
 refine WpH.vD 11 (some 58) ?_ rfl rfl (by kernel_rfl) (fun _ _ _ h => h) rfl (fun wz hwz => ?_) ?_
 rotate_left
 ·go_simp; try (with_reducible rfl)
 simp only [Zp, Zq, Zr, Zs]
 refine WpH.vD 12 (some 59) ?_ rfl rfl (by kernel_rfl) (fun _ _ _ h => h) rfl (fun wz hwz => ?_) ?_
 rotate_left
 ·go_simp; try (with_reducible rfl)
 simp only [Zp, Zq, Zr, Zs]
 refine WpH.doneB (by kernel_rfl) (fun w125 hw125 => ?_)
 (try simp only [List.drop_succ_cons]); (try simp only [List.drop_zero]); (try simp only [Nat.reduceSub]); (try simp only [List.take_succ_cons]); (try simp only [List.take_zero])
 have hY2 := hY.call hw125
 clear c0 c1 c2 kc hdl
 obtain ⟨kc, kf⟩ := hY2.totK (i := q0) (by rw [HKA.out]; exact HQ16.out)
 have hdl := hY2.lt
 go_upto_region 10 with fail
 have hY3 := hY2.totPutK (i := q0) (by rw [HKA.out]; exact HQ16.out) (X8 kq z)
 rw [HKE.out.2] at hY3
 have n5 := blk_vs hGA12 hY
 have n6 := blk_vs hGB12 hY
 have hx3 := exc_sc (S := fun q => q = xb) (exc_of hw125) (.inl rfl) (2 + q0) (.int .u8 (X8 kq z))
 have hX3 := hX.exc (S := fun q => q = xb) (by omega) hx3
 have hGA3 := hGA12.exc (S := fun q => q = xb) n5 hx3
 have hGB3 := hGB12.exc (S := fun q => q = xb) n6 hx3
 have hbq3 := bl_set (p := ⟨xb, 2 + q0, none⟩) (bl_call HBQ.out (Nat.le_refl _) hw125) (by rw [HS7.out.2.2.2]; dsimp only; omega) (.int .u8 (X8 kq z))
 have hA3 := HS7.out.1.call hbq3
 have hT3 := HS7.out.2.1.call hbq3
 have hb3 := bl_call HS7.out.2.2.1 (Nat.le_refl _) hbq3
 have hI3 : True := trivial
 clear kc kf hdl hY2 hX hY hGA12 hGB12 hA hT hb00 hI n5 n6 hx3 hbq3 HBQ hq0 hq16 hq1 hqt hzw hzt hw125 r00 r01 r10 r11 HX9
 generalize w125.setCell ⟨xb, 2 + q0, none⟩ (.int .u8 (X8 kq z)) = w12 at hY3 hX3 hGA3 hGB3 hA3 hT3 hb3 ⊢
 have hY := hY3
 have hX := hX3
 have hGA12 := hGA3
 have hGB12 := hGB3
 have hA := hA3
 have hT := hT3
 have hb00 := hb3
 have hI := hI3
 clear hY3 hX3 hGA3 hGB3 hA3 hT3 hb3 hI3
 have HBQ := True.intro
 have hxa9 : ¬ xa = a9 := by
  have := HOL.out a9 hA.o.1
  omega
 have hta9 : ¬ tb = a9 := by
  have := HOB.out a9 hA.o.1
  omega
 have HT12 := Lib.hid hT
 have HX12 := Lib.hid hX
 have HGA12 := Lib.hid hGA12
 have HA12 := Lib.hid hA
 apply region_Z3 (n := 16) (m := 17) (f := 16) (fun x0 x1 x2 => (RcK w12 (fun q => q = a9) BA L (RaR w12 O cb a9 tk n q KA (esK SA))) (some x0) (some x1) (some x2) ) ((RcT w12 (fun q => q = a9)) none none none) ((RcK w12 (fun q => q = a9) BA L (RaR w12 O cb a9 tk n q KA (esK SA))) none none none) ((RcK.weak _ _ _)) ((RcK.clo RaR.call)) (RcK.start)
 case hm => kernel_rfl
 case hB => kernel_rfl
 case hf => rfl
 case' h =>
  refine WpX.vD 0 (some 61) ?_ rfl rfl (by kernel_rfl) (fun _ _ _ h => h) rfl (fun wz hwz => ?_) ?_
  rotate_left
  ·go_simp; try (with_reducible rfl)
  simp only [Zp, Zq, Zr, Zs]
  refine WpX.vD 1 (some 62) ?_ rfl rfl (by kernel_rfl) (fun _ _ _ h => h) rfl (fun wz hwz => ?_) ?_
  rotate_left
  ·go_simp; try (with_reducible rfl)
  simp only [Zp, Zq, Zr, Zs]
  refine WpX.vD 2 (some 63) ?_ rfl rfl (by kernel_rfl) (fun _ _ _ h => h) rfl (fun wz hwz => ?_) ?_
  rotate_left
  ·(obtain ⟨x0, x1, x2, x3, x4⟩ := (HX12.out.exc (S := fun q => q = a9) hxa9 hwz).tot; go_simp; try (with_reducible rfl))
  simp only [Zp, Zq, Zr, Zs]
  refine WpX.vD 3 (some 64) ?_ rfl rfl (by kernel_rfl) (fun _ _ _ h => h) rfl (fun wz hwz => ?_) ?_
  rotate_left
  ·go_simp; try (with_reducible rfl)
  simp only [Zp, Zq, Zr, Zs]
  refine WpX.vD 4 (some 65) ?_ rfl rfl (by kernel_rfl) (fun _ _ _ h => h) rfl (fun wz hwz => ?_) ?_
  rotate_left
  ·(refine Eq.trans (exec_load rfl (by kernel_rfl) ((HX12.out.exc (S := fun q => q = a9) hxa9 hwz).loadTC HKA.out)) ?_; with_reducible rfl)
  simp only [Zp, Zq, Zr, Zs]
  refine WpX.vD 5 (some 66) ?_ rfl rfl (by kernel_rfl) (fun _ _ _ h => h) rfl (fun wz hwz => ?_) ?_
  rotate_left
  ·(refine Eq.trans (exec_load rfl (by kernel_rfl) ((HX12.out.exc (S := fun q => q = a9) hxa9 hwz).loadT HKA.out)) ?_; with_reducible rfl)
  simp only [Zp, Zq, Zr, Zs]
  refine WpX.vD 6 (some 67) ?_ rfl rfl (by kernel_rfl) (fun _ _ _ h => h) rfl (fun wz hwz => ?_) ?_
  rotate_left
  ·(have hz := (HT12.out.exc (S := fun q => q = a9) hta9 hwz).get8; obtain ⟨⟨z0, z1, z2, z3, z4, z5, z6, z7⟩, ⟨y0, y1, y2, y3, y4, y5, y6, y7⟩, y8⟩ := hz; go_simp; try (with_reducible rfl))
  simp only [Zp, Zq, Zr, Zs]
  refine WpX.oneD 7 (some 68) rfl rfl (by kernel_rfl) (fun pt : Option Addr × Nat => Value.slice pt.1 L pt.2) (fun pt => (RcT w12 (fun q => q = a9)) (some pt) none none) (fun pt => (RcK w12 (fun q => q = a9) BA L (RaR w12 O cb a9 tk n q KA (esK SA))) (some pt) none none) (Turns.call rfl (fun _ _ h => h) (fun _ => (RcK.weak _ _ _)) (fun _ => (RcK.clo RaR.call)) (fun wz hS => (HPUA.out ga wz (HGA12.out.call (hS.u rfl))).mono fun e w' ⟨A, c, he, ho, hb⟩ => ⟨(A, c), he, hS.mk1 ho HBA.out hb⟩) (fun wz hS => by go_simp; try (with_reducible rfl))) (fun pt => ?_)
  simp only [Zp, Zq, Zr, Zs]
  refine WpX.vD 8 (some 69) ?_ rfl rfl (by kernel_rfl) (fun _ _ _ h => h) rfl (fun wz hwz => ?_) ?_
  rotate_left
  ·(refine Eq.trans (exec_build rfl (by kernel_rfl) (build_entS pt.1 L pt.2 wz)) ?_; with_reducible rfl)
  simp only [Zp, Zq, Zr, Zs]
  refine WpX.oneD 9 (some 70) rfl rfl (by kernel_rfl) (fun eb : Nat => Value.slice (some ⟨eb, 0, none⟩) 1 1) (fun eb => (RcT w12 (fun q => q = a9)) (some pt) (some eb) none) (fun eb => (RcK w12 (fun q => q = a9) BA L (RaR w12 O cb a9 tk n q KA (esK SA))) (some pt) (some eb) none) (Turns.val rfl (fun _ _ h => h) (fun _ => (RcK.weak _ _ _)) (fun _ => (RcK.clo RaR.call)) (fun wz hS => ⟨wz.heap.size, wz.alloc (.cells (entL z16 0 (.slice none 0 0) (.slice pt.1 L pt.2) 0).toArray 44), exec_buildSlice rfl (by kernel_rfl) (build_entsS pt.1 L pt.2 wz), hS.mk2⟩)) (fun eb => ?_)
  simp only [Zp, Zq, Zr, Zs]
  refine WpX.vD 10 (some 71) ?_ rfl rfl (by kernel_rfl) (fun _ _ _ h => h) rfl (fun wz hwz => ?_) ?_
  rotate_left
  ·(refine Eq.trans (exec_build rfl (by kernel_rfl) (build_msg6 HKA.out (q : Int) eb wz)) ?_; with_reducible rfl)
  simp only [Zp, Zq, Zr, Zs]
  refine WpX.oneD 11 (some 72) rfl rfl (by kernel_rfl) (fun r : Nat × Option Addr × Nat => Value.tuple #[.slice (some ⟨r.1, 0, none⟩) 1 1, .int .i64 0]) (fun ra => (RcT w12 (fun q => q = a9)) (some pt) (some eb) (some ra)) (fun ra => (RcK w12 (fun q => q = a9) BA L (RaR w12 O cb a9 tk n q KA (esK SA))) (some pt) (some eb) (some ra)) (Turns.call rfl (fun _ _ h => h) (fun _ => (RcK.weak _ _ _)) (fun _ => (RcK.clo RaR.call)) (fun wz hS => (HRA.out O cb a9 pt.1 pt.2 eb wz (hS.a pt rfl rfl) (hS.b eb pt rfl rfl rfl) (HA12.out.call (hS.u rfl))).mono fun e w' ⟨r, he, hr, hx⟩ => ⟨r, he, hS.mk3 hx ⟨hr.1, own_lower hr.2 (hS.u rfl).size⟩⟩) (fun wz hS => by go_simp; try (with_reducible rfl))) (fun ra => ?_)
  simp only [Zp, Zq, Zr, Zs]
  refine WpX.vD 12 (some 60) ?_ rfl rfl (by kernel_rfl) (fun _ _ _ h => h) rfl (fun wz hwz => ?_) ?_
  rotate_left
  ·go_simp; try (with_reducible rfl)
  simp only [Zp, Zq, Zr, Zs]
  refine WpX.vD 13 (some 73) ?_ rfl rfl (by kernel_rfl) (fun _ _ _ h => h) rfl (fun wz hwz => ?_) ?_
  rotate_left
  ·go_simp; try (with_reducible rfl)
  simp only [Zp, Zq, Zr, Zs]
  refine WpX.vD 14 (some 74) ?_ rfl rfl (by kernel_rfl) (fun _ _ _ h => h) rfl (fun wz hwz => ?_) ?_
  rotate_left
  ·go_simp; try (with_reducible rfl)
  simp only [Zp, Zq, Zr, Zs]
  refine WpX.vD 15 (some 18) ?_ rfl rfl (by kernel_rfl) (fun _ _ _ h => h) rfl (fun wz hwz => ?_) ?_
  rotate_left
  ·go_simp; try (with_reducible rfl)
  simp only [Zp, Zq, Zr, Zs]
  refine WpX.done (by kernel_rfl) (fun w13 hS => ⟨pt, eb, ra, rfl, ?_⟩)
  ·exact hS
 intro pt eb ra w13 hS
 (try simp only [List.drop_succ_cons]); (try simp only [List.drop_zero]); (try simp only [Nat.reduceSub]); (try simp only [List.take_succ_cons]); (try simp only [List.take_zero])
 obtain ⟨hA13, hO13⟩ := hS.c ra rfl
 have hx13 : Exc (fun q => q = a9) w12.heap.size w12 w13 := hS.t
 have ha9S := HOL.out a9 hA.o.1
 have ha9B := HOB.out a9 hA.o.1
 have hxbS : S0 < xb := by omega
 have hT13 := hT.exc (S := fun q => q = a9) hta9 hx13
 have hY13 := hY.exc (S := fun q => q = a9) (fun e => by
  have e2 : xb = a9 := e
  omega) hx13
 have hGB13 := hGB12.exc (S := fun q => q = a9) (fun e => by
  have e2 : gb = a9 := e
  have e3 : S0 ≤ gb := hgb
  omega) hx13
 have hb013 := hb00.trans (exc_own (hx13.mono hb00.size) (by omega))
 have HT13 := Lib.hid hT13
 have HY13 := Lib.hid hY13
 have HG13 := Lib.hid hGB13
 have HA13 := Lib.hid hA13
 have HO13 := Lib.hid hO13
 have HB13 := Lib.hid hb013
 have HTB : Hid (¬ O tb) := Lib.hid fun e => by
  have := HOB.out tb e
  omega
 have HXB : Hid (¬ O xb) := Lib.hid fun e => by
  have := HOL.out xb e
  omega
 have HBW : Hid (w.heap.size ≤ B) := hbB
 clear HS7 HBQ hS hx13 hT13 hY13 hGB13 hA13 hO13 hb013 hb00 hT hY hX hI hA hGB12 hGA12 HT12 HX12 HGA12 HA12 HPUA HRA ha9S ha9B hxbS hxa9 hta9 hTl hIl hbB
 go_upto_region 11 with fail
 apply region_Z3 (n := 16) (m := 17) (f := 16) (fun x0 x1 x2 => (RcK w13 O BB L (RbR w13 O cb tk RS)) (some x0) (some x1) (some x2) ) ((RcT w13 O) none none none) ((RcK w13 O BB L (RbR w13 O cb tk RS)) none none none) ((RcK.weak _ _ _)) ((RcK.clo RbR.call)) (RcK.start)
 case hm => kernel_rfl
 case hB => kernel_rfl
 case hf => rfl
 case' h =>
  refine WpX.vD 0 (some 76) ?_ rfl rfl (by kernel_rfl) (fun _ _ _ h => h) rfl (fun wz hwz => ?_) ?_
  rotate_left
  ·go_simp; try (with_reducible rfl)
  simp only [Zp, Zq, Zr, Zs]
  refine WpX.vD 1 (some 77) ?_ rfl rfl (by kernel_rfl) (fun _ _ _ h => h) rfl (fun wz hwz => ?_) ?_
  rotate_left
  ·go_simp; try (with_reducible rfl)
  simp only [Zp, Zq, Zr, Zs]
  refine WpX.vD 2 (some 78) ?_ rfl rfl (by kernel_rfl) (fun _ _ _ h => h) rfl (fun wz hwz => ?_) ?_
  rotate_left
  ·(obtain ⟨x0, x1, x2, x3, x4⟩ := (HY13.out.exc (S := O) HXB.out hwz).tot; go_simp; try (with_reducible rfl))
  simp only [Zp, Zq, Zr, Zs]
  refine WpX.vD 3 (some 79) ?_ rfl rfl (by kernel_rfl) (fun _ _ _ h => h) rfl (fun wz hwz => ?_) ?_
  rotate_left
  ·go_simp; try (with_reducible rfl)
  simp only [Zp, Zq, Zr, Zs]
  refine WpX.vD 4 (some 80) ?_ rfl rfl (by kernel_rfl) (fun _ _ _ h => h) rfl (fun wz hwz => ?_) ?_
  rotate_left
  ·(refine Eq.trans (exec_load rfl (by kernel_rfl) ((HY13.out.exc (S := O) HXB.out hwz).loadTC HKB.out)) ?_; with_reducible rfl)
  simp only [Zp, Zq, Zr, Zs]
  refine WpX.vD 5 (some 81) ?_ rfl rfl (by kernel_rfl) (fun _ _ _ h => h) rfl (fun wz hwz => ?_) ?_
  rotate_left
  ·(refine Eq.trans (exec_load rfl (by kernel_rfl) ((HY13.out.exc (S := O) HXB.out hwz).loadT HKB.out)) ?_; with_reducible rfl)
  simp only [Zp, Zq, Zr, Zs]
  refine WpX.vD 6 (some 82) ?_ rfl rfl (by kernel_rfl) (fun _ _ _ h => h) rfl (fun wz hwz => ?_) ?_
  rotate_left
  ·(have hz := (HT13.out.exc (S := O) HTB.out hwz).get8; obtain ⟨⟨z0, z1, z2, z3, z4, z5, z6, z7⟩, ⟨y0, y1, y2, y3, y4, y5, y6, y7⟩, y8⟩ := hz; go_simp; try (with_reducible rfl))
  simp only [Zp, Zq, Zr, Zs]
  refine WpX.oneD 7 (some 83) rfl rfl (by kernel_rfl) (fun pt2 : Option Addr × Nat => Value.slice pt2.1 L pt2.2) (fun pt2 => (RcT w13 O) (some pt2) none none) (fun pt2 => (RcK w13 O BB L (RbR w13 O cb tk RS)) (some pt2) none none) (Turns.call rfl (fun _ _ h => h) (fun _ => (RcK.weak _ _ _)) (fun _ => (RcK.clo RbR.call)) (fun wz hS => (HPUB.out gb wz (HG13.out.call (hS.u rfl))).mono fun e w' ⟨A, c, he, ho, hb⟩ => ⟨(A, c), he, hS.mk1 ho HBB.out hb⟩) (fun wz hS => by go_simp; try (with_reducible rfl))) (fun pt2 => ?_)
  simp only [Zp, Zq, Zr, Zs]
  refine WpX.vD 8 (some 84) ?_ rfl rfl (by kernel_rfl) (fun _ _ _ h => h) rfl (fun wz hwz => ?_) ?_
  rotate_left
  ·(refine Eq.trans (exec_build rfl (by kernel_rfl) (build_entS pt2.1 L pt2.2 wz)) ?_; with_reducible rfl)
  simp only [Zp, Zq, Zr, Zs]
  refine WpX.oneD 9 (some 85) rfl rfl (by kernel_rfl) (fun eb2 : Nat => Value.slice (some ⟨eb2, 0, none⟩) 1 1) (fun eb2 => (RcT w13 O) (some pt2) (some eb2) none) (fun eb2 => (RcK w13 O BB L (RbR w13 O cb tk RS)) (some pt2) (some eb2) none) (Turns.val rfl (fun _ _ h => h) (fun _ => (RcK.weak _ _ _)) (fun _ => (RcK.clo RbR.call)) (fun wz hS => ⟨wz.heap.size, wz.alloc (.cells (entL z16 0 (.slice none 0 0) (.slice pt2.1 L pt2.2) 0).toArray 44), exec_buildSlice rfl (by kernel_rfl) (build_entsS pt2.1 L pt2.2 wz), hS.mk2⟩)) (fun eb2 => ?_)
  simp only [Zp, Zq, Zr, Zs]
  refine WpX.vD 10 (some 86) ?_ rfl rfl (by kernel_rfl) (fun _ _ _ h => h) rfl (fun wz hwz => ?_) ?_
  rotate_left
  ·(refine Eq.trans (exec_build rfl (by kernel_rfl) (build_msg6 HKB.out (q : Int) eb2 wz)) ?_; with_reducible rfl)
  simp only [Zp, Zq, Zr, Zs]
  refine WpX.oneD 11 (some 87) rfl rfl (by kernel_rfl) (fun _ : Unit => Value.tuple #[.slice none 0 0, .int .i64 0]) (fun un => (RcT w13 O) (some pt2) (some eb2) (some un)) (fun un => (RcK w13 O BB L (RbR w13 O cb tk RS)) (some pt2) (some eb2) (some un)) (Turns.call rfl (fun _ _ h => h) (fun _ => (RcK.weak _ _ _)) (fun _ => (RcK.clo RbR.call)) (fun wz hS => (HRB.out O cb a9 (.slice ra.2.1 n ra.2.2) pt2.1 pt2.2 eb2 wz (hS.a pt2 rfl rfl) (hS.b eb2 pt2 rfl rfl rfl) ((own_sl HAN.out.1 HO13.out).later (hS.u rfl)) (HA13.out.call (hS.u rfl))).mono fun e w' ⟨he, ⟨O', hc, h2⟩, hx⟩ => ⟨(), he, hS.mk3 hx ⟨O', hc, fun q hq => (h2 q hq).imp (fun h => h) (Nat.le_trans (hS.u rfl).size)⟩⟩) (fun wz hS => by go_simp; try (with_reducible rfl))) (fun un => ?_)
  simp only [Zp, Zq, Zr, Zs]
  refine WpX.vD 12 (some 75) ?_ rfl rfl (by kernel_rfl) (fun _ _ _ h => h) rfl (fun wz hwz => ?_) ?_
  rotate_left
  ·go_simp; try (with_reducible rfl)
  simp only [Zp, Zq, Zr, Zs]
  refine WpX.vD 13 (some 88) ?_ rfl rfl (by kernel_rfl) (fun _ _ _ h => h) rfl (fun wz hwz => ?_) ?_
  rotate_left
  ·go_simp; try (with_reducible rfl)
  simp only [Zp, Zq, Zr, Zs]
  refine WpX.vD 14 (some 89) ?_ rfl rfl (by kernel_rfl) (fun _ _ _ h => h) rfl (fun wz hwz => ?_) ?_
  rotate_left
  ·go_simp; try (with_reducible rfl)
  simp only [Zp, Zq, Zr, Zs]
  refine WpX.vD 15 (some 20) ?_ rfl rfl (by kernel_rfl) (fun _ _ _ h => h) rfl (fun wz hwz => ?_) ?_
  rotate_left
  ·go_simp; try (with_reducible rfl)
  simp only [Zp, Zq, Zr, Zs]
  refine WpX.done (by kernel_rfl) (fun w14 hS => ⟨pt2, eb2, un, rfl, ?_⟩)
  ·exact hS
 intro pt2 eb2 un w14 hS
 (try simp only [List.drop_succ_cons]); (try simp only [List.drop_zero]); (try simp only [Nat.reduceSub]); (try simp only [List.take_succ_cons]); (try simp only [List.take_zero])
 obtain ⟨O2, hC14, hO2⟩ := hS.c () rfl
 have hx14 : Exc O w13.heap.size w13 w14 := hS.t
 have hT14 := HT13.out.exc (S := O) HTB.out hx14
 have hb014 := HB13.out.trans ((hx14.mono HB13.out.size).below fun q hq e => by
  have h1 := HOB.out q e
  have h2 := HBW.out
  omega)
 have HRES : Hid (Calls Try.prog 47 #[.pointer (some ⟨cb, 0, none⟩)] w14 fun e w' => ∃ (A : Option Addr) (cp : Nat), e = .returned (.slice A 1 cp) ∧ ResR w' w14.heap.size (.slice A 1 cp) 1 RS ∧ Below w14.heap.size w14 w') := Lib.hid (by
  have h := collect_Results tk HTL.out O2 _ cb (.pointer none) 2 [] RS (by rw [← HRS.out]; simp) (fun r hr => by
   rw [← HRS.out, List.mem_singleton] at hr
   subst hr
   have h1 := HNS.out.1
   have h2 := HNS.out.2
   show xs.length ≤ 1000
   omega) w14 hC14
  have hl : RS.length = 1 := by rw [← HRS.out]; rfl
  rwa [hl] at h)
 clear hS hx14 hC14 hO2 HT13 HY13 HG13 HA13 HO13 HB13 HTB HXB HBW HPUB HRB HOB HOL
 go_upto_region 12 with fail
 go_upto_region 13 with (go_at_call 47; refine HRES.out.mono ?_; rintro e w15 ⟨A5, c5, rfl, hR15, hb15⟩)
 have hT15 := hT14.call hb15
 have hb015 := bl_call hb014 (Nat.le_refl _) hb15
 obtain ⟨_, vs, h1, h2, h3⟩ := hR15
 obtain ⟨v, rfl⟩ : ∃ v, vs = [v] := List.length_eq_one_iff.1 h2
 rw [← HRS.out] at h1 h3
 obtain ⟨A3, c3, rfl, ho3, _⟩ := h3 0 _ v rfl rfl
 obtain ⟨g5, cg5, hg5⟩ := own_sl9 h1 (by omega)
 rw [hg5] at h1
 rw [hg5]
 have hrc : ∀ (j : Nat) (u : Value), (resC ⟨7, if code = 0 then (q : Int) else 0, xs, code⟩ (.slice A3 xs.length c3))[j]? = some u → w15.cell? ⟨g5, j, none⟩ = some u := fun j u hj => by
  have h9 := h1.cells (g := g5) rfl (0 * 4 + j) u (resCs_at _ _ 0 _ _ rfl rfl j u hj)
  rwa [Addr.add_mid, Nat.zero_mul, Nat.zero_add, Nat.zero_add] at h9
 have r1 := hrc 1 _ rfl
 have r2 := hrc 2 _ rfl
 have r3 := hrc 3 _ rfl
 have hg5l := (h1.lt g5 rfl).2
 dsimp only at ho3
 clear hrc h1 h2 h3 hg5 hT14 hb014 hb15 HRES
 rw [HNS.out.1] at r2 ho3
 obtain ⟨hc0, hxs, hnse⟩ := HEQ.out
 subst hc0 hxs hnse
 rw [if_neg (by omega)] at r1
 go_upto_region 15 with fail
 go_upto_region 16 with fail
 go_wp2_with fail
 go_ret
 exact ⟨by first | rfl | trivial, hb015⟩

theorem walk_CollectRight (k f b l m c p t many a bi : Int) (o : Bool) (id : List Int) (w : World) (hk : 0 ≤ k ∧ k ≤ 255) (hf : 0 ≤ f ∧ f ≤ 255) (hb : 0 ≤ b ∧ b ≤ 255) (hl : 0 ≤ l ∧ l ≤ 255) (hm : 0 ≤ m ∧ m ≤ 255) (hc : 0 ≤ c ∧ c ≤ 255) (hp : 0 ≤ p ∧ p ≤ 255) (ht : 0 ≤ t ∧ t ≤ 255)
  (hmany : 0 ≤ many ∧ many ≤ 255) (ha : 0 ≤ a ∧ a ≤ 255) (hbi : 0 ≤ bi ∧ bi ≤ 255) (hid : id.length = 16) (hid8 : B8 id) :
  Calls Try.prog 10 #[.agg #[.int .u8 k, .int .u8 f, .int .u8 b, .int .u8 l, .int .u8 m, .int .u8 c, .int .u8 p, .int .u8 t], .int .u8 many, .int .u8 a, .int .u8 bi, .bool o, .agg (cells8 id).toArray] w fun e w' => e = .returned (.bool true) ∧ Below w.heap.size w w' := by
 obtain ⟨a', rfl⟩ : ∃ z : Nat, a = (z : Int) := ⟨a.toNat, by omega⟩
 obtain ⟨q, hq⟩ : ∃ z : Nat, many % 5 = (z : Int) := ⟨(many % 5).toNat, by omega⟩
 obtain ⟨d, hd⟩ : ∃ z : Nat, bi % 2 = (z : Int) := ⟨(bi % 2).toNat, by omega⟩
 cases o with
 | false => exact walk_CollectRight0 k f b l m c p t many bi a' d q id w hk hf hb hl hm hc hp ht hmany hq (by omega) hbi hd hid hid8
 | true => exact walk_CollectRight1 k f b l m c p t many bi a' d q id w hk hf hb hl hm hc hp ht hmany hq (by omega) hbi hd hid hid8

end Go.Proofs.Ytbakkmfjamcbfaa
