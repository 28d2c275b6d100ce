/-
 TaK: what the statements of this layer share.
-/
import Derived.BigQuiet
import Derived.Laws.Bits64b
import Derived.Test.YtbakkmfjamcbfaaKat
namespace Go.Proofs.Ytbakkmfjamcbfaa
open Go.RowKit Fm
set_option linter.unusedVariables false
set_option maxRecDepth 100000

theorem slice_rep_h (A : Option Addr) (N c k : Nat) (hk : k ≤ c) (w : World) : (Instr.sliceAt 72 (.slice A N c) none (some (.int .i64 (k : Int))) none).run Try.prog w = .ok (.slice A k c) w := by
 obtain ⟨i, hi⟩ := Option.isSome_iff_exists.1 (show (Try.prog.info? 91).isSome = true by kernel_rfl)
 exact sliceAt_h Try.underlying72 (by kernel_rfl) hi A N c k hk w
theorem slice_rep_l (A : Option Addr) (N c k : Nat) (hk : k ≤ N) (w : World) : (Instr.sliceAt 72 (.slice A N c) (some (.int .i64 (k : Int))) none none).run Try.prog w = .ok (.slice (if c = k then A else A.map (·.add (k * 17))) (N - k) (c - k)) w := by
 obtain ⟨i, hi⟩ := Option.isSome_iff_exists.1 (show (Try.prog.info? 91).isSome = true by kernel_rfl)
 exact sliceAt_l Try.underlying72 (by kernel_rfl) hi 17 (by kernel_rfl) A N c k hk w
theorem slice_sls_h (A : Option Addr) (N c k : Nat) (hk : k ≤ c) (w : World) : (Instr.sliceAt 77 (.slice A N c) none (some (.int .i64 (k : Int))) none).run Try.prog w = .ok (.slice A k c) w := by
 obtain ⟨i, hi⟩ := Option.isSome_iff_exists.1 (show (Try.prog.info? 73).isSome = true by kernel_rfl)
 exact sliceAt_h Try.underlying77 (by kernel_rfl) hi A N c k hk w
theorem slice_sls_l (A : Option Addr) (N c k : Nat) (hk : k ≤ N) (w : World) : (Instr.sliceAt 77 (.slice A N c) (some (.int .i64 (k : Int))) none none).run Try.prog w = .ok (.slice (if c = k then A else A.map (·.add (k * 1))) (N - k) (c - k)) w := by
 obtain ⟨i, hi⟩ := Option.isSome_iff_exists.1 (show (Try.prog.info? 73).isSome = true by kernel_rfl)
 exact sliceAt_l Try.underlying77 (by kernel_rfl) hi 1 (by kernel_rfl) A N c k hk w
theorem slR_cap {w : World} {B q N c : Nat} {A : Option Addr} {rows : List (List Value)} (h : SlR w B (.slice A N c) q rows) : N ≤ c := by
 obtain ⟨A', c', hv, h1, _⟩ := h
 injection hv with e1 e2 e3
 omega

set_option maxHeartbeats 16000000 in
theorem walk_TotalAdds (k f b l m c p t cut : Int) (vl : Value) (ids : List (List Int)) (us : List Value) (ess : List (List E)) (N : Nat) (w : World) (hk : 0 ≤ k ∧ k ≤ 255) (hf : 0 ≤ f ∧ f ≤ 255) (hb : 0 ≤ b ∧ b ≤ 255) (hl : 0 ≤ l ∧ l ≤ 255) (hm : 0 ≤ m ∧ m ≤ 255) (hc : 0 ≤ c ∧ c ≤ 255) (hp : 0 ≤ p ∧ p ≤ 255) (ht : 0 ≤ t ∧ t ≤ 255) (hcut : 0 ≤ cut ∧ cut ≤ 255)
  (hil : ids.length = N) (hul : us.length = N) (hesN : ess.length = N) (hid : ∀ x, x ∈ ids → x.length = 16 ∧ B8 x) (hus : ∀ (i : Nat) (u : Value) (es : List E), us[i]? = some u → ess[i]? = some es → SlE w w.heap.size u es) (hsl : SlR w w.heap.size vl 17 (List.zipWith repL ids us)) :
  Calls Try.prog 6 #[.agg #[.int .u8 k, .int .u8 f, .int .u8 b, .int .u8 l, .int .u8 m, .int .u8 c, .int .u8 p, .int .u8 t], vl, .int .u8 cut] w fun e w' => e = .returned (.bool true) ∧ Below w.heap.size w w' := by
 obtain ⟨F, y, s, hF, hy, hs32, hTSK⟩ := law13_Task k f b l m c p t hk hf hb hl hm hc hp ht
 obtain ⟨pq, hpq, hpq1, hpq3⟩ : ∃ q : Int, 1 + p % 3 = q ∧ 1 ≤ q ∧ q ≤ 3 := ⟨_, rfl, by omega, by omega⟩
 rw [hpq] at hTSK
 have HTSK := Lib.hid hTSK
 have HAW := Lib.hid law15_Awake
 have hok := hy.ok
 have hcl : y.calls ≤ 511 := by have := hy.calls; omega
 have hno : y.nout ≤ 1000000 := by
  have h1 := CK.nout_le hok
  omega
 have HC : ∀ wz, Calls Try.prog 43 #[.agg #[.int .u8 ((y.k : Nat) : Int), .int .u8 (F : Int), .int .i64 ((y.b : Nat) : Int), .int .i64 ((y.l : Nat) : Int), .int .i64 ((y.m : Nat) : Int), .int .i64 ((y.c : Nat) : Int), .int .i64 pq, .string s]] wz (RetC 0 wz) := fun wz => small_code (by omega) hok hF pq ⟨hpq1, hpq3⟩ s hs32 wz
 have HO : ∀ wz, Calls Try.prog 32 #[.agg #[.int .u8 ((y.k : Nat) : Int), .int .u8 (F : Int), .int .i64 ((y.b : Nat) : Int), .int .i64 ((y.l : Nat) : Int), .int .i64 ((y.m : Nat) : Int), .int .i64 ((y.c : Nat) : Int)]] wz (RetI y.nout wz) := fun wz => circuit_Out F y hok wz
 have hzl : (List.zipWith repL ids us).length = N := by rw [List.length_zipWith, hil, hul, Nat.min_self]
 have HSL0 := Lib.hid hsl
 obtain ⟨A0, ca, hA0, hca, hcam, hA⟩ := hsl
 rw [hzl] at hA0 hca
 subst hA0
 by_cases hbig : 20 < N
 ·have hbig2 : (20 : Int) < (N : Int) := by omega
  clear HC HO hA hTSK
  have hb00 : Below w.heap.size w w := Below.refl _ _
  go_enter Try.func6, Try.ntmps6
  go_upto_region 1 with fail
  have hs := Vs.new w [.int .u8 k, .int .u8 f, .int .u8 b, .int .u8 l, .int .u8 m, .int .u8 c, .int .u8 p, .int .u8 t] #[.int .u8 k, .int .u8 f, .int .u8 b, .int .u8 l, .int .u8 m, .int .u8 c, .int .u8 p, .int .u8 t] 66 rfl
  have hbA : Below w.heap.size w (w.alloc (.cells #[.int .u8 k, .int .u8 f, .int .u8 b, .int .u8 l, .int .u8 m, .int .u8 c, .int .u8 p, .int .u8 t] 66)) := by repeat (first | exact bA | with_reducible assumption | apply bB)
  replace hb00 := bl_call hb00 (Nat.le_refl _) hbA
  clear hbA
  generalize w.alloc (.cells #[.int .u8 k, .int .u8 f, .int .u8 b, .int .u8 l, .int .u8 m, .int .u8 c, .int .u8 p, .int .u8 t] 66) = w1 at hb00 hs ⊢
  go_wp2_with (first
   | (go_at_call 24; refine (HAW.out _).mono ?_; rintro e w2 ⟨rfl, hb2⟩; replace hb00 := bl_call hb00 (Nat.le_refl _) hb2))
  go_ret
  exact ⟨rfl, hb00⟩
 have hN20 : N ≤ 20 := by omega
 obtain ⟨ps, hps⟩ : ∃ ps, ess.map (outL F y.nout) = ps := ⟨_, rfl⟩
 have hpsn : ∀ q, q ∈ ps → q.length = y.nout := fun q hq => by
  rw [← hps] at hq
  obtain ⟨es, _, rfl⟩ := List.mem_map.1 hq
  exact outL_length F y.nout es
 have hpsl : ps.length = N := by rw [← hps, List.length_map, hesN]
 have hkk0 : (cut.toNat % (N + 1)) ≤ N := by
  have := Nat.mod_lt cut.toNat (show 0 < N + 1 by omega)
  omega
 obtain ⟨kk, hkk⟩ : ∃ z : Nat, cut.toNat % (N + 1) = z := ⟨_, rfl⟩
 rw [hkk] at hkk0
 have hrem : cut.tmod ((N : Int) + 1) = (kk : Int) := by
  rw [Int.tmod_eq_emod_of_nonneg hcut.1, ← hkk, Int.natCast_emod]
  have h1 : ((cut.toNat : Nat) : Int) = cut := Int.toNat_of_nonneg hcut.1
  rw [h1]
  rfl
 have hwc : IntKind.i64.wrap cut = cut := IntWalk.i64_in _ (by omega)
 have hwk : IntKind.i64.wrap (kk : Int) = (kk : Int) := IntWalk.i64_in _ (by omega)
 have hwN : IntKind.i64.wrap ((N : Int) + 1) = (N : Int) + 1 := IntWalk.i64_in _ (by omega)
 generalize y.nout = n at *
 have HSUM : Hid (∀ wz, Below w.heap.size w wz → Calls Try.prog 25 #[.agg #[.int .u8 ((y.k : Nat) : Int), .int .u8 (F : Int), .int .i64 ((y.b : Nat) : Int), .int .i64 ((y.l : Nat) : Int), .int .i64 ((y.m : Nat) : Int), .int .i64 ((y.c : Nat) : Int), .int .i64 pq, .string s], .slice A0 N ca] wz fun e w' =>
   ∃ (gS : Nat) (A : Option Addr) (ca : Nat) (vs : List Value), e = .returned (.tuple #[.agg (totL (.slice (some ⟨gS, 0, none⟩) n n) (N : Int) (chkF z16 ids)).toArray, .slice A N ca]) ∧ RwK w' gS (sumF (zK F n) ps) ∧ wz.heap.size ≤ gS ∧ vs.length = N ∧
    SlR w' w'.heap.size (.slice A N ca) 1 (vs.map fun v => [v]) ∧ PsK w' vs ps ∧ Below wz.heap.size wz w') := fun wz hbz => by
  rw [← hps]
  exact law15_sum hF _ _ _ _ _ _ s n hno HO ids us ess N (by omega) hil hul hesN hid (.slice A0 N ca) wz (fun i u es h1 h2 => (hus i u es h1 h2).later hbz) (HSL0.out.later hbz)
 have HADDW : Hid (∀ (wz : World) (ids2 : List (List Int)) (us2 vs2 : List Value) (ps2 : List (KL F)) (M : Nat) (vl vo : Value), M ≤ 100 → ids2.length = M → us2.length = M → vs2.length = M → ps2.length = M → (∀ x, x ∈ ids2 → x ∈ ids) → (∀ x, x ∈ us2 → x ∈ us) → (∀ x, x ∈ ps2 → x ∈ ps) → SlR wz wz.heap.size vl 17 (List.zipWith repL ids2 us2) → SlR wz wz.heap.size vo 1 (vs2.map fun v => [v]) → PsK wz vs2 ps2 →
   Calls Try.prog 26 #[.agg #[.int .u8 ((y.k : Nat) : Int), .int .u8 (F : Int), .int .i64 ((y.b : Nat) : Int), .int .i64 ((y.l : Nat) : Int), .int .i64 ((y.m : Nat) : Int), .int .i64 ((y.c : Nat) : Int), .int .i64 pq, .string s], vl, vo] wz (RetTE n M (chkF z16 ids2) (sumF (zK F n) ps2) wz)) :=
  fun wz ids2 us2 vs2 ps2 M vl vo h0 h1 h2 h3 h4 h5 h6 h7 h8 h9 h10 => law15_add hF _ _ _ _ _ _ s n hno HC HO ids2 us2 vs2 ps2 M h0 h1 h2 h3 h4 (fun x hx => hid x (h5 x hx)) (fun x hx => by
   obtain ⟨i, hi⟩ := List.mem_iff_getElem?.1 (h6 x hx)
   have hlt := (List.getElem?_eq_some_iff.1 hi).1
   obtain ⟨A, c, hv, _⟩ := (hus i x _ hi (List.getElem?_eq_getElem (by omega))).ex
   exact ⟨_, _, _, hv⟩) (fun x hx => hpsn x (h7 x hx)) vl vo wz h8 h9 h10
 have HMER : Hid (∀ (M1 M2 : Int) (K1 K2 : List Int) (vx vo : Value) (xs os : KL F) wz, 0 ≤ M1 → 0 ≤ M2 → M1 + M2 ≤ 256 → K1.length = 16 → K2.length = 16 → SlK wz wz.heap.size vx xs → SlK wz wz.heap.size vo os → xs.length = n → os.length = n →
   Calls Try.prog 27 #[.agg (totL vx M1 K1).toArray, .agg #[.int .u8 ((y.k : Nat) : Int), .int .u8 (F : Int), .int .i64 ((y.b : Nat) : Int), .int .i64 ((y.l : Nat) : Int), .int .i64 ((y.m : Nat) : Int), .int .i64 ((y.c : Nat) : Int), .int .i64 pq, .string s], .agg (totL vo M2 K2).toArray] wz (RetTE n (M1 + M2) (xorL K1 K2) (addL xs os) wz)) :=
  fun M1 M2 K1 K2 vx vo xs os wz h1 h2 h3 h4 h5 h6 h7 h8 h9 => total_Merge hF _ _ _ _ _ _ s n hno HC M1 M2 ⟨h1, h2, h3⟩ K1 K2 h4 h5 vx vo xs os wz h6 h7 h8 h9
 have HP1 : Hid ((∀ x, x ∈ ids.take kk → x ∈ ids) ∧ (∀ x, x ∈ us.take kk → x ∈ us) ∧ (∀ x, x ∈ ps.take kk → x ∈ ps)) := ⟨fun x h => List.mem_of_mem_take h, fun x h => List.mem_of_mem_take h, fun x h => List.mem_of_mem_take h⟩
 have HP2 : Hid ((∀ x, x ∈ ids.drop kk → x ∈ ids) ∧ (∀ x, x ∈ us.drop kk → x ∈ us) ∧ (∀ x, x ∈ ps.drop kk → x ∈ ps)) := ⟨fun x h => List.mem_of_mem_drop h, fun x h => List.mem_of_mem_drop h, fun x h => List.mem_of_mem_drop h⟩
 have HLT : Hid (ids.length = N ∧ us.length = N ∧ ps.length = N ∧ (ids.take kk).length = kk ∧ (us.take kk).length = kk ∧ (ps.take kk).length = kk ∧ (ids.drop kk).length = N - kk ∧ (us.drop kk).length = N - kk ∧ (ps.drop kk).length = N - kk) := by
  refine ⟨hil, hul, hpsl, ?_, ?_, ?_, ?_, ?_, ?_⟩ <;> first | (rw [List.length_take]; omega) | (rw [List.length_drop]; omega)
 have HK1 : Hid (xorL (chkF z16 (ids.take kk)) (chkF z16 (ids.drop kk)) = chkF z16 ids) := chkF_split ids kk
 have HK2 : Hid (xorL (chkF z16 (ids.drop kk)) (chkF z16 (ids.take kk)) = chkF z16 ids) := by
  show _ = _
  rw [xorL_comm]
  exact chkF_split ids kk
 have HS1 : Hid (addL (sumF (zK F n) (ps.take kk)) (sumF (zK F n) (ps.drop kk)) = sumF (zK F n) ps) := sumF_split ps kk hpsn
 have HS2 : Hid (addL (sumF (zK F n) (ps.drop kk)) (sumF (zK F n) (ps.take kk)) = sumF (zK F n) ps) := by
  show _ = _
  rw [addL_comm]
  exact sumF_split ps kk hpsn
 have HLS : Hid ((sumF (zK F n) ps).length = n ∧ (sumF (zK F n) (ps.take kk)).length = n ∧ (sumF (zK F n) (ps.drop kk)).length = n) := ⟨sumF_len (zK_length F n) _ hpsn, sumF_len (zK_length F n) _ fun q hq => hpsn q (List.mem_of_mem_take hq), sumF_len (zK_length F n) _ fun q hq => hpsn q (List.mem_of_mem_drop hq)⟩
 have HLC : Hid ((chkF z16 ids).length = 16 ∧ (chkF z16 (ids.take kk)).length = 16 ∧ (chkF z16 (ids.drop kk)).length = 16) := ⟨chkF_length z16_length _, chkF_length z16_length _, chkF_length z16_length _⟩
 have HZT : Hid (List.zipWith repL (ids.take kk) (us.take kk) = (List.zipWith repL ids us).take kk ∧ List.zipWith repL (ids.drop kk) (us.drop kk) = (List.zipWith repL ids us).drop kk) := ⟨List.take_zipWith.symm, List.drop_zipWith.symm⟩
 have HNO := Lib.hid hno
 obtain ⟨nk, hnk⟩ : ∃ z, N - kk = z := ⟨_, rfl⟩
 rw [hnk] at HLT
 have HNK := Lib.hid hnk
 have HKN : Hid (kk + nk = N ∧ kk ≤ N ∧ N ≤ 20 ∧ N ≤ ca) := ⟨by omega, hkk0, hN20, hca⟩
 have HMM : Hid ((kk : Int) + (nk : Int) = (N : Int)) := by
  show _ = _
  omega
 have HMN : Hid ((nk : Int) + (kk : Int) = (N : Int)) := by
  show _ = _
  omega
 clear hnk
 clear hil hul hesN hid hus hpsn hpsl hps HC HO hTSK hA hzl hkk hok hcl hno hy hF hs32 hpq hpq1 hpq3 hp ht hk hf hb hl hm hc hcut hca hcam
 generalize ((y.k : Nat) : Int) = yk at *
 generalize ((y.b : Nat) : Int) = yb at *
 generalize ((y.l : Nat) : Int) = yl at *
 generalize ((y.m : Nat) : Int) = ym at *
 generalize ((y.c : Nat) : Int) = yc at *
 have hb00 : Below w.heap.size w w := Below.refl _ _
 go_enter Try.func6, Try.ntmps6
 go_upto_region 1 with fail
 have hs := Vs.new w [.int .u8 k, .int .u8 f, .int .u8 b, .int .u8 l, .int .u8 m, .int .u8 c, .int .u8 p, .int .u8 t] #[.int .u8 k, .int .u8 f, .int .u8 b, .int .u8 l, .int .u8 m, .int .u8 c, .int .u8 p, .int .u8 t] 66 rfl
 have hbA : Below w.heap.size w (w.alloc (.cells #[.int .u8 k, .int .u8 f, .int .u8 b, .int .u8 l, .int .u8 m, .int .u8 c, .int .u8 p, .int .u8 t] 66)) := by repeat (first | exact bA | with_reducible assumption | apply bB)
 replace hb00 := bl_call hb00 (Nat.le_refl _) hbA
 clear hbA
 generalize w.alloc (.cells #[.int .u8 k, .int .u8 f, .int .u8 b, .int .u8 l, .int .u8 m, .int .u8 c, .int .u8 p, .int .u8 t] 66) = w1 at hb00 hs ⊢
 obtain ⟨⟨s0, s1, s2, s3, s4, s5, s6, s7⟩, ⟨s8, s9, s10, s11, s12, s13, s14, s15⟩, s16⟩ := hs.get8
 go_upto_region 5 with (first
  | (go_at_call 24; refine (HAW.out _).mono ?_; rintro e w2 ⟨rfl, hb2⟩; replace hb00 := bl_call hb00 (Nat.le_refl _) hb2; replace hs := hs.call hb2; clear s0 s1 s2 s3 s4 s5 s6 s7 s8 s9 s10 s11 s12 s13 s14 s15 s16; clear hb2; obtain ⟨⟨s0, s1, s2, s3, s4, s5, s6, s7⟩, ⟨s8, s9, s10, s11, s12, s13, s14, s15⟩, s16⟩ := hs.get8))
 go_upto_region 6 with (first
  | (go_at_call 21; refine (HTSK.out _).mono ?_; rintro e w3 ⟨rfl, hb3⟩; replace hb00 := bl_call hb00 (Nat.le_refl _) hb3; replace hs := hs.call hb3; clear s0 s1 s2 s3 s4 s5 s6 s7 s8 s9 s10 s11 s12 s13 s14 s15 s16; clear hb3; obtain ⟨⟨s0, s1, s2, s3, s4, s5, s6, s7⟩, ⟨s8, s9, s10, s11, s12, s13, s14, s15⟩, s16⟩ := hs.get8))
 clear s0 s1 s2 s3 s4 s5 s6 s7 s8 s9 s10 s11 s12 s13 s14 s15 s16
 clear hs HTSK HAW
 have hT := Vs.new w3 [.int .u8 yk, .int .u8 (F : Int), .int .i64 yb, .int .i64 yl, .int .i64 ym, .int .i64 yc, .int .i64 pq, .string s] #[.int .u8 yk, .int .u8 (F : Int), .int .i64 yb, .int .i64 yl, .int .i64 ym, .int .i64 yc, .int .i64 pq, .string s] 62 rfl
 have hbA : Below w3.heap.size w3 (w3.alloc (.cells #[.int .u8 yk, .int .u8 (F : Int), .int .i64 yb, .int .i64 yl, .int .i64 ym, .int .i64 yc, .int .i64 pq, .string s] 62)) := by repeat (first | exact bA | with_reducible assumption | apply bB)
 replace hb00 := bl_call hb00 (Nat.le_refl _) hbA
 clear hbA
 generalize w3.alloc (.cells #[.int .u8 yk, .int .u8 (F : Int), .int .i64 yb, .int .i64 yl, .int .i64 ym, .int .i64 yc, .int .i64 pq, .string s] 62) = w4 at hb00 hT ⊢
 obtain ⟨tb, htbe⟩ : ∃ z, w3.heap.size = z := ⟨_, rfl⟩
 rw [htbe] at hT
 simp only [htbe]
 clear htbe
 obtain ⟨⟨T0, T1, T2, T3, T4, T5, T6, T7⟩, ⟨T8, T9, T10, T11, T12, T13, T14, T15⟩, T16⟩ := hT.get8
 refine wp_region_lit ?_
 refine wpList_valD (some 29) rfl rfl (by (go_simp; first | with_reducible rfl | exact ⟨rfl, rfl⟩ | (trace_state; fail))) ?_
 simp only [Zp, Zq, Zr, Zs]
 refine wpList_valD (some 30) rfl rfl (by (go_simp; first | with_reducible rfl | exact ⟨rfl, rfl⟩ | (trace_state; fail))) ?_
 simp only [Zp, Zq, Zr, Zs]
 refine wpList_callD (some 31) rfl rfl 25 _ ?_ (HSUM.out _ hb00) ?_
 ·go_simp; try (with_reducible rfl)
 rintro e w5 ⟨gS, A9, c9, vs, rfl, hS, hgS, hvl, hSR, hPK, hb5⟩
 refine ⟨_, rfl, ?_⟩
 simp only [Zp, Zq, Zr, Zs]
 clear T0 T1 T2 T3 T4 T5 T6 T7 T8 T9 T10 T11 T12 T13 T14 T15 T16
 replace hb00 := bl_call hb00 (Nat.le_refl _) hb5
 replace hT := hT.call hb5
 refine wpList_valD (some 28) rfl rfl (by (go_simp; first | with_reducible rfl | exact ⟨rfl, rfl⟩ | (trace_state; fail))) ?_
 simp only [Zp, Zq, Zr, Zs]
 refine wpList_valD (some 32) rfl rfl (by (go_simp; first | with_reducible rfl | exact ⟨rfl, rfl⟩ | (trace_state; fail))) ?_
 simp only [Zp, Zq, Zr, Zs]
 refine wpList_valD (some 33) rfl rfl (by (go_simp; first | with_reducible rfl | exact ⟨rfl, rfl⟩ | (trace_state; fail))) ?_
 simp only [Zp, Zq, Zr, Zs]
 refine wpList_valD (some 8) rfl rfl (by (skip; go_simp; first | with_reducible rfl | exact ⟨rfl, rfl⟩ | (trace_state; fail))) ?_
 simp only [Zp, Zq, Zr, Zs]
 have hW := Vs.new w5 (totL (.slice none 0 0) 0 z16) #[.slice none 0 0, .int .i64 0, .int .u8 0, .int .u8 0, .int .u8 0, .int .u8 0, .int .u8 0, .int .u8 0, .int .u8 0, .int .u8 0, .int .u8 0, .int .u8 0, .int .u8 0, .int .u8 0, .int .u8 0, .int .u8 0, .int .u8 0, .int .u8 0] 76 rfl
 have hbA := (Below.refl w5.heap.size w5).alloc (Nat.le_refl _) (.cells #[.slice none 0 0, .int .i64 0, .int .u8 0, .int .u8 0, .int .u8 0, .int .u8 0, .int .u8 0, .int .u8 0, .int .u8 0, .int .u8 0, .int .u8 0, .int .u8 0, .int .u8 0, .int .u8 0, .int .u8 0, .int .u8 0, .int .u8 0, .int .u8 0] 76)
 have hst := hW.storeT (k := (chkF z16 ids)) (v := .slice (some ⟨gS, 0, none⟩) n n) (m := (N : Int)) z16_length HLC.out.1 rfl
 refine wpList_skipD rfl rfl (exec_store rfl (by kernel_rfl) (by kernel_rfl) hst) ?_
 refine wpList_valD (some 9) rfl rfl (by (go_simp; first | with_reducible rfl | exact ⟨rfl, rfl⟩ | (trace_state; fail))) ?_
 simp only [Zp, Zq, Zr, Zs]
 replace hW := hW.setT (k := (chkF z16 ids)) (v := .slice (some ⟨gS, 0, none⟩) n n) (m := (N : Int)) z16_length HLC.out.1
 have hbC := bl_setCells hbA (Nat.le_refl _) 0 (totL (.slice (some ⟨gS, 0, none⟩) n n) (N : Int) (chkF z16 ids))
 replace hb00 := bl_call hb00 (Nat.le_refl _) hbC
 replace hT := hT.call hbC
 replace hS := hS.call hbC
 replace hSR := hSR.later hbC
 replace hPK := hPK.later hbC
 clear hst hbA hbC
 generalize (w5.alloc (.cells #[.slice none 0 0, .int .i64 0, .int .u8 0, .int .u8 0, .int .u8 0, .int .u8 0, .int .u8 0, .int .u8 0, .int .u8 0, .int .u8 0, .int .u8 0, .int .u8 0, .int .u8 0, .int .u8 0, .int .u8 0, .int .u8 0, .int .u8 0, .int .u8 0] 76)).setCells w5.heap.size 0 (totL (.slice (some ⟨gS, 0, none⟩) n n) (N : Int) (chkF z16 ids)) = w6 at hW hS hSR hPK hT hb00 ⊢
 obtain ⟨xw, hxw⟩ : ∃ z, w5.heap.size = z := ⟨_, rfl⟩
 rw [hxw] at hW
 simp only [hxw]
 clear hxw hb5 hgS
 have HVL := Lib.hid hvl
 clear hvl
 go_upto_region 7 with fail
 obtain ⟨⟨T0, T1, T2, T3, T4, T5, T6, T7⟩, ⟨T8, T9, T10, T11, T12, T13, T14, T15⟩, T16⟩ := hT.get8
 have HC7 := Lib.hid (HADDW.out w6 ids us vs ps N (.slice A0 N ca) (.slice A9 N c9) (by omega) HLT.out.1 HLT.out.2.1 HVL.out HLT.out.2.2.1 (fun _ h => h) (fun _ h => h) (fun _ h => h) (HSL0.out.later hb00) hSR hPK)
 refine wp_region_lit ?_
 refine wpList_valD (some 35) rfl rfl (by (go_simp; first | with_reducible rfl | exact ⟨rfl, rfl⟩ | (trace_state; fail))) ?_
 simp only [Zp, Zq, Zr, Zs]
 refine wpList_valD (some 36) rfl rfl (by (go_simp; first | with_reducible rfl | exact ⟨rfl, rfl⟩ | (trace_state; fail))) ?_
 simp only [Zp, Zq, Zr, Zs]
 refine wpList_valD (some 37) rfl rfl (by (go_simp; first | with_reducible rfl | exact ⟨rfl, rfl⟩ | (trace_state; fail))) ?_
 simp only [Zp, Zq, Zr, Zs]
 refine wpList_callD (some 38) rfl rfl 26 _ ?_ (HC7.out) ?_
 ·go_simp; try (with_reducible rfl)
 rintro e w7 ⟨gx, rfl, hBx, hgx, hb7⟩
 refine ⟨_, rfl, ?_⟩
 simp only [Zp, Zq, Zr, Zs]
 clear T0 T1 T2 T3 T4 T5 T6 T7 T8 T9 T10 T11 T12 T13 T14 T15 T16
 replace hb00 := bl_call hb00 (Nat.le_refl _) hb7
 replace hT := hT.call hb7
 replace hS := hS.call hb7
 replace hSR := hSR.later hb7
 replace hPK := hPK.later hb7
 replace hW := hW.call hb7
 refine wpList_valD (some 34) rfl rfl (by (go_simp; first | with_reducible rfl | exact ⟨rfl, rfl⟩ | (trace_state; fail))) ?_
 simp only [Zp, Zq, Zr, Zs]
 refine wpList_valD (some 39) rfl rfl (by (go_simp; first | with_reducible rfl | exact ⟨rfl, rfl⟩ | (trace_state; fail))) ?_
 simp only [Zp, Zq, Zr, Zs]
 refine wpList_valD (some 40) rfl rfl (by (go_simp; first | with_reducible rfl | exact ⟨rfl, rfl⟩ | (trace_state; fail))) ?_
 simp only [Zp, Zq, Zr, Zs]
 refine wpList_valD (some 10) rfl rfl (by (skip; go_simp; first | with_reducible rfl | exact ⟨rfl, rfl⟩ | (trace_state; fail))) ?_
 simp only [Zp, Zq, Zr, Zs]
 have hX := Vs.new w7 (totL (.slice none 0 0) 0 z16) #[.slice none 0 0, .int .i64 0, .int .u8 0, .int .u8 0, .int .u8 0, .int .u8 0, .int .u8 0, .int .u8 0, .int .u8 0, .int .u8 0, .int .u8 0, .int .u8 0, .int .u8 0, .int .u8 0, .int .u8 0, .int .u8 0, .int .u8 0, .int .u8 0] 76 rfl
 have hbA := (Below.refl w7.heap.size w7).alloc (Nat.le_refl _) (.cells #[.slice none 0 0, .int .i64 0, .int .u8 0, .int .u8 0, .int .u8 0, .int .u8 0, .int .u8 0, .int .u8 0, .int .u8 0, .int .u8 0, .int .u8 0, .int .u8 0, .int .u8 0, .int .u8 0, .int .u8 0, .int .u8 0, .int .u8 0, .int .u8 0] 76)
 have hst := hX.storeT (k := (chkF z16 ids)) (v := .slice (some ⟨gx, 0, none⟩) n n) (m := (N : Int)) z16_length HLC.out.1 rfl
 refine wpList_skipD rfl rfl (exec_store rfl (by kernel_rfl) (by kernel_rfl) hst) ?_
 refine wpList_valD (some 11) rfl rfl (by (go_simp; first | with_reducible rfl | exact ⟨rfl, rfl⟩ | (trace_state; fail))) ?_
 simp only [Zp, Zq, Zr, Zs]
 replace hX := hX.setT (k := (chkF z16 ids)) (v := .slice (some ⟨gx, 0, none⟩) n n) (m := (N : Int)) z16_length HLC.out.1
 have hbC := bl_setCells hbA (Nat.le_refl _) 0 (totL (.slice (some ⟨gx, 0, none⟩) n n) (N : Int) (chkF z16 ids))
 replace hb00 := bl_call hb00 (Nat.le_refl _) hbC
 replace hT := hT.call hbC
 replace hS := hS.call hbC
 replace hSR := hSR.later hbC
 replace hPK := hPK.later hbC
 replace hW := hW.call hbC
 replace hBx := hBx.call hbC
 clear hst hbA hbC
 generalize (w7.alloc (.cells #[.slice none 0 0, .int .i64 0, .int .u8 0, .int .u8 0, .int .u8 0, .int .u8 0, .int .u8 0, .int .u8 0, .int .u8 0, .int .u8 0, .int .u8 0, .int .u8 0, .int .u8 0, .int .u8 0, .int .u8 0, .int .u8 0, .int .u8 0, .int .u8 0] 76)).setCells w7.heap.size 0 (totL (.slice (some ⟨gx, 0, none⟩) n n) (N : Int) (chkF z16 ids)) = w8 at hX hW hBx hS hSR hPK hT hb00 ⊢
 obtain ⟨xx, hxx⟩ : ∃ z, w7.heap.size = z := ⟨_, rfl⟩
 rw [hxx] at hX
 simp only [hxx]
 clear hxx hb7 hgx HC7
 go_upto_region 9 with fail
 clear hwc hrem hwN
 have HTT := Lib.hid hT
 have HRR8 := Lib.hid (HSL0.out.later hb00)
 have HSR8 := Lib.hid hSR
 have HPK8 := Lib.hid hPK
 have HC9 : Hid (N ≤ c9) := slR_cap hSR
 have HNL1 : Hid (∀ g : Nat, (totL (.slice (some ⟨g, 0, none⟩) n n) (kk : Int) (chkF z16 (ids.take kk))).length = (totL (.slice none 0 0) 0 z16).length) := fun g => by rw [totL_length _ _ HLC.out.2.1, totL_length _ _ z16_length]
 have HNL2 : Hid (∀ g : Nat, (totL (.slice (some ⟨g, 0, none⟩) n n) (nk : Int) (chkF z16 (ids.drop kk))).length = (totL (.slice none 0 0) 0 z16).length) := fun g => by rw [totL_length _ _ HLC.out.2.2, totL_length _ _ z16_length]
 have HCA : Hid (∀ wz, Below w8.heap.size w8 wz → Calls Try.prog 26 #[.agg #[.int .u8 yk, .int .u8 (F : Int), .int .i64 yb, .int .i64 yl, .int .i64 ym, .int .i64 yc, .int .i64 pq, .string s], .slice A0 kk ca, .slice A9 kk c9] wz (RetTE n kk (chkF z16 (ids.take kk)) (sumF (zK F n) (ps.take kk)) wz)) := fun wz h =>
  HADDW.out wz (ids.take kk) (us.take kk) (vs.take kk) (ps.take kk) kk _ _ (by have := HKN.out; omega) HLT.out.2.2.2.1 HLT.out.2.2.2.2.1 (by rw [List.length_take, HVL.out]; have := HKN.out; omega) HLT.out.2.2.2.2.2.1 HP1.out.1 HP1.out.2.1 HP1.out.2.2 (by rw [HZT.out.1]; exact SlR.take (HRR8.out.later h) HKN.out.2.1) (by rw [List.map_take]; exact SlR.take (HSR8.out.later h) HKN.out.2.1) (PsK.take (HPK8.out.later h) kk)
 have HCB : Hid (∀ wz, Below w8.heap.size w8 wz → Calls Try.prog 26 #[.agg #[.int .u8 yk, .int .u8 (F : Int), .int .i64 yb, .int .i64 yl, .int .i64 ym, .int .i64 yc, .int .i64 pq, .string s], .slice (if ca = kk then A0 else A0.map (·.add (kk * 17))) nk (ca - kk), .slice (if c9 = kk then A9 else A9.map (·.add (kk * 1))) nk (c9 - kk)] wz (RetTE n nk (chkF z16 (ids.drop kk)) (sumF (zK F n) (ps.drop kk)) wz)) := fun wz h =>
  HADDW.out wz (ids.drop kk) (us.drop kk) (vs.drop kk) (ps.drop kk) nk _ _ (by have := HKN.out; omega) HLT.out.2.2.2.2.2.2.1 HLT.out.2.2.2.2.2.2.2.1 (by rw [List.length_drop, HVL.out]; have := HKN.out; omega) HLT.out.2.2.2.2.2.2.2.2 HP2.out.1 HP2.out.2.1 HP2.out.2.2 (by rw [HZT.out.2, ← HNK.out]; exact SlR.drop (HRR8.out.later h) HKN.out.2.1) (by rw [List.map_drop, ← HNK.out]; exact SlR.drop (HSR8.out.later h) HKN.out.2.1) (PsK.drop (HPK8.out.later h) kk)
 have HSLA : Hid (∀ wz, (Instr.sliceAt 72 (.slice A0 N ca) (some (.int .i64 (kk : Int))) none none).run Try.prog wz = .ok (.slice (if ca = kk then A0 else A0.map (·.add (kk * 17))) nk (ca - kk)) wz) := fun wz => by
  rw [← HNK.out]
  exact slice_rep_l _ _ _ _ HKN.out.2.1 wz
 have HSLB : Hid (∀ wz, (Instr.sliceAt 77 (.slice A9 N c9) (some (.int .i64 (kk : Int))) none none).run Try.prog wz = .ok (.slice (if c9 = kk then A9 else A9.map (·.add (kk * 1))) nk (c9 - kk)) wz) := fun wz => by
  rw [← HNK.out]
  exact slice_sls_l _ _ _ _ HKN.out.2.1 wz
 generalize (if ca = kk then A0 else A0.map (·.add (kk * 17))) = AR at HSLA HCB
 generalize (if c9 = kk then A9 else A9.map (·.add (kk * 1))) = AS at HSLB HCB
 generalize ca - kk = cr at HSLA HCB
 generalize c9 - kk = cs at HSLB HCB
 clear hSR hPK
 apply region_Z2 (n := 13) (m := 14) (f := 13) (fun x0 x1 => (AwK w8 [] [] (esK (sumF (zK F n) (ps.take kk))) (totL (.slice none 0 0) 0 z16) (fun g => totL (.slice (some ⟨g, 0, none⟩) n n) (kk : Int) (chkF z16 (ids.take kk))) none none) (some x0) (some x1) true) ((AwT w8 none none) none none) ((AwK w8 [] [] (esK (sumF (zK F n) (ps.take kk))) (totL (.slice none 0 0) 0 z16) (fun g => totL (.slice (some ⟨g, 0, none⟩) n n) (kk : Int) (chkF z16 (ids.take kk))) none none) none none false) ((AwK.weak _ _ _ _ _)) (AwK.clo) ((AwK.start w8))
 case hm => kernel_rfl
 case hB => kernel_rfl
 case hf => rfl
 case' h =>
  refine WpX.vD 0 (some 48) ?_ rfl rfl (by kernel_rfl) (fun _ _ _ h => h) rfl (fun wz hwz => ?_) ?_
  rotate_left
  ·(have hz := (HTT.out.call hwz).get8; obtain ⟨⟨z0, z1, z2, z3, z4, z5, z6, z7⟩, ⟨y0, y1, y2, y3, y4, y5, y6, y7⟩, y8⟩ := hz; go_simp; try (with_reducible rfl))
  simp only [Zp, Zq, Zr, Zs]
  refine WpX.vD 1 (some 49) ?_ rfl rfl (by kernel_rfl) (fun _ _ _ h => h) rfl (fun wz hwz => ?_) ?_
  rotate_left
  ·go_simp; try (with_reducible rfl)
  simp only [Zp, Zq, Zr, Zs]
  refine WpX.vD 2 (some 50) ?_ rfl rfl (by kernel_rfl) (fun _ _ _ h => h) rfl (fun wz hwz => ?_) ?_
  rotate_left
  ·go_simp; try (with_reducible rfl)
  simp only [Zp, Zq, Zr, Zs]
  refine WpX.vD 3 (some 51) ?_ rfl rfl (by kernel_rfl) (fun _ _ _ h => h) rfl (fun wz hwz => ?_) ?_
  rotate_left
  ·(refine Eq.trans (exec_slice rfl (by kernel_rfl) (by kernel_rfl) (by kernel_rfl) (by kernel_rfl) (slice_rep_h A0 N ca kk (Nat.le_trans HKN.out.2.1 HKN.out.2.2.2) wz)) ?_; with_reducible rfl)
  simp only [Zp, Zq, Zr, Zs]
  refine WpX.vD 4 (some 52) ?_ rfl rfl (by kernel_rfl) (fun _ _ _ h => h) rfl (fun wz hwz => ?_) ?_
  rotate_left
  ·go_simp; try (with_reducible rfl)
  simp only [Zp, Zq, Zr, Zs]
  refine WpX.vD 5 (some 53) ?_ rfl rfl (by kernel_rfl) (fun _ _ _ h => h) rfl (fun wz hwz => ?_) ?_
  rotate_left
  ·go_simp; try (with_reducible rfl)
  simp only [Zp, Zq, Zr, Zs]
  refine WpX.vD 6 (some 54) ?_ rfl rfl (by kernel_rfl) (fun _ _ _ h => h) rfl (fun wz hwz => ?_) ?_
  rotate_left
  ·(refine Eq.trans (exec_slice rfl (by kernel_rfl) (by kernel_rfl) (by kernel_rfl) (by kernel_rfl) (slice_sls_h A9 N c9 kk (Nat.le_trans HKN.out.2.1 HC9.out) wz)) ?_; with_reducible rfl)
  simp only [Zp, Zq, Zr, Zs]
  refine WpX.twoD 7 11 (some 55) (some 13) rfl rfl rfl rfl (by kernel_rfl) (fun g : Nat => Value.tuple #[.agg (totL (.slice (some ⟨g, 0, none⟩) n n) (kk : Int) (chkF z16 (ids.take kk))).toArray, .int .i64 0]) (fun ga => (AwT w8 none none) (some ga) none) (fun ga => (AwK w8 [] [] (esK (sumF (zK F n) (ps.take kk))) (totL (.slice none 0 0) 0 z16) (fun g => totL (.slice (some ⟨g, 0, none⟩) n n) (kk : Int) (chkF z16 (ids.take kk))) none none) (some ga) none false) (Turns.call rfl (fun _ _ h => h) (fun _ => (AwK.weak _ _ _ _ _)) (fun _ => AwK.clo) (fun wz hS => (HCA.out wz hS.t).mono fun e w' ⟨g, he, h1, h2, hb'⟩ => ⟨g, he, hS.mkC h1 h2 hb'⟩) (fun wz hS => by go_simp; try (with_reducible rfl))) (fun x : Nat => Value.pointer (some ⟨x, 0, none⟩)) (fun xa => (AwT w8 none none) none (some xa)) (fun xa => (AwK w8 [] [] (esK (sumF (zK F n) (ps.take kk))) (totL (.slice none 0 0) 0 z16) (fun g => totL (.slice (some ⟨g, 0, none⟩) n n) (kk : Int) (chkF z16 (ids.take kk))) none none) none (some xa) false) (Turns.val rfl (fun _ _ h => h) (fun _ => (AwK.weak _ _ _ _ _)) (fun _ => AwK.clo) (fun wz hS => ⟨wz.heap.size, wz.alloc (.cells #[.slice none 0 0, .int .i64 0, .int .u8 0, .int .u8 0, .int .u8 0, .int .u8 0, .int .u8 0, .int .u8 0, .int .u8 0, .int .u8 0, .int .u8 0, .int .u8 0, .int .u8 0, .int .u8 0, .int .u8 0, .int .u8 0, .int .u8 0, .int .u8 0] 76), by go_simp; try (with_reducible rfl), hS.mkD rfl⟩)) (fun ga => ?rz9_2a) (fun xa => ?rz9_2b)
  case' rz9_2a =>
   simp only [Zp, Zq, Zr, Zs]
   refine WpX.vD 8 (some 47) ?_ rfl rfl (by kernel_rfl) (fun _ _ _ h => h) rfl (fun wz hwz => ?_) ?_
   rotate_left
   ·go_simp; try (with_reducible rfl)
   simp only [Zp, Zq, Zr, Zs]
   refine WpX.vD 9 (some 56) ?_ rfl rfl (by kernel_rfl) (fun _ _ _ h => h) rfl (fun wz hwz => ?_) ?_
   rotate_left
   ·go_simp; try (with_reducible rfl)
   simp only [Zp, Zq, Zr, Zs]
   refine WpX.vD 10 (some 57) ?_ rfl rfl (by kernel_rfl) (fun _ _ _ h => h) rfl (fun wz hwz => ?_) ?_
   rotate_left
   ·go_simp; try (with_reducible rfl)
   simp only [Zp, Zq, Zr, Zs]
   refine WpX.oneD 11 (some 13) rfl rfl (by kernel_rfl) (fun x : Nat => Value.pointer (some ⟨x, 0, none⟩)) (fun xa => (AwT w8 none none) (some ga) (some xa)) (fun xa => (AwK w8 [] [] (esK (sumF (zK F n) (ps.take kk))) (totL (.slice none 0 0) 0 z16) (fun g => totL (.slice (some ⟨g, 0, none⟩) n n) (kk : Int) (chkF z16 (ids.take kk))) none none) (some ga) (some xa) false) (Turns.val rfl (fun _ _ h => h) (fun _ => (AwK.weak _ _ _ _ _)) (fun _ => AwK.clo) (fun wz hS => ⟨wz.heap.size, wz.alloc (.cells #[.slice none 0 0, .int .i64 0, .int .u8 0, .int .u8 0, .int .u8 0, .int .u8 0, .int .u8 0, .int .u8 0, .int .u8 0, .int .u8 0, .int .u8 0, .int .u8 0, .int .u8 0, .int .u8 0, .int .u8 0, .int .u8 0, .int .u8 0, .int .u8 0] 76), by go_simp; try (with_reducible rfl), hS.mkD rfl⟩)) (fun xa => ?_)
   simp only [Zp, Zq, Zr, Zs]
   refine WpX.oneSkip 12 none rfl rfl (by kernel_rfl) ((AwT w8 none none) (some ga) (some xa)) ((AwK w8 [] [] (esK (sumF (zK F n) (ps.take kk))) (totL (.slice none 0 0) 0 z16) (fun g => totL (.slice (some ⟨g, 0, none⟩) n n) (kk : Int) (chkF z16 (ids.take kk))) none none) (some ga) (some xa) true) (fun _ h => h) ((AwK.weak _ _ _ _ _)) (AwK.clo) rfl (fun wz hS => ?_) ?_
   ·(exact ⟨_, exec_store rfl (by kernel_rfl) (by kernel_rfl) (((hS.d xa rfl).2.1 rfl).storeT z16_length HLC.out.2.1 rfl), hS.put (HNL1.out _)⟩)
   simp only [Act.put]
   refine WpX.done (by kernel_rfl) (fun w9 hZ => ⟨ga, xa, rfl, ?_⟩)
   ·exact hZ
  case' rz9_2b =>
   simp only [Zp, Zq, Zr, Zs]
   refine WpX.oneD 7 (some 55) rfl rfl (by kernel_rfl) (fun g : Nat => Value.tuple #[.agg (totL (.slice (some ⟨g, 0, none⟩) n n) (kk : Int) (chkF z16 (ids.take kk))).toArray, .int .i64 0]) (fun ga => (AwT w8 none none) (some ga) (some xa)) (fun ga => (AwK w8 [] [] (esK (sumF (zK F n) (ps.take kk))) (totL (.slice none 0 0) 0 z16) (fun g => totL (.slice (some ⟨g, 0, none⟩) n n) (kk : Int) (chkF z16 (ids.take kk))) none none) (some ga) (some xa) false) (Turns.call rfl (fun _ _ h => h) (fun _ => (AwK.weak _ _ _ _ _)) (fun _ => AwK.clo) (fun wz hS => (HCA.out wz hS.t).mono fun e w' ⟨g, he, h1, h2, hb'⟩ => ⟨g, he, hS.mkC h1 h2 hb'⟩) (fun wz hS => by go_simp; try (with_reducible rfl))) (fun ga => ?_)
   simp only [Zp, Zq, Zr, Zs]
   refine WpX.vD 8 (some 47) ?_ rfl rfl (by kernel_rfl) (fun _ _ _ h => h) rfl (fun wz hwz => ?_) ?_
   rotate_left
   ·go_simp; try (with_reducible rfl)
   simp only [Zp, Zq, Zr, Zs]
   refine WpX.vD 9 (some 56) ?_ rfl rfl (by kernel_rfl) (fun _ _ _ h => h) rfl (fun wz hwz => ?_) ?_
   rotate_left
   ·go_simp; try (with_reducible rfl)
   simp only [Zp, Zq, Zr, Zs]
   refine WpX.vD 10 (some 57) ?_ rfl rfl (by kernel_rfl) (fun _ _ _ h => h) rfl (fun wz hwz => ?_) ?_
   rotate_left
   ·go_simp; try (with_reducible rfl)
   simp only [Zp, Zq, Zr, Zs]
   refine WpX.oneSkip 12 none rfl rfl (by kernel_rfl) ((AwT w8 none none) (some ga) (some xa)) ((AwK w8 [] [] (esK (sumF (zK F n) (ps.take kk))) (totL (.slice none 0 0) 0 z16) (fun g => totL (.slice (some ⟨g, 0, none⟩) n n) (kk : Int) (chkF z16 (ids.take kk))) none none) (some ga) (some xa) true) (fun _ h => h) ((AwK.weak _ _ _ _ _)) (AwK.clo) rfl (fun wz hS => ?_) ?_
   ·(exact ⟨_, exec_store rfl (by kernel_rfl) (by kernel_rfl) (((hS.d xa rfl).2.1 rfl).storeT z16_length HLC.out.2.1 rfl), hS.put (HNL1.out _)⟩)
   simp only [Act.put]
   refine WpX.done (by kernel_rfl) (fun w9 hZ => ⟨ga, xa, rfl, ?_⟩)
   ·exact hZ
 intro ga xa w9 hZ
 (try simp only [List.drop_succ_cons]); (try simp only [List.drop_zero]); (try simp only [Nat.reduceSub]); (try simp only [List.take_succ_cons]); (try simp only [List.take_zero])
 have hA := (hZ.d xa rfl).2.2 rfl ga rfl
 have hBa := (hZ.c ga rfl).2
 have HB9 := Lib.hid hZ.t
 have hb9 := hZ.t
 replace hb00 := bl_call hb00 (Nat.le_refl _) hb9
 replace hT := hT.call hb9
 replace hW := hW.call hb9
 replace hX := hX.call hb9
 replace hS := hS.call hb9
 replace hBx := hBx.call hb9
 clear hZ HTT hb9
 have HTT := Lib.hid hT
 go_upto_region 10 with fail
 apply region_Z2 (n := 13) (m := 14) (f := 13) (fun x0 x1 => (AwK w9 [] [] (esK (sumF (zK F n) (ps.drop kk))) (totL (.slice none 0 0) 0 z16) (fun g => totL (.slice (some ⟨g, 0, none⟩) n n) (nk : Int) (chkF z16 (ids.drop kk))) none none) (some x0) (some x1) true) ((AwT w9 none none) none none) ((AwK w9 [] [] (esK (sumF (zK F n) (ps.drop kk))) (totL (.slice none 0 0) 0 z16) (fun g => totL (.slice (some ⟨g, 0, none⟩) n n) (nk : Int) (chkF z16 (ids.drop kk))) none none) none none false) ((AwK.weak _ _ _ _ _)) (AwK.clo) ((AwK.start w9))
 case hm => kernel_rfl
 case hB => kernel_rfl
 case hf => rfl
 case' h =>
  refine WpX.vD 0 (some 59) ?_ rfl rfl (by kernel_rfl) (fun _ _ _ h => h) rfl (fun wz hwz => ?_) ?_
  rotate_left
  ·(have hz := (HTT.out.call hwz).get8; obtain ⟨⟨z0, z1, z2, z3, z4, z5, z6, z7⟩, ⟨y0, y1, y2, y3, y4, y5, y6, y7⟩, y8⟩ := hz; go_simp; try (with_reducible rfl))
  simp only [Zp, Zq, Zr, Zs]
  refine WpX.vD 1 (some 60) ?_ rfl rfl (by kernel_rfl) (fun _ _ _ h => h) rfl (fun wz hwz => ?_) ?_
  rotate_left
  ·go_simp; try (with_reducible rfl)
  simp only [Zp, Zq, Zr, Zs]
  refine WpX.vD 2 (some 61) ?_ rfl rfl (by kernel_rfl) (fun _ _ _ h => h) rfl (fun wz hwz => ?_) ?_
  rotate_left
  ·go_simp; try (with_reducible rfl)
  simp only [Zp, Zq, Zr, Zs]
  refine WpX.vD 3 (some 62) ?_ rfl rfl (by kernel_rfl) (fun _ _ _ h => h) rfl (fun wz hwz => ?_) ?_
  rotate_left
  ·(refine Eq.trans (exec_slice rfl (by kernel_rfl) (by kernel_rfl) (by kernel_rfl) (by kernel_rfl) (HSLA.out wz)) ?_; with_reducible rfl)
  simp only [Zp, Zq, Zr, Zs]
  refine WpX.vD 4 (some 63) ?_ rfl rfl (by kernel_rfl) (fun _ _ _ h => h) rfl (fun wz hwz => ?_) ?_
  rotate_left
  ·go_simp; try (with_reducible rfl)
  simp only [Zp, Zq, Zr, Zs]
  refine WpX.vD 5 (some 64) ?_ rfl rfl (by kernel_rfl) (fun _ _ _ h => h) rfl (fun wz hwz => ?_) ?_
  rotate_left
  ·go_simp; try (with_reducible rfl)
  simp only [Zp, Zq, Zr, Zs]
  refine WpX.vD 6 (some 65) ?_ rfl rfl (by kernel_rfl) (fun _ _ _ h => h) rfl (fun wz hwz => ?_) ?_
  rotate_left
  ·(refine Eq.trans (exec_slice rfl (by kernel_rfl) (by kernel_rfl) (by kernel_rfl) (by kernel_rfl) (HSLB.out wz)) ?_; with_reducible rfl)
  simp only [Zp, Zq, Zr, Zs]
  refine WpX.twoD 7 11 (some 66) (some 15) rfl rfl rfl rfl (by kernel_rfl) (fun g : Nat => Value.tuple #[.agg (totL (.slice (some ⟨g, 0, none⟩) n n) (nk : Int) (chkF z16 (ids.drop kk))).toArray, .int .i64 0]) (fun gb => (AwT w9 none none) (some gb) none) (fun gb => (AwK w9 [] [] (esK (sumF (zK F n) (ps.drop kk))) (totL (.slice none 0 0) 0 z16) (fun g => totL (.slice (some ⟨g, 0, none⟩) n n) (nk : Int) (chkF z16 (ids.drop kk))) none none) (some gb) none false) (Turns.call rfl (fun _ _ h => h) (fun _ => (AwK.weak _ _ _ _ _)) (fun _ => AwK.clo) (fun wz hS => (HCB.out wz (bl_call HB9.out (Nat.le_refl _) hS.t)).mono fun e w' ⟨g, he, h1, h2, hb'⟩ => ⟨g, he, hS.mkC h1 h2 hb'⟩) (fun wz hS => by go_simp; try (with_reducible rfl))) (fun x : Nat => Value.pointer (some ⟨x, 0, none⟩)) (fun xb => (AwT w9 none none) none (some xb)) (fun xb => (AwK w9 [] [] (esK (sumF (zK F n) (ps.drop kk))) (totL (.slice none 0 0) 0 z16) (fun g => totL (.slice (some ⟨g, 0, none⟩) n n) (nk : Int) (chkF z16 (ids.drop kk))) none none) none (some xb) false) (Turns.val rfl (fun _ _ h => h) (fun _ => (AwK.weak _ _ _ _ _)) (fun _ => AwK.clo) (fun wz hS => ⟨wz.heap.size, wz.alloc (.cells #[.slice none 0 0, .int .i64 0, .int .u8 0, .int .u8 0, .int .u8 0, .int .u8 0, .int .u8 0, .int .u8 0, .int .u8 0, .int .u8 0, .int .u8 0, .int .u8 0, .int .u8 0, .int .u8 0, .int .u8 0, .int .u8 0, .int .u8 0, .int .u8 0] 76), by go_simp; try (with_reducible rfl), hS.mkD rfl⟩)) (fun gb => ?rz10_4a) (fun xb => ?rz10_4b)
  case' rz10_4a =>
   simp only [Zp, Zq, Zr, Zs]
   refine WpX.vD 8 (some 58) ?_ rfl rfl (by kernel_rfl) (fun _ _ _ h => h) rfl (fun wz hwz => ?_) ?_
   rotate_left
   ·go_simp; try (with_reducible rfl)
   simp only [Zp, Zq, Zr, Zs]
   refine WpX.vD 9 (some 67) ?_ rfl rfl (by kernel_rfl) (fun _ _ _ h => h) rfl (fun wz hwz => ?_) ?_
   rotate_left
   ·go_simp; try (with_reducible rfl)
   simp only [Zp, Zq, Zr, Zs]
   refine WpX.vD 10 (some 68) ?_ rfl rfl (by kernel_rfl) (fun _ _ _ h => h) rfl (fun wz hwz => ?_) ?_
   rotate_left
   ·go_simp; try (with_reducible rfl)
   simp only [Zp, Zq, Zr, Zs]
   refine WpX.oneD 11 (some 15) rfl rfl (by kernel_rfl) (fun x : Nat => Value.pointer (some ⟨x, 0, none⟩)) (fun xb => (AwT w9 none none) (some gb) (some xb)) (fun xb => (AwK w9 [] [] (esK (sumF (zK F n) (ps.drop kk))) (totL (.slice none 0 0) 0 z16) (fun g => totL (.slice (some ⟨g, 0, none⟩) n n) (nk : Int) (chkF z16 (ids.drop kk))) none none) (some gb) (some xb) false) (Turns.val rfl (fun _ _ h => h) (fun _ => (AwK.weak _ _ _ _ _)) (fun _ => AwK.clo) (fun wz hS => ⟨wz.heap.size, wz.alloc (.cells #[.slice none 0 0, .int .i64 0, .int .u8 0, .int .u8 0, .int .u8 0, .int .u8 0, .int .u8 0, .int .u8 0, .int .u8 0, .int .u8 0, .int .u8 0, .int .u8 0, .int .u8 0, .int .u8 0, .int .u8 0, .int .u8 0, .int .u8 0, .int .u8 0] 76), by go_simp; try (with_reducible rfl), hS.mkD rfl⟩)) (fun xb => ?_)
   simp only [Zp, Zq, Zr, Zs]
   refine WpX.oneSkip 12 none rfl rfl (by kernel_rfl) ((AwT w9 none none) (some gb) (some xb)) ((AwK w9 [] [] (esK (sumF (zK F n) (ps.drop kk))) (totL (.slice none 0 0) 0 z16) (fun g => totL (.slice (some ⟨g, 0, none⟩) n n) (nk : Int) (chkF z16 (ids.drop kk))) none none) (some gb) (some xb) true) (fun _ h => h) ((AwK.weak _ _ _ _ _)) (AwK.clo) rfl (fun wz hS => ?_) ?_
   ·(exact ⟨_, exec_store rfl (by kernel_rfl) (by kernel_rfl) (((hS.d xb rfl).2.1 rfl).storeT z16_length HLC.out.2.2 rfl), hS.put (HNL2.out _)⟩)
   simp only [Act.put]
   refine WpX.done (by kernel_rfl) (fun w10 hZ => ⟨gb, xb, rfl, ?_⟩)
   ·exact hZ
  case' rz10_4b =>
   simp only [Zp, Zq, Zr, Zs]
   refine WpX.oneD 7 (some 66) rfl rfl (by kernel_rfl) (fun g : Nat => Value.tuple #[.agg (totL (.slice (some ⟨g, 0, none⟩) n n) (nk : Int) (chkF z16 (ids.drop kk))).toArray, .int .i64 0]) (fun gb => (AwT w9 none none) (some gb) (some xb)) (fun gb => (AwK w9 [] [] (esK (sumF (zK F n) (ps.drop kk))) (totL (.slice none 0 0) 0 z16) (fun g => totL (.slice (some ⟨g, 0, none⟩) n n) (nk : Int) (chkF z16 (ids.drop kk))) none none) (some gb) (some xb) false) (Turns.call rfl (fun _ _ h => h) (fun _ => (AwK.weak _ _ _ _ _)) (fun _ => AwK.clo) (fun wz hS => (HCB.out wz (bl_call HB9.out (Nat.le_refl _) hS.t)).mono fun e w' ⟨g, he, h1, h2, hb'⟩ => ⟨g, he, hS.mkC h1 h2 hb'⟩) (fun wz hS => by go_simp; try (with_reducible rfl))) (fun gb => ?_)
   simp only [Zp, Zq, Zr, Zs]
   refine WpX.vD 8 (some 58) ?_ rfl rfl (by kernel_rfl) (fun _ _ _ h => h) rfl (fun wz hwz => ?_) ?_
   rotate_left
   ·go_simp; try (with_reducible rfl)
   simp only [Zp, Zq, Zr, Zs]
   refine WpX.vD 9 (some 67) ?_ rfl rfl (by kernel_rfl) (fun _ _ _ h => h) rfl (fun wz hwz => ?_) ?_
   rotate_left
   ·go_simp; try (with_reducible rfl)
   simp only [Zp, Zq, Zr, Zs]
   refine WpX.vD 10 (some 68) ?_ rfl rfl (by kernel_rfl) (fun _ _ _ h => h) rfl (fun wz hwz => ?_) ?_
   rotate_left
   ·go_simp; try (with_reducible rfl)
   simp only [Zp, Zq, Zr, Zs]
   refine WpX.oneSkip 12 none rfl rfl (by kernel_rfl) ((AwT w9 none none) (some gb) (some xb)) ((AwK w9 [] [] (esK (sumF (zK F n) (ps.drop kk))) (totL (.slice none 0 0) 0 z16) (fun g => totL (.slice (some ⟨g, 0, none⟩) n n) (nk : Int) (chkF z16 (ids.drop kk))) none none) (some gb) (some xb) true) (fun _ h => h) ((AwK.weak _ _ _ _ _)) (AwK.clo) rfl (fun wz hS => ?_) ?_
   ·(exact ⟨_, exec_store rfl (by kernel_rfl) (by kernel_rfl) (((hS.d xb rfl).2.1 rfl).storeT z16_length HLC.out.2.2 rfl), hS.put (HNL2.out _)⟩)
   simp only [Act.put]
   refine WpX.done (by kernel_rfl) (fun w10 hZ => ⟨gb, xb, rfl, ?_⟩)
   ·exact hZ
 intro gb xb w10 hZ
 (try simp only [List.drop_succ_cons]); (try simp only [List.drop_zero]); (try simp only [Nat.reduceSub]); (try simp only [List.take_succ_cons]); (try simp only [List.take_zero])
 have hB := (hZ.d xb rfl).2.2 rfl gb rfl
 have hBb := (hZ.c gb rfl).2
 have hb10 := hZ.t
 replace hb00 := bl_call hb00 (Nat.le_refl _) hb10
 replace hT := hT.call hb10
 replace hW := hW.call hb10
 replace hX := hX.call hb10
 replace hS := hS.call hb10
 replace hBx := hBx.call hb10
 replace hA := hA.call hb10
 replace hBa := hBa.call hb10
 clear hZ HTT hb10 HCA HCB HSLA HSLB
 go_upto_region 11 with fail
 obtain ⟨⟨T0, T1, T2, T3, T4, T5, T6, T7⟩, ⟨T8, T9, T10, T11, T12, T13, T14, T15⟩, T16⟩ := hT.get8
 have hn9 : n ≤ 1000000 := HNO.out
 have hka := HKN.out
 have HC11 := Lib.hid (HMER.out (kk : Int) (nk : Int) _ _ _ _ _ _ w10 (by omega) (by omega) (by omega) HLC.out.2.1 HLC.out.2.2 (BlkE.slNn hBa HLS.out.2.1 hn9) (BlkE.slNn hBb HLS.out.2.2 hn9) HLS.out.2.1 HLS.out.2.2)
 rw [HMM.out, HK1.out, HS1.out] at HC11
 clear hka
 refine wp_region_lit ?_
 refine wpList_valD (some 70) rfl rfl (exec_load rfl (by kernel_rfl) (hA.loadT HLC.out.2.1)) ?_
 simp only [Zp, Zq, Zr, Zs]
 refine wpList_valD (some 71) rfl rfl (by (go_simp; first | with_reducible rfl | exact ⟨rfl, rfl⟩ | (trace_state; fail))) ?_
 simp only [Zp, Zq, Zr, Zs]
 refine wpList_valD (some 72) rfl rfl (exec_load rfl (by kernel_rfl) (hB.loadT HLC.out.2.2)) ?_
 simp only [Zp, Zq, Zr, Zs]
 refine wpList_callD (some 73) rfl rfl 27 _ ?_ (HC11.out) ?_
 ·go_simp; try (with_reducible rfl)
 rintro e w11 ⟨gc, rfl, hBc, hgc, hb11⟩
 refine ⟨_, rfl, ?_⟩
 simp only [Zp, Zq, Zr, Zs]
 clear T0 T1 T2 T3 T4 T5 T6 T7 T8 T9 T10 T11 T12 T13 T14 T15 T16
 replace hb00 := bl_call hb00 (Nat.le_refl _) hb11
 replace hT := hT.call hb11
 replace hW := hW.call hb11
 replace hX := hX.call hb11
 replace hS := hS.call hb11
 replace hBx := hBx.call hb11
 replace hA := hA.call hb11
 replace hBa := hBa.call hb11
 replace hB := hB.call hb11
 replace hBb := hBb.call hb11
 refine wpList_valD (some 69) rfl rfl (by (go_simp; first | with_reducible rfl | exact ⟨rfl, rfl⟩ | (trace_state; fail))) ?_
 simp only [Zp, Zq, Zr, Zs]
 refine wpList_valD (some 74) rfl rfl (by (go_simp; first | with_reducible rfl | exact ⟨rfl, rfl⟩ | (trace_state; fail))) ?_
 simp only [Zp, Zq, Zr, Zs]
 refine wpList_valD (some 75) rfl rfl (by (go_simp; first | with_reducible rfl | exact ⟨rfl, rfl⟩ | (trace_state; fail))) ?_
 simp only [Zp, Zq, Zr, Zs]
 refine wpList_valD (some 17) rfl rfl (by (skip; go_simp; first | with_reducible rfl | exact ⟨rfl, rfl⟩ | (trace_state; fail))) ?_
 simp only [Zp, Zq, Zr, Zs]
 have hC := Vs.new w11 (totL (.slice none 0 0) 0 z16) #[.slice none 0 0, .int .i64 0, .int .u8 0, .int .u8 0, .int .u8 0, .int .u8 0, .int .u8 0, .int .u8 0, .int .u8 0, .int .u8 0, .int .u8 0, .int .u8 0, .int .u8 0, .int .u8 0, .int .u8 0, .int .u8 0, .int .u8 0, .int .u8 0] 76 rfl
 have hbA := (Below.refl w11.heap.size w11).alloc (Nat.le_refl _) (.cells #[.slice none 0 0, .int .i64 0, .int .u8 0, .int .u8 0, .int .u8 0, .int .u8 0, .int .u8 0, .int .u8 0, .int .u8 0, .int .u8 0, .int .u8 0, .int .u8 0, .int .u8 0, .int .u8 0, .int .u8 0, .int .u8 0, .int .u8 0, .int .u8 0] 76)
 have hst := hC.storeT (k := (chkF z16 ids)) (v := .slice (some ⟨gc, 0, none⟩) n n) (m := (N : Int)) z16_length HLC.out.1 rfl
 refine wpList_skipD rfl rfl (exec_store rfl (by kernel_rfl) (by kernel_rfl) hst) ?_
 refine wpList_valD (some 18) rfl rfl (by (go_simp; first | with_reducible rfl | exact ⟨rfl, rfl⟩ | (trace_state; fail))) ?_
 simp only [Zp, Zq, Zr, Zs]
 replace hC := hC.setT (k := (chkF z16 ids)) (v := .slice (some ⟨gc, 0, none⟩) n n) (m := (N : Int)) z16_length HLC.out.1
 have hbC := bl_setCells hbA (Nat.le_refl _) 0 (totL (.slice (some ⟨gc, 0, none⟩) n n) (N : Int) (chkF z16 ids))
 replace hb00 := bl_call hb00 (Nat.le_refl _) hbC
 replace hT := hT.call hbC
 replace hW := hW.call hbC
 replace hX := hX.call hbC
 replace hS := hS.call hbC
 replace hBx := hBx.call hbC
 replace hA := hA.call hbC
 replace hBa := hBa.call hbC
 replace hB := hB.call hbC
 replace hBb := hBb.call hbC
 replace hBc := hBc.call hbC
 clear hst hbA hbC
 generalize (w11.alloc (.cells #[.slice none 0 0, .int .i64 0, .int .u8 0, .int .u8 0, .int .u8 0, .int .u8 0, .int .u8 0, .int .u8 0, .int .u8 0, .int .u8 0, .int .u8 0, .int .u8 0, .int .u8 0, .int .u8 0, .int .u8 0, .int .u8 0, .int .u8 0, .int .u8 0] 76)).setCells w11.heap.size 0 (totL (.slice (some ⟨gc, 0, none⟩) n n) (N : Int) (chkF z16 ids)) = w12 at hC hB hBb hBc hA hBa hX hW hBx hS hT hb00 ⊢
 obtain ⟨xc, hxc⟩ : ∃ z, w11.heap.size = z := ⟨_, rfl⟩
 rw [hxc] at hC
 simp only [hxc]
 clear hxc hb11 hgc HC11
 go_upto_region 12 with fail
 obtain ⟨⟨T0, T1, T2, T3, T4, T5, T6, T7⟩, ⟨T8, T9, T10, T11, T12, T13, T14, T15⟩, T16⟩ := hT.get8
 have hka := HKN.out
 have HC12 := Lib.hid (HMER.out (nk : Int) (kk : Int) _ _ _ _ _ _ w12 (by omega) (by omega) (by omega) HLC.out.2.2 HLC.out.2.1 (BlkE.slNn hBb HLS.out.2.2 hn9) (BlkE.slNn hBa HLS.out.2.1 hn9) HLS.out.2.2 HLS.out.2.1)
 rw [HMN.out, HK2.out, HS2.out] at HC12
 clear hka
 refine wp_region_lit ?_
 refine wpList_valD (some 77) rfl rfl (exec_load rfl (by kernel_rfl) (hB.loadT HLC.out.2.2)) ?_
 simp only [Zp, Zq, Zr, Zs]
 refine wpList_valD (some 78) rfl rfl (by (go_simp; first | with_reducible rfl | exact ⟨rfl, rfl⟩ | (trace_state; fail))) ?_
 simp only [Zp, Zq, Zr, Zs]
 refine wpList_valD (some 79) rfl rfl (exec_load rfl (by kernel_rfl) (hA.loadT HLC.out.2.1)) ?_
 simp only [Zp, Zq, Zr, Zs]
 refine wpList_callD (some 80) rfl rfl 27 _ ?_ (HC12.out) ?_
 ·go_simp; try (with_reducible rfl)
 rintro e w13 ⟨gd, rfl, hBd, hgd, hb13⟩
 refine ⟨_, rfl, ?_⟩
 simp only [Zp, Zq, Zr, Zs]
 clear T0 T1 T2 T3 T4 T5 T6 T7 T8 T9 T10 T11 T12 T13 T14 T15 T16
 replace hb00 := bl_call hb00 (Nat.le_refl _) hb13
 replace hT := hT.call hb13
 replace hW := hW.call hb13
 replace hX := hX.call hb13
 replace hS := hS.call hb13
 replace hBx := hBx.call hb13
 replace hA := hA.call hb13
 replace hBa := hBa.call hb13
 replace hB := hB.call hb13
 replace hBb := hBb.call hb13
 replace hC := hC.call hb13
 replace hBc := hBc.call hb13
 refine wpList_valD (some 76) rfl rfl (by (go_simp; first | with_reducible rfl | exact ⟨rfl, rfl⟩ | (trace_state; fail))) ?_
 simp only [Zp, Zq, Zr, Zs]
 refine wpList_valD (some 81) rfl rfl (by (go_simp; first | with_reducible rfl | exact ⟨rfl, rfl⟩ | (trace_state; fail))) ?_
 simp only [Zp, Zq, Zr, Zs]
 refine wpList_valD (some 82) rfl rfl (by (go_simp; first | with_reducible rfl | exact ⟨rfl, rfl⟩ | (trace_state; fail))) ?_
 simp only [Zp, Zq, Zr, Zs]
 refine wpList_valD (some 19) rfl rfl (by (skip; go_simp; first | with_reducible rfl | exact ⟨rfl, rfl⟩ | (trace_state; fail))) ?_
 simp only [Zp, Zq, Zr, Zs]
 have hD := Vs.new w13 (totL (.slice none 0 0) 0 z16) #[.slice none 0 0, .int .i64 0, .int .u8 0, .int .u8 0, .int .u8 0, .int .u8 0, .int .u8 0, .int .u8 0, .int .u8 0, .int .u8 0, .int .u8 0, .int .u8 0, .int .u8 0, .int .u8 0, .int .u8 0, .int .u8 0, .int .u8 0, .int .u8 0] 76 rfl
 have hbA := (Below.refl w13.heap.size w13).alloc (Nat.le_refl _) (.cells #[.slice none 0 0, .int .i64 0, .int .u8 0, .int .u8 0, .int .u8 0, .int .u8 0, .int .u8 0, .int .u8 0, .int .u8 0, .int .u8 0, .int .u8 0, .int .u8 0, .int .u8 0, .int .u8 0, .int .u8 0, .int .u8 0, .int .u8 0, .int .u8 0] 76)
 have hst := hD.storeT (k := (chkF z16 ids)) (v := .slice (some ⟨gd, 0, none⟩) n n) (m := (N : Int)) z16_length HLC.out.1 rfl
 refine wpList_skipD rfl rfl (exec_store rfl (by kernel_rfl) (by kernel_rfl) hst) ?_
 refine wpList_valD (some 20) rfl rfl (by (go_simp; first | with_reducible rfl | exact ⟨rfl, rfl⟩ | (trace_state; fail))) ?_
 simp only [Zp, Zq, Zr, Zs]
 replace hD := hD.setT (k := (chkF z16 ids)) (v := .slice (some ⟨gd, 0, none⟩) n n) (m := (N : Int)) z16_length HLC.out.1
 have hbC := bl_setCells hbA (Nat.le_refl _) 0 (totL (.slice (some ⟨gd, 0, none⟩) n n) (N : Int) (chkF z16 ids))
 replace hb00 := bl_call hb00 (Nat.le_refl _) hbC
 replace hW := hW.call hbC
 replace hX := hX.call hbC
 replace hS := hS.call hbC
 replace hBx := hBx.call hbC
 replace hA := hA.call hbC
 replace hBa := hBa.call hbC
 replace hB := hB.call hbC
 replace hBb := hBb.call hbC
 replace hC := hC.call hbC
 replace hBc := hBc.call hbC
 replace hBd := hBd.call hbC
 clear hst hbA hbC
 generalize (w13.alloc (.cells #[.slice none 0 0, .int .i64 0, .int .u8 0, .int .u8 0, .int .u8 0, .int .u8 0, .int .u8 0, .int .u8 0, .int .u8 0, .int .u8 0, .int .u8 0, .int .u8 0, .int .u8 0, .int .u8 0, .int .u8 0, .int .u8 0, .int .u8 0, .int .u8 0] 76)).setCells w13.heap.size 0 (totL (.slice (some ⟨gd, 0, none⟩) n n) (N : Int) (chkF z16 ids)) = w14 at hD hC hB hBb hBc hBd hA hBa hX hW hBx hS hb00 ⊢
 obtain ⟨xd, hxd⟩ : ∃ z, w13.heap.size = z := ⟨_, rfl⟩
 rw [hxd] at hD
 simp only [hxd]
 clear hxd hb13 hgd HC12 hT
 go_upto_region 15 with fail
 have HSME : Hid (∀ (g : Nat) wz, Below w14.heap.size w14 wz → BlkE w14 g (esK (sumF (zK F n) ps)) → Calls Try.prog 28 #[.agg (totL (.slice (some ⟨g, 0, none⟩) n n) (N : Int) (chkF z16 ids)).toArray, .agg (totL (.slice (some ⟨gS, 0, none⟩) n n) (N : Int) (chkF z16 ids)).toArray] wz fun e w' => e = .returned (.bool true) ∧ Below wz.heap.size wz w') :=
  fun g wz hb h => total_Same _ _ (esK (sumF (zK F n) ps)) _ _ HLC.out.1 wz ((BlkE.slNn h HLS.out.1 hn9).later hb).toE ((RwK.sl hS HLS.out.1 (Nat.le_refl _) (by omega)).later hb).toE
 have HSMF : Hid (∀ wz, Below w14.heap.size w14 wz → Calls Try.prog 30 #[.agg (totL (.slice (some ⟨gx, 0, none⟩) n n) (N : Int) (chkF z16 ids)).toArray, .agg (totL (.slice (some ⟨gS, 0, none⟩) n n) (N : Int) (chkF z16 ids)).toArray] wz fun e w' => e = .returned (.bool true) ∧ Below wz.heap.size wz w') :=
  fun wz hb => law15_same _ _ (esK (sumF (zK F n) ps)) _ _ HLC.out.1 wz ((BlkE.slNn hBx HLS.out.1 hn9).later hb).toE ((RwK.sl hS HLS.out.1 (Nat.le_refl _) (by omega)).later hb).toE
 have HWI : Hid (∀ wz, Calls Try.prog 29 #[.agg (cells8 (chkF z16 (ids.take kk))).toArray, .agg (cells8 (chkF z16 (ids.drop kk))).toArray] wz fun e w' => e = .returned (.agg (cells8 (chkF z16 ids)).toArray) ∧ Below wz.heap.size wz w') := fun wz => by
  have h := total_With _ _ HLC.out.2.1 HLC.out.2.2 wz
  rwa [HK1.out] at h
 have HEQ : Hid (∀ wz, (Op.equalIn 10000 74 (.agg (cells8 (chkF z16 ids)).toArray) (.agg (cells8 (chkF z16 ids)).toArray)).run Try.prog wz = .ok true wz) := fun wz => by
  rw [run_equalIn_16 9998 Try.underlying74 HLC.out.1 HLC.out.1]
  simp
 have HQ1 := Lib.hid hW
 have HQ2 := Lib.hid hX
 have HQ3 := Lib.hid hC
 have HQ4 := Lib.hid hD
 have HQ5 := Lib.hid hA
 have HQ6 := Lib.hid hB
 have HQ7 := Lib.hid hBx
 have HQ8 := Lib.hid hBc
 have HQ9 := Lib.hid hBd
 clear hW hX hC hD hA hB hBx hBc hBd hBa hBb hS
 refine region_G (n := 28) (m := 29) (f := 28) (by kernel_rfl) (by kernel_rfl) rfl ?_
 refine WpG.vD 0 (some 101) ?_ rfl rfl (by kernel_rfl) (fun _ _ _ h => h) rfl (fun wz hwz => ?_) ?_
 rotate_left
 ·(refine Eq.trans (exec_load rfl (by kernel_rfl) ((HQ2.out.call (hwz)).loadT HLC.out.1)) ?_; with_reducible rfl)
 simp only [Zp, Zq, Zr, Zs]
 refine WpG.vD 1 (some 102) ?_ rfl rfl (by kernel_rfl) (fun _ _ _ h => h) rfl (fun wz hwz => ?_) ?_
 rotate_left
 ·(refine Eq.trans (exec_load rfl (by kernel_rfl) ((HQ1.out.call (hwz)).loadT HLC.out.1)) ?_; with_reducible rfl)
 simp only [Zp, Zq, Zr, Zs]
 refine WpG.takeD 2 (some 103) rfl rfl (by kernel_rfl) (fun _ _ _ h => h) (.call rfl (fun wz hwz => HSME.out gx wz (hwz) HQ7.out) (fun wz hwz => ?_)) ?_
 ·go_simp; try (with_reducible rfl)
 simp only [Zp, Zq, Zr, Zs]
 refine WpG.vD 3 (some 104) ?_ rfl rfl (by kernel_rfl) (fun _ _ _ h => h) rfl (fun wz hwz => ?_) ?_
 rotate_left
 ·go_simp; try (with_reducible rfl)
 simp only [Zp, Zq, Zr, Zs]
 refine WpG.vD 4 (some 105) ?_ rfl rfl (by kernel_rfl) (fun _ _ _ h => h) rfl (fun wz hwz => ?_) ?_
 rotate_left
 ·(refine Eq.trans (exec_load rfl (by kernel_rfl) ((HQ3.out.call (hwz)).loadT HLC.out.1)) ?_; with_reducible rfl)
 simp only [Zp, Zq, Zr, Zs]
 refine WpG.vD 5 (some 106) ?_ rfl rfl (by kernel_rfl) (fun _ _ _ h => h) rfl (fun wz hwz => ?_) ?_
 rotate_left
 ·(refine Eq.trans (exec_load rfl (by kernel_rfl) ((HQ1.out.call (hwz)).loadT HLC.out.1)) ?_; with_reducible rfl)
 simp only [Zp, Zq, Zr, Zs]
 refine WpG.takeD 6 (some 107) rfl rfl (by kernel_rfl) (fun _ _ _ h => h) (.call rfl (fun wz hwz => HSME.out gc wz (hwz) HQ8.out) (fun wz hwz => ?_)) ?_
 ·go_simp; try (with_reducible rfl)
 simp only [Zp, Zq, Zr, Zs]
 refine WpG.vD 7 (some 108) ?_ rfl rfl (by kernel_rfl) (fun _ _ _ h => h) rfl (fun wz hwz => ?_) ?_
 rotate_left
 ·go_simp; try (with_reducible rfl)
 simp only [Zp, Zq, Zr, Zs]
 refine WpG.vD 8 (some 109) ?_ rfl rfl (by kernel_rfl) (fun _ _ _ h => h) rfl (fun wz hwz => ?_) ?_
 rotate_left
 ·go_simp; try (with_reducible rfl)
 simp only [Zp, Zq, Zr, Zs]
 refine WpG.vD 9 (some 110) ?_ rfl rfl (by kernel_rfl) (fun _ _ _ h => h) rfl (fun wz hwz => ?_) ?_
 rotate_left
 ·(refine Eq.trans (exec_load rfl (by kernel_rfl) ((HQ4.out.call (hwz)).loadT HLC.out.1)) ?_; with_reducible rfl)
 simp only [Zp, Zq, Zr, Zs]
 refine WpG.vD 10 (some 111) ?_ rfl rfl (by kernel_rfl) (fun _ _ _ h => h) rfl (fun wz hwz => ?_) ?_
 rotate_left
 ·(refine Eq.trans (exec_load rfl (by kernel_rfl) ((HQ1.out.call (hwz)).loadT HLC.out.1)) ?_; with_reducible rfl)
 simp only [Zp, Zq, Zr, Zs]
 refine WpG.takeD 11 (some 112) rfl rfl (by kernel_rfl) (fun _ _ _ h => h) (.call rfl (fun wz hwz => HSME.out gd wz (hwz) HQ9.out) (fun wz hwz => ?_)) ?_
 ·go_simp; try (with_reducible rfl)
 simp only [Zp, Zq, Zr, Zs]
 refine WpG.vD 12 (some 113) ?_ rfl rfl (by kernel_rfl) (fun _ _ _ h => h) rfl (fun wz hwz => ?_) ?_
 rotate_left
 ·go_simp; try (with_reducible rfl)
 simp only [Zp, Zq, Zr, Zs]
 refine WpG.vD 13 (some 114) ?_ rfl rfl (by kernel_rfl) (fun _ _ _ h => h) rfl (fun wz hwz => ?_) ?_
 rotate_left
 ·go_simp; try (with_reducible rfl)
 simp only [Zp, Zq, Zr, Zs]
 refine WpG.vD 14 (some 115) ?_ rfl rfl (by kernel_rfl) (fun _ _ _ h => h) rfl (fun wz hwz => ?_) ?_
 rotate_left
 ·go_simp; try (with_reducible rfl)
 simp only [Zp, Zq, Zr, Zs]
 refine WpG.vD 15 (some 116) ?_ rfl rfl (by kernel_rfl) (fun _ _ _ h => h) rfl (fun wz hwz => ?_) ?_
 rotate_left
 ·(refine Eq.trans (exec_load rfl (by kernel_rfl) ((HQ5.out.call (hwz)).loadTC HLC.out.2.1)) ?_; with_reducible rfl)
 simp only [Zp, Zq, Zr, Zs]
 refine WpG.vD 16 (some 117) ?_ rfl rfl (by kernel_rfl) (fun _ _ _ h => h) rfl (fun wz hwz => ?_) ?_
 rotate_left
 ·go_simp; try (with_reducible rfl)
 simp only [Zp, Zq, Zr, Zs]
 refine WpG.vD 17 (some 118) ?_ rfl rfl (by kernel_rfl) (fun _ _ _ h => h) rfl (fun wz hwz => ?_) ?_
 rotate_left
 ·(refine Eq.trans (exec_load rfl (by kernel_rfl) ((HQ6.out.call (hwz)).loadTC HLC.out.2.2)) ?_; with_reducible rfl)
 simp only [Zp, Zq, Zr, Zs]
 refine WpG.takeD 18 (some 119) rfl rfl (by kernel_rfl) (fun _ _ _ h => h) (.call rfl (fun wz hwz => HWI.out wz) (fun wz hwz => ?_)) ?_
 ·go_simp; try (with_reducible rfl)
 simp only [Zp, Zq, Zr, Zs]
 refine WpG.vD 19 (some 120) ?_ rfl rfl (by kernel_rfl) (fun _ _ _ h => h) rfl (fun wz hwz => ?_) ?_
 rotate_left
 ·go_simp; try (with_reducible rfl)
 simp only [Zp, Zq, Zr, Zs]
 refine WpG.vD 20 (some 121) ?_ rfl rfl (by kernel_rfl) (fun _ _ _ h => h) rfl (fun wz hwz => ?_) ?_
 rotate_left
 ·(refine Eq.trans (exec_load rfl (by kernel_rfl) ((HQ1.out.call (hwz)).loadTC HLC.out.1)) ?_; with_reducible rfl)
 simp only [Zp, Zq, Zr, Zs]
 refine WpG.vD 21 (some 122) ?_ rfl rfl (by kernel_rfl) (fun _ _ _ h => h) rfl (fun wz hwz => ?_) ?_
 rotate_left
 ·(obtain ⟨hcz, hfz⟩ := bcell (hwz); have hz := HEQ.out wz; go_simp; try (with_reducible rfl))
 simp only [Zp, Zq, Zr, Zs]
 refine WpG.vD 22 (some 123) ?_ rfl rfl (by kernel_rfl) (fun _ _ _ h => h) rfl (fun wz hwz => ?_) ?_
 rotate_left
 ·go_simp; try (with_reducible rfl)
 simp only [Zp, Zq, Zr, Zs]
 refine WpG.vD 23 (some 124) ?_ rfl rfl (by kernel_rfl) (fun _ _ _ h => h) rfl (fun wz hwz => ?_) ?_
 rotate_left
 ·go_simp; try (with_reducible rfl)
 simp only [Zp, Zq, Zr, Zs]
 refine WpG.vD 24 (some 125) ?_ rfl rfl (by kernel_rfl) (fun _ _ _ h => h) rfl (fun wz hwz => ?_) ?_
 rotate_left
 ·(refine Eq.trans (exec_load rfl (by kernel_rfl) ((HQ2.out.call (hwz)).loadT HLC.out.1)) ?_; with_reducible rfl)
 simp only [Zp, Zq, Zr, Zs]
 refine WpG.vD 25 (some 126) ?_ rfl rfl (by kernel_rfl) (fun _ _ _ h => h) rfl (fun wz hwz => ?_) ?_
 rotate_left
 ·(refine Eq.trans (exec_load rfl (by kernel_rfl) ((HQ1.out.call (hwz)).loadT HLC.out.1)) ?_; with_reducible rfl)
 simp only [Zp, Zq, Zr, Zs]
 refine WpG.takeD 26 (some 127) rfl rfl (by kernel_rfl) (fun _ _ _ h => h) (.call rfl (fun wz hwz => HSMF.out wz (hwz)) (fun wz hwz => ?_)) ?_
 ·go_simp; try (with_reducible rfl)
 simp only [Zp, Zq, Zr, Zs]
 refine WpG.vD 27 (some 128) ?_ rfl rfl (by kernel_rfl) (fun _ _ _ h => h) rfl (fun wz hwz => ?_) ?_
 rotate_left
 ·go_simp; try (with_reducible rfl)
 simp only [Zp, Zq, Zr, Zs]
 refine WpG.done (by kernel_rfl) (fun w15 hZ => ?_)
 (try simp only [List.drop_succ_cons]); (try simp only [List.drop_zero]); (try simp only [Nat.reduceSub]); (try simp only [List.take_succ_cons]); (try simp only [List.take_zero])
 replace hb00 := bl_call hb00 (Nat.le_refl _) hZ
 clear hZ
 go_upto_region 99 with fail
 go_ret
 exact ⟨rfl, hb00⟩

end Go.Proofs.Ytbakkmfjamcbfaa
