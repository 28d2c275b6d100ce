/-
 UnC: for TotalUnshards.
-/
import Derived.BigQuiet
import Derived.Deep.DeepCutAuto
import Derived.Test.YtbakkmfjamcbfaaRaf
namespace Go.Proofs.Ytbakkmfjamcbfaa
open Go.RowKit Fm
set_option linter.unusedVariables false
set_option maxRecDepth 100000

theorem tgt_len9 {y : CK} {ms : List Nat} (hl : ms.length = y.meas) : (tgt y ms).length = y.nout := by
 cases y with
 | hist l c => exact encOne_length l _
 | count => exact hl
 | sum b => exact hl
 | vec b l c => exact hl
 | multi l m c => exact hl
theorem nEs_get {l : List Nat} {i n : Nat} (h : l[i]? = some n) : (nEs l)[i]? = some ((n : Int), 0) := by unfold nEs; rw [List.getElem?_map, h]; rfl
theorem X8_self (a : Int) : X8 a a = 0 := by rw [X8_eq, BitVec.xor_self]; rfl
theorem X8_ne {a z : Int} (hz : 1 ≤ z ∧ z ≤ 255) : X8 a z ≠ a := by
 intro h
 have h1 := X8_assoc a a z
 rw [h, X8_self, X8_zero ⟨by omega, hz.2⟩] at h1
 omega
theorem tgt_most {y : CK} {ms : List Nat} (h : okEnc y ms) : ∀ x, x ∈ tgt y ms → x ≤ y.most := by
 intro x hx
 cases y with
 | count => exact h x hx
 | sum b =>
  have h1 : x < 2 ^ b := h x hx
  show x ≤ 2 ^ b - 1
  omega
 | vec b l c =>
  have h1 : x < 2 ^ b := h x hx
  show x ≤ 2 ^ b - 1
  omega
 | hist l c => exact encOne_le l _ x hx
 | multi l m c => exact h.1 x hx
theorem CK.most_small {y : CK} (h : y.small) : y.most ≤ 4096 := by
 have h1 := h.nin
 have hok := h.ok
 have key : ∀ b, b ≤ 12 → 2 ^ b - 1 ≤ 4096 := fun b hb => by
  have := Nat.pow_le_pow_right (n := 2) (by omega) hb
  have e : (2 : Nat) ^ 12 = 4096 := rfl
  omega
 cases y with
 | count => show 1 ≤ 4096; omega
 | sum b => exact key b h1
 | vec b l c =>
  refine key b ?_
  have h2 : l * b ≤ 12 := h1
  have h3 : 1 ≤ l := hok.2.1.1
  have := Nat.mul_le_mul_right b h3
  omega
 | hist l c => show 1 ≤ 4096; omega
 | multi l m c => show 1 ≤ 4096; omega

structure UnI (w0 : World) {f : Nat} (n xa xb gw : Nat) (ia ib : Int) (Ka Kb : List Int) (SA SB : KL f) (T : List Nat) (ga gb : Nat) (wr : World) : Prop where
 t : Below w0.heap.size w0 wr
 a : Vs wr xa (totL (.slice (some ⟨ga, 0, none⟩) n n) ia Ka)
 b : Vs wr xb (totL (.slice (some ⟨gb, 0, none⟩) n n) ib Kb)
 ra : BlkE wr ga (esK SA)
 rb : BlkE wr gb (esK SB)
 v : Vs wr gw (cellsU (natsI T))
 lt : w0.heap.size ≤ xa ∧ w0.heap.size ≤ xb ∧ w0.heap.size ≤ gw ∧ xa ≠ xb ∧ xa ≠ gw ∧ xb ≠ gw ∧ ga ≠ gw ∧ gb ≠ gw ∧ ga ≠ xa ∧ ga ≠ xb ∧ gb ≠ xa ∧ gb ≠ xb
section
variable {w0 wr w' : World} {f n xa xb gw ga gb : Nat} {ia ib : Int} {Ka Kb : List Int} {SA SB : KL f} {T : List Nat}
theorem UnI.call (h : UnI w0 n xa xb gw ia ib Ka Kb SA SB T ga gb wr) (hb : Below wr.heap.size wr w') : UnI w0 n xa xb gw ia ib Ka Kb SA SB T ga gb w' :=
 ⟨bl_call h.t (Nat.le_refl _) hb, h.a.call hb, h.b.call hb, h.ra.call hb, h.rb.call hb, h.v.call hb, h.lt⟩
theorem UnI.put (h : UnI w0 n xa xb gw ia ib Ka Kb SA SB T ga gb wr) {j : Nat} (hj : j < T.length) (x : Nat) : UnI w0 n xa xb gw ia ib Ka Kb SA SB (T.set j x) ga gb (wr.setCell ⟨gw, j, none⟩ (.int .u64 (x : Int))) := by
 obtain ⟨l1, l2, l3, l4, l5, l6, l7, l8, l9, l10, l11, l12⟩ := h.lt
 exact ⟨bl_set (p := ⟨gw, j, none⟩) h.t (by dsimp only; omega) _, h.a.far (p := ⟨gw, j, none⟩) (by dsimp only; omega) _, h.b.far (p := ⟨gw, j, none⟩) (by dsimp only; omega) _, h.ra.far1 (by omega) _, h.rb.far1 (by omega) _, h.v.numPut hj x, l1, l2, l3, l4, l5, l6, l7, l8, l9, l10, l11, l12⟩
theorem UnI.row {T2 : List Nat} (h : UnI w0 n xa xb gw ia ib Ka Kb SA SB T ga gb wr) (hx : Exc (fun q => q = gw) wr.heap.size wr w') (hv : Vs w' gw (cellsU (natsI T2))) : UnI w0 n xa xb gw ia ib Ka Kb SA SB T2 ga gb w' := by
 obtain ⟨l1, l2, l3, l4, l5, l6, l7, l8, l9, l10, l11, l12⟩ := h.lt
 exact ⟨h.t.trans (Exc.below (hx.mono h.t.size) (fun q hq (e : q = gw) => by omega)), h.a.exc (fun e : xa = gw => by omega) hx, h.b.exc (fun e : xb = gw => by omega) hx, h.ra.exc (fun e : ga = gw => by omega) hx, h.rb.exc (fun e : gb = gw => by omega) hx, hv, l1, l2, l3, l4, l5, l6, l7, l8, l9, l10, l11, l12⟩
theorem UnI.setA {g2 : Nat} {i2 : Int} {K2 : List Int} {S2 : KL f} (h : UnI w0 n xa xb gw ia ib Ka Kb SA SB T ga gb wr) (hx : Exc (fun q => q = xa) wr.heap.size wr w') (ha : Vs w' xa (totL (.slice (some ⟨g2, 0, none⟩) n n) i2 K2)) (hr : BlkE w' g2 (esK S2)) (hg : wr.heap.size ≤ g2) : UnI w0 n xa xb gw i2 ib K2 Kb S2 SB T g2 gb w' := by
 obtain ⟨l1, l2, l3, l4, l5, l6, l7, l8, l9, l10, l11, l12⟩ := h.lt
 have k1 := h.a.lt
 have k2 := h.b.lt
 have k3 := h.v.lt
 exact ⟨h.t.trans (Exc.below (hx.mono h.t.size) (fun q hq (e : q = xa) => by omega)), ha, h.b.exc (fun e : xb = xa => by omega) hx, hr, h.rb.exc (fun e : gb = xa => by omega) hx, h.v.exc (fun e : gw = xa => by omega) hx, l1, l2, l3, l4, l5, l6, by omega, l8, by omega, by omega, l11, l12⟩
theorem UnI.setB {g2 : Nat} {i2 : Int} {K2 : List Int} {S2 : KL f} (h : UnI w0 n xa xb gw ia ib Ka Kb SA SB T ga gb wr) (hx : Exc (fun q => q = xb) wr.heap.size wr w') (ha : Vs w' xb (totL (.slice (some ⟨g2, 0, none⟩) n n) i2 K2)) (hr : BlkE w' g2 (esK S2)) (hg : wr.heap.size ≤ g2) : UnI w0 n xa xb gw ia i2 Ka K2 SA S2 T ga g2 w' := by
 obtain ⟨l1, l2, l3, l4, l5, l6, l7, l8, l9, l10, l11, l12⟩ := h.lt
 have k1 := h.a.lt
 have k2 := h.b.lt
 have k3 := h.v.lt
 exact ⟨h.t.trans (Exc.below (hx.mono h.t.size) (fun q hq (e : q = xb) => by omega)), h.a.exc (fun e : xa = xb => by omega) hx, ha, h.ra.exc (fun e : ga = xb => by omega) hx, hr, h.v.exc (fun e : gw = xb => by omega) hx, l1, l2, l3, l4, l5, l6, l7, by omega, l9, l10, by omega, by omega⟩
theorem UnI.lts (h : UnI w0 n xa xb gw ia ib Ka Kb SA SB T ga gb wr) : w0.heap.size ≤ wr.heap.size ∧ xa < wr.heap.size ∧ xb < wr.heap.size ∧ gw < wr.heap.size ∧ ga < wr.heap.size ∧ gb < wr.heap.size :=
 ⟨h.t.size, h.a.lt, h.b.lt, h.v.lt, h.ra.lt, h.rb.lt⟩
theorem UnI.off {d : Nat} (h : UnI w0 n xa xb gw ia ib Ka Kb SA SB T ga gb wr) (hd : w0.heap.size ≤ d ∧ xa < d ∧ xb < d ∧ gw < d ∧ ga < d ∧ gb < d) (i : Nat) (x : Value) : UnI w0 n xa xb gw ia ib Ka Kb SA SB T ga gb (wr.setCell ⟨d, i, none⟩ x) := by
 obtain ⟨d0, d1, d2, d3, d4, d5⟩ := hd
 exact ⟨bl_set (p := ⟨d, i, none⟩) h.t d0 _, h.a.far (p := ⟨d, i, none⟩) (by dsimp only; omega) _, h.b.far (p := ⟨d, i, none⟩) (by dsimp only; omega) _, h.ra.far1 (by omega) _, h.rb.far1 (by omega) _, h.v.far (p := ⟨d, i, none⟩) (by dsimp only; omega) _, h.lt⟩
theorem un_zeros (f n : Nat) : esK (zK f n) = List.replicate n (0, 0) := by
 unfold esK zK
 rw [List.map_replicate, eK_zero]
end

set_option maxHeartbeats 16000000 in
theorem walk_TotalUnshards (k f b l m c p t : Int) (vms vl : Value) (mrows : List (List Value)) (ids : List (List Int)) (us : List Value) (ess : List (List E)) (N : Nat) (oid : List Int) (w : World) (hk : 0 ≤ k ∧ k ≤ 255) (hf : 0 ≤ f ∧ f ≤ 255) (hb : 0 ≤ b ∧ b ≤ 255) (hl : 0 ≤ l ∧ l ≤ 255) (hm : 0 ≤ m ∧ m ≤ 255) (hc : 0 ≤ c ∧ c ≤ 255) (hp : 0 ≤ p ∧ p ≤ 255) (ht : 0 ≤ t ∧ t ≤ 255)
  (hil : ids.length = N) (hul : us.length = N) (hesN : ess.length = N) (hid : ∀ x, x ∈ ids → x.length = 16 ∧ B8 x) (hus : ∀ (i : Nat) (u : Value) (es : List E), us[i]? = some u → ess[i]? = some es → SlE w w.heap.size u es) (hsl : SlR w w.heap.size vl 17 (List.zipWith repL ids us))
  (hms : SlR w w.heap.size vms 1 mrows) (hmr : ∀ r, r ∈ mrows → ∃ (u : Value) (xs : List Int), r = [u] ∧ SlU w w.heap.size u xs) (hol : oid.length = 16) (ho8 : B8 oid) :
  Calls Try.prog 7 #[.agg #[.int .u8 k, .int .u8 f, .int .u8 b, .int .u8 l, .int .u8 m, .int .u8 c, .int .u8 p, .int .u8 t], vms, vl, .agg (cells8 oid).toArray] w fun e w' => e = .returned (.bool true) ∧ Below w.heap.size w w' := by
 obtain ⟨F, y, s, hF, hy, hs32, hTSK⟩ := law13_Task k f b l m c p t hk hf hb hl hm hc hp ht
 obtain ⟨pq, hpq, hpq1, hpq3⟩ : ∃ q : Int, 1 + p % 3 = q ∧ 1 ≤ q ∧ q ≤ 3 := ⟨_, rfl, by omega, by omega⟩
 rw [hpq] at hTSK
 have HTSK := Lib.hid hTSK
 have HAW := Lib.hid law15_Awake
 have hok := hy.ok
 have hcl : y.calls ≤ 511 := by have := hy.calls; omega
 have hno : y.nout ≤ 70 := by
  have h1 := CK.nout_le hok
  omega
 have hnin : y.nin ≤ 12 := hy.nin
 obtain ⟨MO, hMO⟩ : ∃ z, y.most = z := ⟨_, rfl⟩
 have hmo : MO ≤ 4096 := by rw [← hMO]; exact CK.most_small hy
 have HC : ∀ wz, Calls Try.prog 43 #[.agg #[.int .u8 ((y.k : Nat) : Int), .int .u8 (F : Int), .int .i64 ((y.b : Nat) : Int), .int .i64 ((y.l : Nat) : Int), .int .i64 ((y.m : Nat) : Int), .int .i64 ((y.c : Nat) : Int), .int .i64 pq, .string s]] wz (RetC 0 wz) := fun wz => small_code (by omega) hok hF pq ⟨hpq1, hpq3⟩ s hs32 wz
 have HO : ∀ wz, Calls Try.prog 32 #[.agg #[.int .u8 ((y.k : Nat) : Int), .int .u8 (F : Int), .int .i64 ((y.b : Nat) : Int), .int .i64 ((y.l : Nat) : Int), .int .i64 ((y.m : Nat) : Int), .int .i64 ((y.c : Nat) : Int)]] wz (RetI y.nout wz) := fun wz => circuit_Out F y hok wz
 have hzl : (List.zipWith repL ids us).length = N := by rw [List.length_zipWith, hil, hul, Nat.min_self]
 have HSL0 := Lib.hid hsl
 obtain ⟨A0, ca, hA0, hca, hcam, hA⟩ := hsl
 rw [hzl] at hA0 hca hA
 subst hA0
 obtain ⟨Am, cm, hAm0, hcm1, hcmm, hAm⟩ := hms
 subst hAm0
 by_cases hbig : 12 < N
 ·have hbig2 : (12 : Int) < (N : Int) := by omega
  clear HC HO hA hTSK
  go_enter Try.func7, Try.ntmps7
  go_upto_region 1 with fail
  have hs := (Vs.new w [.int .u8 k, .int .u8 f, .int .u8 b, .int .u8 l, .int .u8 m, .int .u8 c, .int .u8 p, .int .u8 t] #[.int .u8 k, .int .u8 f, .int .u8 b, .int .u8 l, .int .u8 m, .int .u8 c, .int .u8 p, .int .u8 t] 66 rfl).alloc (.cells (cells8 oid).toArray 34)
  have hI := Vs.new (w.alloc (.cells #[.int .u8 k, .int .u8 f, .int .u8 b, .int .u8 l, .int .u8 m, .int .u8 c, .int .u8 p, .int .u8 t] 66)) (cells8 oid) ((cells8 oid).toArray) 34 rfl
  simp only [World.size_alloc] at hI
  have hb00 : Below w.heap.size w ((w.alloc (.cells #[.int .u8 k, .int .u8 f, .int .u8 b, .int .u8 l, .int .u8 m, .int .u8 c, .int .u8 p, .int .u8 t] 66)).alloc (.cells (cells8 oid).toArray 34)) := by repeat (first | exact bA | with_reducible assumption | apply bB)
  have hszn : w.heap.size + 2 ≤ ((w.alloc (.cells #[.int .u8 k, .int .u8 f, .int .u8 b, .int .u8 l, .int .u8 m, .int .u8 c, .int .u8 p, .int .u8 t] 66)).alloc (.cells (cells8 oid).toArray 34)).heap.size := by simp only [World.size_alloc]; omega
  generalize ((w.alloc (.cells #[.int .u8 k, .int .u8 f, .int .u8 b, .int .u8 l, .int .u8 m, .int .u8 c, .int .u8 p, .int .u8 t] 66)).alloc (.cells (cells8 oid).toArray 34)) = w1 at hs hI hb00 hszn ⊢
  go_wp2_with (first
   | (go_at_call 24; refine (HAW.out _).mono ?_; rintro e w2 ⟨rfl, hb2⟩; replace hb00 := bl_call hb00 (Nat.le_refl _) hb2; replace hs := hs.call hb2; replace hI := hI.call hb2))
  go_ret
  exact ⟨rfl, hb00⟩
 have hN12 : N ≤ 12 := by omega
 obtain ⟨ps, hps⟩ : ∃ ps, ess.map (outL F y.nout) = ps := ⟨_, rfl⟩
 have hpsn : ∀ q, q ∈ ps → q.length = y.nout := fun q hq => by
  rw [← hps] at hq
  obtain ⟨es, _, rfl⟩ := List.mem_map.1 hq
  exact outL_length F y.nout es
 have hpsl : ps.length = N := by rw [← hps, List.length_map, hesN]
 have HMEA : Hid (∀ (vm : Value) (xs : List Int) wz, SlU wz wz.heap.size vm xs → xs.length ≤ 50 → Calls Try.prog 34 #[.agg #[.int .u8 ((y.k : Nat) : Int), .int .u8 (F : Int), .int .i64 ((y.b : Nat) : Int), .int .i64 ((y.l : Nat) : Int), .int .i64 ((y.m : Nat) : Int), .int .i64 ((y.c : Nat) : Int)], vm] wz fun e w' => ∃ q : List Nat × Option Addr × Nat, e = .returned (.slice q.2.1 q.1.length q.2.2) ∧ (q.1.length = y.meas ∧ okEnc y q.1 ∧ SlU w' w'.heap.size (.slice q.2.1 q.1.length q.2.2) (natsI q.1)) ∧ Below wz.heap.size wz w') := Lib.hid fun vm xs wz h h5 =>
  (law10_Measure hF y hok vm xs wz h (by omega)).mono fun e w' ⟨ms, A, cp, h1, h2, h3, h4, h5⟩ => ⟨(ms, A, cp), h3, ⟨h1, h2, h4⟩, h5⟩
 have HENC : Hid (∀ (vm : Value) (ms : List Nat) wz, ms.length = y.meas → okEnc y ms → SlU wz wz.heap.size vm (natsI ms) → Calls Try.prog 33 #[.agg #[.int .u8 ((y.k : Nat) : Int), .int .u8 (F : Int), .int .i64 ((y.b : Nat) : Int), .int .i64 ((y.l : Nat) : Int), .int .i64 ((y.m : Nat) : Int), .int .i64 ((y.c : Nat) : Int)], vm] wz fun e w' => ∃ q : Option Addr × Nat, e = .returned (.tuple #[.slice q.1 y.nin q.2, .int .i64 0]) ∧ SlE w' w'.heap.size (.slice q.1 y.nin q.2) (nEs (encL y ms)) ∧ Below wz.heap.size wz w') := Lib.hid fun vm ms wz h1 h2 h3 =>
  (circuit_Encode_E hF y hok hy.calls vm ms h1 h2 wz h3).mono fun e w' ⟨A, cp, h1, h2, h3⟩ => ⟨(A, cp), h1, h2, h3⟩
 have HTRU : Hid (∀ (vi : Value) (ms : List Nat) wz, ms.length = y.meas → okEnc y ms → SlE wz wz.heap.size vi (nEs (encL y ms)) → Calls Try.prog 35 #[.agg #[.int .u8 ((y.k : Nat) : Int), .int .u8 (F : Int), .int .i64 ((y.b : Nat) : Int), .int .i64 ((y.l : Nat) : Int), .int .i64 ((y.m : Nat) : Int), .int .i64 ((y.c : Nat) : Int)], vi] wz fun e w' => ∃ (A : Option Addr) (cp : Nat), e = .returned (.tuple #[.slice A y.nout cp, .int .i64 0]) ∧ (SlK w' w'.heap.size (.slice A y.nout cp) ((tgt y ms).map (nK F)) ∧ ∀ q, (Value.slice A y.nout cp).ownBlock = some q → wz.heap.size ≤ q) ∧ Below wz.heap.size wz w') := Lib.hid fun vi ms wz h1 h2 h3 => by
  have hle := enc_le h2
  refine (circuit_TruncateN hF y hok hy.calls vi (nEs (encL y ms)) wz h3 (by rw [nEs_len, enc_length h1])).mono fun e w' ⟨v, he, ⟨hv, hnew⟩, hb⟩ => ?_
  have e1 : truncE F y (nEs (encL y ms)) = esK ((tgt y ms).map (nK F)) := by
   rw [← esK_nK hF (fun x hx => by have := hle x hx; omega), trunc_enc hF y hok h1 h2, esK_nK hF (tgt_lt hok h2)]
  rw [e1] at hv
  have hk9 : SlK w' w'.heap.size v ((tgt y ms).map (nK F)) := hv.toK
  have hk8 := hk9
  obtain ⟨A, cp, hve, _⟩ := hk8
  rw [List.length_map, tgt_len9 h1] at hve
  subst hve
  exact ⟨A, cp, he, ⟨hk9, hnew⟩, hb⟩
 have HTG : Hid (∀ ms : List Nat, ms.length = y.meas → okEnc y ms → (tgt y ms).length = y.nout ∧ (∀ x, x ∈ tgt y ms → x ≤ MO) ∧ ∀ x, x ∈ tgt y ms → x < 4294967296) := Lib.hid fun ms h1 h2 => ⟨tgt_len9 h1, fun x hx => by rw [← hMO]; exact tgt_most h2 x hx, tgt_lt hok h2⟩
 generalize hne : y.nout = n at *
 have HUOK : Hid (∀ (vx vo : Value) (xs os : KL F) (T : List Nat) (M : Nat) (K : List Int) wz, M ≤ 12 → K.length = 16 → addL xs os = T.map (nK F) → T.length = n → (∀ t, t ∈ T → t ≤ M * MO) → SlK wz wz.heap.size vx xs → SlK wz wz.heap.size vo os → xs.length = n → os.length = n →
   Calls Try.prog 38 #[.agg #[.int .u8 ((y.k : Nat) : Int), .int .u8 (F : Int), .int .i64 ((y.b : Nat) : Int), .int .i64 ((y.l : Nat) : Int), .int .i64 ((y.m : Nat) : Int), .int .i64 ((y.c : Nat) : Int), .int .i64 pq, .string s], .agg (totL vx (M : Int) K).toArray, .agg (totL vo (M : Int) K).toArray] wz fun e w' => ∃ (A : Option Addr) (cp : Nat), e = .returned (.tuple #[.slice A n cp, .int .i64 0]) ∧ SlU w' w'.heap.size (.slice A n cp) (natsI T) ∧ Below wz.heap.size wz w') := Lib.hid fun vx vo xs os T M K wz h1 h2 h3 h4 h5 h6 h7 h8 h9 =>
  total_UnshardOk hF y hok hy.calls pq s n hne (by omega) HC M (by omega) K h2 vx vo xs os T h3 h4 (fun t ht => by
   have h10 := h5 t ht
   have h11 := Nat.mul_le_mul h1 hmo
   omega) (fun t ht => by rw [hMO]; exact h5 t ht) wz h6 h7 h8 h9
 have HUCN : Hid (∀ (vx vo : Value) (M1 M2 : Int) (K1 K2 : List Int) wz, (M1 != M2) = true → Calls Try.prog 38 #[.agg #[.int .u8 ((y.k : Nat) : Int), .int .u8 (F : Int), .int .i64 ((y.b : Nat) : Int), .int .i64 ((y.l : Nat) : Int), .int .i64 ((y.m : Nat) : Int), .int .i64 ((y.c : Nat) : Int), .int .i64 pq, .string s], .agg (totL vx M1 K1).toArray, .agg (totL vo M2 K2).toArray] wz (RetErr 21 wz)) := Lib.hid fun vx vo M1 M2 K1 K2 wz h => total_UnshardCount _ _ _ _ _ _ pq s HC vx vo M1 M2 h K1 K2 wz
 have HUCH : Hid (∀ (vx vo : Value) (M : Int) (K1 K2 : List Int) wz, K1.length = 16 → K2.length = 16 → (K1 == K2) = false → Calls Try.prog 38 #[.agg #[.int .u8 ((y.k : Nat) : Int), .int .u8 (F : Int), .int .i64 ((y.b : Nat) : Int), .int .i64 ((y.l : Nat) : Int), .int .i64 ((y.m : Nat) : Int), .int .i64 ((y.c : Nat) : Int), .int .i64 pq, .string s], .agg (totL vx M K1).toArray, .agg (totL vo M K2).toArray] wz (RetErr 22 wz)) := Lib.hid fun vx vo M K1 K2 wz h1 h2 h3 => total_UnshardCheck _ _ _ _ _ _ pq s HC vx vo M K1 K2 h1 h2 h3 wz
 have HSUM : Hid (∀ wz, Below w.heap.size w wz → Calls Try.prog 25 #[.agg #[.int .u8 ((y.k : Nat) : Int), .int .u8 (F : Int), .int .i64 ((y.b : Nat) : Int), .int .i64 ((y.l : Nat) : Int), .int .i64 ((y.m : Nat) : Int), .int .i64 ((y.c : Nat) : Int), .int .i64 pq, .string s], .slice A0 N ca] wz fun e w' =>
   ∃ (gS : Nat) (A : Option Addr) (ca : Nat) (vs : List Value), e = .returned (.tuple #[.agg (totL (.slice (some ⟨gS, 0, none⟩) n n) (N : Int) (chkF z16 ids)).toArray, .slice A N ca]) ∧ RwK w' gS (sumF (zK F n) ps) ∧ wz.heap.size ≤ gS ∧ vs.length = N ∧
    SlR w' w'.heap.size (.slice A N ca) 1 (vs.map fun v => [v]) ∧ PsK w' vs ps ∧ Below wz.heap.size wz w') := fun wz hbz => by
  rw [← hps]
  exact law15_sum hF _ _ _ _ _ _ s n (by omega) HO ids us ess N (by omega) hil hul hesN hid (.slice A0 N ca) wz (fun i u es h1 h2 => (hus i u es h1 h2).later hbz) (HSL0.out.later hbz)
 have HNEW : Hid (∀ wz, Calls Try.prog 31 #[.agg #[.int .u8 ((y.k : Nat) : Int), .int .u8 (F : Int), .int .i64 ((y.b : Nat) : Int), .int .i64 ((y.l : Nat) : Int), .int .i64 ((y.m : Nat) : Int), .int .i64 ((y.c : Nat) : Int), .int .i64 pq, .string s]] wz (RetT n 0 z16 (zK F n) wz)) := fun wz => total_New _ _ _ _ _ _ s n (by omega) HC HO wz
 have HADD : Hid (∀ (i : Nat) (K id : List Int) (vx vo : Value) (xs os : KL F) wz, i < 256 → K.length = 16 → id.length = 16 → B8 id → SlK wz wz.heap.size vx xs → SlK wz wz.heap.size vo os → xs.length = n → os.length = n →
   Calls Try.prog 37 #[.agg (totL vx (i : Int) K).toArray, .agg #[.int .u8 ((y.k : Nat) : Int), .int .u8 (F : Int), .int .i64 ((y.b : Nat) : Int), .int .i64 ((y.l : Nat) : Int), .int .i64 ((y.m : Nat) : Int), .int .i64 ((y.c : Nat) : Int), .int .i64 pq, .string s], .agg (cells8 id).toArray, vo] wz (RetTE n (((i + 1 : Nat) : Int)) (xorL K (hashF 7 id)) (addL xs os) wz)) :=
  fun i K id vx vo xs os wz h0 h1 h2 h3 h4 h5 h6 h7 => total_Add hF _ _ _ _ _ _ s n (by omega) HC HO (i : Int) ⟨by omega, by omega⟩ K id h1 h2 h3 vx vo xs os wz h4 h5 h6 h7
 have HSUB : Hid (∀ (va vb : Value) (a b : KL F) wz, SlK wz wz.heap.size va a → SlK wz wz.heap.size vb b → a.length = n → b.length = n → Calls Try.prog 36 #[.int .u8 (F : Int), va, vb] wz fun e w' => ∃ g, e = .returned (.tuple #[.slice (some ⟨g, 0, none⟩) n n, .int .i64 0]) ∧ BlkE w' g (esK (subL a b)) ∧ wz.heap.size ≤ g ∧ Below wz.heap.size wz w') := Lib.hid fun va vb a b wz h1 h2 h3 h4 => by
  have h := field_SubVecK hF va vb a b wz h1 h2 (by omega) (by omega)
  unfold RetSK at h
  rwa [subL_len h3 h4] at h
 have HROW : Hid (∀ (i : Nat), i < N → ∃ id u p, ids[i]? = some id ∧ us[i]? = some u ∧ ps[i]? = some p ∧ id.length = 16 ∧ B8 id ∧ IsSl u ∧ p.length = n ∧ (List.zipWith repL ids us)[i]? = some (repL id u)) := Lib.hid fun i h => by
  have e1 : ids[i]? = some (ids[i]'(by omega)) := List.getElem?_eq_getElem _
  have e2 : us[i]? = some (us[i]'(by omega)) := List.getElem?_eq_getElem _
  have e4 : ps[i]? = some (ps[i]'(by omega)) := List.getElem?_eq_getElem _
  obtain ⟨h1, h2⟩ := hid _ (List.getElem_mem (by omega : i < ids.length))
  obtain ⟨A, c, hv, _⟩ := (hus i _ _ e2 (List.getElem?_eq_getElem (by omega))).ex
  refine ⟨_, _, _, e1, e2, e4, h1, h2, ⟨_, _, _, hv⟩, hpsn _ (List.getElem_mem _), ?_⟩
  rw [List.getElem?_zipWith, e1, e2]
 have HCL : Hid (∀ i, (chkF z16 (ids.take i)).length = 16) := fun i => chkF_length z16_length _
 have HSL : Hid (∀ i, (sumF (zK F n) (ps.take i)).length = n) := fun i => sumF_len (zK_length F n) _ fun q hq => hpsn q (List.mem_of_mem_take hq)
 have HST : Hid (∀ i id p, ids[i]? = some id → ps[i]? = some p → chkF z16 (ids.take (i + 1)) = xorL (chkF z16 (ids.take i)) (hashF 7 id) ∧ sumF (zK F n) (ps.take (i + 1)) = addL (sumF (zK F n) (ps.take i)) p) := fun i id p h1 h2 => ⟨chkF_step h1, sumF_step h2⟩
 have HA := Lib.hid hA
 have HAM := Lib.hid hAm
 have HMR := Lib.hid hmr
 have HO := Lib.hid HO
 have HOI := Lib.hid (And.intro hol ho8)
 have HMOB := Lib.hid hmo
 have hF9 := hF
 have HN70 := Lib.hid hno
 have HIL := Lib.hid (And.intro hil hpsl)
 obtain ⟨NI, hNI⟩ : ∃ z, y.nin = z := ⟨_, rfl⟩
 rw [hNI] at HENC
 clear hil hul hesN hid hus hpsn hpsl hps HC hTSK hA hAm hmr hzl hok hcl hno hnin hNI hMO hmo hne hy hF hs32 hpq hpq1 hpq3 hp ht hk hf hb hl hm hc hcam hcmm hol ho8 HSL0
 generalize ((y.k : Nat) : Int) = yk at *
 generalize ((y.b : Nat) : Int) = yb at *
 generalize ((y.l : Nat) : Int) = yl at *
 generalize ((y.m : Nat) : Int) = ym at *
 generalize ((y.c : Nat) : Int) = yc at *
 go_enter Try.func7, Try.ntmps7
 go_upto_region 1 with fail
 have hs := (Vs.new w [.int .u8 k, .int .u8 f, .int .u8 b, .int .u8 l, .int .u8 m, .int .u8 c, .int .u8 p, .int .u8 t] #[.int .u8 k, .int .u8 f, .int .u8 b, .int .u8 l, .int .u8 m, .int .u8 c, .int .u8 p, .int .u8 t] 66 rfl).alloc (.cells (cells8 oid).toArray 34)
 have hI := Vs.new (w.alloc (.cells #[.int .u8 k, .int .u8 f, .int .u8 b, .int .u8 l, .int .u8 m, .int .u8 c, .int .u8 p, .int .u8 t] 66)) (cells8 oid) ((cells8 oid).toArray) 34 rfl
 simp only [World.size_alloc] at hI
 have hb00 : Below w.heap.size w ((w.alloc (.cells #[.int .u8 k, .int .u8 f, .int .u8 b, .int .u8 l, .int .u8 m, .int .u8 c, .int .u8 p, .int .u8 t] 66)).alloc (.cells (cells8 oid).toArray 34)) := by repeat (first | exact bA | with_reducible assumption | apply bB)
 have hszn : w.heap.size + 2 ≤ ((w.alloc (.cells #[.int .u8 k, .int .u8 f, .int .u8 b, .int .u8 l, .int .u8 m, .int .u8 c, .int .u8 p, .int .u8 t] 66)).alloc (.cells (cells8 oid).toArray 34)).heap.size := by simp only [World.size_alloc]; omega
 generalize ((w.alloc (.cells #[.int .u8 k, .int .u8 f, .int .u8 b, .int .u8 l, .int .u8 m, .int .u8 c, .int .u8 p, .int .u8 t] 66)).alloc (.cells (cells8 oid).toArray 34)) = w1 at hs hI hb00 hszn ⊢
 obtain ⟨⟨s0, s1, s2, s3, s4, s5, s6, s7⟩, ⟨s8, s9, s10, s11, s12, s13, s14, s15⟩, s16⟩ := hs.get8
 go_upto_region 5 with (first
  | (go_at_call 24; refine (HAW.out _).mono ?_; rintro e w2 ⟨rfl, hb2⟩; replace hb00 := bl_call hb00 (Nat.le_refl _) hb2; replace hs := hs.call hb2; replace hI := hI.call hb2; clear s0 s1 s2 s3 s4 s5 s6 s7 s8 s9 s10 s11 s12 s13 s14 s15 s16; clear hb2; obtain ⟨⟨s0, s1, s2, s3, s4, s5, s6, s7⟩, ⟨s8, s9, s10, s11, s12, s13, s14, s15⟩, s16⟩ := hs.get8))
 go_upto_region 6 with (first
  | (go_at_call 21; refine (HTSK.out _).mono ?_; rintro e w3 ⟨rfl, hb3⟩; replace hb00 := bl_call hb00 (Nat.le_refl _) hb3; replace hs := hs.call hb3; replace hI := hI.call hb3; clear s0 s1 s2 s3 s4 s5 s6 s7 s8 s9 s10 s11 s12 s13 s14 s15 s16; clear hb3; obtain ⟨⟨s0, s1, s2, s3, s4, s5, s6, s7⟩, ⟨s8, s9, s10, s11, s12, s13, s14, s15⟩, s16⟩ := hs.get8))
 clear s0 s1 s2 s3 s4 s5 s6 s7 s8 s9 s10 s11 s12 s13 s14 s15 s16
 clear hs HTSK HAW
 have hT := Vs.new w3 [.int .u8 yk, .int .u8 (F : Int), .int .i64 yb, .int .i64 yl, .int .i64 ym, .int .i64 yc, .int .i64 pq, .string s] #[.int .u8 yk, .int .u8 (F : Int), .int .i64 yb, .int .i64 yl, .int .i64 ym, .int .i64 yc, .int .i64 pq, .string s] 62 rfl
 have hbA : Below w3.heap.size w3 (w3.alloc (.cells #[.int .u8 yk, .int .u8 (F : Int), .int .i64 yb, .int .i64 yl, .int .i64 ym, .int .i64 yc, .int .i64 pq, .string s] 62)) := by repeat (first | exact bA | with_reducible assumption | apply bB)
 replace hb00 := bl_call hb00 (Nat.le_refl _) hbA
 replace hI := hI.call hbA
 clear hbA
 generalize w3.alloc (.cells #[.int .u8 yk, .int .u8 (F : Int), .int .i64 yb, .int .i64 yl, .int .i64 ym, .int .i64 yc, .int .i64 pq, .string s] 62) = w4 at hb00 hI hT ⊢
 obtain ⟨tb, htbe⟩ : ∃ z, w3.heap.size = z := ⟨_, rfl⟩
 rw [htbe] at hT
 simp only [htbe]
 clear htbe
 obtain ⟨⟨T0, T1, T2, T3, T4, T5, T6, T7⟩, ⟨T8, T9, T10, T11, T12, T13, T14, T15⟩, T16⟩ := hT.get8
 go_upto_region 7 with fail
 clear T0 T1 T2 T3 T4 T5 T6 T7 T8 T9 T10 T11 T12 T13 T14 T15 T16
 have hCi := Vs.new w4 [.int .u8 yk, .int .u8 (F : Int), .int .i64 yb, .int .i64 yl, .int .i64 ym, .int .i64 yc] #[.int .u8 yk, .int .u8 (F : Int), .int .i64 yb, .int .i64 yl, .int .i64 ym, .int .i64 yc] 60 rfl
 have hbA : Below w4.heap.size w4 (w4.alloc (.cells #[.int .u8 yk, .int .u8 (F : Int), .int .i64 yb, .int .i64 yl, .int .i64 ym, .int .i64 yc] 60)) := by repeat (first | exact bA | with_reducible assumption | apply bB)
 replace hb00 := bl_call hb00 (Nat.le_refl _) hbA
 replace hI := hI.call hbA
 replace hT := hT.call hbA
 clear hbA
 generalize w4.alloc (.cells #[.int .u8 yk, .int .u8 (F : Int), .int .i64 yb, .int .i64 yl, .int .i64 ym, .int .i64 yc] 60) = w5 at hb00 hI hT hCi ⊢
 obtain ⟨ib, hibe⟩ : ∃ z, w4.heap.size = z := ⟨_, rfl⟩
 rw [hibe] at hCi
 simp only [hibe]
 clear hibe
 obtain ⟨⟨Ci0, Ci1, Ci2, Ci3, Ci4, Ci5⟩, ⟨Ci6, Ci7, Ci8, Ci9, Ci10, Ci11⟩, Ci12⟩ := hCi.get6
 go_upto_region 8 with fail
 clear Ci0 Ci1 Ci2 Ci3 Ci4 Ci5 Ci6 Ci7 Ci8 Ci9 Ci10 Ci11 Ci12
 obtain ⟨⟨T0, T1, T2, T3, T4, T5, T6, T7⟩, ⟨T8, T9, T10, T11, T12, T13, T14, T15⟩, T16⟩ := hT.get8
 have HGC : Hid ((chkF z16 ids).length = 16) := chkF_length z16_length _
 refine wp_region_lit ?_
 refine wpList_valD (some 49) rfl rfl (by (go_simp; first | with_reducible rfl | exact ⟨rfl, rfl⟩ | (trace_state; fail))) ?_
 simp only [Zp, Zq, Zr, Zs]
 refine wpList_valD (some 50) rfl rfl (by (go_simp; first | with_reducible rfl | exact ⟨rfl, rfl⟩ | (trace_state; fail))) ?_
 simp only [Zp, Zq, Zr, Zs]
 refine wpList_callD (some 51) rfl rfl 25 _ ?_ (HSUM.out _ hb00) ?_
 ·go_simp; try (with_reducible rfl)
 rintro e w6 ⟨gS, A9, c9, vs, rfl, hS, hgS, hvl, hSR, hPK, hb6⟩
 refine ⟨_, rfl, ?_⟩
 simp only [Zp, Zq, Zr, Zs]
 clear T0 T1 T2 T3 T4 T5 T6 T7 T8 T9 T10 T11 T12 T13 T14 T15 T16
 replace hb00 := bl_call hb00 (Nat.le_refl _) hb6
 replace hI := hI.call hb6
 replace hT := hT.call hb6
 replace hCi := hCi.call hb6
 refine wpList_valD (some 48) rfl rfl (by (go_simp; first | with_reducible rfl | exact ⟨rfl, rfl⟩ | (trace_state; fail))) ?_
 simp only [Zp, Zq, Zr, Zs]
 refine wpList_valD (some 52) rfl rfl (by (go_simp; first | with_reducible rfl | exact ⟨rfl, rfl⟩ | (trace_state; fail))) ?_
 simp only [Zp, Zq, Zr, Zs]
 refine wpList_valD (some 53) rfl rfl (by (go_simp; first | with_reducible rfl | exact ⟨rfl, rfl⟩ | (trace_state; fail))) ?_
 simp only [Zp, Zq, Zr, Zs]
 refine wpList_valD (some 12) rfl rfl (by (skip; go_simp; first | with_reducible rfl | exact ⟨rfl, rfl⟩ | (trace_state; fail))) ?_
 simp only [Zp, Zq, Zr, Zs]
 have hW := Vs.new w6 (totL (.slice none 0 0) 0 z16) #[.slice none 0 0, .int .i64 0, .int .u8 0, .int .u8 0, .int .u8 0, .int .u8 0, .int .u8 0, .int .u8 0, .int .u8 0, .int .u8 0, .int .u8 0, .int .u8 0, .int .u8 0, .int .u8 0, .int .u8 0, .int .u8 0, .int .u8 0, .int .u8 0] 76 rfl
 have hbA := (Below.refl w6.heap.size w6).alloc (Nat.le_refl _) (.cells #[.slice none 0 0, .int .i64 0, .int .u8 0, .int .u8 0, .int .u8 0, .int .u8 0, .int .u8 0, .int .u8 0, .int .u8 0, .int .u8 0, .int .u8 0, .int .u8 0, .int .u8 0, .int .u8 0, .int .u8 0, .int .u8 0, .int .u8 0, .int .u8 0] 76)
 have hst := hW.storeT (k := (chkF z16 ids)) (v := .slice (some ⟨gS, 0, none⟩) n n) (m := (N : Int)) z16_length HGC.out rfl
 refine wpList_skipD rfl rfl (exec_store rfl (by kernel_rfl) (by kernel_rfl) hst) ?_
 refine wpList_valD (some 13) rfl rfl (by (go_simp; first | with_reducible rfl | exact ⟨rfl, rfl⟩ | (trace_state; fail))) ?_
 simp only [Zp, Zq, Zr, Zs]
 have hbC := bl_setCells hbA (Nat.le_refl _) 0 (totL (.slice (some ⟨gS, 0, none⟩) n n) (N : Int) (chkF z16 ids))
 replace hb00 := bl_call hb00 (Nat.le_refl _) hbC
 replace hI := hI.call hbC
 replace hT := hT.call hbC
 replace hCi := hCi.call hbC
 replace hSR := hSR.later hbC
 replace hPK := hPK.later hbC
 clear hst hbA hbC hW hS hgS hb6 HSUM HGC
 generalize (w6.alloc (.cells #[.slice none 0 0, .int .i64 0, .int .u8 0, .int .u8 0, .int .u8 0, .int .u8 0, .int .u8 0, .int .u8 0, .int .u8 0, .int .u8 0, .int .u8 0, .int .u8 0, .int .u8 0, .int .u8 0, .int .u8 0, .int .u8 0, .int .u8 0, .int .u8 0] 76)).setCells w6.heap.size 0 (totL (.slice (some ⟨gS, 0, none⟩) n n) (N : Int) (chkF z16 ids)) = w7 at hSR hPK hT hCi hI hb00 ⊢
 have HVL := Lib.hid hvl
 have HT7 := Lib.hid hT
 have HCI7 := Lib.hid hCi
 have HI7 := Lib.hid hI
 have HB7 := Lib.hid hb00
 have HPK7 := Lib.hid hPK
 have HSR7 := Lib.hid hSR
 clear hvl hT hCi hI hb00 hPK hSR
 go_upto_region 9 with fail
 apply region_Z4 (n := 7) (m := 8) (f := 7) (fun x0 x1 x2 x3 => (UnK w7 n (esK (zK F n))) (some x0) (some x1) (some x2) (some x3) true) ((UnT w7) none none none none) ((UnK w7 n (esK (zK F n))) none none none none false) ((UnK.weak _ _ _ _ _)) (UnK.clo) ((UnK.start w7))
 case hm => kernel_rfl
 case hB => kernel_rfl
 case hf => rfl
 case' h =>
  refine WpX.vD 0 (some 54) ?_ rfl rfl (by kernel_rfl) (fun _ _ _ h => h) rfl (fun wz hwz => ?_) ?_
  rotate_left
  ·(have hz := (HT7.out.call hwz).get8; obtain ⟨⟨z0, z1, z2, z3, z4, z5, z6, z7⟩, ⟨y0, y1, y2, y3, y4, y5, y6, y7⟩, y8⟩ := hz; go_simp; try (with_reducible rfl))
  simp only [Zp, Zq, Zr, Zs]
  refine WpX.vD 2 (some 56) ?_ rfl rfl (by kernel_rfl) (fun _ _ _ h => h) rfl (fun wz hwz => ?_) ?_
  rotate_left
  ·(have hz := (HT7.out.call hwz).get8; obtain ⟨⟨z0, z1, z2, z3, z4, z5, z6, z7⟩, ⟨y0, y1, y2, y3, y4, y5, y6, y7⟩, y8⟩ := hz; go_simp; try (with_reducible rfl))
  simp only [Zp, Zq, Zr, Zs]
  refine WpX.threeD 1 4 5 (some 55) (some 14) (some 15) rfl rfl rfl rfl rfl rfl (by kernel_rfl) (fun g : Nat => Value.agg (totL (.slice (some ⟨g, 0, none⟩) n n) 0 z16).toArray) (fun ga => (UnT w7) (some ga) none none none) (fun ga => (UnK w7 n (esK (zK F n))) (some ga) none none none false) (Turns.call rfl (fun _ _ h => h) (fun _ => (UnK.weak _ _ _ _ _)) (fun _ => UnK.clo) (fun wz hS => (HNEW.out wz).mono fun e w' ⟨g, he, h1, h2, hb'⟩ => ⟨g, he, hS.mkA h1 h2 hb'⟩) (fun wz hS => by go_simp; try (with_reducible rfl))) (fun x : Nat => Value.pointer (some ⟨x, 0, none⟩)) (fun xa => (UnT w7) none none (some xa) none) (fun xa => (UnK w7 n (esK (zK F n))) none none (some xa) none false) (Turns.val rfl (fun _ _ h => h) (fun _ => (UnK.weak _ _ _ _ _)) (fun _ => UnK.clo) (fun wz hS => ⟨wz.heap.size, wz.alloc (.cells #[.slice none 0 0, .int .i64 0, .int .u8 0, .int .u8 0, .int .u8 0, .int .u8 0, .int .u8 0, .int .u8 0, .int .u8 0, .int .u8 0, .int .u8 0, .int .u8 0, .int .u8 0, .int .u8 0, .int .u8 0, .int .u8 0, .int .u8 0, .int .u8 0] 76), by go_simp; try (with_reducible rfl), hS.mkC rfl⟩)) (fun x : Nat => Value.pointer (some ⟨x, 0, none⟩)) (fun xb => (UnT w7) none none none (some xb)) (fun xb => (UnK w7 n (esK (zK F n))) none none none (some xb) false) (Turns.val rfl (fun _ _ h => h) (fun _ => (UnK.weak _ _ _ _ _)) (fun _ => UnK.clo) (fun wz hS => ⟨wz.heap.size, wz.alloc (.cells #[.slice none 0 0, .int .i64 0, .int .u8 0, .int .u8 0, .int .u8 0, .int .u8 0, .int .u8 0, .int .u8 0, .int .u8 0, .int .u8 0, .int .u8 0, .int .u8 0, .int .u8 0, .int .u8 0, .int .u8 0, .int .u8 0, .int .u8 0, .int .u8 0] 76), by go_simp; try (with_reducible rfl), hS.mkD rfl⟩)) (fun ga => ?rz9_2a) (fun xa => ?rz9_2b) (fun xb => ?rz9_2c)
  case' rz9_2a =>
   simp only [Zp, Zq, Zr, Zs]
   refine WpX.threeD 3 4 5 (some 57) (some 14) (some 15) rfl rfl rfl rfl rfl rfl (by kernel_rfl) (fun g : Nat => Value.agg (totL (.slice (some ⟨g, 0, none⟩) n n) 0 z16).toArray) (fun gb => (UnT w7) (some ga) (some gb) none none) (fun gb => (UnK w7 n (esK (zK F n))) (some ga) (some gb) none none false) (Turns.call rfl (fun _ _ h => h) (fun _ => (UnK.weak _ _ _ _ _)) (fun _ => UnK.clo) (fun wz hS => (HNEW.out wz).mono fun e w' ⟨g, he, h1, h2, hb'⟩ => ⟨g, he, hS.mkB h1 h2 hb'⟩) (fun wz hS => by go_simp; try (with_reducible rfl))) (fun x : Nat => Value.pointer (some ⟨x, 0, none⟩)) (fun xa => (UnT w7) (some ga) none (some xa) none) (fun xa => (UnK w7 n (esK (zK F n))) (some ga) none (some xa) none false) (Turns.val rfl (fun _ _ h => h) (fun _ => (UnK.weak _ _ _ _ _)) (fun _ => UnK.clo) (fun wz hS => ⟨wz.heap.size, wz.alloc (.cells #[.slice none 0 0, .int .i64 0, .int .u8 0, .int .u8 0, .int .u8 0, .int .u8 0, .int .u8 0, .int .u8 0, .int .u8 0, .int .u8 0, .int .u8 0, .int .u8 0, .int .u8 0, .int .u8 0, .int .u8 0, .int .u8 0, .int .u8 0, .int .u8 0] 76), by go_simp; try (with_reducible rfl), hS.mkC rfl⟩)) (fun x : Nat => Value.pointer (some ⟨x, 0, none⟩)) (fun xb => (UnT w7) (some ga) none none (some xb)) (fun xb => (UnK w7 n (esK (zK F n))) (some ga) none none (some xb) false) (Turns.val rfl (fun _ _ h => h) (fun _ => (UnK.weak _ _ _ _ _)) (fun _ => UnK.clo) (fun wz hS => ⟨wz.heap.size, wz.alloc (.cells #[.slice none 0 0, .int .i64 0, .int .u8 0, .int .u8 0, .int .u8 0, .int .u8 0, .int .u8 0, .int .u8 0, .int .u8 0, .int .u8 0, .int .u8 0, .int .u8 0, .int .u8 0, .int .u8 0, .int .u8 0, .int .u8 0, .int .u8 0, .int .u8 0] 76), by go_simp; try (with_reducible rfl), hS.mkD rfl⟩)) (fun gb => ?rz9_3a) (fun xa => ?rz9_3b) (fun xb => ?rz9_3c)
   case' rz9_3a =>
    simp only [Zp, Zq, Zr, Zs]
    refine WpX.twoD 4 5 (some 14) (some 15) rfl rfl rfl rfl (by kernel_rfl) (fun x : Nat => Value.pointer (some ⟨x, 0, none⟩)) (fun xa => (UnT w7) (some ga) (some gb) (some xa) none) (fun xa => (UnK w7 n (esK (zK F n))) (some ga) (some gb) (some xa) none false) (Turns.val rfl (fun _ _ h => h) (fun _ => (UnK.weak _ _ _ _ _)) (fun _ => UnK.clo) (fun wz hS => ⟨wz.heap.size, wz.alloc (.cells #[.slice none 0 0, .int .i64 0, .int .u8 0, .int .u8 0, .int .u8 0, .int .u8 0, .int .u8 0, .int .u8 0, .int .u8 0, .int .u8 0, .int .u8 0, .int .u8 0, .int .u8 0, .int .u8 0, .int .u8 0, .int .u8 0, .int .u8 0, .int .u8 0] 76), by go_simp; try (with_reducible rfl), hS.mkC rfl⟩)) (fun x : Nat => Value.pointer (some ⟨x, 0, none⟩)) (fun xb => (UnT w7) (some ga) (some gb) none (some xb)) (fun xb => (UnK w7 n (esK (zK F n))) (some ga) (some gb) none (some xb) false) (Turns.val rfl (fun _ _ h => h) (fun _ => (UnK.weak _ _ _ _ _)) (fun _ => UnK.clo) (fun wz hS => ⟨wz.heap.size, wz.alloc (.cells #[.slice none 0 0, .int .i64 0, .int .u8 0, .int .u8 0, .int .u8 0, .int .u8 0, .int .u8 0, .int .u8 0, .int .u8 0, .int .u8 0, .int .u8 0, .int .u8 0, .int .u8 0, .int .u8 0, .int .u8 0, .int .u8 0, .int .u8 0, .int .u8 0] 76), by go_simp; try (with_reducible rfl), hS.mkD rfl⟩)) (fun xa => ?rz9_4a) (fun xb => ?rz9_4b)
    case' rz9_4a =>
     simp only [Zp, Zq, Zr, Zs]
     refine WpX.oneD 5 (some 15) rfl rfl (by kernel_rfl) (fun x : Nat => Value.pointer (some ⟨x, 0, none⟩)) (fun xb => (UnT w7) (some ga) (some gb) (some xa) (some xb)) (fun xb => (UnK w7 n (esK (zK F n))) (some ga) (some gb) (some xa) (some xb) false) (Turns.val rfl (fun _ _ h => h) (fun _ => (UnK.weak _ _ _ _ _)) (fun _ => UnK.clo) (fun wz hS => ⟨wz.heap.size, wz.alloc (.cells #[.slice none 0 0, .int .i64 0, .int .u8 0, .int .u8 0, .int .u8 0, .int .u8 0, .int .u8 0, .int .u8 0, .int .u8 0, .int .u8 0, .int .u8 0, .int .u8 0, .int .u8 0, .int .u8 0, .int .u8 0, .int .u8 0, .int .u8 0, .int .u8 0] 76), by go_simp; try (with_reducible rfl), hS.mkD rfl⟩)) (fun xb => ?_)
     simp only [Zp, Zq, Zr, Zs]
     refine WpX.oneSkip 6 none rfl rfl (by kernel_rfl) ((UnT w7) (some ga) (some gb) (some xa) (some xb)) ((UnK w7 n (esK (zK F n))) (some ga) (some gb) (some xa) (some xb) true) (fun _ h => h) ((UnK.weak _ _ _ _ _)) (UnK.clo) rfl (fun wz hS => ?_) ?_
     ·(exact ⟨_, exec_store rfl (by kernel_rfl) (by kernel_rfl) (((hS.c xa rfl).2.1 rfl).storeT z16_length z16_length rfl), hS.put⟩)
     simp only [Act.put]
     refine WpX.done (by kernel_rfl) (fun w9 hZ => ⟨ga, gb, xa, xb, rfl, ?_⟩)
     ·exact hZ
    case' rz9_4b =>
     simp only [Zp, Zq, Zr, Zs]
     refine WpX.oneD 4 (some 14) rfl rfl (by kernel_rfl) (fun x : Nat => Value.pointer (some ⟨x, 0, none⟩)) (fun xa => (UnT w7) (some ga) (some gb) (some xa) (some xb)) (fun xa => (UnK w7 n (esK (zK F n))) (some ga) (some gb) (some xa) (some xb) false) (Turns.val rfl (fun _ _ h => h) (fun _ => (UnK.weak _ _ _ _ _)) (fun _ => UnK.clo) (fun wz hS => ⟨wz.heap.size, wz.alloc (.cells #[.slice none 0 0, .int .i64 0, .int .u8 0, .int .u8 0, .int .u8 0, .int .u8 0, .int .u8 0, .int .u8 0, .int .u8 0, .int .u8 0, .int .u8 0, .int .u8 0, .int .u8 0, .int .u8 0, .int .u8 0, .int .u8 0, .int .u8 0, .int .u8 0] 76), by go_simp; try (with_reducible rfl), hS.mkC rfl⟩)) (fun xa => ?_)
     simp only [Zp, Zq, Zr, Zs]
     refine WpX.oneSkip 6 none rfl rfl (by kernel_rfl) ((UnT w7) (some ga) (some gb) (some xa) (some xb)) ((UnK w7 n (esK (zK F n))) (some ga) (some gb) (some xa) (some xb) true) (fun _ h => h) ((UnK.weak _ _ _ _ _)) (UnK.clo) rfl (fun wz hS => ?_) ?_
     ·(exact ⟨_, exec_store rfl (by kernel_rfl) (by kernel_rfl) (((hS.c xa rfl).2.1 rfl).storeT z16_length z16_length rfl), hS.put⟩)
     simp only [Act.put]
     refine WpX.done (by kernel_rfl) (fun w9 hZ => ⟨ga, gb, xa, xb, rfl, ?_⟩)
     ·exact hZ
   case' rz9_3b =>
    simp only [Zp, Zq, Zr, Zs]
    refine WpX.twoD 3 5 (some 57) (some 15) rfl rfl rfl rfl (by kernel_rfl) (fun g : Nat => Value.agg (totL (.slice (some ⟨g, 0, none⟩) n n) 0 z16).toArray) (fun gb => (UnT w7) (some ga) (some gb) (some xa) none) (fun gb => (UnK w7 n (esK (zK F n))) (some ga) (some gb) (some xa) none false) (Turns.call rfl (fun _ _ h => h) (fun _ => (UnK.weak _ _ _ _ _)) (fun _ => UnK.clo) (fun wz hS => (HNEW.out wz).mono fun e w' ⟨g, he, h1, h2, hb'⟩ => ⟨g, he, hS.mkB h1 h2 hb'⟩) (fun wz hS => by go_simp; try (with_reducible rfl))) (fun x : Nat => Value.pointer (some ⟨x, 0, none⟩)) (fun xb => (UnT w7) (some ga) none (some xa) (some xb)) (fun xb => (UnK w7 n (esK (zK F n))) (some ga) none (some xa) (some xb) false) (Turns.val rfl (fun _ _ h => h) (fun _ => (UnK.weak _ _ _ _ _)) (fun _ => UnK.clo) (fun wz hS => ⟨wz.heap.size, wz.alloc (.cells #[.slice none 0 0, .int .i64 0, .int .u8 0, .int .u8 0, .int .u8 0, .int .u8 0, .int .u8 0, .int .u8 0, .int .u8 0, .int .u8 0, .int .u8 0, .int .u8 0, .int .u8 0, .int .u8 0, .int .u8 0, .int .u8 0, .int .u8 0, .int .u8 0] 76), by go_simp; try (with_reducible rfl), hS.mkD rfl⟩)) (fun gb => ?rz9_5a) (fun xb => ?rz9_5b)
    case' rz9_5a =>
     simp only [Zp, Zq, Zr, Zs]
     refine WpX.oneD 5 (some 15) rfl rfl (by kernel_rfl) (fun x : Nat => Value.pointer (some ⟨x, 0, none⟩)) (fun xb => (UnT w7) (some ga) (some gb) (some xa) (some xb)) (fun xb => (UnK w7 n (esK (zK F n))) (some ga) (some gb) (some xa) (some xb) false) (Turns.val rfl (fun _ _ h => h) (fun _ => (UnK.weak _ _ _ _ _)) (fun _ => UnK.clo) (fun wz hS => ⟨wz.heap.size, wz.alloc (.cells #[.slice none 0 0, .int .i64 0, .int .u8 0, .int .u8 0, .int .u8 0, .int .u8 0, .int .u8 0, .int .u8 0, .int .u8 0, .int .u8 0, .int .u8 0, .int .u8 0, .int .u8 0, .int .u8 0, .int .u8 0, .int .u8 0, .int .u8 0, .int .u8 0] 76), by go_simp; try (with_reducible rfl), hS.mkD rfl⟩)) (fun xb => ?_)
     simp only [Zp, Zq, Zr, Zs]
     refine WpX.oneSkip 6 none rfl rfl (by kernel_rfl) ((UnT w7) (some ga) (some gb) (some xa) (some xb)) ((UnK w7 n (esK (zK F n))) (some ga) (some gb) (some xa) (some xb) true) (fun _ h => h) ((UnK.weak _ _ _ _ _)) (UnK.clo) rfl (fun wz hS => ?_) ?_
     ·(exact ⟨_, exec_store rfl (by kernel_rfl) (by kernel_rfl) (((hS.c xa rfl).2.1 rfl).storeT z16_length z16_length rfl), hS.put⟩)
     simp only [Act.put]
     refine WpX.done (by kernel_rfl) (fun w9 hZ => ⟨ga, gb, xa, xb, rfl, ?_⟩)
     ·exact hZ
    case' rz9_5b =>
     simp only [Zp, Zq, Zr, Zs]
     refine WpX.oneD 3 (some 57) rfl rfl (by kernel_rfl) (fun g : Nat => Value.agg (totL (.slice (some ⟨g, 0, none⟩) n n) 0 z16).toArray) (fun gb => (UnT w7) (some ga) (some gb) (some xa) (some xb)) (fun gb => (UnK w7 n (esK (zK F n))) (some ga) (some gb) (some xa) (some xb) false) (Turns.call rfl (fun _ _ h => h) (fun _ => (UnK.weak _ _ _ _ _)) (fun _ => UnK.clo) (fun wz hS => (HNEW.out wz).mono fun e w' ⟨g, he, h1, h2, hb'⟩ => ⟨g, he, hS.mkB h1 h2 hb'⟩) (fun wz hS => by go_simp; try (with_reducible rfl))) (fun gb => ?_)
     simp only [Zp, Zq, Zr, Zs]
     refine WpX.oneSkip 6 none rfl rfl (by kernel_rfl) ((UnT w7) (some ga) (some gb) (some xa) (some xb)) ((UnK w7 n (esK (zK F n))) (some ga) (some gb) (some xa) (some xb) true) (fun _ h => h) ((UnK.weak _ _ _ _ _)) (UnK.clo) rfl (fun wz hS => ?_) ?_
     ·(exact ⟨_, exec_store rfl (by kernel_rfl) (by kernel_rfl) (((hS.c xa rfl).2.1 rfl).storeT z16_length z16_length rfl), hS.put⟩)
     simp only [Act.put]
     refine WpX.done (by kernel_rfl) (fun w9 hZ => ⟨ga, gb, xa, xb, rfl, ?_⟩)
     ·exact hZ
   case' rz9_3c =>
    simp only [Zp, Zq, Zr, Zs]
    refine WpX.twoD 3 4 (some 57) (some 14) rfl rfl rfl rfl (by kernel_rfl) (fun g : Nat => Value.agg (totL (.slice (some ⟨g, 0, none⟩) n n) 0 z16).toArray) (fun gb => (UnT w7) (some ga) (some gb) none (some xb)) (fun gb => (UnK w7 n (esK (zK F n))) (some ga) (some gb) none (some xb) false) (Turns.call rfl (fun _ _ h => h) (fun _ => (UnK.weak _ _ _ _ _)) (fun _ => UnK.clo) (fun wz hS => (HNEW.out wz).mono fun e w' ⟨g, he, h1, h2, hb'⟩ => ⟨g, he, hS.mkB h1 h2 hb'⟩) (fun wz hS => by go_simp; try (with_reducible rfl))) (fun x : Nat => Value.pointer (some ⟨x, 0, none⟩)) (fun xa => (UnT w7) (some ga) none (some xa) (some xb)) (fun xa => (UnK w7 n (esK (zK F n))) (some ga) none (some xa) (some xb) false) (Turns.val rfl (fun _ _ h => h) (fun _ => (UnK.weak _ _ _ _ _)) (fun _ => UnK.clo) (fun wz hS => ⟨wz.heap.size, wz.alloc (.cells #[.slice none 0 0, .int .i64 0, .int .u8 0, .int .u8 0, .int .u8 0, .int .u8 0, .int .u8 0, .int .u8 0, .int .u8 0, .int .u8 0, .int .u8 0, .int .u8 0, .int .u8 0, .int .u8 0, .int .u8 0, .int .u8 0, .int .u8 0, .int .u8 0] 76), by go_simp; try (with_reducible rfl), hS.mkC rfl⟩)) (fun gb => ?rz9_6a) (fun xa => ?rz9_6b)
    case' rz9_6a =>
     simp only [Zp, Zq, Zr, Zs]
     refine WpX.oneD 4 (some 14) rfl rfl (by kernel_rfl) (fun x : Nat => Value.pointer (some ⟨x, 0, none⟩)) (fun xa => (UnT w7) (some ga) (some gb) (some xa) (some xb)) (fun xa => (UnK w7 n (esK (zK F n))) (some ga) (some gb) (some xa) (some xb) false) (Turns.val rfl (fun _ _ h => h) (fun _ => (UnK.weak _ _ _ _ _)) (fun _ => UnK.clo) (fun wz hS => ⟨wz.heap.size, wz.alloc (.cells #[.slice none 0 0, .int .i64 0, .int .u8 0, .int .u8 0, .int .u8 0, .int .u8 0, .int .u8 0, .int .u8 0, .int .u8 0, .int .u8 0, .int .u8 0, .int .u8 0, .int .u8 0, .int .u8 0, .int .u8 0, .int .u8 0, .int .u8 0, .int .u8 0] 76), by go_simp; try (with_reducible rfl), hS.mkC rfl⟩)) (fun xa => ?_)
     simp only [Zp, Zq, Zr, Zs]
     refine WpX.oneSkip 6 none rfl rfl (by kernel_rfl) ((UnT w7) (some ga) (some gb) (some xa) (some xb)) ((UnK w7 n (esK (zK F n))) (some ga) (some gb) (some xa) (some xb) true) (fun _ h => h) ((UnK.weak _ _ _ _ _)) (UnK.clo) rfl (fun wz hS => ?_) ?_
     ·(exact ⟨_, exec_store rfl (by kernel_rfl) (by kernel_rfl) (((hS.c xa rfl).2.1 rfl).storeT z16_length z16_length rfl), hS.put⟩)
     simp only [Act.put]
     refine WpX.done (by kernel_rfl) (fun w9 hZ => ⟨ga, gb, xa, xb, rfl, ?_⟩)
     ·exact hZ
    case' rz9_6b =>
     simp only [Zp, Zq, Zr, Zs]
     refine WpX.oneD 3 (some 57) rfl rfl (by kernel_rfl) (fun g : Nat => Value.agg (totL (.slice (some ⟨g, 0, none⟩) n n) 0 z16).toArray) (fun gb => (UnT w7) (some ga) (some gb) (some xa) (some xb)) (fun gb => (UnK w7 n (esK (zK F n))) (some ga) (some gb) (some xa) (some xb) false) (Turns.call rfl (fun _ _ h => h) (fun _ => (UnK.weak _ _ _ _ _)) (fun _ => UnK.clo) (fun wz hS => (HNEW.out wz).mono fun e w' ⟨g, he, h1, h2, hb'⟩ => ⟨g, he, hS.mkB h1 h2 hb'⟩) (fun wz hS => by go_simp; try (with_reducible rfl))) (fun gb => ?_)
     simp only [Zp, Zq, Zr, Zs]
     refine WpX.oneSkip 6 none rfl rfl (by kernel_rfl) ((UnT w7) (some ga) (some gb) (some xa) (some xb)) ((UnK w7 n (esK (zK F n))) (some ga) (some gb) (some xa) (some xb) true) (fun _ h => h) ((UnK.weak _ _ _ _ _)) (UnK.clo) rfl (fun wz hS => ?_) ?_
     ·(exact ⟨_, exec_store rfl (by kernel_rfl) (by kernel_rfl) (((hS.c xa rfl).2.1 rfl).storeT z16_length z16_length rfl), hS.put⟩)
     simp only [Act.put]
     refine WpX.done (by kernel_rfl) (fun w9 hZ => ⟨ga, gb, xa, xb, rfl, ?_⟩)
     ·exact hZ
  case' rz9_2b =>
   simp only [Zp, Zq, Zr, Zs]
   refine WpX.twoD 1 5 (some 55) (some 15) rfl rfl rfl rfl (by kernel_rfl) (fun g : Nat => Value.agg (totL (.slice (some ⟨g, 0, none⟩) n n) 0 z16).toArray) (fun ga => (UnT w7) (some ga) none (some xa) none) (fun ga => (UnK w7 n (esK (zK F n))) (some ga) none (some xa) none false) (Turns.call rfl (fun _ _ h => h) (fun _ => (UnK.weak _ _ _ _ _)) (fun _ => UnK.clo) (fun wz hS => (HNEW.out wz).mono fun e w' ⟨g, he, h1, h2, hb'⟩ => ⟨g, he, hS.mkA h1 h2 hb'⟩) (fun wz hS => by go_simp; try (with_reducible rfl))) (fun x : Nat => Value.pointer (some ⟨x, 0, none⟩)) (fun xb => (UnT w7) none none (some xa) (some xb)) (fun xb => (UnK w7 n (esK (zK F n))) none none (some xa) (some xb) false) (Turns.val rfl (fun _ _ h => h) (fun _ => (UnK.weak _ _ _ _ _)) (fun _ => UnK.clo) (fun wz hS => ⟨wz.heap.size, wz.alloc (.cells #[.slice none 0 0, .int .i64 0, .int .u8 0, .int .u8 0, .int .u8 0, .int .u8 0, .int .u8 0, .int .u8 0, .int .u8 0, .int .u8 0, .int .u8 0, .int .u8 0, .int .u8 0, .int .u8 0, .int .u8 0, .int .u8 0, .int .u8 0, .int .u8 0] 76), by go_simp; try (with_reducible rfl), hS.mkD rfl⟩)) (fun ga => ?rz9_7a) (fun xb => ?rz9_7b)
   case' rz9_7a =>
    simp only [Zp, Zq, Zr, Zs]
    refine WpX.twoD 3 5 (some 57) (some 15) rfl rfl rfl rfl (by kernel_rfl) (fun g : Nat => Value.agg (totL (.slice (some ⟨g, 0, none⟩) n n) 0 z16).toArray) (fun gb => (UnT w7) (some ga) (some gb) (some xa) none) (fun gb => (UnK w7 n (esK (zK F n))) (some ga) (some gb) (some xa) none false) (Turns.call rfl (fun _ _ h => h) (fun _ => (UnK.weak _ _ _ _ _)) (fun _ => UnK.clo) (fun wz hS => (HNEW.out wz).mono fun e w' ⟨g, he, h1, h2, hb'⟩ => ⟨g, he, hS.mkB h1 h2 hb'⟩) (fun wz hS => by go_simp; try (with_reducible rfl))) (fun x : Nat => Value.pointer (some ⟨x, 0, none⟩)) (fun xb => (UnT w7) (some ga) none (some xa) (some xb)) (fun xb => (UnK w7 n (esK (zK F n))) (some ga) none (some xa) (some xb) false) (Turns.val rfl (fun _ _ h => h) (fun _ => (UnK.weak _ _ _ _ _)) (fun _ => UnK.clo) (fun wz hS => ⟨wz.heap.size, wz.alloc (.cells #[.slice none 0 0, .int .i64 0, .int .u8 0, .int .u8 0, .int .u8 0, .int .u8 0, .int .u8 0, .int .u8 0, .int .u8 0, .int .u8 0, .int .u8 0, .int .u8 0, .int .u8 0, .int .u8 0, .int .u8 0, .int .u8 0, .int .u8 0, .int .u8 0] 76), by go_simp; try (with_reducible rfl), hS.mkD rfl⟩)) (fun gb => ?rz9_8a) (fun xb => ?rz9_8b)
    case' rz9_8a =>
     simp only [Zp, Zq, Zr, Zs]
     refine WpX.oneD 5 (some 15) rfl rfl (by kernel_rfl) (fun x : Nat => Value.pointer (some ⟨x, 0, none⟩)) (fun xb => (UnT w7) (some ga) (some gb) (some xa) (some xb)) (fun xb => (UnK w7 n (esK (zK F n))) (some ga) (some gb) (some xa) (some xb) false) (Turns.val rfl (fun _ _ h => h) (fun _ => (UnK.weak _ _ _ _ _)) (fun _ => UnK.clo) (fun wz hS => ⟨wz.heap.size, wz.alloc (.cells #[.slice none 0 0, .int .i64 0, .int .u8 0, .int .u8 0, .int .u8 0, .int .u8 0, .int .u8 0, .int .u8 0, .int .u8 0, .int .u8 0, .int .u8 0, .int .u8 0, .int .u8 0, .int .u8 0, .int .u8 0, .int .u8 0, .int .u8 0, .int .u8 0] 76), by go_simp; try (with_reducible rfl), hS.mkD rfl⟩)) (fun xb => ?_)
     simp only [Zp, Zq, Zr, Zs]
     refine WpX.oneSkip 6 none rfl rfl (by kernel_rfl) ((UnT w7) (some ga) (some gb) (some xa) (some xb)) ((UnK w7 n (esK (zK F n))) (some ga) (some gb) (some xa) (some xb) true) (fun _ h => h) ((UnK.weak _ _ _ _ _)) (UnK.clo) rfl (fun wz hS => ?_) ?_
     ·(exact ⟨_, exec_store rfl (by kernel_rfl) (by kernel_rfl) (((hS.c xa rfl).2.1 rfl).storeT z16_length z16_length rfl), hS.put⟩)
     simp only [Act.put]
     refine WpX.done (by kernel_rfl) (fun w9 hZ => ⟨ga, gb, xa, xb, rfl, ?_⟩)
     ·exact hZ
    case' rz9_8b =>
     simp only [Zp, Zq, Zr, Zs]
     refine WpX.oneD 3 (some 57) rfl rfl (by kernel_rfl) (fun g : Nat => Value.agg (totL (.slice (some ⟨g, 0, none⟩) n n) 0 z16).toArray) (fun gb => (UnT w7) (some ga) (some gb) (some xa) (some xb)) (fun gb => (UnK w7 n (esK (zK F n))) (some ga) (some gb) (some xa) (some xb) false) (Turns.call rfl (fun _ _ h => h) (fun _ => (UnK.weak _ _ _ _ _)) (fun _ => UnK.clo) (fun wz hS => (HNEW.out wz).mono fun e w' ⟨g, he, h1, h2, hb'⟩ => ⟨g, he, hS.mkB h1 h2 hb'⟩) (fun wz hS => by go_simp; try (with_reducible rfl))) (fun gb => ?_)
     simp only [Zp, Zq, Zr, Zs]
     refine WpX.oneSkip 6 none rfl rfl (by kernel_rfl) ((UnT w7) (some ga) (some gb) (some xa) (some xb)) ((UnK w7 n (esK (zK F n))) (some ga) (some gb) (some xa) (some xb) true) (fun _ h => h) ((UnK.weak _ _ _ _ _)) (UnK.clo) rfl (fun wz hS => ?_) ?_
     ·(exact ⟨_, exec_store rfl (by kernel_rfl) (by kernel_rfl) (((hS.c xa rfl).2.1 rfl).storeT z16_length z16_length rfl), hS.put⟩)
     simp only [Act.put]
     refine WpX.done (by kernel_rfl) (fun w9 hZ => ⟨ga, gb, xa, xb, rfl, ?_⟩)
     ·exact hZ
   case' rz9_7b =>
    simp only [Zp, Zq, Zr, Zs]
    refine WpX.oneD 1 (some 55) rfl rfl (by kernel_rfl) (fun g : Nat => Value.agg (totL (.slice (some ⟨g, 0, none⟩) n n) 0 z16).toArray) (fun ga => (UnT w7) (some ga) none (some xa) (some xb)) (fun ga => (UnK w7 n (esK (zK F n))) (some ga) none (some xa) (some xb) false) (Turns.call rfl (fun _ _ h => h) (fun _ => (UnK.weak _ _ _ _ _)) (fun _ => UnK.clo) (fun wz hS => (HNEW.out wz).mono fun e w' ⟨g, he, h1, h2, hb'⟩ => ⟨g, he, hS.mkA h1 h2 hb'⟩) (fun wz hS => by go_simp; try (with_reducible rfl))) (fun ga => ?_)
    simp only [Zp, Zq, Zr, Zs]
    refine WpX.oneD 3 (some 57) rfl rfl (by kernel_rfl) (fun g : Nat => Value.agg (totL (.slice (some ⟨g, 0, none⟩) n n) 0 z16).toArray) (fun gb => (UnT w7) (some ga) (some gb) (some xa) (some xb)) (fun gb => (UnK w7 n (esK (zK F n))) (some ga) (some gb) (some xa) (some xb) false) (Turns.call rfl (fun _ _ h => h) (fun _ => (UnK.weak _ _ _ _ _)) (fun _ => UnK.clo) (fun wz hS => (HNEW.out wz).mono fun e w' ⟨g, he, h1, h2, hb'⟩ => ⟨g, he, hS.mkB h1 h2 hb'⟩) (fun wz hS => by go_simp; try (with_reducible rfl))) (fun gb => ?_)
    simp only [Zp, Zq, Zr, Zs]
    refine WpX.oneSkip 6 none rfl rfl (by kernel_rfl) ((UnT w7) (some ga) (some gb) (some xa) (some xb)) ((UnK w7 n (esK (zK F n))) (some ga) (some gb) (some xa) (some xb) true) (fun _ h => h) ((UnK.weak _ _ _ _ _)) (UnK.clo) rfl (fun wz hS => ?_) ?_
    ·(exact ⟨_, exec_store rfl (by kernel_rfl) (by kernel_rfl) (((hS.c xa rfl).2.1 rfl).storeT z16_length z16_length rfl), hS.put⟩)
    simp only [Act.put]
    refine WpX.done (by kernel_rfl) (fun w9 hZ => ⟨ga, gb, xa, xb, rfl, ?_⟩)
    ·exact hZ
  case' rz9_2c =>
   simp only [Zp, Zq, Zr, Zs]
   refine WpX.twoD 1 4 (some 55) (some 14) rfl rfl rfl rfl (by kernel_rfl) (fun g : Nat => Value.agg (totL (.slice (some ⟨g, 0, none⟩) n n) 0 z16).toArray) (fun ga => (UnT w7) (some ga) none none (some xb)) (fun ga => (UnK w7 n (esK (zK F n))) (some ga) none none (some xb) false) (Turns.call rfl (fun _ _ h => h) (fun _ => (UnK.weak _ _ _ _ _)) (fun _ => UnK.clo) (fun wz hS => (HNEW.out wz).mono fun e w' ⟨g, he, h1, h2, hb'⟩ => ⟨g, he, hS.mkA h1 h2 hb'⟩) (fun wz hS => by go_simp; try (with_reducible rfl))) (fun x : Nat => Value.pointer (some ⟨x, 0, none⟩)) (fun xa => (UnT w7) none none (some xa) (some xb)) (fun xa => (UnK w7 n (esK (zK F n))) none none (some xa) (some xb) false) (Turns.val rfl (fun _ _ h => h) (fun _ => (UnK.weak _ _ _ _ _)) (fun _ => UnK.clo) (fun wz hS => ⟨wz.heap.size, wz.alloc (.cells #[.slice none 0 0, .int .i64 0, .int .u8 0, .int .u8 0, .int .u8 0, .int .u8 0, .int .u8 0, .int .u8 0, .int .u8 0, .int .u8 0, .int .u8 0, .int .u8 0, .int .u8 0, .int .u8 0, .int .u8 0, .int .u8 0, .int .u8 0, .int .u8 0] 76), by go_simp; try (with_reducible rfl), hS.mkC rfl⟩)) (fun ga => ?rz9_9a) (fun xa => ?rz9_9b)
   case' rz9_9a =>
    simp only [Zp, Zq, Zr, Zs]
    refine WpX.twoD 3 4 (some 57) (some 14) rfl rfl rfl rfl (by kernel_rfl) (fun g : Nat => Value.agg (totL (.slice (some ⟨g, 0, none⟩) n n) 0 z16).toArray) (fun gb => (UnT w7) (some ga) (some gb) none (some xb)) (fun gb => (UnK w7 n (esK (zK F n))) (some ga) (some gb) none (some xb) false) (Turns.call rfl (fun _ _ h => h) (fun _ => (UnK.weak _ _ _ _ _)) (fun _ => UnK.clo) (fun wz hS => (HNEW.out wz).mono fun e w' ⟨g, he, h1, h2, hb'⟩ => ⟨g, he, hS.mkB h1 h2 hb'⟩) (fun wz hS => by go_simp; try (with_reducible rfl))) (fun x : Nat => Value.pointer (some ⟨x, 0, none⟩)) (fun xa => (UnT w7) (some ga) none (some xa) (some xb)) (fun xa => (UnK w7 n (esK (zK F n))) (some ga) none (some xa) (some xb) false) (Turns.val rfl (fun _ _ h => h) (fun _ => (UnK.weak _ _ _ _ _)) (fun _ => UnK.clo) (fun wz hS => ⟨wz.heap.size, wz.alloc (.cells #[.slice none 0 0, .int .i64 0, .int .u8 0, .int .u8 0, .int .u8 0, .int .u8 0, .int .u8 0, .int .u8 0, .int .u8 0, .int .u8 0, .int .u8 0, .int .u8 0, .int .u8 0, .int .u8 0, .int .u8 0, .int .u8 0, .int .u8 0, .int .u8 0] 76), by go_simp; try (with_reducible rfl), hS.mkC rfl⟩)) (fun gb => ?rz9_10a) (fun xa => ?rz9_10b)
    case' rz9_10a =>
     simp only [Zp, Zq, Zr, Zs]
     refine WpX.oneD 4 (some 14) rfl rfl (by kernel_rfl) (fun x : Nat => Value.pointer (some ⟨x, 0, none⟩)) (fun xa => (UnT w7) (some ga) (some gb) (some xa) (some xb)) (fun xa => (UnK w7 n (esK (zK F n))) (some ga) (some gb) (some xa) (some xb) false) (Turns.val rfl (fun _ _ h => h) (fun _ => (UnK.weak _ _ _ _ _)) (fun _ => UnK.clo) (fun wz hS => ⟨wz.heap.size, wz.alloc (.cells #[.slice none 0 0, .int .i64 0, .int .u8 0, .int .u8 0, .int .u8 0, .int .u8 0, .int .u8 0, .int .u8 0, .int .u8 0, .int .u8 0, .int .u8 0, .int .u8 0, .int .u8 0, .int .u8 0, .int .u8 0, .int .u8 0, .int .u8 0, .int .u8 0] 76), by go_simp; try (with_reducible rfl), hS.mkC rfl⟩)) (fun xa => ?_)
     simp only [Zp, Zq, Zr, Zs]
     refine WpX.oneSkip 6 none rfl rfl (by kernel_rfl) ((UnT w7) (some ga) (some gb) (some xa) (some xb)) ((UnK w7 n (esK (zK F n))) (some ga) (some gb) (some xa) (some xb) true) (fun _ h => h) ((UnK.weak _ _ _ _ _)) (UnK.clo) rfl (fun wz hS => ?_) ?_
     ·(exact ⟨_, exec_store rfl (by kernel_rfl) (by kernel_rfl) (((hS.c xa rfl).2.1 rfl).storeT z16_length z16_length rfl), hS.put⟩)
     simp only [Act.put]
     refine WpX.done (by kernel_rfl) (fun w9 hZ => ⟨ga, gb, xa, xb, rfl, ?_⟩)
     ·exact hZ
    case' rz9_10b =>
     simp only [Zp, Zq, Zr, Zs]
     refine WpX.oneD 3 (some 57) rfl rfl (by kernel_rfl) (fun g : Nat => Value.agg (totL (.slice (some ⟨g, 0, none⟩) n n) 0 z16).toArray) (fun gb => (UnT w7) (some ga) (some gb) (some xa) (some xb)) (fun gb => (UnK w7 n (esK (zK F n))) (some ga) (some gb) (some xa) (some xb) false) (Turns.call rfl (fun _ _ h => h) (fun _ => (UnK.weak _ _ _ _ _)) (fun _ => UnK.clo) (fun wz hS => (HNEW.out wz).mono fun e w' ⟨g, he, h1, h2, hb'⟩ => ⟨g, he, hS.mkB h1 h2 hb'⟩) (fun wz hS => by go_simp; try (with_reducible rfl))) (fun gb => ?_)
     simp only [Zp, Zq, Zr, Zs]
     refine WpX.oneSkip 6 none rfl rfl (by kernel_rfl) ((UnT w7) (some ga) (some gb) (some xa) (some xb)) ((UnK w7 n (esK (zK F n))) (some ga) (some gb) (some xa) (some xb) true) (fun _ h => h) ((UnK.weak _ _ _ _ _)) (UnK.clo) rfl (fun wz hS => ?_) ?_
     ·(exact ⟨_, exec_store rfl (by kernel_rfl) (by kernel_rfl) (((hS.c xa rfl).2.1 rfl).storeT z16_length z16_length rfl), hS.put⟩)
     simp only [Act.put]
     refine WpX.done (by kernel_rfl) (fun w9 hZ => ⟨ga, gb, xa, xb, rfl, ?_⟩)
     ·exact hZ
   case' rz9_9b =>
    simp only [Zp, Zq, Zr, Zs]
    refine WpX.oneD 1 (some 55) rfl rfl (by kernel_rfl) (fun g : Nat => Value.agg (totL (.slice (some ⟨g, 0, none⟩) n n) 0 z16).toArray) (fun ga => (UnT w7) (some ga) none (some xa) (some xb)) (fun ga => (UnK w7 n (esK (zK F n))) (some ga) none (some xa) (some xb) false) (Turns.call rfl (fun _ _ h => h) (fun _ => (UnK.weak _ _ _ _ _)) (fun _ => UnK.clo) (fun wz hS => (HNEW.out wz).mono fun e w' ⟨g, he, h1, h2, hb'⟩ => ⟨g, he, hS.mkA h1 h2 hb'⟩) (fun wz hS => by go_simp; try (with_reducible rfl))) (fun ga => ?_)
    simp only [Zp, Zq, Zr, Zs]
    refine WpX.oneD 3 (some 57) rfl rfl (by kernel_rfl) (fun g : Nat => Value.agg (totL (.slice (some ⟨g, 0, none⟩) n n) 0 z16).toArray) (fun gb => (UnT w7) (some ga) (some gb) (some xa) (some xb)) (fun gb => (UnK w7 n (esK (zK F n))) (some ga) (some gb) (some xa) (some xb) false) (Turns.call rfl (fun _ _ h => h) (fun _ => (UnK.weak _ _ _ _ _)) (fun _ => UnK.clo) (fun wz hS => (HNEW.out wz).mono fun e w' ⟨g, he, h1, h2, hb'⟩ => ⟨g, he, hS.mkB h1 h2 hb'⟩) (fun wz hS => by go_simp; try (with_reducible rfl))) (fun gb => ?_)
    simp only [Zp, Zq, Zr, Zs]
    refine WpX.oneSkip 6 none rfl rfl (by kernel_rfl) ((UnT w7) (some ga) (some gb) (some xa) (some xb)) ((UnK w7 n (esK (zK F n))) (some ga) (some gb) (some xa) (some xb) true) (fun _ h => h) ((UnK.weak _ _ _ _ _)) (UnK.clo) rfl (fun wz hS => ?_) ?_
    ·(exact ⟨_, exec_store rfl (by kernel_rfl) (by kernel_rfl) (((hS.c xa rfl).2.1 rfl).storeT z16_length z16_length rfl), hS.put⟩)
    simp only [Act.put]
    refine WpX.done (by kernel_rfl) (fun w9 hZ => ⟨ga, gb, xa, xb, rfl, ?_⟩)
    ·exact hZ
 intro ga gb xa xb w9 hZ
 (try simp only [List.drop_succ_cons]); (try simp only [List.drop_zero]); (try simp only [Nat.reduceSub]); (try simp only [List.take_succ_cons]); (try simp only [List.take_zero])
 obtain ⟨hxa1, _, hXA0⟩ := hZ.c xa rfl
 have hXA := hXA0 rfl ga rfl
 obtain ⟨hxb1, hXB⟩ := hZ.d xb rfl
 obtain ⟨hga1, hGA⟩ := hZ.a ga rfl
 obtain ⟨hgb1, hGB⟩ := hZ.b gb rfl
 have hxne := hZ.e xa xb rfl rfl
 have n1 := blk_vs hGA hXA
 have n2 := blk_vs (A := none) (n := 0) (c := 0) (m := 0) (k := z16) hGA hXB
 have n3 := blk_vs hGB hXA
 have n4 := blk_vs (A := none) (n := 0) (c := 0) (m := 0) (k := z16) hGB hXB
 have hst := hXB.storeT (k := z16) (v := .slice (some ⟨gb, 0, none⟩) n n) (m := 0) z16_length z16_length rfl
 have hXB2 := hXB.setT (k := z16) (v := .slice (some ⟨gb, 0, none⟩) n n) (m := 0) z16_length z16_length
 have hXA2 := hXA.farW (b' := xb) hxne.symm 0 (totL (.slice (some ⟨gb, 0, none⟩) n n) 0 z16)
 have hGA2 := hGA.farC (b := xb) n2.symm 0 (totL (.slice (some ⟨gb, 0, none⟩) n n) 0 z16)
 have hGB2 := hGB.farC (b := xb) n4.symm 0 (totL (.slice (some ⟨gb, 0, none⟩) n n) 0 z16)
 have hbz := bl_setCells hZ.t hxb1 0 (totL (.slice (some ⟨gb, 0, none⟩) n n) 0 z16)
 clear hZ hXA0 hXA hXB hGA hGB HNEW
 refine wpList_skipD rfl rfl (exec_store rfl (by kernel_rfl) (by kernel_rfl) hst) ?_
 clear hst
 generalize w9.setCells xb 0 (totL (.slice (some ⟨gb, 0, none⟩) n n) 0 z16) = w10 at hXB2 hXA2 hGA2 hGB2 hbz ⊢
 go_upto_region 10 with fail
 refine wp_region_lit ?_
 refine wpList_valD (some 58) rfl rfl (by (have hz := (HCI7.out.call hbz).get6; obtain ⟨⟨z0, z1, z2, z3, z4, z5⟩, ⟨y0, y1, y2, y3, y4, y5⟩, y6⟩ := hz; go_simp; first | with_reducible rfl | exact ⟨rfl, rfl⟩ | (trace_state; fail))) ?_
 simp only [Zp, Zq, Zr, Zs]
 refine wpList_callD (some 59) rfl rfl 32 _ ?_ (HO.out _) ?_
 ·go_simp; try (with_reducible rfl)
 rintro e w11 ⟨rfl, hb11⟩
 refine ⟨_, rfl, ?_⟩
 simp only [Zp, Zq, Zr, Zs]
 have hmk := make_u64 n (by have := HN70.out; omega) w11
 refine wpList_valD (some 60) rfl rfl (by (have q := hmk; go_simp; first | with_reducible rfl | exact ⟨rfl, rfl⟩ | (trace_state; fail))) ?_
 simp only [Zp, Zq, Zr, Zs]
 have hW := Vs.new w11 (cellsU (natsI (List.replicate n 0))) _ 22 rfl
 have hbA := (Below.refl w11.heap.size w11).alloc (Nat.le_refl _) (.cells (cellsU (natsI (List.replicate n 0))).toArray 22)
 clear hmk
 refine wpList_valD (some 16) rfl rfl (by (go_simp; first | with_reducible rfl | exact ⟨rfl, rfl⟩ | (trace_state; fail))) ?_
 simp only [Zp, Zq, Zr, Zs]
 have hUI : UnI w7 n xa xb w11.heap.size 0 0 z16 z16 (zK F n) (zK F n) (List.replicate n 0) ga gb (w11.alloc (.cells (cellsU (natsI (List.replicate n 0))).toArray 22)) := by
  have hbq := bl_call hb11 (Nat.le_refl _) hbA
  have k1 := (hXA2.call hb11).lt
  have k2 := (hXB2.call hb11).lt
  have k3 := (BlkE.call hGA2 hb11).lt
  have k4 := (BlkE.call hGB2 hb11).lt
  have k5 := bl_call hbz (Nat.le_refl _) hb11
  have k6 := k5.size
  exact ⟨bl_call hbz (Nat.le_refl _) hbq, hXA2.call hbq, hXB2.call hbq, hGA2.call hbq, hGB2.call hbq, hW, hxa1, hxb1, k6, hxne, by omega, by omega, by omega, by omega, n1, n2, n3, n4⟩
 clear hXA2 hXB2 hGA2 hGB2 hbz hb11 hbA hW n1 n2 n3 n4 hxne hxa1 hxb1 hga1 hgb1
 generalize w11.alloc (.cells (cellsU (natsI (List.replicate n 0))).toArray 22) = w12 at hUI ⊢
 obtain ⟨gw, hgw⟩ : ∃ z, w11.heap.size = z := ⟨_, rfl⟩
 rw [hgw] at hUI
 simp only [hgw]
 clear hgw
 have HUI := Lib.hid hUI
 clear hUI
 go_upto_region 12 with fail
 go_wp2_with fail
 go_loopw [63] (fun v63 wr => ∃ (i ga gb : Nat) (T : List Nat), i ≤ N ∧ v63 = .int .i64 i ∧ T.length = n ∧ (∀ t, t ∈ T → t ≤ i * MO) ∧ UnI w7 n xa xb gw (i : Int) (i : Int) (chkF z16 (ids.take i)) (chkF z16 (ids.take i)) (sumF (zK F n) (ps.take i)) (subL (T.map (nK F)) (sumF (zK F n) (ps.take i))) T ga gb wr) (fun v63 _ => N - (intOf v63).toNat)
 case atStart =>
  refine ⟨0, ga, gb, List.replicate n 0, Nat.zero_le _, rfl, List.length_replicate, fun t ht => ?_, ?_⟩
  ·rw [List.mem_replicate] at ht
   omega
  ·have h := HUI.out
   rw [List.take_zero, List.take_zero]
   show UnI w7 n xa xb gw 0 0 z16 z16 (zK F n) (subL ((List.replicate n 0).map (nK F)) (zK F n)) (List.replicate n 0) ga gb w12
   rw [zeros_sub]
   exact h
 case round =>
  clear HUI
  obtain ⟨i, ga, gb, T, hin, rfl, hTl, hTm, hU⟩ := hrel
  have HTL := Lib.hid hTl
  have HTM := Lib.hid hTm
  clear hTl hTm
  by_cases hlt : i < N
  ·repeat (rename Exit → Act → World → Prop => QB; clear_value (hQB : QB = _); subst hQB)
   as_aux_lemma =>
    obtain ⟨id, u, p9, e1, e2, e4, hid16, hid8, hu, hpl, hr1⟩ := HROW.out i hlt
    obtain ⟨v, hv, hslp⟩ := HPK7.out.get e4
    obtain ⟨b1, o1, hAe, hb1, hrw1⟩ := HA.out (by omega)
    subst hAe
    obtain ⟨A9', c9', hA9e, _, _, hSRR⟩ := HSR7.out
    rw [List.length_map, HVL.out] at hA9e hSRR
    injection hA9e with q1 q2 q3
    subst q1
    obtain ⟨b2, o2, hBe, hb2, hrw2⟩ := hSRR (by omega)
    subst hBe
    have ho2 := hrw2 i [v] (by rw [List.getElem?_map, hv]; rfl) 0 v rfl
    rw [Nat.mul_one, Nat.add_zero] at ho2
    have hbw := HB7.out.trans (hU.t.mono HB7.out.size)
    have hrep := load_rep (w := wr) (b := b1) (o := o1) (i := i) hid16 (fun j u h => (hbw.cell (p := ⟨b1, o1 + i * 17 + j, none⟩) hb1).trans (hrw1 i _ hr1 j u h))
    obtain ⟨H1, H2⟩ := HST.out i id p9 e1 e4
    have H1 := Lib.hid H1
    have H2 := Lib.hid H2
    have HKL := HCL.out i
    have HSN := HSL.out i
    have HSP := Lib.hid hslp
    have HO2 := Lib.hid ho2
    have HID := Lib.hid hid16
    have HI8 := Lib.hid hid8
    have HPL := Lib.hid hpl
    clear e1 e2 e4 hr1 hv hslp hrw1 hrw2 hid16 hid8 hpl hSRR q2 q3 ho2
    generalize chkF z16 (ids.take i) = K at hU HKL H1
    generalize sumF (zK F n) (ps.take i) = SA at hU HSN H2
    have HKL := Lib.hid HKL
    have HSN := Lib.hid HSN
    have hi1 : (i : Int) < (N : Int) := by omega
    have hwi : IntKind.i64.wrap ((i : Int) + 1) = (i : Int) + 1 := IntWalk.i64_in _ (by omega)
    go_upto_region 13 with fail
    refine wp_region_lit ?_
    refine wpList_valD (some 65) rfl rfl (by (go_simp; first | with_reducible rfl | exact ⟨rfl, rfl⟩ | (trace_state; fail))) ?_
    simp only [Zp, Zq, Zr, Zs]
    refine wpList_valD (some 66) rfl rfl (by (go_simp; first | with_reducible rfl | exact ⟨rfl, rfl⟩ | (trace_state; fail))) ?_
    simp only [Zp, Zq, Zr, Zs]
    refine wpList_valD (some 67) rfl rfl (exec_load rfl (by kernel_rfl) hrep) ?_
    simp only [Zp, Zq, Zr, Zs]
    refine wpList_valD (some 18) rfl rfl (by (skip; go_simp; first | with_reducible rfl | exact ⟨rfl, rfl⟩ | (trace_state; fail))) ?_
    simp only [Zp, Zq, Zr, Zs]
    have hR := Vs.new wr (repL z16 (.slice none 0 0)) #[.int .u8 0, .int .u8 0, .int .u8 0, .int .u8 0, .int .u8 0, .int .u8 0, .int .u8 0, .int .u8 0, .int .u8 0, .int .u8 0, .int .u8 0, .int .u8 0, .int .u8 0, .int .u8 0, .int .u8 0, .int .u8 0, .slice none 0 0] 91 rfl
    have hbA := (Below.refl wr.heap.size wr).alloc (Nat.le_refl _) (.cells #[.int .u8 0, .int .u8 0, .int .u8 0, .int .u8 0, .int .u8 0, .int .u8 0, .int .u8 0, .int .u8 0, .int .u8 0, .int .u8 0, .int .u8 0, .int .u8 0, .int .u8 0, .int .u8 0, .int .u8 0, .int .u8 0, .slice none 0 0] 91)
    have hst := hR.storeR (id := id) (v := u) z16_length HID.out (isSl_one hu)
    refine wpList_valD (some 17) rfl rfl (by (go_simp; first | with_reducible rfl | exact ⟨rfl, rfl⟩ | (trace_state; fail))) ?_
    simp only [Zp, Zq, Zr, Zs]
    refine wpList_skipD rfl rfl (exec_store rfl (by kernel_rfl) (by kernel_rfl) hst) ?_
    replace hR := hR.setR (id := id) (v := u) z16_length HID.out
    have hbC := bl_setCells hbA (Nat.le_refl _) 0 (repL id u)
    have hrx : xa < wr.heap.size := hU.a.lt
    have hrxb : xb < wr.heap.size := hU.b.lt
    have hrxw : gw < wr.heap.size := hU.v.lt
    replace hU := hU.call hbC
    clear hst hbA hbC hrep hbw
    generalize (wr.alloc (.cells #[.int .u8 0, .int .u8 0, .int .u8 0, .int .u8 0, .int .u8 0, .int .u8 0, .int .u8 0, .int .u8 0, .int .u8 0, .int .u8 0, .int .u8 0, .int .u8 0, .int .u8 0, .int .u8 0, .int .u8 0, .int .u8 0, .slice none 0 0] 91)).setCells wr.heap.size 0 (repL id u) = w13 at hR hU ⊢
    obtain ⟨rb, hrb⟩ : ∃ z, wr.heap.size = z := ⟨_, rfl⟩
    rw [hrb] at hR hrx hrxb hrxw
    simp only [hrb]
    clear hrb
    have hbw := HB7.out.trans (hU.t.mono HB7.out.size)
    have HBW := Lib.hid hbw
    have HU := Lib.hid hU
    have HR := Lib.hid hR
    clear hbw hU hR
    go_upto_if 70 with fail
    go_cut [19] (fun v19 wx => ∃ (A : Option Addr) (L c : Nat) (xs : List Int), v19 = .slice A L c ∧ xs.length = L ∧ SlU w13 w13.heap.size (.slice A L c) xs ∧ w13 = wx)
    case first =>
     by_cases hM0 : 0 < mrows.length
     ·obtain ⟨q, hq⟩ : ∃ q : Nat, i % mrows.length = q := ⟨_, rfl⟩
      have hqi : q ≤ i := by rw [← hq]; exact Nat.mod_le _ _
      have hql : q < mrows.length := by rw [← hq]; exact Nat.mod_lt _ hM0
      have hrem : (i : Int).tmod (mrows.length : Int) = (q : Int) := by
       rw [Int.tmod_eq_emod_of_nonneg (by omega), ← hq, Int.natCast_emod]
      have hrem2 : (i : Int) % (mrows.length : Int) = (q : Int) := by
       rw [← hq, Int.natCast_emod]
      have hwq : IntKind.i64.wrap (q : Int) = (q : Int) := IntWalk.i64_in _ (by omega)
      obtain ⟨bm, om, hAme, hbm, hrwm⟩ := HAM.out hM0
      subst hAme
      obtain ⟨r9, hr9⟩ : ∃ r, mrows[q]? = some r := ⟨_, List.getElem?_eq_getElem hql⟩
      obtain ⟨um, xm, hum, hsm⟩ := HMR.out r9 (List.mem_of_getElem? hr9)
      subst hum
      have hcm := hrwm q [um] hr9 0 um rfl
      rw [Nat.mul_one, Nat.add_zero] at hcm
      have hcm2 := (HBW.out.cell (p := ⟨bm, om + q, none⟩) hbm).trans hcm
      have hbm2 : bm < w13.heap.size := Nat.lt_of_lt_of_le hbm HBW.out.size
      have hsm2 := hsm.later HBW.out
      obtain ⟨⟨Ax, cx, hux, k1, k2, k3⟩, k4⟩ := hsm2
      have HSX : Hid (SlU w13 w13.heap.size (.slice Ax xm.length cx) xm) := Lib.hid ⟨⟨Ax, cx, rfl, k1, k2, k3⟩, k4⟩
      subst hux
      have hM1 : (0 : Int) < (mrows.length : Int) := by omega
      have hM2 : ¬ (mrows.length : Int) = 0 := by omega
      have hql1 : (q : Int) < (mrows.length : Int) := by omega
      clear hr9 hrwm hcm hsm k1 k2 k3 k4 hq hM0
      go_wp2_with fail
      go_meet
      case rel => exact ⟨Ax, xm.length, cx, xm, rfl, rfl, HSX.out, rfl⟩
     ·have hM1 : ¬ (0 : Int) < (mrows.length : Int) := by omega
      go_wp2_with fail
      go_meet
      case rel => exact ⟨none, 0, 0, [], rfl, rfl, SlU.nil _ _, rfl⟩
    case rest =>
    obtain ⟨Ax, L, cx, xm, rfl, hxl, hsm, hwx⟩ := hcut
    subst hwx
    have HXL := Lib.hid hxl
    have HSM := Lib.hid hsm
    clear hxl hsm
    by_cases h50 : 50 < L
    ·have h50i : (50 : Int) < (L : Int) := by omega
     go_wp2_with fail
     go_ret
     exact ⟨rfl, HBW.out⟩
    have h50i : (L : Int) ≤ 50 := by omega
    go_upto_region 19 with fail
    have HCI13 : Hid (∀ wz, Below w13.heap.size w13 wz → Vs wz ib [.int .u8 yk, .int .u8 (F : Int), .int .i64 yb, .int .i64 yl, .int .i64 ym, .int .i64 yc]) := Lib.hid fun wz h => (HCI7.out.call HU.out.t).call h
    refine region_G (n := 9) (m := 10) (f := 9) (by kernel_rfl) (by kernel_rfl) rfl ?_
    refine WpG.vD 0 (some 82) ?_ rfl rfl (by kernel_rfl) (fun _ _ _ h => h) rfl (fun wz hwz => ?_) ?_
    rotate_left
    ·(obtain ⟨hcz, hfz⟩ := bcell (hwz); have hz := (HCI13.out _ (Below.refl _ _)).get6; obtain ⟨⟨z0, z1, z2, z3, z4, z5⟩, ⟨y0, y1, y2, y3, y4, y5⟩, y6⟩ := hz; go_simp; try (with_reducible rfl))
    simp only [Zp, Zq, Zr, Zs]
    refine WpG.vD 1 (some 83) ?_ rfl rfl (by kernel_rfl) (fun _ _ _ h => h) rfl (fun wz hwz => ?_) ?_
    rotate_left
    ·(obtain ⟨hcz, hfz⟩ := bcell (hwz); have hz := (HCI13.out _ (Below.refl _ _)).get6; obtain ⟨⟨z0, z1, z2, z3, z4, z5⟩, ⟨y0, y1, y2, y3, y4, y5⟩, y6⟩ := hz; go_simp; try (with_reducible rfl))
    simp only [Zp, Zq, Zr, Zs]
    refine WpG.vD 2 (some 84) ?_ rfl rfl (by kernel_rfl) (fun _ _ _ h => h) rfl (fun wz hwz => ?_) ?_
    rotate_left
    ·go_simp; try (with_reducible rfl)
    simp only [Zp, Zq, Zr, Zs]
    refine WpG.oneD 3 (some 85) rfl rfl (by kernel_rfl) (fun q : List Nat × Option Addr × Nat => Value.slice q.2.1 q.1.length q.2.2) (fun q wz => q.1.length = y.meas ∧ okEnc y q.1 ∧ SlU wz wz.heap.size (.slice q.2.1 q.1.length q.2.2) (natsI q.1)) (fun _ _ _ h hb => ⟨h.1, h.2.1, h.2.2.later hb⟩) (Fresh.call rfl (fun wz hwz => HMEA.out (.slice Ax L cx) xm wz (HSM.out.later (hwz)) (by rw [HXL.out]; omega)) (fun wz hwz => by go_simp; try (with_reducible rfl))) (fun q1 w1q hw1q hR1q => ?_)
    simp only [Zp, Zq, Zr, Zs]
    obtain ⟨ms, Ai1, ci1⟩ := q1; dsimp only
    refine WpG.oneD 4 (some 86) rfl rfl (by kernel_rfl) (fun q : Option Addr × Nat => Value.tuple #[.slice q.1 NI q.2, .int .i64 0]) (fun q wz => SlE wz wz.heap.size (.slice q.1 NI q.2) (nEs (encL y ms))) (fun _ _ _ h hb => h.later hb) (Fresh.call rfl (fun wz hwz => HENC.out (.slice Ai1 ms.length ci1) ms wz (hwz.2).1 (hwz.2).2.1 (hwz.2).2.2) (fun wz hwz => by go_simp; try (with_reducible rfl))) (fun q2 w2q hw2q hR2q => ?_)
    simp only [Zp, Zq, Zr, Zs]
    obtain ⟨Ai2, ci2⟩ := q2; dsimp only
    refine WpG.vD 5 (some 81) ?_ rfl rfl (by kernel_rfl) (fun _ _ _ h => h) rfl (fun wz hwz => ?_) ?_
    rotate_left
    ·go_simp; try (with_reducible rfl)
    simp only [Zp, Zq, Zr, Zs]
    refine WpG.vD 6 (some 87) ?_ rfl rfl (by kernel_rfl) (fun _ _ _ h => h) rfl (fun wz hwz => ?_) ?_
    rotate_left
    ·go_simp; try (with_reducible rfl)
    simp only [Zp, Zq, Zr, Zs]
    refine WpG.vD 7 (some 88) ?_ rfl rfl (by kernel_rfl) (fun _ _ _ h => h) rfl (fun wz hwz => ?_) ?_
    rotate_left
    ·go_simp; try (with_reducible rfl)
    simp only [Zp, Zq, Zr, Zs]
    refine WpG.vD 8 (some 20) ?_ rfl rfl (by kernel_rfl) (fun _ _ _ h => h) rfl (fun wz hwz => ?_) ?_
    rotate_left
    ·go_simp; try (with_reducible rfl)
    simp only [Zp, Zq, Zr, Zs]
    refine WpG.done (by kernel_rfl) (fun w14 hS => ?_)
    (try simp only [List.drop_succ_cons]); (try simp only [List.drop_zero]); (try simp only [Nat.reduceSub]); (try simp only [List.take_succ_cons]); (try simp only [List.take_zero])
    obtain ⟨⟨hb14, hr1⟩, hr2⟩ := hS
    have hb14x := hb14.size
    have hU14 := HU.out.call hb14
    have hR14 := HR.out.call hb14
    have hr13 : w13.heap.size ≤ w14.heap.size := hb14x
    have hrl13 : rb < w13.heap.size := HR.out.lt
    have hgl13 : gw < w13.heap.size := HU.out.v.lt
    obtain ⟨hTG1, hTG2, hTG3⟩ := HTG.out ms hr1.1 hr1.2.1
    have HTR := Lib.hid (HTRU.out (.slice Ai2 NI ci2) ms w14 hr1.1 hr1.2.1 hr2)
    obtain ⟨tg, htg⟩ : ∃ z, tgt y ms = z := ⟨_, rfl⟩
    rw [htg] at HTR hTG1 hTG2 hTG3
    have HG1 := Lib.hid hTG1
    have HG2 := Lib.hid hTG2
    have HG3 := Lib.hid hTG3
    clear hr1 hr2 hb14 hb14x htg hTG1 hTG2 hTG3 HU HR HCI13 HSM HXL HBW
    go_upto_region 20 with fail
    refine wp_region_lit ?_
    refine wpList_valD (some 90) rfl rfl (by (have hz := (HCI7.out.call hU14.t).get6; obtain ⟨⟨z0, z1, z2, z3, z4, z5⟩, ⟨y0, y1, y2, y3, y4, y5⟩, y6⟩ := hz; go_simp; first | with_reducible rfl | exact ⟨rfl, rfl⟩ | (trace_state; fail))) ?_
    simp only [Zp, Zq, Zr, Zs]
    refine wpList_valD (some 91) rfl rfl (by (go_simp; first | with_reducible rfl | exact ⟨rfl, rfl⟩ | (trace_state; fail))) ?_
    simp only [Zp, Zq, Zr, Zs]
    refine wpList_callD (some 92) rfl rfl 35 _ ?_ (HTR.out) ?_
    ·go_simp; try (with_reducible rfl)
    rintro e w15 ⟨At, ct, rfl, ⟨hKT, hKn⟩, hb15⟩
    refine ⟨_, rfl, ?_⟩
    simp only [Zp, Zq, Zr, Zs]
    have hU15 := hU14.call hb15
    have hR15 := hR14.call hb15
    have hr15 : w13.heap.size ≤ w15.heap.size := Nat.le_trans hr13 hb15.size
    clear hU14 hR14 HTR hb15
    refine wpList_valD (some 89) rfl rfl (by (go_simp; first | with_reducible rfl | exact ⟨rfl, rfl⟩ | (trace_state; fail))) ?_
    simp only [Zp, Zq, Zr, Zs]
    refine wpList_valD (some 93) rfl rfl (by (go_simp; first | with_reducible rfl | exact ⟨rfl, rfl⟩ | (trace_state; fail))) ?_
    simp only [Zp, Zq, Zr, Zs]
    refine wpList_valD (some 94) rfl rfl (by (go_simp; first | with_reducible rfl | exact ⟨rfl, rfl⟩ | (trace_state; fail))) ?_
    simp only [Zp, Zq, Zr, Zs]
    refine wpList_valD (some 22) rfl rfl (by (go_simp; first | with_reducible rfl | exact ⟨rfl, rfl⟩ | (trace_state; fail))) ?_
    simp only [Zp, Zq, Zr, Zs]
    refine wpList_valD (some 23) rfl rfl (by (go_simp; first | with_reducible rfl | exact ⟨rfl, rfl⟩ | (trace_state; fail))) ?_
    simp only [Zp, Zq, Zr, Zs]
    have HSB := Lib.hid (HSUB.out (.slice At n ct) v (tg.map (nK F)) p9 w15 hKT (SlK.later HSP.out hU15.t) (by rw [List.length_map, HG1.out]) HPL.out)
    have ho15 := cell_call HO2.out hU15.t
    have hb2l : b2 < w15.heap.size := Nat.lt_of_lt_of_le hb2 hU15.t.size
    go_upto_region 21 with fail
    refine wp_region_lit ?_
    refine wpList_valD (some 96) rfl rfl (by (go_simp; first | with_reducible rfl | exact ⟨rfl, rfl⟩ | (trace_state; fail))) ?_
    simp only [Zp, Zq, Zr, Zs]
    refine wpList_valD (some 97) rfl rfl (by (go_simp; first | with_reducible rfl | exact ⟨rfl, rfl⟩ | (trace_state; fail))) ?_
    simp only [Zp, Zq, Zr, Zs]
    refine wpList_valD (some 98) rfl rfl (by (go_simp; first | with_reducible rfl | exact ⟨rfl, rfl⟩ | (trace_state; fail))) ?_
    simp only [Zp, Zq, Zr, Zs]
    refine wpList_valD (some 99) rfl rfl (by (go_simp; first | with_reducible rfl | exact ⟨rfl, rfl⟩ | (trace_state; fail))) ?_
    simp only [Zp, Zq, Zr, Zs]
    refine wpList_valD (some 100) rfl rfl (by (go_simp; first | with_reducible rfl | exact ⟨rfl, rfl⟩ | (trace_state; fail))) ?_
    simp only [Zp, Zq, Zr, Zs]
    refine wpList_valD (some 101) rfl rfl (by (go_simp; first | with_reducible rfl | exact ⟨rfl, rfl⟩ | (trace_state; fail))) ?_
    simp only [Zp, Zq, Zr, Zs]
    refine wpList_callD (some 102) rfl rfl 36 _ ?_ (HSB.out) ?_
    ·go_simp; try (with_reducible rfl)
    rintro e w16 ⟨g9, rfl, hB9, hg9, hb16⟩
    refine ⟨_, rfl, ?_⟩
    simp only [Zp, Zq, Zr, Zs]
    have hU16 := hU15.call hb16
    have hR16 := hR15.call hb16
    have hKT16 := SlK.later hKT hb16
    have hr16 : w13.heap.size ≤ w16.heap.size := Nat.le_trans hr15 hb16.size
    clear hU15 hR15 hKT HSB hb16 ho15 hb2l
    refine wpList_valD (some 95) rfl rfl (by (go_simp; first | with_reducible rfl | exact ⟨rfl, rfl⟩ | (trace_state; fail))) ?_
    simp only [Zp, Zq, Zr, Zs]
    refine wpList_valD (some 103) rfl rfl (by (go_simp; first | with_reducible rfl | exact ⟨rfl, rfl⟩ | (trace_state; fail))) ?_
    simp only [Zp, Zq, Zr, Zs]
    refine wpList_valD (some 104) rfl rfl (by (go_simp; first | with_reducible rfl | exact ⟨rfl, rfl⟩ | (trace_state; fail))) ?_
    simp only [Zp, Zq, Zr, Zs]
    refine wpList_valD (some 24) rfl rfl (by (go_simp; first | with_reducible rfl | exact ⟨rfl, rfl⟩ | (trace_state; fail))) ?_
    simp only [Zp, Zq, Zr, Zs]
    refine wpList_valD (some 25) rfl rfl (by (go_simp; first | with_reducible rfl | exact ⟨rfl, rfl⟩ | (trace_state; fail))) ?_
    simp only [Zp, Zq, Zr, Zs]
    have hrow : 0 < n → ∃ gv ov, At = some ⟨gv, ov, none⟩ ∧ gv < w16.heap.size ∧ gv ≠ gw ∧ RowE w16 gv ov (nEs tg) := fun h0 => by
     have hE := hKT16.toE
     rw [esK_nK hF9 HG3.out] at hE
     obtain ⟨⟨A', c', hv', _, _, h3⟩, _⟩ := hE
     rw [nEs_len, HG1.out] at hv' h3
     injection hv' with q1 q2 q3
     subst q1
     obtain ⟨gv, ov, hA', hlt', hr'⟩ := h3 h0
     subst hA'
     have := hKn gv rfl
     exact ⟨gv, ov, rfl, hlt', by omega, hr'⟩
    have HROWV := Lib.hid hrow
    have HB9 := Lib.hid hB9
    have HU16 := Lib.hid hU16
    have HR16 := Lib.hid hR16
    clear hrow hKT16 hKn hB9 hU16 hR16
    go_upto_region 25 with fail
    go_wp2_with fail
    go_loopw [117] (fun v117 wx => ∃ j : Nat, j ≤ n ∧ v117 = .int .i64 j ∧ Exc (fun q => q = gw) w16.heap.size w16 wx ∧ Vs wx gw (cellsU (natsI ((addN T tg).take j ++ T.drop j)))) (fun v117 _ => n - (intOf v117).toNat)
    case atStart => exact ⟨0, Nat.zero_le _, rfl, exc_of (Below.refl _ _), by rw [List.take_zero, List.drop_zero, List.nil_append]; exact HU16.out.v⟩
    case round =>
     obtain ⟨j, hj, rfl, hx, hV⟩ := hrel
     by_cases hjn : j < n
     ·obtain ⟨gv, ov, hAt, hgv, hgvn, hrv⟩ := HROWV.out (by omega)
      subst hAt
      obtain ⟨tj, htj⟩ : ∃ z, T[j]? = some z := ⟨_, List.getElem?_eq_getElem (by rw [HTL.out]; exact hjn)⟩
      obtain ⟨xj, hxj⟩ : ∃ z, tg[j]? = some z := ⟨_, List.getElem?_eq_getElem (by rw [HG1.out]; exact hjn)⟩
      have hal : (addN T tg).length = T.length := by rw [addN_length HTL.out HG1.out, HTL.out]
      have hpa := part_at hal (by rw [HTL.out]; exact hjn : j < T.length)
      rw [htj] at hpa
      obtain ⟨c0, c1, c2⟩ := hV.numAt hpa
      have d0 := cell_exc ((hrv j ((xj : Int), 0) (nEs_get hxj)).1) (S := fun q => q = gw) hgvn hx
      dsimp only at d0
      have hgv2 : gv < wr.heap.size := Nat.lt_of_lt_of_le hgv hx.size
      have hwj : IntKind.i64.wrap ((j : Int) + 1) = (j : Int) + 1 := IntWalk.i64_in _ (by have := HN70.out; omega)
      have hji : (j : Int) < (n : Int) := by omega
      have hj0 : (0 : Int) ≤ (j : Int) := by omega
      have hb1' := HTM.out tj (List.mem_of_getElem? htj)
      have hb2' := HG2.out xj (List.mem_of_getElem? hxj)
      have hb3' : i * MO ≤ 12 * 4096 := Nat.mul_le_mul (by omega) HMOB.out
      have hMO9 := HMOB.out
      have hws : IntKind.u64.wrap ((tj : Int) + (xj : Int)) = ((tj + xj : Nat) : Int) := by
       rw [IntWalk.u64_in _ (by omega)]
       omega
      have HPS : Hid (((addN T tg).take j ++ T.drop j).set j (tj + xj) = (addN T tg).take (j + 1) ++ T.drop (j + 1)) := Lib.hid (part_set hal (addN_at htj hxj))
      have HPL9 : Hid (j < ((addN T tg).take j ++ T.drop j).length) := Lib.hid (by rw [part_length hal, HTL.out]; exact hjn)
      clear hpa htj hxj hrv hb1' hb2' hb3' hMO9 hal
      go_upto_region 27 with fail
      refine region_B (n := 11) (m := 12) (f := 11) (by kernel_rfl) (by kernel_rfl) rfl ?_
      refine WpH.vD 0 (some 120) ?_ rfl rfl (by kernel_rfl) (fun _ _ _ h => h) rfl (fun wz hwz => ?_) ?_
      rotate_left
      ·go_simp; try (with_reducible rfl)
      simp only [Zp, Zq, Zr, Zs]
      refine WpH.vD 1 (some 121) ?_ rfl rfl (by kernel_rfl) (fun _ _ _ h => h) rfl (fun wz hwz => ?_) ?_
      rotate_left
      ·go_simp; try (with_reducible rfl)
      simp only [Zp, Zq, Zr, Zs]
      refine WpH.vD 2 (some 122) ?_ rfl rfl (by kernel_rfl) (fun _ _ _ h => h) rfl (fun wz hwz => ?_) ?_
      rotate_left
      ·go_simp; try (with_reducible rfl)
      simp only [Zp, Zq, Zr, Zs]
      refine WpH.vD 3 (some 123) ?_ rfl rfl (by kernel_rfl) (fun _ _ _ h => h) rfl (fun wz hwz => ?_) ?_
      rotate_left
      ·(obtain ⟨hcz, hfz⟩ := bcell hwz; go_simp; try (with_reducible rfl))
      simp only [Zp, Zq, Zr, Zs]
      refine WpH.vD 4 (some 124) ?_ rfl rfl (by kernel_rfl) (fun _ _ _ h => h) rfl (fun wz hwz => ?_) ?_
      rotate_left
      ·go_simp; try (with_reducible rfl)
      simp only [Zp, Zq, Zr, Zs]
      refine WpH.vD 5 (some 125) ?_ rfl rfl (by kernel_rfl) (fun _ _ _ h => h) rfl (fun wz hwz => ?_) ?_
      rotate_left
      ·go_simp; try (with_reducible rfl)
      simp only [Zp, Zq, Zr, Zs]
      refine WpH.vD 6 (some 126) ?_ rfl rfl (by kernel_rfl) (fun _ _ _ h => h) rfl (fun wz hwz => ?_) ?_
      rotate_left
      ·go_simp; try (with_reducible rfl)
      simp only [Zp, Zq, Zr, Zs]
      refine WpH.vD 7 (some 127) ?_ rfl rfl (by kernel_rfl) (fun _ _ _ h => h) rfl (fun wz hwz => ?_) ?_
      rotate_left
      ·go_simp; try (with_reducible rfl)
      simp only [Zp, Zq, Zr, Zs]
      refine WpH.vD 8 (some 128) ?_ rfl rfl (by kernel_rfl) (fun _ _ _ h => h) rfl (fun wz hwz => ?_) ?_
      rotate_left
      ·(obtain ⟨hcz, hfz⟩ := bcell hwz; go_simp; try (with_reducible rfl))
      simp only [Zp, Zq, Zr, Zs]
      refine WpH.vD 9 (some 129) ?_ rfl rfl (by kernel_rfl) (fun _ _ _ h => h) rfl (fun wz hwz => ?_) ?_
      rotate_left
      ·go_simp; try (with_reducible rfl)
      simp only [Zp, Zq, Zr, Zs]
      refine WpH.vD 10 (some 130) ?_ rfl rfl (by kernel_rfl) (fun _ _ _ h => h) rfl (fun wz hwz => ?_) ?_
      rotate_left
      ·go_simp; try (with_reducible rfl)
      simp only [Zp, Zq, Zr, Zs]
      refine WpH.doneB (by kernel_rfl) (fun w18 hw18 => ?_)
      (try simp only [List.drop_succ_cons]); (try simp only [List.drop_zero]); (try simp only [Nat.reduceSub]); (try simp only [List.take_succ_cons]); (try simp only [List.take_zero])
      have hV18 := hV.call hw18
      have hx18 : Exc (fun q => q = gw) w16.heap.size w16 w18 := hx.trans ((exc_of hw18).mono hx.size)
      clear c0 c1 c2 d0 hV hx
      have c1 := hV18.frz j (by rw [length_cellsU, natsI_len]; exact HPL9.out)
      have c2 := hV18.lt
      obtain ⟨cx9, c0⟩ : ∃ z, w18.cell? ⟨gw, j, none⟩ = some z := ⟨_, hV18.cell j _ (List.getElem?_eq_getElem (by rw [length_cellsU, natsI_len]; exact HPL9.out))⟩
      go_upto_region 28 with fail
      have hV19 := hV18.numPut HPL9.out (tj + xj)
      rw [HPS.out] at hV19
      have hx19 := exc_sc hx18 (.inl rfl) j (.int .u64 ((tj + xj : Nat) : Int))
      clear c0 c1 c2 hV18 hx18 hw18
      rw [Int.natCast_add] at hV19 hx19
      generalize w18.setCell ⟨gw, j, none⟩ (.int .u64 ((tj : Int) + (xj : Int))) = w19 at hV19 hx19 ⊢
      go_wp2_with fail
      go_roundw
      case rel => exact ⟨j + 1, by omega, by go_num, hx19, hV19⟩
      case measure => simp [intOf]; omega
     ·obtain rfl : n = j := by omega
      have hal : (addN T tg).length = T.length := by rw [addN_length HTL.out HG1.out, HTL.out]
      rw [part_end hal HTL.out.symm] at hV
      have HU17 := Lib.hid (HU16.out.row hx hV)
      have HR17 := Lib.hid (HR16.out.exc (fun e : rb = gw => by omega) hx)
      have HB17 := Lib.hid (HB9.out.exc (S := fun q => q = gw) (fun e : g9 = gw => by omega) hx)
      clear hjn hj hx hV hal HU16 HR16 HB9
      obtain ⟨w17, hw17⟩ : ∃ z : World, z = wr := ⟨wr, rfl⟩
      subst hw17
      have hT17 := HT7.out.call HU17.out.t
      have htl7 : tb < w7.heap.size := HT7.out.lt
      obtain ⟨l1, l2, l3, l4, l5, l6, l7, l8, l9, l10, l11, l12⟩ := HU17.out.lt
      have hTE : Hid (∀ wz, Exc (fun q => q = xa) w17.heap.size w17 wz → Vs wz tb [.int .u8 yk, .int .u8 (F : Int), .int .i64 yb, .int .i64 yl, .int .i64 ym, .int .i64 yc, .int .i64 pq, .string s]) := Lib.hid fun wz h => hT17.exc (fun e : tb = xa => by omega) h
      have hRE : Hid (∀ wz, Exc (fun q => q = xa) w17.heap.size w17 wz → (Instr.loadAt 34 (.pointer (some ⟨rb, 0, none⟩))).run Try.prog wz = .ok (.agg (cells8 id).toArray) wz) := Lib.hid fun wz h => (HR17.out.exc (fun e : rb = xa => by omega) h).loadRI HID.out
      have hb2n : b2 < w7.heap.size := hb2
      have hOE : Hid (∀ wz, Exc (fun q => q = xa) w17.heap.size w17 wz → wz.cell? ⟨b2, o2 + i, none⟩ = some v) := Lib.hid fun wz h => cell_exc (cell_call HO2.out HU17.out.t) (S := fun q => q = xa) (fun e : b2 = xa => by omega) h
      have hBE : Hid (∀ wz, Exc (fun q => q = xa) w17.heap.size w17 wz → SlK wz wz.heap.size (.slice (some ⟨ga, 0, none⟩) n n) SA ∧ SlK wz wz.heap.size v p9) := Lib.hid fun wz h => ⟨BlkE.slNn (HU17.out.ra.exc (S := fun q => q = xa) (fun e : ga = xa => by omega) h) HSN.out (by have := HN70.out; omega), SlK.later HSP.out (HU17.out.t.trans (Exc.below (h.mono HU17.out.t.size) (fun q hq (e : q = xa) => by omega)))⟩
      have hZL : Hid ((xorL K (hashF 7 id)).length = 16) := xorL_length HKL.out (hashF_ok 7 id).1
      have HNL : Hid (∀ g : Nat, (totL (.slice (some ⟨g, 0, none⟩) n n) (((i + 1 : Nat) : Int)) (xorL K (hashF 7 id))).length = (totL (.slice (some ⟨ga, 0, none⟩) n n) (i : Int) K).length) := fun g => by rw [totL_length _ _ HKL.out, totL_length _ _ hZL.out]
      clear hT17
      go_upto_region 29 with fail
      apply region_Z2 (n := 13) (m := 13) (f := 13) (fun x0 x1 => (ToK w17 xa (totL (.slice (some ⟨ga, 0, none⟩) n n) (i : Int) K) (fun g => totL (.slice (some ⟨g, 0, none⟩) n n) (((i + 1 : Nat) : Int)) (xorL K (hashF 7 id))) (esK (addL SA p9))) (some x0) (some x1) true) ((ToT w17 xa) none none) ((ToK w17 xa (totL (.slice (some ⟨ga, 0, none⟩) n n) (i : Int) K) (fun g => totL (.slice (some ⟨g, 0, none⟩) n n) (((i + 1 : Nat) : Int)) (xorL K (hashF 7 id))) (esK (addL SA p9))) none none false) ((ToK.weak _ _ _)) (ToK.clo) ((ToK.start HU17.out.a))
      case hm => kernel_rfl
      case hB => kernel_rfl
      case hf => rfl
      case' h =>
       refine WpX.vD 1 (some 134) ?_ rfl rfl (by kernel_rfl) (fun _ _ _ h => h) rfl (fun wz hwz => ?_) ?_
       rotate_left
       ·(have hz := (hTE.out wz hwz).get8; obtain ⟨⟨z0, z1, z2, z3, z4, z5, z6, z7⟩, ⟨y0, y1, y2, y3, y4, y5, y6, y7⟩, y8⟩ := hz; go_simp; try (with_reducible rfl))
       simp only [Zp, Zq, Zr, Zs]
       refine WpX.vD 2 (some 135) ?_ rfl rfl (by kernel_rfl) (fun _ _ _ h => h) rfl (fun wz hwz => ?_) ?_
       rotate_left
       ·go_simp; try (with_reducible rfl)
       simp only [Zp, Zq, Zr, Zs]
       refine WpX.vD 3 (some 136) ?_ rfl rfl (by kernel_rfl) (fun _ _ _ h => h) rfl (fun wz hwz => ?_) ?_
       rotate_left
       ·(refine Eq.trans (exec_load rfl (by kernel_rfl) (hRE.out wz hwz)) ?_; with_reducible rfl)
       simp only [Zp, Zq, Zr, Zs]
       refine WpX.vD 4 (some 137) ?_ rfl rfl (by kernel_rfl) (fun _ _ _ h => h) rfl (fun wz hwz => ?_) ?_
       rotate_left
       ·go_simp; try (with_reducible rfl)
       simp only [Zp, Zq, Zr, Zs]
       refine WpX.vD 5 (some 138) ?_ rfl rfl (by kernel_rfl) (fun _ _ _ h => h) rfl (fun wz hwz => ?_) ?_
       rotate_left
       ·go_simp; try (with_reducible rfl)
       simp only [Zp, Zq, Zr, Zs]
       refine WpX.vD 6 (some 139) ?_ rfl rfl (by kernel_rfl) (fun _ _ _ h => h) rfl (fun wz hwz => ?_) ?_
       rotate_left
       ·go_simp; try (with_reducible rfl)
       simp only [Zp, Zq, Zr, Zs]
       refine WpX.vD 7 (some 140) ?_ rfl rfl (by kernel_rfl) (fun _ _ _ h => h) rfl (fun wz hwz => ?_) ?_
       rotate_left
       ·(have hz := hOE.out wz hwz; go_simp; try (with_reducible rfl))
       simp only [Zp, Zq, Zr, Zs]
       refine WpX.oneD 0 (some 133) rfl rfl (by kernel_rfl) (fun _ : Unit => Value.agg (totL (.slice (some ⟨ga, 0, none⟩) n n) (i : Int) K).toArray) (fun ld => (ToT w17 xa) (some ld) none) (fun ld => (ToK w17 xa (totL (.slice (some ⟨ga, 0, none⟩) n n) (i : Int) K) (fun g => totL (.slice (some ⟨g, 0, none⟩) n n) (((i + 1 : Nat) : Int)) (xorL K (hashF 7 id))) (esK (addL SA p9))) (some ld) none false) (Turns.val rfl (fun _ _ h => h) (fun _ => (ToK.weak _ _ _)) (fun _ => ToK.clo) (fun wz hS => ⟨(), wz, exec_load rfl (by kernel_rfl) ((hS.v rfl).loadT HKL.out), hS.ld⟩)) (fun ld => ?_)
       simp only [Zp, Zq, Zr, Zs]
       refine WpX.oneD 8 (some 141) rfl rfl (by kernel_rfl) (fun g2 : Nat => Value.tuple #[.agg (totL (.slice (some ⟨g2, 0, none⟩) n n) (((i + 1 : Nat) : Int)) (xorL K (hashF 7 id))).toArray, .int .i64 0]) (fun g2 => (ToT w17 xa) (some ld) (some g2)) (fun g2 => (ToK w17 xa (totL (.slice (some ⟨ga, 0, none⟩) n n) (i : Int) K) (fun g => totL (.slice (some ⟨g, 0, none⟩) n n) (((i + 1 : Nat) : Int)) (xorL K (hashF 7 id))) (esK (addL SA p9))) (some ld) (some g2) false) (Turns.call rfl (fun _ _ h => h) (fun _ => (ToK.weak _ _ _)) (fun _ => ToK.clo) (fun wz hS => (HADD.out i K id _ _ SA p9 wz (by omega) HKL.out HID.out HI8.out (hBE.out wz hS.t).1 (hBE.out wz hS.t).2 HSN.out HPL.out).mono fun e w' ⟨g2, he, h1, h2, hb'⟩ => ⟨g2, he, hS.made h1 h2 hb'⟩) (fun wz hS => by go_simp; try (with_reducible rfl))) (fun g2 => ?_)
       simp only [Zp, Zq, Zr, Zs]
       refine WpX.vD 9 (some 132) ?_ rfl rfl (by kernel_rfl) (fun _ _ _ h => h) rfl (fun wz hwz => ?_) ?_
       rotate_left
       ·go_simp; try (with_reducible rfl)
       simp only [Zp, Zq, Zr, Zs]
       refine WpX.vD 10 (some 142) ?_ rfl rfl (by kernel_rfl) (fun _ _ _ h => h) rfl (fun wz hwz => ?_) ?_
       rotate_left
       ·go_simp; try (with_reducible rfl)
       simp only [Zp, Zq, Zr, Zs]
       refine WpX.vD 11 (some 143) ?_ rfl rfl (by kernel_rfl) (fun _ _ _ h => h) rfl (fun wz hwz => ?_) ?_
       rotate_left
       ·go_simp; try (with_reducible rfl)
       simp only [Zp, Zq, Zr, Zs]
       refine WpX.oneSkip 12 none rfl rfl (by kernel_rfl) ((ToT w17 xa) (some ld) (some g2)) ((ToK w17 xa (totL (.slice (some ⟨ga, 0, none⟩) n n) (i : Int) K) (fun g => totL (.slice (some ⟨g, 0, none⟩) n n) (((i + 1 : Nat) : Int)) (xorL K (hashF 7 id))) (esK (addL SA p9))) (some ld) (some g2) true) (fun _ h => h) ((ToK.weak _ _ _)) (ToK.clo) rfl (fun wz hS => ?_) ?_
       ·(exact ⟨_, exec_store rfl (by kernel_rfl) (by kernel_rfl) ((hS.v rfl).storeT HKL.out hZL.out rfl), hS.put (HNL.out _)⟩)
       simp only [Act.put]
       refine WpX.done (by kernel_rfl) (fun w20 hS => ⟨ld, g2, rfl, ?_⟩)
       ·exact hS
      intro ld g2 w20 hS
      (try simp only [List.drop_succ_cons]); (try simp only [List.drop_zero]); (try simp only [Nat.reduceSub]); (try simp only [List.take_succ_cons]); (try simp only [List.take_zero])
      obtain ⟨hg2, hB2⟩ := hS.r g2 rfl
      have hU20 := HU17.out.setA hS.t (hS.u g2 rfl rfl) hB2 hg2
      have hR20 := HR17.out.exc (fun e : rb = xa => by omega) hS.t
      have hB20 := HB17.out.exc (S := fun q => q = xa) (fun e : g9 = xa => by omega) hS.t
      clear hS hg2 hB2 HU17 HR17 HB17 hTE hRE hOE hBE HNL
      have hsub : Hid ((subL (tg.map (nK F)) p9).length = n ∧ (subL (T.map (nK F)) SA).length = n) := Lib.hid ⟨subL_len (by rw [List.length_map, HG1.out]) HPL.out, subL_len (by rw [List.length_map, HTL.out]) HSN.out⟩
      have HAB := Lib.hid (HADD.out i K id (.slice (some ⟨gb, 0, none⟩) n n) (.slice (some ⟨g9, 0, none⟩) n n) (subL (T.map (nK F)) SA) (subL (tg.map (nK F)) p9) w20 (by omega) HKL.out HID.out HI8.out (BlkE.slNn hU20.rb hsub.out.2 (by have := HN70.out; omega)) (BlkE.slNn hB20 hsub.out.1 (by have := HN70.out; omega)) hsub.out.2 hsub.out.1)
      go_upto_region 30 with fail
      have hxbl := hU20.b.lt
      refine wp_region_lit ?_
      refine wpList_valD (some 145) rfl rfl (exec_load rfl (by kernel_rfl) (hU20.b.loadT HKL.out)) ?_
      simp only [Zp, Zq, Zr, Zs]
      refine wpList_valD (some 146) rfl rfl (by (have hz := (HT7.out.call hU20.t).get8; obtain ⟨⟨z0, z1, z2, z3, z4, z5, z6, z7⟩, ⟨y0, y1, y2, y3, y4, y5, y6, y7⟩, y8⟩ := hz; go_simp; first | with_reducible rfl | exact ⟨rfl, rfl⟩ | (trace_state; fail))) ?_
      simp only [Zp, Zq, Zr, Zs]
      refine wpList_valD (some 147) rfl rfl (by (go_simp; first | with_reducible rfl | exact ⟨rfl, rfl⟩ | (trace_state; fail))) ?_
      simp only [Zp, Zq, Zr, Zs]
      refine wpList_valD (some 148) rfl rfl (exec_load rfl (by kernel_rfl) (hR20.loadRI HID.out)) ?_
      simp only [Zp, Zq, Zr, Zs]
      refine wpList_valD (some 149) rfl rfl (by (go_simp; first | with_reducible rfl | exact ⟨rfl, rfl⟩ | (trace_state; fail))) ?_
      simp only [Zp, Zq, Zr, Zs]
      refine wpList_callD (some 150) rfl rfl 37 _ ?_ (HAB.out) ?_
      ·go_simp; try (with_reducible rfl)
      rintro e w21 ⟨g3, rfl, hB3, hg3, hb21⟩
      refine ⟨_, rfl, ?_⟩
      simp only [Zp, Zq, Zr, Zs]
      have hst := (hU20.b.call hb21).storeT (k := xorL K (hashF 7 id)) (v := .slice (some ⟨g3, 0, none⟩) n n) (m := ((i + 1 : Nat) : Int)) HKL.out hZL.out rfl
      refine wpList_valD (some 144) rfl rfl (by (go_simp; first | with_reducible rfl | exact ⟨rfl, rfl⟩ | (trace_state; fail))) ?_
      simp only [Zp, Zq, Zr, Zs]
      refine wpList_valD (some 151) rfl rfl (by (go_simp; first | with_reducible rfl | exact ⟨rfl, rfl⟩ | (trace_state; fail))) ?_
      simp only [Zp, Zq, Zr, Zs]
      refine wpList_valD (some 152) rfl rfl (by (go_simp; first | with_reducible rfl | exact ⟨rfl, rfl⟩ | (trace_state; fail))) ?_
      simp only [Zp, Zq, Zr, Zs]
      refine wpList_skipD rfl rfl (exec_store rfl (by kernel_rfl) (by kernel_rfl) hst) ?_
      have hx22 := exc_setCells (S := fun q => q = xb) (B := w20.heap.size) xb rfl (totL (.slice (some ⟨g3, 0, none⟩) n n) ((i + 1 : Nat) : Int) (xorL K (hashF 7 id))) 0 w21 (exc_of hb21)
      have hV22 := (hU20.b.call hb21).setT (k := xorL K (hashF 7 id)) (v := .slice (some ⟨g3, 0, none⟩) n n) (m := ((i + 1 : Nat) : Int)) HKL.out hZL.out
      have hB22 := hB3.farC (b := xb) (by omega) 0 (totL (.slice (some ⟨g3, 0, none⟩) n n) ((i + 1 : Nat) : Int) (xorL K (hashF 7 id)))
      have HU22 := Lib.hid (hU20.setB hx22 hV22 hB22 hg3)
      clear hst hx22 hV22 hB22 hB3 hg3 hb21 hU20 hR20 hB20 HAB hxbl
      generalize w21.setCells xb 0 (totL (.slice (some ⟨g3, 0, none⟩) n n) ((i + 1 : Nat) : Int) (xorL K (hashF 7 id))) = w22 at HU22 ⊢
      have HREL : Hid ((addN T tg).length = n ∧ (∀ t, t ∈ addN T tg → t ≤ (i + 1) * MO) ∧ UnI w7 n xa xb gw ((i + 1 : Nat) : Int) ((i + 1 : Nat) : Int) (chkF z16 (ids.take (i + 1))) (chkF z16 (ids.take (i + 1))) (sumF (zK F n) (ps.take (i + 1))) (subL ((addN T tg).map (nK F)) (sumF (zK F n) (ps.take (i + 1)))) (addN T tg) g2 g3 w22) := Lib.hid ⟨addN_length HTL.out HG1.out, fun t ht => by
       have h := addN_le HTM.out HG2.out t ht
       rw [Nat.succ_mul]
       exact h, by
       rw [H1.out, H2.out, addN_map, ← split_step]
       exact HU22.out⟩
      clear HU22
      go_wp2_with fail
      go_roundw
      case rel => exact ⟨i + 1, g2, g3, addN T tg, by omega, by go_num, HREL.out.1, HREL.out.2.1, HREL.out.2.2⟩
      case measure => simp [intOf]; omega
  ·obtain rfl : N = i := by omega
   repeat (rename Exit → Act → World → Prop => QB; clear_value (hQB : QB = _); subst hQB)
   as_aux_lemma =>
    have HKL := HCL.out N
    have HSN := HSL.out N
    generalize chkF z16 (ids.take N) = K at hU HKL
    generalize sumF (zK F n) (ps.take N) = S at hU HSN
    have HKL := Lib.hid HKL
    have HSN := Lib.hid HSN
    clear hlt hin
    obtain ⟨w30, hw30⟩ : ∃ z : World, z = wr := ⟨wr, rfl⟩
    subst hw30
    have hn9 : n ≤ 1000000 := by have := HN70.out; omega
    have hsub : Hid ((subL (T.map (nK F)) S).length = n) := Lib.hid (subL_len (by rw [List.length_map, HTL.out]) HSN.out)
    have HU1 := Lib.hid (HUOK.out (.slice (some ⟨ga, 0, none⟩) n n) (.slice (some ⟨gb, 0, none⟩) n n) S (subL (T.map (nK F)) S) T N K w30 hN12 HKL.out (recomb _ _ (by rw [List.length_map, HTL.out, HSN.out])) HTL.out HTM.out (BlkE.slNn hU.ra HSN.out hn9) (BlkE.slNn hU.rb hsub.out hn9) HSN.out hsub.out)
    generalize subL (T.map (nK F)) S = SB at hU hsub HU1
    have hT30 := HT7.out.call hU.t
    go_upto_region 32 with fail
    obtain ⟨⟨T300, T301, T302, T303, T304, T305, T306, T307⟩, ⟨T308, T309, T3010, T3011, T3012, T3013, T3014, T3015⟩, T3016⟩ := hT30.get8
    refine wp_region_lit ?_
    refine wpList_valD (some 155) rfl rfl (by (go_simp; first | with_reducible rfl | exact ⟨rfl, rfl⟩ | (trace_state; fail))) ?_
    simp only [Zp, Zq, Zr, Zs]
    refine wpList_valD (some 156) rfl rfl (exec_load rfl (by kernel_rfl) (hU.a.loadT HKL.out)) ?_
    simp only [Zp, Zq, Zr, Zs]
    refine wpList_valD (some 157) rfl rfl (exec_load rfl (by kernel_rfl) (hU.b.loadT HKL.out)) ?_
    simp only [Zp, Zq, Zr, Zs]
    refine wpList_callD (some 158) rfl rfl 38 _ ?_ (HU1.out) ?_
    ·go_simp; try (with_reducible rfl)
    rintro e w31 ⟨Aq, cq, rfl, hSQ, hb31⟩
    refine ⟨_, rfl, ?_⟩
    simp only [Zp, Zq, Zr, Zs]
    have hU31 := hU.call hb31
    clear hU HU1 hb31
    refine wpList_valD (some 154) rfl rfl (by (go_simp; first | with_reducible rfl | exact ⟨rfl, rfl⟩ | (trace_state; fail))) ?_
    simp only [Zp, Zq, Zr, Zs]
    refine wpList_valD (some 159) rfl rfl (by (go_simp; first | with_reducible rfl | exact ⟨rfl, rfl⟩ | (trace_state; fail))) ?_
    simp only [Zp, Zq, Zr, Zs]
    refine wpList_valD (some 160) rfl rfl (by (go_simp; first | with_reducible rfl | exact ⟨rfl, rfl⟩ | (trace_state; fail))) ?_
    simp only [Zp, Zq, Zr, Zs]
    refine wpList_valD (some 27) rfl rfl (by (go_simp; first | with_reducible rfl | exact ⟨rfl, rfl⟩ | (trace_state; fail))) ?_
    simp only [Zp, Zq, Zr, Zs]
    refine wpList_valD (some 28) rfl rfl (by (go_simp; first | with_reducible rfl | exact ⟨rfl, rfl⟩ | (trace_state; fail))) ?_
    simp only [Zp, Zq, Zr, Zs]
    clear T300 T301 T302 T303 T304 T305 T306 T307 T308 T309 T3010 T3011 T3012 T3013 T3014 T3015 T3016
    clear hT30
    have HSQ := Lib.hid hSQ
    have HU31 := Lib.hid hU31
    clear hSQ hU31
    go_upto_region 36 with fail
    go_wp2_with fail
    go_loopw [172] (fun v172 wx => ∃ j : Nat, j ≤ n ∧ v172 = .int .i64 j ∧ Below w31.heap.size w31 wx) (fun v172 _ => n - (intOf v172).toNat)
    case atStart => exact ⟨0, Nat.zero_le _, rfl, Below.refl _ _⟩
    case round =>
     obtain ⟨j, hj, rfl, hbx⟩ := hrel
     by_cases hjn : j < n
     ·obtain ⟨⟨A', c', hv', _, _, h3⟩, _⟩ := HSQ.out
      rw [natsI_len, HTL.out] at hv' h3
      injection hv' with q1 q2 q3
      subst q1
      obtain ⟨bq, oq, hA', hlq, hrq⟩ := h3 (by omega)
      subst hA'
      obtain ⟨tj, htj⟩ : ∃ z, T[j]? = some z := ⟨_, List.getElem?_eq_getElem (by rw [HTL.out]; exact hjn)⟩
      have c0 := cell_call (hrq j _ (natsI_get htj)) hbx
      obtain ⟨d0, d1, d2⟩ := (HU31.out.call hbx).v.numAt htj
      have hlq2 : bq < wr.heap.size := Nat.lt_of_lt_of_le hlq hbx.size
      have hji : (j : Int) < (n : Int) := by omega
      have hj0 : (0 : Int) ≤ (j : Int) := by omega
      have hwj : IntKind.i64.wrap ((j : Int) + 1) = (j : Int) + 1 := IntWalk.i64_in _ (by have := HN70.out; omega)
      clear hrq htj q2 q3 h3
      go_upto_region 38 with fail
      refine region_B (n := 8) (m := 9) (f := 8) (by kernel_rfl) (by kernel_rfl) rfl ?_
      refine WpH.vD 0 (some 175) ?_ rfl rfl (by kernel_rfl) (fun _ _ _ h => h) rfl (fun wz hwz => ?_) ?_
      rotate_left
      ·go_simp; try (with_reducible rfl)
      simp only [Zp, Zq, Zr, Zs]
      refine WpH.vD 1 (some 176) ?_ rfl rfl (by kernel_rfl) (fun _ _ _ h => h) rfl (fun wz hwz => ?_) ?_
      rotate_left
      ·go_simp; try (with_reducible rfl)
      simp only [Zp, Zq, Zr, Zs]
      refine WpH.vD 2 (some 177) ?_ rfl rfl (by kernel_rfl) (fun _ _ _ h => h) rfl (fun wz hwz => ?_) ?_
      rotate_left
      ·go_simp; try (with_reducible rfl)
      simp only [Zp, Zq, Zr, Zs]
      refine WpH.vD 3 (some 178) ?_ rfl rfl (by kernel_rfl) (fun _ _ _ h => h) rfl (fun wz hwz => ?_) ?_
      rotate_left
      ·(obtain ⟨hcz, hfz⟩ := bcell hwz; go_simp; try (with_reducible rfl))
      simp only [Zp, Zq, Zr, Zs]
      refine WpH.vD 4 (some 179) ?_ rfl rfl (by kernel_rfl) (fun _ _ _ h => h) rfl (fun wz hwz => ?_) ?_
      rotate_left
      ·go_simp; try (with_reducible rfl)
      simp only [Zp, Zq, Zr, Zs]
      refine WpH.vD 5 (some 180) ?_ rfl rfl (by kernel_rfl) (fun _ _ _ h => h) rfl (fun wz hwz => ?_) ?_
      rotate_left
      ·go_simp; try (with_reducible rfl)
      simp only [Zp, Zq, Zr, Zs]
      refine WpH.vD 6 (some 181) ?_ rfl rfl (by kernel_rfl) (fun _ _ _ h => h) rfl (fun wz hwz => ?_) ?_
      rotate_left
      ·go_simp; try (with_reducible rfl)
      simp only [Zp, Zq, Zr, Zs]
      refine WpH.vD 7 (some 182) ?_ rfl rfl (by kernel_rfl) (fun _ _ _ h => h) rfl (fun wz hwz => ?_) ?_
      rotate_left
      ·(obtain ⟨hcz, hfz⟩ := bcell hwz; go_simp; try (with_reducible rfl))
      simp only [Zp, Zq, Zr, Zs]
      refine WpH.doneB (by kernel_rfl) (fun w33 hw33 => ?_)
      (try simp only [List.drop_succ_cons]); (try simp only [List.drop_zero]); (try simp only [Nat.reduceSub]); (try simp only [List.take_succ_cons]); (try simp only [List.take_zero])
      have HBX := Lib.hid (bl_call hbx (Nat.le_refl _) hw33)
      clear c0 d0 d1 d2 hbx hw33
      go_wp2_with fail
      go_roundw
      case rel => exact ⟨j + 1, by omega, by go_num, HBX.out⟩
      case measure => simp [intOf]; omega
     ·obtain rfl : n = j := by omega
      obtain ⟨w34, hw34⟩ : ∃ z : World, z = wr := ⟨wr, rfl⟩
      subst hw34
      have hU34 := HU31.out.call hbx
      have HT34 := Lib.hid (HT7.out.call hU34.t)
      have HC34 := Lib.hid (HCI7.out.call hU34.t)
      have HI34 := Lib.hid (HI7.out.call hU34.t)
      have HU34 := Lib.hid hU34
      have hmk := fun wz => make_elem n (by have := HN70.out; omega) wz
      have hZL : Hid ((xorL K (hashF 7 oid)).length = 16) := xorL_length HKL.out (hashF_ok 7 oid).1
      have HNL : Hid (∀ g : Nat, (totL (.slice (some ⟨g, 0, none⟩) n n) (((N + 1 : Nat) : Int)) (xorL K (hashF 7 oid))).length = (totL (.slice none 0 0) 0 z16).length) := fun g => by rw [totL_length _ _ hZL.out, totL_length _ _ z16_length]
      clear hjn hj hU34 hbx HU31 HSQ
      go_upto_region 41 with fail
      apply region_Z3 (n := 12) (m := 13) (f := 12) (fun x0 x1 x2 => (AwK w34 [] (esK (zK F n)) (esK (addL SB (zK F n))) (totL (.slice none 0 0) 0 z16) (fun g => totL (.slice (some ⟨g, 0, none⟩) n n) (((N + 1 : Nat) : Int)) (xorL K (hashF 7 oid))) none) (some x0) (some x1) (some x2) true) ((AwT w34 none) none none none) ((AwK w34 [] (esK (zK F n)) (esK (addL SB (zK F n))) (totL (.slice none 0 0) 0 z16) (fun g => totL (.slice (some ⟨g, 0, none⟩) n n) (((N + 1 : Nat) : Int)) (xorL K (hashF 7 oid))) none) none none none false) ((AwK.weak _ _ _ _ _)) (AwK.clo) ((AwK.start w34))
      case hm => kernel_rfl
      case hB => kernel_rfl
      case hf => rfl
      case' h =>
       refine WpX.vD 0 (some 186) ?_ rfl rfl (by kernel_rfl) (fun _ _ _ h => h) rfl (fun wz hwz => ?_) ?_
       rotate_left
       ·(refine Eq.trans (exec_load rfl (by kernel_rfl) ((HU34.out.b.call hwz).loadT HKL.out)) ?_; with_reducible rfl)
       simp only [Zp, Zq, Zr, Zs]
       refine WpX.vD 1 (some 187) ?_ rfl rfl (by kernel_rfl) (fun _ _ _ h => h) rfl (fun wz hwz => ?_) ?_
       rotate_left
       ·(have hz := (HT34.out.call hwz).get8; obtain ⟨⟨z0, z1, z2, z3, z4, z5, z6, z7⟩, ⟨y0, y1, y2, y3, y4, y5, y6, y7⟩, y8⟩ := hz; go_simp; try (with_reducible rfl))
       simp only [Zp, Zq, Zr, Zs]
       refine WpX.vD 2 (some 188) ?_ rfl rfl (by kernel_rfl) (fun _ _ _ h => h) rfl (fun wz hwz => ?_) ?_
       rotate_left
       ·(refine Eq.trans (exec_load rfl (by kernel_rfl) ((HI34.out.call hwz).loadId HOI.out.1)) ?_; with_reducible rfl)
       simp only [Zp, Zq, Zr, Zs]
       refine WpX.vD 3 (some 189) ?_ rfl rfl (by kernel_rfl) (fun _ _ _ h => h) rfl (fun wz hwz => ?_) ?_
       rotate_left
       ·(have hz := (HC34.out.call hwz).get6; obtain ⟨⟨z0, z1, z2, z3, z4, z5⟩, ⟨y0, y1, y2, y3, y4, y5⟩, y6⟩ := hz; go_simp; try (with_reducible rfl))
       simp only [Zp, Zq, Zr, Zs]
       refine WpX.takeD 4 (some 190) rfl rfl (by kernel_rfl) (fun _ _ _ h => h) (.call rfl (fun wz hwz => HO.out wz) (fun wz hwz => ?_)) ?_
       ·go_simp; try (with_reducible rfl)
       simp only [Zp, Zq, Zr, Zs]
       refine WpX.twoD 5 10 (some 191) (some 30) rfl rfl rfl rfl (by kernel_rfl) (fun g : Nat => Value.slice (some ⟨g, 0, none⟩) n n) (fun gz => (AwT w34 none) (some gz) none none) (fun gz => (AwK w34 [] (esK (zK F n)) (esK (addL SB (zK F n))) (totL (.slice none 0 0) 0 z16) (fun g => totL (.slice (some ⟨g, 0, none⟩) n n) (((N + 1 : Nat) : Int)) (xorL K (hashF 7 oid))) none) (some gz) none none false) (Turns.val rfl (fun _ _ h => h) (fun _ => (AwK.weak _ _ _ _ _)) (fun _ => AwK.clo) (fun wz hS => ⟨wz.heap.size, wz.alloc (.cells (cellsE (List.replicate n (0, 0))).toArray 99), by go_simp; try (with_reducible rfl), hS.mkB (by rw [un_zeros])⟩)) (fun x : Nat => Value.pointer (some ⟨x, 0, none⟩)) (fun xc => (AwT w34 none) none none (some xc)) (fun xc => (AwK w34 [] (esK (zK F n)) (esK (addL SB (zK F n))) (totL (.slice none 0 0) 0 z16) (fun g => totL (.slice (some ⟨g, 0, none⟩) n n) (((N + 1 : Nat) : Int)) (xorL K (hashF 7 oid))) none) none none (some xc) false) (Turns.val rfl (fun _ _ h => h) (fun _ => (AwK.weak _ _ _ _ _)) (fun _ => AwK.clo) (fun wz hS => ⟨wz.heap.size, wz.alloc (.cells #[.slice none 0 0, .int .i64 0, .int .u8 0, .int .u8 0, .int .u8 0, .int .u8 0, .int .u8 0, .int .u8 0, .int .u8 0, .int .u8 0, .int .u8 0, .int .u8 0, .int .u8 0, .int .u8 0, .int .u8 0, .int .u8 0, .int .u8 0, .int .u8 0] 76), by go_simp; try (with_reducible rfl), hS.mkD rfl⟩)) (fun gz => ?rz41_13a) (fun xc => ?rz41_13b)
       case' rz41_13a =>
        simp only [Zp, Zq, Zr, Zs]
        refine WpX.twoD 6 10 (some 192) (some 30) rfl rfl rfl rfl (by kernel_rfl) (fun g : Nat => Value.tuple #[.agg (totL (.slice (some ⟨g, 0, none⟩) n n) (((N + 1 : Nat) : Int)) (xorL K (hashF 7 oid))).toArray, .int .i64 0]) (fun gc => (AwT w34 none) (some gz) (some gc) none) (fun gc => (AwK w34 [] (esK (zK F n)) (esK (addL SB (zK F n))) (totL (.slice none 0 0) 0 z16) (fun g => totL (.slice (some ⟨g, 0, none⟩) n n) (((N + 1 : Nat) : Int)) (xorL K (hashF 7 oid))) none) (some gz) (some gc) none false) (Turns.call rfl (fun _ _ h => h) (fun _ => (AwK.weak _ _ _ _ _)) (fun _ => AwK.clo) (fun wz hS => (HADD.out N K oid (.slice (some ⟨gb, 0, none⟩) n n) (.slice (some ⟨gz, 0, none⟩) n n) SB (zK F n) wz (by omega) HKL.out HOI.out.1 HOI.out.2 (BlkE.slNn (BlkE.call HU34.out.rb hS.t) hsub.out hn9) (BlkE.slNn (hS.b gz rfl).2 (zK_length F n) hn9) hsub.out (zK_length F n)).mono fun e w' ⟨g, he, h1, h2, hb'⟩ => ⟨g, he, hS.mkC h1 h2 hb'⟩) (fun wz hS => by go_simp; try (with_reducible rfl))) (fun x : Nat => Value.pointer (some ⟨x, 0, none⟩)) (fun xc => (AwT w34 none) (some gz) none (some xc)) (fun xc => (AwK w34 [] (esK (zK F n)) (esK (addL SB (zK F n))) (totL (.slice none 0 0) 0 z16) (fun g => totL (.slice (some ⟨g, 0, none⟩) n n) (((N + 1 : Nat) : Int)) (xorL K (hashF 7 oid))) none) (some gz) none (some xc) false) (Turns.val rfl (fun _ _ h => h) (fun _ => (AwK.weak _ _ _ _ _)) (fun _ => AwK.clo) (fun wz hS => ⟨wz.heap.size, wz.alloc (.cells #[.slice none 0 0, .int .i64 0, .int .u8 0, .int .u8 0, .int .u8 0, .int .u8 0, .int .u8 0, .int .u8 0, .int .u8 0, .int .u8 0, .int .u8 0, .int .u8 0, .int .u8 0, .int .u8 0, .int .u8 0, .int .u8 0, .int .u8 0, .int .u8 0] 76), by go_simp; try (with_reducible rfl), hS.mkD rfl⟩)) (fun gc => ?rz41_14a) (fun xc => ?rz41_14b)
        case' rz41_14a =>
         simp only [Zp, Zq, Zr, Zs]
         refine WpX.vD 7 (some 185) ?_ rfl rfl (by kernel_rfl) (fun _ _ _ h => h) rfl (fun wz hwz => ?_) ?_
         rotate_left
         ·go_simp; try (with_reducible rfl)
         simp only [Zp, Zq, Zr, Zs]
         refine WpX.vD 8 (some 193) ?_ rfl rfl (by kernel_rfl) (fun _ _ _ h => h) rfl (fun wz hwz => ?_) ?_
         rotate_left
         ·go_simp; try (with_reducible rfl)
         simp only [Zp, Zq, Zr, Zs]
         refine WpX.vD 9 (some 194) ?_ rfl rfl (by kernel_rfl) (fun _ _ _ h => h) rfl (fun wz hwz => ?_) ?_
         rotate_left
         ·go_simp; try (with_reducible rfl)
         simp only [Zp, Zq, Zr, Zs]
         refine WpX.oneD 10 (some 30) rfl rfl (by kernel_rfl) (fun x : Nat => Value.pointer (some ⟨x, 0, none⟩)) (fun xc => (AwT w34 none) (some gz) (some gc) (some xc)) (fun xc => (AwK w34 [] (esK (zK F n)) (esK (addL SB (zK F n))) (totL (.slice none 0 0) 0 z16) (fun g => totL (.slice (some ⟨g, 0, none⟩) n n) (((N + 1 : Nat) : Int)) (xorL K (hashF 7 oid))) none) (some gz) (some gc) (some xc) false) (Turns.val rfl (fun _ _ h => h) (fun _ => (AwK.weak _ _ _ _ _)) (fun _ => AwK.clo) (fun wz hS => ⟨wz.heap.size, wz.alloc (.cells #[.slice none 0 0, .int .i64 0, .int .u8 0, .int .u8 0, .int .u8 0, .int .u8 0, .int .u8 0, .int .u8 0, .int .u8 0, .int .u8 0, .int .u8 0, .int .u8 0, .int .u8 0, .int .u8 0, .int .u8 0, .int .u8 0, .int .u8 0, .int .u8 0] 76), by go_simp; try (with_reducible rfl), hS.mkD rfl⟩)) (fun xc => ?_)
         simp only [Zp, Zq, Zr, Zs]
         refine WpX.oneSkip 11 none rfl rfl (by kernel_rfl) ((AwT w34 none) (some gz) (some gc) (some xc)) ((AwK w34 [] (esK (zK F n)) (esK (addL SB (zK F n))) (totL (.slice none 0 0) 0 z16) (fun g => totL (.slice (some ⟨g, 0, none⟩) n n) (((N + 1 : Nat) : Int)) (xorL K (hashF 7 oid))) none) (some gz) (some gc) (some xc) true) (fun _ h => h) ((AwK.weak _ _ _ _ _)) (AwK.clo) rfl (fun wz hS => ?_) ?_
         ·(exact ⟨_, exec_store rfl (by kernel_rfl) (by kernel_rfl) (((hS.d xc rfl).2.1 rfl).storeT z16_length hZL.out rfl), hS.put (HNL.out _)⟩)
         simp only [Act.put]
         refine WpX.done (by kernel_rfl) (fun w35 hZ => ⟨gz, gc, xc, rfl, ?_⟩)
         ·exact hZ
        case' rz41_14b =>
         simp only [Zp, Zq, Zr, Zs]
         refine WpX.oneD 6 (some 192) rfl rfl (by kernel_rfl) (fun g : Nat => Value.tuple #[.agg (totL (.slice (some ⟨g, 0, none⟩) n n) (((N + 1 : Nat) : Int)) (xorL K (hashF 7 oid))).toArray, .int .i64 0]) (fun gc => (AwT w34 none) (some gz) (some gc) (some xc)) (fun gc => (AwK w34 [] (esK (zK F n)) (esK (addL SB (zK F n))) (totL (.slice none 0 0) 0 z16) (fun g => totL (.slice (some ⟨g, 0, none⟩) n n) (((N + 1 : Nat) : Int)) (xorL K (hashF 7 oid))) none) (some gz) (some gc) (some xc) false) (Turns.call rfl (fun _ _ h => h) (fun _ => (AwK.weak _ _ _ _ _)) (fun _ => AwK.clo) (fun wz hS => (HADD.out N K oid (.slice (some ⟨gb, 0, none⟩) n n) (.slice (some ⟨gz, 0, none⟩) n n) SB (zK F n) wz (by omega) HKL.out HOI.out.1 HOI.out.2 (BlkE.slNn (BlkE.call HU34.out.rb hS.t) hsub.out hn9) (BlkE.slNn (hS.b gz rfl).2 (zK_length F n) hn9) hsub.out (zK_length F n)).mono fun e w' ⟨g, he, h1, h2, hb'⟩ => ⟨g, he, hS.mkC h1 h2 hb'⟩) (fun wz hS => by go_simp; try (with_reducible rfl))) (fun gc => ?_)
         simp only [Zp, Zq, Zr, Zs]
         refine WpX.vD 7 (some 185) ?_ rfl rfl (by kernel_rfl) (fun _ _ _ h => h) rfl (fun wz hwz => ?_) ?_
         rotate_left
         ·go_simp; try (with_reducible rfl)
         simp only [Zp, Zq, Zr, Zs]
         refine WpX.vD 8 (some 193) ?_ rfl rfl (by kernel_rfl) (fun _ _ _ h => h) rfl (fun wz hwz => ?_) ?_
         rotate_left
         ·go_simp; try (with_reducible rfl)
         simp only [Zp, Zq, Zr, Zs]
         refine WpX.vD 9 (some 194) ?_ rfl rfl (by kernel_rfl) (fun _ _ _ h => h) rfl (fun wz hwz => ?_) ?_
         rotate_left
         ·go_simp; try (with_reducible rfl)
         simp only [Zp, Zq, Zr, Zs]
         refine WpX.oneSkip 11 none rfl rfl (by kernel_rfl) ((AwT w34 none) (some gz) (some gc) (some xc)) ((AwK w34 [] (esK (zK F n)) (esK (addL SB (zK F n))) (totL (.slice none 0 0) 0 z16) (fun g => totL (.slice (some ⟨g, 0, none⟩) n n) (((N + 1 : Nat) : Int)) (xorL K (hashF 7 oid))) none) (some gz) (some gc) (some xc) true) (fun _ h => h) ((AwK.weak _ _ _ _ _)) (AwK.clo) rfl (fun wz hS => ?_) ?_
         ·(exact ⟨_, exec_store rfl (by kernel_rfl) (by kernel_rfl) (((hS.d xc rfl).2.1 rfl).storeT z16_length hZL.out rfl), hS.put (HNL.out _)⟩)
         simp only [Act.put]
         refine WpX.done (by kernel_rfl) (fun w35 hZ => ⟨gz, gc, xc, rfl, ?_⟩)
         ·exact hZ
       case' rz41_13b =>
        simp only [Zp, Zq, Zr, Zs]
        refine WpX.oneD 5 (some 191) rfl rfl (by kernel_rfl) (fun g : Nat => Value.slice (some ⟨g, 0, none⟩) n n) (fun gz => (AwT w34 none) (some gz) none (some xc)) (fun gz => (AwK w34 [] (esK (zK F n)) (esK (addL SB (zK F n))) (totL (.slice none 0 0) 0 z16) (fun g => totL (.slice (some ⟨g, 0, none⟩) n n) (((N + 1 : Nat) : Int)) (xorL K (hashF 7 oid))) none) (some gz) none (some xc) false) (Turns.val rfl (fun _ _ h => h) (fun _ => (AwK.weak _ _ _ _ _)) (fun _ => AwK.clo) (fun wz hS => ⟨wz.heap.size, wz.alloc (.cells (cellsE (List.replicate n (0, 0))).toArray 99), by go_simp; try (with_reducible rfl), hS.mkB (by rw [un_zeros])⟩)) (fun gz => ?_)
        simp only [Zp, Zq, Zr, Zs]
        refine WpX.oneD 6 (some 192) rfl rfl (by kernel_rfl) (fun g : Nat => Value.tuple #[.agg (totL (.slice (some ⟨g, 0, none⟩) n n) (((N + 1 : Nat) : Int)) (xorL K (hashF 7 oid))).toArray, .int .i64 0]) (fun gc => (AwT w34 none) (some gz) (some gc) (some xc)) (fun gc => (AwK w34 [] (esK (zK F n)) (esK (addL SB (zK F n))) (totL (.slice none 0 0) 0 z16) (fun g => totL (.slice (some ⟨g, 0, none⟩) n n) (((N + 1 : Nat) : Int)) (xorL K (hashF 7 oid))) none) (some gz) (some gc) (some xc) false) (Turns.call rfl (fun _ _ h => h) (fun _ => (AwK.weak _ _ _ _ _)) (fun _ => AwK.clo) (fun wz hS => (HADD.out N K oid (.slice (some ⟨gb, 0, none⟩) n n) (.slice (some ⟨gz, 0, none⟩) n n) SB (zK F n) wz (by omega) HKL.out HOI.out.1 HOI.out.2 (BlkE.slNn (BlkE.call HU34.out.rb hS.t) hsub.out hn9) (BlkE.slNn (hS.b gz rfl).2 (zK_length F n) hn9) hsub.out (zK_length F n)).mono fun e w' ⟨g, he, h1, h2, hb'⟩ => ⟨g, he, hS.mkC h1 h2 hb'⟩) (fun wz hS => by go_simp; try (with_reducible rfl))) (fun gc => ?_)
        simp only [Zp, Zq, Zr, Zs]
        refine WpX.vD 7 (some 185) ?_ rfl rfl (by kernel_rfl) (fun _ _ _ h => h) rfl (fun wz hwz => ?_) ?_
        rotate_left
        ·go_simp; try (with_reducible rfl)
        simp only [Zp, Zq, Zr, Zs]
        refine WpX.vD 8 (some 193) ?_ rfl rfl (by kernel_rfl) (fun _ _ _ h => h) rfl (fun wz hwz => ?_) ?_
        rotate_left
        ·go_simp; try (with_reducible rfl)
        simp only [Zp, Zq, Zr, Zs]
        refine WpX.vD 9 (some 194) ?_ rfl rfl (by kernel_rfl) (fun _ _ _ h => h) rfl (fun wz hwz => ?_) ?_
        rotate_left
        ·go_simp; try (with_reducible rfl)
        simp only [Zp, Zq, Zr, Zs]
        refine WpX.oneSkip 11 none rfl rfl (by kernel_rfl) ((AwT w34 none) (some gz) (some gc) (some xc)) ((AwK w34 [] (esK (zK F n)) (esK (addL SB (zK F n))) (totL (.slice none 0 0) 0 z16) (fun g => totL (.slice (some ⟨g, 0, none⟩) n n) (((N + 1 : Nat) : Int)) (xorL K (hashF 7 oid))) none) (some gz) (some gc) (some xc) true) (fun _ h => h) ((AwK.weak _ _ _ _ _)) (AwK.clo) rfl (fun wz hS => ?_) ?_
        ·(exact ⟨_, exec_store rfl (by kernel_rfl) (by kernel_rfl) (((hS.d xc rfl).2.1 rfl).storeT z16_length hZL.out rfl), hS.put (HNL.out _)⟩)
        simp only [Act.put]
        refine WpX.done (by kernel_rfl) (fun w35 hZ => ⟨gz, gc, xc, rfl, ?_⟩)
        ·exact hZ
      intro gz gc xc w35 hZ
      (try simp only [List.drop_succ_cons]); (try simp only [List.drop_zero]); (try simp only [Nat.reduceSub]); (try simp only [List.take_succ_cons]); (try simp only [List.take_zero])
      have hM35 := (hZ.d xc rfl).2.2 rfl gc rfl
      have hU35 := HU34.out.call hZ.t
      clear hZ HU34 HT34 HC34 HI34 hmk HNL
      have hT35 := HT7.out.call hU35.t
      have HQ1 := Lib.hid (HUCN.out (.slice (some ⟨ga, 0, none⟩) n n) (.slice (some ⟨gc, 0, none⟩) n n) (N : Int) ((N + 1 : Nat) : Int) K (xorL K (hashF 7 oid)) w35 (by simp; omega))
      go_upto_region 42 with fail
      obtain ⟨⟨T350, T351, T352, T353, T354, T355, T356, T357⟩, ⟨T358, T359, T3510, T3511, T3512, T3513, T3514, T3515⟩, T3516⟩ := hT35.get8
      refine wp_region_lit ?_
      refine wpList_valD (some 196) rfl rfl (by (go_simp; first | with_reducible rfl | exact ⟨rfl, rfl⟩ | (trace_state; fail))) ?_
      simp only [Zp, Zq, Zr, Zs]
      refine wpList_valD (some 197) rfl rfl (exec_load rfl (by kernel_rfl) (hU35.a.loadT HKL.out)) ?_
      simp only [Zp, Zq, Zr, Zs]
      refine wpList_valD (some 198) rfl rfl (exec_load rfl (by kernel_rfl) (hM35.loadT hZL.out)) ?_
      simp only [Zp, Zq, Zr, Zs]
      refine wpList_callD (some 199) rfl rfl 38 _ ?_ (HQ1.out) ?_
      ·go_simp; try (with_reducible rfl)
      rintro e w36 ⟨rfl, hb36⟩
      refine ⟨_, rfl, ?_⟩
      simp only [Zp, Zq, Zr, Zs]
      have hU36 := hU35.call hb36
      clear hU35 HQ1 hb36 hM35
      refine wpList_valD (some 195) rfl rfl (by (go_simp; first | with_reducible rfl | exact ⟨rfl, rfl⟩ | (trace_state; fail))) ?_
      simp only [Zp, Zq, Zr, Zs]
      refine wpList_valD (some 200) rfl rfl (by (go_simp; first | with_reducible rfl | exact ⟨rfl, rfl⟩ | (trace_state; fail))) ?_
      simp only [Zp, Zq, Zr, Zs]
      refine wpList_valD (some 201) rfl rfl (by (go_simp; first | with_reducible rfl | exact ⟨rfl, rfl⟩ | (trace_state; fail))) ?_
      simp only [Zp, Zq, Zr, Zs]
      refine wpList_valD (some 32) rfl rfl (by (go_simp; first | with_reducible rfl | exact ⟨rfl, rfl⟩ | (trace_state; fail))) ?_
      simp only [Zp, Zq, Zr, Zs]
      refine wpList_valD (some 33) rfl rfl (by (go_simp; first | with_reducible rfl | exact ⟨rfl, rfl⟩ | (trace_state; fail))) ?_
      simp only [Zp, Zq, Zr, Zs]
      clear T350 T351 T352 T353 T354 T355 T356 T357 T358 T359 T3510 T3511 T3512 T3513 T3514 T3515 T3516
      clear hT35
      go_upto_region 43 with fail
      refine wp_region_lit ?_
      refine wpList_valD (some 202) rfl rfl (exec_load rfl (by kernel_rfl) (hU36.b.loadT HKL.out)) ?_
      simp only [Zp, Zq, Zr, Zs]
      refine wpList_valD (some 34) rfl rfl (by (skip; go_simp; first | with_reducible rfl | exact ⟨rfl, rfl⟩ | (trace_state; fail))) ?_
      simp only [Zp, Zq, Zr, Zs]
      have hW := Vs.new w36 (totL (.slice none 0 0) 0 z16) #[.slice none 0 0, .int .i64 0, .int .u8 0, .int .u8 0, .int .u8 0, .int .u8 0, .int .u8 0, .int .u8 0, .int .u8 0, .int .u8 0, .int .u8 0, .int .u8 0, .int .u8 0, .int .u8 0, .int .u8 0, .int .u8 0, .int .u8 0, .int .u8 0] 76 rfl
      have hbA := (Below.refl w36.heap.size w36).alloc (Nat.le_refl _) (.cells #[.slice none 0 0, .int .i64 0, .int .u8 0, .int .u8 0, .int .u8 0, .int .u8 0, .int .u8 0, .int .u8 0, .int .u8 0, .int .u8 0, .int .u8 0, .int .u8 0, .int .u8 0, .int .u8 0, .int .u8 0, .int .u8 0, .int .u8 0, .int .u8 0] 76)
      have hst := hW.storeT (k := K) (v := .slice (some ⟨gb, 0, none⟩) n n) (m := (N : Int)) z16_length HKL.out rfl
      refine wpList_skipD rfl rfl (exec_store rfl (by kernel_rfl) (by kernel_rfl) hst) ?_
      have hD37 := hW.setT (k := K) (v := .slice (some ⟨gb, 0, none⟩) n n) (m := (N : Int)) z16_length HKL.out
      have hbC := bl_setCells hbA (Nat.le_refl _) 0 (totL (.slice (some ⟨gb, 0, none⟩) n n) (N : Int) K)
      have hU37 := hU36.call hbC
      have hDB := hU36.lts
      clear hst hbA hbC hW hU36
      generalize (w36.alloc (.cells #[.slice none 0 0, .int .i64 0, .int .u8 0, .int .u8 0, .int .u8 0, .int .u8 0, .int .u8 0, .int .u8 0, .int .u8 0, .int .u8 0, .int .u8 0, .int .u8 0, .int .u8 0, .int .u8 0, .int .u8 0, .int .u8 0, .int .u8 0, .int .u8 0] 76)).setCells w36.heap.size 0 (totL (.slice (some ⟨gb, 0, none⟩) n n) (N : Int) K) = w37 at hD37 hU37 ⊢
      obtain ⟨db, hdb⟩ : ∃ z, w36.heap.size = z := ⟨_, rfl⟩
      rw [hdb] at hD37
      rw [hdb] at hDB
      have HDB := Lib.hid hDB
      clear hDB
      simp only [hdb]
      clear hdb
      have hI37 := HI7.out.call hU37.t
      obtain ⟨c0, _, c2⟩ := hI37.at16 (i := 0) (by rw [HOI.out.1]; omega)
      obtain ⟨c1, _, _⟩ := hI37.at16 (i := 1) (by rw [HOI.out.1]; omega)
      have r0 : 0 ≤ oid.getD 0 0 ∧ oid.getD 0 0 ≤ 255 := HOI.out.2 _ (by rw [List.getD_eq_getElem?_getD, List.getElem?_eq_getElem (by rw [HOI.out.1]; omega)]; exact List.getElem_mem _)
      have r1 : 0 ≤ oid.getD 1 0 ∧ oid.getD 1 0 ≤ 255 := HOI.out.2 _ (by rw [List.getD_eq_getElem?_getD, List.getElem?_eq_getElem (by rw [HOI.out.1]; omega)]; exact List.getElem_mem _)
      generalize oid.getD 0 0 = o0 at c0 r0
      generalize oid.getD 1 0 = o1 at c1 r1
      obtain ⟨r00, r01⟩ := r0
      obtain ⟨r10, r11⟩ := r1
      obtain ⟨q0, hq0⟩ : ∃ q : Nat, o0 % 16 = (q : Int) := ⟨(o0 % 16).toNat, by omega⟩
      have hq16 : q0 < 16 := by omega
      have hq1 : (q0 : Int) < 16 := by omega
      have hqt : o0.tmod 16 = (q0 : Int) := by rw [Int.tmod_eq_emod_of_nonneg r00]; exact hq0
      obtain ⟨z, hz⟩ : ∃ z, 1 + o1 % 255 = z := ⟨_, rfl⟩
      have hz1 : 1 ≤ z ∧ z ≤ 255 := by omega
      have hzw : IntKind.u8.wrap (1 + o1 % 255) = z := by rw [hz, u8_wrap]; omega
      have hzt : IntKind.u8.wrap (1 + o1.tmod 255) = z := by rw [Int.tmod_eq_emod_of_nonneg r10]; exact hzw
      obtain ⟨kc, _⟩ := hD37.totK (i := q0) (by rw [HKL.out]; exact hq16)
      have hdl := hD37.lt
      have HX : ∀ a b : Int, bits BinOp.xor IntKind.u8 a b = X8 a b := fun _ _ => rfl
      have HNE : Hid ((K == K.set q0 (X8 (K.getD q0 0) z)) = false) := Lib.hid (beq_eq_false_iff_ne.mpr fun e => by
       have h1 : K.getD q0 0 = (K.set q0 (X8 (K.getD q0 0) z)).getD q0 0 := congrArg (fun l => l.getD q0 0) e
       have h2 : (K.set q0 (X8 (K.getD q0 0) z)).getD q0 0 = X8 (K.getD q0 0) z := by
        rw [List.getD_eq_getElem?_getD, List.getElem?_set_self (by rw [HKL.out]; exact hq16)]
        rfl
       exact X8_ne hz1 (h2.symm.trans h1.symm))
      generalize K.getD q0 0 = kq at kc HNE
      have HZ1 := Lib.hid hz1
      have HQ16 := Lib.hid hq16
      clear hz1 hz
      go_upto_region 44 with fail
      refine region_B (n := 13) (m := 14) (f := 13) (by kernel_rfl) (by kernel_rfl) rfl ?_
      refine WpH.vD 0 (some 203) ?_ rfl rfl (by kernel_rfl) (fun _ _ _ h => h) rfl (fun wz hwz => ?_) ?_
      rotate_left
      ·go_simp; try (with_reducible rfl)
      simp only [Zp, Zq, Zr, Zs]
      refine WpH.vD 1 (some 204) ?_ rfl rfl (by kernel_rfl) (fun _ _ _ h => h) rfl (fun wz hwz => ?_) ?_
      rotate_left
      ·(obtain ⟨hcz, hfz⟩ := bcell hwz; go_simp; try (with_reducible rfl))
      simp only [Zp, Zq, Zr, Zs]
      refine WpH.vD 2 (some 205) ?_ rfl rfl (by kernel_rfl) (fun _ _ _ h => h) rfl (fun wz hwz => ?_) ?_
      rotate_left
      ·go_simp; try (with_reducible rfl)
      simp only [Zp, Zq, Zr, Zs]
      refine WpH.vD 3 (some 206) ?_ rfl rfl (by kernel_rfl) (fun _ _ _ h => h) rfl (fun wz hwz => ?_) ?_
      rotate_left
      ·go_simp; try (with_reducible rfl)
      simp only [Zp, Zq, Zr, Zs]
      refine WpH.vD 4 (some 207) ?_ rfl rfl (by kernel_rfl) (fun _ _ _ h => h) rfl (fun wz hwz => ?_) ?_
      rotate_left
      ·go_simp; try (with_reducible rfl)
      simp only [Zp, Zq, Zr, Zs]
      refine WpH.vD 5 (some 208) ?_ rfl rfl (by kernel_rfl) (fun _ _ _ h => h) rfl (fun wz hwz => ?_) ?_
      rotate_left
      ·(obtain ⟨hcz, hfz⟩ := bcell hwz; go_simp; try (with_reducible rfl))
      simp only [Zp, Zq, Zr, Zs]
      refine WpH.vD 6 (some 209) ?_ rfl rfl (by kernel_rfl) (fun _ _ _ h => h) rfl (fun wz hwz => ?_) ?_
      rotate_left
      ·go_simp; try (with_reducible rfl)
      simp only [Zp, Zq, Zr, Zs]
      refine WpH.vD 7 (some 210) ?_ rfl rfl (by kernel_rfl) (fun _ _ _ h => h) rfl (fun wz hwz => ?_) ?_
      rotate_left
      ·(obtain ⟨hcz, hfz⟩ := bcell hwz; go_simp; try (with_reducible rfl))
      simp only [Zp, Zq, Zr, Zs]
      refine WpH.vD 8 (some 211) ?_ rfl rfl (by kernel_rfl) (fun _ _ _ h => h) rfl (fun wz hwz => ?_) ?_
      rotate_left
      ·go_simp; try (with_reducible rfl)
      simp only [Zp, Zq, Zr, Zs]
      refine WpH.vD 9 (some 212) ?_ rfl rfl (by kernel_rfl) (fun _ _ _ h => h) rfl (fun wz hwz => ?_) ?_
      rotate_left
      ·go_simp; try (with_reducible rfl)
      simp only [Zp, Zq, Zr, Zs]
      refine WpH.vD 10 (some 213) ?_ rfl rfl (by kernel_rfl) (fun _ _ _ h => h) rfl (fun wz hwz => ?_) ?_
      rotate_left
      ·go_simp; try (with_reducible rfl)
      simp only [Zp, Zq, Zr, Zs]
      refine WpH.vD 11 (some 214) ?_ rfl rfl (by kernel_rfl) (fun _ _ _ h => h) rfl (fun wz hwz => ?_) ?_
      rotate_left
      ·go_simp; try (with_reducible rfl)
      simp only [Zp, Zq, Zr, Zs]
      refine WpH.vD 12 (some 215) ?_ rfl rfl (by kernel_rfl) (fun _ _ _ h => h) rfl (fun wz hwz => ?_) ?_
      rotate_left
      ·go_simp; try (with_reducible rfl)
      simp only [Zp, Zq, Zr, Zs]
      refine WpH.doneB (by kernel_rfl) (fun w38 hw38 => ?_)
      (try simp only [List.drop_succ_cons]); (try simp only [List.drop_zero]); (try simp only [Nat.reduceSub]); (try simp only [List.take_succ_cons]); (try simp only [List.take_zero])
      have hU38 := hU37.call hw38
      have hD38 := hD37.call hw38
      clear c0 c1 c2 kc hdl hI37 hU37 hD37
      obtain ⟨kc, kf⟩ := hD38.totK (i := q0) (by rw [HKL.out]; exact HQ16.out)
      have hdl := hD38.lt
      go_upto_region 45 with fail
      have hD39 := hD38.totPutK (i := q0) (by rw [HKL.out]; exact HQ16.out) (X8 kq z)
      have hU39 := hU38.off HDB.out (2 + q0) (.int .u8 (X8 kq z))
      clear kc kf hdl hU38 hD38
      generalize w38.setCell ⟨db, 2 + q0, none⟩ (.int .u8 (X8 kq z)) = w39 at hD39 hU39 ⊢
      have HZL : Hid ((K.set q0 (X8 kq z)).length = 16) := Lib.hid (by rw [List.length_set]; exact HKL.out)
      generalize K.set q0 (X8 kq z) = KZ at hD39 HNE HZL
      have HQ2 := Lib.hid (HUCH.out (.slice (some ⟨ga, 0, none⟩) n n) (.slice (some ⟨gb, 0, none⟩) n n) (N : Int) K KZ w39 HKL.out HZL.out HNE.out)
      have hT39 := HT7.out.call hU39.t
      obtain ⟨⟨T390, T391, T392, T393, T394, T395, T396, T397⟩, ⟨T398, T399, T3910, T3911, T3912, T3913, T3914, T3915⟩, T3916⟩ := hT39.get8
      refine wp_region_lit ?_
      refine wpList_valD (some 217) rfl rfl (by (go_simp; first | with_reducible rfl | exact ⟨rfl, rfl⟩ | (trace_state; fail))) ?_
      simp only [Zp, Zq, Zr, Zs]
      refine wpList_valD (some 218) rfl rfl (exec_load rfl (by kernel_rfl) (hU39.a.loadT HKL.out)) ?_
      simp only [Zp, Zq, Zr, Zs]
      refine wpList_valD (some 219) rfl rfl (exec_load rfl (by kernel_rfl) (hD39.loadT HZL.out)) ?_
      simp only [Zp, Zq, Zr, Zs]
      refine wpList_callD (some 220) rfl rfl 38 _ ?_ (HQ2.out) ?_
      ·go_simp; try (with_reducible rfl)
      rintro e w40 ⟨rfl, hb40⟩
      refine ⟨_, rfl, ?_⟩
      simp only [Zp, Zq, Zr, Zs]
      have HBL := Lib.hid (HB7.out.trans ((hU39.call hb40).t.mono HB7.out.size))
      clear hU39 HQ2 hb40 hD39
      refine wpList_valD (some 216) rfl rfl (by (go_simp; first | with_reducible rfl | exact ⟨rfl, rfl⟩ | (trace_state; fail))) ?_
      simp only [Zp, Zq, Zr, Zs]
      refine wpList_valD (some 221) rfl rfl (by (go_simp; first | with_reducible rfl | exact ⟨rfl, rfl⟩ | (trace_state; fail))) ?_
      simp only [Zp, Zq, Zr, Zs]
      refine wpList_valD (some 222) rfl rfl (by (go_simp; first | with_reducible rfl | exact ⟨rfl, rfl⟩ | (trace_state; fail))) ?_
      simp only [Zp, Zq, Zr, Zs]
      refine wpList_valD (some 35) rfl rfl (by (go_simp; first | with_reducible rfl | exact ⟨rfl, rfl⟩ | (trace_state; fail))) ?_
      simp only [Zp, Zq, Zr, Zs]
      refine wpList_valD (some 36) rfl rfl (by (go_simp; first | with_reducible rfl | exact ⟨rfl, rfl⟩ | (trace_state; fail))) ?_
      simp only [Zp, Zq, Zr, Zs]
      clear T390 T391 T392 T393 T394 T395 T396 T397 T398 T399 T3910 T3911 T3912 T3913 T3914 T3915 T3916
      clear hT39
      go_wp2_with fail
      go_ret
      exact ⟨rfl, HBL.out⟩

end Go.Proofs.Ytbakkmfjamcbfaa
