/-
 PfLw: for ProofQueries.
-/
import Derived.Test.YtfbfbijkkbflkaaGreatDoorTac
import Derived.Test.YtfbfbijkkbflkaaGreatDoorTad
import Derived.Test.YtfbfbijkkbflkaaGreatDoorTaf
namespace Go.Proofs.YtfbfbijkkbflkaaGreatDoor
open Go.RowKit Fm
set_option linter.unusedVariables false
set_option maxRecDepth 100000

set_option maxHeartbeats 16000000 in
theorem walk_ProofQueries (k f b l m c : Int) (vl vm : Value) (xs ms : List E) (e0 e1 : Int) (sm : Bool) (w : World) (hT : TabW w) (hk : 0 ≤ k ∧ k ≤ 255) (hf : 0 ≤ f ∧ f ≤ 255) (hb : 0 ≤ b ∧ b ≤ 255) (hl : 0 ≤ l ∧ l ≤ 255) (hm : 0 ≤ m ∧ m ≤ 255) (hc : 0 ≤ c ∧ c ≤ 255)
  (hxs : SlE w w.heap.size vl xs) (hms : SlE w w.heap.size vm ms) (he0 : 0 ≤ e0 ∧ e0 ≤ 18446744073709551615) (he1 : 0 ≤ e1 ∧ e1 ≤ 18446744073709551615) :
  Calls Tryz.prog 5 #[.agg #[.int .u8 k, .int .u8 f, .int .u8 b, .int .u8 l, .int .u8 m, .int .u8 c], vl, vm, .agg #[.int .u64 e0, .int .u64 e1], .bool sm] w fun e w' => e = .returned (.bool true) ∧ Below w.heap.size w w' := by
 obtain ⟨F, y, hF, hy, hCIR⟩ := law10_Circuit k f b l m c hk.1 hk.2 hf.1 hf.2 hb.1 hb.2 hl.1 hl.2 hm.1 hm.2 hc.1 hc.2
 have HAW : Hid (∀ wz, Below w.heap.size w wz → Calls Tryz.prog 10 #[] wz fun e w' => e = .returned (.bool true) ∧ Below wz.heap.size wz w') := fun wz h => law11_Awake wz (hT.call h)
 have HCIR := Lib.hid hCIR
 have hok := hy.ok
 have hcl : y.calls ≤ 511 := by have := hy.calls; omega
 have hnin := hy.nin
 have hal := CK.arity_le hok
 have hga := gad_arity F y
 have hcp := CK.calls_pos hok
 have hjn : y.joint ≤ 512 := by cases y <;> simp only [CK.joint] <;> (try simp only [CK.calls] at hcl ⊢) <;> omega
 obtain ⟨L, hL, hN, hcN⟩ := small_log hy
 have h8 : (2 : Nat) ^ L ≤ 256 := Nat.le_trans (Nat.pow_le_pow_right (by omega) hL) (by decide)
 have hpe : y.proof = y.arity + 2 * (2 ^ L - 1) + 1 := by
  show y.arity + 2 * (nextP (y.calls + 1) - 1) + 1 = _
  rw [hN]
 have hpn : y.proof ≤ 2000 := by omega
 have hpa : y.arity + 3 ≤ y.proof := by omega
 have HVEC : Hid (∀ (vx : Value) (es : List E) wz, SlE w w.heap.size vx es → Below w.heap.size w wz → es.length ≤ 60 → Calls Tryz.prog 12 #[y.val F, vx, .bool sm] wz fun e w' => ∃ q : Nat × KL F, e = .returned (.slice (some ⟨q.1, 0, none⟩) y.nin y.nin) ∧ (q.2.length = y.nin ∧ wz.heap.size ≤ q.1 ∧ BlkE w' q.1 (esK q.2)) ∧ Below wz.heap.size wz w') :=
  fun vx es wz hs hb h60 => (law10_Vector hF y hok vx es sm wz ((hs.below hb).mono hb.size) h60).mono fun e w' ⟨g, zs, h1, h2, h3, h4, h5⟩ => ⟨(g, zs), h2, ⟨h1, h4, h3⟩, h5⟩
 have HJOI : Hid (∀ (vx : Value) (es : List E) wz, SlE w w.heap.size vx es → Below w.heap.size w wz → es.length ≤ 60 → Calls Tryz.prog 19 #[y.val F, vx, .int .i64 1] wz fun e w' => ∃ q : Nat × KL F, e = .returned (.slice (some ⟨q.1, 0, none⟩) y.joint y.joint) ∧ (q.2.length = y.joint ∧ wz.heap.size ≤ q.1 ∧ BlkE w' q.1 (esK q.2)) ∧ Below wz.heap.size wz w') :=
  fun vx es wz hs hb h60 => (law10_Joint hF y hok hcl vx es wz ((hs.below hb).mono hb.size) h60).mono fun e w' ⟨g, zs, h1, h2, h3, h4, h5⟩ => ⟨(g, zs), h2, ⟨h1, h4, h3⟩, h5⟩
 have HGAD : Hid (∀ wz, Calls Tryz.prog 27 #[y.val F] wz (RetG2 (y.gad F) wz)) := fun wz => circuit_Gadget2 hF y hok wz
 have HARI : Hid (∀ wz (B : Nat) (k : Int) (sl : Value) (n : Int), RepG wz B k sl n (y.gad F) → Calls Tryz.prog 28 #[.agg #[.int .u8 k, sl, .int .i64 n]] wz fun e w' => e = .returned (.int .i64 (y.arity : Nat)) ∧ Below wz.heap.size wz w') := fun wz B k sl n h => by
  have h2 := gadget_Arity wz B (y.gad F) k sl n h
  rwa [hga] at h2
 have HPRF : Hid (∀ wz, Calls Tryz.prog 21 #[y.val F] wz (RetI y.proof wz)) := fun wz => circuit_Proof hF y hok (by omega) wz
 have HSO5 : Hid (∀ (vx : Value) (es : List E) wz, SlE w w.heap.size vx es → Below w.heap.size w wz → es.length ≤ 60 → Calls Tryz.prog 20 #[y.val F, vx, .int .i64 (y.proof : Nat), .int .i64 5] wz fun e w' => ∃ q : Nat × KL F, e = .returned (.slice (some ⟨q.1, 0, none⟩) y.proof y.proof) ∧ (q.2.length = y.proof ∧ wz.heap.size ≤ q.1 ∧ BlkE w' q.1 (esK q.2)) ∧ Below wz.heap.size wz w') :=
  fun vx es wz hs hb h60 => (law11_some hF y y.proof 5 (by omega) (by omega) vx es wz ((hs.below hb).mono hb.size) h60).mono fun e w' ⟨g, zs, h1, h2, h3, h4, h5⟩ => ⟨(g, zs), h2, ⟨h1, h4, h3⟩, h5⟩
 obtain ⟨x, hx⟩ : ∃ x, kL F e0 e1 = x := ⟨_, rfl⟩
 have HOUT : Hid (∀ wz, Below w.heap.size w wz → Calls Tryz.prog 23 #[y.val F, .agg #[.int .u64 e0, .int .u64 e1]] wz fun e w' => e = .returned (.tuple #[vK x, .bool (!decide (Fm.kpow x (2 ^ L) = 1))]) ∧ Below wz.heap.size wz w') := fun wz h => by
  have h2 := law11_outside hF y hok hcl L (by omega) hN e0 e1 he0.1 he0.2 he1.1 he1.2 wz (hT.call h)
  rwa [any_pow (by omega), hx] at h2
 have HQN : Hid (Fm.kpow x (2 ^ L) = 1 → ∀ (wz : World) (gv gp cp gj : Nat) (v p j : KL F), Below w.heap.size w wz → gv ≠ gp → gj ≠ gp → v.length = y.nin → p.length = y.proof → j.length = y.joint → BlkE wz gv (esK v) → SlK wz wz.heap.size (.slice (some ⟨gp, 0, none⟩) y.proof cp) p → BlkE wz gj (esK j) →
   Calls Tryz.prog 24 #[y.val F, .slice (some ⟨gv, 0, none⟩) y.nin y.nin, .slice (some ⟨gp, 0, none⟩) y.proof cp, .slice (some ⟨gj, 0, none⟩) y.joint y.joint, .agg #[.int .u64 (lo x), .int .u64 (hi x)], .int .i64 1] wz (RetE9 12 wz)) := fun h1 wz gv gp cp gj v p j hb n1 n2 hv hp hj bv bp bj => by
  have h := proof_Query hF y hok (by omega) L hL hN 1 (.inl rfl) v p j hv hj hp x (.slice (some ⟨gv, 0, none⟩) y.nin y.nin) (.slice (some ⟨gj, 0, none⟩) y.joint y.joint) gp 0 cp wz (hT.call hb)
   (SlX.of hv (Nat.le_refl _) (by omega) bv.lt n1 bv.rowE) (SlX.of hj (Nat.le_refl _) (by omega) bj.lt n2 bj.rowE) bp
  refine h.mono ?_
  rintro e w' (⟨_, h⟩ | ⟨h, _⟩)
  ·exact h
  ·exact absurd h1 h
 have HQY : Hid (Fm.kpow x (2 ^ L) ≠ 1 → ∀ (wz : World) (gv gp cp gj : Nat) (v p j : KL F), Below w.heap.size w wz → gv ≠ gp → gj ≠ gp → v.length = y.nin → p.length = y.proof → j.length = y.joint → BlkE wz gv (esK v) → SlK wz wz.heap.size (.slice (some ⟨gp, 0, none⟩) y.proof cp) p → BlkE wz gj (esK j) →
   Calls Tryz.prog 24 #[y.val F, .slice (some ⟨gv, 0, none⟩) y.nin y.nin, .slice (some ⟨gp, 0, none⟩) y.proof cp, .slice (some ⟨gj, 0, none⟩) y.joint y.joint, .agg #[.int .u64 (lo x), .int .u64 (hi x)], .int .i64 1] wz fun e w' =>
    ∃ q : Option Addr × Nat, e = .returned (.tuple #[.slice q.1 (y.arity + 2) q.2, .int .i64 0]) ∧ SlK w' w'.heap.size (.slice q.1 (y.arity + 2) q.2) (qryL y L v j 1 p x) ∧ Below wz.heap.size wz w') := fun h1 wz gv gp cp gj v p j hb n1 n2 hv hp hj bv bp bj => by
  have h := proof_Query hF y hok (by omega) L hL hN 1 (.inl rfl) v p j hv hj hp x (.slice (some ⟨gv, 0, none⟩) y.nin y.nin) (.slice (some ⟨gj, 0, none⟩) y.joint y.joint) gp 0 cp wz (hT.call hb)
   (SlX.of hv (Nat.le_refl _) (by omega) bv.lt n1 bv.rowE) (SlX.of hj (Nat.le_refl _) (by omega) bj.lt n2 bj.rowE) bp
  rw [nK_one, kinv_one] at h
  refine h.mono ?_
  rintro e w' (⟨h, _⟩ | ⟨_, q, he, hs, hb'⟩)
  ·exact absurd h h1
  ·rw [qryL_length] at he hs
   exact ⟨q, he, hs, hb'⟩
 have HDOM : Hid (∀ wz, Calls Tryz.prog 30 #[y.val F] wz (RetI (2 ^ L) wz)) := fun wz => by
  have h := circuit_Domain F y hok (by omega) wz
  rwa [hN] at h
 have HLG : Hid (∀ wz, Below w.heap.size w wz → Calls Tryz.prog 29 #[.int .i64 ((2 ^ L : Nat) : Int)] wz fun e w' => e = .returned (.tuple #[.int .i64 L, .bool true]) ∧ wz = w') := fun wz h => ntt_Log_ok L (by omega) wz (hT.call h)
 have HPT := Lib.hid (fun wz => ntt_Points hF L (by omega) wz)
 have HCO : Hid (∀ (wz : World) (u : Value) (r : KL F), Below w.heap.size w wz → r.length = 2 ^ L → SlK wz wz.heap.size u r → Calls Tryz.prog 35 #[.int .u8 F, u] wz fun e w' => ∃ g, e = .returned (.tuple #[.slice (some ⟨g, 0, none⟩) (2 ^ L) (2 ^ L), .int .i64 0]) ∧ RwK w' g (coefsK L r) ∧ Below wz.heap.size wz w') := fun wz u r hb hl hs => by
  refine (ntt_Coefs hF L (by omega) u r hl wz (hT.call hb) hs).mono ?_
  rintro e w' ⟨g, he, hr, _, hb'⟩
  rw [coefsK_length] at he
  exact ⟨g, he, hr, hb'⟩
 have HRA : Hid (∀ (wz : World) (u : Value) (r : KL F) (z : Fin (Pm F)), ev x r = z → r.length ≤ 100000 → SlK wz wz.heap.size u r → Calls Tryz.prog 34 #[.int .i64 F, u, .agg #[.int .u64 (lo x), .int .u64 (hi x)]] wz (RetK z wz)) := fun wz u r z hz hl hs => by
  rw [← hz]
  exact ref_At hF u r x wz hs (by omega)
 have HRUN : Hid (∀ (v j p : KL F), v.length = y.nin → j.length = y.joint → p.length = y.proof → ∀ (wz : World) (E : Nat → Prop) (wE : World) (kb sb gb pb ab tb aw : Nat) (rb : Nat → Nat) (vp vt : Value) (D : Nat → Prop) (vl vj : Value),
   CapR E wE kb sb gb pb ab tb aw y.arity (2 ^ L) rb vp vt p (pows (rootK F L) (2 ^ L)) → SlX D wz vl v → SlX D wz vj j →
   St (InvR kb y.arity L rb E wE (p.take y.arity) (argOf y v j 1) 0) D wz →
   Calls Tryz.prog 32 #[y.val F, vl, vj, .int .i64 1, .func (.func 33) #[] #[.pointer (some ⟨kb, 0, none⟩), .pointer (some ⟨sb, 0, none⟩), .pointer (some ⟨gb, 0, none⟩), .pointer (some ⟨pb, 0, none⟩), .pointer (some ⟨ab, 0, none⟩), .pointer (some ⟨tb, 0, none⟩)]] wz fun e w' =>
    e = .returned (.tuple #[vK (runF y v j 1 (ansQ L (p.drop y.arity))), .int .i64 0]) ∧ Exc D wz.heap.size wz w' ∧ ∃ D', St (InvR kb y.arity L rb E wE (p.take y.arity) (argOf y v j 1) y.calls) D' w') := fun v j p hl hjl hpl wz E wE kb sb gb pb ab tb aw rb vp vt D vl vj hC h1 h2 h3 => by
  have h := circuit_RunOk hF y hok (by omega) 1 1 (.inl rfl) (by rw [nK_one, kinv_one]) v j _ _ D _ _ 0 (asked_lawq hF y hok (by omega) v j (p.take y.arity) p 1 L hL hN E wE kb sb gb pb ab tb aw rb vp vt hC (by omega) (by omega)) hl hjl vl vj wz h1 h2 h3
  refine h.mono ?_
  rintro e w' ⟨⟨_, rfl, D', hst, hD⟩ | ⟨h0, _⟩, hE⟩
  ·exact ⟨rfl, hE, D', hst⟩
  ·exact absurd rfl h0
 have HDEC : Hid (∀ (wz : World) (vz : Value) (q : KL F), q.length = y.arity + 2 → SlK wz wz.heap.size vz q → Calls Tryz.prog 36 #[y.val F, vz] wz fun e w' => e = .returned (.tuple #[.bool (decide (q.getD 0 0 = 0) && decide (gval (y.gad F) ((q.drop 1).take y.arity) = q.getD (y.arity + 1) 0)), .int .i64 0]) ∧ Below wz.heap.size wz w') := fun wz vz q hq hz => proof_Decide hF y hok hcl vz q hq wz hz
 have HOF : Hid (∀ wz (k : Int) (sl : Value) (n : Int), RepG wz wz.heap.size k sl n (y.gad F) → ∀ (vi : Value) (r : KL F), r.length = y.arity → SlK wz wz.heap.size vi r → Calls Tryz.prog 37 #[.agg #[.int .u8 k, sl, .int .i64 n], .int .u8 F, vi] wz (RetKE (gval (y.gad F) r) wz)) := fun wz k sl n h vi r hr hs => gadget_Of hF wz (y.gad F) k sl n h vi r hs (by rw [hga]; exact hr)
 have HQL : Hid (∀ (v j p : KL F), p.length = y.proof → (qryL y L v j 1 p x).length = y.arity + 2 ∧ (qryL y L v j 1 p x)[0]? = some (runF y v j 1 (ansQ L (p.drop y.arity))) ∧ (qryL y L v j 1 p x)[y.arity + 1]? = some (ev x (p.drop y.arity)) ∧
   (∀ i, i < y.arity → (qryL y L v j 1 p x)[1 + i]? = some (ev x (coefsK L (rowA L ((p.take y.arity).getD i 0) (argOf y v j 1) i y.calls)))) ∧ (∀ i, (rowA L ((p.take y.arity).getD i 0) (argOf y v j 1) i y.calls).length = 2 ^ L)) := fun v j p hp => ⟨qryL_length .., qryL_zero, qryL_last, fun i h => qryL_get h, fun i => rowA_length hcN⟩
 have EQL : ∀ (a0 a1 b0 b1 : Int) (wz : World), (Op.equalIn 10000 36 (.agg #[.int .u64 a0, .int .u64 a1]) (.agg #[.int .u64 b0, .int .u64 b1])).run Tryz.prog wz = .ok (a0 == b0 && a1 == b1) wz := fun a0 a1 b0 b1 wz => run_equalIn_elem 9998 a0 a1 b0 b1 wz
 obtain ⟨⟨A1, c1, rfl, _, _, _⟩, _⟩ := id hxs
 obtain ⟨⟨A2, c2, rfl, _, _, _⟩, _⟩ := id hms
 have HXS := Lib.hid hxs
 have HMS := Lib.hid hms
 have HX : Hid ((Fm.kpow x (2 ^ L) = 1) ∨ ¬ (Fm.kpow x (2 ^ L) = 1)) := Classical.em _
 have HPTL : Hid ((pows (rootK F L) (2 ^ L)).length = 2 ^ L) := ofF_length ..
 have HN1 : Hid (1 ≤ 2 ^ L) := Nat.two_pow_pos L
 have HN8 : Hid (2 ^ L ≤ 256) := h8
 have HRZ : Hid (∀ (s : Fin (Pm F)) (args : Nat → KL F) (i : Nat), (List.replicate (2 ^ L) (0 : Fin (Pm F))).set 0 s = rowA L s args i 0) := fun s args i => rowA_zero
 have hfb0 : (1 : Int) ≤ (F : Int) := by rcases hF.or with rfl | rfl <;> omega
 have hfb1 : (F : Int) ≤ 2 := by rcases hF.or with rfl | rfl <;> omega
 have HNI : Hid (1 ≤ y.nin) := CK.nin_pos hok
 obtain ⟨T, hTT⟩ : ∃ T, pows (rootK F L) (2 ^ L) = T := ⟨_, rfl⟩
 rw [hTT] at HPT HPTL HRUN
 clear hTT
 clear hxs hms hCIR hx he0 he1 hT hk hf hb hl hm hc hcl hN hcN hL hok hy hga hpe h8 hcp
 unfold CK.val at HCIR HVEC HJOI HSO5 HOUT HQN HQY HGAD HPRF HDOM HRUN HDEC
 obtain ⟨N, hNN⟩ : ∃ N, 2 ^ L = N := ⟨_, rfl⟩
 rw [hNN] at HDOM HLG HPTL HN1 HN8 HRUN HCO HQL HRZ
 have HNN := Lib.hid hNN
 obtain ⟨n2, hn2⟩ : ∃ n2, y.arity + 2 = n2 := ⟨_, rfl⟩
 have HN2 := Lib.hid hn2
 rw [hn2] at HQY HDEC HQL
 clear hNN hn2
 generalize y.nin = ni at *
 generalize y.joint = nj at *
 generalize y.proof = tot at *
 generalize y.arity = ar at *
 generalize y.gad F = gd at *
 generalize y.calls = nc at *
 generalize ((y.k : Nat) : Int) = yk at *
 generalize ((y.b : Nat) : Int) = yb at *
 generalize ((y.l : Nat) : Int) = yl at *
 generalize ((y.m : Nat) : Int) = ym at *
 generalize ((y.c : Nat) : Int) = yc at *
 have hb00 : Below w.heap.size w w := Below.refl _ _
 go_enter Tryz.func5, Tryz.ntmps5
 go_upto_region 1 with fail
 have hs := (Vs.new w [.int .u8 k, .int .u8 f, .int .u8 b, .int .u8 l, .int .u8 m, .int .u8 c] #[.int .u8 k, .int .u8 f, .int .u8 b, .int .u8 l, .int .u8 m, .int .u8 c] 23 rfl).alloc (.cells #[.int .u64 e0, .int .u64 e1] 36)
 have hee := V2.new (w.alloc (.cells #[.int .u8 k, .int .u8 f, .int .u8 b, .int .u8 l, .int .u8 m, .int .u8 c] 23)) (.int .u64 e0) (.int .u64 e1) 36
 simp only [World.size_alloc] at hee
 have hbw : Below w.heap.size w ((w.alloc (.cells #[.int .u8 k, .int .u8 f, .int .u8 b, .int .u8 l, .int .u8 m, .int .u8 c] 23)).alloc (.cells #[.int .u64 e0, .int .u64 e1] 36)) := by repeat (first | exact bA | with_reducible assumption | apply bB)
 have hszn : w.heap.size + 2 ≤ ((w.alloc (.cells #[.int .u8 k, .int .u8 f, .int .u8 b, .int .u8 l, .int .u8 m, .int .u8 c] 23)).alloc (.cells #[.int .u64 e0, .int .u64 e1] 36)).heap.size := by simp only [World.size_alloc]; omega
 generalize ((w.alloc (.cells #[.int .u8 k, .int .u8 f, .int .u8 b, .int .u8 l, .int .u8 m, .int .u8 c] 23)).alloc (.cells #[.int .u64 e0, .int .u64 e1] 36)) = w1 at hs hee hbw hszn ⊢
 clear hb00
 by_cases h40 : 40 < xs.length
 ·skip
  go_wp2_with (first
   | (go_at_call 10; refine (HAW.out _ hbw).mono ?_; rintro e w2 ⟨rfl, hb2⟩; replace hbw := bl_call hbw (Nat.le_refl _) hb2; replace hs := hs.call hb2; replace hee := hee.call hb2))
  go_ret
  exact ⟨rfl, hbw⟩
 by_cases h41 : 40 < ms.length
 ·skip
  go_wp2_with (first
   | (go_at_call 10; refine (HAW.out _ hbw).mono ?_; rintro e w2 ⟨rfl, hb2⟩; replace hbw := bl_call hbw (Nat.le_refl _) hb2; replace hs := hs.call hb2; replace hee := hee.call hb2))
  go_ret
  exact ⟨rfl, hbw⟩
 obtain ⟨⟨s0, s1, s2, s3, s4, s5⟩, ⟨s6, s7, s8, s9, s10, s11⟩, s12⟩ := hs.get6
 obtain ⟨ee0, ee1, ee2, ee3, ee4⟩ := V2.mk hee.c0 hee.c1 hee.f0 hee.f1 hee.lt
 go_upto_region 5 with (first
  | (go_at_call 10; refine (HAW.out _ hbw).mono ?_; rintro e w2 ⟨rfl, hb2⟩; replace hbw := bl_call hbw (Nat.le_refl _) hb2; replace hs := hs.call hb2; replace hee := hee.call hb2; clear s0 s1 s2 s3 s4 s5 s6 s7 s8 s9 s10 s11 s12 ee0 ee1 ee2 ee3 ee4; clear hb2; obtain ⟨⟨s0, s1, s2, s3, s4, s5⟩, ⟨s6, s7, s8, s9, s10, s11⟩, s12⟩ := hs.get6; obtain ⟨ee0, ee1, ee2, ee3, ee4⟩ := V2.mk hee.c0 hee.c1 hee.f0 hee.f1 hee.lt))
 go_upto_region 6 with (first
  | (go_at_call 11; refine (HCIR.out _).mono ?_; rintro e w3 ⟨rfl, hb3⟩; replace hbw := bl_call hbw (Nat.le_refl _) hb3; replace hs := hs.call hb3; replace hee := hee.call hb3; clear s0 s1 s2 s3 s4 s5 s6 s7 s8 s9 s10 s11 s12 ee0 ee1 ee2 ee3 ee4; clear hb3; obtain ⟨⟨s0, s1, s2, s3, s4, s5⟩, ⟨s6, s7, s8, s9, s10, s11⟩, s12⟩ := hs.get6; obtain ⟨ee0, ee1, ee2, ee3, ee4⟩ := V2.mk hee.c0 hee.c1 hee.f0 hee.f1 hee.lt))
 clear s0 s1 s2 s3 s4 s5 s6 s7 s8 s9 s10 s11 s12 ee0 ee1 ee2 ee3 ee4
 have hY := Vs.new w3 [.int .u8 yk, .int .u8 (F : Int), .int .i64 yb, .int .i64 yl, .int .i64 ym, .int .i64 yc] #[.int .u8 yk, .int .u8 (F : Int), .int .i64 yb, .int .i64 yl, .int .i64 ym, .int .i64 yc] 30 rfl
 have hbA : Below w3.heap.size w3 (w3.alloc (.cells #[.int .u8 yk, .int .u8 (F : Int), .int .i64 yb, .int .i64 yl, .int .i64 ym, .int .i64 yc] 30)) := by repeat (first | exact bA | with_reducible assumption | apply bB)
 replace hbw := bl_call hbw (Nat.le_refl _) hbA
 replace hs := hs.call hbA
 replace hee := hee.call hbA
 clear hbA
 generalize w3.alloc (.cells #[.int .u8 yk, .int .u8 (F : Int), .int .i64 yb, .int .i64 yl, .int .i64 ym, .int .i64 yc] 30) = w4 at hbw hs hee hY ⊢
 have h40' : xs.length ≤ 60 := by omega
 have h41' : ms.length ≤ 60 := by omega
 clear h40 h41 hs
 obtain ⟨⟨Y0, Y1, Y2, Y3, Y4, Y5⟩, ⟨Y6, Y7, Y8, Y9, Y10, Y11⟩, Y12⟩ := hY.get6
 go_upto_region 7 with fail
 clear Y0 Y1 Y2 Y3 Y4 Y5 Y6 Y7 Y8 Y9 Y10 Y11 Y12
 have hG := Vs.new w4 [.int .i64 (F : Int)] #[.int .i64 (F : Int)] 3 rfl
 have hbA : Below w4.heap.size w4 (w4.alloc (.cells #[.int .i64 (F : Int)] 3)) := by repeat (first | exact bA | with_reducible assumption | apply bB)
 replace hbw := bl_call hbw (Nat.le_refl _) hbA
 replace hY := hY.call hbA
 replace hee := hee.call hbA
 clear hbA
 generalize w4.alloc (.cells #[.int .i64 (F : Int)] 3) = w5 at hbw hY hee hG ⊢
 obtain ⟨gb, hgbe⟩ : ∃ z, w4.heap.size = z := ⟨_, rfl⟩
 rw [hgbe] at hG
 simp only [hgbe]
 clear hgbe
 have hgb5 := hG.lt
 obtain ⟨⟨Y0, Y1, Y2, Y3, Y4, Y5⟩, ⟨Y6, Y7, Y8, Y9, Y10, Y11⟩, Y12⟩ := hY.get6
 apply region_G2 (n := 8) (m := 9) (f := 8) ((fun gi gj wz => Below w5.heap.size w5 wz ∧ (∃ lgi : KL F, lgi.length = ni ∧ w5.heap.size ≤ gi ∧ BlkE wz gi (esK lgi)) ∧ (∃ lgj : KL F, lgj.length = nj ∧ w5.heap.size ≤ gj ∧ BlkE wz gj (esK lgj)) ∧ gi ≠ gj))
 case hm => kernel_rfl
 case hB => kernel_rfl
 case hf => rfl
 case' h =>
  refine WpG.vD 0 (some 53) ?_ rfl rfl (by kernel_rfl) (fun _ _ _ h => h) rfl (fun wz hwz => ?_) ?_
  rotate_left
  ·(obtain ⟨hcz, hfz⟩ := bcell (hwz); go_simp; try (with_reducible rfl))
  simp only [Zp, Zq, Zr, Zs]
  refine WpG.vD 1 (some 54) ?_ rfl rfl (by kernel_rfl) (fun _ _ _ h => h) rfl (fun wz hwz => ?_) ?_
  rotate_left
  ·go_simp; try (with_reducible rfl)
  simp only [Zp, Zq, Zr, Zs]
  refine WpG.vD 2 (some 55) ?_ rfl rfl (by kernel_rfl) (fun _ _ _ h => h) rfl (fun wz hwz => ?_) ?_
  rotate_left
  ·go_simp; try (with_reducible rfl)
  simp only [Zp, Zq, Zr, Zs]
  refine WpG.vD 4 (some 57) ?_ rfl rfl (by kernel_rfl) (fun _ _ _ h => h) rfl (fun wz hwz => ?_) ?_
  rotate_left
  ·(obtain ⟨hcz, hfz⟩ := bcell (hwz); go_simp; try (with_reducible rfl))
  simp only [Zp, Zq, Zr, Zs]
  refine WpG.vD 5 (some 58) ?_ rfl rfl (by kernel_rfl) (fun _ _ _ h => h) rfl (fun wz hwz => ?_) ?_
  rotate_left
  ·go_simp; try (with_reducible rfl)
  simp only [Zp, Zq, Zr, Zs]
  refine WpG.oneD 3 (some 56) rfl rfl (by kernel_rfl) (fun q : Nat × KL F => Value.slice (some ⟨q.1, 0, none⟩) ni ni) (fun q wz => q.2.length = ni ∧ w5.heap.size ≤ q.1 ∧ BlkE wz q.1 (esK q.2)) (fun _ _ _ h hb => ⟨h.1, h.2.1, h.2.2.call hb⟩) (Fresh.call rfl (fun wz hwz => (HVEC.out _ xs wz HXS.out (bl_call hbw (Nat.le_refl _) (hwz)) h40').mono fun e w' ⟨q, h1, ⟨h2, h3, h4⟩, h5⟩ => ⟨q, h1, ⟨h2, Nat.le_trans (hwz).size h3, h4⟩, h5⟩) (fun wz hwz => by go_simp; try (with_reducible rfl))) (fun qgi w0gi hw0gi hR0gi => ?_)
  simp only [Zp, Zq, Zr, Zs]
  obtain ⟨gi, lgi⟩ := qgi; dsimp only
  refine WpG.oneD 6 (some 59) rfl rfl (by kernel_rfl) (fun q : Nat × KL F => Value.slice (some ⟨q.1, 0, none⟩) nj nj) (fun q wz => q.2.length = nj ∧ gi + 1 ≤ q.1 ∧ BlkE wz q.1 (esK q.2)) (fun _ _ _ h hb => ⟨h.1, h.2.1, h.2.2.call hb⟩) (Fresh.call rfl (fun wz hwz => (HJOI.out _ ms wz HMS.out (bl_call hbw (Nat.le_refl _) (hwz.1)) h41').mono fun e w' ⟨q, h1, ⟨h2, h3, h4⟩, h5⟩ => ⟨q, h1, ⟨h2, Nat.le_trans (hwz.2).2.2.lt h3, h4⟩, h5⟩) (fun wz hwz => by go_simp; try (with_reducible rfl))) (fun qgj w0gj hw0gj hR0gj => ?_)
  simp only [Zp, Zq, Zr, Zs]
  obtain ⟨gj, lgj⟩ := qgj; dsimp only
  refine WpG.vD 7 (some 13) ?_ rfl rfl (by kernel_rfl) (fun _ _ _ h => h) rfl (fun wz hwz => ?_) ?_
  rotate_left
  ·go_simp; try (with_reducible rfl)
  simp only [Zp, Zq, Zr, Zs]
  refine WpG.done (by kernel_rfl) (fun w6 hS => ⟨gi, gj, rfl, ?_⟩)
  ·(obtain ⟨⟨h0, h1, h1', h1''⟩, h2, h2', h2''⟩ := hS; first | exact ⟨h0, ⟨_, h1, h1', h1''⟩, ⟨_, h2, by omega, h2''⟩, by omega⟩ | exact ⟨h0, ⟨_, h2, by omega, h2''⟩, ⟨_, h1, h1', h1''⟩, by omega⟩)
 intro gi gj w6 hS
 (try simp only [List.drop_succ_cons]); (try simp only [List.drop_zero]); (try simp only [Nat.reduceSub]); (try simp only [List.take_succ_cons]); (try simp only [List.take_zero])
 obtain ⟨hb6, ⟨v, hvl, hgi, hBI⟩, ⟨j, hjl, hgj, hBJ⟩, hij⟩ := hS
 clear Y0 Y1 Y2 Y3 Y4 Y5 Y6 Y7 Y8 Y9 Y10 Y11 Y12
 replace hbw := bl_call hbw (Nat.le_refl _) hb6
 replace hY := hY.call hb6
 replace hee := hee.call hb6
 replace hG := hG.call hb6
 have HVL := Lib.hid hvl
 have HJL := Lib.hid hjl
 have li := hBI.lt
 have lj := hBJ.lt
 have n1 : gb < gi := by omega
 have n2' : gb < gj := by omega
 clear hb6 hvl hjl HVEC HJOI HCIR HAW HXS h40' hij hgi hgj hgb5
 have ly6 := hY.lt
 have lg6 := hG.lt
 have le6 := hee.lt
 go_upto_region 8 with fail
 obtain ⟨⟨Y0, Y1, Y2, Y3, Y4, Y5⟩, ⟨Y6, Y7, Y8, Y9, Y10, Y11⟩, Y12⟩ := hY.get6
 apply region_G2 (n := 6) (m := 7) (f := 6) ((fun gp pb wz => Below w6.heap.size w6 wz ∧ (∃ p : KL F, p.length = tot ∧ w6.heap.size ≤ gp ∧ BlkE wz gp (esK p)) ∧ w6.heap.size ≤ pb ∧ Vs wz pb [.slice none 0 0]))
 case hm => kernel_rfl
 case hB => kernel_rfl
 case hf => rfl
 case' h =>
  refine WpG.vD 0 (some 60) ?_ rfl rfl (by kernel_rfl) (fun _ _ _ h => h) rfl (fun wz hwz => ?_) ?_
  rotate_left
  ·(obtain ⟨hcz, hfz⟩ := bcell (hwz); go_simp; try (with_reducible rfl))
  simp only [Zp, Zq, Zr, Zs]
  refine WpG.vD 1 (some 61) ?_ rfl rfl (by kernel_rfl) (fun _ _ _ h => h) rfl (fun wz hwz => ?_) ?_
  rotate_left
  ·go_simp; try (with_reducible rfl)
  simp only [Zp, Zq, Zr, Zs]
  refine WpG.vD 2 (some 62) ?_ rfl rfl (by kernel_rfl) (fun _ _ _ h => h) rfl (fun wz hwz => ?_) ?_
  rotate_left
  ·(obtain ⟨hcz, hfz⟩ := bcell (hwz); go_simp; try (with_reducible rfl))
  simp only [Zp, Zq, Zr, Zs]
  refine WpG.takeD 3 (some 63) rfl rfl (by kernel_rfl) (fun _ _ _ h => h) (.call rfl (fun wz hwz => HPRF.out wz) (fun wz hwz => ?_)) ?_
  ·go_simp; try (with_reducible rfl)
  simp only [Zp, Zq, Zr, Zs]
  refine WpG.twoD 4 5 (some 64) (some 15) rfl rfl rfl rfl (by kernel_rfl) (fun q : Nat × KL F => Value.slice (some ⟨q.1, 0, none⟩) tot tot) (fun q wz => q.2.length = tot ∧ w6.heap.size ≤ q.1 ∧ BlkE wz q.1 (esK q.2)) (fun _ _ _ h hb => ⟨h.1, h.2.1, h.2.2.call hb⟩) (Fresh.call rfl (fun wz hwz => (HSO5.out _ ms wz HMS.out (bl_call hbw (Nat.le_refl _) (hwz)) h41').mono fun e w' ⟨q, h1, ⟨h2, h3, h4⟩, h5⟩ => ⟨q, h1, ⟨h2, Nat.le_trans (hwz).size h3, h4⟩, h5⟩) (fun wz hwz => by go_simp; try (with_reducible rfl))) (fun b : Nat => Value.pointer (some ⟨b, 0, none⟩)) (fun b wz => w6.heap.size ≤ b ∧ Vs wz b [.slice none 0 0]) (fun _ _ _ h hb => ⟨h.1, h.2.call hb⟩) (Fresh.var [.slice none 0 0] 24 rfl (fun wz hwz => (hwz).size) (fun wz hwz => by go_simp; try (with_reducible rfl)) (R := fun b wz => Vs wz b [.slice none 0 0]) (fun wz hwz => Vs.new wz _ _ _ rfl)) (fun qp w0p hw0p hR0p => ?rg8_1a) (fun pb w0b' hw0b' hR0b' => ?rg8_1b)
  case' rg8_1a =>
   simp only [Zp, Zq, Zr, Zs]
   obtain ⟨gp, p⟩ := qp; dsimp only
   refine WpG.oneD 5 (some 15) rfl rfl (by kernel_rfl) (fun b : Nat => Value.pointer (some ⟨b, 0, none⟩)) (fun b wz => w6.heap.size ≤ b ∧ Vs wz b [.slice none 0 0]) (fun _ _ _ h hb => ⟨h.1, h.2.call hb⟩) (Fresh.var [.slice none 0 0] 24 rfl (fun wz hwz => (hwz.1).size) (fun wz hwz => by go_simp; try (with_reducible rfl)) (R := fun b wz => Vs wz b [.slice none 0 0]) (fun wz hwz => Vs.new wz _ _ _ rfl)) (fun pb w0b' hw0b' hR0b' => ?_)
   simp only [Zp, Zq, Zr, Zs]
   refine WpG.done (by kernel_rfl) (fun w7 hS => ⟨gp, pb, rfl, ?_⟩)
   ·(obtain ⟨⟨h0, h1⟩, h2⟩ := hS; first | exact ⟨h0, ⟨_, h1⟩, h2⟩ | exact ⟨h0, ⟨_, h2⟩, h1⟩)
  case' rg8_1b =>
   simp only [Zp, Zq, Zr, Zs]
   refine WpG.oneD 4 (some 64) rfl rfl (by kernel_rfl) (fun q : Nat × KL F => Value.slice (some ⟨q.1, 0, none⟩) tot tot) (fun q wz => q.2.length = tot ∧ w6.heap.size ≤ q.1 ∧ BlkE wz q.1 (esK q.2)) (fun _ _ _ h hb => ⟨h.1, h.2.1, h.2.2.call hb⟩) (Fresh.call rfl (fun wz hwz => (HSO5.out _ ms wz HMS.out (bl_call hbw (Nat.le_refl _) (hwz.1)) h41').mono fun e w' ⟨q, h1, ⟨h2, h3, h4⟩, h5⟩ => ⟨q, h1, ⟨h2, Nat.le_trans (hwz.1).size h3, h4⟩, h5⟩) (fun wz hwz => by go_simp; try (with_reducible rfl))) (fun qp w0p hw0p hR0p => ?_)
   simp only [Zp, Zq, Zr, Zs]
   obtain ⟨gp, p⟩ := qp; dsimp only
   refine WpG.done (by kernel_rfl) (fun w7 hS => ⟨gp, pb, rfl, ?_⟩)
   ·(obtain ⟨⟨h0, h1⟩, h2⟩ := hS; first | exact ⟨h0, ⟨_, h1⟩, h2⟩ | exact ⟨h0, ⟨_, h2⟩, h1⟩)
 intro gp pb w7 hS
 (try simp only [List.drop_succ_cons]); (try simp only [List.drop_zero]); (try simp only [Nat.reduceSub]); (try simp only [List.take_succ_cons]); (try simp only [List.take_zero])
 obtain ⟨hb7, ⟨p, hpl, hgp, hBP⟩, hpb, hpp⟩ := hS
 clear Y0 Y1 Y2 Y3 Y4 Y5 Y6 Y7 Y8 Y9 Y10 Y11 Y12
 replace hbw := bl_call hbw (Nat.le_refl _) hb7
 replace hY := hY.call hb7
 replace hee := hee.call hb7
 replace hG := hG.call hb7
 replace hBI := hBI.call hb7
 replace hBJ := hBJ.call hb7
 have hpne := blk_ne9 hBP (by rw [esK_length, hpl]; omega) hpp
 have HPL := Lib.hid hpl
 have hs67 := hb7.size
 clear hb7 hpl HSO5 HMS h41' HPRF
 obtain ⟨pp0, pp1, pp2⟩ := hpp.get1
 go_upto_region 9 with fail
 clear pp0 pp1 pp2
 replace hpp : Vs (w7.setCell ⟨pb, 0, none⟩ (.slice (some ⟨gp, 0, none⟩) tot tot)) pb [.slice (some ⟨gp, 0, none⟩) tot tot] := hpp.put 0 (by simp) _
 replace hY := hY.far (p := ⟨pb, 0, none⟩) (by dsimp only; omega) (.slice (some ⟨gp, 0, none⟩) tot tot)
 replace hG := hG.far (p := ⟨pb, 0, none⟩) (by dsimp only; omega) (.slice (some ⟨gp, 0, none⟩) tot tot)
 replace hee := hee.setOther (p := ⟨pb, 0, none⟩) (by dsimp only; omega) (.slice (some ⟨gp, 0, none⟩) tot tot)
 replace hBI := hBI.far (p := ⟨pb, 0, none⟩) (by dsimp only; omega) (.slice (some ⟨gp, 0, none⟩) tot tot)
 replace hBJ := hBJ.far (p := ⟨pb, 0, none⟩) (by dsimp only; omega) (.slice (some ⟨gp, 0, none⟩) tot tot)
 replace hBP := hBP.far (p := ⟨pb, 0, none⟩) hpne (.slice (some ⟨gp, 0, none⟩) tot tot)
 have lw6 : w.heap.size ≤ w6.heap.size := by omega
 replace hbw := bl_set (p := ⟨pb, 0, none⟩) hbw (Nat.le_trans lw6 hpb) (.slice (some ⟨gp, 0, none⟩) tot tot)
 have hsz8 : w6.heap.size ≤ (w7.setCell ⟨pb, 0, none⟩ (.slice (some ⟨gp, 0, none⟩) tot tot)).heap.size := by simpa [World.setCell] using hs67
 obtain ⟨m6, hm6⟩ : ∃ z, w6.heap.size = z := ⟨_, rfl⟩
 rw [hm6] at hsz8 hpb hgp li lj
 generalize w7.setCell ⟨pb, 0, none⟩ (.slice (some ⟨gp, 0, none⟩) tot tot) = w8 at *
 have h8w : Below w8.heap.size w8 w8 := Below.refl _ _
 clear ly6 lg6 le6 lw6 hs67 hpne hm6
 have n3 : gi ≠ gp := by omega
 have n4 : gj ≠ gp := by omega
 obtain ⟨⟨Y0, Y1, Y2, Y3, Y4, Y5⟩, ⟨Y6, Y7, Y8, Y9, Y10, Y11⟩, Y12⟩ := hY.get6
 obtain ⟨ee0, ee1, ee2, ee3, ee4⟩ := V2.mk hee.c0 hee.c1 hee.f0 hee.f1 hee.lt
 go_upto_region 10 with (first
  | (go_at_call 23; refine (HOUT.out _ hbw).mono ?_; rintro e w9 ⟨rfl, hb9⟩; replace hbw := bl_call hbw (Nat.le_refl _) hb9; replace h8w := bl_call h8w (Nat.le_refl _) hb9; replace hY := hY.call hb9; replace hee := hee.call hb9; replace hG := hG.call hb9; replace hBI := hBI.call hb9; replace hBJ := hBJ.call hb9; replace hBP := hBP.call hb9; replace hpp := hpp.call hb9; clear Y0 Y1 Y2 Y3 Y4 Y5 Y6 Y7 Y8 Y9 Y10 Y11 Y12 ee0 ee1 ee2 ee3 ee4; clear hb9; obtain ⟨⟨Y0, Y1, Y2, Y3, Y4, Y5⟩, ⟨Y6, Y7, Y8, Y9, Y10, Y11⟩, Y12⟩ := hY.get6; obtain ⟨ee0, ee1, ee2, ee3, ee4⟩ := V2.mk hee.c0 hee.c1 hee.f0 hee.f1 hee.lt))
 clear Y0 Y1 Y2 Y3 Y4 Y5 Y6 Y7 Y8 Y9 Y10 Y11 Y12 ee0 ee1 ee2 ee3 ee4
 have hpt := V2.new w9 (.int .u64 (lo x)) (.int .u64 (hi x)) 36
 have hbA : Below w9.heap.size w9 (w9.alloc (.cells #[.int .u64 (lo x), .int .u64 (hi x)] 36)) := by repeat (first | exact bA | with_reducible assumption | apply bB)
 replace hbw := bl_call hbw (Nat.le_refl _) hbA
 replace h8w := bl_call h8w (Nat.le_refl _) hbA
 replace hY := hY.call hbA
 replace hee := hee.call hbA
 replace hG := hG.call hbA
 replace hBI := hBI.call hbA
 replace hBJ := hBJ.call hbA
 replace hBP := hBP.call hbA
 replace hpp := hpp.call hbA
 clear hbA
 generalize w9.alloc (.cells #[.int .u64 (lo x), .int .u64 (hi x)] 36) = w10 at hbw h8w hY hee hG hBI hBJ hBP hpp hpt ⊢
 clear hee HOUT
 have hSP : SlK w10 w10.heap.size (.slice (some ⟨gp, 0, none⟩) tot tot) p := hBP.slM HPL.out (by omega)
 rcases HX.out with hx1 | hx1
 ·have hdx : decide (Fm.kpow x (2 ^ L) = 1) = true := decide_eq_true hx1
  have HQ := Lib.hid (HQN.out hx1)
  clear HQN HQY hx1
  obtain ⟨⟨Y0, Y1, Y2, Y3, Y4, Y5⟩, ⟨Y6, Y7, Y8, Y9, Y10, Y11⟩, Y12⟩ := hY.get6
  obtain ⟨pt0, pt1, pt2, pt3, pt4⟩ := V2.mk hpt.c0 hpt.c1 hpt.f0 hpt.f1 hpt.lt
  obtain ⟨pp0, pp1, pp2⟩ := hpp.get1
  go_wp2_with (first
   | (go_at_call 24; refine (HQ.out _ gi gp tot gj v p j hbw n3 n4 HVL.out HPL.out HJL.out hBI hSP hBJ).mono ?_; rintro e w12 ⟨rfl, hb12⟩; replace hbw := bl_call hbw (Nat.le_refl _) hb12; replace hY := hY.call hb12))
  go_ret
  exact ⟨rfl, hbw⟩
 have hdx : decide (Fm.kpow x (2 ^ L) = 1) = false := decide_eq_false hx1
 have HQ := Lib.hid (HQY.out hx1)
 clear HQN HQY hx1
 obtain ⟨⟨Y0, Y1, Y2, Y3, Y4, Y5⟩, ⟨Y6, Y7, Y8, Y9, Y10, Y11⟩, Y12⟩ := hY.get6
 obtain ⟨pt0, pt1, pt2, pt3, pt4⟩ := V2.mk hpt.c0 hpt.c1 hpt.f0 hpt.f1 hpt.lt
 obtain ⟨pp0, pp1, pp2⟩ := hpp.get1
 go_upto_region 13 with (first
  | (go_at_call 24; refine (HQ.out _ gi gp tot gj v p j hbw n3 n4 HVL.out HPL.out HJL.out hBI hSP hBJ).mono ?_; rintro e w12 ⟨qz, rfl, hZ, hb12⟩; replace hbw := bl_call hbw (Nat.le_refl _) hb12; replace h8w := bl_call h8w (Nat.le_refl _) hb12; replace hY := hY.call hb12; replace hG := hG.call hb12; replace hBI := hBI.call hb12; replace hBJ := hBJ.call hb12; replace hBP := hBP.call hb12; replace hpp := hpp.call hb12; replace hpt := hpt.call hb12; clear Y0 Y1 Y2 Y3 Y4 Y5 Y6 Y7 Y8 Y9 Y10 Y11 Y12; clear hb12; obtain ⟨⟨Y0, Y1, Y2, Y3, Y4, Y5⟩, ⟨Y6, Y7, Y8, Y9, Y10, Y11⟩, Y12⟩ := hY.get6))
 clear Y0 Y1 Y2 Y3 Y4 Y5 Y6 Y7 Y8 Y9 Y10 Y11 Y12
 clear pt0 pt1 pt2 pt3 pt4 pp0 pp1 pp2 hSP HQ hdx HX
 obtain ⟨za, zc⟩ := qz
 try dsimp only at hZ ⊢
 have HQ1 := Lib.hid (HQL.out v j p HPL.out)
 have HRUN1 := Lib.hid (HRUN.out v j p HVL.out HJL.out HPL.out)
 obtain ⟨q, hq⟩ : ∃ q, qryL y L v j 1 p x = q := ⟨_, rfl⟩
 obtain ⟨args, hargs⟩ : ∃ a, argOf y v j 1 = a := ⟨_, rfl⟩
 obtain ⟨out, hout⟩ : ∃ o, runF y v j 1 (ansQ L (p.drop ar)) = o := ⟨_, rfl⟩
 obtain ⟨zp, hzp⟩ : ∃ o, ev x (p.drop ar) = o := ⟨_, rfl⟩
 obtain ⟨sd, hsd⟩ : ∃ o, p.take ar = o := ⟨_, rfl⟩
 rw [hq, hargs, hout, hzp, hsd] at HQ1
 rw [hargs, hout, hsd] at HRUN1
 rw [hq] at hZ
 have HZP := Lib.hid hzp
 have HSD := Lib.hid hsd
 clear hq hargs hout hzp hsd HQL HRUN
 obtain ⟨q1, q2, q3, q4, q5⟩ := HQ1.out
 obtain ⟨zb, zo, rfl, hzb, hzr⟩ := hZ.rowOf (by rw [q1, ← HN2.out]; omega)
 have HZC : Hid (n2 ≤ zc ∧ zc ≤ 9223372036854775807) := by
  obtain ⟨A', c', e, h1, h2, _⟩ := id hZ
  injection e with e1 e2 e3
  subst e3
  rw [q1] at h1
  exact ⟨h1, h2⟩
 have HQ2 := Lib.hid q1
 have HQ3 := Lib.hid q2
 have HQ4 := Lib.hid q3
 have HQ5 := Lib.hid q4
 have HQ6 := Lib.hid q5
 clear q1 q2 q3 q4 q5 HQ1
 have hzs : SlK w12 w12.heap.size (.slice (some ⟨zb, zo, none⟩) n2 zc) q := hZ
 clear hZ
 obtain ⟨⟨Y0, Y1, Y2, Y3, Y4, Y5⟩, ⟨Y6, Y7, Y8, Y9, Y10, Y11⟩, Y12⟩ := hY.get6
 go_upto_region 14 with (first
  | (go_at_call 27; refine (HGAD.out _).mono ?_; rintro e w13 ⟨kd, sl, nn, rfl, hR, hb13, _⟩; replace hbw := bl_call hbw (Nat.le_refl _) hb13; replace h8w := bl_call h8w (Nat.le_refl _) hb13; replace hY := hY.call hb13; replace hG := hG.call hb13; replace hBI := hBI.call hb13; replace hBJ := hBJ.call hb13; replace hBP := hBP.call hb13; replace hpp := hpp.call hb13; replace hpt := hpt.call hb13; replace hzs := hzs.later hb13; clear Y0 Y1 Y2 Y3 Y4 Y5 Y6 Y7 Y8 Y9 Y10 Y11 Y12; clear hb13; obtain ⟨⟨Y0, Y1, Y2, Y3, Y4, Y5⟩, ⟨Y6, Y7, Y8, Y9, Y10, Y11⟩, Y12⟩ := hY.get6)
  | (go_at_call 28; refine (HARI.out _ _ kd sl nn hR).mono ?_; rintro e w14 ⟨rfl, hb14⟩; replace hbw := bl_call hbw (Nat.le_refl _) hb14; replace h8w := bl_call h8w (Nat.le_refl _) hb14; replace hY := hY.call hb14; replace hG := hG.call hb14; replace hBI := hBI.call hb14; replace hBJ := hBJ.call hb14; replace hBP := hBP.call hb14; replace hpp := hpp.call hb14; replace hpt := hpt.call hb14; replace hzs := hzs.later hb14; clear Y0 Y1 Y2 Y3 Y4 Y5 Y6 Y7 Y8 Y9 Y10 Y11 Y12; clear hb14; obtain ⟨⟨Y0, Y1, Y2, Y3, Y4, Y5⟩, ⟨Y6, Y7, Y8, Y9, Y10, Y11⟩, Y12⟩ := hY.get6))
 clear Y0 Y1 Y2 Y3 Y4 Y5 Y6 Y7 Y8 Y9 Y10 Y11 Y12
 clear hR
 have hab1 := h8w.size
 have hA := Vs.new w14 [.int .i64 (ar : Int)] #[.int .i64 (ar : Int)] 3 rfl
 have hbA : Below w14.heap.size w14 (w14.alloc (.cells #[.int .i64 (ar : Int)] 3)) := by repeat (first | exact bA | with_reducible assumption | apply bB)
 replace hbw := bl_call hbw (Nat.le_refl _) hbA
 replace h8w := bl_call h8w (Nat.le_refl _) hbA
 replace hY := hY.call hbA
 replace hG := hG.call hbA
 replace hBI := hBI.call hbA
 replace hBJ := hBJ.call hbA
 replace hBP := hBP.call hbA
 replace hpp := hpp.call hbA
 replace hpt := hpt.call hbA
 replace hzs := hzs.later hbA
 clear hbA
 generalize w14.alloc (.cells #[.int .i64 (ar : Int)] 3) = w15 at hbw h8w hY hG hBI hBJ hBP hpp hpt hzs hA ⊢
 obtain ⟨ab, habe⟩ : ∃ z, w14.heap.size = z := ⟨_, rfl⟩
 rw [habe] at hA hab1
 simp only [habe]
 clear habe
 obtain ⟨⟨Y0, Y1, Y2, Y3, Y4, Y5⟩, ⟨Y6, Y7, Y8, Y9, Y10, Y11⟩, Y12⟩ := hY.get6
 go_upto_region 15 with (first
  | (go_at_call 30; refine (HDOM.out _).mono ?_; rintro e w16 ⟨rfl, hb16⟩; replace hbw := bl_call hbw (Nat.le_refl _) hb16; replace h8w := bl_call h8w (Nat.le_refl _) hb16; replace hY := hY.call hb16; replace hG := hG.call hb16; replace hBI := hBI.call hb16; replace hBJ := hBJ.call hb16; replace hBP := hBP.call hb16; replace hpp := hpp.call hb16; replace hpt := hpt.call hb16; replace hzs := hzs.later hb16; replace hA := hA.call hb16; clear Y0 Y1 Y2 Y3 Y4 Y5 Y6 Y7 Y8 Y9 Y10 Y11 Y12; clear hb16; obtain ⟨⟨Y0, Y1, Y2, Y3, Y4, Y5⟩, ⟨Y6, Y7, Y8, Y9, Y10, Y11⟩, Y12⟩ := hY.get6)
  | (go_at_call 29; refine (HLG.out _ hbw).mono ?_; rintro e w17 ⟨rfl, rfl⟩))
 clear HDOM HLG HARI
 go_upto_region 16 with (go_at_call 31; refine (HPT.out _).mono ?_; rintro e w18 ⟨vt, rfl, hot, hb18⟩; rw [HPTL.out] at hot; obtain ⟨gt, ct, rfl⟩ := own_sliceP hot HN1.out)
 clear Y0 Y1 Y2 Y3 Y4 Y5 Y6 Y7 Y8 Y9 Y10 Y11 Y12
 have hgtl := hot.lt gt rfl
 have hst := own_sl HPTL.out hot
 have hs16 := h8w.size
 replace hbw := bl_call hbw (Nat.le_refl _) hb18
 replace h8w := bl_call h8w (Nat.le_refl _) hb18
 replace hY := hY.call hb18
 replace hG := hG.call hb18
 replace hBI := hBI.call hb18
 replace hBJ := hBJ.call hb18
 replace hBP := hBP.call hb18
 replace hpp := hpp.call hb18
 replace hpt := hpt.call hb18
 replace hzs := hzs.later hb18
 replace hA := hA.call hb18
 clear hb18 hot HPT
 have hs18 := h8w.size
 have hTB := Vs.new w18 [.slice (some ⟨gt, 0, none⟩) N ct] #[.slice (some ⟨gt, 0, none⟩) N ct] 24 rfl
 have hbA : Below w18.heap.size w18 (w18.alloc (.cells #[.slice (some ⟨gt, 0, none⟩) N ct] 24)) := by repeat (first | exact bA | with_reducible assumption | apply bB)
 replace hbw := bl_call hbw (Nat.le_refl _) hbA
 replace h8w := bl_call h8w (Nat.le_refl _) hbA
 replace hY := hY.call hbA
 replace hG := hG.call hbA
 replace hBI := hBI.call hbA
 replace hBJ := hBJ.call hbA
 replace hBP := hBP.call hbA
 replace hpp := hpp.call hbA
 replace hpt := hpt.call hbA
 replace hzs := hzs.later hbA
 replace hA := hA.call hbA
 replace hst := hst.later hbA
 clear hbA
 generalize w18.alloc (.cells #[.slice (some ⟨gt, 0, none⟩) N ct] 24) = w19 at hbw h8w hY hG hBI hBJ hBP hpp hpt hzs hA hst hTB ⊢
 obtain ⟨tb, htbe⟩ : ∃ z, w18.heap.size = z := ⟨_, rfl⟩
 rw [htbe] at hTB hs18 hgtl
 simp only [htbe]
 clear htbe
 have hgt1 : m6 ≤ gt := by omega
 have htb1 : m6 ≤ tb := by omega
 have hab2 : m6 ≤ ab := by omega
 clear hs16 hs18 hab1
 have hmr := make_rows ar (by omega)
 obtain ⟨A0, A1, A2⟩ := hA.get1
 go_upto_region 17 with fail
 clear A0 A1 A2
 clear hmr
 have lab := hA.lt
 have ltb := hTB.lt
 have lpb := hpp.lt
 have lgp := hBP.lt
 have lgt : gt < w19.heap.size := by omega
 have hvs0 : Vs (w19.alloc (.cells (Array.replicate ar (.slice none 0 0)) 24)) w19.heap.size (List.replicate ar (.slice none 0 0)) := Vs.new w19 _ _ _ (by simp)
 have hbQ : Below w19.heap.size w19 (w19.alloc (.cells (Array.replicate ar (.slice none 0 0)) 24)) := (Below.refl _ _).alloc (Nat.le_refl _) _
 have HYY := Lib.hid hY
 have HGG := Lib.hid hG
 have HII := Lib.hid hBI
 have HJJ := Lib.hid hBJ
 have HPB := Lib.hid hBP
 have HPP := Lib.hid hpp
 have HPX := Lib.hid hpt
 have HZS := Lib.hid hzs
 have HAA := Lib.hid hA
 have HTT := Lib.hid hTB
 have HST := Lib.hid hst
 have HBW := Lib.hid hbw
 clear hY hG hBI hBJ hBP hpp hpt hzs hA hTB hst hbw h8w hzr hgtl
 have hsz20 : (w19.alloc (.cells (Array.replicate ar (.slice none 0 0)) 24)).heap.size = w19.heap.size + 1 := World.size_alloc _ _
 generalize w19.alloc (.cells (Array.replicate ar (.slice none 0 0)) 24) = w20 at hvs0 hbQ hsz20 ⊢
 obtain ⟨aw, hawe⟩ : ∃ z, w19.heap.size = z := ⟨_, rfl⟩
 rw [hawe] at hvs0 lab ltb lpb lgp lgt hsz20
 have HAWE : Hid (w19.heap.size = aw) := hawe
 simp only [hawe]
 have haw20 := hvs0.lt
 clear hawe
 have hSB := Vs.new w20 [.slice (some ⟨aw, 0, none⟩) ar ar] #[.slice (some ⟨aw, 0, none⟩) ar ar] 59 rfl
 have hbA : Below w20.heap.size w20 (w20.alloc (.cells #[.slice (some ⟨aw, 0, none⟩) ar ar] 59)) := by repeat (first | exact bA | with_reducible assumption | apply bB)
 replace hbQ := bl_call hbQ (Nat.le_refl _) hbA
 replace hvs0 := hvs0.call hbA
 clear hbA
 generalize w20.alloc (.cells #[.slice (some ⟨aw, 0, none⟩) ar ar] 59) = w21 at hbQ hvs0 hSB ⊢
 rw [hsz20] at hSB haw20
 obtain ⟨sb, hsbe⟩ : ∃ z, aw + 1 = z := ⟨_, rfl⟩
 rw [hsbe] at hSB haw20
 simp only [hsbe]
 clear hsbe hsz20
 obtain ⟨A0, hA0⟩ : ∃ A0 : Nat → KL F, (fun i => rowA L (sd.getD i 0) args i 0) = A0 := ⟨_, rfl⟩
 obtain ⟨Z, hZ⟩ : ∃ Z : KL F, List.replicate N (0 : Fin (Pm F)) = Z := ⟨_, rfl⟩
 have HZ0 : Hid (∀ i s, sd.getD i 0 = s → Z.set 0 s = A0 i) := fun i s hs => by
  rw [← hA0, ← hZ]
  show _ = rowA L (sd.getD i 0) args i 0
  rw [← HRZ.out (sd.getD i 0) args i, hs]
 have HZL : Hid (Z.length = N) := by show _ = _; rw [← hZ, List.length_replicate]
 have HZE : Hid (Z = List.replicate N (0 : Fin (Pm F))) := hZ.symm
 have HA0 : Hid (∀ i, A0 i = rowA L (sd.getD i 0) args i 0) := fun i => by rw [← hA0]
 clear hA0 hZ HRZ
 have hWR0 : WrR (sb + 1) aw ar N A0 (fun _ => 0) 0 (List.replicate ar (.slice none 0 0)) w21 := ⟨List.length_replicate, fun j h => absurd h (Nat.not_lt_zero j), hvs0, by omega, fun j h => absurd h (Nat.not_lt_zero j), fun j h => absurd h (Nat.not_lt_zero j), fun a b h => absurd h (Nat.not_lt_zero a)⟩
 clear hvs0
 obtain ⟨SB0, SB1, SB2⟩ := hSB.get1
 go_wp2_with fail
 clear SB0 SB1 SB2
 go_loopw [104] (fun v104 wr => ∃ (i : Nat) (rb : Nat → Nat) (L9 : List Value), i ≤ ar ∧ v104 = .int .i64 i ∧ WrR (sb + 1) aw ar N A0 rb i L9 wr ∧ Vs wr sb [.slice (some ⟨aw, 0, none⟩) ar ar] ∧ Below w19.heap.size w19 wr) (fun v104 _ => ar - (intOf v104).toNat)
 case atStart => exact ⟨0, _, _, Nat.zero_le _, rfl, hWR0, hSB, hbQ⟩
 case round =>
  clear hWR0 hSB hbQ
  obtain ⟨i, rb, L9, hin, rfl, hWR, hSB, hbQ⟩ := hrel
  by_cases hlt : i < ar
  ·have hTB := HTT.out.call hbQ
   have hmk := make_elem N (by have := HN8.out; omega)
   have hsbl := hSB.lt
   obtain ⟨SB0, SB1, SB2⟩ := hSB.get1
   obtain ⟨TB0, TB1, TB2⟩ := hTB.get1
   go_upto_region 20 with fail
   refine region_G (n := 6) (m := 7) (f := 6) (by kernel_rfl) (by kernel_rfl) rfl ?_
   refine WpG.vD 0 (some 107) ?_ rfl rfl (by kernel_rfl) (fun _ _ _ h => h) rfl (fun wz hwz => ?_) ?_
   rotate_left
   ·(obtain ⟨hcz, hfz⟩ := bcell (hwz); go_simp; try (with_reducible rfl))
   simp only [Zp, Zq, Zr, Zs]
   refine WpG.vD 1 (some 108) ?_ rfl rfl (by kernel_rfl) (fun _ _ _ h => h) rfl (fun wz hwz => ?_) ?_
   rotate_left
   ·go_simp; try (with_reducible rfl)
   simp only [Zp, Zq, Zr, Zs]
   refine WpG.vD 2 (some 109) ?_ rfl rfl (by kernel_rfl) (fun _ _ _ h => h) rfl (fun wz hwz => ?_) ?_
   rotate_left
   ·(obtain ⟨hcz, hfz⟩ := bcell (hwz); go_simp; try (with_reducible rfl))
   simp only [Zp, Zq, Zr, Zs]
   refine WpG.vD 3 (some 110) ?_ rfl rfl (by kernel_rfl) (fun _ _ _ h => h) rfl (fun wz hwz => ?_) ?_
   rotate_left
   ·go_simp; try (with_reducible rfl)
   simp only [Zp, Zq, Zr, Zs]
   refine WpG.oneD 4 (some 111) rfl rfl (by kernel_rfl) (fun b : Nat => Value.slice (some ⟨b, 0, none⟩) N N) (fun b wz => wr.heap.size ≤ b ∧ RwK wz b (List.replicate N (0 : Fin (Pm F)))) (fun _ _ _ h hb => ⟨h.1, RwK.call h.2 hb⟩) (Fresh.slice N N (cellsE (List.replicate N (0, 0))) 36 rfl (fun wz hwz => (hwz).size) (fun wz hwz => by go_simp; try (with_reducible rfl)) (R := fun b wz => RwK wz b (List.replicate N (0 : Fin (Pm F)))) (fun wz hwz => RwK.new wz _ _ (by unfold esK; rw [List.map_replicate, eK_zero]) _)) (fun nb w0 hw0 hR0 => ?_)
   simp only [Zp, Zq, Zr, Zs]
   refine WpG.vD 5 (some 112) ?_ rfl rfl (by kernel_rfl) (fun _ _ _ h => h) rfl (fun wz hwz => ?_) ?_
   rotate_left
   ·go_simp; try (with_reducible rfl)
   simp only [Zp, Zq, Zr, Zs]
   refine WpG.done (by kernel_rfl) (fun w22 hS => ?_)
   (try simp only [List.drop_succ_cons]); (try simp only [List.drop_zero]); (try simp only [Nat.reduceSub]); (try simp only [List.take_succ_cons]); (try simp only [List.take_zero])
   obtain ⟨hb22, hnb, hrow⟩ := hS
   clear SB0 SB1 SB2 TB0 TB1 TB2
   clear hmk hTB
   rw [← HZE.out] at hrow
   obtain ⟨u, hu⟩ : ∃ u, L9[i]? = some u := ⟨_, List.getElem?_eq_getElem (by rw [hWR.len]; exact hlt)⟩
   have hWR1 := hWR.call hb22
   have a0 := hWR1.vs.cell i u hu
   have a1 := hWR1.vs.frz i (by rw [hWR1.len]; exact hlt)
   have a2 := hWR1.vs.lt
   have hWP := hWR1.push hlt (b := nb) (by omega) (fun j hj => by have := (hWR.row j hj).lt; omega) hrow
   have hsba : aw ≠ sb := by omega
   have hS2 := (hSB.call hb22).far (p := ⟨aw, i, none⟩) hsba (.slice (some ⟨nb, 0, none⟩) N N)
   have hb2 : Below w19.heap.size w19 (w22.setCell ⟨aw, i, none⟩ (.slice (some ⟨nb, 0, none⟩) N N)) := bl_set (p := ⟨aw, i, none⟩) (bl_call hbQ (Nat.le_refl _) hb22) (Nat.le_of_eq HAWE.out) _
   have HWP := Lib.hid hWP
   have HS2 := Lib.hid hS2
   have HB2 := Lib.hid hb2
   clear hWR hWR1 hrow hu hWP hS2 hb2 hSB hb22 hnb hsbl hsba hbQ
   go_upto_region 21 with fail
   have hWP := HWP.out
   have hSB := HS2.out
   have hbQ := HB2.out
   clear a0 a1 a2 HWP HS2 HB2
   generalize w22.setCell ⟨aw, i, none⟩ (.slice (some ⟨nb, 0, none⟩) N N) = w23 at hWP hSB hbQ ⊢
   have a0 := hWP.vs.cell i _ (hWP.cl i (Nat.lt_succ_self i))
   simp only [Nat.lt_irrefl, if_false] at a0
   have a2 := hWP.vs.lt
   have hpp := HPP.out.call hbQ
   have hipt : i < tot := by omega
   obtain ⟨pi, hpi⟩ : ∃ e, p[i]? = some e := ⟨_, List.getElem?_eq_getElem (by rw [HPL.out]; exact hipt)⟩
   have hbp := HPB.out.call hbQ
   obtain ⟨d0, d1⟩ := RwK.at hbp.rw hpi
   have d2 := hbp.lt
   have hsdi : sd.getD i 0 = pi := by
    rw [← HSD.out, List.getD_eq_getElem?_getD, List.getElem?_take_of_lt hlt, hpi]
    rfl
   have HSI := Lib.hid hsdi
   have hN0 : 0 < N := HN1.out
   have hnbl : nb < w23.heap.size := by
    have h := (hWP.row i (Nat.lt_succ_self i)).lt
    simpa using h
   clear hbp hpi hsdi
   obtain ⟨SB0, SB1, SB2⟩ := hSB.get1
   obtain ⟨pp0, pp1, pp2⟩ := hpp.get1
   refine region_B (n := 9) (m := 10) (f := 9) (by kernel_rfl) (by kernel_rfl) rfl ?_
   refine WpH.vD 0 (some 113) ?_ rfl rfl (by kernel_rfl) (fun _ _ _ h => h) rfl (fun wz hwz => ?_) ?_
   rotate_left
   ·(obtain ⟨hcz, hfz⟩ := bcell hwz; go_simp; try (with_reducible rfl))
   simp only [Zp, Zq, Zr, Zs]
   refine WpH.vD 1 (some 114) ?_ rfl rfl (by kernel_rfl) (fun _ _ _ h => h) rfl (fun wz hwz => ?_) ?_
   rotate_left
   ·go_simp; try (with_reducible rfl)
   simp only [Zp, Zq, Zr, Zs]
   refine WpH.vD 2 (some 115) ?_ rfl rfl (by kernel_rfl) (fun _ _ _ h => h) rfl (fun wz hwz => ?_) ?_
   rotate_left
   ·go_simp; try (with_reducible rfl)
   simp only [Zp, Zq, Zr, Zs]
   refine WpH.vD 3 (some 116) ?_ rfl rfl (by kernel_rfl) (fun _ _ _ h => h) rfl (fun wz hwz => ?_) ?_
   rotate_left
   ·(obtain ⟨hcz, hfz⟩ := bcell hwz; go_simp; try (with_reducible rfl))
   simp only [Zp, Zq, Zr, Zs]
   refine WpH.vD 4 (some 117) ?_ rfl rfl (by kernel_rfl) (fun _ _ _ h => h) rfl (fun wz hwz => ?_) ?_
   rotate_left
   ·(obtain ⟨hcz, hfz⟩ := bcell hwz; go_simp; try (with_reducible rfl))
   simp only [Zp, Zq, Zr, Zs]
   refine WpH.vD 5 (some 118) ?_ rfl rfl (by kernel_rfl) (fun _ _ _ h => h) rfl (fun wz hwz => ?_) ?_
   rotate_left
   ·go_simp; try (with_reducible rfl)
   simp only [Zp, Zq, Zr, Zs]
   refine WpH.vD 6 (some 119) ?_ rfl rfl (by kernel_rfl) (fun _ _ _ h => h) rfl (fun wz hwz => ?_) ?_
   rotate_left
   ·go_simp; try (with_reducible rfl)
   simp only [Zp, Zq, Zr, Zs]
   refine WpH.vD 7 (some 120) ?_ rfl rfl (by kernel_rfl) (fun _ _ _ h => h) rfl (fun wz hwz => ?_) ?_
   rotate_left
   ·(obtain ⟨hcz, hfz⟩ := bcell hwz; go_simp; try (with_reducible rfl))
   simp only [Zp, Zq, Zr, Zs]
   refine WpH.vD 8 (some 121) ?_ rfl rfl (by kernel_rfl) (fun _ _ _ h => h) rfl (fun wz hwz => ?_) ?_
   rotate_left
   ·go_simp; try (with_reducible rfl)
   simp only [Zp, Zq, Zr, Zs]
   refine WpH.doneB (by kernel_rfl) (fun w24 hw24 => ?_)
   (try simp only [List.drop_succ_cons]); (try simp only [List.drop_zero]); (try simp only [Nat.reduceSub]); (try simp only [List.take_succ_cons]); (try simp only [List.take_zero])
   clear SB0 SB1 SB2 pp0 pp1 pp2
   clear a0 a2 d0 d1 d2 hpp hipt
   have hWQ := hWP.call hw24
   replace hSB := hSB.call hw24
   replace hbQ := bl_call hbQ (Nat.le_refl _) hw24
   have hrr : RwK w24 nb Z := by
    have h := hWQ.row i (Nat.lt_succ_self i)
    simp only [Nat.lt_irrefl, if_false] at h
    exact h
   obtain ⟨xo, hxo⟩ : ∃ e, Z[0]? = some e := ⟨_, List.getElem?_eq_getElem (by rw [HZL.out]; exact hN0)⟩
   obtain ⟨z0, z1⟩ := RwK.at hrr hxo
   obtain ⟨fz0, fz1⟩ := RwK.frz hrr (i := 0) (by rw [HZL.out]; exact hN0)
   simp only [Nat.zero_mul, Nat.zero_add] at z0 z1 fz0 fz1
   have hge := hWQ.ge i (Nat.lt_succ_self i)
   simp only [Nat.lt_irrefl, if_false] at hge
   have hlt9 := hWQ.lt
   have hWF := hWQ.fill (b := nb) (by simp) pi (by rw [HZL.out]; exact hN0) (HZ0.out i pi HSI.out)
   have hn1 : nb ≠ sb := by omega
   have hSF := (hSB.far (p := ⟨nb, 0, none⟩) hn1 (.int .u64 (lo pi))).far (p := ⟨nb, 1, none⟩) hn1 (.int .u64 (hi pi))
   have hbF := bl_set (bl_set hbQ (p := ⟨nb, 0, none⟩) (by have := HAWE.out; dsimp only; omega) (.int .u64 (lo pi))) (p := ⟨nb, 1, none⟩) (by have := HAWE.out; dsimp only; omega) (.int .u64 (hi pi))
   have HWF := Lib.hid hWF
   have HSF := Lib.hid hSF
   have HBF := Lib.hid hbF
   clear hWQ hWP hSB hbQ hw24 hrr hxo hge hlt9 hWF hSF hbF hnbl hn1
   go_wp2_with fail
   go_roundw
   case rel => exact ⟨i + 1, _, _, by omega, by go_num, HWF.out, HSF.out, HBF.out⟩
   case measure => simp [intOf]; omega
  ·go_upto_region 24 with fail
   have hie : i = ar := by omega
   rw [hie] at hWR
   clear hin hlt hie
   have hrbl : ∀ i, i < ar → sb + 1 ≤ rb i ∧ rb i < wr.heap.size := fun i h => ⟨hWR.ge i h, (hWR.row i h).lt⟩
   have hsbl := hSB.lt
   have hK := Vs.new wr [.int .i64 0] #[.int .i64 0] 3 rfl
   have hbA : Below wr.heap.size wr (wr.alloc (.cells #[.int .i64 0] 3)) := by repeat (first | exact bA | with_reducible assumption | apply bB)
   replace hbQ := bl_call hbQ (Nat.le_refl _) hbA
   replace hSB := hSB.call hbA
   replace hWR := hWR.call hbA
   clear hbA
   generalize wr.alloc (.cells #[.int .i64 0] 3) = w25 at hbQ hSB hWR hK ⊢
   obtain ⟨kb, hkbe⟩ : ∃ z, wr.heap.size = z := ⟨_, rfl⟩
   rw [hkbe] at hK hrbl hsbl
   simp only [hkbe]
   clear hkbe
   have hawsb : aw ≤ sb := by have := hWR.lt; omega
   obtain ⟨b1, b2, b3⟩ := lawq_blocks sb gb pb ab tb aw gp gt kb ar (sb + 1) gi gj m6 rb (by omega) (by omega) lab ltb lgt lpb lgp hawsb hrbl (by omega) n1 n2' li lj hpb hgp hab2 htb1 hgt1
   obtain ⟨E, hE⟩ : ∃ E, LE9 sb gb pb ab tb aw gp gt = E := ⟨_, rfl⟩
   have hEm : E sb ∧ E gb ∧ E pb ∧ E ab ∧ E tb ∧ E aw ∧ E gp ∧ E gt := by
    rw [← hE]
    unfold LE9
    simp
   rw [hE] at b1 b2 b3
   clear hE
   obtain ⟨es, eg, ep, ea, et, ew, egp, egt⟩ := hEm
   have hkl := hK.lt
   have hElt : ∀ q, E q → q < w25.heap.size := fun q hq => by have := b1 q hq; omega
   have hCap : CapR E w25 kb sb gb pb ab tb aw ar N rb (.slice (some ⟨gp, 0, none⟩) tot tot) (.slice (some ⟨gt, 0, none⟩) N ct) p T :=
    { fs := hSB, fg := HGG.out.call hbQ, fp := HPP.out.call hbQ, fa := HAA.out.call hbQ, ft := HTT.out.call hbQ, sp := (HPB.out.call hbQ).slM HPL.out (by omega), st := HST.out.later hbQ, rows := fun i h => hWR.vs.cell i _ (hWR.cl i h), es := es, eg := eg, ep := ep, ea := ea, et := et, ew := ew, bp := (fun a b c h => by injection h with h; injection h with h; subst h; exact egp), bt := (fun a b c h => by injection h with h; injection h with h; subst h; exact egt), lt := hElt, ek := (fun h => by have := b1 _ h; omega), er := (fun i h1 h2 => by have := b1 _ h2; have := hrbl i h1; omega), rk := (fun i h e => by have := hrbl i h; omega), rr := hWR.inj }
   obtain ⟨D, hDd⟩ : ∃ D : Nat → Prop, (fun q => q = kb ∨ (∃ i, i < ar ∧ q = rb i) ∨ E q) = D := ⟨_, rfl⟩
   have hst25 : St (InvR kb ar L rb E w25 sd args 0) D w25 := by
    rw [← hDd]
    refine InvR.st ⟨fun q => Iff.rfl, fun q _ => rfl, hK, fun i h => ?_⟩ hElt
    have h2 := hWR.row i h
    rw [HA0.out] at h2
    exact h2
   have hDx : ∀ q, D q → q ≠ gi ∧ q ≠ gj := by
    rw [← hDd]
    exact b3
   have HDS : Hid (∀ q, D q → q < w19.heap.size → E q) := fun q hq h9 => by
    rw [← hDd] at hq
    rw [HAWE.out] at h9
    rcases hq with h | ⟨i, h1, h2⟩ | h
    ·omega
    ·have := hrbl i h1
     omega
    ·exact h
   have hbi := HII.out.call hbQ
   have hbj := HJJ.out.call hbQ
   have hx1 : SlX D w25 (.slice (some ⟨gi, 0, none⟩) ni ni) v := SlX.of HVL.out (Nat.le_refl _) (by omega) hbi.lt (fun h => (hDx gi h).1 rfl) hbi.rowE
   have hx2 : SlX D w25 (.slice (some ⟨gj, 0, none⟩) nj nj) j := SlX.of HJL.out (Nat.le_refl _) (by omega) hbj.lt (fun h => (hDx gj h).2 rfl) hbj.rowE
   have HR25 := Lib.hid (HRUN1.out w25 E w25 kb sb gb pb ab tb aw rb _ _ D _ _ hCap hx1 hx2 hst25)
   have HES := Lib.hid es
   have HEW := Lib.hid ew
   have HWR := Lib.hid hWR
   have HSBX := Lib.hid hSB
   have HBAX := Lib.hid hbQ
   have hY := HYY.out.call hbQ
   have hmf : ∀ (fn : Fn) (first cap : Array Value) (w : World), (Instr.makeFunc fn first cap).run Tryz.prog w = .ok (.func fn first cap) w := fun _ _ _ _ => rfl
   clear hx1 hx2 hbi hbj hDx hst25 hCap hDd hElt hkl es eg ep ea et ew egp egt b1 b2 b3 hrbl hsbl hWR hSB hbQ hK HRUN1 hawsb
   clear lab ltb lgt lpb lgp n1 n2' n3 n4 li lj hpb hgp hab2 htb1 hgt1 hsz8
   obtain ⟨⟨Y0, Y1, Y2, Y3, Y4, Y5⟩, ⟨Y6, Y7, Y8, Y9, Y10, Y11⟩, Y12⟩ := hY.get6
   go_upto_region 25 with (go_at_call 32; refine HR25.out.mono ?_; rintro e w26 ⟨rfl, hE26, D', hst26⟩)
   clear Y0 Y1 Y2 Y3 Y4 Y5 Y6 Y7 Y8 Y9 Y10 Y11 Y12
   obtain ⟨_, hAg, _, hrw⟩ := hst26.here
   have HRW := Lib.hid hrw
   have hb26 : Below w19.heap.size w19 w26 := HBAX.out.trans ⟨hE26.os, hE26.tape, hE26.output, hE26.size, fun k hk => by
    by_cases hD : D k
    ·exact hAg k (HDS.out k hD hk)
    ·exact hE26.block k (Nat.lt_of_lt_of_le hk HBAX.out.size) hD⟩
   have hS26 : Vs w26 sb [.slice (some ⟨aw, 0, none⟩) ar ar] := Vs.sameW HSBX.out (hAg sb HES.out)
   have HROWS : Hid (∀ i, i < ar → w26.cell? ⟨aw, i, none⟩ = some (.slice (some ⟨rb i, 0, none⟩) N N)) := fun i h => (World.cell?_of_block (hAg aw HEW.out)).trans (HWR.out.vs.cell i _ (HWR.out.cl i h))
   have HAWL : Hid (aw < w26.heap.size) := (Vs.sameW HWR.out.vs (hAg aw HEW.out)).lt
   clear hAg hst26 hE26 hrw hmf hY HR25 HES HEW HWR HSBX HBAX HDS
   have h26 : Below w26.heap.size w26 w26 := Below.refl _ _
   have hO := V2.new w26 (.int .u64 (lo out)) (.int .u64 (hi out)) 36
   have hbA : Below w26.heap.size w26 (w26.alloc (.cells #[.int .u64 (lo out), .int .u64 (hi out)] 36)) := by repeat (first | exact bA | with_reducible assumption | apply bB)
   replace hb26 := bl_call hb26 (Nat.le_refl _) hbA
   replace h26 := bl_call h26 (Nat.le_refl _) hbA
   replace hS26 := hS26.call hbA
   clear hbA
   generalize w26.alloc (.cells #[.int .u64 (lo out), .int .u64 (hi out)] 36) = w27 at hb26 h26 hS26 hO ⊢
   obtain ⟨m1, hm1⟩ : ∃ m1, ar + 1 = m1 := ⟨_, rfl⟩
   have hn2 := HN2.out
   have hw1 : IntKind.i64.wrap ((ar : Int) + 2) = (n2 : Int) := by rw [IntWalk.i64_in _ (by omega)]; omega
   have hw2 : IntKind.i64.wrap ((ar : Int) + 1) = (m1 : Int) := by rw [IntWalk.i64_in _ (by omega)]; omega
   have HQM : Hid (q[m1]? = some zp) := by show _ = _; rw [← hm1]; exact HQ4.out
   have hm1n : m1 < n2 := by omega
   have hm1i : (m1 : Int) < (n2 : Int) := by omega
   have hn20 : 0 < n2 := by omega
   have HM1 := Lib.hid hm1
   have hne : ((n2 : Int) != (n2 : Int)) = false := by simp
   have hzs := HZS.out.later hb26
   obtain ⟨d0, d1, d2⟩ := hzs.cells HQ3.out
   rw [Nat.zero_mul, Nat.add_zero] at d1 d2
   obtain ⟨d3, d4, d5⟩ := hzs.cells HQM.out
   have hG := HGG.out.call hb26
   have hA := HAA.out.call hb26
   have hpp := HPP.out.call hb26
   have hpt := HPX.out.call hb26
   have hsp : SlK w27 w27.heap.size (.slice (some ⟨gp, 0, none⟩) tot tot) p := (HPB.out.call hb26).slM HPL.out (by omega)
   have hdr : SlK w27 w27.heap.size (.slice (some ⟨gp, ar * 2, none⟩) (tot - ar) (tot - ar)) (p.drop ar) := by
    have h0 : SlK w27 w27.heap.size (.slice (some ⟨gp, 0, none⟩) p.length tot) p := by rw [HPL.out]; exact hsp
    have h := h0.dropN (n := ar) (by rw [HPL.out]; omega)
    rwa [Nat.zero_add, HPL.out] at h
   have HPDL : Hid ((p.drop ar).length ≤ 100000) := by show _ ≤ _; rw [List.length_drop, HPL.out]; omega
   have g1 : ar ≤ tot := by omega
   have g2 : ¬ (tot = ar) := by omega
   have hgpl : gp < w27.heap.size := (HPB.out.call hb26).lt
   clear hm1 hn2 hzs hsp
   obtain ⟨G0, G1, G2⟩ := hG.get1
   obtain ⟨A0, A1, A2⟩ := hA.get1
   obtain ⟨pp0, pp1, pp2⟩ := hpp.get1
   obtain ⟨pt0, pt1, pt2, pt3, pt4⟩ := V2.mk hpt.c0 hpt.c1 hpt.f0 hpt.f1 hpt.lt
   obtain ⟨O0, O1, O2, O3, O4⟩ := V2.mk hO.c0 hO.c1 hO.f0 hO.f1 hO.lt
   refine region_B (n := 33) (m := 34) (f := 33) (by kernel_rfl) (by kernel_rfl) rfl ?_
   refine WpH.vD 0 (some 131) ?_ rfl rfl (by kernel_rfl) (fun _ _ _ h => h) rfl (fun wz hwz => ?_) ?_
   rotate_left
   ·go_simp; try (with_reducible rfl)
   simp only [Zp, Zq, Zr, Zs]
   refine WpH.vD 1 (some 132) ?_ rfl rfl (by kernel_rfl) (fun _ _ _ h => h) rfl (fun wz hwz => ?_) ?_
   rotate_left
   ·go_simp; try (with_reducible rfl)
   simp only [Zp, Zq, Zr, Zs]
   refine WpH.vD 2 (some 133) ?_ rfl rfl (by kernel_rfl) (fun _ _ _ h => h) rfl (fun wz hwz => ?_) ?_
   rotate_left
   ·go_simp; try (with_reducible rfl)
   simp only [Zp, Zq, Zr, Zs]
   refine WpH.vD 3 (some 134) ?_ rfl rfl (by kernel_rfl) (fun _ _ _ h => h) rfl (fun wz hwz => ?_) ?_
   rotate_left
   ·go_simp; try (with_reducible rfl)
   simp only [Zp, Zq, Zr, Zs]
   refine WpH.vD 4 (some 135) ?_ rfl rfl (by kernel_rfl) (fun _ _ _ h => h) rfl (fun wz hwz => ?_) ?_
   rotate_left
   ·go_simp; try (with_reducible rfl)
   simp only [Zp, Zq, Zr, Zs]
   refine WpH.vD 5 (some 136) ?_ rfl rfl (by kernel_rfl) (fun _ _ _ h => h) rfl (fun wz hwz => ?_) ?_
   rotate_left
   ·go_simp; try (with_reducible rfl)
   simp only [Zp, Zq, Zr, Zs]
   refine WpH.vD 6 (some 137) ?_ rfl rfl (by kernel_rfl) (fun _ _ _ h => h) rfl (fun wz hwz => ?_) ?_
   rotate_left
   ·go_simp; try (with_reducible rfl)
   simp only [Zp, Zq, Zr, Zs]
   refine WpH.vD 7 (some 138) ?_ rfl rfl (by kernel_rfl) (fun _ _ _ h => h) rfl (fun wz hwz => ?_) ?_
   rotate_left
   ·go_simp; try (with_reducible rfl)
   simp only [Zp, Zq, Zr, Zs]
   refine WpH.vD 8 (some 139) ?_ rfl rfl (by kernel_rfl) (fun _ _ _ h => h) rfl (fun wz hwz => ?_) ?_
   rotate_left
   ·go_simp; try (with_reducible rfl)
   simp only [Zp, Zq, Zr, Zs]
   refine WpH.vD 9 (some 140) ?_ rfl rfl (by kernel_rfl) (fun _ _ _ h => h) rfl (fun wz hwz => ?_) ?_
   rotate_left
   ·(obtain ⟨hcz, hfz⟩ := bcell hwz; go_simp; try (with_reducible rfl))
   simp only [Zp, Zq, Zr, Zs]
   refine WpH.vD 10 (some 141) ?_ rfl rfl (by kernel_rfl) (fun _ _ _ h => h) rfl (fun wz hwz => ?_) ?_
   rotate_left
   ·go_simp; try (with_reducible rfl)
   simp only [Zp, Zq, Zr, Zs]
   refine WpH.vD 11 (some 142) ?_ rfl rfl (by kernel_rfl) (fun _ _ _ h => h) rfl (fun wz hwz => ?_) ?_
   rotate_left
   ·go_simp; try (with_reducible rfl)
   simp only [Zp, Zq, Zr, Zs]
   refine WpH.vD 12 (some 143) ?_ rfl rfl (by kernel_rfl) (fun _ _ _ h => h) rfl (fun wz hwz => ?_) ?_
   rotate_left
   ·go_simp; try (with_reducible rfl)
   simp only [Zp, Zq, Zr, Zs]
   refine WpH.vD 13 (some 144) ?_ rfl rfl (by kernel_rfl) (fun _ _ _ h => h) rfl (fun wz hwz => ?_) ?_
   rotate_left
   ·go_simp; try (with_reducible rfl)
   simp only [Zp, Zq, Zr, Zs]
   refine WpH.vD 14 (some 145) ?_ rfl rfl (by kernel_rfl) (fun _ _ _ h => h) rfl (fun wz hwz => ?_) ?_
   rotate_left
   ·go_simp; try (with_reducible rfl)
   simp only [Zp, Zq, Zr, Zs]
   refine WpH.vD 15 (some 146) ?_ rfl rfl (by kernel_rfl) (fun _ _ _ h => h) rfl (fun wz hwz => ?_) ?_
   rotate_left
   ·go_simp; try (with_reducible rfl)
   simp only [Zp, Zq, Zr, Zs]
   refine WpH.vD 16 (some 147) ?_ rfl rfl (by kernel_rfl) (fun _ _ _ h => h) rfl (fun wz hwz => ?_) ?_
   rotate_left
   ·(obtain ⟨hcz, hfz⟩ := bcell hwz; go_simp; try (with_reducible rfl))
   simp only [Zp, Zq, Zr, Zs]
   refine WpH.vD 17 (some 148) ?_ rfl rfl (by kernel_rfl) (fun _ _ _ h => h) rfl (fun wz hwz => ?_) ?_
   rotate_left
   ·(obtain ⟨hcz, hfz⟩ := bcell hwz; go_simp; try (with_reducible rfl))
   simp only [Zp, Zq, Zr, Zs]
   refine WpH.vD 18 (some 149) ?_ rfl rfl (by kernel_rfl) (fun _ _ _ h => h) rfl (fun wz hwz => ?_) ?_
   rotate_left
   ·go_simp; try (with_reducible rfl)
   simp only [Zp, Zq, Zr, Zs]
   refine WpH.vD 19 (some 150) ?_ rfl rfl (by kernel_rfl) (fun _ _ _ h => h) rfl (fun wz hwz => ?_) ?_
   rotate_left
   ·go_simp; try (with_reducible rfl)
   simp only [Zp, Zq, Zr, Zs]
   refine WpH.vD 20 (some 151) ?_ rfl rfl (by kernel_rfl) (fun _ _ _ h => h) rfl (fun wz hwz => ?_) ?_
   rotate_left
   ·go_simp; try (with_reducible rfl)
   simp only [Zp, Zq, Zr, Zs]
   refine WpH.vD 21 (some 152) ?_ rfl rfl (by kernel_rfl) (fun _ _ _ h => h) rfl (fun wz hwz => ?_) ?_
   rotate_left
   ·go_simp; try (with_reducible rfl)
   simp only [Zp, Zq, Zr, Zs]
   refine WpH.vD 22 (some 153) ?_ rfl rfl (by kernel_rfl) (fun _ _ _ h => h) rfl (fun wz hwz => ?_) ?_
   rotate_left
   ·(obtain ⟨hcz, hfz⟩ := bcell hwz; go_simp; try (with_reducible rfl))
   simp only [Zp, Zq, Zr, Zs]
   refine WpH.vD 23 (some 154) ?_ rfl rfl (by kernel_rfl) (fun _ _ _ h => h) rfl (fun wz hwz => ?_) ?_
   rotate_left
   ·go_simp; try (with_reducible rfl)
   simp only [Zp, Zq, Zr, Zs]
   refine WpH.vD 24 (some 155) ?_ rfl rfl (by kernel_rfl) (fun _ _ _ h => h) rfl (fun wz hwz => ?_) ?_
   rotate_left
   ·go_simp; try (with_reducible rfl)
   simp only [Zp, Zq, Zr, Zs]
   refine WpH.vD 25 (some 156) ?_ rfl rfl (by kernel_rfl) (fun _ _ _ h => h) rfl (fun wz hwz => ?_) ?_
   rotate_left
   ·(obtain ⟨hcz, hfz⟩ := bcell hwz; go_simp; try (with_reducible rfl))
   simp only [Zp, Zq, Zr, Zs]
   refine WpH.vD 26 (some 157) ?_ rfl rfl (by kernel_rfl) (fun _ _ _ h => h) rfl (fun wz hwz => ?_) ?_
   rotate_left
   ·(obtain ⟨hcz, hfz⟩ := bcell hwz; go_simp; try (with_reducible rfl))
   simp only [Zp, Zq, Zr, Zs]
   refine WpH.vD 27 (some 158) ?_ rfl rfl (by kernel_rfl) (fun _ _ _ h => h) rfl (fun wz hwz => ?_) ?_
   rotate_left
   ·(obtain ⟨hcz, hfz⟩ := bcell hwz; go_simp; try (with_reducible rfl))
   simp only [Zp, Zq, Zr, Zs]
   refine WpH.vD 28 (some 159) ?_ rfl rfl (by kernel_rfl) (fun _ _ _ h => h) rfl (fun wz hwz => ?_) ?_
   rotate_left
   ·(obtain ⟨hcz, hfz⟩ := bcell hwz; go_simp; try (with_reducible rfl))
   simp only [Zp, Zq, Zr, Zs]
   refine WpH.vD 29 (some 160) ?_ rfl rfl (by kernel_rfl) (fun _ _ _ h => h) rfl (fun wz hwz => ?_) ?_
   rotate_left
   ·go_simp; try (with_reducible rfl)
   simp only [Zp, Zq, Zr, Zs]
   refine WpH.vD 30 (some 161) ?_ rfl rfl (by kernel_rfl) (fun _ _ _ h => h) rfl (fun wz hwz => ?_) ?_
   rotate_left
   ·(obtain ⟨hcz, hfz⟩ := bcell hwz; go_simp; try (with_reducible rfl))
   simp only [Zp, Zq, Zr, Zs]
   refine WpH.takeD 31 (some 162) rfl rfl (by kernel_rfl) (fun _ _ _ h => h) (.call rfl (fun wz hwz => HRA.out wz (.slice (some ⟨gp, ar * 2, none⟩) (tot - ar) (tot - ar)) (p.drop ar) zp HZP.out HPDL.out (hdr.later hwz)) (fun wz hwz => ?_)) ?_
   ·go_simp; try (with_reducible rfl)
   simp only [Zp, Zq, Zr, Zs]
   refine WpH.vD 32 (some 163) ?_ rfl rfl (by kernel_rfl) (fun _ _ _ h => h) rfl (fun wz hwz => ?_) ?_
   rotate_left
   ·go_simp; try (with_reducible rfl)
   simp only [Zp, Zq, Zr, Zs]
   refine WpH.doneB (by kernel_rfl) (fun w28 hw28 => ?_)
   (try simp only [List.drop_succ_cons]); (try simp only [List.drop_zero]); (try simp only [Nat.reduceSub]); (try simp only [List.take_succ_cons]); (try simp only [List.take_zero])
   clear G0 G1 G2 A0 A1 A2 pp0 pp1 pp2 pt0 pt1 pt2 pt3 pt4 O0 O1 O2 O3 O4
   clear hG hA hpp hpt hdr d0 d1 d2 d3 d4 d5 hne g1 g2 hgpl
   replace hb26 := bl_call hb26 (Nat.le_refl _) hw28
   replace h26 := bl_call h26 (Nat.le_refl _) hw28
   replace hS26 := hS26.call hw28
   replace hO := hO.call hw28
   clear hw28
   obtain ⟨S260, S261, S262⟩ := hS26.get1
   go_wp2_with fail
   clear S260 S261 S262
   have HB28 := Lib.hid hb26
   have H28 := Lib.hid h26
   have HO28 := Lib.hid hO
   have h28 : Below w28.heap.size w28 w28 := Below.refl _ _
   clear hb26 h26 hO hS26
   go_loopw [167] (fun v167 wr => ∃ i : Nat, i ≤ ar ∧ v167 = .int .i64 i ∧ Below w28.heap.size w28 wr) (fun v167 _ => ar - (intOf v167).toNat)
   case atStart => exact ⟨0, Nat.zero_le _, rfl, h28⟩
   case round =>
    clear h28
    obtain ⟨i, hin, rfl, h28⟩ := hrel
    have hb26 := bl_call HB28.out (Nat.le_refl _) h28
    have h26 := bl_call H28.out (Nat.le_refl _) h28
    have hbw := bl_call HBW.out (Nat.le_refl _) hb26
    by_cases hlt : i < ar
    ·have c0 := (h26.cell (p := ⟨aw, i, none⟩) HAWL.out).trans (HROWS.out i hlt)
     have c1 : aw < wr.heap.size := Nat.lt_of_lt_of_le HAWL.out h26.size
     obtain ⟨ri, hri⟩ : ∃ r, rowA L (sd.getD i 0) args i nc = r := ⟨_, rfl⟩
     have hrl : ri.length = N := by rw [← hri]; exact HQ6.out i
     have hrw := RwK.call (HRW.out i hlt) h26
     rw [hri] at hrw
     have hrs := RwK.sl hrw hrl (Nat.le_refl N) (by have := HN8.out; omega)
     obtain ⟨zi, hzi⟩ : ∃ z, ev x (coefsK L ri) = z := ⟨_, rfl⟩
     obtain ⟨i1, hi1⟩ : ∃ i1, 1 + i = i1 := ⟨_, rfl⟩
     have HQI : Hid (q[i1]? = some zi) := by
      show _ = _
      rw [← hi1, ← hzi, ← hri]
      exact HQ5.out i hlt
     have HZI := Lib.hid hzi
     have HI1 := Lib.hid hi1
     have HCC := Lib.hid (HCO.out wr (.slice (some ⟨rb i, 0, none⟩) N N) ri hbw hrl hrs)
     have HCL : Hid ((coefsK L ri).length = N) := by show _ = _; rw [coefsK_length]; exact HNN.out
     have hY := HYY.out.call hb26
     clear hri hrl hrw hrs hzi hi1
     obtain ⟨⟨Y0, Y1, Y2, Y3, Y4, Y5⟩, ⟨Y6, Y7, Y8, Y9, Y10, Y11⟩, Y12⟩ := hY.get6
     go_upto_region 31 with (go_at_call 35; refine HCC.out.mono ?_; rintro e w30 ⟨gq, rfl, hRQ, hb30⟩)
     clear Y0 Y1 Y2 Y3 Y4 Y5 Y6 Y7 Y8 Y9 Y10 Y11 Y12
     clear c0 c1 hY
     replace h28 := bl_call h28 (Nat.le_refl _) hb30
     replace hb26 := bl_call hb26 (Nat.le_refl _) hb30
     clear hb30
     have hG := HGG.out.call hb26
     have hpt := HPX.out.call hb26
     have hzs := HZS.out.later hb26
     obtain ⟨d0, d1, d2⟩ := hzs.cells HQI.out
     have hi1 := HI1.out
     have hn2 := HN2.out
     have hw3 : IntKind.i64.wrap (1 + (i : Int)) = (i1 : Int) := by rw [IntWalk.i64_in _ (by omega)]; omega
     have hi1n : i1 < n2 := by omega
     have hi1i : (i1 : Int) < (n2 : Int) := by omega
     have HSQ : Hid (SlK w30 w30.heap.size (.slice (some ⟨gq, 0, none⟩) N N) (coefsK L ri)) := RwK.sl hRQ HCL.out (Nat.le_refl N) (by have := HN8.out; omega)
     have HL5 : Hid ((coefsK L ri).length ≤ 100000) := by show _ ≤ _; rw [HCL.out]; have := HN8.out; omega
     clear hzs hi1 hn2 hRQ
     obtain ⟨G0, G1, G2⟩ := hG.get1
     obtain ⟨pt0, pt1, pt2, pt3, pt4⟩ := V2.mk hpt.c0 hpt.c1 hpt.f0 hpt.f1 hpt.lt
     refine region_B (n := 13) (m := 14) (f := 13) (by kernel_rfl) (by kernel_rfl) rfl ?_
     refine WpH.vD 0 (some 179) ?_ rfl rfl (by kernel_rfl) (fun _ _ _ h => h) rfl (fun wz hwz => ?_) ?_
     rotate_left
     ·go_simp; try (with_reducible rfl)
     simp only [Zp, Zq, Zr, Zs]
     refine WpH.vD 1 (some 180) ?_ rfl rfl (by kernel_rfl) (fun _ _ _ h => h) rfl (fun wz hwz => ?_) ?_
     rotate_left
     ·go_simp; try (with_reducible rfl)
     simp only [Zp, Zq, Zr, Zs]
     refine WpH.vD 2 (some 181) ?_ rfl rfl (by kernel_rfl) (fun _ _ _ h => h) rfl (fun wz hwz => ?_) ?_
     rotate_left
     ·go_simp; try (with_reducible rfl)
     simp only [Zp, Zq, Zr, Zs]
     refine WpH.vD 3 (some 182) ?_ rfl rfl (by kernel_rfl) (fun _ _ _ h => h) rfl (fun wz hwz => ?_) ?_
     rotate_left
     ·(obtain ⟨hcz, hfz⟩ := bcell hwz; go_simp; try (with_reducible rfl))
     simp only [Zp, Zq, Zr, Zs]
     refine WpH.vD 4 (some 183) ?_ rfl rfl (by kernel_rfl) (fun _ _ _ h => h) rfl (fun wz hwz => ?_) ?_
     rotate_left
     ·go_simp; try (with_reducible rfl)
     simp only [Zp, Zq, Zr, Zs]
     refine WpH.vD 5 (some 184) ?_ rfl rfl (by kernel_rfl) (fun _ _ _ h => h) rfl (fun wz hwz => ?_) ?_
     rotate_left
     ·(obtain ⟨hcz, hfz⟩ := bcell hwz; go_simp; try (with_reducible rfl))
     simp only [Zp, Zq, Zr, Zs]
     refine WpH.takeD 6 (some 185) rfl rfl (by kernel_rfl) (fun _ _ _ h => h) (.call rfl (fun wz hwz => HRA.out wz (.slice (some ⟨gq, 0, none⟩) N N) (coefsK L ri) zi HZI.out HL5.out (HSQ.out.later hwz)) (fun wz hwz => ?_)) ?_
     ·go_simp; try (with_reducible rfl)
     simp only [Zp, Zq, Zr, Zs]
     refine WpH.vD 7 (some 186) ?_ rfl rfl (by kernel_rfl) (fun _ _ _ h => h) rfl (fun wz hwz => ?_) ?_
     rotate_left
     ·go_simp; try (with_reducible rfl)
     simp only [Zp, Zq, Zr, Zs]
     refine WpH.vD 8 (some 187) ?_ rfl rfl (by kernel_rfl) (fun _ _ _ h => h) rfl (fun wz hwz => ?_) ?_
     rotate_left
     ·go_simp; try (with_reducible rfl)
     simp only [Zp, Zq, Zr, Zs]
     refine WpH.vD 9 (some 188) ?_ rfl rfl (by kernel_rfl) (fun _ _ _ h => h) rfl (fun wz hwz => ?_) ?_
     rotate_left
     ·go_simp; try (with_reducible rfl)
     simp only [Zp, Zq, Zr, Zs]
     refine WpH.vD 10 (some 189) ?_ rfl rfl (by kernel_rfl) (fun _ _ _ h => h) rfl (fun wz hwz => ?_) ?_
     rotate_left
     ·go_simp; try (with_reducible rfl)
     simp only [Zp, Zq, Zr, Zs]
     refine WpH.vD 11 (some 190) ?_ rfl rfl (by kernel_rfl) (fun _ _ _ h => h) rfl (fun wz hwz => ?_) ?_
     rotate_left
     ·(obtain ⟨hcz, hfz⟩ := bcell hwz; go_simp; try (with_reducible rfl))
     simp only [Zp, Zq, Zr, Zs]
     refine WpH.vD 12 (some 191) ?_ rfl rfl (by kernel_rfl) (fun _ _ _ h => h) rfl (fun wz hwz => ?_) ?_
     rotate_left
     ·go_simp; try (with_reducible rfl)
     simp only [Zp, Zq, Zr, Zs]
     refine WpH.doneB (by kernel_rfl) (fun w31 hw31 => ?_)
     (try simp only [List.drop_succ_cons]); (try simp only [List.drop_zero]); (try simp only [Nat.reduceSub]); (try simp only [List.take_succ_cons]); (try simp only [List.take_zero])
     clear G0 G1 G2 pt0 pt1 pt2 pt3 pt4
     clear hG hpt d0 d1 d2 hw3 hi1n hi1i
     replace h28 := bl_call h28 (Nat.le_refl _) hw31
     clear hw31
     go_wp2_with fail
     go_roundw
     case rel => exact ⟨i + 1, by omega, by go_num, h28⟩
     case measure => simp [intOf]; omega
    ·have hY := HYY.out.call hb26
     have hzs := HZS.out.later hb26
     obtain ⟨zy, hzy⟩ : ∃ z, gval gd ((q.drop 1).take ar) = z := ⟨_, rfl⟩
     have h0q : q.getD 0 0 = out := by rw [List.getD_eq_getElem?_getD, HQ3.out]; rfl
     have h1q : q.getD (ar + 1) 0 = zp := by rw [List.getD_eq_getElem?_getD, HQ4.out]; rfl
     have HDE := Lib.hid (HDEC.out wr (.slice (some ⟨zb, zo, none⟩) n2 zc) q HQ2.out hzs)
     rw [h0q, h1q, hzy] at HDE
     have HZY := Lib.hid hzy
     clear h0q h1q hzy hzs
     have hO := HO28.out.call h28
     obtain ⟨⟨Y0, Y1, Y2, Y3, Y4, Y5⟩, ⟨Y6, Y7, Y8, Y9, Y10, Y11⟩, Y12⟩ := hY.get6
     go_upto_region 35 with (first
      | (go_at_call 36; refine (HDE.out).mono ?_; rintro e w32 ⟨rfl, hb32⟩; replace hbw := bl_call hbw (Nat.le_refl _) hb32; replace hb26 := bl_call hb26 (Nat.le_refl _) hb32; replace hY := hY.call hb32; replace hO := hO.call hb32; clear Y0 Y1 Y2 Y3 Y4 Y5 Y6 Y7 Y8 Y9 Y10 Y11 Y12; clear hb32; obtain ⟨⟨Y0, Y1, Y2, Y3, Y4, Y5⟩, ⟨Y6, Y7, Y8, Y9, Y10, Y11⟩, Y12⟩ := hY.get6))
     clear Y0 Y1 Y2 Y3 Y4 Y5 Y6 Y7 Y8 Y9 Y10 Y11 Y12
     have HYW := Lib.hid hY
     have HAW9 := Lib.hid (HAA.out.call hb26)
     have HOW := Lib.hid hO
     have HBWW := Lib.hid hbw
     have HB26 := Lib.hid hb26
     have hm1 := HM1.out
     have hn2 := HN2.out
     have hzc := HZC.out
     have g1 : (0 : Int) ≤ (m1 : Int) := by omega
     have g2 : m1 ≤ zc := by omega
     have g3 : 1 ≤ m1 := by omega
     have g4 : (m1 : Int) ≤ (zc : Int) := by omega
     have g5 : m1 - 1 = ar := by omega
     have g6 : (1 : Int) ≤ (m1 : Int) := by omega
     have g7 : ¬ (zc = 1) := by omega
     have HSLI : Hid (SlK w32 w32.heap.size (.slice (some ⟨zb, zo + 2, none⟩) ar (zc - 1)) ((q.drop 1).take ar)) := by
      have hz := HZS.out.later hb26
      obtain ⟨b', o', e1, h1, h2⟩ := hz.rowOf (by rw [HQ2.out]; omega)
      injection e1 with e1
      injection e1 with e2 e3
      subst e2
      subst e3
      exact slK_mid h2 h1 (by rw [HQ2.out]; omega) (by omega) (by omega)
     have HLT : Hid (((q.drop 1).take ar).length = ar) := by show _ = _; rw [List.length_take, List.length_drop, HQ2.out]; omega
     have HOF2 : Hid (∀ wz (k : Int) (sl : Value) (n : Int), RepG wz wz.heap.size k sl n gd → ∀ (vi : Value), SlK wz wz.heap.size vi ((q.drop 1).take ar) → Calls Tryz.prog 37 #[.agg #[.int .u8 k, sl, .int .i64 n], .int .u8 F, vi] wz (RetKE zy wz)) := fun wz k sl n h vi hs => by
      rw [← HZY.out]
      exact HOF.out wz k sl n h vi _ HLT.out hs
     clear hY hO hbw hb26 hm1 hn2 hzc h26 hin hlt
     apply region_Z2 (n := 14) (m := 15) (f := 14) (fun x0 x1 => (DeK w32 gd (.int .u64 (lo zy)) (.int .u64 (hi zy))) (some x0) (some x1) true) ((DeT w32 gd) none none) ((DeK w32 gd (.int .u64 (lo zy)) (.int .u64 (hi zy))) none none false) ((fun _ h => h.t)) (DeK.clo) ((DeK.start w32 gd _ _))
     case hm => kernel_rfl
     case hB => kernel_rfl
     case hf => rfl
     case' h =>
      refine WpX.vD 0 (some 201) ?_ rfl rfl (by kernel_rfl) (fun _ _ _ h => h) rfl (fun wz hwz => ?_) ?_
      rotate_left
      ·(have hz := (HYW.out.call hwz.1).get6; obtain ⟨⟨z0, z1, z2, z3, z4, z5⟩, ⟨y0, y1, y2, y3, y4, y5⟩, y6⟩ := hz; go_simp; try (with_reducible rfl))
      simp only [Zp, Zq, Zr, Zs]
      refine WpX.vD 2 (some 203) ?_ rfl rfl (by kernel_rfl) (fun _ _ _ h => h) rfl (fun wz hwz => ?_) ?_
      rotate_left
      ·go_simp; try (with_reducible rfl)
      simp only [Zp, Zq, Zr, Zs]
      refine WpX.vD 3 (some 204) ?_ rfl rfl (by kernel_rfl) (fun _ _ _ h => h) rfl (fun wz hwz => ?_) ?_
      rotate_left
      ·(have hz := (HYW.out.call hwz.1).get6; obtain ⟨⟨z0, z1, z2, z3, z4, z5⟩, ⟨y0, y1, y2, y3, y4, y5⟩, y6⟩ := hz; go_simp; try (with_reducible rfl))
      simp only [Zp, Zq, Zr, Zs]
      refine WpX.vD 4 (some 205) ?_ rfl rfl (by kernel_rfl) (fun _ _ _ h => h) rfl (fun wz hwz => ?_) ?_
      rotate_left
      ·go_simp; try (with_reducible rfl)
      simp only [Zp, Zq, Zr, Zs]
      refine WpX.vD 5 (some 206) ?_ rfl rfl (by kernel_rfl) (fun _ _ _ h => h) rfl (fun wz hwz => ?_) ?_
      rotate_left
      ·(obtain ⟨z0, z1, z2⟩ := (HAW9.out.call hwz.1).get1; go_simp; try (with_reducible rfl))
      simp only [Zp, Zq, Zr, Zs]
      refine WpX.vD 6 (some 207) ?_ rfl rfl (by kernel_rfl) (fun _ _ _ h => h) rfl (fun wz hwz => ?_) ?_
      rotate_left
      ·go_simp; try (with_reducible rfl)
      simp only [Zp, Zq, Zr, Zs]
      refine WpX.vD 7 (some 208) ?_ rfl rfl (by kernel_rfl) (fun _ _ _ h => h) rfl (fun wz hwz => ?_) ?_
      rotate_left
      ·go_simp; try (with_reducible rfl)
      simp only [Zp, Zq, Zr, Zs]
      refine WpX.twoD 1 12 (some 202) (some 36) rfl rfl rfl rfl (by kernel_rfl) (fun q : Int × Value × Int => Value.agg #[.int .u8 q.1, q.2.1, .int .i64 q.2.2]) (fun gq => (DeT w32 gd) (some gq) none) (fun gq => (DeK w32 gd (.int .u64 (lo zy)) (.int .u64 (hi zy))) (some gq) none false) (Turns.call rfl (fun _ _ h => ⟨h.1, fun _ e => (by cases e)⟩) (fun _ => (fun _ h => h.t)) (fun _ => DeK.clo) (fun wz hS => (HGAD.out wz).mono fun e w' ⟨k, sl, n, he, hr, hb, hn⟩ => ⟨(k, sl, n), he, hS.mk1 (k, sl, n) hr hb hn⟩) (fun wz hS => by go_simp; try (with_reducible rfl))) (fun b : Nat => Value.pointer (some ⟨b, 0, none⟩)) (fun xb => (DeT w32 gd) none (some xb)) (fun xb => (DeK w32 gd (.int .u64 (lo zy)) (.int .u64 (hi zy))) none (some xb) false) (Turns.val rfl (fun _ _ h => h) (fun _ => (fun _ h => h.t)) (fun _ => DeK.clo) (fun wz hS => ⟨wz.heap.size, wz.alloc (.cells #[.int .u64 0, .int .u64 0] 36), by go_simp; try (with_reducible rfl), hS.mk2⟩)) (fun gq => ?rz35_3a) (fun xb => ?rz35_3b)
      case' rz35_3a =>
       simp only [Zp, Zq, Zr, Zs]
       refine WpX.takeD 8 (some 209) rfl rfl (by kernel_rfl) (fun _ _ _ h => h) (.call rfl (fun wz hwz => HOF2.out wz gq.1 gq.2.1 gq.2.2 (hwz.2 gq rfl) (.slice (some ⟨zb, zo + 2, none⟩) ar (zc - 1)) (HSLI.out.later hwz.1)) (fun wz hwz => ?_)) ?_
       ·go_simp; try (with_reducible rfl)
       simp only [Zp, Zq, Zr, Zs]
       refine WpX.vD 9 (some 200) ?_ rfl rfl (by kernel_rfl) (fun _ _ _ h => h) rfl (fun wz hwz => ?_) ?_
       rotate_left
       ·go_simp; try (with_reducible rfl)
       simp only [Zp, Zq, Zr, Zs]
       refine WpX.vD 10 (some 210) ?_ rfl rfl (by kernel_rfl) (fun _ _ _ h => h) rfl (fun wz hwz => ?_) ?_
       rotate_left
       ·go_simp; try (with_reducible rfl)
       simp only [Zp, Zq, Zr, Zs]
       refine WpX.vD 11 (some 211) ?_ rfl rfl (by kernel_rfl) (fun _ _ _ h => h) rfl (fun wz hwz => ?_) ?_
       rotate_left
       ·go_simp; try (with_reducible rfl)
       simp only [Zp, Zq, Zr, Zs]
       refine WpX.oneD 12 (some 36) rfl rfl (by kernel_rfl) (fun b : Nat => Value.pointer (some ⟨b, 0, none⟩)) (fun xb => (DeT w32 gd) (some gq) (some xb)) (fun xb => (DeK w32 gd (.int .u64 (lo zy)) (.int .u64 (hi zy))) (some gq) (some xb) false) (Turns.val rfl (fun _ _ h => h) (fun _ => (fun _ h => h.t)) (fun _ => DeK.clo) (fun wz hS => ⟨wz.heap.size, wz.alloc (.cells #[.int .u64 0, .int .u64 0] 36), by go_simp; try (with_reducible rfl), hS.mk2⟩)) (fun xb => ?_)
       simp only [Zp, Zq, Zr, Zs]
       refine WpX.oneSkip 13 none rfl rfl (by kernel_rfl) ((DeT w32 gd) (some gq) (some xb)) ((DeK w32 gd (.int .u64 (lo zy)) (.int .u64 (hi zy))) (some gq) (some xb) true) (fun _ h => h) ((fun _ h => h.t)) (DeK.clo) rfl (fun wz hS => ?_) ?_
       ·(obtain ⟨c0, c1, c2, c3, c4⟩ := (hS.b xb rfl).2; exact ⟨_, by go_simp; try (with_reducible rfl), hS.put⟩)
       simp only [Act.put]
       refine WpX.done (by kernel_rfl) (fun w33 hS => ⟨gq, xb, rfl, ?_⟩)
       ·exact hS
      case' rz35_3b =>
       simp only [Zp, Zq, Zr, Zs]
       refine WpX.oneD 1 (some 202) rfl rfl (by kernel_rfl) (fun q : Int × Value × Int => Value.agg #[.int .u8 q.1, q.2.1, .int .i64 q.2.2]) (fun gq => (DeT w32 gd) (some gq) (some xb)) (fun gq => (DeK w32 gd (.int .u64 (lo zy)) (.int .u64 (hi zy))) (some gq) (some xb) false) (Turns.call rfl (fun _ _ h => ⟨h.1, fun _ e => (by cases e)⟩) (fun _ => (fun _ h => h.t)) (fun _ => DeK.clo) (fun wz hS => (HGAD.out wz).mono fun e w' ⟨k, sl, n, he, hr, hb, hn⟩ => ⟨(k, sl, n), he, hS.mk1 (k, sl, n) hr hb hn⟩) (fun wz hS => by go_simp; try (with_reducible rfl))) (fun gq => ?_)
       simp only [Zp, Zq, Zr, Zs]
       refine WpX.takeD 8 (some 209) rfl rfl (by kernel_rfl) (fun _ _ _ h => h) (.call rfl (fun wz hwz => HOF2.out wz gq.1 gq.2.1 gq.2.2 (hwz.2 gq rfl) (.slice (some ⟨zb, zo + 2, none⟩) ar (zc - 1)) (HSLI.out.later hwz.1)) (fun wz hwz => ?_)) ?_
       ·go_simp; try (with_reducible rfl)
       simp only [Zp, Zq, Zr, Zs]
       refine WpX.vD 9 (some 200) ?_ rfl rfl (by kernel_rfl) (fun _ _ _ h => h) rfl (fun wz hwz => ?_) ?_
       rotate_left
       ·go_simp; try (with_reducible rfl)
       simp only [Zp, Zq, Zr, Zs]
       refine WpX.vD 10 (some 210) ?_ rfl rfl (by kernel_rfl) (fun _ _ _ h => h) rfl (fun wz hwz => ?_) ?_
       rotate_left
       ·go_simp; try (with_reducible rfl)
       simp only [Zp, Zq, Zr, Zs]
       refine WpX.vD 11 (some 211) ?_ rfl rfl (by kernel_rfl) (fun _ _ _ h => h) rfl (fun wz hwz => ?_) ?_
       rotate_left
       ·go_simp; try (with_reducible rfl)
       simp only [Zp, Zq, Zr, Zs]
       refine WpX.oneSkip 13 none rfl rfl (by kernel_rfl) ((DeT w32 gd) (some gq) (some xb)) ((DeK w32 gd (.int .u64 (lo zy)) (.int .u64 (hi zy))) (some gq) (some xb) true) (fun _ h => h) ((fun _ h => h.t)) (DeK.clo) rfl (fun wz hS => ?_) ?_
       ·(obtain ⟨c0, c1, c2, c3, c4⟩ := (hS.b xb rfl).2; exact ⟨_, by go_simp; try (with_reducible rfl), hS.put⟩)
       simp only [Act.put]
       refine WpX.done (by kernel_rfl) (fun w33 hS => ⟨gq, xb, rfl, ?_⟩)
       ·exact hS
     intro gq xb w33 hS
     (try simp only [List.drop_succ_cons]); (try simp only [List.drop_zero]); (try simp only [Nat.reduceSub]); (try simp only [List.take_succ_cons]); (try simp only [List.take_zero])
     obtain ⟨hxb, hv5⟩ := hS.b xb rfl
     have hb33 := hS.t.1
     have hbw := bl_call HBWW.out (Nat.le_refl _) hb33
     have hb26 := bl_call HB26.out (Nat.le_refl _) hb33
     have hA := HAW9.out.call hb33
     have hO := HOW.out.call hb33
     have hzs := HZS.out.later hb26
     obtain ⟨d0, d1, d2⟩ := hzs.cells HQM.out
     clear hS hzs HYW HAW9 HOW HBWW HB26 HSLI HOF2 HLT g1 g2 g3 g4 g5 g6 g7
     have e1 : (lo zy == lo zp && hi zy == hi zp) = decide (zy = zp) := vK_eq zy zp
     have e0 : (lo out == 0 && hi out == 0) = decide (out = 0) := vK_eq0 out
     obtain ⟨B1, hB1⟩ : ∃ B : Bool, decide (zy = zp) = B := ⟨_, rfl⟩
     obtain ⟨B0, hB0⟩ : ∃ B : Bool, decide (out = 0) = B := ⟨_, rfl⟩
     rw [hB1] at e1
     rw [hB0] at e0
     simp only [hB0, hB1]
     clear hB0 hB1
     go_upto_region 36 with fail
     obtain ⟨A0, A1, A2⟩ := hA.get1
     obtain ⟨O0, O1, O2, O3, O4⟩ := V2.mk hO.c0 hO.c1 hO.f0 hO.f1 hO.lt
     obtain ⟨v50, v51, v52, v53, v54⟩ := V2.mk hv5.c0 hv5.c1 hv5.f0 hv5.f1 hv5.lt
     cases B0 with
     | true =>
      refine region_B (n := 18) (m := 19) (f := 18) (by kernel_rfl) (by kernel_rfl) rfl ?_
      refine WpH.vD 0 (some 212) ?_ rfl rfl (by kernel_rfl) (fun _ _ _ h => h) rfl (fun wz hwz => ?_) ?_
      rotate_left
      ·go_simp; try (with_reducible rfl)
      simp only [Zp, Zq, Zr, Zs]
      refine WpH.vD 1 (some 213) ?_ rfl rfl (by kernel_rfl) (fun _ _ _ h => h) rfl (fun wz hwz => ?_) ?_
      rotate_left
      ·go_simp; try (with_reducible rfl)
      simp only [Zp, Zq, Zr, Zs]
      refine WpH.vD 2 (some 214) ?_ rfl rfl (by kernel_rfl) (fun _ _ _ h => h) rfl (fun wz hwz => ?_) ?_
      rotate_left
      ·go_simp; try (with_reducible rfl)
      simp only [Zp, Zq, Zr, Zs]
      refine WpH.vD 3 (some 215) ?_ rfl rfl (by kernel_rfl) (fun _ _ _ h => h) rfl (fun wz hwz => ?_) ?_
      rotate_left
      ·go_simp; try (with_reducible rfl)
      simp only [Zp, Zq, Zr, Zs]
      refine WpH.vD 4 (some 216) ?_ rfl rfl (by kernel_rfl) (fun _ _ _ h => h) rfl (fun wz hwz => ?_) ?_
      rotate_left
      ·(obtain ⟨hcz, hfz⟩ := bcell hwz; go_simp; try (with_reducible rfl))
      simp only [Zp, Zq, Zr, Zs]
      refine WpH.vD 5 (some 217) ?_ rfl rfl (by kernel_rfl) (fun _ _ _ h => h) rfl (fun wz hwz => ?_) ?_
      rotate_left
      ·go_simp; try (with_reducible rfl)
      simp only [Zp, Zq, Zr, Zs]
      refine WpH.vD 6 (some 218) ?_ rfl rfl (by kernel_rfl) (fun _ _ _ h => h) rfl (fun wz hwz => ?_) ?_
      rotate_left
      ·go_simp; try (with_reducible rfl)
      simp only [Zp, Zq, Zr, Zs]
      refine WpH.vD 7 (some 219) ?_ rfl rfl (by kernel_rfl) (fun _ _ _ h => h) rfl (fun wz hwz => ?_) ?_
      rotate_left
      ·go_simp; try (with_reducible rfl)
      simp only [Zp, Zq, Zr, Zs]
      refine WpH.vD 8 (some 220) ?_ rfl rfl (by kernel_rfl) (fun _ _ _ h => h) rfl (fun wz hwz => ?_) ?_
      rotate_left
      ·(obtain ⟨hcz, hfz⟩ := bcell hwz; go_simp; try (with_reducible rfl))
      simp only [Zp, Zq, Zr, Zs]
      refine WpH.vD 9 (some 221) ?_ rfl rfl (by kernel_rfl) (fun _ _ _ h => h) rfl (fun wz hwz => ?_) ?_
      rotate_left
      ·go_simp; try (with_reducible rfl)
      simp only [Zp, Zq, Zr, Zs]
      refine WpH.vD 10 (some 222) ?_ rfl rfl (by kernel_rfl) (fun _ _ _ h => h) rfl (fun wz hwz => ?_) ?_
      rotate_left
      ·(obtain ⟨hcz, hfz⟩ := bcell hwz; go_simp; try (with_reducible rfl))
      simp only [Zp, Zq, Zr, Zs]
      refine WpH.vD 11 (some 223) ?_ rfl rfl (by kernel_rfl) (fun _ _ _ h => h) rfl (fun wz hwz => ?_) ?_
      rotate_left
      ·go_simp; try (with_reducible rfl)
      simp only [Zp, Zq, Zr, Zs]
      refine WpH.vD 12 (some 224) ?_ rfl rfl (by kernel_rfl) (fun _ _ _ h => h) rfl (fun wz hwz => ?_) ?_
      rotate_left
      ·go_simp; try (with_reducible rfl)
      simp only [Zp, Zq, Zr, Zs]
      refine WpH.vD 13 (some 225) ?_ rfl rfl (by kernel_rfl) (fun _ _ _ h => h) rfl (fun wz hwz => ?_) ?_
      rotate_left
      ·(obtain ⟨hcz, hfz⟩ := bcell hwz; go_simp; try (with_reducible rfl))
      simp only [Zp, Zq, Zr, Zs]
      refine WpH.vD 14 (some 226) ?_ rfl rfl (by kernel_rfl) (fun _ _ _ h => h) rfl (fun wz hwz => ?_) ?_
      rotate_left
      ·go_simp; try (with_reducible rfl)
      simp only [Zp, Zq, Zr, Zs]
      refine WpH.vD 15 (some 227) ?_ rfl rfl (by kernel_rfl) (fun _ _ _ h => h) rfl (fun wz hwz => ?_) ?_
      rotate_left
      ·go_simp; try (with_reducible rfl)
      simp only [Zp, Zq, Zr, Zs]
      refine WpH.vD 16 (some 228) ?_ rfl rfl (by kernel_rfl) (fun _ _ _ h => h) rfl (fun wz hwz => ?_) ?_
      rotate_left
      ·go_simp; try (with_reducible rfl)
      simp only [Zp, Zq, Zr, Zs]
      refine WpH.vD 17 (some 229) ?_ rfl rfl (by kernel_rfl) (fun _ _ _ h => h) rfl (fun wz hwz => ?_) ?_
      rotate_left
      ·go_simp; try (with_reducible rfl)
      simp only [Zp, Zq, Zr, Zs]
      refine WpH.doneB (by kernel_rfl) (fun w34 hw34 => ?_)
      (try simp only [List.drop_succ_cons]); (try simp only [List.drop_zero]); (try simp only [Nat.reduceSub]); (try simp only [List.take_succ_cons]); (try simp only [List.take_zero])
      go_wp2_with fail
      go_ret
      exact ⟨by first | rfl | (simp; done), bl_call hbw (Nat.le_refl _) hw34⟩
     | false =>
      refine region_B (n := 18) (m := 19) (f := 18) (by kernel_rfl) (by kernel_rfl) rfl ?_
      refine WpH.vD 0 (some 212) ?_ rfl rfl (by kernel_rfl) (fun _ _ _ h => h) rfl (fun wz hwz => ?_) ?_
      rotate_left
      ·go_simp; try (with_reducible rfl)
      simp only [Zp, Zq, Zr, Zs]
      refine WpH.vD 1 (some 213) ?_ rfl rfl (by kernel_rfl) (fun _ _ _ h => h) rfl (fun wz hwz => ?_) ?_
      rotate_left
      ·go_simp; try (with_reducible rfl)
      simp only [Zp, Zq, Zr, Zs]
      refine WpH.vD 2 (some 214) ?_ rfl rfl (by kernel_rfl) (fun _ _ _ h => h) rfl (fun wz hwz => ?_) ?_
      rotate_left
      ·go_simp; try (with_reducible rfl)
      simp only [Zp, Zq, Zr, Zs]
      refine WpH.vD 3 (some 215) ?_ rfl rfl (by kernel_rfl) (fun _ _ _ h => h) rfl (fun wz hwz => ?_) ?_
      rotate_left
      ·go_simp; try (with_reducible rfl)
      simp only [Zp, Zq, Zr, Zs]
      refine WpH.vD 4 (some 216) ?_ rfl rfl (by kernel_rfl) (fun _ _ _ h => h) rfl (fun wz hwz => ?_) ?_
      rotate_left
      ·(obtain ⟨hcz, hfz⟩ := bcell hwz; go_simp; try (with_reducible rfl))
      simp only [Zp, Zq, Zr, Zs]
      refine WpH.vD 5 (some 217) ?_ rfl rfl (by kernel_rfl) (fun _ _ _ h => h) rfl (fun wz hwz => ?_) ?_
      rotate_left
      ·go_simp; try (with_reducible rfl)
      simp only [Zp, Zq, Zr, Zs]
      refine WpH.vD 6 (some 218) ?_ rfl rfl (by kernel_rfl) (fun _ _ _ h => h) rfl (fun wz hwz => ?_) ?_
      rotate_left
      ·go_simp; try (with_reducible rfl)
      simp only [Zp, Zq, Zr, Zs]
      refine WpH.vD 7 (some 219) ?_ rfl rfl (by kernel_rfl) (fun _ _ _ h => h) rfl (fun wz hwz => ?_) ?_
      rotate_left
      ·go_simp; try (with_reducible rfl)
      simp only [Zp, Zq, Zr, Zs]
      refine WpH.takeD 8 (some 220) rfl rfl (by kernel_rfl) (fun _ _ _ h => h) (.skip rfl) ?_
      simp only [Zp, Zq, Zr, Zs]
      refine WpH.takeD 9 (some 221) rfl rfl (by kernel_rfl) (fun _ _ _ h => h) (.skip rfl) ?_
      simp only [Zp, Zq, Zr, Zs]
      refine WpH.takeD 10 (some 222) rfl rfl (by kernel_rfl) (fun _ _ _ h => h) (.skip rfl) ?_
      simp only [Zp, Zq, Zr, Zs]
      refine WpH.takeD 11 (some 223) rfl rfl (by kernel_rfl) (fun _ _ _ h => h) (.skip rfl) ?_
      simp only [Zp, Zq, Zr, Zs]
      refine WpH.takeD 12 (some 224) rfl rfl (by kernel_rfl) (fun _ _ _ h => h) (.skip rfl) ?_
      simp only [Zp, Zq, Zr, Zs]
      refine WpH.takeD 13 (some 225) rfl rfl (by kernel_rfl) (fun _ _ _ h => h) (.skip rfl) ?_
      simp only [Zp, Zq, Zr, Zs]
      refine WpH.takeD 14 (some 226) rfl rfl (by kernel_rfl) (fun _ _ _ h => h) (.skip rfl) ?_
      simp only [Zp, Zq, Zr, Zs]
      refine WpH.vD 15 (some 227) ?_ rfl rfl (by kernel_rfl) (fun _ _ _ h => h) rfl (fun wz hwz => ?_) ?_
      rotate_left
      ·go_simp; try (with_reducible rfl)
      simp only [Zp, Zq, Zr, Zs]
      refine WpH.vD 16 (some 228) ?_ rfl rfl (by kernel_rfl) (fun _ _ _ h => h) rfl (fun wz hwz => ?_) ?_
      rotate_left
      ·go_simp; try (with_reducible rfl)
      simp only [Zp, Zq, Zr, Zs]
      refine WpH.vD 17 (some 229) ?_ rfl rfl (by kernel_rfl) (fun _ _ _ h => h) rfl (fun wz hwz => ?_) ?_
      rotate_left
      ·go_simp; try (with_reducible rfl)
      simp only [Zp, Zq, Zr, Zs]
      refine WpH.doneB (by kernel_rfl) (fun w34 hw34 => ?_)
      (try simp only [List.drop_succ_cons]); (try simp only [List.drop_zero]); (try simp only [Nat.reduceSub]); (try simp only [List.take_succ_cons]); (try simp only [List.take_zero])
      go_wp2_with fail
      go_ret
      exact ⟨by first | rfl | (simp; done), bl_call hbw (Nat.le_refl _) hw34⟩

end Go.Proofs.YtfbfbijkkbflkaaGreatDoor
