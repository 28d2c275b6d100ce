/-
  PfSh: for ProofShares.
-/
import Derived.Test.YtfbfbijkkbflkaaGreatDoorOad
namespace Go.Proofs.YtfbfbijkkbflkaaGreatDoor
open Go.RowKit Fm
set_option linter.unusedVariables false
set_option maxRecDepth 100000

set_option maxHeartbeats 16000000 in
theorem walk_ProofShares (k f b l m c : Int) (vl vm vc : Value) (xs ms cs : List E) (e0 e1 : Int) (w : World) (hT : TabW w) (hk : 0 ≤ k ∧ k ≤ 255) (hf : 0 ≤ f ∧ f ≤ 255) (hb : 0 ≤ b ∧ b ≤ 255) (hl : 0 ≤ l ∧ l ≤ 255) (hm : 0 ≤ m ∧ m ≤ 255) (hc : 0 ≤ c ∧ c ≤ 255)
    (hxs : SlE w w.heap.size vl xs) (hms : SlE w w.heap.size vm ms) (hcs : SlE w w.heap.size vc cs) (he0 : 0 ≤ e0 ∧ e0 ≤ 18446744073709551615) (he1 : 0 ≤ e1 ∧ e1 ≤ 18446744073709551615) :
    Calls Tryz.prog 4 #[.agg #[.int .u8 k, .int .u8 f, .int .u8 b, .int .u8 l, .int .u8 m, .int .u8 c], vl, vm, vc, .agg #[.int .u64 e0, .int .u64 e1]] w fun e w' => e = .returned (.bool true) ∧ Below w.heap.size w w' := by
  obtain ⟨F, y, hF, hy, hCIR⟩ := law10_Circuit k f b l m c hk.1 hk.2 hf.1 hf.2 hb.1 hb.2 hl.1 hl.2 hm.1 hm.2 hc.1 hc.2
  have HAW : Hid (∀ wz, Below w.heap.size w wz → Calls Tryz.prog 10 #[] wz fun e w' => e = .returned (.bool true) ∧ Below wz.heap.size wz w') := fun wz h => law11_Awake wz (hT.call h)
  have HCIR := Lib.hid hCIR
  have hok := hy.ok
  have hcl : y.calls ≤ 511 := by have := hy.calls; omega
  have hcl2 := CK.calls_le hok
  have hnin := hy.nin
  have hal := CK.arity_le hok
  have hjn : y.joint ≤ 512 := by cases y <;> simp only [CK.joint] <;> (try simp only [CK.calls] at hcl ⊢) <;> omega
  obtain ⟨L, hL, hN, hcN⟩ := small_log hy
  have hpn : y.proof ≤ 2000 := by
    have h2 : (2 : Nat) ^ L ≤ 2 ^ 8 := Nat.pow_le_pow_right (by omega) hL
    have h3 : (2 : Nat) ^ 8 = 256 := by decide
    show y.arity + 2 * (nextP (y.calls + 1) - 1) + 1 ≤ _
    rw [hN]
    omega
  have hpn1 : 1 ≤ y.proof := by show 1 ≤ y.arity + 2 * (nextP (y.calls + 1) - 1) + 1; omega
  have HVEC : Hid (∀ (vx : Value) (es : List E) wz, SlE w w.heap.size vx es → Below w.heap.size w wz → es.length ≤ 60 → Calls Tryz.prog 12 #[y.val F, vx, .bool true] wz fun e w' => ∃ q : Nat × KL F, e = .returned (.slice (some ⟨q.1, 0, none⟩) y.nin y.nin) ∧ (q.2.length = y.nin ∧ wz.heap.size ≤ q.1 ∧ BlkE w' q.1 (esK q.2)) ∧ Below wz.heap.size wz w') :=
    fun vx es wz hs hb h60 => (law10_Vector hF y hok vx es true wz ((hs.below hb).mono hb.size) h60).mono fun e w' ⟨g, zs, h1, h2, h3, h4, h5⟩ => ⟨(g, zs), h2, ⟨h1, h4, h3⟩, h5⟩
  have HJOI : Hid (∀ (vx : Value) (es : List E) wz, SlE w w.heap.size vx es → Below w.heap.size w wz → es.length ≤ 60 → Calls Tryz.prog 19 #[y.val F, vx, .int .i64 1] wz fun e w' => ∃ q : Nat × KL F, e = .returned (.slice (some ⟨q.1, 0, none⟩) y.joint y.joint) ∧ (q.2.length = y.joint ∧ wz.heap.size ≤ q.1 ∧ BlkE w' q.1 (esK q.2)) ∧ Below wz.heap.size wz w') :=
    fun vx es wz hs hb h60 => (law10_Joint hF y hok hcl vx es wz ((hs.below hb).mono hb.size) h60).mono fun e w' ⟨g, zs, h1, h2, h3, h4, h5⟩ => ⟨(g, zs), h2, ⟨h1, h4, h3⟩, h5⟩
  have HSOM : Hid (∀ (vx : Value) (es : List E) (n s : Nat) wz, n ≤ 2000 → s ≤ 10 → SlE w w.heap.size vx es → Below w.heap.size w wz → es.length ≤ 60 → Calls Tryz.prog 20 #[y.val F, vx, .int .i64 (n : Nat), .int .i64 (s : Nat)] wz fun e w' => ∃ q : Nat × KL F, e = .returned (.slice (some ⟨q.1, 0, none⟩) n n) ∧ (q.2.length = n ∧ wz.heap.size ≤ q.1 ∧ BlkE w' q.1 (esK q.2)) ∧ Below wz.heap.size wz w') :=
    fun vx es n s wz h1 h2 hs hb h60 => (law11_some hF y n s h1 h2 vx es wz ((hs.below hb).mono hb.size) h60).mono fun e w' ⟨g, zs, h1, h2, h3, h4, h5⟩ => ⟨(g, zs), h2, ⟨h1, h4, h3⟩, h5⟩
  have HPRF : Hid (∀ wz, Calls Tryz.prog 21 #[y.val F] wz (RetI y.proof wz)) := fun wz => circuit_Proof hF y hok hcl wz
  have HSUB : Hid (∀ wz (ga gb n : Nat) (la lb : KL F), n ≤ 2000 → BlkE wz ga (esK la) → BlkE wz gb (esK lb) → la.length = n → lb.length = n → Calls Tryz.prog 22 #[.int .u8 (F : Int), .slice (some ⟨ga, 0, none⟩) n n, .slice (some ⟨gb, 0, none⟩) n n] wz fun e w' =>
      ∃ g, e = .returned (.tuple #[.slice (some ⟨g, 0, none⟩) n n, .int .i64 0]) ∧ BlkE w' g (esK (subL la lb)) ∧ wz.heap.size ≤ g ∧ Below wz.heap.size wz w') := fun wz ga gb n la lb hn h1 h2 h3 h4 => by
    have hle : (subL la lb).length = n := by unfold subL; rw [List.length_zipWith]; omega
    have h := field_SubVecK hF (.slice (some ⟨ga, 0, none⟩) n n) (.slice (some ⟨gb, 0, none⟩) n n) la lb wz (h1.slM h3 (by omega)) (h2.slM h4 (by omega)) (by rw [h3, h4]) (by omega)
    refine h.mono ?_
    rintro e w' ⟨g, he, h5, h6, h7⟩
    rw [hle] at he
    exact ⟨g, he, h5, h6, h7⟩
  have HADD : Hid (∀ wz (va vb : Value) (la lb : KL F), la.length = y.arity + 2 → lb.length = y.arity + 2 → SlK wz wz.heap.size va la → SlK wz wz.heap.size vb lb → Calls Tryz.prog 25 #[.int .u8 (F : Int), va, vb] wz fun e w' =>
      ∃ g, e = .returned (.tuple #[.slice (some ⟨g, 0, none⟩) (y.arity + 2) (y.arity + 2), .int .i64 0]) ∧ BlkE w' g (esK (addL la lb)) ∧ wz.heap.size ≤ g ∧ Below wz.heap.size wz w') := fun wz va vb la lb h3 h4 h1 h2 => by
    have hle : (addL la lb).length = y.arity + 2 := by rw [addL_length _ _ (by rw [h3, h4]), h3]
    have h := field_AddVecK hF va vb la lb wz h1 h2 (by rw [h3, h4]) (by omega)
    refine h.mono ?_
    rintro e w' ⟨g, he, h5, h6, h7⟩
    rw [hle] at he
    exact ⟨g, he, h5, h6, h7⟩
  obtain ⟨x, hx⟩ : ∃ x, kL F e0 e1 = x := ⟨_, rfl⟩
  have HOUT : Hid (∀ wz, Below w.heap.size w wz → Calls Tryz.prog 23 #[y.val F, .agg #[.int .u64 e0, .int .u64 e1]] wz fun e w' => e = .returned (.tuple #[vK x, .bool (!decide (Fm.kpow x (2 ^ L) = 1))]) ∧ Below wz.heap.size wz w') := fun wz h => by
    have h2 := law11_outside hF y hok hcl L (by omega) hN e0 e1 he0.1 he0.2 he1.1 he1.2 wz (hT.call h)
    rwa [any_pow (by omega), hx] at h2
  have HQN : Hid (Fm.kpow x (2 ^ L) = 1 → ∀ (wz : World) (sh gv gp gj : Nat) (v p j : KL F), sh = 1 ∨ sh = 2 → Below w.heap.size w wz → gv ≠ gp → gj ≠ gp → v.length = y.nin → p.length = y.proof → j.length = y.joint → BlkE wz gv (esK v) → BlkE wz gp (esK p) → BlkE wz gj (esK j) →
      Calls Tryz.prog 24 #[y.val F, .slice (some ⟨gv, 0, none⟩) y.nin y.nin, .slice (some ⟨gp, 0, none⟩) y.proof y.proof, .slice (some ⟨gj, 0, none⟩) y.joint y.joint, .agg #[.int .u64 (lo x), .int .u64 (hi x)], .int .i64 (sh : Int)] wz (RetE9 12 wz)) := fun h1 wz sh gv gp gj v p j hsh hb n1 n2 hv hp hj bv bp bj => by
    have h := proof_Query hF y hok (by omega) L hL hN sh hsh v p j hv hj hp x (.slice (some ⟨gv, 0, none⟩) y.nin y.nin) (.slice (some ⟨gj, 0, none⟩) y.joint y.joint) gp 0 y.proof wz (hT.call hb)
      (SlX.of hv (Nat.le_refl _) (by omega) bv.lt n1 bv.rowE) (SlX.of hj (Nat.le_refl _) (by omega) bj.lt n2 bj.rowE) (bp.slM hp (by omega))
    refine h.mono ?_
    rintro e w' (⟨_, h⟩ | ⟨h, _⟩)
    · exact h
    · exact absurd h1 h
  have HQY : Hid (Fm.kpow x (2 ^ L) ≠ 1 → ∀ (wz : World) (sh gv gp gj : Nat) (v p j : KL F), sh = 1 ∨ sh = 2 → Below w.heap.size w wz → gv ≠ gp → gj ≠ gp → v.length = y.nin → p.length = y.proof → j.length = y.joint → BlkE wz gv (esK v) → BlkE wz gp (esK p) → BlkE wz gj (esK j) →
      Calls Tryz.prog 24 #[y.val F, .slice (some ⟨gv, 0, none⟩) y.nin y.nin, .slice (some ⟨gp, 0, none⟩) y.proof y.proof, .slice (some ⟨gj, 0, none⟩) y.joint y.joint, .agg #[.int .u64 (lo x), .int .u64 (hi x)], .int .i64 (sh : Int)] wz fun e w' =>
        ∃ q : Option Addr × Nat, e = .returned (.tuple #[.slice q.1 (y.arity + 2) q.2, .int .i64 0]) ∧ SlK w' w'.heap.size (.slice q.1 (y.arity + 2) q.2) (qryL y L v j (kinv (nK F sh)) p x) ∧ Below wz.heap.size wz w') := fun h1 wz sh gv gp gj v p j hsh hb n1 n2 hv hp hj bv bp bj => by
    have h := proof_Query hF y hok (by omega) L hL hN sh hsh v p j hv hj hp x (.slice (some ⟨gv, 0, none⟩) y.nin y.nin) (.slice (some ⟨gj, 0, none⟩) y.joint y.joint) gp 0 y.proof wz (hT.call hb)
      (SlX.of hv (Nat.le_refl _) (by omega) bv.lt n1 bv.rowE) (SlX.of hj (Nat.le_refl _) (by omega) bj.lt n2 bj.rowE) (bp.slM hp (by omega))
    refine h.mono ?_
    rintro e w' (⟨h, _⟩ | ⟨_, q, he, hs, hb'⟩)
    · exact absurd h h1
    · rw [qryL_length] at he hs
      exact ⟨q, he, hs, hb'⟩
  have HSUM : Hid (∀ (v a j p d : KL F), v.length = y.nin → a.length = y.nin → p.length = y.proof → d.length = y.proof → addL (qryL y L a j (kinv (nK F 2)) d x) (qryL y L (subL v a) j (kinv (nK F 2)) (subL p d) x) = qryL y L v j (kinv (nK F 1)) p x) := fun v a j p d h1 h2 h3 h4 => by
    rw [nK_one, kinv_one]
    exact qry_sum y hok L v a _ j p d _ h1 (sum_subP v a (by omega)) (sum_subP p d (by omega)) _ (kinv_two hF).2 x
  have HSL : Hid (∀ (v a : KL F) n, v.length = n → a.length = n → (subL v a).length = n) := fun v a n h1 h2 => by unfold subL; rw [List.length_zipWith]; omega
  have HQL : Hid (∀ (v j p : KL F) part, (qryL y L v j part p x).length = y.arity + 2) := fun v j p part => qryL_length y L v j part p x
  have HSAM : Hid (∀ wz (va vb : Value) (Z : KL F), SlK wz wz.heap.size va Z → SlK wz wz.heap.size vb Z → Calls Tryz.prog 26 #[va, vb] wz fun e w' => e = .returned (.bool true) ∧ Below wz.heap.size wz w') := fun wz va vb Z h1 h2 => ref_Same_eq _ _ _ _ wz h1.toE h2.toE rfl
  have HSO5 : Hid (∀ (vx : Value) (es : List E) (n : Nat) wz, n ≤ 2000 → SlE w w.heap.size vx es → Below w.heap.size w wz → es.length ≤ 60 → Calls Tryz.prog 20 #[y.val F, vx, .int .i64 (n : Nat), .int .i64 5] wz fun e w' => ∃ q : Nat × KL F, e = .returned (.slice (some ⟨q.1, 0, none⟩) n n) ∧ (q.2.length = n ∧ wz.heap.size ≤ q.1 ∧ BlkE w' q.1 (esK q.2)) ∧ Below wz.heap.size wz w') := fun vx es n wz h1 => HSOM.out vx es n 5 wz h1 (by omega)
  have HSO2 : Hid (∀ (vx : Value) (es : List E) (n : Nat) wz, n ≤ 2000 → SlE w w.heap.size vx es → Below w.heap.size w wz → es.length ≤ 60 → Calls Tryz.prog 20 #[y.val F, vx, .int .i64 (n : Nat), .int .i64 2] wz fun e w' => ∃ q : Nat × KL F, e = .returned (.slice (some ⟨q.1, 0, none⟩) n n) ∧ (q.2.length = n ∧ wz.heap.size ≤ q.1 ∧ BlkE w' q.1 (esK q.2)) ∧ Below wz.heap.size wz w') := fun vx es n wz h1 => HSOM.out vx es n 2 wz h1 (by omega)
  have HSO3 : Hid (∀ (vx : Value) (es : List E) (n : Nat) wz, n ≤ 2000 → SlE w w.heap.size vx es → Below w.heap.size w wz → es.length ≤ 60 → Calls Tryz.prog 20 #[y.val F, vx, .int .i64 (n : Nat), .int .i64 3] wz fun e w' => ∃ q : Nat × KL F, e = .returned (.slice (some ⟨q.1, 0, none⟩) n n) ∧ (q.2.length = n ∧ wz.heap.size ≤ q.1 ∧ BlkE w' q.1 (esK q.2)) ∧ Below wz.heap.size wz w') := fun vx es n wz h1 => HSOM.out vx es n 3 wz h1 (by omega)
  obtain ⟨⟨A1, c1, rfl, _, _, _⟩, _⟩ := id hxs
  obtain ⟨⟨A2, c2, rfl, _, _, _⟩, _⟩ := id hms
  obtain ⟨⟨A3, c3, rfl, _, _, _⟩, _⟩ := id hcs
  have HXS := Lib.hid hxs
  have HMS := Lib.hid hms
  have HCS := Lib.hid hcs
  have HX : Hid ((Fm.kpow x (2 ^ L) = 1) ∨ ¬ (Fm.kpow x (2 ^ L) = 1)) := Classical.em _
  have hni : y.nin ≤ 2000 := by omega
  have hn2le : y.arity + 2 ≤ 2000 := by omega
  clear hxs hms hcs hCIR hx he0 he1 hT hk hf hb hl hm hc hcl hcl2 hN hcN hL hal hok HSOM hnin hy
  unfold CK.val at HCIR HVEC HJOI HSO5 HSO2 HSO3 HPRF HOUT HQN HQY
  generalize y.arity + 2 = n2 at *
  generalize y.nin = ni at *
  generalize y.joint = nj at *
  generalize y.proof = tot at *
  generalize ((y.k : Nat) : Int) = yk at *
  generalize ((y.b : Nat) : Int) = yb at *
  generalize ((y.l : Nat) : Int) = yl at *
  generalize ((y.m : Nat) : Int) = ym at *
  generalize ((y.c : Nat) : Int) = yc at *
  have hb00 : Below w.heap.size w w := Below.refl _ _
  go_enter Tryz.func4, Tryz.ntmps4
  go_upto_region 1 with fail
  have hs := (Vs.new w [.int .u8 k, .int .u8 f, .int .u8 b, .int .u8 l, .int .u8 m, .int .u8 c] #[.int .u8 k, .int .u8 f, .int .u8 b, .int .u8 l, .int .u8 m, .int .u8 c] 23 rfl).alloc (.cells #[.int .u64 e0, .int .u64 e1] 36)
  have hee := V2.new (w.alloc (.cells #[.int .u8 k, .int .u8 f, .int .u8 b, .int .u8 l, .int .u8 m, .int .u8 c] 23)) (.int .u64 e0) (.int .u64 e1) 36
  simp only [World.size_alloc] at hee
  have hbw : Below w.heap.size w ((w.alloc (.cells #[.int .u8 k, .int .u8 f, .int .u8 b, .int .u8 l, .int .u8 m, .int .u8 c] 23)).alloc (.cells #[.int .u64 e0, .int .u64 e1] 36)) := by repeat (first | exact Below.refl _ _ | with_reducible assumption | (refine bl_alloc ?_ (Nat.le_refl _) _))
  have hszn : w.heap.size + 2 ≤ ((w.alloc (.cells #[.int .u8 k, .int .u8 f, .int .u8 b, .int .u8 l, .int .u8 m, .int .u8 c] 23)).alloc (.cells #[.int .u64 e0, .int .u64 e1] 36)).heap.size := by simp only [World.size_alloc]; omega
  generalize ((w.alloc (.cells #[.int .u8 k, .int .u8 f, .int .u8 b, .int .u8 l, .int .u8 m, .int .u8 c] 23)).alloc (.cells #[.int .u64 e0, .int .u64 e1] 36)) = w1 at hs hee hbw hszn ⊢
  clear hb00
  by_cases h40 : 40 < xs.length
  · skip
    go_wp2_with (first
      | (go_at_call 10; refine (HAW.out _ hbw).mono ?_; rintro e w2 ⟨rfl, hb2⟩; replace hbw := bl_call hbw (Nat.le_refl _) hb2; replace hs := hs.call hb2; replace hee := hee.call hb2))
    go_ret
    exact ⟨rfl, hbw⟩
  by_cases h41 : 40 < ms.length
  · skip
    go_wp2_with (first
      | (go_at_call 10; refine (HAW.out _ hbw).mono ?_; rintro e w2 ⟨rfl, hb2⟩; replace hbw := bl_call hbw (Nat.le_refl _) hb2; replace hs := hs.call hb2; replace hee := hee.call hb2))
    go_ret
    exact ⟨rfl, hbw⟩
  by_cases h42 : 40 < cs.length
  · skip
    go_wp2_with (first
      | (go_at_call 10; refine (HAW.out _ hbw).mono ?_; rintro e w2 ⟨rfl, hb2⟩; replace hbw := bl_call hbw (Nat.le_refl _) hb2; replace hs := hs.call hb2; replace hee := hee.call hb2))
    go_ret
    exact ⟨rfl, hbw⟩
  obtain ⟨⟨s0, s1, s2, s3, s4, s5⟩, ⟨s6, s7, s8, s9, s10, s11⟩, s12⟩ := hs.get6
  obtain ⟨ee0, ee1, ee2, ee3, ee4⟩ := V2.mk hee.c0 hee.c1 hee.f0 hee.f1 hee.lt
  go_upto_region 5 with (first
    | (go_at_call 10; refine (HAW.out _ hbw).mono ?_; rintro e w2 ⟨rfl, hb2⟩; replace hbw := bl_call hbw (Nat.le_refl _) hb2; replace hs := hs.call hb2; replace hee := hee.call hb2; clear s0 s1 s2 s3 s4 s5 s6 s7 s8 s9 s10 s11 s12 ee0 ee1 ee2 ee3 ee4; clear hb2; obtain ⟨⟨s0, s1, s2, s3, s4, s5⟩, ⟨s6, s7, s8, s9, s10, s11⟩, s12⟩ := hs.get6; obtain ⟨ee0, ee1, ee2, ee3, ee4⟩ := V2.mk hee.c0 hee.c1 hee.f0 hee.f1 hee.lt))
  go_upto_region 6 with (first
    | (go_at_call 11; refine (HCIR.out _).mono ?_; rintro e w3 ⟨rfl, hb3⟩; replace hbw := bl_call hbw (Nat.le_refl _) hb3; replace hs := hs.call hb3; replace hee := hee.call hb3; clear s0 s1 s2 s3 s4 s5 s6 s7 s8 s9 s10 s11 s12 ee0 ee1 ee2 ee3 ee4; clear hb3; obtain ⟨⟨s0, s1, s2, s3, s4, s5⟩, ⟨s6, s7, s8, s9, s10, s11⟩, s12⟩ := hs.get6; obtain ⟨ee0, ee1, ee2, ee3, ee4⟩ := V2.mk hee.c0 hee.c1 hee.f0 hee.f1 hee.lt))
  clear s0 s1 s2 s3 s4 s5 s6 s7 s8 s9 s10 s11 s12 ee0 ee1 ee2 ee3 ee4
  have hY := Vs.new w3 [.int .u8 yk, .int .u8 (F : Int), .int .i64 yb, .int .i64 yl, .int .i64 ym, .int .i64 yc] #[.int .u8 yk, .int .u8 (F : Int), .int .i64 yb, .int .i64 yl, .int .i64 ym, .int .i64 yc] 30 rfl
  have hbA : Below w3.heap.size w3 (w3.alloc (.cells #[.int .u8 yk, .int .u8 (F : Int), .int .i64 yb, .int .i64 yl, .int .i64 ym, .int .i64 yc] 30)) := by repeat (first | exact Below.refl _ _ | with_reducible assumption | (refine bl_alloc ?_ (Nat.le_refl _) _))
  replace hbw := bl_call hbw (Nat.le_refl _) hbA
  replace hs := hs.call hbA
  replace hee := hee.call hbA
  clear hbA
  generalize w3.alloc (.cells #[.int .u8 yk, .int .u8 (F : Int), .int .i64 yb, .int .i64 yl, .int .i64 ym, .int .i64 yc] 30) = w4 at hbw hs hee hY ⊢
  obtain ⟨⟨Y0, Y1, Y2, Y3, Y4, Y5⟩, ⟨Y6, Y7, Y8, Y9, Y10, Y11⟩, Y12⟩ := hY.get6
  go_upto_region 7 with fail
  have h40' : xs.length ≤ 60 := by omega
  have h41' : ms.length ≤ 60 := by omega
  have h42' : cs.length ≤ 60 := by omega
  clear h40 h41 h42 hs
  apply region_G2 (n := 7) (m := 8) (f := 7) ((fun gi gj wz => Below w4.heap.size w4 wz ∧ (∃ lgi : KL F, lgi.length = ni ∧ w4.heap.size ≤ gi ∧ BlkE wz gi (esK lgi)) ∧ (∃ lgj : KL F, lgj.length = nj ∧ w4.heap.size ≤ gj ∧ BlkE wz gj (esK lgj)) ∧ gi ≠ gj))
  case hm => kernel_rfl
  case hB => kernel_rfl
  case hf => rfl
  case' h =>
    refine WpG.takeD 0 (some 51) (v := ?_) rfl rfl (by kernel_rfl) (fun _ _ _ h => h) (.val rfl (fun wz hwz => ?_)) ?_
    rotate_left
    · (obtain ⟨hcz, hfz⟩ := bcell (hwz); go_simp; try (with_reducible rfl))
    simp only [Act.put, List.setIfInBounds_toArray, List.set_cons_succ, List.set_cons_zero]
    refine WpG.takeD 1 (some 52) (v := ?_) rfl rfl (by kernel_rfl) (fun _ _ _ h => h) (.val rfl (fun wz hwz => ?_)) ?_
    rotate_left
    · go_simp; try (with_reducible rfl)
    simp only [Act.put, List.setIfInBounds_toArray, List.set_cons_succ, List.set_cons_zero]
    refine WpG.takeD 3 (some 54) (v := ?_) rfl rfl (by kernel_rfl) (fun _ _ _ h => h) (.val rfl (fun wz hwz => ?_)) ?_
    rotate_left
    · (obtain ⟨hcz, hfz⟩ := bcell (hwz); go_simp; try (with_reducible rfl))
    simp only [Act.put, List.setIfInBounds_toArray, List.set_cons_succ, List.set_cons_zero]
    refine WpG.takeD 4 (some 55) (v := ?_) rfl rfl (by kernel_rfl) (fun _ _ _ h => h) (.val rfl (fun wz hwz => ?_)) ?_
    rotate_left
    · go_simp; try (with_reducible rfl)
    simp only [Act.put, List.setIfInBounds_toArray, List.set_cons_succ, List.set_cons_zero]
    refine WpG.oneD 2 (some 53) rfl rfl (by kernel_rfl) (fun q : Nat × KL F => Value.slice (some ⟨q.1, 0, none⟩) ni ni) (fun q wz => q.2.length = ni ∧ w4.heap.size ≤ q.1 ∧ BlkE wz q.1 (esK q.2)) (fun _ _ _ h hb => ⟨h.1, h.2.1, h.2.2.call hb⟩) (Fresh.call rfl (fun wz hwz => (HVEC.out _ xs wz HXS.out (bl_call hbw (Nat.le_refl _) (hwz)) h40').mono fun e w' ⟨q, h1, ⟨h2, h3, h4⟩, h5⟩ => ⟨q, h1, ⟨h2, Nat.le_trans (hwz).size h3, h4⟩, h5⟩) (fun wz hwz => by go_simp; try (with_reducible rfl))) (fun qgi w0gi hw0gi hR0gi => ?_)
    simp only [Act.put, List.setIfInBounds_toArray, List.set_cons_succ, List.set_cons_zero]
    obtain ⟨gi, lgi⟩ := qgi; dsimp only
    refine WpG.oneD 5 (some 56) rfl rfl (by kernel_rfl) (fun q : Nat × KL F => Value.slice (some ⟨q.1, 0, none⟩) nj nj) (fun q wz => q.2.length = nj ∧ gi + 1 ≤ q.1 ∧ BlkE wz q.1 (esK q.2)) (fun _ _ _ h hb => ⟨h.1, h.2.1, h.2.2.call hb⟩) (Fresh.call rfl (fun wz hwz => (HJOI.out _ ms wz HMS.out (bl_call hbw (Nat.le_refl _) (hwz.1)) h41').mono fun e w' ⟨q, h1, ⟨h2, h3, h4⟩, h5⟩ => ⟨q, h1, ⟨h2, Nat.le_trans (hwz.2).2.2.lt h3, h4⟩, h5⟩) (fun wz hwz => by go_simp; try (with_reducible rfl))) (fun qgj w0gj hw0gj hR0gj => ?_)
    simp only [Act.put, List.setIfInBounds_toArray, List.set_cons_succ, List.set_cons_zero]
    obtain ⟨gj, lgj⟩ := qgj; dsimp only
    refine WpG.takeD 6 (some 13) (v := ?_) rfl rfl (by kernel_rfl) (fun _ _ _ h => h) (.val rfl (fun wz hwz => ?_)) ?_
    rotate_left
    · go_simp; try (with_reducible rfl)
    simp only [Act.put, List.setIfInBounds_toArray, List.set_cons_succ, List.set_cons_zero]
    refine WpG.done (by kernel_rfl) (fun w5 hS => ⟨gi, gj, rfl, ?_⟩)
    · (obtain ⟨⟨h0, h1, h1', h1''⟩, h2, h2', h2''⟩ := hS; first | exact ⟨h0, ⟨_, h1, h1', h1''⟩, ⟨_, h2, by omega, h2''⟩, by omega⟩ | exact ⟨h0, ⟨_, h2, by omega, h2''⟩, ⟨_, h1, h1', h1''⟩, by omega⟩)
  intro gi gj w5 hS
  (try simp only [List.drop_succ_cons]); (try simp only [List.drop_zero]); (try simp only [Nat.reduceSub]); (try simp only [List.take_succ_cons]); (try simp only [List.take_zero])
  obtain ⟨hb5, ⟨v, hvl, hgi, hBI⟩, ⟨j, hjl, hgj, hBJ⟩, hij⟩ := hS
  clear Y0 Y1 Y2 Y3 Y4 Y5 Y6 Y7 Y8 Y9 Y10 Y11 Y12
  replace hbw := bl_call hbw (Nat.le_refl _) hb5
  replace hY := hY.call hb5
  replace hee := hee.call hb5
  have HVL := Lib.hid hvl
  have HJL := Lib.hid hjl
  have li := hBI.lt
  have lj := hBJ.lt
  clear hb5 hvl hjl HVEC HJOI HCIR HAW HXS h40'
  go_upto_region 8 with fail
  obtain ⟨⟨Y0, Y1, Y2, Y3, Y4, Y5⟩, ⟨Y6, Y7, Y8, Y9, Y10, Y11⟩, Y12⟩ := hY.get6
  refine region_G (n := 5) (m := 6) (f := 5) (by kernel_rfl) (by kernel_rfl) rfl ?_
  refine WpG.takeD 0 (some 57) (v := ?_) rfl rfl (by kernel_rfl) (fun _ _ _ h => h) (.val rfl (fun wz hwz => ?_)) ?_
  rotate_left
  · (obtain ⟨hcz, hfz⟩ := bcell (hwz); go_simp; try (with_reducible rfl))
  simp only [Act.put, List.setIfInBounds_toArray, List.set_cons_succ, List.set_cons_zero]
  refine WpG.takeD 1 (some 58) (v := ?_) rfl rfl (by kernel_rfl) (fun _ _ _ h => h) (.val rfl (fun wz hwz => ?_)) ?_
  rotate_left
  · go_simp; try (with_reducible rfl)
  simp only [Act.put, List.setIfInBounds_toArray, List.set_cons_succ, List.set_cons_zero]
  refine WpG.takeD 2 (some 59) (v := ?_) rfl rfl (by kernel_rfl) (fun _ _ _ h => h) (.val rfl (fun wz hwz => ?_)) ?_
  rotate_left
  · (obtain ⟨hcz, hfz⟩ := bcell (hwz); go_simp; try (with_reducible rfl))
  simp only [Act.put, List.setIfInBounds_toArray, List.set_cons_succ, List.set_cons_zero]
  refine WpG.takeD 3 (some 60) rfl rfl (by kernel_rfl) (fun _ _ _ h => h) (.call rfl (fun wz hwz => HPRF.out wz) (fun wz hwz => ?_)) ?_
  · go_simp; try (with_reducible rfl)
  simp only [Act.put, List.setIfInBounds_toArray, List.set_cons_succ, List.set_cons_zero]
  refine WpG.oneD 4 (some 61) rfl rfl (by kernel_rfl) (fun q : Nat × KL F => Value.slice (some ⟨q.1, 0, none⟩) tot tot) (fun q wz => q.2.length = tot ∧ w5.heap.size ≤ q.1 ∧ BlkE wz q.1 (esK q.2)) (fun _ _ _ h hb => ⟨h.1, h.2.1, h.2.2.call hb⟩) (Fresh.call rfl (fun wz hwz => (HSO5.out _ ms tot wz hpn HMS.out (bl_call hbw (Nat.le_refl _) (hwz)) h41').mono fun e w' ⟨q, h1, ⟨h2, h3, h4⟩, h5⟩ => ⟨q, h1, ⟨h2, Nat.le_trans (hwz).size h3, h4⟩, h5⟩) (fun wz hwz => by go_simp; try (with_reducible rfl))) (fun qp w0p hw0p hR0p => ?_)
  simp only [Act.put, List.setIfInBounds_toArray, List.set_cons_succ, List.set_cons_zero]
  obtain ⟨gp, p⟩ := qp; dsimp only
  refine WpG.done (by kernel_rfl) (fun w6 hS => ?_)
  (try simp only [List.drop_succ_cons]); (try simp only [List.drop_zero]); (try simp only [Nat.reduceSub]); (try simp only [List.take_succ_cons]); (try simp only [List.take_zero])
  obtain ⟨hb6, hpl, hgp, hBP⟩ := hS
  try dsimp only at hpl hgp hBP
  clear Y0 Y1 Y2 Y3 Y4 Y5 Y6 Y7 Y8 Y9 Y10 Y11 Y12
  replace hbw := bl_call hbw (Nat.le_refl _) hb6
  replace hY := hY.call hb6
  replace hee := hee.call hb6
  replace hBI := hBI.call hb6
  replace hBJ := hBJ.call hb6
  have HPL := Lib.hid hpl
  have lp := hBP.lt
  clear hb6 hpl HSO5 HMS h41' HPRF
  go_upto_region 9 with fail
  obtain ⟨⟨Y0, Y1, Y2, Y3, Y4, Y5⟩, ⟨Y6, Y7, Y8, Y9, Y10, Y11⟩, Y12⟩ := hY.get6
  apply region_G2 (n := 11) (m := 12) (f := 11) ((fun ga gd wz => Below w6.heap.size w6 wz ∧ (∃ lga : KL F, lga.length = ni ∧ w6.heap.size ≤ ga ∧ BlkE wz ga (esK lga)) ∧ (∃ lgd : KL F, lgd.length = tot ∧ w6.heap.size ≤ gd ∧ BlkE wz gd (esK lgd)) ∧ ga ≠ gd))
  case hm => kernel_rfl
  case hB => kernel_rfl
  case hf => rfl
  case' h =>
    refine WpG.takeD 0 (some 62) (v := ?_) rfl rfl (by kernel_rfl) (fun _ _ _ h => h) (.val rfl (fun wz hwz => ?_)) ?_
    rotate_left
    · (obtain ⟨hcz, hfz⟩ := bcell (hwz); go_simp; try (with_reducible rfl))
    simp only [Act.put, List.setIfInBounds_toArray, List.set_cons_succ, List.set_cons_zero]
    refine WpG.takeD 1 (some 63) (v := ?_) rfl rfl (by kernel_rfl) (fun _ _ _ h => h) (.val rfl (fun wz hwz => ?_)) ?_
    rotate_left
    · go_simp; try (with_reducible rfl)
    simp only [Act.put, List.setIfInBounds_toArray, List.set_cons_succ, List.set_cons_zero]
    refine WpG.takeD 2 (some 64) (v := ?_) rfl rfl (by kernel_rfl) (fun _ _ _ h => h) (.val rfl (fun wz hwz => ?_)) ?_
    rotate_left
    · go_simp; try (with_reducible rfl)
    simp only [Act.put, List.setIfInBounds_toArray, List.set_cons_succ, List.set_cons_zero]
    refine WpG.takeD 3 (some 65) (v := ?_) rfl rfl (by kernel_rfl) (fun _ _ _ h => h) (.val rfl (fun wz hwz => ?_)) ?_
    rotate_left
    · go_simp; try (with_reducible rfl)
    simp only [Act.put, List.setIfInBounds_toArray, List.set_cons_succ, List.set_cons_zero]
    refine WpG.takeD 5 (some 67) (v := ?_) rfl rfl (by kernel_rfl) (fun _ _ _ h => h) (.val rfl (fun wz hwz => ?_)) ?_
    rotate_left
    · (obtain ⟨hcz, hfz⟩ := bcell (hwz); go_simp; try (with_reducible rfl))
    simp only [Act.put, List.setIfInBounds_toArray, List.set_cons_succ, List.set_cons_zero]
    refine WpG.takeD 6 (some 68) (v := ?_) rfl rfl (by kernel_rfl) (fun _ _ _ h => h) (.val rfl (fun wz hwz => ?_)) ?_
    rotate_left
    · go_simp; try (with_reducible rfl)
    simp only [Act.put, List.setIfInBounds_toArray, List.set_cons_succ, List.set_cons_zero]
    refine WpG.takeD 7 (some 69) (v := ?_) rfl rfl (by kernel_rfl) (fun _ _ _ h => h) (.val rfl (fun wz hwz => ?_)) ?_
    rotate_left
    · go_simp; try (with_reducible rfl)
    simp only [Act.put, List.setIfInBounds_toArray, List.set_cons_succ, List.set_cons_zero]
    refine WpG.takeD 8 (some 70) (v := ?_) rfl rfl (by kernel_rfl) (fun _ _ _ h => h) (.val rfl (fun wz hwz => ?_)) ?_
    rotate_left
    · go_simp; try (with_reducible rfl)
    simp only [Act.put, List.setIfInBounds_toArray, List.set_cons_succ, List.set_cons_zero]
    refine WpG.oneD 4 (some 66) rfl rfl (by kernel_rfl) (fun q : Nat × KL F => Value.slice (some ⟨q.1, 0, none⟩) ni ni) (fun q wz => q.2.length = ni ∧ w6.heap.size ≤ q.1 ∧ BlkE wz q.1 (esK q.2)) (fun _ _ _ h hb => ⟨h.1, h.2.1, h.2.2.call hb⟩) (Fresh.call rfl (fun wz hwz => (HSO2.out _ cs ni wz hni HCS.out (bl_call hbw (Nat.le_refl _) (hwz)) h42').mono fun e w' ⟨q, h1, ⟨h2, h3, h4⟩, h5⟩ => ⟨q, h1, ⟨h2, Nat.le_trans (hwz).size h3, h4⟩, h5⟩) (fun wz hwz => by go_simp; try (with_reducible rfl))) (fun qga w0ga hw0ga hR0ga => ?_)
    simp only [Act.put, List.setIfInBounds_toArray, List.set_cons_succ, List.set_cons_zero]
    obtain ⟨ga, lga⟩ := qga; dsimp only
    refine WpG.oneD 9 (some 71) rfl rfl (by kernel_rfl) (fun q : Nat × KL F => Value.slice (some ⟨q.1, 0, none⟩) tot tot) (fun q wz => q.2.length = tot ∧ ga + 1 ≤ q.1 ∧ BlkE wz q.1 (esK q.2)) (fun _ _ _ h hb => ⟨h.1, h.2.1, h.2.2.call hb⟩) (Fresh.call rfl (fun wz hwz => (HSO3.out _ cs tot wz hpn HCS.out (bl_call hbw (Nat.le_refl _) (hwz.1)) h42').mono fun e w' ⟨q, h1, ⟨h2, h3, h4⟩, h5⟩ => ⟨q, h1, ⟨h2, Nat.le_trans (hwz.2).2.2.lt h3, h4⟩, h5⟩) (fun wz hwz => by go_simp; try (with_reducible rfl))) (fun qgd w0gd hw0gd hR0gd => ?_)
    simp only [Act.put, List.setIfInBounds_toArray, List.set_cons_succ, List.set_cons_zero]
    obtain ⟨gd, lgd⟩ := qgd; dsimp only
    refine WpG.takeD 10 (some 16) (v := ?_) rfl rfl (by kernel_rfl) (fun _ _ _ h => h) (.val rfl (fun wz hwz => ?_)) ?_
    rotate_left
    · go_simp; try (with_reducible rfl)
    simp only [Act.put, List.setIfInBounds_toArray, List.set_cons_succ, List.set_cons_zero]
    refine WpG.done (by kernel_rfl) (fun w7 hS => ⟨ga, gd, rfl, ?_⟩)
    · (obtain ⟨⟨h0, h1, h1', h1''⟩, h2, h2', h2''⟩ := hS; first | exact ⟨h0, ⟨_, h1, h1', h1''⟩, ⟨_, h2, by omega, h2''⟩, by omega⟩ | exact ⟨h0, ⟨_, h2, by omega, h2''⟩, ⟨_, h1, h1', h1''⟩, by omega⟩)
  intro ga gd w7 hS
  (try simp only [List.drop_succ_cons]); (try simp only [List.drop_zero]); (try simp only [Nat.reduceSub]); (try simp only [List.take_succ_cons]); (try simp only [List.take_zero])
  obtain ⟨hb7, ⟨a, hal, hga, hBA⟩, ⟨d, hdl, hgd, hBD⟩, had⟩ := hS
  clear Y0 Y1 Y2 Y3 Y4 Y5 Y6 Y7 Y8 Y9 Y10 Y11 Y12
  replace hbw := bl_call hbw (Nat.le_refl _) hb7
  replace hY := hY.call hb7
  replace hee := hee.call hb7
  replace hBI := hBI.call hb7
  replace hBJ := hBJ.call hb7
  replace hBP := hBP.call hb7
  have HALL := Lib.hid hal
  have HDL := Lib.hid hdl
  have la := hBA.lt
  have ld := hBD.lt
  clear hb7 hal hdl HSO2 HSO3 HCS h42'
  go_upto_region 11 with (go_at_call 22; refine (HSUB.out _ gi ga ni v a hni hBI hBA HVL.out HALL.out).mono ?_; rintro e w8 ⟨gr, rfl, hBR, hgr, hb8⟩)
  replace hbw := bl_call hbw (Nat.le_refl _) hb8
  replace hY := hY.call hb8
  replace hee := hee.call hb8
  replace hBI := hBI.call hb8
  replace hBJ := hBJ.call hb8
  replace hBP := hBP.call hb8
  replace hBA := hBA.call hb8
  replace hBD := hBD.call hb8
  have lr := hBR.lt
  clear hb8
  go_upto_region 12 with (go_at_call 22; refine (HSUB.out _ gp gd tot p d hpn hBP hBD HPL.out HDL.out).mono ?_; rintro e w9 ⟨gs, rfl, hBS, hgs, hb9⟩)
  replace hbw := bl_call hbw (Nat.le_refl _) hb9
  replace hY := hY.call hb9
  replace hee := hee.call hb9
  replace hBI := hBI.call hb9
  replace hBJ := hBJ.call hb9
  replace hBP := hBP.call hb9
  replace hBA := hBA.call hb9
  replace hBD := hBD.call hb9
  replace hBR := hBR.call hb9
  have ls := hBS.lt
  clear hb9
  obtain ⟨⟨Y0, Y1, Y2, Y3, Y4, Y5⟩, ⟨Y6, Y7, Y8, Y9, Y10, Y11⟩, Y12⟩ := hY.get6
  obtain ⟨ee0, ee1, ee2, ee3, ee4⟩ := V2.mk hee.c0 hee.c1 hee.f0 hee.f1 hee.lt
  go_upto_region 13 with (first
    | (go_at_call 23; refine (HOUT.out _ hbw).mono ?_; rintro e w10 ⟨rfl, hb10⟩; replace hbw := bl_call hbw (Nat.le_refl _) hb10; replace hY := hY.call hb10; replace hee := hee.call hb10; replace hBI := hBI.call hb10; replace hBJ := hBJ.call hb10; replace hBP := hBP.call hb10; replace hBA := hBA.call hb10; replace hBD := hBD.call hb10; replace hBR := hBR.call hb10; replace hBS := hBS.call hb10; clear Y0 Y1 Y2 Y3 Y4 Y5 Y6 Y7 Y8 Y9 Y10 Y11 Y12 ee0 ee1 ee2 ee3 ee4; clear hb10; obtain ⟨⟨Y0, Y1, Y2, Y3, Y4, Y5⟩, ⟨Y6, Y7, Y8, Y9, Y10, Y11⟩, Y12⟩ := hY.get6; obtain ⟨ee0, ee1, ee2, ee3, ee4⟩ := V2.mk hee.c0 hee.c1 hee.f0 hee.f1 hee.lt))
  clear Y0 Y1 Y2 Y3 Y4 Y5 Y6 Y7 Y8 Y9 Y10 Y11 Y12 ee0 ee1 ee2 ee3 ee4
  have hpt := V2.new w10 (.int .u64 (lo x)) (.int .u64 (hi x)) 36
  have hbA : Below w10.heap.size w10 (w10.alloc (.cells #[.int .u64 (lo x), .int .u64 (hi x)] 36)) := by repeat (first | exact Below.refl _ _ | with_reducible assumption | (refine bl_alloc ?_ (Nat.le_refl _) _))
  replace hbw := bl_call hbw (Nat.le_refl _) hbA
  replace hY := hY.call hbA
  replace hee := hee.call hbA
  replace hBI := hBI.call hbA
  replace hBJ := hBJ.call hbA
  replace hBP := hBP.call hbA
  replace hBA := hBA.call hbA
  replace hBD := hBD.call hbA
  replace hBR := hBR.call hbA
  replace hBS := hBS.call hbA
  clear hbA
  generalize w10.alloc (.cells #[.int .u64 (lo x), .int .u64 (hi x)] 36) = w11 at hbw hY hee hBI hBJ hBP hBA hBD hBR hBS hpt ⊢
  have n1 : gi ≠ gp := by omega
  have n2' : gj ≠ gp := by omega
  have n3 : ga ≠ gd := had
  have n4 : gj ≠ gd := by omega
  have n5 : gr ≠ gs := by omega
  have n6 : gj ≠ gs := by omega
  clear hgi hgj hij li lj lp hgp hga hgd had la ld hgr lr hgs ls HOUT HSUB hee
  rcases HX.out with hx1 | hx1
  · have hdx : decide (Fm.kpow x (2 ^ L) = 1) = true := decide_eq_true hx1
    have HQ1 : Hid (∀ (wz : World) (gv gp gj : Nat) (v p j : KL F), Below w.heap.size w wz → gv ≠ gp → gj ≠ gp → v.length = ni → p.length = tot → j.length = nj → BlkE wz gv (esK v) → BlkE wz gp (esK p) → BlkE wz gj (esK j) →
      Calls Tryz.prog 24 #[.agg #[.int .u8 yk, .int .u8 (F : Int), .int .i64 yb, .int .i64 yl, .int .i64 ym, .int .i64 yc], .slice (some ⟨gv, 0, none⟩) ni ni, .slice (some ⟨gp, 0, none⟩) tot tot, .slice (some ⟨gj, 0, none⟩) nj nj, .agg #[.int .u64 (lo x), .int .u64 (hi x)], .int .i64 1] wz (RetE9 12 wz)) := fun wz gv gp gj v p j h => HQN.out hx1 wz 1 gv gp gj v p j (.inl rfl) h
    have HQ2 : Hid (∀ (wz : World) (gv gp gj : Nat) (v p j : KL F), Below w.heap.size w wz → gv ≠ gp → gj ≠ gp → v.length = ni → p.length = tot → j.length = nj → BlkE wz gv (esK v) → BlkE wz gp (esK p) → BlkE wz gj (esK j) →
      Calls Tryz.prog 24 #[.agg #[.int .u8 yk, .int .u8 (F : Int), .int .i64 yb, .int .i64 yl, .int .i64 ym, .int .i64 yc], .slice (some ⟨gv, 0, none⟩) ni ni, .slice (some ⟨gp, 0, none⟩) tot tot, .slice (some ⟨gj, 0, none⟩) nj nj, .agg #[.int .u64 (lo x), .int .u64 (hi x)], .int .i64 2] wz (RetE9 12 wz)) := fun wz gv gp gj v p j h => HQN.out hx1 wz 2 gv gp gj v p j (.inr rfl) h
    clear HQN HQY hx1
    obtain ⟨⟨Y0, Y1, Y2, Y3, Y4, Y5⟩, ⟨Y6, Y7, Y8, Y9, Y10, Y11⟩, Y12⟩ := hY.get6
    obtain ⟨pt0, pt1, pt2, pt3, pt4⟩ := V2.mk hpt.c0 hpt.c1 hpt.f0 hpt.f1 hpt.lt
    go_upto_region 14 with (first
      | (go_at_call 24; refine (HQ1.out _ gi gp gj v p j hbw n1 n2' HVL.out HPL.out HJL.out hBI hBP hBJ).mono ?_; rintro e w12 ⟨rfl, hb12⟩; replace hbw := bl_call hbw (Nat.le_refl _) hb12; replace hY := hY.call hb12; replace hpt := hpt.call hb12; replace hBI := hBI.call hb12; replace hBJ := hBJ.call hb12; replace hBP := hBP.call hb12; replace hBA := hBA.call hb12; replace hBD := hBD.call hb12; replace hBR := hBR.call hb12; replace hBS := hBS.call hb12; clear Y0 Y1 Y2 Y3 Y4 Y5 Y6 Y7 Y8 Y9 Y10 Y11 Y12 pt0 pt1 pt2 pt3 pt4; clear hb12; obtain ⟨⟨Y0, Y1, Y2, Y3, Y4, Y5⟩, ⟨Y6, Y7, Y8, Y9, Y10, Y11⟩, Y12⟩ := hY.get6; obtain ⟨pt0, pt1, pt2, pt3, pt4⟩ := V2.mk hpt.c0 hpt.c1 hpt.f0 hpt.f1 hpt.lt))
    go_upto_region 15 with (first
      | (go_at_call 24; refine (HQ2.out _ ga gd gj a d j hbw n3 n4 HALL.out HDL.out HJL.out hBA hBD hBJ).mono ?_; rintro e w13 ⟨rfl, hb13⟩; replace hbw := bl_call hbw (Nat.le_refl _) hb13; replace hY := hY.call hb13; replace hpt := hpt.call hb13; replace hBI := hBI.call hb13; replace hBJ := hBJ.call hb13; replace hBP := hBP.call hb13; replace hBA := hBA.call hb13; replace hBD := hBD.call hb13; replace hBR := hBR.call hb13; replace hBS := hBS.call hb13; clear Y0 Y1 Y2 Y3 Y4 Y5 Y6 Y7 Y8 Y9 Y10 Y11 Y12 pt0 pt1 pt2 pt3 pt4; clear hb13; obtain ⟨⟨Y0, Y1, Y2, Y3, Y4, Y5⟩, ⟨Y6, Y7, Y8, Y9, Y10, Y11⟩, Y12⟩ := hY.get6; obtain ⟨pt0, pt1, pt2, pt3, pt4⟩ := V2.mk hpt.c0 hpt.c1 hpt.f0 hpt.f1 hpt.lt))
    go_upto_region 16 with (first
      | (go_at_call 24; refine (HQ2.out _ gr gs gj _ _ j hbw n5 n6 (HSL.out v a ni HVL.out HALL.out) (HSL.out p d tot HPL.out HDL.out) HJL.out hBR hBS hBJ).mono ?_; rintro e w14 ⟨rfl, hb14⟩; replace hbw := bl_call hbw (Nat.le_refl _) hb14; replace hY := hY.call hb14; replace hpt := hpt.call hb14; replace hBI := hBI.call hb14; replace hBJ := hBJ.call hb14; replace hBP := hBP.call hb14; replace hBA := hBA.call hb14; replace hBD := hBD.call hb14; replace hBR := hBR.call hb14; replace hBS := hBS.call hb14; clear Y0 Y1 Y2 Y3 Y4 Y5 Y6 Y7 Y8 Y9 Y10 Y11 Y12 pt0 pt1 pt2 pt3 pt4; clear hb14; obtain ⟨⟨Y0, Y1, Y2, Y3, Y4, Y5⟩, ⟨Y6, Y7, Y8, Y9, Y10, Y11⟩, Y12⟩ := hY.get6; obtain ⟨pt0, pt1, pt2, pt3, pt4⟩ := V2.mk hpt.c0 hpt.c1 hpt.f0 hpt.f1 hpt.lt))
    go_wp2_with fail
    go_ret
    exact ⟨rfl, hbw⟩
  · have hdx : decide (Fm.kpow x (2 ^ L) = 1) = false := decide_eq_false hx1
    have HQ1 : Hid (∀ (wz : World) (gv gp gj : Nat) (v p j : KL F), Below w.heap.size w wz → gv ≠ gp → gj ≠ gp → v.length = ni → p.length = tot → j.length = nj → BlkE wz gv (esK v) → BlkE wz gp (esK p) → BlkE wz gj (esK j) →
      Calls Tryz.prog 24 #[.agg #[.int .u8 yk, .int .u8 (F : Int), .int .i64 yb, .int .i64 yl, .int .i64 ym, .int .i64 yc], .slice (some ⟨gv, 0, none⟩) ni ni, .slice (some ⟨gp, 0, none⟩) tot tot, .slice (some ⟨gj, 0, none⟩) nj nj, .agg #[.int .u64 (lo x), .int .u64 (hi x)], .int .i64 1] wz fun e w' =>
        ∃ q : Option Addr × Nat, e = .returned (.tuple #[.slice q.1 n2 q.2, .int .i64 0]) ∧ SlK w' w'.heap.size (.slice q.1 n2 q.2) (qryL y L v j (kinv (nK F 1)) p x) ∧ Below wz.heap.size wz w') := fun wz gv gp gj v p j h => HQY.out hx1 wz 1 gv gp gj v p j (.inl rfl) h
    have HQ2 : Hid (∀ (wz : World) (gv gp gj : Nat) (v p j : KL F), Below w.heap.size w wz → gv ≠ gp → gj ≠ gp → v.length = ni → p.length = tot → j.length = nj → BlkE wz gv (esK v) → BlkE wz gp (esK p) → BlkE wz gj (esK j) →
      Calls Tryz.prog 24 #[.agg #[.int .u8 yk, .int .u8 (F : Int), .int .i64 yb, .int .i64 yl, .int .i64 ym, .int .i64 yc], .slice (some ⟨gv, 0, none⟩) ni ni, .slice (some ⟨gp, 0, none⟩) tot tot, .slice (some ⟨gj, 0, none⟩) nj nj, .agg #[.int .u64 (lo x), .int .u64 (hi x)], .int .i64 2] wz fun e w' =>
        ∃ q : Option Addr × Nat, e = .returned (.tuple #[.slice q.1 n2 q.2, .int .i64 0]) ∧ SlK w' w'.heap.size (.slice q.1 n2 q.2) (qryL y L v j (kinv (nK F 2)) p x) ∧ Below wz.heap.size wz w') := fun wz gv gp gj v p j h => HQY.out hx1 wz 2 gv gp gj v p j (.inr rfl) h
    have HSU := Lib.hid (HSUM.out v a j p d HVL.out HALL.out HPL.out HDL.out)
    clear HQN HQY hx1 HSUM
    obtain ⟨⟨Y0, Y1, Y2, Y3, Y4, Y5⟩, ⟨Y6, Y7, Y8, Y9, Y10, Y11⟩, Y12⟩ := hY.get6
    obtain ⟨pt0, pt1, pt2, pt3, pt4⟩ := V2.mk hpt.c0 hpt.c1 hpt.f0 hpt.f1 hpt.lt
    go_upto_region 14 with (first
      | (go_at_call 24; refine (HQ1.out _ gi gp gj v p j hbw n1 n2' HVL.out HPL.out HJL.out hBI hBP hBJ).mono ?_; rintro e w12 ⟨q1, rfl, hZ1, hb12⟩; replace hbw := bl_call hbw (Nat.le_refl _) hb12; replace hY := hY.call hb12; replace hpt := hpt.call hb12; replace hBI := hBI.call hb12; replace hBJ := hBJ.call hb12; replace hBP := hBP.call hb12; replace hBA := hBA.call hb12; replace hBD := hBD.call hb12; replace hBR := hBR.call hb12; replace hBS := hBS.call hb12; clear Y0 Y1 Y2 Y3 Y4 Y5 Y6 Y7 Y8 Y9 Y10 Y11 Y12 pt0 pt1 pt2 pt3 pt4; clear hb12; obtain ⟨⟨Y0, Y1, Y2, Y3, Y4, Y5⟩, ⟨Y6, Y7, Y8, Y9, Y10, Y11⟩, Y12⟩ := hY.get6; obtain ⟨pt0, pt1, pt2, pt3, pt4⟩ := V2.mk hpt.c0 hpt.c1 hpt.f0 hpt.f1 hpt.lt))
    go_upto_region 15 with (first
      | (go_at_call 24; refine (HQ2.out _ ga gd gj a d j hbw n3 n4 HALL.out HDL.out HJL.out hBA hBD hBJ).mono ?_; rintro e w13 ⟨q2, rfl, hZ2, hb13⟩; replace hbw := bl_call hbw (Nat.le_refl _) hb13; replace hY := hY.call hb13; replace hpt := hpt.call hb13; replace hBI := hBI.call hb13; replace hBJ := hBJ.call hb13; replace hBP := hBP.call hb13; replace hBA := hBA.call hb13; replace hBD := hBD.call hb13; replace hBR := hBR.call hb13; replace hBS := hBS.call hb13; replace hZ1 := hZ1.later hb13; clear Y0 Y1 Y2 Y3 Y4 Y5 Y6 Y7 Y8 Y9 Y10 Y11 Y12 pt0 pt1 pt2 pt3 pt4; clear hb13; obtain ⟨⟨Y0, Y1, Y2, Y3, Y4, Y5⟩, ⟨Y6, Y7, Y8, Y9, Y10, Y11⟩, Y12⟩ := hY.get6; obtain ⟨pt0, pt1, pt2, pt3, pt4⟩ := V2.mk hpt.c0 hpt.c1 hpt.f0 hpt.f1 hpt.lt))
    go_upto_region 16 with (first
      | (go_at_call 24; refine (HQ2.out _ gr gs gj _ _ j hbw n5 n6 (HSL.out v a ni HVL.out HALL.out) (HSL.out p d tot HPL.out HDL.out) HJL.out hBR hBS hBJ).mono ?_; rintro e w14 ⟨q3, rfl, hZ3, hb14⟩; replace hbw := bl_call hbw (Nat.le_refl _) hb14; replace hY := hY.call hb14; replace hpt := hpt.call hb14; replace hBI := hBI.call hb14; replace hBJ := hBJ.call hb14; replace hBP := hBP.call hb14; replace hBA := hBA.call hb14; replace hBD := hBD.call hb14; replace hBR := hBR.call hb14; replace hBS := hBS.call hb14; replace hZ1 := hZ1.later hb14; replace hZ2 := hZ2.later hb14; clear Y0 Y1 Y2 Y3 Y4 Y5 Y6 Y7 Y8 Y9 Y10 Y11 Y12 pt0 pt1 pt2 pt3 pt4; clear hb14; obtain ⟨⟨Y0, Y1, Y2, Y3, Y4, Y5⟩, ⟨Y6, Y7, Y8, Y9, Y10, Y11⟩, Y12⟩ := hY.get6; obtain ⟨pt0, pt1, pt2, pt3, pt4⟩ := V2.mk hpt.c0 hpt.c1 hpt.f0 hpt.f1 hpt.lt))
    clear Y0 Y1 Y2 Y3 Y4 Y5 Y6 Y7 Y8 Y9 Y10 Y11 Y12 pt0 pt1 pt2 pt3 pt4
    obtain ⟨q1a, q1c⟩ := q1
    obtain ⟨q2a, q2c⟩ := q2
    obtain ⟨q3a, q3c⟩ := q3
    try dsimp only at hZ1 hZ2 hZ3 ⊢
    clear hBI hBJ hBP hBA hBD hBR hBS
    go_upto_region 19 with (go_at_call 25; refine (HADD.out _ _ _ _ _ (HQL.out _ _ _ _) (HQL.out _ _ _ _) hZ2 hZ3).mono ?_; rintro e w15 ⟨gz, rfl, hBZ, hgz, hb15⟩)
    replace hbw := bl_call hbw (Nat.le_refl _) hb15
    replace hZ1 := hZ1.later hb15
    rw [HSU.out] at hBZ
    have hZ4 := hBZ.slM (HQL.out _ _ _ _) (by omega)
    clear hb15 hBZ
    go_wp2_with (go_at_call 26; refine (HSAM.out _ _ _ _ hZ4 hZ1).mono ?_; rintro e w16 ⟨rfl, hb16⟩)
    replace hbw := bl_call hbw (Nat.le_refl _) hb16
    replace hZ1 := hZ1.later hb16
    go_ret
    exact ⟨rfl, hbw⟩

end Go.Proofs.YtfbfbijkkbflkaaGreatDoor
