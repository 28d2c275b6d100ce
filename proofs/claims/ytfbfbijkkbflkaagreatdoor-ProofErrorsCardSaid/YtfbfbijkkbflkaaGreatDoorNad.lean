/-
  PfE: for ProofErrors.
-/
import Derived.Test.YtfbfbijkkbflkaaGreatDoorMba
import Derived.Test.YtfbfbijkkbflkaaGreatDoorNac
namespace Go.Proofs.YtfbfbijkkbflkaaGreatDoor
open Go.RowKit Fm
set_option linter.unusedVariables false
set_option maxRecDepth 100000

/-! ### a gadget and two rows of noughts come up -/
def EsT {f : Nat} (w0 : World) (gd : Gad f) (o1 : Option (Int × Value × Int)) (o2 o3 : Option Nat) (wz : World) : Prop := Below w0.heap.size w0 wz ∧ ∀ q, o1 = some q → RepG wz wz.heap.size q.1 q.2.1 q.2.2 gd
structure EsK {f : Nat} (w0 : World) (gd : Gad f) (na nb : Nat) (o1 : Option (Int × Value × Int)) (o2 o3 : Option Nat) (wz : World) : Prop where
  t : EsT w0 gd o1 o2 o3 wz
  b : ∀ b, o2 = some b → w0.heap.size ≤ b ∧ RwK wz b (List.replicate na (0 : Fin (Pm f)))
  c : ∀ b, o3 = some b → w0.heap.size ≤ b ∧ RwK wz b (List.replicate nb (0 : Fin (Pm f)))
theorem EsT.clo {f : Nat} {w0 : World} {gd : Gad f} {o1 : Option (Int × Value × Int)} {o2 o3 : Option Nat} : Clo (EsT w0 gd o1 o2 o3) := fun _ _ h hb => ⟨bl_call h.1 (Nat.le_refl _) hb, fun q e => (h.2 q e).later hb⟩
theorem EsK.clo {f : Nat} {w0 : World} {gd : Gad f} {na nb : Nat} {o1 : Option (Int × Value × Int)} {o2 o3 : Option Nat} : Clo (EsK w0 gd na nb o1 o2 o3) := fun _ _ h hb =>
  ⟨EsT.clo _ _ h.t hb, fun b e => ⟨(h.b b e).1, (h.b b e).2.call hb⟩, fun b e => ⟨(h.c b e).1, (h.c b e).2.call hb⟩⟩
theorem EsK.start {f : Nat} (w0 : World) (gd : Gad f) (na nb : Nat) : EsK w0 gd na nb none none none w0.drew :=
  ⟨⟨(Below.refl _ _).drew, fun _ e => (by cases e)⟩, fun _ e => (by cases e), fun _ e => (by cases e)⟩
theorem EsK.mk1 {f : Nat} {w0 w w' : World} {gd : Gad f} {na nb : Nat} {o2 o3 : Option Nat} (h : EsK w0 gd na nb none o2 o3 w) (q : Int × Value × Int) (hq : RepG w' w'.heap.size q.1 q.2.1 q.2.2 gd) (hb : Below w.heap.size w w') : EsK w0 gd na nb (some q) o2 o3 w' :=
  ⟨⟨bl_call h.t.1 (Nat.le_refl _) hb, fun q' e => by injection e with e; subst e; exact hq⟩, fun b e => ⟨(h.b b e).1, (h.b b e).2.call hb⟩, fun b e => ⟨(h.c b e).1, (h.c b e).2.call hb⟩⟩
theorem EsK.mk2 {f : Nat} {w0 w : World} {gd : Gad f} {na nb : Nat} {o1 : Option (Int × Value × Int)} {o3 : Option Nat} (h : EsK w0 gd na nb o1 none o3 w) : EsK w0 gd na nb o1 (some w.heap.size) o3 (w.alloc (.cells (cellsE (List.replicate na (0, 0))).toArray 36)) := by
  have h2 := EsK.clo _ _ h ((Below.refl w.heap.size w).alloc (Nat.le_refl _) (.cells (cellsE (List.replicate na (0, 0))).toArray 36))
  refine ⟨h2.t, fun b e => ?_, h2.c⟩
  injection e with e
  subst e
  exact ⟨h.t.1.size, RwK.new w _ _ (by unfold esK; rw [List.map_replicate, eK_zero]) _⟩
theorem EsK.mk3 {f : Nat} {w0 w : World} {gd : Gad f} {na nb : Nat} {o1 : Option (Int × Value × Int)} {o2 : Option Nat} (h : EsK w0 gd na nb o1 o2 none w) : EsK w0 gd na nb o1 o2 (some w.heap.size) (w.alloc (.cells (cellsE (List.replicate nb (0, 0))).toArray 36)) := by
  have h2 := EsK.clo _ _ h ((Below.refl w.heap.size w).alloc (Nat.le_refl _) (.cells (cellsE (List.replicate nb (0, 0))).toArray 36))
  refine ⟨h2.t, h2.b, fun b e => ?_⟩
  injection e with e
  subst e
  exact ⟨h.t.1.size, RwK.new w _ _ (by unfold esK; rw [List.map_replicate, eK_zero]) _⟩
theorem RwK.rowZ {f : Nat} {w : World} {g n : Nat} (h : RwK w g (List.replicate n (0 : Fin (Pm f)))) : RowE w g 0 (List.replicate n ((0, 0) : E)) := by
  have h2 := h.row
  unfold esK at h2
  rwa [List.map_replicate, eK_zero] at h2

set_option maxHeartbeats 16000000 in
theorem walk_ProofErrors (X : Raw) (k ff b l m c x0 x1 mo : Int) (w : World) (hT : TabW w) (hx0 : 0 ≤ X.k ∧ X.k ≤ 255) (hx1 : 0 ≤ X.f ∧ X.f ≤ 255) (hk : 0 ≤ k ∧ k ≤ 255) (hf : 0 ≤ ff ∧ ff ≤ 255) (hb : 0 ≤ b ∧ b ≤ 255) (hl : 0 ≤ l ∧ l ≤ 255) (hm : 0 ≤ m ∧ m ≤ 255) (hc : 0 ≤ c ∧ c ≤ 255) (hmo : 0 ≤ mo ∧ mo ≤ 255) :
    Calls Tryz.prog 7 #[X.val, .agg #[.int .u8 k, .int .u8 ff, .int .u8 b, .int .u8 l, .int .u8 m, .int .u8 c], .agg #[.int .u64 x0, .int .u64 x1], .int .u8 mo] w fun e w' => e = .returned (.bool true) ∧ Below w.heap.size w w' := by
  obtain ⟨f, y, hF, hy, hCIR⟩ := law10_Circuit k ff b l m c hk.1 hk.2 hf.1 hf.2 hb.1 hb.2 hl.1 hl.2 hm.1 hm.2 hc.1 hc.2
  obtain ⟨n0, _, hchk, hrchk, his⟩ := raw_checks X
  have HAW : Hid (∀ wz, Below w.heap.size w wz → Calls Tryz.prog 10 #[] wz fun e w' => e = .returned (.bool true) ∧ Below wz.heap.size wz w') := fun wz h => law11_Awake wz (hT.call h)
  have HCIR := Lib.hid hCIR
  have hcl : y.calls ≤ 511 := by have := hy.calls; omega
  have hcl2 := CK.calls_le hy.ok
  have hnin := hy.nin
  have hok := hy.ok
  unfold Raw.val
  obtain ⟨xk, xf, xb, xl, xm, xc⟩ := X
  dsimp only at hx0 hx1 ⊢
  have HREF := Lib.hid (fun wz => law10_Ref xk xf xb xl xm xc hx0.1 hx0.2 hx1.1 hx1.2 wz)
  have HCK : Hid (∀ wz, Calls Tryz.prog 41 #[.agg #[.int .i64 xk, .int .i64 xf, .int .i64 xb, .int .i64 xl, .int .i64 xm, .int .i64 xc]] wz (RetC n0 wz)) := hrchk
  have HOWN : Hid (∀ wz, Calls Tryz.prog 48 #[.agg #[.int .u8 xk, .int .u8 xf, .int .i64 xb, .int .i64 xl, .int .i64 xm, .int .i64 xc]] wz (RetC n0 wz)) := hchk
  clear hCIR hchk hrchk his
  -- the circuit that may be
  have HIN : Hid (∀ wz, Calls Tryz.prog 42 #[y.val f] wz (RetI y.nin wz)) := fun wz => circuit_In f y hok wz
  have HJN : Hid (∀ wz, Calls Tryz.prog 14 #[y.val f] wz (RetI y.joint wz)) := fun wz => circuit_Joint f y hok wz
  have HGAD : Hid (∀ wz, Calls Tryz.prog 27 #[y.val f] wz (RetG2 (y.gad f) wz)) := fun wz => circuit_Gadget2 hF y hok wz
  have hal := CK.arity_le hok
  have hga := gad_arity f y
  have HARI : Hid (∀ wz (B : Nat) (k : Int) (sl : Value) (n : Int), RepG wz B k sl n (y.gad f) → Calls Tryz.prog 28 #[.agg #[.int .u8 k, sl, .int .i64 n]] wz fun e w' => e = .returned (.int .i64 (y.arity : Nat)) ∧ Below wz.heap.size wz w') := fun wz B k sl n h => by
    have h2 := gadget_Arity wz B (y.gad f) k sl n h
    rwa [hga] at h2
  have HPRF : Hid (∀ wz, Calls Tryz.prog 21 #[y.val f] wz (RetI y.proof wz)) := fun wz => circuit_Proof hF y hok hcl wz
  have HVER : Hid (∀ wz, Calls Tryz.prog 43 #[y.val f] wz (RetI (y.arity + 2) wz)) := fun wz => circuit_Verifier hF y hok wz
  obtain ⟨L, hL, hN, _⟩ := nextP_pow (y.calls + 1) (by omega)
  have HOUT : Hid (∀ wz, Below w.heap.size w wz → Calls Tryz.prog 23 #[y.val f, .agg #[.int .u64 5, .int .u64 0]] wz fun e w' => ∃ (z : Fin (Pm f)) (t : Bool), e = .returned (.tuple #[vK z, .bool t]) ∧ Below wz.heap.size wz w') := fun wz h => (law11_outside hF y hok hcl L hL hN 5 0 (by omega) (by omega) (by omega) (by omega) wz (hT.call h)).mono fun e w' h => ⟨_, _, h.1, h.2⟩
  have HPS : Hid (∀ wz vi vj (A : Option Addr) (n c : Nat), n ≠ y.arity → Calls Tryz.prog 38 #[y.val f, vi, .slice A n c, vj] wz (RetE9 9 wz)) := fun wz vi vj A n c h => prove_size hF y hok hcl vi vj A n c h wz
  have HPI : Hid (∀ wz vs (A1 : Option Addr) (n1 c1 : Nat) (A3 : Option Addr) (n3 c3 : Nat), ¬ n1 = y.nin → SlK wz wz.heap.size vs (List.replicate y.arity (0 : Fin (Pm f))) → Calls Tryz.prog 38 #[y.val f, .slice A1 n1 c1, vs, .slice A3 n3 c3] wz (RetE9 9 wz)) := fun wz vs A1 n1 c1 A3 n3 c3 h hs => prove_size_in hF y hok hcl A1 n1 c1 A3 n3 c3 (.inl h) vs _ (List.length_replicate ..) wz hs
  have HQS : Hid (∀ wz vi vj (A : Option Addr) (n c : Nat) (z : Fin (Pm f)), n ≠ y.proof → Calls Tryz.prog 24 #[y.val f, vi, .slice A n c, vj, .agg #[.int .u64 (lo z), .int .u64 (hi z)], .int .i64 2] wz (RetE9 9 wz)) := fun wz vi vj A n c z h => query_size hF y hok hcl vi vj A n c h _ _ 2 wz
  have HDS : Hid (∀ wz (A : Option Addr) (n c : Nat), n ≠ y.arity + 2 → Calls Tryz.prog 36 #[y.val f, .slice A n c] wz fun e w' => e = .returned (.tuple #[.bool false, .int .i64 9]) ∧ Below wz.heap.size wz w') := fun wz A n c h => decide_size hF y hok hcl A n c h wz
  have hjn : y.joint ≤ 512 := by cases y <;> simp only [CK.joint] <;> (try simp only [CK.calls] at hcl ⊢) <;> omega
  have hpn : y.proof ≤ 10000 := by
    have := (nextP_le (y.calls + 1)).2
    show y.arity + 2 * (nextP (y.calls + 1) - 1) + 1 ≤ _
    omega
  clear hga hN hL hcl hcl2 hok hT
  unfold CK.val at HCIR HIN HJN HGAD HPRF HVER HOUT HPS HPI HQS HDS
  generalize y.gad f = gd at *
  generalize y.nin = ni at *
  generalize y.joint = nj at *
  generalize y.arity = ar at *
  generalize y.proof = tot at *
  generalize ((y.k : Nat) : Int) = yk at *
  generalize ((y.b : Nat) : Int) = yb at *
  generalize ((y.l : Nat) : Int) = yl at *
  generalize ((y.m : Nat) : Int) = ym at *
  generalize ((y.c : Nat) : Int) = yc at *
  clear hy
  -- how many more
  obtain ⟨q9, rfl⟩ : ∃ q : Nat, mo = (q : Int) := ⟨mo.toNat, by omega⟩
  have hq9 : q9 % 4 < 4 := Nat.mod_lt _ (by omega)
  have hjd : (q9 : Int).tmod 4 = ((q9 % 4 : Nat) : Int) := by rw [Int.tmod_eq_emod_of_nonneg (by omega)]; omega
  obtain ⟨r9, hr9⟩ : ∃ r, q9 % 4 = r := ⟨_, rfl⟩
  rw [hr9] at hq9 hjd
  obtain ⟨k9, hk9⟩ : ∃ k, 1 + r9 = k := ⟨_, rfl⟩
  have hjw : IntKind.i64.wrap (r9 : Int) = (r9 : Int) := IntWalk.i64_in _ (by omega)
  have hjw2 : IntKind.i64.wrap (1 + (r9 : Int)) = (k9 : Int) := by rw [IntWalk.i64_in _ (by omega)]; omega
  have hk91 : 1 ≤ k9 := by omega
  have hk92 : k9 ≤ 4 := by omega
  have hal2 : ar ≤ 32 := hal.2
  clear hr9 hk9 hk hf hb hl hm hc hmo hal
  have hb00 : Below w.heap.size w w := Below.refl _ _
  by_cases hn0 : n0 = 0
  · subst hn0
    go_enter Tryz.func7, Tryz.ntmps7
    go_upto_region 1 with fail
    clear hb00
    have hv := ((Vs.new w [.int .u8 xk, .int .u8 xf, .int .i64 xb, .int .i64 xl, .int .i64 xm, .int .i64 xc] #[.int .u8 xk, .int .u8 xf, .int .i64 xb, .int .i64 xl, .int .i64 xm, .int .i64 xc] 30 rfl).alloc (.cells #[.int .u8 k, .int .u8 ff, .int .u8 b, .int .u8 l, .int .u8 m, .int .u8 c] 23)).alloc (.cells #[.int .u64 x0, .int .u64 x1] 36)
    have hs := (Vs.new (w.alloc (.cells #[.int .u8 xk, .int .u8 xf, .int .i64 xb, .int .i64 xl, .int .i64 xm, .int .i64 xc] 30)) [.int .u8 k, .int .u8 ff, .int .u8 b, .int .u8 l, .int .u8 m, .int .u8 c] #[.int .u8 k, .int .u8 ff, .int .u8 b, .int .u8 l, .int .u8 m, .int .u8 c] 23 rfl).alloc (.cells #[.int .u64 x0, .int .u64 x1] 36)
    have hq := V2.new ((w.alloc (.cells #[.int .u8 xk, .int .u8 xf, .int .i64 xb, .int .i64 xl, .int .i64 xm, .int .i64 xc] 30)).alloc (.cells #[.int .u8 k, .int .u8 ff, .int .u8 b, .int .u8 l, .int .u8 m, .int .u8 c] 23)) (.int .u64 x0) (.int .u64 x1) 36
    simp only [World.size_alloc] at hs hq
    have hb00 : Below w.heap.size w (((w.alloc (.cells #[.int .u8 xk, .int .u8 xf, .int .i64 xb, .int .i64 xl, .int .i64 xm, .int .i64 xc] 30)).alloc (.cells #[.int .u8 k, .int .u8 ff, .int .u8 b, .int .u8 l, .int .u8 m, .int .u8 c] 23)).alloc (.cells #[.int .u64 x0, .int .u64 x1] 36)) := by repeat (first | exact Below.refl _ _ | with_reducible assumption | (refine bl_alloc ?_ (Nat.le_refl _) _))
    have hszn : w.heap.size + 3 ≤ (((w.alloc (.cells #[.int .u8 xk, .int .u8 xf, .int .i64 xb, .int .i64 xl, .int .i64 xm, .int .i64 xc] 30)).alloc (.cells #[.int .u8 k, .int .u8 ff, .int .u8 b, .int .u8 l, .int .u8 m, .int .u8 c] 23)).alloc (.cells #[.int .u64 x0, .int .u64 x1] 36)).heap.size := by simp only [World.size_alloc]; omega
    generalize (((w.alloc (.cells #[.int .u8 xk, .int .u8 xf, .int .i64 xb, .int .i64 xl, .int .i64 xm, .int .i64 xc] 30)).alloc (.cells #[.int .u8 k, .int .u8 ff, .int .u8 b, .int .u8 l, .int .u8 m, .int .u8 c] 23)).alloc (.cells #[.int .u64 x0, .int .u64 x1] 36)) = w1 at hv hs hq hb00 hszn ⊢
    obtain ⟨⟨v0, v1, v2, v3, v4, v5⟩, ⟨v6, v7, v8, v9, v10, v11⟩, v12⟩ := hv.get6
    obtain ⟨⟨s0, s1, s2, s3, s4, s5⟩, ⟨s6, s7, s8, s9, s10, s11⟩, s12⟩ := hs.get6
    obtain ⟨q0, q1, q2, q3, q4⟩ := V2.mk hq.c0 hq.c1 hq.f0 hq.f1 hq.lt
    go_upto_region 3 with (first
      | (go_at_call 10; refine (HAW.out _ hb00).mono ?_; rintro e w2 ⟨rfl, hb2⟩; replace hb00 := bl_call hb00 (Nat.le_refl _) hb2; replace hv := hv.call hb2; replace hs := hs.call hb2; replace hq := hq.call hb2; clear v0 v1 v2 v3 v4 v5 v6 v7 v8 v9 v10 v11 v12 s0 s1 s2 s3 s4 s5 s6 s7 s8 s9 s10 s11 s12 q0 q1 q2 q3 q4; clear hb2; obtain ⟨⟨v0, v1, v2, v3, v4, v5⟩, ⟨v6, v7, v8, v9, v10, v11⟩, v12⟩ := hv.get6; obtain ⟨⟨s0, s1, s2, s3, s4, s5⟩, ⟨s6, s7, s8, s9, s10, s11⟩, s12⟩ := hs.get6; obtain ⟨q0, q1, q2, q3, q4⟩ := V2.mk hq.c0 hq.c1 hq.f0 hq.f1 hq.lt))
    go_upto_region 4 with (first
      | (go_at_call 40; refine (HREF.out _).mono ?_; rintro e w3 ⟨rfl, hb3⟩; replace hb00 := bl_call hb00 (Nat.le_refl _) hb3; replace hv := hv.call hb3; replace hs := hs.call hb3; replace hq := hq.call hb3; clear v0 v1 v2 v3 v4 v5 v6 v7 v8 v9 v10 v11 v12 s0 s1 s2 s3 s4 s5 s6 s7 s8 s9 s10 s11 s12 q0 q1 q2 q3 q4; clear hb3; obtain ⟨⟨v0, v1, v2, v3, v4, v5⟩, ⟨v6, v7, v8, v9, v10, v11⟩, v12⟩ := hv.get6; obtain ⟨⟨s0, s1, s2, s3, s4, s5⟩, ⟨s6, s7, s8, s9, s10, s11⟩, s12⟩ := hs.get6; obtain ⟨q0, q1, q2, q3, q4⟩ := V2.mk hq.c0 hq.c1 hq.f0 hq.f1 hq.lt)
      | (go_at_call 41; refine (HCK.out _).mono ?_; rintro e w4 ⟨rfl, hb4⟩; replace hb00 := bl_call hb00 (Nat.le_refl _) hb4; replace hv := hv.call hb4; replace hs := hs.call hb4; replace hq := hq.call hb4; clear v0 v1 v2 v3 v4 v5 v6 v7 v8 v9 v10 v11 v12 s0 s1 s2 s3 s4 s5 s6 s7 s8 s9 s10 s11 s12 q0 q1 q2 q3 q4; clear hb4; obtain ⟨⟨v0, v1, v2, v3, v4, v5⟩, ⟨v6, v7, v8, v9, v10, v11⟩, v12⟩ := hv.get6; obtain ⟨⟨s0, s1, s2, s3, s4, s5⟩, ⟨s6, s7, s8, s9, s10, s11⟩, s12⟩ := hs.get6; obtain ⟨q0, q1, q2, q3, q4⟩ := V2.mk hq.c0 hq.c1 hq.f0 hq.f1 hq.lt))
    go_upto_region 12 with (first
      | (go_at_call 11; refine (HCIR.out _).mono ?_; rintro e w5 ⟨rfl, hb5⟩; replace hb00 := bl_call hb00 (Nat.le_refl _) hb5; replace hv := hv.call hb5; replace hs := hs.call hb5; replace hq := hq.call hb5; clear v0 v1 v2 v3 v4 v5 v6 v7 v8 v9 v10 v11 v12 s0 s1 s2 s3 s4 s5 s6 s7 s8 s9 s10 s11 s12 q0 q1 q2 q3 q4; clear hb5; obtain ⟨⟨v0, v1, v2, v3, v4, v5⟩, ⟨v6, v7, v8, v9, v10, v11⟩, v12⟩ := hv.get6; obtain ⟨⟨s0, s1, s2, s3, s4, s5⟩, ⟨s6, s7, s8, s9, s10, s11⟩, s12⟩ := hs.get6; obtain ⟨q0, q1, q2, q3, q4⟩ := V2.mk hq.c0 hq.c1 hq.f0 hq.f1 hq.lt))
    clear v0 v1 v2 v3 v4 v5 v6 v7 v8 v9 v10 v11 v12 s0 s1 s2 s3 s4 s5 s6 s7 s8 s9 s10 s11 s12 q0 q1 q2 q3 q4
    have hy9 := Vs.new w5 [.int .u8 yk, .int .u8 (f : Int), .int .i64 yb, .int .i64 yl, .int .i64 ym, .int .i64 yc] #[.int .u8 yk, .int .u8 (f : Int), .int .i64 yb, .int .i64 yl, .int .i64 ym, .int .i64 yc] 30 rfl
    have hbA : Below w5.heap.size w5 (w5.alloc (.cells #[.int .u8 yk, .int .u8 (f : Int), .int .i64 yb, .int .i64 yl, .int .i64 ym, .int .i64 yc] 30)) := by repeat (first | exact Below.refl _ _ | with_reducible assumption | (refine bl_alloc ?_ (Nat.le_refl _) _))
    replace hb00 := bl_call hb00 (Nat.le_refl _) hbA
    replace hv := hv.call hbA
    replace hs := hs.call hbA
    replace hq := hq.call hbA
    clear hbA
    generalize w5.alloc (.cells #[.int .u8 yk, .int .u8 (f : Int), .int .i64 yb, .int .i64 yl, .int .i64 ym, .int .i64 yc] 30) = w6 at hb00 hv hs hq hy9 ⊢
    clear hv hs hq
    have hmk := make_elem ni (by omega)
    have hmk2 := make_elem nj (by omega)
    obtain ⟨⟨y90, y91, y92, y93, y94, y95⟩, ⟨y96, y97, y98, y99, y910, y911⟩, y912⟩ := hy9.get6
    apply region_G2 (n := 7) (m := 8) (f := 7) ((fun ga gj wz => Below w6.heap.size w6 wz ∧ (w6.heap.size ≤ ga ∧ RwK wz ga (List.replicate ni (0 : Fin (Pm f)))) ∧ (w6.heap.size ≤ gj ∧ RwK wz gj (List.replicate nj (0 : Fin (Pm f)))) ∧ ga ≠ gj))
    case hm => kernel_rfl
    case hB => kernel_rfl
    case hf => rfl
    case' h =>
      refine WpG.takeD 0 (some 82) (v := ?_) rfl rfl (by kernel_rfl) (fun _ _ _ h => h) (.val rfl (fun wz hwz => ?_)) ?_
      rotate_left
      · (obtain ⟨hcz, hfz⟩ := bcell (hwz); go_simp; try (with_reducible rfl))
      simp only [Act.put, List.setIfInBounds_toArray, List.set_cons_succ, List.set_cons_zero]
      refine WpG.takeD 1 (some 83) rfl rfl (by kernel_rfl) (fun _ _ _ h => h) (.call rfl (fun wz hwz => HIN.out wz) (fun wz hwz => ?_)) ?_
      · go_simp; try (with_reducible rfl)
      simp only [Act.put, List.setIfInBounds_toArray, List.set_cons_succ, List.set_cons_zero]
      refine WpG.takeD 3 (some 85) (v := ?_) rfl rfl (by kernel_rfl) (fun _ _ _ h => h) (.val rfl (fun wz hwz => ?_)) ?_
      rotate_left
      · (obtain ⟨hcz, hfz⟩ := bcell (hwz); go_simp; try (with_reducible rfl))
      simp only [Act.put, List.setIfInBounds_toArray, List.set_cons_succ, List.set_cons_zero]
      refine WpG.takeD 4 (some 86) rfl rfl (by kernel_rfl) (fun _ _ _ h => h) (.call rfl (fun wz hwz => HJN.out wz) (fun wz hwz => ?_)) ?_
      · go_simp; try (with_reducible rfl)
      simp only [Act.put, List.setIfInBounds_toArray, List.set_cons_succ, List.set_cons_zero]
      refine WpG.twoD 2 5 (some 84) (some 87) rfl rfl rfl rfl (by kernel_rfl) (fun b : Nat => Value.slice (some ⟨b, 0, none⟩) ni ni) (fun b wz => w6.heap.size ≤ b ∧ RwK wz b (List.replicate ni (0 : Fin (Pm f)))) (fun _ _ _ h hb => ⟨h.1, h.2.call hb⟩) (Fresh.slice ni ni (cellsE (List.replicate ni (0, 0))) 36 rfl (fun wz hwz => (hwz).size) (fun wz hwz => by go_simp; try (with_reducible rfl)) (R := fun b wz => RwK wz b (List.replicate ni (0 : Fin (Pm f)))) (fun wz hwz => RwK.new wz _ _ (by unfold esK; rw [List.map_replicate, eK_zero]) _)) (fun b : Nat => Value.slice (some ⟨b, 0, none⟩) nj nj) (fun b wz => w6.heap.size ≤ b ∧ RwK wz b (List.replicate nj (0 : Fin (Pm f)))) (fun _ _ _ h hb => ⟨h.1, h.2.call hb⟩) (Fresh.slice nj nj (cellsE (List.replicate nj (0, 0))) 36 rfl (fun wz hwz => (hwz).size) (fun wz hwz => by go_simp; try (with_reducible rfl)) (R := fun b wz => RwK wz b (List.replicate nj (0 : Fin (Pm f)))) (fun wz hwz => RwK.new wz _ _ (by unfold esK; rw [List.map_replicate, eK_zero]) _)) (fun ga w0ga hw0ga hR0ga => ?rg12_1a) (fun gj w0gj hw0gj hR0gj => ?rg12_1b)
      case' rg12_1a =>
        simp only [Act.put, List.setIfInBounds_toArray, List.set_cons_succ, List.set_cons_zero]
        refine WpG.takeD 6 (some 19) (v := ?_) rfl rfl (by kernel_rfl) (fun _ _ _ h => h) (.val rfl (fun wz hwz => ?_)) ?_
        rotate_left
        · go_simp; try (with_reducible rfl)
        simp only [Act.put, List.setIfInBounds_toArray, List.set_cons_succ, List.set_cons_zero]
        refine WpG.oneD 5 (some 87) rfl rfl (by kernel_rfl) (fun b : Nat => Value.slice (some ⟨b, 0, none⟩) nj nj) (fun b wz => ga + 1 ≤ b ∧ RwK wz b (List.replicate nj (0 : Fin (Pm f)))) (fun _ _ _ h hb => ⟨h.1, h.2.call hb⟩) (Fresh.slice nj nj (cellsE (List.replicate nj (0, 0))) 36 rfl (fun wz hwz => (hwz.2).2.lt) (fun wz hwz => by go_simp; try (with_reducible rfl)) (R := fun b wz => RwK wz b (List.replicate nj (0 : Fin (Pm f)))) (fun wz hwz => RwK.new wz _ _ (by unfold esK; rw [List.map_replicate, eK_zero]) _)) (fun gj w0gj hw0gj hR0gj => ?_)
        simp only [Act.put, List.setIfInBounds_toArray, List.set_cons_succ, List.set_cons_zero]
        refine WpG.done (by kernel_rfl) (fun w7 hS => ⟨ga, gj, rfl, ?_⟩)
        · (obtain ⟨⟨h1, h2, h2'⟩, h3, h3'⟩ := hS; first | exact ⟨h1, ⟨h2, h2'⟩, ⟨by omega, h3'⟩, by omega⟩ | exact ⟨h1, ⟨by omega, h3'⟩, ⟨h2, h2'⟩, by omega⟩)
      case' rg12_1b =>
        simp only [Act.put, List.setIfInBounds_toArray, List.set_cons_succ, List.set_cons_zero]
        refine WpG.oneD 2 (some 84) rfl rfl (by kernel_rfl) (fun b : Nat => Value.slice (some ⟨b, 0, none⟩) ni ni) (fun b wz => gj + 1 ≤ b ∧ RwK wz b (List.replicate ni (0 : Fin (Pm f)))) (fun _ _ _ h hb => ⟨h.1, h.2.call hb⟩) (Fresh.slice ni ni (cellsE (List.replicate ni (0, 0))) 36 rfl (fun wz hwz => (hwz.2).2.lt) (fun wz hwz => by go_simp; try (with_reducible rfl)) (R := fun b wz => RwK wz b (List.replicate ni (0 : Fin (Pm f)))) (fun wz hwz => RwK.new wz _ _ (by unfold esK; rw [List.map_replicate, eK_zero]) _)) (fun ga w0ga hw0ga hR0ga => ?_)
        simp only [Act.put, List.setIfInBounds_toArray, List.set_cons_succ, List.set_cons_zero]
        refine WpG.takeD 6 (some 19) (v := ?_) rfl rfl (by kernel_rfl) (fun _ _ _ h => h) (.val rfl (fun wz hwz => ?_)) ?_
        rotate_left
        · go_simp; try (with_reducible rfl)
        simp only [Act.put, List.setIfInBounds_toArray, List.set_cons_succ, List.set_cons_zero]
        refine WpG.done (by kernel_rfl) (fun w7 hS => ⟨ga, gj, rfl, ?_⟩)
        · (obtain ⟨⟨h1, h2, h2'⟩, h3, h3'⟩ := hS; first | exact ⟨h1, ⟨h2, h2'⟩, ⟨by omega, h3'⟩, by omega⟩ | exact ⟨h1, ⟨by omega, h3'⟩, ⟨h2, h2'⟩, by omega⟩)
    intro ga gj w7 hS
    (try simp only [List.drop_succ_cons]); (try simp only [List.drop_zero]); (try simp only [Nat.reduceSub]); (try simp only [List.take_succ_cons]); (try simp only [List.take_zero])
    obtain ⟨hb7, ⟨hga, hRA⟩, ⟨hgj, hRJ⟩, _⟩ := hS
    clear y90 y91 y92 y93 y94 y95 y96 y97 y98 y99 y910 y911 y912
    replace hb00 := bl_call hb00 (Nat.le_refl _) hb7
    replace hy9 := hy9.call hb7
    clear hb7 hmk hmk2
    have hmk := make_elem ar (by omega)
    have hmk2 := make_elem tot (by omega)
    go_upto_region 13 with fail
    have HYY := Lib.hid hy9
    apply region_Z3 (n := 9) (m := 9) (f := 9) (fun x0 x1 x2 => (EsK w7 gd ar tot) (some x0) (some x1) (some x2) ) ((EsT w7 gd) none none none) ((EsK w7 gd ar tot) none none none) ((fun _ h => h.t)) (EsK.clo) ((EsK.start w7 gd ar tot))
    case hm => kernel_rfl
    case hB => kernel_rfl
    case hf => rfl
    case' h =>
      refine WpX.takeD 0 (some 88) (v := ?_) rfl rfl (by kernel_rfl) (fun _ _ _ h => h) (.val rfl (fun wz hwz => ?_)) ?_
      rotate_left
      · (have hz := (HYY.out.call hwz.1).get6; obtain ⟨⟨z0, z1, z2, z3, z4, z5⟩, ⟨y0, y1, y2, y3, y4, y5⟩, y6⟩ := hz; go_simp; try (with_reducible rfl))
      simp only [Act.put, List.setIfInBounds_toArray, List.set_cons_succ, List.set_cons_zero]
      refine WpX.takeD 4 (some 92) (v := ?_) rfl rfl (by kernel_rfl) (fun _ _ _ h => h) (.val rfl (fun wz hwz => ?_)) ?_
      rotate_left
      · (have hz := (HYY.out.call hwz.1).get6; obtain ⟨⟨z0, z1, z2, z3, z4, z5⟩, ⟨y0, y1, y2, y3, y4, y5⟩, y6⟩ := hz; go_simp; try (with_reducible rfl))
      simp only [Act.put, List.setIfInBounds_toArray, List.set_cons_succ, List.set_cons_zero]
      refine WpX.oneD 1 (some 89) rfl rfl (by kernel_rfl) (fun q : Int × Value × Int => Value.agg #[.int .u8 q.1, q.2.1, .int .i64 q.2.2]) (fun gq => (EsT w7 gd) (some gq) none none) (fun gq => (EsK w7 gd ar tot) (some gq) none none) (Turns.call rfl (fun _ _ h => ⟨h.1, fun _ e => (by cases e)⟩) (fun _ => (fun _ h => h.t)) (fun _ => EsK.clo) (fun wz hS => (HGAD.out wz).mono fun e w' ⟨k, sl, n, he, hr, hb, hn⟩ => ⟨(k, sl, n), he, hS.mk1 (k, sl, n) hr hb⟩) (fun wz hS => by go_simp; try (with_reducible rfl))) (fun gq => ?_)
      simp only [Act.put, List.setIfInBounds_toArray, List.set_cons_succ, List.set_cons_zero]
      refine WpX.takeD 2 (some 90) rfl rfl (by kernel_rfl) (fun _ _ _ h => h) (.call rfl (fun wz hwz => HARI.out wz _ gq.1 gq.2.1 gq.2.2 (hwz.2 gq rfl)) (fun wz hwz => ?_)) ?_
      · go_simp; try (with_reducible rfl)
      simp only [Act.put, List.setIfInBounds_toArray, List.set_cons_succ, List.set_cons_zero]
      refine WpX.takeD 5 (some 93) rfl rfl (by kernel_rfl) (fun _ _ _ h => h) (.call rfl (fun wz hwz => HPRF.out wz) (fun wz hwz => ?_)) ?_
      · go_simp; try (with_reducible rfl)
      simp only [Act.put, List.setIfInBounds_toArray, List.set_cons_succ, List.set_cons_zero]
      refine WpX.twoD 3 6 (some 91) (some 94) rfl rfl rfl rfl (by kernel_rfl) (fun b : Nat => Value.slice (some ⟨b, 0, none⟩) ar ar) (fun gs => (EsT w7 gd) (some gq) (some gs) none) (fun gs => (EsK w7 gd ar tot) (some gq) (some gs) none) (Turns.val rfl (fun _ _ h => h) (fun _ => (fun _ h => h.t)) (fun _ => EsK.clo) (fun wz hS => ⟨wz.heap.size, wz.alloc (.cells (cellsE (List.replicate ar (0, 0))).toArray 36), by go_simp; try (with_reducible rfl), hS.mk2⟩)) (fun b : Nat => Value.slice (some ⟨b, 0, none⟩) tot tot) (fun gp => (EsT w7 gd) (some gq) none (some gp)) (fun gp => (EsK w7 gd ar tot) (some gq) none (some gp)) (Turns.val rfl (fun _ _ h => h) (fun _ => (fun _ h => h.t)) (fun _ => EsK.clo) (fun wz hS => ⟨wz.heap.size, wz.alloc (.cells (cellsE (List.replicate tot (0, 0))).toArray 36), by go_simp; try (with_reducible rfl), hS.mk3⟩)) (fun gs => ?rz13_3a) (fun gp => ?rz13_3b)
      case' rz13_3a =>
        simp only [Act.put, List.setIfInBounds_toArray, List.set_cons_succ, List.set_cons_zero]
        refine WpX.takeD 7 (some 21) (v := ?_) rfl rfl (by kernel_rfl) (fun _ _ _ h => h) (.val rfl (fun wz hwz => ?_)) ?_
        rotate_left
        · go_simp; try (with_reducible rfl)
        simp only [Act.put, List.setIfInBounds_toArray, List.set_cons_succ, List.set_cons_zero]
        refine WpX.oneD 6 (some 94) rfl rfl (by kernel_rfl) (fun b : Nat => Value.slice (some ⟨b, 0, none⟩) tot tot) (fun gp => (EsT w7 gd) (some gq) (some gs) (some gp)) (fun gp => (EsK w7 gd ar tot) (some gq) (some gs) (some gp)) (Turns.val rfl (fun _ _ h => h) (fun _ => (fun _ h => h.t)) (fun _ => EsK.clo) (fun wz hS => ⟨wz.heap.size, wz.alloc (.cells (cellsE (List.replicate tot (0, 0))).toArray 36), by go_simp; try (with_reducible rfl), hS.mk3⟩)) (fun gp => ?_)
        simp only [Act.put, List.setIfInBounds_toArray, List.set_cons_succ, List.set_cons_zero]
        refine WpX.takeD 8 (some 22) (v := ?_) rfl rfl (by kernel_rfl) (fun _ _ _ h => h) (.val rfl (fun wz hwz => ?_)) ?_
        rotate_left
        · go_simp; try (with_reducible rfl)
        simp only [Act.put, List.setIfInBounds_toArray, List.set_cons_succ, List.set_cons_zero]
        refine WpX.done (by kernel_rfl) (fun w8 hS => ⟨gq, gs, gp, rfl, ?_⟩)
        · exact hS
      case' rz13_3b =>
        simp only [Act.put, List.setIfInBounds_toArray, List.set_cons_succ, List.set_cons_zero]
        refine WpX.oneD 3 (some 91) rfl rfl (by kernel_rfl) (fun b : Nat => Value.slice (some ⟨b, 0, none⟩) ar ar) (fun gs => (EsT w7 gd) (some gq) (some gs) (some gp)) (fun gs => (EsK w7 gd ar tot) (some gq) (some gs) (some gp)) (Turns.val rfl (fun _ _ h => h) (fun _ => (fun _ h => h.t)) (fun _ => EsK.clo) (fun wz hS => ⟨wz.heap.size, wz.alloc (.cells (cellsE (List.replicate ar (0, 0))).toArray 36), by go_simp; try (with_reducible rfl), hS.mk2⟩)) (fun gs => ?_)
        simp only [Act.put, List.setIfInBounds_toArray, List.set_cons_succ, List.set_cons_zero]
        refine WpX.takeD 7 (some 21) (v := ?_) rfl rfl (by kernel_rfl) (fun _ _ _ h => h) (.val rfl (fun wz hwz => ?_)) ?_
        rotate_left
        · go_simp; try (with_reducible rfl)
        simp only [Act.put, List.setIfInBounds_toArray, List.set_cons_succ, List.set_cons_zero]
        refine WpX.takeD 8 (some 22) (v := ?_) rfl rfl (by kernel_rfl) (fun _ _ _ h => h) (.val rfl (fun wz hwz => ?_)) ?_
        rotate_left
        · go_simp; try (with_reducible rfl)
        simp only [Act.put, List.setIfInBounds_toArray, List.set_cons_succ, List.set_cons_zero]
        refine WpX.done (by kernel_rfl) (fun w8 hS => ⟨gq, gs, gp, rfl, ?_⟩)
        · exact hS
    intro gq gs gp w8 hS
    (try simp only [List.drop_succ_cons]); (try simp only [List.drop_zero]); (try simp only [Nat.reduceSub]); (try simp only [List.take_succ_cons]); (try simp only [List.take_zero])
    obtain ⟨⟨hb8, _⟩, hS2, hS3⟩ := hS
    obtain ⟨_, hRS⟩ := hS2 gs rfl
    obtain ⟨_, hRP⟩ := hS3 gp rfl
    clear hS2 hS3 HYY
    replace hb00 := bl_call hb00 (Nat.le_refl _) hb8
    replace hy9 := hy9.call hb8
    replace hRA := hRA.call hb8
    replace hRJ := hRJ.call hb8
    clear hb8 hmk hmk2
    have hmk := make_elem k9 (by omega)
    go_upto_region 15 with fail
    have hRL := RwK.new w8 (List.replicate k9 (0 : Fin (Pm f))) (cellsE (List.replicate k9 (0, 0))).toArray (by unfold esK; rw [List.map_replicate, eK_zero]) 36
    have hbA : Below w8.heap.size w8 (w8.alloc (.cells (cellsE (List.replicate k9 (0, 0))).toArray 36)) := (Below.refl _ _).alloc (Nat.le_refl _) _
    replace hb00 := bl_call hb00 (Nat.le_refl _) hbA
    replace hy9 := hy9.call hbA
    replace hRA := hRA.call hbA
    replace hRJ := hRJ.call hbA
    replace hRS := hRS.call hbA
    replace hRP := hRP.call hbA
    obtain ⟨gl, hgl⟩ : ∃ z, w8.heap.size = z := ⟨_, rfl⟩
    generalize w8.alloc (.cells (cellsE (List.replicate k9 (0, 0))).toArray 36) = w9 at *
    clear hbA hmk
    rw [hgl] at hRL
    simp only [hgl]
    clear hgl
    obtain ⟨⟨y90, y91, y92, y93, y94, y95⟩, ⟨y96, y97, y98, y99, y910, y911⟩, y912⟩ := hy9.get6
    go_upto_region 16 with (first
      | (go_at_call 23; refine (HOUT.out _ hb00).mono ?_; rintro e w10 ⟨zq, tq, rfl, hb10⟩; replace hb00 := bl_call hb00 (Nat.le_refl _) hb10; replace hy9 := hy9.call hb10; replace hRA := hRA.call hb10; replace hRJ := hRJ.call hb10; replace hRS := hRS.call hb10; replace hRP := hRP.call hb10; replace hRL := hRL.call hb10; clear y90 y91 y92 y93 y94 y95 y96 y97 y98 y99 y910 y911 y912; clear hb10; obtain ⟨⟨y90, y91, y92, y93, y94, y95⟩, ⟨y96, y97, y98, y99, y910, y911⟩, y912⟩ := hy9.get6))
    clear y90 y91 y92 y93 y94 y95 y96 y97 y98 y99 y910 y911 y912
    have hqq := V2.new w10 (.int .u64 (lo zq)) (.int .u64 (hi zq)) 36
    have hbA : Below w10.heap.size w10 (w10.alloc (.cells #[.int .u64 (lo zq), .int .u64 (hi zq)] 36)) := by repeat (first | exact Below.refl _ _ | with_reducible assumption | (refine bl_alloc ?_ (Nat.le_refl _) _))
    replace hb00 := bl_call hb00 (Nat.le_refl _) hbA
    replace hy9 := hy9.call hbA
    replace hRA := hRA.call hbA
    replace hRJ := hRJ.call hbA
    replace hRS := hRS.call hbA
    replace hRP := hRP.call hbA
    replace hRL := hRL.call hbA
    clear hbA
    generalize w10.alloc (.cells #[.int .u64 (lo zq), .int .u64 (hi zq)] 36) = w11 at hb00 hy9 hRA hRJ hRS hRP hRL hqq ⊢
    obtain ⟨⟨y90, y91, y92, y93, y94, y95⟩, ⟨y96, y97, y98, y99, y910, y911⟩, y912⟩ := hy9.get6
    have hne1 : ar + k9 ≠ ar := by omega
    refine region_G (n := 11) (m := 12) (f := 11) (by kernel_rfl) (by kernel_rfl) rfl ?_
    refine WpG.takeD 0 (some 107) (v := ?_) rfl rfl (by kernel_rfl) (fun _ _ _ h => h) (.val rfl (fun wz hwz => ?_)) ?_
    rotate_left
    · (obtain ⟨hcz, hfz⟩ := bcell (hwz); go_simp; try (with_reducible rfl))
    simp only [Act.put, List.setIfInBounds_toArray, List.set_cons_succ, List.set_cons_zero]
    refine WpG.takeD 1 (some 108) (v := ?_) rfl rfl (by kernel_rfl) (fun _ _ _ h => h) (.val rfl (fun wz hwz => ?_)) ?_
    rotate_left
    · go_simp; try (with_reducible rfl)
    simp only [Act.put, List.setIfInBounds_toArray, List.set_cons_succ, List.set_cons_zero]
    refine WpG.takeD 2 (some 109) (v := ?_) rfl rfl (by kernel_rfl) (fun _ _ _ h => h) (.val rfl (fun wz hwz => ?_)) ?_
    rotate_left
    · go_simp; try (with_reducible rfl)
    simp only [Act.put, List.setIfInBounds_toArray, List.set_cons_succ, List.set_cons_zero]
    refine WpG.takeD 3 (some 110) (v := ?_) rfl rfl (by kernel_rfl) (fun _ _ _ h => h) (.val rfl (fun wz hwz => ?_)) ?_
    rotate_left
    · go_simp; try (with_reducible rfl)
    simp only [Act.put, List.setIfInBounds_toArray, List.set_cons_succ, List.set_cons_zero]
    refine WpG.takeD 5 (some 112) (v := ?_) rfl rfl (by kernel_rfl) (fun _ _ _ h => h) (.val rfl (fun wz hwz => ?_)) ?_
    rotate_left
    · go_simp; try (with_reducible rfl)
    simp only [Act.put, List.setIfInBounds_toArray, List.set_cons_succ, List.set_cons_zero]
    refine WpG.oneD 4 (some 111) rfl rfl (by kernel_rfl) (fun q : Nat × Nat => Value.slice (some ⟨q.1, 0, none⟩) (ar + k9) q.2) (fun _ _ => True) (fun _ _ _ _ _ => trivial) (⟨rfl, fun wz hwz => by obtain ⟨cp, w', hr, hb⟩ := run_append_fullK gs ar k9 (List.replicate ar (0, 0)) (List.replicate k9 (0, 0)) (List.length_replicate ..) (List.length_replicate ..) hk91 (by omega) ((hRS.call (hwz)).rowZ) gl k9 ((hRL.call (hwz)).rowZ) 24; rw [exec_append (.tmp 109) (.tmp 110) rfl rfl rfl hr]; exact ⟨(wz.heap.size, cp), rfl, trivial, hb⟩⟩) (fun q w0q hw0q hR0q => ?_)
    simp only [Act.put, List.setIfInBounds_toArray, List.set_cons_succ, List.set_cons_zero]
    obtain ⟨qa, qb⟩ := q; dsimp only
    refine WpG.takeD 6 (some 113) rfl rfl (by kernel_rfl) (fun _ _ _ h => h) (.call rfl (fun wz hwz => HPS.out wz (.slice (some ⟨ga, 0, none⟩) ni ni) (.slice (some ⟨gj, 0, none⟩) nj nj) (some ⟨qa, 0, none⟩) (ar + k9) qb hne1) (fun wz hwz => ?_)) ?_
    · go_simp; try (with_reducible rfl)
    simp only [Act.put, List.setIfInBounds_toArray, List.set_cons_succ, List.set_cons_zero]
    refine WpG.takeD 7 (some 106) (v := ?_) rfl rfl (by kernel_rfl) (fun _ _ _ h => h) (.val rfl (fun wz hwz => ?_)) ?_
    rotate_left
    · go_simp; try (with_reducible rfl)
    simp only [Act.put, List.setIfInBounds_toArray, List.set_cons_succ, List.set_cons_zero]
    refine WpG.takeD 8 (some 114) (v := ?_) rfl rfl (by kernel_rfl) (fun _ _ _ h => h) (.val rfl (fun wz hwz => ?_)) ?_
    rotate_left
    · go_simp; try (with_reducible rfl)
    simp only [Act.put, List.setIfInBounds_toArray, List.set_cons_succ, List.set_cons_zero]
    refine WpG.takeD 9 (some 115) (v := ?_) rfl rfl (by kernel_rfl) (fun _ _ _ h => h) (.val rfl (fun wz hwz => ?_)) ?_
    rotate_left
    · go_simp; try (with_reducible rfl)
    simp only [Act.put, List.setIfInBounds_toArray, List.set_cons_succ, List.set_cons_zero]
    refine WpG.takeD 10 (some 26) (v := ?_) rfl rfl (by kernel_rfl) (fun _ _ _ h => h) (.val rfl (fun wz hwz => ?_)) ?_
    rotate_left
    · go_simp; try (with_reducible rfl)
    simp only [Act.put, List.setIfInBounds_toArray, List.set_cons_succ, List.set_cons_zero]
    refine WpG.done (by kernel_rfl) (fun w12 hS => ?_)
    (try simp only [List.drop_succ_cons]); (try simp only [List.drop_zero]); (try simp only [Nat.reduceSub]); (try simp only [List.take_succ_cons]); (try simp only [List.take_zero])
    clear y90 y91 y92 y93 y94 y95 y96 y97 y98 y99 y910 y911 y912
    have hb12 := hS.1
    replace hb00 := bl_call hb00 (Nat.le_refl _) hb12
    replace hy9 := hy9.call hb12
    replace hRA := hRA.call hb12
    replace hRJ := hRJ.call hb12
    replace hRS := hRS.call hb12
    replace hRP := hRP.call hb12
    replace hRL := hRL.call hb12
    replace hqq := hqq.call hb12
    clear hS hb12
    go_upto_region 17 with fail
    obtain ⟨⟨y90, y91, y92, y93, y94, y95⟩, ⟨y96, y97, y98, y99, y910, y911⟩, y912⟩ := hy9.get6
    have hne2 : ¬ ni + k9 = ni := by omega
    refine region_G (n := 11) (m := 12) (f := 11) (by kernel_rfl) (by kernel_rfl) rfl ?_
    refine WpG.takeD 0 (some 117) (v := ?_) rfl rfl (by kernel_rfl) (fun _ _ _ h => h) (.val rfl (fun wz hwz => ?_)) ?_
    rotate_left
    · (obtain ⟨hcz, hfz⟩ := bcell (hwz); go_simp; try (with_reducible rfl))
    simp only [Act.put, List.setIfInBounds_toArray, List.set_cons_succ, List.set_cons_zero]
    refine WpG.takeD 1 (some 118) (v := ?_) rfl rfl (by kernel_rfl) (fun _ _ _ h => h) (.val rfl (fun wz hwz => ?_)) ?_
    rotate_left
    · go_simp; try (with_reducible rfl)
    simp only [Act.put, List.setIfInBounds_toArray, List.set_cons_succ, List.set_cons_zero]
    refine WpG.takeD 2 (some 119) (v := ?_) rfl rfl (by kernel_rfl) (fun _ _ _ h => h) (.val rfl (fun wz hwz => ?_)) ?_
    rotate_left
    · go_simp; try (with_reducible rfl)
    simp only [Act.put, List.setIfInBounds_toArray, List.set_cons_succ, List.set_cons_zero]
    refine WpG.takeD 4 (some 121) (v := ?_) rfl rfl (by kernel_rfl) (fun _ _ _ h => h) (.val rfl (fun wz hwz => ?_)) ?_
    rotate_left
    · go_simp; try (with_reducible rfl)
    simp only [Act.put, List.setIfInBounds_toArray, List.set_cons_succ, List.set_cons_zero]
    refine WpG.takeD 5 (some 122) (v := ?_) rfl rfl (by kernel_rfl) (fun _ _ _ h => h) (.val rfl (fun wz hwz => ?_)) ?_
    rotate_left
    · go_simp; try (with_reducible rfl)
    simp only [Act.put, List.setIfInBounds_toArray, List.set_cons_succ, List.set_cons_zero]
    refine WpG.oneD 3 (some 120) rfl rfl (by kernel_rfl) (fun q : Nat × Nat => Value.slice (some ⟨q.1, 0, none⟩) (ni + k9) q.2) (fun _ _ => True) (fun _ _ _ _ _ => trivial) (⟨rfl, fun wz hwz => by obtain ⟨cp, w', hr, hb⟩ := run_append_fullK ga ni k9 (List.replicate ni (0, 0)) (List.replicate k9 (0, 0)) (List.length_replicate ..) (List.length_replicate ..) hk91 (by omega) ((hRA.call (hwz)).rowZ) gl k9 ((hRL.call (hwz)).rowZ) 24; rw [exec_append (.tmp 118) (.tmp 119) rfl rfl rfl hr]; exact ⟨(wz.heap.size, cp), rfl, trivial, hb⟩⟩) (fun q w0r hw0r hR0r => ?_)
    simp only [Act.put, List.setIfInBounds_toArray, List.set_cons_succ, List.set_cons_zero]
    obtain ⟨qa, qb⟩ := q; dsimp only
    refine WpG.takeD 6 (some 123) rfl rfl (by kernel_rfl) (fun _ _ _ h => h) (.call rfl (fun wz hwz => HPI.out wz (.slice (some ⟨gs, 0, none⟩) ar ar) (some ⟨qa, 0, none⟩) (ni + k9) qb (some ⟨gj, 0, none⟩) nj nj hne2 ((hRS.call (hwz.1)).sl (List.length_replicate ..) (Nat.le_refl _) (by omega))) (fun wz hwz => ?_)) ?_
    · go_simp; try (with_reducible rfl)
    simp only [Act.put, List.setIfInBounds_toArray, List.set_cons_succ, List.set_cons_zero]
    refine WpG.takeD 7 (some 116) (v := ?_) rfl rfl (by kernel_rfl) (fun _ _ _ h => h) (.val rfl (fun wz hwz => ?_)) ?_
    rotate_left
    · go_simp; try (with_reducible rfl)
    simp only [Act.put, List.setIfInBounds_toArray, List.set_cons_succ, List.set_cons_zero]
    refine WpG.takeD 8 (some 124) (v := ?_) rfl rfl (by kernel_rfl) (fun _ _ _ h => h) (.val rfl (fun wz hwz => ?_)) ?_
    rotate_left
    · go_simp; try (with_reducible rfl)
    simp only [Act.put, List.setIfInBounds_toArray, List.set_cons_succ, List.set_cons_zero]
    refine WpG.takeD 9 (some 125) (v := ?_) rfl rfl (by kernel_rfl) (fun _ _ _ h => h) (.val rfl (fun wz hwz => ?_)) ?_
    rotate_left
    · go_simp; try (with_reducible rfl)
    simp only [Act.put, List.setIfInBounds_toArray, List.set_cons_succ, List.set_cons_zero]
    refine WpG.takeD 10 (some 28) (v := ?_) rfl rfl (by kernel_rfl) (fun _ _ _ h => h) (.val rfl (fun wz hwz => ?_)) ?_
    rotate_left
    · go_simp; try (with_reducible rfl)
    simp only [Act.put, List.setIfInBounds_toArray, List.set_cons_succ, List.set_cons_zero]
    refine WpG.done (by kernel_rfl) (fun w13 hS => ?_)
    (try simp only [List.drop_succ_cons]); (try simp only [List.drop_zero]); (try simp only [Nat.reduceSub]); (try simp only [List.take_succ_cons]); (try simp only [List.take_zero])
    clear y90 y91 y92 y93 y94 y95 y96 y97 y98 y99 y910 y911 y912
    have hb13 := hS.1
    replace hb00 := bl_call hb00 (Nat.le_refl _) hb13
    replace hy9 := hy9.call hb13
    replace hRA := hRA.call hb13
    replace hRJ := hRJ.call hb13
    replace hRS := hRS.call hb13
    replace hRP := hRP.call hb13
    replace hRL := hRL.call hb13
    replace hqq := hqq.call hb13
    clear hS hb13
    go_upto_region 18 with fail
    obtain ⟨⟨y90, y91, y92, y93, y94, y95⟩, ⟨y96, y97, y98, y99, y910, y911⟩, y912⟩ := hy9.get6
    obtain ⟨qq0, qq1, qq2, qq3, qq4⟩ := V2.mk hqq.c0 hqq.c1 hqq.f0 hqq.f1 hqq.lt
    have hne3 : tot + k9 ≠ tot := by omega
    refine region_G (n := 12) (m := 13) (f := 12) (by kernel_rfl) (by kernel_rfl) rfl ?_
    refine WpG.takeD 0 (some 127) (v := ?_) rfl rfl (by kernel_rfl) (fun _ _ _ h => h) (.val rfl (fun wz hwz => ?_)) ?_
    rotate_left
    · (obtain ⟨hcz, hfz⟩ := bcell (hwz); go_simp; try (with_reducible rfl))
    simp only [Act.put, List.setIfInBounds_toArray, List.set_cons_succ, List.set_cons_zero]
    refine WpG.takeD 1 (some 128) (v := ?_) rfl rfl (by kernel_rfl) (fun _ _ _ h => h) (.val rfl (fun wz hwz => ?_)) ?_
    rotate_left
    · go_simp; try (with_reducible rfl)
    simp only [Act.put, List.setIfInBounds_toArray, List.set_cons_succ, List.set_cons_zero]
    refine WpG.takeD 2 (some 129) (v := ?_) rfl rfl (by kernel_rfl) (fun _ _ _ h => h) (.val rfl (fun wz hwz => ?_)) ?_
    rotate_left
    · go_simp; try (with_reducible rfl)
    simp only [Act.put, List.setIfInBounds_toArray, List.set_cons_succ, List.set_cons_zero]
    refine WpG.takeD 3 (some 130) (v := ?_) rfl rfl (by kernel_rfl) (fun _ _ _ h => h) (.val rfl (fun wz hwz => ?_)) ?_
    rotate_left
    · go_simp; try (with_reducible rfl)
    simp only [Act.put, List.setIfInBounds_toArray, List.set_cons_succ, List.set_cons_zero]
    refine WpG.takeD 5 (some 132) (v := ?_) rfl rfl (by kernel_rfl) (fun _ _ _ h => h) (.val rfl (fun wz hwz => ?_)) ?_
    rotate_left
    · go_simp; try (with_reducible rfl)
    simp only [Act.put, List.setIfInBounds_toArray, List.set_cons_succ, List.set_cons_zero]
    refine WpG.takeD 6 (some 133) (v := ?_) rfl rfl (by kernel_rfl) (fun _ _ _ h => h) (.val rfl (fun wz hwz => ?_)) ?_
    rotate_left
    · (obtain ⟨hcz, hfz⟩ := bcell (hwz); go_simp; try (with_reducible rfl))
    simp only [Act.put, List.setIfInBounds_toArray, List.set_cons_succ, List.set_cons_zero]
    refine WpG.oneD 4 (some 131) rfl rfl (by kernel_rfl) (fun q : Nat × Nat => Value.slice (some ⟨q.1, 0, none⟩) (tot + k9) q.2) (fun _ _ => True) (fun _ _ _ _ _ => trivial) (⟨rfl, fun wz hwz => by obtain ⟨cp, w', hr, hb⟩ := run_append_fullK gp tot k9 (List.replicate tot (0, 0)) (List.replicate k9 (0, 0)) (List.length_replicate ..) (List.length_replicate ..) hk91 (by omega) ((hRP.call (hwz)).rowZ) gl k9 ((hRL.call (hwz)).rowZ) 24; rw [exec_append (.tmp 129) (.tmp 130) rfl rfl rfl hr]; exact ⟨(wz.heap.size, cp), rfl, trivial, hb⟩⟩) (fun q w0s hw0s hR0s => ?_)
    simp only [Act.put, List.setIfInBounds_toArray, List.set_cons_succ, List.set_cons_zero]
    obtain ⟨qa, qb⟩ := q; dsimp only
    refine WpG.takeD 7 (some 134) rfl rfl (by kernel_rfl) (fun _ _ _ h => h) (.call rfl (fun wz hwz => HQS.out wz (.slice (some ⟨ga, 0, none⟩) ni ni) (.slice (some ⟨gj, 0, none⟩) nj nj) (some ⟨qa, 0, none⟩) (tot + k9) qb zq hne3) (fun wz hwz => ?_)) ?_
    · go_simp; try (with_reducible rfl)
    simp only [Act.put, List.setIfInBounds_toArray, List.set_cons_succ, List.set_cons_zero]
    refine WpG.takeD 8 (some 126) (v := ?_) rfl rfl (by kernel_rfl) (fun _ _ _ h => h) (.val rfl (fun wz hwz => ?_)) ?_
    rotate_left
    · go_simp; try (with_reducible rfl)
    simp only [Act.put, List.setIfInBounds_toArray, List.set_cons_succ, List.set_cons_zero]
    refine WpG.takeD 9 (some 135) (v := ?_) rfl rfl (by kernel_rfl) (fun _ _ _ h => h) (.val rfl (fun wz hwz => ?_)) ?_
    rotate_left
    · go_simp; try (with_reducible rfl)
    simp only [Act.put, List.setIfInBounds_toArray, List.set_cons_succ, List.set_cons_zero]
    refine WpG.takeD 10 (some 136) (v := ?_) rfl rfl (by kernel_rfl) (fun _ _ _ h => h) (.val rfl (fun wz hwz => ?_)) ?_
    rotate_left
    · go_simp; try (with_reducible rfl)
    simp only [Act.put, List.setIfInBounds_toArray, List.set_cons_succ, List.set_cons_zero]
    refine WpG.takeD 11 (some 30) (v := ?_) rfl rfl (by kernel_rfl) (fun _ _ _ h => h) (.val rfl (fun wz hwz => ?_)) ?_
    rotate_left
    · go_simp; try (with_reducible rfl)
    simp only [Act.put, List.setIfInBounds_toArray, List.set_cons_succ, List.set_cons_zero]
    refine WpG.done (by kernel_rfl) (fun w14 hS => ?_)
    (try simp only [List.drop_succ_cons]); (try simp only [List.drop_zero]); (try simp only [Nat.reduceSub]); (try simp only [List.take_succ_cons]); (try simp only [List.take_zero])
    clear y90 y91 y92 y93 y94 y95 y96 y97 y98 y99 y910 y911 y912 qq0 qq1 qq2 qq3 qq4
    have hb14 := hS.1
    replace hb00 := bl_call hb00 (Nat.le_refl _) hb14
    replace hy9 := hy9.call hb14
    replace hRA := hRA.call hb14
    replace hRJ := hRJ.call hb14
    replace hRS := hRS.call hb14
    replace hRP := hRP.call hb14
    replace hRL := hRL.call hb14
    replace hqq := hqq.call hb14
    clear hS hb14
    go_upto_region 19 with fail
    obtain ⟨v9, hv9⟩ : ∃ v, ar + 2 + k9 = v := ⟨_, rfl⟩
    have hve : (ar : Int) + 2 + (k9 : Int) = (v9 : Int) := by omega
    have hvw : IntKind.i64.wrap ((v9 : Int)) = (v9 : Int) := IntWalk.i64_in _ (by omega)
    have hmk := make_elem v9 (by omega)
    have hne4 : v9 ≠ ar + 2 := by omega
    obtain ⟨⟨y90, y91, y92, y93, y94, y95⟩, ⟨y96, y97, y98, y99, y910, y911⟩, y912⟩ := hy9.get6
    refine region_G (n := 12) (m := 13) (f := 12) (by kernel_rfl) (by kernel_rfl) rfl ?_
    refine WpG.takeD 0 (some 138) (v := ?_) rfl rfl (by kernel_rfl) (fun _ _ _ h => h) (.val rfl (fun wz hwz => ?_)) ?_
    rotate_left
    · (obtain ⟨hcz, hfz⟩ := bcell (hwz); go_simp; try (with_reducible rfl))
    simp only [Act.put, List.setIfInBounds_toArray, List.set_cons_succ, List.set_cons_zero]
    refine WpG.takeD 1 (some 139) (v := ?_) rfl rfl (by kernel_rfl) (fun _ _ _ h => h) (.val rfl (fun wz hwz => ?_)) ?_
    rotate_left
    · (obtain ⟨hcz, hfz⟩ := bcell (hwz); go_simp; try (with_reducible rfl))
    simp only [Act.put, List.setIfInBounds_toArray, List.set_cons_succ, List.set_cons_zero]
    refine WpG.takeD 2 (some 140) rfl rfl (by kernel_rfl) (fun _ _ _ h => h) (.call rfl (fun wz hwz => HVER.out wz) (fun wz hwz => ?_)) ?_
    · go_simp; try (with_reducible rfl)
    simp only [Act.put, List.setIfInBounds_toArray, List.set_cons_succ, List.set_cons_zero]
    refine WpG.takeD 3 (some 141) (v := ?_) rfl rfl (by kernel_rfl) (fun _ _ _ h => h) (.val rfl (fun wz hwz => ?_)) ?_
    rotate_left
    · go_simp; try (with_reducible rfl)
    simp only [Act.put, List.setIfInBounds_toArray, List.set_cons_succ, List.set_cons_zero]
    refine WpG.takeD 4 (some 142) (v := ?_) rfl rfl (by kernel_rfl) (fun _ _ _ h => h) (.val rfl (fun wz hwz => ?_)) ?_
    rotate_left
    · go_simp; try (with_reducible rfl)
    simp only [Act.put, List.setIfInBounds_toArray, List.set_cons_succ, List.set_cons_zero]
    refine WpG.takeD 5 (some 143) (v := ?_) rfl rfl (by kernel_rfl) (fun _ _ _ h => h) (.val rfl (fun wz hwz => ?_)) ?_
    rotate_left
    · go_simp; try (with_reducible rfl)
    simp only [Act.put, List.setIfInBounds_toArray, List.set_cons_succ, List.set_cons_zero]
    refine WpG.oneD 6 (some 144) rfl rfl (by kernel_rfl) (fun b : Nat => Value.slice (some ⟨b, 0, none⟩) v9 v9) (fun b wz => w14.heap.size ≤ b ∧ RwK wz b (List.replicate v9 (0 : Fin (Pm f)))) (fun _ _ _ h hb => ⟨h.1, h.2.call hb⟩) (Fresh.slice v9 v9 (cellsE (List.replicate v9 (0, 0))) 36 rfl (fun wz hwz => (hwz).size) (fun wz hwz => by go_simp; try (with_reducible rfl)) (R := fun b wz => RwK wz b (List.replicate v9 (0 : Fin (Pm f)))) (fun wz hwz => RwK.new wz _ _ (by unfold esK; rw [List.map_replicate, eK_zero]) _)) (fun b9 w0t hw0t hR0t => ?_)
    simp only [Act.put, List.setIfInBounds_toArray, List.set_cons_succ, List.set_cons_zero]
    refine WpG.takeD 7 (some 145) rfl rfl (by kernel_rfl) (fun _ _ _ h => h) (.call rfl (fun wz hwz => HDS.out wz (some ⟨b9, 0, none⟩) v9 v9 hne4) (fun wz hwz => ?_)) ?_
    · go_simp; try (with_reducible rfl)
    simp only [Act.put, List.setIfInBounds_toArray, List.set_cons_succ, List.set_cons_zero]
    refine WpG.takeD 8 (some 137) (v := ?_) rfl rfl (by kernel_rfl) (fun _ _ _ h => h) (.val rfl (fun wz hwz => ?_)) ?_
    rotate_left
    · go_simp; try (with_reducible rfl)
    simp only [Act.put, List.setIfInBounds_toArray, List.set_cons_succ, List.set_cons_zero]
    refine WpG.takeD 9 (some 146) (v := ?_) rfl rfl (by kernel_rfl) (fun _ _ _ h => h) (.val rfl (fun wz hwz => ?_)) ?_
    rotate_left
    · go_simp; try (with_reducible rfl)
    simp only [Act.put, List.setIfInBounds_toArray, List.set_cons_succ, List.set_cons_zero]
    refine WpG.takeD 10 (some 147) (v := ?_) rfl rfl (by kernel_rfl) (fun _ _ _ h => h) (.val rfl (fun wz hwz => ?_)) ?_
    rotate_left
    · go_simp; try (with_reducible rfl)
    simp only [Act.put, List.setIfInBounds_toArray, List.set_cons_succ, List.set_cons_zero]
    refine WpG.takeD 11 (some 32) (v := ?_) rfl rfl (by kernel_rfl) (fun _ _ _ h => h) (.val rfl (fun wz hwz => ?_)) ?_
    rotate_left
    · go_simp; try (with_reducible rfl)
    simp only [Act.put, List.setIfInBounds_toArray, List.set_cons_succ, List.set_cons_zero]
    refine WpG.done (by kernel_rfl) (fun w15 hS => ?_)
    (try simp only [List.drop_succ_cons]); (try simp only [List.drop_zero]); (try simp only [Nat.reduceSub]); (try simp only [List.take_succ_cons]); (try simp only [List.take_zero])
    clear y90 y91 y92 y93 y94 y95 y96 y97 y98 y99 y910 y911 y912
    have hb15 := hS.1
    replace hb00 := bl_call hb00 (Nat.le_refl _) hb15
    clear hS hb15
    go_wp2_with fail
    go_ret
    exact ⟨rfl, hb00⟩
  · skip
    have hn1 : (n0 == 0) = false := by simpa using hn0
    have hn2 : (n0 != 0) = true := by simpa using hn0
    have hnn : (n0 != n0) = false := by simp
    have HPN := Lib.hid (fun wz vi vs vj => prove_no xk xf xb xl xm xc n0 hn0 HOWN.out vi vs vj wz)
    have HQN := Lib.hid (fun wz vi vp vj => query_no xk xf xb xl xm xc n0 hn0 HOWN.out vi vp vj x0 x1 2 wz)
    have HDN := Lib.hid (fun wz vl => decide_no xk xf xb xl xm xc n0 hn0 HOWN.out vl wz)
    have HRN := Lib.hid (fun wz vi vj => direct_no xk xf xb xl xm xc n0 hn0 HOWN.out vi vj wz)
    clear hn0
    go_enter Tryz.func7, Tryz.ntmps7
    go_upto_region 1 with fail
    clear hb00
    have hv := ((Vs.new w [.int .u8 xk, .int .u8 xf, .int .i64 xb, .int .i64 xl, .int .i64 xm, .int .i64 xc] #[.int .u8 xk, .int .u8 xf, .int .i64 xb, .int .i64 xl, .int .i64 xm, .int .i64 xc] 30 rfl).alloc (.cells #[.int .u8 k, .int .u8 ff, .int .u8 b, .int .u8 l, .int .u8 m, .int .u8 c] 23)).alloc (.cells #[.int .u64 x0, .int .u64 x1] 36)
    have hs := (Vs.new (w.alloc (.cells #[.int .u8 xk, .int .u8 xf, .int .i64 xb, .int .i64 xl, .int .i64 xm, .int .i64 xc] 30)) [.int .u8 k, .int .u8 ff, .int .u8 b, .int .u8 l, .int .u8 m, .int .u8 c] #[.int .u8 k, .int .u8 ff, .int .u8 b, .int .u8 l, .int .u8 m, .int .u8 c] 23 rfl).alloc (.cells #[.int .u64 x0, .int .u64 x1] 36)
    have hq := V2.new ((w.alloc (.cells #[.int .u8 xk, .int .u8 xf, .int .i64 xb, .int .i64 xl, .int .i64 xm, .int .i64 xc] 30)).alloc (.cells #[.int .u8 k, .int .u8 ff, .int .u8 b, .int .u8 l, .int .u8 m, .int .u8 c] 23)) (.int .u64 x0) (.int .u64 x1) 36
    simp only [World.size_alloc] at hs hq
    have hb00 : Below w.heap.size w (((w.alloc (.cells #[.int .u8 xk, .int .u8 xf, .int .i64 xb, .int .i64 xl, .int .i64 xm, .int .i64 xc] 30)).alloc (.cells #[.int .u8 k, .int .u8 ff, .int .u8 b, .int .u8 l, .int .u8 m, .int .u8 c] 23)).alloc (.cells #[.int .u64 x0, .int .u64 x1] 36)) := by repeat (first | exact Below.refl _ _ | with_reducible assumption | (refine bl_alloc ?_ (Nat.le_refl _) _))
    have hszn : w.heap.size + 3 ≤ (((w.alloc (.cells #[.int .u8 xk, .int .u8 xf, .int .i64 xb, .int .i64 xl, .int .i64 xm, .int .i64 xc] 30)).alloc (.cells #[.int .u8 k, .int .u8 ff, .int .u8 b, .int .u8 l, .int .u8 m, .int .u8 c] 23)).alloc (.cells #[.int .u64 x0, .int .u64 x1] 36)).heap.size := by simp only [World.size_alloc]; omega
    generalize (((w.alloc (.cells #[.int .u8 xk, .int .u8 xf, .int .i64 xb, .int .i64 xl, .int .i64 xm, .int .i64 xc] 30)).alloc (.cells #[.int .u8 k, .int .u8 ff, .int .u8 b, .int .u8 l, .int .u8 m, .int .u8 c] 23)).alloc (.cells #[.int .u64 x0, .int .u64 x1] 36)) = w1 at hv hs hq hb00 hszn ⊢
    obtain ⟨⟨v0, v1, v2, v3, v4, v5⟩, ⟨v6, v7, v8, v9, v10, v11⟩, v12⟩ := hv.get6
    obtain ⟨⟨s0, s1, s2, s3, s4, s5⟩, ⟨s6, s7, s8, s9, s10, s11⟩, s12⟩ := hs.get6
    obtain ⟨q0, q1, q2, q3, q4⟩ := V2.mk hq.c0 hq.c1 hq.f0 hq.f1 hq.lt
    go_upto_region 3 with (first
      | (go_at_call 10; refine (HAW.out _ hb00).mono ?_; rintro e w2 ⟨rfl, hb2⟩; replace hb00 := bl_call hb00 (Nat.le_refl _) hb2; replace hv := hv.call hb2; replace hs := hs.call hb2; replace hq := hq.call hb2; clear v0 v1 v2 v3 v4 v5 v6 v7 v8 v9 v10 v11 v12 s0 s1 s2 s3 s4 s5 s6 s7 s8 s9 s10 s11 s12 q0 q1 q2 q3 q4; clear hb2; obtain ⟨⟨v0, v1, v2, v3, v4, v5⟩, ⟨v6, v7, v8, v9, v10, v11⟩, v12⟩ := hv.get6; obtain ⟨⟨s0, s1, s2, s3, s4, s5⟩, ⟨s6, s7, s8, s9, s10, s11⟩, s12⟩ := hs.get6; obtain ⟨q0, q1, q2, q3, q4⟩ := V2.mk hq.c0 hq.c1 hq.f0 hq.f1 hq.lt))
    go_upto_region 4 with (first
      | (go_at_call 40; refine (HREF.out _).mono ?_; rintro e w3 ⟨rfl, hb3⟩; replace hb00 := bl_call hb00 (Nat.le_refl _) hb3; replace hv := hv.call hb3; replace hs := hs.call hb3; replace hq := hq.call hb3; clear v0 v1 v2 v3 v4 v5 v6 v7 v8 v9 v10 v11 v12 s0 s1 s2 s3 s4 s5 s6 s7 s8 s9 s10 s11 s12 q0 q1 q2 q3 q4; clear hb3; obtain ⟨⟨v0, v1, v2, v3, v4, v5⟩, ⟨v6, v7, v8, v9, v10, v11⟩, v12⟩ := hv.get6; obtain ⟨⟨s0, s1, s2, s3, s4, s5⟩, ⟨s6, s7, s8, s9, s10, s11⟩, s12⟩ := hs.get6; obtain ⟨q0, q1, q2, q3, q4⟩ := V2.mk hq.c0 hq.c1 hq.f0 hq.f1 hq.lt)
      | (go_at_call 41; refine (HCK.out _).mono ?_; rintro e w4 ⟨rfl, hb4⟩; replace hb00 := bl_call hb00 (Nat.le_refl _) hb4; replace hv := hv.call hb4; replace hs := hs.call hb4; replace hq := hq.call hb4; clear v0 v1 v2 v3 v4 v5 v6 v7 v8 v9 v10 v11 v12 s0 s1 s2 s3 s4 s5 s6 s7 s8 s9 s10 s11 s12 q0 q1 q2 q3 q4; clear hb4; obtain ⟨⟨v0, v1, v2, v3, v4, v5⟩, ⟨v6, v7, v8, v9, v10, v11⟩, v12⟩ := hv.get6; obtain ⟨⟨s0, s1, s2, s3, s4, s5⟩, ⟨s6, s7, s8, s9, s10, s11⟩, s12⟩ := hs.get6; obtain ⟨q0, q1, q2, q3, q4⟩ := V2.mk hq.c0 hq.c1 hq.f0 hq.f1 hq.lt))
    go_upto_region 6 with (first
      | (go_at_call 38; refine (HPN.out _ _ _ _).mono ?_; rintro e wa ⟨rfl, hba⟩; replace hb00 := bl_call hb00 (Nat.le_refl _) hba; replace hv := hv.call hba; replace hs := hs.call hba; replace hq := hq.call hba; clear v0 v1 v2 v3 v4 v5 v6 v7 v8 v9 v10 v11 v12 s0 s1 s2 s3 s4 s5 s6 s7 s8 s9 s10 s11 s12 q0 q1 q2 q3 q4; clear hba; obtain ⟨⟨v0, v1, v2, v3, v4, v5⟩, ⟨v6, v7, v8, v9, v10, v11⟩, v12⟩ := hv.get6; obtain ⟨⟨s0, s1, s2, s3, s4, s5⟩, ⟨s6, s7, s8, s9, s10, s11⟩, s12⟩ := hs.get6; obtain ⟨q0, q1, q2, q3, q4⟩ := V2.mk hq.c0 hq.c1 hq.f0 hq.f1 hq.lt))
    go_upto_region 7 with (first
      | (go_at_call 24; refine (HQN.out _ _ _ _).mono ?_; rintro e wb ⟨rfl, hbb⟩; replace hb00 := bl_call hb00 (Nat.le_refl _) hbb; replace hv := hv.call hbb; replace hs := hs.call hbb; replace hq := hq.call hbb; clear v0 v1 v2 v3 v4 v5 v6 v7 v8 v9 v10 v11 v12 s0 s1 s2 s3 s4 s5 s6 s7 s8 s9 s10 s11 s12 q0 q1 q2 q3 q4; clear hbb; obtain ⟨⟨v0, v1, v2, v3, v4, v5⟩, ⟨v6, v7, v8, v9, v10, v11⟩, v12⟩ := hv.get6; obtain ⟨⟨s0, s1, s2, s3, s4, s5⟩, ⟨s6, s7, s8, s9, s10, s11⟩, s12⟩ := hs.get6; obtain ⟨q0, q1, q2, q3, q4⟩ := V2.mk hq.c0 hq.c1 hq.f0 hq.f1 hq.lt))
    go_upto_region 8 with (first
      | (go_at_call 36; refine (HDN.out _ _).mono ?_; rintro e wc ⟨rfl, hbc⟩; replace hb00 := bl_call hb00 (Nat.le_refl _) hbc; replace hv := hv.call hbc; replace hs := hs.call hbc; replace hq := hq.call hbc; clear v0 v1 v2 v3 v4 v5 v6 v7 v8 v9 v10 v11 v12 s0 s1 s2 s3 s4 s5 s6 s7 s8 s9 s10 s11 s12 q0 q1 q2 q3 q4; clear hbc; obtain ⟨⟨v0, v1, v2, v3, v4, v5⟩, ⟨v6, v7, v8, v9, v10, v11⟩, v12⟩ := hv.get6; obtain ⟨⟨s0, s1, s2, s3, s4, s5⟩, ⟨s6, s7, s8, s9, s10, s11⟩, s12⟩ := hs.get6; obtain ⟨q0, q1, q2, q3, q4⟩ := V2.mk hq.c0 hq.c1 hq.f0 hq.f1 hq.lt))
    go_upto_region 9 with (first
      | (go_at_call 18; refine (HRN.out _ _ _).mono ?_; rintro e wd ⟨rfl, hbd⟩; replace hb00 := bl_call hb00 (Nat.le_refl _) hbd; replace hv := hv.call hbd; replace hs := hs.call hbd; replace hq := hq.call hbd; clear v0 v1 v2 v3 v4 v5 v6 v7 v8 v9 v10 v11 v12 s0 s1 s2 s3 s4 s5 s6 s7 s8 s9 s10 s11 s12 q0 q1 q2 q3 q4; clear hbd; obtain ⟨⟨v0, v1, v2, v3, v4, v5⟩, ⟨v6, v7, v8, v9, v10, v11⟩, v12⟩ := hv.get6; obtain ⟨⟨s0, s1, s2, s3, s4, s5⟩, ⟨s6, s7, s8, s9, s10, s11⟩, s12⟩ := hs.get6; obtain ⟨q0, q1, q2, q3, q4⟩ := V2.mk hq.c0 hq.c1 hq.f0 hq.f1 hq.lt))
    clear v0 v1 v2 v3 v4 v5 v6 v7 v8 v9 v10 v11 v12 s0 s1 s2 s3 s4 s5 s6 s7 s8 s9 s10 s11 s12 q0 q1 q2 q3 q4
    have hz9 := V2.new wd (.int .u64 0) (.int .u64 0) 36
    have hbA : Below wd.heap.size wd (wd.alloc (.cells #[.int .u64 0, .int .u64 0] 36)) := by repeat (first | exact Below.refl _ _ | with_reducible assumption | (refine bl_alloc ?_ (Nat.le_refl _) _))
    replace hb00 := bl_call hb00 (Nat.le_refl _) hbA
    replace hv := hv.call hbA
    replace hs := hs.call hbA
    replace hq := hq.call hbA
    clear hbA
    generalize wd.alloc (.cells #[.int .u64 0, .int .u64 0] 36) = we at hb00 hv hs hq hz9 ⊢
    obtain ⟨⟨v0, v1, v2, v3, v4, v5⟩, ⟨v6, v7, v8, v9, v10, v11⟩, v12⟩ := hv.get6
    obtain ⟨⟨s0, s1, s2, s3, s4, s5⟩, ⟨s6, s7, s8, s9, s10, s11⟩, s12⟩ := hs.get6
    obtain ⟨q0, q1, q2, q3, q4⟩ := V2.mk hq.c0 hq.c1 hq.f0 hq.f1 hq.lt
    go_upto_region 12 with (first
      | (go_at_call 11; refine (HCIR.out _).mono ?_; rintro e w5 ⟨rfl, hb5⟩; replace hb00 := bl_call hb00 (Nat.le_refl _) hb5; replace hv := hv.call hb5; replace hs := hs.call hb5; replace hq := hq.call hb5; replace hz9 := hz9.call hb5; clear v0 v1 v2 v3 v4 v5 v6 v7 v8 v9 v10 v11 v12 s0 s1 s2 s3 s4 s5 s6 s7 s8 s9 s10 s11 s12 q0 q1 q2 q3 q4; clear hb5; obtain ⟨⟨v0, v1, v2, v3, v4, v5⟩, ⟨v6, v7, v8, v9, v10, v11⟩, v12⟩ := hv.get6; obtain ⟨⟨s0, s1, s2, s3, s4, s5⟩, ⟨s6, s7, s8, s9, s10, s11⟩, s12⟩ := hs.get6; obtain ⟨q0, q1, q2, q3, q4⟩ := V2.mk hq.c0 hq.c1 hq.f0 hq.f1 hq.lt))
    clear v0 v1 v2 v3 v4 v5 v6 v7 v8 v9 v10 v11 v12 s0 s1 s2 s3 s4 s5 s6 s7 s8 s9 s10 s11 s12 q0 q1 q2 q3 q4
    have hy9 := Vs.new w5 [.int .u8 yk, .int .u8 (f : Int), .int .i64 yb, .int .i64 yl, .int .i64 ym, .int .i64 yc] #[.int .u8 yk, .int .u8 (f : Int), .int .i64 yb, .int .i64 yl, .int .i64 ym, .int .i64 yc] 30 rfl
    have hbA : Below w5.heap.size w5 (w5.alloc (.cells #[.int .u8 yk, .int .u8 (f : Int), .int .i64 yb, .int .i64 yl, .int .i64 ym, .int .i64 yc] 30)) := by repeat (first | exact Below.refl _ _ | with_reducible assumption | (refine bl_alloc ?_ (Nat.le_refl _) _))
    replace hb00 := bl_call hb00 (Nat.le_refl _) hbA
    replace hv := hv.call hbA
    replace hs := hs.call hbA
    replace hq := hq.call hbA
    replace hz9 := hz9.call hbA
    clear hbA
    generalize w5.alloc (.cells #[.int .u8 yk, .int .u8 (f : Int), .int .i64 yb, .int .i64 yl, .int .i64 ym, .int .i64 yc] 30) = w6 at hb00 hv hs hq hz9 hy9 ⊢
    clear hv hs hq
    have hmk := make_elem ni (by omega)
    have hmk2 := make_elem nj (by omega)
    obtain ⟨⟨y90, y91, y92, y93, y94, y95⟩, ⟨y96, y97, y98, y99, y910, y911⟩, y912⟩ := hy9.get6
    apply region_G2 (n := 7) (m := 8) (f := 7) ((fun ga gj wz => Below w6.heap.size w6 wz ∧ (w6.heap.size ≤ ga ∧ RwK wz ga (List.replicate ni (0 : Fin (Pm f)))) ∧ (w6.heap.size ≤ gj ∧ RwK wz gj (List.replicate nj (0 : Fin (Pm f)))) ∧ ga ≠ gj))
    case hm => kernel_rfl
    case hB => kernel_rfl
    case hf => rfl
    case' h =>
      refine WpG.takeD 0 (some 82) (v := ?_) rfl rfl (by kernel_rfl) (fun _ _ _ h => h) (.val rfl (fun wz hwz => ?_)) ?_
      rotate_left
      · (obtain ⟨hcz, hfz⟩ := bcell (hwz); go_simp; try (with_reducible rfl))
      simp only [Act.put, List.setIfInBounds_toArray, List.set_cons_succ, List.set_cons_zero]
      refine WpG.takeD 1 (some 83) rfl rfl (by kernel_rfl) (fun _ _ _ h => h) (.call rfl (fun wz hwz => HIN.out wz) (fun wz hwz => ?_)) ?_
      · go_simp; try (with_reducible rfl)
      simp only [Act.put, List.setIfInBounds_toArray, List.set_cons_succ, List.set_cons_zero]
      refine WpG.takeD 3 (some 85) (v := ?_) rfl rfl (by kernel_rfl) (fun _ _ _ h => h) (.val rfl (fun wz hwz => ?_)) ?_
      rotate_left
      · (obtain ⟨hcz, hfz⟩ := bcell (hwz); go_simp; try (with_reducible rfl))
      simp only [Act.put, List.setIfInBounds_toArray, List.set_cons_succ, List.set_cons_zero]
      refine WpG.takeD 4 (some 86) rfl rfl (by kernel_rfl) (fun _ _ _ h => h) (.call rfl (fun wz hwz => HJN.out wz) (fun wz hwz => ?_)) ?_
      · go_simp; try (with_reducible rfl)
      simp only [Act.put, List.setIfInBounds_toArray, List.set_cons_succ, List.set_cons_zero]
      refine WpG.twoD 2 5 (some 84) (some 87) rfl rfl rfl rfl (by kernel_rfl) (fun b : Nat => Value.slice (some ⟨b, 0, none⟩) ni ni) (fun b wz => w6.heap.size ≤ b ∧ RwK wz b (List.replicate ni (0 : Fin (Pm f)))) (fun _ _ _ h hb => ⟨h.1, h.2.call hb⟩) (Fresh.slice ni ni (cellsE (List.replicate ni (0, 0))) 36 rfl (fun wz hwz => (hwz).size) (fun wz hwz => by go_simp; try (with_reducible rfl)) (R := fun b wz => RwK wz b (List.replicate ni (0 : Fin (Pm f)))) (fun wz hwz => RwK.new wz _ _ (by unfold esK; rw [List.map_replicate, eK_zero]) _)) (fun b : Nat => Value.slice (some ⟨b, 0, none⟩) nj nj) (fun b wz => w6.heap.size ≤ b ∧ RwK wz b (List.replicate nj (0 : Fin (Pm f)))) (fun _ _ _ h hb => ⟨h.1, h.2.call hb⟩) (Fresh.slice nj nj (cellsE (List.replicate nj (0, 0))) 36 rfl (fun wz hwz => (hwz).size) (fun wz hwz => by go_simp; try (with_reducible rfl)) (R := fun b wz => RwK wz b (List.replicate nj (0 : Fin (Pm f)))) (fun wz hwz => RwK.new wz _ _ (by unfold esK; rw [List.map_replicate, eK_zero]) _)) (fun ga w0ga hw0ga hR0ga => ?rg12_4a) (fun gj w0gj hw0gj hR0gj => ?rg12_4b)
      case' rg12_4a =>
        simp only [Act.put, List.setIfInBounds_toArray, List.set_cons_succ, List.set_cons_zero]
        refine WpG.takeD 6 (some 19) (v := ?_) rfl rfl (by kernel_rfl) (fun _ _ _ h => h) (.val rfl (fun wz hwz => ?_)) ?_
        rotate_left
        · go_simp; try (with_reducible rfl)
        simp only [Act.put, List.setIfInBounds_toArray, List.set_cons_succ, List.set_cons_zero]
        refine WpG.oneD 5 (some 87) rfl rfl (by kernel_rfl) (fun b : Nat => Value.slice (some ⟨b, 0, none⟩) nj nj) (fun b wz => ga + 1 ≤ b ∧ RwK wz b (List.replicate nj (0 : Fin (Pm f)))) (fun _ _ _ h hb => ⟨h.1, h.2.call hb⟩) (Fresh.slice nj nj (cellsE (List.replicate nj (0, 0))) 36 rfl (fun wz hwz => (hwz.2).2.lt) (fun wz hwz => by go_simp; try (with_reducible rfl)) (R := fun b wz => RwK wz b (List.replicate nj (0 : Fin (Pm f)))) (fun wz hwz => RwK.new wz _ _ (by unfold esK; rw [List.map_replicate, eK_zero]) _)) (fun gj w0gj hw0gj hR0gj => ?_)
        simp only [Act.put, List.setIfInBounds_toArray, List.set_cons_succ, List.set_cons_zero]
        refine WpG.done (by kernel_rfl) (fun w7 hS => ⟨ga, gj, rfl, ?_⟩)
        · (obtain ⟨⟨h1, h2, h2'⟩, h3, h3'⟩ := hS; first | exact ⟨h1, ⟨h2, h2'⟩, ⟨by omega, h3'⟩, by omega⟩ | exact ⟨h1, ⟨by omega, h3'⟩, ⟨h2, h2'⟩, by omega⟩)
      case' rg12_4b =>
        simp only [Act.put, List.setIfInBounds_toArray, List.set_cons_succ, List.set_cons_zero]
        refine WpG.oneD 2 (some 84) rfl rfl (by kernel_rfl) (fun b : Nat => Value.slice (some ⟨b, 0, none⟩) ni ni) (fun b wz => gj + 1 ≤ b ∧ RwK wz b (List.replicate ni (0 : Fin (Pm f)))) (fun _ _ _ h hb => ⟨h.1, h.2.call hb⟩) (Fresh.slice ni ni (cellsE (List.replicate ni (0, 0))) 36 rfl (fun wz hwz => (hwz.2).2.lt) (fun wz hwz => by go_simp; try (with_reducible rfl)) (R := fun b wz => RwK wz b (List.replicate ni (0 : Fin (Pm f)))) (fun wz hwz => RwK.new wz _ _ (by unfold esK; rw [List.map_replicate, eK_zero]) _)) (fun ga w0ga hw0ga hR0ga => ?_)
        simp only [Act.put, List.setIfInBounds_toArray, List.set_cons_succ, List.set_cons_zero]
        refine WpG.takeD 6 (some 19) (v := ?_) rfl rfl (by kernel_rfl) (fun _ _ _ h => h) (.val rfl (fun wz hwz => ?_)) ?_
        rotate_left
        · go_simp; try (with_reducible rfl)
        simp only [Act.put, List.setIfInBounds_toArray, List.set_cons_succ, List.set_cons_zero]
        refine WpG.done (by kernel_rfl) (fun w7 hS => ⟨ga, gj, rfl, ?_⟩)
        · (obtain ⟨⟨h1, h2, h2'⟩, h3, h3'⟩ := hS; first | exact ⟨h1, ⟨h2, h2'⟩, ⟨by omega, h3'⟩, by omega⟩ | exact ⟨h1, ⟨by omega, h3'⟩, ⟨h2, h2'⟩, by omega⟩)
    intro ga gj w7 hS
    (try simp only [List.drop_succ_cons]); (try simp only [List.drop_zero]); (try simp only [Nat.reduceSub]); (try simp only [List.take_succ_cons]); (try simp only [List.take_zero])
    obtain ⟨hb7, ⟨hga, hRA⟩, ⟨hgj, hRJ⟩, _⟩ := hS
    clear y90 y91 y92 y93 y94 y95 y96 y97 y98 y99 y910 y911 y912
    replace hb00 := bl_call hb00 (Nat.le_refl _) hb7
    replace hy9 := hy9.call hb7
    clear hb7 hmk hmk2
    have hmk := make_elem ar (by omega)
    have hmk2 := make_elem tot (by omega)
    go_upto_region 13 with fail
    have HYY := Lib.hid hy9
    apply region_Z3 (n := 9) (m := 9) (f := 9) (fun x0 x1 x2 => (EsK w7 gd ar tot) (some x0) (some x1) (some x2) ) ((EsT w7 gd) none none none) ((EsK w7 gd ar tot) none none none) ((fun _ h => h.t)) (EsK.clo) ((EsK.start w7 gd ar tot))
    case hm => kernel_rfl
    case hB => kernel_rfl
    case hf => rfl
    case' h =>
      refine WpX.takeD 0 (some 88) (v := ?_) rfl rfl (by kernel_rfl) (fun _ _ _ h => h) (.val rfl (fun wz hwz => ?_)) ?_
      rotate_left
      · (have hz := (HYY.out.call hwz.1).get6; obtain ⟨⟨z0, z1, z2, z3, z4, z5⟩, ⟨y0, y1, y2, y3, y4, y5⟩, y6⟩ := hz; go_simp; try (with_reducible rfl))
      simp only [Act.put, List.setIfInBounds_toArray, List.set_cons_succ, List.set_cons_zero]
      refine WpX.takeD 4 (some 92) (v := ?_) rfl rfl (by kernel_rfl) (fun _ _ _ h => h) (.val rfl (fun wz hwz => ?_)) ?_
      rotate_left
      · (have hz := (HYY.out.call hwz.1).get6; obtain ⟨⟨z0, z1, z2, z3, z4, z5⟩, ⟨y0, y1, y2, y3, y4, y5⟩, y6⟩ := hz; go_simp; try (with_reducible rfl))
      simp only [Act.put, List.setIfInBounds_toArray, List.set_cons_succ, List.set_cons_zero]
      refine WpX.oneD 1 (some 89) rfl rfl (by kernel_rfl) (fun q : Int × Value × Int => Value.agg #[.int .u8 q.1, q.2.1, .int .i64 q.2.2]) (fun gq => (EsT w7 gd) (some gq) none none) (fun gq => (EsK w7 gd ar tot) (some gq) none none) (Turns.call rfl (fun _ _ h => ⟨h.1, fun _ e => (by cases e)⟩) (fun _ => (fun _ h => h.t)) (fun _ => EsK.clo) (fun wz hS => (HGAD.out wz).mono fun e w' ⟨k, sl, n, he, hr, hb, hn⟩ => ⟨(k, sl, n), he, hS.mk1 (k, sl, n) hr hb⟩) (fun wz hS => by go_simp; try (with_reducible rfl))) (fun gq => ?_)
      simp only [Act.put, List.setIfInBounds_toArray, List.set_cons_succ, List.set_cons_zero]
      refine WpX.takeD 2 (some 90) rfl rfl (by kernel_rfl) (fun _ _ _ h => h) (.call rfl (fun wz hwz => HARI.out wz _ gq.1 gq.2.1 gq.2.2 (hwz.2 gq rfl)) (fun wz hwz => ?_)) ?_
      · go_simp; try (with_reducible rfl)
      simp only [Act.put, List.setIfInBounds_toArray, List.set_cons_succ, List.set_cons_zero]
      refine WpX.takeD 5 (some 93) rfl rfl (by kernel_rfl) (fun _ _ _ h => h) (.call rfl (fun wz hwz => HPRF.out wz) (fun wz hwz => ?_)) ?_
      · go_simp; try (with_reducible rfl)
      simp only [Act.put, List.setIfInBounds_toArray, List.set_cons_succ, List.set_cons_zero]
      refine WpX.twoD 3 6 (some 91) (some 94) rfl rfl rfl rfl (by kernel_rfl) (fun b : Nat => Value.slice (some ⟨b, 0, none⟩) ar ar) (fun gs => (EsT w7 gd) (some gq) (some gs) none) (fun gs => (EsK w7 gd ar tot) (some gq) (some gs) none) (Turns.val rfl (fun _ _ h => h) (fun _ => (fun _ h => h.t)) (fun _ => EsK.clo) (fun wz hS => ⟨wz.heap.size, wz.alloc (.cells (cellsE (List.replicate ar (0, 0))).toArray 36), by go_simp; try (with_reducible rfl), hS.mk2⟩)) (fun b : Nat => Value.slice (some ⟨b, 0, none⟩) tot tot) (fun gp => (EsT w7 gd) (some gq) none (some gp)) (fun gp => (EsK w7 gd ar tot) (some gq) none (some gp)) (Turns.val rfl (fun _ _ h => h) (fun _ => (fun _ h => h.t)) (fun _ => EsK.clo) (fun wz hS => ⟨wz.heap.size, wz.alloc (.cells (cellsE (List.replicate tot (0, 0))).toArray 36), by go_simp; try (with_reducible rfl), hS.mk3⟩)) (fun gs => ?rz13_6a) (fun gp => ?rz13_6b)
      case' rz13_6a =>
        simp only [Act.put, List.setIfInBounds_toArray, List.set_cons_succ, List.set_cons_zero]
        refine WpX.takeD 7 (some 21) (v := ?_) rfl rfl (by kernel_rfl) (fun _ _ _ h => h) (.val rfl (fun wz hwz => ?_)) ?_
        rotate_left
        · go_simp; try (with_reducible rfl)
        simp only [Act.put, List.setIfInBounds_toArray, List.set_cons_succ, List.set_cons_zero]
        refine WpX.oneD 6 (some 94) rfl rfl (by kernel_rfl) (fun b : Nat => Value.slice (some ⟨b, 0, none⟩) tot tot) (fun gp => (EsT w7 gd) (some gq) (some gs) (some gp)) (fun gp => (EsK w7 gd ar tot) (some gq) (some gs) (some gp)) (Turns.val rfl (fun _ _ h => h) (fun _ => (fun _ h => h.t)) (fun _ => EsK.clo) (fun wz hS => ⟨wz.heap.size, wz.alloc (.cells (cellsE (List.replicate tot (0, 0))).toArray 36), by go_simp; try (with_reducible rfl), hS.mk3⟩)) (fun gp => ?_)
        simp only [Act.put, List.setIfInBounds_toArray, List.set_cons_succ, List.set_cons_zero]
        refine WpX.takeD 8 (some 22) (v := ?_) rfl rfl (by kernel_rfl) (fun _ _ _ h => h) (.val rfl (fun wz hwz => ?_)) ?_
        rotate_left
        · go_simp; try (with_reducible rfl)
        simp only [Act.put, List.setIfInBounds_toArray, List.set_cons_succ, List.set_cons_zero]
        refine WpX.done (by kernel_rfl) (fun w8 hS => ⟨gq, gs, gp, rfl, ?_⟩)
        · exact hS
      case' rz13_6b =>
        simp only [Act.put, List.setIfInBounds_toArray, List.set_cons_succ, List.set_cons_zero]
        refine WpX.oneD 3 (some 91) rfl rfl (by kernel_rfl) (fun b : Nat => Value.slice (some ⟨b, 0, none⟩) ar ar) (fun gs => (EsT w7 gd) (some gq) (some gs) (some gp)) (fun gs => (EsK w7 gd ar tot) (some gq) (some gs) (some gp)) (Turns.val rfl (fun _ _ h => h) (fun _ => (fun _ h => h.t)) (fun _ => EsK.clo) (fun wz hS => ⟨wz.heap.size, wz.alloc (.cells (cellsE (List.replicate ar (0, 0))).toArray 36), by go_simp; try (with_reducible rfl), hS.mk2⟩)) (fun gs => ?_)
        simp only [Act.put, List.setIfInBounds_toArray, List.set_cons_succ, List.set_cons_zero]
        refine WpX.takeD 7 (some 21) (v := ?_) rfl rfl (by kernel_rfl) (fun _ _ _ h => h) (.val rfl (fun wz hwz => ?_)) ?_
        rotate_left
        · go_simp; try (with_reducible rfl)
        simp only [Act.put, List.setIfInBounds_toArray, List.set_cons_succ, List.set_cons_zero]
        refine WpX.takeD 8 (some 22) (v := ?_) rfl rfl (by kernel_rfl) (fun _ _ _ h => h) (.val rfl (fun wz hwz => ?_)) ?_
        rotate_left
        · go_simp; try (with_reducible rfl)
        simp only [Act.put, List.setIfInBounds_toArray, List.set_cons_succ, List.set_cons_zero]
        refine WpX.done (by kernel_rfl) (fun w8 hS => ⟨gq, gs, gp, rfl, ?_⟩)
        · exact hS
    intro gq gs gp w8 hS
    (try simp only [List.drop_succ_cons]); (try simp only [List.drop_zero]); (try simp only [Nat.reduceSub]); (try simp only [List.take_succ_cons]); (try simp only [List.take_zero])
    obtain ⟨⟨hb8, _⟩, hS2, hS3⟩ := hS
    obtain ⟨_, hRS⟩ := hS2 gs rfl
    obtain ⟨_, hRP⟩ := hS3 gp rfl
    clear hS2 hS3 HYY
    replace hb00 := bl_call hb00 (Nat.le_refl _) hb8
    replace hy9 := hy9.call hb8
    replace hRA := hRA.call hb8
    replace hRJ := hRJ.call hb8
    clear hb8 hmk hmk2
    have hmk := make_elem k9 (by omega)
    go_upto_region 15 with fail
    have hRL := RwK.new w8 (List.replicate k9 (0 : Fin (Pm f))) (cellsE (List.replicate k9 (0, 0))).toArray (by unfold esK; rw [List.map_replicate, eK_zero]) 36
    have hbA : Below w8.heap.size w8 (w8.alloc (.cells (cellsE (List.replicate k9 (0, 0))).toArray 36)) := (Below.refl _ _).alloc (Nat.le_refl _) _
    replace hb00 := bl_call hb00 (Nat.le_refl _) hbA
    replace hy9 := hy9.call hbA
    replace hRA := hRA.call hbA
    replace hRJ := hRJ.call hbA
    replace hRS := hRS.call hbA
    replace hRP := hRP.call hbA
    obtain ⟨gl, hgl⟩ : ∃ z, w8.heap.size = z := ⟨_, rfl⟩
    generalize w8.alloc (.cells (cellsE (List.replicate k9 (0, 0))).toArray 36) = w9 at *
    clear hbA hmk
    rw [hgl] at hRL
    simp only [hgl]
    clear hgl
    obtain ⟨⟨y90, y91, y92, y93, y94, y95⟩, ⟨y96, y97, y98, y99, y910, y911⟩, y912⟩ := hy9.get6
    go_upto_region 16 with (first
      | (go_at_call 23; refine (HOUT.out _ hb00).mono ?_; rintro e w10 ⟨zq, tq, rfl, hb10⟩; replace hb00 := bl_call hb00 (Nat.le_refl _) hb10; replace hy9 := hy9.call hb10; replace hRA := hRA.call hb10; replace hRJ := hRJ.call hb10; replace hRS := hRS.call hb10; replace hRP := hRP.call hb10; replace hRL := hRL.call hb10; clear y90 y91 y92 y93 y94 y95 y96 y97 y98 y99 y910 y911 y912; clear hb10; obtain ⟨⟨y90, y91, y92, y93, y94, y95⟩, ⟨y96, y97, y98, y99, y910, y911⟩, y912⟩ := hy9.get6))
    clear y90 y91 y92 y93 y94 y95 y96 y97 y98 y99 y910 y911 y912
    have hqq := V2.new w10 (.int .u64 (lo zq)) (.int .u64 (hi zq)) 36
    have hbA : Below w10.heap.size w10 (w10.alloc (.cells #[.int .u64 (lo zq), .int .u64 (hi zq)] 36)) := by repeat (first | exact Below.refl _ _ | with_reducible assumption | (refine bl_alloc ?_ (Nat.le_refl _) _))
    replace hb00 := bl_call hb00 (Nat.le_refl _) hbA
    replace hy9 := hy9.call hbA
    replace hRA := hRA.call hbA
    replace hRJ := hRJ.call hbA
    replace hRS := hRS.call hbA
    replace hRP := hRP.call hbA
    replace hRL := hRL.call hbA
    clear hbA
    generalize w10.alloc (.cells #[.int .u64 (lo zq), .int .u64 (hi zq)] 36) = w11 at hb00 hy9 hRA hRJ hRS hRP hRL hqq ⊢
    obtain ⟨⟨y90, y91, y92, y93, y94, y95⟩, ⟨y96, y97, y98, y99, y910, y911⟩, y912⟩ := hy9.get6
    have hne1 : ar + k9 ≠ ar := by omega
    refine region_G (n := 11) (m := 12) (f := 11) (by kernel_rfl) (by kernel_rfl) rfl ?_
    refine WpG.takeD 0 (some 107) (v := ?_) rfl rfl (by kernel_rfl) (fun _ _ _ h => h) (.val rfl (fun wz hwz => ?_)) ?_
    rotate_left
    · (obtain ⟨hcz, hfz⟩ := bcell (hwz); go_simp; try (with_reducible rfl))
    simp only [Act.put, List.setIfInBounds_toArray, List.set_cons_succ, List.set_cons_zero]
    refine WpG.takeD 1 (some 108) (v := ?_) rfl rfl (by kernel_rfl) (fun _ _ _ h => h) (.val rfl (fun wz hwz => ?_)) ?_
    rotate_left
    · go_simp; try (with_reducible rfl)
    simp only [Act.put, List.setIfInBounds_toArray, List.set_cons_succ, List.set_cons_zero]
    refine WpG.takeD 2 (some 109) (v := ?_) rfl rfl (by kernel_rfl) (fun _ _ _ h => h) (.val rfl (fun wz hwz => ?_)) ?_
    rotate_left
    · go_simp; try (with_reducible rfl)
    simp only [Act.put, List.setIfInBounds_toArray, List.set_cons_succ, List.set_cons_zero]
    refine WpG.takeD 3 (some 110) (v := ?_) rfl rfl (by kernel_rfl) (fun _ _ _ h => h) (.val rfl (fun wz hwz => ?_)) ?_
    rotate_left
    · go_simp; try (with_reducible rfl)
    simp only [Act.put, List.setIfInBounds_toArray, List.set_cons_succ, List.set_cons_zero]
    refine WpG.takeD 5 (some 112) (v := ?_) rfl rfl (by kernel_rfl) (fun _ _ _ h => h) (.val rfl (fun wz hwz => ?_)) ?_
    rotate_left
    · go_simp; try (with_reducible rfl)
    simp only [Act.put, List.setIfInBounds_toArray, List.set_cons_succ, List.set_cons_zero]
    refine WpG.oneD 4 (some 111) rfl rfl (by kernel_rfl) (fun q : Nat × Nat => Value.slice (some ⟨q.1, 0, none⟩) (ar + k9) q.2) (fun _ _ => True) (fun _ _ _ _ _ => trivial) (⟨rfl, fun wz hwz => by obtain ⟨cp, w', hr, hb⟩ := run_append_fullK gs ar k9 (List.replicate ar (0, 0)) (List.replicate k9 (0, 0)) (List.length_replicate ..) (List.length_replicate ..) hk91 (by omega) ((hRS.call (hwz)).rowZ) gl k9 ((hRL.call (hwz)).rowZ) 24; rw [exec_append (.tmp 109) (.tmp 110) rfl rfl rfl hr]; exact ⟨(wz.heap.size, cp), rfl, trivial, hb⟩⟩) (fun q w0q hw0q hR0q => ?_)
    simp only [Act.put, List.setIfInBounds_toArray, List.set_cons_succ, List.set_cons_zero]
    obtain ⟨qa, qb⟩ := q; dsimp only
    refine WpG.takeD 6 (some 113) rfl rfl (by kernel_rfl) (fun _ _ _ h => h) (.call rfl (fun wz hwz => HPS.out wz (.slice (some ⟨ga, 0, none⟩) ni ni) (.slice (some ⟨gj, 0, none⟩) nj nj) (some ⟨qa, 0, none⟩) (ar + k9) qb hne1) (fun wz hwz => ?_)) ?_
    · go_simp; try (with_reducible rfl)
    simp only [Act.put, List.setIfInBounds_toArray, List.set_cons_succ, List.set_cons_zero]
    refine WpG.takeD 7 (some 106) (v := ?_) rfl rfl (by kernel_rfl) (fun _ _ _ h => h) (.val rfl (fun wz hwz => ?_)) ?_
    rotate_left
    · go_simp; try (with_reducible rfl)
    simp only [Act.put, List.setIfInBounds_toArray, List.set_cons_succ, List.set_cons_zero]
    refine WpG.takeD 8 (some 114) (v := ?_) rfl rfl (by kernel_rfl) (fun _ _ _ h => h) (.val rfl (fun wz hwz => ?_)) ?_
    rotate_left
    · go_simp; try (with_reducible rfl)
    simp only [Act.put, List.setIfInBounds_toArray, List.set_cons_succ, List.set_cons_zero]
    refine WpG.takeD 9 (some 115) (v := ?_) rfl rfl (by kernel_rfl) (fun _ _ _ h => h) (.val rfl (fun wz hwz => ?_)) ?_
    rotate_left
    · go_simp; try (with_reducible rfl)
    simp only [Act.put, List.setIfInBounds_toArray, List.set_cons_succ, List.set_cons_zero]
    refine WpG.takeD 10 (some 26) (v := ?_) rfl rfl (by kernel_rfl) (fun _ _ _ h => h) (.val rfl (fun wz hwz => ?_)) ?_
    rotate_left
    · go_simp; try (with_reducible rfl)
    simp only [Act.put, List.setIfInBounds_toArray, List.set_cons_succ, List.set_cons_zero]
    refine WpG.done (by kernel_rfl) (fun w12 hS => ?_)
    (try simp only [List.drop_succ_cons]); (try simp only [List.drop_zero]); (try simp only [Nat.reduceSub]); (try simp only [List.take_succ_cons]); (try simp only [List.take_zero])
    clear y90 y91 y92 y93 y94 y95 y96 y97 y98 y99 y910 y911 y912
    have hb12 := hS.1
    replace hb00 := bl_call hb00 (Nat.le_refl _) hb12
    replace hy9 := hy9.call hb12
    replace hRA := hRA.call hb12
    replace hRJ := hRJ.call hb12
    replace hRS := hRS.call hb12
    replace hRP := hRP.call hb12
    replace hRL := hRL.call hb12
    replace hqq := hqq.call hb12
    clear hS hb12
    go_upto_region 17 with fail
    obtain ⟨⟨y90, y91, y92, y93, y94, y95⟩, ⟨y96, y97, y98, y99, y910, y911⟩, y912⟩ := hy9.get6
    have hne2 : ¬ ni + k9 = ni := by omega
    refine region_G (n := 11) (m := 12) (f := 11) (by kernel_rfl) (by kernel_rfl) rfl ?_
    refine WpG.takeD 0 (some 117) (v := ?_) rfl rfl (by kernel_rfl) (fun _ _ _ h => h) (.val rfl (fun wz hwz => ?_)) ?_
    rotate_left
    · (obtain ⟨hcz, hfz⟩ := bcell (hwz); go_simp; try (with_reducible rfl))
    simp only [Act.put, List.setIfInBounds_toArray, List.set_cons_succ, List.set_cons_zero]
    refine WpG.takeD 1 (some 118) (v := ?_) rfl rfl (by kernel_rfl) (fun _ _ _ h => h) (.val rfl (fun wz hwz => ?_)) ?_
    rotate_left
    · go_simp; try (with_reducible rfl)
    simp only [Act.put, List.setIfInBounds_toArray, List.set_cons_succ, List.set_cons_zero]
    refine WpG.takeD 2 (some 119) (v := ?_) rfl rfl (by kernel_rfl) (fun _ _ _ h => h) (.val rfl (fun wz hwz => ?_)) ?_
    rotate_left
    · go_simp; try (with_reducible rfl)
    simp only [Act.put, List.setIfInBounds_toArray, List.set_cons_succ, List.set_cons_zero]
    refine WpG.takeD 4 (some 121) (v := ?_) rfl rfl (by kernel_rfl) (fun _ _ _ h => h) (.val rfl (fun wz hwz => ?_)) ?_
    rotate_left
    · go_simp; try (with_reducible rfl)
    simp only [Act.put, List.setIfInBounds_toArray, List.set_cons_succ, List.set_cons_zero]
    refine WpG.takeD 5 (some 122) (v := ?_) rfl rfl (by kernel_rfl) (fun _ _ _ h => h) (.val rfl (fun wz hwz => ?_)) ?_
    rotate_left
    · go_simp; try (with_reducible rfl)
    simp only [Act.put, List.setIfInBounds_toArray, List.set_cons_succ, List.set_cons_zero]
    refine WpG.oneD 3 (some 120) rfl rfl (by kernel_rfl) (fun q : Nat × Nat => Value.slice (some ⟨q.1, 0, none⟩) (ni + k9) q.2) (fun _ _ => True) (fun _ _ _ _ _ => trivial) (⟨rfl, fun wz hwz => by obtain ⟨cp, w', hr, hb⟩ := run_append_fullK ga ni k9 (List.replicate ni (0, 0)) (List.replicate k9 (0, 0)) (List.length_replicate ..) (List.length_replicate ..) hk91 (by omega) ((hRA.call (hwz)).rowZ) gl k9 ((hRL.call (hwz)).rowZ) 24; rw [exec_append (.tmp 118) (.tmp 119) rfl rfl rfl hr]; exact ⟨(wz.heap.size, cp), rfl, trivial, hb⟩⟩) (fun q w0r hw0r hR0r => ?_)
    simp only [Act.put, List.setIfInBounds_toArray, List.set_cons_succ, List.set_cons_zero]
    obtain ⟨qa, qb⟩ := q; dsimp only
    refine WpG.takeD 6 (some 123) rfl rfl (by kernel_rfl) (fun _ _ _ h => h) (.call rfl (fun wz hwz => HPI.out wz (.slice (some ⟨gs, 0, none⟩) ar ar) (some ⟨qa, 0, none⟩) (ni + k9) qb (some ⟨gj, 0, none⟩) nj nj hne2 ((hRS.call (hwz.1)).sl (List.length_replicate ..) (Nat.le_refl _) (by omega))) (fun wz hwz => ?_)) ?_
    · go_simp; try (with_reducible rfl)
    simp only [Act.put, List.setIfInBounds_toArray, List.set_cons_succ, List.set_cons_zero]
    refine WpG.takeD 7 (some 116) (v := ?_) rfl rfl (by kernel_rfl) (fun _ _ _ h => h) (.val rfl (fun wz hwz => ?_)) ?_
    rotate_left
    · go_simp; try (with_reducible rfl)
    simp only [Act.put, List.setIfInBounds_toArray, List.set_cons_succ, List.set_cons_zero]
    refine WpG.takeD 8 (some 124) (v := ?_) rfl rfl (by kernel_rfl) (fun _ _ _ h => h) (.val rfl (fun wz hwz => ?_)) ?_
    rotate_left
    · go_simp; try (with_reducible rfl)
    simp only [Act.put, List.setIfInBounds_toArray, List.set_cons_succ, List.set_cons_zero]
    refine WpG.takeD 9 (some 125) (v := ?_) rfl rfl (by kernel_rfl) (fun _ _ _ h => h) (.val rfl (fun wz hwz => ?_)) ?_
    rotate_left
    · go_simp; try (with_reducible rfl)
    simp only [Act.put, List.setIfInBounds_toArray, List.set_cons_succ, List.set_cons_zero]
    refine WpG.takeD 10 (some 28) (v := ?_) rfl rfl (by kernel_rfl) (fun _ _ _ h => h) (.val rfl (fun wz hwz => ?_)) ?_
    rotate_left
    · go_simp; try (with_reducible rfl)
    simp only [Act.put, List.setIfInBounds_toArray, List.set_cons_succ, List.set_cons_zero]
    refine WpG.done (by kernel_rfl) (fun w13 hS => ?_)
    (try simp only [List.drop_succ_cons]); (try simp only [List.drop_zero]); (try simp only [Nat.reduceSub]); (try simp only [List.take_succ_cons]); (try simp only [List.take_zero])
    clear y90 y91 y92 y93 y94 y95 y96 y97 y98 y99 y910 y911 y912
    have hb13 := hS.1
    replace hb00 := bl_call hb00 (Nat.le_refl _) hb13
    replace hy9 := hy9.call hb13
    replace hRA := hRA.call hb13
    replace hRJ := hRJ.call hb13
    replace hRS := hRS.call hb13
    replace hRP := hRP.call hb13
    replace hRL := hRL.call hb13
    replace hqq := hqq.call hb13
    clear hS hb13
    go_upto_region 18 with fail
    obtain ⟨⟨y90, y91, y92, y93, y94, y95⟩, ⟨y96, y97, y98, y99, y910, y911⟩, y912⟩ := hy9.get6
    obtain ⟨qq0, qq1, qq2, qq3, qq4⟩ := V2.mk hqq.c0 hqq.c1 hqq.f0 hqq.f1 hqq.lt
    have hne3 : tot + k9 ≠ tot := by omega
    refine region_G (n := 12) (m := 13) (f := 12) (by kernel_rfl) (by kernel_rfl) rfl ?_
    refine WpG.takeD 0 (some 127) (v := ?_) rfl rfl (by kernel_rfl) (fun _ _ _ h => h) (.val rfl (fun wz hwz => ?_)) ?_
    rotate_left
    · (obtain ⟨hcz, hfz⟩ := bcell (hwz); go_simp; try (with_reducible rfl))
    simp only [Act.put, List.setIfInBounds_toArray, List.set_cons_succ, List.set_cons_zero]
    refine WpG.takeD 1 (some 128) (v := ?_) rfl rfl (by kernel_rfl) (fun _ _ _ h => h) (.val rfl (fun wz hwz => ?_)) ?_
    rotate_left
    · go_simp; try (with_reducible rfl)
    simp only [Act.put, List.setIfInBounds_toArray, List.set_cons_succ, List.set_cons_zero]
    refine WpG.takeD 2 (some 129) (v := ?_) rfl rfl (by kernel_rfl) (fun _ _ _ h => h) (.val rfl (fun wz hwz => ?_)) ?_
    rotate_left
    · go_simp; try (with_reducible rfl)
    simp only [Act.put, List.setIfInBounds_toArray, List.set_cons_succ, List.set_cons_zero]
    refine WpG.takeD 3 (some 130) (v := ?_) rfl rfl (by kernel_rfl) (fun _ _ _ h => h) (.val rfl (fun wz hwz => ?_)) ?_
    rotate_left
    · go_simp; try (with_reducible rfl)
    simp only [Act.put, List.setIfInBounds_toArray, List.set_cons_succ, List.set_cons_zero]
    refine WpG.takeD 5 (some 132) (v := ?_) rfl rfl (by kernel_rfl) (fun _ _ _ h => h) (.val rfl (fun wz hwz => ?_)) ?_
    rotate_left
    · go_simp; try (with_reducible rfl)
    simp only [Act.put, List.setIfInBounds_toArray, List.set_cons_succ, List.set_cons_zero]
    refine WpG.takeD 6 (some 133) (v := ?_) rfl rfl (by kernel_rfl) (fun _ _ _ h => h) (.val rfl (fun wz hwz => ?_)) ?_
    rotate_left
    · (obtain ⟨hcz, hfz⟩ := bcell (hwz); go_simp; try (with_reducible rfl))
    simp only [Act.put, List.setIfInBounds_toArray, List.set_cons_succ, List.set_cons_zero]
    refine WpG.oneD 4 (some 131) rfl rfl (by kernel_rfl) (fun q : Nat × Nat => Value.slice (some ⟨q.1, 0, none⟩) (tot + k9) q.2) (fun _ _ => True) (fun _ _ _ _ _ => trivial) (⟨rfl, fun wz hwz => by obtain ⟨cp, w', hr, hb⟩ := run_append_fullK gp tot k9 (List.replicate tot (0, 0)) (List.replicate k9 (0, 0)) (List.length_replicate ..) (List.length_replicate ..) hk91 (by omega) ((hRP.call (hwz)).rowZ) gl k9 ((hRL.call (hwz)).rowZ) 24; rw [exec_append (.tmp 129) (.tmp 130) rfl rfl rfl hr]; exact ⟨(wz.heap.size, cp), rfl, trivial, hb⟩⟩) (fun q w0s hw0s hR0s => ?_)
    simp only [Act.put, List.setIfInBounds_toArray, List.set_cons_succ, List.set_cons_zero]
    obtain ⟨qa, qb⟩ := q; dsimp only
    refine WpG.takeD 7 (some 134) rfl rfl (by kernel_rfl) (fun _ _ _ h => h) (.call rfl (fun wz hwz => HQS.out wz (.slice (some ⟨ga, 0, none⟩) ni ni) (.slice (some ⟨gj, 0, none⟩) nj nj) (some ⟨qa, 0, none⟩) (tot + k9) qb zq hne3) (fun wz hwz => ?_)) ?_
    · go_simp; try (with_reducible rfl)
    simp only [Act.put, List.setIfInBounds_toArray, List.set_cons_succ, List.set_cons_zero]
    refine WpG.takeD 8 (some 126) (v := ?_) rfl rfl (by kernel_rfl) (fun _ _ _ h => h) (.val rfl (fun wz hwz => ?_)) ?_
    rotate_left
    · go_simp; try (with_reducible rfl)
    simp only [Act.put, List.setIfInBounds_toArray, List.set_cons_succ, List.set_cons_zero]
    refine WpG.takeD 9 (some 135) (v := ?_) rfl rfl (by kernel_rfl) (fun _ _ _ h => h) (.val rfl (fun wz hwz => ?_)) ?_
    rotate_left
    · go_simp; try (with_reducible rfl)
    simp only [Act.put, List.setIfInBounds_toArray, List.set_cons_succ, List.set_cons_zero]
    refine WpG.takeD 10 (some 136) (v := ?_) rfl rfl (by kernel_rfl) (fun _ _ _ h => h) (.val rfl (fun wz hwz => ?_)) ?_
    rotate_left
    · go_simp; try (with_reducible rfl)
    simp only [Act.put, List.setIfInBounds_toArray, List.set_cons_succ, List.set_cons_zero]
    refine WpG.takeD 11 (some 30) (v := ?_) rfl rfl (by kernel_rfl) (fun _ _ _ h => h) (.val rfl (fun wz hwz => ?_)) ?_
    rotate_left
    · go_simp; try (with_reducible rfl)
    simp only [Act.put, List.setIfInBounds_toArray, List.set_cons_succ, List.set_cons_zero]
    refine WpG.done (by kernel_rfl) (fun w14 hS => ?_)
    (try simp only [List.drop_succ_cons]); (try simp only [List.drop_zero]); (try simp only [Nat.reduceSub]); (try simp only [List.take_succ_cons]); (try simp only [List.take_zero])
    clear y90 y91 y92 y93 y94 y95 y96 y97 y98 y99 y910 y911 y912 qq0 qq1 qq2 qq3 qq4
    have hb14 := hS.1
    replace hb00 := bl_call hb00 (Nat.le_refl _) hb14
    replace hy9 := hy9.call hb14
    replace hRA := hRA.call hb14
    replace hRJ := hRJ.call hb14
    replace hRS := hRS.call hb14
    replace hRP := hRP.call hb14
    replace hRL := hRL.call hb14
    replace hqq := hqq.call hb14
    clear hS hb14
    go_upto_region 19 with fail
    obtain ⟨v9, hv9⟩ : ∃ v, ar + 2 + k9 = v := ⟨_, rfl⟩
    have hve : (ar : Int) + 2 + (k9 : Int) = (v9 : Int) := by omega
    have hvw : IntKind.i64.wrap ((v9 : Int)) = (v9 : Int) := IntWalk.i64_in _ (by omega)
    have hmk := make_elem v9 (by omega)
    have hne4 : v9 ≠ ar + 2 := by omega
    obtain ⟨⟨y90, y91, y92, y93, y94, y95⟩, ⟨y96, y97, y98, y99, y910, y911⟩, y912⟩ := hy9.get6
    refine region_G (n := 12) (m := 13) (f := 12) (by kernel_rfl) (by kernel_rfl) rfl ?_
    refine WpG.takeD 0 (some 138) (v := ?_) rfl rfl (by kernel_rfl) (fun _ _ _ h => h) (.val rfl (fun wz hwz => ?_)) ?_
    rotate_left
    · (obtain ⟨hcz, hfz⟩ := bcell (hwz); go_simp; try (with_reducible rfl))
    simp only [Act.put, List.setIfInBounds_toArray, List.set_cons_succ, List.set_cons_zero]
    refine WpG.takeD 1 (some 139) (v := ?_) rfl rfl (by kernel_rfl) (fun _ _ _ h => h) (.val rfl (fun wz hwz => ?_)) ?_
    rotate_left
    · (obtain ⟨hcz, hfz⟩ := bcell (hwz); go_simp; try (with_reducible rfl))
    simp only [Act.put, List.setIfInBounds_toArray, List.set_cons_succ, List.set_cons_zero]
    refine WpG.takeD 2 (some 140) rfl rfl (by kernel_rfl) (fun _ _ _ h => h) (.call rfl (fun wz hwz => HVER.out wz) (fun wz hwz => ?_)) ?_
    · go_simp; try (with_reducible rfl)
    simp only [Act.put, List.setIfInBounds_toArray, List.set_cons_succ, List.set_cons_zero]
    refine WpG.takeD 3 (some 141) (v := ?_) rfl rfl (by kernel_rfl) (fun _ _ _ h => h) (.val rfl (fun wz hwz => ?_)) ?_
    rotate_left
    · go_simp; try (with_reducible rfl)
    simp only [Act.put, List.setIfInBounds_toArray, List.set_cons_succ, List.set_cons_zero]
    refine WpG.takeD 4 (some 142) (v := ?_) rfl rfl (by kernel_rfl) (fun _ _ _ h => h) (.val rfl (fun wz hwz => ?_)) ?_
    rotate_left
    · go_simp; try (with_reducible rfl)
    simp only [Act.put, List.setIfInBounds_toArray, List.set_cons_succ, List.set_cons_zero]
    refine WpG.takeD 5 (some 143) (v := ?_) rfl rfl (by kernel_rfl) (fun _ _ _ h => h) (.val rfl (fun wz hwz => ?_)) ?_
    rotate_left
    · go_simp; try (with_reducible rfl)
    simp only [Act.put, List.setIfInBounds_toArray, List.set_cons_succ, List.set_cons_zero]
    refine WpG.oneD 6 (some 144) rfl rfl (by kernel_rfl) (fun b : Nat => Value.slice (some ⟨b, 0, none⟩) v9 v9) (fun b wz => w14.heap.size ≤ b ∧ RwK wz b (List.replicate v9 (0 : Fin (Pm f)))) (fun _ _ _ h hb => ⟨h.1, h.2.call hb⟩) (Fresh.slice v9 v9 (cellsE (List.replicate v9 (0, 0))) 36 rfl (fun wz hwz => (hwz).size) (fun wz hwz => by go_simp; try (with_reducible rfl)) (R := fun b wz => RwK wz b (List.replicate v9 (0 : Fin (Pm f)))) (fun wz hwz => RwK.new wz _ _ (by unfold esK; rw [List.map_replicate, eK_zero]) _)) (fun b9 w0t hw0t hR0t => ?_)
    simp only [Act.put, List.setIfInBounds_toArray, List.set_cons_succ, List.set_cons_zero]
    refine WpG.takeD 7 (some 145) rfl rfl (by kernel_rfl) (fun _ _ _ h => h) (.call rfl (fun wz hwz => HDS.out wz (some ⟨b9, 0, none⟩) v9 v9 hne4) (fun wz hwz => ?_)) ?_
    · go_simp; try (with_reducible rfl)
    simp only [Act.put, List.setIfInBounds_toArray, List.set_cons_succ, List.set_cons_zero]
    refine WpG.takeD 8 (some 137) (v := ?_) rfl rfl (by kernel_rfl) (fun _ _ _ h => h) (.val rfl (fun wz hwz => ?_)) ?_
    rotate_left
    · go_simp; try (with_reducible rfl)
    simp only [Act.put, List.setIfInBounds_toArray, List.set_cons_succ, List.set_cons_zero]
    refine WpG.takeD 9 (some 146) (v := ?_) rfl rfl (by kernel_rfl) (fun _ _ _ h => h) (.val rfl (fun wz hwz => ?_)) ?_
    rotate_left
    · go_simp; try (with_reducible rfl)
    simp only [Act.put, List.setIfInBounds_toArray, List.set_cons_succ, List.set_cons_zero]
    refine WpG.takeD 10 (some 147) (v := ?_) rfl rfl (by kernel_rfl) (fun _ _ _ h => h) (.val rfl (fun wz hwz => ?_)) ?_
    rotate_left
    · go_simp; try (with_reducible rfl)
    simp only [Act.put, List.setIfInBounds_toArray, List.set_cons_succ, List.set_cons_zero]
    refine WpG.takeD 11 (some 32) (v := ?_) rfl rfl (by kernel_rfl) (fun _ _ _ h => h) (.val rfl (fun wz hwz => ?_)) ?_
    rotate_left
    · go_simp; try (with_reducible rfl)
    simp only [Act.put, List.setIfInBounds_toArray, List.set_cons_succ, List.set_cons_zero]
    refine WpG.done (by kernel_rfl) (fun w15 hS => ?_)
    (try simp only [List.drop_succ_cons]); (try simp only [List.drop_zero]); (try simp only [Nat.reduceSub]); (try simp only [List.take_succ_cons]); (try simp only [List.take_zero])
    clear y90 y91 y92 y93 y94 y95 y96 y97 y98 y99 y910 y911 y912
    have hb15 := hS.1
    replace hb00 := bl_call hb00 (Nat.le_refl _) hb15
    clear hS hb15
    go_wp2_with fail
    go_ret
    exact ⟨rfl, hb00⟩

end Go.Proofs.YtfbfbijkkbflkaaGreatDoor
