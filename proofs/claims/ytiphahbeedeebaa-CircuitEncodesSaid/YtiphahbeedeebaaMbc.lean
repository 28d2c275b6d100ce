/-
  WALK: tallymanlaw10.CircuitEncodes.
-/
import Derived.Test.YtiphahbeedeebaaMbb
import Derived.Test.YtiphahbeedeebaaMaq
import Derived.Test.YtiphahbeedeebaaMao
namespace Go.Proofs.Ytiphahbeedeebaa
open Go.RowKit Fm
set_option linter.unusedVariables false
set_option maxRecDepth 100000

theorem Vs.get7 {w : World} {b : Nat} {x0 x1 x2 x3 x4 x5 x6 : Value} (h : Vs w b [x0, x1, x2, x3, x4, x5, x6]) : (w.cell? ⟨b, 0, none⟩ = some x0 ∧ w.cell? ⟨b, 1, none⟩ = some x1 ∧ w.cell? ⟨b, 2, none⟩ = some x2 ∧ w.cell? ⟨b, 3, none⟩ = some x3 ∧ w.cell? ⟨b, 4, none⟩ = some x4 ∧ w.cell? ⟨b, 5, none⟩ = some x5 ∧ w.cell? ⟨b, 6, none⟩ = some x6) ∧
    (w.frozen? ⟨b, 0, none⟩ = false ∧ w.frozen? ⟨b, 1, none⟩ = false ∧ w.frozen? ⟨b, 2, none⟩ = false ∧ w.frozen? ⟨b, 3, none⟩ = false ∧ w.frozen? ⟨b, 4, none⟩ = false ∧ w.frozen? ⟨b, 5, none⟩ = false ∧ w.frozen? ⟨b, 6, none⟩ = false) ∧ b < w.heap.size :=
  ⟨⟨h.cell 0 _ rfl, h.cell 1 _ rfl, h.cell 2 _ rfl, h.cell 3 _ rfl, h.cell 4 _ rfl, h.cell 5 _ rfl, h.cell 6 _ rfl⟩, ⟨h.frz 0 (by simp), h.frz 1 (by simp), h.frz 2 (by simp), h.frz 3 (by simp), h.frz 4 (by simp), h.frz 5 (by simp), h.frz 6 (by simp)⟩, h.lt⟩

theorem nats_of {xs : List Int} (h : ∀ e, e ∈ xs → okU e) : ∃ rs : List Nat, xs = natsI rs := by
  refine ⟨xs.map Int.toNat, ?_⟩
  unfold natsI
  rw [List.map_map]
  have h2 : xs = xs.map id := by rw [List.map_id]
  refine h2.trans (List.map_congr_left fun e he => ?_)
  have := (h e he).1
  show e = ((e.toNat : Nat) : Int)
  omega

theorem slE_some {w : World} {B : Nat} {A : Option Addr} {n cp : Nat} {xs : List E} (h : SlE w B (.slice A n cp) xs) (hn : 0 < n) : ∃ b o, A = some ⟨b, o, none⟩ ∧ b < B ∧ RowE w b o xs := by
  obtain ⟨⟨A', c', hv, _, _, h3⟩, _⟩ := h
  injection hv with h1 h2 h4
  subst h1
  exact h3 (by omega)
theorem slU_some {w : World} {B : Nat} {A : Option Addr} {n cp : Nat} {xs : List Int} (h : SlU w B (.slice A n cp) xs) (hn : 0 < n) : ∃ b o, A = some ⟨b, o, none⟩ ∧ b < B ∧ RowU w b o xs := by
  obtain ⟨⟨A', c', hv, _, _, h3⟩, _⟩ := h
  injection hv with h1 h2 h4
  subst h1
  exact h3 (by omega)
theorem encOne_at {l n i : Nat} (hi : i < l) : (encOne l n)[i]? = some (if i = n then 1 else 0) := by
  unfold encOne
  rw [List.getElem?_set, List.length_replicate]
  by_cases h : n = i
  · subst h
    rw [if_pos rfl, if_pos hi, if_pos rfl]
  · rw [if_neg h, if_neg (fun e => h e.symm), List.getElem?_replicate, if_pos hi]
theorem tgt_kind (y : CK) {ds : List Nat} (hlen : ds.length = y.meas) : (y.k = 4 ∧ ds.length = 1 ∧ ∃ n0 : Nat, ds[0]? = some n0 ∧ Hid (∀ i, i < y.nout → (tgt y ds)[i]? = some (if i = n0 then 1 else 0))) ∨ (¬ y.k = 4 ∧ Hid (tgt y ds = ds) ∧ ds.length = y.nout) := by
  cases y with
  | hist l c =>
    match ds, hlen with
    | [n0], _ => exact .inl ⟨rfl, rfl, n0, rfl, fun i hi => encOne_at hi⟩
  | count => exact .inr ⟨by decide, rfl, hlen⟩
  | sum b => exact .inr ⟨by show ¬ (2 = 4); decide, rfl, hlen⟩
  | vec b n c => exact .inr ⟨by show ¬ (3 = 4); decide, rfl, hlen⟩
  | multi l m c => exact .inr ⟨by show ¬ (5 = 4); decide, rfl, hlen⟩

set_option maxHeartbeats 16000000 in
theorem walk_CircuitEncodes (x : Raw) (k f b l m c : Int) (vr : Value) (xs : List Int) (w : World) (hx0 : 0 ≤ x.k ∧ x.k ≤ 255) (hx1 : 0 ≤ x.f ∧ x.f ≤ 255) (hk : 0 ≤ k ∧ k ≤ 255) (hf : 0 ≤ f ∧ f ≤ 255) (hb : 0 ≤ b ∧ b ≤ 255) (hl : 0 ≤ l ∧ l ≤ 255) (hm : 0 ≤ m ∧ m ≤ 255) (hc : 0 ≤ c ∧ c ≤ 255)
    (hr : SlU w w.heap.size vr xs) :
    Calls Try.prog 8 #[x.val, .agg #[.int .u8 k, .int .u8 f, .int .u8 b, .int .u8 l, .int .u8 m, .int .u8 c], vr] w fun e w' => e = .returned (.bool true) ∧ Below w.heap.size w w' := by
  obtain ⟨F, y, hF, hy, hCIR⟩ := law10_Circuit k f b l m c hk.1 hk.2 hf.1 hf.2 hb.1 hb.2 hl.1 hl.2 hm.1 hm.2 hc.1 hc.2
  obtain ⟨n0, _, hchk, hrchk, his⟩ := raw_checks x
  have HS0 : Hid (x.Said n0) := ⟨hrchk, hchk, his, hx0.1, hx0.2, hx1.1, hx1.2⟩
  have HS1 : Hid ((y.raw F).Said 0) := CK.raw_said hF hy.ok hy.calls
  have HCIR := Lib.hid hCIR
  have HAW := Lib.hid law10_Awake
  obtain ⟨rs, rfl⟩ := nats_of hr.ok
  obtain ⟨A, cp, rfl⟩ : ∃ A cp, vr = .slice A rs.length cp := by
    obtain ⟨⟨A, cp, rfl, _, _, _⟩, _⟩ := hr
    exact ⟨A, cp, by rw [natsI_length]⟩
  have HME : Hid (∀ wz, Below w.heap.size w wz → rs.length ≤ 100 → Calls Try.prog 37 #[y.val F, .slice A rs.length cp] wz fun e w' => ∃ q : List Nat × Option Addr × Nat, e = .returned (.slice q.2.1 q.1.length q.2.2) ∧ SlU w' w'.heap.size (.slice q.2.1 q.1.length q.2.2) (natsI q.1) ∧ Below wz.heap.size wz w') :=
    fun wz hb h => (law10_Measure hF y hy.ok _ (natsI rs) wz ((hr.below hb).mono hb.size) (by rw [natsI_length]; omega)).mono fun e w' ⟨ms, A', cp', _, _, he, hs, hb'⟩ => ⟨(ms, A', cp'), he, hs, hb'⟩
  have HR := Lib.hid hr
  unfold CK.val at HCIR HME
  unfold CK.raw at HS1
  unfold Raw.val
  clear hCIR hchk hrchk his hr
  obtain ⟨xk, xf, xb, xl, xm, xc⟩ := x
  dsimp only at HS0 HS1 ⊢
  generalize ((y.k : Nat) : Int) = yk at *
  generalize ((y.b : Nat) : Int) = yb at *
  generalize ((y.l : Nat) : Int) = yl at *
  generalize ((y.m : Nat) : Int) = ym at *
  generalize ((y.c : Nat) : Int) = yc at *
  generalize ((F : Nat) : Int) = yf at *
  have hb00 : Below w.heap.size w w := Below.refl _ _
  go_enter Try.func8, Try.ntmps8
  go_upto_region 1 with fail
  have hv := (Vs.new w [.int .u8 xk, .int .u8 xf, .int .i64 xb, .int .i64 xl, .int .i64 xm, .int .i64 xc] #[.int .u8 xk, .int .u8 xf, .int .i64 xb, .int .i64 xl, .int .i64 xm, .int .i64 xc] 60 rfl).alloc (.cells #[.int .u8 k, .int .u8 f, .int .u8 b, .int .u8 l, .int .u8 m, .int .u8 c] 62)
  have hs := Vs.new (w.alloc (.cells #[.int .u8 xk, .int .u8 xf, .int .i64 xb, .int .i64 xl, .int .i64 xm, .int .i64 xc] 60)) [.int .u8 k, .int .u8 f, .int .u8 b, .int .u8 l, .int .u8 m, .int .u8 c] #[.int .u8 k, .int .u8 f, .int .u8 b, .int .u8 l, .int .u8 m, .int .u8 c] 62 rfl
  simp only [World.size_alloc] at hs
  have hbw : Below w.heap.size w ((w.alloc (.cells #[.int .u8 xk, .int .u8 xf, .int .i64 xb, .int .i64 xl, .int .i64 xm, .int .i64 xc] 60)).alloc (.cells #[.int .u8 k, .int .u8 f, .int .u8 b, .int .u8 l, .int .u8 m, .int .u8 c] 62)) := by repeat (first | exact Below.refl _ _ | with_reducible assumption | (refine bl_alloc ?_ (Nat.le_refl _) _))
  have hszn : w.heap.size + 2 ≤ ((w.alloc (.cells #[.int .u8 xk, .int .u8 xf, .int .i64 xb, .int .i64 xl, .int .i64 xm, .int .i64 xc] 60)).alloc (.cells #[.int .u8 k, .int .u8 f, .int .u8 b, .int .u8 l, .int .u8 m, .int .u8 c] 62)).heap.size := by simp only [World.size_alloc]; omega
  generalize ((w.alloc (.cells #[.int .u8 xk, .int .u8 xf, .int .i64 xb, .int .i64 xl, .int .i64 xm, .int .i64 xc] 60)).alloc (.cells #[.int .u8 k, .int .u8 f, .int .u8 b, .int .u8 l, .int .u8 m, .int .u8 c] 62)) = w1 at hv hs hbw hszn ⊢
  clear hb00
  by_cases h100 : 100 < rs.length
  · skip
    go_wp2_with (first
      | (go_at_call 35; refine (HAW.out _).mono ?_; rintro e w2 ⟨rfl, hb2⟩; replace hbw := bl_call hbw (Nat.le_refl _) hb2; replace hv := hv.call hb2; replace hs := hs.call hb2))
    go_ret
    exact ⟨rfl, hbw⟩
  obtain ⟨⟨v0, v1, v2, v3, v4, v5⟩, ⟨v6, v7, v8, v9, v10, v11⟩, v12⟩ := hv.get6
  obtain ⟨⟨s0, s1, s2, s3, s4, s5⟩, ⟨s6, s7, s8, s9, s10, s11⟩, s12⟩ := hs.get6
  go_upto_region 5 with (first
    | (go_at_call 35; refine (HAW.out _).mono ?_; rintro e w2 ⟨rfl, hb2⟩; replace hbw := bl_call hbw (Nat.le_refl _) hb2; replace hv := hv.call hb2; replace hs := hs.call hb2; clear v0 v1 v2 v3 v4 v5 v6 v7 v8 v9 v10 v11 v12 s0 s1 s2 s3 s4 s5 s6 s7 s8 s9 s10 s11 s12; clear hb2; obtain ⟨⟨v0, v1, v2, v3, v4, v5⟩, ⟨v6, v7, v8, v9, v10, v11⟩, v12⟩ := hv.get6; obtain ⟨⟨s0, s1, s2, s3, s4, s5⟩, ⟨s6, s7, s8, s9, s10, s11⟩, s12⟩ := hs.get6))
  go_upto_region 6 with (first
    | (go_at_call 36; refine (HCIR.out _).mono ?_; rintro e w3 ⟨rfl, hb3⟩; replace hbw := bl_call hbw (Nat.le_refl _) hb3; replace hv := hv.call hb3; replace hs := hs.call hb3; clear v0 v1 v2 v3 v4 v5 v6 v7 v8 v9 v10 v11 v12 s0 s1 s2 s3 s4 s5 s6 s7 s8 s9 s10 s11 s12; clear hb3; obtain ⟨⟨v0, v1, v2, v3, v4, v5⟩, ⟨v6, v7, v8, v9, v10, v11⟩, v12⟩ := hv.get6; obtain ⟨⟨s0, s1, s2, s3, s4, s5⟩, ⟨s6, s7, s8, s9, s10, s11⟩, s12⟩ := hs.get6))
  clear v0 v1 v2 v3 v4 v5 v6 v7 v8 v9 v10 v11 v12 s0 s1 s2 s3 s4 s5 s6 s7 s8 s9 s10 s11 s12
  have hy9 := Vs.new w3 [.int .u8 yk, .int .u8 yf, .int .i64 yb, .int .i64 yl, .int .i64 ym, .int .i64 yc] #[.int .u8 yk, .int .u8 yf, .int .i64 yb, .int .i64 yl, .int .i64 ym, .int .i64 yc] 60 rfl
  have hbA : Below w3.heap.size w3 (w3.alloc (.cells #[.int .u8 yk, .int .u8 yf, .int .i64 yb, .int .i64 yl, .int .i64 ym, .int .i64 yc] 60)) := by repeat (first | exact Below.refl _ _ | with_reducible assumption | (refine bl_alloc ?_ (Nat.le_refl _) _))
  replace hbw := bl_call hbw (Nat.le_refl _) hbA
  replace hv := hv.call hbA
  replace hs := hs.call hbA
  clear hbA
  generalize w3.alloc (.cells #[.int .u8 yk, .int .u8 yf, .int .i64 yb, .int .i64 yl, .int .i64 ym, .int .i64 yc] 60) = w4 at hbw hv hs hy9 ⊢
  obtain ⟨⟨v0, v1, v2, v3, v4, v5⟩, ⟨v6, v7, v8, v9, v10, v11⟩, v12⟩ := hv.get6
  obtain ⟨⟨y90, y91, y92, y93, y94, y95⟩, ⟨y96, y97, y98, y99, y910, y911⟩, y912⟩ := hy9.get6
  have h101 : rs.length ≤ 100 := by omega
  refine region_G (n := 14) (m := 14) (f := 14) (by kernel_rfl) (by kernel_rfl) rfl ?_
  refine WpG.takeD 0 (some 27) (v := ?_) rfl rfl (by kernel_rfl) (fun _ _ _ h => h) (.val rfl (fun wz hwz => ?_)) ?_
  rotate_left
  · (obtain ⟨hcz, hfz⟩ := bcell (hwz); go_simp; try (with_reducible rfl))
  (simp only [Act.put]); (try simp only [List.setIfInBounds_toArray]); (try simp only [List.set_cons_succ]); (try simp only [List.set_cons_zero])
  refine WpG.takeD 1 (some 28) (v := ?_) rfl rfl (by kernel_rfl) (fun _ _ _ h => h) (.val rfl (fun wz hwz => ?_)) ?_
  rotate_left
  · go_simp; try (with_reducible rfl)
  (simp only [Act.put]); (try simp only [List.setIfInBounds_toArray]); (try simp only [List.set_cons_succ]); (try simp only [List.set_cons_zero])
  refine WpG.takeD 2 (some 29) (v := ?_) rfl rfl (by kernel_rfl) (fun _ _ _ h => h) (.val rfl (fun wz hwz => ?_)) ?_
  rotate_left
  · go_simp; try (with_reducible rfl)
  (simp only [Act.put]); (try simp only [List.setIfInBounds_toArray]); (try simp only [List.set_cons_succ]); (try simp only [List.set_cons_zero])
  refine WpG.takeD 3 (some 30) (v := ?_) rfl rfl (by kernel_rfl) (fun _ _ _ h => h) (.val rfl (fun wz hwz => ?_)) ?_
  rotate_left
  · (obtain ⟨hcz, hfz⟩ := bcell (hwz); go_simp; try (with_reducible rfl))
  (simp only [Act.put]); (try simp only [List.setIfInBounds_toArray]); (try simp only [List.set_cons_succ]); (try simp only [List.set_cons_zero])
  refine WpG.takeD 4 (some 31) (v := ?_) rfl rfl (by kernel_rfl) (fun _ _ _ h => h) (.val rfl (fun wz hwz => ?_)) ?_
  rotate_left
  · go_simp; try (with_reducible rfl)
  (simp only [Act.put]); (try simp only [List.setIfInBounds_toArray]); (try simp only [List.set_cons_succ]); (try simp only [List.set_cons_zero])
  refine WpG.takeD 5 (some 32) (v := ?_) rfl rfl (by kernel_rfl) (fun _ _ _ h => h) (.val rfl (fun wz hwz => ?_)) ?_
  rotate_left
  · go_simp; try (with_reducible rfl)
  (simp only [Act.put]); (try simp only [List.setIfInBounds_toArray]); (try simp only [List.set_cons_succ]); (try simp only [List.set_cons_zero])
  refine WpG.takeD 6 (some 33) (v := ?_) rfl rfl (by kernel_rfl) (fun _ _ _ h => h) (.val rfl (fun wz hwz => ?_)) ?_
  rotate_left
  · (obtain ⟨hcz, hfz⟩ := bcell (hwz); go_simp; try (with_reducible rfl))
  (simp only [Act.put]); (try simp only [List.setIfInBounds_toArray]); (try simp only [List.set_cons_succ]); (try simp only [List.set_cons_zero])
  refine WpG.takeD 7 (some 34) (v := ?_) rfl rfl (by kernel_rfl) (fun _ _ _ h => h) (.val rfl (fun wz hwz => ?_)) ?_
  rotate_left
  · (obtain ⟨hcz, hfz⟩ := bcell (hwz); go_simp; try (with_reducible rfl))
  (simp only [Act.put]); (try simp only [List.setIfInBounds_toArray]); (try simp only [List.set_cons_succ]); (try simp only [List.set_cons_zero])
  refine WpG.takeD 8 (some 35) (v := ?_) rfl rfl (by kernel_rfl) (fun _ _ _ h => h) (.val rfl (fun wz hwz => ?_)) ?_
  rotate_left
  · go_simp; try (with_reducible rfl)
  (simp only [Act.put]); (try simp only [List.setIfInBounds_toArray]); (try simp only [List.set_cons_succ]); (try simp only [List.set_cons_zero])
  refine WpG.takeD 13 (some 40) (v := ?_) rfl rfl (by kernel_rfl) (fun _ _ _ h => h) (.val rfl (fun wz hwz => ?_)) ?_
  rotate_left
  · go_simp; try (with_reducible rfl)
  (simp only [Act.put]); (try simp only [List.setIfInBounds_toArray]); (try simp only [List.set_cons_succ]); (try simp only [List.set_cons_zero])
  refine WpG.oneD 9 (some 36) rfl rfl (by kernel_rfl) (fun q : List Nat × Option Addr × Nat => Value.slice q.2.1 q.1.length q.2.2) (fun q wz => SlU wz wz.heap.size (.slice q.2.1 q.1.length q.2.2) (natsI q.1)) (fun _ _ _ h hb => h.later hb) (Fresh.call rfl (fun wz hwz => HME.out wz (bl_call hbw (Nat.le_refl _) (hwz)) h101) (fun wz hwz => by go_simp; try (with_reducible rfl))) (fun mq w0 hw0 hR0 => ?_)
  (simp only [Act.put]); (try simp only [List.setIfInBounds_toArray]); (try simp only [List.set_cons_succ]); (try simp only [List.set_cons_zero])
  refine WpG.takeD 10 (some 37) (v := ?_) rfl rfl (by kernel_rfl) (fun _ _ _ h => h) (.val rfl (fun wz hwz => ?_)) ?_
  rotate_left
  · go_simp; try (with_reducible rfl)
  (simp only [Act.put]); (try simp only [List.setIfInBounds_toArray]); (try simp only [List.set_cons_succ]); (try simp only [List.set_cons_zero])
  refine WpG.oneD 11 (some 38) rfl rfl (by kernel_rfl) (fun b : Nat => Value.slice (some ⟨b, 0, none⟩) 3 3) (fun b wz => w4.heap.size ≤ b ∧ Vs wz b [.int .u8 xk, .int .u8 xf, .int .i64 xb, .int .i64 xl, .int .i64 xm, .int .i64 xc, .slice A rs.length cp, .int .u8 yk, .int .u8 yf, .int .i64 yb, .int .i64 yl, .int .i64 ym, .int .i64 yc, .slice A rs.length cp, .int .u8 yk, .int .u8 yf, .int .i64 yb, .int .i64 yl, .int .i64 ym, .int .i64 yc, .slice mq.2.1 mq.1.length mq.2.2]) (fun _ _ _ h hb => ⟨h.1, h.2.call hb⟩) (Fresh.slice 3 3 [.int .u8 xk, .int .u8 xf, .int .i64 xb, .int .i64 xl, .int .i64 xm, .int .i64 xc, .slice A rs.length cp, .int .u8 yk, .int .u8 yf, .int .i64 yb, .int .i64 yl, .int .i64 ym, .int .i64 yc, .slice A rs.length cp, .int .u8 yk, .int .u8 yf, .int .i64 yb, .int .i64 yl, .int .i64 ym, .int .i64 yc, .slice mq.2.1 mq.1.length mq.2.2] 66 rfl (fun wz hwz => (hwz.1).size) (fun wz hwz => by go_simp; try (with_reducible rfl)) (R := fun b wz => Vs wz b [.int .u8 xk, .int .u8 xf, .int .i64 xb, .int .i64 xl, .int .i64 xm, .int .i64 xc, .slice A rs.length cp, .int .u8 yk, .int .u8 yf, .int .i64 yb, .int .i64 yl, .int .i64 ym, .int .i64 yc, .slice A rs.length cp, .int .u8 yk, .int .u8 yf, .int .i64 yb, .int .i64 yl, .int .i64 ym, .int .i64 yc, .slice mq.2.1 mq.1.length mq.2.2]) (fun wz hwz => Vs.new wz _ _ _ rfl)) (fun sb w0' hw0' hR0' => ?_)
  (simp only [Act.put]); (try simp only [List.setIfInBounds_toArray]); (try simp only [List.set_cons_succ]); (try simp only [List.set_cons_zero])
  refine WpG.takeD 12 (some 39) (v := ?_) rfl rfl (by kernel_rfl) (fun _ _ _ h => h) (.val rfl (fun wz hwz => ?_)) ?_
  rotate_left
  · go_simp; try (with_reducible rfl)
  (simp only [Act.put]); (try simp only [List.setIfInBounds_toArray]); (try simp only [List.set_cons_succ]); (try simp only [List.set_cons_zero])
  refine WpG.done (by kernel_rfl) (fun w5 hS => ?_)
  (try simp only [List.drop_succ_cons]); (try simp only [List.drop_zero]); (try simp only [Nat.reduceSub]); (try simp only [List.take_succ_cons]); (try simp only [List.take_zero])
  obtain ⟨⟨hb5, hM⟩, hsz5, hV⟩ := hS
  obtain ⟨ms, mA, mc⟩ := mq
  dsimp only at hM hV ⊢
  clear v0 v1 v2 v3 v4 v5 v6 v7 v8 v9 v10 v11 v12 y90 y91 y92 y93 y94 y95 y96 y97 y98 y99 y910 y911 y912
  replace hbw := bl_call hbw (Nat.le_refl _) hb5
  replace hv := hv.call hb5
  replace hs := hs.call hb5
  replace hy9 := hy9.call hb5
  clear hb5 hR0' hw0' hR0 hw0 HCIR HME h100 h101 hv hs hy9 HAW hszn
  go_wp2_with fail
  go_loopw [40] (fun i wr => ∃ q : Nat, q ≤ 3 ∧ i = .int .i64 q ∧ Vs wr sb [.int .u8 xk, .int .u8 xf, .int .i64 xb, .int .i64 xl, .int .i64 xm, .int .i64 xc, .slice A rs.length cp, .int .u8 yk, .int .u8 yf, .int .i64 yb, .int .i64 yl, .int .i64 ym, .int .i64 yc, .slice A rs.length cp, .int .u8 yk, .int .u8 yf, .int .i64 yb, .int .i64 yl, .int .i64 ym, .int .i64 yc, .slice mA ms.length mc] ∧ SlU wr wr.heap.size (.slice mA ms.length mc) (natsI ms) ∧ Below w.heap.size w wr) (fun i _ => 3 - (intOf i).toNat)
  case atStart => exact ⟨0, by omega, rfl, hV, hM, hbw⟩
  case round =>
    clear hV hM hbw
    obtain ⟨q, hq, rfl, hV, hM, hbw⟩ := hrel
    by_cases hlt : q < 3
    rotate_left
    · obtain rfl : q = 3 := by omega
      go_wp2_with fail
      go_ret
      exact ⟨rfl, hbw⟩
    obtain ⟨X, n, D, cd, ds, HX, hD, v0, v1, v2, v3, v4, v5, v6⟩ : ∃ (X : Raw) (n : Int) (D : Option Addr) (cd : Nat) (ds : List Nat), Hid (X.Said n) ∧ SlU wr wr.heap.size (.slice D ds.length cd) (natsI ds) ∧ wr.cell? ⟨sb, q * 7, none⟩ = some (.int .u8 X.k) ∧ wr.cell? ⟨sb, q * 7 + 1, none⟩ = some (.int .u8 X.f) ∧ wr.cell? ⟨sb, q * 7 + 2, none⟩ = some (.int .i64 X.b) ∧
        wr.cell? ⟨sb, q * 7 + 3, none⟩ = some (.int .i64 X.l) ∧ wr.cell? ⟨sb, q * 7 + 4, none⟩ = some (.int .i64 X.m) ∧ wr.cell? ⟨sb, q * 7 + 5, none⟩ = some (.int .i64 X.c) ∧ wr.cell? ⟨sb, q * 7 + 6, none⟩ = some (.slice D ds.length cd) := by
      have h2 : q = 0 ∨ q = 1 ∨ q = 2 := by omega
      have hR2 := (HR.out.below hbw).mono hbw.size
      rcases h2 with rfl | rfl | rfl
      · exact ⟨_, _, _, _, _, HS0, hR2, hV.cell 0 _ rfl, hV.cell 1 _ rfl, hV.cell 2 _ rfl, hV.cell 3 _ rfl, hV.cell 4 _ rfl, hV.cell 5 _ rfl, hV.cell 6 _ rfl⟩
      · exact ⟨_, _, _, _, _, HS1, hR2, hV.cell 7 _ rfl, hV.cell 8 _ rfl, hV.cell 9 _ rfl, hV.cell 10 _ rfl, hV.cell 11 _ rfl, hV.cell 12 _ rfl, hV.cell 13 _ rfl⟩
      · exact ⟨_, _, _, _, _, HS1, hM, hV.cell 14 _ rfl, hV.cell 15 _ rfl, hV.cell 16 _ rfl, hV.cell 17 _ rfl, hV.cell 18 _ rfl, hV.cell 19 _ rfl, hV.cell 20 _ rfl⟩
    clear HS0 HS1 HR
    have hES := enc_said HX.out D cd ds
    have hbw0 := hbw
    obtain ⟨K, G, B, L, M, C⟩ := X
    dsimp only at v0 v1 v2 v3 v4 v5 v6
    have HREF := Lib.hid (fun wz => law10_Ref K G B L M C HX.out.k0 HX.out.k1 HX.out.f0 HX.out.f1 wz)
    have hlt2 : decide ((q : Int) < 3) = true := by simp; omega
    go_upto_region 9 with fail
    clear v0 v1 v2 v3 v4 v5 v6 hlt2
    have hx := Vs.new wr [.int .u8 K, .int .u8 G, .int .i64 B, .int .i64 L, .int .i64 M, .int .i64 C, .slice D ds.length cd] #[.int .u8 K, .int .u8 G, .int .i64 B, .int .i64 L, .int .i64 M, .int .i64 C, .slice D ds.length cd] 66 rfl
    have hbA : Below wr.heap.size wr (wr.alloc (.cells #[.int .u8 K, .int .u8 G, .int .i64 B, .int .i64 L, .int .i64 M, .int .i64 C, .slice D ds.length cd] 66)) := by repeat (first | exact Below.refl _ _ | with_reducible assumption | (refine bl_alloc ?_ (Nat.le_refl _) _))
    replace hbw := bl_call hbw (Nat.le_refl _) hbA
    replace hV := hV.call hbA
    replace hM := hM.later hbA
    replace hD := hD.later hbA
    clear hbA
    generalize wr.alloc (.cells #[.int .u8 K, .int .u8 G, .int .i64 B, .int .i64 L, .int .i64 M, .int .i64 C, .slice D ds.length cd] 66) = w6 at hbw hV hM hD hx ⊢
    have hxl : wr.heap.size < w6.heap.size := hx.lt
    have hxb : w.heap.size ≤ wr.heap.size := hbw0.size
    generalize wr.heap.size = xb0 at *
    obtain ⟨⟨x0, x1, x2, x3, x4, x5, x6⟩, ⟨x7, x8, x9, x10, x11, x12, x13⟩, x14⟩ := hx.get7
    rcases hES with ⟨ec, hec, hE1, hE2⟩ | ⟨F', Y, hI, hlen, hok⟩
    · skip
      unfold Raw.val at hE1
      unfold Raw.rval at hE2
      dsimp only at hE1 hE2
      have HE1 := Lib.hid hE1
      have HE2 := Lib.hid hE2
      clear hE1 hE2
      have hec1 : (ec == 0) = false := by simpa using hec
      have hec2 : (ec != 0) = true := by simpa using hec
      go_upto_region 10 with (first
        | (go_at_call 38; refine (HE1.out _ hD).mono ?_; rintro e w7 ⟨rfl, hb7⟩; replace hbw := bl_call hbw (Nat.le_refl _) hb7; replace hV := hV.call hb7; replace hM := hM.later hb7; replace hD := hD.later hb7; replace hx := hx.call hb7; clear x0 x1 x2 x3 x4 x5 x6 x7 x8 x9 x10 x11 x12 x13 x14; clear hb7; obtain ⟨⟨x0, x1, x2, x3, x4, x5, x6⟩, ⟨x7, x8, x9, x10, x11, x12, x13⟩, x14⟩ := hx.get7))
      refine region_B (n := 10) (m := 11) (f := 10) (by kernel_rfl) (by kernel_rfl) rfl ?_
      refine WpH.takeD 0 (some 53) (v := ?_) rfl rfl (by kernel_rfl) (fun _ _ _ h => h) (.val rfl (fun wz hwz => ?_)) ?_
      rotate_left
      · go_simp; try (with_reducible rfl)
      (simp only [Act.put]); (try simp only [List.setIfInBounds_toArray]); (try simp only [List.set_cons_succ]); (try simp only [List.set_cons_zero])
      refine WpH.takeD 1 (some 54) (v := ?_) rfl rfl (by kernel_rfl) (fun _ _ _ h => h) (.val rfl (fun wz hwz => ?_)) ?_
      rotate_left
      · (obtain ⟨hcz, hfz⟩ := bcell hwz; go_simp; try (with_reducible rfl))
      (simp only [Act.put]); (try simp only [List.setIfInBounds_toArray]); (try simp only [List.set_cons_succ]); (try simp only [List.set_cons_zero])
      refine WpH.takeD 2 (some 55) rfl rfl (by kernel_rfl) (fun _ _ _ h => h) (.call rfl (fun wz hwz => HREF.out wz) (fun wz hwz => ?_)) ?_
      · go_simp; try (with_reducible rfl)
      (simp only [Act.put]); (try simp only [List.setIfInBounds_toArray]); (try simp only [List.set_cons_succ]); (try simp only [List.set_cons_zero])
      refine WpH.takeD 3 (some 56) (v := ?_) rfl rfl (by kernel_rfl) (fun _ _ _ h => h) (.val rfl (fun wz hwz => ?_)) ?_
      rotate_left
      · go_simp; try (with_reducible rfl)
      (simp only [Act.put]); (try simp only [List.setIfInBounds_toArray]); (try simp only [List.set_cons_succ]); (try simp only [List.set_cons_zero])
      refine WpH.takeD 4 (some 57) (v := ?_) rfl rfl (by kernel_rfl) (fun _ _ _ h => h) (.val rfl (fun wz hwz => ?_)) ?_
      rotate_left
      · (obtain ⟨hcz, hfz⟩ := bcell hwz; go_simp; try (with_reducible rfl))
      (simp only [Act.put]); (try simp only [List.setIfInBounds_toArray]); (try simp only [List.set_cons_succ]); (try simp only [List.set_cons_zero])
      refine WpH.takeD 5 (some 58) rfl rfl (by kernel_rfl) (fun _ _ _ h => h) (.call rfl (fun wz hwz => HE2.out wz (hD.later hwz)) (fun wz hwz => ?_)) ?_
      · go_simp; try (with_reducible rfl)
      (simp only [Act.put]); (try simp only [List.setIfInBounds_toArray]); (try simp only [List.set_cons_succ]); (try simp only [List.set_cons_zero])
      refine WpH.takeD 6 (some 52) (v := ?_) rfl rfl (by kernel_rfl) (fun _ _ _ h => h) (.val rfl (fun wz hwz => ?_)) ?_
      rotate_left
      · go_simp; try (with_reducible rfl)
      (simp only [Act.put]); (try simp only [List.setIfInBounds_toArray]); (try simp only [List.set_cons_succ]); (try simp only [List.set_cons_zero])
      refine WpH.takeD 7 (some 59) (v := ?_) rfl rfl (by kernel_rfl) (fun _ _ _ h => h) (.val rfl (fun wz hwz => ?_)) ?_
      rotate_left
      · go_simp; try (with_reducible rfl)
      (simp only [Act.put]); (try simp only [List.setIfInBounds_toArray]); (try simp only [List.set_cons_succ]); (try simp only [List.set_cons_zero])
      refine WpH.takeD 8 (some 60) (v := ?_) rfl rfl (by kernel_rfl) (fun _ _ _ h => h) (.val rfl (fun wz hwz => ?_)) ?_
      rotate_left
      · go_simp; try (with_reducible rfl)
      (simp only [Act.put]); (try simp only [List.setIfInBounds_toArray]); (try simp only [List.set_cons_succ]); (try simp only [List.set_cons_zero])
      refine WpH.takeD 9 (some 12) (v := ?_) rfl rfl (by kernel_rfl) (fun _ _ _ h => h) (.val rfl (fun wz hwz => ?_)) ?_
      rotate_left
      · go_simp; try (with_reducible rfl)
      (simp only [Act.put]); (try simp only [List.setIfInBounds_toArray]); (try simp only [List.set_cons_succ]); (try simp only [List.set_cons_zero])
      refine WpH.doneB (by kernel_rfl) (fun w8 hw8 => ?_)
      (try simp only [List.drop_succ_cons]); (try simp only [List.drop_zero]); (try simp only [Nat.reduceSub]); (try simp only [List.take_succ_cons]); (try simp only [List.take_zero])
      clear x0 x1 x2 x3 x4 x5 x6 x7 x8 x9 x10 x11 x12 x13 x14
      replace hbw := bl_call hbw (Nat.le_refl _) hw8
      replace hV := hV.call hw8
      replace hM := hM.later hw8
      replace hD := hD.later hw8
      replace hx := hx.call hw8
      clear hw8 HE1 HE2 HREF
      go_wp2_with fail
      go_loopw [73] (fun i wi => i = .int .i64 0 ∧ wi = w8) (fun _ _ => 0)
      case atStart => exact ⟨rfl, rfl⟩
      case round =>
        obtain ⟨rfl, rfl⟩ := hrel
        go_wp2_with fail
        go_roundw
        case rel => exact ⟨q + 1, by omega, by go_num, hV, hM, hbw⟩
        case measure => simp [intOf]; omega
    have hni := CK.nin_le hI.ok
    have hni1 := CK.nin_pos hI.ok
    have hno := CK.nout_le hI.ok
    have hEq : nEs (encL Y ds) = esK ((encL Y ds).map (nK F')) := (esK_nK hI.fld fun x hx => by have := enc_le hok x hx; omega).symm
    have HE1 : Hid (∀ wz, SlU wz wz.heap.size (.slice D ds.length cd) (natsI ds) → Calls Try.prog 38 #[.agg #[.int .u8 K, .int .u8 G, .int .i64 B, .int .i64 L, .int .i64 M, .int .i64 C], .slice D ds.length cd] wz fun e w' => ∃ b o cp, e = .returned (.tuple #[.slice (some ⟨b, o, none⟩) Y.nin cp, .int .i64 0]) ∧ RowE w' b o (nEs (encL Y ds)) ∧ SlE w' w'.heap.size (.slice (some ⟨b, o, none⟩) Y.nin cp) (nEs (encL Y ds)) ∧ Below wz.heap.size wz w') := fun wz hs => by
      have h := circuit_Encode_E hI.fld Y hI.ok hI.calls _ ds hlen hok wz hs
      rw [← hI.val] at h
      refine h.mono ?_
      rintro e w' ⟨A', cp', rfl, hE, hb'⟩
      obtain ⟨b', o', rfl, _, hrow⟩ := slE_some hE (by omega)
      exact ⟨b', o', cp', rfl, hrow, hE, hb'⟩
    have HE2 : Hid (∀ wz, SlU wz wz.heap.size (.slice D ds.length cd) (natsI ds) → Calls Try.prog 40 #[.agg #[.int .i64 K, .int .i64 G, .int .i64 B, .int .i64 L, .int .i64 M, .int .i64 C], .slice D ds.length cd] wz fun e w' => ∃ q : Nat × Nat × Nat, e = .returned (.tuple #[.slice (some ⟨q.1, q.2.1, none⟩) Y.nin q.2.2, .int .i64 0]) ∧ RowU w' q.1 q.2.1 (natsI (encL Y ds)) ∧ Below wz.heap.size wz w') := fun wz hs => by
      have h := ref9_Encode hI.fld Y hI.ok hI.calls _ ds wz hs hlen
      rw [← hI.rval] at h
      refine h.mono ?_
      rintro e w' (⟨_, v, rfl, hs2, hb'⟩ | ⟨hno2, _⟩)
      · obtain ⟨⟨A', c', rfl, h1, h2, h3⟩, h4⟩ := hs2
        obtain ⟨b', o', rfl, _, hrow⟩ := h3 (by rw [natsI_length, enc_length hlen]; omega)
        exact ⟨(b', o', c'), by rw [natsI_length, enc_length hlen], hrow, hb'⟩
      · exact absurd hok hno2
    have HTR : Hid (∀ wz v, SlE wz wz.heap.size v (nEs (encL Y ds)) → Calls Try.prog 41 #[.agg #[.int .u8 K, .int .u8 G, .int .i64 B, .int .i64 L, .int .i64 M, .int .i64 C], v] wz fun e w' => ∃ b o cp, e = .returned (.tuple #[.slice (some ⟨b, o, none⟩) Y.nout cp, .int .i64 0]) ∧ RowE w' b o (nEs (tgt Y ds)) ∧ Below wz.heap.size wz w') := fun wz v hs => by
      have h := circuit_Truncate hI.fld Y hI.ok hI.calls v (nEs (encL Y ds)) wz hs (by rw [nEs_length, enc_length hlen])
      rw [← hI.val] at h
      refine h.mono ?_
      rintro e w' ⟨v', rfl, hE, hb'⟩
      rw [hEq, trunc_enc hI.fld Y hI.ok hlen hok] at hE
      obtain ⟨⟨A', c', rfl, h1, h2, h3⟩, h4⟩ := hE
      obtain ⟨b', o', rfl, _, hrow⟩ := h3 (by rw [nEs_length, tgt_length hlen]; omega)
      exact ⟨b', o', c', by rw [nEs_length, tgt_length hlen], hrow, hb'⟩
    have HVAL : Hid (∀ wz v, SlE wz wz.heap.size v (nEs (encL Y ds)) → Calls Try.prog 42 #[.agg #[.int .u8 K, .int .u8 G, .int .i64 B, .int .i64 L, .int .i64 M, .int .i64 C], v] wz fun e w' => e = .returned (.bool true) ∧ Below wz.heap.size wz w') := fun wz v hs => by
      rw [hEq] at hs
      have h := circuit_Valid hI.fld Y hI.ok hI.calls v _ wz hs.toK (by rw [List.length_map, enc_length hlen])
      rw [← hI.val] at h
      refine h.mono ?_
      rintro e w' ⟨⟨bb, rfl, hbb⟩, hb'⟩
      rw [hbb.2 (enc_okVec Y hI.ok hlen hok)]
      exact ⟨rfl, hb'⟩
    have HOUT : Hid (∀ wz, Calls Try.prog 43 #[.agg #[.int .u8 K, .int .u8 G, .int .i64 B, .int .i64 L, .int .i64 M, .int .i64 C]] wz (RetI Y.nout wz)) := fun wz => by
      have h := circuit_Out F' Y hI.ok wz
      rw [← hI.val] at h
      exact h
    have hkind := tgt_kind Y hlen
    have hK : K = ((Y.k : Nat) : Int) := by
      have hval := hI.val
      unfold Raw.val CK.val at hval
      simp at hval
      exact hval.1
    have hkind2 : (K = 4 ∧ ds.length = 1 ∧ ∃ n0 : Nat, Hid (ds[0]? = some n0) ∧ Hid (∀ i, i < Y.nout → (tgt Y ds)[i]? = some (if i = n0 then 1 else 0))) ∨ ((K == 4) = false ∧ Hid (tgt Y ds = ds) ∧ Hid (ds.length = Y.nout)) := by
      rcases hkind with ⟨h1, h2, n0, h3, h4⟩ | ⟨h1, h2, h3⟩
      · exact .inl ⟨by omega, h2, n0, h3, h4⟩
      · exact .inr ⟨by rw [beq_eq_false_iff_ne]; omega, h2, h3⟩
    have hds : 0 < ds.length := by
      rcases hkind2 with ⟨_, h, _⟩ | ⟨_, _, h⟩
      · omega
      · rw [h.out]
        omega
    have HLL : Hid ((encL Y ds).length = Y.nin) := enc_length hlen
    have HTL : Hid ((tgt Y ds).length = Y.nout) := tgt_length hlen
    clear hkind hK hEq hI hlen hok
    generalize Y.nin = ni at *
    generalize Y.nout = no at *
    generalize encL Y ds = Ls at *
    generalize tgt Y ds = Ts at *
    obtain ⟨db, dof, rfl, _, hrD⟩ := slU_some hD hds
    have EQL : ∀ (a0 a1 b0 b1 : Int) (wz : World), (Op.equalIn 10000 41 (.agg #[.int .u64 a0, .int .u64 a1]) (.agg #[.int .u64 b0, .int .u64 b1])).run Try.prog wz = .ok (a0 == b0 && a1 == b1) wz := fun a0 a1 b0 b1 wz => run_equalIn_elem 9998 a0 a1 b0 b1 wz
    go_wp2_with fail
    refine (HE1.out _ hD).mono ?_
    rintro e w7 ⟨gb, gof, gc, rfl, hrG, hG, hb7⟩
    clear x0 x1 x2 x3 x4 x5 x6 x7 x8 x9 x10 x11 x12 x13 x14
    replace hbw := bl_call hbw (Nat.le_refl _) hb7
    replace hV := hV.call hb7
    replace hM := hM.later hb7
    replace hD := hD.later hb7
    replace hx := hx.call hb7
    replace hrD := hrD.call hb7
    clear hb7 HE1
    obtain ⟨⟨x0, x1, x2, x3, x4, x5, x6⟩, ⟨x7, x8, x9, x10, x11, x12, x13⟩, x14⟩ := hx.get7
    go_upto_region 10 with fail
    refine region_G (n := 10) (m := 11) (f := 10) (by kernel_rfl) (by kernel_rfl) rfl ?_
    refine WpG.takeD 0 (some 53) (v := ?_) rfl rfl (by kernel_rfl) (fun _ _ _ h => h) (.val rfl (fun wz hwz => ?_)) ?_
    rotate_left
    · go_simp; try (with_reducible rfl)
    (simp only [Act.put]); (try simp only [List.setIfInBounds_toArray]); (try simp only [List.set_cons_succ]); (try simp only [List.set_cons_zero])
    refine WpG.takeD 1 (some 54) (v := ?_) rfl rfl (by kernel_rfl) (fun _ _ _ h => h) (.val rfl (fun wz hwz => ?_)) ?_
    rotate_left
    · (obtain ⟨hcz, hfz⟩ := bcell (hwz); go_simp; try (with_reducible rfl))
    (simp only [Act.put]); (try simp only [List.setIfInBounds_toArray]); (try simp only [List.set_cons_succ]); (try simp only [List.set_cons_zero])
    refine WpG.takeD 2 (some 55) rfl rfl (by kernel_rfl) (fun _ _ _ h => h) (.call rfl (fun wz hwz => HREF.out wz) (fun wz hwz => ?_)) ?_
    · go_simp; try (with_reducible rfl)
    (simp only [Act.put]); (try simp only [List.setIfInBounds_toArray]); (try simp only [List.set_cons_succ]); (try simp only [List.set_cons_zero])
    refine WpG.takeD 3 (some 56) (v := ?_) rfl rfl (by kernel_rfl) (fun _ _ _ h => h) (.val rfl (fun wz hwz => ?_)) ?_
    rotate_left
    · go_simp; try (with_reducible rfl)
    (simp only [Act.put]); (try simp only [List.setIfInBounds_toArray]); (try simp only [List.set_cons_succ]); (try simp only [List.set_cons_zero])
    refine WpG.takeD 4 (some 57) (v := ?_) rfl rfl (by kernel_rfl) (fun _ _ _ h => h) (.val rfl (fun wz hwz => ?_)) ?_
    rotate_left
    · (obtain ⟨hcz, hfz⟩ := bcell (hwz); go_simp; try (with_reducible rfl))
    (simp only [Act.put]); (try simp only [List.setIfInBounds_toArray]); (try simp only [List.set_cons_succ]); (try simp only [List.set_cons_zero])
    refine WpG.oneD 5 (some 58) rfl rfl (by kernel_rfl) (fun q : Nat × Nat × Nat => Value.tuple #[.slice (some ⟨q.1, q.2.1, none⟩) ni q.2.2, .int .i64 0]) (fun q wz => RowU wz q.1 q.2.1 (natsI Ls)) (fun _ _ _ h hb => h.call hb) (Fresh.call rfl (fun wz hwz => HE2.out wz (hD.later (hwz))) (fun wz hwz => by go_simp; try (with_reducible rfl))) (fun wq w0 hw0 hR0 => ?_)
    (simp only [Act.put]); (try simp only [List.setIfInBounds_toArray]); (try simp only [List.set_cons_succ]); (try simp only [List.set_cons_zero])
    refine WpG.takeD 6 (some 52) (v := ?_) rfl rfl (by kernel_rfl) (fun _ _ _ h => h) (.val rfl (fun wz hwz => ?_)) ?_
    rotate_left
    · go_simp; try (with_reducible rfl)
    (simp only [Act.put]); (try simp only [List.setIfInBounds_toArray]); (try simp only [List.set_cons_succ]); (try simp only [List.set_cons_zero])
    refine WpG.takeD 7 (some 59) (v := ?_) rfl rfl (by kernel_rfl) (fun _ _ _ h => h) (.val rfl (fun wz hwz => ?_)) ?_
    rotate_left
    · go_simp; try (with_reducible rfl)
    (simp only [Act.put]); (try simp only [List.setIfInBounds_toArray]); (try simp only [List.set_cons_succ]); (try simp only [List.set_cons_zero])
    refine WpG.takeD 8 (some 60) (v := ?_) rfl rfl (by kernel_rfl) (fun _ _ _ h => h) (.val rfl (fun wz hwz => ?_)) ?_
    rotate_left
    · go_simp; try (with_reducible rfl)
    (simp only [Act.put]); (try simp only [List.setIfInBounds_toArray]); (try simp only [List.set_cons_succ]); (try simp only [List.set_cons_zero])
    refine WpG.takeD 9 (some 12) (v := ?_) rfl rfl (by kernel_rfl) (fun _ _ _ h => h) (.val rfl (fun wz hwz => ?_)) ?_
    rotate_left
    · go_simp; try (with_reducible rfl)
    (simp only [Act.put]); (try simp only [List.setIfInBounds_toArray]); (try simp only [List.set_cons_succ]); (try simp only [List.set_cons_zero])
    refine WpG.done (by kernel_rfl) (fun w8 hS => ?_)
    (try simp only [List.drop_succ_cons]); (try simp only [List.drop_zero]); (try simp only [Nat.reduceSub]); (try simp only [List.take_succ_cons]); (try simp only [List.take_zero])
    obtain ⟨hb8, hrW⟩ := hS
    obtain ⟨wb, wof, wc⟩ := wq
    dsimp only at hrW ⊢
    clear x0 x1 x2 x3 x4 x5 x6 x7 x8 x9 x10 x11 x12 x13 x14
    replace hbw := bl_call hbw (Nat.le_refl _) hb8
    replace hV := hV.call hb8
    replace hM := hM.later hb8
    replace hD := hD.later hb8
    replace hx := hx.call hb8
    replace hrD := hrD.call hb8
    replace hrG := hrG.call hb8
    replace hG := hG.later hb8
    clear hb8 HE2 hR0 hw0 HREF
    go_wp2_with fail
    go_loopw [73] (fun i wi => ∃ j : Nat, j ≤ ni ∧ i = .int .i64 j ∧ Vs wi xb0 [.int .u8 K, .int .u8 G, .int .i64 B, .int .i64 L, .int .i64 M, .int .i64 C, .slice (some ⟨db, dof, none⟩) ds.length cd] ∧
      Vs wi sb [.int .u8 xk, .int .u8 xf, .int .i64 xb, .int .i64 xl, .int .i64 xm, .int .i64 xc, .slice A rs.length cp, .int .u8 yk, .int .u8 yf, .int .i64 yb, .int .i64 yl, .int .i64 ym, .int .i64 yc, .slice A rs.length cp, .int .u8 yk, .int .u8 yf, .int .i64 yb, .int .i64 yl, .int .i64 ym, .int .i64 yc, .slice mA ms.length mc] ∧ SlU wi wi.heap.size (.slice mA ms.length mc) (natsI ms) ∧ RowU wi db dof (natsI ds) ∧ RowE wi gb gof (nEs Ls) ∧ RowU wi wb wof (natsI Ls) ∧ SlE wi wi.heap.size (.slice (some ⟨gb, gof, none⟩) ni gc) (nEs Ls) ∧ Below w.heap.size w wi) (fun i _ => ni - (intOf i).toNat)
    case atStart => exact ⟨0, Nat.zero_le _, rfl, hx, hV, hM, hrD, hrG, hrW, hG, hbw⟩
    case round =>
      clear hx hV hM hrD hrG hrW hG hbw hD
      obtain ⟨j, hj, rfl, hx, hV, hM, hrD, hrG, hrW, hG, hbw⟩ := hrel
      by_cases hlj : j < ni
      · obtain ⟨e, he⟩ : ∃ e, Ls[j]? = some e := ⟨_, List.getElem?_eq_getElem (by rw [HLL.out]; exact hlj)⟩
        obtain ⟨d0, d1⟩ := hrG _ _ (nEs_at he)
        have d2 := hrW _ _ (natsI_at he)
        dsimp only at d0 d1 d2
        clear he
        have hlj2 : (0 : Int) ≤ (j : Int) ∧ (j : Int) < (ni : Int) := by omega
        obtain ⟨hlj3, hlj4⟩ := hlj2
        have hgb : gb < wr.heap.size := lt_of_cell d0
        have hwb : wb < wr.heap.size := lt_of_cell d2
        go_upto_region 16 with fail
        refine region_B (n := 9) (m := 10) (f := 9) (by kernel_rfl) (by kernel_rfl) rfl ?_
        refine WpH.takeD 0 (some 76) (v := ?_) rfl rfl (by kernel_rfl) (fun _ _ _ h => h) (.val rfl (fun wz hwz => ?_)) ?_
        rotate_left
        · go_simp; try (with_reducible rfl)
        (simp only [Act.put]); (try simp only [List.setIfInBounds_toArray]); (try simp only [List.set_cons_succ]); (try simp only [List.set_cons_zero])
        refine WpH.takeD 1 (some 77) (v := ?_) rfl rfl (by kernel_rfl) (fun _ _ _ h => h) (.val rfl (fun wz hwz => ?_)) ?_
        rotate_left
        · go_simp; try (with_reducible rfl)
        (simp only [Act.put]); (try simp only [List.setIfInBounds_toArray]); (try simp only [List.set_cons_succ]); (try simp only [List.set_cons_zero])
        refine WpH.takeD 2 (some 78) (v := ?_) rfl rfl (by kernel_rfl) (fun _ _ _ h => h) (.val rfl (fun wz hwz => ?_)) ?_
        rotate_left
        · go_simp; try (with_reducible rfl)
        (simp only [Act.put]); (try simp only [List.setIfInBounds_toArray]); (try simp only [List.set_cons_succ]); (try simp only [List.set_cons_zero])
        refine WpH.takeD 3 (some 79) (v := ?_) rfl rfl (by kernel_rfl) (fun _ _ _ h => h) (.val rfl (fun wz hwz => ?_)) ?_
        rotate_left
        · (obtain ⟨hcz, hfz⟩ := bcell hwz; go_simp; try (with_reducible rfl))
        (simp only [Act.put]); (try simp only [List.setIfInBounds_toArray]); (try simp only [List.set_cons_succ]); (try simp only [List.set_cons_zero])
        refine WpH.takeD 4 (some 80) (v := ?_) rfl rfl (by kernel_rfl) (fun _ _ _ h => h) (.val rfl (fun wz hwz => ?_)) ?_
        rotate_left
        · go_simp; try (with_reducible rfl)
        (simp only [Act.put]); (try simp only [List.setIfInBounds_toArray]); (try simp only [List.set_cons_succ]); (try simp only [List.set_cons_zero])
        refine WpH.takeD 5 (some 81) (v := ?_) rfl rfl (by kernel_rfl) (fun _ _ _ h => h) (.val rfl (fun wz hwz => ?_)) ?_
        rotate_left
        · go_simp; try (with_reducible rfl)
        (simp only [Act.put]); (try simp only [List.setIfInBounds_toArray]); (try simp only [List.set_cons_succ]); (try simp only [List.set_cons_zero])
        refine WpH.takeD 6 (some 82) (v := ?_) rfl rfl (by kernel_rfl) (fun _ _ _ h => h) (.val rfl (fun wz hwz => ?_)) ?_
        rotate_left
        · go_simp; try (with_reducible rfl)
        (simp only [Act.put]); (try simp only [List.setIfInBounds_toArray]); (try simp only [List.set_cons_succ]); (try simp only [List.set_cons_zero])
        refine WpH.takeD 7 (some 83) (v := ?_) rfl rfl (by kernel_rfl) (fun _ _ _ h => h) (.val rfl (fun wz hwz => ?_)) ?_
        rotate_left
        · (obtain ⟨hcz, hfz⟩ := bcell hwz; go_simp; try (with_reducible rfl))
        (simp only [Act.put]); (try simp only [List.setIfInBounds_toArray]); (try simp only [List.set_cons_succ]); (try simp only [List.set_cons_zero])
        refine WpH.takeD 8 (some 84) (v := ?_) rfl rfl (by kernel_rfl) (fun _ _ _ h => h) (.val rfl (fun wz hwz => ?_)) ?_
        rotate_left
        · go_simp; try (with_reducible rfl)
        (simp only [Act.put]); (try simp only [List.setIfInBounds_toArray]); (try simp only [List.set_cons_succ]); (try simp only [List.set_cons_zero])
        refine WpH.doneB (by kernel_rfl) (fun w9 hw9 => ?_)
        (try simp only [List.drop_succ_cons]); (try simp only [List.drop_zero]); (try simp only [Nat.reduceSub]); (try simp only [List.take_succ_cons]); (try simp only [List.take_zero])
        clear d0 d1 d2
        replace hbw := bl_call hbw (Nat.le_refl _) hw9
        replace hV := hV.call hw9
        replace hM := hM.later hw9
        replace hx := hx.call hw9
        replace hrD := hrD.call hw9
        replace hrG := hrG.call hw9
        replace hrW := hrW.call hw9
        replace hG := hG.later hw9
        go_wp2_with fail
        go_roundw
        case rel => exact ⟨j + 1, by omega, by go_num, hx, hV, hM, hrD, hrG, hrW, hG, hbw⟩
        case measure => simp [intOf]; omega
      obtain rfl : j = ni := by omega
      obtain ⟨⟨x0, x1, x2, x3, x4, x5, x6⟩, ⟨x7, x8, x9, x10, x11, x12, x13⟩, x14⟩ := hx.get7
      go_wp2_with fail
      refine (HTR.out _ _ hG).mono ?_
      rintro e w9 ⟨tb, tof, tc, rfl, hrT, hb9⟩
      clear x0 x1 x2 x3 x4 x5 x6 x7 x8 x9 x10 x11 x12 x13 x14
      replace hbw := bl_call hbw (Nat.le_refl _) hb9
      replace hV := hV.call hb9
      replace hM := hM.later hb9
      replace hx := hx.call hb9
      replace hrD := hrD.call hb9
      replace hG := hG.later hb9
      clear hb9 HTR
      obtain ⟨⟨x0, x1, x2, x3, x4, x5, x6⟩, ⟨x7, x8, x9, x10, x11, x12, x13⟩, x14⟩ := hx.get7
      go_upto_region 23 with (first
        | (go_at_call 42; refine (HVAL.out _ _ hG).mono ?_; rintro e w10 ⟨rfl, hb10⟩; replace hbw := bl_call hbw (Nat.le_refl _) hb10; replace hV := hV.call hb10; replace hM := hM.later hb10; replace hx := hx.call hb10; replace hrD := hrD.call hb10; replace hG := hG.later hb10; replace hrT := hrT.call hb10; clear x0 x1 x2 x3 x4 x5 x6 x7 x8 x9 x10 x11 x12 x13 x14; clear hb10; obtain ⟨⟨x0, x1, x2, x3, x4, x5, x6⟩, ⟨x7, x8, x9, x10, x11, x12, x13⟩, x14⟩ := hx.get7)
        | (go_at_call 43; refine (HOUT.out _).mono ?_; rintro e w11 ⟨rfl, hb11⟩; replace hbw := bl_call hbw (Nat.le_refl _) hb11; replace hV := hV.call hb11; replace hM := hM.later hb11; replace hx := hx.call hb11; replace hrD := hrD.call hb11; replace hG := hG.later hb11; replace hrT := hrT.call hb11; clear x0 x1 x2 x3 x4 x5 x6 x7 x8 x9 x10 x11 x12 x13 x14; clear hb11; obtain ⟨⟨x0, x1, x2, x3, x4, x5, x6⟩, ⟨x7, x8, x9, x10, x11, x12, x13⟩, x14⟩ := hx.get7))
      clear x0 x1 x2 x3 x4 x5 x6 x7 x8 x9 x10 x11 x12 x13 x14
      clear HVAL HOUT hG hrG hrW HLL
      go_wp2_with fail
      have hrd := hbw.size
      go_loopw [115] (fun i wi => ∃ j : Nat, j ≤ no ∧ i = .int .i64 j ∧ Vs wi xb0 [.int .u8 K, .int .u8 G, .int .i64 B, .int .i64 L, .int .i64 M, .int .i64 C, .slice (some ⟨db, dof, none⟩) ds.length cd] ∧
        Vs wi sb [.int .u8 xk, .int .u8 xf, .int .i64 xb, .int .i64 xl, .int .i64 xm, .int .i64 xc, .slice A rs.length cp, .int .u8 yk, .int .u8 yf, .int .i64 yb, .int .i64 yl, .int .i64 ym, .int .i64 yc, .slice A rs.length cp, .int .u8 yk, .int .u8 yf, .int .i64 yb, .int .i64 yl, .int .i64 ym, .int .i64 yc, .slice mA ms.length mc] ∧ SlU wi wi.heap.size (.slice mA ms.length mc) (natsI ms) ∧ RowU wi db dof (natsI ds) ∧ RowE wi tb tof (nEs Ts) ∧ Below w.heap.size w wi) (fun i _ => no - (intOf i).toNat)
      case atStart => exact ⟨0, Nat.zero_le _, rfl, hx, hV, hM, hrD, hrT, hbw⟩
      case round =>
        clear hx hV hM hrD hrT hbw hrd
        obtain ⟨j2, hj2, rfl, hx, hV, hM, hrD, hrT, hbw⟩ := hrel
        by_cases hlj : j2 < no
        rotate_left
        · obtain rfl : j2 = no := by omega
          go_wp2_with fail
          go_roundw
          case rel => exact ⟨q + 1, by omega, by go_num, hV, hM, hbw⟩
          case measure => simp [intOf]; omega
        obtain ⟨tj, he⟩ : ∃ e, Ts[j2]? = some e := ⟨_, List.getElem?_eq_getElem (by rw [HTL.out]; exact hlj)⟩
        obtain ⟨d0, d1⟩ := hrT _ _ (nEs_at he)
        dsimp only at d0 d1
        have HTJ := Lib.hid he
        clear he
        go_upto_region 26 with fail
        clear d0 d1
        have hv := V2.new wr (.int .u64 tj) (.int .u64 0) 41
        have hbA : Below wr.heap.size wr (wr.alloc (.cells #[.int .u64 tj, .int .u64 0] 41)) := by repeat (first | exact Below.refl _ _ | with_reducible assumption | (refine bl_alloc ?_ (Nat.le_refl _) _))
        replace hbw := bl_call hbw (Nat.le_refl _) hbA
        replace hV := hV.call hbA
        replace hM := hM.later hbA
        replace hx := hx.call hbA
        replace hrD := hrD.call hbA
        replace hrT := hrT.call hbA
        clear hbA
        generalize wr.alloc (.cells #[.int .u64 tj, .int .u64 0] 41) = w12 at hbw hV hM hx hrD hrT hv ⊢
        obtain ⟨⟨x0, x1, x2, x3, x4, x5, x6⟩, ⟨x7, x8, x9, x10, x11, x12, x13⟩, x14⟩ := hx.get7
        obtain ⟨v0, v1, v2, v3, v4⟩ := V2.mk hv.c0 hv.c1 hv.f0 hv.f1 hv.lt
        rcases hkind2 with ⟨rfl, hd1, n0, hn0, hT0⟩ | ⟨hk4, hTD, hdn⟩
        · have e0 := hrD _ _ (natsI_at hn0.out)
          rw [Nat.add_zero] at e0
          have hw9 : IntKind.u64.wrap (j2 : Int) = (j2 : Int) := IntWalk.u64_in _ (by omega)
          have hdi : (0 : Int) < (ds.length : Int) := by omega
          have htj := Option.some.inj (HTJ.out.symm.trans (hT0.out j2 hlj))
          by_cases hjn : j2 = n0
          · obtain rfl := hjn
            rw [if_pos rfl] at htj
            subst htj
            go_wp2_with fail
            go_roundw
            case rel => exact ⟨j2 + 1, by omega, by go_num, hx, hV, hM, hrD, hrT, hbw⟩
            case measure => simp [intOf]; omega
          · rw [if_neg hjn] at htj
            subst htj
            have hjn2 : ((j2 : Int) == (n0 : Int)) = false := by rw [beq_eq_false_iff_ne]; omega
            clear hjn
            go_wp2_with fail
            go_roundw
            case rel => exact ⟨j2 + 1, by omega, by go_num, hx, hV, hM, hrD, hrT, hbw⟩
            case measure => simp [intOf]; omega
        · have hds2 : ds[j2]? = some tj := by rw [← hTD.out]; exact HTJ.out
          have e0 := hrD _ _ (natsI_at hds2)
          clear hds2
          have hjd : j2 < ds.length := by rw [hdn.out]; exact hlj
          have hk5 : (K != 4) = true := by rw [bne, hk4]; rfl
          go_wp2_with fail
          go_roundw
          case rel => exact ⟨j2 + 1, by omega, by go_num, hx, hV, hM, hrD, hrT, hbw⟩
          case measure => simp [intOf]; omega

end Go.Proofs.Ytiphahbeedeebaa
