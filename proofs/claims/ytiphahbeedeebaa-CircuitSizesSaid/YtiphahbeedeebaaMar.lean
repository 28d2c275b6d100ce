/-
  WALK: tallymanlaw10.CircuitSizes.
-/
import Derived.Test.YtiphahbeedeebaaMaq
import Derived.Test.YtiphahbeedeebaaMao
namespace Go.Proofs.Ytiphahbeedeebaa
open Go.RowKit Fm
set_option linter.unusedVariables false
set_option maxRecDepth 100000

set_option maxHeartbeats 8000000 in
theorem walk_CircuitSizes (x : Raw) (k f b l m c : Int) (w : World) (hx0 : 0 ≤ x.k ∧ x.k ≤ 255) (hx1 : 0 ≤ x.f ∧ x.f ≤ 255) (hk : 0 ≤ k ∧ k ≤ 255) (hf : 0 ≤ f ∧ f ≤ 255) (hb : 0 ≤ b ∧ b ≤ 255) (hl : 0 ≤ l ∧ l ≤ 255) (hm : 0 ≤ m ∧ m ≤ 255) (hc : 0 ≤ c ∧ c ≤ 255) :
    Calls Try.prog 13 #[x.val, .agg #[.int .u8 k, .int .u8 f, .int .u8 b, .int .u8 l, .int .u8 m, .int .u8 c]] w fun e w' => e = .returned (.bool true) ∧ Below w.heap.size w w' := by
  obtain ⟨F, y, hF, hy, hCIR⟩ := law10_Circuit k f b l m c hk.1 hk.2 hf.1 hf.2 hb.1 hb.2 hl.1 hl.2 hm.1 hm.2 hc.1 hc.2
  obtain ⟨n0, _, hchk, hrchk, his⟩ := raw_checks x
  have hS0 : x.Said n0 := ⟨hrchk, hchk, his, hx0.1, hx0.2, hx1.1, hx1.2⟩
  have hS1 : (y.raw F).Said 0 := CK.raw_said hF hy.ok hy.calls
  have HCIR := Lib.hid hCIR
  have HCHK := Lib.hid hchk
  have HRCHK := Lib.hid hrchk
  have HRCHK1 := Lib.hid hS1.chk
  have HREF := Lib.hid (fun wz => law10_Ref x.k x.f x.b x.l x.m x.c hx0.1 hx0.2 hx1.1 hx1.2 wz)
  have HREF1 := Lib.hid (fun wz => law10_Ref y.k F y.b y.l y.m y.c hS1.k0 hS1.k1 hS1.f0 hS1.f1 wz)
  have HAW := Lib.hid law10_Awake
  have HS0 := Lib.hid hS0
  have HS1 := Lib.hid hS1
  unfold CK.val at HCIR
  unfold CK.raw at HRCHK1 HS1
  unfold Raw.val at HCHK ⊢
  unfold Raw.rval at HRCHK HRCHK1
  dsimp only at HRCHK1
  clear hCIR hchk hrchk his hS0 hS1
  obtain ⟨xk, xf, xb, xl, xm, xc⟩ := x
  dsimp only at HCHK HREF HRCHK ⊢
  generalize ((y.k : Nat) : Int) = yk at *
  generalize ((y.b : Nat) : Int) = yb at *
  generalize ((y.l : Nat) : Int) = yl at *
  generalize ((y.m : Nat) : Int) = ym at *
  generalize ((y.c : Nat) : Int) = yc at *
  generalize ((F : Nat) : Int) = yf at *
  have hb00 : Below w.heap.size w w := Below.refl _ _
  go_enter Try.func13, Try.ntmps13
  go_upto_region 1 with fail
  have hv := (Vs.new w [.int .u8 xk, .int .u8 xf, .int .i64 xb, .int .i64 xl, .int .i64 xm, .int .i64 xc] #[.int .u8 xk, .int .u8 xf, .int .i64 xb, .int .i64 xl, .int .i64 xm, .int .i64 xc] 60 rfl).alloc (.cells #[.int .u8 k, .int .u8 f, .int .u8 b, .int .u8 l, .int .u8 m, .int .u8 c] 62)
  have hs := Vs.new (w.alloc (.cells #[.int .u8 xk, .int .u8 xf, .int .i64 xb, .int .i64 xl, .int .i64 xm, .int .i64 xc] 60)) [.int .u8 k, .int .u8 f, .int .u8 b, .int .u8 l, .int .u8 m, .int .u8 c] #[.int .u8 k, .int .u8 f, .int .u8 b, .int .u8 l, .int .u8 m, .int .u8 c] 62 rfl
  have hbw : Below w.heap.size w ((w.alloc (.cells #[.int .u8 xk, .int .u8 xf, .int .i64 xb, .int .i64 xl, .int .i64 xm, .int .i64 xc] 60)).alloc (.cells #[.int .u8 k, .int .u8 f, .int .u8 b, .int .u8 l, .int .u8 m, .int .u8 c] 62)) := by repeat (first | exact Below.refl _ _ | with_reducible assumption | (refine bl_alloc ?_ (Nat.le_refl _) _) | (refine bl_set ?_ (by dsimp only; omega) _) | (refine Below.drew ?_) | (refine bl_drewN ?_ _) | (refine bl_call ?_ (Nat.le_refl _) (by assumption)))
  simp only [World.size_alloc] at hs
  generalize (w.alloc (.cells #[.int .u8 xk, .int .u8 xf, .int .i64 xb, .int .i64 xl, .int .i64 xm, .int .i64 xc] 60)).alloc (.cells #[.int .u8 k, .int .u8 f, .int .u8 b, .int .u8 l, .int .u8 m, .int .u8 c] 62) = w1 at hv hs hbw ⊢
  clear hb00
  go_upto_region 3 with (first
    | (go_at_call 35; refine (HAW.out _).mono ?_; rintro e w2 ⟨rfl, hb2⟩; replace hbw := bl_call hbw (Nat.le_refl _) hb2; replace hv := hv.call hb2; replace hs := hs.call hb2))
  obtain ⟨⟨v0, v1, v2, v3, v4, v5⟩, ⟨v6, v7, v8, v9, v10, v11⟩, v12⟩ := hv.get6
  obtain ⟨⟨s0, s1, s2, s3, s4, s5⟩, ⟨s6, s7, s8, s9, s10, s11⟩, s12⟩ := hs.get6
  refine region_B (n := 5) (m := 6) (f := 5) (by kernel_rfl) (by kernel_rfl) rfl ?_
  refine WpH.takeD 0 (some 13) (v := ?_) rfl rfl (by kernel_rfl) (fun _ _ _ h => h) (.val rfl (fun wz hwz => ?_)) ?_
  rotate_left
  · (obtain ⟨hcz, hfz⟩ := bcell hwz; go_simp; try (with_reducible rfl))
  (simp only [Act.put]); (try simp only [List.setIfInBounds_toArray]); (try simp only [List.set_cons_succ]); (try simp only [List.set_cons_zero])
  refine WpH.takeD 1 (some 14) rfl rfl (by kernel_rfl) (fun _ _ _ h => h) (.call rfl (fun wz hwz => HCHK.out wz) (fun wz hwz => ?_)) ?_
  · go_simp; try (with_reducible rfl)
  (simp only [Act.put]); (try simp only [List.setIfInBounds_toArray]); (try simp only [List.set_cons_succ]); (try simp only [List.set_cons_zero])
  refine WpH.takeD 2 (some 15) (v := ?_) rfl rfl (by kernel_rfl) (fun _ _ _ h => h) (.val rfl (fun wz hwz => ?_)) ?_
  rotate_left
  · (obtain ⟨hcz, hfz⟩ := bcell hwz; go_simp; try (with_reducible rfl))
  (simp only [Act.put]); (try simp only [List.setIfInBounds_toArray]); (try simp only [List.set_cons_succ]); (try simp only [List.set_cons_zero])
  refine WpH.takeD 3 (some 16) rfl rfl (by kernel_rfl) (fun _ _ _ h => h) (.call rfl (fun wz hwz => HREF.out wz) (fun wz hwz => ?_)) ?_
  · go_simp; try (with_reducible rfl)
  (simp only [Act.put]); (try simp only [List.setIfInBounds_toArray]); (try simp only [List.set_cons_succ]); (try simp only [List.set_cons_zero])
  refine WpH.takeD 4 (some 17) rfl rfl (by kernel_rfl) (fun _ _ _ h => h) (.call rfl (fun wz hwz => HRCHK.out wz) (fun wz hwz => ?_)) ?_
  · go_simp; try (with_reducible rfl)
  (simp only [Act.put]); (try simp only [List.setIfInBounds_toArray]); (try simp only [List.set_cons_succ]); (try simp only [List.set_cons_zero])
  refine WpH.doneB (by kernel_rfl) (fun w3 hw3 => ?_)
  (try simp only [List.drop_succ_cons]); (try simp only [List.drop_zero]); (try simp only [Nat.reduceSub]); (try simp only [List.take_succ_cons]); (try simp only [List.take_zero])
  clear v0 v1 v2 v3 v4 v5 v6 v7 v8 v9 v10 v11 v12 s0 s1 s2 s3 s4 s5 s6 s7 s8 s9 s10 s11 s12
  replace hbw := bl_call hbw (Nat.le_refl _) hw3
  replace hv := hv.call hw3
  replace hs := hs.call hw3
  obtain ⟨⟨v0, v1, v2, v3, v4, v5⟩, ⟨v6, v7, v8, v9, v10, v11⟩, v12⟩ := hv.get6
  obtain ⟨⟨s0, s1, s2, s3, s4, s5⟩, ⟨s6, s7, s8, s9, s10, s11⟩, s12⟩ := hs.get6
  go_upto_region 5 with fail
  refine region_G (n := 6) (m := 6) (f := 6) (by kernel_rfl) (by kernel_rfl) rfl ?_
  refine WpG.takeD 0 (some 19) (v := ?_) rfl rfl (by kernel_rfl) (fun _ _ _ h => h) (.val rfl (fun wz hwz => ?_)) ?_
  rotate_left
  · (obtain ⟨hcz, hfz⟩ := bcell (hwz); go_simp; try (with_reducible rfl))
  (simp only [Act.put]); (try simp only [List.setIfInBounds_toArray]); (try simp only [List.set_cons_succ]); (try simp only [List.set_cons_zero])
  refine WpG.takeD 1 (some 20) (v := ?_) rfl rfl (by kernel_rfl) (fun _ _ _ h => h) (.val rfl (fun wz hwz => ?_)) ?_
  rotate_left
  · (obtain ⟨hcz, hfz⟩ := bcell (hwz); go_simp; try (with_reducible rfl))
  (simp only [Act.put]); (try simp only [List.setIfInBounds_toArray]); (try simp only [List.set_cons_succ]); (try simp only [List.set_cons_zero])
  refine WpG.takeD 2 (some 21) rfl rfl (by kernel_rfl) (fun _ _ _ h => h) (.call rfl (fun wz hwz => HCIR.out wz) (fun wz hwz => ?_)) ?_
  · go_simp; try (with_reducible rfl)
  (simp only [Act.put]); (try simp only [List.setIfInBounds_toArray]); (try simp only [List.set_cons_succ]); (try simp only [List.set_cons_zero])
  refine WpG.takeD 5 (some 24) (v := ?_) rfl rfl (by kernel_rfl) (fun _ _ _ h => h) (.val rfl (fun wz hwz => ?_)) ?_
  rotate_left
  · go_simp; try (with_reducible rfl)
  (simp only [Act.put]); (try simp only [List.setIfInBounds_toArray]); (try simp only [List.set_cons_succ]); (try simp only [List.set_cons_zero])
  refine WpG.oneD 3 (some 22) rfl rfl (by kernel_rfl) (fun b : Nat => Value.slice (some ⟨b, 0, none⟩) 2 2) (fun b wz => w3.heap.size ≤ b ∧ Vs wz b [.int .u8 xk, .int .u8 xf, .int .i64 xb, .int .i64 xl, .int .i64 xm, .int .i64 xc, .int .u8 yk, .int .u8 yf, .int .i64 yb, .int .i64 yl, .int .i64 ym, .int .i64 yc]) (fun _ _ _ h hb => ⟨h.1, h.2.call hb⟩) (Fresh.slice 2 2 [.int .u8 xk, .int .u8 xf, .int .i64 xb, .int .i64 xl, .int .i64 xm, .int .i64 xc, .int .u8 yk, .int .u8 yf, .int .i64 yb, .int .i64 yl, .int .i64 ym, .int .i64 yc] 60 rfl (fun wz hwz => (hwz).size) (fun wz hwz => by go_simp; try (with_reducible rfl)) (R := fun b wz => Vs wz b [.int .u8 xk, .int .u8 xf, .int .i64 xb, .int .i64 xl, .int .i64 xm, .int .i64 xc, .int .u8 yk, .int .u8 yf, .int .i64 yb, .int .i64 yl, .int .i64 ym, .int .i64 yc]) (fun wz hwz => Vs.new wz _ _ _ rfl)) (fun sb w0 hw0 hR0 => ?_)
  (simp only [Act.put]); (try simp only [List.setIfInBounds_toArray]); (try simp only [List.set_cons_succ]); (try simp only [List.set_cons_zero])
  refine WpG.takeD 4 (some 23) (v := ?_) rfl rfl (by kernel_rfl) (fun _ _ _ h => h) (.val rfl (fun wz hwz => ?_)) ?_
  rotate_left
  · go_simp; try (with_reducible rfl)
  (simp only [Act.put]); (try simp only [List.setIfInBounds_toArray]); (try simp only [List.set_cons_succ]); (try simp only [List.set_cons_zero])
  refine WpG.done (by kernel_rfl) (fun w4 hS => ?_)
  (try simp only [List.drop_succ_cons]); (try simp only [List.drop_zero]); (try simp only [Nat.reduceSub]); (try simp only [List.take_succ_cons]); (try simp only [List.take_zero])
  obtain ⟨hb4, hsb, hV⟩ := hS
  clear v0 v1 v2 v3 v4 v5 v6 v7 v8 v9 v10 v11 v12 s0 s1 s2 s3 s4 s5 s6 s7 s8 s9 s10 s11 s12
  replace hbw := bl_call hbw (Nat.le_refl _) hb4
  replace hv := hv.call hb4
  replace hs := hs.call hb4
  clear hR0 hw0 hb4 hw3 HCHK HREF HRCHK hb2
  have hsz2 : w.heap.size + 1 < w4.heap.size := hs.lt
  go_wp2_with fail
  go_loopw [24] (fun i wr => ∃ q : Nat, q ≤ 2 ∧ i = .int .i64 q ∧ Vs wr (w.heap.size + 1) [.int .u8 k, .int .u8 f, .int .u8 b, .int .u8 l, .int .u8 m, .int .u8 c] ∧
    Vs wr sb [.int .u8 xk, .int .u8 xf, .int .i64 xb, .int .i64 xl, .int .i64 xm, .int .i64 xc, .int .u8 yk, .int .u8 yf, .int .i64 yb, .int .i64 yl, .int .i64 ym, .int .i64 yc] ∧ Below w.heap.size w wr) (fun i _ => 2 - (intOf i).toNat)
  case atStart => exact ⟨0, by omega, rfl, hs, hV, hbw⟩
  case round =>
    clear hs hV hbw hv hsz2
    obtain ⟨q, hq, rfl, hs, hV, hbw⟩ := hrel
    by_cases hlt : q < 2
    · obtain ⟨X, n, HX, v0, v1, v2, v3, v4, v5⟩ : ∃ (X : Raw) (n : Int), Hid (X.Said n) ∧ wr.cell? ⟨sb, q * 6, none⟩ = some (.int .u8 X.k) ∧ wr.cell? ⟨sb, q * 6 + 1, none⟩ = some (.int .u8 X.f) ∧ wr.cell? ⟨sb, q * 6 + 2, none⟩ = some (.int .i64 X.b) ∧
          wr.cell? ⟨sb, q * 6 + 3, none⟩ = some (.int .i64 X.l) ∧ wr.cell? ⟨sb, q * 6 + 4, none⟩ = some (.int .i64 X.m) ∧ wr.cell? ⟨sb, q * 6 + 5, none⟩ = some (.int .i64 X.c) := by
        have h2 : q = 0 ∨ q = 1 := by omega
        rcases h2 with rfl | rfl
        · exact ⟨_, _, HS0, hV.cell 0 _ rfl, hV.cell 1 _ rfl, hV.cell 2 _ rfl, hV.cell 3 _ rfl, hV.cell 4 _ rfl, hV.cell 5 _ rfl⟩
        · exact ⟨_, _, HS1, hV.cell 6 _ rfl, hV.cell 7 _ rfl, hV.cell 8 _ rfl, hV.cell 9 _ rfl, hV.cell 10 _ rfl, hV.cell 11 _ rfl⟩
      obtain ⟨K, G, B, L, M, C⟩ := X
      dsimp only at v0 v1 v2 v3 v4 v5
      have HREF := Lib.hid (fun wz => law10_Ref K G B L M C HX.out.k0 HX.out.k1 HX.out.f0 HX.out.f1 wz)
      have HCK : Hid (∀ wz, Calls Try.prog 49 #[.agg #[.int .i64 K, .int .i64 G, .int .i64 B, .int .i64 L, .int .i64 M, .int .i64 C]] wz (RetC n wz)) := HX.out.chk
      have hlt2 : decide ((q : Int) < 2) = true := by simp; omega
      go_upto_region 8 with fail
      clear v0 v1 v2 v3 v4 v5
      have hx := Vs.new wr [.int .u8 K, .int .u8 G, .int .i64 B, .int .i64 L, .int .i64 M, .int .i64 C] #[.int .u8 K, .int .u8 G, .int .i64 B, .int .i64 L, .int .i64 M, .int .i64 C] 60 rfl
      have hbA : Below wr.heap.size wr (wr.alloc (.cells #[.int .u8 K, .int .u8 G, .int .i64 B, .int .i64 L, .int .i64 M, .int .i64 C] 60)) := by repeat (first | exact Below.refl _ _ | with_reducible assumption | (refine bl_alloc ?_ (Nat.le_refl _) _))
      replace hbw := bl_call hbw (Nat.le_refl _) hbA
      replace hs := hs.call hbA
      replace hV := hV.call hbA
      clear hbA
      generalize wr.alloc (.cells #[.int .u8 K, .int .u8 G, .int .i64 B, .int .i64 L, .int .i64 M, .int .i64 C] 60) = w5 at hbw hs hV hx ⊢
      obtain ⟨⟨x0, x1, x2, x3, x4, x5⟩, ⟨x6, x7, x8, x9, x10, x11⟩, x12⟩ := hx.get6
      have hxl : wr.heap.size < w5.heap.size := hx.lt
      go_upto_region 9 with (first
        | (go_at_call 39; refine (HREF.out _).mono ?_; rintro e w6 ⟨rfl, hb6⟩; replace hbw := bl_call hbw (Nat.le_refl _) hb6; replace hs := hs.call hb6; replace hV := hV.call hb6; replace hx := hx.call hb6))
      clear x0 x1 x2 x3 x4 x5 x6 x7 x8 x9 x10 x11 x12
      have hxl6 : wr.heap.size < w6.heap.size := hx.lt
      have hr := Vs.new w6 [.int .i64 K, .int .i64 G, .int .i64 B, .int .i64 L, .int .i64 M, .int .i64 C] #[.int .i64 K, .int .i64 G, .int .i64 B, .int .i64 L, .int .i64 M, .int .i64 C] 72 rfl
      have hbA : Below w6.heap.size w6 (w6.alloc (.cells #[.int .i64 K, .int .i64 G, .int .i64 B, .int .i64 L, .int .i64 M, .int .i64 C] 72)) := by repeat (first | exact Below.refl _ _ | with_reducible assumption | (refine bl_alloc ?_ (Nat.le_refl _) _))
      replace hbw := bl_call hbw (Nat.le_refl _) hbA
      replace hs := hs.call hbA
      replace hV := hV.call hbA
      replace hx := hx.call hbA
      clear hbA
      generalize w6.alloc (.cells #[.int .i64 K, .int .i64 G, .int .i64 B, .int .i64 L, .int .i64 M, .int .i64 C] 72) = w7 at hbw hs hV hx hr ⊢
      obtain ⟨⟨x0, x1, x2, x3, x4, x5⟩, ⟨x6, x7, x8, x9, x10, x11⟩, x12⟩ := hx.get6
      obtain ⟨⟨r0, r1, r2, r3, r4, r5⟩, ⟨r6, r7, r8, r9, r10, r11⟩, r12⟩ := hr.get6
      by_cases hn : n = 0
      rotate_left
      · have hn1 : (n == 0) = false := by simpa using hn
        have hn2 : (n != 0) = true := by simpa using hn
        go_wp2_with (first
          | (go_at_call 49; refine (HCK.out _).mono ?_; rintro e w8 ⟨rfl, hb8⟩; replace hbw := bl_call hbw (Nat.le_refl _) hb8; replace hs := hs.call hb8; replace hV := hV.call hb8; replace hx := hx.call hb8; replace hr := hr.call hb8))
        go_roundw
        case rel => exact ⟨q + 1, by omega, by go_num, hs, hV, hbw⟩
        case measure => simp [intOf]; omega
      subst hn
      obtain ⟨F', Y, hI⟩ := HX.out.is rfl
      have HIN : Hid (∀ wz, Calls Try.prog 45 #[.agg #[.int .u8 K, .int .u8 G, .int .i64 B, .int .i64 L, .int .i64 M, .int .i64 C]] wz (RetI Y.nin wz)) := fun wz => by
        have h := circuit_In F' Y hI.ok wz
        rw [← hI.val] at h
        exact h
      have HRIN : Hid (∀ wz, Calls Try.prog 61 #[.agg #[.int .i64 K, .int .i64 G, .int .i64 B, .int .i64 L, .int .i64 M, .int .i64 C]] wz (RetI Y.nin wz)) := fun wz => by
        have h := ref9_In F' Y hI.ok wz
        rw [← hI.rval] at h
        exact h
      have HOUT : Hid (∀ wz, Calls Try.prog 43 #[.agg #[.int .u8 K, .int .u8 G, .int .i64 B, .int .i64 L, .int .i64 M, .int .i64 C]] wz (RetI Y.nout wz)) := fun wz => by
        have h := circuit_Out F' Y hI.ok wz
        rw [← hI.val] at h
        exact h
      have HROUT : Hid (∀ wz, Calls Try.prog 62 #[.agg #[.int .i64 K, .int .i64 G, .int .i64 B, .int .i64 L, .int .i64 M, .int .i64 C]] wz (RetI Y.nout wz)) := fun wz => by
        have h := ref9_Out F' Y hI.ok wz
        rw [← hI.rval] at h
        exact h
      have HCALLS : Hid (∀ wz, Calls Try.prog 63 #[.agg #[.int .u8 K, .int .u8 G, .int .i64 B, .int .i64 L, .int .i64 M, .int .i64 C]] wz (RetI Y.calls wz)) := fun wz => by
        have h := circuit_Calls F' Y hI.ok wz
        rw [← hI.val] at h
        exact h
      have HRCALLS : Hid (∀ wz, Calls Try.prog 64 #[.agg #[.int .i64 K, .int .i64 G, .int .i64 B, .int .i64 L, .int .i64 M, .int .i64 C]] wz (RetI Y.calls wz)) := fun wz => by
        have h := ref9_Calls F' Y hI.ok wz
        rw [← hI.rval] at h
        exact h
      have HJ : Hid (∀ wz, Calls Try.prog 65 #[.agg #[.int .u8 K, .int .u8 G, .int .i64 B, .int .i64 L, .int .i64 M, .int .i64 C]] wz (RetI Y.joint wz)) := fun wz => by
        have h := circuit_Joint F' Y hI.ok wz
        rw [← hI.val] at h
        exact h
      have HRJ : Hid (∀ wz, Calls Try.prog 66 #[.agg #[.int .i64 K, .int .i64 G, .int .i64 B, .int .i64 L, .int .i64 M, .int .i64 C]] wz (RetI Y.joint wz)) := fun wz => by
        have h := ref9_Joint F' Y hI.ok wz
        rw [← hI.rval] at h
        exact h
      have HDM : Hid (∀ wz, Calls Try.prog 67 #[.agg #[.int .u8 K, .int .u8 G, .int .i64 B, .int .i64 L, .int .i64 M, .int .i64 C]] wz (RetI (nextP (Y.calls + 1)) wz)) := fun wz => by
        have h := circuit_Domain F' Y hI.ok (by have := hI.calls; omega) wz
        rw [← hI.val] at h
        exact h
      have HRDM : Hid (∀ wz, Calls Try.prog 68 #[.agg #[.int .i64 K, .int .i64 G, .int .i64 B, .int .i64 L, .int .i64 M, .int .i64 C]] wz (RetI (nextP (Y.calls + 1)) wz)) := fun wz => by
        have h := ref9_Domain F' Y hI.ok (by have := hI.calls; omega) wz
        rw [← hI.rval] at h
        exact h
      have HRAR : Hid (∀ wz, Calls Try.prog 69 #[.agg #[.int .i64 K, .int .i64 G, .int .i64 B, .int .i64 L, .int .i64 M, .int .i64 C]] wz (RetI Y.arity wz)) := fun wz => by
        have h := ref9_Arity F' Y hI.ok wz
        rw [← hI.rval] at h
        exact h
      have HGAD : Hid (∀ wz, Calls Try.prog 60 #[.agg #[.int .u8 K, .int .u8 G, .int .i64 B, .int .i64 L, .int .i64 M, .int .i64 C]] wz (RetG (Y.gad F') wz)) := fun wz => by
        have h := circuit_Gadget hI.fld Y hI.ok wz
        rw [← hI.val] at h
        exact h
      have HVER : Hid (∀ wz, Calls Try.prog 70 #[.agg #[.int .u8 K, .int .u8 G, .int .i64 B, .int .i64 L, .int .i64 M, .int .i64 C]] wz (RetI (Y.arity + 2) wz)) := fun wz => by
        have h := circuit_Verifier hI.fld Y hI.ok wz
        rw [← hI.val] at h
        exact h
      have HPRF : Hid (∀ wz, Calls Try.prog 56 #[.agg #[.int .u8 K, .int .u8 G, .int .i64 B, .int .i64 L, .int .i64 M, .int .i64 C]] wz (RetI Y.proof wz)) := fun wz => by
        have h := circuit_Proof hI.fld Y hI.ok (by have := hI.calls; omega) wz
        rw [← hI.val] at h
        exact h
      have HMOST : Hid (∀ wz, Calls Try.prog 50 #[.agg #[.int .u8 K, .int .u8 G, .int .i64 B, .int .i64 L, .int .i64 M, .int .i64 C]] wz (RetU Y.most wz)) := fun wz => by
        have h := circuit_Most F' Y hI.ok wz
        rw [← hI.val] at h
        exact h
      have hal := CK.arity_le hI.ok
      have hdm := nextP_le (Y.calls + 1)
      have hval := hI.val
      unfold Raw.val CK.val at hval
      simp at hval
      obtain ⟨hK, rfl, hB, -, -, -⟩ := hval
      have HK := Lib.hid hK
      have HB := Lib.hid hB
      clear hK hB
      have HAR : Hid (∀ (wz : World) (B : Nat) (k : Int) (sl : Value) (n : Int), RepG wz B k sl n (Y.gad F') → Calls Try.prog 28 #[.agg #[.int .u8 k, sl, .int .i64 n]] wz (RetI Y.arity wz)) := by
        intro wz B k sl n hg
        have h := gadget_Arity wz B (Y.gad F') k sl n hg
        rwa [gad_arity] at h
      have HDG : Hid (∀ (wz : World) (B : Nat) (k : Int) (sl : Value) (n : Int), RepG wz B k sl n (Y.gad F') → Calls Try.prog 32 #[.agg #[.int .u8 k, sl, .int .i64 n]] wz (RetI 2 wz)) := by
        intro wz B k sl n hg
        have h := gadget_Degree wz B (Y.gad F') k sl n hg
        rwa [gad_degree] at h
      have HGC := Lib.hid (gadget_Check hI.fld)
      have HPR : Hid (Y.proof = Y.arity + 2 * (nextP (Y.calls + 1) - 1) + 1) := rfl
      have HI := Lib.hid hI
      clear hI
      obtain ⟨ar, har⟩ : ∃ n, Y.arity = n := ⟨_, rfl⟩
      obtain ⟨dm, hdme⟩ : ∃ n, nextP (Y.calls + 1) = n := ⟨_, rfl⟩
      obtain ⟨pr, hpr⟩ : ∃ n, Y.proof = n := ⟨_, rfl⟩
      obtain ⟨mo, hmo⟩ : ∃ n, Y.most = n := ⟨_, rfl⟩
      rw [har] at HRAR HVER HPR HAR hal
      rw [hdme] at HDM HRDM HPR hdm
      rw [hpr] at HPRF HPR
      rw [hmo] at HMOST
      have HMS := Lib.hid hmo
      have hpri : (ar : Int) + 2 * ((dm : Int) - 1) + 1 = (pr : Int) := by have := HPR.out; omega
      generalize Y.nin = ni at *
      generalize Y.nout = no at *
      generalize Y.calls = ca at *
      generalize Y.joint = jo at *
      have hpr2 : pr ≤ 4096 := by omega
      have hw1 : IntKind.i64.wrap ((dm : Int) - 1) = (dm : Int) - 1 := IntWalk.i64_in _ (by omega)
      have hw2 : IntKind.i64.wrap (2 * ((dm : Int) - 1)) = 2 * ((dm : Int) - 1) := IntWalk.i64_in _ (by omega)
      have hw3 : IntKind.i64.wrap ((ar : Int) + 2 * ((dm : Int) - 1)) = (ar : Int) + 2 * ((dm : Int) - 1) := IntWalk.i64_in _ (by omega)
      have hw4 : IntKind.i64.wrap ((pr : Int)) = (pr : Int) := IntWalk.i64_in _ (by omega)
      obtain ⟨ve, hve⟩ : ∃ n, ar + 2 = n := ⟨_, rfl⟩
      rw [hve] at HVER
      have hvei : (ar : Int) + 2 = (ve : Int) := by omega
      have hw5 : IntKind.i64.wrap ((ve : Int)) = (ve : Int) := IntWalk.i64_in _ (by omega)
      clear har hdme hpr hmo HPR HREF hve
      go_upto_region 10 with (first
        | (go_at_call 49; refine (HCK.out _).mono ?_; rintro e w8 ⟨rfl, hb8⟩; replace hbw := bl_call hbw (Nat.le_refl _) hb8; replace hs := hs.call hb8; replace hV := hV.call hb8; replace hx := hx.call hb8; replace hr := hr.call hb8; clear x0 x1 x2 x3 x4 x5 x6 x7 x8 x9 x10 x11 x12 r0 r1 r2 r3 r4 r5 r6 r7 r8 r9 r10 r11 r12; clear hb8; obtain ⟨⟨x0, x1, x2, x3, x4, x5⟩, ⟨x6, x7, x8, x9, x10, x11⟩, x12⟩ := hx.get6; obtain ⟨⟨r0, r1, r2, r3, r4, r5⟩, ⟨r6, r7, r8, r9, r10, r11⟩, r12⟩ := hr.get6))
      go_wp2_with fail
      refine (HGAD.out _).mono ?_
      rintro e w9 ⟨gk, sl, gn, rfl, hg, hb9⟩
      obtain ⟨A2, l2, c2, rfl⟩ := hg.sl
      clear x0 x1 x2 x3 x4 x5 x6 x7 x8 x9 x10 x11 x12 r0 r1 r2 r3 r4 r5 r6 r7 r8 r9 r10 r11 r12
      replace hbw := bl_call hbw (Nat.le_refl _) hb9
      replace hs := hs.call hb9
      replace hV := hV.call hb9
      replace hx := hx.call hb9
      replace hr := hr.call hb9
      clear hb9 HGAD HCK
      go_upto_region 11 with fail
      have hv := Vs.new w9 [.int .u8 gk, .slice A2 l2 c2, .int .i64 gn] #[.int .u8 gk, .slice A2 l2 c2, .int .i64 gn] 47 rfl
      have hbA : Below w9.heap.size w9 (w9.alloc (.cells #[.int .u8 gk, .slice A2 l2 c2, .int .i64 gn] 47)) := by repeat (first | exact Below.refl _ _ | with_reducible assumption | (refine bl_alloc ?_ (Nat.le_refl _) _))
      replace hbw := bl_call hbw (Nat.le_refl _) hbA
      replace hs := hs.call hbA
      replace hV := hV.call hbA
      replace hx := hx.call hbA
      replace hr := hr.call hbA
      replace hg := hg.later hbA
      clear hbA
      generalize w9.alloc (.cells #[.int .u8 gk, .slice A2 l2 c2, .int .i64 gn] 47) = w10 at hbw hs hV hx hr hg hv ⊢
      obtain ⟨⟨x0, x1, x2, x3, x4, x5⟩, ⟨x6, x7, x8, x9, x10, x11⟩, x12⟩ := hx.get6
      obtain ⟨⟨r0, r1, r2, r3, r4, r5⟩, ⟨r6, r7, r8, r9, r10, r11⟩, r12⟩ := hr.get6
      obtain ⟨v0, v1, v2, v3, v4, v5, v6⟩ := hv.get3
      go_upto_region 12 with fail
      simp only [List.append]
      refine region_B (n := 74) (m := 75) (f := 74) (by kernel_rfl) (by kernel_rfl) rfl ?_
      refine WpH.takeD 0 (some 35) (v := ?_) rfl rfl (by kernel_rfl) (fun _ _ _ h => h) (.val rfl (fun wz hwz => ?_)) ?_
      rotate_left
      · (obtain ⟨hcz, hfz⟩ := bcell hwz; go_simp; try (with_reducible rfl))
      (simp only [Act.put]); (try simp only [List.setIfInBounds_toArray]); (try simp only [List.set_cons_succ]); (try simp only [List.set_cons_zero])
      refine WpH.takeD 1 (some 36) rfl rfl (by kernel_rfl) (fun _ _ _ h => h) (.call rfl (fun wz hwz => HIN.out wz) (fun wz hwz => ?_)) ?_
      · go_simp; try (with_reducible rfl)
      (simp only [Act.put]); (try simp only [List.setIfInBounds_toArray]); (try simp only [List.set_cons_succ]); (try simp only [List.set_cons_zero])
      refine WpH.takeD 2 (some 37) (v := ?_) rfl rfl (by kernel_rfl) (fun _ _ _ h => h) (.val rfl (fun wz hwz => ?_)) ?_
      rotate_left
      · (obtain ⟨hcz, hfz⟩ := bcell hwz; go_simp; try (with_reducible rfl))
      (simp only [Act.put]); (try simp only [List.setIfInBounds_toArray]); (try simp only [List.set_cons_succ]); (try simp only [List.set_cons_zero])
      refine WpH.takeD 3 (some 38) rfl rfl (by kernel_rfl) (fun _ _ _ h => h) (.call rfl (fun wz hwz => HRIN.out wz) (fun wz hwz => ?_)) ?_
      · go_simp; try (with_reducible rfl)
      (simp only [Act.put]); (try simp only [List.setIfInBounds_toArray]); (try simp only [List.set_cons_succ]); (try simp only [List.set_cons_zero])
      refine WpH.takeD 4 (some 39) (v := ?_) rfl rfl (by kernel_rfl) (fun _ _ _ h => h) (.val rfl (fun wz hwz => ?_)) ?_
      rotate_left
      · go_simp; try (with_reducible rfl)
      (simp only [Act.put]); (try simp only [List.setIfInBounds_toArray]); (try simp only [List.set_cons_succ]); (try simp only [List.set_cons_zero])
      refine WpH.takeD 5 (some 40) (v := ?_) rfl rfl (by kernel_rfl) (fun _ _ _ h => h) (.val rfl (fun wz hwz => ?_)) ?_
      rotate_left
      · go_simp; try (with_reducible rfl)
      (simp only [Act.put]); (try simp only [List.setIfInBounds_toArray]); (try simp only [List.set_cons_succ]); (try simp only [List.set_cons_zero])
      refine WpH.takeD 6 (some 41) (v := ?_) rfl rfl (by kernel_rfl) (fun _ _ _ h => h) (.val rfl (fun wz hwz => ?_)) ?_
      rotate_left
      · (obtain ⟨hcz, hfz⟩ := bcell hwz; go_simp; try (with_reducible rfl))
      (simp only [Act.put]); (try simp only [List.setIfInBounds_toArray]); (try simp only [List.set_cons_succ]); (try simp only [List.set_cons_zero])
      refine WpH.takeD 7 (some 42) rfl rfl (by kernel_rfl) (fun _ _ _ h => h) (.call rfl (fun wz hwz => HOUT.out wz) (fun wz hwz => ?_)) ?_
      · go_simp; try (with_reducible rfl)
      (simp only [Act.put]); (try simp only [List.setIfInBounds_toArray]); (try simp only [List.set_cons_succ]); (try simp only [List.set_cons_zero])
      refine WpH.takeD 8 (some 43) (v := ?_) rfl rfl (by kernel_rfl) (fun _ _ _ h => h) (.val rfl (fun wz hwz => ?_)) ?_
      rotate_left
      · (obtain ⟨hcz, hfz⟩ := bcell hwz; go_simp; try (with_reducible rfl))
      (simp only [Act.put]); (try simp only [List.setIfInBounds_toArray]); (try simp only [List.set_cons_succ]); (try simp only [List.set_cons_zero])
      refine WpH.takeD 9 (some 44) rfl rfl (by kernel_rfl) (fun _ _ _ h => h) (.call rfl (fun wz hwz => HROUT.out wz) (fun wz hwz => ?_)) ?_
      · go_simp; try (with_reducible rfl)
      (simp only [Act.put]); (try simp only [List.setIfInBounds_toArray]); (try simp only [List.set_cons_succ]); (try simp only [List.set_cons_zero])
      refine WpH.takeD 10 (some 45) (v := ?_) rfl rfl (by kernel_rfl) (fun _ _ _ h => h) (.val rfl (fun wz hwz => ?_)) ?_
      rotate_left
      · go_simp; try (with_reducible rfl)
      (simp only [Act.put]); (try simp only [List.setIfInBounds_toArray]); (try simp only [List.set_cons_succ]); (try simp only [List.set_cons_zero])
      refine WpH.takeD 11 (some 46) (v := ?_) rfl rfl (by kernel_rfl) (fun _ _ _ h => h) (.val rfl (fun wz hwz => ?_)) ?_
      rotate_left
      · go_simp; try (with_reducible rfl)
      (simp only [Act.put]); (try simp only [List.setIfInBounds_toArray]); (try simp only [List.set_cons_succ]); (try simp only [List.set_cons_zero])
      refine WpH.takeD 12 (some 47) (v := ?_) rfl rfl (by kernel_rfl) (fun _ _ _ h => h) (.val rfl (fun wz hwz => ?_)) ?_
      rotate_left
      · go_simp; try (with_reducible rfl)
      (simp only [Act.put]); (try simp only [List.setIfInBounds_toArray]); (try simp only [List.set_cons_succ]); (try simp only [List.set_cons_zero])
      refine WpH.takeD 13 (some 48) (v := ?_) rfl rfl (by kernel_rfl) (fun _ _ _ h => h) (.val rfl (fun wz hwz => ?_)) ?_
      rotate_left
      · (obtain ⟨hcz, hfz⟩ := bcell hwz; go_simp; try (with_reducible rfl))
      (simp only [Act.put]); (try simp only [List.setIfInBounds_toArray]); (try simp only [List.set_cons_succ]); (try simp only [List.set_cons_zero])
      refine WpH.takeD 14 (some 49) rfl rfl (by kernel_rfl) (fun _ _ _ h => h) (.call rfl (fun wz hwz => HCALLS.out wz) (fun wz hwz => ?_)) ?_
      · go_simp; try (with_reducible rfl)
      (simp only [Act.put]); (try simp only [List.setIfInBounds_toArray]); (try simp only [List.set_cons_succ]); (try simp only [List.set_cons_zero])
      refine WpH.takeD 15 (some 50) (v := ?_) rfl rfl (by kernel_rfl) (fun _ _ _ h => h) (.val rfl (fun wz hwz => ?_)) ?_
      rotate_left
      · (obtain ⟨hcz, hfz⟩ := bcell hwz; go_simp; try (with_reducible rfl))
      (simp only [Act.put]); (try simp only [List.setIfInBounds_toArray]); (try simp only [List.set_cons_succ]); (try simp only [List.set_cons_zero])
      refine WpH.takeD 16 (some 51) rfl rfl (by kernel_rfl) (fun _ _ _ h => h) (.call rfl (fun wz hwz => HRCALLS.out wz) (fun wz hwz => ?_)) ?_
      · go_simp; try (with_reducible rfl)
      (simp only [Act.put]); (try simp only [List.setIfInBounds_toArray]); (try simp only [List.set_cons_succ]); (try simp only [List.set_cons_zero])
      refine WpH.takeD 17 (some 52) (v := ?_) rfl rfl (by kernel_rfl) (fun _ _ _ h => h) (.val rfl (fun wz hwz => ?_)) ?_
      rotate_left
      · go_simp; try (with_reducible rfl)
      (simp only [Act.put]); (try simp only [List.setIfInBounds_toArray]); (try simp only [List.set_cons_succ]); (try simp only [List.set_cons_zero])
      refine WpH.takeD 18 (some 53) (v := ?_) rfl rfl (by kernel_rfl) (fun _ _ _ h => h) (.val rfl (fun wz hwz => ?_)) ?_
      rotate_left
      · go_simp; try (with_reducible rfl)
      (simp only [Act.put]); (try simp only [List.setIfInBounds_toArray]); (try simp only [List.set_cons_succ]); (try simp only [List.set_cons_zero])
      refine WpH.takeD 19 (some 54) (v := ?_) rfl rfl (by kernel_rfl) (fun _ _ _ h => h) (.val rfl (fun wz hwz => ?_)) ?_
      rotate_left
      · go_simp; try (with_reducible rfl)
      (simp only [Act.put]); (try simp only [List.setIfInBounds_toArray]); (try simp only [List.set_cons_succ]); (try simp only [List.set_cons_zero])
      refine WpH.takeD 20 (some 55) (v := ?_) rfl rfl (by kernel_rfl) (fun _ _ _ h => h) (.val rfl (fun wz hwz => ?_)) ?_
      rotate_left
      · (obtain ⟨hcz, hfz⟩ := bcell hwz; go_simp; try (with_reducible rfl))
      (simp only [Act.put]); (try simp only [List.setIfInBounds_toArray]); (try simp only [List.set_cons_succ]); (try simp only [List.set_cons_zero])
      refine WpH.takeD 21 (some 56) rfl rfl (by kernel_rfl) (fun _ _ _ h => h) (.call rfl (fun wz hwz => HJ.out wz) (fun wz hwz => ?_)) ?_
      · go_simp; try (with_reducible rfl)
      (simp only [Act.put]); (try simp only [List.setIfInBounds_toArray]); (try simp only [List.set_cons_succ]); (try simp only [List.set_cons_zero])
      refine WpH.takeD 22 (some 57) (v := ?_) rfl rfl (by kernel_rfl) (fun _ _ _ h => h) (.val rfl (fun wz hwz => ?_)) ?_
      rotate_left
      · (obtain ⟨hcz, hfz⟩ := bcell hwz; go_simp; try (with_reducible rfl))
      (simp only [Act.put]); (try simp only [List.setIfInBounds_toArray]); (try simp only [List.set_cons_succ]); (try simp only [List.set_cons_zero])
      refine WpH.takeD 23 (some 58) rfl rfl (by kernel_rfl) (fun _ _ _ h => h) (.call rfl (fun wz hwz => HRJ.out wz) (fun wz hwz => ?_)) ?_
      · go_simp; try (with_reducible rfl)
      (simp only [Act.put]); (try simp only [List.setIfInBounds_toArray]); (try simp only [List.set_cons_succ]); (try simp only [List.set_cons_zero])
      refine WpH.takeD 24 (some 59) (v := ?_) rfl rfl (by kernel_rfl) (fun _ _ _ h => h) (.val rfl (fun wz hwz => ?_)) ?_
      rotate_left
      · go_simp; try (with_reducible rfl)
      (simp only [Act.put]); (try simp only [List.setIfInBounds_toArray]); (try simp only [List.set_cons_succ]); (try simp only [List.set_cons_zero])
      refine WpH.takeD 25 (some 60) (v := ?_) rfl rfl (by kernel_rfl) (fun _ _ _ h => h) (.val rfl (fun wz hwz => ?_)) ?_
      rotate_left
      · go_simp; try (with_reducible rfl)
      (simp only [Act.put]); (try simp only [List.setIfInBounds_toArray]); (try simp only [List.set_cons_succ]); (try simp only [List.set_cons_zero])
      refine WpH.takeD 26 (some 61) (v := ?_) rfl rfl (by kernel_rfl) (fun _ _ _ h => h) (.val rfl (fun wz hwz => ?_)) ?_
      rotate_left
      · go_simp; try (with_reducible rfl)
      (simp only [Act.put]); (try simp only [List.setIfInBounds_toArray]); (try simp only [List.set_cons_succ]); (try simp only [List.set_cons_zero])
      refine WpH.takeD 27 (some 62) (v := ?_) rfl rfl (by kernel_rfl) (fun _ _ _ h => h) (.val rfl (fun wz hwz => ?_)) ?_
      rotate_left
      · (obtain ⟨hcz, hfz⟩ := bcell hwz; go_simp; try (with_reducible rfl))
      (simp only [Act.put]); (try simp only [List.setIfInBounds_toArray]); (try simp only [List.set_cons_succ]); (try simp only [List.set_cons_zero])
      refine WpH.takeD 28 (some 63) rfl rfl (by kernel_rfl) (fun _ _ _ h => h) (.call rfl (fun wz hwz => HDM.out wz) (fun wz hwz => ?_)) ?_
      · go_simp; try (with_reducible rfl)
      (simp only [Act.put]); (try simp only [List.setIfInBounds_toArray]); (try simp only [List.set_cons_succ]); (try simp only [List.set_cons_zero])
      refine WpH.takeD 29 (some 64) (v := ?_) rfl rfl (by kernel_rfl) (fun _ _ _ h => h) (.val rfl (fun wz hwz => ?_)) ?_
      rotate_left
      · (obtain ⟨hcz, hfz⟩ := bcell hwz; go_simp; try (with_reducible rfl))
      (simp only [Act.put]); (try simp only [List.setIfInBounds_toArray]); (try simp only [List.set_cons_succ]); (try simp only [List.set_cons_zero])
      refine WpH.takeD 30 (some 65) rfl rfl (by kernel_rfl) (fun _ _ _ h => h) (.call rfl (fun wz hwz => HRDM.out wz) (fun wz hwz => ?_)) ?_
      · go_simp; try (with_reducible rfl)
      (simp only [Act.put]); (try simp only [List.setIfInBounds_toArray]); (try simp only [List.set_cons_succ]); (try simp only [List.set_cons_zero])
      refine WpH.takeD 31 (some 66) (v := ?_) rfl rfl (by kernel_rfl) (fun _ _ _ h => h) (.val rfl (fun wz hwz => ?_)) ?_
      rotate_left
      · go_simp; try (with_reducible rfl)
      (simp only [Act.put]); (try simp only [List.setIfInBounds_toArray]); (try simp only [List.set_cons_succ]); (try simp only [List.set_cons_zero])
      refine WpH.takeD 32 (some 67) (v := ?_) rfl rfl (by kernel_rfl) (fun _ _ _ h => h) (.val rfl (fun wz hwz => ?_)) ?_
      rotate_left
      · go_simp; try (with_reducible rfl)
      (simp only [Act.put]); (try simp only [List.setIfInBounds_toArray]); (try simp only [List.set_cons_succ]); (try simp only [List.set_cons_zero])
      refine WpH.takeD 33 (some 68) (v := ?_) rfl rfl (by kernel_rfl) (fun _ _ _ h => h) (.val rfl (fun wz hwz => ?_)) ?_
      rotate_left
      · go_simp; try (with_reducible rfl)
      (simp only [Act.put]); (try simp only [List.setIfInBounds_toArray]); (try simp only [List.set_cons_succ]); (try simp only [List.set_cons_zero])
      refine WpH.takeD 34 (some 69) (v := ?_) rfl rfl (by kernel_rfl) (fun _ _ _ h => h) (.val rfl (fun wz hwz => ?_)) ?_
      rotate_left
      · (obtain ⟨hcz, hfz⟩ := bcell hwz; go_simp; try (with_reducible rfl))
      (simp only [Act.put]); (try simp only [List.setIfInBounds_toArray]); (try simp only [List.set_cons_succ]); (try simp only [List.set_cons_zero])
      refine WpH.takeD 35 (some 70) rfl rfl (by kernel_rfl) (fun _ _ _ h => h) (.call rfl (fun wz hwz => HAR.out wz _ _ _ _ (hg.below hwz)) (fun wz hwz => ?_)) ?_
      · go_simp; try (with_reducible rfl)
      (simp only [Act.put]); (try simp only [List.setIfInBounds_toArray]); (try simp only [List.set_cons_succ]); (try simp only [List.set_cons_zero])
      refine WpH.takeD 36 (some 71) (v := ?_) rfl rfl (by kernel_rfl) (fun _ _ _ h => h) (.val rfl (fun wz hwz => ?_)) ?_
      rotate_left
      · (obtain ⟨hcz, hfz⟩ := bcell hwz; go_simp; try (with_reducible rfl))
      (simp only [Act.put]); (try simp only [List.setIfInBounds_toArray]); (try simp only [List.set_cons_succ]); (try simp only [List.set_cons_zero])
      refine WpH.takeD 37 (some 72) rfl rfl (by kernel_rfl) (fun _ _ _ h => h) (.call rfl (fun wz hwz => HRAR.out wz) (fun wz hwz => ?_)) ?_
      · go_simp; try (with_reducible rfl)
      (simp only [Act.put]); (try simp only [List.setIfInBounds_toArray]); (try simp only [List.set_cons_succ]); (try simp only [List.set_cons_zero])
      refine WpH.takeD 38 (some 73) (v := ?_) rfl rfl (by kernel_rfl) (fun _ _ _ h => h) (.val rfl (fun wz hwz => ?_)) ?_
      rotate_left
      · go_simp; try (with_reducible rfl)
      (simp only [Act.put]); (try simp only [List.setIfInBounds_toArray]); (try simp only [List.set_cons_succ]); (try simp only [List.set_cons_zero])
      refine WpH.takeD 39 (some 74) (v := ?_) rfl rfl (by kernel_rfl) (fun _ _ _ h => h) (.val rfl (fun wz hwz => ?_)) ?_
      rotate_left
      · go_simp; try (with_reducible rfl)
      (simp only [Act.put]); (try simp only [List.setIfInBounds_toArray]); (try simp only [List.set_cons_succ]); (try simp only [List.set_cons_zero])
      refine WpH.takeD 40 (some 75) (v := ?_) rfl rfl (by kernel_rfl) (fun _ _ _ h => h) (.val rfl (fun wz hwz => ?_)) ?_
      rotate_left
      · go_simp; try (with_reducible rfl)
      (simp only [Act.put]); (try simp only [List.setIfInBounds_toArray]); (try simp only [List.set_cons_succ]); (try simp only [List.set_cons_zero])
      refine WpH.takeD 41 (some 76) (v := ?_) rfl rfl (by kernel_rfl) (fun _ _ _ h => h) (.val rfl (fun wz hwz => ?_)) ?_
      rotate_left
      · (obtain ⟨hcz, hfz⟩ := bcell hwz; go_simp; try (with_reducible rfl))
      (simp only [Act.put]); (try simp only [List.setIfInBounds_toArray]); (try simp only [List.set_cons_succ]); (try simp only [List.set_cons_zero])
      refine WpH.takeD 42 (some 77) rfl rfl (by kernel_rfl) (fun _ _ _ h => h) (.call rfl (fun wz hwz => HDG.out wz _ _ _ _ (hg.below hwz)) (fun wz hwz => ?_)) ?_
      · go_simp; try (with_reducible rfl)
      (simp only [Act.put]); (try simp only [List.setIfInBounds_toArray]); (try simp only [List.set_cons_succ]); (try simp only [List.set_cons_zero])
      refine WpH.takeD 43 (some 78) (v := ?_) rfl rfl (by kernel_rfl) (fun _ _ _ h => h) (.val rfl (fun wz hwz => ?_)) ?_
      rotate_left
      · go_simp; try (with_reducible rfl)
      (simp only [Act.put]); (try simp only [List.setIfInBounds_toArray]); (try simp only [List.set_cons_succ]); (try simp only [List.set_cons_zero])
      refine WpH.takeD 44 (some 79) (v := ?_) rfl rfl (by kernel_rfl) (fun _ _ _ h => h) (.val rfl (fun wz hwz => ?_)) ?_
      rotate_left
      · go_simp; try (with_reducible rfl)
      (simp only [Act.put]); (try simp only [List.setIfInBounds_toArray]); (try simp only [List.set_cons_succ]); (try simp only [List.set_cons_zero])
      refine WpH.takeD 45 (some 80) (v := ?_) rfl rfl (by kernel_rfl) (fun _ _ _ h => h) (.val rfl (fun wz hwz => ?_)) ?_
      rotate_left
      · go_simp; try (with_reducible rfl)
      (simp only [Act.put]); (try simp only [List.setIfInBounds_toArray]); (try simp only [List.set_cons_succ]); (try simp only [List.set_cons_zero])
      refine WpH.takeD 46 (some 81) (v := ?_) rfl rfl (by kernel_rfl) (fun _ _ _ h => h) (.val rfl (fun wz hwz => ?_)) ?_
      rotate_left
      · go_simp; try (with_reducible rfl)
      (simp only [Act.put]); (try simp only [List.setIfInBounds_toArray]); (try simp only [List.set_cons_succ]); (try simp only [List.set_cons_zero])
      refine WpH.takeD 47 (some 82) (v := ?_) rfl rfl (by kernel_rfl) (fun _ _ _ h => h) (.val rfl (fun wz hwz => ?_)) ?_
      rotate_left
      · (obtain ⟨hcz, hfz⟩ := bcell hwz; go_simp; try (with_reducible rfl))
      (simp only [Act.put]); (try simp only [List.setIfInBounds_toArray]); (try simp only [List.set_cons_succ]); (try simp only [List.set_cons_zero])
      refine WpH.takeD 48 (some 83) (v := ?_) rfl rfl (by kernel_rfl) (fun _ _ _ h => h) (.val rfl (fun wz hwz => ?_)) ?_
      rotate_left
      · go_simp; try (with_reducible rfl)
      (simp only [Act.put]); (try simp only [List.setIfInBounds_toArray]); (try simp only [List.set_cons_succ]); (try simp only [List.set_cons_zero])
      refine WpH.takeD 49 (some 84) (v := ?_) rfl rfl (by kernel_rfl) (fun _ _ _ h => h) (.val rfl (fun wz hwz => ?_)) ?_
      rotate_left
      · (obtain ⟨hcz, hfz⟩ := bcell hwz; go_simp; try (with_reducible rfl))
      (simp only [Act.put]); (try simp only [List.setIfInBounds_toArray]); (try simp only [List.set_cons_succ]); (try simp only [List.set_cons_zero])
      refine WpH.takeD 50 (some 85) rfl rfl (by kernel_rfl) (fun _ _ _ h => h) (.call rfl (fun wz hwz => HGC.out wz _ _ _ _ (hg.later hwz)) (fun wz hwz => ?_)) ?_
      · go_simp; try (with_reducible rfl)
      (simp only [Act.put]); (try simp only [List.setIfInBounds_toArray]); (try simp only [List.set_cons_succ]); (try simp only [List.set_cons_zero])
      refine WpH.takeD 51 (some 86) (v := ?_) rfl rfl (by kernel_rfl) (fun _ _ _ h => h) (.val rfl (fun wz hwz => ?_)) ?_
      rotate_left
      · go_simp; try (with_reducible rfl)
      (simp only [Act.put]); (try simp only [List.setIfInBounds_toArray]); (try simp only [List.set_cons_succ]); (try simp only [List.set_cons_zero])
      refine WpH.takeD 52 (some 87) (v := ?_) rfl rfl (by kernel_rfl) (fun _ _ _ h => h) (.val rfl (fun wz hwz => ?_)) ?_
      rotate_left
      · go_simp; try (with_reducible rfl)
      (simp only [Act.put]); (try simp only [List.setIfInBounds_toArray]); (try simp only [List.set_cons_succ]); (try simp only [List.set_cons_zero])
      refine WpH.takeD 53 (some 88) (v := ?_) rfl rfl (by kernel_rfl) (fun _ _ _ h => h) (.val rfl (fun wz hwz => ?_)) ?_
      rotate_left
      · go_simp; try (with_reducible rfl)
      (simp only [Act.put]); (try simp only [List.setIfInBounds_toArray]); (try simp only [List.set_cons_succ]); (try simp only [List.set_cons_zero])
      refine WpH.takeD 54 (some 89) (v := ?_) rfl rfl (by kernel_rfl) (fun _ _ _ h => h) (.val rfl (fun wz hwz => ?_)) ?_
      rotate_left
      · (obtain ⟨hcz, hfz⟩ := bcell hwz; go_simp; try (with_reducible rfl))
      (simp only [Act.put]); (try simp only [List.setIfInBounds_toArray]); (try simp only [List.set_cons_succ]); (try simp only [List.set_cons_zero])
      refine WpH.takeD 55 (some 90) rfl rfl (by kernel_rfl) (fun _ _ _ h => h) (.call rfl (fun wz hwz => HPRF.out wz) (fun wz hwz => ?_)) ?_
      · go_simp; try (with_reducible rfl)
      (simp only [Act.put]); (try simp only [List.setIfInBounds_toArray]); (try simp only [List.set_cons_succ]); (try simp only [List.set_cons_zero])
      refine WpH.takeD 56 (some 91) (v := ?_) rfl rfl (by kernel_rfl) (fun _ _ _ h => h) (.val rfl (fun wz hwz => ?_)) ?_
      rotate_left
      · (obtain ⟨hcz, hfz⟩ := bcell hwz; go_simp; try (with_reducible rfl))
      (simp only [Act.put]); (try simp only [List.setIfInBounds_toArray]); (try simp only [List.set_cons_succ]); (try simp only [List.set_cons_zero])
      refine WpH.takeD 57 (some 92) rfl rfl (by kernel_rfl) (fun _ _ _ h => h) (.call rfl (fun wz hwz => HRAR.out wz) (fun wz hwz => ?_)) ?_
      · go_simp; try (with_reducible rfl)
      (simp only [Act.put]); (try simp only [List.setIfInBounds_toArray]); (try simp only [List.set_cons_succ]); (try simp only [List.set_cons_zero])
      refine WpH.takeD 58 (some 93) (v := ?_) rfl rfl (by kernel_rfl) (fun _ _ _ h => h) (.val rfl (fun wz hwz => ?_)) ?_
      rotate_left
      · go_simp; try (with_reducible rfl)
      (simp only [Act.put]); (try simp only [List.setIfInBounds_toArray]); (try simp only [List.set_cons_succ]); (try simp only [List.set_cons_zero])
      refine WpH.takeD 59 (some 94) (v := ?_) rfl rfl (by kernel_rfl) (fun _ _ _ h => h) (.val rfl (fun wz hwz => ?_)) ?_
      rotate_left
      · (obtain ⟨hcz, hfz⟩ := bcell hwz; go_simp; try (with_reducible rfl))
      (simp only [Act.put]); (try simp only [List.setIfInBounds_toArray]); (try simp only [List.set_cons_succ]); (try simp only [List.set_cons_zero])
      refine WpH.takeD 60 (some 95) rfl rfl (by kernel_rfl) (fun _ _ _ h => h) (.call rfl (fun wz hwz => HRDM.out wz) (fun wz hwz => ?_)) ?_
      · go_simp; try (with_reducible rfl)
      (simp only [Act.put]); (try simp only [List.setIfInBounds_toArray]); (try simp only [List.set_cons_succ]); (try simp only [List.set_cons_zero])
      refine WpH.takeD 61 (some 96) (v := ?_) rfl rfl (by kernel_rfl) (fun _ _ _ h => h) (.val rfl (fun wz hwz => ?_)) ?_
      rotate_left
      · go_simp; try (with_reducible rfl)
      (simp only [Act.put]); (try simp only [List.setIfInBounds_toArray]); (try simp only [List.set_cons_succ]); (try simp only [List.set_cons_zero])
      refine WpH.takeD 62 (some 97) (v := ?_) rfl rfl (by kernel_rfl) (fun _ _ _ h => h) (.val rfl (fun wz hwz => ?_)) ?_
      rotate_left
      · go_simp; try (with_reducible rfl)
      (simp only [Act.put]); (try simp only [List.setIfInBounds_toArray]); (try simp only [List.set_cons_succ]); (try simp only [List.set_cons_zero])
      refine WpH.takeD 63 (some 98) (v := ?_) rfl rfl (by kernel_rfl) (fun _ _ _ h => h) (.val rfl (fun wz hwz => ?_)) ?_
      rotate_left
      · go_simp; try (with_reducible rfl)
      (simp only [Act.put]); (try simp only [List.setIfInBounds_toArray]); (try simp only [List.set_cons_succ]); (try simp only [List.set_cons_zero])
      refine WpH.takeD 64 (some 99) (v := ?_) rfl rfl (by kernel_rfl) (fun _ _ _ h => h) (.val rfl (fun wz hwz => ?_)) ?_
      rotate_left
      · go_simp; try (with_reducible rfl)
      (simp only [Act.put]); (try simp only [List.setIfInBounds_toArray]); (try simp only [List.set_cons_succ]); (try simp only [List.set_cons_zero])
      refine WpH.takeD 65 (some 100) (v := ?_) rfl rfl (by kernel_rfl) (fun _ _ _ h => h) (.val rfl (fun wz hwz => ?_)) ?_
      rotate_left
      · go_simp; try (with_reducible rfl)
      (simp only [Act.put]); (try simp only [List.setIfInBounds_toArray]); (try simp only [List.set_cons_succ]); (try simp only [List.set_cons_zero])
      refine WpH.takeD 66 (some 101) (v := ?_) rfl rfl (by kernel_rfl) (fun _ _ _ h => h) (.val rfl (fun wz hwz => ?_)) ?_
      rotate_left
      · go_simp; try (with_reducible rfl)
      (simp only [Act.put]); (try simp only [List.setIfInBounds_toArray]); (try simp only [List.set_cons_succ]); (try simp only [List.set_cons_zero])
      refine WpH.takeD 67 (some 102) (v := ?_) rfl rfl (by kernel_rfl) (fun _ _ _ h => h) (.val rfl (fun wz hwz => ?_)) ?_
      rotate_left
      · go_simp; try (with_reducible rfl)
      (simp only [Act.put]); (try simp only [List.setIfInBounds_toArray]); (try simp only [List.set_cons_succ]); (try simp only [List.set_cons_zero])
      refine WpH.takeD 68 (some 103) (v := ?_) rfl rfl (by kernel_rfl) (fun _ _ _ h => h) (.val rfl (fun wz hwz => ?_)) ?_
      rotate_left
      · (obtain ⟨hcz, hfz⟩ := bcell hwz; go_simp; try (with_reducible rfl))
      (simp only [Act.put]); (try simp only [List.setIfInBounds_toArray]); (try simp only [List.set_cons_succ]); (try simp only [List.set_cons_zero])
      refine WpH.takeD 69 (some 104) rfl rfl (by kernel_rfl) (fun _ _ _ h => h) (.call rfl (fun wz hwz => HVER.out wz) (fun wz hwz => ?_)) ?_
      · go_simp; try (with_reducible rfl)
      (simp only [Act.put]); (try simp only [List.setIfInBounds_toArray]); (try simp only [List.set_cons_succ]); (try simp only [List.set_cons_zero])
      refine WpH.takeD 70 (some 105) (v := ?_) rfl rfl (by kernel_rfl) (fun _ _ _ h => h) (.val rfl (fun wz hwz => ?_)) ?_
      rotate_left
      · (obtain ⟨hcz, hfz⟩ := bcell hwz; go_simp; try (with_reducible rfl))
      (simp only [Act.put]); (try simp only [List.setIfInBounds_toArray]); (try simp only [List.set_cons_succ]); (try simp only [List.set_cons_zero])
      refine WpH.takeD 71 (some 106) rfl rfl (by kernel_rfl) (fun _ _ _ h => h) (.call rfl (fun wz hwz => HRAR.out wz) (fun wz hwz => ?_)) ?_
      · go_simp; try (with_reducible rfl)
      (simp only [Act.put]); (try simp only [List.setIfInBounds_toArray]); (try simp only [List.set_cons_succ]); (try simp only [List.set_cons_zero])
      refine WpH.takeD 72 (some 107) (v := ?_) rfl rfl (by kernel_rfl) (fun _ _ _ h => h) (.val rfl (fun wz hwz => ?_)) ?_
      rotate_left
      · go_simp; try (with_reducible rfl)
      (simp only [Act.put]); (try simp only [List.setIfInBounds_toArray]); (try simp only [List.set_cons_succ]); (try simp only [List.set_cons_zero])
      refine WpH.takeD 73 (some 108) (v := ?_) rfl rfl (by kernel_rfl) (fun _ _ _ h => h) (.val rfl (fun wz hwz => ?_)) ?_
      rotate_left
      · go_simp; try (with_reducible rfl)
      (simp only [Act.put]); (try simp only [List.setIfInBounds_toArray]); (try simp only [List.set_cons_succ]); (try simp only [List.set_cons_zero])
      refine WpH.doneB (by kernel_rfl) (fun w11 hw11 => ?_)
      (try simp only [List.drop_succ_cons]); (try simp only [List.drop_zero]); (try simp only [Nat.reduceSub]); (try simp only [List.take_succ_cons]); (try simp only [List.take_zero])
      clear x0 x1 x2 x3 x4 x5 x6 x7 x8 x9 x10 x11 x12 r0 r1 r2 r3 r4 r5 r6 r7 r8 r9 r10 r11 r12 v0 v1 v2 v3 v4 v5 v6
      replace hbw := bl_call hbw (Nat.le_refl _) hw11
      replace hs := hs.call hw11
      replace hV := hV.call hw11
      replace hx := hx.call hw11
      replace hr := hr.call hw11
      replace hg := hg.later hw11
      replace hv := hv.call hw11
      obtain ⟨⟨x0, x1, x2, x3, x4, x5⟩, ⟨x6, x7, x8, x9, x10, x11⟩, x12⟩ := hx.get6
      obtain ⟨⟨r0, r1, r2, r3, r4, r5⟩, ⟨r6, r7, r8, r9, r10, r11⟩, r12⟩ := hr.get6
      obtain ⟨v0, v1, v2, v3, v4, v5, v6⟩ := hv.get3
      have hcase : (∃ bb p : Nat, (K = 2 ∨ K = 3) ∧ B = (bb : Int) ∧ bb ≤ 32 ∧ 2 ^ bb = p ∧ p = mo + 1 ∧ p ≤ 4294967296) ∨ (¬ K = 2 ∧ ¬ K = 3 ∧ mo = 1) := by
        have h1 := HK.out
        have h2 := HB.out
        have h3 := HMS.out
        have h4 := HI.out.ok
        cases Y with
        | sum b => have h5 := pow32 h4.2; exact .inl ⟨b, _, .inl h1, h2, h4.2, rfl, by have h6 : 2 ^ b - 1 = mo := h3; omega, h5.2⟩
        | vec b l c => have h5 := pow32 h4.1.2; exact .inl ⟨b, _, .inr h1, h2, h4.1.2, rfl, by have h6 : 2 ^ b - 1 = mo := h3; omega, h5.2⟩
        | count => exact .inr ⟨by rw [h1]; decide, by rw [h1]; decide, h3.symm⟩
        | hist l c => exact .inr ⟨by rw [h1]; show ¬ ((4 : Int) = 2); decide, by rw [h1]; show ¬ ((4 : Int) = 3); decide, h3.symm⟩
        | multi l m c => exact .inr ⟨by rw [h1]; show ¬ ((5 : Int) = 2); decide, by rw [h1]; show ¬ ((5 : Int) = 3); decide, h3.symm⟩
      clear HIN HRIN HOUT HROUT HCALLS HRCALLS HJ HRJ HDM HRDM HAR HRAR HDG HGC HPRF HVER hw1 hw2 hw3 hw4 hw5 hvei hpri hpr2 hdm hal
      rcases hcase with ⟨bb, p, hK, rfl, hbb, hp, hpm, hp32⟩ | ⟨hK2, hK3, rfl⟩
      · have hpow : (2 : Int) ^ bb = (p : Int) := by rw [← hp]; exact (Int.natCast_pow 2 bb).symm
        have hpm1 : (p : Int) - 1 = (mo : Int) := by omega
        have hp1 : 1 ≤ p := by omega
        clear hp hpm
        rcases hK with rfl | rfl
        · skip
          go_wp2_with (first
            | (go_at_call 50; refine (HMOST.out _).mono ?_; rintro e w12 ⟨rfl, hb12⟩; replace hbw := bl_call hbw (Nat.le_refl _) hb12; replace hs := hs.call hb12; replace hV := hV.call hb12; replace hx := hx.call hb12; replace hr := hr.call hb12; replace hv := hv.call hb12; replace hg := hg.later hb12))
          go_roundw
          case rel => exact ⟨q + 1, by omega, by go_num, hs, hV, hbw⟩
          case measure => simp [intOf]; omega
        · skip
          go_wp2_with (first
            | (go_at_call 50; refine (HMOST.out _).mono ?_; rintro e w12 ⟨rfl, hb12⟩; replace hbw := bl_call hbw (Nat.le_refl _) hb12; replace hs := hs.call hb12; replace hV := hV.call hb12; replace hx := hx.call hb12; replace hr := hr.call hb12; replace hv := hv.call hb12; replace hg := hg.later hb12))
          go_roundw
          case rel => exact ⟨q + 1, by omega, by go_num, hs, hV, hbw⟩
          case measure => simp [intOf]; omega
      · have hq2 : (K == 2) = false := by simpa using hK2
        have hq3 : (K == 3) = false := by simpa using hK3
        go_wp2_with (first
          | (go_at_call 50; refine (HMOST.out _).mono ?_; rintro e w12 ⟨rfl, hb12⟩; replace hbw := bl_call hbw (Nat.le_refl _) hb12; replace hs := hs.call hb12; replace hV := hV.call hb12; replace hx := hx.call hb12; replace hr := hr.call hb12; replace hv := hv.call hb12; replace hg := hg.later hb12))
        go_roundw
        case rel => exact ⟨q + 1, by omega, by go_num, hs, hV, hbw⟩
        case measure => simp [intOf]; omega
    · obtain rfl : q = 2 := by omega
      obtain ⟨⟨s0, s1, s2, s3, s4, s5⟩, ⟨s6, s7, s8, s9, s10, s11⟩, s12⟩ := hs.get6
      go_wp2_with (first
        | (go_at_call 36; refine (HCIR.out _).mono ?_; rintro e w12 ⟨rfl, hb12⟩; replace hbw := bl_call hbw (Nat.le_refl _) hb12; replace hs := hs.call hb12; replace hV := hV.call hb12)
        | (go_at_call 39; refine (HREF1.out _).mono ?_; rintro e w13 ⟨rfl, hb13⟩; replace hbw := bl_call hbw (Nat.le_refl _) hb13; replace hs := hs.call hb13; replace hV := hV.call hb13)
        | (go_at_call 49; refine (HRCHK1.out _).mono ?_; rintro e w14 ⟨rfl, hb14⟩; replace hbw := bl_call hbw (Nat.le_refl _) hb14; replace hs := hs.call hb14; replace hV := hV.call hb14))
      go_ret
      exact ⟨rfl, hbw⟩

end Go.Proofs.Ytiphahbeedeebaa
