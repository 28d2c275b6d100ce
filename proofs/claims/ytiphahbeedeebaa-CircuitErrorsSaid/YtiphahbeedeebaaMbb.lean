/-
  WALK: tallymanlaw10.CircuitErrors.
-/
import Derived.Test.YtiphahbeedeebaaMba
import Derived.Test.YtiphahbeedeebaaMah
namespace Go.Proofs.Ytiphahbeedeebaa
open Go.RowKit Fm
set_option linter.unusedVariables false
set_option maxRecDepth 100000

theorem run_err {f : Nat} (hf : IsF f) (y : CK) (hy : y.ok) (hcl : y.calls ≤ 511) (gv gj cb : Nat) (code : Int) (wz : World) (hv : BlkE wz gv (List.replicate y.nin (0, 0))) (hj : BlkE wz gj (List.replicate y.joint (0, 0))) (hvc : gv ≠ cb) (hjc : gj ≠ cb)
    (hc : Vs wz cb [.int .i64 code]) :
    Calls Try.prog 73 #[y.val f, .slice (some ⟨gv, 0, none⟩) y.nin y.nin, .slice (some ⟨gj, 0, none⟩) y.joint y.joint, .int .i64 2, .func (.func 72) #[] #[.pointer (some ⟨cb, 0, none⟩)]] wz fun e w' =>
      ∃ a b, e = .returned (.tuple #[.agg #[.int .u64 a, .int .u64 b], .int .i64 code]) ∧ Vs w' cb [.int .i64 code] ∧ Exc (fun q => q = cb) wz.heap.size wz w' := by
  have hnin := CK.nin_le hy
  have hjn : y.joint ≤ 512 := by cases y <;> simp only [CK.joint] <;> (try simp only [CK.calls] at hcl ⊢) <;> omega
  have h := circuit_RunOk hf y hy hcl (kinv (nK f 2)) 2 (.inr rfl) rfl (List.replicate y.nin 0) (List.replicate y.joint 0) _ _ (fun q => q = cb) _ _ code (asked_err y _ _ _ cb code) (List.length_replicate ..) (List.length_replicate ..) (.slice (some ⟨gv, 0, none⟩) y.nin y.nin) (.slice (some ⟨gj, 0, none⟩) y.joint y.joint) wz
    (SlX.of (List.length_replicate ..) (Nat.le_refl _) (by omega) hv.lt hvc (by rw [esK_zeros]; exact hv.rowE)) (SlX.of (List.length_replicate ..) (Nat.le_refl _) (by omega) hj.lt hjc (by rw [esK_zeros]; exact hj.rowE)) (InvErr.st 0 hc)
  refine h.mono ?_
  intro e w' hR
  obtain ⟨rfl, hE, D', hst, _⟩ := hR.uni
  refine ⟨_, _, rfl, ?_, hE⟩
  have h2 := hst.here
  unfold Jn at h2
  split at h2 <;> exact h2.2

theorem row_st {w : World} {b c : Nat} (h : ∃ e, BlkE w b [e]) (x y : Int) : ∃ e, BlkE ((w.setCell ⟨c, 0, none⟩ (.int .u64 x)).setCell ⟨c, 1, none⟩ (.int .u64 y)) b [e] := by
  obtain ⟨e, he⟩ := h
  by_cases hc : b = c
  · subst hc
    exact ⟨(x, y), he.set 0 x y⟩
  · exact ⟨e, (he.far hc _).far hc _⟩

set_option maxHeartbeats 16000000 in
theorem walk_CircuitErrors (x : Raw) (k f b l m c : Int) (vi vj : Value) (xs rs : List E) (shares code : Int) (w : World) (hx0 : 0 ≤ x.k ∧ x.k ≤ 255) (hx1 : 0 ≤ x.f ∧ x.f ≤ 255) (hk : 0 ≤ k ∧ k ≤ 255) (hf : 0 ≤ f ∧ f ≤ 255) (hb : 0 ≤ b ∧ b ≤ 255) (hl : 0 ≤ l ∧ l ≤ 255) (hm : 0 ≤ m ∧ m ≤ 255) (hc : 0 ≤ c ∧ c ≤ 255)
    (hi : SlE w w.heap.size vi xs) (hj : SlE w w.heap.size vj rs) :
    Calls Try.prog 15 #[x.val, .agg #[.int .u8 k, .int .u8 f, .int .u8 b, .int .u8 l, .int .u8 m, .int .u8 c], vi, vj, .int .i64 shares, .int .i64 code] w fun e w' => e = .returned (.bool true) ∧ Below w.heap.size w w' := by
  have hmf : ∀ (fn : Fn) (first cap : Array Value) (w : World), (Instr.makeFunc fn first cap).run Try.prog w = .ok (.func fn first cap) w := fun _ _ _ _ => rfl
  obtain ⟨F, y, hF, hy, hCIR⟩ := law10_Circuit k f b l m c hk.1 hk.2 hf.1 hf.2 hb.1 hb.2 hl.1 hl.2 hm.1 hm.2 hc.1 hc.2
  obtain ⟨n0, _, hchk, hrchk, his⟩ := raw_checks x
  have HS0 : Hid (x.Said n0) := ⟨hrchk, hchk, his, hx0.1, hx0.2, hx1.1, hx1.2⟩
  have HS1 : Hid ((y.raw F).Said 0) := CK.raw_said hF hy.ok hy.calls
  have HCIR := Lib.hid hCIR
  have HAW := Lib.hid law10_Awake
  unfold CK.val at HCIR
  unfold CK.raw at HS1
  unfold Raw.val
  clear hCIR hchk hrchk his
  obtain ⟨xk, xf, xb, xl, xm, xc⟩ := x
  dsimp only at HS0 HS1 ⊢
  generalize ((y.k : Nat) : Int) = yk at *
  generalize ((y.b : Nat) : Int) = yb at *
  generalize ((y.l : Nat) : Int) = yl at *
  generalize ((y.m : Nat) : Int) = ym at *
  generalize ((y.c : Nat) : Int) = yc at *
  generalize ((F : Nat) : Int) = yf at *
  obtain ⟨⟨A1, c1, rfl, hlc, hcm, hA⟩, hok⟩ := hi
  obtain ⟨⟨A2, c2, rfl, hlc2, hcm2, hA2⟩, hok2⟩ := hj
  clear hA hA2 hok hok2 hlc hlc2 hcm hcm2
  have hb00 : Below w.heap.size w w := Below.refl _ _
  go_enter Try.func15, Try.ntmps15
  go_upto_region 1 with fail
  have hv := ((Vs.new w [.int .u8 xk, .int .u8 xf, .int .i64 xb, .int .i64 xl, .int .i64 xm, .int .i64 xc] #[.int .u8 xk, .int .u8 xf, .int .i64 xb, .int .i64 xl, .int .i64 xm, .int .i64 xc] 60 rfl).alloc (.cells #[.int .u8 k, .int .u8 f, .int .u8 b, .int .u8 l, .int .u8 m, .int .u8 c] 62)).alloc (.cells #[.int .i64 code] 3)
  have hs := (Vs.new (w.alloc (.cells #[.int .u8 xk, .int .u8 xf, .int .i64 xb, .int .i64 xl, .int .i64 xm, .int .i64 xc] 60)) [.int .u8 k, .int .u8 f, .int .u8 b, .int .u8 l, .int .u8 m, .int .u8 c] #[.int .u8 k, .int .u8 f, .int .u8 b, .int .u8 l, .int .u8 m, .int .u8 c] 62 rfl).alloc (.cells #[.int .i64 code] 3)
  have hcd := Vs.new ((w.alloc (.cells #[.int .u8 xk, .int .u8 xf, .int .i64 xb, .int .i64 xl, .int .i64 xm, .int .i64 xc] 60)).alloc (.cells #[.int .u8 k, .int .u8 f, .int .u8 b, .int .u8 l, .int .u8 m, .int .u8 c] 62)) [.int .i64 code] #[.int .i64 code] 3 rfl
  simp only [World.size_alloc] at hs hcd
  have hbw : Below w.heap.size w (((w.alloc (.cells #[.int .u8 xk, .int .u8 xf, .int .i64 xb, .int .i64 xl, .int .i64 xm, .int .i64 xc] 60)).alloc (.cells #[.int .u8 k, .int .u8 f, .int .u8 b, .int .u8 l, .int .u8 m, .int .u8 c] 62)).alloc (.cells #[.int .i64 code] 3)) := by repeat (first | exact Below.refl _ _ | with_reducible assumption | (refine bl_alloc ?_ (Nat.le_refl _) _))
  have hszn : w.heap.size + 3 ≤ (((w.alloc (.cells #[.int .u8 xk, .int .u8 xf, .int .i64 xb, .int .i64 xl, .int .i64 xm, .int .i64 xc] 60)).alloc (.cells #[.int .u8 k, .int .u8 f, .int .u8 b, .int .u8 l, .int .u8 m, .int .u8 c] 62)).alloc (.cells #[.int .i64 code] 3)).heap.size := by simp only [World.size_alloc]; omega
  generalize (((w.alloc (.cells #[.int .u8 xk, .int .u8 xf, .int .i64 xb, .int .i64 xl, .int .i64 xm, .int .i64 xc] 60)).alloc (.cells #[.int .u8 k, .int .u8 f, .int .u8 b, .int .u8 l, .int .u8 m, .int .u8 c] 62)).alloc (.cells #[.int .i64 code] 3)) = w1 at hv hs hcd hbw hszn ⊢
  clear hb00
  by_cases h70 : 70 < xs.length
  · skip
    go_wp2_with (first
      | (go_at_call 35; refine (HAW.out _).mono ?_; rintro e w2 ⟨rfl, hb2⟩; replace hbw := bl_call hbw (Nat.le_refl _) hb2; replace hv := hv.call hb2; replace hs := hs.call hb2))
    go_ret
    exact ⟨rfl, hbw⟩
  by_cases h71 : 70 < rs.length
  · skip
    go_wp2_with (first
      | (go_at_call 35; refine (HAW.out _).mono ?_; rintro e w2 ⟨rfl, hb2⟩; replace hbw := bl_call hbw (Nat.le_refl _) hb2; replace hv := hv.call hb2; replace hs := hs.call hb2))
    go_ret
    exact ⟨rfl, hbw⟩
  obtain ⟨⟨v0, v1, v2, v3, v4, v5⟩, ⟨v6, v7, v8, v9, v10, v11⟩, v12⟩ := hv.get6
  obtain ⟨⟨s0, s1, s2, s3, s4, s5⟩, ⟨s6, s7, s8, s9, s10, s11⟩, s12⟩ := hs.get6
  go_upto_region 5 with (first
    | (go_at_call 35; refine (HAW.out _).mono ?_; rintro e w2 ⟨rfl, hb2⟩; replace hbw := bl_call hbw (Nat.le_refl _) hb2; replace hv := hv.call hb2; replace hs := hs.call hb2; replace hcd := hcd.call hb2; clear v0 v1 v2 v3 v4 v5 v6 v7 v8 v9 v10 v11 v12 s0 s1 s2 s3 s4 s5 s6 s7 s8 s9 s10 s11 s12; clear hb2; obtain ⟨⟨v0, v1, v2, v3, v4, v5⟩, ⟨v6, v7, v8, v9, v10, v11⟩, v12⟩ := hv.get6; obtain ⟨⟨s0, s1, s2, s3, s4, s5⟩, ⟨s6, s7, s8, s9, s10, s11⟩, s12⟩ := hs.get6))
  go_upto_region 7 with (first
    | (go_at_call 36; refine (HCIR.out _).mono ?_; rintro e w3 ⟨rfl, hb3⟩; replace hbw := bl_call hbw (Nat.le_refl _) hb3; replace hv := hv.call hb3; replace hs := hs.call hb3; replace hcd := hcd.call hb3; clear v0 v1 v2 v3 v4 v5 v6 v7 v8 v9 v10 v11 v12 s0 s1 s2 s3 s4 s5 s6 s7 s8 s9 s10 s11 s12; clear hb3; obtain ⟨⟨v0, v1, v2, v3, v4, v5⟩, ⟨v6, v7, v8, v9, v10, v11⟩, v12⟩ := hv.get6; obtain ⟨⟨s0, s1, s2, s3, s4, s5⟩, ⟨s6, s7, s8, s9, s10, s11⟩, s12⟩ := hs.get6))
  clear v0 v1 v2 v3 v4 v5 v6 v7 v8 v9 v10 v11 v12 s0 s1 s2 s3 s4 s5 s6 s7 s8 s9 s10 s11 s12
  have hy9 := Vs.new w3 [.int .u8 yk, .int .u8 yf, .int .i64 yb, .int .i64 yl, .int .i64 ym, .int .i64 yc] #[.int .u8 yk, .int .u8 yf, .int .i64 yb, .int .i64 yl, .int .i64 ym, .int .i64 yc] 60 rfl
  have hbA : Below w3.heap.size w3 (w3.alloc (.cells #[.int .u8 yk, .int .u8 yf, .int .i64 yb, .int .i64 yl, .int .i64 ym, .int .i64 yc] 60)) := by repeat (first | exact Below.refl _ _ | with_reducible assumption | (refine bl_alloc ?_ (Nat.le_refl _) _))
  replace hbw := bl_call hbw (Nat.le_refl _) hbA
  replace hv := hv.call hbA
  replace hs := hs.call hbA
  replace hcd := hcd.call hbA
  clear hbA
  generalize w3.alloc (.cells #[.int .u8 yk, .int .u8 yf, .int .i64 yb, .int .i64 yl, .int .i64 ym, .int .i64 yc] 60) = w4 at hbw hv hs hcd hy9 ⊢
  obtain ⟨⟨v0, v1, v2, v3, v4, v5⟩, ⟨v6, v7, v8, v9, v10, v11⟩, v12⟩ := hv.get6
  obtain ⟨⟨y90, y91, y92, y93, y94, y95⟩, ⟨y96, y97, y98, y99, y910, y911⟩, y912⟩ := hy9.get6
  go_upto_region 8 with fail
  clear v0 v1 v2 v3 v4 v5 v6 v7 v8 v9 v10 v11 v12 y90 y91 y92 y93 y94 y95 y96 y97 y98 y99 y910 y911 y912
  have hsb00 := hcd.lt
  have hV := Vs.new w4 [.int .u8 xk, .int .u8 xf, .int .i64 xb, .int .i64 xl, .int .i64 xm, .int .i64 xc, .int .u8 yk, .int .u8 yf, .int .i64 yb, .int .i64 yl, .int .i64 ym, .int .i64 yc] #[.int .u8 xk, .int .u8 xf, .int .i64 xb, .int .i64 xl, .int .i64 xm, .int .i64 xc, .int .u8 yk, .int .u8 yf, .int .i64 yb, .int .i64 yl, .int .i64 ym, .int .i64 yc] 60 rfl
  have hbA : Below w4.heap.size w4 (w4.alloc (.cells #[.int .u8 xk, .int .u8 xf, .int .i64 xb, .int .i64 xl, .int .i64 xm, .int .i64 xc, .int .u8 yk, .int .u8 yf, .int .i64 yb, .int .i64 yl, .int .i64 ym, .int .i64 yc] 60)) := by repeat (first | exact Below.refl _ _ | with_reducible assumption | (refine bl_alloc ?_ (Nat.le_refl _) _))
  replace hbw := bl_call hbw (Nat.le_refl _) hbA
  replace hv := hv.call hbA
  replace hs := hs.call hbA
  replace hcd := hcd.call hbA
  replace hy9 := hy9.call hbA
  clear hbA
  generalize w4.alloc (.cells #[.int .u8 xk, .int .u8 xf, .int .i64 xb, .int .i64 xl, .int .i64 xm, .int .i64 xc, .int .u8 yk, .int .u8 yf, .int .i64 yb, .int .i64 yl, .int .i64 ym, .int .i64 yc] 60) = w5 at hbw hv hs hcd hy9 hV ⊢
  obtain ⟨cb, hcbe⟩ : ∃ cb, w.heap.size + 1 + 1 = cb := ⟨_, rfl⟩
  have hcbw : w.heap.size ≤ cb := by omega
  have hsb : w4.heap.size < w5.heap.size := hV.lt
  rw [hcbe] at hcd hsb00
  simp only [hcbe]
  clear hcbe
  generalize w4.heap.size = sb at *
  clear hv hs hy9 HCIR HAW
  go_wp2_with fail
  go_loopw [49] (fun i wr => ∃ q : Nat, q ≤ 2 ∧ i = .int .i64 q ∧
    Vs wr sb [.int .u8 xk, .int .u8 xf, .int .i64 xb, .int .i64 xl, .int .i64 xm, .int .i64 xc, .int .u8 yk, .int .u8 yf, .int .i64 yb, .int .i64 yl, .int .i64 ym, .int .i64 yc] ∧ Vs wr cb [.int .i64 code] ∧ Below w.heap.size w wr) (fun i _ => 2 - (intOf i).toNat)
  case atStart => exact ⟨0, by omega, rfl, hV, hcd, hbw⟩
  case round =>
    clear hV hbw hsb hcd
    obtain ⟨q, hq, rfl, hV, hcd, hbw⟩ := hrel
    by_cases hlt : q < 2
    rotate_left
    · obtain rfl : q = 2 := by omega
      go_wp2_with fail
      go_ret
      exact ⟨rfl, hbw⟩
    obtain ⟨X, n, HX, v0, v1, v2, v3, v4, v5⟩ : ∃ (X : Raw) (n : Int), Hid (X.Said n) ∧ wr.cell? ⟨sb, q * 6, none⟩ = some (.int .u8 X.k) ∧ wr.cell? ⟨sb, q * 6 + 1, none⟩ = some (.int .u8 X.f) ∧ wr.cell? ⟨sb, q * 6 + 2, none⟩ = some (.int .i64 X.b) ∧
        wr.cell? ⟨sb, q * 6 + 3, none⟩ = some (.int .i64 X.l) ∧ wr.cell? ⟨sb, q * 6 + 4, none⟩ = some (.int .i64 X.m) ∧ wr.cell? ⟨sb, q * 6 + 5, none⟩ = some (.int .i64 X.c) := by
      have h2 : q = 0 ∨ q = 1 := by omega
      rcases h2 with rfl | rfl
      · exact ⟨_, _, HS0, hV.cell 0 _ rfl, hV.cell 1 _ rfl, hV.cell 2 _ rfl, hV.cell 3 _ rfl, hV.cell 4 _ rfl, hV.cell 5 _ rfl⟩
      · exact ⟨_, _, HS1, hV.cell 6 _ rfl, hV.cell 7 _ rfl, hV.cell 8 _ rfl, hV.cell 9 _ rfl, hV.cell 10 _ rfl, hV.cell 11 _ rfl⟩
    clear HS0 HS1
    obtain ⟨K, G, B, L, M, C⟩ := X
    dsimp only at v0 v1 v2 v3 v4 v5
    have HREF := Lib.hid (fun wz => law10_Ref K G B L M C HX.out.k0 HX.out.k1 HX.out.f0 HX.out.f1 wz)
    have HCK : Hid (∀ wz, Calls Try.prog 49 #[.agg #[.int .i64 K, .int .i64 G, .int .i64 B, .int .i64 L, .int .i64 M, .int .i64 C]] wz (RetC n wz)) := HX.out.chk
    have hlt2 : decide ((q : Int) < 2) = true := by simp; omega
    go_upto_region 10 with fail
    clear v0 v1 v2 v3 v4 v5 hlt2
    have hcbl : cb < wr.heap.size := hcd.lt
    have hx := Vs.new wr [.int .u8 K, .int .u8 G, .int .i64 B, .int .i64 L, .int .i64 M, .int .i64 C] #[.int .u8 K, .int .u8 G, .int .i64 B, .int .i64 L, .int .i64 M, .int .i64 C] 60 rfl
    have hbA : Below wr.heap.size wr (wr.alloc (.cells #[.int .u8 K, .int .u8 G, .int .i64 B, .int .i64 L, .int .i64 M, .int .i64 C] 60)) := by repeat (first | exact Below.refl _ _ | with_reducible assumption | (refine bl_alloc ?_ (Nat.le_refl _) _))
    replace hbw := bl_call hbw (Nat.le_refl _) hbA
    replace hV := hV.call hbA
    replace hcd := hcd.call hbA
    clear hbA
    generalize wr.alloc (.cells #[.int .u8 K, .int .u8 G, .int .i64 B, .int .i64 L, .int .i64 M, .int .i64 C] 60) = w6 at hbw hV hcd hx ⊢
    generalize wr.heap.size = xb0 at *
    obtain ⟨⟨x0, x1, x2, x3, x4, x5⟩, ⟨x6, x7, x8, x9, x10, x11⟩, x12⟩ := hx.get6
    go_upto_region 11 with (first
      | (go_at_call 39; refine (HREF.out _).mono ?_; rintro e w7 ⟨rfl, hb7⟩; replace hbw := bl_call hbw (Nat.le_refl _) hb7; replace hV := hV.call hb7; replace hcd := hcd.call hb7; replace hx := hx.call hb7; clear x0 x1 x2 x3 x4 x5 x6 x7 x8 x9 x10 x11 x12; clear hb7; obtain ⟨⟨x0, x1, x2, x3, x4, x5⟩, ⟨x6, x7, x8, x9, x10, x11⟩, x12⟩ := hx.get6)
      | (go_at_call 49; refine (HCK.out _).mono ?_; rintro e w8 ⟨rfl, hb8⟩; replace hbw := bl_call hbw (Nat.le_refl _) hb8; replace hV := hV.call hb8; replace hcd := hcd.call hb8; replace hx := hx.call hb8; clear x0 x1 x2 x3 x4 x5 x6 x7 x8 x9 x10 x11 x12; clear hb8; obtain ⟨⟨x0, x1, x2, x3, x4, x5⟩, ⟨x6, x7, x8, x9, x10, x11⟩, x12⟩ := hx.get6))
    clear x0 x1 x2 x3 x4 x5 x6 x7 x8 x9 x10 x11 x12
    clear HREF HCK
    by_cases hn0 : n = 0
    rotate_left
    · have hn1 : (n == 0) = false := by simpa using hn0
      have hn2 : (n != 0) = true := by simpa using hn0
      have HNO : Hid (∀ va vb vs vc wz, Calls Try.prog 73 #[.agg #[.int .u8 K, .int .u8 G, .int .i64 B, .int .i64 L, .int .i64 M, .int .i64 C], va, vb, vs, vc] wz (RetNoE n wz)) := fun va vb vs vc wz => circuit_Run_no ⟨K, G, B, L, M, C⟩ n hn0 HX.out.own va vb vs vc wz
      clear hn0
      obtain ⟨⟨x0, x1, x2, x3, x4, x5⟩, ⟨x6, x7, x8, x9, x10, x11⟩, x12⟩ := hx.get6
      go_upto_region 13 with (first
        | (go_at_call 73; refine (HNO.out _ _ _ _ _).mono ?_; rintro e w9 ⟨rfl, hb9⟩; replace hbw := bl_call hbw (Nat.le_refl _) hb9; replace hV := hV.call hb9; replace hcd := hcd.call hb9; replace hx := hx.call hb9; clear x0 x1 x2 x3 x4 x5 x6 x7 x8 x9 x10 x11 x12; clear hb9; obtain ⟨⟨x0, x1, x2, x3, x4, x5⟩, ⟨x6, x7, x8, x9, x10, x11⟩, x12⟩ := hx.get6))
      clear x0 x1 x2 x3 x4 x5 x6 x7 x8 x9 x10 x11 x12
      have hg9 := V2.new w9 (.int .u64 0) (.int .u64 0) 41
      have hbA : Below w9.heap.size w9 (w9.alloc (.cells #[.int .u64 0, .int .u64 0] 41)) := by repeat (first | exact Below.refl _ _ | with_reducible assumption | (refine bl_alloc ?_ (Nat.le_refl _) _))
      replace hbw := bl_call hbw (Nat.le_refl _) hbA
      replace hV := hV.call hbA
      replace hcd := hcd.call hbA
      replace hx := hx.call hbA
      clear hbA
      generalize w9.alloc (.cells #[.int .u64 0, .int .u64 0] 41) = w10 at hbw hV hcd hx hg9 ⊢
      go_wp2_with fail
      go_roundw
      case rel => exact ⟨q + 1, by omega, by go_num, hV, hcd, hbw⟩
      case measure => simp [intOf]; omega
    subst hn0
    obtain ⟨F', Y, hI⟩ := HX.out.is rfl
    have hval := hI.val
    unfold Raw.val CK.val at hval
    have hG : G = (F' : Int) := by simp at hval; exact hval.2.1
    subst hG
    have hcl : Y.calls ≤ 511 := by have := hI.calls; omega
    have HCHK : Hid (∀ wz, Calls Try.prog 59 #[.agg #[.int .u8 K, .int .u8 (F' : Int), .int .i64 B, .int .i64 L, .int .i64 M, .int .i64 C]] wz (RetC 0 wz)) := HX.out.own
    have HINN : Hid (∀ wz, Calls Try.prog 45 #[.agg #[.int .u8 K, .int .u8 (F' : Int), .int .i64 B, .int .i64 L, .int .i64 M, .int .i64 C]] wz (RetI Y.nin wz)) := fun wz => by
      have h := circuit_In F' Y hI.ok wz
      rw [← hI.val] at h
      exact h
    have HJNN : Hid (∀ wz, Calls Try.prog 65 #[.agg #[.int .u8 K, .int .u8 (F' : Int), .int .i64 B, .int .i64 L, .int .i64 M, .int .i64 C]] wz (RetI Y.joint wz)) := fun wz => by
      have h := circuit_Joint F' Y hI.ok wz
      rw [← hI.val] at h
      exact h
    have HNIL : Hid (∀ va vb vs wz, Calls Try.prog 73 #[.agg #[.int .u8 K, .int .u8 (F' : Int), .int .i64 B, .int .i64 L, .int .i64 M, .int .i64 C], va, vb, vs, .nilFunc] wz (RetNoE 1 wz)) := fun va vb vs wz => circuit_Run_nil ⟨K, F', B, L, M, C⟩ HX.out.own va vb vs wz
    have HSZ : Hid (∀ wz A n1 c1 A' n2 c2, (¬ n1 = Y.nin ∨ ¬ n2 = Y.joint) → Calls Try.prog 73 #[.agg #[.int .u8 K, .int .u8 (F' : Int), .int .i64 B, .int .i64 L, .int .i64 M, .int .i64 C], .slice A n1 c1, .slice A' n2 c2, .int .i64 2, (.func (.func 72) #[] #[.pointer (some ⟨cb, 0, none⟩)])] wz (RetNoE 9 wz)) :=
      fun wz A n1 c1 A' n2 c2 h => circuit_Run_size K F' B L M C Y.nin Y.joint HCHK HINN HJNN A n1 c1 A' n2 c2 _ _ _ _ wz h
    obtain ⟨sh, hsh⟩ : ∃ sh, min shares 0 = sh := ⟨_, rfl⟩
    have hsh0 : sh ≤ 0 := by omega
    have HZE : Hid (∀ wz A c1 A' c2, Calls Try.prog 73 #[.agg #[.int .u8 K, .int .u8 (F' : Int), .int .i64 B, .int .i64 L, .int .i64 M, .int .i64 C], .slice A Y.nin c1, .slice A' Y.joint c2, .int .i64 sh, (.func (.func 72) #[] #[.pointer (some ⟨cb, 0, none⟩)])] wz (RetNoE 8 wz)) :=
      fun wz A c1 A' c2 => circuit_Run_zero hI.fld K B L M C Y.nin Y.joint HCHK HINN HJNN A c1 A' c2 sh hsh0 _ _ _ wz
    have HRN : Hid (∀ gv gj wz, BlkE wz gv (List.replicate Y.nin (0, 0)) → BlkE wz gj (List.replicate Y.joint (0, 0)) → gv ≠ cb → gj ≠ cb → Vs wz cb [.int .i64 code] → Calls Try.prog 73 #[.agg #[.int .u8 K, .int .u8 (F' : Int), .int .i64 B, .int .i64 L, .int .i64 M, .int .i64 C], .slice (some ⟨gv, 0, none⟩) Y.nin Y.nin, .slice (some ⟨gj, 0, none⟩) Y.joint Y.joint, .int .i64 2, (.func (.func 72) #[] #[.pointer (some ⟨cb, 0, none⟩)])] wz fun e w' =>
        ∃ a b, e = .returned (.tuple #[.agg #[.int .u64 a, .int .u64 b], .int .i64 code]) ∧ Vs w' cb [.int .i64 code] ∧ Exc (fun q => q = cb) wz.heap.size wz w') := fun gv gj wz h1 h2 h3 h4 h5 => by
      have h := run_err hI.fld Y hI.ok hcl gv gj cb code wz h1 h2 h3 h4 h5
      rw [← hI.val] at h
      exact h
    have hnin : Y.nin ≤ 2048 := CK.nin_le hI.ok
    have hjn : Y.joint ≤ 512 := by cases Y <;> simp only [CK.joint] <;> (try simp only [CK.calls] at hcl ⊢) <;> omega
    clear hI hval hcl HX HCHK
    generalize Y.nin = ni at *
    generalize Y.joint = nj at *
    have hmk := make_elem ni (by omega)
    have hmk2 := make_elem nj (by omega)
    obtain ⟨⟨x0, x1, x2, x3, x4, x5⟩, ⟨x6, x7, x8, x9, x10, x11⟩, x12⟩ := hx.get6
    go_upto_region 16 with (first
      | (go_at_call 73; refine (HNIL.out _ _ _ _).mono ?_; rintro e w9 ⟨rfl, hb9⟩; replace hbw := bl_call hbw (Nat.le_refl _) hb9; replace hV := hV.call hb9; replace hcd := hcd.call hb9; replace hx := hx.call hb9; clear x0 x1 x2 x3 x4 x5 x6 x7 x8 x9 x10 x11 x12; clear hb9; obtain ⟨⟨x0, x1, x2, x3, x4, x5⟩, ⟨x6, x7, x8, x9, x10, x11⟩, x12⟩ := hx.get6))
    clear x0 x1 x2 x3 x4 x5 x6 x7 x8 x9 x10 x11 x12
    have hg9 := V2.new w9 (.int .u64 0) (.int .u64 0) 41
    have hbA : Below w9.heap.size w9 (w9.alloc (.cells #[.int .u64 0, .int .u64 0] 41)) := by repeat (first | exact Below.refl _ _ | with_reducible assumption | (refine bl_alloc ?_ (Nat.le_refl _) _))
    replace hbw := bl_call hbw (Nat.le_refl _) hbA
    replace hV := hV.call hbA
    replace hcd := hcd.call hbA
    replace hx := hx.call hbA
    clear hbA
    generalize w9.alloc (.cells #[.int .u64 0, .int .u64 0] 41) = w10 at hbw hV hcd hx hg9 ⊢
    have hc10 : cb < w10.heap.size := hcd.lt
    obtain ⟨⟨x0, x1, x2, x3, x4, x5⟩, ⟨x6, x7, x8, x9, x10, x11⟩, x12⟩ := hx.get6
    apply region_G2 (n := 7) (m := 8) (f := 7) ((fun gv gj wz => Below w10.heap.size w10 wz ∧ (w10.heap.size ≤ gv ∧ BlkE wz gv (List.replicate ni (0, 0))) ∧ (w10.heap.size ≤ gj ∧ BlkE wz gj (List.replicate nj (0, 0)))))
    case hm => kernel_rfl
    case hB => kernel_rfl
    case hf => rfl
    case' h =>
      refine WpG.takeD 0 (some 78) (v := ?_) rfl rfl (by kernel_rfl) (fun _ _ _ h => h) (.val rfl (fun wz hwz => ?_)) ?_
      rotate_left
      · (obtain ⟨hcz, hfz⟩ := bcell (hwz); go_simp; try (with_reducible rfl))
      (simp only [Act.put]); (try simp only [List.setIfInBounds_toArray]); (try simp only [List.set_cons_succ]); (try simp only [List.set_cons_zero])
      refine WpG.takeD 1 (some 79) rfl rfl (by kernel_rfl) (fun _ _ _ h => h) (.call rfl (fun wz hwz => HINN.out wz) (fun wz hwz => ?_)) ?_
      · go_simp; try (with_reducible rfl)
      (simp only [Act.put]); (try simp only [List.setIfInBounds_toArray]); (try simp only [List.set_cons_succ]); (try simp only [List.set_cons_zero])
      refine WpG.takeD 3 (some 81) (v := ?_) rfl rfl (by kernel_rfl) (fun _ _ _ h => h) (.val rfl (fun wz hwz => ?_)) ?_
      rotate_left
      · (obtain ⟨hcz, hfz⟩ := bcell (hwz); go_simp; try (with_reducible rfl))
      (simp only [Act.put]); (try simp only [List.setIfInBounds_toArray]); (try simp only [List.set_cons_succ]); (try simp only [List.set_cons_zero])
      refine WpG.takeD 4 (some 82) rfl rfl (by kernel_rfl) (fun _ _ _ h => h) (.call rfl (fun wz hwz => HJNN.out wz) (fun wz hwz => ?_)) ?_
      · go_simp; try (with_reducible rfl)
      (simp only [Act.put]); (try simp only [List.setIfInBounds_toArray]); (try simp only [List.set_cons_succ]); (try simp only [List.set_cons_zero])
      refine WpG.twoD 2 5 (some 80) (some 83) rfl rfl rfl rfl (by kernel_rfl) (fun b : Nat => Value.slice (some ⟨b, 0, none⟩) ni ni) (fun b wz => w10.heap.size ≤ b ∧ BlkE wz b (List.replicate ni (0, 0))) (fun _ _ _ h hb => ⟨h.1, h.2.call hb⟩) (Fresh.slice ni ni (cellsE (List.replicate ni (0, 0))) 41 rfl (fun wz hwz => (hwz).size) (fun wz hwz => by go_simp; try (with_reducible rfl)) (R := fun b wz => BlkE wz b (List.replicate ni (0, 0))) (fun wz hwz => heap_alloc_new wz _)) (fun b : Nat => Value.slice (some ⟨b, 0, none⟩) nj nj) (fun b wz => w10.heap.size ≤ b ∧ BlkE wz b (List.replicate nj (0, 0))) (fun _ _ _ h hb => ⟨h.1, h.2.call hb⟩) (Fresh.slice nj nj (cellsE (List.replicate nj (0, 0))) 41 rfl (fun wz hwz => (hwz).size) (fun wz hwz => by go_simp; try (with_reducible rfl)) (R := fun b wz => BlkE wz b (List.replicate nj (0, 0))) (fun wz hwz => heap_alloc_new wz _)) (fun gv w0 hw0 hR0 => ?rg16_1a) (fun gj w0' hw0' hR0' => ?rg16_1b)
      case' rg16_1a =>
        (simp only [Act.put]); (try simp only [List.setIfInBounds_toArray]); (try simp only [List.set_cons_succ]); (try simp only [List.set_cons_zero])
        refine WpG.takeD 6 (some 22) (v := ?_) rfl rfl (by kernel_rfl) (fun _ _ _ h => h) (.val rfl (fun wz hwz => ?_)) ?_
        rotate_left
        · go_simp; try (with_reducible rfl)
        (simp only [Act.put]); (try simp only [List.setIfInBounds_toArray]); (try simp only [List.set_cons_succ]); (try simp only [List.set_cons_zero])
        refine WpG.oneD 5 (some 83) rfl rfl (by kernel_rfl) (fun b : Nat => Value.slice (some ⟨b, 0, none⟩) nj nj) (fun b wz => w10.heap.size ≤ b ∧ BlkE wz b (List.replicate nj (0, 0))) (fun _ _ _ h hb => ⟨h.1, h.2.call hb⟩) (Fresh.slice nj nj (cellsE (List.replicate nj (0, 0))) 41 rfl (fun wz hwz => (hwz.1).size) (fun wz hwz => by go_simp; try (with_reducible rfl)) (R := fun b wz => BlkE wz b (List.replicate nj (0, 0))) (fun wz hwz => heap_alloc_new wz _)) (fun gj w0' hw0' hR0' => ?_)
        (simp only [Act.put]); (try simp only [List.setIfInBounds_toArray]); (try simp only [List.set_cons_succ]); (try simp only [List.set_cons_zero])
        refine WpG.done (by kernel_rfl) (fun w11 hS => ⟨gv, gj, rfl, ?_⟩)
        · (obtain ⟨⟨h1, h2⟩, h3⟩ := hS; first | exact ⟨h1, h2, h3⟩ | exact ⟨h1, h3, h2⟩)
      case' rg16_1b =>
        (simp only [Act.put]); (try simp only [List.setIfInBounds_toArray]); (try simp only [List.set_cons_succ]); (try simp only [List.set_cons_zero])
        refine WpG.oneD 2 (some 80) rfl rfl (by kernel_rfl) (fun b : Nat => Value.slice (some ⟨b, 0, none⟩) ni ni) (fun b wz => w10.heap.size ≤ b ∧ BlkE wz b (List.replicate ni (0, 0))) (fun _ _ _ h hb => ⟨h.1, h.2.call hb⟩) (Fresh.slice ni ni (cellsE (List.replicate ni (0, 0))) 41 rfl (fun wz hwz => (hwz.1).size) (fun wz hwz => by go_simp; try (with_reducible rfl)) (R := fun b wz => BlkE wz b (List.replicate ni (0, 0))) (fun wz hwz => heap_alloc_new wz _)) (fun gv w0 hw0 hR0 => ?_)
        (simp only [Act.put]); (try simp only [List.setIfInBounds_toArray]); (try simp only [List.set_cons_succ]); (try simp only [List.set_cons_zero])
        refine WpG.takeD 6 (some 22) (v := ?_) rfl rfl (by kernel_rfl) (fun _ _ _ h => h) (.val rfl (fun wz hwz => ?_)) ?_
        rotate_left
        · go_simp; try (with_reducible rfl)
        (simp only [Act.put]); (try simp only [List.setIfInBounds_toArray]); (try simp only [List.set_cons_succ]); (try simp only [List.set_cons_zero])
        refine WpG.done (by kernel_rfl) (fun w11 hS => ⟨gv, gj, rfl, ?_⟩)
        · (obtain ⟨⟨h1, h2⟩, h3⟩ := hS; first | exact ⟨h1, h2, h3⟩ | exact ⟨h1, h3, h2⟩)
    intro gv gj w11 hS
    (try simp only [List.drop_succ_cons]); (try simp only [List.drop_zero]); (try simp only [Nat.reduceSub]); (try simp only [List.take_succ_cons]); (try simp only [List.take_zero])
    obtain ⟨hb11, ⟨hgv, hBV⟩, hgj, hBJ⟩ := hS
    clear x0 x1 x2 x3 x4 x5 x6 x7 x8 x9 x10 x11 x12
    replace hbw := bl_call hbw (Nat.le_refl _) hb11
    replace hV := hV.call hb11
    replace hcd := hcd.call hb11
    replace hx := hx.call hb11
    clear hb11 hmk hmk2
    have hcv : gv ≠ cb := by omega
    have hcj : gj ≠ cb := by omega
    go_upto_region 17 with fail
    obtain ⟨⟨x0, x1, x2, x3, x4, x5⟩, ⟨x6, x7, x8, x9, x10, x11⟩, x12⟩ := hx.get6
    apply region_G4 (n := 13) (m := 14) (f := 13) ((fun _ _ _ _ wz => Below w11.heap.size w11 wz))
    case hm => kernel_rfl
    case hB => kernel_rfl
    case hf => rfl
    case' h =>
      refine WpG.takeD 0 (some 85) (v := ?_) rfl rfl (by kernel_rfl) (fun _ _ _ h => h) (.val rfl (fun wz hwz => ?_)) ?_
      rotate_left
      · (obtain ⟨hcz, hfz⟩ := bcell (hwz); go_simp; try (with_reducible rfl))
      (simp only [Act.put]); (try simp only [List.setIfInBounds_toArray]); (try simp only [List.set_cons_succ]); (try simp only [List.set_cons_zero])
      refine WpG.takeD 1 (some 86) (v := ?_) rfl rfl (by kernel_rfl) (fun _ _ _ h => h) (.val rfl (fun wz hwz => ?_)) ?_
      rotate_left
      · go_simp; try (with_reducible rfl)
      (simp only [Act.put]); (try simp only [List.setIfInBounds_toArray]); (try simp only [List.set_cons_succ]); (try simp only [List.set_cons_zero])
      refine WpG.takeD 2 (some 87) (v := ?_) rfl rfl (by kernel_rfl) (fun _ _ _ h => h) (.val rfl (fun wz hwz => ?_)) ?_
      rotate_left
      · go_simp; try (with_reducible rfl)
      (simp only [Act.put]); (try simp only [List.setIfInBounds_toArray]); (try simp only [List.set_cons_succ]); (try simp only [List.set_cons_zero])
      refine WpG.takeD 5 (some 90) (v := ?_) rfl rfl (by kernel_rfl) (fun _ _ _ h => h) (.val rfl (fun wz hwz => ?_)) ?_
      rotate_left
      · go_simp; try (with_reducible rfl)
      (simp only [Act.put]); (try simp only [List.setIfInBounds_toArray]); (try simp only [List.set_cons_succ]); (try simp only [List.set_cons_zero])
      refine WpG.takeD 6 (some 91) (v := ?_) rfl rfl (by kernel_rfl) (fun _ _ _ h => h) (.val rfl (fun wz hwz => ?_)) ?_
      rotate_left
      · go_simp; try (with_reducible rfl)
      (simp only [Act.put]); (try simp only [List.setIfInBounds_toArray]); (try simp only [List.set_cons_succ]); (try simp only [List.set_cons_zero])
      refine WpG.twoD 3 11 (some 88) (some 24) rfl rfl rfl rfl (by kernel_rfl) (fun b : Nat => Value.slice (some ⟨b, 0, none⟩) 1 1) (fun b wz => w11.heap.size ≤ b ∧ ∃ e, BlkE wz b [e]) (fun _ _ _ h hb => ⟨h.1, let ⟨e, he⟩ := h.2; ⟨e, he.call hb⟩⟩) (Fresh.slice 1 1 [.int .u64 0, .int .u64 0] 41 rfl (fun wz hwz => (hwz).size) (fun wz hwz => by go_simp; try (with_reducible rfl)) (R := fun b wz => ∃ e, BlkE wz b [e]) (fun wz hwz => ⟨(0, 0), BlkE.new wz [(0, 0)] _ rfl⟩)) (fun b : Nat => Value.pointer (some ⟨b, 0, none⟩)) (fun b w => w11.heap.size ≤ b ∧ ∃ u v, V2 w b u v) (fun _ _ _ h hb => ⟨h.1, let ⟨u, v, hV⟩ := h.2; ⟨u, v, hV.call hb⟩⟩) (Fresh.var [.int .u64 0, .int .u64 0] 41 rfl (fun wz hwz => (hwz).size) (fun wz hwz => by go_simp; try (with_reducible rfl)) (R := fun b w => ∃ u v, V2 w b u v) (fun wz hwz => ⟨_, _, V2.new wz _ _ _⟩)) (fun nb w0 hw0 hR0 => ?rg17_2a) (fun bb w0v hw0v hR0v => ?rg17_2b)
      case' rg17_2a =>
        (simp only [Act.put]); (try simp only [List.setIfInBounds_toArray]); (try simp only [List.set_cons_succ]); (try simp only [List.set_cons_zero])
        refine WpG.twoD 4 11 (some 89) (some 24) rfl rfl rfl rfl (by kernel_rfl) (fun q : Nat × Nat => Value.slice (some ⟨q.1, 0, none⟩) (ni + 1) q.2) (fun _ _ => True) (fun _ _ _ _ _ => trivial) (⟨rfl, fun wz hwz => by obtain ⟨e1, he1⟩ := (hwz.2).2; obtain ⟨cp, w', hr, hb⟩ := run_append_full gv ni (List.replicate ni (0, 0)) (List.length_replicate ..) (by omega) (hBV.call (hwz.1)) nb e1 he1.rowE 22; rw [exec_append (.tmp 86) (.tmp 88) rfl rfl rfl hr]; exact ⟨(wz.heap.size, cp), rfl, trivial, hb⟩⟩) (fun b : Nat => Value.pointer (some ⟨b, 0, none⟩)) (fun b w => w11.heap.size ≤ b ∧ ∃ u v, V2 w b u v) (fun _ _ _ h hb => ⟨h.1, let ⟨u, v, hV⟩ := h.2; ⟨u, v, hV.call hb⟩⟩) (Fresh.var [.int .u64 0, .int .u64 0] 41 rfl (fun wz hwz => (hwz.1).size) (fun wz hwz => by go_simp; try (with_reducible rfl)) (R := fun b w => ∃ u v, V2 w b u v) (fun wz hwz => ⟨_, _, V2.new wz _ _ _⟩)) (fun q w0q hw0q hR0q => ?rg17_3a) (fun bb w0v hw0v hR0v => ?rg17_3b)
        case' rg17_3a =>
          (simp only [Act.put]); (try simp only [List.setIfInBounds_toArray]); (try simp only [List.set_cons_succ]); (try simp only [List.set_cons_zero])
          obtain ⟨qa, qb⟩ := q; dsimp only
          refine WpG.takeD 7 (some 92) rfl rfl (by kernel_rfl) (fun _ _ _ h => h) (.call rfl (fun wz hwz => HSZ.out wz (some ⟨qa, 0, none⟩) (ni + 1) qb (some ⟨gj, 0, none⟩) nj nj (.inl (by omega))) (fun wz hwz => ?_)) ?_
          · go_simp; try (with_reducible rfl)
          (simp only [Act.put]); (try simp only [List.setIfInBounds_toArray]); (try simp only [List.set_cons_succ]); (try simp only [List.set_cons_zero])
          refine WpG.takeD 8 (some 84) (v := ?_) rfl rfl (by kernel_rfl) (fun _ _ _ h => h) (.val rfl (fun wz hwz => ?_)) ?_
          rotate_left
          · go_simp; try (with_reducible rfl)
          (simp only [Act.put]); (try simp only [List.setIfInBounds_toArray]); (try simp only [List.set_cons_succ]); (try simp only [List.set_cons_zero])
          refine WpG.takeD 9 (some 93) (v := ?_) rfl rfl (by kernel_rfl) (fun _ _ _ h => h) (.val rfl (fun wz hwz => ?_)) ?_
          rotate_left
          · go_simp; try (with_reducible rfl)
          (simp only [Act.put]); (try simp only [List.setIfInBounds_toArray]); (try simp only [List.set_cons_succ]); (try simp only [List.set_cons_zero])
          refine WpG.takeD 10 (some 94) (v := ?_) rfl rfl (by kernel_rfl) (fun _ _ _ h => h) (.val rfl (fun wz hwz => ?_)) ?_
          rotate_left
          · go_simp; try (with_reducible rfl)
          (simp only [Act.put]); (try simp only [List.setIfInBounds_toArray]); (try simp only [List.set_cons_succ]); (try simp only [List.set_cons_zero])
          refine WpG.oneD 11 (some 24) rfl rfl (by kernel_rfl) (fun b : Nat => Value.pointer (some ⟨b, 0, none⟩)) (fun b w => w11.heap.size ≤ b ∧ ∃ u v, V2 w b u v) (fun _ _ _ h hb => ⟨h.1, let ⟨u, v, hV⟩ := h.2; ⟨u, v, hV.call hb⟩⟩) (Fresh.var [.int .u64 0, .int .u64 0] 41 rfl (fun wz hwz => (hwz.1.1).size) (fun wz hwz => by go_simp; try (with_reducible rfl)) (R := fun b w => ∃ u v, V2 w b u v) (fun wz hwz => ⟨_, _, V2.new wz _ _ _⟩)) (fun bb w0v hw0v hR0v => ?_)
          (simp only [Act.put]); (try simp only [List.setIfInBounds_toArray]); (try simp only [List.set_cons_succ]); (try simp only [List.set_cons_zero])
          refine WpG.oneSkip 12 none rfl rfl (by kernel_rfl) (fun _ => True) (fun _ _ _ _ => trivial) rfl (fun wz hwz => ?_) ?_
          · obtain ⟨hge, u, v, hVz⟩ := hwz.2; obtain ⟨q0, q1, q2, q3, q4⟩ := V2.mk hVz.c0 hVz.c1 hVz.f0 hVz.f1 hVz.lt; exact ⟨(wz.setCell ⟨bb, 0, none⟩ (.int .u64 0)).setCell ⟨bb, 1, none⟩ (.int .u64 0), by go_simp; try (with_reducible rfl), ⟨⟨⟨bl_st (hwz.1.1.1) hge _ _, ⟨(hwz.1.1.2).1, row_st (hwz.1.1.2).2 _ _⟩⟩, hwz.1.2⟩, ⟨hge, _, _, V2.set hVz _ _⟩⟩, trivial⟩
          (simp only [Act.put]); (try simp only [List.setIfInBounds_toArray]); (try simp only [List.set_cons_succ]); (try simp only [List.set_cons_zero])
          refine WpG.done (by kernel_rfl) (fun w12 hS => ⟨nb, qa, qb, bb, rfl, ?_⟩)
          · (exact hS.1.1.1.1)
        case' rg17_3b =>
          (simp only [Act.put]); (try simp only [List.setIfInBounds_toArray]); (try simp only [List.set_cons_succ]); (try simp only [List.set_cons_zero])
          refine WpG.oneD 4 (some 89) rfl rfl (by kernel_rfl) (fun q : Nat × Nat => Value.slice (some ⟨q.1, 0, none⟩) (ni + 1) q.2) (fun _ _ => True) (fun _ _ _ _ _ => trivial) (⟨rfl, fun wz hwz => by obtain ⟨e1, he1⟩ := (hwz.1.2).2; obtain ⟨cp, w', hr, hb⟩ := run_append_full gv ni (List.replicate ni (0, 0)) (List.length_replicate ..) (by omega) (hBV.call (hwz.1.1)) nb e1 he1.rowE 22; rw [exec_append (.tmp 86) (.tmp 88) rfl rfl rfl hr]; exact ⟨(wz.heap.size, cp), rfl, trivial, hb⟩⟩) (fun q w0q hw0q hR0q => ?_)
          (simp only [Act.put]); (try simp only [List.setIfInBounds_toArray]); (try simp only [List.set_cons_succ]); (try simp only [List.set_cons_zero])
          obtain ⟨qa, qb⟩ := q; dsimp only
          refine WpG.takeD 7 (some 92) rfl rfl (by kernel_rfl) (fun _ _ _ h => h) (.call rfl (fun wz hwz => HSZ.out wz (some ⟨qa, 0, none⟩) (ni + 1) qb (some ⟨gj, 0, none⟩) nj nj (.inl (by omega))) (fun wz hwz => ?_)) ?_
          · go_simp; try (with_reducible rfl)
          (simp only [Act.put]); (try simp only [List.setIfInBounds_toArray]); (try simp only [List.set_cons_succ]); (try simp only [List.set_cons_zero])
          refine WpG.takeD 8 (some 84) (v := ?_) rfl rfl (by kernel_rfl) (fun _ _ _ h => h) (.val rfl (fun wz hwz => ?_)) ?_
          rotate_left
          · go_simp; try (with_reducible rfl)
          (simp only [Act.put]); (try simp only [List.setIfInBounds_toArray]); (try simp only [List.set_cons_succ]); (try simp only [List.set_cons_zero])
          refine WpG.takeD 9 (some 93) (v := ?_) rfl rfl (by kernel_rfl) (fun _ _ _ h => h) (.val rfl (fun wz hwz => ?_)) ?_
          rotate_left
          · go_simp; try (with_reducible rfl)
          (simp only [Act.put]); (try simp only [List.setIfInBounds_toArray]); (try simp only [List.set_cons_succ]); (try simp only [List.set_cons_zero])
          refine WpG.takeD 10 (some 94) (v := ?_) rfl rfl (by kernel_rfl) (fun _ _ _ h => h) (.val rfl (fun wz hwz => ?_)) ?_
          rotate_left
          · go_simp; try (with_reducible rfl)
          (simp only [Act.put]); (try simp only [List.setIfInBounds_toArray]); (try simp only [List.set_cons_succ]); (try simp only [List.set_cons_zero])
          refine WpG.oneSkip 12 none rfl rfl (by kernel_rfl) (fun _ => True) (fun _ _ _ _ => trivial) rfl (fun wz hwz => ?_) ?_
          · obtain ⟨hge, u, v, hVz⟩ := hwz.1.2; obtain ⟨q0, q1, q2, q3, q4⟩ := V2.mk hVz.c0 hVz.c1 hVz.f0 hVz.f1 hVz.lt; exact ⟨(wz.setCell ⟨bb, 0, none⟩ (.int .u64 0)).setCell ⟨bb, 1, none⟩ (.int .u64 0), by go_simp; try (with_reducible rfl), ⟨⟨⟨bl_st (hwz.1.1.1) hge _ _, ⟨(hwz.1.1.2).1, row_st (hwz.1.1.2).2 _ _⟩⟩, ⟨hge, _, _, V2.set hVz _ _⟩⟩, hwz.2⟩, trivial⟩
          (simp only [Act.put]); (try simp only [List.setIfInBounds_toArray]); (try simp only [List.set_cons_succ]); (try simp only [List.set_cons_zero])
          refine WpG.done (by kernel_rfl) (fun w12 hS => ⟨nb, qa, qb, bb, rfl, ?_⟩)
          · (exact hS.1.1.1.1)
      case' rg17_2b =>
        (simp only [Act.put]); (try simp only [List.setIfInBounds_toArray]); (try simp only [List.set_cons_succ]); (try simp only [List.set_cons_zero])
        refine WpG.oneD 3 (some 88) rfl rfl (by kernel_rfl) (fun b : Nat => Value.slice (some ⟨b, 0, none⟩) 1 1) (fun b wz => w11.heap.size ≤ b ∧ ∃ e, BlkE wz b [e]) (fun _ _ _ h hb => ⟨h.1, let ⟨e, he⟩ := h.2; ⟨e, he.call hb⟩⟩) (Fresh.slice 1 1 [.int .u64 0, .int .u64 0] 41 rfl (fun wz hwz => (hwz.1).size) (fun wz hwz => by go_simp; try (with_reducible rfl)) (R := fun b wz => ∃ e, BlkE wz b [e]) (fun wz hwz => ⟨(0, 0), BlkE.new wz [(0, 0)] _ rfl⟩)) (fun nb w0 hw0 hR0 => ?_)
        (simp only [Act.put]); (try simp only [List.setIfInBounds_toArray]); (try simp only [List.set_cons_succ]); (try simp only [List.set_cons_zero])
        refine WpG.oneD 4 (some 89) rfl rfl (by kernel_rfl) (fun q : Nat × Nat => Value.slice (some ⟨q.1, 0, none⟩) (ni + 1) q.2) (fun _ _ => True) (fun _ _ _ _ _ => trivial) (⟨rfl, fun wz hwz => by obtain ⟨e1, he1⟩ := (hwz.2).2; obtain ⟨cp, w', hr, hb⟩ := run_append_full gv ni (List.replicate ni (0, 0)) (List.length_replicate ..) (by omega) (hBV.call (hwz.1.1)) nb e1 he1.rowE 22; rw [exec_append (.tmp 86) (.tmp 88) rfl rfl rfl hr]; exact ⟨(wz.heap.size, cp), rfl, trivial, hb⟩⟩) (fun q w0q hw0q hR0q => ?_)
        (simp only [Act.put]); (try simp only [List.setIfInBounds_toArray]); (try simp only [List.set_cons_succ]); (try simp only [List.set_cons_zero])
        obtain ⟨qa, qb⟩ := q; dsimp only
        refine WpG.takeD 7 (some 92) rfl rfl (by kernel_rfl) (fun _ _ _ h => h) (.call rfl (fun wz hwz => HSZ.out wz (some ⟨qa, 0, none⟩) (ni + 1) qb (some ⟨gj, 0, none⟩) nj nj (.inl (by omega))) (fun wz hwz => ?_)) ?_
        · go_simp; try (with_reducible rfl)
        (simp only [Act.put]); (try simp only [List.setIfInBounds_toArray]); (try simp only [List.set_cons_succ]); (try simp only [List.set_cons_zero])
        refine WpG.takeD 8 (some 84) (v := ?_) rfl rfl (by kernel_rfl) (fun _ _ _ h => h) (.val rfl (fun wz hwz => ?_)) ?_
        rotate_left
        · go_simp; try (with_reducible rfl)
        (simp only [Act.put]); (try simp only [List.setIfInBounds_toArray]); (try simp only [List.set_cons_succ]); (try simp only [List.set_cons_zero])
        refine WpG.takeD 9 (some 93) (v := ?_) rfl rfl (by kernel_rfl) (fun _ _ _ h => h) (.val rfl (fun wz hwz => ?_)) ?_
        rotate_left
        · go_simp; try (with_reducible rfl)
        (simp only [Act.put]); (try simp only [List.setIfInBounds_toArray]); (try simp only [List.set_cons_succ]); (try simp only [List.set_cons_zero])
        refine WpG.takeD 10 (some 94) (v := ?_) rfl rfl (by kernel_rfl) (fun _ _ _ h => h) (.val rfl (fun wz hwz => ?_)) ?_
        rotate_left
        · go_simp; try (with_reducible rfl)
        (simp only [Act.put]); (try simp only [List.setIfInBounds_toArray]); (try simp only [List.set_cons_succ]); (try simp only [List.set_cons_zero])
        refine WpG.oneSkip 12 none rfl rfl (by kernel_rfl) (fun _ => True) (fun _ _ _ _ => trivial) rfl (fun wz hwz => ?_) ?_
        · obtain ⟨hge, u, v, hVz⟩ := hwz.1.1.2; obtain ⟨q0, q1, q2, q3, q4⟩ := V2.mk hVz.c0 hVz.c1 hVz.f0 hVz.f1 hVz.lt; exact ⟨(wz.setCell ⟨bb, 0, none⟩ (.int .u64 0)).setCell ⟨bb, 1, none⟩ (.int .u64 0), by go_simp; try (with_reducible rfl), ⟨⟨⟨bl_st (hwz.1.1.1) hge _ _, ⟨hge, _, _, V2.set hVz _ _⟩⟩, ⟨(hwz.1.2).1, row_st (hwz.1.2).2 _ _⟩⟩, hwz.2⟩, trivial⟩
        (simp only [Act.put]); (try simp only [List.setIfInBounds_toArray]); (try simp only [List.set_cons_succ]); (try simp only [List.set_cons_zero])
        refine WpG.done (by kernel_rfl) (fun w12 hS => ⟨nb, qa, qb, bb, rfl, ?_⟩)
        · (exact hS.1.1.1.1)
    intro nb qa qb bb w12 hS
    (try simp only [List.drop_succ_cons]); (try simp only [List.drop_zero]); (try simp only [Nat.reduceSub]); (try simp only [List.take_succ_cons]); (try simp only [List.take_zero])
    clear x0 x1 x2 x3 x4 x5 x6 x7 x8 x9 x10 x11 x12
    replace hbw := bl_call hbw (Nat.le_refl _) hS
    replace hV := hV.call hS
    replace hcd := hcd.call hS
    replace hx := hx.call hS
    replace hBV := hBV.call hS
    replace hBJ := hBJ.call hS
    clear hS
    go_upto_region 18 with fail
    obtain ⟨⟨x0, x1, x2, x3, x4, x5⟩, ⟨x6, x7, x8, x9, x10, x11⟩, x12⟩ := hx.get6
    apply region_G4 (n := 13) (m := 14) (f := 13) ((fun _ _ _ _ wz => Below w12.heap.size w12 wz))
    case hm => kernel_rfl
    case hB => kernel_rfl
    case hf => rfl
    case' h =>
      refine WpG.takeD 0 (some 96) (v := ?_) rfl rfl (by kernel_rfl) (fun _ _ _ h => h) (.val rfl (fun wz hwz => ?_)) ?_
      rotate_left
      · (obtain ⟨hcz, hfz⟩ := bcell (hwz); go_simp; try (with_reducible rfl))
      (simp only [Act.put]); (try simp only [List.setIfInBounds_toArray]); (try simp only [List.set_cons_succ]); (try simp only [List.set_cons_zero])
      refine WpG.takeD 1 (some 97) (v := ?_) rfl rfl (by kernel_rfl) (fun _ _ _ h => h) (.val rfl (fun wz hwz => ?_)) ?_
      rotate_left
      · go_simp; try (with_reducible rfl)
      (simp only [Act.put]); (try simp only [List.setIfInBounds_toArray]); (try simp only [List.set_cons_succ]); (try simp only [List.set_cons_zero])
      refine WpG.takeD 2 (some 98) (v := ?_) rfl rfl (by kernel_rfl) (fun _ _ _ h => h) (.val rfl (fun wz hwz => ?_)) ?_
      rotate_left
      · go_simp; try (with_reducible rfl)
      (simp only [Act.put]); (try simp only [List.setIfInBounds_toArray]); (try simp only [List.set_cons_succ]); (try simp only [List.set_cons_zero])
      refine WpG.takeD 3 (some 99) (v := ?_) rfl rfl (by kernel_rfl) (fun _ _ _ h => h) (.val rfl (fun wz hwz => ?_)) ?_
      rotate_left
      · go_simp; try (with_reducible rfl)
      (simp only [Act.put]); (try simp only [List.setIfInBounds_toArray]); (try simp only [List.set_cons_succ]); (try simp only [List.set_cons_zero])
      refine WpG.takeD 6 (some 102) (v := ?_) rfl rfl (by kernel_rfl) (fun _ _ _ h => h) (.val rfl (fun wz hwz => ?_)) ?_
      rotate_left
      · go_simp; try (with_reducible rfl)
      (simp only [Act.put]); (try simp only [List.setIfInBounds_toArray]); (try simp only [List.set_cons_succ]); (try simp only [List.set_cons_zero])
      refine WpG.twoD 4 11 (some 100) (some 26) rfl rfl rfl rfl (by kernel_rfl) (fun b : Nat => Value.slice (some ⟨b, 0, none⟩) 1 1) (fun b wz => w12.heap.size ≤ b ∧ ∃ e, BlkE wz b [e]) (fun _ _ _ h hb => ⟨h.1, let ⟨e, he⟩ := h.2; ⟨e, he.call hb⟩⟩) (Fresh.slice 1 1 [.int .u64 0, .int .u64 0] 41 rfl (fun wz hwz => (hwz).size) (fun wz hwz => by go_simp; try (with_reducible rfl)) (R := fun b wz => ∃ e, BlkE wz b [e]) (fun wz hwz => ⟨(0, 0), BlkE.new wz [(0, 0)] _ rfl⟩)) (fun b : Nat => Value.pointer (some ⟨b, 0, none⟩)) (fun b w => w12.heap.size ≤ b ∧ ∃ u v, V2 w b u v) (fun _ _ _ h hb => ⟨h.1, let ⟨u, v, hV⟩ := h.2; ⟨u, v, hV.call hb⟩⟩) (Fresh.var [.int .u64 0, .int .u64 0] 41 rfl (fun wz hwz => (hwz).size) (fun wz hwz => by go_simp; try (with_reducible rfl)) (R := fun b w => ∃ u v, V2 w b u v) (fun wz hwz => ⟨_, _, V2.new wz _ _ _⟩)) (fun nb w0 hw0 hR0 => ?rg18_4a) (fun bb w0v hw0v hR0v => ?rg18_4b)
      case' rg18_4a =>
        (simp only [Act.put]); (try simp only [List.setIfInBounds_toArray]); (try simp only [List.set_cons_succ]); (try simp only [List.set_cons_zero])
        refine WpG.twoD 5 11 (some 101) (some 26) rfl rfl rfl rfl (by kernel_rfl) (fun q : Nat × Nat => Value.slice (some ⟨q.1, 0, none⟩) (nj + 1) q.2) (fun _ _ => True) (fun _ _ _ _ _ => trivial) (⟨rfl, fun wz hwz => by obtain ⟨e1, he1⟩ := (hwz.2).2; obtain ⟨cp, w', hr, hb⟩ := run_append_full gj nj (List.replicate nj (0, 0)) (List.length_replicate ..) (by omega) (hBJ.call (hwz.1)) nb e1 he1.rowE 22; rw [exec_append (.tmp 98) (.tmp 100) rfl rfl rfl hr]; exact ⟨(wz.heap.size, cp), rfl, trivial, hb⟩⟩) (fun b : Nat => Value.pointer (some ⟨b, 0, none⟩)) (fun b w => w12.heap.size ≤ b ∧ ∃ u v, V2 w b u v) (fun _ _ _ h hb => ⟨h.1, let ⟨u, v, hV⟩ := h.2; ⟨u, v, hV.call hb⟩⟩) (Fresh.var [.int .u64 0, .int .u64 0] 41 rfl (fun wz hwz => (hwz.1).size) (fun wz hwz => by go_simp; try (with_reducible rfl)) (R := fun b w => ∃ u v, V2 w b u v) (fun wz hwz => ⟨_, _, V2.new wz _ _ _⟩)) (fun q w0q hw0q hR0q => ?rg18_5a) (fun bb w0v hw0v hR0v => ?rg18_5b)
        case' rg18_5a =>
          (simp only [Act.put]); (try simp only [List.setIfInBounds_toArray]); (try simp only [List.set_cons_succ]); (try simp only [List.set_cons_zero])
          obtain ⟨qa, qb⟩ := q; dsimp only
          refine WpG.takeD 7 (some 103) rfl rfl (by kernel_rfl) (fun _ _ _ h => h) (.call rfl (fun wz hwz => HSZ.out wz (some ⟨gv, 0, none⟩) ni ni (some ⟨qa, 0, none⟩) (nj + 1) qb (.inr (by omega))) (fun wz hwz => ?_)) ?_
          · go_simp; try (with_reducible rfl)
          (simp only [Act.put]); (try simp only [List.setIfInBounds_toArray]); (try simp only [List.set_cons_succ]); (try simp only [List.set_cons_zero])
          refine WpG.takeD 8 (some 95) (v := ?_) rfl rfl (by kernel_rfl) (fun _ _ _ h => h) (.val rfl (fun wz hwz => ?_)) ?_
          rotate_left
          · go_simp; try (with_reducible rfl)
          (simp only [Act.put]); (try simp only [List.setIfInBounds_toArray]); (try simp only [List.set_cons_succ]); (try simp only [List.set_cons_zero])
          refine WpG.takeD 9 (some 104) (v := ?_) rfl rfl (by kernel_rfl) (fun _ _ _ h => h) (.val rfl (fun wz hwz => ?_)) ?_
          rotate_left
          · go_simp; try (with_reducible rfl)
          (simp only [Act.put]); (try simp only [List.setIfInBounds_toArray]); (try simp only [List.set_cons_succ]); (try simp only [List.set_cons_zero])
          refine WpG.takeD 10 (some 105) (v := ?_) rfl rfl (by kernel_rfl) (fun _ _ _ h => h) (.val rfl (fun wz hwz => ?_)) ?_
          rotate_left
          · go_simp; try (with_reducible rfl)
          (simp only [Act.put]); (try simp only [List.setIfInBounds_toArray]); (try simp only [List.set_cons_succ]); (try simp only [List.set_cons_zero])
          refine WpG.oneD 11 (some 26) rfl rfl (by kernel_rfl) (fun b : Nat => Value.pointer (some ⟨b, 0, none⟩)) (fun b w => w12.heap.size ≤ b ∧ ∃ u v, V2 w b u v) (fun _ _ _ h hb => ⟨h.1, let ⟨u, v, hV⟩ := h.2; ⟨u, v, hV.call hb⟩⟩) (Fresh.var [.int .u64 0, .int .u64 0] 41 rfl (fun wz hwz => (hwz.1.1).size) (fun wz hwz => by go_simp; try (with_reducible rfl)) (R := fun b w => ∃ u v, V2 w b u v) (fun wz hwz => ⟨_, _, V2.new wz _ _ _⟩)) (fun bb w0v hw0v hR0v => ?_)
          (simp only [Act.put]); (try simp only [List.setIfInBounds_toArray]); (try simp only [List.set_cons_succ]); (try simp only [List.set_cons_zero])
          refine WpG.oneSkip 12 none rfl rfl (by kernel_rfl) (fun _ => True) (fun _ _ _ _ => trivial) rfl (fun wz hwz => ?_) ?_
          · obtain ⟨hge, u, v, hVz⟩ := hwz.2; obtain ⟨q0, q1, q2, q3, q4⟩ := V2.mk hVz.c0 hVz.c1 hVz.f0 hVz.f1 hVz.lt; exact ⟨(wz.setCell ⟨bb, 0, none⟩ (.int .u64 0)).setCell ⟨bb, 1, none⟩ (.int .u64 0), by go_simp; try (with_reducible rfl), ⟨⟨⟨bl_st (hwz.1.1.1) hge _ _, ⟨(hwz.1.1.2).1, row_st (hwz.1.1.2).2 _ _⟩⟩, hwz.1.2⟩, ⟨hge, _, _, V2.set hVz _ _⟩⟩, trivial⟩
          (simp only [Act.put]); (try simp only [List.setIfInBounds_toArray]); (try simp only [List.set_cons_succ]); (try simp only [List.set_cons_zero])
          refine WpG.done (by kernel_rfl) (fun w13 hS => ⟨nb, qa, qb, bb, rfl, ?_⟩)
          · (exact hS.1.1.1.1)
        case' rg18_5b =>
          (simp only [Act.put]); (try simp only [List.setIfInBounds_toArray]); (try simp only [List.set_cons_succ]); (try simp only [List.set_cons_zero])
          refine WpG.oneD 5 (some 101) rfl rfl (by kernel_rfl) (fun q : Nat × Nat => Value.slice (some ⟨q.1, 0, none⟩) (nj + 1) q.2) (fun _ _ => True) (fun _ _ _ _ _ => trivial) (⟨rfl, fun wz hwz => by obtain ⟨e1, he1⟩ := (hwz.1.2).2; obtain ⟨cp, w', hr, hb⟩ := run_append_full gj nj (List.replicate nj (0, 0)) (List.length_replicate ..) (by omega) (hBJ.call (hwz.1.1)) nb e1 he1.rowE 22; rw [exec_append (.tmp 98) (.tmp 100) rfl rfl rfl hr]; exact ⟨(wz.heap.size, cp), rfl, trivial, hb⟩⟩) (fun q w0q hw0q hR0q => ?_)
          (simp only [Act.put]); (try simp only [List.setIfInBounds_toArray]); (try simp only [List.set_cons_succ]); (try simp only [List.set_cons_zero])
          obtain ⟨qa, qb⟩ := q; dsimp only
          refine WpG.takeD 7 (some 103) rfl rfl (by kernel_rfl) (fun _ _ _ h => h) (.call rfl (fun wz hwz => HSZ.out wz (some ⟨gv, 0, none⟩) ni ni (some ⟨qa, 0, none⟩) (nj + 1) qb (.inr (by omega))) (fun wz hwz => ?_)) ?_
          · go_simp; try (with_reducible rfl)
          (simp only [Act.put]); (try simp only [List.setIfInBounds_toArray]); (try simp only [List.set_cons_succ]); (try simp only [List.set_cons_zero])
          refine WpG.takeD 8 (some 95) (v := ?_) rfl rfl (by kernel_rfl) (fun _ _ _ h => h) (.val rfl (fun wz hwz => ?_)) ?_
          rotate_left
          · go_simp; try (with_reducible rfl)
          (simp only [Act.put]); (try simp only [List.setIfInBounds_toArray]); (try simp only [List.set_cons_succ]); (try simp only [List.set_cons_zero])
          refine WpG.takeD 9 (some 104) (v := ?_) rfl rfl (by kernel_rfl) (fun _ _ _ h => h) (.val rfl (fun wz hwz => ?_)) ?_
          rotate_left
          · go_simp; try (with_reducible rfl)
          (simp only [Act.put]); (try simp only [List.setIfInBounds_toArray]); (try simp only [List.set_cons_succ]); (try simp only [List.set_cons_zero])
          refine WpG.takeD 10 (some 105) (v := ?_) rfl rfl (by kernel_rfl) (fun _ _ _ h => h) (.val rfl (fun wz hwz => ?_)) ?_
          rotate_left
          · go_simp; try (with_reducible rfl)
          (simp only [Act.put]); (try simp only [List.setIfInBounds_toArray]); (try simp only [List.set_cons_succ]); (try simp only [List.set_cons_zero])
          refine WpG.oneSkip 12 none rfl rfl (by kernel_rfl) (fun _ => True) (fun _ _ _ _ => trivial) rfl (fun wz hwz => ?_) ?_
          · obtain ⟨hge, u, v, hVz⟩ := hwz.1.2; obtain ⟨q0, q1, q2, q3, q4⟩ := V2.mk hVz.c0 hVz.c1 hVz.f0 hVz.f1 hVz.lt; exact ⟨(wz.setCell ⟨bb, 0, none⟩ (.int .u64 0)).setCell ⟨bb, 1, none⟩ (.int .u64 0), by go_simp; try (with_reducible rfl), ⟨⟨⟨bl_st (hwz.1.1.1) hge _ _, ⟨(hwz.1.1.2).1, row_st (hwz.1.1.2).2 _ _⟩⟩, ⟨hge, _, _, V2.set hVz _ _⟩⟩, hwz.2⟩, trivial⟩
          (simp only [Act.put]); (try simp only [List.setIfInBounds_toArray]); (try simp only [List.set_cons_succ]); (try simp only [List.set_cons_zero])
          refine WpG.done (by kernel_rfl) (fun w13 hS => ⟨nb, qa, qb, bb, rfl, ?_⟩)
          · (exact hS.1.1.1.1)
      case' rg18_4b =>
        (simp only [Act.put]); (try simp only [List.setIfInBounds_toArray]); (try simp only [List.set_cons_succ]); (try simp only [List.set_cons_zero])
        refine WpG.oneD 4 (some 100) rfl rfl (by kernel_rfl) (fun b : Nat => Value.slice (some ⟨b, 0, none⟩) 1 1) (fun b wz => w12.heap.size ≤ b ∧ ∃ e, BlkE wz b [e]) (fun _ _ _ h hb => ⟨h.1, let ⟨e, he⟩ := h.2; ⟨e, he.call hb⟩⟩) (Fresh.slice 1 1 [.int .u64 0, .int .u64 0] 41 rfl (fun wz hwz => (hwz.1).size) (fun wz hwz => by go_simp; try (with_reducible rfl)) (R := fun b wz => ∃ e, BlkE wz b [e]) (fun wz hwz => ⟨(0, 0), BlkE.new wz [(0, 0)] _ rfl⟩)) (fun nb w0 hw0 hR0 => ?_)
        (simp only [Act.put]); (try simp only [List.setIfInBounds_toArray]); (try simp only [List.set_cons_succ]); (try simp only [List.set_cons_zero])
        refine WpG.oneD 5 (some 101) rfl rfl (by kernel_rfl) (fun q : Nat × Nat => Value.slice (some ⟨q.1, 0, none⟩) (nj + 1) q.2) (fun _ _ => True) (fun _ _ _ _ _ => trivial) (⟨rfl, fun wz hwz => by obtain ⟨e1, he1⟩ := (hwz.2).2; obtain ⟨cp, w', hr, hb⟩ := run_append_full gj nj (List.replicate nj (0, 0)) (List.length_replicate ..) (by omega) (hBJ.call (hwz.1.1)) nb e1 he1.rowE 22; rw [exec_append (.tmp 98) (.tmp 100) rfl rfl rfl hr]; exact ⟨(wz.heap.size, cp), rfl, trivial, hb⟩⟩) (fun q w0q hw0q hR0q => ?_)
        (simp only [Act.put]); (try simp only [List.setIfInBounds_toArray]); (try simp only [List.set_cons_succ]); (try simp only [List.set_cons_zero])
        obtain ⟨qa, qb⟩ := q; dsimp only
        refine WpG.takeD 7 (some 103) rfl rfl (by kernel_rfl) (fun _ _ _ h => h) (.call rfl (fun wz hwz => HSZ.out wz (some ⟨gv, 0, none⟩) ni ni (some ⟨qa, 0, none⟩) (nj + 1) qb (.inr (by omega))) (fun wz hwz => ?_)) ?_
        · go_simp; try (with_reducible rfl)
        (simp only [Act.put]); (try simp only [List.setIfInBounds_toArray]); (try simp only [List.set_cons_succ]); (try simp only [List.set_cons_zero])
        refine WpG.takeD 8 (some 95) (v := ?_) rfl rfl (by kernel_rfl) (fun _ _ _ h => h) (.val rfl (fun wz hwz => ?_)) ?_
        rotate_left
        · go_simp; try (with_reducible rfl)
        (simp only [Act.put]); (try simp only [List.setIfInBounds_toArray]); (try simp only [List.set_cons_succ]); (try simp only [List.set_cons_zero])
        refine WpG.takeD 9 (some 104) (v := ?_) rfl rfl (by kernel_rfl) (fun _ _ _ h => h) (.val rfl (fun wz hwz => ?_)) ?_
        rotate_left
        · go_simp; try (with_reducible rfl)
        (simp only [Act.put]); (try simp only [List.setIfInBounds_toArray]); (try simp only [List.set_cons_succ]); (try simp only [List.set_cons_zero])
        refine WpG.takeD 10 (some 105) (v := ?_) rfl rfl (by kernel_rfl) (fun _ _ _ h => h) (.val rfl (fun wz hwz => ?_)) ?_
        rotate_left
        · go_simp; try (with_reducible rfl)
        (simp only [Act.put]); (try simp only [List.setIfInBounds_toArray]); (try simp only [List.set_cons_succ]); (try simp only [List.set_cons_zero])
        refine WpG.oneSkip 12 none rfl rfl (by kernel_rfl) (fun _ => True) (fun _ _ _ _ => trivial) rfl (fun wz hwz => ?_) ?_
        · obtain ⟨hge, u, v, hVz⟩ := hwz.1.1.2; obtain ⟨q0, q1, q2, q3, q4⟩ := V2.mk hVz.c0 hVz.c1 hVz.f0 hVz.f1 hVz.lt; exact ⟨(wz.setCell ⟨bb, 0, none⟩ (.int .u64 0)).setCell ⟨bb, 1, none⟩ (.int .u64 0), by go_simp; try (with_reducible rfl), ⟨⟨⟨bl_st (hwz.1.1.1) hge _ _, ⟨hge, _, _, V2.set hVz _ _⟩⟩, ⟨(hwz.1.2).1, row_st (hwz.1.2).2 _ _⟩⟩, hwz.2⟩, trivial⟩
        (simp only [Act.put]); (try simp only [List.setIfInBounds_toArray]); (try simp only [List.set_cons_succ]); (try simp only [List.set_cons_zero])
        refine WpG.done (by kernel_rfl) (fun w13 hS => ⟨nb, qa, qb, bb, rfl, ?_⟩)
        · (exact hS.1.1.1.1)
    intro nb qa qb bb w13 hS
    (try simp only [List.drop_succ_cons]); (try simp only [List.drop_zero]); (try simp only [Nat.reduceSub]); (try simp only [List.take_succ_cons]); (try simp only [List.take_zero])
    clear x0 x1 x2 x3 x4 x5 x6 x7 x8 x9 x10 x11 x12
    replace hbw := bl_call hbw (Nat.le_refl _) hS
    replace hV := hV.call hS
    replace hcd := hcd.call hS
    replace hx := hx.call hS
    replace hBV := hBV.call hS
    replace hBJ := hBJ.call hS
    clear hS
    go_upto_region 19 with fail
    obtain ⟨⟨x0, x1, x2, x3, x4, x5⟩, ⟨x6, x7, x8, x9, x10, x11⟩, x12⟩ := hx.get6
    go_upto_region 20 with (first
      | (go_at_call 73; refine (HZE.out _ _ _ _ _).mono ?_; rintro e w14 ⟨rfl, hb14⟩; replace hbw := bl_call hbw (Nat.le_refl _) hb14; replace hV := hV.call hb14; replace hcd := hcd.call hb14; replace hx := hx.call hb14; replace hBV := hBV.call hb14; replace hBJ := hBJ.call hb14; clear x0 x1 x2 x3 x4 x5 x6 x7 x8 x9 x10 x11 x12; clear hb14; obtain ⟨⟨x0, x1, x2, x3, x4, x5⟩, ⟨x6, x7, x8, x9, x10, x11⟩, x12⟩ := hx.get6))
    clear x0 x1 x2 x3 x4 x5 x6 x7 x8 x9 x10 x11 x12
    have hg15 := V2.new w14 (.int .u64 0) (.int .u64 0) 41
    have hbA : Below w14.heap.size w14 (w14.alloc (.cells #[.int .u64 0, .int .u64 0] 41)) := by repeat (first | exact Below.refl _ _ | with_reducible assumption | (refine bl_alloc ?_ (Nat.le_refl _) _))
    replace hbw := bl_call hbw (Nat.le_refl _) hbA
    replace hV := hV.call hbA
    replace hcd := hcd.call hbA
    replace hx := hx.call hbA
    replace hBV := hBV.call hbA
    replace hBJ := hBJ.call hbA
    clear hbA
    generalize w14.alloc (.cells #[.int .u64 0, .int .u64 0] 41) = w15 at hbw hV hcd hx hBV hBJ hg15 ⊢
    obtain ⟨⟨x0, x1, x2, x3, x4, x5⟩, ⟨x6, x7, x8, x9, x10, x11⟩, x12⟩ := hx.get6
    go_wp2_with fail
    clear x0 x1 x2 x3 x4 x5 x6 x7 x8 x9 x10 x11 x12
    refine (HRN.out gv gj _ hBV hBJ hcv hcj hcd).mono ?_
    rintro e w16 ⟨a, b, rfl, hcd, hE⟩
    replace hV := hV.exc (by show ¬ sb = cb; omega) hE
    replace hbw : Below w.heap.size w w16 := hbw.trans ((hE.mono hbw.size).below fun x hx h => by have h2 : x = cb := h; omega)
    clear hE hBV hBJ hx
    go_upto_region 21 with fail
    have hg17 := V2.new w16 (.int .u64 a) (.int .u64 b) 41
    have hbA : Below w16.heap.size w16 (w16.alloc (.cells #[.int .u64 a, .int .u64 b] 41)) := by repeat (first | exact Below.refl _ _ | with_reducible assumption | (refine bl_alloc ?_ (Nat.le_refl _) _))
    replace hbw := bl_call hbw (Nat.le_refl _) hbA
    replace hV := hV.call hbA
    replace hcd := hcd.call hbA
    clear hbA
    generalize w16.alloc (.cells #[.int .u64 a, .int .u64 b] 41) = w17 at hbw hV hcd hg17 ⊢
    obtain ⟨cd0, cd1, cd2⟩ := hcd.get1
    go_wp2_with fail
    go_roundw
    case rel => exact ⟨q + 1, by omega, by go_num, hV, hcd, hbw⟩
    case measure => simp [intOf]; omega

end Go.Proofs.Ytiphahbeedeebaa
