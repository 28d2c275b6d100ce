/-
  WALK: tallymanlaw10.CircuitDecodes.
-/
import Derived.Test.YtiphahbeedeebaaMat
import Derived.Test.YtiphahbeedeebaaMaq
import Derived.Test.YtiphahbeedeebaaMao
namespace Go.Proofs.Ytiphahbeedeebaa
open Go.RowKit Fm
set_option linter.unusedVariables false
set_option maxRecDepth 100000

theorem any_step {α : Type} {p : α → Bool} {l : List α} {q : Nat} {e : α} (h : l[q]? = some e) : (l.take (q + 1)).any p = ((l.take q).any p || p e) := by
  rw [List.take_add_one, h, List.any_append]
  simp

theorem dec_nil {y : CK} {l : List E} {k : Int} {w : World} {e : Ending} {w' : World} {n : Int} (h : RetDec y l k w e w') (hn : decN y l k = n) (h0 : n ≠ 0) : RetNil n w e w' := by
  rcases h with h | h
  · rw [hn] at h
    exact h.2
  · exact absurd (hn.symm.trans h.1) h0
theorem dec_ok {y : CK} {l : List E} {k : Int} {w : World} {e : Ending} {w' : World} (h : RetDec y l k w e w') (hn : decN y l k = 0) : ∃ v, e = .returned (.tuple #[v, .int .i64 0]) ∧ SlU w' w'.heap.size v (l.map (·.1)) ∧ Below w.heap.size w w' := by
  rcases h with h | h
  · exact absurd hn h.1
  · exact h.2

set_option maxHeartbeats 8000000 in
theorem walk_CircuitDecodes (x : Raw) (k f b l m c : Int) (vs : Value) (xs : List E) (many : Int) (w : World) (hx0 : 0 ≤ x.k ∧ x.k ≤ 255) (hx1 : 0 ≤ x.f ∧ x.f ≤ 255) (hk : 0 ≤ k ∧ k ≤ 255) (hf : 0 ≤ f ∧ f ≤ 255) (hb : 0 ≤ b ∧ b ≤ 255) (hl : 0 ≤ l ∧ l ≤ 255) (hm : 0 ≤ m ∧ m ≤ 255) (hc : 0 ≤ c ∧ c ≤ 255)
    (hs : SlE w w.heap.size vs xs) :
    Calls Try.prog 10 #[x.val, .agg #[.int .u8 k, .int .u8 f, .int .u8 b, .int .u8 l, .int .u8 m, .int .u8 c], vs, .int .i64 many] w fun e w' => e = .returned (.bool true) ∧ Below w.heap.size w w' := by
  obtain ⟨F, y, hF, hy, hCIR⟩ := law10_Circuit k f b l m c hk.1 hk.2 hf.1 hf.2 hb.1 hb.2 hl.1 hl.2 hm.1 hm.2 hc.1 hc.2
  obtain ⟨n0, _, hchk, hrchk, his⟩ := raw_checks x
  have HS0 : Hid (x.Said n0) := ⟨hrchk, hchk, his, hx0.1, hx0.2, hx1.1, hx1.2⟩
  have HS1 : Hid ((y.raw F).Said 0) := CK.raw_said hF hy.ok hy.calls
  have HCIR := Lib.hid hCIR
  have HAW := Lib.hid law10_Awake
  unfold CK.val at HCIR
  unfold CK.raw at HS1
  unfold Raw.val
  clear hCIR hchk hrchk his
  obtain ⟨xk, xf, xb, xl, xm, xc⟩ := x
  dsimp only at HS0 HS1 ⊢
  generalize ((y.k : Nat) : Int) = yk at *
  generalize ((y.b : Nat) : Int) = yb at *
  generalize ((y.l : Nat) : Int) = yl at *
  generalize ((y.m : Nat) : Int) = ym at *
  generalize ((y.c : Nat) : Int) = yc at *
  generalize ((F : Nat) : Int) = yf at *
  have HSL := Lib.hid hs
  obtain ⟨⟨A, cp, rfl, hlc, hcm, hA⟩, hok⟩ := hs
  have hb00 : Below w.heap.size w w := Below.refl _ _
  go_enter Try.func10, Try.ntmps10
  go_upto_region 1 with fail
  have hv := (Vs.new w [.int .u8 xk, .int .u8 xf, .int .i64 xb, .int .i64 xl, .int .i64 xm, .int .i64 xc] #[.int .u8 xk, .int .u8 xf, .int .i64 xb, .int .i64 xl, .int .i64 xm, .int .i64 xc] 60 rfl).alloc (.cells #[.int .u8 k, .int .u8 f, .int .u8 b, .int .u8 l, .int .u8 m, .int .u8 c] 62)
  have hs := Vs.new (w.alloc (.cells #[.int .u8 xk, .int .u8 xf, .int .i64 xb, .int .i64 xl, .int .i64 xm, .int .i64 xc] 60)) [.int .u8 k, .int .u8 f, .int .u8 b, .int .u8 l, .int .u8 m, .int .u8 c] #[.int .u8 k, .int .u8 f, .int .u8 b, .int .u8 l, .int .u8 m, .int .u8 c] 62 rfl
  have hbw : Below w.heap.size w ((w.alloc (.cells #[.int .u8 xk, .int .u8 xf, .int .i64 xb, .int .i64 xl, .int .i64 xm, .int .i64 xc] 60)).alloc (.cells #[.int .u8 k, .int .u8 f, .int .u8 b, .int .u8 l, .int .u8 m, .int .u8 c] 62)) := by repeat (first | exact Below.refl _ _ | with_reducible assumption | (refine bl_alloc ?_ (Nat.le_refl _) _) | (refine bl_set ?_ (by dsimp only; omega) _) | (refine Below.drew ?_) | (refine bl_drewN ?_ _) | (refine bl_call ?_ (Nat.le_refl _) (by assumption)))
  simp only [World.size_alloc] at hs
  generalize (w.alloc (.cells #[.int .u8 xk, .int .u8 xf, .int .i64 xb, .int .i64 xl, .int .i64 xm, .int .i64 xc] 60)).alloc (.cells #[.int .u8 k, .int .u8 f, .int .u8 b, .int .u8 l, .int .u8 m, .int .u8 c] 62) = w1 at hv hs hbw ⊢
  clear hb00
  by_cases h70 : 70 < xs.length
  · skip
    go_wp2_with (first
      | (go_at_call 35; refine (HAW.out _).mono ?_; rintro e w2 ⟨rfl, hb2⟩; replace hbw := bl_call hbw (Nat.le_refl _) hb2; replace hv := hv.call hb2; replace hs := hs.call hb2))
    go_ret
    exact ⟨rfl, hbw⟩
  obtain ⟨⟨v0, v1, v2, v3, v4, v5⟩, ⟨v6, v7, v8, v9, v10, v11⟩, v12⟩ := hv.get6
  obtain ⟨⟨s0, s1, s2, s3, s4, s5⟩, ⟨s6, s7, s8, s9, s10, s11⟩, s12⟩ := hs.get6
  go_upto_region 6 with (first
    | (go_at_call 35; refine (HAW.out _).mono ?_; rintro e w2 ⟨rfl, hb2⟩; replace hbw := bl_call hbw (Nat.le_refl _) hb2; replace hv := hv.call hb2; replace hs := hs.call hb2; clear v0 v1 v2 v3 v4 v5 v6 v7 v8 v9 v10 v11 v12 s0 s1 s2 s3 s4 s5 s6 s7 s8 s9 s10 s11 s12; clear hb2; obtain ⟨⟨v0, v1, v2, v3, v4, v5⟩, ⟨v6, v7, v8, v9, v10, v11⟩, v12⟩ := hv.get6; obtain ⟨⟨s0, s1, s2, s3, s4, s5⟩, ⟨s6, s7, s8, s9, s10, s11⟩, s12⟩ := hs.get6)
    | (go_at_call 36; refine (HCIR.out _).mono ?_; rintro e w3 ⟨rfl, hb3⟩; replace hbw := bl_call hbw (Nat.le_refl _) hb3; replace hv := hv.call hb3; replace hs := hs.call hb3; clear v0 v1 v2 v3 v4 v5 v6 v7 v8 v9 v10 v11 v12 s0 s1 s2 s3 s4 s5 s6 s7 s8 s9 s10 s11 s12; clear hb3; obtain ⟨⟨v0, v1, v2, v3, v4, v5⟩, ⟨v6, v7, v8, v9, v10, v11⟩, v12⟩ := hv.get6; obtain ⟨⟨s0, s1, s2, s3, s4, s5⟩, ⟨s6, s7, s8, s9, s10, s11⟩, s12⟩ := hs.get6))
  clear v0 v1 v2 v3 v4 v5 v6 v7 v8 v9 v10 v11 v12 s0 s1 s2 s3 s4 s5 s6 s7 s8 s9 s10 s11 s12
  have hy9 := Vs.new w3 [.int .u8 yk, .int .u8 yf, .int .i64 yb, .int .i64 yl, .int .i64 ym, .int .i64 yc] #[.int .u8 yk, .int .u8 yf, .int .i64 yb, .int .i64 yl, .int .i64 ym, .int .i64 yc] 60 rfl
  have hbA : Below w3.heap.size w3 (w3.alloc (.cells #[.int .u8 yk, .int .u8 yf, .int .i64 yb, .int .i64 yl, .int .i64 ym, .int .i64 yc] 60)) := by repeat (first | exact Below.refl _ _ | with_reducible assumption | (refine bl_alloc ?_ (Nat.le_refl _) _))
  replace hbw := bl_call hbw (Nat.le_refl _) hbA
  replace hv := hv.call hbA
  replace hs := hs.call hbA
  clear hbA
  generalize w3.alloc (.cells #[.int .u8 yk, .int .u8 yf, .int .i64 yb, .int .i64 yl, .int .i64 ym, .int .i64 yc] 60) = w4 at hbw hv hs hy9 ⊢
  obtain ⟨⟨v0, v1, v2, v3, v4, v5⟩, ⟨v6, v7, v8, v9, v10, v11⟩, v12⟩ := hv.get6
  obtain ⟨⟨y90, y91, y92, y93, y94, y95⟩, ⟨y96, y97, y98, y99, y910, y911⟩, y912⟩ := hy9.get6
  go_upto_region 7 with fail
  clear v0 v1 v2 v3 v4 v5 v6 v7 v8 v9 v10 v11 v12 y90 y91 y92 y93 y94 y95 y96 y97 y98 y99 y910 y911 y912
  have hV := Vs.new w4 [.int .u8 xk, .int .u8 xf, .int .i64 xb, .int .i64 xl, .int .i64 xm, .int .i64 xc, .int .u8 yk, .int .u8 yf, .int .i64 yb, .int .i64 yl, .int .i64 ym, .int .i64 yc] #[.int .u8 xk, .int .u8 xf, .int .i64 xb, .int .i64 xl, .int .i64 xm, .int .i64 xc, .int .u8 yk, .int .u8 yf, .int .i64 yb, .int .i64 yl, .int .i64 ym, .int .i64 yc] 60 rfl
  have hbA : Below w4.heap.size w4 (w4.alloc (.cells #[.int .u8 xk, .int .u8 xf, .int .i64 xb, .int .i64 xl, .int .i64 xm, .int .i64 xc, .int .u8 yk, .int .u8 yf, .int .i64 yb, .int .i64 yl, .int .i64 ym, .int .i64 yc] 60)) := by repeat (first | exact Below.refl _ _ | with_reducible assumption | (refine bl_alloc ?_ (Nat.le_refl _) _))
  replace hbw := bl_call hbw (Nat.le_refl _) hbA
  replace hv := hv.call hbA
  replace hs := hs.call hbA
  replace hy9 := hy9.call hbA
  clear hbA
  generalize w4.alloc (.cells #[.int .u8 xk, .int .u8 xf, .int .i64 xb, .int .i64 xl, .int .i64 xm, .int .i64 xc, .int .u8 yk, .int .u8 yf, .int .i64 yb, .int .i64 yl, .int .i64 ym, .int .i64 yc] 60) = w5 at hbw hv hs hy9 hV ⊢
  have hz4 := hbw.size
  have hsb : w4.heap.size < w5.heap.size := hV.lt
  generalize w4.heap.size = sb at *
  clear hv hs hy9 HCIR HAW
  go_wp2_with fail
  go_loopw [31] (fun i wr => ∃ q : Nat, q ≤ 2 ∧ i = .int .i64 q ∧
    Vs wr sb [.int .u8 xk, .int .u8 xf, .int .i64 xb, .int .i64 xl, .int .i64 xm, .int .i64 xc, .int .u8 yk, .int .u8 yf, .int .i64 yb, .int .i64 yl, .int .i64 ym, .int .i64 yc] ∧ Below w.heap.size w wr) (fun i _ => 2 - (intOf i).toNat)
  case atStart => exact ⟨0, by omega, rfl, hV, hbw⟩
  case round =>
    clear hV hbw hz4 hsb
    obtain ⟨q, hq, rfl, hV, hbw⟩ := hrel
    by_cases hlt : q < 2
    rotate_left
    · obtain rfl : q = 2 := by omega
      go_wp2_with fail
      go_ret
      exact ⟨rfl, hbw⟩
    obtain ⟨X, n, HX, v0, v1, v2, v3, v4, v5⟩ : ∃ (X : Raw) (n : Int), Hid (X.Said n) ∧ wr.cell? ⟨sb, q * 6, none⟩ = some (.int .u8 X.k) ∧ wr.cell? ⟨sb, q * 6 + 1, none⟩ = some (.int .u8 X.f) ∧ wr.cell? ⟨sb, q * 6 + 2, none⟩ = some (.int .i64 X.b) ∧
        wr.cell? ⟨sb, q * 6 + 3, none⟩ = some (.int .i64 X.l) ∧ wr.cell? ⟨sb, q * 6 + 4, none⟩ = some (.int .i64 X.m) ∧ wr.cell? ⟨sb, q * 6 + 5, none⟩ = some (.int .i64 X.c) := by
      have h2 : q = 0 ∨ q = 1 := by omega
      rcases h2 with rfl | rfl
      · exact ⟨_, _, HS0, hV.cell 0 _ rfl, hV.cell 1 _ rfl, hV.cell 2 _ rfl, hV.cell 3 _ rfl, hV.cell 4 _ rfl, hV.cell 5 _ rfl⟩
      · exact ⟨_, _, HS1, hV.cell 6 _ rfl, hV.cell 7 _ rfl, hV.cell 8 _ rfl, hV.cell 9 _ rfl, hV.cell 10 _ rfl, hV.cell 11 _ rfl⟩
    clear HS0 HS1
    obtain ⟨K, G, B, L, M, C⟩ := X
    dsimp only at v0 v1 v2 v3 v4 v5
    have HREF := Lib.hid (fun wz => law10_Ref K G B L M C HX.out.k0 HX.out.k1 HX.out.f0 HX.out.f1 wz)
    have HCK : Hid (∀ wz, Calls Try.prog 49 #[.agg #[.int .i64 K, .int .i64 G, .int .i64 B, .int .i64 L, .int .i64 M, .int .i64 C]] wz (RetC n wz)) := HX.out.chk
    have hlt2 : decide ((q : Int) < 2) = true := by simp; omega
    go_upto_region 9 with fail
    clear v0 v1 v2 v3 v4 v5
    have hx := Vs.new wr [.int .u8 K, .int .u8 G, .int .i64 B, .int .i64 L, .int .i64 M, .int .i64 C] #[.int .u8 K, .int .u8 G, .int .i64 B, .int .i64 L, .int .i64 M, .int .i64 C] 60 rfl
    have hbA : Below wr.heap.size wr (wr.alloc (.cells #[.int .u8 K, .int .u8 G, .int .i64 B, .int .i64 L, .int .i64 M, .int .i64 C] 60)) := by repeat (first | exact Below.refl _ _ | with_reducible assumption | (refine bl_alloc ?_ (Nat.le_refl _) _))
    replace hbw := bl_call hbw (Nat.le_refl _) hbA
    replace hV := hV.call hbA
    clear hbA
    generalize wr.alloc (.cells #[.int .u8 K, .int .u8 G, .int .i64 B, .int .i64 L, .int .i64 M, .int .i64 C] 60) = w6 at hbw hV hx ⊢
    have hxl : wr.heap.size < w6.heap.size := hx.lt
    generalize wr.heap.size = xb0 at *
    go_upto_region 10 with fail
    have hk3 := Vs.new w6 [.int .i64 many, .int .i64 3, .int .i64 256] #[.int .i64 many, .int .i64 3, .int .i64 256] 3 rfl
    have hbA : Below w6.heap.size w6 (w6.alloc (.cells #[.int .i64 many, .int .i64 3, .int .i64 256] 3)) := by repeat (first | exact Below.refl _ _ | with_reducible assumption | (refine bl_alloc ?_ (Nat.le_refl _) _))
    replace hbw := bl_call hbw (Nat.le_refl _) hbA
    replace hV := hV.call hbA
    replace hx := hx.call hbA
    clear hbA
    generalize w6.alloc (.cells #[.int .i64 many, .int .i64 3, .int .i64 256] 3) = w7 at hbw hV hx hk3 ⊢
    have hkl : w6.heap.size < w7.heap.size := hk3.lt
    generalize w6.heap.size = kb at *
    go_wp2_with fail
    clear HREF hlt2
    have HREF := Lib.hid (fun wz => law10_Ref K G B L M C HX.out.k0 HX.out.k1 HX.out.f0 HX.out.f1 wz)
    have HSP : Hid (xb0 < w7.heap.size ∧ kb < w7.heap.size) := ⟨hx.lt, hkl⟩
    clear hxl hkl
    go_loopw [38] (fun i wi => ∃ p : Nat, p ≤ 3 ∧ i = .int .i64 p ∧ Vs wi xb0 [.int .u8 K, .int .u8 G, .int .i64 B, .int .i64 L, .int .i64 M, .int .i64 C] ∧ Vs wi kb [.int .i64 many, .int .i64 3, .int .i64 256] ∧
      Vs wi sb [.int .u8 xk, .int .u8 xf, .int .i64 xb, .int .i64 xl, .int .i64 xm, .int .i64 xc, .int .u8 yk, .int .u8 yf, .int .i64 yb, .int .i64 yl, .int .i64 ym, .int .i64 yc] ∧ Below w.heap.size w wi) (fun i _ => 3 - (intOf i).toNat)
    case atStart => exact ⟨0, by omega, rfl, hx, hk3, hV, hbw⟩
    case round =>
      clear hx hk3 hV hbw
      obtain ⟨p, hp, rfl, hx, hk3, hV, hbw⟩ := hrel
      by_cases hlp : p < 3
      rotate_left
      · obtain rfl : p = 3 := by omega
        go_wp2_with fail
        go_roundw
        case rel => exact ⟨q + 1, by omega, by go_num, hV, hbw⟩
        case measure => simp [intOf]; omega
      obtain ⟨kk, d0⟩ : ∃ kk : Int, wr.cell? ⟨kb, p, none⟩ = some (.int .i64 kk) := by
        have h2 : p = 0 ∨ p = 1 ∨ p = 2 := by omega
        rcases h2 with rfl | rfl | rfl
        · exact ⟨_, hk3.cell 0 _ rfl⟩
        · exact ⟨_, hk3.cell 1 _ rfl⟩
        · exact ⟨_, hk3.cell 2 _ rfl⟩
      have hlp2 : decide ((p : Int) < 3) = true := by simp; omega
      go_upto_region 12 with fail
      clear d0 hlp2
      by_cases hn : n = 0
      rotate_left
      · have hn1 : (n == 0) = false := by simpa using hn
        have hn2 : (n != 0) = true := by simpa using hn
        have HDEC := Lib.hid (circuit_Decode_no ⟨K, G, B, L, M, C⟩ n hn HX.out.own (.slice A xs.length cp) kk)
        unfold Raw.val at HDEC
        dsimp only at HDEC
        clear hn
        obtain ⟨⟨x0, x1, x2, x3, x4, x5⟩, ⟨x6, x7, x8, x9, x10, x11⟩, x12⟩ := hx.get6
        go_upto_region 20 with (first
          | (go_at_call 48; refine (HDEC.out _).mono ?_; rintro e w8 ⟨rfl, hb8⟩; replace hbw := bl_call hbw (Nat.le_refl _) hb8; replace hx := hx.call hb8; replace hk3 := hk3.call hb8; replace hV := hV.call hb8; clear x0 x1 x2 x3 x4 x5 x6 x7 x8 x9 x10 x11 x12; clear hb8; obtain ⟨⟨x0, x1, x2, x3, x4, x5⟩, ⟨x6, x7, x8, x9, x10, x11⟩, x12⟩ := hx.get6)
          | (go_at_call 39; refine (HREF.out _).mono ?_; rintro e w9 ⟨rfl, hb9⟩; replace hbw := bl_call hbw (Nat.le_refl _) hb9; replace hx := hx.call hb9; replace hk3 := hk3.call hb9; replace hV := hV.call hb9; clear x0 x1 x2 x3 x4 x5 x6 x7 x8 x9 x10 x11 x12; clear hb9; obtain ⟨⟨x0, x1, x2, x3, x4, x5⟩, ⟨x6, x7, x8, x9, x10, x11⟩, x12⟩ := hx.get6)
          | (go_at_call 49; refine (HCK.out _).mono ?_; rintro e w10 ⟨rfl, hb10⟩; replace hbw := bl_call hbw (Nat.le_refl _) hb10; replace hx := hx.call hb10; replace hk3 := hk3.call hb10; replace hV := hV.call hb10; clear x0 x1 x2 x3 x4 x5 x6 x7 x8 x9 x10 x11 x12; clear hb10; obtain ⟨⟨x0, x1, x2, x3, x4, x5⟩, ⟨x6, x7, x8, x9, x10, x11⟩, x12⟩ := hx.get6))
        clear x0 x1 x2 x3 x4 x5 x6 x7 x8 x9 x10 x11 x12
        go_wp2_with fail
        go_loopw [102] (fun i wi => i = .int .i64 0 ∧ Vs wi xb0 [.int .u8 K, .int .u8 G, .int .i64 B, .int .i64 L, .int .i64 M, .int .i64 C] ∧ Vs wi kb [.int .i64 many, .int .i64 3, .int .i64 256] ∧
          Vs wi sb [.int .u8 xk, .int .u8 xf, .int .i64 xb, .int .i64 xl, .int .i64 xm, .int .i64 xc, .int .u8 yk, .int .u8 yf, .int .i64 yb, .int .i64 yl, .int .i64 ym, .int .i64 yc] ∧ Below w.heap.size w wi) (fun _ _ => 0)
        case atStart => exact ⟨rfl, hx, hk3, hV, hbw⟩
        case round =>
          clear hx hk3 hV hbw
          obtain ⟨rfl, hx, hk3, hV, hbw⟩ := hrel
          go_wp2_with fail
          go_roundw
          case rel => exact ⟨p + 1, by omega, by go_num, hx, hk3, hV, hbw⟩
          case measure => simp [intOf]; omega
      subst hn
      obtain ⟨F', Y, hI⟩ := HX.out.is rfl
      have HOUT : Hid (∀ wz, Calls Try.prog 43 #[.agg #[.int .u8 K, .int .u8 G, .int .i64 B, .int .i64 L, .int .i64 M, .int .i64 C]] wz (RetI Y.nout wz)) := fun wz => by
        have h := circuit_Out F' Y hI.ok wz
        rw [← hI.val] at h
        exact h
      have HMOST : Hid (∀ wz, Calls Try.prog 50 #[.agg #[.int .u8 K, .int .u8 G, .int .i64 B, .int .i64 L, .int .i64 M, .int .i64 C]] wz (RetU Y.most wz)) := fun wz => by
        have h := circuit_Most F' Y hI.ok wz
        rw [← hI.val] at h
        exact h
      have HDEC : Hid (∀ wz, Below w.heap.size w wz → Calls Try.prog 48 #[.agg #[.int .u8 K, .int .u8 G, .int .i64 B, .int .i64 L, .int .i64 M, .int .i64 C], .slice A xs.length cp, .int .i64 kk] wz (RetDec Y xs kk wz)) := fun wz hb => by
        have h := circuit_Decode hI.fld Y hI.ok hI.calls _ xs kk wz ((HSL.out.below hb).mono hb.size) (by omega)
        rw [← hI.val] at h
        exact h
      have hmo := CK.most_le hI.ok
      have hnl := CK.nout_le hI.ok
      obtain ⟨no, hno⟩ : ∃ n, Y.nout = n := ⟨_, rfl⟩
      obtain ⟨mo, hmos⟩ : ∃ n, Y.most = n := ⟨_, rfl⟩
      rw [hno] at HOUT hnl
      rw [hmos] at HMOST hmo
      have HNO := Lib.hid hno
      have HMO := Lib.hid hmos
      clear hI hno hmos
      by_cases hlen : xs.length = no
      rotate_left
      · have HD : Hid (decN Y xs kk = 9) := by
          show decN Y xs kk = 9
          unfold decN
          rw [HNO.out, if_neg hlen]
        obtain ⟨⟨x0, x1, x2, x3, x4, x5⟩, ⟨x6, x7, x8, x9, x10, x11⟩, x12⟩ := hx.get6
        go_wp2_with fail
        refine (HDEC.out _ hbw).mono ?_
        rintro e w8 he
        obtain ⟨rfl, hb8⟩ := dec_nil he HD.out (by omega)
        clear he
        clear x0 x1 x2 x3 x4 x5 x6 x7 x8 x9 x10 x11 x12
        replace hbw := bl_call hbw (Nat.le_refl _) hb8
        replace hx := hx.call hb8
        replace hk3 := hk3.call hb8
        replace hV := hV.call hb8
        clear hb8
        obtain ⟨⟨x0, x1, x2, x3, x4, x5⟩, ⟨x6, x7, x8, x9, x10, x11⟩, x12⟩ := hx.get6
        go_upto_region 25 with (first
          | (go_at_call 39; refine (HREF.out _).mono ?_; rintro e w9 ⟨rfl, hb9⟩; replace hbw := bl_call hbw (Nat.le_refl _) hb9; replace hx := hx.call hb9; replace hk3 := hk3.call hb9; replace hV := hV.call hb9; clear x0 x1 x2 x3 x4 x5 x6 x7 x8 x9 x10 x11 x12; clear hb9; obtain ⟨⟨x0, x1, x2, x3, x4, x5⟩, ⟨x6, x7, x8, x9, x10, x11⟩, x12⟩ := hx.get6)
          | (go_at_call 49; refine (HCK.out _).mono ?_; rintro e w10 ⟨rfl, hb10⟩; replace hbw := bl_call hbw (Nat.le_refl _) hb10; replace hx := hx.call hb10; replace hk3 := hk3.call hb10; replace hV := hV.call hb10; clear x0 x1 x2 x3 x4 x5 x6 x7 x8 x9 x10 x11 x12; clear hb10; obtain ⟨⟨x0, x1, x2, x3, x4, x5⟩, ⟨x6, x7, x8, x9, x10, x11⟩, x12⟩ := hx.get6)
          | (go_at_call 43; refine (HOUT.out _).mono ?_; rintro e w11 ⟨rfl, hb11⟩; replace hbw := bl_call hbw (Nat.le_refl _) hb11; replace hx := hx.call hb11; replace hk3 := hk3.call hb11; replace hV := hV.call hb11; clear x0 x1 x2 x3 x4 x5 x6 x7 x8 x9 x10 x11 x12; clear hb11; obtain ⟨⟨x0, x1, x2, x3, x4, x5⟩, ⟨x6, x7, x8, x9, x10, x11⟩, x12⟩ := hx.get6))
        clear x0 x1 x2 x3 x4 x5 x6 x7 x8 x9 x10 x11 x12
        go_wp2_with fail
        go_loopw [102] (fun i wi => i = .int .i64 0 ∧ Vs wi xb0 [.int .u8 K, .int .u8 G, .int .i64 B, .int .i64 L, .int .i64 M, .int .i64 C] ∧ Vs wi kb [.int .i64 many, .int .i64 3, .int .i64 256] ∧
          Vs wi sb [.int .u8 xk, .int .u8 xf, .int .i64 xb, .int .i64 xl, .int .i64 xm, .int .i64 xc, .int .u8 yk, .int .u8 yf, .int .i64 yb, .int .i64 yl, .int .i64 ym, .int .i64 yc] ∧ Below w.heap.size w wi) (fun _ _ => 0)
        case atStart => exact ⟨rfl, hx, hk3, hV, hbw⟩
        case round =>
          clear hx hk3 hV hbw
          obtain ⟨rfl, hx, hk3, hV, hbw⟩ := hrel
          go_wp2_with fail
          go_roundw
          case rel => exact ⟨p + 1, by omega, by go_num, hx, hk3, hV, hbw⟩
          case measure => simp [intOf]; omega
      have HLN := Lib.hid hlen
      rw [← hlen] at HOUT
      clear hlen
      by_cases hkr : kk < 0 ∨ 256 < kk
      · have HD : Hid (decN Y xs kk = 6) := by
          show decN Y xs kk = 6
          unfold decN
          rw [HNO.out, if_pos HLN.out, if_pos hkr]
        obtain ⟨⟨x0, x1, x2, x3, x4, x5⟩, ⟨x6, x7, x8, x9, x10, x11⟩, x12⟩ := hx.get6
        rcases hkr with hkr | hkr
        · go_wp2_with fail
          refine (HDEC.out _ hbw).mono ?_
          rintro e w8 he
          obtain ⟨rfl, hb8⟩ := dec_nil he HD.out (by omega)
          clear he
          clear x0 x1 x2 x3 x4 x5 x6 x7 x8 x9 x10 x11 x12
          replace hbw := bl_call hbw (Nat.le_refl _) hb8
          replace hx := hx.call hb8
          replace hk3 := hk3.call hb8
          replace hV := hV.call hb8
          clear hb8
          obtain ⟨⟨x0, x1, x2, x3, x4, x5⟩, ⟨x6, x7, x8, x9, x10, x11⟩, x12⟩ := hx.get6
          go_upto_region 25 with (first
            | (go_at_call 39; refine (HREF.out _).mono ?_; rintro e w9 ⟨rfl, hb9⟩; replace hbw := bl_call hbw (Nat.le_refl _) hb9; replace hx := hx.call hb9; replace hk3 := hk3.call hb9; replace hV := hV.call hb9; clear x0 x1 x2 x3 x4 x5 x6 x7 x8 x9 x10 x11 x12; clear hb9; obtain ⟨⟨x0, x1, x2, x3, x4, x5⟩, ⟨x6, x7, x8, x9, x10, x11⟩, x12⟩ := hx.get6)
            | (go_at_call 49; refine (HCK.out _).mono ?_; rintro e w10 ⟨rfl, hb10⟩; replace hbw := bl_call hbw (Nat.le_refl _) hb10; replace hx := hx.call hb10; replace hk3 := hk3.call hb10; replace hV := hV.call hb10; clear x0 x1 x2 x3 x4 x5 x6 x7 x8 x9 x10 x11 x12; clear hb10; obtain ⟨⟨x0, x1, x2, x3, x4, x5⟩, ⟨x6, x7, x8, x9, x10, x11⟩, x12⟩ := hx.get6)
            | (go_at_call 43; refine (HOUT.out _).mono ?_; rintro e w11 ⟨rfl, hb11⟩; replace hbw := bl_call hbw (Nat.le_refl _) hb11; replace hx := hx.call hb11; replace hk3 := hk3.call hb11; replace hV := hV.call hb11; clear x0 x1 x2 x3 x4 x5 x6 x7 x8 x9 x10 x11 x12; clear hb11; obtain ⟨⟨x0, x1, x2, x3, x4, x5⟩, ⟨x6, x7, x8, x9, x10, x11⟩, x12⟩ := hx.get6))
          clear x0 x1 x2 x3 x4 x5 x6 x7 x8 x9 x10 x11 x12
          go_wp2_with fail
          go_loopw [102] (fun i wi => i = .int .i64 0 ∧ Vs wi xb0 [.int .u8 K, .int .u8 G, .int .i64 B, .int .i64 L, .int .i64 M, .int .i64 C] ∧ Vs wi kb [.int .i64 many, .int .i64 3, .int .i64 256] ∧
            Vs wi sb [.int .u8 xk, .int .u8 xf, .int .i64 xb, .int .i64 xl, .int .i64 xm, .int .i64 xc, .int .u8 yk, .int .u8 yf, .int .i64 yb, .int .i64 yl, .int .i64 ym, .int .i64 yc] ∧ Below w.heap.size w wi) (fun _ _ => 0)
          case atStart => exact ⟨rfl, hx, hk3, hV, hbw⟩
          case round =>
            clear hx hk3 hV hbw
            obtain ⟨rfl, hx, hk3, hV, hbw⟩ := hrel
            go_wp2_with fail
            go_roundw
            case rel => exact ⟨p + 1, by omega, by go_num, hx, hk3, hV, hbw⟩
            case measure => simp [intOf]; omega
        · skip
          go_wp2_with fail
          refine (HDEC.out _ hbw).mono ?_
          rintro e w8 he
          obtain ⟨rfl, hb8⟩ := dec_nil he HD.out (by omega)
          clear he
          clear x0 x1 x2 x3 x4 x5 x6 x7 x8 x9 x10 x11 x12
          replace hbw := bl_call hbw (Nat.le_refl _) hb8
          replace hx := hx.call hb8
          replace hk3 := hk3.call hb8
          replace hV := hV.call hb8
          clear hb8
          obtain ⟨⟨x0, x1, x2, x3, x4, x5⟩, ⟨x6, x7, x8, x9, x10, x11⟩, x12⟩ := hx.get6
          go_upto_region 25 with (first
            | (go_at_call 39; refine (HREF.out _).mono ?_; rintro e w9 ⟨rfl, hb9⟩; replace hbw := bl_call hbw (Nat.le_refl _) hb9; replace hx := hx.call hb9; replace hk3 := hk3.call hb9; replace hV := hV.call hb9; clear x0 x1 x2 x3 x4 x5 x6 x7 x8 x9 x10 x11 x12; clear hb9; obtain ⟨⟨x0, x1, x2, x3, x4, x5⟩, ⟨x6, x7, x8, x9, x10, x11⟩, x12⟩ := hx.get6)
            | (go_at_call 49; refine (HCK.out _).mono ?_; rintro e w10 ⟨rfl, hb10⟩; replace hbw := bl_call hbw (Nat.le_refl _) hb10; replace hx := hx.call hb10; replace hk3 := hk3.call hb10; replace hV := hV.call hb10; clear x0 x1 x2 x3 x4 x5 x6 x7 x8 x9 x10 x11 x12; clear hb10; obtain ⟨⟨x0, x1, x2, x3, x4, x5⟩, ⟨x6, x7, x8, x9, x10, x11⟩, x12⟩ := hx.get6)
            | (go_at_call 43; refine (HOUT.out _).mono ?_; rintro e w11 ⟨rfl, hb11⟩; replace hbw := bl_call hbw (Nat.le_refl _) hb11; replace hx := hx.call hb11; replace hk3 := hk3.call hb11; replace hV := hV.call hb11; clear x0 x1 x2 x3 x4 x5 x6 x7 x8 x9 x10 x11 x12; clear hb11; obtain ⟨⟨x0, x1, x2, x3, x4, x5⟩, ⟨x6, x7, x8, x9, x10, x11⟩, x12⟩ := hx.get6))
          clear x0 x1 x2 x3 x4 x5 x6 x7 x8 x9 x10 x11 x12
          go_wp2_with fail
          go_loopw [102] (fun i wi => i = .int .i64 0 ∧ Vs wi xb0 [.int .u8 K, .int .u8 G, .int .i64 B, .int .i64 L, .int .i64 M, .int .i64 C] ∧ Vs wi kb [.int .i64 many, .int .i64 3, .int .i64 256] ∧
            Vs wi sb [.int .u8 xk, .int .u8 xf, .int .i64 xb, .int .i64 xl, .int .i64 xm, .int .i64 xc, .int .u8 yk, .int .u8 yf, .int .i64 yb, .int .i64 yl, .int .i64 ym, .int .i64 yc] ∧ Below w.heap.size w wi) (fun _ _ => 0)
          case atStart => exact ⟨rfl, hx, hk3, hV, hbw⟩
          case round =>
            clear hx hk3 hV hbw
            obtain ⟨rfl, hx, hk3, hV, hbw⟩ := hrel
            go_wp2_with fail
            go_roundw
            case rel => exact ⟨p + 1, by omega, by go_num, hx, hk3, hV, hbw⟩
            case measure => simp [intOf]; omega
      have HD : Hid (decN Y xs kk = if xs.any (decBad mo kk) then 6 else 0) := by
        show decN Y xs kk = _
        unfold decN
        rw [HNO.out, HMO.out, if_pos HLN.out, if_neg hkr]
      obtain ⟨kn, rfl⟩ : ∃ kn : Nat, kk = (kn : Int) := ⟨kk.toNat, by omega⟩
      have hk2 : kn ≤ 256 := by omega
      clear hkr
      have hkm : kn * mo ≤ 256 * 4294967296 := Nat.mul_le_mul hk2 hmo
      obtain ⟨KM, hKM⟩ : ∃ KM : Nat, kn * mo = KM := ⟨_, rfl⟩
      have hKMi : (kn : Int) * (mo : Int) = (KM : Int) := by rw [← hKM]; exact (Int.natCast_mul kn mo).symm
      rw [hKM] at hkm
      have hw1 : IntKind.u64.wrap (kn : Int) = (kn : Int) := IntWalk.u64_in _ (by omega)
      have hw2 : IntKind.u64.wrap (KM : Int) = (KM : Int) := IntWalk.u64_in _ (by omega)
      clear hKM
      have HDR : Hid (∀ wz, Below w.heap.size w wz → Calls Try.prog 48 #[.agg #[.int .u8 K, .int .u8 G, .int .i64 B, .int .i64 L, .int .i64 M, .int .i64 C], .slice A xs.length cp, .int .i64 kn] wz fun e w' =>
          ∃ (Ag : Option Addr) (cg : Nat) (gls : List Int) (D : Int), e = .returned (.tuple #[.slice Ag gls.length cg, .int .i64 D]) ∧ SlU w' w'.heap.size (.slice Ag gls.length cg) gls ∧ Hid (D = if xs.any (decBad mo kn) then 6 else 0) ∧ Hid ((D ≠ 0 ∧ gls = []) ∨ (D = 0 ∧ gls = xs.map (·.1))) ∧ Below wz.heap.size wz w') := fun wz hb => by
        refine (HDEC.out wz hb).mono fun e w' h => ?_
        rcases h with ⟨h0, rfl, hb'⟩ | ⟨h0, v, rfl, hs, hb'⟩
        · exact ⟨none, 0, [], _, rfl, SlU.nil _ _, HD.out, .inl ⟨h0, rfl⟩, hb'⟩
        · obtain ⟨⟨Ag, cg, rfl, h1, h2, h3⟩, h4⟩ := hs
          exact ⟨Ag, cg, xs.map (·.1), 0, rfl, ⟨⟨Ag, cg, rfl, h1, h2, h3⟩, h4⟩, h0.symm.trans HD.out, .inr ⟨rfl, rfl⟩, hb'⟩
      clear HDEC HD HNO HMO
      obtain ⟨⟨x0, x1, x2, x3, x4, x5⟩, ⟨x6, x7, x8, x9, x10, x11⟩, x12⟩ := hx.get6
      go_wp2_with fail
      refine (HDR.out _ hbw).mono ?_
      rintro e w8 ⟨Ag, cg, gls, D, rfl, hgs, hD, hor, hb8⟩
      clear x0 x1 x2 x3 x4 x5 x6 x7 x8 x9 x10 x11 x12
      replace hbw := bl_call hbw (Nat.le_refl _) hb8
      replace hx := hx.call hb8
      replace hk3 := hk3.call hb8
      replace hV := hV.call hb8
      clear hb8 HDR
      obtain ⟨⟨x0, x1, x2, x3, x4, x5⟩, ⟨x6, x7, x8, x9, x10, x11⟩, x12⟩ := hx.get6
      go_upto_region 15 with (first
        | (go_at_call 39; refine (HREF.out _).mono ?_; rintro e w9 ⟨rfl, hb9⟩; replace hbw := bl_call hbw (Nat.le_refl _) hb9; replace hx := hx.call hb9; replace hk3 := hk3.call hb9; replace hV := hV.call hb9; replace hgs := hgs.later hb9; clear x0 x1 x2 x3 x4 x5 x6 x7 x8 x9 x10 x11 x12; clear hb9; obtain ⟨⟨x0, x1, x2, x3, x4, x5⟩, ⟨x6, x7, x8, x9, x10, x11⟩, x12⟩ := hx.get6)
        | (go_at_call 49; refine (HCK.out _).mono ?_; rintro e w10 ⟨rfl, hb10⟩; replace hbw := bl_call hbw (Nat.le_refl _) hb10; replace hx := hx.call hb10; replace hk3 := hk3.call hb10; replace hV := hV.call hb10; replace hgs := hgs.later hb10; clear x0 x1 x2 x3 x4 x5 x6 x7 x8 x9 x10 x11 x12; clear hb10; obtain ⟨⟨x0, x1, x2, x3, x4, x5⟩, ⟨x6, x7, x8, x9, x10, x11⟩, x12⟩ := hx.get6)
        | (go_at_call 43; refine (HOUT.out _).mono ?_; rintro e w11 ⟨rfl, hb11⟩; replace hbw := bl_call hbw (Nat.le_refl _) hb11; replace hx := hx.call hb11; replace hk3 := hk3.call hb11; replace hV := hV.call hb11; replace hgs := hgs.later hb11; clear x0 x1 x2 x3 x4 x5 x6 x7 x8 x9 x10 x11 x12; clear hb11; obtain ⟨⟨x0, x1, x2, x3, x4, x5⟩, ⟨x6, x7, x8, x9, x10, x11⟩, x12⟩ := hx.get6))
      clear x0 x1 x2 x3 x4 x5 x6 x7 x8 x9 x10 x11 x12
      go_wp2_with fail
      go_loopw [16, 54] (fun z i wi => ∃ (j : Nat) (zc : Int), j ≤ xs.length ∧ i = .int .i64 j ∧ z = .int .i64 zc ∧ Hid (zc = if (xs.take j).any (decBad mo kn) then 6 else 0) ∧ Vs wi xb0 [.int .u8 K, .int .u8 G, .int .i64 B, .int .i64 L, .int .i64 M, .int .i64 C] ∧ Vs wi kb [.int .i64 many, .int .i64 3, .int .i64 256] ∧ Vs wi sb [.int .u8 xk, .int .u8 xf, .int .i64 xb, .int .i64 xl, .int .i64 xm, .int .i64 xc, .int .u8 yk, .int .u8 yf, .int .i64 yb, .int .i64 yl, .int .i64 ym, .int .i64 yc] ∧
        SlU wi wi.heap.size (.slice Ag gls.length cg) gls ∧ Below w.heap.size w wi) (fun _ i _ => xs.length - (intOf i).toNat)
      case atStart => exact ⟨0, 0, Nat.zero_le _, rfl, rfl, (by rw [List.take_zero]; rfl : (0 : Int) = if (xs.take 0).any (decBad mo kn) then 6 else 0), hx, hk3, hV, hgs, hbw⟩
      case round =>
        clear hx hk3 hV hgs hbw
        obtain ⟨j, zc, hj, rfl, rfl, hz, hx, hk3, hV, hgs, hbw⟩ := hrel
        by_cases hlj : j < xs.length
        · obtain ⟨bl, o, rfl, hBb, hr⟩ := hA (by omega)
          obtain ⟨⟨a0, a1⟩, he⟩ : ∃ e, xs[j]? = some e := ⟨_, List.getElem?_eq_getElem hlj⟩
          obtain ⟨h0, h1, h2, h3⟩ := hok _ (List.mem_of_getElem? he)
          obtain ⟨d0, d1⟩ := (hr.below hbw hBb) _ _ he
          dsimp only at h0 h1 h2 h3 d0 d1
          have HST := Lib.hid (any_step (p := decBad mo kn) he)
          clear he hr hA
          go_upto_region 17 with fail
          clear d0 d1
          have hv := V2.new wr (.int .u64 a0) (.int .u64 a1) 41
          have hbA : Below wr.heap.size wr (wr.alloc (.cells #[.int .u64 a0, .int .u64 a1] 41)) := by repeat (first | exact Below.refl _ _ | with_reducible assumption | (refine bl_alloc ?_ (Nat.le_refl _) _))
          replace hbw := bl_call hbw (Nat.le_refl _) hbA
          replace hx := hx.call hbA
          replace hk3 := hk3.call hbA
          replace hV := hV.call hbA
          replace hgs := hgs.later hbA
          clear hbA
          generalize wr.alloc (.cells #[.int .u64 a0, .int .u64 a1] 41) = w4 at hbw hx hk3 hV hgs hv ⊢
          have hvl : wr.heap.size < w4.heap.size := hv.lt
          obtain ⟨⟨x0, x1, x2, x3, x4, x5⟩, ⟨x6, x7, x8, x9, x10, x11⟩, x12⟩ := hx.get6
          obtain ⟨v0, v1, v2, v3, v4⟩ := V2.mk hv.c0 hv.c1 hv.f0 hv.f1 hv.lt
          by_cases hz1 : a1 = 0
          rotate_left
          · have hbad : decBad mo kn (a0, a1) = true := by
              unfold decBad
              dsimp only
              rw [Bool.or_eq_true, bne_iff_ne]
              exact .inl hz1
            have HZ6 : Hid ((6 : Int) = if (xs.take (j + 1)).any (decBad mo kn) then 6 else 0) := by
              show (6 : Int) = _
              rw [HST.out, hbad, Bool.or_true, if_pos rfl]
            have hzb : (a1 == 0) = false := by simpa using hz1
            have hzc : (a1 != 0) = true := by simpa using hz1
            clear hbad hz1
            refine region_B (n := 12) (m := 13) (f := 12) (by kernel_rfl) (by kernel_rfl) rfl ?_
            refine WpH.takeD 0 (some 58) (v := ?_) rfl rfl (by kernel_rfl) (fun _ _ _ h => h) (.val rfl (fun wz hwz => ?_)) ?_
            rotate_left
            · go_simp; try (with_reducible rfl)
            (simp only [Act.put]); (try simp only [List.setIfInBounds_toArray]); (try simp only [List.set_cons_succ]); (try simp only [List.set_cons_zero])
            refine WpH.takeD 1 (some 59) (v := ?_) rfl rfl (by kernel_rfl) (fun _ _ _ h => h) (.val rfl (fun wz hwz => ?_)) ?_
            rotate_left
            · (obtain ⟨hcz, hfz⟩ := bcell hwz; go_simp; try (with_reducible rfl))
            (simp only [Act.put]); (try simp only [List.setIfInBounds_toArray]); (try simp only [List.set_cons_succ]); (try simp only [List.set_cons_zero])
            refine WpH.takeD 2 (some 60) (v := ?_) rfl rfl (by kernel_rfl) (fun _ _ _ h => h) (.val rfl (fun wz hwz => ?_)) ?_
            rotate_left
            · go_simp; try (with_reducible rfl)
            (simp only [Act.put]); (try simp only [List.setIfInBounds_toArray]); (try simp only [List.set_cons_succ]); (try simp only [List.set_cons_zero])
            refine WpH.takeD 3 (some 61) (v := ?_) rfl rfl (by kernel_rfl) (fun _ _ _ h => h) (.val rfl (fun wz hwz => ?_)) ?_
            rotate_left
            · go_simp; try (with_reducible rfl)
            (simp only [Act.put]); (try simp only [List.setIfInBounds_toArray]); (try simp only [List.set_cons_succ]); (try simp only [List.set_cons_zero])
            refine WpH.takeD 4 (some 62) rfl rfl (by kernel_rfl) (fun _ _ _ h => h) (.skip rfl) ?_
            (simp only [Act.put]); (try simp only [List.setIfInBounds_toArray]); (try simp only [List.set_cons_succ]); (try simp only [List.set_cons_zero])
            refine WpH.takeD 5 (some 63) rfl rfl (by kernel_rfl) (fun _ _ _ h => h) (.skip rfl) ?_
            (simp only [Act.put]); (try simp only [List.setIfInBounds_toArray]); (try simp only [List.set_cons_succ]); (try simp only [List.set_cons_zero])
            refine WpH.takeD 6 (some 64) rfl rfl (by kernel_rfl) (fun _ _ _ h => h) (.skip rfl) ?_
            (simp only [Act.put]); (try simp only [List.setIfInBounds_toArray]); (try simp only [List.set_cons_succ]); (try simp only [List.set_cons_zero])
            refine WpH.takeD 7 (some 65) rfl rfl (by kernel_rfl) (fun _ _ _ h => h) (.skip rfl) ?_
            (simp only [Act.put]); (try simp only [List.setIfInBounds_toArray]); (try simp only [List.set_cons_succ]); (try simp only [List.set_cons_zero])
            refine WpH.takeD 8 (some 66) rfl rfl (by kernel_rfl) (fun _ _ _ h => h) (.skip rfl) ?_
            (simp only [Act.put]); (try simp only [List.setIfInBounds_toArray]); (try simp only [List.set_cons_succ]); (try simp only [List.set_cons_zero])
            refine WpH.takeD 9 (some 67) rfl rfl (by kernel_rfl) (fun _ _ _ h => h) (.skip rfl) ?_
            (simp only [Act.put]); (try simp only [List.setIfInBounds_toArray]); (try simp only [List.set_cons_succ]); (try simp only [List.set_cons_zero])
            refine WpH.takeD 10 (some 68) rfl rfl (by kernel_rfl) (fun _ _ _ h => h) (.skip rfl) ?_
            (simp only [Act.put]); (try simp only [List.setIfInBounds_toArray]); (try simp only [List.set_cons_succ]); (try simp only [List.set_cons_zero])
            refine WpH.takeD 11 (some 69) rfl rfl (by kernel_rfl) (fun _ _ _ h => h) (.skip rfl) ?_
            (simp only [Act.put]); (try simp only [List.setIfInBounds_toArray]); (try simp only [List.set_cons_succ]); (try simp only [List.set_cons_zero])
            refine WpH.doneB (by kernel_rfl) (fun w12 hw12 => ?_)
            (try simp only [List.drop_succ_cons]); (try simp only [List.drop_zero]); (try simp only [Nat.reduceSub]); (try simp only [List.take_succ_cons]); (try simp only [List.take_zero])
            clear x0 x1 x2 x3 x4 x5 x6 x7 x8 x9 x10 x11 x12 v0 v1 v2 v3 v4
            replace hbw := bl_call hbw (Nat.le_refl _) hw12
            replace hx := hx.call hw12
            replace hk3 := hk3.call hw12
            replace hV := hV.call hw12
            replace hgs := hgs.later hw12
            replace hv := hv.call hw12
            go_wp2_with fail
            go_roundw
            case rel => exact ⟨j + 1, 6, by omega, by go_num, rfl, HZ6.out, hx, hk3, hV, hgs, hbw⟩
            case measure => simp [intOf]; omega
          subst hz1
          by_cases hgt : (KM : Int) < a0
          · have hbad : decBad mo kn (a0, 0) = true := by
              unfold decBad
              dsimp only
              rw [hKMi, Bool.or_eq_true, decide_eq_true_eq]
              exact .inr hgt
            have HZ6 : Hid ((6 : Int) = if (xs.take (j + 1)).any (decBad mo kn) then 6 else 0) := by
              show (6 : Int) = _
              rw [HST.out, hbad, Bool.or_true, if_pos rfl]
            have hd : decide ((KM : Int) < a0) = true := decide_eq_true hgt
            clear hbad hgt
            refine region_B (n := 12) (m := 13) (f := 12) (by kernel_rfl) (by kernel_rfl) rfl ?_
            refine WpH.takeD 0 (some 58) (v := ?_) rfl rfl (by kernel_rfl) (fun _ _ _ h => h) (.val rfl (fun wz hwz => ?_)) ?_
            rotate_left
            · go_simp; try (with_reducible rfl)
            (simp only [Act.put]); (try simp only [List.setIfInBounds_toArray]); (try simp only [List.set_cons_succ]); (try simp only [List.set_cons_zero])
            refine WpH.takeD 1 (some 59) (v := ?_) rfl rfl (by kernel_rfl) (fun _ _ _ h => h) (.val rfl (fun wz hwz => ?_)) ?_
            rotate_left
            · (obtain ⟨hcz, hfz⟩ := bcell hwz; go_simp; try (with_reducible rfl))
            (simp only [Act.put]); (try simp only [List.setIfInBounds_toArray]); (try simp only [List.set_cons_succ]); (try simp only [List.set_cons_zero])
            refine WpH.takeD 2 (some 60) (v := ?_) rfl rfl (by kernel_rfl) (fun _ _ _ h => h) (.val rfl (fun wz hwz => ?_)) ?_
            rotate_left
            · go_simp; try (with_reducible rfl)
            (simp only [Act.put]); (try simp only [List.setIfInBounds_toArray]); (try simp only [List.set_cons_succ]); (try simp only [List.set_cons_zero])
            refine WpH.takeD 3 (some 61) (v := ?_) rfl rfl (by kernel_rfl) (fun _ _ _ h => h) (.val rfl (fun wz hwz => ?_)) ?_
            rotate_left
            · go_simp; try (with_reducible rfl)
            (simp only [Act.put]); (try simp only [List.setIfInBounds_toArray]); (try simp only [List.set_cons_succ]); (try simp only [List.set_cons_zero])
            refine WpH.takeD 4 (some 62) (v := ?_) rfl rfl (by kernel_rfl) (fun _ _ _ h => h) (.val rfl (fun wz hwz => ?_)) ?_
            rotate_left
            · go_simp; try (with_reducible rfl)
            (simp only [Act.put]); (try simp only [List.setIfInBounds_toArray]); (try simp only [List.set_cons_succ]); (try simp only [List.set_cons_zero])
            refine WpH.takeD 5 (some 63) (v := ?_) rfl rfl (by kernel_rfl) (fun _ _ _ h => h) (.val rfl (fun wz hwz => ?_)) ?_
            rotate_left
            · (obtain ⟨hcz, hfz⟩ := bcell hwz; go_simp; try (with_reducible rfl))
            (simp only [Act.put]); (try simp only [List.setIfInBounds_toArray]); (try simp only [List.set_cons_succ]); (try simp only [List.set_cons_zero])
            refine WpH.takeD 6 (some 64) (v := ?_) rfl rfl (by kernel_rfl) (fun _ _ _ h => h) (.val rfl (fun wz hwz => ?_)) ?_
            rotate_left
            · go_simp; try (with_reducible rfl)
            (simp only [Act.put]); (try simp only [List.setIfInBounds_toArray]); (try simp only [List.set_cons_succ]); (try simp only [List.set_cons_zero])
            refine WpH.takeD 7 (some 65) (v := ?_) rfl rfl (by kernel_rfl) (fun _ _ _ h => h) (.val rfl (fun wz hwz => ?_)) ?_
            rotate_left
            · go_simp; try (with_reducible rfl)
            (simp only [Act.put]); (try simp only [List.setIfInBounds_toArray]); (try simp only [List.set_cons_succ]); (try simp only [List.set_cons_zero])
            refine WpH.takeD 8 (some 66) (v := ?_) rfl rfl (by kernel_rfl) (fun _ _ _ h => h) (.val rfl (fun wz hwz => ?_)) ?_
            rotate_left
            · (obtain ⟨hcz, hfz⟩ := bcell hwz; go_simp; try (with_reducible rfl))
            (simp only [Act.put]); (try simp only [List.setIfInBounds_toArray]); (try simp only [List.set_cons_succ]); (try simp only [List.set_cons_zero])
            refine WpH.takeD 9 (some 67) rfl rfl (by kernel_rfl) (fun _ _ _ h => h) (.call rfl (fun wz hwz => HMOST.out wz) (fun wz hwz => ?_)) ?_
            · go_simp; try (with_reducible rfl)
            (simp only [Act.put]); (try simp only [List.setIfInBounds_toArray]); (try simp only [List.set_cons_succ]); (try simp only [List.set_cons_zero])
            refine WpH.takeD 10 (some 68) (v := ?_) rfl rfl (by kernel_rfl) (fun _ _ _ h => h) (.val rfl (fun wz hwz => ?_)) ?_
            rotate_left
            · go_simp; try (with_reducible rfl)
            (simp only [Act.put]); (try simp only [List.setIfInBounds_toArray]); (try simp only [List.set_cons_succ]); (try simp only [List.set_cons_zero])
            refine WpH.takeD 11 (some 69) (v := ?_) rfl rfl (by kernel_rfl) (fun _ _ _ h => h) (.val rfl (fun wz hwz => ?_)) ?_
            rotate_left
            · go_simp; try (with_reducible rfl)
            (simp only [Act.put]); (try simp only [List.setIfInBounds_toArray]); (try simp only [List.set_cons_succ]); (try simp only [List.set_cons_zero])
            refine WpH.doneB (by kernel_rfl) (fun w12 hw12 => ?_)
            (try simp only [List.drop_succ_cons]); (try simp only [List.drop_zero]); (try simp only [Nat.reduceSub]); (try simp only [List.take_succ_cons]); (try simp only [List.take_zero])
            clear x0 x1 x2 x3 x4 x5 x6 x7 x8 x9 x10 x11 x12 v0 v1 v2 v3 v4
            replace hbw := bl_call hbw (Nat.le_refl _) hw12
            replace hx := hx.call hw12
            replace hk3 := hk3.call hw12
            replace hV := hV.call hw12
            replace hgs := hgs.later hw12
            replace hv := hv.call hw12
            go_wp2_with fail
            go_roundw
            case rel => exact ⟨j + 1, 6, by omega, by go_num, rfl, HZ6.out, hx, hk3, hV, hgs, hbw⟩
            case measure => simp [intOf]; omega
          · have hgood : decBad mo kn (a0, 0) = false := by
              unfold decBad
              dsimp only
              rw [hKMi, Bool.or_eq_false_iff, decide_eq_false_iff_not]
              exact ⟨rfl, hgt⟩
            have HZ6 : Hid (zc = if (xs.take (j + 1)).any (decBad mo kn) then 6 else 0) := by
              show zc = _
              rw [HST.out, hgood, Bool.or_false]
              exact hz.out
            have hd : decide ((KM : Int) < a0) = false := decide_eq_false hgt
            clear hgood hgt
            refine region_B (n := 12) (m := 13) (f := 12) (by kernel_rfl) (by kernel_rfl) rfl ?_
            refine WpH.takeD 0 (some 58) (v := ?_) rfl rfl (by kernel_rfl) (fun _ _ _ h => h) (.val rfl (fun wz hwz => ?_)) ?_
            rotate_left
            · go_simp; try (with_reducible rfl)
            (simp only [Act.put]); (try simp only [List.setIfInBounds_toArray]); (try simp only [List.set_cons_succ]); (try simp only [List.set_cons_zero])
            refine WpH.takeD 1 (some 59) (v := ?_) rfl rfl (by kernel_rfl) (fun _ _ _ h => h) (.val rfl (fun wz hwz => ?_)) ?_
            rotate_left
            · (obtain ⟨hcz, hfz⟩ := bcell hwz; go_simp; try (with_reducible rfl))
            (simp only [Act.put]); (try simp only [List.setIfInBounds_toArray]); (try simp only [List.set_cons_succ]); (try simp only [List.set_cons_zero])
            refine WpH.takeD 2 (some 60) (v := ?_) rfl rfl (by kernel_rfl) (fun _ _ _ h => h) (.val rfl (fun wz hwz => ?_)) ?_
            rotate_left
            · go_simp; try (with_reducible rfl)
            (simp only [Act.put]); (try simp only [List.setIfInBounds_toArray]); (try simp only [List.set_cons_succ]); (try simp only [List.set_cons_zero])
            refine WpH.takeD 3 (some 61) (v := ?_) rfl rfl (by kernel_rfl) (fun _ _ _ h => h) (.val rfl (fun wz hwz => ?_)) ?_
            rotate_left
            · go_simp; try (with_reducible rfl)
            (simp only [Act.put]); (try simp only [List.setIfInBounds_toArray]); (try simp only [List.set_cons_succ]); (try simp only [List.set_cons_zero])
            refine WpH.takeD 4 (some 62) (v := ?_) rfl rfl (by kernel_rfl) (fun _ _ _ h => h) (.val rfl (fun wz hwz => ?_)) ?_
            rotate_left
            · go_simp; try (with_reducible rfl)
            (simp only [Act.put]); (try simp only [List.setIfInBounds_toArray]); (try simp only [List.set_cons_succ]); (try simp only [List.set_cons_zero])
            refine WpH.takeD 5 (some 63) (v := ?_) rfl rfl (by kernel_rfl) (fun _ _ _ h => h) (.val rfl (fun wz hwz => ?_)) ?_
            rotate_left
            · (obtain ⟨hcz, hfz⟩ := bcell hwz; go_simp; try (with_reducible rfl))
            (simp only [Act.put]); (try simp only [List.setIfInBounds_toArray]); (try simp only [List.set_cons_succ]); (try simp only [List.set_cons_zero])
            refine WpH.takeD 6 (some 64) (v := ?_) rfl rfl (by kernel_rfl) (fun _ _ _ h => h) (.val rfl (fun wz hwz => ?_)) ?_
            rotate_left
            · go_simp; try (with_reducible rfl)
            (simp only [Act.put]); (try simp only [List.setIfInBounds_toArray]); (try simp only [List.set_cons_succ]); (try simp only [List.set_cons_zero])
            refine WpH.takeD 7 (some 65) (v := ?_) rfl rfl (by kernel_rfl) (fun _ _ _ h => h) (.val rfl (fun wz hwz => ?_)) ?_
            rotate_left
            · go_simp; try (with_reducible rfl)
            (simp only [Act.put]); (try simp only [List.setIfInBounds_toArray]); (try simp only [List.set_cons_succ]); (try simp only [List.set_cons_zero])
            refine WpH.takeD 8 (some 66) (v := ?_) rfl rfl (by kernel_rfl) (fun _ _ _ h => h) (.val rfl (fun wz hwz => ?_)) ?_
            rotate_left
            · (obtain ⟨hcz, hfz⟩ := bcell hwz; go_simp; try (with_reducible rfl))
            (simp only [Act.put]); (try simp only [List.setIfInBounds_toArray]); (try simp only [List.set_cons_succ]); (try simp only [List.set_cons_zero])
            refine WpH.takeD 9 (some 67) rfl rfl (by kernel_rfl) (fun _ _ _ h => h) (.call rfl (fun wz hwz => HMOST.out wz) (fun wz hwz => ?_)) ?_
            · go_simp; try (with_reducible rfl)
            (simp only [Act.put]); (try simp only [List.setIfInBounds_toArray]); (try simp only [List.set_cons_succ]); (try simp only [List.set_cons_zero])
            refine WpH.takeD 10 (some 68) (v := ?_) rfl rfl (by kernel_rfl) (fun _ _ _ h => h) (.val rfl (fun wz hwz => ?_)) ?_
            rotate_left
            · go_simp; try (with_reducible rfl)
            (simp only [Act.put]); (try simp only [List.setIfInBounds_toArray]); (try simp only [List.set_cons_succ]); (try simp only [List.set_cons_zero])
            refine WpH.takeD 11 (some 69) (v := ?_) rfl rfl (by kernel_rfl) (fun _ _ _ h => h) (.val rfl (fun wz hwz => ?_)) ?_
            rotate_left
            · go_simp; try (with_reducible rfl)
            (simp only [Act.put]); (try simp only [List.setIfInBounds_toArray]); (try simp only [List.set_cons_succ]); (try simp only [List.set_cons_zero])
            refine WpH.doneB (by kernel_rfl) (fun w12 hw12 => ?_)
            (try simp only [List.drop_succ_cons]); (try simp only [List.drop_zero]); (try simp only [Nat.reduceSub]); (try simp only [List.take_succ_cons]); (try simp only [List.take_zero])
            clear x0 x1 x2 x3 x4 x5 x6 x7 x8 x9 x10 x11 x12 v0 v1 v2 v3 v4
            replace hbw := bl_call hbw (Nat.le_refl _) hw12
            replace hx := hx.call hw12
            replace hk3 := hk3.call hw12
            replace hV := hV.call hw12
            replace hgs := hgs.later hw12
            replace hv := hv.call hw12
            go_wp2_with fail
            go_roundw
            case rel => exact ⟨j + 1, zc, by omega, by go_num, rfl, HZ6.out, hx, hk3, hV, hgs, hbw⟩
            case measure => simp [intOf]; omega
        · obtain rfl : j = xs.length := by omega
          have hzD : zc = D := by
            have h := hz.out
            rw [List.take_length] at h
            rw [h, hD.out]
          subst hzD
          rcases hor.out with ⟨h0, h1⟩ | ⟨h0, h1⟩
          · subst h1
            have hn1 : (zc == 0) = false := by simpa using h0
            have hn2 : (zc != 0) = true := by simpa using h0
            clear h0 hgs
            rw [show ([] : List Int).length = 0 from rfl]
            go_wp2_with fail
            go_loopw [102] (fun i wi => i = .int .i64 0 ∧ Vs wi xb0 [.int .u8 K, .int .u8 G, .int .i64 B, .int .i64 L, .int .i64 M, .int .i64 C] ∧ Vs wi kb [.int .i64 many, .int .i64 3, .int .i64 256] ∧
              Vs wi sb [.int .u8 xk, .int .u8 xf, .int .i64 xb, .int .i64 xl, .int .i64 xm, .int .i64 xc, .int .u8 yk, .int .u8 yf, .int .i64 yb, .int .i64 yl, .int .i64 ym, .int .i64 yc] ∧ Below w.heap.size w wi) (fun _ _ => 0)
            case atStart => exact ⟨rfl, hx, hk3, hV, hbw⟩
            case round =>
              clear hx hk3 hV hbw
              obtain ⟨rfl, hx, hk3, hV, hbw⟩ := hrel
              go_wp2_with fail
              go_roundw
              case rel => exact ⟨p + 1, by omega, by go_num, hx, hk3, hV, hbw⟩
              case measure => simp [intOf]; omega
          · subst h0
            have HG := Lib.hid h1
            have HGL : Hid (gls.length = xs.length) := by show gls.length = xs.length; rw [h1, List.length_map]
            clear h1
            go_wp2_with fail
            go_loopw [102] (fun i wi => ∃ j : Nat, j ≤ gls.length ∧ i = .int .i64 j ∧ Vs wi xb0 [.int .u8 K, .int .u8 G, .int .i64 B, .int .i64 L, .int .i64 M, .int .i64 C] ∧ Vs wi kb [.int .i64 many, .int .i64 3, .int .i64 256] ∧ Vs wi sb [.int .u8 xk, .int .u8 xf, .int .i64 xb, .int .i64 xl, .int .i64 xm, .int .i64 xc, .int .u8 yk, .int .u8 yf, .int .i64 yb, .int .i64 yl, .int .i64 ym, .int .i64 yc] ∧
              SlU wi wi.heap.size (.slice Ag gls.length cg) gls ∧ Below w.heap.size w wi) (fun i _ => gls.length - (intOf i).toNat)
            case atStart => exact ⟨0, Nat.zero_le _, rfl, hx, hk3, hV, hgs, hbw⟩
            case round =>
              clear hx hk3 hV hgs hbw
              obtain ⟨j, hj, rfl, hx, hk3, hV, hgs, hbw⟩ := hrel
              by_cases hlg : j < gls.length
              rotate_left
              · obtain rfl : j = gls.length := by omega
                go_wp2_with fail
                go_roundw
                case rel => exact ⟨p + 1, by omega, by go_num, hx, hk3, hV, hbw⟩
                case measure => simp [intOf]; omega
              have hlx : j < xs.length := by rw [← HGL.out]; exact hlg
              obtain ⟨bl, o, rfl, hBb, hr⟩ := hA (by omega)
              obtain ⟨⟨a0, a1⟩, he⟩ : ∃ e, xs[j]? = some e := ⟨_, List.getElem?_eq_getElem hlx⟩
              obtain ⟨d0, d1⟩ := (hr.below hbw hBb) _ _ he
              dsimp only at d0 d1
              have hbl : bl < wr.heap.size := Nat.lt_of_lt_of_le hBb hbw.size
              have hge : gls[j]? = some a0 := by rw [HG.out, List.getElem?_map, he]; rfl
              obtain ⟨bg, og, hAg, hBg, hrg⟩ : ∃ bg og, Ag = some ⟨bg, og, none⟩ ∧ bg < wr.heap.size ∧ RowU wr bg og gls := by
                obtain ⟨⟨A9, c9, hh, _, _, h9⟩, _⟩ := hgs
                injection hh with e1 e2 e3
                subst e1
                exact h9 (by omega)
              subst hAg
              have g0 := hrg j a0 hge
              clear he hr hA hge hrg
              go_upto_region 30 with fail
              refine region_B (n := 9) (m := 10) (f := 9) (by kernel_rfl) (by kernel_rfl) rfl ?_
              refine WpH.takeD 0 (some 105) (v := ?_) rfl rfl (by kernel_rfl) (fun _ _ _ h => h) (.val rfl (fun wz hwz => ?_)) ?_
              rotate_left
              · go_simp; try (with_reducible rfl)
              (simp only [Act.put]); (try simp only [List.setIfInBounds_toArray]); (try simp only [List.set_cons_succ]); (try simp only [List.set_cons_zero])
              refine WpH.takeD 1 (some 106) (v := ?_) rfl rfl (by kernel_rfl) (fun _ _ _ h => h) (.val rfl (fun wz hwz => ?_)) ?_
              rotate_left
              · go_simp; try (with_reducible rfl)
              (simp only [Act.put]); (try simp only [List.setIfInBounds_toArray]); (try simp only [List.set_cons_succ]); (try simp only [List.set_cons_zero])
              refine WpH.takeD 2 (some 107) (v := ?_) rfl rfl (by kernel_rfl) (fun _ _ _ h => h) (.val rfl (fun wz hwz => ?_)) ?_
              rotate_left
              · go_simp; try (with_reducible rfl)
              (simp only [Act.put]); (try simp only [List.setIfInBounds_toArray]); (try simp only [List.set_cons_succ]); (try simp only [List.set_cons_zero])
              refine WpH.takeD 3 (some 108) (v := ?_) rfl rfl (by kernel_rfl) (fun _ _ _ h => h) (.val rfl (fun wz hwz => ?_)) ?_
              rotate_left
              · (obtain ⟨hcz, hfz⟩ := bcell hwz; go_simp; try (with_reducible rfl))
              (simp only [Act.put]); (try simp only [List.setIfInBounds_toArray]); (try simp only [List.set_cons_succ]); (try simp only [List.set_cons_zero])
              refine WpH.takeD 4 (some 109) (v := ?_) rfl rfl (by kernel_rfl) (fun _ _ _ h => h) (.val rfl (fun wz hwz => ?_)) ?_
              rotate_left
              · go_simp; try (with_reducible rfl)
              (simp only [Act.put]); (try simp only [List.setIfInBounds_toArray]); (try simp only [List.set_cons_succ]); (try simp only [List.set_cons_zero])
              refine WpH.takeD 5 (some 110) (v := ?_) rfl rfl (by kernel_rfl) (fun _ _ _ h => h) (.val rfl (fun wz hwz => ?_)) ?_
              rotate_left
              · go_simp; try (with_reducible rfl)
              (simp only [Act.put]); (try simp only [List.setIfInBounds_toArray]); (try simp only [List.set_cons_succ]); (try simp only [List.set_cons_zero])
              refine WpH.takeD 6 (some 111) (v := ?_) rfl rfl (by kernel_rfl) (fun _ _ _ h => h) (.val rfl (fun wz hwz => ?_)) ?_
              rotate_left
              · go_simp; try (with_reducible rfl)
              (simp only [Act.put]); (try simp only [List.setIfInBounds_toArray]); (try simp only [List.set_cons_succ]); (try simp only [List.set_cons_zero])
              refine WpH.takeD 7 (some 112) (v := ?_) rfl rfl (by kernel_rfl) (fun _ _ _ h => h) (.val rfl (fun wz hwz => ?_)) ?_
              rotate_left
              · go_simp; try (with_reducible rfl)
              (simp only [Act.put]); (try simp only [List.setIfInBounds_toArray]); (try simp only [List.set_cons_succ]); (try simp only [List.set_cons_zero])
              refine WpH.takeD 8 (some 113) (v := ?_) rfl rfl (by kernel_rfl) (fun _ _ _ h => h) (.val rfl (fun wz hwz => ?_)) ?_
              rotate_left
              · (obtain ⟨hcz, hfz⟩ := bcell hwz; go_simp; try (with_reducible rfl))
              (simp only [Act.put]); (try simp only [List.setIfInBounds_toArray]); (try simp only [List.set_cons_succ]); (try simp only [List.set_cons_zero])
              refine WpH.doneB (by kernel_rfl) (fun w12 hw12 => ?_)
              (try simp only [List.drop_succ_cons]); (try simp only [List.drop_zero]); (try simp only [Nat.reduceSub]); (try simp only [List.take_succ_cons]); (try simp only [List.take_zero])
              replace hbw := bl_call hbw (Nat.le_refl _) hw12
              replace hx := hx.call hw12
              replace hk3 := hk3.call hw12
              replace hV := hV.call hw12
              replace hgs := hgs.later hw12
              go_wp2_with fail
              go_roundw
              case rel => exact ⟨j + 1, by omega, by go_num, hx, hk3, hV, hgs, hbw⟩
              case measure => simp [intOf]; omega

end Go.Proofs.Ytiphahbeedeebaa
