/-
  WALK: tallymanlaw09.GadgetPolys.
-/
import Derived.Test.YtfhmineolncefaaDoorMbd
import Derived.Test.YtfhmineolncefaaDoorMaw
import Derived.Test.YtfhmineolncefaaDoorMba
import Derived.Test.YtfhmineolncefaaDoorMap
import Derived.Test.YtfhmineolncefaaDoorMag
namespace Go.Proofs.YtfhmineolncefaaDoor
open Go.RowKit Fm
set_option linter.unusedVariables false
set_option maxRecDepth 100000

section
variable {f : Nat} (hf : IsF f)
include hf
set_option maxHeartbeats 4000000 in
theorem gadget_Poly_sizeK (w : World) (g : Gad f) (k : Int) (sl : Value) (n : Int) (hg : RepG w w.heap.size k sl n g) (A : Option Addr) (len c : Nat) (hq : len ≠ g.arity) :
    Calls Tryd.prog 50 #[.agg #[.int .u8 k, sl, .int .i64 n], .int .u8 f, .slice A len c] w (RetE9 9 w) := by
  have HC := Lib.hid (fun wz (h : Below w.heap.size w wz) => gadget_Check hf wz g k _ n (hg.later h))
  have HAA := Lib.hid (fun wz (h : Below w.heap.size w wz) => gadget_Arity wz w.heap.size g k sl n (hg.below h))
  have t1 : ((len : Int) == (g.arity : Int)) = false := by rw [beq_eq_false_iff_ne]; omega
  have t2 : ((len : Int) != (g.arity : Int)) = true := by rw [bne_iff_ne]; omega
  clear hq hg
  generalize g.arity = q at *
  go_enter Tryd.func50, Tryd.ntmps50
  go_upto_region 1 with fail
  have hx := Vs.new w [.int .u8 k, sl, .int .i64 n] #[.int .u8 k, sl, .int .i64 n] 68 rfl
  have hb00 : Below w.heap.size w (w.alloc (.cells #[.int .u8 k, sl, .int .i64 n] 68)) := by repeat (first | exact Below.refl _ _ | with_reducible assumption | (refine bl_alloc ?_ (Nat.le_refl _) _))
  have hszn : w.heap.size + 1 ≤ (w.alloc (.cells #[.int .u8 k, sl, .int .i64 n] 68)).heap.size := by simp only [World.size_alloc]; omega
  generalize (w.alloc (.cells #[.int .u8 k, sl, .int .i64 n] 68)) = w1 at hx hb00 hszn ⊢
  obtain ⟨x0, x1, x2, x3, x4, x5, x6⟩ := hx.get3
  go_wp2_with fail
  refine (HC.out _ hb00).mono ?_
  rintro e w2 ⟨rfl, hb2⟩
  clear x0 x1 x2 x3 x4 x5 x6
  replace hb00 := bl_call hb00 (Nat.le_refl _) hb2
  replace hx := hx.call hb2
  clear hb2
  obtain ⟨x0, x1, x2, x3, x4, x5, x6⟩ := hx.get3
  go_wp2_with fail
  refine (HAA.out _ hb00).mono ?_
  rintro e w3 ⟨rfl, hb3⟩
  clear x0 x1 x2 x3 x4 x5 x6
  replace hb00 := bl_call hb00 (Nat.le_refl _) hb3
  replace hx := hx.call hb3
  clear hb3
  go_wp2_with fail
  go_ret2
  exact ⟨rfl, hb00⟩
end

theorem snoc_getD {α : Type} {ps : List (List α)} {p : List α} {M : Nat} (h : ∀ j, (ps.getD j []).length ≤ M) : ∀ j, ((ps ++ [p]).getD j []).length ≤ max M p.length := fun j => by
  rw [List.getD_eq_getElem?_getD]
  by_cases hj : j < ps.length
  · rw [List.getElem?_append_left hj, ← List.getD_eq_getElem?_getD]
    have := h j
    omega
  · rw [List.getElem?_append_right (by omega)]
    cases j - ps.length with
    | zero =>
      show p.length ≤ _
      omega
    | succ k =>
      show ([] : List α).length ≤ _
      simp

theorem Gad_arity_le {f : Nat} {w : World} {B : Nat} {k : Int} {sl : Value} {n : Int} {g : Gad f} (h : RepG w B k sl n g) : 1 ≤ g.arity ∧ g.arity ≤ 32 := by
  cases g with
  | mul => exact ⟨by show 1 ≤ 2; omega, by show 2 ≤ 32; omega⟩
  | eval cs => exact ⟨by show 1 ≤ 1; omega, by show 1 ≤ 32; omega⟩
  | par m =>
    obtain ⟨_, _, _, h1, h2⟩ := h
    exact ⟨by show 1 ≤ 2 * m; omega, by show 2 * m ≤ 32; omega⟩

theorem Gad_degree_le {f : Nat} {w : World} {B : Nat} {k : Int} {sl : Value} {n : Int} {g : Gad f} (h : RepG w B k sl n g) : g.degree ≤ 3 := by
  cases g with
  | mul => show 2 ≤ 3; omega
  | eval cs =>
    obtain ⟨_, _, _, m, y, hm, _, _, _, h2⟩ := h
    show cs.length - 1 ≤ 3
    omega
  | par m => show 2 ≤ 3; omega

set_option maxHeartbeats 16000000 in
theorem walk_GadgetPolys (n kind many : Int) (vs9 vl vz : Value) (xs l : List E) (zs : List Int) (at' : E) (w : World) (hT : TabW w) (hn : 0 ≤ n ∧ n ≤ 255) (hk0 : 0 ≤ kind ∧ kind ≤ 255) (hm0 : 0 ≤ many ∧ many ≤ 255)
    (hs : SlE w w.heap.size vs9 xs) (hl : SlE w w.heap.size vl l) (hz : Sl8 w w.heap.size vz zs) (hat : okE at') :
    Calls Tryd.prog 13 #[.int .u8 n, .agg #[.int .u8 kind, vs9, .int .u8 many], vl, vz, .agg #[.int .u64 at'.1, .int .u64 at'.2]] w fun e w' => e = .returned (.bool true) ∧ Below w.heap.size w w' := by
  obtain ⟨f, hf, hF⟩ := lawField n hn.1 hn.2
  obtain ⟨x0, x1⟩ := at'
  dsimp only
  have HF := Lib.hid hF
  have HAW := Lib.hid (fun wz => law09_Awake wz)
  have heq := eql_elem
  have hfb0 : (1 : Int) ≤ (f : Int) := by rcases hf.or with rfl | rfl <;> omega
  have hfb1 : (f : Int) ≤ 2 := by rcases hf.or with rfl | rfl <;> omega
  have hwF : IntKind.i64.wrap (f : Int) = (f : Int) := IntWalk.i64_in _ (by omega)
  have HOX := Lib.hid (fun wz => ref_OfL hf x0 x1 wz hat.1 hat.2.1 hat.2.2.1 hat.2.2.2)
  have HOF := Lib.hid (fun a0 a1 wz (h : okE (a0, a1)) => ref_OfL hf a0 a1 wz h.1 h.2.1 h.2.2.1 h.2.2.2)
  have HRA := Lib.hid (fun v (p : KL f) a wz h1 h2 => ref_At hf v p a wz h1 h2)
  have HS9 := Lib.hid hs
  have HLS := Lib.hid hl
  have HZS := Lib.hid hz
  have HTB := Lib.hid hT
  obtain ⟨A9, c9, rfl, _, _⟩ := hs.shape
  obtain ⟨A1, c1, rfl, hc1, hc2⟩ := hl.shape
  obtain ⟨⟨A2, c2, rfl, hd1, hd2, _⟩, _⟩ := hz
  obtain ⟨n9, hn9⟩ : ∃ z, xs.length = z := ⟨_, rfl⟩
  obtain ⟨m, hm⟩ : ∃ z, l.length = z := ⟨_, rfl⟩
  have HM := Lib.hid hm
  obtain ⟨mz, hmz⟩ : ∃ z, zs.length = z := ⟨_, rfl⟩
  have HMZ := Lib.hid hmz
  rw [hn9] at HS9
  rw [hm] at hc1 HLS
  rw [hmz] at hd1 HZS
  rw [hn9, hm, hmz]
  clear hm hmz hn9 hs hl hT hat hF
  go_enter Tryd.func13, Tryd.ntmps13
  go_upto_region 1 with fail
  have hv := (Vs.new w [.int .u8 kind, .slice A9 n9 c9, .int .u8 many] #[.int .u8 kind, .slice A9 n9 c9, .int .u8 many] 75 rfl).alloc (.cells #[.int .u64 x0, .int .u64 x1] 28)
  have q0 := V2.new (w.alloc (.cells #[.int .u8 kind, .slice A9 n9 c9, .int .u8 many] 75)) (.int .u64 x0) (.int .u64 x1) 28
  have hE0 := BlkE.new (w.alloc (.cells #[.int .u8 kind, .slice A9 n9 c9, .int .u8 many] 75)) [(x0, x1)] #[.int .u64 x0, .int .u64 x1] rfl
  simp only [World.size_alloc] at q0 hE0
  have hb00 : Below w.heap.size w ((w.alloc (.cells #[.int .u8 kind, .slice A9 n9 c9, .int .u8 many] 75)).alloc (.cells #[.int .u64 x0, .int .u64 x1] 28)) := by repeat (first | exact Below.refl _ _ | with_reducible assumption | (refine bl_alloc ?_ (Nat.le_refl _) _) | (refine bl_set ?_ (by dsimp only; omega) _) | (refine Below.drew ?_) | (refine bl_drewN ?_ _) | (refine bl_call ?_ (Nat.le_refl _) (by assumption)))
  generalize (w.alloc (.cells #[.int .u8 kind, .slice A9 n9 c9, .int .u8 many] 75)).alloc (.cells #[.int .u64 x0, .int .u64 x1] 28) = w1 at hv q0 hE0 hb00 ⊢
  go_wp2_with fail
  refine (HAW.out _).mono ?_
  rintro e w2 ⟨rfl, hb2⟩
  replace hb00 := bl_call hb00 (Nat.le_refl _) hb2
  replace hv := hv.call hb2
  replace q0 := q0.call hb2
  replace hE0 := hE0.call hb2
  clear hb2 HAW
  go_upto_region 4 with (first
    | (go_at_call 16; refine (HF.out _).mono ?_; rintro e wq ⟨rfl, rfl⟩))
  have HG := Lib.hid (law09_Gadget hf kind many hk0.1 hk0.2 hm0.1 hm0.2 _ xs w2 (HS9.out.later hb00))
  obtain ⟨v0, v1, v2, v3, v4, v5, v6⟩ := hv.get3
  go_wp2_with fail
  refine HG.out.mono ?_
  rintro e w4 ⟨g, k, sl, nn, rfl, hg, hb4⟩
  clear v0 v1 v2 v3 v4 v5 v6
  have hsl : ∃ (A : Option Addr) (a b : Nat), sl = .slice A a b := by
    cases g with
    | mul => exact ⟨_, _, _, hg.2.1⟩
    | par m => exact ⟨_, _, _, hg.2.1⟩
    | eval cs =>
      obtain ⟨A, c, h, _⟩ := hg.2.2.1
      exact ⟨_, _, _, h⟩
  obtain ⟨A3, l3, c3, rfl⟩ := hsl
  replace hb00 := bl_call hb00 (Nat.le_refl _) hb4
  replace q0 := q0.call hb4
  replace hE0 := hE0.call hb4
  clear hb4 hv HG HS9
  have hq0l := q0.lt
  go_upto_region 5 with fail
  have hbA : Below w4.heap.size w4 (w4.alloc (.cells #[.int .u8 k, .slice A3 l3 c3, .int .i64 nn] 68)) := (Below.refl _ _).alloc (Nat.le_refl _) _
  have hx := Vs.new w4 [.int .u8 k, .slice A3 l3 c3, .int .i64 nn] #[.int .u8 k, .slice A3 l3 c3, .int .i64 nn] 68 rfl
  replace hg := hg.later hbA
  replace q0 := q0.call hbA
  replace hE0 := hE0.call hbA
  replace hb00 := bl_call hb00 (Nat.le_refl _) hbA
  obtain ⟨gb, hgb⟩ : ∃ z, w4.heap.size = z := ⟨_, rfl⟩
  generalize w4.alloc (.cells #[.int .u8 k, .slice A3 l3 c3, .int .i64 nn] 68) = w5 at hx hg q0 hE0 hb00 ⊢
  rw [hgb] at hx hq0l
  simp only [hgb]
  clear hbA hgb
  obtain ⟨q00, q01, q02, q03, q04⟩ := V2.mk q0.c0 q0.c1 q0.f0 q0.f1 q0.lt
  go_wp2_with fail
  refine (HOX.out _).mono ?_
  rintro e w6 ⟨rfl, hb6⟩
  clear q00 q01 q02 q03 q04
  replace hb00 := bl_call hb00 (Nat.le_refl _) hb6
  replace q0 := q0.call hb6
  replace hE0 := hE0.call hb6
  replace hx := hx.call hb6
  replace hg := hg.later hb6
  clear hb6
  obtain ⟨x, hxk⟩ : ∃ x, kL f x0 x1 = x := ⟨_, rfl⟩
  rw [hxk]
  clear hxk
  obtain ⟨q00, q01, q02, q03, q04⟩ := V2.mk q0.c0 q0.c1 q0.f0 q0.f1 q0.lt
  go_upto_region 6 with fail
  clear q00 q01 q02 q03 q04
  obtain ⟨ab, hab⟩ : ∃ z, w.heap.size + 1 = z := ⟨_, rfl⟩
  have hwab : w.heap.size ≤ ab := by omega
  rw [hab] at q0 hq0l hE0
  simp only [hab]
  replace hx := (hx.far (p := ⟨ab, 0, none⟩) (by dsimp only; omega) (.int .u64 (lo x))).far (p := ⟨ab, 1, none⟩) (by dsimp only; omega) (.int .u64 (hi x))
  replace hb00 := bl_st hb00 hwab (.int .u64 (lo x)) (.int .u64 (hi x))
  have hgB : RepG ((w6.setCell ⟨ab, 0, none⟩ (.int .u64 (lo x))).setCell ⟨ab, 1, none⟩ (.int .u64 (hi x))) ((w6.setCell ⟨ab, 0, none⟩ (.int .u64 (lo x))).setCell ⟨ab, 1, none⟩ (.int .u64 (hi x))).heap.size k (.slice A3 l3 c3) nn g := by
    have hsz8 : ((w6.setCell ⟨ab, 0, none⟩ (.int .u64 (lo x))).setCell ⟨ab, 1, none⟩ (.int .u64 (hi x))).heap.size = w6.heap.size := size_st _ _
    rw [hsz8]
    cases g with
    | mul => exact hg
    | par m => exact hg
    | eval cs =>
      obtain ⟨h1, h2, ⟨A', c', h3, h4, h5, h6⟩, h7⟩ := hg
      refine ⟨h1, h2, ⟨A', c', h3, h4, h5, fun hl => ?_⟩, h7⟩
      obtain ⟨b, o, k1, k2, k3⟩ := h6 hl
      obtain ⟨mm, yy, r1, r2, _, r4, _⟩ := h7
      have hne : b ≠ ab := by
        rintro rfl
        obtain ⟨z, hz⟩ : ∃ z, cs[1]? = some z := ⟨_, List.getElem?_eq_getElem (by omega)⟩
        have h8 := (k3.kat hz).1
        rw [hE0.cell] at h8
        have h9 : (cellsE [((x0, x1) : E)]).length = 2 := rfl
        rw [List.getElem?_eq_none (by omega)] at h8
        cases h8
      refine ⟨b, o, k1, k2, fun i e hi => ?_⟩
      obtain ⟨e1, e2⟩ := k3 i e hi
      exact ⟨by rw [World.cell?_setCell_other _ _ _ _ (by intro h; exact hne (congrArg Addr.block h).symm), World.cell?_setCell_other _ _ _ _ (by intro h; exact hne (congrArg Addr.block h).symm)]; exact e1, by rw [World.cell?_setCell_other _ _ _ _ (by intro h; exact hne (congrArg Addr.block h).symm), World.cell?_setCell_other _ _ _ _ (by intro h; exact hne (congrArg Addr.block h).symm)]; exact e2⟩
  clear hg
  have hg := hgB
  clear hgB hE0
  replace q0 : V2 ((w6.setCell ⟨ab, 0, none⟩ (.int .u64 (lo x))).setCell ⟨ab, 1, none⟩ (.int .u64 (hi x))) ab (.int .u64 (lo x)) (.int .u64 (hi x)) := V2.set q0 _ _
  generalize (w6.setCell ⟨ab, 0, none⟩ (.int .u64 (lo x))).setCell ⟨ab, 1, none⟩ (.int .u64 (hi x)) = w7 at q0 hx hb00 hg ⊢
  obtain ⟨q, hq⟩ : ∃ q, g.arity = q := ⟨_, rfl⟩
  have hqb := Gad_arity_le hg
  rw [hq] at hqb
  obtain ⟨hq1, hq32⟩ := hqb
  have HAR : Hid (∀ wz, Below w7.heap.size w7 wz → Calls Tryd.prog 53 #[.agg #[.int .u8 k, .slice A3 l3 c3, .int .i64 nn]] wz fun e w' => e = .returned (.int .i64 (q : Int)) ∧ Below wz.heap.size wz w') := fun wz hb => by
    have h := gadget_Arity wz w7.heap.size g k _ nn (hg.below hb)
    rwa [hq] at h
  have HQ := Lib.hid hq
  clear hq
  obtain ⟨x0, x1, x2, x3, x4, x5, x6⟩ := hx.get3
  go_wp2_with fail
  refine (HAR.out _ (Below.refl _ _)).mono ?_
  rintro e w8 ⟨rfl, hb8⟩
  clear x0 x1 x2 x3 x4 x5 x6
  replace hb00 := bl_call hb00 (Nat.le_refl _) hb8
  replace q0 := q0.call hb8
  replace hx := hx.call hb8
  replace hg := hg.later hb8
  clear hb8 HAR
  have hbo : Below w8.heap.size w8 w8 := Below.refl _ _
  obtain ⟨wo, hwo⟩ : ∃ wo : World, wo = w8 := ⟨_, rfl⟩
  rw [← hwo] at hbo hx q0 hg hb00 ⊢
  have HX := Lib.hid hx
  have HA0 := Lib.hid q0
  have HGD := Lib.hid hg
  have HB0 := Lib.hid hb00
  have HTO : Hid (TabW wo) := HTB.out.call hb00
  clear hwo hx q0 hg hb00 HTB
  go_wp2_with fail
  go_loopw [14, 15, 16, 41] (fun pv vv lv iv wr => ∃ (i M : Nat) (vs : List Value) (ps : List (KL f)) (D E' : Option Addr) (dp ep : Nat), i ≤ q ∧ iv = .int .i64 i ∧ pv = .slice D i dp ∧ vv = .slice E' i ep ∧ lv = .int .i64 M ∧ M ≤ 8 ∧
      Hid (ps.length = i ∧ ∀ j, (ps.getD j []).length ≤ M) ∧ wr.ownsRow wo.heap.size 22 1 (.slice D i dp) i vs ∧ wr.ownsRow wo.heap.size 28 2 (.slice E' i ep) i (cellsE (esK (ps.map (ev x)))) ∧
      PsX (fun b => (Value.slice D i dp).ownBlock = some b ∨ (Value.slice E' i ep).ownBlock = some b) wr vs ps ∧ Below wo.heap.size wo wr) (fun _ _ _ iv _ => q - (intOf iv).toNat)
  case atStart => exact ⟨0, 0, [], [], none, none, 0, 0, Nat.zero_le _, rfl, rfl, rfl, rfl, Nat.zero_le _, ⟨rfl, fun j => by simp⟩, World.ownsRow_nil _ _ _ _, World.ownsRow_nil _ _ _ _, PsX.nil _ _, hbo⟩
  case round =>
    clear hbo
    obtain ⟨i, M, vs, ps, D, E', dp, ep, hiq, rfl, rfl, rfl, rfl, hM8, HP, hop, hov, hps, hbo⟩ := hrel
    by_cases hlt : i < q
    · have HS0 : Hid (∀ b, ((Value.slice D i dp).ownBlock = some b ∨ (Value.slice E' i ep).ownBlock = some b) → b < wr.heap.size) := fun b hb => hb.elim (fun h => (hop.lt b h).2) (fun h => (hov.lt b h).2)
      obtain ⟨wp, hwp⟩ : ∃ wp : World, wp = wr := ⟨_, rfl⟩
      rw [← hwp] at hop hov hps hbo HS0 ⊢
      clear hwp
      have HOP := Lib.hid hop
      have HOV := Lib.hid hov
      have HPS := Lib.hid hps
      have HBO := Lib.hid hbo
      clear hop hov hps
      by_cases hmz0 : mz = 0
      · have h0z : ¬ ((0 : Int) < (mz : Int)) := by omega
        clear hmz0
        have hbj : Below wp.heap.size wp wp := Below.refl _ _
        go_wp2_with fail
        skip
        go_loopw [19, 57] (fun pv kv wr => ∃ (kk : Nat) (P : KL f) (D3 : Option Addr) (cp : Nat), kk ≤ 3 ∧ kv = .int .i64 kk ∧ pv = .slice D3 kk cp ∧ Hid (P.length = kk) ∧ wr.ownsRow wp.heap.size 28 2 (.slice D3 kk cp) kk (cellsE (esK P)) ∧ Below wp.heap.size wp wr) (fun _ kv _ => 3 - (intOf kv).toNat)
        case atStart => exact ⟨0, [], none, 0, Nat.zero_le _, rfl, rfl, rfl, World.ownsRow_nil _ _ _ _, hbj⟩
        case round =>
          clear hbj
          obtain ⟨kk, P, D3, cp, hks, rfl, rfl, HPl, hown, hbi⟩ := hrel
          by_cases hlt2 : kk < 3
          · have hgl : ∀ g, (Value.slice D3 kk cp).ownBlock = some g → g < wr.heap.size := fun g hg => (hown.lt g hg).2
            have hcw : wp.heap.size ≤ wr.heap.size := hbi.size
            go_upto_region 20 with fail
            have cv0 := V2.new wr (.int .u64 0) (.int .u64 0) 28
            have hbA : Below wr.heap.size wr (wr.alloc (.cells #[.int .u64 0, .int .u64 0] 28)) := by repeat (first | exact Below.refl _ _ | with_reducible assumption | (refine bl_alloc ?_ (Nat.le_refl _) _))
            replace hbi := bl_call hbi (Nat.le_refl _) hbA
            replace hown := own_call hown hbA
            clear hbA
            generalize wr.alloc (.cells #[.int .u64 0, .int .u64 0] 28) = w5 at hbi hown cv0 ⊢
            obtain ⟨cb, hcb⟩ : ∃ z, wr.heap.size = z := ⟨_, rfl⟩
            rw [hcb] at cv0 hgl hcw
            simp only [hcb]
            clear hcb
            by_cases hm0 : m = 0
            · obtain ⟨y, hy0⟩ : ∃ y : Fin (Pm f), y = 0 := ⟨_, rfl⟩
              have cv : V2 w5 cb (.int .u64 (lo y)) (.int .u64 (hi y)) := by rw [hy0, lo_zero, hi_zero]; exact cv0
              have h0m : ¬ ((0 : Int) < (m : Int)) := by omega
              clear cv0 hy0 hm0
              obtain ⟨w6, hw6⟩ : ∃ w6 : World, w6 = w5 := ⟨_, rfl⟩
              rw [← hw6] at cv hbi hown ⊢
              clear hw6
              have hbA : Below w6.heap.size w6 (w6.alloc (.cells #[.int .u64 (lo y), .int .u64 (hi y)] 28)) := (Below.refl _ _).alloc (Nat.le_refl _) _
              have hE := BlkE.new w6 [eK y] #[.int .u64 (lo y), .int .u64 (hi y)] rfl
              have HOW := Lib.hid (own_call hown hbA)
              have HR1 := Lib.hid (show 0 < 1 → ∃ b o, (some ⟨w6.heap.size, 0, none⟩ : Option Addr) = some ⟨b, o, none⟩ ∧ RowE (w6.alloc (.cells #[.int .u64 (lo y), .int .u64 (hi y)] 28)) b o [eK y] from fun _ => ⟨_, _, rfl, hE.rowE⟩)
              have hk1 : kk + 1 ≤ 1099511627776 := by omega
              have hbase : wp.heap.size ≤ (w6.alloc (.cells #[.int .u64 (lo y), .int .u64 (hi y)] 28)).heap.size := by rw [World.size_alloc]; have := hbi.size; omega
              clear hown hE hbA
              obtain ⟨cv0, cv1, cv2, cv3, cv4⟩ := V2.mk cv.c0 cv.c1 cv.f0 cv.f1 cv.lt
              go_upto_region 23 with (at_builtin; (refine wpList_append_E rfl (.tmp 74) (.tmp 76) rfl wp.heap.size _ kk (esK P) rfl HOW.out (some ⟨w6.heap.size, 0, none⟩) 1 1 [eK y] rfl rfl HR1.out hk1 hbase ?_; intro v2 w2 hown2 hg2 hat2; have hb2 : Below wp.heap.size wp w2 := (hbi.trans ((Below.refl _ _).alloc hbi.size _)).trans ((Below.refl _ _).grown hg2 hbase (fun q hq => (HOW.out.lt q hq).1)); obtain ⟨g2, cap2, hv2⟩ := own_slice hown2; rw [hv2]))
              rw [hv2, show esK P ++ [eK y] = esK (P ++ [y]) by rw [esK_append]; rfl] at hown2
              clear cv0 cv1 cv2 cv3 cv4
              clear HOW HR1 hg2 hat2 hbase cv
              go_wp2_with fail
              go_roundw
              case rel => first | exact ⟨kk + 1, P ++ [y], _, cap2, by omega, by go_num, rfl, by show _ = _; rw [List.length_append, HPl.out]; rfl, hown2, hb2⟩ | exact ⟨.slice (some ⟨g2, 0, none⟩) (kk + 1) cap2, _, _, .int .i64 (((kk + 1 : Nat)) : Int), ⟨kk + 1, by omega, rfl, P ++ [y], some ⟨g2, 0, none⟩, cap2, rfl, (by show _ = _; rw [List.length_append, HPl.out]; rfl), hown2⟩, rfl, rfl, rfl, by rw [show ((kk + 1 : Nat) : Int) = (kk : Int) + 1 by omega]⟩
              case measure => simp [intOf]; omega
            · have h0m : (0 : Int) < (m : Int) := by omega
              obtain ⟨jq, hjq1, hjqm⟩ : ∃ jq : Nat, jq < m ∧ ((i : Int) + (kk : Int)).tmod (m : Int) = (jq : Int) := by
                have h1 := Int.emod_nonneg ((i : Int) + (kk : Int)) (show (m : Int) ≠ 0 by omega)
                have h2 := Int.emod_lt_of_pos ((i : Int) + (kk : Int)) (show (0 : Int) < (m : Int) by omega)
                exact ⟨(((i : Int) + (kk : Int)) % m).toNat, by omega, by rw [Int.tmod_eq_emod_of_nonneg (by omega)]; omega⟩
              have hjqe : ((i : Int) + (kk : Int)) % (m : Int) = (jq : Int) := by rw [← hjqm, Int.tmod_eq_emod_of_nonneg (by omega)]
              have hwik : IntKind.i64.wrap ((i : Int) + (kk : Int)) = (i : Int) + (kk : Int) := IntWalk.i64_in _ (by omega)
              have g1 : (0 : Int) ≤ (jq : Int) := by omega
              have g2 : (jq : Int) < (m : Int) := by omega
              obtain ⟨⟨e0, e1⟩, he⟩ : ∃ e, l[jq]? = some e := ⟨_, List.getElem?_eq_getElem (by rw [HM.out]; exact hjq1)⟩
              have HE : Hid (okE (e0, e1)) := HLS.out.ok _ (List.mem_of_getElem? he)
              obtain ⟨b1, o1, hAe, hbw1, hrow1⟩ := HLS.out.rowOf (by rw [HM.out]; omega)
              have hall : Below w.heap.size w w5 := HB0.out.trans ((HBO.out.trans (hbi.mono HBO.out.size)).mono HB0.out.size)
              have hrb := (hrow1.below hall hbw1) jq _ he
              dsimp only at hrb
              obtain ⟨d0, d1⟩ := hrb
              have hbl : b1 < w5.heap.size := Nat.lt_of_lt_of_le hbw1 hall.size
              subst hAe
              clear he hrow1 hall
              go_upto_region 21 with fail
              go_wp2_with fail
              refine (HOF.out e0 e1 _ HE.out).mono ?_
              rintro e w6 ⟨rfl, hb6⟩
              clear d0 d1 hbl
              replace hbi := bl_call hbi (Nat.le_refl _) hb6
              replace hown := own_call hown hb6
              replace cv0 := cv0.call hb6
              clear hb6
              obtain ⟨y, hy⟩ : ∃ y, kL f e0 e1 = y := ⟨_, rfl⟩
              rw [hy]
              clear hy
              obtain ⟨cv00, cv01, cv02, cv03, cv04⟩ := V2.mk cv0.c0 cv0.c1 cv0.f0 cv0.f1 cv0.lt
              go_upto_region 22 with fail
              clear cv00 cv01 cv02 cv03 cv04
              have hown9 := own_other hown (Exc.one (S' := fun q => q = cb) w6 rfl (.int .u64 (lo y)) (.int .u64 (hi y))) (fun g hg hs => by
                have hs2 : g = cb := hs
                have := hgl g hg
                omega)
              replace hbi := bl_st hbi hcw (.int .u64 (lo y)) (.int .u64 (hi y))
              have cv := V2.set cv0 (.int .u64 (lo y)) (.int .u64 (hi y))
              generalize (w6.setCell ⟨cb, 0, none⟩ (.int .u64 (lo y))).setCell ⟨cb, 1, none⟩ (.int .u64 (hi y)) = w9 at hown9 hbi cv ⊢
              clear hown cv0
              have hown := hown9
              clear hown9
              obtain ⟨w6, hw6⟩ : ∃ w6 : World, w6 = w9 := ⟨_, rfl⟩
              rw [← hw6] at cv hbi hown ⊢
              clear hw6
              have hbA : Below w6.heap.size w6 (w6.alloc (.cells #[.int .u64 (lo y), .int .u64 (hi y)] 28)) := (Below.refl _ _).alloc (Nat.le_refl _) _
              have hE := BlkE.new w6 [eK y] #[.int .u64 (lo y), .int .u64 (hi y)] rfl
              have HOW := Lib.hid (own_call hown hbA)
              have HR1 := Lib.hid (show 0 < 1 → ∃ b o, (some ⟨w6.heap.size, 0, none⟩ : Option Addr) = some ⟨b, o, none⟩ ∧ RowE (w6.alloc (.cells #[.int .u64 (lo y), .int .u64 (hi y)] 28)) b o [eK y] from fun _ => ⟨_, _, rfl, hE.rowE⟩)
              have hk1 : kk + 1 ≤ 1099511627776 := by omega
              have hbase : wp.heap.size ≤ (w6.alloc (.cells #[.int .u64 (lo y), .int .u64 (hi y)] 28)).heap.size := by rw [World.size_alloc]; have := hbi.size; omega
              clear hown hE hbA
              obtain ⟨cv0, cv1, cv2, cv3, cv4⟩ := V2.mk cv.c0 cv.c1 cv.f0 cv.f1 cv.lt
              go_upto_region 23 with (at_builtin; (refine wpList_append_E rfl (.tmp 74) (.tmp 76) rfl wp.heap.size _ kk (esK P) rfl HOW.out (some ⟨w6.heap.size, 0, none⟩) 1 1 [eK y] rfl rfl HR1.out hk1 hbase ?_; intro v2 w2 hown2 hg2 hat2; have hb2 : Below wp.heap.size wp w2 := (hbi.trans ((Below.refl _ _).alloc hbi.size _)).trans ((Below.refl _ _).grown hg2 hbase (fun q hq => (HOW.out.lt q hq).1)); obtain ⟨g2, cap2, hv2⟩ := own_slice hown2; rw [hv2]))
              rw [hv2, show esK P ++ [eK y] = esK (P ++ [y]) by rw [esK_append]; rfl] at hown2
              clear cv0 cv1 cv2 cv3 cv4
              clear HOW HR1 hg2 hat2 hbase cv
              go_wp2_with fail
              go_roundw
              case rel => first | exact ⟨kk + 1, P ++ [y], _, cap2, by omega, by go_num, rfl, by show _ = _; rw [List.length_append, HPl.out]; rfl, hown2, hb2⟩ | exact ⟨.slice (some ⟨g2, 0, none⟩) (kk + 1) cap2, _, _, .int .i64 (((kk + 1 : Nat)) : Int), ⟨kk + 1, by omega, rfl, P ++ [y], some ⟨g2, 0, none⟩, cap2, rfl, (by show _ = _; rw [List.length_append, HPl.out]; rfl), hown2⟩, rfl, rfl, rfl, by rw [show ((kk + 1 : Nat) : Int) = (kk : Int) + 1 by omega]⟩
              case measure => simp [intOf]; omega
          · obtain rfl : kk = 3 := by omega
            have hop := own_call HOP.out hbi
            have hov := own_call HOV.out hbi
            have hps := HPS.out.call hbi
            have hsp : SlX (fun b => (Value.slice D i dp).ownBlock = some b ∨ (Value.slice E' i ep).ownBlock = some b) wr (.slice D3 3 cp) P := own_slX HPl.out hown (fun b hb => HS0.out b hb)
            have hbo := HBO.out.trans (hbi.mono HBO.out.size)
            have hbA : Below wr.heap.size wr (wr.alloc (.cells #[.slice D3 3 cp] 22)) := (Below.refl _ _).alloc (Nat.le_refl _) _
            have hcl := (Vs.new wr [.slice D3 3 cp] #[.slice D3 3 cp] 22 rfl).get1.1
            have HOW := Lib.hid (own_call hop hbA)
            have hov1 := own_call hov hbA
            have HPS1 := Lib.hid ((hps.call hbA).snoc (hsp.call hbA))
            have hspA := hsp.call hbA
            have hk1 : i + 1 ≤ 1000000 := by omega
            have hbase : wo.heap.size ≤ (wr.alloc (.cells #[.slice D3 3 cp] 22)).heap.size := by rw [World.size_alloc]; have := hbo.size; omega
            clear hop hov hps hsp hown
            go_upto_region 25 with (at_builtin; (refine wpList_append_S rfl (.tmp 79) (.tmp 81) rfl wo.heap.size _ i vs rfl HOW.out wr.heap.size 1 (.slice D3 3 cp) rfl ⟨_, _, _, rfl⟩ hcl hk1 hbase ?_; intro v2 w2 hown2 hg2 hat2; obtain ⟨g2, cap2, hv2⟩ := own_slice hown2; rw [hv2]))
            have hb2 : Below wo.heap.size wo w2 := (hbo.trans ((Below.refl _ _).alloc hbo.size _)).trans ((Below.refl _ _).grown hg2 hbase (fun q hq => (HOW.out.lt q hq).1))
            have hps2 := HPS1.out.grown hg2 hat2
            have hov2 := own_other hov1 (grown_exc hg2) (fun g hg hs => own_ne (by decide) HOW.out hov1 hs hg)
            have hsp2 := hspA.exc ((grown_exc hg2).less fun k _ hk => .inl hk)
            rw [hv2] at hown2 hps2
            clear HOW HPS1 hg2 hat2 hbase hcl hbA hov1 hspA hv2 hbo
            have hbo := hb2
            clear hb2
            obtain ⟨z, hz⟩ : ∃ z, ev x P = z := ⟨_, rfl⟩
            have HAT : Hid (∀ wz, SlK wz wz.heap.size (.slice D3 3 cp) P → Calls Tryd.prog 25 #[.int .i64 f, .slice D3 3 cp, vK x] wz (RetK z wz)) := fun wz h => by
              have h2 := HRA.out _ P x wz h (by rw [HPl.out]; omega)
              rwa [horner_ev, hz] at h2
            have HZ := Lib.hid hz
            clear hz
            have q0 := HA0.out.call hbo
            obtain ⟨q00, q01, q02, q03, q04⟩ := V2.mk q0.c0 q0.c1 q0.f0 q0.f1 q0.lt
            go_wp2_with fail
            refine (HAT.out _ hsp2.toK).mono ?_
            rintro e w3 ⟨rfl, hb3⟩
            clear q00 q01 q02 q03 q04
            replace hbo := bl_call hbo (Nat.le_refl _) hb3
            replace hown2 := own_call hown2 hb3
            replace hov2 := own_call hov2 hb3
            replace hps2 := hps2.call hb3
            clear hb3 q0 hsp2 HAT
            have hbA : Below w3.heap.size w3 (w3.alloc (.cells #[.int .u64 (lo z), .int .u64 (hi z)] 28)) := (Below.refl _ _).alloc (Nat.le_refl _) _
            have hE := BlkE.new w3 [eK z] #[.int .u64 (lo z), .int .u64 (hi z)] rfl
            have HOW := Lib.hid (own_call hov2 hbA)
            have hop3 := own_call hown2 hbA
            have hps3 := hps2.call hbA
            have HR1 := Lib.hid (show 0 < 1 → ∃ b o, (some ⟨w3.heap.size, 0, none⟩ : Option Addr) = some ⟨b, o, none⟩ ∧ RowE (w3.alloc (.cells #[.int .u64 (lo z), .int .u64 (hi z)] 28)) b o [eK z] from fun _ => ⟨_, _, rfl, hE.rowE⟩)
            have hk2 : i + 1 ≤ 1099511627776 := by omega
            have hbase : wo.heap.size ≤ (w3.alloc (.cells #[.int .u64 (lo z), .int .u64 (hi z)] 28)).heap.size := by rw [World.size_alloc]; have := hbo.size; omega
            clear hov2 hown2 hps2 hE
            obtain ⟨M2, hM2⟩ : ∃ M2, max M 3 = M2 := ⟨_, rfl⟩
            have hMi : max (M : Int) (3 : Int) = (M2 : Int) := by omega
            have HM2 := Lib.hid hM2
            have hM28 : M2 ≤ 8 := by omega
            clear hM2
            go_upto_region 26 with (at_builtin; (refine wpList_append_E rfl (.tmp 83) (.tmp 88) rfl wo.heap.size _ i (esK (ps.map (ev x))) rfl HOW.out (some ⟨w3.heap.size, 0, none⟩) 1 1 [eK z] rfl rfl HR1.out hk2 hbase ?_; intro v5 w5 hown5 hg5 hat5; obtain ⟨g5, cap5, hv5⟩ := own_slice hown5; rw [hv5]))
            have hb5 : Below wo.heap.size wo w5 := (hbo.trans ((Below.refl _ _).alloc hbo.size _)).trans ((Below.refl _ _).grown hg5 hbase (fun q hq => (HOW.out.lt q hq).1))
            have hop5 := own_other hop3 (grown_exc hg5) (fun g hg hs => own_ne (by decide) HOW.out hop3 hs hg)
            have hps4 := (hps3.set (T := fun b => (Value.slice E' i ep).ownBlock = some b ∨ (Value.slice (some ⟨g2, 0, none⟩) (i + 1) cap2).ownBlock = some b) (fun b hb => .inl hb.symm)).grown hg5 hat5
            have hps5 := hps4.set (T := fun b => (Value.slice (some ⟨g2, 0, none⟩) (i + 1) cap2).ownBlock = some b ∨ v5.ownBlock = some b) (fun b hb => .inl hb.symm)
            rw [hv5, show esK (ps.map (ev x)) ++ [eK z] = esK ((ps ++ [P]).map (ev x)) by rw [List.map_append, esK_append, ← HZ.out]; rfl] at hown5
            rw [hv5] at hps5
            clear HOW HR1 hg5 hat5 hbase hbA hop3 hps3 hps4 hbo hv5
            go_wp2_with fail
            go_roundw
            case rel => exact ⟨i + 1, M2, vs ++ [.slice D3 3 cp], ps ++ [P], _, _, cap2, cap5, by omega, by go_num, rfl, rfl, rfl, hM28, ⟨by rw [List.length_append, HP.out.1]; rfl, fun j => by
              have h := snoc_getD (p := P) HP.out.2 j
              rwa [HPl.out, HM2.out] at h⟩, hop5, hown5, hps5, hb5⟩
            case measure => simp [intOf]; omega
      · have h0z : (0 : Int) < (mz : Int) := by omega
        obtain ⟨jz, hjz1, hjzm⟩ : ∃ jz : Nat, jz < mz ∧ (i : Int).tmod (mz : Int) = (jz : Int) := by
          have h1 := Int.emod_nonneg (i : Int) (show (mz : Int) ≠ 0 by omega)
          have h2 := Int.emod_lt_of_pos (i : Int) (show (0 : Int) < (mz : Int) by omega)
          exact ⟨((i : Int) % mz).toNat, by omega, by rw [Int.tmod_eq_emod_of_nonneg (by omega)]; omega⟩
        have hjze : (i : Int) % (mz : Int) = (jz : Int) := by rw [← hjzm, Int.tmod_eq_emod_of_nonneg (by omega)]
        have gz1 : (0 : Int) ≤ (jz : Int) := by omega
        have gz2 : (jz : Int) < (mz : Int) := by omega
        obtain ⟨bz, hbz⟩ : ∃ e, zs[jz]? = some e := ⟨_, List.getElem?_eq_getElem (by rw [HMZ.out]; exact hjz1)⟩
        obtain ⟨hbz0, hbz1⟩ := HZS.out.ok _ (List.mem_of_getElem? hbz)
        have hzr : ∃ b o, A2 = some ⟨b, o, none⟩ ∧ b < w.heap.size ∧ Row8 w b o zs := by
          obtain ⟨A', c', e, _, _, h3⟩ := HZS.out.ex
          injection e with e1 _ _
          subst e1
          exact h3 (by rw [HMZ.out]; omega)
        obtain ⟨b2, o2, hAe2, hbw2, hrow2⟩ := hzr
        have hall : Below w.heap.size w wp := HB0.out.trans (HBO.out.mono HB0.out.size)
        have dz := (hrow2.below hall hbw2) jz _ hbz
        have hbl2 : b2 < wp.heap.size := Nat.lt_of_lt_of_le hbw2 hall.size
        obtain ⟨sz, hsz8, hszm⟩ : ∃ sz : Nat, sz ≤ 8 ∧ bz.tmod 9 = (sz : Int) := ⟨(bz % 9).toNat, by omega, by rw [Int.tmod_eq_emod_of_nonneg hbz0]; omega⟩
        have hsze : bz % 9 = (sz : Int) := by rw [← hszm, Int.tmod_eq_emod_of_nonneg hbz0]
        subst hAe2
        clear hbz hrow2 hall
        have hbj : Below wp.heap.size wp wp := Below.refl _ _
        go_wp2_with fail
        (try simp only [hjzm, hjze, hszm, hsze]); clear hjzm hjze hszm hsze dz; (try simp only [show decide (0 < mz) = true from decide_eq_true (by omega)]); (try simp only [show decide ((0 : Int) < (mz : Int)) = true from decide_eq_true (by omega)])
        go_loopw [19, 57] (fun pv kv wr => ∃ (kk : Nat) (P : KL f) (D3 : Option Addr) (cp : Nat), kk ≤ sz ∧ kv = .int .i64 kk ∧ pv = .slice D3 kk cp ∧ Hid (P.length = kk) ∧ wr.ownsRow wp.heap.size 28 2 (.slice D3 kk cp) kk (cellsE (esK P)) ∧ Below wp.heap.size wp wr) (fun _ kv _ => sz - (intOf kv).toNat)
        case atStart => exact ⟨0, [], none, 0, Nat.zero_le _, rfl, rfl, rfl, World.ownsRow_nil _ _ _ _, hbj⟩
        case round =>
          clear hbj
          obtain ⟨kk, P, D3, cp, hks, rfl, rfl, HPl, hown, hbi⟩ := hrel
          by_cases hlt2 : kk < sz
          · have hgl : ∀ g, (Value.slice D3 kk cp).ownBlock = some g → g < wr.heap.size := fun g hg => (hown.lt g hg).2
            have hcw : wp.heap.size ≤ wr.heap.size := hbi.size
            go_upto_region 20 with fail
            have cv0 := V2.new wr (.int .u64 0) (.int .u64 0) 28
            have hbA : Below wr.heap.size wr (wr.alloc (.cells #[.int .u64 0, .int .u64 0] 28)) := by repeat (first | exact Below.refl _ _ | with_reducible assumption | (refine bl_alloc ?_ (Nat.le_refl _) _))
            replace hbi := bl_call hbi (Nat.le_refl _) hbA
            replace hown := own_call hown hbA
            clear hbA
            generalize wr.alloc (.cells #[.int .u64 0, .int .u64 0] 28) = w5 at hbi hown cv0 ⊢
            obtain ⟨cb, hcb⟩ : ∃ z, wr.heap.size = z := ⟨_, rfl⟩
            rw [hcb] at cv0 hgl hcw
            simp only [hcb]
            clear hcb
            by_cases hm0 : m = 0
            · obtain ⟨y, hy0⟩ : ∃ y : Fin (Pm f), y = 0 := ⟨_, rfl⟩
              have cv : V2 w5 cb (.int .u64 (lo y)) (.int .u64 (hi y)) := by rw [hy0, lo_zero, hi_zero]; exact cv0
              have h0m : ¬ ((0 : Int) < (m : Int)) := by omega
              clear cv0 hy0 hm0
              obtain ⟨w6, hw6⟩ : ∃ w6 : World, w6 = w5 := ⟨_, rfl⟩
              rw [← hw6] at cv hbi hown ⊢
              clear hw6
              have hbA : Below w6.heap.size w6 (w6.alloc (.cells #[.int .u64 (lo y), .int .u64 (hi y)] 28)) := (Below.refl _ _).alloc (Nat.le_refl _) _
              have hE := BlkE.new w6 [eK y] #[.int .u64 (lo y), .int .u64 (hi y)] rfl
              have HOW := Lib.hid (own_call hown hbA)
              have HR1 := Lib.hid (show 0 < 1 → ∃ b o, (some ⟨w6.heap.size, 0, none⟩ : Option Addr) = some ⟨b, o, none⟩ ∧ RowE (w6.alloc (.cells #[.int .u64 (lo y), .int .u64 (hi y)] 28)) b o [eK y] from fun _ => ⟨_, _, rfl, hE.rowE⟩)
              have hk1 : kk + 1 ≤ 1099511627776 := by omega
              have hbase : wp.heap.size ≤ (w6.alloc (.cells #[.int .u64 (lo y), .int .u64 (hi y)] 28)).heap.size := by rw [World.size_alloc]; have := hbi.size; omega
              clear hown hE hbA
              obtain ⟨cv0, cv1, cv2, cv3, cv4⟩ := V2.mk cv.c0 cv.c1 cv.f0 cv.f1 cv.lt
              go_upto_region 23 with (at_builtin; (refine wpList_append_E rfl (.tmp 74) (.tmp 76) rfl wp.heap.size _ kk (esK P) rfl HOW.out (some ⟨w6.heap.size, 0, none⟩) 1 1 [eK y] rfl rfl HR1.out hk1 hbase ?_; intro v2 w2 hown2 hg2 hat2; have hb2 : Below wp.heap.size wp w2 := (hbi.trans ((Below.refl _ _).alloc hbi.size _)).trans ((Below.refl _ _).grown hg2 hbase (fun q hq => (HOW.out.lt q hq).1)); obtain ⟨g2, cap2, hv2⟩ := own_slice hown2; rw [hv2]))
              rw [hv2, show esK P ++ [eK y] = esK (P ++ [y]) by rw [esK_append]; rfl] at hown2
              clear cv0 cv1 cv2 cv3 cv4
              clear HOW HR1 hg2 hat2 hbase cv
              go_wp2_with fail
              go_roundw
              case rel => first | exact ⟨kk + 1, P ++ [y], _, cap2, by omega, by go_num, rfl, by show _ = _; rw [List.length_append, HPl.out]; rfl, hown2, hb2⟩ | exact ⟨.slice (some ⟨g2, 0, none⟩) (kk + 1) cap2, _, _, .int .i64 (((kk + 1 : Nat)) : Int), ⟨kk + 1, by omega, rfl, P ++ [y], some ⟨g2, 0, none⟩, cap2, rfl, (by show _ = _; rw [List.length_append, HPl.out]; rfl), hown2⟩, rfl, rfl, rfl, by rw [show ((kk + 1 : Nat) : Int) = (kk : Int) + 1 by omega]⟩
              case measure => simp [intOf]; omega
            · have h0m : (0 : Int) < (m : Int) := by omega
              obtain ⟨jq, hjq1, hjqm⟩ : ∃ jq : Nat, jq < m ∧ ((i : Int) + (kk : Int)).tmod (m : Int) = (jq : Int) := by
                have h1 := Int.emod_nonneg ((i : Int) + (kk : Int)) (show (m : Int) ≠ 0 by omega)
                have h2 := Int.emod_lt_of_pos ((i : Int) + (kk : Int)) (show (0 : Int) < (m : Int) by omega)
                exact ⟨(((i : Int) + (kk : Int)) % m).toNat, by omega, by rw [Int.tmod_eq_emod_of_nonneg (by omega)]; omega⟩
              have hjqe : ((i : Int) + (kk : Int)) % (m : Int) = (jq : Int) := by rw [← hjqm, Int.tmod_eq_emod_of_nonneg (by omega)]
              have hwik : IntKind.i64.wrap ((i : Int) + (kk : Int)) = (i : Int) + (kk : Int) := IntWalk.i64_in _ (by omega)
              have g1 : (0 : Int) ≤ (jq : Int) := by omega
              have g2 : (jq : Int) < (m : Int) := by omega
              obtain ⟨⟨e0, e1⟩, he⟩ : ∃ e, l[jq]? = some e := ⟨_, List.getElem?_eq_getElem (by rw [HM.out]; exact hjq1)⟩
              have HE : Hid (okE (e0, e1)) := HLS.out.ok _ (List.mem_of_getElem? he)
              obtain ⟨b1, o1, hAe, hbw1, hrow1⟩ := HLS.out.rowOf (by rw [HM.out]; omega)
              have hall : Below w.heap.size w w5 := HB0.out.trans ((HBO.out.trans (hbi.mono HBO.out.size)).mono HB0.out.size)
              have hrb := (hrow1.below hall hbw1) jq _ he
              dsimp only at hrb
              obtain ⟨d0, d1⟩ := hrb
              have hbl : b1 < w5.heap.size := Nat.lt_of_lt_of_le hbw1 hall.size
              subst hAe
              clear he hrow1 hall
              go_upto_region 21 with fail
              go_wp2_with fail
              refine (HOF.out e0 e1 _ HE.out).mono ?_
              rintro e w6 ⟨rfl, hb6⟩
              clear d0 d1 hbl
              replace hbi := bl_call hbi (Nat.le_refl _) hb6
              replace hown := own_call hown hb6
              replace cv0 := cv0.call hb6
              clear hb6
              obtain ⟨y, hy⟩ : ∃ y, kL f e0 e1 = y := ⟨_, rfl⟩
              rw [hy]
              clear hy
              obtain ⟨cv00, cv01, cv02, cv03, cv04⟩ := V2.mk cv0.c0 cv0.c1 cv0.f0 cv0.f1 cv0.lt
              go_upto_region 22 with fail
              clear cv00 cv01 cv02 cv03 cv04
              have hown9 := own_other hown (Exc.one (S' := fun q => q = cb) w6 rfl (.int .u64 (lo y)) (.int .u64 (hi y))) (fun g hg hs => by
                have hs2 : g = cb := hs
                have := hgl g hg
                omega)
              replace hbi := bl_st hbi hcw (.int .u64 (lo y)) (.int .u64 (hi y))
              have cv := V2.set cv0 (.int .u64 (lo y)) (.int .u64 (hi y))
              generalize (w6.setCell ⟨cb, 0, none⟩ (.int .u64 (lo y))).setCell ⟨cb, 1, none⟩ (.int .u64 (hi y)) = w9 at hown9 hbi cv ⊢
              clear hown cv0
              have hown := hown9
              clear hown9
              obtain ⟨w6, hw6⟩ : ∃ w6 : World, w6 = w9 := ⟨_, rfl⟩
              rw [← hw6] at cv hbi hown ⊢
              clear hw6
              have hbA : Below w6.heap.size w6 (w6.alloc (.cells #[.int .u64 (lo y), .int .u64 (hi y)] 28)) := (Below.refl _ _).alloc (Nat.le_refl _) _
              have hE := BlkE.new w6 [eK y] #[.int .u64 (lo y), .int .u64 (hi y)] rfl
              have HOW := Lib.hid (own_call hown hbA)
              have HR1 := Lib.hid (show 0 < 1 → ∃ b o, (some ⟨w6.heap.size, 0, none⟩ : Option Addr) = some ⟨b, o, none⟩ ∧ RowE (w6.alloc (.cells #[.int .u64 (lo y), .int .u64 (hi y)] 28)) b o [eK y] from fun _ => ⟨_, _, rfl, hE.rowE⟩)
              have hk1 : kk + 1 ≤ 1099511627776 := by omega
              have hbase : wp.heap.size ≤ (w6.alloc (.cells #[.int .u64 (lo y), .int .u64 (hi y)] 28)).heap.size := by rw [World.size_alloc]; have := hbi.size; omega
              clear hown hE hbA
              obtain ⟨cv0, cv1, cv2, cv3, cv4⟩ := V2.mk cv.c0 cv.c1 cv.f0 cv.f1 cv.lt
              go_upto_region 23 with (at_builtin; (refine wpList_append_E rfl (.tmp 74) (.tmp 76) rfl wp.heap.size _ kk (esK P) rfl HOW.out (some ⟨w6.heap.size, 0, none⟩) 1 1 [eK y] rfl rfl HR1.out hk1 hbase ?_; intro v2 w2 hown2 hg2 hat2; have hb2 : Below wp.heap.size wp w2 := (hbi.trans ((Below.refl _ _).alloc hbi.size _)).trans ((Below.refl _ _).grown hg2 hbase (fun q hq => (HOW.out.lt q hq).1)); obtain ⟨g2, cap2, hv2⟩ := own_slice hown2; rw [hv2]))
              rw [hv2, show esK P ++ [eK y] = esK (P ++ [y]) by rw [esK_append]; rfl] at hown2
              clear cv0 cv1 cv2 cv3 cv4
              clear HOW HR1 hg2 hat2 hbase cv
              go_wp2_with fail
              go_roundw
              case rel => first | exact ⟨kk + 1, P ++ [y], _, cap2, by omega, by go_num, rfl, by show _ = _; rw [List.length_append, HPl.out]; rfl, hown2, hb2⟩ | exact ⟨.slice (some ⟨g2, 0, none⟩) (kk + 1) cap2, _, _, .int .i64 (((kk + 1 : Nat)) : Int), ⟨kk + 1, by omega, rfl, P ++ [y], some ⟨g2, 0, none⟩, cap2, rfl, (by show _ = _; rw [List.length_append, HPl.out]; rfl), hown2⟩, rfl, rfl, rfl, by rw [show ((kk + 1 : Nat) : Int) = (kk : Int) + 1 by omega]⟩
              case measure => simp [intOf]; omega
          · obtain rfl : kk = sz := by omega
            have hop := own_call HOP.out hbi
            have hov := own_call HOV.out hbi
            have hps := HPS.out.call hbi
            have hsp : SlX (fun b => (Value.slice D i dp).ownBlock = some b ∨ (Value.slice E' i ep).ownBlock = some b) wr (.slice D3 kk cp) P := own_slX HPl.out hown (fun b hb => HS0.out b hb)
            have hbo := HBO.out.trans (hbi.mono HBO.out.size)
            have hbA : Below wr.heap.size wr (wr.alloc (.cells #[.slice D3 kk cp] 22)) := (Below.refl _ _).alloc (Nat.le_refl _) _
            have hcl := (Vs.new wr [.slice D3 kk cp] #[.slice D3 kk cp] 22 rfl).get1.1
            have HOW := Lib.hid (own_call hop hbA)
            have hov1 := own_call hov hbA
            have HPS1 := Lib.hid ((hps.call hbA).snoc (hsp.call hbA))
            have hspA := hsp.call hbA
            have hk1 : i + 1 ≤ 1000000 := by omega
            have hbase : wo.heap.size ≤ (wr.alloc (.cells #[.slice D3 kk cp] 22)).heap.size := by rw [World.size_alloc]; have := hbo.size; omega
            clear hop hov hps hsp hown
            go_upto_region 25 with (at_builtin; (refine wpList_append_S rfl (.tmp 79) (.tmp 81) rfl wo.heap.size _ i vs rfl HOW.out wr.heap.size 1 (.slice D3 kk cp) rfl ⟨_, _, _, rfl⟩ hcl hk1 hbase ?_; intro v2 w2 hown2 hg2 hat2; obtain ⟨g2, cap2, hv2⟩ := own_slice hown2; rw [hv2]))
            have hb2 : Below wo.heap.size wo w2 := (hbo.trans ((Below.refl _ _).alloc hbo.size _)).trans ((Below.refl _ _).grown hg2 hbase (fun q hq => (HOW.out.lt q hq).1))
            have hps2 := HPS1.out.grown hg2 hat2
            have hov2 := own_other hov1 (grown_exc hg2) (fun g hg hs => own_ne (by decide) HOW.out hov1 hs hg)
            have hsp2 := hspA.exc ((grown_exc hg2).less fun k _ hk => .inl hk)
            rw [hv2] at hown2 hps2
            clear HOW HPS1 hg2 hat2 hbase hcl hbA hov1 hspA hv2 hbo
            have hbo := hb2
            clear hb2
            obtain ⟨z, hz⟩ : ∃ z, ev x P = z := ⟨_, rfl⟩
            have HAT : Hid (∀ wz, SlK wz wz.heap.size (.slice D3 kk cp) P → Calls Tryd.prog 25 #[.int .i64 f, .slice D3 kk cp, vK x] wz (RetK z wz)) := fun wz h => by
              have h2 := HRA.out _ P x wz h (by rw [HPl.out]; omega)
              rwa [horner_ev, hz] at h2
            have HZ := Lib.hid hz
            clear hz
            have q0 := HA0.out.call hbo
            obtain ⟨q00, q01, q02, q03, q04⟩ := V2.mk q0.c0 q0.c1 q0.f0 q0.f1 q0.lt
            go_wp2_with fail
            refine (HAT.out _ hsp2.toK).mono ?_
            rintro e w3 ⟨rfl, hb3⟩
            clear q00 q01 q02 q03 q04
            replace hbo := bl_call hbo (Nat.le_refl _) hb3
            replace hown2 := own_call hown2 hb3
            replace hov2 := own_call hov2 hb3
            replace hps2 := hps2.call hb3
            clear hb3 q0 hsp2 HAT
            have hbA : Below w3.heap.size w3 (w3.alloc (.cells #[.int .u64 (lo z), .int .u64 (hi z)] 28)) := (Below.refl _ _).alloc (Nat.le_refl _) _
            have hE := BlkE.new w3 [eK z] #[.int .u64 (lo z), .int .u64 (hi z)] rfl
            have HOW := Lib.hid (own_call hov2 hbA)
            have hop3 := own_call hown2 hbA
            have hps3 := hps2.call hbA
            have HR1 := Lib.hid (show 0 < 1 → ∃ b o, (some ⟨w3.heap.size, 0, none⟩ : Option Addr) = some ⟨b, o, none⟩ ∧ RowE (w3.alloc (.cells #[.int .u64 (lo z), .int .u64 (hi z)] 28)) b o [eK z] from fun _ => ⟨_, _, rfl, hE.rowE⟩)
            have hk2 : i + 1 ≤ 1099511627776 := by omega
            have hbase : wo.heap.size ≤ (w3.alloc (.cells #[.int .u64 (lo z), .int .u64 (hi z)] 28)).heap.size := by rw [World.size_alloc]; have := hbo.size; omega
            clear hov2 hown2 hps2 hE
            obtain ⟨M2, hM2⟩ : ∃ M2, max M kk = M2 := ⟨_, rfl⟩
            have hMi : max (M : Int) (kk : Int) = (M2 : Int) := by omega
            have HM2 := Lib.hid hM2
            have hM28 : M2 ≤ 8 := by omega
            clear hM2
            go_upto_region 26 with (at_builtin; (refine wpList_append_E rfl (.tmp 83) (.tmp 88) rfl wo.heap.size _ i (esK (ps.map (ev x))) rfl HOW.out (some ⟨w3.heap.size, 0, none⟩) 1 1 [eK z] rfl rfl HR1.out hk2 hbase ?_; intro v5 w5 hown5 hg5 hat5; obtain ⟨g5, cap5, hv5⟩ := own_slice hown5; rw [hv5]))
            have hb5 : Below wo.heap.size wo w5 := (hbo.trans ((Below.refl _ _).alloc hbo.size _)).trans ((Below.refl _ _).grown hg5 hbase (fun q hq => (HOW.out.lt q hq).1))
            have hop5 := own_other hop3 (grown_exc hg5) (fun g hg hs => own_ne (by decide) HOW.out hop3 hs hg)
            have hps4 := (hps3.set (T := fun b => (Value.slice E' i ep).ownBlock = some b ∨ (Value.slice (some ⟨g2, 0, none⟩) (i + 1) cap2).ownBlock = some b) (fun b hb => .inl hb.symm)).grown hg5 hat5
            have hps5 := hps4.set (T := fun b => (Value.slice (some ⟨g2, 0, none⟩) (i + 1) cap2).ownBlock = some b ∨ v5.ownBlock = some b) (fun b hb => .inl hb.symm)
            rw [hv5, show esK (ps.map (ev x)) ++ [eK z] = esK ((ps ++ [P]).map (ev x)) by rw [List.map_append, esK_append, ← HZ.out]; rfl] at hown5
            rw [hv5] at hps5
            clear HOW HR1 hg5 hat5 hbase hbA hop3 hps3 hps4 hbo hv5
            go_wp2_with fail
            go_roundw
            case rel => exact ⟨i + 1, M2, vs ++ [.slice D3 kk cp], ps ++ [P], _, _, cap2, cap5, by omega, by go_num, rfl, rfl, rfl, hM28, ⟨by rw [List.length_append, HP.out.1]; rfl, fun j => by
              have h := snoc_getD (p := P) HP.out.2 j
              rwa [HPl.out, HM2.out] at h⟩, hop5, hown5, hps5, hb5⟩
            case measure => simp [intOf]; omega
    · obtain rfl : i = q := by omega
      obtain ⟨gp, cP, hpe, hrow, hge, hgl, hvl, hcl⟩ := own_rowS (by omega) hop
      injection hpe with hpe1 _ hpe2
      subst hpe1
      subst hpe2
      have hpk := hps.toK
      have hvs := own_sl (by rw [List.length_map]; exact HP.out.1) hov
      have hx := HX.out.call hbo
      have q0 := HA0.out.call hbo
      have hg := HGD.out.later hbo
      have hb00 := HB0.out.trans (hbo.mono HB0.out.size)
      have hPO := gadget_Poly hf wr g k _ nn hg (HTO.out.call hbo) gp 0 dp vs ps hrow hgl hpk (fun j => Nat.le_trans (HP.out.2 j) (by omega)) (by rw [HP.out.1, HQ.out])
      rw [HP.out.1] at hPO
      have HPO := Lib.hid hPO
      have hRE := ev_gpoly x g ps
      have hTR := trim_gpoly g ps
      have hRL := gpoly_le (g := g) HP.out.2
      have HLO := Lib.hid (fun wz hgz hvz => law09_of hf wz g k (.slice A3 l3 c3) nn hgz (.slice E' i ep) (ps.map (ev x)) hvz (by rw [List.length_map, HP.out.1, HQ.out]))
      have HDG := Lib.hid (fun wz B (h : RepG wz B k (.slice A3 l3 c3) nn g) => gadget_Degree wz B g k _ nn h)
      have HSK := Lib.hid (fun wz hgz A len c h => gadget_Poly_sizeK hf wz g k (.slice A3 l3 c3) nn hgz A len c h)
      have hdg := Gad_degree_le hg
      generalize gval g (ps.map (ev x)) = y at *
      generalize g.degree = dg at *
      obtain ⟨R, hR⟩ : ∃ R, gpoly g ps = R := ⟨_, rfl⟩
      rw [hR] at hRE hTR hRL HPO
      have HRE := Lib.hid hRE
      have HTR := Lib.hid hTR
      obtain ⟨lR, hlR⟩ : ∃ z, R.length = z := ⟨_, rfl⟩
      have HLR := Lib.hid hlR
      rw [hlR] at hRL
      obtain ⟨M1, hM1⟩ : ∃ z, M - 1 = z := ⟨_, rfl⟩
      rw [hM1] at hRL
      obtain ⟨pr, hpr⟩ : ∃ z, dg * M1 = z := ⟨_, rfl⟩
      rw [hpr] at hRL
      have hmM : max ((M : Int) - 1) 0 = (M1 : Int) := by omega
      have hMw : IntKind.i64.wrap ((M : Int) - 1) = (M : Int) - 1 := IntWalk.i64_in _ (by omega)
      have hpri : (dg : Int) * (M1 : Int) = (pr : Int) := by rw [← hpr, Int.natCast_mul]
      have hprb : pr ≤ 100000 := by rw [← hpr]; exact Nat.le_trans (Nat.mul_le_mul hdg (show M1 ≤ 8 by omega)) (by omega)
      have hprw : IntKind.i64.wrap (pr : Int) = (pr : Int) := IntWalk.i64_in _ (by omega)
      have hprw2 : IntKind.i64.wrap ((pr : Int) + 1) = (pr : Int) + 1 := IntWalk.i64_in _ (by omega)
      have hprm : max ((pr : Int) + 1) 0 = (pr : Int) + 1 := by omega
      clear hPO hop hov hps hrow hpk hR hlR hM1 hpr hRE hTR hbo hge hgl hvl
      obtain ⟨x0, x1, x2, x3, x4, x5, x6⟩ := hx.get3
      go_wp2_with fail
      refine HPO.out.mono ?_
      rintro e w9 ⟨⟨AR, cR⟩, rfl, hsr, hb9⟩
      dsimp only at hsr ⊢
      rw [HLR.out] at hsr ⊢
      clear x0 x1 x2 x3 x4 x5 x6
      replace hb00 := bl_call hb00 (Nat.le_refl _) hb9
      replace hx := hx.call hb9
      replace q0 := q0.call hb9
      replace hg := hg.later hb9
      replace hvs := hvs.later hb9
      clear hb9 HPO
      have HSZ : Hid (∀ wz A len c, Below w9.heap.size w9 wz → len ≠ i → Calls Tryd.prog 50 #[.agg #[.int .u8 k, .slice A3 l3 c3, .int .i64 nn], .int .u8 f, .slice A len c] wz (RetE9 9 wz)) := fun wz A len c hb hne => HSK.out wz (hg.later hb) A len c (by rw [HQ.out]; exact hne)
      have hi1 : (1 : Int) ≤ (i : Int) := by omega
      have hi2 : (1 : Int) ≤ (dp : Int) := by omega
      have hi3 : (i : Int) ≤ (dp : Int) := by omega
      obtain ⟨x0, x1, x2, x3, x4, x5, x6⟩ := hx.get3
      go_upto_region 29 with fail
      have HNE : Hid (i - 1 ≠ i) := by show _ ≠ _; omega
      refine region_B (n := 9) (m := 10) (f := 9) (by kernel_rfl) (by kernel_rfl) rfl ?_
      refine WpH.takeD 0 (some 103) (v := ?_) rfl rfl (by kernel_rfl) (fun _ _ _ h => h) (.val rfl (fun wz hwz => ?_)) ?_
      rotate_left
      · (obtain ⟨hcz, hfz⟩ := bcell hwz; go_simp; try (with_reducible rfl))
      (simp only [Act.put]); (try simp only [List.setIfInBounds_toArray]); (try simp only [List.set_cons_succ]); (try simp only [List.set_cons_zero])
      refine WpH.takeD 1 (some 104) (v := ?_) rfl rfl (by kernel_rfl) (fun _ _ _ h => h) (.val rfl (fun wz hwz => ?_)) ?_
      rotate_left
      · go_simp; try (with_reducible rfl)
      (simp only [Act.put]); (try simp only [List.setIfInBounds_toArray]); (try simp only [List.set_cons_succ]); (try simp only [List.set_cons_zero])
      refine WpH.takeD 2 (some 105) (v := ?_) rfl rfl (by kernel_rfl) (fun _ _ _ h => h) (.val rfl (fun wz hwz => ?_)) ?_
      rotate_left
      · go_simp; try (with_reducible rfl)
      (simp only [Act.put]); (try simp only [List.setIfInBounds_toArray]); (try simp only [List.set_cons_succ]); (try simp only [List.set_cons_zero])
      refine WpH.takeD 3 (some 106) (v := ?_) rfl rfl (by kernel_rfl) (fun _ _ _ h => h) (.val rfl (fun wz hwz => ?_)) ?_
      rotate_left
      · go_simp; try (with_reducible rfl)
      (simp only [Act.put]); (try simp only [List.setIfInBounds_toArray]); (try simp only [List.set_cons_succ]); (try simp only [List.set_cons_zero])
      refine WpH.takeD 4 (some 107) rfl rfl (by kernel_rfl) (fun _ _ _ h => h) (.call rfl (fun wz hwz => HSZ.out wz (if dp = 1 then some ⟨gp, 0, none⟩ else some ⟨gp, 1, none⟩) (i - 1) (dp - 1) hwz HNE.out) (fun wz hwz => ?_)) ?_
      · go_simp; try (with_reducible rfl)
      (simp only [Act.put]); (try simp only [List.setIfInBounds_toArray]); (try simp only [List.set_cons_succ]); (try simp only [List.set_cons_zero])
      refine WpH.takeD 5 (some 102) (v := ?_) rfl rfl (by kernel_rfl) (fun _ _ _ h => h) (.val rfl (fun wz hwz => ?_)) ?_
      rotate_left
      · go_simp; try (with_reducible rfl)
      (simp only [Act.put]); (try simp only [List.setIfInBounds_toArray]); (try simp only [List.set_cons_succ]); (try simp only [List.set_cons_zero])
      refine WpH.takeD 6 (some 108) (v := ?_) rfl rfl (by kernel_rfl) (fun _ _ _ h => h) (.val rfl (fun wz hwz => ?_)) ?_
      rotate_left
      · go_simp; try (with_reducible rfl)
      (simp only [Act.put]); (try simp only [List.setIfInBounds_toArray]); (try simp only [List.set_cons_succ]); (try simp only [List.set_cons_zero])
      refine WpH.takeD 7 (some 109) (v := ?_) rfl rfl (by kernel_rfl) (fun _ _ _ h => h) (.val rfl (fun wz hwz => ?_)) ?_
      rotate_left
      · go_simp; try (with_reducible rfl)
      (simp only [Act.put]); (try simp only [List.setIfInBounds_toArray]); (try simp only [List.set_cons_succ]); (try simp only [List.set_cons_zero])
      refine WpH.takeD 8 (some 24) (v := ?_) rfl rfl (by kernel_rfl) (fun _ _ _ h => h) (.val rfl (fun wz hwz => ?_)) ?_
      rotate_left
      · go_simp; try (with_reducible rfl)
      (simp only [Act.put]); (try simp only [List.setIfInBounds_toArray]); (try simp only [List.set_cons_succ]); (try simp only [List.set_cons_zero])
      refine WpH.doneB (by kernel_rfl) (fun w10 hw10 => ?_)
      (try simp only [List.drop_succ_cons]); (try simp only [List.drop_zero]); (try simp only [Nat.reduceSub]); (try simp only [List.take_succ_cons]); (try simp only [List.take_zero])
      clear x0 x1 x2 x3 x4 x5 x6
      replace hb00 := bl_call hb00 (Nat.le_refl _) hw10
      replace hx := hx.call hw10
      replace q0 := q0.call hw10
      replace hg := hg.later hw10
      replace hvs := hvs.later hw10
      replace hsr := hsr.later hw10
      clear hw10 HSZ HNE hi1 hi2 hi3
      go_upto_region 30 with fail
      have HA2 : Hid (∀ wz, Below w10.heap.size w10 wz → Calls Tryd.prog 25 #[.int .i64 f, .slice AR lR cR, vK x] wz (RetK y wz)) := fun wz hb => by
        have h := HRA.out _ R x wz (hsr.later hb) (by rw [HLR.out]; omega)
        rwa [horner_ev, HRE.out] at h
      have HL2 : Hid (∀ wz, Below w10.heap.size w10 wz → Calls Tryd.prog 54 #[.int .i64 f, .agg #[.int .u8 k, .slice A3 l3 c3, .int .i64 nn], .slice E' i ep] wz (RetK y wz)) := fun wz hb => HLO.out wz (hg.later hb) (hvs.later hb)
      have HTM : Hid (∀ wz, Below w10.heap.size w10 wz → Calls Tryd.prog 40 #[.slice AR lR cR] wz fun e w' => ∃ q : Option Addr × Nat, e = .returned (.slice q.1 lR q.2) ∧ True ∧ Below wz.heap.size wz w') := fun wz hb => by
        have h := (poly_Trim (.slice AR lR cR) R wz (hsr.later hb) (by rw [HLR.out]; omega)).mono fun _ _ h => h.sq
        rw [HTR.out] at h
        refine h.mono ?_
        rintro e w' ⟨q, h1, _, h3⟩
        rw [HLR.out] at h1
        exact ⟨q, h1, trivial, h3⟩
      have HD2 : Hid (∀ wz, Below w10.heap.size w10 wz → Calls Tryd.prog 55 #[.agg #[.int .u8 k, .slice A3 l3 c3, .int .i64 nn]] wz fun e w' => e = .returned (.int .i64 (dg : Int)) ∧ Below wz.heap.size wz w') := fun wz hb => HDG.out wz _ (hg.later hb)
      have hlast : lR ≤ pr + 1 := hRL
      have hlast2 : (lR : Int) ≤ (pr : Int) + 1 := by omega
      clear HRA HLO HDG HSK hvs hsr
      obtain ⟨x0, x1, x2, x3, x4, x5, x6⟩ := hx.get3
      obtain ⟨q00, q01, q02, q03, q04⟩ := V2.mk q0.c0 q0.c1 q0.f0 q0.f1 q0.lt
      refine region_G (n := 38) (m := 39) (f := 38) (by kernel_rfl) (by kernel_rfl) rfl ?_
      refine WpG.takeD 0 (some 110) (v := ?_) rfl rfl (by kernel_rfl) (fun _ _ _ h => h) (.val rfl (fun wz hwz => ?_)) ?_
      rotate_left
      · go_simp; try (with_reducible rfl)
      (simp only [Act.put]); (try simp only [List.setIfInBounds_toArray]); (try simp only [List.set_cons_succ]); (try simp only [List.set_cons_zero])
      refine WpG.takeD 1 (some 111) (v := ?_) rfl rfl (by kernel_rfl) (fun _ _ _ h => h) (.val rfl (fun wz hwz => ?_)) ?_
      rotate_left
      · go_simp; try (with_reducible rfl)
      (simp only [Act.put]); (try simp only [List.setIfInBounds_toArray]); (try simp only [List.set_cons_succ]); (try simp only [List.set_cons_zero])
      refine WpG.takeD 2 (some 112) (v := ?_) rfl rfl (by kernel_rfl) (fun _ _ _ h => h) (.val rfl (fun wz hwz => ?_)) ?_
      rotate_left
      · go_simp; try (with_reducible rfl)
      (simp only [Act.put]); (try simp only [List.setIfInBounds_toArray]); (try simp only [List.set_cons_succ]); (try simp only [List.set_cons_zero])
      refine WpG.takeD 3 (some 113) (v := ?_) rfl rfl (by kernel_rfl) (fun _ _ _ h => h) (.val rfl (fun wz hwz => ?_)) ?_
      rotate_left
      · go_simp; try (with_reducible rfl)
      (simp only [Act.put]); (try simp only [List.setIfInBounds_toArray]); (try simp only [List.set_cons_succ]); (try simp only [List.set_cons_zero])
      refine WpG.takeD 4 (some 114) (v := ?_) rfl rfl (by kernel_rfl) (fun _ _ _ h => h) (.val rfl (fun wz hwz => ?_)) ?_
      rotate_left
      · go_simp; try (with_reducible rfl)
      (simp only [Act.put]); (try simp only [List.setIfInBounds_toArray]); (try simp only [List.set_cons_succ]); (try simp only [List.set_cons_zero])
      refine WpG.takeD 5 (some 115) (v := ?_) rfl rfl (by kernel_rfl) (fun _ _ _ h => h) (.val rfl (fun wz hwz => ?_)) ?_
      rotate_left
      · go_simp; try (with_reducible rfl)
      (simp only [Act.put]); (try simp only [List.setIfInBounds_toArray]); (try simp only [List.set_cons_succ]); (try simp only [List.set_cons_zero])
      refine WpG.takeD 6 (some 116) (v := ?_) rfl rfl (by kernel_rfl) (fun _ _ _ h => h) (.val rfl (fun wz hwz => ?_)) ?_
      rotate_left
      · go_simp; try (with_reducible rfl)
      (simp only [Act.put]); (try simp only [List.setIfInBounds_toArray]); (try simp only [List.set_cons_succ]); (try simp only [List.set_cons_zero])
      refine WpG.takeD 7 (some 117) (v := ?_) rfl rfl (by kernel_rfl) (fun _ _ _ h => h) (.val rfl (fun wz hwz => ?_)) ?_
      rotate_left
      · go_simp; try (with_reducible rfl)
      (simp only [Act.put]); (try simp only [List.setIfInBounds_toArray]); (try simp only [List.set_cons_succ]); (try simp only [List.set_cons_zero])
      refine WpG.takeD 8 (some 118) (v := ?_) rfl rfl (by kernel_rfl) (fun _ _ _ h => h) (.val rfl (fun wz hwz => ?_)) ?_
      rotate_left
      · go_simp; try (with_reducible rfl)
      (simp only [Act.put]); (try simp only [List.setIfInBounds_toArray]); (try simp only [List.set_cons_succ]); (try simp only [List.set_cons_zero])
      refine WpG.takeD 9 (some 119) (v := ?_) rfl rfl (by kernel_rfl) (fun _ _ _ h => h) (.val rfl (fun wz hwz => ?_)) ?_
      rotate_left
      · (obtain ⟨hcz, hfz⟩ := bcell (hwz); go_simp; try (with_reducible rfl))
      (simp only [Act.put]); (try simp only [List.setIfInBounds_toArray]); (try simp only [List.set_cons_succ]); (try simp only [List.set_cons_zero])
      refine WpG.takeD 10 (some 120) rfl rfl (by kernel_rfl) (fun _ _ _ h => h) (.call rfl (fun wz hwz => HA2.out wz (hwz)) (fun wz hwz => ?_)) ?_
      · go_simp; try (with_reducible rfl)
      (simp only [Act.put]); (try simp only [List.setIfInBounds_toArray]); (try simp only [List.set_cons_succ]); (try simp only [List.set_cons_zero])
      refine WpG.takeD 11 (some 121) (v := ?_) rfl rfl (by kernel_rfl) (fun _ _ _ h => h) (.val rfl (fun wz hwz => ?_)) ?_
      rotate_left
      · go_simp; try (with_reducible rfl)
      (simp only [Act.put]); (try simp only [List.setIfInBounds_toArray]); (try simp only [List.set_cons_succ]); (try simp only [List.set_cons_zero])
      refine WpG.takeD 12 (some 122) (v := ?_) rfl rfl (by kernel_rfl) (fun _ _ _ h => h) (.val rfl (fun wz hwz => ?_)) ?_
      rotate_left
      · (obtain ⟨hcz, hfz⟩ := bcell (hwz); go_simp; try (with_reducible rfl))
      (simp only [Act.put]); (try simp only [List.setIfInBounds_toArray]); (try simp only [List.set_cons_succ]); (try simp only [List.set_cons_zero])
      refine WpG.takeD 13 (some 123) (v := ?_) rfl rfl (by kernel_rfl) (fun _ _ _ h => h) (.val rfl (fun wz hwz => ?_)) ?_
      rotate_left
      · go_simp; try (with_reducible rfl)
      (simp only [Act.put]); (try simp only [List.setIfInBounds_toArray]); (try simp only [List.set_cons_succ]); (try simp only [List.set_cons_zero])
      refine WpG.takeD 14 (some 124) rfl rfl (by kernel_rfl) (fun _ _ _ h => h) (.call rfl (fun wz hwz => HL2.out wz (hwz)) (fun wz hwz => ?_)) ?_
      · go_simp; try (with_reducible rfl)
      (simp only [Act.put]); (try simp only [List.setIfInBounds_toArray]); (try simp only [List.set_cons_succ]); (try simp only [List.set_cons_zero])
      refine WpG.takeD 15 (some 125) (v := ?_) rfl rfl (by kernel_rfl) (fun _ _ _ h => h) (.val rfl (fun wz hwz => ?_)) ?_
      rotate_left
      · go_simp; try (with_reducible rfl)
      (simp only [Act.put]); (try simp only [List.setIfInBounds_toArray]); (try simp only [List.set_cons_succ]); (try simp only [List.set_cons_zero])
      refine WpG.takeD 16 (some 126) (v := ?_) rfl rfl (by kernel_rfl) (fun _ _ _ h => h) (.val rfl (fun wz hwz => ?_)) ?_
      rotate_left
      · go_simp; try (with_reducible rfl)
      (simp only [Act.put]); (try simp only [List.setIfInBounds_toArray]); (try simp only [List.set_cons_succ]); (try simp only [List.set_cons_zero])
      refine WpG.takeD 17 (some 127) (v := ?_) rfl rfl (by kernel_rfl) (fun _ _ _ h => h) (.val rfl (fun wz hwz => ?_)) ?_
      rotate_left
      · go_simp; try (with_reducible rfl)
      (simp only [Act.put]); (try simp only [List.setIfInBounds_toArray]); (try simp only [List.set_cons_succ]); (try simp only [List.set_cons_zero])
      refine WpG.takeD 18 (some 128) (v := ?_) rfl rfl (by kernel_rfl) (fun _ _ _ h => h) (.val rfl (fun wz hwz => ?_)) ?_
      rotate_left
      · go_simp; try (with_reducible rfl)
      (simp only [Act.put]); (try simp only [List.setIfInBounds_toArray]); (try simp only [List.set_cons_succ]); (try simp only [List.set_cons_zero])
      refine WpG.takeD 21 (some 131) (v := ?_) rfl rfl (by kernel_rfl) (fun _ _ _ h => h) (.val rfl (fun wz hwz => ?_)) ?_
      rotate_left
      · go_simp; try (with_reducible rfl)
      (simp only [Act.put]); (try simp only [List.setIfInBounds_toArray]); (try simp only [List.set_cons_succ]); (try simp only [List.set_cons_zero])
      refine WpG.takeD 22 (some 132) (v := ?_) rfl rfl (by kernel_rfl) (fun _ _ _ h => h) (.val rfl (fun wz hwz => ?_)) ?_
      rotate_left
      · go_simp; try (with_reducible rfl)
      (simp only [Act.put]); (try simp only [List.setIfInBounds_toArray]); (try simp only [List.set_cons_succ]); (try simp only [List.set_cons_zero])
      refine WpG.oneD 19 (some 129) rfl rfl (by kernel_rfl) (fun u : Option Addr × Nat => Value.slice u.1 lR u.2) (fun u wz => True) (fun _ _ _ h hb => trivial) (Fresh.call rfl (fun wz hwz => HTM.out wz (hwz)) (fun wz hwz => by go_simp; try (with_reducible rfl))) (fun u1 w0u1 hw0u1 hR0u1 => ?_)
      (simp only [Act.put]); (try simp only [List.setIfInBounds_toArray]); (try simp only [List.set_cons_succ]); (try simp only [List.set_cons_zero])
      refine WpG.takeD 20 (some 130) (v := ?_) rfl rfl (by kernel_rfl) (fun _ _ _ h => h) (.val rfl (fun wz hwz => ?_)) ?_
      rotate_left
      · go_simp; try (with_reducible rfl)
      (simp only [Act.put]); (try simp only [List.setIfInBounds_toArray]); (try simp only [List.set_cons_succ]); (try simp only [List.set_cons_zero])
      refine WpG.takeD 23 (some 133) (v := ?_) rfl rfl (by kernel_rfl) (fun _ _ _ h => h) (.val rfl (fun wz hwz => ?_)) ?_
      rotate_left
      · go_simp; try (with_reducible rfl)
      (simp only [Act.put]); (try simp only [List.setIfInBounds_toArray]); (try simp only [List.set_cons_succ]); (try simp only [List.set_cons_zero])
      refine WpG.takeD 24 (some 134) (v := ?_) rfl rfl (by kernel_rfl) (fun _ _ _ h => h) (.val rfl (fun wz hwz => ?_)) ?_
      rotate_left
      · go_simp; try (with_reducible rfl)
      (simp only [Act.put]); (try simp only [List.setIfInBounds_toArray]); (try simp only [List.set_cons_succ]); (try simp only [List.set_cons_zero])
      refine WpG.takeD 25 (some 135) (v := ?_) rfl rfl (by kernel_rfl) (fun _ _ _ h => h) (.val rfl (fun wz hwz => ?_)) ?_
      rotate_left
      · go_simp; try (with_reducible rfl)
      (simp only [Act.put]); (try simp only [List.setIfInBounds_toArray]); (try simp only [List.set_cons_succ]); (try simp only [List.set_cons_zero])
      refine WpG.takeD 26 (some 136) (v := ?_) rfl rfl (by kernel_rfl) (fun _ _ _ h => h) (.val rfl (fun wz hwz => ?_)) ?_
      rotate_left
      · go_simp; try (with_reducible rfl)
      (simp only [Act.put]); (try simp only [List.setIfInBounds_toArray]); (try simp only [List.set_cons_succ]); (try simp only [List.set_cons_zero])
      refine WpG.takeD 27 (some 137) (v := ?_) rfl rfl (by kernel_rfl) (fun _ _ _ h => h) (.val rfl (fun wz hwz => ?_)) ?_
      rotate_left
      · go_simp; try (with_reducible rfl)
      (simp only [Act.put]); (try simp only [List.setIfInBounds_toArray]); (try simp only [List.set_cons_succ]); (try simp only [List.set_cons_zero])
      refine WpG.takeD 28 (some 138) (v := ?_) rfl rfl (by kernel_rfl) (fun _ _ _ h => h) (.val rfl (fun wz hwz => ?_)) ?_
      rotate_left
      · (obtain ⟨hcz, hfz⟩ := bcell (hwz.1); go_simp; try (with_reducible rfl))
      (simp only [Act.put]); (try simp only [List.setIfInBounds_toArray]); (try simp only [List.set_cons_succ]); (try simp only [List.set_cons_zero])
      refine WpG.takeD 29 (some 139) rfl rfl (by kernel_rfl) (fun _ _ _ h => h) (.call rfl (fun wz hwz => HD2.out wz (hwz.1)) (fun wz hwz => ?_)) ?_
      · go_simp; try (with_reducible rfl)
      (simp only [Act.put]); (try simp only [List.setIfInBounds_toArray]); (try simp only [List.set_cons_succ]); (try simp only [List.set_cons_zero])
      refine WpG.takeD 30 (some 140) (v := ?_) rfl rfl (by kernel_rfl) (fun _ _ _ h => h) (.val rfl (fun wz hwz => ?_)) ?_
      rotate_left
      · go_simp; try (with_reducible rfl)
      (simp only [Act.put]); (try simp only [List.setIfInBounds_toArray]); (try simp only [List.set_cons_succ]); (try simp only [List.set_cons_zero])
      refine WpG.takeD 31 (some 141) (v := ?_) rfl rfl (by kernel_rfl) (fun _ _ _ h => h) (.val rfl (fun wz hwz => ?_)) ?_
      rotate_left
      · go_simp; try (with_reducible rfl)
      (simp only [Act.put]); (try simp only [List.setIfInBounds_toArray]); (try simp only [List.set_cons_succ]); (try simp only [List.set_cons_zero])
      refine WpG.takeD 32 (some 142) (v := ?_) rfl rfl (by kernel_rfl) (fun _ _ _ h => h) (.val rfl (fun wz hwz => ?_)) ?_
      rotate_left
      · go_simp; try (with_reducible rfl)
      (simp only [Act.put]); (try simp only [List.setIfInBounds_toArray]); (try simp only [List.set_cons_succ]); (try simp only [List.set_cons_zero])
      refine WpG.takeD 33 (some 143) (v := ?_) rfl rfl (by kernel_rfl) (fun _ _ _ h => h) (.val rfl (fun wz hwz => ?_)) ?_
      rotate_left
      · go_simp; try (with_reducible rfl)
      (simp only [Act.put]); (try simp only [List.setIfInBounds_toArray]); (try simp only [List.set_cons_succ]); (try simp only [List.set_cons_zero])
      refine WpG.takeD 34 (some 144) (v := ?_) rfl rfl (by kernel_rfl) (fun _ _ _ h => h) (.val rfl (fun wz hwz => ?_)) ?_
      rotate_left
      · go_simp; try (with_reducible rfl)
      (simp only [Act.put]); (try simp only [List.setIfInBounds_toArray]); (try simp only [List.set_cons_succ]); (try simp only [List.set_cons_zero])
      refine WpG.takeD 35 (some 145) (v := ?_) rfl rfl (by kernel_rfl) (fun _ _ _ h => h) (.val rfl (fun wz hwz => ?_)) ?_
      rotate_left
      · go_simp; try (with_reducible rfl)
      (simp only [Act.put]); (try simp only [List.setIfInBounds_toArray]); (try simp only [List.set_cons_succ]); (try simp only [List.set_cons_zero])
      refine WpG.takeD 36 (some 146) (v := ?_) rfl rfl (by kernel_rfl) (fun _ _ _ h => h) (.val rfl (fun wz hwz => ?_)) ?_
      rotate_left
      · go_simp; try (with_reducible rfl)
      (simp only [Act.put]); (try simp only [List.setIfInBounds_toArray]); (try simp only [List.set_cons_succ]); (try simp only [List.set_cons_zero])
      refine WpG.takeD 37 (some 147) (v := ?_) rfl rfl (by kernel_rfl) (fun _ _ _ h => h) (.val rfl (fun wz hwz => ?_)) ?_
      rotate_left
      · go_simp; try (with_reducible rfl)
      (simp only [Act.put]); (try simp only [List.setIfInBounds_toArray]); (try simp only [List.set_cons_succ]); (try simp only [List.set_cons_zero])
      refine WpG.done (by kernel_rfl) (fun w11 hS => ?_)
      (try simp only [List.drop_succ_cons]); (try simp only [List.drop_zero]); (try simp only [Nat.reduceSub]); (try simp only [List.take_succ_cons]); (try simp only [List.take_zero])
      obtain ⟨hb11, _⟩ := hS
      clear x0 x1 x2 x3 x4 x5 x6 q00 q01 q02 q03 q04
      replace hb00 := bl_call hb00 (Nat.le_refl _) hb11
      clear hb11
      go_wp2_with fail
      all_goals (go_ret; exact ⟨rfl, hb00⟩)

end Go.Proofs.YtfhmineolncefaaDoor
