/-
  WALK: poly.Common.
-/
/-
  WALK: tallymanlaw05.PolyCommon.
-/
import Derived.Test.YtfhmineolncefaaDoorMax
import Derived.Test.YtfhmineolncefaaDoorMag
namespace Go.Proofs.YtfhmineolncefaaDoor
open Go.RowKit Fm
set_option linter.unusedVariables false
set_option maxRecDepth 100000

section
variable {f : Nat}

/-- what goes into both a and b is what goes into both x and y -/
def Cd (a b x y : KL f) : Prop := ((x = [] ∧ y = []) ↔ (trim a = [] ∧ trim b = [])) ∧ ∀ g : KL f, g.length ≤ 1000 → ((Dv g a ∧ Dv g b) ↔ (Dv g x ∧ Dv g y))
theorem dv_of_ev {g z z' : KL f} (h : Dv g z) (he : ∀ x, ev x z' = ev x z) : Dv g z' := by
  obtain ⟨u, hu, h⟩ := h
  exact ⟨u, hu, fun x => by rw [he, h]⟩
theorem Cd.start (a b : KL f) : Cd a b (trim a) (trim b) :=
  ⟨Iff.rfl, fun g _ => ⟨fun h => ⟨dv_of_ev h.1 fun x => ev_trim x a, dv_of_ev h.2 fun x => ev_trim x b⟩, fun h => ⟨dv_of_ev h.1 fun x => (ev_trim x a).symm, dv_of_ev h.2 fun x => (ev_trim x b).symm⟩⟩⟩
theorem Cd.next {a b x y T R : KL f} (h : Cd a b x y) (hy : y ≠ []) (hx : x.length ≤ 1000) (hyl : y.length ≤ 1000) (hd : DivOf x y T R) : Cd a b y R := by
  obtain ⟨h1, h2⟩ := h
  obtain ⟨d1, d2, d3, d4, d5, d6⟩ := hd
  refine ⟨⟨fun h => absurd h.1 hy, fun h => absurd (h1.2 h).2 hy⟩, fun g hg => (h2 g hg).trans ⟨fun h => ⟨h.2, ?_⟩, fun h => ⟨?_, h.1⟩⟩⟩
  · refine Dv.comb (t := pscale (-1) T) h.2 h.1 (by omega) (by omega) (by omega) (by have := pscale_le (-1) T; omega) fun v => ?_
    rw [ev_pscale]
    have := d1 v
    grind
  · exact Dv.comb (t := T) h.1 h.2 (by omega) (by omega) (by omega) (by omega) fun v => d1 v

/-- the polynomial of greatest degree that goes into both -/
def ComOf (a b D : KL f) : Prop := (D = [] ↔ (trim a = [] ∧ trim b = [])) ∧ (D ≠ [] → D.getD (D.length - 1) 0 = 1 ∧ Dv D a ∧ Dv D b) ∧ trim D = D ∧ D.length ≤ 64 ∧ ∀ g : KL f, g.length ≤ 1000 → Dv g a → Dv g b → Dv g D
theorem Cd.none {a b : KL f} (h : Cd a b [] []) : ComOf a b [] :=
  ⟨⟨fun _ => h.1.1 ⟨rfl, rfl⟩, fun _ => rfl⟩, fun h => absurd rfl h, rfl, by simp, fun g _ _ _ => Dv.none g⟩
theorem Cd.done {a b x : KL f} (h : Cd a b x []) (hx : x ≠ []) (hxt : trim x = x) (hl : x.length ≤ 64) {z k : Fin (Pm f)} (hz : x.getD (x.length - 1) 0 = z) (hk : z * k = 1) : ComOf a b (pscale k x) := by
  obtain ⟨h1, h2⟩ := h
  have hpos : 0 < x.length := List.length_pos_iff.2 hx
  have hk0 : ∀ i, (pscale k x).getD i 0 = x.getD i 0 * k := fun i => by
    unfold pscale
    rw [trim_getD, map_getD]
  have hlen : (pscale k x).length = x.length := by
    refine Nat.le_antisymm (pscale_le k x) (Nat.le_of_not_lt fun hlt => ?_)
    have h3 := hk0 (x.length - 1)
    rw [Fm.getD_end (by omega), hz, hk] at h3
    have h4 : (0 : Fin (Pm f)) = 1 := h3
    have h5 : z = 0 := by grind
    have h6 := trim_last x (by rw [hxt]; exact hx)
    rw [hxt, hz] at h6
    exact h6 h5
  have hne : pscale k x ≠ [] := List.ne_nil_of_length_pos (by omega)
  have hkz : k * z = 1 := by grind
  have hin := (h2 x (by omega)).2 ⟨Dv.refl x, Dv.none x⟩
  refine ⟨⟨fun h => absurd h hne, fun h => absurd (h1.2 h).1 hx⟩, fun _ => ⟨?_, ?_, ?_⟩, by unfold pscale; exact trim_trim _, by omega, fun g hg ha hb => ?_⟩
  · rw [hlen, hk0, hz, hk]
  · exact hin.1.scaled k z hkz fun v => ev_pscale v k x
  · exact hin.2.scaled k z hkz fun v => ev_pscale v k x
  · exact ((h2 g hg).1 ⟨ha, hb⟩).1.into k fun v => ev_pscale v k x

def RetCom (a b : KL f) (w : World) (e : Ending) (w' : World) : Prop :=
  ∃ (D : KL f) (q : Option Addr × Nat), e = .returned (.tuple #[.slice q.1 D.length q.2, .int .i64 0]) ∧ SlK w' w'.heap.size (.slice q.1 D.length q.2) D ∧ ComOf a b D ∧ Below w.heap.size w w'

variable (hf : IsF f)
include hf
set_option maxHeartbeats 8000000 in
theorem poly_Common (va vb : Value) (a b : KL f) (w : World) (ha : SlK w w.heap.size va a) (hb : SlK w w.heap.size vb b) (hal : (trim a).length ≤ 64) (hbl : (trim b).length ≤ 64) (haL : a.length ≤ 100000) (hbL : b.length ≤ 100000) :
    Calls Tryd.prog 43 #[.int .u8 f, va, vb] w (RetCom a b w) := by
  have HVA := Lib.hid (fun wz => field_ValidT hf wz)
  have HTA : Hid (Calls Tryd.prog 40 #[va] w (RetSq (trim a) w)) := (poly_Trim va a w ha (by omega)).mono fun _ _ h => h.sq
  have HTB : Hid (∀ wz, SlK wz wz.heap.size vb b → Calls Tryd.prog 40 #[vb] wz (RetSq (trim b) wz)) := fun wz h => (poly_Trim vb b wz h (by omega)).mono fun _ _ h => h.sq
  have HB0 := Lib.hid hb
  have HIN := Lib.hid (fun x wz => field_Inv hf x wz)
  have HDI := Lib.hid (fun va vb (x y : KL f) wz h1 h2 h3 h4 h5 h6 h7 => poly_Divide hf va vb x y wz h1 h2 h3 h4 h5 h6 h7)
  have HSC := Lib.hid (fun va (x : KL f) k wz h1 h2 => poly_Scale hf va x k wz h1 h2)
  have hfb0 : (1 : Int) ≤ (f : Int) := by rcases hf.or with rfl | rfl <;> omega
  have hfb1 : (f : Int) ≤ 2 := by rcases hf.or with rfl | rfl <;> omega
  obtain ⟨A, ca, rfl, _, _, _⟩ := ha
  obtain ⟨B, cb, rfl, _, _, _⟩ := hb
  have HST := Lib.hid (Cd.start a b)
  have HTT : Hid (trim (trim a) = trim a ∧ trim (trim b) = trim b) := ⟨trim_trim a, trim_trim b⟩
  have HRES : Hid (∀ (D : KL f), ComOf a b D → ComOf a b D) := fun _ h => h
  generalize trim a = ta at hal HTA HST HTT
  generalize trim b = tb at hbl HTB HST HTT
  have hb00 : Below w.heap.size w w := Below.refl _ _
  go_enter Tryd.func43, Tryd.ntmps43
  go_wp2_with fail
  refine (HVA.out _).mono ?_
  rintro e w' ⟨rfl, rfl⟩
  go_wp2_with fail
  refine HTA.out.mono ?_
  rintro e w1 ⟨⟨xA, xc⟩, rfl, hx, hb1⟩
  dsimp only at hx ⊢
  replace hb00 := bl_call hb00 (Nat.le_refl _) hb1
  clear hb1
  go_wp2_with fail
  refine (HTB.out _ (HB0.out.later hb00)).mono ?_
  rintro e w2 ⟨⟨yA, yc⟩, rfl, hy, hb2⟩
  dsimp only at hy ⊢
  replace hb00 := bl_call hb00 (Nat.le_refl _) hb2
  replace hx := hx.later hb2
  clear hb2 HTA HTB HB0 HVA
  have hn5 : ¬ (64 < ta.length) := by omega
  have hn6 : ¬ (64 < tb.length) := by omega
  go_wp2_with fail
  go_loopw [1, 2] (fun xv yv wr => ∃ (x y : KL f) (lx ly : Nat) (D E : Option Addr) (cp dp : Nat), xv = .slice D lx cp ∧ yv = .slice E ly dp ∧ Hid (x.length = lx ∧ y.length = ly ∧ trim x = x ∧ trim y = y ∧ Cd a b x y) ∧ lx ≤ 64 ∧ ly ≤ 64 ∧ SlK wr wr.heap.size (.slice D lx cp) x ∧ SlK wr wr.heap.size (.slice E ly dp) y ∧ Below w.heap.size w wr) (fun _ yv _ => slLen yv)
  case atStart => exact ⟨ta, tb, _, _, xA, yA, xc, yc, rfl, rfl, ⟨rfl, rfl, HTT.out.1, HTT.out.2, HST.out⟩, hal, hbl, hx, hy, hb00⟩
  case round =>
    clear hx hy hb00 HST HTT hal hbl hn5 hn6
    obtain ⟨x, y, lx, ly, D, E, cp, dp, rfl, rfl, hI, hlx, hly, hx, hy, hb00⟩ := hrel
    by_cases hy0 : 0 < ly
    · have HYN : Hid (trim y ≠ []) := by show _ ≠ _; rw [hI.out.2.2.2.1]; exact List.ne_nil_of_length_pos (by rw [hI.out.2.1]; exact hy0)
      have HDV := Lib.hid (HDI.out _ _ x y wr hx hy (by rw [hI.out.2.2.1, hI.out.1]; omega) (by rw [hI.out.2.2.2.1, hI.out.2.1]; omega) (by rw [hI.out.1]; omega) (by rw [hI.out.2.1]; omega) HYN.out)
      go_wp2_with fail
      refine HDV.out.mono ?_
      rintro e w5 ⟨T, R, ⟨tA, tc⟩, ⟨rA, rc⟩, rfl, hTs, hRs, hD, hb5⟩
      dsimp only at hTs hRs ⊢
      replace hb00 := bl_call hb00 (Nat.le_refl _) hb5
      replace hy := hy.later hb5
      have HRY : Hid (R.length < ly) := by
        have h := hD.2.1
        rw [hI.out.2.2.2.1, hI.out.2.1] at h
        exact h
      have HCN : Hid (Cd a b y R) := hI.out.2.2.2.2.next (by have h := HYN.out; rwa [hI.out.2.2.2.1] at h) (by rw [hI.out.1]; omega) (by rw [hI.out.2.1]; omega) hD
      have HRT : Hid (trim R = R) := hD.2.2.1
      clear hb5 hD hTs HDV hx
      go_wp2_with fail
      go_roundw
      case rel => exact ⟨y, R, ly, R.length, E, rA, dp, rc, rfl, rfl, ⟨hI.out.2.1, rfl, hI.out.2.2.2.1, HRT.out, HCN.out⟩, hly, by have := HRY.out; omega, hy, hRs, hb00⟩
      case measure => simp only [slLen]; exact HRY.out
    · have hy1 : ly = 0 := by omega
      have HYE : Hid (y = []) := List.length_eq_zero_iff.1 (by rw [hI.out.2.1, hy1])
      have HCD : Hid (Cd a b x []) := by have h := hI.out.2.2.2.2; rwa [HYE.out] at h
      have HXL : Hid (x.length = lx) := hI.out.1
      have HXT : Hid (trim x = x) := hI.out.2.2.1
      subst hy1
      clear hI hy
      by_cases hx0 : lx = 0
      · have HXE : Hid (x = []) := List.length_eq_zero_iff.1 (by rw [HXL.out, hx0])
        have HCE : Hid (Cd a b [] []) := by have h := HCD.out; rwa [HXE.out] at h
        subst hx0
        clear hx
        go_wp2_with fail
        go_ret2
        exact ⟨[], (none, 0), rfl, (SlE.nil _ _).toK (l := []), HCE.out.none, hb00⟩
      · have t4 : ((lx : Int) == 0) = false := by rw [beq_eq_false_iff_ne]; omega
        obtain ⟨j, hj⟩ : ∃ j, lx - 1 = j := ⟨_, rfl⟩
        have hji : (lx : Int) - 1 = (j : Int) := by omega
        have hj0 : (0 : Int) ≤ (j : Int) := by omega
        have hj1 : (j : Int) < (lx : Int) := by omega
        obtain ⟨z0, hz0⟩ : ∃ z, x[j]? = some z := ⟨_, List.getElem?_eq_getElem (by rw [HXL.out]; omega)⟩
        have HZ0 : Hid (x.getD (x.length - 1) 0 = z0) := by show _ = _; rw [HXL.out, hj, List.getD_eq_getElem?_getD, hz0]; rfl
        have HXN : Hid (x ≠ []) := List.ne_nil_of_length_pos (by rw [HXL.out]; omega)
        have HZN : Hid (z0 ≠ 0) := by
          have h := trim_last x (by rw [HXT.out]; exact HXN.out)
          rwa [HXT.out, HZ0.out] at h
        obtain ⟨bx, ox, hAe, hbx, hrow⟩ := hx.rowOf (by rw [HXL.out]; omega)
        obtain ⟨d0, d1⟩ := hrow.kat hz0
        subst hAe
        clear hz0 hj hrow
        go_wp2_with fail
        refine (HIN.out z0 _).mono ?_
        rintro e w3 (⟨h0, _⟩ | ⟨_, rfl, hb3⟩)
        · exact absurd h0 HZN.out
        replace hb00 := bl_call hb00 (Nat.le_refl _) hb3
        replace hx := hx.later hb3
        clear hb3 d0 d1
        obtain ⟨top, htop⟩ : ∃ t, kinv z0 = t := ⟨_, rfl⟩
        have HCM : Hid (ComOf a b (pscale top x)) := HCD.out.done HXN.out HXT.out (by rw [HXL.out]; exact hlx) HZ0.out (by rw [← htop]; exact mul_kinvK z0 HZN.out)
        rw [htop]
        clear htop HZN HZ0 HIN
        go_upto_region 14 with fail
        have tv := V2.new w3 (.int .u64 (lo top)) (.int .u64 (hi top)) 28
        have hbA : Below w3.heap.size w3 (w3.alloc (.cells #[.int .u64 (lo top), .int .u64 (hi top)] 28)) := by repeat (first | exact Below.refl _ _ | with_reducible assumption | (refine bl_alloc ?_ (Nat.le_refl _) _))
        replace hb00 := bl_call hb00 (Nat.le_refl _) hbA
        replace hx := hx.later hbA
        clear hbA
        generalize w3.alloc (.cells #[.int .u64 (lo top), .int .u64 (hi top)] 28) = w4 at hb00 hx tv ⊢
        obtain ⟨tv0, tv1, tv2, tv3, tv4⟩ := V2.mk tv.c0 tv.c1 tv.f0 tv.f1 tv.lt
        go_wp2_with fail
        refine (HSC.out _ x top _ hx (by rw [HXL.out]; omega)).mono ?_
        rintro e w7 ⟨v, rfl, ho, hb7⟩
        obtain ⟨At, ct, rfl⟩ := own_shape ho
        have sT := own_sl rfl ho
        replace hb00 := bl_call hb00 (Nat.le_refl _) hb7
        go_wp2_with fail
        go_ret2
        exact ⟨pscale top x, (At, ct), rfl, sT, HCM.out, hb00⟩
end

end Go.Proofs.YtfhmineolncefaaDoor

namespace Go.Proofs.YtfhmineolncefaaDoor
open Go.RowKit Fm
set_option linter.unusedVariables false
set_option maxRecDepth 100000

section
variable {f : Nat}
theorem trim_long (l : KL f) (i : Nat) (h : l.getD i 0 ≠ 0) : i < (trim l).length := Nat.lt_of_not_le fun hle => h (by rw [← trim_getD, Fm.getD_end hle])
theorem prod_len (p q u : KL f) (hp : p.length ≤ 6) (hu : u.length ≤ 5) : (pmul p u).length ≤ 10 ∧ trim (pmul p u) = pmul p u := by
  have := pmul_le p u
  exact ⟨by omega, by unfold pmul; exact trim_trim _⟩
/-- what goes into z leaves nothing -/
theorem div_none {z d T R : KL f} (h : Dv d z) (hd : d.length ≤ 100000) (hd0 : trim d = d) (hz : z.length ≤ 100000) (hD : DivOf z d T R) : R = [] :=
  h.rest hd hd0 (by have := hD.2.2.2.2.1; omega) (by have h2 := hD.2.1; rwa [hd0] at h2) hD.2.2.1 hD.1

variable (hf : IsF f)
include hf
set_option maxHeartbeats 2000000 in
theorem poly_Common_many (va vb : Value) (a b : KL f) (w : World) (ha : SlK w w.heap.size va a) (hb : SlK w w.heap.size vb b) (hal : 64 < (trim a).length) (haL : a.length ≤ 100000) (hbL : b.length ≤ 100000) :
    Calls Tryd.prog 43 #[.int .u8 f, va, vb] w (RetNil 5 w) := by
  have HVA := Lib.hid (fun wz => field_ValidT hf wz)
  have HTA : Hid (Calls Tryd.prog 40 #[va] w (RetSq (trim a) w)) := (poly_Trim va a w ha (by omega)).mono fun _ _ h => h.sq
  have HTB : Hid (∀ wz, SlK wz wz.heap.size vb b → Calls Tryd.prog 40 #[vb] wz (RetSq (trim b) wz)) := fun wz h => (poly_Trim vb b wz h (by omega)).mono fun _ _ h => h.sq
  have HB0 := Lib.hid hb
  obtain ⟨A, ca, rfl, _, _, _⟩ := ha
  obtain ⟨B, cb, rfl, _, _, _⟩ := hb
  generalize trim a = ta at hal HTA
  generalize trim b = tb at HTB
  have hb00 : Below w.heap.size w w := Below.refl _ _
  go_enter Tryd.func43, Tryd.ntmps43
  go_wp2_with fail
  refine (HVA.out _).mono ?_
  rintro e w' ⟨rfl, rfl⟩
  go_wp2_with fail
  refine HTA.out.mono ?_
  rintro e w1 ⟨⟨xA, xc⟩, rfl, hx, hb1⟩
  dsimp only at hx ⊢
  replace hb00 := bl_call hb00 (Nat.le_refl _) hb1
  clear hb1
  go_wp2_with fail
  refine (HTB.out _ (HB0.out.later hb00)).mono ?_
  rintro e w2 ⟨⟨yA, yc⟩, rfl, hy, hb2⟩
  dsimp only at hy ⊢
  replace hb00 := bl_call hb00 (Nat.le_refl _) hb2
  clear hb2 HTA HTB HB0 HVA hx hy
  go_wp2_with fail
  go_ret2
  exact ⟨rfl, hb00⟩
end

set_option maxHeartbeats 16000000 in
theorem walk_PolyCommon (n : Int) (va vb vc : Value) (la lb lc : List E) (w : World) (hT : TabW w) (hn : 0 ≤ n ∧ n ≤ 255) (hla : SlE w w.heap.size va la) (hlb : SlE w w.heap.size vb lb) (hlc : SlE w w.heap.size vc lc) :
    Calls Tryd.prog 10 #[.int .u8 n, va, vb, vc] w fun e w' => e = .returned (.bool true) ∧ Below w.heap.size w w' := by
  obtain ⟨f, hf, hF⟩ := law03_FN n hn.1 hn.2
  have HF := Lib.hid hF
  have hneq := neq_elem
  have HAW := Lib.hid (fun wz h => law05_Awake wz h)
  have hfb0 : (1 : Int) ≤ (f : Int) := by rcases hf.or with rfl | rfl <;> omega
  have hfb1 : (f : Int) ≤ 2 := by rcases hf.or with rfl | rfl <;> omega
  have hwF : IntKind.i64.wrap (f : Int) = (f : Int) := IntWalk.i64_in _ (by omega)
  have HSM := Lib.hid (fun v l wz hs => law05_some hf v l 6 wz hs (by omega))
  have HSN := Lib.hid (fun v l wz hs => law05_some hf v l 5 wz hs (by omega))
  have HPR := Lib.hid (fun va vb (a b : KL f) wz h1 h2 h3 h4 => ref_Product hf va vb a b wz h1 h2 h3 h4)
  have HCO := Lib.hid (fun va vb (a b : KL f) wz h1 h2 h3 h4 h5 h6 => poly_Common hf va vb a b wz h1 h2 h3 h4 h5 h6)
  have HCM := Lib.hid (fun va vb (a b : KL f) wz h1 h2 h3 h4 h5 => poly_Common_many hf va vb a b wz h1 h2 h3 h4 h5)
  have HDI := Lib.hid (fun va vb (x y : KL f) wz h1 h2 h3 h4 h5 h6 h7 => poly_Divide hf va vb x y wz h1 h2 h3 h4 h5 h6 h7)
  have HA := Lib.hid hla
  have HB := Lib.hid hlb
  have HC := Lib.hid hlc
  obtain ⟨⟨A1, c1, rfl, _, _, _⟩, _⟩ := hla
  obtain ⟨⟨A2, c2, rfl, _, _, _⟩, _⟩ := hlb
  obtain ⟨⟨A3, c3, rfl, _, _, _⟩, _⟩ := hlc
  have hmk := make_elem 65 (by omega)
  rw [show ((65 : Nat) : Int) = 65 from rfl] at hmk
  obtain ⟨L65, hL65⟩ : ∃ l : List E, List.replicate 65 (0, 0) = l := ⟨_, rfl⟩
  rw [hL65] at hmk
  have HL65 := Lib.hid hL65
  clear hL65
  have hb00 : Below w.heap.size w w := Below.refl _ _
  go_enter Tryd.func10, Tryd.ntmps10
  go_wp2_with fail
  refine (HAW.out _ hT).mono ?_
  rintro e w2 ⟨rfl, hb2⟩
  replace hb00 := bl_call hb00 (Nat.le_refl _) hb2
  clear hb2 hT HAW
  go_upto_region 4 with (first
    | (go_at_call 16; refine (HF.out _).mono ?_; rintro e wq ⟨rfl, rfl⟩))
  go_wp2_with fail
  refine (HSM.out _ la _ ((HA.out.below hb00).mono hb00.size)).mono ?_
  rintro e w3 ⟨p, hpl, vp, rfl, hop, hb3⟩
  obtain ⟨AP, cP, rfl⟩ := own_shape hop
  have hp := own_sl rfl hop
  clear hop
  replace hb00 := bl_call hb00 (Nat.le_refl _) hb3
  clear hb3
  go_wp2_with fail
  refine (HSM.out _ lb _ ((HB.out.below hb00).mono hb00.size)).mono ?_
  rintro e w4 ⟨q, hql, vq, rfl, hoq, hb4⟩
  obtain ⟨AQ, cQ, rfl⟩ := own_shape hoq
  have hq := own_sl rfl hoq
  clear hoq
  replace hb00 := bl_call hb00 (Nat.le_refl _) hb4
  replace hp := hp.later hb4
  clear hb4
  go_wp2_with fail
  refine (HSN.out _ lc _ ((HC.out.below hb00).mono hb00.size)).mono ?_
  rintro e w5 ⟨r, hrl, vr, rfl, hor, hb5⟩
  obtain ⟨AR, cR, rfl⟩ := own_shape hor
  have hr := own_sl rfl hor
  clear hor
  replace hb00 := bl_call hb00 (Nat.le_refl _) hb5
  replace hp := hp.later hb5
  replace hq := hq.later hb5
  clear hb5 HSM HSN HA HB HC HF
  have HTQ := Lib.hid (ref_Trim AR cR r w5 hr (by omega))
  have hu := hr.takeK (trim_le r)
  rw [← trim_take] at hu
  have htr := trim_le r
  have HUT : Hid (trim (trim r) = trim r) := trim_trim r
  generalize trim r = u at HTQ hu htr HUT
  clear hr
  go_wp2_with fail
  refine HTQ.out.mono ?_
  rintro e w' ⟨rfl, rfl⟩
  clear HTQ
  have hul : u.length ≤ 5 := by omega
  clear htr hrl
  go_wp2_with fail
  refine (HPR.out _ _ p u _ hp hu (by omega) (by omega)).mono ?_
  rintro e w6 ⟨⟨xA, xc⟩, rfl, hx, hb6⟩
  dsimp only at hx ⊢
  replace hb00 := bl_call hb00 (Nat.le_refl _) hb6
  replace hq := hq.later hb6
  replace hu := hu.later hb6
  clear hb6 hp
  go_wp2_with fail
  refine (HPR.out _ _ q u _ hq hu (by omega) (by omega)).mono ?_
  rintro e w7 ⟨⟨yA, yc⟩, rfl, hy, hb7⟩
  dsimp only at hy ⊢
  replace hb00 := bl_call hb00 (Nat.le_refl _) hb7
  replace hu := hu.later hb7
  replace hx := hx.later hb7
  clear hb7 hq HPR
  obtain ⟨hxl, hxt⟩ := prod_len p q u hpl hul
  obtain ⟨hyl, hyt⟩ := prod_len q p u hql hul
  have HXT := Lib.hid hxt
  have HYT := Lib.hid hyt
  have HUX : Hid (Dv u (pmul p u)) := ⟨p, by omega, fun v => ev_pmul v p u⟩
  have HUY : Hid (Dv u (pmul q u)) := ⟨q, by omega, fun v => ev_pmul v q u⟩
  have HU0 : Hid (u = [] → pmul p u = [] ∧ pmul q u = []) := fun h => by rw [h]; exact ⟨pmul_nil_right _, pmul_nil_right _⟩
  generalize pmul p u = x at *
  generalize pmul q u = y at *
  clear hpl hql hxt hyt
  go_wp2_with fail
  refine (HCO.out _ _ x y _ hx hy (by rw [HXT.out]; omega) (by rw [HYT.out]; omega) (by omega) (by omega)).mono ?_
  rintro e w8 ⟨d, ⟨dA, dc⟩, rfl, hd, hCO, hb8⟩
  dsimp only at hd ⊢
  replace hb00 := bl_call hb00 (Nat.le_refl _) hb8
  replace hu := hu.later hb8
  replace hx := hx.later hb8
  replace hy := hy.later hb8
  clear hb8 HCO
  have HCX := Lib.hid hCO
  have hdl : d.length ≤ 64 := hCO.2.2.2.1
  clear hCO
  have HU := Lib.hid hu
  have HX := Lib.hid hx
  have HY := Lib.hid hy
  have HD := Lib.hid hd
  clear hu hx hy hd
  go_upto_region 8 with fail
  have hB0 := RwK.new w8 (List.replicate 65 (0 : Fin (Pm f))) (cellsE L65).toArray (by rw [← HL65.out]; unfold esK; rw [List.map_replicate, eK_zero]) 28
  have hb9 : Below w8.heap.size w8 (w8.alloc (.cells (cellsE L65).toArray 28)) := (Below.refl _ _).alloc (Nat.le_refl _) _
  obtain ⟨gt, hgt⟩ : ∃ z, w8.heap.size = z := ⟨_, rfl⟩
  have hgt0 : w8.heap.size ≤ gt := by omega
  rw [hgt] at hB0
  simp only [hgt]
  clear hgt
  generalize w8.alloc (.cells (cellsE L65).toArray 28) = w9 at hB0 hb9 ⊢
  clear hmk
  obtain ⟨c0, c1⟩ := hB0.at (i := 64) (x := 0) rfl
  obtain ⟨f0, f1⟩ := hB0.frz (i := 64) (by rw [List.length_replicate]; omega)
  have g9 := hB0.lt
  simp only [Nat.reduceMul, Nat.reduceAdd] at c0 c1 f0 f1
  go_upto_region 9 with fail
  clear c0 c1 f0 f1
  have hB1 := hB0.set 64 (by rw [List.length_replicate]; omega) 1
  rw [lo_one, hi_one] at hB1
  simp only [Nat.reduceMul, Nat.reduceAdd] at hB1
  replace hb9 := bl_set (bl_set hb9 (p := ⟨gt, 128, none⟩) (by dsimp only; omega) (.int .u64 1)) (p := ⟨gt, 129, none⟩) (by dsimp only; omega) (.int .u64 0)
  generalize (w9.setCell ⟨gt, 128, none⟩ (.int .u64 1)).setCell ⟨gt, 129, none⟩ (.int .u64 0) = w10 at hB1 hb9 ⊢
  have hls := hB1.sl (n := 65) (c := 65) (by rw [List.length_set, List.length_replicate]) (Nat.le_refl _) (by omega)
  have HLT : Hid (64 < (trim ((List.replicate 65 (0 : Fin (Pm f))).set 64 1)).length) := trim_long _ 64 (by
    rw [set_getD _ _ _ (by rw [List.length_replicate]; omega), if_pos rfl]
    rcases hf.or with rfl | rfl <;> decide +kernel)
  have HLL : Hid (((List.replicate 65 (0 : Fin (Pm f))).set 64 1).length = 65) := by show _ = _; rw [List.length_set, List.length_replicate]
  clear hB0 hB1 g9
  have hb8 : Below w.heap.size w w8 := hb00
  go_wp2_with fail
  refine (HCM.out _ _ _ x _ hls (HX.out.later hb9) HLT.out (by rw [HLL.out]; omega) (by omega)).mono ?_
  rintro e w11 ⟨rfl, hb11⟩
  replace hb9 : Below w8.heap.size w8 w11 := hb9.trans (hb11.mono hb9.size)
  clear hb11 hls HCM HLT HLL hgt0
  obtain ⟨lx, hlx⟩ : ∃ z, x.length = z := ⟨_, rfl⟩
  obtain ⟨ly, hly⟩ : ∃ z, y.length = z := ⟨_, rfl⟩
  obtain ⟨ld, hld⟩ : ∃ z, d.length = z := ⟨_, rfl⟩
  have HLX := Lib.hid hlx
  have HLY := Lib.hid hly
  have HLD := Lib.hid hld
  rw [hlx] at hxl HX ⊢
  rw [hly] at hyl HY ⊢
  rw [hld] at hdl HD ⊢
  clear hlx hly hld
  by_cases hx0 : lx = 0
  · by_cases hy0 : ly = 0
    · have HDE : Hid (d = []) := HCX.out.1.2 (by rw [HXT.out, HYT.out]; exact ⟨List.length_eq_zero_iff.1 (by rw [HLX.out, hx0]), List.length_eq_zero_iff.1 (by rw [HLY.out, hy0])⟩)
      have hd0 : ld = 0 := by rw [← HLD.out, HDE.out]; rfl
      subst hx0 hy0 hd0
      clear HX HY HD HU
      go_wp2_with fail
      go_ret
      exact ⟨rfl, bl_call hb8 (Nat.le_refl _) hb9⟩
    · have t5 : ((ly : Int) == 0) = false := by rw [beq_eq_false_iff_ne]; omega
      have t6 : ¬ (lx = 0 ∧ ly = 0) := fun h => hy0 h.2
      subst hx0
      have HDN : Hid (d ≠ []) := fun h => by
        have h2 := HCX.out.1.1 h
        rw [HXT.out, HYT.out] at h2
        have h3 := HLX.out
        have h4 := HLY.out
        rw [h2.1] at h3
        rw [h2.2] at h4
        simp only [List.length_nil] at h3 h4
        omega
      have HUN : Hid (u ≠ []) := fun h => by
        have h2 := HU0.out h
        have h3 := HLX.out
        have h4 := HLY.out
        rw [h2.1] at h3
        rw [h2.2] at h4
        simp only [List.length_nil] at h3 h4
        omega
      obtain ⟨hd1, hdx, hdy⟩ := HCX.out.2.1 HDN.out
      have HDX := Lib.hid hdx
      have HDY := Lib.hid hdy
      have HDT : Hid (trim d = d) := HCX.out.2.2.1
      have HUD : Hid (Dv u d) := HCX.out.2.2.2.2 u (by omega) HUX.out HUY.out
      have hld0 : ¬ (ld = 0) := fun h => HDN.out (List.length_eq_zero_iff.1 (by rw [HLD.out, h]))
      have t7 : ((ld : Int) == 0) = false := by rw [beq_eq_false_iff_ne]; omega
      obtain ⟨j, hj⟩ : ∃ j, ld - 1 = j := ⟨_, rfl⟩
      have hji : (ld : Int) - 1 = (j : Int) := by omega
      have hj0 : (0 : Int) ≤ (j : Int) := by omega
      have hj1 : (j : Int) < (ld : Int) := by omega
      have hjw : IntKind.i64.wrap (j : Int) = (j : Int) := IntWalk.i64_in _ (by omega)
      rw [HLD.out, hj] at hd1
      obtain ⟨z0, hz0⟩ : ∃ z, d[j]? = some z := ⟨_, List.getElem?_eq_getElem (by rw [HLD.out]; omega)⟩
      have hz1 : z0 = 1 := by rw [List.getD_eq_getElem?_getD, hz0] at hd1; exact hd1
      subst hz1
      obtain ⟨bd, od, hAe, hbd, hrow⟩ := (HD.out.later hb9).rowOf (by rw [HLD.out]; omega)
      obtain ⟨d0, d1⟩ := hrow.kat hz0
      rw [lo_one] at d0
      rw [hi_one] at d1
      subst hAe
      clear hz0 hj hrow hdx hdy hd1
      go_upto_region 16 with fail
      clear d0 d1
      have hV : Vs (w11.alloc (.cells #[.slice xA 0 xc, .slice yA ly yc] 22)) w11.heap.size [.slice xA 0 xc, .slice yA ly yc] := Vs.new _ _ _ _ rfl
      have hb12 : Below w8.heap.size w8 (w11.alloc (.cells #[.slice xA 0 xc, .slice yA ly yc] 22)) := hb9.alloc hb9.size _
      go_upto_region 17 with fail
      obtain ⟨sb, hsb⟩ : ∃ z, w11.heap.size = z := ⟨_, rfl⟩
      rw [hsb] at hV
      simp only [hsb]
      clear hsb hb9
      generalize w11.alloc (.cells #[.slice xA 0 xc, .slice yA ly yc] 22) = w12 at hV hb12 ⊢
      go_wp2_with fail
      go_loopw [106] (fun kv wr => ∃ k : Nat, k ≤ 2 ∧ kv = .int .i64 k ∧ Vs wr sb [.slice xA 0 xc, .slice yA ly yc] ∧ Below w8.heap.size w8 wr) (fun kv _ => 2 - (intOf kv).toNat)
      case atStart => exact ⟨0, by omega, rfl, hV, hb12⟩
      case round =>
        clear hV hb12
        obtain ⟨k, hk, rfl, hV, hbo⟩ := hrel
        have hdw := HD.out.later hbo
        by_cases hk2 : k < 2
        · obtain ⟨Z, lz, zc, z, hc, hz, hdz, hzl, hz10⟩ : ∃ (Z : Option Addr) (lz zc : Nat) (z : KL f), wr.cell? ⟨sb, k, none⟩ = some (.slice Z lz zc) ∧ SlK wr wr.heap.size (.slice Z lz zc) z ∧ Hid (Dv d z) ∧ Hid (z.length = lz) ∧ lz ≤ 10 := by
            have h2 : k = 0 ∨ k = 1 := by omega
            rcases h2 with rfl | rfl
            · exact ⟨_, _, _, x, hV.cell 0 _ rfl, HX.out.later hbo, HDX, HLX, hxl⟩
            · exact ⟨_, _, _, y, hV.cell 1 _ rfl, HY.out.later hbo, HDY, HLY, hyl⟩
          have g1 : (0 : Int) ≤ (k : Int) := by omega
          have g2 : (k : Int) < 2 := by omega
          have hzt := trim_le z
          go_wp2_with fail
          refine (HDI.out _ _ z d wr hz hdw (by have := hzl.out; omega) (by rw [HDT.out, HLD.out]; omega) (by rw [hzl.out]; omega) (by rw [HLD.out]; omega) (by rw [HDT.out]; exact HDN.out)).mono ?_
          rintro e w5 ⟨T, R, ⟨tA, tc⟩, ⟨rA, rc⟩, rfl, _, _, hDO, hb5⟩
          dsimp only
          obtain rfl : R = [] := div_none hdz.out (by rw [HLD.out]; omega) HDT.out (by rw [hzl.out]; omega) hDO
          replace hV := Vs.call hV hb5
          replace hbo := hbo.trans (hb5.mono hbo.size)
          clear hDO hb5 hz hc hzt
          simp only [List.length_nil]
          go_wp2_with fail
          go_roundw
          case rel => exact ⟨k + 1, by omega, by go_num, hV, hbo⟩
          case measure => simp [intOf]; omega
        · obtain hke : k = 2 := by omega
          subst hke
          clear hV
          have hut := trim_le u
          have hdt := HDT.out
          go_wp2_with fail
          refine (HDI.out _ _ d u wr hdw (HU.out.later hbo) (by rw [HDT.out, HLD.out]; omega) (by omega) (by rw [HLD.out]; omega) (by omega) (by rw [HUT.out]; exact HUN.out)).mono ?_
          rintro e w5 ⟨T, R, ⟨tA, tc⟩, ⟨rA, rc⟩, rfl, _, _, hDO, hb5⟩
          dsimp only
          obtain rfl : R = [] := div_none HUD.out (by omega) HUT.out (by rw [HLD.out]; omega) hDO
          replace hbo := hbo.trans (hb5.mono hbo.size)
          clear hDO hb5 hdw
          simp only [List.length_nil]
          go_wp2_with fail
          go_ret
          exact ⟨rfl, bl_call hb8 (Nat.le_refl _) hbo⟩
  · have t5 : ((lx : Int) == 0) = false := by rw [beq_eq_false_iff_ne]; omega
    have t6 : ¬ (lx = 0 ∧ ly = 0) := fun h => hx0 h.1
    have HDN : Hid (d ≠ []) := fun h => by
      have h2 := HCX.out.1.1 h
      rw [HXT.out, HYT.out] at h2
      have h3 := HLX.out
      have h4 := HLY.out
      rw [h2.1] at h3
      rw [h2.2] at h4
      simp only [List.length_nil] at h3 h4
      omega
    have HUN : Hid (u ≠ []) := fun h => by
      have h2 := HU0.out h
      have h3 := HLX.out
      have h4 := HLY.out
      rw [h2.1] at h3
      rw [h2.2] at h4
      simp only [List.length_nil] at h3 h4
      omega
    obtain ⟨hd1, hdx, hdy⟩ := HCX.out.2.1 HDN.out
    have HDX := Lib.hid hdx
    have HDY := Lib.hid hdy
    have HDT : Hid (trim d = d) := HCX.out.2.2.1
    have HUD : Hid (Dv u d) := HCX.out.2.2.2.2 u (by omega) HUX.out HUY.out
    have hld0 : ¬ (ld = 0) := fun h => HDN.out (List.length_eq_zero_iff.1 (by rw [HLD.out, h]))
    have t7 : ((ld : Int) == 0) = false := by rw [beq_eq_false_iff_ne]; omega
    obtain ⟨j, hj⟩ : ∃ j, ld - 1 = j := ⟨_, rfl⟩
    have hji : (ld : Int) - 1 = (j : Int) := by omega
    have hj0 : (0 : Int) ≤ (j : Int) := by omega
    have hj1 : (j : Int) < (ld : Int) := by omega
    have hjw : IntKind.i64.wrap (j : Int) = (j : Int) := IntWalk.i64_in _ (by omega)
    rw [HLD.out, hj] at hd1
    obtain ⟨z0, hz0⟩ : ∃ z, d[j]? = some z := ⟨_, List.getElem?_eq_getElem (by rw [HLD.out]; omega)⟩
    have hz1 : z0 = 1 := by rw [List.getD_eq_getElem?_getD, hz0] at hd1; exact hd1
    subst hz1
    obtain ⟨bd, od, hAe, hbd, hrow⟩ := (HD.out.later hb9).rowOf (by rw [HLD.out]; omega)
    obtain ⟨d0, d1⟩ := hrow.kat hz0
    rw [lo_one] at d0
    rw [hi_one] at d1
    subst hAe
    clear hz0 hj hrow hdx hdy hd1
    go_upto_region 16 with fail
    clear d0 d1
    have hV : Vs (w11.alloc (.cells #[.slice xA lx xc, .slice yA ly yc] 22)) w11.heap.size [.slice xA lx xc, .slice yA ly yc] := Vs.new _ _ _ _ rfl
    have hb12 : Below w8.heap.size w8 (w11.alloc (.cells #[.slice xA lx xc, .slice yA ly yc] 22)) := hb9.alloc hb9.size _
    go_upto_region 17 with fail
    obtain ⟨sb, hsb⟩ : ∃ z, w11.heap.size = z := ⟨_, rfl⟩
    rw [hsb] at hV
    simp only [hsb]
    clear hsb hb9
    generalize w11.alloc (.cells #[.slice xA lx xc, .slice yA ly yc] 22) = w12 at hV hb12 ⊢
    go_wp2_with fail
    go_loopw [106] (fun kv wr => ∃ k : Nat, k ≤ 2 ∧ kv = .int .i64 k ∧ Vs wr sb [.slice xA lx xc, .slice yA ly yc] ∧ Below w8.heap.size w8 wr) (fun kv _ => 2 - (intOf kv).toNat)
    case atStart => exact ⟨0, by omega, rfl, hV, hb12⟩
    case round =>
      clear hV hb12
      obtain ⟨k, hk, rfl, hV, hbo⟩ := hrel
      have hdw := HD.out.later hbo
      by_cases hk2 : k < 2
      · obtain ⟨Z, lz, zc, z, hc, hz, hdz, hzl, hz10⟩ : ∃ (Z : Option Addr) (lz zc : Nat) (z : KL f), wr.cell? ⟨sb, k, none⟩ = some (.slice Z lz zc) ∧ SlK wr wr.heap.size (.slice Z lz zc) z ∧ Hid (Dv d z) ∧ Hid (z.length = lz) ∧ lz ≤ 10 := by
          have h2 : k = 0 ∨ k = 1 := by omega
          rcases h2 with rfl | rfl
          · exact ⟨_, _, _, x, hV.cell 0 _ rfl, HX.out.later hbo, HDX, HLX, hxl⟩
          · exact ⟨_, _, _, y, hV.cell 1 _ rfl, HY.out.later hbo, HDY, HLY, hyl⟩
        have g1 : (0 : Int) ≤ (k : Int) := by omega
        have g2 : (k : Int) < 2 := by omega
        have hzt := trim_le z
        go_wp2_with fail
        refine (HDI.out _ _ z d wr hz hdw (by have := hzl.out; omega) (by rw [HDT.out, HLD.out]; omega) (by rw [hzl.out]; omega) (by rw [HLD.out]; omega) (by rw [HDT.out]; exact HDN.out)).mono ?_
        rintro e w5 ⟨T, R, ⟨tA, tc⟩, ⟨rA, rc⟩, rfl, _, _, hDO, hb5⟩
        dsimp only
        obtain rfl : R = [] := div_none hdz.out (by rw [HLD.out]; omega) HDT.out (by rw [hzl.out]; omega) hDO
        replace hV := Vs.call hV hb5
        replace hbo := hbo.trans (hb5.mono hbo.size)
        clear hDO hb5 hz hc hzt
        simp only [List.length_nil]
        go_wp2_with fail
        go_roundw
        case rel => exact ⟨k + 1, by omega, by go_num, hV, hbo⟩
        case measure => simp [intOf]; omega
      · obtain hke : k = 2 := by omega
        subst hke
        clear hV
        have hut := trim_le u
        have hdt := HDT.out
        go_wp2_with fail
        refine (HDI.out _ _ d u wr hdw (HU.out.later hbo) (by rw [HDT.out, HLD.out]; omega) (by omega) (by rw [HLD.out]; omega) (by omega) (by rw [HUT.out]; exact HUN.out)).mono ?_
        rintro e w5 ⟨T, R, ⟨tA, tc⟩, ⟨rA, rc⟩, rfl, _, _, hDO, hb5⟩
        dsimp only
        obtain rfl : R = [] := div_none HUD.out (by omega) HUT.out (by rw [HLD.out]; omega) hDO
        replace hbo := hbo.trans (hb5.mono hbo.size)
        clear hDO hb5 hdw
        simp only [List.length_nil]
        go_wp2_with fail
        go_ret
        exact ⟨rfl, bl_call hb8 (Nat.le_refl _) hbo⟩

end Go.Proofs.YtfhmineolncefaaDoor
