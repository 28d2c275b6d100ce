/-
 ClD, ClT, ClU, ClV, ClW: for ClientPlays.
-/
import Derived.BigQuiet
import Derived.Laws.Bits64b
import Derived.Test.YtbakkmfjamcbfaaSaa
namespace Go.Proofs.Ytbakkmfjamcbfaa
open Go.RowKit Fm
set_option linter.unusedVariables false
set_option maxRecDepth 100000

def RdB (w : World) (A : Option Addr) (n : Nat) (xs : List Int) : Prop := xs.length = n ∧ n ≤ 1000000 ∧ (0 < n → ∃ b o, A = some ⟨b, o, none⟩ ∧ b < w.heap.size ∧ RowB w b o xs)
theorem RdB.call {w w' : World} {A : Option Addr} {n : Nat} {xs : List Int} (h : RdB w A n xs) (hb : Below w.heap.size w w') : RdB w' A n xs :=
 ⟨h.1, h.2.1, fun hn => by
  obtain ⟨b, o, h1, h2, h3⟩ := h.2.2 hn
  exact ⟨b, o, h1, Nat.lt_of_lt_of_le h2 hb.size, h3.belowB hb h2⟩⟩

def RetRaw (id : List Int) (now : Int) (n0 n1 n2 : Nat) (zs0 zs1 zs2 : List Int) (w : World) (e : Ending) (w' : World) : Prop :=
 (∃ ec, ec ≠ 0 ∧ ec = (if entC now 0 n0 n1 = 0 then entC now 0 n0 n2 else entC now 0 n0 n1) ∧ e = .returned (.tuple #[.pointer none, .int .i64 ec]) ∧ Below w.heap.size w w') ∨
   (entC now 0 n0 n1 = 0 ∧ entC now 0 n0 n2 = 0 ∧ ∃ (cb : Nat) (v0 v1 : Value), e = .returned (.tuple #[.pointer (some ⟨cb, 0, none⟩), .int .i64 0]) ∧ w.heap.size ≤ cb ∧ Vs w' cb (clL id (msgL 1 0 0 0 z16 0 v0) (msgL 1 0 0 0 z16 0 v1) false false 0 0 0 1 0) ∧ ClE (cb + 1) w' id now 0 zs0 zs1 n0 n1 v0 ∧ ClE (cb + 1) w' id now 0 zs0 zs2 n0 n2 v1 ∧ Below w.heap.size w w')
theorem ClE.mono {B B' : Nat} {w' : World} {id : List Int} {time code : Int} {xs ys : List Int} {n n' : Nat} {v : Value} (h : ClE B w' id time code xs ys n n' v) (hB : B' ≤ B) : ClE B' w' id time code xs ys n n' v := by
 obtain ⟨A2, A3, c2, c3, g, cg, h1, h2, h3, h4, h5, h6⟩ := h
 exact ⟨A2, A3, c2, c3, g, cg, h1, Nat.le_trans hB h2, h3, own_base9 h4 hB, own_base9 h5 hB, h6⟩
theorem ClE.exc {B b : Nat} {w w' : World} {id : List Int} {time code : Int} {xs ys : List Int} {n n' : Nat} {v : Value} (h : ClE B w id time code xs ys n n' v) (hb : b < B) (hex : Exc (fun q => q = b) w.heap.size w w') : ClE B w' id time code xs ys n n' v := by
 obtain ⟨A2, A3, c2, c3, g, cg, h1, h2, h3, h4, h5, h6⟩ := h
 exact ⟨A2, A3, c2, c3, g, cg, h1, h2, h3.exc (S := fun q => q = b) (fun h => by
  have h9 : g = b := h
  omega) hex, own_other h4 hex (fun q hq h => by
  have h9 : q = b := h
  have := (World.ownsRow.lt h4 q hq).1
  omega), own_other h5 hex (fun q hq h => by
  have h9 : q = b := h
  have := (World.ownsRow.lt h5 q hq).1
  omega), h6⟩
theorem ClE.set {B : Nat} {w' : World} {id : List Int} {time code : Int} {xs ys : List Int} {n n' : Nat} {v : Value} (h : ClE B w' id time code xs ys n n' v) {b : Nat} (hb : b < B) (o : Nat) (l : List Value) : ClE B (w'.setCells b o l) id time code xs ys n n' v := by
 obtain ⟨A2, A3, c2, c3, g, cg, h1, h2, h3, h4, h5, h6⟩ := h
 have hex := exc_setCells (S := fun q => q = b) (B := w'.heap.size) b rfl l o w' (exc_of (Below.refl _ _))
 exact ⟨A2, A3, c2, c3, g, cg, h1, h2, Vs.farW h3 (b' := b) (by omega) o l, own_other h4 hex (fun q hq h => by
  have h9 : q = b := h
  have := (World.ownsRow.lt h4 q hq).1
  omega), own_other h5 hex (fun q hq h => by
  have h9 : q = b := h
  have := (World.ownsRow.lt h5 q hq).1
  omega), h6⟩

set_option maxHeartbeats 8000000 in
theorem client_Raw (id : List Int) (hid : id.length = 16) (now : Int) (A0 A1 A2 : Option Addr) (n0 c0 n1 c1 n2 c2 : Nat) (zs0 zs1 zs2 : List Int) (w : World) (h0 : RdB w A0 n0 zs0) (h1 : RdB w A1 n1 zs1) (h2 : RdB w A2 n2 zs2) :
  Calls Try.prog 15 #[.agg (cells8 id).toArray, .int .u64 now, .slice A0 n0 c0, .slice A1 n1 c1, .slice A2 n2 c2] w (RetRaw id now n0 n1 n2 zs0 zs1 zs2 w) := by
 have HID := Lib.hid hid
 have H0 := Lib.hid h0
 have H1 := Lib.hid h1
 have H2 := Lib.hid h2
 clear hid h0 h1 h2
 go_enter Try.func15, Try.ntmps15
 go_upto_region 1 with fail
 have hI := Vs.new w (cells8 id) ((cells8 id).toArray) 34 rfl
 have hb00 : Below w.heap.size w (w.alloc (.cells (cells8 id).toArray 34)) := by repeat (first | exact bA | with_reducible assumption | apply bB)
 have hszn : w.heap.size + 1 ≤ (w.alloc (.cells (cells8 id).toArray 34)).heap.size := by simp only [World.size_alloc]; omega
 generalize (w.alloc (.cells (cells8 id).toArray 34)) = w1 at hI hb00 hszn ⊢
 refine wp_region_lit ?_
 refine wpList_valD (some 16) rfl rfl (exec_load rfl (by kernel_rfl) (hI.loadId HID.out)) ?_
 simp only [Zp, Zq, Zr, Zs]
 refine wpList_valD (some 17) rfl rfl (exec_build rfl (by kernel_rfl) (build_cl HID.out _)) ?_
 simp only [Zp, Zq, Zr, Zs]
 refine wpList_valD (some 18) rfl rfl (by (skip; go_simp; first | with_reducible rfl | exact ⟨rfl, rfl⟩ | (trace_state; fail))) ?_
 simp only [Zp, Zq, Zr, Zs]
 have hC := Vs.new w1 (clL id mz mz false false 0 0 0 1 0) _ 131 rfl
 have hbA := (Below.refl w1.heap.size w1).alloc (Nat.le_refl _) (.cells (clL id mz mz false false 0 0 0 1 0).toArray 131)
 refine wpList_valD (some 12) rfl rfl (by (go_simp; first | with_reducible rfl | exact ⟨rfl, rfl⟩ | (trace_state; fail))) ?_
 simp only [Zp, Zq, Zr, Zs]
 have hil := hI.lt
 replace hb00 := bl_call hb00 (Nat.le_refl _) hbA
 replace hI := hI.call hbA
 clear hbA
 generalize w1.alloc (.cells (clL id mz mz false false 0 0 0 1 0).toArray 131) = w2 at hC hI hb00 ⊢
 obtain ⟨cb, hcb⟩ : ∃ z, w1.heap.size = z := ⟨_, rfl⟩
 rw [hcb] at hC hil
 simp only [hcb]
 clear hcb
 go_upto_region 2 with fail
 refine wp_region_lit ?_
 refine wpList_valD (some 19) rfl rfl (by (go_simp; first | with_reducible rfl | exact ⟨rfl, rfl⟩ | (trace_state; fail))) ?_
 simp only [Zp, Zq, Zr, Zs]
 refine wpList_valD (some 20) rfl rfl (by (go_simp; first | with_reducible rfl | exact ⟨rfl, rfl⟩ | (trace_state; fail))) ?_
 simp only [Zp, Zq, Zr, Zs]
 refine wpList_valD (some 21) rfl rfl (by (skip; go_simp; first | with_reducible rfl | exact ⟨rfl, rfl⟩ | (trace_state; fail))) ?_
 simp only [Zp, Zq, Zr, Zs]
 have hS := Vs.new w2 [.slice A1 n1 c1, .slice A2 n2 c2] _ 28 rfl
 have hbA := (Below.refl w2.heap.size w2).alloc (Nat.le_refl _) (.cells #[.slice A1 n1 c1, .slice A2 n2 c2] 28)
 refine wpList_valD (some 22) rfl rfl (by (go_simp; first | with_reducible rfl | exact ⟨rfl, rfl⟩ | (trace_state; fail))) ?_
 simp only [Zp, Zq, Zr, Zs]
 refine wpList_valD (some 23) rfl rfl (by (go_simp; first | with_reducible rfl | exact ⟨rfl, rfl⟩ | (trace_state; fail))) ?_
 simp only [Zp, Zq, Zr, Zs]
 have hcl := hC.lt
 replace hb00 := bl_call hb00 (Nat.le_refl _) hbA
 replace hI := hI.call hbA
 replace hC := hC.call hbA
 clear hbA
 generalize w2.alloc (.cells #[.slice A1 n1 c1, .slice A2 n2 c2] 28) = w3 at hS hC hI hb00 ⊢
 obtain ⟨sb, hsb⟩ : ∃ z, w2.heap.size = z := ⟨_, rfl⟩
 rw [hsb] at hS hcl
 simp only [hsb]
 clear hsb
 go_wp2_with fail
 go_loopw [23] (fun i wr => ∃ (k : Nat) (m0 m1 : List Value), k ≤ 2 ∧ i = .int .i64 k ∧ Vs wr cb (clL id m0 m1 false false 0 0 0 1 0) ∧ m0.length = 22 ∧ m1.length = 22 ∧ (1 ≤ k → ∃ v0, m0 = msgL 1 0 0 0 z16 0 v0 ∧ ClE (cb + 1) wr id now 0 zs0 zs1 n0 n1 v0 ∧ entC now 0 n0 n1 = 0) ∧ (2 ≤ k → ∃ v1, m1 = msgL 1 0 0 0 z16 0 v1 ∧ ClE (cb + 1) wr id now 0 zs0 zs2 n0 n2 v1 ∧ entC now 0 n0 n2 = 0) ∧ Vs wr w.heap.size (cells8 id) ∧ Vs wr sb [.slice A1 n1 c1, .slice A2 n2 c2] ∧ Below w.heap.size w wr) (fun i _ => 2 - (intOf i).toNat)
 case atStart => exact ⟨0, mz, mz, by omega, rfl, hC, mz_length, mz_length, fun h => by omega, fun h => by omega, hI, hS, hb00⟩
 case round =>
  clear hC hI hS hb00
  obtain ⟨k, m0, m1, hk, rfl, hC, hm0, hm1, hk1, hk2, hI, hS, hbw⟩ := hrel
  have HK1 := Lib.hid hk1
  have HK2 := Lib.hid hk2
  have HM0 := Lib.hid hm0
  have HM1 := Lib.hid hm1
  clear hk1 hk2 hm0 hm1
  by_cases hlt : k < 2
  ·by_cases hk0 : k < 1
   ·obtain rfl : k = 0 := by omega
    clear hlt hk0 hk HK1 HK2
    have s0 := hS.cell 0 _ rfl
    have hsl := hS.lt
    go_upto_region 5 with fail
    rw [show ((0 : Nat) : Int) = 0 from rfl]
    clear s0 hsl
    have HBW := Lib.hid hbw
    have HII := Lib.hid hI
    have hCl : ∀ v, Clo fun w => ClE (cb + 1) w id now 0 zs0 zs1 n0 n1 v := fun v w w' h hb => ClE.call h hb
    have HCO := Lib.hid hCl
    have HCB := Lib.hid hC.lt
    have HRD : Hid (∀ wz, Exc (fun q => q = cb) wr.heap.size wr wz → Below w.heap.size w wz) := Lib.hid fun wz h => HBW.out.trans (exc_own (h.mono HBW.out.size) (Nat.le_of_lt hil))
    have HLD : Hid (∀ wz, Exc (fun q => q = cb) wr.heap.size wr wz → Vs wz w.heap.size (cells8 id)) := Lib.hid fun wz h => HII.out.exc (S := fun q => q = cb) (fun e => by
     have e2 : w.heap.size = cb := e
     omega) h
    have HCALL : Hid (∀ (g : Nat) wz, Exc (fun q => q = cb) wr.heap.size wr wz → Vs wz g (entL id now (.slice A0 n0 c0) (.slice A1 n1 c1) 0) → Calls Try.prog 50 #[.agg (msgL 1 0 0 0 z16 0 (.slice (some ⟨g, 0, none⟩) 1 1)).toArray] wz fun e w' => ∃ v, e = .returned (.agg (msgL 1 0 0 0 z16 0 v).toArray) ∧ ClE (cb + 1) w' id now 0 zs0 zs1 n0 n1 v ∧ Below wz.heap.size wz w') := Lib.hid fun g wz h hv => by
     have q0 := H0.out.call (HRD.out wz h)
     have q1 := H1.out.call (HRD.out wz h)
     have hsz := h.size
     have hcb := HCB.out
     exact (msg_Clone1 id HID.out now 0 A0 A1 n0 c0 n1 c1 g 1 zs0 zs1 q0.1 q1.1 q0.2.1 q1.2.1 wz q0.2.2 q1.2.2 hv).mono fun e w' ⟨v, he, hcl, hb⟩ => ⟨v, he, ClE.mono hcl (by omega), hb⟩
    clear hbw hI hCl
    apply region_Z2 (n := 13) (m := 14) (f := 13) (fun x0 x1 => (fun o1 o2 => ReK wr cb (entL id now (.slice A0 n0 c0) (.slice A1 n1 c1) 0) (fun w v => ClE (cb + 1) w id now 0 zs0 zs1 n0 n1 v) (clL id m0 m1 false false 0 0 0 1 0) (fun v => clL id (msgL 1 0 0 0 z16 0 v) m1 false false 0 0 0 1 0) o1 o2 false) (some x0) (some x1) ) ((ReT wr cb) none none) ((fun o1 o2 => ReK wr cb (entL id now (.slice A0 n0 c0) (.slice A1 n1 c1) 0) (fun w v => ClE (cb + 1) w id now 0 zs0 zs1 n0 n1 v) (clL id m0 m1 false false 0 0 0 1 0) (fun v => clL id (msgL 1 0 0 0 z16 0 v) m1 false false 0 0 0 1 0) o1 o2 false) none none) ((ReK.weak _ _ _)) ((ReK.clo HCO.out)) ((ReK.start hC))
    case hm => kernel_rfl
    case hB => kernel_rfl
    case hf => rfl
    case' h =>
     refine WpX.vD 0 (some 28) ?_ rfl rfl (by kernel_rfl) (fun _ _ _ h => h) rfl (fun wz hwz => ?_) ?_
     rotate_left
     ·go_simp; try (with_reducible rfl)
     simp only [Zp, Zq, Zr, Zs]
     refine WpX.vD 1 (some 29) ?_ rfl rfl (by kernel_rfl) (fun _ _ _ h => h) rfl (fun wz hwz => ?_) ?_
     rotate_left
     ·go_simp; try (with_reducible rfl)
     simp only [Zp, Zq, Zr, Zs]
     refine WpX.vD 2 (some 30) ?_ rfl rfl (by kernel_rfl) (fun _ _ _ h => h) rfl (fun wz hwz => ?_) ?_
     rotate_left
     ·(refine Eq.trans (exec_load rfl (by kernel_rfl) ((HLD.out wz hwz).loadId HID.out)) ?_; with_reducible rfl)
     simp only [Zp, Zq, Zr, Zs]
     refine WpX.vD 3 (some 31) ?_ rfl rfl (by kernel_rfl) (fun _ _ _ h => h) rfl (fun wz hwz => ?_) ?_
     rotate_left
     ·go_simp; try (with_reducible rfl)
     simp only [Zp, Zq, Zr, Zs]
     refine WpX.vD 4 (some 32) ?_ rfl rfl (by kernel_rfl) (fun _ _ _ h => h) rfl (fun wz hwz => ?_) ?_
     rotate_left
     ·go_simp; try (with_reducible rfl)
     simp only [Zp, Zq, Zr, Zs]
     refine WpX.vD 5 (some 33) ?_ rfl rfl (by kernel_rfl) (fun _ _ _ h => h) rfl (fun wz hwz => ?_) ?_
     rotate_left
     ·go_simp; try (with_reducible rfl)
     simp only [Zp, Zq, Zr, Zs]
     refine WpX.vD 6 (some 34) ?_ rfl rfl (by kernel_rfl) (fun _ _ _ h => h) rfl (fun wz hwz => ?_) ?_
     rotate_left
     ·(refine Eq.trans (exec_build rfl (by kernel_rfl) (build_ent HID.out now A0 A1 n0 c0 n1 c1 wz)) ?_; with_reducible rfl)
     simp only [Zp, Zq, Zr, Zs]
     refine WpX.vD 10 (some 38) ?_ rfl rfl (by kernel_rfl) (fun _ _ _ h => h) rfl (fun wz hwz => ?_) ?_
     rotate_left
     ·go_simp; try (with_reducible rfl)
     simp only [Zp, Zq, Zr, Zs]
     refine WpX.vD 11 (some 39) ?_ rfl rfl (by kernel_rfl) (fun _ _ _ h => h) rfl (fun wz hwz => ?_) ?_
     rotate_left
     ·go_simp; try (with_reducible rfl)
     simp only [Zp, Zq, Zr, Zs]
     refine WpX.oneD 7 (some 35) rfl rfl (by kernel_rfl) (fun g : Nat => Value.slice (some ⟨g, 0, none⟩) 1 1) (fun g1 => (ReT wr cb) (some g1) none) (fun g1 => (fun o1 o2 => ReK wr cb (entL id now (.slice A0 n0 c0) (.slice A1 n1 c1) 0) (fun w v => ClE (cb + 1) w id now 0 zs0 zs1 n0 n1 v) (clL id m0 m1 false false 0 0 0 1 0) (fun v => clL id (msgL 1 0 0 0 z16 0 v) m1 false false 0 0 0 1 0) o1 o2 false) (some g1) none) (Turns.val rfl (fun _ _ h => h) (fun _ => (ReK.weak _ _ _)) (fun _ => (ReK.clo HCO.out)) (fun wz hS => ⟨wz.heap.size, wz.alloc (.cells (entL id now (.slice A0 n0 c0) (.slice A1 n1 c1) 0).toArray 44), exec_buildSlice rfl (by kernel_rfl) (build_entry HID.out now 0 A0 A1 n0 c0 n1 c1 wz), hS.mkA HCO.out rfl⟩)) (fun g1 => ?_)
     simp only [Zp, Zq, Zr, Zs]
     refine WpX.vD 8 (some 36) ?_ rfl rfl (by kernel_rfl) (fun _ _ _ h => h) rfl (fun wz hwz => ?_) ?_
     rotate_left
     ·(refine Eq.trans (exec_build rfl (by kernel_rfl) (build_msg1 g1 wz)) ?_; with_reducible rfl)
     simp only [Zp, Zq, Zr, Zs]
     refine WpX.oneD 9 (some 37) rfl rfl (by kernel_rfl) (fun v : Value => Value.agg (msgL 1 0 0 0 z16 0 v).toArray) (fun v2 => (ReT wr cb) (some g1) (some v2)) (fun v2 => (fun o1 o2 => ReK wr cb (entL id now (.slice A0 n0 c0) (.slice A1 n1 c1) 0) (fun w v => ClE (cb + 1) w id now 0 zs0 zs1 n0 n1 v) (clL id m0 m1 false false 0 0 0 1 0) (fun v => clL id (msgL 1 0 0 0 z16 0 v) m1 false false 0 0 0 1 0) o1 o2 false) (some g1) (some v2)) (Turns.call rfl (fun _ _ h => h) (fun _ => (ReK.weak _ _ _)) (fun _ => (ReK.clo HCO.out)) (fun wz hS => (HCALL.out g1 wz hS.t (hS.a g1 rfl).2).mono fun e w' ⟨v, he, hcl, hb'⟩ => ⟨v, he, hS.mkB HCO.out v hb' hcl⟩) (fun wz hS => by go_simp; try (with_reducible rfl))) (fun v2 => ?_)
     simp only [Zp, Zq, Zr, Zs]
     refine WpX.vD 12 (some 40) ?_ rfl rfl (by kernel_rfl) (fun _ _ _ h => h) rfl (fun wz hwz => ?_) ?_
     rotate_left
     ·go_simp; try (with_reducible rfl)
     simp only [Zp, Zq, Zr, Zs]
     refine WpX.done (by kernel_rfl) (fun w6 hZ => ⟨g1, v2, rfl, ?_⟩)
     ·exact hZ
    intro g1 v2 w6 hZ
    (try simp only [List.drop_succ_cons]); (try simp only [List.drop_zero]); (try simp only [Nat.reduceSub]); (try simp only [List.take_succ_cons]); (try simp only [List.take_zero])
    have hst := (hZ.v rfl).storeUp0 HID.out HM0.out (m := msgL 1 0 0 0 z16 0 v2) (msgL_length z16_length) (msgL_one 1 0 0 0 z16 0 (es := v2) (by obtain ⟨_, _, _, _, _, _, h9, _⟩ := hZ.b v2 rfl; rw [h9]; rfl))
    have hE := ClE.set (hZ.b v2 rfl) (Nat.lt_succ_self cb) 16 (msgL 1 0 0 0 z16 0 v2)
    have hexz := exc_setCells (S := fun q => q = cb) (B := wr.heap.size) cb rfl (msgL 1 0 0 0 z16 0 v2) 16 w6 hZ.t
    have hI := HLD.out _ hexz
    have hbw := HRD.out _ hexz
    have hS2 := hS.exc (S := fun q => q = cb) (fun e => by
     have e2 : sb = cb := e
     omega) hexz
    have hV := hst.2
    clear hS hZ hexz HBW HII HCB HRD HLD HCALL HCO
    refine wpList_skipD rfl rfl (exec_store rfl (by kernel_rfl) (by kernel_rfl) hst.1) ?_
    clear hst
    go_upto_region 6 with fail
    generalize w6.setCells cb 16 (msgL 1 0 0 0 z16 0 v2) = w7 at hE hI hbw hS2 hV ⊢
    have HE := Lib.hid hE
    obtain ⟨A5, A6, c5, c6, g5, cg5, rfl, _, hEg, _, _⟩ := hE
    have HCK := Lib.hid (msg_Check1 id HID.out now 0 A5 A6 n0 c5 n1 c6 g5 cg5 w7 hEg)
    obtain ⟨ec, hec⟩ : ∃ z, entC now 0 n0 n1 = z := ⟨_, rfl⟩
    rw [hec] at HCK
    have HEC := Lib.hid hec
    clear hec hEg
    refine wp_region_lit ?_
    refine wpList_valD (some 41) rfl rfl (by (go_simp; first | with_reducible rfl | exact ⟨rfl, rfl⟩ | (trace_state; fail))) ?_
    simp only [Zp, Zq, Zr, Zs]
    refine wpList_valD (some 42) rfl rfl (by (go_simp; first | with_reducible rfl | exact ⟨rfl, rfl⟩ | (trace_state; fail))) ?_
    simp only [Zp, Zq, Zr, Zs]
    refine wpList_valD (some 43) rfl rfl (by (go_simp; first | with_reducible rfl | exact ⟨rfl, rfl⟩ | (trace_state; fail))) ?_
    simp only [Zp, Zq, Zr, Zs]
    refine wpList_valD (some 44) rfl rfl (by (go_simp; first | with_reducible rfl | exact ⟨rfl, rfl⟩ | (trace_state; fail))) ?_
    simp only [Zp, Zq, Zr, Zs]
    refine wpList_valD (some 45) rfl rfl (by (go_simp; first | with_reducible rfl | exact ⟨rfl, rfl⟩ | (trace_state; fail))) ?_
    simp only [Zp, Zq, Zr, Zs]
    refine wpList_valD (some 46) rfl rfl (exec_load rfl (by kernel_rfl) (hV.loadUp0 HID.out (msgL_length z16_length))) ?_
    simp only [Zp, Zq, Zr, Zs]
    refine wpList_callD (some 47) rfl rfl 49 _ ?_ (HCK.out) ?_
    ·go_simp; try (with_reducible rfl)
    rintro e w8 ⟨rfl, hb8⟩
    refine ⟨_, rfl, ?_⟩
    simp only [Zp, Zq, Zr, Zs]
    have hE8 := HE.out.call hb8
    replace hbw := bl_call hbw (Nat.le_refl _) hb8
    replace hI := hI.call hb8
    replace hV := hV.call hb8
    replace hS2 := hS2.call hb8
    clear hb8
    refine wpList_valD (some 15) rfl rfl (by (go_simp; first | with_reducible rfl | exact ⟨rfl, rfl⟩ | (trace_state; fail))) ?_
    simp only [Zp, Zq, Zr, Zs]
    by_cases hz : ec = 0
    ·have hzb : (ec != 0) = false := by simpa using hz
     have HZ := Lib.hid hz
     clear hz
     go_wp2_with fail
     go_roundw
     case rel => exact ⟨1, _, m1, by omega, by go_num, hV, msgL_length z16_length, HM1.out, fun _ => ⟨_, rfl, hE8, by rw [HEC.out]; exact HZ.out⟩, fun h => by omega, hI, hS2, hbw⟩
     case measure => simp [intOf]
    ·have hzb : (ec != 0) = true := by simpa using hz
     have HZ := Lib.hid hz
     clear hz
     go_wp2_with fail
     go_ret2
     exact Or.inl ⟨ec, HZ.out, by rw [HEC.out, if_neg HZ.out], rfl, hbw⟩
   ·obtain rfl : k = 1 := by omega
    clear hlt hk0 hk HK2
    have s0 := hS.cell 1 _ rfl
    have hsl := hS.lt
    go_upto_region 5 with fail
    rw [show ((1 : Nat) : Int) = 1 from rfl]
    clear s0 hsl
    have HBW := Lib.hid hbw
    have HII := Lib.hid hI
    have hCl : ∀ v, Clo fun w => ClE (cb + 1) w id now 0 zs0 zs2 n0 n2 v := fun v w w' h hb => ClE.call h hb
    have HCO := Lib.hid hCl
    have HCB := Lib.hid hC.lt
    have HRD : Hid (∀ wz, Exc (fun q => q = cb) wr.heap.size wr wz → Below w.heap.size w wz) := Lib.hid fun wz h => HBW.out.trans (exc_own (h.mono HBW.out.size) (Nat.le_of_lt hil))
    have HLD : Hid (∀ wz, Exc (fun q => q = cb) wr.heap.size wr wz → Vs wz w.heap.size (cells8 id)) := Lib.hid fun wz h => HII.out.exc (S := fun q => q = cb) (fun e => by
     have e2 : w.heap.size = cb := e
     omega) h
    have HCALL : Hid (∀ (g : Nat) wz, Exc (fun q => q = cb) wr.heap.size wr wz → Vs wz g (entL id now (.slice A0 n0 c0) (.slice A2 n2 c2) 0) → Calls Try.prog 50 #[.agg (msgL 1 0 0 0 z16 0 (.slice (some ⟨g, 0, none⟩) 1 1)).toArray] wz fun e w' => ∃ v, e = .returned (.agg (msgL 1 0 0 0 z16 0 v).toArray) ∧ ClE (cb + 1) w' id now 0 zs0 zs2 n0 n2 v ∧ Below wz.heap.size wz w') := Lib.hid fun g wz h hv => by
     have q0 := H0.out.call (HRD.out wz h)
     have q1 := H2.out.call (HRD.out wz h)
     have hsz := h.size
     have hcb := HCB.out
     exact (msg_Clone1 id HID.out now 0 A0 A2 n0 c0 n2 c2 g 1 zs0 zs2 q0.1 q1.1 q0.2.1 q1.2.1 wz q0.2.2 q1.2.2 hv).mono fun e w' ⟨v, he, hcl, hb⟩ => ⟨v, he, ClE.mono hcl (by omega), hb⟩
    clear hbw hI hCl
    apply region_Z2 (n := 13) (m := 14) (f := 13) (fun x0 x1 => (fun o1 o2 => ReK wr cb (entL id now (.slice A0 n0 c0) (.slice A2 n2 c2) 0) (fun w v => ClE (cb + 1) w id now 0 zs0 zs2 n0 n2 v) (clL id m0 m1 false false 0 0 0 1 0) (fun v => clL id m0 (msgL 1 0 0 0 z16 0 v) false false 0 0 0 1 0) o1 o2 false) (some x0) (some x1) ) ((ReT wr cb) none none) ((fun o1 o2 => ReK wr cb (entL id now (.slice A0 n0 c0) (.slice A2 n2 c2) 0) (fun w v => ClE (cb + 1) w id now 0 zs0 zs2 n0 n2 v) (clL id m0 m1 false false 0 0 0 1 0) (fun v => clL id m0 (msgL 1 0 0 0 z16 0 v) false false 0 0 0 1 0) o1 o2 false) none none) ((ReK.weak _ _ _)) ((ReK.clo HCO.out)) ((ReK.start hC))
    case hm => kernel_rfl
    case hB => kernel_rfl
    case hf => rfl
    case' h =>
     refine WpX.vD 0 (some 28) ?_ rfl rfl (by kernel_rfl) (fun _ _ _ h => h) rfl (fun wz hwz => ?_) ?_
     rotate_left
     ·go_simp; try (with_reducible rfl)
     simp only [Zp, Zq, Zr, Zs]
     refine WpX.vD 1 (some 29) ?_ rfl rfl (by kernel_rfl) (fun _ _ _ h => h) rfl (fun wz hwz => ?_) ?_
     rotate_left
     ·go_simp; try (with_reducible rfl)
     simp only [Zp, Zq, Zr, Zs]
     refine WpX.vD 2 (some 30) ?_ rfl rfl (by kernel_rfl) (fun _ _ _ h => h) rfl (fun wz hwz => ?_) ?_
     rotate_left
     ·(refine Eq.trans (exec_load rfl (by kernel_rfl) ((HLD.out wz hwz).loadId HID.out)) ?_; with_reducible rfl)
     simp only [Zp, Zq, Zr, Zs]
     refine WpX.vD 3 (some 31) ?_ rfl rfl (by kernel_rfl) (fun _ _ _ h => h) rfl (fun wz hwz => ?_) ?_
     rotate_left
     ·go_simp; try (with_reducible rfl)
     simp only [Zp, Zq, Zr, Zs]
     refine WpX.vD 4 (some 32) ?_ rfl rfl (by kernel_rfl) (fun _ _ _ h => h) rfl (fun wz hwz => ?_) ?_
     rotate_left
     ·go_simp; try (with_reducible rfl)
     simp only [Zp, Zq, Zr, Zs]
     refine WpX.vD 5 (some 33) ?_ rfl rfl (by kernel_rfl) (fun _ _ _ h => h) rfl (fun wz hwz => ?_) ?_
     rotate_left
     ·go_simp; try (with_reducible rfl)
     simp only [Zp, Zq, Zr, Zs]
     refine WpX.vD 6 (some 34) ?_ rfl rfl (by kernel_rfl) (fun _ _ _ h => h) rfl (fun wz hwz => ?_) ?_
     rotate_left
     ·(refine Eq.trans (exec_build rfl (by kernel_rfl) (build_ent HID.out now A0 A2 n0 c0 n2 c2 wz)) ?_; with_reducible rfl)
     simp only [Zp, Zq, Zr, Zs]
     refine WpX.vD 10 (some 38) ?_ rfl rfl (by kernel_rfl) (fun _ _ _ h => h) rfl (fun wz hwz => ?_) ?_
     rotate_left
     ·go_simp; try (with_reducible rfl)
     simp only [Zp, Zq, Zr, Zs]
     refine WpX.vD 11 (some 39) ?_ rfl rfl (by kernel_rfl) (fun _ _ _ h => h) rfl (fun wz hwz => ?_) ?_
     rotate_left
     ·go_simp; try (with_reducible rfl)
     simp only [Zp, Zq, Zr, Zs]
     refine WpX.oneD 7 (some 35) rfl rfl (by kernel_rfl) (fun g : Nat => Value.slice (some ⟨g, 0, none⟩) 1 1) (fun g1 => (ReT wr cb) (some g1) none) (fun g1 => (fun o1 o2 => ReK wr cb (entL id now (.slice A0 n0 c0) (.slice A2 n2 c2) 0) (fun w v => ClE (cb + 1) w id now 0 zs0 zs2 n0 n2 v) (clL id m0 m1 false false 0 0 0 1 0) (fun v => clL id m0 (msgL 1 0 0 0 z16 0 v) false false 0 0 0 1 0) o1 o2 false) (some g1) none) (Turns.val rfl (fun _ _ h => h) (fun _ => (ReK.weak _ _ _)) (fun _ => (ReK.clo HCO.out)) (fun wz hS => ⟨wz.heap.size, wz.alloc (.cells (entL id now (.slice A0 n0 c0) (.slice A2 n2 c2) 0).toArray 44), exec_buildSlice rfl (by kernel_rfl) (build_entry HID.out now 0 A0 A2 n0 c0 n2 c2 wz), hS.mkA HCO.out rfl⟩)) (fun g1 => ?_)
     simp only [Zp, Zq, Zr, Zs]
     refine WpX.vD 8 (some 36) ?_ rfl rfl (by kernel_rfl) (fun _ _ _ h => h) rfl (fun wz hwz => ?_) ?_
     rotate_left
     ·(refine Eq.trans (exec_build rfl (by kernel_rfl) (build_msg1 g1 wz)) ?_; with_reducible rfl)
     simp only [Zp, Zq, Zr, Zs]
     refine WpX.oneD 9 (some 37) rfl rfl (by kernel_rfl) (fun v : Value => Value.agg (msgL 1 0 0 0 z16 0 v).toArray) (fun v2 => (ReT wr cb) (some g1) (some v2)) (fun v2 => (fun o1 o2 => ReK wr cb (entL id now (.slice A0 n0 c0) (.slice A2 n2 c2) 0) (fun w v => ClE (cb + 1) w id now 0 zs0 zs2 n0 n2 v) (clL id m0 m1 false false 0 0 0 1 0) (fun v => clL id m0 (msgL 1 0 0 0 z16 0 v) false false 0 0 0 1 0) o1 o2 false) (some g1) (some v2)) (Turns.call rfl (fun _ _ h => h) (fun _ => (ReK.weak _ _ _)) (fun _ => (ReK.clo HCO.out)) (fun wz hS => (HCALL.out g1 wz hS.t (hS.a g1 rfl).2).mono fun e w' ⟨v, he, hcl, hb'⟩ => ⟨v, he, hS.mkB HCO.out v hb' hcl⟩) (fun wz hS => by go_simp; try (with_reducible rfl))) (fun v2 => ?_)
     simp only [Zp, Zq, Zr, Zs]
     refine WpX.vD 12 (some 40) ?_ rfl rfl (by kernel_rfl) (fun _ _ _ h => h) rfl (fun wz hwz => ?_) ?_
     rotate_left
     ·go_simp; try (with_reducible rfl)
     simp only [Zp, Zq, Zr, Zs]
     refine WpX.done (by kernel_rfl) (fun w6 hZ => ⟨g1, v2, rfl, ?_⟩)
     ·exact hZ
    intro g1 v2 w6 hZ
    (try simp only [List.drop_succ_cons]); (try simp only [List.drop_zero]); (try simp only [Nat.reduceSub]); (try simp only [List.take_succ_cons]); (try simp only [List.take_zero])
    have hst := (hZ.v rfl).storeUp1 HID.out HM0.out HM1.out (m := msgL 1 0 0 0 z16 0 v2) (msgL_length z16_length) (msgL_one 1 0 0 0 z16 0 (es := v2) (by obtain ⟨_, _, _, _, _, _, h9, _⟩ := hZ.b v2 rfl; rw [h9]; rfl))
    have hE := ClE.set (hZ.b v2 rfl) (Nat.lt_succ_self cb) 38 (msgL 1 0 0 0 z16 0 v2)
    have hexz := exc_setCells (S := fun q => q = cb) (B := wr.heap.size) cb rfl (msgL 1 0 0 0 z16 0 v2) 38 w6 hZ.t
    have hI := HLD.out _ hexz
    have hbw := HRD.out _ hexz
    have hS2 := hS.exc (S := fun q => q = cb) (fun e => by
     have e2 : sb = cb := e
     omega) hexz
    have hV := hst.2
    obtain ⟨v0, hm0e, hcl0, hz0⟩ := HK1.out (by omega)
    have HE0 := Lib.hid (ClE.exc hcl0 (Nat.lt_succ_self cb) hexz)
    have HZ0 := Lib.hid hz0
    have HM0E := Lib.hid hm0e
    clear hcl0 hz0 hm0e HK1
    clear hS hZ hexz HBW HII HCB HRD HLD HCALL HCO
    refine wpList_skipD rfl rfl (exec_store rfl (by kernel_rfl) (by kernel_rfl) hst.1) ?_
    clear hst
    go_upto_region 6 with fail
    generalize w6.setCells cb 38 (msgL 1 0 0 0 z16 0 v2) = w7 at HE0 hE hI hbw hS2 hV ⊢
    have HE := Lib.hid hE
    obtain ⟨A5, A6, c5, c6, g5, cg5, rfl, _, hEg, _, _⟩ := hE
    have HCK := Lib.hid (msg_Check1 id HID.out now 0 A5 A6 n0 c5 n2 c6 g5 cg5 w7 hEg)
    obtain ⟨ec, hec⟩ : ∃ z, entC now 0 n0 n2 = z := ⟨_, rfl⟩
    rw [hec] at HCK
    have HEC := Lib.hid hec
    clear hec hEg
    refine wp_region_lit ?_
    refine wpList_valD (some 41) rfl rfl (by (go_simp; first | with_reducible rfl | exact ⟨rfl, rfl⟩ | (trace_state; fail))) ?_
    simp only [Zp, Zq, Zr, Zs]
    refine wpList_valD (some 42) rfl rfl (by (go_simp; first | with_reducible rfl | exact ⟨rfl, rfl⟩ | (trace_state; fail))) ?_
    simp only [Zp, Zq, Zr, Zs]
    refine wpList_valD (some 43) rfl rfl (by (go_simp; first | with_reducible rfl | exact ⟨rfl, rfl⟩ | (trace_state; fail))) ?_
    simp only [Zp, Zq, Zr, Zs]
    refine wpList_valD (some 44) rfl rfl (by (go_simp; first | with_reducible rfl | exact ⟨rfl, rfl⟩ | (trace_state; fail))) ?_
    simp only [Zp, Zq, Zr, Zs]
    refine wpList_valD (some 45) rfl rfl (by (go_simp; first | with_reducible rfl | exact ⟨rfl, rfl⟩ | (trace_state; fail))) ?_
    simp only [Zp, Zq, Zr, Zs]
    refine wpList_valD (some 46) rfl rfl (exec_load rfl (by kernel_rfl) (hV.loadUp1 HID.out HM0.out (msgL_length z16_length))) ?_
    simp only [Zp, Zq, Zr, Zs]
    refine wpList_callD (some 47) rfl rfl 49 _ ?_ (HCK.out) ?_
    ·go_simp; try (with_reducible rfl)
    rintro e w8 ⟨rfl, hb8⟩
    refine ⟨_, rfl, ?_⟩
    simp only [Zp, Zq, Zr, Zs]
    have hE8 := HE.out.call hb8
    have hE9 := HE0.out.call hb8
    replace hbw := bl_call hbw (Nat.le_refl _) hb8
    replace hI := hI.call hb8
    replace hV := hV.call hb8
    replace hS2 := hS2.call hb8
    clear hb8
    refine wpList_valD (some 15) rfl rfl (by (go_simp; first | with_reducible rfl | exact ⟨rfl, rfl⟩ | (trace_state; fail))) ?_
    simp only [Zp, Zq, Zr, Zs]
    by_cases hz : ec = 0
    ·have hzb : (ec != 0) = false := by simpa using hz
     have HZ := Lib.hid hz
     clear hz
     go_wp2_with fail
     go_roundw
     case rel => exact ⟨2, m0, _, by omega, by go_num, hV, HM0.out, msgL_length z16_length, fun _ => ⟨v0, HM0E.out, hE9, HZ0.out⟩, fun _ => ⟨_, rfl, hE8, by rw [HEC.out]; exact HZ.out⟩, hI, hS2, hbw⟩
     case measure => simp [intOf]
    ·have hzb : (ec != 0) = true := by simpa using hz
     have HZ := Lib.hid hz
     clear hz
     go_wp2_with fail
     go_ret2
     exact Or.inl ⟨ec, HZ.out, by rw [if_pos HZ0.out, HEC.out], rfl, hbw⟩
  ·obtain rfl : k = 2 := by omega
   obtain ⟨v0, rfl, he0, hz0⟩ := HK1.out (by omega)
   obtain ⟨v1, rfl, he1, hz1⟩ := HK2.out (by omega)
   have HC := Lib.hid hC
   have HE0 := Lib.hid he0
   have HE1 := Lib.hid he1
   have HZ0 := Lib.hid hz0
   have HZ1 := Lib.hid hz1
   clear hC he0 he1 hz0 hz1 hI hS
   go_wp2_with fail
   go_ret2
   exact Or.inr ⟨HZ0.out, HZ1.out, cb, v0, v1, rfl, Nat.le_of_lt hil, HC.out, HE0.out, HE1.out, hbw⟩

end Go.Proofs.Ytbakkmfjamcbfaa

namespace Go.Proofs.Ytbakkmfjamcbfaa
open Go.RowKit Fm
set_option linter.unusedVariables false
set_option maxRecDepth 100000

def ltL (tq : Int) (m : List Value) : List Value := .int .i64 tq :: m
theorem info_letterC : (Try.prog.info? 42).map (fun i => (i.zero, i.size, i.bytes)) = some (some (.agg #[.int .i64 0, .int .u8 0, .int .u64 0, .int .u64 0, .int .i64 0, .int .u8 0, .int .u8 0, .int .u8 0, .int .u8 0, .int .u8 0, .int .u8 0, .int .u8 0, .int .u8 0, .int .u8 0, .int .u8 0, .int .u8 0, .int .u8 0, .int .u8 0, .int .u8 0, .int .u8 0, .int .u8 0, .int .i64 0, .slice none 0 0]), 23, 88) := by kernel_rfl

theorem run_append_Let (w : World) (base : Nat) (ty : TypeId) (v : Value) (n : Nat) (xs : List Value) (hown : w.ownsRow base 42 23 v n xs) (nb : Nat) (ys : List Value) (hys : ys.length = 23) (hN : Vs w nb ys) (h1 : ∀ u, u ∈ ys → u.oneCell' = true) (hbound : n + 1 ≤ 1000000) (hbase : base ≤ w.heap.size) :
  ∃ v' w', (Builtin.append_ #[39, 39] ty #[v, .slice (some ⟨nb, 0, none⟩) 1 1]).run Try.prog w = .ok v' w' ∧ w'.ownsRow base 42 23 v' (n + 1) (xs ++ ys) ∧ w.grownBy w' v.ownBlock ∧
   (v'.ownBlock = v.ownBlock ∨ v'.ownBlock = some w.heap.size) := by
 obtain ⟨i, hi, hz, hi1, hi2⟩ := info_parts info_letterC
 obtain ⟨v', w', hrun, h3, h4, _, h5⟩ := run_append_own_at (P := Try.prog) w base 39 ty 42 i _ 23 88 Try.underlying39 hi hz hi1 hi2 rfl (by omega) v n _ hown ⟨nb, 0, none⟩ 1 1 ys
  (by rw [hys]) (fun j u hu => by
   have ha : (⟨nb, 0, none⟩ : Addr).add j = ⟨nb, 0 + j, none⟩ := by
    unfold Addr.add
    split <;> simp_all
   rw [ha, Nat.zero_add]
   exact hN.cell j u hu) h1 (by unfold maxLen; omega) (by omega) hbase
 exact ⟨v', w', hrun, h3, h4, h5⟩

theorem wpList_append_Let {w : World} {ops : Array Oper} {rest : List Oper} {o : Oper} {a : Act} {Q : Exit → Act → World → Prop} (hgd : o.guard = none) (s x : Operand)
  (ho : o.op = .call { callee := .builtin .append, args := #[s, x], argTypes := #[39, 39] })
  (base : Nat) (v : Value) (n : Nat) (xs : List Value) (hs : a.eval s = v) (hown : w.ownsRow base 42 23 v n xs) (nb : Nat) (ys : List Value) (hx : a.eval x = .slice (some ⟨nb, 0, none⟩) 1 1)
  (hys : ys.length = 23) (hN : Vs w nb ys) (h1 : ∀ u, u ∈ ys → u.oneCell' = true) (hbound : n + 1 ≤ 1000000) (hbase : base ≤ w.heap.size)
  (h : ∀ v' w', w'.ownsRow base 42 23 v' (n + 1) (xs ++ ys) → w.grownBy w' v.ownBlock → (v'.ownBlock = v.ownBlock ∨ v'.ownBlock = some w.heap.size) → wpList Try.prog ops Q rest (a.put o.dst v') w') : wpList Try.prog ops Q (o :: rest) a w := by
 obtain ⟨v', w', hrun, h2, h3, h4⟩ := run_append_Let w base o.type v n xs hown nb ys hys hN h1 hbound hbase
 refine wpList_plain hgd fun K hK => ?_
 unfold Oper.wp execOp
 simp only [ho, resolve, invoke, builtin, Sem.run_bind, Sem.run_pure, Result.andThen_ok, List.map_toArray, List.map_cons, List.map_nil, hs, hx, hrun]
 exact hK _ _ (h v' w' h2 h3 h4)

theorem build_letter (tq : Int) (A : Option Addr) (n c : Nat) (w : World) : (Instr.build 42 #[(0, .int .i64 tq), (1, .agg (msgL 1 0 0 0 z16 0 (.slice A n c)).toArray)]).run Try.prog w = .ok (.agg (ltL tq (msgL 1 0 0 0 z16 0 (.slice A n c))).toArray) w := by kernel_rfl
theorem build_letters (tq : Int) (A : Option Addr) (n c : Nat) (w : World) : (Instr.buildSlice 39 1 #[(0, .agg (ltL tq (msgL 1 0 0 0 z16 0 (.slice A n c))).toArray)]).run Try.prog w = .ok (.slice (some ⟨w.heap.size, 0, none⟩) 1 1) (w.alloc (.cells (ltL tq (msgL 1 0 0 0 z16 0 (.slice A n c))).toArray 42)) := by kernel_rfl

end Go.Proofs.Ytbakkmfjamcbfaa

namespace Go.Proofs.Ytbakkmfjamcbfaa
open Go.RowKit Fm
set_option linter.unusedVariables false
set_option maxRecDepth 100000

theorem own_rdB {w : World} {base n c : Nat} {A : Option Addr} {xs : List Int} (h : w.ownsRow base 5 1 (.slice A n c) n (cells8 xs)) (hn : n ≤ 1000000) : RdB w A n xs := by
 have hl : xs.length = n := by
  have h1 := h.1
  rw [cells8_length] at h1
  omega
 refine ⟨hl, hn, fun hp => ?_⟩
 obtain ⟨g, cap, hg⟩ := own_sl9 h hp
 injection hg with e1 e2 e3
 subst e1
 have hr := own_rowB h
 exact ⟨g, 0, rfl, hr.2.1, hr.1⟩

theorem msg_Clone2 (id : List Int) (hid : id.length = 16) (time code : Int) (n n' : Nat) (xs ys : List Int) (hn : n ≤ 1000000) (hn' : n' ≤ 1000000) (v : Value) (B : Nat) (w : World) (h : ClE B w id time code xs ys n n' v) :
  Calls Try.prog 50 #[.agg (msgL 1 0 0 0 z16 0 v).toArray] w fun e w' => ∃ v, e = .returned (.agg (msgL 1 0 0 0 z16 0 v).toArray) ∧ ClE (w.heap.size + 2) w' id time code xs ys n n' v ∧ Below w.heap.size w w' := by
 obtain ⟨A2, A3, c2, c3, g, cg, rfl, _, h3, h4, h5, _⟩ := h
 have r0 := own_rdB h4 hn
 have r1 := own_rdB h5 hn'
 exact msg_Clone1 id hid time code A2 A3 n c2 n' c3 g cg xs ys r0.1 r1.1 hn hn' w r0.2.2 r1.2.2 h3

set_option maxHeartbeats 2000000 in
theorem client_TickNo (id : List Int) (hid : id.length = 16) (m0 m1 : List Value) (h0 : m0.length = 22) (h1 : m1.length = 22) (d0 d1 : Bool) (k0 k1 due wait tries now : Int) (hd : now < due) (cb : Nat) (w : World) (hC : Vs w cb (clL id m0 m1 d0 d1 k0 k1 due wait tries)) :
  Calls Try.prog 16 #[.pointer (some ⟨cb, 0, none⟩), .int .u64 now] w fun e w' => e = .returned (.slice none 0 0) ∧ Below w.heap.size w w' := by
 obtain ⟨⟨q0, q1, q2, q3, q4, q5, q6⟩, _, hcl⟩ := hC.cl hid h0 h1
 clear hC h0 h1 hid
 go_enter Try.func16, Try.ntmps16
 go_wp2_with fail
 go_ret
 exact ⟨rfl, Below.refl _ _⟩

end Go.Proofs.Ytbakkmfjamcbfaa

namespace Go.Proofs.Ytbakkmfjamcbfaa
open Go.RowKit Fm
set_option linter.unusedVariables false
set_option maxRecDepth 100000

structure ClI (lo hi : Nat) (w : World) (id : List Int) (tm : Int) (xs ys : List Int) (n n' : Nat) (v : Value) : Prop where
 ex : ∃ (A2 A3 : Option Addr) (c2 c3 g cg : Nat), v = .slice (some ⟨g, 0, none⟩) 1 cg ∧ (lo ≤ g ∧ g < hi) ∧ Vs w g (entL id tm (.slice A2 n c2) (.slice A3 n' c3) 0) ∧ w.ownsRow lo 5 1 (.slice A2 n c2) n (cells8 xs) ∧ w.ownsRow lo 5 1 (.slice A3 n' c3) n' (cells8 ys) ∧
  (∀ q, (Value.slice A2 n c2).ownBlock = some q → q < hi) ∧ (∀ q, (Value.slice A3 n' c3).ownBlock = some q → q < hi ∧ q ≠ g)
section
variable {B lo hi : Nat} {S : Nat → Prop} {w w' w2 w3 : World} {id : List Int} {tm : Int} {xs ys : List Int} {n n' : Nat} {v u v' : Value}
theorem ClE.toI (h : ClE B w id tm 0 xs ys n n' v) : ClI B w.heap.size w id tm xs ys n n' v := by
 obtain ⟨A2, A3, c2, c3, g, cg, h1, h2, h3, h4, h5, h6⟩ := h
 exact ⟨A2, A3, c2, c3, g, cg, h1, ⟨h2, h3.lt⟩, h3, h4, h5, fun q hq => own_blk_lt h4 hq, fun q hq => ⟨own_blk_lt h5 hq, h6 q hq⟩⟩
theorem ClI.exc (h : ClI lo hi w id tm xs ys n n' v) (hS : ∀ q, lo ≤ q → q < hi → ¬ S q) (hex : Exc S w.heap.size w w') : ClI lo hi w' id tm xs ys n n' v := by
 obtain ⟨A2, A3, c2, c3, g, cg, h1, h2, h3, h4, h5, h6, h7⟩ := h
 exact ⟨A2, A3, c2, c3, g, cg, h1, h2, h3.exc (hS g h2.1 h2.2) hex, own_other h4 hex (fun q hq => hS q (World.ownsRow.lt h4 q hq).1 (h6 q hq)), own_other h5 hex (fun q hq => hS q (World.ownsRow.lt h5 q hq).1 (h7 q hq).1), h6, h7⟩
theorem ClI.call (h : ClI lo hi w id tm xs ys n n' v) (hb : Below w.heap.size w w') : ClI lo hi w' id tm xs ys n n' v := h.exc (S := fun _ => False) (fun _ _ _ h => h) (exc_of hb)
theorem ClI.one (h : ClI lo hi w id tm xs ys n n' v) : v.oneCell' = true := by
 obtain ⟨A2, A3, c2, c3, g, cg, rfl, _⟩ := h
 rfl

def ltR (its : List (Int × List Int × Nat)) (ps : List (Value × Nat × Nat)) : List Value := (List.zipWith (fun it p => ltL it.1 (msgL 1 0 0 0 z16 0 p.1)) its ps).flatten
theorem ltR_snoc {its : List (Int × List Int × Nat)} {ps : List (Value × Nat × Nat)} (hl : ps.length = its.length) (it : Int × List Int × Nat) (p : Value × Nat × Nat) : ltR (its ++ [it]) (ps ++ [p]) = ltR its ps ++ ltL it.1 (msgL 1 0 0 0 z16 0 p.1) := by
 unfold ltR
 rw [List.zipWith_append hl.symm, List.flatten_append]
 simp
structure LtS (B : Nat) (w : World) (v : Value) (id : List Int) (tm : Int) (xs : List Int) (n : Nat) (its : List (Int × List Int × Nat)) (ps : List (Value × Nat × Nat)) : Prop where
 len : ps.length = its.length
 row : w.ownsRow B 42 23 v its.length (ltR its ps)
 each : ∀ (i : Nat) it p, its[i]? = some it → ps[i]? = some p → B ≤ p.2.1 ∧ ClI p.2.1 p.2.2 w id tm xs it.2.1 n it.2.2 p.1 ∧ (∀ q, v.ownBlock = some q → q < p.2.1 ∨ p.2.2 ≤ q) ∧ p.2.2 ≤ w.heap.size
 sep : ∀ (i j : Nat) p p', i < j → ps[i]? = some p → ps[j]? = some p' → p.2.2 ≤ p'.2.1
variable {its : List (Int × List Int × Nat)} {ps : List (Value × Nat × Nat)} {it : Int × List Int × Nat}
theorem LtS.nil (B : Nat) (w : World) (id : List Int) (tm : Int) (xs : List Int) (n : Nat) : LtS B w (.slice none 0 0) id tm xs n [] [] :=
 ⟨rfl, ⟨rfl, .inl ⟨rfl, rfl⟩⟩, fun i it p h => by simp at h, fun i j p p' _ h => by simp at h⟩
theorem LtS.exc (h : LtS B w v id tm xs n its ps) (hS : ∀ q, B ≤ q → ¬ S q) (hex : Exc S w.heap.size w w') : LtS B w' v id tm xs n its ps :=
 ⟨h.len, own_other h.row hex (fun q hq => hS q (World.ownsRow.lt h.row q hq).1), fun i it p h1 h2 => by
  obtain ⟨k1, k2, k3, k4⟩ := h.each i it p h1 h2
  exact ⟨k1, k2.exc (fun q hq _ => hS q (Nat.le_trans k1 hq)) hex, k3, Nat.le_trans k4 hex.size⟩, h.sep⟩
theorem LtS.call (h : LtS B w v id tm xs n its ps) (hb : Below w.heap.size w w') : LtS B w' v id tm xs n its ps := h.exc (S := fun _ => False) (fun _ _ h => h) (exc_of hb)
theorem LtS.snoc (h : LtS B w v id tm xs n its ps) (hB : B ≤ w.heap.size) (hb : Below w.heap.size w w2) (hlo : w.heap.size ≤ lo) (hhi : hi ≤ w2.heap.size) (hc : ClI lo hi w2 id tm xs it.2.1 n it.2.2 u)
  (hrow : w3.ownsRow B 42 23 v' (its.length + 1) (ltR its ps ++ ltL it.1 (msgL 1 0 0 0 z16 0 u))) (hg : w2.grownBy w3 v.ownBlock) (hor : v'.ownBlock = v.ownBlock ∨ v'.ownBlock = some w2.heap.size) : LtS B w3 v' id tm xs n (its ++ [it]) (ps ++ [(u, lo, hi)]) := by
 have hex := grown_exc hg
 have hvlt : ∀ q, v.ownBlock = some q → q < w.heap.size := fun q hq => own_blk_lt h.row hq
 have h2 := h.call hb
 have hlohi : lo < hi := by
  obtain ⟨_, _, _, _, g, _, _, ⟨k1, k2⟩, _⟩ := hc
  omega
 refine ⟨by rw [List.length_append, List.length_append, h.len]; rfl, by rw [ltR_snoc h.len, List.length_append]; exact hrow, fun i x p h1 h3 => ?_, fun i j p p' hij h1 h3 => ?_⟩
 ·by_cases hi : i < its.length
  ·rw [List.getElem?_append_left hi] at h1
   rw [List.getElem?_append_left (by rw [h.len]; exact hi)] at h3
   obtain ⟨k1, k2, k3, k4⟩ := h2.each i x p h1 h3
   refine ⟨k1, k2.exc (fun q hq1 hq2 hs => (k3 q hs).elim (fun h => by omega) fun h => by omega) hex, fun q hq => ?_, Nat.le_trans k4 hex.size⟩
   rcases hor with e | e
   ·exact k3 q (by rw [← e]; exact hq)
   ·rw [e] at hq
    injection hq with hq
    exact .inr (by omega)
  ·have hii : i = its.length := by
    have := (List.getElem?_eq_some_iff.1 h1).1
    rw [List.length_append] at this
    simp at this
    omega
   subst hii
   rw [List.getElem?_append_right (Nat.le_refl _), Nat.sub_self] at h1
   rw [List.getElem?_append_right (by rw [h.len]; exact Nat.le_refl _), h.len, Nat.sub_self] at h3
   injection h1 with h1
   injection h3 with h3
   subst h1
   subst h3
   refine ⟨Nat.le_trans hB hlo, hc.exc (fun q hq1 hq2 hs => by have := hvlt q hs; omega) hex, fun q hq => ?_, Nat.le_trans hhi hex.size⟩
   rcases hor with e | e
   ·rw [e] at hq
    have := hvlt q hq
    exact .inl (by dsimp only; omega)
   ·rw [e] at hq
    injection hq with hq
    exact .inr (by dsimp only; omega)
 ·have hjl : j < ps.length + 1 := by
   have := (List.getElem?_eq_some_iff.1 h3).1
   rw [List.length_append] at this
   simpa using this
  rw [List.getElem?_append_left (by omega)] at h1
  by_cases hj : j < ps.length
  ·rw [List.getElem?_append_left hj] at h3
   exact h.sep i j p p' hij h1 h3
  ·have hjj : j = ps.length := by omega
   subst hjj
   rw [List.getElem?_append_right (Nat.le_refl _), Nat.sub_self] at h3
   injection h3 with h3
   subst h3
   obtain ⟨x, hx⟩ : ∃ x, its[i]? = some x := ⟨_, List.getElem?_eq_getElem (by rw [← h.len]; omega)⟩
   have k4 := (h.each i x p hx h1).2.2.2
   exact Nat.le_trans k4 hlo
end

end Go.Proofs.Ytbakkmfjamcbfaa

namespace Go.Proofs.Ytbakkmfjamcbfaa
open Go.RowKit Fm
set_option linter.unusedVariables false
set_option maxRecDepth 100000

section
variable {w : World} {b : Nat} {id : List Int} {m0 m1 : List Value} {d0 d1 : Bool} {k0 k1 due wait tries : Int}
theorem clL_set (hi : id.length = 16) (h0 : m0.length = 22) (h1 : m1.length = 22) (i : Nat) (v : Value) : (clL id m0 m1 d0 d1 k0 k1 due wait tries).set (60 + i) v = cells8 id ++ (m0 ++ (m1 ++ [.bool d0, .bool d1, .int .i64 k0, .int .i64 k1, .int .u64 due, .int .u64 wait, .int .i64 tries].set i v)) := by
 unfold clL
 rw [List.set_append_right _ _ (by rw [cells8_length]; omega), List.set_append_right _ _ (by rw [cells8_length]; omega), List.set_append_right _ _ (by rw [cells8_length]; omega), cells8_length, hi, h0, h1, show 60 + i - 16 - 22 - 22 = i by omega]
theorem Vs.clPut (hi : id.length = 16) (h0 : m0.length = 22) (h1 : m1.length = 22) (h : Vs w b (clL id m0 m1 d0 d1 k0 k1 due wait tries)) (i : Nat) (hi7 : i < 7) (v : Value) : Vs (w.setCell ⟨b, 60 + i, none⟩ v) b (cells8 id ++ (m0 ++ (m1 ++ [.bool d0, .bool d1, .int .i64 k0, .int .i64 k1, .int .u64 due, .int .u64 wait, .int .i64 tries].set i v))) := by
 have h2 := h.put (60 + i) (by rw [clL_length hi h0 h1]; omega) v
 rwa [clL_set hi h0 h1] at h2
theorem Vs.clDue (hi : id.length = 16) (h0 : m0.length = 22) (h1 : m1.length = 22) (h : Vs w b (clL id m0 m1 d0 d1 k0 k1 due wait tries)) (x : Int) : Vs (w.setCell ⟨b, 64, none⟩ (.int .u64 x)) b (clL id m0 m1 d0 d1 k0 k1 x wait tries) := h.clPut hi h0 h1 4 (by omega) _
theorem Vs.clWait (hi : id.length = 16) (h0 : m0.length = 22) (h1 : m1.length = 22) (h : Vs w b (clL id m0 m1 d0 d1 k0 k1 due wait tries)) (x : Int) : Vs (w.setCell ⟨b, 65, none⟩ (.int .u64 x)) b (clL id m0 m1 d0 d1 k0 k1 due x tries) := h.clPut hi h0 h1 5 (by omega) _
theorem Vs.clTries (hi : id.length = 16) (h0 : m0.length = 22) (h1 : m1.length = 22) (h : Vs w b (clL id m0 m1 d0 d1 k0 k1 due wait tries)) (x : Int) : Vs (w.setCell ⟨b, 66, none⟩ (.int .i64 x)) b (clL id m0 m1 d0 d1 k0 k1 due wait x) := h.clPut hi h0 h1 6 (by omega) _
end

def itK (d0 d1 : Bool) (zs1 zs2 : List Int) (n1 n2 : Nat) : Nat → List (Int × List Int × Nat)
 | 0 => []
 | 1 => if d0 then [] else [(0, zs1, n1)]
 | _ => (if d0 then [] else [(0, zs1, n1)]) ++ (if d1 then [] else [(1, zs2, n2)])

theorem ltL_length (tq : Int) {m : List Value} (h : m.length = 22) : (ltL tq m).length = 23 := by unfold ltL; rw [List.length_cons, h]
theorem ltL_one (tq : Int) {m : List Value} (h : ∀ v, v ∈ m → v.oneCell' = true) : ∀ v, v ∈ ltL tq m → v.oneCell' = true := by
 intro v hv
 unfold ltL at hv
 rcases List.mem_cons.1 hv with rfl | h2
 ·rfl
 ·exact h v h2
theorem itK_le (d0 d1 : Bool) (zs1 zs2 : List Int) (n1 n2 k : Nat) : (itK d0 d1 zs1 zs2 n1 n2 k).length ≤ 2 := by
 unfold itK
 split <;> (try split) <;> (try split) <;> simp



set_option maxHeartbeats 8000000 in
theorem client_TickG (id : List Int) (hid : id.length = 16) (tm due wait tries now : Int) (hd : due ≤ now) (hnw : 0 ≤ now ∧ now ≤ 1000000) (hwt : 0 ≤ wait ∧ wait ≤ 16) (htr : 0 ≤ tries ∧ tries ≤ 1000000) (n0 n1 n2 : Nat) (hn0 : n0 ≤ 1000000) (hn1 : n1 ≤ 1000000) (hn2 : n2 ≤ 1000000) (zs0 zs1 zs2 : List Int) (v0 v1 : Value) (d0 d1 : Bool) (k0 k1 : Int) (cb : Nat) (w : World)
  (hC : Vs w cb (clL id (msgL 1 0 0 0 z16 0 v0) (msgL 1 0 0 0 z16 0 v1) d0 d1 k0 k1 due wait tries)) (he0 : ClE (cb + 1) w id tm 0 zs0 zs1 n0 n1 v0) (he1 : ClE (cb + 1) w id tm 0 zs0 zs2 n0 n2 v1) :
  Calls Try.prog 16 #[.pointer (some ⟨cb, 0, none⟩), .int .u64 now] w fun e w' => ∃ (v : Value) (ps : List (Value × Nat × Nat)), e = .returned v ∧ LtS w.heap.size w' v id tm zs0 n0 (itK d0 d1 zs1 zs2 n1 n2 2) ps ∧
   Vs w' cb (clL id (msgL 1 0 0 0 z16 0 v0) (msgL 1 0 0 0 z16 0 v1) d0 d1 k0 k1 (if d0 && d1 then due else now + wait) (if d0 && d1 then wait else min (2 * wait) 16) (if d0 && d1 then tries else tries + 1)) ∧ Exc (fun q => q = cb) w.heap.size w w' := by
 have HID := Lib.hid hid
 obtain ⟨⟨q0, q1, q2, q3, q4, q5, q6⟩, _, hcl⟩ := hC.cl hid (msgL_length z16_length) (msgL_length z16_length)
 have HC := Lib.hid hC
 have HE0 := Lib.hid he0
 have HE1 := Lib.hid he1
 have HCB := Lib.hid hcl
 have hws : IntKind.u64.wrap (now + wait) = now + wait := IntWalk.u64_in _ (by omega)
 have hw2 : IntKind.u64.wrap (2 * wait) = 2 * wait := IntWalk.u64_in _ (by omega)
 have hwt2 : IntKind.i64.wrap (tries + 1) = tries + 1 := IntWalk.i64_in _ (by omega)
 clear hid he0 he1 hC
 go_enter Try.func16, Try.ntmps16
 go_upto_region 4 with fail
 clear q0 q1 q2 q3 q4 q5 q6 hcl
 go_wp2_with fail
 go_loopw [5, 17] (fun v5 i wr => ∃ (k : Nat) (ps : List (Value × Nat × Nat)), k ≤ 2 ∧ i = .int .i64 k ∧ LtS w.heap.size wr v5 id tm zs0 n0 (itK d0 d1 zs1 zs2 n1 n2 k) ps ∧ Below w.heap.size w wr) (fun _ i _ => 2 - (intOf i).toNat)
 case atStart => exact ⟨0, [], by omega, rfl, LtS.nil _ _ _ _ _ _, Below.refl _ _⟩
 case round =>
  obtain ⟨k, ps, hk, rfl, hL, hbw⟩ := hrel
  obtain ⟨A5, c5, rfl⟩ := own_shape hL.row
  have hC2 := HC.out.call hbw
  obtain ⟨⟨q0, q1, q2, q3, q4, q5, q6⟩, _, hcl⟩ := hC2.cl HID.out (msgL_length z16_length) (msgL_length z16_length)
  have HL := Lib.hid hL
  clear hL hC2 q2 q3 q4 q5 q6
  by_cases hlt : k < 2
  ·by_cases hk0 : k < 1
   ·obtain rfl : k = 0 := by omega
    clear hlt hk0 hk
    rw [show ((0 : Nat) : Int) = 0 from rfl]
    cases d0 with
    | true =>
     have HBW := Lib.hid hbw
     clear hbw
     go_wp2_with fail
     go_roundw
     case rel => exact ⟨1, _, by omega, by go_num, HL.out, HBW.out⟩
     case measure => simp [intOf]
    | false =>
     go_upto_region 8 with fail
     have hL := HL.out
     have hwsz := hbw.size
     have hC3 := HC.out.call hbw
     have HCLN := Lib.hid (msg_Clone2 id HID.out tm 0 n0 n1 zs0 zs1 hn0 hn1 v0 (cb + 1) wr ((HE0).out.call hbw))
     clear q0 q1
     refine wp_region_lit ?_
     refine wpList_valD (some 27) rfl rfl (by (go_simp; first | with_reducible rfl | exact ⟨rfl, rfl⟩ | (trace_state; fail))) ?_
     simp only [Zp, Zq, Zr, Zs]
     refine wpList_valD (some 28) rfl rfl (by (go_simp; first | with_reducible rfl | exact ⟨rfl, rfl⟩ | (trace_state; fail))) ?_
     simp only [Zp, Zq, Zr, Zs]
     refine wpList_valD (some 29) rfl rfl (by (go_simp; first | with_reducible rfl | exact ⟨rfl, rfl⟩ | (trace_state; fail))) ?_
     simp only [Zp, Zq, Zr, Zs]
     refine wpList_valD (some 30) rfl rfl (by (go_simp; first | with_reducible rfl | exact ⟨rfl, rfl⟩ | (trace_state; fail))) ?_
     simp only [Zp, Zq, Zr, Zs]
     refine wpList_valD (some 31) rfl rfl (by (go_simp; first | with_reducible rfl | exact ⟨rfl, rfl⟩ | (trace_state; fail))) ?_
     simp only [Zp, Zq, Zr, Zs]
     refine wpList_valD (some 32) rfl rfl (by (go_simp; first | with_reducible rfl | exact ⟨rfl, rfl⟩ | (trace_state; fail))) ?_
     simp only [Zp, Zq, Zr, Zs]
     refine wpList_valD (some 33) rfl rfl (by (go_simp; first | with_reducible rfl | exact ⟨rfl, rfl⟩ | (trace_state; fail))) ?_
     simp only [Zp, Zq, Zr, Zs]
     refine wpList_valD (some 34) rfl rfl (exec_load rfl (by kernel_rfl) (hC3.loadUp0 HID.out (msgL_length z16_length))) ?_
     simp only [Zp, Zq, Zr, Zs]
     refine wpList_callD (some 35) rfl rfl 50 _ ?_ (HCLN.out) ?_
     ·go_simp; try (with_reducible rfl)
     rintro e w5 ⟨u, rfl, hcl, hb5⟩
     refine ⟨_, rfl, ?_⟩
     simp only [Zp, Zq, Zr, Zs]
     have hcl2 := hcl
     obtain ⟨_, _, _, _, gu, cu, rfl, _⟩ := hcl2
     refine wpList_valD (some 36) rfl rfl (exec_build rfl (by kernel_rfl) (build_letter 0 (some ⟨gu, 0, none⟩) 1 cu _)) ?_
     simp only [Zp, Zq, Zr, Zs]
     refine wpList_valD (some 37) rfl rfl (exec_buildSlice rfl (by kernel_rfl) (build_letters 0 (some ⟨gu, 0, none⟩) 1 cu w5)) ?_
     simp only [Zp, Zq, Zr, Zs]
     have hB9 := Vs.new w5 (ltL 0 (msgL 1 0 0 0 z16 0 (.slice (some ⟨gu, 0, none⟩) 1 cu))) _ 42 rfl
     have hbA := (Below.refl w5.heap.size w5).alloc (Nat.le_refl _) (.cells (ltL 0 (msgL 1 0 0 0 z16 0 (.slice (some ⟨gu, 0, none⟩) 1 cu))).toArray 42)
     have hb6 := bl_call hb5 (Nat.le_refl _) hbA
     have hcl6 := ClI.call (ClE.toI hcl) hbA
     have hhi := hbA.size
     generalize w5.alloc (.cells (ltL 0 (msgL 1 0 0 0 z16 0 (.slice (some ⟨gu, 0, none⟩) 1 cu))).toArray 42) = w6 at hB9 hb6 hcl6 hhi ⊢
     obtain ⟨ab, hab⟩ : ∃ z, w5.heap.size = z := ⟨_, rfl⟩
     rw [hab] at hB9 hcl6 hhi
     simp only [hab]
     clear hab hbA hcl hb5
     have hL6 := hL.call hb6
     have hbase : w.heap.size ≤ w6.heap.size := Nat.le_trans hwsz hb6.size
     refine wpList_append_Let rfl (.tmp 27) (.tmp 37) rfl w.heap.size (.slice A5 (itK false d1 zs1 zs2 n1 n2 0).length c5) (itK false d1 zs1 zs2 n1 n2 0).length _ (by kernel_rfl) hL6.row ab (ltL 0 (msgL 1 0 0 0 z16 0 (.slice (some ⟨gu, 0, none⟩) 1 cu))) (by kernel_rfl) (ltL_length _ (msgL_length z16_length)) hB9 (ltL_one _ (msgL_one 1 0 0 0 z16 0 rfl)) (by have := itK_le false d1 zs1 zs2 n1 n2 0; omega) hbase ?_
     intro v9 w9 hown9 hg9 hat9
     have hLN := LtS.snoc (it := (0, zs1, n1)) hL (Nat.le_trans (Nat.le_refl _) hwsz) hb6 (lo := wr.heap.size + 2) (by omega) hhi hcl6 hown9 hg9 hat9
     have hb9 := hbw.trans ((hb6.mono hwsz).trans ((Below.refl w.heap.size w6).grown hg9 hbase (fun q hq => (World.ownsRow.lt hL6.row q hq).1)))
     obtain ⟨gg, cgg, hv9⟩ := own_slice hown9
     subst hv9
     have HLN := Lib.hid hLN
     have HB9 := Lib.hid hb9
     clear hLN hb9 hown9 hg9 hat9 hB9 hcl6 hhi hb6 hL6 hL hbase hwsz HL hbw hC3 HCLN
     go_wp2_with fail
     go_roundw
     case rel => exact ⟨1, _, by omega, by go_num, by (exact HLN.out), HB9.out⟩
     case measure => simp [intOf]
   ·obtain rfl : k = 1 := by omega
    clear hlt hk0 hk
    rw [show ((1 : Nat) : Int) = 1 from rfl]
    cases d1 with
    | true =>
     have HBW := Lib.hid hbw
     clear hbw
     go_wp2_with fail
     go_roundw
     case rel => exact ⟨2, _, by omega, by go_num, by (have h := HL.out; cases d0 <;> exact h), HBW.out⟩
     case measure => simp [intOf]
    | false =>
     go_upto_region 8 with fail
     have hL := HL.out
     have hwsz := hbw.size
     have hC3 := HC.out.call hbw
     have HCLN := Lib.hid (msg_Clone2 id HID.out tm 0 n0 n2 zs0 zs2 hn0 hn2 v1 (cb + 1) wr ((HE1).out.call hbw))
     clear q0 q1
     refine wp_region_lit ?_
     refine wpList_valD (some 27) rfl rfl (by (go_simp; first | with_reducible rfl | exact ⟨rfl, rfl⟩ | (trace_state; fail))) ?_
     simp only [Zp, Zq, Zr, Zs]
     refine wpList_valD (some 28) rfl rfl (by (go_simp; first | with_reducible rfl | exact ⟨rfl, rfl⟩ | (trace_state; fail))) ?_
     simp only [Zp, Zq, Zr, Zs]
     refine wpList_valD (some 29) rfl rfl (by (go_simp; first | with_reducible rfl | exact ⟨rfl, rfl⟩ | (trace_state; fail))) ?_
     simp only [Zp, Zq, Zr, Zs]
     refine wpList_valD (some 30) rfl rfl (by (go_simp; first | with_reducible rfl | exact ⟨rfl, rfl⟩ | (trace_state; fail))) ?_
     simp only [Zp, Zq, Zr, Zs]
     refine wpList_valD (some 31) rfl rfl (by (go_simp; first | with_reducible rfl | exact ⟨rfl, rfl⟩ | (trace_state; fail))) ?_
     simp only [Zp, Zq, Zr, Zs]
     refine wpList_valD (some 32) rfl rfl (by (go_simp; first | with_reducible rfl | exact ⟨rfl, rfl⟩ | (trace_state; fail))) ?_
     simp only [Zp, Zq, Zr, Zs]
     refine wpList_valD (some 33) rfl rfl (by (go_simp; first | with_reducible rfl | exact ⟨rfl, rfl⟩ | (trace_state; fail))) ?_
     simp only [Zp, Zq, Zr, Zs]
     refine wpList_valD (some 34) rfl rfl (exec_load rfl (by kernel_rfl) (hC3.loadUp1 HID.out (msgL_length z16_length) (msgL_length z16_length))) ?_
     simp only [Zp, Zq, Zr, Zs]
     refine wpList_callD (some 35) rfl rfl 50 _ ?_ (HCLN.out) ?_
     ·go_simp; try (with_reducible rfl)
     rintro e w5 ⟨u, rfl, hcl, hb5⟩
     refine ⟨_, rfl, ?_⟩
     simp only [Zp, Zq, Zr, Zs]
     have hcl2 := hcl
     obtain ⟨_, _, _, _, gu, cu, rfl, _⟩ := hcl2
     refine wpList_valD (some 36) rfl rfl (exec_build rfl (by kernel_rfl) (build_letter 1 (some ⟨gu, 0, none⟩) 1 cu _)) ?_
     simp only [Zp, Zq, Zr, Zs]
     refine wpList_valD (some 37) rfl rfl (exec_buildSlice rfl (by kernel_rfl) (build_letters 1 (some ⟨gu, 0, none⟩) 1 cu w5)) ?_
     simp only [Zp, Zq, Zr, Zs]
     have hB9 := Vs.new w5 (ltL 1 (msgL 1 0 0 0 z16 0 (.slice (some ⟨gu, 0, none⟩) 1 cu))) _ 42 rfl
     have hbA := (Below.refl w5.heap.size w5).alloc (Nat.le_refl _) (.cells (ltL 1 (msgL 1 0 0 0 z16 0 (.slice (some ⟨gu, 0, none⟩) 1 cu))).toArray 42)
     have hb6 := bl_call hb5 (Nat.le_refl _) hbA
     have hcl6 := ClI.call (ClE.toI hcl) hbA
     have hhi := hbA.size
     generalize w5.alloc (.cells (ltL 1 (msgL 1 0 0 0 z16 0 (.slice (some ⟨gu, 0, none⟩) 1 cu))).toArray 42) = w6 at hB9 hb6 hcl6 hhi ⊢
     obtain ⟨ab, hab⟩ : ∃ z, w5.heap.size = z := ⟨_, rfl⟩
     rw [hab] at hB9 hcl6 hhi
     simp only [hab]
     clear hab hbA hcl hb5
     have hL6 := hL.call hb6
     have hbase : w.heap.size ≤ w6.heap.size := Nat.le_trans hwsz hb6.size
     refine wpList_append_Let rfl (.tmp 27) (.tmp 37) rfl w.heap.size (.slice A5 (itK d0 false zs1 zs2 n1 n2 1).length c5) (itK d0 false zs1 zs2 n1 n2 1).length _ (by kernel_rfl) hL6.row ab (ltL 1 (msgL 1 0 0 0 z16 0 (.slice (some ⟨gu, 0, none⟩) 1 cu))) (by kernel_rfl) (ltL_length _ (msgL_length z16_length)) hB9 (ltL_one _ (msgL_one 1 0 0 0 z16 0 rfl)) (by have := itK_le d0 false zs1 zs2 n1 n2 1; omega) hbase ?_
     intro v9 w9 hown9 hg9 hat9
     have hLN := LtS.snoc (it := (1, zs2, n2)) hL (Nat.le_trans (Nat.le_refl _) hwsz) hb6 (lo := wr.heap.size + 2) (by omega) hhi hcl6 hown9 hg9 hat9
     have hb9 := hbw.trans ((hb6.mono hwsz).trans ((Below.refl w.heap.size w6).grown hg9 hbase (fun q hq => (World.ownsRow.lt hL6.row q hq).1)))
     obtain ⟨gg, cgg, hv9⟩ := own_slice hown9
     subst hv9
     have HLN := Lib.hid hLN
     have HB9 := Lib.hid hb9
     clear hLN hb9 hown9 hg9 hat9 hB9 hcl6 hhi hb6 hL6 hL hbase hwsz HL hbw hC3 HCLN
     go_wp2_with fail
     go_roundw
     case rel => exact ⟨2, _, by omega, by go_num, by (have h := HLN.out; cases d0 <;> exact h), HB9.out⟩
     case measure => simp [intOf]
  ·obtain rfl : k = 2 := by omega
   clear hlt hk
   rw [show ((2 : Nat) : Int) = 2 from rfl]
   cases d0 with
   | true =>
    cases d1 with
    | true =>
     have HBW := Lib.hid hbw
     clear hbw q0 q1
     rw [show (itK true true zs1 zs2 n1 n2 2).length = 0 from rfl]
     go_wp2_with fail
     go_ret
     exact ⟨_, rfl, ⟨_, HL.out⟩, HC.out.call HBW.out, exc_of HBW.out⟩
    | false =>
     clear q0 q1 hcl
     rw [show (itK true false zs1 zs2 n1 n2 2).length = 1 from rfl]
     go_upto_region 11 with fail
     have hC4 := HC.out.call hbw
     have hwsz := hbw.size
     obtain ⟨⟨q0, q1, q2, q3, q4, q5, q6⟩, hfz, hcl⟩ := hC4.cl HID.out (msgL_length z16_length) (msgL_length z16_length)
     have f4 := hfz 64 (by omega)
     have f5 := hfz 65 (by omega)
     have f6 := hfz 66 (by omega)
     clear hfz
     go_upto_region 12 with fail
     clear q0 q1 q2 q3 q4 q5 q6 f4 f5 f6 hcl
     have hC5 := hC4.clDue HID.out (msgL_length z16_length) (msgL_length z16_length) (now + wait)
     have hx5 := exc_sc (S := fun q => q = cb) (exc_of hbw) (.inl rfl) 64 (.int .u64 (now + wait))
     have hL5 := LtS.exc HL.out (fun q hq e => by have := HCB.out; omega) (exc_sc (S := fun q => q = cb) (exc_of (Below.refl wr.heap.size wr)) (.inl rfl) 64 (.int .u64 (now + wait)))
     clear hC4 HL
     generalize wr.setCell ⟨cb, 64, none⟩ (.int .u64 (now + wait)) = w5 at hC5 hx5 hL5 ⊢
     obtain ⟨⟨q0, q1, q2, q3, q4, q5, q6⟩, hfz, hcl⟩ := hC5.cl HID.out (msgL_length z16_length) (msgL_length z16_length)
     have f5 := hfz 65 (by omega)
     clear hfz
     have HL5 := Lib.hid hL5
     have HX5 := Lib.hid hx5
     clear hL5 hx5 hbw
     go_upto_region 13 with fail
     clear q0 q1 q2 q3 q4 q5 q6 f5 hcl
     have hC6 := hC5.clWait HID.out (msgL_length z16_length) (msgL_length z16_length) (min (2 * wait) 16)
     have hx6 := exc_sc HX5.out (.inl rfl) 65 (.int .u64 (min (2 * wait) 16))
     have hL6 := LtS.exc HL5.out (fun q hq e => by have := HCB.out; omega) (exc_sc (S := fun q => q = cb) (exc_of (Below.refl w5.heap.size w5)) (.inl rfl) 65 (.int .u64 (min (2 * wait) 16)))
     clear hC5 HL5 HX5
     generalize w5.setCell ⟨cb, 65, none⟩ (.int .u64 (min (2 * wait) 16)) = w6 at hC6 hx6 hL6 ⊢
     obtain ⟨⟨q0, q1, q2, q3, q4, q5, q6⟩, hfz, hcl⟩ := hC6.cl HID.out (msgL_length z16_length) (msgL_length z16_length)
     have f6 := hfz 66 (by omega)
     clear hfz
     have HL6 := Lib.hid hL6
     have HX6 := Lib.hid hx6
     clear hL6 hx6
     go_upto_region 14 with fail
     clear q0 q1 q2 q3 q4 q5 q6 f6 hcl
     have hC7 := hC6.clTries HID.out (msgL_length z16_length) (msgL_length z16_length) (tries + 1)
     have hx7 := exc_sc HX6.out (.inl rfl) 66 (.int .i64 (tries + 1))
     have hL7 := LtS.exc HL6.out (fun q hq e => by have := HCB.out; omega) (exc_sc (S := fun q => q = cb) (exc_of (Below.refl w6.heap.size w6)) (.inl rfl) 66 (.int .i64 (tries + 1)))
     clear hC6 HL6 HX6
     generalize w6.setCell ⟨cb, 66, none⟩ (.int .i64 (tries + 1)) = w7 at hC7 hx7 hL7 ⊢
     have HL7 := Lib.hid hL7
     have HX7 := Lib.hid hx7
     have HC7 := Lib.hid hC7
     clear hL7 hx7 hC7
     go_wp2_with fail
     go_ret
     exact ⟨_, rfl, ⟨_, HL7.out⟩, HC7.out, HX7.out⟩
   | false =>
    cases d1 with
    | true =>
     clear q0 q1 hcl
     rw [show (itK false true zs1 zs2 n1 n2 2).length = 1 from rfl]
     go_upto_region 11 with fail
     have hC4 := HC.out.call hbw
     have hwsz := hbw.size
     obtain ⟨⟨q0, q1, q2, q3, q4, q5, q6⟩, hfz, hcl⟩ := hC4.cl HID.out (msgL_length z16_length) (msgL_length z16_length)
     have f4 := hfz 64 (by omega)
     have f5 := hfz 65 (by omega)
     have f6 := hfz 66 (by omega)
     clear hfz
     go_upto_region 12 with fail
     clear q0 q1 q2 q3 q4 q5 q6 f4 f5 f6 hcl
     have hC5 := hC4.clDue HID.out (msgL_length z16_length) (msgL_length z16_length) (now + wait)
     have hx5 := exc_sc (S := fun q => q = cb) (exc_of hbw) (.inl rfl) 64 (.int .u64 (now + wait))
     have hL5 := LtS.exc HL.out (fun q hq e => by have := HCB.out; omega) (exc_sc (S := fun q => q = cb) (exc_of (Below.refl wr.heap.size wr)) (.inl rfl) 64 (.int .u64 (now + wait)))
     clear hC4 HL
     generalize wr.setCell ⟨cb, 64, none⟩ (.int .u64 (now + wait)) = w5 at hC5 hx5 hL5 ⊢
     obtain ⟨⟨q0, q1, q2, q3, q4, q5, q6⟩, hfz, hcl⟩ := hC5.cl HID.out (msgL_length z16_length) (msgL_length z16_length)
     have f5 := hfz 65 (by omega)
     clear hfz
     have HL5 := Lib.hid hL5
     have HX5 := Lib.hid hx5
     clear hL5 hx5 hbw
     go_upto_region 13 with fail
     clear q0 q1 q2 q3 q4 q5 q6 f5 hcl
     have hC6 := hC5.clWait HID.out (msgL_length z16_length) (msgL_length z16_length) (min (2 * wait) 16)
     have hx6 := exc_sc HX5.out (.inl rfl) 65 (.int .u64 (min (2 * wait) 16))
     have hL6 := LtS.exc HL5.out (fun q hq e => by have := HCB.out; omega) (exc_sc (S := fun q => q = cb) (exc_of (Below.refl w5.heap.size w5)) (.inl rfl) 65 (.int .u64 (min (2 * wait) 16)))
     clear hC5 HL5 HX5
     generalize w5.setCell ⟨cb, 65, none⟩ (.int .u64 (min (2 * wait) 16)) = w6 at hC6 hx6 hL6 ⊢
     obtain ⟨⟨q0, q1, q2, q3, q4, q5, q6⟩, hfz, hcl⟩ := hC6.cl HID.out (msgL_length z16_length) (msgL_length z16_length)
     have f6 := hfz 66 (by omega)
     clear hfz
     have HL6 := Lib.hid hL6
     have HX6 := Lib.hid hx6
     clear hL6 hx6
     go_upto_region 14 with fail
     clear q0 q1 q2 q3 q4 q5 q6 f6 hcl
     have hC7 := hC6.clTries HID.out (msgL_length z16_length) (msgL_length z16_length) (tries + 1)
     have hx7 := exc_sc HX6.out (.inl rfl) 66 (.int .i64 (tries + 1))
     have hL7 := LtS.exc HL6.out (fun q hq e => by have := HCB.out; omega) (exc_sc (S := fun q => q = cb) (exc_of (Below.refl w6.heap.size w6)) (.inl rfl) 66 (.int .i64 (tries + 1)))
     clear hC6 HL6 HX6
     generalize w6.setCell ⟨cb, 66, none⟩ (.int .i64 (tries + 1)) = w7 at hC7 hx7 hL7 ⊢
     have HL7 := Lib.hid hL7
     have HX7 := Lib.hid hx7
     have HC7 := Lib.hid hC7
     clear hL7 hx7 hC7
     go_wp2_with fail
     go_ret
     exact ⟨_, rfl, ⟨_, HL7.out⟩, HC7.out, HX7.out⟩
    | false =>
     clear q0 q1 hcl
     rw [show (itK false false zs1 zs2 n1 n2 2).length = 2 from rfl]
     go_upto_region 11 with fail
     have hC4 := HC.out.call hbw
     have hwsz := hbw.size
     obtain ⟨⟨q0, q1, q2, q3, q4, q5, q6⟩, hfz, hcl⟩ := hC4.cl HID.out (msgL_length z16_length) (msgL_length z16_length)
     have f4 := hfz 64 (by omega)
     have f5 := hfz 65 (by omega)
     have f6 := hfz 66 (by omega)
     clear hfz
     go_upto_region 12 with fail
     clear q0 q1 q2 q3 q4 q5 q6 f4 f5 f6 hcl
     have hC5 := hC4.clDue HID.out (msgL_length z16_length) (msgL_length z16_length) (now + wait)
     have hx5 := exc_sc (S := fun q => q = cb) (exc_of hbw) (.inl rfl) 64 (.int .u64 (now + wait))
     have hL5 := LtS.exc HL.out (fun q hq e => by have := HCB.out; omega) (exc_sc (S := fun q => q = cb) (exc_of (Below.refl wr.heap.size wr)) (.inl rfl) 64 (.int .u64 (now + wait)))
     clear hC4 HL
     generalize wr.setCell ⟨cb, 64, none⟩ (.int .u64 (now + wait)) = w5 at hC5 hx5 hL5 ⊢
     obtain ⟨⟨q0, q1, q2, q3, q4, q5, q6⟩, hfz, hcl⟩ := hC5.cl HID.out (msgL_length z16_length) (msgL_length z16_length)
     have f5 := hfz 65 (by omega)
     clear hfz
     have HL5 := Lib.hid hL5
     have HX5 := Lib.hid hx5
     clear hL5 hx5 hbw
     go_upto_region 13 with fail
     clear q0 q1 q2 q3 q4 q5 q6 f5 hcl
     have hC6 := hC5.clWait HID.out (msgL_length z16_length) (msgL_length z16_length) (min (2 * wait) 16)
     have hx6 := exc_sc HX5.out (.inl rfl) 65 (.int .u64 (min (2 * wait) 16))
     have hL6 := LtS.exc HL5.out (fun q hq e => by have := HCB.out; omega) (exc_sc (S := fun q => q = cb) (exc_of (Below.refl w5.heap.size w5)) (.inl rfl) 65 (.int .u64 (min (2 * wait) 16)))
     clear hC5 HL5 HX5
     generalize w5.setCell ⟨cb, 65, none⟩ (.int .u64 (min (2 * wait) 16)) = w6 at hC6 hx6 hL6 ⊢
     obtain ⟨⟨q0, q1, q2, q3, q4, q5, q6⟩, hfz, hcl⟩ := hC6.cl HID.out (msgL_length z16_length) (msgL_length z16_length)
     have f6 := hfz 66 (by omega)
     clear hfz
     have HL6 := Lib.hid hL6
     have HX6 := Lib.hid hx6
     clear hL6 hx6
     go_upto_region 14 with fail
     clear q0 q1 q2 q3 q4 q5 q6 f6 hcl
     have hC7 := hC6.clTries HID.out (msgL_length z16_length) (msgL_length z16_length) (tries + 1)
     have hx7 := exc_sc HX6.out (.inl rfl) 66 (.int .i64 (tries + 1))
     have hL7 := LtS.exc HL6.out (fun q hq e => by have := HCB.out; omega) (exc_sc (S := fun q => q = cb) (exc_of (Below.refl w6.heap.size w6)) (.inl rfl) 66 (.int .i64 (tries + 1)))
     clear hC6 HL6 HX6
     generalize w6.setCell ⟨cb, 66, none⟩ (.int .i64 (tries + 1)) = w7 at hC7 hx7 hL7 ⊢
     have HL7 := Lib.hid hL7
     have HX7 := Lib.hid hx7
     have HC7 := Lib.hid hC7
     clear hL7 hx7 hC7
     go_wp2_with fail
     go_ret
     exact ⟨_, rfl, ⟨_, HL7.out⟩, HC7.out, HX7.out⟩

end Go.Proofs.Ytbakkmfjamcbfaa
