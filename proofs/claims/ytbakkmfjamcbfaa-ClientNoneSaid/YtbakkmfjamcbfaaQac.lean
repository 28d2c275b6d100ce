/-
 ClZ, CnA, CnB: for ClientNone.
-/
import Derived.BigQuiet
import Derived.Laws.Bits64b
import Derived.Test.YtbakkmfjamcbfaaKax
import Derived.Test.YtbakkmfjamcbfaaQab
namespace Go.Proofs.Ytbakkmfjamcbfaa
open Go.RowKit Fm
set_option linter.unusedVariables false
set_option maxRecDepth 100000

structure CliK (T cb : Nat) (w : World) (id : List Int) (tm : Int) (n0 n1 n2 : Nat) (zs0 zs1 zs2 : List Int) (d0 d1 : Bool) (k0 k1 due wait tries : Int) : Prop where
 ex : ∃ v0 v1 : Value, Vs w cb (clL id (msgL 1 0 0 0 z16 0 v0) (msgL 1 0 0 0 z16 0 v1) d0 d1 k0 k1 due wait tries) ∧ ClI (cb + 1) T w id tm zs0 zs1 n0 n1 v0 ∧ ClI (cb + 1) T w id tm zs0 zs2 n0 n2 v1
 lt : cb < T
 id16 : id.length = 16
 len : n0 ≤ 1000000 ∧ n1 ≤ 1000000 ∧ n2 ≤ 1000000
section
variable {T cb lo hi : Nat} {w w' : World} {id : List Int} {tm : Int} {n0 n1 n2 n n' : Nat} {zs0 zs1 zs2 xs ys : List Int} {d0 d1 : Bool} {k0 k1 due wait tries now : Int} {S : Nat → Prop} {v : Value}
theorem ClI.toE (h : ClI lo hi w id tm xs ys n n' v) : ClE lo w id tm 0 xs ys n n' v := by
 obtain ⟨A2, A3, c2, c3, g, cg, h1, h2, h3, h4, h5, h6, h7⟩ := h
 exact ⟨A2, A3, c2, c3, g, cg, h1, h2.1, h3, h4, h5, fun q hq => (h7 q hq).2⟩
theorem CliK.exc (h : CliK T cb w id tm n0 n1 n2 zs0 zs1 zs2 d0 d1 k0 k1 due wait tries) (hS : ∀ q, cb ≤ q → q < T → ¬ S q) (hex : Exc S w.heap.size w w') : CliK T cb w' id tm n0 n1 n2 zs0 zs1 zs2 d0 d1 k0 k1 due wait tries := by
 obtain ⟨⟨v0, v1, h1, h2, h3⟩, h4, h5, h6⟩ := h
 exact ⟨⟨v0, v1, h1.exc (hS cb (Nat.le_refl _) h4) hex, h2.exc (fun q k1 k2 => hS q (by omega) k2) hex, h3.exc (fun q k1 k2 => hS q (by omega) k2) hex⟩, h4, h5, h6⟩
theorem CliK.call (h : CliK T cb w id tm n0 n1 n2 zs0 zs1 zs2 d0 d1 k0 k1 due wait tries) (hb : Below w.heap.size w w') : CliK T cb w' id tm n0 n1 n2 zs0 zs1 zs2 d0 d1 k0 k1 due wait tries := h.exc (S := fun _ => False) (fun _ _ _ h => h) (exc_of hb)
theorem client_RawK (id : List Int) (hid : id.length = 16) (now : Int) (A0 A1 A2 : Option Addr) (n0 c0 n1 c1 n2 c2 : Nat) (zs0 zs1 zs2 : List Int) (w : World) (h0 : RdB w A0 n0 zs0) (h1 : RdB w A1 n1 zs1) (h2 : RdB w A2 n2 zs2) (hz1 : entC now 0 n0 n1 = 0) (hz2 : entC now 0 n0 n2 = 0) :
  Calls Try.prog 15 #[.agg (cells8 id).toArray, .int .u64 now, .slice A0 n0 c0, .slice A1 n1 c1, .slice A2 n2 c2] w fun e w' => ∃ cb, e = .returned (.tuple #[.pointer (some ⟨cb, 0, none⟩), .int .i64 0]) ∧ w.heap.size ≤ cb ∧ CliK w'.heap.size cb w' id now n0 n1 n2 zs0 zs1 zs2 false false 0 0 0 1 0 ∧ Below w.heap.size w w' :=
 (client_Raw id hid now A0 A1 A2 n0 c0 n1 c1 n2 c2 zs0 zs1 zs2 w h0 h1 h2).mono fun e w' h => by
  rcases h with ⟨ec, hne, hec, _⟩ | ⟨_, _, cb, v0, v1, he, hcb, hV, he0, he1, hb⟩
  ·exfalso
   rw [if_pos hz1, hz2] at hec
   exact hne hec
  ·exact ⟨cb, he, hcb, ⟨⟨v0, v1, hV, he0.toI, he1.toI⟩, hV.lt, hid, h0.2.1, h1.2.1, h2.2.1⟩, hb⟩
theorem client_RawN (id : List Int) (hid : id.length = 16) (now : Int) (A0 A1 A2 : Option Addr) (n0 c0 n1 c1 n2 c2 : Nat) (zs0 zs1 zs2 : List Int) (w : World) (h0 : RdB w A0 n0 zs0) (h1 : RdB w A1 n1 zs1) (h2 : RdB w A2 n2 zs2) (ec : Int) (hz1 : entC now 0 n0 n1 = ec) (hec0 : ec ≠ 0) :
  Calls Try.prog 15 #[.agg (cells8 id).toArray, .int .u64 now, .slice A0 n0 c0, .slice A1 n1 c1, .slice A2 n2 c2] w fun e w' => e = .returned (.tuple #[.pointer none, .int .i64 ec]) ∧ Below w.heap.size w w' :=
 (client_Raw id hid now A0 A1 A2 n0 c0 n1 c1 n2 c2 zs0 zs1 zs2 w h0 h1 h2).mono fun e w' h => by
  rcases h with ⟨e1, hne, hec, he, hb⟩ | ⟨h1, _⟩
  ·rw [hz1, if_neg hec0] at hec
   subst hec
   exact ⟨he, hb⟩
  ·exact absurd (hz1.symm.trans h1) hec0
theorem CliK.tickNo (h : CliK T cb w id tm n0 n1 n2 zs0 zs1 zs2 d0 d1 k0 k1 due wait tries) (hd : now < due) :
  Calls Try.prog 16 #[.pointer (some ⟨cb, 0, none⟩), .int .u64 now] w fun e w' => e = .returned (.slice none 0 0) ∧ Below w.heap.size w w' := by
 obtain ⟨v0, v1, h1, _⟩ := h.ex
 exact client_TickNo id h.id16 _ _ (msgL_length z16_length) (msgL_length z16_length) d0 d1 k0 k1 due wait tries now hd cb w h1
theorem CliK.tick (h : CliK T cb w id tm n0 n1 n2 zs0 zs1 zs2 d0 d1 k0 k1 due wait tries) (hT : T ≤ w.heap.size) (hd : due ≤ now) (hnw : 0 ≤ now ∧ now ≤ 1000000) (hwt : 0 ≤ wait ∧ wait ≤ 16) (htr : 0 ≤ tries ∧ tries ≤ 1000000) :
  Calls Try.prog 16 #[.pointer (some ⟨cb, 0, none⟩), .int .u64 now] w fun e w' => ∃ (v : Value) (ps : List (Value × Nat × Nat)), e = .returned v ∧ LtS w.heap.size w' v id tm zs0 n0 (itK d0 d1 zs1 zs2 n1 n2 2) ps ∧
   CliK T cb w' id tm n0 n1 n2 zs0 zs1 zs2 d0 d1 k0 k1 (if d0 && d1 then due else now + wait) (if d0 && d1 then wait else min (2 * wait) 16) (if d0 && d1 then tries else tries + 1) ∧ Exc (fun q => q = cb) w.heap.size w w' := by
 obtain ⟨⟨v0, v1, h1, h2, h3⟩, h4, h5, h6⟩ := h
 exact (client_TickG id h5 tm due wait tries now hd hnw hwt htr n0 n1 n2 h6.1 h6.2.1 h6.2.2 zs0 zs1 zs2 v0 v1 d0 d1 k0 k1 cb w h1 h2.toE h3.toE).mono fun e w' ⟨v, ps, he, hL, hV, hx⟩ =>
  ⟨v, ps, he, hL, ⟨⟨v0, v1, hV, h2.exc (fun q k1 k2 e => by omega) hx, h3.exc (fun q k1 k2 e => by omega) hx⟩, h4, h5, h6⟩, hx⟩
end

theorem own_cellU {w : World} {base g n cap : Nat} {xs : List Int} (h : w.ownsRow base 22 1 (.slice (some ⟨g, 0, none⟩) n cap) n (cellsU xs)) (i : Nat) (e : Int) (hi : xs[i]? = some e) : w.cell? ⟨g, i, none⟩ = some (.int .u64 e) := by
 have f1 := h.cells (g := g) rfl i _ (cellsU_at hi)
 have ha : (⟨g, 0, none⟩ : Addr).add i = ⟨g, 0 + i, none⟩ := by
  unfold Addr.add
  split <;> simp_all
 rwa [ha, Nat.zero_add] at f1
def sentL (k : Nat) : List Int := ([0, 1, 3, 7, 15, 31, 47] : List Int).filter (· < (k : Int))
def dueL (k : Nat) : Int := if k ≤ 0 then 0 else if k ≤ 1 then 1 else if k ≤ 3 then 3 else if k ≤ 7 then 7 else if k ≤ 15 then 15 else if k ≤ 31 then 31 else if k ≤ 47 then 47 else 63
def waitL (k : Nat) : Int := if k ≤ 0 then 1 else if k ≤ 1 then 2 else if k ≤ 3 then 4 else if k ≤ 7 then 8 else 16
theorem tick_tab : ∀ k : Nat, k < 50 → (((k : Int) < dueL k ∧ sentL (k + 1) = sentL k ∧ dueL (k + 1) = dueL k ∧ waitL (k + 1) = waitL k) ∨ (dueL k ≤ (k : Int) ∧ sentL (k + 1) = sentL k ++ [(k : Int)] ∧ dueL (k + 1) = (k : Int) + waitL k ∧ waitL (k + 1) = min (2 * waitL k) 16)) ∧ (0 ≤ waitL k ∧ waitL k ≤ 16) ∧ (sentL k).length ≤ 50 := by decide +kernel
theorem sent_50 : sentL 50 = [0, 1, 3, 7, 15, 31, 47] := by decide +kernel

def idc1 : List Int := [1, 0, 0, 0, 0, 0, 0, 0, 0, 0, 0, 0, 0, 0, 0, 0]
theorem build_idc1 (w : World) : (Instr.build 34 #[(0, .int .u8 1)]).run Try.prog w = .ok (.agg (cells8 idc1).toArray) w := by kernel_rfl
theorem RdB.none (w : World) : RdB w none 0 [] := ⟨rfl, by omega, fun h => absurd h (by omega)⟩

set_option maxHeartbeats 8000000 in
theorem law22_Awake (w : World) : Calls Try.prog 12 #[] w fun e w' => e = .returned (.bool true) ∧ Below w.heap.size w w' := by
 have HR := Lib.hid (client_RawK idc1 rfl 0 none none none 0 0 0 0 0 0 [] [] [] w (RdB.none w) (RdB.none w) (RdB.none w) (by decide) (by decide))
 go_enter Try.func12, Try.ntmps12
 go_upto_region 1 with fail
 refine wp_region_lit ?_
 refine wpList_valD (some 6) rfl rfl (exec_build rfl (by kernel_rfl) (build_idc1 _)) ?_
 simp only [Zp, Zq, Zr, Zs]
 refine wpList_callD (some 7) rfl rfl 15 _ ?_ (HR.out) ?_
 ·go_simp; try (with_reducible rfl)
 rintro e w1 ⟨cb, rfl, hcb, hK, hb1⟩
 refine ⟨_, rfl, ?_⟩
 simp only [Zp, Zq, Zr, Zs]
 refine wpList_valD (some 5) rfl rfl (by (go_simp; first | with_reducible rfl | exact ⟨rfl, rfl⟩ | (trace_state; fail))) ?_
 simp only [Zp, Zq, Zr, Zs]
 refine wpList_valD (some 8) rfl rfl (by (go_simp; first | with_reducible rfl | exact ⟨rfl, rfl⟩ | (trace_state; fail))) ?_
 simp only [Zp, Zq, Zr, Zs]
 refine wpList_valD (some 9) rfl rfl (by (go_simp; first | with_reducible rfl | exact ⟨rfl, rfl⟩ | (trace_state; fail))) ?_
 simp only [Zp, Zq, Zr, Zs]
 refine wpList_valD (some 1) rfl rfl (by (go_simp; first | with_reducible rfl | exact ⟨rfl, rfl⟩ | (trace_state; fail))) ?_
 simp only [Zp, Zq, Zr, Zs]
 refine wpList_valD (some 2) rfl rfl (by (go_simp; first | with_reducible rfl | exact ⟨rfl, rfl⟩ | (trace_state; fail))) ?_
 simp only [Zp, Zq, Zr, Zs]
 obtain ⟨T, hT⟩ : ∃ z, w1.heap.size = z := ⟨_, rfl⟩
 have hT1 : T ≤ w1.heap.size := Nat.le_of_eq hT.symm
 have hT0 : w.heap.size ≤ T := by rw [← hT]; exact hb1.size
 have hcT := hK.lt
 rw [hT] at hK hcT
 clear HR hT
 have HK := Lib.hid hK
 have HB1 := Lib.hid hb1
 clear hK hb1
 go_upto_region 4 with fail
 go_wp2_with fail
 go_loopw [3, 10] (fun v3 i wr => ∃ k : Nat, k ≤ 50 ∧ i = .int .u64 k ∧ wr.ownsRow T 22 1 v3 (sentL k).length (cellsU (sentL k)) ∧ T ≤ wr.heap.size ∧ CliK T cb wr idc1 0 0 0 0 [] [] [] false false 0 0 (dueL k) (waitL k) (sentL k).length ∧ Below w.heap.size w wr) (fun _ i _ => 50 - (intOf i).toNat)
 case atStart => exact ⟨0, by omega, rfl, World.ownsRow_nil _ _ _ _, hT1, HK.out, HB1.out⟩
 case round =>
  clear HK HB1 hT1
  obtain ⟨k, hk, rfl, hown, hTr, hK, hbw⟩ := hrel
  obtain ⟨A, c, rfl⟩ := own_shape hown
  by_cases hlt : k < 50
  ·obtain ⟨htab, hwt, hlen⟩ := tick_tab k hlt
   have hki : (k : Int) < 50 := by omega
   have hwk : IntKind.u64.wrap ((k : Int) + 1) = (k : Int) + 1 := IntWalk.u64_in _ (by omega)
   have HOWN := Lib.hid hown
   have HK := Lib.hid hK
   have HBW := Lib.hid hbw
   have HWT := Lib.hid hwt
   have HLEN := Lib.hid hlen
   rcases htab with ⟨hd, hs1, hd1, hw1⟩ | ⟨hd, hs1, hd1, hw1⟩
   ·have HTI := Lib.hid (hK.tickNo hd)
    have HE := Lib.hid (And.intro hs1 (And.intro hd1 hw1))
    clear hd hs1 hd1 hw1 hown hK hbw hwt hlen
    go_wp2_with (go_at_call 16; refine HTI.out.mono ?_; rintro e w2 ⟨rfl, hb2⟩)
    go_roundw
    case rel => exact ⟨k + 1, by omega, by go_num, by rw [HE.out.1]; exact own_call HOWN.out hb2, Nat.le_trans hTr hb2.size, by rw [HE.out.1, HE.out.2.1, HE.out.2.2]; exact HK.out.call hb2, bl_call HBW.out (Nat.le_refl _) hb2⟩
    case measure => simp [intOf]; omega
   ·have HTI := Lib.hid (hK.tick hTr hd ⟨by omega, by omega⟩ hwt ⟨by omega, by omega⟩)
    have HE := Lib.hid (And.intro hs1 (And.intro hd1 hw1))
    clear hd hs1 hd1 hw1 hown hK hbw hwt hlen
    go_upto_region 6 with fail
    refine wp_region_lit ?_
    refine wpList_valD (some 13) rfl rfl (by (go_simp; first | with_reducible rfl | exact ⟨rfl, rfl⟩ | (trace_state; fail))) ?_
    simp only [Zp, Zq, Zr, Zs]
    refine wpList_valD (some 14) rfl rfl (by (go_simp; first | with_reducible rfl | exact ⟨rfl, rfl⟩ | (trace_state; fail))) ?_
    simp only [Zp, Zq, Zr, Zs]
    refine wpList_callD (some 15) rfl rfl 16 _ ?_ (HTI.out) ?_
    ·go_simp; try (with_reducible rfl)
    rintro e w2 ⟨v, ps, rfl, hL, hK2, hx2⟩
    refine ⟨_, rfl, ?_⟩
    simp only [Zp, Zq, Zr, Zs]
    obtain ⟨A5, c5, rfl⟩ := own_shape hL.row
    have hown2 := own_other HOWN.out hx2 (fun q hq e => by
     have h1 := (World.ownsRow.lt HOWN.out q hq).1
     have h2 : q = cb := e
     omega)
    have hb2 := HBW.out.trans (Exc.below (hx2.mono HBW.out.size) (fun q hq e => by
     have h2 : q = cb := e
     omega))
    have hT2 := Nat.le_trans hTr hx2.size
    clear hL hx2 HTI HK HBW HOWN
    go_upto_region 7 with fail
    refine wp_region_lit ?_
    refine wpList_valD (some 18) rfl rfl (by (go_simp; first | with_reducible rfl | exact ⟨rfl, rfl⟩ | (trace_state; fail))) ?_
    simp only [Zp, Zq, Zr, Zs]
    refine wpList_valD (some 19) rfl rfl (by (go_simp; first | with_reducible rfl | exact ⟨rfl, rfl⟩ | (trace_state; fail))) ?_
    simp only [Zp, Zq, Zr, Zs]
    refine wpList_valD (some 20) rfl rfl (by (skip; go_simp; first | with_reducible rfl | exact ⟨rfl, rfl⟩ | (trace_state; fail))) ?_
    simp only [Zp, Zq, Zr, Zs]
    have hbA := (Below.refl w2.heap.size w2).alloc (Nat.le_refl _) (.cells #[.int .u64 (k : Int)] 22)
    have hN := Vs.new w2 [.int .u64 (k : Int)] #[.int .u64 (k : Int)] 22 rfl
    have hown3 := own_call hown2 hbA
    have hK3 := hK2.call hbA
    have hb3 := bl_call hb2 (Nat.le_refl _) hbA
    have hT3 := Nat.le_trans hT2 hbA.size
    clear hown2 hK2 hb2
    generalize w2.alloc (.cells #[.int .u64 (k : Int)] 22) = w3 at hN hown3 hK3 hb3 hT3 ⊢
    have hR1 : RowU w3 w2.heap.size 0 [(k : Int)] := fun i e hi => by
     match i, hi with
     | 0, hi =>
      injection hi with hi
      subst hi
      exact hN.cell 0 _ rfl
    generalize w2.heap.size = nb at hR1 ⊢
    have hn1 : (sentL k).length + 1 ≤ 1099511627776 := by have := HLEN.out; omega
    refine wpList_append_U rfl (.tmp 18) (.tmp 20) rfl T (.slice A (sentL k).length c) (sentL k).length (sentL k) (by kernel_rfl) hown3 (some ⟨nb, 0, none⟩) 1 1 [(k : Int)] (by kernel_rfl) rfl (fun _ => ⟨_, _, rfl, hR1⟩) hn1 hT3 ?_
    intro v9 w9 hown9 hg9 hat9
    have hx9 := grown_exc hg9
    have hK9 := hK3.exc (fun q k1 k2 e => by
     have h1 := (World.ownsRow.lt hown3 q e).1
     omega) hx9
    have hb9 := hb3.trans (Exc.below (hx9.mono hb3.size) (fun q hq e => by
     have h1 := (World.ownsRow.lt hown3 q e).1
     omega))
    obtain ⟨gg, cgg, hv9⟩ := own_slice hown9
    subst hv9
    have HO9 := Lib.hid hown9
    have HK9 := Lib.hid hK9
    have HB9 := Lib.hid hb9
    have hT9 := Nat.le_trans hT3 hx9.size
    have HL9 : Hid ((((sentL (k + 1)).length : Nat) : Int) = ((sentL k).length : Int) + 1) := Lib.hid (by rw [HE.out.1, List.length_append]; rfl)
    clear hown9 hK9 hb9 hx9 hg9 hat9 hown3 hK3 hb3 hR1 hN hT3 hbA
    go_wp2_with fail
    go_roundw
    case rel => exact ⟨k + 1, by omega, by go_num, by (rw [HE.out.1, List.length_append]; exact HO9.out), hT9, by (rw [HL9.out, HE.out.2.1, HE.out.2.2]; exact HK9.out), HB9.out⟩
    case measure => simp [intOf]; omega
  ·obtain rfl : k = 50 := by omega
   rw [sent_50] at hown
   obtain ⟨g, cg, hg⟩ := own_sl9 hown (by decide)
   injection hg with e1 e2 e3
   subst e1
   have r1 := own_cellU hown 1 1 rfl
   have r4 := own_cellU hown 4 15 rfl
   have r6 := own_cellU hown 6 47 rfl
   clear hown hK
   go_wp2_with fail
   go_ret
   exact ⟨rfl, hbw⟩

end Go.Proofs.Ytbakkmfjamcbfaa

namespace Go.Proofs.Ytbakkmfjamcbfaa
open Go.RowKit Fm
set_option linter.unusedVariables false
set_option maxRecDepth 100000

theorem own_empty8 (w : World) : (w.alloc (.cells #[] 5)).ownsRow w.heap.size 5 1 (.slice (some ⟨w.heap.size, 0, none⟩) 0 0) 0 [] :=
 ⟨rfl, .inr ⟨w.heap.size, 0, #[], rfl, Nat.le_refl _, Array.getElem?_push_size, Nat.le_refl _, Nat.zero_le _, rfl, rfl⟩⟩
theorem make_u8 (n : Nat) (hn : n ≤ 1099511627776) (w : World) :
  (Instr.makeSlice 28 (.int .i64 (n : Int)) (.int .i64 (n : Int))).run Try.prog w = .ok (.slice (some ⟨w.heap.size, 0, none⟩) n n) (w.alloc (.cells (cells8 (List.replicate n 0)).toArray 5)) := by
 obtain ⟨i, hi, hz, h1, h2⟩ := info_parts infoU8
 have hr := run_make (P := Try.prog) w 28 5 i _ Try.underlying28 hi hz .i64 .i64 n n (by omega) (by omega) (by rw [h2]; omega) (by omega)
 rw [hr, h1]
 simp only [Int.toNat_natCast, Value.cells]
 have hm : madeCells #[Value.int IntKind.u8 0] (n * 1) = (cells8 (List.replicate n 0)).toArray := by
  apply Array.ext
  ·simp [madeCells, cells8]
  ·intro i h1 h2
   simp only [madeCells, Array.getElem_map, Array.getElem_range, List.getElem_toArray, cells8, List.getElem_map, List.getElem_replicate]
   simp [Nat.mod_one]
 rw [hm]
theorem own_vs8 {w : World} {base g n c : Nat} {xs : List Int} (h : w.ownsRow base 5 1 (.slice (some ⟨g, 0, none⟩) n c) n (cells8 xs)) : Vs w g (cells8 xs) ∧ base ≤ g := by
 have hl := h.1
 rcases h.2 with ⟨hv, _⟩ | ⟨g', cap, cur, hv, hb, hg, hnc, hcm, hcs, ht⟩
 ·cases hv
 ·injection hv with e1 e2 e3
  injection e1 with e1
  injection e1 with e1
  subst e1
  subst e3
  refine ⟨⟨fun i v hi => ?_, fun i hi => ?_, ?_⟩, hb⟩
  ·rw [← ht] at hi
   have hlt : i < n * 1 := by
    obtain ⟨h1, _⟩ := List.getElem?_eq_some_iff.1 hi
    rw [List.length_take] at h1
    omega
   rw [List.getElem?_take_of_lt hlt] at hi
   simp [World.cell?, hg]
   simpa using hi
  ·simp [World.frozen?, hg]
  ·exact (Array.getElem?_eq_some_iff.1 hg).1
theorem Vs.put8 {w : World} {b : Nat} {k : List Int} (h : Vs w b (cells8 k)) {i : Nat} (hi : i < k.length) (x : Int) : Vs (w.setCell ⟨b, i, none⟩ (.int .u8 x)) b (cells8 (k.set i x)) := h.put16 hi x
theorem Vs.rdB {w : World} {b n : Nat} {xs : List Int} (h : Vs w b (cells8 xs)) (hl : xs.length = n) (hn : n ≤ 1000000) : RdB w (some ⟨b, 0, none⟩) n xs :=
 ⟨hl, hn, fun _ => ⟨b, 0, rfl, h.lt, fun i e hi => by
  rw [Nat.zero_add]
  exact h.cell i _ (cells8_at hi)⟩⟩

theorem ltR_at {its : List (Int × List Int × Nat)} {ps : List (Value × Nat × Nat)} (hl : ps.length = its.length) {k : Nat} {it : Int × List Int × Nat} {p : Value × Nat × Nat} (h1 : its[k]? = some it) (h2 : ps[k]? = some p) {j : Nat} {v : Value} (hj : (ltL it.1 (msgL 1 0 0 0 z16 0 p.1))[j]? = some v) : (ltR its ps)[k * 23 + j]? = some v := by
 have key : ∀ (its : List (Int × List Int × Nat)) (ps : List (Value × Nat × Nat)) (k : Nat), ps.length = its.length → its[k]? = some it → ps[k]? = some p → (ltR its ps)[k * 23 + j]? = some v := by
  intro its
  induction its with
  | nil => intro ps k _ h; simp at h
  | cons x its ih =>
   intro ps k hl h1 h2
   cases ps with
   | nil => simp at hl
   | cons y ps =>
    have e : ltR (x :: its) (y :: ps) = ltL x.1 (msgL 1 0 0 0 z16 0 y.1) ++ ltR its ps := by unfold ltR; rw [List.zipWith_cons_cons, List.flatten_cons]
    have hlen : (ltL x.1 (msgL 1 0 0 0 z16 0 y.1)).length = 23 := ltL_length _ (msgL_length z16_length)
    rw [e]
    cases k with
    | zero =>
     simp only [List.getElem?_cons_zero, Option.some.injEq] at h1 h2
     subst h1
     subst h2
     rw [Nat.zero_mul, Nat.zero_add, List.getElem?_append_left (List.getElem?_eq_some_iff.1 hj).1]
     exact hj
    | succ k =>
     rw [List.getElem?_append_right (by rw [hlen]; omega), hlen, show (k + 1) * 23 + j - 23 = k * 23 + j by omega]
     exact ih ps k (by simpa using hl) (by simpa using h1) (by simpa using h2)
 exact key its ps k hl h1 h2
theorem own_rangeL {w : World} {base g n c : Nat} {xs : List Value} (h : w.ownsRow base 42 23 (.slice (some ⟨g, 0, none⟩) n c) n xs) : Vs w g xs ∧ base ≤ g := by
 have hl := h.1
 rcases h.2 with ⟨hv, _⟩ | ⟨g', cap, cur, hv, hb, hg, hnc, hcm, hcs, ht⟩
 ·cases hv
 ·injection hv with e1 e2 e3
  injection e1 with e1
  injection e1 with e1
  subst e1
  subst e3
  refine ⟨⟨fun i v hi => ?_, fun i hi => ?_, ?_⟩, hb⟩
  ·rw [← ht] at hi
   have hlt : i < n * 23 := by
    obtain ⟨h1, _⟩ := List.getElem?_eq_some_iff.1 hi
    rw [List.length_take] at h1
    omega
   rw [List.getElem?_take_of_lt hlt] at hi
   simp [World.cell?, hg]
   simpa using hi
  ·simp [World.frozen?, hg]
  ·exact (Array.getElem?_eq_some_iff.1 hg).1
theorem LtS.at' {B : Nat} {w : World} {g c : Nat} {id : List Int} {tm : Int} {xs : List Int} {n N : Nat} {its : List (Int × List Int × Nat)} {ps : List (Value × Nat × Nat)} (hN : its.length = N) (h : LtS B w (.slice (some ⟨g, 0, none⟩) N c) id tm xs n its ps) {k : Nat} {it : Int × List Int × Nat} {p : Value × Nat × Nat} (h1 : its[k]? = some it) (h2 : ps[k]? = some p) :
  w.rangeAt g (k * 23) (ltL it.1 (msgL 1 0 0 0 z16 0 p.1)) ∧ g < w.heap.size ∧ B ≤ g := by
 subst hN
 obtain ⟨hV, hB⟩ := own_rangeL h.row
 exact ⟨fun j v hj => hV.cell _ _ (ltR_at h.len h1 h2 hj), hV.lt, hB⟩
theorem size_lettr : (Try.prog.info? 42).map (·.size) = some 23 := by kernel_rfl
section
variable {w : World} {b o : Nat} {tq tq' : Int} {es es' : Value}
theorem load_letter (h : w.rangeAt b o (ltL tq (msgL 1 0 0 0 z16 0 es))) : (Instr.loadAt 42 (.pointer (some ⟨b, o, none⟩))).run Try.prog w = .ok (.agg (ltL tq (msgL 1 0 0 0 z16 0 es)).toArray) w :=
 load_R h Try.underlying42 rfl (by rw [ltL_length _ (msgL_length z16_length)]; exact size_lettr)
theorem Vs.storeL (h : Vs w b (ltL tq' (msgL 0 0 0 0 z16 0 es'))) (h1 : es.oneCell' = true) : (Instr.storeAt 42 (.pointer (some ⟨b, 0, none⟩)) (.agg (ltL tq (msgL 1 0 0 0 z16 0 es)).toArray)).run Try.prog w = .ok () (w.setCells b 0 (ltL tq (msgL 1 0 0 0 z16 0 es))) ∧ Vs (w.setCells b 0 (ltL tq (msgL 1 0 0 0 z16 0 es))) b (ltL tq (msgL 1 0 0 0 z16 0 es)) :=
 ⟨store_W h (by rw [ltL_length _ (msgL_length z16_length), ltL_length _ (msgL_length z16_length)]) (by rw [ltL_length _ (msgL_length z16_length)]; exact size_lettr) (ltL_one _ (msgL_one 1 0 0 0 z16 0 h1)), h.setW (by rw [ltL_length _ (msgL_length z16_length), ltL_length _ (msgL_length z16_length)])⟩
theorem Vs.letEs (h : Vs w b (ltL tq (msgL 1 0 0 0 z16 0 es))) : w.cell? ⟨b, 0, none⟩ = some (.int .i64 tq) ∧ w.cell? ⟨b, 22, none⟩ = some es ∧ b < w.heap.size := ⟨h.cell 0 _ rfl, h.cell 22 _ rfl, h.lt⟩
end

theorem eqItemsC (d : Nat) (w : World) (a0 a1 b0 b1 : Int) : (Op.equalIn (d + 2) 31 (.agg #[.int .i64 a0, .int .i64 a1]) (.agg #[.int .i64 b0, .int .i64 b1])).run Try.prog w = .ok (a0 == b0 && a1 == b1) w := by
 have hs : (Try.prog.info? 24).isSome = true := by kernel_rfl
 have hc : Try.prog.cellsOf 24 = 1 := by kernel_rfl
 obtain ⟨i, hi⟩ : ∃ i, Try.prog.info? 24 = some i := Option.isSome_iff_exists.1 hs
 rw [run_equalIn_array w (d + 1) _ _ Try.underlying31 hi, hc]
 have e0 : ∀ (x y : Int), (Op.equalIn (d + 1) 24 (.int .i64 x) (.int .i64 y)).run Try.prog w = .ok (x == y) w := fun x y => run_equalIn_int w d 24 .i64 .i64 x y Try.underlying24
 have hp : ∀ (l : Array Value) (j : Nat) (x : Int), l[j]? = some (.int .i64 x) → (part 24 l (j * 1)).run Try.prog w = .ok (.int .i64 x) w := fun l j x hx => by
  rw [Nat.mul_one]
  simp [part, isAgg, run_underlying Try.underlying24, hx]
 have hr : List.range 2 = [0, 1] := rfl
 rw [hr]
 simp only [Op.eqItems, Sem.run_bind, hp #[.int .i64 a0, .int .i64 a1] 0 a0 rfl, hp #[.int .i64 b0, .int .i64 b1] 0 b0 rfl, e0, Result.andThen_ok]
 cases h : (a0 == b0)
 ·simp
 ·have e1 := hp #[.int .i64 a0, .int .i64 a1] 1 a1 rfl
  have e2 := hp #[.int .i64 b0, .int .i64 b1] 1 b1 rfl
  simp [e1, e2, e0, Sem.run_bind]
  by_cases h2 : a1 = b1
  ·simp [h2]
  ·simp [h2]
theorem build_errs0 (w : World) : (Instr.build 31 #[]).run Try.prog w = .ok (.agg #[.int .i64 0, .int .i64 0]) w := by kernel_rfl

end Go.Proofs.Ytbakkmfjamcbfaa

namespace Go.Proofs.Ytbakkmfjamcbfaa
open Go.RowKit Fm
set_option linter.unusedVariables false
set_option maxRecDepth 100000

def idc2 : List Int := [2, 0, 0, 0, 0, 0, 0, 0, 0, 0, 0, 0, 0, 0, 0, 0]
theorem build_idc2 (w : World) : (Instr.build 34 #[(0, .int .u8 2)]).run Try.prog w = .ok (.agg (cells8 idc2).toArray) w := by kernel_rfl

set_option maxHeartbeats 4000000 in
theorem walk_ClientNone0 (kind job start many code : Int) (sum : List Int) (hsum : sum.length = 16) (A : Option Addr) (N c : Nat) (frm now : Int) (Ab : Option Addr) (nb cb9 : Nat) (over : Int) (w : World) (h : 100 < nb ∨ 20 < N) :
  Calls Try.prog 3 #[.agg (msgL kind job start many sum code (.slice A N c)).toArray, .int .i64 frm, .int .u64 now, .slice Ab nb cb9, .int .u8 over] w fun e w' => e = .returned (.bool true) ∧ Below w.heap.size w w' := by
 by_cases h1 : 100 < nb
 ·have hn1 : (100 : Int) < (nb : Int) := by omega
  clear h h1
  have HAW := Lib.hid law22_Awake
  go_enter Try.func3, Try.ntmps3
  go_upto_region 1 with fail
  have hM := Vs.new w (msgL kind job start many sum code (.slice A N c)) ((msgL kind job start many sum code (.slice A N c)).toArray) 27 rfl
  have hb00 : Below w.heap.size w (w.alloc (.cells (msgL kind job start many sum code (.slice A N c)).toArray 27)) := by repeat (first | exact bA | with_reducible assumption | apply bB)
  have hszn : w.heap.size + 1 ≤ (w.alloc (.cells (msgL kind job start many sum code (.slice A N c)).toArray 27)).heap.size := by simp only [World.size_alloc]; omega
  generalize (w.alloc (.cells (msgL kind job start many sum code (.slice A N c)).toArray 27)) = w1 at hM hb00 hszn ⊢
  obtain ⟨m0, m1, m2, m3, m4, m5, m6, m7⟩ := hM.msg hsum
  go_wp2_with (go_at_call 12; refine (HAW.out _).mono ?_; rintro e w2 ⟨rfl, hb2⟩; clear m0 m1 m2 m3 m4 m5 m6 m7; obtain ⟨m0, m1, m2, m3, m4, m5, m6, m7⟩ := (hM.call hb2).msg hsum)
  go_ret
  exact ⟨rfl, bl_call hb00 (Nat.le_refl _) hb2⟩
 ·have hn1 : (nb : Int) ≤ 100 := by omega
  have hn2 : (20 : Int) < (N : Int) := by omega
  clear h h1
  have HAW := Lib.hid law22_Awake
  go_enter Try.func3, Try.ntmps3
  go_upto_region 1 with fail
  have hM := Vs.new w (msgL kind job start many sum code (.slice A N c)) ((msgL kind job start many sum code (.slice A N c)).toArray) 27 rfl
  have hb00 : Below w.heap.size w (w.alloc (.cells (msgL kind job start many sum code (.slice A N c)).toArray 27)) := by repeat (first | exact bA | with_reducible assumption | apply bB)
  have hszn : w.heap.size + 1 ≤ (w.alloc (.cells (msgL kind job start many sum code (.slice A N c)).toArray 27)).heap.size := by simp only [World.size_alloc]; omega
  generalize (w.alloc (.cells (msgL kind job start many sum code (.slice A N c)).toArray 27)) = w1 at hM hb00 hszn ⊢
  obtain ⟨m0, m1, m2, m3, m4, m5, m6, m7⟩ := hM.msg hsum
  go_wp2_with (go_at_call 12; refine (HAW.out _).mono ?_; rintro e w2 ⟨rfl, hb2⟩; clear m0 m1 m2 m3 m4 m5 m6 m7; obtain ⟨m0, m1, m2, m3, m4, m5, m6, m7⟩ := (hM.call hb2).msg hsum)
  go_ret
  exact ⟨rfl, bl_call hb00 (Nat.le_refl _) hb2⟩

def If0 (k : Nat) (P : Prop) : Prop := k = 0 → P
set_option maxHeartbeats 16000000 in
theorem walk_ClientNone (kind job start many code : Int) (sum : List Int) (hsum : sum.length = 16) (A : Option Addr) (N c : Nat) (frm now : Int) (hnow : 0 ≤ now) (Ab : Option Addr) (nb cb9 : Nat) (bs : List Int) (over : Int) (hov : 0 ≤ over ∧ over ≤ 255) (w : World) (h100 : nb ≤ 100) (h20 : N ≤ 20) (hb : RdB w Ab nb bs) :
  Calls Try.prog 3 #[.agg (msgL kind job start many sum code (.slice A N c)).toArray, .int .i64 frm, .int .u64 now, .slice Ab nb cb9, .int .u8 over] w fun e w' => e = .returned (.bool true) ∧ Below w.heap.size w w' := by
 have hn1 : (nb : Int) ≤ 100 := by omega
 have hn2 : (N : Int) ≤ 20 := by omega
 obtain ⟨K, hK⟩ : ∃ K : Nat, 65537 + over = (K : Int) := ⟨(65537 + over).toNat, by omega⟩
 have hK1 : 65537 ≤ K ∧ K ≤ 65792 := by omega
 have hwo : IntKind.i64.wrap over = over := IntWalk.i64_in _ (by omega)
 have hwK : IntKind.i64.wrap (65537 + over) = (K : Int) := by rw [hK]; exact IntWalk.i64_in _ (by omega)
 obtain ⟨tm, htm⟩ : ∃ t, 1099511627777 + now % 9 = t := ⟨_, rfl⟩
 have htm1 : 1099511627776 < tm ∧ tm ≤ 1099511627785 := by omega
 have hwt : IntKind.u64.wrap (1099511627777 + now % 9) = tm := by rw [htm]; exact IntWalk.u64_in _ (by omega)
 have HKE := Lib.hid hK
 have hwt2 : IntKind.u64.wrap (1099511627777 + now.tmod 9) = tm := by rw [Int.tmod_eq_emod_of_nonneg hnow]; exact hwt
 clear htm hK
 have HBB := Lib.hid hb
 clear hb
 have HAW := Lib.hid law22_Awake
 go_enter Try.func3, Try.ntmps3
 go_upto_region 1 with fail
 have hM := Vs.new w (msgL kind job start many sum code (.slice A N c)) ((msgL kind job start many sum code (.slice A N c)).toArray) 27 rfl
 have hb00 : Below w.heap.size w (w.alloc (.cells (msgL kind job start many sum code (.slice A N c)).toArray 27)) := by repeat (first | exact bA | with_reducible assumption | apply bB)
 have hszn : w.heap.size + 1 ≤ (w.alloc (.cells (msgL kind job start many sum code (.slice A N c)).toArray 27)).heap.size := by simp only [World.size_alloc]; omega
 generalize (w.alloc (.cells (msgL kind job start many sum code (.slice A N c)).toArray 27)) = w1 at hM hb00 hszn ⊢
 obtain ⟨m0, m1, m2, m3, m4, m5, m6, m7⟩ := hM.msg hsum
 go_upto_region 6 with (go_at_call 12; refine (HAW.out _).mono ?_; rintro e w2 ⟨rfl, hb2⟩; clear m0 m1 m2 m3 m4 m5 m6 m7; obtain ⟨m0, m1, m2, m3, m4, m5, m6, m7⟩ := (hM.call hb2).msg hsum)
 clear m0 m1 m2 m3 m4 m5 m6 m7 HAW
 replace hM := hM.call hb2
 replace hb00 := bl_call hb00 (Nat.le_refl _) hb2
 clear hb2
 have HC0 := Lib.hid (client_Done0 w2)
 refine wp_region_lit ?_
 refine wpList_valD (some 41) rfl rfl (by (go_simp; first | with_reducible rfl | exact ⟨rfl, rfl⟩ | (trace_state; fail))) ?_
 simp only [Zp, Zq, Zr, Zs]
 refine wpList_callD (some 42) rfl rfl 13 _ ?_ (HC0.out) ?_
 ·go_simp; try (with_reducible rfl)
 rintro e w3 ⟨rfl, hb3⟩
 refine ⟨_, rfl, ?_⟩
 simp only [Zp, Zq, Zr, Zs]
 replace hb00 := bl_call hb00 (Nat.le_refl _) hb3
 replace hM := hM.call hb3
 clear hb3
 refine wpList_valD (some 40) rfl rfl (by (go_simp; first | with_reducible rfl | exact ⟨rfl, rfl⟩ | (trace_state; fail))) ?_
 simp only [Zp, Zq, Zr, Zs]
 refine wpList_valD (some 43) rfl rfl (by (go_simp; first | with_reducible rfl | exact ⟨rfl, rfl⟩ | (trace_state; fail))) ?_
 simp only [Zp, Zq, Zr, Zs]
 refine wpList_valD (some 44) rfl rfl (by (go_simp; first | with_reducible rfl | exact ⟨rfl, rfl⟩ | (trace_state; fail))) ?_
 simp only [Zp, Zq, Zr, Zs]
 refine wpList_valD (some 13) rfl rfl (by (skip; go_simp; first | with_reducible rfl | exact ⟨rfl, rfl⟩ | (trace_state; fail))) ?_
 simp only [Zp, Zq, Zr, Zs]
 have hD := Vs.new w3 [.int .i64 0, .int .i64 0] #[.int .i64 0, .int .i64 0] 31 rfl
 have hbA := (Below.refl w3.heap.size w3).alloc (Nat.le_refl _) (.cells #[.int .i64 0, .int .i64 0] 31)
 have hst := store_W (T := 31) hD (l' := [.int .i64 0, .int .i64 0]) rfl size_errs2 (by simp [Value.oneCell'])
 refine wpList_valD (some 12) rfl rfl (by (go_simp; first | with_reducible rfl | exact ⟨rfl, rfl⟩ | (trace_state; fail))) ?_
 simp only [Zp, Zq, Zr, Zs]
 refine wpList_skipD rfl rfl (exec_store rfl (by kernel_rfl) (by kernel_rfl) hst) ?_
 have hD2 := hD.setW (l' := [.int .i64 0, .int .i64 0]) rfl
 have hbC := bl_setCells hbA (Nat.le_refl _) 0 [.int .i64 0, .int .i64 0]
 replace hb00 := bl_call hb00 (Nat.le_refl _) hbC
 replace hM := hM.call hbC
 clear hst hbA hbC hD HC0
 generalize (w3.alloc (.cells #[.int .i64 0, .int .i64 0] 31)).setCells w3.heap.size 0 [.int .i64 0, .int .i64 0] = w4 at hD2 hM hb00 ⊢
 obtain ⟨db, hdb⟩ : ∃ z, w3.heap.size = z := ⟨_, rfl⟩
 rw [hdb] at hD2
 simp only [hdb]
 clear hdb
 have HC0 := Lib.hid (client_Id0 w4)
 go_upto_region 7 with fail
 refine wp_region_lit ?_
 refine wpList_valD (some 46) rfl rfl (by (go_simp; first | with_reducible rfl | exact ⟨rfl, rfl⟩ | (trace_state; fail))) ?_
 simp only [Zp, Zq, Zr, Zs]
 refine wpList_callD (some 47) rfl rfl 14 _ ?_ (HC0.out) ?_
 ·go_simp; try (with_reducible rfl)
 rintro e w5 ⟨rfl, hb5⟩
 refine ⟨_, rfl, ?_⟩
 simp only [Zp, Zq, Zr, Zs]
 replace hb00 := bl_call hb00 (Nat.le_refl _) hb5
 replace hM := hM.call hb5
 replace hD2 := hD2.call hb5
 clear hb5
 refine wpList_valD (some 45) rfl rfl (by (go_simp; first | with_reducible rfl | exact ⟨rfl, rfl⟩ | (trace_state; fail))) ?_
 simp only [Zp, Zq, Zr, Zs]
 refine wpList_valD (some 48) rfl rfl (by (go_simp; first | with_reducible rfl | exact ⟨rfl, rfl⟩ | (trace_state; fail))) ?_
 simp only [Zp, Zq, Zr, Zs]
 refine wpList_valD (some 49) rfl rfl (by (go_simp; first | with_reducible rfl | exact ⟨rfl, rfl⟩ | (trace_state; fail))) ?_
 simp only [Zp, Zq, Zr, Zs]
 refine wpList_valD (some 14) rfl rfl (by (skip; go_simp; first | with_reducible rfl | exact ⟨rfl, rfl⟩ | (trace_state; fail))) ?_
 simp only [Zp, Zq, Zr, Zs]
 have hI := Vs.new w5 (cells8 z16) #[.int .u8 0, .int .u8 0, .int .u8 0, .int .u8 0, .int .u8 0, .int .u8 0, .int .u8 0, .int .u8 0, .int .u8 0, .int .u8 0, .int .u8 0, .int .u8 0, .int .u8 0, .int .u8 0, .int .u8 0, .int .u8 0] 34 rfl
 have hbA := (Below.refl w5.heap.size w5).alloc (Nat.le_refl _) (.cells #[.int .u8 0, .int .u8 0, .int .u8 0, .int .u8 0, .int .u8 0, .int .u8 0, .int .u8 0, .int .u8 0, .int .u8 0, .int .u8 0, .int .u8 0, .int .u8 0, .int .u8 0, .int .u8 0, .int .u8 0, .int .u8 0] 34)
 have hst := store_W (T := 34) hI (l' := cells8 z16) rfl (by rw [cells8_length, z16_length]; exact size_id) (one8 _)
 refine wpList_skipD rfl rfl (exec_store rfl (by kernel_rfl) (by kernel_rfl) hst) ?_
 refine wpList_valD (some 15) rfl rfl (by (go_simp; first | with_reducible rfl | exact ⟨rfl, rfl⟩ | (trace_state; fail))) ?_
 simp only [Zp, Zq, Zr, Zs]
 have hI2 := hI.set16 z16_length z16_length
 have hbC := bl_setCells hbA (Nat.le_refl _) 0 (cells8 z16)
 replace hb00 := bl_call hb00 (Nat.le_refl _) hbC
 replace hM := hM.call hbC
 replace hD2 := hD2.call hbC
 clear hst hbA hbC hI HC0
 generalize (w5.alloc (.cells #[.int .u8 0, .int .u8 0, .int .u8 0, .int .u8 0, .int .u8 0, .int .u8 0, .int .u8 0, .int .u8 0, .int .u8 0, .int .u8 0, .int .u8 0, .int .u8 0, .int .u8 0, .int .u8 0, .int .u8 0, .int .u8 0] 34)).setCells w5.heap.size 0 (cells8 z16) = w6 at hI2 hD2 hM hb00 ⊢
 obtain ⟨ib, hib⟩ : ∃ z, w5.heap.size = z := ⟨_, rfl⟩
 rw [hib] at hI2
 simp only [hib]
 clear hib
 go_upto_region 8 with fail
 have hmk := make_u8 K (by omega) w6
 refine wp_region_lit ?_
 refine wpList_valD (some 51) rfl rfl (exec_build rfl (by kernel_rfl) (build_idc1 _)) ?_
 simp only [Zp, Zq, Zr, Zs]
 refine wpList_valD (some 52) rfl rfl (by (go_simp; first | with_reducible rfl | exact ⟨rfl, rfl⟩ | (trace_state; fail))) ?_
 simp only [Zp, Zq, Zr, Zs]
 refine wpList_valD (some 53) rfl rfl (by (go_simp; first | with_reducible rfl | exact ⟨rfl, rfl⟩ | (trace_state; fail))) ?_
 simp only [Zp, Zq, Zr, Zs]
 refine wpList_valD (some 54) rfl rfl (by (go_simp; first | with_reducible rfl | exact ⟨rfl, rfl⟩ | (trace_state; fail))) ?_
 simp only [Zp, Zq, Zr, Zs]
 refine wpList_valD (some 55) rfl rfl (by (have q := hmk; go_simp; first | with_reducible rfl | exact ⟨rfl, rfl⟩ | (trace_state; fail))) ?_
 simp only [Zp, Zq, Zr, Zs]
 have hZ := Vs.new w6 (cells8 (List.replicate K 0)) _ 5 rfl
 have hbA := (Below.refl w6.heap.size w6).alloc (Nat.le_refl _) (.cells (cells8 (List.replicate K 0)).toArray 5)
 have hR8 := client_RawN idc1 rfl 0 none (some ⟨w6.heap.size, 0, none⟩) none 0 0 K K 0 0 [] (List.replicate K 0) [] _ (RdB.none _) (hZ.rdB List.length_replicate (by omega)) (RdB.none _) 4 (by unfold entC; rw [if_neg (by omega), if_pos (by omega)]) (by decide)
 replace hb00 := bl_call hb00 (Nat.le_refl _) hbA
 replace hM := hM.call hbA
 replace hD2 := hD2.call hbA
 replace hI2 := hI2.call hbA
 generalize w6.alloc (.cells (cells8 (List.replicate K 0)).toArray 5) = w7 at hR8 hb00 hM hD2 hI2 ⊢
 clear hZ hbA hmk
 refine wpList_callD (some 56) rfl rfl 15 _ ?_ (hR8) ?_
 ·go_simp; try (with_reducible rfl)
 rintro e w8 ⟨rfl, hb8⟩
 refine ⟨_, rfl, ?_⟩
 simp only [Zp, Zq, Zr, Zs]
 clear hR8
 replace hb00 := bl_call hb00 (Nat.le_refl _) hb8
 replace hM := hM.call hb8
 replace hD2 := hD2.call hb8
 replace hI2 := hI2.call hb8
 clear hb8
 refine wpList_valD (some 50) rfl rfl (by (go_simp; first | with_reducible rfl | exact ⟨rfl, rfl⟩ | (trace_state; fail))) ?_
 simp only [Zp, Zq, Zr, Zs]
 refine wpList_valD (some 57) rfl rfl (by (go_simp; first | with_reducible rfl | exact ⟨rfl, rfl⟩ | (trace_state; fail))) ?_
 simp only [Zp, Zq, Zr, Zs]
 refine wpList_valD (some 58) rfl rfl (by (go_simp; first | with_reducible rfl | exact ⟨rfl, rfl⟩ | (trace_state; fail))) ?_
 simp only [Zp, Zq, Zr, Zs]
 refine wpList_valD (some 16) rfl rfl (by (go_simp; first | with_reducible rfl | exact ⟨rfl, rfl⟩ | (trace_state; fail))) ?_
 simp only [Zp, Zq, Zr, Zs]
 refine wpList_valD (some 17) rfl rfl (by (go_simp; first | with_reducible rfl | exact ⟨rfl, rfl⟩ | (trace_state; fail))) ?_
 simp only [Zp, Zq, Zr, Zs]
 go_upto_region 9 with fail
 refine wp_region_lit ?_
 refine wpList_valD (some 60) rfl rfl (exec_build rfl (by kernel_rfl) (build_idc1 _)) ?_
 simp only [Zp, Zq, Zr, Zs]
 refine wpList_valD (some 61) rfl rfl (by (go_simp; first | with_reducible rfl | exact ⟨rfl, rfl⟩ | (trace_state; fail))) ?_
 simp only [Zp, Zq, Zr, Zs]
 refine wpList_valD (some 62) rfl rfl (by (go_simp; first | with_reducible rfl | exact ⟨rfl, rfl⟩ | (trace_state; fail))) ?_
 simp only [Zp, Zq, Zr, Zs]
 refine wpList_valD (some 63) rfl rfl (by (go_simp; first | with_reducible rfl | exact ⟨rfl, rfl⟩ | (trace_state; fail))) ?_
 simp only [Zp, Zq, Zr, Zs]
 refine wpList_callD (some 64) rfl rfl 15 _ ?_ ((client_RawN idc1 rfl tm none none none 0 0 0 0 0 0 [] [] [] w8 (RdB.none _) (RdB.none _) (RdB.none _) 6 (by unfold entC; rw [if_pos (.inl (by omega))]) (by decide))) ?_
 ·go_simp; try (with_reducible rfl)
 rintro e w9 ⟨rfl, hb9⟩
 refine ⟨_, rfl, ?_⟩
 simp only [Zp, Zq, Zr, Zs]
 replace hb00 := bl_call hb00 (Nat.le_refl _) hb9
 replace hM := hM.call hb9
 replace hD2 := hD2.call hb9
 replace hI2 := hI2.call hb9
 clear hb9
 refine wpList_valD (some 59) rfl rfl (by (go_simp; first | with_reducible rfl | exact ⟨rfl, rfl⟩ | (trace_state; fail))) ?_
 simp only [Zp, Zq, Zr, Zs]
 refine wpList_valD (some 65) rfl rfl (by (go_simp; first | with_reducible rfl | exact ⟨rfl, rfl⟩ | (trace_state; fail))) ?_
 simp only [Zp, Zq, Zr, Zs]
 refine wpList_valD (some 66) rfl rfl (by (go_simp; first | with_reducible rfl | exact ⟨rfl, rfl⟩ | (trace_state; fail))) ?_
 simp only [Zp, Zq, Zr, Zs]
 refine wpList_valD (some 18) rfl rfl (by (go_simp; first | with_reducible rfl | exact ⟨rfl, rfl⟩ | (trace_state; fail))) ?_
 simp only [Zp, Zq, Zr, Zs]
 refine wpList_valD (some 19) rfl rfl (by (go_simp; first | with_reducible rfl | exact ⟨rfl, rfl⟩ | (trace_state; fail))) ?_
 simp only [Zp, Zq, Zr, Zs]
 go_upto_region 10 with fail
 refine wp_region_lit ?_
 refine wpList_valD (some 67) rfl rfl (by (skip; go_simp; first | with_reducible rfl | exact ⟨rfl, rfl⟩ | (trace_state; fail))) ?_
 simp only [Zp, Zq, Zr, Zs]
 have hE := own_empty8 w9
 have hbA := (Below.refl w9.heap.size w9).alloc (Nat.le_refl _) (.cells #[] 5)
 refine wpList_valD (some 68) rfl rfl (by (go_simp; first | with_reducible rfl | exact ⟨rfl, rfl⟩ | (trace_state; fail))) ?_
 simp only [Zp, Zq, Zr, Zs]
 have hRb := (HBB.out.call hb00).call hbA
 generalize w9.alloc (.cells #[] 5) = w10 at hE hbA hRb ⊢
 have hbw9 := hb00.size
 obtain ⟨B9, hB9⟩ : ∃ z, w9.heap.size = z := ⟨_, rfl⟩
 rw [hB9] at hE hbA hbw9
 simp only [hB9]
 have hdl : db < B9 := by rw [← hB9]; exact hD2.lt
 have hil : ib < B9 := by rw [← hB9]; exact hI2.lt
 have hml : w.heap.size < B9 := by rw [← hB9]; exact hM.lt
 have hbase : B9 ≤ w10.heap.size := by rw [← hB9]; exact hbA.size
 refine wpList_append_B rfl (.tmp 67) (.tmp 68) rfl B9 (.slice (some ⟨B9, 0, none⟩) 0 0) 0 [] (by kernel_rfl) hE Ab nb cb9 bs (by kernel_rfl) hRb.1 (fun h => by
  obtain ⟨b, o, h1, _, h3⟩ := hRb.2.2 h
  exact ⟨b, o, h1, h3⟩) (by omega) hbase ?_
 intro v2 w11 hown hg hat
 rw [Nat.zero_add, List.nil_append] at hown
 obtain ⟨Ai, ci, hv2⟩ := own_shape hown
 subst hv2
 have hb11 : Below w9.heap.size w9 w11 := by
  rw [hB9]
  exact hbA.grown hg hbase (fun q hq => by
   have h9 : (some B9 : Option Nat) = some q := hq
   injection h9 with h9
   omega)
 replace hb00 := bl_call hb00 (Nat.le_refl _) hb11
 replace hM := hM.call hb11
 replace hD2 := hD2.call hb11
 replace hI2 := hI2.call hb11
 have hT11 := hb11.size
 rw [hB9] at hT11
 clear hb11 hbA hE hRb hg hat hbase hB9
 go_upto_region 11 with fail
 have hRI := own_rdB hown (by omega)
 have hR11 := client_RawK idc2 rfl 3 Ai Ai Ai nb ci nb ci nb ci bs bs bs w11 hRI hRI hRI (by unfold entC; rw [if_neg (by omega), if_neg (by omega)]) (by unfold entC; rw [if_neg (by omega), if_neg (by omega)])
 refine wp_region_lit ?_
 refine wpList_valD (some 71) rfl rfl (exec_build rfl (by kernel_rfl) (build_idc2 _)) ?_
 simp only [Zp, Zq, Zr, Zs]
 refine wpList_valD (some 72) rfl rfl (by (go_simp; first | with_reducible rfl | exact ⟨rfl, rfl⟩ | (trace_state; fail))) ?_
 simp only [Zp, Zq, Zr, Zs]
 refine wpList_valD (some 73) rfl rfl (by (go_simp; first | with_reducible rfl | exact ⟨rfl, rfl⟩ | (trace_state; fail))) ?_
 simp only [Zp, Zq, Zr, Zs]
 refine wpList_valD (some 74) rfl rfl (by (go_simp; first | with_reducible rfl | exact ⟨rfl, rfl⟩ | (trace_state; fail))) ?_
 simp only [Zp, Zq, Zr, Zs]
 refine wpList_callD (some 75) rfl rfl 15 _ ?_ (hR11) ?_
 ·go_simp; try (with_reducible rfl)
 rintro e w12 ⟨cb, rfl, hcb, hK, hb12⟩
 refine ⟨_, rfl, ?_⟩
 simp only [Zp, Zq, Zr, Zs]
 clear hR11
 replace hb00 := bl_call hb00 (Nat.le_refl _) hb12
 replace hM := hM.call hb12
 replace hD2 := hD2.call hb12
 replace hI2 := hI2.call hb12
 refine wpList_valD (some 70) rfl rfl (by (go_simp; first | with_reducible rfl | exact ⟨rfl, rfl⟩ | (trace_state; fail))) ?_
 simp only [Zp, Zq, Zr, Zs]
 refine wpList_valD (some 76) rfl rfl (by (go_simp; first | with_reducible rfl | exact ⟨rfl, rfl⟩ | (trace_state; fail))) ?_
 simp only [Zp, Zq, Zr, Zs]
 refine wpList_valD (some 77) rfl rfl (by (go_simp; first | with_reducible rfl | exact ⟨rfl, rfl⟩ | (trace_state; fail))) ?_
 simp only [Zp, Zq, Zr, Zs]
 refine wpList_valD (some 21) rfl rfl (by (go_simp; first | with_reducible rfl | exact ⟨rfl, rfl⟩ | (trace_state; fail))) ?_
 simp only [Zp, Zq, Zr, Zs]
 refine wpList_valD (some 22) rfl rfl (by (go_simp; first | with_reducible rfl | exact ⟨rfl, rfl⟩ | (trace_state; fail))) ?_
 simp only [Zp, Zq, Zr, Zs]
 obtain ⟨T, hT⟩ : ∃ z, w12.heap.size = z := ⟨_, rfl⟩
 have hTw : T ≤ w12.heap.size := Nat.le_of_eq hT.symm
 rw [hT] at hK
 clear hT
 obtain ⟨gi, hgi⟩ : ∃ gi, 0 < nb → Ai = some ⟨gi, 0, none⟩ ∧ Vs w12 gi (cells8 bs) ∧ B9 ≤ gi ∧ gi < cb := by
  by_cases hp : 0 < nb
  ·obtain ⟨g, c9, hg⟩ := own_sl9 hown hp
   injection hg with e1 e2 e3
   subst e1
   have h1 := own_vs8 hown
   exact ⟨g, fun _ => ⟨rfl, h1.1.call hb12, h1.2, Nat.lt_of_lt_of_le h1.1.lt hcb⟩⟩
  ·exact ⟨0, fun h => absurd h hp⟩
 have HGI := Lib.hid hgi
 have hbl : bs.length = nb := hRI.1
 have hcb9 : B9 ≤ cb := Nat.le_trans hT11 hcb
 clear hown hRI hb12 hcb hT11
 have HBL := Lib.hid hbl
 have HK := Lib.hid hK
 clear hbl hK hgi
 go_upto_region 13 with fail
 go_wp2_with fail
 go_loopw [80] (fun i wr => ∃ (k : Nat) (xs : List Int), k ≤ nb ∧ i = .int .i64 k ∧ xs.length = nb ∧ (0 < nb → Vs wr gi (cells8 xs)) ∧ T ≤ wr.heap.size ∧ CliK T cb wr idc2 3 nb nb nb bs bs bs false false 0 0 0 1 0 ∧ Vs wr db [.int .i64 0, .int .i64 0] ∧ Vs wr ib (cells8 z16) ∧ Vs wr w.heap.size (msgL kind job start many sum code (.slice A N c)) ∧ Below w.heap.size w wr) (fun i _ => nb - (intOf i).toNat)
 case atStart => exact ⟨0, bs, Nat.zero_le _, rfl, HBL.out, fun h => (HGI.out h).2.1, hTw, HK.out, hD2, hI2, hM, hb00⟩
 case round =>
  clear hD2 hI2 hM hb00 hTw HK
  obtain ⟨k, xs, hk, rfl, hxl, hxs, hTw, hK, hD2, hI2, hM, hb00⟩ := hrel
  by_cases hlt : k < nb
  ·obtain ⟨hA, _, hg9, hgc⟩ := HGI.out (by omega)
   subst hA
   have hV := hxs (by omega)
   obtain ⟨c0, c1, c2⟩ := hV.at16 (i := k) (by omega)
   have hki : (k : Int) < (nb : Int) := by omega
   have hwk : IntKind.i64.wrap ((k : Int) + 1) = (k : Int) + 1 := IntWalk.i64_in _ (by omega)
   obtain ⟨x, hx⟩ : ∃ x, xs.getD k 0 = x := ⟨_, rfl⟩
   rw [hx] at c0
   clear hx
   have HXL := Lib.hid hxl
   clear hxl hxs
   go_upto_region 16 with fail
   clear c0 c1 c2
   have hex := exc_sc (S := fun q => q = gi) (exc_of (Below.refl wr.heap.size wr)) (.inl rfl) k (.int .u8 ((x + 1) % 256))
   have hV3 := hV.put8 (i := k) (by rw [HXL.out]; exact hlt) ((x + 1) % 256)
   have hD3 := hD2.exc (fun e : db = gi => by omega) hex
   have hI3 := hI2.exc (fun e : ib = gi => by omega) hex
   have hM3 := hM.exc (fun e : w.heap.size = gi => by omega) hex
   have hK3 := hK.exc (fun q h1 h2 (e : q = gi) => by omega) hex
   have hTw3 := Nat.le_trans hTw hex.size
   have hb03 := bl_set (p := ⟨gi, k, none⟩) hb00 (by dsimp only; omega) (.int .u8 ((x + 1) % 256))
   have HXL3 : Hid ((xs.set k ((x + 1) % 256)).length = nb) := Lib.hid (by rw [List.length_set]; exact HXL.out)
   clear hV hD2 hI2 hM hK hTw hb00 hex HXL
   generalize wr.setCell ⟨gi, k, none⟩ (.int .u8 ((x + 1) % 256)) = w16 at hV3 hD3 hI3 hM3 hK3 hTw3 hb03 ⊢
   generalize xs.set k ((x + 1) % 256) = xs3 at hV3 HXL3
   go_wp2_with fail
   go_roundw
   case rel => exact ⟨k + 1, xs3, by omega, by go_num, HXL3.out, fun _ => hV3, hTw3, hK3, hD3, hI3, hM3, hb03⟩
   case measure => simp [intOf]; omega
  ·obtain rfl : nb = k := by omega
   clear hxs hlt hk
   have HTI := Lib.hid (hK.tick hTw (now := 0) (by omega) ⟨by omega, by omega⟩ ⟨by omega, by omega⟩ ⟨by omega, by omega⟩)
   clear hK
   go_upto_region 17 with fail
   refine wp_region_lit ?_
   refine wpList_valD (some 90) rfl rfl (by (go_simp; first | with_reducible rfl | exact ⟨rfl, rfl⟩ | (trace_state; fail))) ?_
   simp only [Zp, Zq, Zr, Zs]
   refine wpList_callD (some 91) rfl rfl 16 _ ?_ (HTI.out) ?_
   ·go_simp; try (with_reducible rfl)
   rintro e w14 ⟨v, ps, rfl, hL, hK, hx2⟩
   refine ⟨_, rfl, ?_⟩
   simp only [Zp, Zq, Zr, Zs]
   obtain ⟨gl, cx, rfl⟩ := own_sl9 hL.row (by show 0 < 2; omega)
   refine wpList_valD (some 24) rfl rfl (by (go_simp; first | with_reducible rfl | exact ⟨rfl, rfl⟩ | (trace_state; fail))) ?_
   simp only [Zp, Zq, Zr, Zs]
   rw [show (itK false false bs bs nb nb 2).length = 2 from rfl]
   have hL2 : LtS wr.heap.size w14 (.slice (some ⟨gl, 0, none⟩) 2 cx) idc2 3 bs nb [(0, bs, nb), (1, bs, nb)] ps := hL
   have hK2 : CliK T cb w14 idc2 3 nb nb nb bs bs bs false false 0 0 1 2 1 := hK
   clear hL hK
   obtain ⟨⟨u0, lo0, hi0⟩, ⟨u1, lo1, hi1⟩, rfl⟩ : ∃ p0 p1, ps = [p0, p1] := by
    have hl := hL2.len
    rcases ps with _ | ⟨a, _ | ⟨b, _ | ⟨d, l⟩⟩⟩
    ·simp at hl
    ·simp at hl
    ·exact ⟨a, b, rfl⟩
    ·simp at hl
   obtain ⟨k01, hE0, k02, k03⟩ := hL2.each 0 _ _ rfl rfl
   obtain ⟨k11, hE1, k12, k13⟩ := hL2.each 1 _ _ rfl rfl
   have hsep : hi0 ≤ lo1 := hL2.sep 0 1 _ _ (by omega) rfl rfl
   have hg0 := k02 gl rfl
   have hg1 := k12 gl rfl
   dsimp only at k01 hE0 k03 k11 hE1 k13 hg0 hg1
   obtain ⟨hVL, _⟩ := own_rangeL hL2.row
   have hD3 := hD2.exc (fun e : db = cb => by omega) hx2
   have hI3 := hI2.exc (fun e : ib = cb => by omega) hx2
   have hM3 := hM.exc (fun e : w.heap.size = cb => by omega) hx2
   have hb03 := hb00.trans (Exc.below (hx2.mono hb00.size) (fun q hq (e : q = cb) => by omega))
   have hcT := hK2.lt
   obtain ⟨T14, hT14⟩ : ∃ z, w14.heap.size = z := ⟨_, rfl⟩
   have hTT4 : T ≤ w14.heap.size := Nat.le_trans hTw hx2.size
   rw [hT14] at k03 k13 hTT4
   have hTw4 := Nat.le_of_eq hT14.symm
   have hTT : T ≤ wr.heap.size := hTw
   generalize wr.heap.size = S17 at k01 k11 hTT
   clear hL2 hx2 k02 k12 hD2 hI2 hM hb00 hTw hT14 HTI hxl
   go_upto_region 19 with fail
   go_wp2_with fail
   go_loopw [94] (fun i wr => ∃ q : Nat, q ≤ 2 ∧ i = .int .i64 q ∧ Vs wr gl (ltR [(0, bs, nb), (1, bs, nb)] [(u0, lo0, hi0), (u1, lo1, hi1)]) ∧ (q < 1 → ClI lo0 hi0 wr idc2 3 bs bs nb nb u0) ∧ (q < 2 → ClI lo1 hi1 wr idc2 3 bs bs nb nb u1) ∧ T14 ≤ wr.heap.size ∧ CliK T cb wr idc2 3 nb nb nb bs bs bs false false 0 0 1 2 1 ∧ Vs wr db [.int .i64 0, .int .i64 0] ∧ Vs wr ib (cells8 z16) ∧ Vs wr w.heap.size (msgL kind job start many sum code (.slice A N c)) ∧ Below w.heap.size w wr) (fun i _ => 2 - (intOf i).toNat)
   case atStart => exact ⟨0, by omega, rfl, hVL, fun _ => hE0, fun _ => hE1, hTw4, hK2, hD3, hI3, hM3, hb03⟩
   case round =>
    clear hVL hE0 hE1 hTw4 hK2 hD3 hI3 hM3 hb03
    obtain ⟨q, hq, rfl, hVL, hE0, hE1, hTw, hK, hD2, hI2, hM, hb00⟩ := hrel
    by_cases hlt : q < 2
    ·obtain ⟨wo, hwo⟩ : ∃ z : World, z = wr := ⟨wr, rfl⟩
     by_cases hq0 : q < 1
     ·obtain rfl : q = 0 := by omega
      clear hlt hq0 hq
      obtain ⟨A2, A3, c2, c3, g, cg, hu0, hgl0, hEn, hO2, hO3, _, hlt3⟩ := hE0 (by omega)
      subst hu0
      obtain ⟨sb, hsb⟩ : ∃ sb, 0 < nb → A3 = some ⟨sb, 0, none⟩ ∧ Vs wr sb (cells8 bs) ∧ lo0 ≤ sb ∧ sb < hi0 ∧ sb ≠ g := by
       by_cases hp : 0 < nb
       ·obtain ⟨q, c9, hq⟩ := own_sl9 hO3 hp
        injection hq with e1 e2 e3
        subst e1
        have h1 := own_vs8 hO3
        exact ⟨q, fun _ => ⟨rfl, h1.1, h1.2, (hlt3 q rfl).1, (hlt3 q rfl).2⟩⟩
       ·exact ⟨0, fun h => absurd h hp⟩
      clear hO2 hO3 hlt3
      have HO := Lib.hid (hE1 (by omega))
      go_upto_region 20 with fail
      rw [show ((0 : Nat) : Int) = 0 from rfl]
      have hra : wr.rangeAt gl (0 * 23) (ltL 0 (msgL 1 0 0 0 z16 0 (.slice (some ⟨g, 0, none⟩) 1 cg))) := fun j v hj => hVL.cell _ _ (ltR_at (k := 0) (it := (0, bs, nb)) (p := (.slice (some ⟨g, 0, none⟩) 1 cg, lo0, hi0)) rfl rfl rfl hj)
      refine wp_region_lit ?_
      refine wpList_valD (some 96) rfl rfl (by (go_simp; first | with_reducible rfl | exact ⟨rfl, rfl⟩ | (trace_state; fail))) ?_
      simp only [Zp, Zq, Zr, Zs]
      refine wpList_valD (some 97) rfl rfl (exec_load rfl (by kernel_rfl) (load_letter hra)) ?_
      simp only [Zp, Zq, Zr, Zs]
      refine wpList_valD (some 26) rfl rfl (by (skip; go_simp; first | with_reducible rfl | exact ⟨rfl, rfl⟩ | (trace_state; fail))) ?_
      simp only [Zp, Zq, Zr, Zs]
      have hN := Vs.new wr (ltL 0 (msgL 0 0 0 0 z16 0 (.slice none 0 0))) #[.int .i64 0, .int .u8 0, .int .u64 0, .int .u64 0, .int .i64 0, .int .u8 0, .int .u8 0, .int .u8 0, .int .u8 0, .int .u8 0, .int .u8 0, .int .u8 0, .int .u8 0, .int .u8 0, .int .u8 0, .int .u8 0, .int .u8 0, .int .u8 0, .int .u8 0, .int .u8 0, .int .u8 0, .int .i64 0, .slice none 0 0] 42 rfl
      have hbA := (Below.refl wr.heap.size wr).alloc (Nat.le_refl _) (.cells #[.int .i64 0, .int .u8 0, .int .u64 0, .int .u64 0, .int .i64 0, .int .u8 0, .int .u8 0, .int .u8 0, .int .u8 0, .int .u8 0, .int .u8 0, .int .u8 0, .int .u8 0, .int .u8 0, .int .u8 0, .int .u8 0, .int .u8 0, .int .u8 0, .int .u8 0, .int .u8 0, .int .u8 0, .int .i64 0, .slice none 0 0] 42)
      have hst := hN.storeL (tq := 0) (es := .slice (some ⟨g, 0, none⟩) 1 cg) rfl
      refine wpList_skipD rfl rfl (exec_store rfl (by kernel_rfl) (by kernel_rfl) hst.1) ?_
      have hN2 := hst.2
      have hbC := bl_setCells hbA (Nat.le_refl _) 0 (ltL 0 (msgL 1 0 0 0 z16 0 (.slice (some ⟨g, 0, none⟩) 1 cg)))
      have hsb2 : 0 < nb → A3 = some ⟨sb, 0, none⟩ ∧ Vs ((wr.alloc (.cells #[.int .i64 0, .int .u8 0, .int .u64 0, .int .u64 0, .int .i64 0, .int .u8 0, .int .u8 0, .int .u8 0, .int .u8 0, .int .u8 0, .int .u8 0, .int .u8 0, .int .u8 0, .int .u8 0, .int .u8 0, .int .u8 0, .int .u8 0, .int .u8 0, .int .u8 0, .int .u8 0, .int .u8 0, .int .i64 0, .slice none 0 0] 42)).setCells wr.heap.size 0 (ltL 0 (msgL 1 0 0 0 z16 0 (.slice (some ⟨g, 0, none⟩) 1 cg)))) sb (cells8 bs) ∧ lo0 ≤ sb ∧ sb < hi0 ∧ sb ≠ g := fun h => ⟨(hsb h).1, (hsb h).2.1.call hbC, (hsb h).2.2⟩
      have hK3 := hK.call hbC
      have ho3 : If0 0 (ClI lo1 hi1 ((wr.alloc (.cells #[.int .i64 0, .int .u8 0, .int .u64 0, .int .u64 0, .int .i64 0, .int .u8 0, .int .u8 0, .int .u8 0, .int .u8 0, .int .u8 0, .int .u8 0, .int .u8 0, .int .u8 0, .int .u8 0, .int .u8 0, .int .u8 0, .int .u8 0, .int .u8 0, .int .u8 0, .int .u8 0, .int .u8 0, .int .i64 0, .slice none 0 0] 42)).setCells wr.heap.size 0 (ltL 0 (msgL 1 0 0 0 z16 0 (.slice (some ⟨g, 0, none⟩) 1 cg)))) idc2 3 bs bs nb nb u1) := fun _ => HO.out.call hbC
      have hTw3 := Nat.le_trans hTw hbC.size
      replace hb00 := bl_call hb00 (Nat.le_refl _) hbC
      replace hM := hM.call hbC
      replace hD2 := hD2.call hbC
      replace hI2 := hI2.call hbC
      replace hVL := hVL.call hbC
      replace hEn := hEn.call hbC
      have hlb : T14 ≤ wr.heap.size := hTw
      clear hst hbA hbC hN hsb hra hK hTw HO hE0 hE1
      generalize (wr.alloc (.cells #[.int .i64 0, .int .u8 0, .int .u64 0, .int .u64 0, .int .i64 0, .int .u8 0, .int .u8 0, .int .u8 0, .int .u8 0, .int .u8 0, .int .u8 0, .int .u8 0, .int .u8 0, .int .u8 0, .int .u8 0, .int .u8 0, .int .u8 0, .int .u8 0, .int .u8 0, .int .u8 0, .int .u8 0, .int .i64 0, .slice none 0 0] 42)).setCells wr.heap.size 0 (ltL 0 (msgL 1 0 0 0 z16 0 (.slice (some ⟨g, 0, none⟩) 1 cg))) = w15 at hN2 hsb2 hK3 ho3 hTw3 hb00 hM hD2 hI2 hVL hEn ⊢
      obtain ⟨lb, hlbe⟩ : ∃ z, wr.heap.size = z := ⟨_, rfl⟩
      rw [hlbe] at hN2 hlb
      simp only [hlbe]
      clear hlbe
      have HSB := Lib.hid hsb2
      have HO3 := ho3
      clear hsb2 ho3
      obtain ⟨l0, l1, l2⟩ := hN2.letEs
      obtain ⟨e0, e1, e2, e3, e4, e5, e6⟩ := hEn.ent (rfl : idc2.length = 16)
      go_upto_region 22 with fail
      clear l0 l1 l2 e0 e1 e2 e3 e4 e5 e6
      go_wp2_with fail
      go_loopw [105] (fun i wr => ∃ (j : Nat) (xs : List Int), j ≤ nb ∧ i = .int .i64 j ∧ xs.length = nb ∧ (0 < nb → Vs wr sb (cells8 xs)) ∧ Vs wr lb (ltL 0 (msgL 1 0 0 0 z16 0 (.slice (some ⟨g, 0, none⟩) 1 cg))) ∧ Vs wr g (entL idc2 3 (.slice A2 nb c2) (.slice A3 nb c3) 0) ∧ Vs wr gl (ltR [(0, bs, nb), (1, bs, nb)] [(.slice (some ⟨g, 0, none⟩) 1 cg, lo0, hi0), (u1, lo1, hi1)]) ∧ T14 ≤ wr.heap.size ∧ CliK T cb wr idc2 3 nb nb nb bs bs bs false false 0 0 1 2 1 ∧ If0 0 (ClI lo1 hi1 wr idc2 3 bs bs nb nb u1) ∧ Vs wr db [.int .i64 0, .int .i64 0] ∧ Vs wr ib (cells8 z16) ∧ Vs wr w.heap.size (msgL kind job start many sum code (.slice A N c)) ∧ Below w.heap.size w wr) (fun i _ => nb - (intOf i).toNat)
      case atStart => exact ⟨0, bs, Nat.zero_le _, rfl, HBL.out, fun h => (HSB.out h).2.1, hN2, hEn, hVL, hTw3, hK3, HO3, hD2, hI2, hM, hb00⟩
      case round =>
       clear hN2 hEn hVL hTw3 hK3 HO3 hD2 hI2 hM hb00
       obtain ⟨j, xs, hj, rfl, hxl, hxs, hN2, hEn, hVL, hTw, hK, ho, hD2, hI2, hM, hb00⟩ := hrel
       obtain ⟨l0, l1, l2⟩ := hN2.letEs
       obtain ⟨e0, e1, e2, e3, e4, e5, e6⟩ := hEn.ent (rfl : idc2.length = 16)
       by_cases hlt : j < nb
       ·obtain ⟨hA, _, hs1, hs2, hs3⟩ := HSB.out (by omega)
        subst hA
        have hV := hxs (by omega)
        obtain ⟨c0, c1, c9⟩ := hV.at16 (i := j) (by omega)
        have hki : (j : Int) < (nb : Int) := by omega
        have hwk : IntKind.i64.wrap ((j : Int) + 1) = (j : Int) + 1 := IntWalk.i64_in _ (by omega)
        obtain ⟨x, hx⟩ : ∃ x, xs.getD j 0 = x := ⟨_, rfl⟩
        rw [hx] at c0
        clear hx
        have HXL := Lib.hid hxl
        have HO := ho
        clear hxl hxs ho
        go_upto_region 25 with fail
        clear c0 c1 c9 l0 l1 l2 e0 e1 e2 e3 e4 e5 e6
        have hex := exc_sc (S := fun q => q = sb) (exc_of (Below.refl wr.heap.size wr)) (.inl rfl) j (.int .u8 ((x + 1) % 256))
        have hV3 := hV.put8 (i := j) (by rw [HXL.out]; exact hlt) ((x + 1) % 256)
        have hN3 := hN2.exc (fun e : lb = sb => by omega) hex
        have hEn3 := hEn.exc (fun e : g = sb => hs3 e.symm) hex
        have hVL3 := hVL.exc (fun e : gl = sb => by omega) hex
        have hD3 := hD2.exc (fun e : db = sb => by omega) hex
        have hI3 := hI2.exc (fun e : ib = sb => by omega) hex
        have hM3 := hM.exc (fun e : w.heap.size = sb => by omega) hex
        have hK3 := hK.exc (fun q h1 h2 (e : q = sb) => by omega) hex
        have HO3 : If0 0 (ClI lo1 hi1 (wr.setCell ⟨sb, j, none⟩ (.int .u8 ((x + 1) % 256))) idc2 3 bs bs nb nb u1) := fun h => (HO h).exc (fun q h1 h2 (e : q = sb) => by omega) hex
        have hTw3 := Nat.le_trans hTw hex.size
        have hb03 := bl_set (p := ⟨sb, j, none⟩) hb00 (by dsimp only; omega) (.int .u8 ((x + 1) % 256))
        have HXL3 : Hid ((xs.set j ((x + 1) % 256)).length = nb) := Lib.hid (by rw [List.length_set]; exact HXL.out)
        clear hV hN2 hEn hVL hD2 hI2 hM hK HO hTw hb00 hex HXL
        generalize wr.setCell ⟨sb, j, none⟩ (.int .u8 ((x + 1) % 256)) = w16 at hV3 hN3 hEn3 hVL3 hD3 hI3 hM3 hK3 HO3 hTw3 hb03 ⊢
        generalize xs.set j ((x + 1) % 256) = xs3 at hV3 HXL3
        go_wp2_with fail
        go_roundw
        case rel => exact ⟨j + 1, xs3, by omega, by go_num, HXL3.out, fun _ => hV3, hN3, hEn3, hVL3, hTw3, hK3, HO3, hD3, hI3, hM3, hb03⟩
        case measure => simp [intOf]; omega
       ·have HO := ho
        clear hxs ho l0 l1 l2 e0 e1 e2 e3 e4 e5 e6 hN2 hEn
        go_wp2_with fail
        go_roundw
        case rel => exact ⟨0 + 1, by omega, by go_num, hVL, fun h => by omega, fun h => HO (by omega), hTw, hK, hD2, hI2, hM, hb00⟩
        case measure => simp [intOf]
     ·obtain rfl : q = 1 := by omega
      clear hlt hq0 hq
      obtain ⟨A2, A3, c2, c3, g, cg, hu1, hgl0, hEn, hO2, hO3, _, hlt3⟩ := hE1 (by omega)
      subst hu1
      obtain ⟨sb, hsb⟩ : ∃ sb, 0 < nb → A3 = some ⟨sb, 0, none⟩ ∧ Vs wr sb (cells8 bs) ∧ lo1 ≤ sb ∧ sb < hi1 ∧ sb ≠ g := by
       by_cases hp : 0 < nb
       ·obtain ⟨q, c9, hq⟩ := own_sl9 hO3 hp
        injection hq with e1 e2 e3
        subst e1
        have h1 := own_vs8 hO3
        exact ⟨q, fun _ => ⟨rfl, h1.1, h1.2, (hlt3 q rfl).1, (hlt3 q rfl).2⟩⟩
       ·exact ⟨0, fun h => absurd h hp⟩
      clear hO2 hO3 hlt3
      have HO := Lib.hid (hE1 (by omega))
      go_upto_region 20 with fail
      rw [show ((1 : Nat) : Int) = 1 from rfl]
      have hra : wr.rangeAt gl (1 * 23) (ltL 1 (msgL 1 0 0 0 z16 0 (.slice (some ⟨g, 0, none⟩) 1 cg))) := fun j v hj => hVL.cell _ _ (ltR_at (k := 1) (it := (1, bs, nb)) (p := (.slice (some ⟨g, 0, none⟩) 1 cg, lo1, hi1)) rfl rfl rfl hj)
      refine wp_region_lit ?_
      refine wpList_valD (some 96) rfl rfl (by (go_simp; first | with_reducible rfl | exact ⟨rfl, rfl⟩ | (trace_state; fail))) ?_
      simp only [Zp, Zq, Zr, Zs]
      refine wpList_valD (some 97) rfl rfl (exec_load rfl (by kernel_rfl) (load_letter hra)) ?_
      simp only [Zp, Zq, Zr, Zs]
      refine wpList_valD (some 26) rfl rfl (by (skip; go_simp; first | with_reducible rfl | exact ⟨rfl, rfl⟩ | (trace_state; fail))) ?_
      simp only [Zp, Zq, Zr, Zs]
      have hN := Vs.new wr (ltL 0 (msgL 0 0 0 0 z16 0 (.slice none 0 0))) #[.int .i64 0, .int .u8 0, .int .u64 0, .int .u64 0, .int .i64 0, .int .u8 0, .int .u8 0, .int .u8 0, .int .u8 0, .int .u8 0, .int .u8 0, .int .u8 0, .int .u8 0, .int .u8 0, .int .u8 0, .int .u8 0, .int .u8 0, .int .u8 0, .int .u8 0, .int .u8 0, .int .u8 0, .int .i64 0, .slice none 0 0] 42 rfl
      have hbA := (Below.refl wr.heap.size wr).alloc (Nat.le_refl _) (.cells #[.int .i64 0, .int .u8 0, .int .u64 0, .int .u64 0, .int .i64 0, .int .u8 0, .int .u8 0, .int .u8 0, .int .u8 0, .int .u8 0, .int .u8 0, .int .u8 0, .int .u8 0, .int .u8 0, .int .u8 0, .int .u8 0, .int .u8 0, .int .u8 0, .int .u8 0, .int .u8 0, .int .u8 0, .int .i64 0, .slice none 0 0] 42)
      have hst := hN.storeL (tq := 1) (es := .slice (some ⟨g, 0, none⟩) 1 cg) rfl
      refine wpList_skipD rfl rfl (exec_store rfl (by kernel_rfl) (by kernel_rfl) hst.1) ?_
      have hN2 := hst.2
      have hbC := bl_setCells hbA (Nat.le_refl _) 0 (ltL 1 (msgL 1 0 0 0 z16 0 (.slice (some ⟨g, 0, none⟩) 1 cg)))
      have hsb2 : 0 < nb → A3 = some ⟨sb, 0, none⟩ ∧ Vs ((wr.alloc (.cells #[.int .i64 0, .int .u8 0, .int .u64 0, .int .u64 0, .int .i64 0, .int .u8 0, .int .u8 0, .int .u8 0, .int .u8 0, .int .u8 0, .int .u8 0, .int .u8 0, .int .u8 0, .int .u8 0, .int .u8 0, .int .u8 0, .int .u8 0, .int .u8 0, .int .u8 0, .int .u8 0, .int .u8 0, .int .i64 0, .slice none 0 0] 42)).setCells wr.heap.size 0 (ltL 1 (msgL 1 0 0 0 z16 0 (.slice (some ⟨g, 0, none⟩) 1 cg)))) sb (cells8 bs) ∧ lo1 ≤ sb ∧ sb < hi1 ∧ sb ≠ g := fun h => ⟨(hsb h).1, (hsb h).2.1.call hbC, (hsb h).2.2⟩
      have hK3 := hK.call hbC
      have ho3 : If0 1 (ClI lo1 hi1 ((wr.alloc (.cells #[.int .i64 0, .int .u8 0, .int .u64 0, .int .u64 0, .int .i64 0, .int .u8 0, .int .u8 0, .int .u8 0, .int .u8 0, .int .u8 0, .int .u8 0, .int .u8 0, .int .u8 0, .int .u8 0, .int .u8 0, .int .u8 0, .int .u8 0, .int .u8 0, .int .u8 0, .int .u8 0, .int .u8 0, .int .i64 0, .slice none 0 0] 42)).setCells wr.heap.size 0 (ltL 1 (msgL 1 0 0 0 z16 0 (.slice (some ⟨g, 0, none⟩) 1 cg)))) idc2 3 bs bs nb nb (.slice (some ⟨g, 0, none⟩) 1 cg)) := fun _ => HO.out.call hbC
      have hTw3 := Nat.le_trans hTw hbC.size
      replace hb00 := bl_call hb00 (Nat.le_refl _) hbC
      replace hM := hM.call hbC
      replace hD2 := hD2.call hbC
      replace hI2 := hI2.call hbC
      replace hVL := hVL.call hbC
      replace hEn := hEn.call hbC
      have hlb : T14 ≤ wr.heap.size := hTw
      clear hst hbA hbC hN hsb hra hK hTw HO hE0 hE1
      generalize (wr.alloc (.cells #[.int .i64 0, .int .u8 0, .int .u64 0, .int .u64 0, .int .i64 0, .int .u8 0, .int .u8 0, .int .u8 0, .int .u8 0, .int .u8 0, .int .u8 0, .int .u8 0, .int .u8 0, .int .u8 0, .int .u8 0, .int .u8 0, .int .u8 0, .int .u8 0, .int .u8 0, .int .u8 0, .int .u8 0, .int .i64 0, .slice none 0 0] 42)).setCells wr.heap.size 0 (ltL 1 (msgL 1 0 0 0 z16 0 (.slice (some ⟨g, 0, none⟩) 1 cg))) = w15 at hN2 hsb2 hK3 ho3 hTw3 hb00 hM hD2 hI2 hVL hEn ⊢
      obtain ⟨lb, hlbe⟩ : ∃ z, wr.heap.size = z := ⟨_, rfl⟩
      rw [hlbe] at hN2 hlb
      simp only [hlbe]
      clear hlbe
      have HSB := Lib.hid hsb2
      have HO3 := ho3
      clear hsb2 ho3
      obtain ⟨l0, l1, l2⟩ := hN2.letEs
      obtain ⟨e0, e1, e2, e3, e4, e5, e6⟩ := hEn.ent (rfl : idc2.length = 16)
      go_upto_region 22 with fail
      clear l0 l1 l2 e0 e1 e2 e3 e4 e5 e6
      go_wp2_with fail
      go_loopw [105] (fun i wr => ∃ (j : Nat) (xs : List Int), j ≤ nb ∧ i = .int .i64 j ∧ xs.length = nb ∧ (0 < nb → Vs wr sb (cells8 xs)) ∧ Vs wr lb (ltL 1 (msgL 1 0 0 0 z16 0 (.slice (some ⟨g, 0, none⟩) 1 cg))) ∧ Vs wr g (entL idc2 3 (.slice A2 nb c2) (.slice A3 nb c3) 0) ∧ Vs wr gl (ltR [(0, bs, nb), (1, bs, nb)] [(u0, lo0, hi0), (.slice (some ⟨g, 0, none⟩) 1 cg, lo1, hi1)]) ∧ T14 ≤ wr.heap.size ∧ CliK T cb wr idc2 3 nb nb nb bs bs bs false false 0 0 1 2 1 ∧ If0 1 (ClI lo1 hi1 wr idc2 3 bs bs nb nb (.slice (some ⟨g, 0, none⟩) 1 cg)) ∧ Vs wr db [.int .i64 0, .int .i64 0] ∧ Vs wr ib (cells8 z16) ∧ Vs wr w.heap.size (msgL kind job start many sum code (.slice A N c)) ∧ Below w.heap.size w wr) (fun i _ => nb - (intOf i).toNat)
      case atStart => exact ⟨0, bs, Nat.zero_le _, rfl, HBL.out, fun h => (HSB.out h).2.1, hN2, hEn, hVL, hTw3, hK3, HO3, hD2, hI2, hM, hb00⟩
      case round =>
       clear hN2 hEn hVL hTw3 hK3 HO3 hD2 hI2 hM hb00
       obtain ⟨j, xs, hj, rfl, hxl, hxs, hN2, hEn, hVL, hTw, hK, ho, hD2, hI2, hM, hb00⟩ := hrel
       obtain ⟨l0, l1, l2⟩ := hN2.letEs
       obtain ⟨e0, e1, e2, e3, e4, e5, e6⟩ := hEn.ent (rfl : idc2.length = 16)
       by_cases hlt : j < nb
       ·obtain ⟨hA, _, hs1, hs2, hs3⟩ := HSB.out (by omega)
        subst hA
        have hV := hxs (by omega)
        obtain ⟨c0, c1, c9⟩ := hV.at16 (i := j) (by omega)
        have hki : (j : Int) < (nb : Int) := by omega
        have hwk : IntKind.i64.wrap ((j : Int) + 1) = (j : Int) + 1 := IntWalk.i64_in _ (by omega)
        obtain ⟨x, hx⟩ : ∃ x, xs.getD j 0 = x := ⟨_, rfl⟩
        rw [hx] at c0
        clear hx
        have HXL := Lib.hid hxl
        have HO := ho
        clear hxl hxs ho
        go_upto_region 25 with fail
        clear c0 c1 c9 l0 l1 l2 e0 e1 e2 e3 e4 e5 e6
        have hex := exc_sc (S := fun q => q = sb) (exc_of (Below.refl wr.heap.size wr)) (.inl rfl) j (.int .u8 ((x + 1) % 256))
        have hV3 := hV.put8 (i := j) (by rw [HXL.out]; exact hlt) ((x + 1) % 256)
        have hN3 := hN2.exc (fun e : lb = sb => by omega) hex
        have hEn3 := hEn.exc (fun e : g = sb => hs3 e.symm) hex
        have hVL3 := hVL.exc (fun e : gl = sb => by omega) hex
        have hD3 := hD2.exc (fun e : db = sb => by omega) hex
        have hI3 := hI2.exc (fun e : ib = sb => by omega) hex
        have hM3 := hM.exc (fun e : w.heap.size = sb => by omega) hex
        have hK3 := hK.exc (fun q h1 h2 (e : q = sb) => by omega) hex
        have HO3 : If0 1 (ClI lo1 hi1 (wr.setCell ⟨sb, j, none⟩ (.int .u8 ((x + 1) % 256))) idc2 3 bs bs nb nb (.slice (some ⟨g, 0, none⟩) 1 cg)) := fun h => (HO h).exc (fun q h1 h2 (e : q = sb) => by omega) hex
        have hTw3 := Nat.le_trans hTw hex.size
        have hb03 := bl_set (p := ⟨sb, j, none⟩) hb00 (by dsimp only; omega) (.int .u8 ((x + 1) % 256))
        have HXL3 : Hid ((xs.set j ((x + 1) % 256)).length = nb) := Lib.hid (by rw [List.length_set]; exact HXL.out)
        clear hV hN2 hEn hVL hD2 hI2 hM hK HO hTw hb00 hex HXL
        generalize wr.setCell ⟨sb, j, none⟩ (.int .u8 ((x + 1) % 256)) = w16 at hV3 hN3 hEn3 hVL3 hD3 hI3 hM3 hK3 HO3 hTw3 hb03 ⊢
        generalize xs.set j ((x + 1) % 256) = xs3 at hV3 HXL3
        go_wp2_with fail
        go_roundw
        case rel => exact ⟨j + 1, xs3, by omega, by go_num, HXL3.out, fun _ => hV3, hN3, hEn3, hVL3, hTw3, hK3, HO3, hD3, hI3, hM3, hb03⟩
        case measure => simp [intOf]; omega
       ·have HO := ho
        clear hxs ho l0 l1 l2 e0 e1 e2 e3 e4 e5 e6 hN2 hEn
        go_wp2_with fail
        go_roundw
        case rel => exact ⟨1 + 1, by omega, by go_num, hVL, fun h => by omega, fun h => HO (by omega), hTw, hK, hD2, hI2, hM, hb00⟩
        case measure => simp [intOf]
    ·obtain rfl : q = 2 := by omega
     clear hE0 hE1 hVL
     have HTI := Lib.hid (hK.tick (Nat.le_trans hTT4 hTw) (now := 9) (by omega) ⟨by omega, by omega⟩ ⟨by omega, by omega⟩ ⟨by omega, by omega⟩)
     clear hK
     go_upto_region 27 with fail
     refine wp_region_lit ?_
     refine wpList_valD (some 121) rfl rfl (by (go_simp; first | with_reducible rfl | exact ⟨rfl, rfl⟩ | (trace_state; fail))) ?_
     simp only [Zp, Zq, Zr, Zs]
     refine wpList_callD (some 122) rfl rfl 16 _ ?_ (HTI.out) ?_
     ·go_simp; try (with_reducible rfl)
     rintro e w18 ⟨v, ps, rfl, hL, hK, hx2⟩
     refine ⟨_, rfl, ?_⟩
     simp only [Zp, Zq, Zr, Zs]
     obtain ⟨gy, cy, rfl⟩ := own_sl9 hL.row (by show 0 < 2; omega)
     refine wpList_valD (some 28) rfl rfl (by (go_simp; first | with_reducible rfl | exact ⟨rfl, rfl⟩ | (trace_state; fail))) ?_
     simp only [Zp, Zq, Zr, Zs]
     rw [show (itK false false bs bs nb nb 2).length = 2 from rfl]
     have hL2 : LtS wr.heap.size w18 (.slice (some ⟨gy, 0, none⟩) 2 cy) idc2 3 bs nb [(0, bs, nb), (1, bs, nb)] ps := hL
     clear hL hK
     obtain ⟨⟨y0, ly0, hy0⟩, ⟨y1, ly1, hy1⟩, rfl⟩ : ∃ p0 p1, ps = [p0, p1] := by
      have hl := hL2.len
      rcases ps with _ | ⟨a, _ | ⟨b, _ | ⟨d, l⟩⟩⟩
      ·simp at hl
      ·simp at hl
      ·exact ⟨a, b, rfl⟩
      ·simp at hl
     obtain ⟨_, hE0, _, _⟩ := hL2.each 0 _ _ rfl rfl
     dsimp only at hE0
     obtain ⟨A2, A3, c2, c3, g, cg, hu, _, hEn, _, hO3, _, _⟩ := hE0
     subst hu
     have hra := (hL2.at' (N := 2) rfl (k := 0) rfl rfl).1
     have hgg : g < w18.heap.size := hEn.lt
     have hgy : gy < w18.heap.size := (hL2.at' (N := 2) rfl (k := 0) rfl rfl).2.1
     have hD3 := hD2.exc (fun e : db = cb => by omega) hx2
     have hI3 := hI2.exc (fun e : ib = cb => by omega) hx2
     have hM3 := hM.exc (fun e : w.heap.size = cb => by omega) hx2
     have hb03 := hb00.trans (Exc.below (hx2.mono hb00.size) (fun q hq (e : q = cb) => by omega))
     have hRY := own_rdB hO3 (by omega)
     have hRB := HBB.out.call hb03
     have LX : Hid (∀ wz, Below w18.heap.size w18 wz → wz.cell? ⟨gy, 22, none⟩ = some (.slice (some ⟨g, 0, none⟩) 1 cg) ∧ wz.cell? ⟨g, 18, none⟩ = some (.slice A3 nb c3)) := Lib.hid fun wz h => ⟨cell_call (hra 22 _ rfl) h, ((hEn.call h).ent (rfl : idc2.length = 16)).2.2.1⟩
     have LM := Lib.hid fun wz (h : Below w18.heap.size w18 wz) => (hM3.call h).loadM hsum
     have LD : Hid (∀ wz, Below w18.heap.size w18 wz → (Instr.loadAt 31 (.pointer (some ⟨db, 0, none⟩))).run Try.prog wz = .ok (.agg #[.int .i64 0, .int .i64 0]) wz) := Lib.hid fun wz h => load_W (T := 31) (hD3.call h) Try.underlying31 rfl size_errs2
     have LI := Lib.hid fun wz (h : Below w18.heap.size w18 wz) => (hI3.call h).loadId z16_length
     have LC : Hid (∀ wz, (Op.equalIn 10000 31 (.agg #[.int .i64 0, .int .i64 0]) (.agg #[.int .i64 0, .int .i64 0])).run Try.prog wz = .ok true wz) := fun wz => eqItemsC 9998 wz 0 0 0 0
     have LQ : Hid (∀ wz, (Op.equalIn 10000 34 (.agg (cells8 z16).toArray) (.agg (cells8 z16).toArray)).run Try.prog wz = .ok true wz) := fun wz => by
      rw [run_equalIn_16 9998 Try.underlying34 z16_length z16_length]
      simp
     have LY := Lib.hid fun wz (h : Below w18.heap.size w18 wz) => rdB_conv (c := c3) hRY wz h
     have LB := Lib.hid fun wz (h : Below w18.heap.size w18 wz) => rdB_conv (c := cb9) hRB wz h
     clear hL2 hx2 hra hEn hO3 hD2 hI2 hM hb00 hTw HTI hD3 hI3 hM3 hRY hRB
     go_upto_region 28 with fail
     simp only [List.append]
     refine region_G (n := 66) (m := 67) (f := 66) (by kernel_rfl) (by kernel_rfl) rfl ?_
     refine WpG.vD 0 (some 123) ?_ rfl rfl (by kernel_rfl) (fun _ _ _ h => h) rfl (fun wz hwz => ?_) ?_
     rotate_left
     ·go_simp; try (with_reducible rfl)
     simp only [Zp, Zq, Zr, Zs]
     refine WpG.vD 1 (some 124) ?_ rfl rfl (by kernel_rfl) (fun _ _ _ h => h) rfl (fun wz hwz => ?_) ?_
     rotate_left
     ·go_simp; try (with_reducible rfl)
     simp only [Zp, Zq, Zr, Zs]
     refine WpG.takeD 2 (some 125) rfl rfl (by kernel_rfl) (fun _ _ _ h => h) (.call rfl (fun wz hwz => client_Tick0 now wz) (fun wz hwz => ?_)) ?_
     ·go_simp; try (with_reducible rfl)
     simp only [Zp, Zq, Zr, Zs]
     refine WpG.vD 3 (some 126) ?_ rfl rfl (by kernel_rfl) (fun _ _ _ h => h) rfl (fun wz hwz => ?_) ?_
     rotate_left
     ·go_simp; try (with_reducible rfl)
     simp only [Zp, Zq, Zr, Zs]
     refine WpG.vD 4 (some 127) ?_ rfl rfl (by kernel_rfl) (fun _ _ _ h => h) rfl (fun wz hwz => ?_) ?_
     rotate_left
     ·go_simp; try (with_reducible rfl)
     simp only [Zp, Zq, Zr, Zs]
     refine WpG.vD 5 (some 128) ?_ rfl rfl (by kernel_rfl) (fun _ _ _ h => h) rfl (fun wz hwz => ?_) ?_
     rotate_left
     ·go_simp; try (with_reducible rfl)
     simp only [Zp, Zq, Zr, Zs]
     refine WpG.vD 6 (some 129) ?_ rfl rfl (by kernel_rfl) (fun _ _ _ h => h) rfl (fun wz hwz => ?_) ?_
     rotate_left
     ·go_simp; try (with_reducible rfl)
     simp only [Zp, Zq, Zr, Zs]
     refine WpG.vD 7 (some 130) ?_ rfl rfl (by kernel_rfl) (fun _ _ _ h => h) rfl (fun wz hwz => ?_) ?_
     rotate_left
     ·go_simp; try (with_reducible rfl)
     simp only [Zp, Zq, Zr, Zs]
     refine WpG.vD 8 (some 131) ?_ rfl rfl (by kernel_rfl) (fun _ _ _ h => h) rfl (fun wz hwz => ?_) ?_
     rotate_left
     ·(refine Eq.trans (exec_load rfl (by kernel_rfl) (LM.out wz hwz)) ?_; with_reducible rfl)
     simp only [Zp, Zq, Zr, Zs]
     refine WpG.takeD 9 (some 132) rfl rfl (by kernel_rfl) (fun _ _ _ h => h) (.call rfl (fun wz hwz => client_Receive0 frm kind job start many code sum (.slice A N c) wz) (fun wz hwz => ?_)) ?_
     ·go_simp; try (with_reducible rfl)
     simp only [Zp, Zq, Zr, Zs]
     refine WpG.vD 10 (some 133) ?_ rfl rfl (by kernel_rfl) (fun _ _ _ h => h) rfl (fun wz hwz => ?_) ?_
     rotate_left
     ·go_simp; try (with_reducible rfl)
     simp only [Zp, Zq, Zr, Zs]
     refine WpG.vD 11 (some 134) ?_ rfl rfl (by kernel_rfl) (fun _ _ _ h => h) rfl (fun wz hwz => ?_) ?_
     rotate_left
     ·go_simp; try (with_reducible rfl)
     simp only [Zp, Zq, Zr, Zs]
     refine WpG.vD 12 (some 135) ?_ rfl rfl (by kernel_rfl) (fun _ _ _ h => h) rfl (fun wz hwz => ?_) ?_
     rotate_left
     ·go_simp; try (with_reducible rfl)
     simp only [Zp, Zq, Zr, Zs]
     refine WpG.vD 13 (some 136) ?_ rfl rfl (by kernel_rfl) (fun _ _ _ h => h) rfl (fun wz hwz => ?_) ?_
     rotate_left
     ·go_simp; try (with_reducible rfl)
     simp only [Zp, Zq, Zr, Zs]
     refine WpG.vD 14 (some 137) ?_ rfl rfl (by kernel_rfl) (fun _ _ _ h => h) rfl (fun wz hwz => ?_) ?_
     rotate_left
     ·go_simp; try (with_reducible rfl)
     simp only [Zp, Zq, Zr, Zs]
     refine WpG.vD 15 (some 138) ?_ rfl rfl (by kernel_rfl) (fun _ _ _ h => h) rfl (fun wz hwz => ?_) ?_
     rotate_left
     ·go_simp; try (with_reducible rfl)
     simp only [Zp, Zq, Zr, Zs]
     refine WpG.vD 16 (some 139) ?_ rfl rfl (by kernel_rfl) (fun _ _ _ h => h) rfl (fun wz hwz => ?_) ?_
     rotate_left
     ·go_simp; try (with_reducible rfl)
     simp only [Zp, Zq, Zr, Zs]
     refine WpG.vD 17 (some 140) ?_ rfl rfl (by kernel_rfl) (fun _ _ _ h => h) rfl (fun wz hwz => ?_) ?_
     rotate_left
     ·(refine Eq.trans (exec_load rfl (by kernel_rfl) (LD.out wz hwz)) ?_; with_reducible rfl)
     simp only [Zp, Zq, Zr, Zs]
     refine WpG.vD 18 (some 141) ?_ rfl rfl (by kernel_rfl) (fun _ _ _ h => h) rfl (fun wz hwz => ?_) ?_
     rotate_left
     ·(refine Eq.trans (exec_build rfl (by kernel_rfl) (build_errs0 _)) ?_; with_reducible rfl)
     simp only [Zp, Zq, Zr, Zs]
     refine WpG.vD 19 (some 142) ?_ rfl rfl (by kernel_rfl) (fun _ _ _ h => h) rfl (fun wz hwz => ?_) ?_
     rotate_left
     ·(obtain ⟨hcz, hfz⟩ := bcell (hwz); have q := LC.out wz; go_simp; try (with_reducible rfl))
     simp only [Zp, Zq, Zr, Zs]
     refine WpG.vD 20 (some 143) ?_ rfl rfl (by kernel_rfl) (fun _ _ _ h => h) rfl (fun wz hwz => ?_) ?_
     rotate_left
     ·go_simp; try (with_reducible rfl)
     simp only [Zp, Zq, Zr, Zs]
     refine WpG.vD 21 (some 144) ?_ rfl rfl (by kernel_rfl) (fun _ _ _ h => h) rfl (fun wz hwz => ?_) ?_
     rotate_left
     ·go_simp; try (with_reducible rfl)
     simp only [Zp, Zq, Zr, Zs]
     refine WpG.vD 22 (some 145) ?_ rfl rfl (by kernel_rfl) (fun _ _ _ h => h) rfl (fun wz hwz => ?_) ?_
     rotate_left
     ·(refine Eq.trans (exec_load rfl (by kernel_rfl) (LI.out wz hwz)) ?_; with_reducible rfl)
     simp only [Zp, Zq, Zr, Zs]
     refine WpG.vD 23 (some 146) ?_ rfl rfl (by kernel_rfl) (fun _ _ _ h => h) rfl (fun wz hwz => ?_) ?_
     rotate_left
     ·(refine Eq.trans (exec_build rfl (by kernel_rfl) (build_id0 _)) ?_; with_reducible rfl)
     simp only [Zp, Zq, Zr, Zs]
     refine WpG.vD 24 (some 147) ?_ rfl rfl (by kernel_rfl) (fun _ _ _ h => h) rfl (fun wz hwz => ?_) ?_
     rotate_left
     ·(obtain ⟨hcz, hfz⟩ := bcell (hwz); have q := LQ.out wz; go_simp; try (with_reducible rfl))
     simp only [Zp, Zq, Zr, Zs]
     refine WpG.vD 25 (some 148) ?_ rfl rfl (by kernel_rfl) (fun _ _ _ h => h) rfl (fun wz hwz => ?_) ?_
     rotate_left
     ·go_simp; try (with_reducible rfl)
     simp only [Zp, Zq, Zr, Zs]
     refine WpG.vD 26 (some 149) ?_ rfl rfl (by kernel_rfl) (fun _ _ _ h => h) rfl (fun wz hwz => ?_) ?_
     rotate_left
     ·go_simp; try (with_reducible rfl)
     simp only [Zp, Zq, Zr, Zs]
     refine WpG.vD 27 (some 150) ?_ rfl rfl (by kernel_rfl) (fun _ _ _ h => h) rfl (fun wz hwz => ?_) ?_
     rotate_left
     ·go_simp; try (with_reducible rfl)
     simp only [Zp, Zq, Zr, Zs]
     refine WpG.vD 28 (some 151) ?_ rfl rfl (by kernel_rfl) (fun _ _ _ h => h) rfl (fun wz hwz => ?_) ?_
     rotate_left
     ·go_simp; try (with_reducible rfl)
     simp only [Zp, Zq, Zr, Zs]
     refine WpG.vD 29 (some 152) ?_ rfl rfl (by kernel_rfl) (fun _ _ _ h => h) rfl (fun wz hwz => ?_) ?_
     rotate_left
     ·go_simp; try (with_reducible rfl)
     simp only [Zp, Zq, Zr, Zs]
     refine WpG.vD 30 (some 153) ?_ rfl rfl (by kernel_rfl) (fun _ _ _ h => h) rfl (fun wz hwz => ?_) ?_
     rotate_left
     ·go_simp; try (with_reducible rfl)
     simp only [Zp, Zq, Zr, Zs]
     refine WpG.vD 31 (some 154) ?_ rfl rfl (by kernel_rfl) (fun _ _ _ h => h) rfl (fun wz hwz => ?_) ?_
     rotate_left
     ·go_simp; try (with_reducible rfl)
     simp only [Zp, Zq, Zr, Zs]
     refine WpG.vD 32 (some 155) ?_ rfl rfl (by kernel_rfl) (fun _ _ _ h => h) rfl (fun wz hwz => ?_) ?_
     rotate_left
     ·go_simp; try (with_reducible rfl)
     simp only [Zp, Zq, Zr, Zs]
     refine WpG.vD 33 (some 156) ?_ rfl rfl (by kernel_rfl) (fun _ _ _ h => h) rfl (fun wz hwz => ?_) ?_
     rotate_left
     ·go_simp; try (with_reducible rfl)
     simp only [Zp, Zq, Zr, Zs]
     refine WpG.vD 34 (some 157) ?_ rfl rfl (by kernel_rfl) (fun _ _ _ h => h) rfl (fun wz hwz => ?_) ?_
     rotate_left
     ·go_simp; try (with_reducible rfl)
     simp only [Zp, Zq, Zr, Zs]
     refine WpG.vD 35 (some 158) ?_ rfl rfl (by kernel_rfl) (fun _ _ _ h => h) rfl (fun wz hwz => ?_) ?_
     rotate_left
     ·go_simp; try (with_reducible rfl)
     simp only [Zp, Zq, Zr, Zs]
     refine WpG.vD 36 (some 159) ?_ rfl rfl (by kernel_rfl) (fun _ _ _ h => h) rfl (fun wz hwz => ?_) ?_
     rotate_left
     ·go_simp; try (with_reducible rfl)
     simp only [Zp, Zq, Zr, Zs]
     refine WpG.vD 37 (some 160) ?_ rfl rfl (by kernel_rfl) (fun _ _ _ h => h) rfl (fun wz hwz => ?_) ?_
     rotate_left
     ·go_simp; try (with_reducible rfl)
     simp only [Zp, Zq, Zr, Zs]
     refine WpG.vD 38 (some 161) ?_ rfl rfl (by kernel_rfl) (fun _ _ _ h => h) rfl (fun wz hwz => ?_) ?_
     rotate_left
     ·go_simp; try (with_reducible rfl)
     simp only [Zp, Zq, Zr, Zs]
     refine WpG.vD 39 (some 162) ?_ rfl rfl (by kernel_rfl) (fun _ _ _ h => h) rfl (fun wz hwz => ?_) ?_
     rotate_left
     ·go_simp; try (with_reducible rfl)
     simp only [Zp, Zq, Zr, Zs]
     refine WpG.vD 40 (some 163) ?_ rfl rfl (by kernel_rfl) (fun _ _ _ h => h) rfl (fun wz hwz => ?_) ?_
     rotate_left
     ·go_simp; try (with_reducible rfl)
     simp only [Zp, Zq, Zr, Zs]
     refine WpG.vD 41 (some 164) ?_ rfl rfl (by kernel_rfl) (fun _ _ _ h => h) rfl (fun wz hwz => ?_) ?_
     rotate_left
     ·go_simp; try (with_reducible rfl)
     simp only [Zp, Zq, Zr, Zs]
     refine WpG.vD 42 (some 165) ?_ rfl rfl (by kernel_rfl) (fun _ _ _ h => h) rfl (fun wz hwz => ?_) ?_
     rotate_left
     ·go_simp; try (with_reducible rfl)
     simp only [Zp, Zq, Zr, Zs]
     refine WpG.vD 43 (some 166) ?_ rfl rfl (by kernel_rfl) (fun _ _ _ h => h) rfl (fun wz hwz => ?_) ?_
     rotate_left
     ·go_simp; try (with_reducible rfl)
     simp only [Zp, Zq, Zr, Zs]
     refine WpG.vD 44 (some 167) ?_ rfl rfl (by kernel_rfl) (fun _ _ _ h => h) rfl (fun wz hwz => ?_) ?_
     rotate_left
     ·go_simp; try (with_reducible rfl)
     simp only [Zp, Zq, Zr, Zs]
     refine WpG.vD 45 (some 168) ?_ rfl rfl (by kernel_rfl) (fun _ _ _ h => h) rfl (fun wz hwz => ?_) ?_
     rotate_left
     ·go_simp; try (with_reducible rfl)
     simp only [Zp, Zq, Zr, Zs]
     refine WpG.vD 46 (some 169) ?_ rfl rfl (by kernel_rfl) (fun _ _ _ h => h) rfl (fun wz hwz => ?_) ?_
     rotate_left
     ·go_simp; try (with_reducible rfl)
     simp only [Zp, Zq, Zr, Zs]
     refine WpG.vD 47 (some 170) ?_ rfl rfl (by kernel_rfl) (fun _ _ _ h => h) rfl (fun wz hwz => ?_) ?_
     rotate_left
     ·go_simp; try (with_reducible rfl)
     simp only [Zp, Zq, Zr, Zs]
     refine WpG.vD 48 (some 171) ?_ rfl rfl (by kernel_rfl) (fun _ _ _ h => h) rfl (fun wz hwz => ?_) ?_
     rotate_left
     ·go_simp; try (with_reducible rfl)
     simp only [Zp, Zq, Zr, Zs]
     refine WpG.vD 49 (some 172) ?_ rfl rfl (by kernel_rfl) (fun _ _ _ h => h) rfl (fun wz hwz => ?_) ?_
     rotate_left
     ·go_simp; try (with_reducible rfl)
     simp only [Zp, Zq, Zr, Zs]
     refine WpG.vD 50 (some 173) ?_ rfl rfl (by kernel_rfl) (fun _ _ _ h => h) rfl (fun wz hwz => ?_) ?_
     rotate_left
     ·go_simp; try (with_reducible rfl)
     simp only [Zp, Zq, Zr, Zs]
     refine WpG.vD 51 (some 174) ?_ rfl rfl (by kernel_rfl) (fun _ _ _ h => h) rfl (fun wz hwz => ?_) ?_
     rotate_left
     ·go_simp; try (with_reducible rfl)
     simp only [Zp, Zq, Zr, Zs]
     refine WpG.vD 52 (some 175) ?_ rfl rfl (by kernel_rfl) (fun _ _ _ h => h) rfl (fun wz hwz => ?_) ?_
     rotate_left
     ·go_simp; try (with_reducible rfl)
     simp only [Zp, Zq, Zr, Zs]
     refine WpG.vD 53 (some 176) ?_ rfl rfl (by kernel_rfl) (fun _ _ _ h => h) rfl (fun wz hwz => ?_) ?_
     rotate_left
     ·go_simp; try (with_reducible rfl)
     simp only [Zp, Zq, Zr, Zs]
     refine WpG.vD 54 (some 177) ?_ rfl rfl (by kernel_rfl) (fun _ _ _ h => h) rfl (fun wz hwz => ?_) ?_
     rotate_left
     ·go_simp; try (with_reducible rfl)
     simp only [Zp, Zq, Zr, Zs]
     refine WpG.vD 55 (some 178) ?_ rfl rfl (by kernel_rfl) (fun _ _ _ h => h) rfl (fun wz hwz => ?_) ?_
     rotate_left
     ·go_simp; try (with_reducible rfl)
     simp only [Zp, Zq, Zr, Zs]
     refine WpG.vD 56 (some 179) ?_ rfl rfl (by kernel_rfl) (fun _ _ _ h => h) rfl (fun wz hwz => ?_) ?_
     rotate_left
     ·go_simp; try (with_reducible rfl)
     simp only [Zp, Zq, Zr, Zs]
     refine WpG.vD 57 (some 180) ?_ rfl rfl (by kernel_rfl) (fun _ _ _ h => h) rfl (fun wz hwz => ?_) ?_
     rotate_left
     ·(obtain ⟨hcz, hfz⟩ := bcell (hwz); have q := (LX.out w18 (Below.refl _ _)).1; go_simp; try (with_reducible rfl))
     simp only [Zp, Zq, Zr, Zs]
     refine WpG.vD 58 (some 181) ?_ rfl rfl (by kernel_rfl) (fun _ _ _ h => h) rfl (fun wz hwz => ?_) ?_
     rotate_left
     ·go_simp; try (with_reducible rfl)
     simp only [Zp, Zq, Zr, Zs]
     refine WpG.vD 59 (some 182) ?_ rfl rfl (by kernel_rfl) (fun _ _ _ h => h) rfl (fun wz hwz => ?_) ?_
     rotate_left
     ·go_simp; try (with_reducible rfl)
     simp only [Zp, Zq, Zr, Zs]
     refine WpG.vD 60 (some 183) ?_ rfl rfl (by kernel_rfl) (fun _ _ _ h => h) rfl (fun wz hwz => ?_) ?_
     rotate_left
     ·(obtain ⟨hcz, hfz⟩ := bcell (hwz); have q := (LX.out w18 (Below.refl _ _)).2; go_simp; try (with_reducible rfl))
     simp only [Zp, Zq, Zr, Zs]
     refine WpG.vD 61 (some 184) ?_ rfl rfl (by kernel_rfl) (fun _ _ _ h => h) rfl (fun wz hwz => ?_) ?_
     rotate_left
     ·(obtain ⟨hcz, hfz⟩ := bcell (hwz); have q := LY.out wz hwz; go_simp; try (with_reducible rfl))
     simp only [Zp, Zq, Zr, Zs]
     refine WpG.vD 62 (some 185) ?_ rfl rfl (by kernel_rfl) (fun _ _ _ h => h) rfl (fun wz hwz => ?_) ?_
     rotate_left
     ·go_simp; try (with_reducible rfl)
     simp only [Zp, Zq, Zr, Zs]
     refine WpG.vD 63 (some 186) ?_ rfl rfl (by kernel_rfl) (fun _ _ _ h => h) rfl (fun wz hwz => ?_) ?_
     rotate_left
     ·(obtain ⟨hcz, hfz⟩ := bcell (hwz); have q := LB.out wz hwz; go_simp; try (with_reducible rfl))
     simp only [Zp, Zq, Zr, Zs]
     refine WpG.vD 64 (some 187) ?_ rfl rfl (by kernel_rfl) (fun _ _ _ h => h) rfl (fun wz hwz => ?_) ?_
     rotate_left
     ·go_simp; try (with_reducible rfl)
     simp only [Zp, Zq, Zr, Zs]
     refine WpG.vD 65 (some 188) ?_ rfl rfl (by kernel_rfl) (fun _ _ _ h => h) rfl (fun wz hwz => ?_) ?_
     rotate_left
     ·go_simp; try (with_reducible rfl)
     simp only [Zp, Zq, Zr, Zs]
     refine WpG.done (by kernel_rfl) (fun w19 hb19 => ?_)
     (try simp only [List.drop_succ_cons]); (try simp only [List.drop_zero]); (try simp only [Nat.reduceSub]); (try simp only [List.take_succ_cons]); (try simp only [List.take_zero])
     clear LX LM LD LI LC LQ LY LB
     go_wp2_with fail
     go_ret
     exact ⟨by simp, bl_call hb03 (Nat.le_refl _) hb19⟩

end Go.Proofs.Ytbakkmfjamcbfaa
