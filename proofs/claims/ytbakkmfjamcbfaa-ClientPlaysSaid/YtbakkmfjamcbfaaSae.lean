/-
 CnE: for ClientPlays.
-/
import Derived.BigQuiet
import Derived.Laws.Bits64b
import Derived.Test.YtbakkmfjamcbfaaSad
namespace Go.Proofs.Ytbakkmfjamcbfaa
open Go.RowKit Fm
set_option linter.unusedVariables false
set_option maxRecDepth 100000

set_option maxHeartbeats 4000000 in
theorem walk_ClientPlays0 (id : List Int) (hid : id.length = 16) (A0 A1 A2 Aa : Option Addr) (n0 c0 n1 c1 n2 c2 N ca : Nat) (w : World) (h : 100 < n0 ∨ 100 < n1 ∨ 100 < n2) :
  Calls Try.prog 4 #[.agg (cells8 id).toArray, .slice A0 n0 c0, .slice A1 n1 c1, .slice A2 n2 c2, .slice Aa N ca] w fun e w' => e = .returned (.bool true) ∧ Below w.heap.size w w' := by
 by_cases h1 : 100 < n0
 ·have hn1 : (100 : Int) < (n0 : Int) := by omega
  clear h h1
  have HAW := Lib.hid law22_Awake
  have HID := Lib.hid hid
  clear hid
  go_enter Try.func4, Try.ntmps4
  go_upto_region 1 with fail
  have hI := Vs.new w (cells8 id) ((cells8 id).toArray) 34 rfl
  have hb00 : Below w.heap.size w (w.alloc (.cells (cells8 id).toArray 34)) := by repeat (first | exact bA | with_reducible assumption | apply bB)
  have hszn : w.heap.size + 1 ≤ (w.alloc (.cells (cells8 id).toArray 34)).heap.size := by simp only [World.size_alloc]; omega
  generalize (w.alloc (.cells (cells8 id).toArray 34)) = w1 at hI hb00 hszn ⊢
  go_wp2_with (go_at_call 12; refine (HAW.out _).mono ?_; rintro e w2 ⟨rfl, hb2⟩)
  go_ret
  exact ⟨rfl, bl_call hb00 (Nat.le_refl _) hb2⟩
 ·have hn1 : (n0 : Int) ≤ 100 := by omega
  by_cases h2 : 100 < n1
  ·have hn2 : (100 : Int) < (n1 : Int) := by omega
   clear h h1 h2
   have HAW := Lib.hid law22_Awake
   have HID := Lib.hid hid
   clear hid
   go_enter Try.func4, Try.ntmps4
   go_upto_region 1 with fail
   have hI := Vs.new w (cells8 id) ((cells8 id).toArray) 34 rfl
   have hb00 : Below w.heap.size w (w.alloc (.cells (cells8 id).toArray 34)) := by repeat (first | exact bA | with_reducible assumption | apply bB)
   have hszn : w.heap.size + 1 ≤ (w.alloc (.cells (cells8 id).toArray 34)).heap.size := by simp only [World.size_alloc]; omega
   generalize (w.alloc (.cells (cells8 id).toArray 34)) = w1 at hI hb00 hszn ⊢
   go_wp2_with (go_at_call 12; refine (HAW.out _).mono ?_; rintro e w2 ⟨rfl, hb2⟩)
   go_ret
   exact ⟨rfl, bl_call hb00 (Nat.le_refl _) hb2⟩
  ·have hn2 : (n1 : Int) ≤ 100 := by omega
   have hn3 : (100 : Int) < (n2 : Int) := by omega
   clear h h1 h2
   have HAW := Lib.hid law22_Awake
   have HID := Lib.hid hid
   clear hid
   go_enter Try.func4, Try.ntmps4
   go_upto_region 1 with fail
   have hI := Vs.new w (cells8 id) ((cells8 id).toArray) 34 rfl
   have hb00 : Below w.heap.size w (w.alloc (.cells (cells8 id).toArray 34)) := by repeat (first | exact bA | with_reducible assumption | apply bB)
   have hszn : w.heap.size + 1 ≤ (w.alloc (.cells (cells8 id).toArray 34)).heap.size := by simp only [World.size_alloc]; omega
   generalize (w.alloc (.cells (cells8 id).toArray 34)) = w1 at hI hb00 hszn ⊢
   go_wp2_with (go_at_call 12; refine (HAW.out _).mono ?_; rintro e w2 ⟨rfl, hb2⟩)
   go_ret
   exact ⟨rfl, bl_call hb00 (Nat.le_refl _) hb2⟩

structure CpK (T cb tb kb ib : Nat) (w0 wr : World) (id : List Int) (n0 n1 n2 : Nat) (zs0 zs1 zs2 : List Int) (d0 d1 : Bool) (k0 k1 due wait tries : Int) : Prop where
 c : CliK T cb wr id 7 n0 n1 n2 zs0 zs1 zs2 d0 d1 k0 k1 due wait tries
 t : T ≤ wr.heap.size
 d : Vs wr tb [.bool d0, .bool d1]
 k : Vs wr kb [.int .i64 k0, .int .i64 k1]
 i : Vs wr ib (cells8 id)
 b : Below w0.heap.size w0 wr
 lt : w0.heap.size ≤ cb ∧ ib < cb ∧ w0.heap.size ≤ ib ∧ T ≤ tb ∧ tb < kb
section
variable {T cb tb kb ib : Nat} {w0 wr w' : World} {id : List Int} {n0 n1 n2 : Nat} {zs0 zs1 zs2 : List Int} {d0 d1 : Bool} {k0 k1 due wait tries : Int}
theorem CpK.call (h : CpK T cb tb kb ib w0 wr id n0 n1 n2 zs0 zs1 zs2 d0 d1 k0 k1 due wait tries) (hb : Below wr.heap.size wr w') : CpK T cb tb kb ib w0 w' id n0 n1 n2 zs0 zs1 zs2 d0 d1 k0 k1 due wait tries :=
 ⟨h.c.call hb, Nat.le_trans h.t hb.size, h.d.call hb, h.k.call hb, h.i.call hb, bl_call h.b (Nat.le_refl _) hb, h.lt⟩
theorem CpK.turn {d0' d1' : Bool} {k0' k1' due' wait' tries' : Int} (h : CpK T cb tb kb ib w0 wr id n0 n1 n2 zs0 zs1 zs2 d0 d1 k0 k1 due wait tries) (hx : Exc (fun q => q = cb) wr.heap.size wr w') (hc : CliK T cb w' id 7 n0 n1 n2 zs0 zs1 zs2 d0' d1' k0' k1' due' wait' tries') :
  CliK T cb w' id 7 n0 n1 n2 zs0 zs1 zs2 d0' d1' k0' k1' due' wait' tries' ∧ T ≤ w'.heap.size ∧ Vs w' tb [.bool d0, .bool d1] ∧ Vs w' kb [.int .i64 k0, .int .i64 k1] ∧ Vs w' ib (cells8 id) ∧ Below w0.heap.size w0 w' := by
 obtain ⟨l1, l2, l3, l4, l5⟩ := h.lt
 have hcT := hc.lt
 exact ⟨hc, Nat.le_trans h.t hx.size, h.d.exc (fun e : tb = cb => by omega) hx, h.k.exc (fun e : kb = cb => by omega) hx, h.i.exc (fun e : ib = cb => by omega) hx, h.b.trans (Exc.below (hx.mono h.b.size) (fun q hq (e : q = cb) => by omega))⟩
end


section
variable {T cb : Nat} {w w' : World} {id : List Int} {tm : Int} {n0 n1 n2 : Nat} {zs0 zs1 zs2 : List Int} {d0 d1 : Bool} {k0 k1 due wait tries frm kind job start many code et ec : Int} {sum eid : List Int} {A : Option Addr} {N c eb eo : Nat} {pu sh : Value}
theorem CliK.done (h : CliK T cb w id tm n0 n1 n2 zs0 zs1 zs2 d0 d1 k0 k1 due wait tries) : Calls Try.prog 13 #[.pointer (some ⟨cb, 0, none⟩)] w fun e w' => e = .returned (.tuple #[.bool (d0 && d1), .agg #[.int .i64 k0, .int .i64 k1]]) ∧ Below w.heap.size w w' := by
 obtain ⟨v0, v1, h1, _⟩ := h.ex
 exact client_Done id h.id16 _ _ (msgL_length z16_length) (msgL_length z16_length) d0 d1 k0 k1 due wait tries cb w h1
theorem CliK.idn (h : CliK T cb w id tm n0 n1 n2 zs0 zs1 zs2 d0 d1 k0 k1 due wait tries) : Calls Try.prog 14 #[.pointer (some ⟨cb, 0, none⟩)] w fun e w' => e = .returned (.tuple #[.agg (cells8 id).toArray, .int .i64 tries]) ∧ Below w.heap.size w w' := by
 obtain ⟨v0, v1, h1, _⟩ := h.ex
 exact client_Id id h.id16 _ _ (msgL_length z16_length) (msgL_length z16_length) d0 d1 k0 k1 due wait tries cb w h1
theorem CliK.recvNo (h : CliK T cb w id tm n0 n1 n2 zs0 zs1 zs2 d0 d1 k0 k1 due wait tries) (hsum : sum.length = 16) (hno : (frm ≠ 0 ∧ frm ≠ 1) ∨ kind ≠ 7 ∨ N ≠ 1) :
  Calls Try.prog 17 #[.pointer (some ⟨cb, 0, none⟩), .int .i64 frm, .agg (msgL kind job start many sum code (.slice A N c)).toArray] w fun e w' => e = .returned (.int .i64 (if frm ≠ 0 ∧ frm ≠ 1 then 6 else 10)) ∧ Below w.heap.size w w' := by
 obtain ⟨v0, v1, h1, _⟩ := h.ex
 exact client_ReceiveNo id h.id16 _ _ (msgL_length z16_length) (msgL_length z16_length) d0 d1 k0 k1 due wait tries frm kind job start many code sum hsum A N c cb w h1 hno
theorem CliK.recvOth0 (h : CliK T cb w id tm n0 n1 n2 zs0 zs1 zs2 d0 d1 k0 k1 due wait tries) (hsum : sum.length = 16) (heid : eid.length = 16) (hE : eb < w.heap.size ∧ w.rangeAt eb eo (entL eid et pu sh ec)) (hne : (eid == id) = false) :
  Calls Try.prog 17 #[.pointer (some ⟨cb, 0, none⟩), .int .i64 0, .agg (msgL 7 job start many sum code (.slice (some ⟨eb, eo, none⟩) 1 c)).toArray] w fun e w' => e = .returned (.int .i64 19) ∧ Below w.heap.size w w' := by
 obtain ⟨v0, v1, h1, _⟩ := h.ex
 exact client_ReceiveOth0 id h.id16 _ _ (msgL_length z16_length) (msgL_length z16_length) d0 d1 k0 k1 due wait tries job start many code sum hsum eb eo c eid heid et ec pu sh cb w h1 hE hne
theorem CliK.recvDup0 (h : CliK T cb w id tm n0 n1 n2 zs0 zs1 zs2 true d1 k0 k1 due wait tries) (hsum : sum.length = 16) (heid : eid.length = 16) (hE : eb < w.heap.size ∧ w.rangeAt eb eo (entL eid et pu sh ec)) (hne : (eid == id) = true) (hbe : eb ≠ cb) :
  Calls Try.prog 17 #[.pointer (some ⟨cb, 0, none⟩), .int .i64 0, .agg (msgL 7 job start many sum code (.slice (some ⟨eb, eo, none⟩) 1 c)).toArray] w fun e w' => e = .returned (.int .i64 14) ∧ Below w.heap.size w w' := by
 obtain ⟨v0, v1, h1, _⟩ := h.ex
 refine (client_RecvA0 id h.id16 _ _ (msgL_length z16_length) (msgL_length z16_length) true d1 k0 k1 due wait tries job start many code sum hsum eb eo c eid heid et ec pu sh cb w h1 hE hne hbe).mono fun e w' h => ?_
 rcases h with ⟨_, h1, h2⟩ | ⟨h1, _⟩
 ·exact ⟨h1, h2⟩
 ·cases h1
theorem CliK.recvOk0 (h : CliK T cb w id tm n0 n1 n2 zs0 zs1 zs2 false d1 k0 k1 due wait tries) (hsum : sum.length = 16) (heid : eid.length = 16) (hE : eb < w.heap.size ∧ w.rangeAt eb eo (entL eid et pu sh ec)) (hne : (eid == id) = true) (hbe : eb ≠ cb) :
  Calls Try.prog 17 #[.pointer (some ⟨cb, 0, none⟩), .int .i64 0, .agg (msgL 7 job start many sum code (.slice (some ⟨eb, eo, none⟩) 1 c)).toArray] w fun e w' => e = .returned (.int .i64 0) ∧ CliK T cb w' id tm n0 n1 n2 zs0 zs1 zs2 true d1 ec k1 due wait tries ∧ Exc (fun q => q = cb) w.heap.size w w' := by
 obtain ⟨⟨v0, v1, h1, h2, h3⟩, h4, h5, h6⟩ := h
 refine (client_RecvA0 id h5 _ _ (msgL_length z16_length) (msgL_length z16_length) false d1 k0 k1 due wait tries job start many code sum hsum eb eo c eid heid et ec pu sh cb w h1 hE hne hbe).mono fun e w' h => ?_
 rcases h with ⟨h1, _⟩ | ⟨_, h1, hx, hV⟩
 ·cases h1
 ·exact ⟨h1, ⟨⟨v0, v1, hV, h2.exc (fun q k1 k2 (e : q = cb) => by omega) hx, h3.exc (fun q k1 k2 (e : q = cb) => by omega) hx⟩, h4, h5, h6⟩, hx⟩
theorem CliK.recvOth1 (h : CliK T cb w id tm n0 n1 n2 zs0 zs1 zs2 d0 d1 k0 k1 due wait tries) (hsum : sum.length = 16) (heid : eid.length = 16) (hE : eb < w.heap.size ∧ w.rangeAt eb eo (entL eid et pu sh ec)) (hne : (eid == id) = false) :
  Calls Try.prog 17 #[.pointer (some ⟨cb, 0, none⟩), .int .i64 1, .agg (msgL 7 job start many sum code (.slice (some ⟨eb, eo, none⟩) 1 c)).toArray] w fun e w' => e = .returned (.int .i64 19) ∧ Below w.heap.size w w' := by
 obtain ⟨v0, v1, h1, _⟩ := h.ex
 exact client_ReceiveOth1 id h.id16 _ _ (msgL_length z16_length) (msgL_length z16_length) d0 d1 k0 k1 due wait tries job start many code sum hsum eb eo c eid heid et ec pu sh cb w h1 hE hne
theorem CliK.recvDup1 (h : CliK T cb w id tm n0 n1 n2 zs0 zs1 zs2 d0 true k0 k1 due wait tries) (hsum : sum.length = 16) (heid : eid.length = 16) (hE : eb < w.heap.size ∧ w.rangeAt eb eo (entL eid et pu sh ec)) (hne : (eid == id) = true) (hbe : eb ≠ cb) :
  Calls Try.prog 17 #[.pointer (some ⟨cb, 0, none⟩), .int .i64 1, .agg (msgL 7 job start many sum code (.slice (some ⟨eb, eo, none⟩) 1 c)).toArray] w fun e w' => e = .returned (.int .i64 14) ∧ Below w.heap.size w w' := by
 obtain ⟨v0, v1, h1, _⟩ := h.ex
 refine (client_RecvA1 id h.id16 _ _ (msgL_length z16_length) (msgL_length z16_length) d0 true k0 k1 due wait tries job start many code sum hsum eb eo c eid heid et ec pu sh cb w h1 hE hne hbe).mono fun e w' h => ?_
 rcases h with ⟨_, h1, h2⟩ | ⟨h1, _⟩
 ·exact ⟨h1, h2⟩
 ·cases h1
theorem CliK.recvOk1 (h : CliK T cb w id tm n0 n1 n2 zs0 zs1 zs2 d0 false k0 k1 due wait tries) (hsum : sum.length = 16) (heid : eid.length = 16) (hE : eb < w.heap.size ∧ w.rangeAt eb eo (entL eid et pu sh ec)) (hne : (eid == id) = true) (hbe : eb ≠ cb) :
  Calls Try.prog 17 #[.pointer (some ⟨cb, 0, none⟩), .int .i64 1, .agg (msgL 7 job start many sum code (.slice (some ⟨eb, eo, none⟩) 1 c)).toArray] w fun e w' => e = .returned (.int .i64 0) ∧ CliK T cb w' id tm n0 n1 n2 zs0 zs1 zs2 d0 true k0 ec due wait tries ∧ Exc (fun q => q = cb) w.heap.size w w' := by
 obtain ⟨⟨v0, v1, h1, h2, h3⟩, h4, h5, h6⟩ := h
 refine (client_RecvA1 id h5 _ _ (msgL_length z16_length) (msgL_length z16_length) d0 false k0 k1 due wait tries job start many code sum hsum eb eo c eid heid et ec pu sh cb w h1 hE hne hbe).mono fun e w' h => ?_
 rcases h with ⟨h1, _⟩ | ⟨_, h1, hx, hV⟩
 ·cases h1
 ·exact ⟨h1, ⟨⟨v0, v1, hV, h2.exc (fun q k1 k2 (e : q = cb) => by omega) hx, h3.exc (fun q k1 k2 (e : q = cb) => by omega) hx⟩, h4, h5, h6⟩, hx⟩
end



theorem wt_len (d0 d1 : Bool) : (wtK d0 d1 2).length = 0 ↔ (d0 && d1) = true := by cases d0 <;> cases d1 <;> simp [wtK]

set_option maxHeartbeats 0 in
theorem walk_ClientPlays (id : List Int) (hid : id.length = 16) (A0 A1 A2 Aa : Option Addr) (n0 c0 n1 c1 n2 c2 N ca : Nat) (zs0 zs1 zs2 : List Int) (rows : List (List Value)) (w : World) (h100 : n0 ≤ 100 ∧ n1 ≤ 100 ∧ n2 ≤ 100) (hr0 : RdB w A0 n0 zs0) (hr1 : RdB w A1 n1 zs1) (hr2 : RdB w A2 n2 zs2)
  (hN : rows.length = N) (hrw : 0 < N → ∃ ab ao, Aa = some ⟨ab, ao, none⟩ ∧ ab < w.heap.size ∧ ∀ i r, rows[i]? = some r → w.rangeAt ab (ao + i * 27) r) (hact : ∀ (i : Nat) r, rows[i]? = some r → ActOk w r) :
  Calls Try.prog 4 #[.agg (cells8 id).toArray, .slice A0 n0 c0, .slice A1 n1 c1, .slice A2 n2 c2, .slice Aa N ca] w fun e w' => e = .returned (.bool true) ∧ Below w.heap.size w w' := by
 have hn1 : (n0 : Int) ≤ 100 := by omega
 have hn2 : (n1 : Int) ≤ 100 := by omega
 have hn3 : (n2 : Int) ≤ 100 := by omega
 have HR0 := Lib.hid hr0
 have HR1 := Lib.hid hr1
 have HR2 := Lib.hid hr2
 have HN := Lib.hid hN
 have HRW := Lib.hid hrw
 have HACT := Lib.hid hact
 clear hr0 hr1 hr2 hN hrw hact
 have HAW := Lib.hid law22_Awake
 have HID := Lib.hid hid
 clear hid
 go_enter Try.func4, Try.ntmps4
 go_upto_region 1 with fail
 have hI := Vs.new w (cells8 id) ((cells8 id).toArray) 34 rfl
 have hb00 : Below w.heap.size w (w.alloc (.cells (cells8 id).toArray 34)) := by repeat (first | exact bA | with_reducible assumption | apply bB)
 have hszn : w.heap.size + 1 ≤ (w.alloc (.cells (cells8 id).toArray 34)).heap.size := by simp only [World.size_alloc]; omega
 generalize (w.alloc (.cells (cells8 id).toArray 34)) = w1 at hI hb00 hszn ⊢
 go_upto_region 5 with (go_at_call 12; refine (HAW.out _).mono ?_; rintro e w2 ⟨rfl, hb2⟩)
 replace hb00 := bl_call hb00 (Nat.le_refl _) hb2
 replace hI := hI.call hb2
 clear hb2 HAW
 have hil := hI.lt
 have hRK := client_RawK id HID.out 7 A0 A1 A2 n0 c0 n1 c1 n2 c2 zs0 zs1 zs2 w2 (HR0.out.call hb00) (HR1.out.call hb00) (HR2.out.call hb00) (by unfold entC; rw [if_neg (by omega), if_neg (by omega)]) (by unfold entC; rw [if_neg (by omega), if_neg (by omega)])
 refine wp_region_lit ?_
 refine wpList_valD (some 51) rfl rfl (exec_load rfl (by kernel_rfl) (hI.loadId HID.out)) ?_
 simp only [Zp, Zq, Zr, Zs]
 refine wpList_valD (some 52) rfl rfl (by (go_simp; first | with_reducible rfl | exact ⟨rfl, rfl⟩ | (trace_state; fail))) ?_
 simp only [Zp, Zq, Zr, Zs]
 refine wpList_valD (some 53) rfl rfl (by (go_simp; first | with_reducible rfl | exact ⟨rfl, rfl⟩ | (trace_state; fail))) ?_
 simp only [Zp, Zq, Zr, Zs]
 refine wpList_valD (some 54) rfl rfl (by (go_simp; first | with_reducible rfl | exact ⟨rfl, rfl⟩ | (trace_state; fail))) ?_
 simp only [Zp, Zq, Zr, Zs]
 refine wpList_callD (some 55) rfl rfl 15 _ ?_ (hRK) ?_
 ·go_simp; try (with_reducible rfl)
 rintro e w3 ⟨cb, rfl, hcb, hK, hb3⟩
 refine ⟨_, rfl, ?_⟩
 simp only [Zp, Zq, Zr, Zs]
 clear hRK
 have hws := hb00.size
 replace hb00 := bl_call hb00 (Nat.le_refl _) hb3
 replace hI := hI.call hb3
 clear hb3
 refine wpList_valD (some 50) rfl rfl (by (go_simp; first | with_reducible rfl | exact ⟨rfl, rfl⟩ | (trace_state; fail))) ?_
 simp only [Zp, Zq, Zr, Zs]
 refine wpList_valD (some 56) rfl rfl (by (go_simp; first | with_reducible rfl | exact ⟨rfl, rfl⟩ | (trace_state; fail))) ?_
 simp only [Zp, Zq, Zr, Zs]
 refine wpList_valD (some 57) rfl rfl (by (go_simp; first | with_reducible rfl | exact ⟨rfl, rfl⟩ | (trace_state; fail))) ?_
 simp only [Zp, Zq, Zr, Zs]
 refine wpList_valD (some 11) rfl rfl (by (go_simp; first | with_reducible rfl | exact ⟨rfl, rfl⟩ | (trace_state; fail))) ?_
 simp only [Zp, Zq, Zr, Zs]
 refine wpList_valD (some 12) rfl rfl (by (go_simp; first | with_reducible rfl | exact ⟨rfl, rfl⟩ | (trace_state; fail))) ?_
 simp only [Zp, Zq, Zr, Zs]
 obtain ⟨T, hT⟩ : ∃ z, w3.heap.size = z := ⟨_, rfl⟩
 rw [hT] at hK
 have hT0 : T ≤ w3.heap.size := Nat.le_of_eq hT.symm
 go_upto_region 10 with fail
 have hD := Vs.new w3 [.bool false, .bool false] #[.bool false, .bool false] 48 rfl
 have hbA : Below w3.heap.size w3 (w3.alloc (.cells #[.bool false, .bool false] 48)) := by repeat (first | exact bA | with_reducible assumption | apply bB)
 replace hb00 := bl_call hb00 (Nat.le_refl _) hbA
 replace hI := hI.call hbA
 replace hK := hK.call hbA
 clear hbA
 generalize w3.alloc (.cells #[.bool false, .bool false] 48) = w4 at hb00 hI hK hD ⊢
 rw [hT] at hD
 have hD1 := hD.lt
 clear hT
 obtain ⟨kb, hkb⟩ : ∃ z, w4.heap.size = z := ⟨_, rfl⟩
 have hkb2 : T < kb := by rw [← hkb]; exact hD1
 go_upto_region 11 with fail
 have hC := Vs.new w4 [.int .i64 0, .int .i64 0] #[.int .i64 0, .int .i64 0] 31 rfl
 have hbA : Below w4.heap.size w4 (w4.alloc (.cells #[.int .i64 0, .int .i64 0] 31)) := by repeat (first | exact bA | with_reducible assumption | apply bB)
 replace hb00 := bl_call hb00 (Nat.le_refl _) hbA
 replace hI := hI.call hbA
 replace hK := hK.call hbA
 replace hD := hD.call hbA
 clear hbA
 generalize w4.alloc (.cells #[.int .i64 0, .int .i64 0] 31) = w5 at hb00 hI hK hD hC ⊢
 rw [hkb] at hC
 have hC1 := hC.lt
 have hCP : CpK T cb T kb w.heap.size w w5 id n0 n1 n2 zs0 zs1 zs2 false false 0 0 0 1 0 := ⟨hK, by omega, hD, hC, hI, hb00, by omega, by omega, by omega, by omega, by omega⟩
 clear hK hD hC hI hb00 hD1 hC1 hT0 hkb hkb2 hcb hws hil
 go_upto_region 12 with fail
 go_wp2_with fail
 go_loopw [13, 14, 15, 16, 62] (fun v13 v14 v15 v16 v62 wr => ∃ (k : Nat) (now due wait tries : Int) (d0 d1 : Bool) (k0 k1 : Int), k ≤ N ∧ k ≤ 61 ∧ v62 = .int .i64 k ∧ v13 = .int .u64 now ∧ v14 = .int .u64 due ∧ v15 = .int .u64 wait ∧ v16 = .int .i64 tries ∧ (0 ≤ now ∧ now ≤ 4 * k) ∧ (0 ≤ wait ∧ wait ≤ 16) ∧ (0 ≤ tries ∧ tries ≤ k) ∧ CpK T cb T kb w.heap.size w wr id n0 n1 n2 zs0 zs1 zs2 d0 d1 k0 k1 due wait tries) (fun _ _ _ _ i _ => N - (intOf i).toNat)
 case atStart => exact ⟨0, 0, 0, 1, 0, false, false, 0, 0, Nat.zero_le _, by omega, rfl, rfl, rfl, rfl, rfl, ⟨by omega, by omega⟩, ⟨by omega, by omega⟩, ⟨by omega, by omega⟩, hCP⟩
 case round =>
  clear hCP
  obtain ⟨k, now, due, wait, tries, d0, d1, k0, k1, hk, hk61, rfl, rfl, rfl, rfl, rfl, hnow, hwait, htries, hP⟩ := hrel
  by_cases hlt : k < N
  ·obtain ⟨r, hr⟩ : ∃ r, rows[k]? = some r := ⟨_, List.getElem?_eq_getElem (by rw [HN.out]; exact hlt)⟩
   obtain ⟨ab, ao, hAa, habl, hra⟩ := HRW.out (by omega)
   subst hAa
   have hra9 := hra k r hr
   obtain ⟨a, b, c, d, m, n, hre, hm, ha, hb, hc, hd⟩ := HACT.out k r hr
   obtain ⟨kind, job, start, many, sum, code, es, ents, hme, hsum, hes, hent⟩ := hm
   have hml : m.length = 22 := by rw [hme]; exact msgL_length hsum
   obtain ⟨Ae, ce, hese, _, _, hents⟩ := hes
   have hm1 : ∀ v, v ∈ m → v.oneCell' = true := by rw [hme]; exact msgL_one _ _ _ _ _ _ (by rw [hese]; rfl)
   have hra8 : wr.rangeAt ab (ao + k * 27) (actL a b c d m n) := by
    have h1 : w.rangeAt ab (ao + k * 27) (actL a b c d m n) := by unfold actL; rw [← hre]; exact hra9
    exact fun j v hj => (hP.b.cell (p := ⟨ab, ao + k * 27 + j, none⟩) habl).trans (h1 j v hj)
   have hki : (k : Int) < (N : Int) := by omega
   have hwk : IntKind.i64.wrap ((k : Int) + 1) = (k : Int) + 1 := IntWalk.i64_in _ (by omega)
   clear hra hra9 hr hre
   go_upto_region 13 with fail
   refine wp_region_lit ?_
   refine wpList_valD (some 64) rfl rfl (by (go_simp; first | with_reducible rfl | exact ⟨rfl, rfl⟩ | (trace_state; fail))) ?_
   simp only [Zp, Zq, Zr, Zs]
   refine wpList_valD (some 65) rfl rfl (by (go_simp; first | with_reducible rfl | exact ⟨rfl, rfl⟩ | (trace_state; fail))) ?_
   simp only [Zp, Zq, Zr, Zs]
   refine wpList_valD (some 66) rfl rfl (exec_load rfl (by kernel_rfl) (load_act hml hra8)) ?_
   simp only [Zp, Zq, Zr, Zs]
   refine wpList_valD (some 20) rfl rfl (by (skip; go_simp; first | with_reducible rfl | exact ⟨rfl, rfl⟩ | (trace_state; fail))) ?_
   simp only [Zp, Zq, Zr, Zs]
   have hA := Vs.new wr (actL 0 0 0 0 mz0 0) #[.int .u8 0, .int .u8 0, .int .u8 0, .int .u8 0, .int .u8 0, .int .u64 0, .int .u64 0, .int .i64 0, .int .u8 0, .int .u8 0, .int .u8 0, .int .u8 0, .int .u8 0, .int .u8 0, .int .u8 0, .int .u8 0, .int .u8 0, .int .u8 0, .int .u8 0, .int .u8 0, .int .u8 0, .int .u8 0, .int .u8 0, .int .u8 0, .int .i64 0, .slice none 0 0, .int .i64 0] 50 rfl
   have hbA := (Below.refl wr.heap.size wr).alloc (Nat.le_refl _) (.cells #[.int .u8 0, .int .u8 0, .int .u8 0, .int .u8 0, .int .u8 0, .int .u64 0, .int .u64 0, .int .i64 0, .int .u8 0, .int .u8 0, .int .u8 0, .int .u8 0, .int .u8 0, .int .u8 0, .int .u8 0, .int .u8 0, .int .u8 0, .int .u8 0, .int .u8 0, .int .u8 0, .int .u8 0, .int .u8 0, .int .u8 0, .int .u8 0, .int .i64 0, .slice none 0 0, .int .i64 0] 50)
   have hst := hA.storeAct (a := a) (b := b) (c := c) (d := d) (n := n) hml hm1
   refine wpList_valD (some 19) rfl rfl (by (go_simp; first | with_reducible rfl | exact ⟨rfl, rfl⟩ | (trace_state; fail))) ?_
   simp only [Zp, Zq, Zr, Zs]
   refine wpList_skipD rfl rfl (exec_store rfl (by kernel_rfl) (by kernel_rfl) hst.1) ?_
   have hA2 := hst.2
   have hbC := bl_setCells hbA (Nat.le_refl _) 0 (actL a b c d m n)
   have hP2 := hP.call hbC
   have hps : T ≤ wr.heap.size := hP.t
   have hpk : kb < wr.heap.size := hP.k.lt
   clear hst hbA hbC hA hP hra8
   generalize (wr.alloc (.cells #[.int .u8 0, .int .u8 0, .int .u8 0, .int .u8 0, .int .u8 0, .int .u64 0, .int .u64 0, .int .i64 0, .int .u8 0, .int .u8 0, .int .u8 0, .int .u8 0, .int .u8 0, .int .u8 0, .int .u8 0, .int .u8 0, .int .u8 0, .int .u8 0, .int .u8 0, .int .u8 0, .int .u8 0, .int .u8 0, .int .u8 0, .int .u8 0, .int .i64 0, .slice none 0 0, .int .i64 0] 50)).setCells wr.heap.size 0 (actL a b c d m n) = w6 at hA2 hP2 ⊢
   obtain ⟨pb, hpb⟩ : ∃ z, wr.heap.size = z := ⟨_, rfl⟩
   rw [hpb] at hA2 hps hpk
   simp only [hpb]
   clear hpb
   by_cases h60 : 60 < k
   ·have h60i : 60 < (k : Int) := by omega
    repeat (rename Exit → Act → World → Prop => QB; clear_value (hQB : QB = _); subst hQB)
    as_aux_lemma =>
     go_upto_region 58 with fail
     have HDN := Lib.hid (hP2.c.done)
     refine wp_region_lit ?_
     refine wpList_valD (some 212) rfl rfl (by (go_simp; first | with_reducible rfl | exact ⟨rfl, rfl⟩ | (trace_state; fail))) ?_
     simp only [Zp, Zq, Zr, Zs]
     refine wpList_callD (some 213) rfl rfl 13 _ ?_ (HDN.out) ?_
     ·go_simp; try (with_reducible rfl)
     rintro e w20 ⟨rfl, hb20⟩
     refine ⟨_, rfl, ?_⟩
     simp only [Zp, Zq, Zr, Zs]
     have hP20 := hP2.call hb20
     refine wpList_valD (some 211) rfl rfl (by (go_simp; first | with_reducible rfl | exact ⟨rfl, rfl⟩ | (trace_state; fail))) ?_
     simp only [Zp, Zq, Zr, Zs]
     refine wpList_valD (some 214) rfl rfl (by (go_simp; first | with_reducible rfl | exact ⟨rfl, rfl⟩ | (trace_state; fail))) ?_
     simp only [Zp, Zq, Zr, Zs]
     refine wpList_valD (some 215) rfl rfl (by (go_simp; first | with_reducible rfl | exact ⟨rfl, rfl⟩ | (trace_state; fail))) ?_
     simp only [Zp, Zq, Zr, Zs]
     refine wpList_valD (some 32) rfl rfl (by (skip; go_simp; first | with_reducible rfl | exact ⟨rfl, rfl⟩ | (trace_state; fail))) ?_
     simp only [Zp, Zq, Zr, Zs]
     have hEc := Vs.new w20 [.int .i64 0, .int .i64 0] #[.int .i64 0, .int .i64 0] 31 rfl
     have hbA := (Below.refl w20.heap.size w20).alloc (Nat.le_refl _) (.cells #[.int .i64 0, .int .i64 0] 31)
     have hst := store_W (T := 31) hEc (l' := [.int .i64 k0, .int .i64 k1]) rfl size_errs2 (by intro v hv; simp at hv; rcases hv with rfl | rfl <;> rfl)
     refine wpList_valD (some 31) rfl rfl (by (go_simp; first | with_reducible rfl | exact ⟨rfl, rfl⟩ | (trace_state; fail))) ?_
     simp only [Zp, Zq, Zr, Zs]
     refine wpList_skipD rfl rfl (exec_store rfl (by kernel_rfl) (by kernel_rfl) hst) ?_
     have hE2 := hEc.setW (l' := [.int .i64 k0, .int .i64 k1]) rfl
     have hbC := bl_setCells hbA (Nat.le_refl _) 0 [.int .i64 k0, .int .i64 k1]
     have hP21 := hP20.call hbC
     clear hst hbA hbC hEc HDN hb20 hP20
     generalize (w20.alloc (.cells #[.int .i64 0, .int .i64 0] 31)).setCells w20.heap.size 0 [.int .i64 k0, .int .i64 k1] = w21 at hE2 hP21 ⊢
     obtain ⟨xb, hxb⟩ : ∃ z, w20.heap.size = z := ⟨_, rfl⟩
     rw [hxb] at hE2
     simp only [hxb]
     clear hxb
     have HDI := Lib.hid (hP21.c.idn)
     go_upto_region 59 with fail
     refine wp_region_lit ?_
     refine wpList_valD (some 217) rfl rfl (by (go_simp; first | with_reducible rfl | exact ⟨rfl, rfl⟩ | (trace_state; fail))) ?_
     simp only [Zp, Zq, Zr, Zs]
     refine wpList_callD (some 218) rfl rfl 14 _ ?_ (HDI.out) ?_
     ·go_simp; try (with_reducible rfl)
     rintro e w22 ⟨rfl, hb22⟩
     refine ⟨_, rfl, ?_⟩
     simp only [Zp, Zq, Zr, Zs]
     have hP22 := hP21.call hb22
     have hE3 := hE2.call hb22
     refine wpList_valD (some 216) rfl rfl (by (go_simp; first | with_reducible rfl | exact ⟨rfl, rfl⟩ | (trace_state; fail))) ?_
     simp only [Zp, Zq, Zr, Zs]
     refine wpList_valD (some 219) rfl rfl (by (go_simp; first | with_reducible rfl | exact ⟨rfl, rfl⟩ | (trace_state; fail))) ?_
     simp only [Zp, Zq, Zr, Zs]
     refine wpList_valD (some 220) rfl rfl (by (go_simp; first | with_reducible rfl | exact ⟨rfl, rfl⟩ | (trace_state; fail))) ?_
     simp only [Zp, Zq, Zr, Zs]
     refine wpList_valD (some 33) rfl rfl (by (skip; go_simp; first | with_reducible rfl | exact ⟨rfl, rfl⟩ | (trace_state; fail))) ?_
     simp only [Zp, Zq, Zr, Zs]
     have hI9 := Vs.new w22 (cells8 z16) #[.int .u8 0, .int .u8 0, .int .u8 0, .int .u8 0, .int .u8 0, .int .u8 0, .int .u8 0, .int .u8 0, .int .u8 0, .int .u8 0, .int .u8 0, .int .u8 0, .int .u8 0, .int .u8 0, .int .u8 0, .int .u8 0] 34 rfl
     have hbA := (Below.refl w22.heap.size w22).alloc (Nat.le_refl _) (.cells #[.int .u8 0, .int .u8 0, .int .u8 0, .int .u8 0, .int .u8 0, .int .u8 0, .int .u8 0, .int .u8 0, .int .u8 0, .int .u8 0, .int .u8 0, .int .u8 0, .int .u8 0, .int .u8 0, .int .u8 0, .int .u8 0] 34)
     have hst := store_W (T := 34) hI9 (l' := cells8 id) (by rw [cells8_length, cells8_length, HID.out, z16_length]) (by rw [cells8_length, HID.out]; exact size_id) (one8 _)
     refine wpList_skipD rfl rfl (exec_store rfl (by kernel_rfl) (by kernel_rfl) hst) ?_
     refine wpList_valD (some 34) rfl rfl (by (go_simp; first | with_reducible rfl | exact ⟨rfl, rfl⟩ | (trace_state; fail))) ?_
     simp only [Zp, Zq, Zr, Zs]
     have hI8 := hI9.set16 z16_length HID.out
     have hbC := bl_setCells hbA (Nat.le_refl _) 0 (cells8 id)
     have hP23 := hP22.call hbC
     have hE4 := hE3.call hbC
     clear hst hbA hbC hI9 hP22 hE3 hb22 HDI hP21 hE2
     generalize (w22.alloc (.cells #[.int .u8 0, .int .u8 0, .int .u8 0, .int .u8 0, .int .u8 0, .int .u8 0, .int .u8 0, .int .u8 0, .int .u8 0, .int .u8 0, .int .u8 0, .int .u8 0, .int .u8 0, .int .u8 0, .int .u8 0, .int .u8 0] 34)).setCells w22.heap.size 0 (cells8 id) = w23 at hI8 hP23 hE4 ⊢
     obtain ⟨yb, hyb⟩ : ∃ z, w22.heap.size = z := ⟨_, rfl⟩
     rw [hyb] at hI8
     simp only [hyb]
     clear hyb
     have t0 := hP23.d.cell 0 _ rfl
     have t1 := hP23.d.cell 1 _ rfl
     have HLQ : Hid ((Op.equalIn 10000 31 (.agg #[.int .i64 k0, .int .i64 k1]) (.agg #[.int .i64 k0, .int .i64 k1])).run Try.prog w23 = .ok true w23) := Lib.hid (by rw [eqItemsC 9998]; simp)
     have HLI : Hid ((Op.equalIn 10000 34 (.agg (cells8 id).toArray) (.agg (cells8 id).toArray)).run Try.prog w23 = .ok true w23) := Lib.hid (by
      rw [run_equalIn_16 9998 Try.underlying34 HID.out HID.out]
      simp)
     have HB := Lib.hid hP23.b
     cases d0 with
     | true =>
      go_upto_region 60 with fail
      refine wp_region_lit ?_
      refine wpList_valD (some 221) rfl rfl (by (go_simp; first | with_reducible rfl | exact ⟨rfl, rfl⟩ | (trace_state; fail))) ?_
      simp only [Zp, Zq, Zr, Zs]
      refine wpList_valD (some 222) rfl rfl (by (go_simp; first | with_reducible rfl | exact ⟨rfl, rfl⟩ | (trace_state; fail))) ?_
      simp only [Zp, Zq, Zr, Zs]
      refine wpList_valD (some 223) rfl rfl (by (go_simp; first | with_reducible rfl | exact ⟨rfl, rfl⟩ | (trace_state; fail))) ?_
      simp only [Zp, Zq, Zr, Zs]
      refine wpList_valD (some 224) rfl rfl (by (go_simp; first | with_reducible rfl | exact ⟨rfl, rfl⟩ | (trace_state; fail))) ?_
      simp only [Zp, Zq, Zr, Zs]
      refine wpList_valG (some 225) rfl (by kernel_rfl) (by (go_simp; first | with_reducible rfl | exact ⟨rfl, rfl⟩ | (trace_state; fail))) ?_
      simp only [Zp, Zq, Zr, Zs]
      refine wpList_valG (some 226) rfl (by kernel_rfl) (by (go_simp; first | with_reducible rfl | exact ⟨rfl, rfl⟩ | (trace_state; fail))) ?_
      simp only [Zp, Zq, Zr, Zs]
      refine wpList_valD (some 227) rfl rfl (by (go_simp; first | with_reducible rfl | exact ⟨rfl, rfl⟩ | (trace_state; fail))) ?_
      simp only [Zp, Zq, Zr, Zs]
      refine wpList_valD (some 228) rfl rfl (by (go_simp; first | with_reducible rfl | exact ⟨rfl, rfl⟩ | (trace_state; fail))) ?_
      simp only [Zp, Zq, Zr, Zs]
      refine wpList_valD (some 229) rfl rfl (by (go_simp; first | with_reducible rfl | exact ⟨rfl, rfl⟩ | (trace_state; fail))) ?_
      simp only [Zp, Zq, Zr, Zs]
      refine wpList_valG (some 230) rfl (by kernel_rfl) (exec_load rfl (by kernel_rfl) (load_W (T := 31) hE4 Try.underlying31 rfl size_errs2)) ?_
      simp only [Zp, Zq, Zr, Zs]
      refine wpList_valG (some 231) rfl (by kernel_rfl) (exec_load rfl (by kernel_rfl) (load_W (T := 31) hP23.k Try.underlying31 rfl size_errs2)) ?_
      simp only [Zp, Zq, Zr, Zs]
      refine wpList_valG (some 232) rfl (by kernel_rfl) (by (have q := HLQ.out; go_simp; first | with_reducible rfl | exact ⟨rfl, rfl⟩ | (trace_state; fail))) ?_
      simp only [Zp, Zq, Zr, Zs]
      refine wpList_valD (some 233) rfl rfl (by (go_simp; first | with_reducible rfl | exact ⟨rfl, rfl⟩ | (trace_state; fail))) ?_
      simp only [Zp, Zq, Zr, Zs]
      refine wpList_valD (some 234) rfl rfl (by (go_simp; first | with_reducible rfl | exact ⟨rfl, rfl⟩ | (trace_state; fail))) ?_
      simp only [Zp, Zq, Zr, Zs]
      refine wpList_valG (some 235) rfl (by kernel_rfl) (exec_load rfl (by kernel_rfl) (hI8.loadId HID.out)) ?_
      simp only [Zp, Zq, Zr, Zs]
      refine wpList_valG (some 236) rfl (by kernel_rfl) (exec_load rfl (by kernel_rfl) (hP23.i.loadId HID.out)) ?_
      simp only [Zp, Zq, Zr, Zs]
      refine wpList_valG (some 237) rfl (by kernel_rfl) (by (have q := HLI.out; go_simp; first | with_reducible rfl | exact ⟨rfl, rfl⟩ | (trace_state; fail))) ?_
      simp only [Zp, Zq, Zr, Zs]
      refine wpList_valD (some 238) rfl rfl (by (go_simp; first | with_reducible rfl | exact ⟨rfl, rfl⟩ | (trace_state; fail))) ?_
      simp only [Zp, Zq, Zr, Zs]
      refine wpList_valD (some 239) rfl rfl (by (go_simp; first | with_reducible rfl | exact ⟨rfl, rfl⟩ | (trace_state; fail))) ?_
      simp only [Zp, Zq, Zr, Zs]
      refine wpList_valG (some 240) rfl (by kernel_rfl) (by (go_simp; first | with_reducible rfl | exact ⟨rfl, rfl⟩ | (trace_state; fail))) ?_
      simp only [Zp, Zq, Zr, Zs]
      refine wpList_valG (some 241) rfl (by kernel_rfl) (by (go_simp; first | with_reducible rfl | exact ⟨rfl, rfl⟩ | (trace_state; fail))) ?_
      simp only [Zp, Zq, Zr, Zs]
      refine wpList_valG (some 242) rfl (by kernel_rfl) (by (go_simp; first | with_reducible rfl | exact ⟨rfl, rfl⟩ | (trace_state; fail))) ?_
      simp only [Zp, Zq, Zr, Zs]
      refine wpList_valD (some 243) rfl rfl (by (go_simp; first | with_reducible rfl | exact ⟨rfl, rfl⟩ | (trace_state; fail))) ?_
      simp only [Zp, Zq, Zr, Zs]
      refine wpList_valD (some 10) rfl rfl (by (go_simp; first | with_reducible rfl | exact ⟨rfl, rfl⟩ | (trace_state; fail))) ?_
      simp only [Zp, Zq, Zr, Zs]
      go_wp2_with fail
      go_ret
      exact ⟨by simp, HB.out⟩
     | false =>
      go_upto_region 60 with fail
      refine wp_region_lit ?_
      refine wpList_valD (some 221) rfl rfl (by (go_simp; first | with_reducible rfl | exact ⟨rfl, rfl⟩ | (trace_state; fail))) ?_
      simp only [Zp, Zq, Zr, Zs]
      refine wpList_valD (some 222) rfl rfl (by (go_simp; first | with_reducible rfl | exact ⟨rfl, rfl⟩ | (trace_state; fail))) ?_
      simp only [Zp, Zq, Zr, Zs]
      refine wpList_valD (some 223) rfl rfl (by (go_simp; first | with_reducible rfl | exact ⟨rfl, rfl⟩ | (trace_state; fail))) ?_
      simp only [Zp, Zq, Zr, Zs]
      refine wpList_valD (some 224) rfl rfl (by (go_simp; first | with_reducible rfl | exact ⟨rfl, rfl⟩ | (trace_state; fail))) ?_
      simp only [Zp, Zq, Zr, Zs]
      refine wpList_passG (some 225) rfl (by kernel_rfl) ?_
      simp only [Zp, Zq, Zr, Zs]
      refine wpList_passG (some 226) rfl (by kernel_rfl) ?_
      simp only [Zp, Zq, Zr, Zs]
      refine wpList_valD (some 227) rfl rfl (by (go_simp; first | with_reducible rfl | exact ⟨rfl, rfl⟩ | (trace_state; fail))) ?_
      simp only [Zp, Zq, Zr, Zs]
      refine wpList_valD (some 228) rfl rfl (by (go_simp; first | with_reducible rfl | exact ⟨rfl, rfl⟩ | (trace_state; fail))) ?_
      simp only [Zp, Zq, Zr, Zs]
      refine wpList_valD (some 229) rfl rfl (by (go_simp; first | with_reducible rfl | exact ⟨rfl, rfl⟩ | (trace_state; fail))) ?_
      simp only [Zp, Zq, Zr, Zs]
      refine wpList_valG (some 230) rfl (by kernel_rfl) (exec_load rfl (by kernel_rfl) (load_W (T := 31) hE4 Try.underlying31 rfl size_errs2)) ?_
      simp only [Zp, Zq, Zr, Zs]
      refine wpList_valG (some 231) rfl (by kernel_rfl) (exec_load rfl (by kernel_rfl) (load_W (T := 31) hP23.k Try.underlying31 rfl size_errs2)) ?_
      simp only [Zp, Zq, Zr, Zs]
      refine wpList_valG (some 232) rfl (by kernel_rfl) (by (have q := HLQ.out; go_simp; first | with_reducible rfl | exact ⟨rfl, rfl⟩ | (trace_state; fail))) ?_
      simp only [Zp, Zq, Zr, Zs]
      refine wpList_valD (some 233) rfl rfl (by (go_simp; first | with_reducible rfl | exact ⟨rfl, rfl⟩ | (trace_state; fail))) ?_
      simp only [Zp, Zq, Zr, Zs]
      refine wpList_valD (some 234) rfl rfl (by (go_simp; first | with_reducible rfl | exact ⟨rfl, rfl⟩ | (trace_state; fail))) ?_
      simp only [Zp, Zq, Zr, Zs]
      refine wpList_valG (some 235) rfl (by kernel_rfl) (exec_load rfl (by kernel_rfl) (hI8.loadId HID.out)) ?_
      simp only [Zp, Zq, Zr, Zs]
      refine wpList_valG (some 236) rfl (by kernel_rfl) (exec_load rfl (by kernel_rfl) (hP23.i.loadId HID.out)) ?_
      simp only [Zp, Zq, Zr, Zs]
      refine wpList_valG (some 237) rfl (by kernel_rfl) (by (have q := HLI.out; go_simp; first | with_reducible rfl | exact ⟨rfl, rfl⟩ | (trace_state; fail))) ?_
      simp only [Zp, Zq, Zr, Zs]
      refine wpList_valD (some 238) rfl rfl (by (go_simp; first | with_reducible rfl | exact ⟨rfl, rfl⟩ | (trace_state; fail))) ?_
      simp only [Zp, Zq, Zr, Zs]
      refine wpList_valD (some 239) rfl rfl (by (go_simp; first | with_reducible rfl | exact ⟨rfl, rfl⟩ | (trace_state; fail))) ?_
      simp only [Zp, Zq, Zr, Zs]
      refine wpList_valG (some 240) rfl (by kernel_rfl) (by (go_simp; first | with_reducible rfl | exact ⟨rfl, rfl⟩ | (trace_state; fail))) ?_
      simp only [Zp, Zq, Zr, Zs]
      refine wpList_valG (some 241) rfl (by kernel_rfl) (by (go_simp; first | with_reducible rfl | exact ⟨rfl, rfl⟩ | (trace_state; fail))) ?_
      simp only [Zp, Zq, Zr, Zs]
      refine wpList_valG (some 242) rfl (by kernel_rfl) (by (go_simp; first | with_reducible rfl | exact ⟨rfl, rfl⟩ | (trace_state; fail))) ?_
      simp only [Zp, Zq, Zr, Zs]
      refine wpList_valD (some 243) rfl rfl (by (go_simp; first | with_reducible rfl | exact ⟨rfl, rfl⟩ | (trace_state; fail))) ?_
      simp only [Zp, Zq, Zr, Zs]
      refine wpList_valD (some 10) rfl rfl (by (go_simp; first | with_reducible rfl | exact ⟨rfl, rfl⟩ | (trace_state; fail))) ?_
      simp only [Zp, Zq, Zr, Zs]
      go_wp2_with fail
      go_ret
      exact ⟨by simp, HB.out⟩
   ·have h60i : (k : Int) ≤ 60 := by omega
    obtain ⟨ha0, ha1⟩ := ha
    obtain ⟨hb0, hb1⟩ := hb
    obtain ⟨hc0, hc1⟩ := hc
    obtain ⟨hd0, hd1⟩ := hd
    by_cases ha4 : a % 9 < 4
    ·skip
     repeat (rename Exit → Act → World → Prop => QB; clear_value (hQB : QB = _); subst hQB)
     as_aux_lemma =>
      have hwd : IntKind.u64.wrap (d % 5) = d % 5 := IntWalk.u64_in _ (by omega)
      obtain ⟨nw, hnwe⟩ : ∃ z, now + d % 5 = z := ⟨_, rfl⟩
      have hnw0 : 0 ≤ nw ∧ nw ≤ 4 * (k + 1) := by omega
      have hwn : IntKind.u64.wrap (now + d % 5) = nw := by rw [hnwe]; exact IntWalk.u64_in _ (by omega)
      obtain ⟨a0, a1, a2, a3, a4, a5⟩ := hA2.act hml
      clear hnwe
      by_cases hdue : nw < due
      ·have hdn : ¬ due ≤ nw := by omega
       have HTI := Lib.hid (hP2.c.tickNo hdue)
       have HP2 := Lib.hid hP2
       clear hP2
       go_upto_region 29 with (go_at_call 16; refine HTI.out.mono ?_; rintro e w7 ⟨rfl, hb7⟩)
       have HP7 := Lib.hid (HP2.out.call hb7)
       clear HP2 HTI hb7 a0 a1 a2 a3 a4 a5
       go_loopw [104] (fun i wr => i = .int .i64 0 ∧ wr = w7) (fun i _ => 0)
       case atStart => exact ⟨rfl, rfl⟩
       case round =>
        obtain ⟨rfl, rfl⟩ := hrel
        go_wp2_with fail
        go_roundw
        case rel => exact ⟨k + 1, nw, due, wait, tries, d0, d1, k0, k1, by omega, by omega, by go_num, rfl, rfl, rfl, rfl, ⟨by omega, by omega⟩, hwait, ⟨by omega, by omega⟩, HP7.out⟩
        case measure => simp [intOf]; omega
      ·repeat (rename Exit → Act → World → Prop => QB; clear_value (hQB : QB = _); subst hQB)
       as_aux_lemma =>
       have hdn : due ≤ nw := by omega
       have hTI := hP2.c.tick hP2.t hdn ⟨hnw0.1, by omega⟩ hwait ⟨htries.1, by omega⟩
       obtain ⟨du, hdu⟩ : ∃ z, (if (d0 && d1) = true then due else nw + wait) = z := ⟨_, rfl⟩
       obtain ⟨wa, hwa⟩ : ∃ z, (if (d0 && d1) = true then wait else min (2 * wait) 16) = z := ⟨_, rfl⟩
       obtain ⟨tr, htr⟩ : ∃ z, (if (d0 && d1) = true then tries else tries + 1) = z := ⟨_, rfl⟩
       rw [hdu, hwa, htr] at hTI
       have HDU := Lib.hid hdu
       have HWA := Lib.hid hwa
       have HTR := Lib.hid htr
       have HTI := Lib.hid hTI
       clear hTI hdu hwa htr
       go_upto_region 17 with fail
       refine wp_region_lit ?_
       refine wpList_valD (some 79) rfl rfl (by (go_simp; first | with_reducible rfl | exact ⟨rfl, rfl⟩ | (trace_state; fail))) ?_
       simp only [Zp, Zq, Zr, Zs]
       refine wpList_valD (some 80) rfl rfl (by (go_simp; first | with_reducible rfl | exact ⟨rfl, rfl⟩ | (trace_state; fail))) ?_
       simp only [Zp, Zq, Zr, Zs]
       refine wpList_callD (some 81) rfl rfl 16 _ ?_ (HTI.out) ?_
       ·go_simp; try (with_reducible rfl)
       rintro e w7 ⟨v, ps, rfl, hL, hK7, hx7⟩
       refine ⟨_, rfl, ?_⟩
       simp only [Zp, Zq, Zr, Zs]
       obtain ⟨Al, cl, rfl⟩ := own_shape hL.row
       refine wpList_valD (some 21) rfl rfl (by (go_simp; first | with_reducible rfl | exact ⟨rfl, rfl⟩ | (trace_state; fail))) ?_
       simp only [Zp, Zq, Zr, Zs]
       have HP7 : Hid (CpK T cb T kb w.heap.size w w7 id n0 n1 n2 zs0 zs1 zs2 d0 d1 k0 k1 du wa tr) := Lib.hid (by
        obtain ⟨p1, p2, p3, p4, p5, p6⟩ := hP2.turn hx7 hK7
        exact ⟨p1, p2, p3, p4, p5, p6, hP2.lt⟩)
       have HL7 := Lib.hid hL
       clear hL hK7 hx7 HTI hP2 hA2 a0 a1 a2 a3 a4 a5
       go_upto_region 21 with fail
       go_loopw [22, 85] (fun v22 i wr => ∃ q : Nat, q ≤ 2 ∧ i = .int .i64 q ∧ wr.ownsRow w7.heap.size 3 1 v22 (wtK d0 d1 q).length (cellsN (wtK d0 d1 q)) ∧ Below w7.heap.size w7 wr) (fun _ i _ => 2 - (intOf i).toNat)
       case atStart => exact ⟨0, by omega, rfl, World.ownsRow_nil _ _ _ _, Below.refl _ _⟩
       case round =>
        obtain ⟨q, hq, rfl, hown, hbq⟩ := hrel
        obtain ⟨Aw, cw, rfl⟩ := own_shape hown
        have hPr := HP7.out.call hbq
        have hq0 := hPr.d.cell 0 _ rfl
        have hq1 := hPr.d.cell 1 _ rfl
        have hql := hPr.d.lt
        by_cases hlq : q < 2
        ·by_cases hq00 : q < 1
         ·obtain rfl : q = 0 := by omega
          clear hlq hq00 hq
          rw [show ((0 : Nat) : Int) = 0 from rfl]
          cases d0 with
          | true =>
           have HO := Lib.hid hown
           have HB := Lib.hid hbq
           clear hown hbq hPr
           go_wp2_with fail
           go_roundw
           case rel => exact ⟨1, by omega, by go_num, HO.out, HB.out⟩
           case measure => simp [intOf]
          | false =>
           go_upto_region 24 with fail
           clear hq0 hq1 hql hPr
           refine wp_region_lit ?_
           refine wpList_valD (some 92) rfl rfl (by (go_simp; first | with_reducible rfl | exact ⟨rfl, rfl⟩ | (trace_state; fail))) ?_
           simp only [Zp, Zq, Zr, Zs]
           refine wpList_valD (some 93) rfl rfl (by (go_simp; first | with_reducible rfl | exact ⟨rfl, rfl⟩ | (trace_state; fail))) ?_
           simp only [Zp, Zq, Zr, Zs]
           refine wpList_valD (some 94) rfl rfl (by (skip; go_simp; first | with_reducible rfl | exact ⟨rfl, rfl⟩ | (trace_state; fail))) ?_
           simp only [Zp, Zq, Zr, Zs]
           have hN := Vs.new wr [.int .i64 0] #[.int .i64 0] 3 rfl
           have hbA := (Below.refl wr.heap.size wr).alloc (Nat.le_refl _) (.cells #[.int .i64 0] 3)
           have hown2 := own_call hown hbA
           have hbq2 := hbq.trans (hbA.mono hbq.size)
           have hbase := hbq2.size
           clear hown hbq hbA
           generalize wr.alloc (.cells #[.int .i64 0] 3) = w8 at hN hown2 hbq2 hbase ⊢
           obtain ⟨nb, hnb⟩ : ∃ z, wr.heap.size = z := ⟨_, rfl⟩
           rw [hnb] at hN
           simp only [hnb]
           clear hnb
           refine wpList_append_N rfl (.tmp 92) (.tmp 94) rfl w7.heap.size (.slice Aw (wtK false d1 0).length cw) (wtK false d1 0).length (wtK false d1 0) (by kernel_rfl) hown2 nb 0 (by kernel_rfl) hN (by have := wtK_le false d1 0; omega) hbase ?_
           intro v9 w9 hown9 hg9 hat9
           have hb9 := hbq2.grown hg9 hbase (fun q hq => (World.ownsRow.lt hown2 q hq).1)
           obtain ⟨gg, cgg, hv9⟩ := own_slice hown9
           subst hv9
           have HO9 := Lib.hid hown9
           have HB9 := Lib.hid hb9
           clear hown9 hb9 hg9 hat9 hown2 hbq2 hbase hN
           go_wp2_with fail
           go_roundw
           case rel => exact ⟨1, by omega, by go_num, by (exact HO9.out), HB9.out⟩
           case measure => simp [intOf]
         ·obtain rfl : q = 1 := by omega
          clear hlq hq00 hq
          rw [show ((1 : Nat) : Int) = 1 from rfl]
          cases d1 with
          | true =>
           have HO := Lib.hid hown
           have HB := Lib.hid hbq
           clear hown hbq hPr
           go_wp2_with fail
           go_roundw
           case rel => exact ⟨2, by omega, by go_num, by (have h := HO.out; cases d0 <;> exact h), HB.out⟩
           case measure => simp [intOf]
          | false =>
           go_upto_region 24 with fail
           clear hq0 hq1 hql hPr
           refine wp_region_lit ?_
           refine wpList_valD (some 92) rfl rfl (by (go_simp; first | with_reducible rfl | exact ⟨rfl, rfl⟩ | (trace_state; fail))) ?_
           simp only [Zp, Zq, Zr, Zs]
           refine wpList_valD (some 93) rfl rfl (by (go_simp; first | with_reducible rfl | exact ⟨rfl, rfl⟩ | (trace_state; fail))) ?_
           simp only [Zp, Zq, Zr, Zs]
           refine wpList_valD (some 94) rfl rfl (by (skip; go_simp; first | with_reducible rfl | exact ⟨rfl, rfl⟩ | (trace_state; fail))) ?_
           simp only [Zp, Zq, Zr, Zs]
           have hN := Vs.new wr [.int .i64 1] #[.int .i64 1] 3 rfl
           have hbA := (Below.refl wr.heap.size wr).alloc (Nat.le_refl _) (.cells #[.int .i64 1] 3)
           have hown2 := own_call hown hbA
           have hbq2 := hbq.trans (hbA.mono hbq.size)
           have hbase := hbq2.size
           clear hown hbq hbA
           generalize wr.alloc (.cells #[.int .i64 1] 3) = w8 at hN hown2 hbq2 hbase ⊢
           obtain ⟨nb, hnb⟩ : ∃ z, wr.heap.size = z := ⟨_, rfl⟩
           rw [hnb] at hN
           simp only [hnb]
           clear hnb
           refine wpList_append_N rfl (.tmp 92) (.tmp 94) rfl w7.heap.size (.slice Aw (wtK d0 false 1).length cw) (wtK d0 false 1).length (wtK d0 false 1) (by kernel_rfl) hown2 nb 1 (by kernel_rfl) hN (by have := wtK_le d0 false 1; omega) hbase ?_
           intro v9 w9 hown9 hg9 hat9
           have hb9 := hbq2.grown hg9 hbase (fun q hq => (World.ownsRow.lt hown2 q hq).1)
           obtain ⟨gg, cgg, hv9⟩ := own_slice hown9
           subst hv9
           have HO9 := Lib.hid hown9
           have HB9 := Lib.hid hb9
           clear hown9 hb9 hg9 hat9 hown2 hbq2 hbase hN
           go_wp2_with fail
           go_roundw
           case rel => exact ⟨2, by omega, by go_num, by (have h := HO9.out; cases d0 <;> exact h), HB9.out⟩
           case measure => simp [intOf]
        ·obtain rfl : q = 2 := by omega
         clear hlq hq hq0 hq1 hql
         obtain ⟨w8, hw8⟩ : ∃ z : World, z = wr := ⟨wr, rfl⟩
         subst hw8
         have hLW := wt_it d0 d1 zs1 zs2 n1 n2
         obtain ⟨L, hL9⟩ : ∃ z, (wtK d0 d1 2).length = z := ⟨_, rfl⟩
         have hL2 : L ≤ 2 := by rw [← hL9]; exact wtK_le d0 d1 2
         rw [hLW.1, hL9]
         have HLL : Hid (LtS w6.heap.size w8 (.slice Al L cl) id 7 zs0 n0 (itK d0 d1 zs1 zs2 n1 n2 2) ps ∧ (itK d0 d1 zs1 zs2 n1 n2 2).length = L) := Lib.hid (by
          have h := HL7.out.call hbq
          rw [hLW.1, hL9] at h
          exact ⟨h, hLW.1.trans hL9⟩)
         rw [hL9] at hown
         have HLW := Lib.hid hLW.2
         have HL9 := Lib.hid hL9
         have HOW := Lib.hid hown
         have HP8 := Lib.hid hPr
         clear hLW hL9 hown hPr hbq HL7 HP7
         go_upto_region 29 with fail
         go_loopw [104] (fun i wx => ∃ j : Nat, j ≤ L ∧ i = .int .i64 j ∧ Below w8.heap.size w8 wx) (fun i _ => L - (intOf i).toNat)
         case atStart => exact ⟨0, Nat.zero_le _, rfl, Below.refl _ _⟩
         case round =>
          obtain ⟨j, hj, rfl, hbx⟩ := hrel
          by_cases hlj : j < L
          ·obtain ⟨it, hit⟩ : ∃ it, (itK d0 d1 zs1 zs2 n1 n2 2)[j]? = some it := ⟨_, List.getElem?_eq_getElem (by rw [HLL.out.2]; exact hlj)⟩
           obtain ⟨p, hp⟩ : ∃ p, ps[j]? = some p := ⟨_, List.getElem?_eq_getElem (by rw [HLL.out.1.len, HLL.out.2]; exact hlj)⟩
           obtain ⟨hwj, hor⟩ := HLW.out j it hit
           have hLx := HLL.out.1.call hbx
           obtain ⟨gl, c9, hgl⟩ := own_sl9 hLx.row (by rw [HLL.out.2]; omega)
           injection hgl with e1 e2 e3
           subst e1
           obtain ⟨gw, c8, hgw⟩ := own_sl9 HOW.out (by omega)
           injection hgw with e4 e5 e6
           subst e4
           have hwc := cell_call (own_cellN HOW.out j it.1 hwj) hbx
           have hgw := lt_of_cell hwc
           dsimp only at hgw
           obtain ⟨_, hE, _, _⟩ := hLx.each j it p hit hp
           obtain ⟨B2, B3, d2, d3, g, cg, hu, _, hEn, hO2, hO3, _, _⟩ := hE
           have hra := (hLx.at' HLL.out.2 hit hp).1
           have hgl2 := (hLx.at' HLL.out.2 hit hp).2.1
           rw [hu] at hra
           have hji : (j : Int) < (L : Int) := by omega
           have hwj2 : IntKind.i64.wrap ((j : Int) + 1) = (j : Int) + 1 := IntWalk.i64_in _ (by omega)
           clear hLx hu hwj hp hit e2 e3 e5 e6
           go_upto_region 30 with fail
           refine wp_region_lit ?_
           refine wpList_valD (some 106) rfl rfl (by (go_simp; first | with_reducible rfl | exact ⟨rfl, rfl⟩ | (trace_state; fail))) ?_
           simp only [Zp, Zq, Zr, Zs]
           refine wpList_valD (some 107) rfl rfl (by (go_simp; first | with_reducible rfl | exact ⟨rfl, rfl⟩ | (trace_state; fail))) ?_
           simp only [Zp, Zq, Zr, Zs]
           refine wpList_valD (some 108) rfl rfl (exec_load rfl (by kernel_rfl) (load_letter hra)) ?_
           simp only [Zp, Zq, Zr, Zs]
           refine wpList_valD (some 25) rfl rfl (by (skip; go_simp; first | with_reducible rfl | exact ⟨rfl, rfl⟩ | (trace_state; fail))) ?_
           simp only [Zp, Zq, Zr, Zs]
           have hN := Vs.new wr (ltL 0 (msgL 0 0 0 0 z16 0 (.slice none 0 0))) #[.int .i64 0, .int .u8 0, .int .u64 0, .int .u64 0, .int .i64 0, .int .u8 0, .int .u8 0, .int .u8 0, .int .u8 0, .int .u8 0, .int .u8 0, .int .u8 0, .int .u8 0, .int .u8 0, .int .u8 0, .int .u8 0, .int .u8 0, .int .u8 0, .int .u8 0, .int .u8 0, .int .u8 0, .int .i64 0, .slice none 0 0] 42 rfl
           have hbA := (Below.refl wr.heap.size wr).alloc (Nat.le_refl _) (.cells #[.int .i64 0, .int .u8 0, .int .u64 0, .int .u64 0, .int .i64 0, .int .u8 0, .int .u8 0, .int .u8 0, .int .u8 0, .int .u8 0, .int .u8 0, .int .u8 0, .int .u8 0, .int .u8 0, .int .u8 0, .int .u8 0, .int .u8 0, .int .u8 0, .int .u8 0, .int .u8 0, .int .u8 0, .int .i64 0, .slice none 0 0] 42)
           have hst := hN.storeL (tq := it.1) (es := .slice (some ⟨g, 0, none⟩) 1 cg) rfl
           refine wpList_valD (some 24) rfl rfl (by (go_simp; first | with_reducible rfl | exact ⟨rfl, rfl⟩ | (trace_state; fail))) ?_
           simp only [Zp, Zq, Zr, Zs]
           refine wpList_skipD rfl rfl (exec_store rfl (by kernel_rfl) (by kernel_rfl) hst.1) ?_
           have hN2 := hst.2
           have hbC := bl_setCells hbA (Nat.le_refl _) 0 (ltL it.1 (msgL 1 0 0 0 z16 0 (.slice (some ⟨g, 0, none⟩) 1 cg)))
           replace hEn := hEn.call hbC
           replace hO2 := own_call hO2 hbC
           replace hO3 := own_call hO3 hbC
           replace hwc := cell_call hwc hbC
           replace hgw := Nat.lt_of_lt_of_le hgw hbC.size
           replace hbx := bl_call hbx (Nat.le_refl _) hbC
           clear hst hbA hbC hN hra
           generalize (wr.alloc (.cells #[.int .i64 0, .int .u8 0, .int .u64 0, .int .u64 0, .int .i64 0, .int .u8 0, .int .u8 0, .int .u8 0, .int .u8 0, .int .u8 0, .int .u8 0, .int .u8 0, .int .u8 0, .int .u8 0, .int .u8 0, .int .u8 0, .int .u8 0, .int .u8 0, .int .u8 0, .int .u8 0, .int .u8 0, .int .i64 0, .slice none 0 0] 42)).setCells wr.heap.size 0 (ltL it.1 (msgL 1 0 0 0 z16 0 (.slice (some ⟨g, 0, none⟩) 1 cg))) = w9 at hN2 hEn hO2 hO3 hwc hgw hbx ⊢
           obtain ⟨lb, hlb⟩ : ∃ z, wr.heap.size = z := ⟨_, rfl⟩
           rw [hlb] at hN2
           simp only [hlb]
           clear hlb
           rcases hor with rfl | rfl
           ·dsimp only at hN2 hEn hO2 hO3 hwc
            repeat (rename Exit → Act → World → Prop => QB; clear_value (hQB : QB = _); subst hQB)
            as_aux_lemma =>
             obtain ⟨l0, l1, l2⟩ := hN2.letEs
             go_upto_region 34 with fail
             clear l0 l1 l2
             have hPx := HP8.out.call hbx
             refine wp_region_lit ?_
             refine wpList_valD (some 114) rfl rfl (exec_load rfl (by kernel_rfl) (hPx.i.loadId HID.out)) ?_
             simp only [Zp, Zq, Zr, Zs]
             refine wpList_valD (some 115) rfl rfl (by (go_simp; first | with_reducible rfl | exact ⟨rfl, rfl⟩ | (trace_state; fail))) ?_
             simp only [Zp, Zq, Zr, Zs]
             refine wpList_valD (some 116) rfl rfl (by (go_simp; first | with_reducible rfl | exact ⟨rfl, rfl⟩ | (trace_state; fail))) ?_
             simp only [Zp, Zq, Zr, Zs]
             refine wpList_valD (some 117) rfl rfl (exec_build rfl (by kernel_rfl) (build_ent HID.out 7 A0 A1 n0 c0 n1 c1 w9)) ?_
             simp only [Zp, Zq, Zr, Zs]
             refine wpList_valD (some 118) rfl rfl (exec_buildSlice rfl (by kernel_rfl) (build_entry HID.out 7 0 A0 A1 n0 c0 n1 c1 w9)) ?_
             simp only [Zp, Zq, Zr, Zs]
             have hEb := Vs.new w9 (entL id 7 (.slice A0 n0 c0) (.slice A1 n1 c1) 0) _ 44 rfl
             have hbA := (Below.refl w9.heap.size w9).alloc (Nat.le_refl _) (.cells (entL id 7 (.slice A0 n0 c0) (.slice A1 n1 c1) 0).toArray 44)
             replace hN2 := hN2.call hbA
             replace hEn := hEn.call hbA
             replace hO2 := own_call hO2 hbA
             replace hO3 := own_call hO3 hbA
             replace hwc := cell_call hwc hbA
             replace hgw := Nat.lt_of_lt_of_le hgw hbA.size
             replace hbx := bl_call hbx (Nat.le_refl _) hbA
             clear hbA hPx
             generalize w9.alloc (.cells (entL id 7 (.slice A0 n0 c0) (.slice A1 n1 c1) 0).toArray 44) = w10 at hEb hN2 hEn hO2 hO3 hwc hgw hbx ⊢
             obtain ⟨eb, heb⟩ : ∃ z, w9.heap.size = z := ⟨_, rfl⟩
             rw [heb] at hEb
             simp only [heb]
             clear heb
             refine wpList_valD (some 119) rfl rfl (exec_build rfl (by kernel_rfl) (build_msg1 eb w10)) ?_
             simp only [Zp, Zq, Zr, Zs]
             refine wpList_valD (some 27) rfl rfl (by (skip; go_simp; first | with_reducible rfl | exact ⟨rfl, rfl⟩ | (trace_state; fail))) ?_
             simp only [Zp, Zq, Zr, Zs]
             have hM7 := Vs.new w10 (msgL 0 0 0 0 z16 0 (.slice none 0 0)) #[.int .u8 0, .int .u64 0, .int .u64 0, .int .i64 0, .int .u8 0, .int .u8 0, .int .u8 0, .int .u8 0, .int .u8 0, .int .u8 0, .int .u8 0, .int .u8 0, .int .u8 0, .int .u8 0, .int .u8 0, .int .u8 0, .int .u8 0, .int .u8 0, .int .u8 0, .int .u8 0, .int .i64 0, .slice none 0 0] 27 rfl
             have hbA := (Below.refl w10.heap.size w10).alloc (Nat.le_refl _) (.cells #[.int .u8 0, .int .u64 0, .int .u64 0, .int .i64 0, .int .u8 0, .int .u8 0, .int .u8 0, .int .u8 0, .int .u8 0, .int .u8 0, .int .u8 0, .int .u8 0, .int .u8 0, .int .u8 0, .int .u8 0, .int .u8 0, .int .u8 0, .int .u8 0, .int .u8 0, .int .u8 0, .int .i64 0, .slice none 0 0] 27)
             have hst := hM7.storeM (kind := 1) (job := 0) (start := 0) (many := 0) (sum := z16) (code := 0) (es := .slice (some ⟨eb, 0, none⟩) 1 1) z16_length z16_length rfl
             refine wpList_skipD rfl rfl (exec_store rfl (by kernel_rfl) (by kernel_rfl) hst) ?_
             have hMg := hM7.setMsg (kind := 1) (job := 0) (start := 0) (many := 0) (sum := z16) (code := 0) (es := .slice (some ⟨eb, 0, none⟩) 1 1) z16_length z16_length
             have hbC := bl_setCells hbA (Nat.le_refl _) 0 (msgL 1 0 0 0 z16 0 (.slice (some ⟨eb, 0, none⟩) 1 1))
             replace hEb := hEb.call hbC
             replace hN2 := hN2.call hbC
             replace hEn := hEn.call hbC
             replace hO2 := own_call hO2 hbC
             replace hO3 := own_call hO3 hbC
             replace hwc := cell_call hwc hbC
             replace hgw := Nat.lt_of_lt_of_le hgw hbC.size
             replace hbx := bl_call hbx (Nat.le_refl _) hbC
             clear hst hbA hbC hM7
             generalize (w10.alloc (.cells #[.int .u8 0, .int .u64 0, .int .u64 0, .int .i64 0, .int .u8 0, .int .u8 0, .int .u8 0, .int .u8 0, .int .u8 0, .int .u8 0, .int .u8 0, .int .u8 0, .int .u8 0, .int .u8 0, .int .u8 0, .int .u8 0, .int .u8 0, .int .u8 0, .int .u8 0, .int .u8 0, .int .i64 0, .slice none 0 0] 27)).setCells w10.heap.size 0 (msgL 1 0 0 0 z16 0 (.slice (some ⟨eb, 0, none⟩) 1 1)) = w11 at hMg hEb hN2 hEn hO2 hO3 hwc hgw hbx ⊢
             obtain ⟨mb, hmb⟩ : ∃ z, w10.heap.size = z := ⟨_, rfl⟩
             rw [hmb] at hMg
             simp only [hmb]
             clear hmb
             have hbw := HP8.out.b.trans (hbx.mono HP8.out.b.size)
             have R0 := own_rdB hO2 (by omega)
             have R1 := own_rdB hO3 (by omega)
             have R2 := HR0.out.call hbw
             have R3 := (HR1).out.call hbw
             obtain ⟨l0, l1, l2⟩ := hN2.letEs
             have LL := Lib.hid fun wz (h : Below w11.heap.size w11 wz) => (hN2.call h).loadLm
             have LM := Lib.hid fun wz (h : Below w11.heap.size w11 wz) => (hMg.call h).loadM z16_length
             have LS := Lib.hid fun wz (h : Below w11.heap.size w11 wz) => msg_Same1 id HID.out 7 B2 B3 A0 A1 n0 d2 n1 d3 c0 c1 g eb cg 1 zs0 zs1 wz (R0.call h) (R1.call h) (R2.call h) (R3.call h) (hEn.call h) (hEb.call h)
             clear hN2 hMg hEb hEn hO2 hO3 R0 R1 R2 R3 hbw l1
             go_upto_region 35 with fail
             refine region_G (n := 13) (m := 14) (f := 13) (by kernel_rfl) (by kernel_rfl) rfl ?_
             refine WpG.vD 0 (some 120) ?_ rfl rfl (by kernel_rfl) (fun _ _ _ h => h) rfl (fun wz hwz => ?_) ?_
             rotate_left
             ·go_simp; try (with_reducible rfl)
             simp only [Zp, Zq, Zr, Zs]
             refine WpG.vD 1 (some 121) ?_ rfl rfl (by kernel_rfl) (fun _ _ _ h => h) rfl (fun wz hwz => ?_) ?_
             rotate_left
             ·(obtain ⟨hcz, hfz⟩ := bcell (hwz); go_simp; try (with_reducible rfl))
             simp only [Zp, Zq, Zr, Zs]
             refine WpG.vD 2 (some 122) ?_ rfl rfl (by kernel_rfl) (fun _ _ _ h => h) rfl (fun wz hwz => ?_) ?_
             rotate_left
             ·go_simp; try (with_reducible rfl)
             simp only [Zp, Zq, Zr, Zs]
             refine WpG.vD 3 (some 123) ?_ rfl rfl (by kernel_rfl) (fun _ _ _ h => h) rfl (fun wz hwz => ?_) ?_
             rotate_left
             ·go_simp; try (with_reducible rfl)
             simp only [Zp, Zq, Zr, Zs]
             refine WpG.vD 4 (some 124) ?_ rfl rfl (by kernel_rfl) (fun _ _ _ h => h) rfl (fun wz hwz => ?_) ?_
             rotate_left
             ·go_simp; try (with_reducible rfl)
             simp only [Zp, Zq, Zr, Zs]
             refine WpG.vD 5 (some 125) ?_ rfl rfl (by kernel_rfl) (fun _ _ _ h => h) rfl (fun wz hwz => ?_) ?_
             rotate_left
             ·(obtain ⟨hcz, hfz⟩ := bcell (hwz); go_simp; try (with_reducible rfl))
             simp only [Zp, Zq, Zr, Zs]
             refine WpG.vD 6 (some 126) ?_ rfl rfl (by kernel_rfl) (fun _ _ _ h => h) rfl (fun wz hwz => ?_) ?_
             rotate_left
             ·go_simp; try (with_reducible rfl)
             simp only [Zp, Zq, Zr, Zs]
             refine WpG.vD 7 (some 127) ?_ rfl rfl (by kernel_rfl) (fun _ _ _ h => h) rfl (fun wz hwz => ?_) ?_
             rotate_left
             ·go_simp; try (with_reducible rfl)
             simp only [Zp, Zq, Zr, Zs]
             refine WpG.vD 8 (some 128) ?_ rfl rfl (by kernel_rfl) (fun _ _ _ h => h) rfl (fun wz hwz => ?_) ?_
             rotate_left
             ·go_simp; try (with_reducible rfl)
             simp only [Zp, Zq, Zr, Zs]
             refine WpG.vD 9 (some 129) ?_ rfl rfl (by kernel_rfl) (fun _ _ _ h => h) rfl (fun wz hwz => ?_) ?_
             rotate_left
             ·(refine Eq.trans (exec_load rfl (by kernel_rfl) (LL.out wz hwz)) ?_; with_reducible rfl)
             simp only [Zp, Zq, Zr, Zs]
             refine WpG.vD 10 (some 130) ?_ rfl rfl (by kernel_rfl) (fun _ _ _ h => h) rfl (fun wz hwz => ?_) ?_
             rotate_left
             ·(refine Eq.trans (exec_load rfl (by kernel_rfl) (LM.out wz hwz)) ?_; with_reducible rfl)
             simp only [Zp, Zq, Zr, Zs]
             refine WpG.takeD 11 (some 131) rfl rfl (by kernel_rfl) (fun _ _ _ h => h) (.call rfl (fun wz hwz => LS.out wz hwz) (fun wz hwz => ?_)) ?_
             ·go_simp; try (with_reducible rfl)
             simp only [Zp, Zq, Zr, Zs]
             refine WpG.vD 12 (some 132) ?_ rfl rfl (by kernel_rfl) (fun _ _ _ h => h) rfl (fun wz hwz => ?_) ?_
             rotate_left
             ·go_simp; try (with_reducible rfl)
             simp only [Zp, Zq, Zr, Zs]
             refine WpG.done (by kernel_rfl) (fun w12 hb12 => ?_)
             (try simp only [List.drop_succ_cons]); (try simp only [List.drop_zero]); (try simp only [Nat.reduceSub]); (try simp only [List.take_succ_cons]); (try simp only [List.take_zero])
             have HBX := Lib.hid (bl_call hbx (Nat.le_refl _) hb12)
             clear LL LM LS hbx hb12 l0 l2 hwc hgw
             go_wp2_with fail
             go_roundw
             case rel => exact ⟨j + 1, by omega, by go_num, HBX.out⟩
             case measure => simp [intOf]; omega
           ·dsimp only at hN2 hEn hO2 hO3 hwc
            repeat (rename Exit → Act → World → Prop => QB; clear_value (hQB : QB = _); subst hQB)
            as_aux_lemma =>
             obtain ⟨l0, l1, l2⟩ := hN2.letEs
             go_upto_region 34 with fail
             clear l0 l1 l2
             have hPx := HP8.out.call hbx
             refine wp_region_lit ?_
             refine wpList_valD (some 114) rfl rfl (exec_load rfl (by kernel_rfl) (hPx.i.loadId HID.out)) ?_
             simp only [Zp, Zq, Zr, Zs]
             refine wpList_valD (some 115) rfl rfl (by (go_simp; first | with_reducible rfl | exact ⟨rfl, rfl⟩ | (trace_state; fail))) ?_
             simp only [Zp, Zq, Zr, Zs]
             refine wpList_valD (some 116) rfl rfl (by (go_simp; first | with_reducible rfl | exact ⟨rfl, rfl⟩ | (trace_state; fail))) ?_
             simp only [Zp, Zq, Zr, Zs]
             refine wpList_valD (some 117) rfl rfl (exec_build rfl (by kernel_rfl) (build_ent HID.out 7 A0 A2 n0 c0 n2 c2 w9)) ?_
             simp only [Zp, Zq, Zr, Zs]
             refine wpList_valD (some 118) rfl rfl (exec_buildSlice rfl (by kernel_rfl) (build_entry HID.out 7 0 A0 A2 n0 c0 n2 c2 w9)) ?_
             simp only [Zp, Zq, Zr, Zs]
             have hEb := Vs.new w9 (entL id 7 (.slice A0 n0 c0) (.slice A2 n2 c2) 0) _ 44 rfl
             have hbA := (Below.refl w9.heap.size w9).alloc (Nat.le_refl _) (.cells (entL id 7 (.slice A0 n0 c0) (.slice A2 n2 c2) 0).toArray 44)
             replace hN2 := hN2.call hbA
             replace hEn := hEn.call hbA
             replace hO2 := own_call hO2 hbA
             replace hO3 := own_call hO3 hbA
             replace hwc := cell_call hwc hbA
             replace hgw := Nat.lt_of_lt_of_le hgw hbA.size
             replace hbx := bl_call hbx (Nat.le_refl _) hbA
             clear hbA hPx
             generalize w9.alloc (.cells (entL id 7 (.slice A0 n0 c0) (.slice A2 n2 c2) 0).toArray 44) = w10 at hEb hN2 hEn hO2 hO3 hwc hgw hbx ⊢
             obtain ⟨eb, heb⟩ : ∃ z, w9.heap.size = z := ⟨_, rfl⟩
             rw [heb] at hEb
             simp only [heb]
             clear heb
             refine wpList_valD (some 119) rfl rfl (exec_build rfl (by kernel_rfl) (build_msg1 eb w10)) ?_
             simp only [Zp, Zq, Zr, Zs]
             refine wpList_valD (some 27) rfl rfl (by (skip; go_simp; first | with_reducible rfl | exact ⟨rfl, rfl⟩ | (trace_state; fail))) ?_
             simp only [Zp, Zq, Zr, Zs]
             have hM7 := Vs.new w10 (msgL 0 0 0 0 z16 0 (.slice none 0 0)) #[.int .u8 0, .int .u64 0, .int .u64 0, .int .i64 0, .int .u8 0, .int .u8 0, .int .u8 0, .int .u8 0, .int .u8 0, .int .u8 0, .int .u8 0, .int .u8 0, .int .u8 0, .int .u8 0, .int .u8 0, .int .u8 0, .int .u8 0, .int .u8 0, .int .u8 0, .int .u8 0, .int .i64 0, .slice none 0 0] 27 rfl
             have hbA := (Below.refl w10.heap.size w10).alloc (Nat.le_refl _) (.cells #[.int .u8 0, .int .u64 0, .int .u64 0, .int .i64 0, .int .u8 0, .int .u8 0, .int .u8 0, .int .u8 0, .int .u8 0, .int .u8 0, .int .u8 0, .int .u8 0, .int .u8 0, .int .u8 0, .int .u8 0, .int .u8 0, .int .u8 0, .int .u8 0, .int .u8 0, .int .u8 0, .int .i64 0, .slice none 0 0] 27)
             have hst := hM7.storeM (kind := 1) (job := 0) (start := 0) (many := 0) (sum := z16) (code := 0) (es := .slice (some ⟨eb, 0, none⟩) 1 1) z16_length z16_length rfl
             refine wpList_skipD rfl rfl (exec_store rfl (by kernel_rfl) (by kernel_rfl) hst) ?_
             have hMg := hM7.setMsg (kind := 1) (job := 0) (start := 0) (many := 0) (sum := z16) (code := 0) (es := .slice (some ⟨eb, 0, none⟩) 1 1) z16_length z16_length
             have hbC := bl_setCells hbA (Nat.le_refl _) 0 (msgL 1 0 0 0 z16 0 (.slice (some ⟨eb, 0, none⟩) 1 1))
             replace hEb := hEb.call hbC
             replace hN2 := hN2.call hbC
             replace hEn := hEn.call hbC
             replace hO2 := own_call hO2 hbC
             replace hO3 := own_call hO3 hbC
             replace hwc := cell_call hwc hbC
             replace hgw := Nat.lt_of_lt_of_le hgw hbC.size
             replace hbx := bl_call hbx (Nat.le_refl _) hbC
             clear hst hbA hbC hM7
             generalize (w10.alloc (.cells #[.int .u8 0, .int .u64 0, .int .u64 0, .int .i64 0, .int .u8 0, .int .u8 0, .int .u8 0, .int .u8 0, .int .u8 0, .int .u8 0, .int .u8 0, .int .u8 0, .int .u8 0, .int .u8 0, .int .u8 0, .int .u8 0, .int .u8 0, .int .u8 0, .int .u8 0, .int .u8 0, .int .i64 0, .slice none 0 0] 27)).setCells w10.heap.size 0 (msgL 1 0 0 0 z16 0 (.slice (some ⟨eb, 0, none⟩) 1 1)) = w11 at hMg hEb hN2 hEn hO2 hO3 hwc hgw hbx ⊢
             obtain ⟨mb, hmb⟩ : ∃ z, w10.heap.size = z := ⟨_, rfl⟩
             rw [hmb] at hMg
             simp only [hmb]
             clear hmb
             have hbw := HP8.out.b.trans (hbx.mono HP8.out.b.size)
             have R0 := own_rdB hO2 (by omega)
             have R1 := own_rdB hO3 (by omega)
             have R2 := HR0.out.call hbw
             have R3 := (HR2).out.call hbw
             obtain ⟨l0, l1, l2⟩ := hN2.letEs
             have LL := Lib.hid fun wz (h : Below w11.heap.size w11 wz) => (hN2.call h).loadLm
             have LM := Lib.hid fun wz (h : Below w11.heap.size w11 wz) => (hMg.call h).loadM z16_length
             have LS := Lib.hid fun wz (h : Below w11.heap.size w11 wz) => msg_Same1 id HID.out 7 B2 B3 A0 A2 n0 d2 n2 d3 c0 c2 g eb cg 1 zs0 zs2 wz (R0.call h) (R1.call h) (R2.call h) (R3.call h) (hEn.call h) (hEb.call h)
             clear hN2 hMg hEb hEn hO2 hO3 R0 R1 R2 R3 hbw l1
             go_upto_region 35 with fail
             refine region_G (n := 13) (m := 14) (f := 13) (by kernel_rfl) (by kernel_rfl) rfl ?_
             refine WpG.vD 0 (some 120) ?_ rfl rfl (by kernel_rfl) (fun _ _ _ h => h) rfl (fun wz hwz => ?_) ?_
             rotate_left
             ·go_simp; try (with_reducible rfl)
             simp only [Zp, Zq, Zr, Zs]
             refine WpG.vD 1 (some 121) ?_ rfl rfl (by kernel_rfl) (fun _ _ _ h => h) rfl (fun wz hwz => ?_) ?_
             rotate_left
             ·(obtain ⟨hcz, hfz⟩ := bcell (hwz); go_simp; try (with_reducible rfl))
             simp only [Zp, Zq, Zr, Zs]
             refine WpG.vD 2 (some 122) ?_ rfl rfl (by kernel_rfl) (fun _ _ _ h => h) rfl (fun wz hwz => ?_) ?_
             rotate_left
             ·go_simp; try (with_reducible rfl)
             simp only [Zp, Zq, Zr, Zs]
             refine WpG.vD 3 (some 123) ?_ rfl rfl (by kernel_rfl) (fun _ _ _ h => h) rfl (fun wz hwz => ?_) ?_
             rotate_left
             ·go_simp; try (with_reducible rfl)
             simp only [Zp, Zq, Zr, Zs]
             refine WpG.vD 4 (some 124) ?_ rfl rfl (by kernel_rfl) (fun _ _ _ h => h) rfl (fun wz hwz => ?_) ?_
             rotate_left
             ·go_simp; try (with_reducible rfl)
             simp only [Zp, Zq, Zr, Zs]
             refine WpG.vD 5 (some 125) ?_ rfl rfl (by kernel_rfl) (fun _ _ _ h => h) rfl (fun wz hwz => ?_) ?_
             rotate_left
             ·(obtain ⟨hcz, hfz⟩ := bcell (hwz); go_simp; try (with_reducible rfl))
             simp only [Zp, Zq, Zr, Zs]
             refine WpG.vD 6 (some 126) ?_ rfl rfl (by kernel_rfl) (fun _ _ _ h => h) rfl (fun wz hwz => ?_) ?_
             rotate_left
             ·go_simp; try (with_reducible rfl)
             simp only [Zp, Zq, Zr, Zs]
             refine WpG.vD 7 (some 127) ?_ rfl rfl (by kernel_rfl) (fun _ _ _ h => h) rfl (fun wz hwz => ?_) ?_
             rotate_left
             ·go_simp; try (with_reducible rfl)
             simp only [Zp, Zq, Zr, Zs]
             refine WpG.vD 8 (some 128) ?_ rfl rfl (by kernel_rfl) (fun _ _ _ h => h) rfl (fun wz hwz => ?_) ?_
             rotate_left
             ·go_simp; try (with_reducible rfl)
             simp only [Zp, Zq, Zr, Zs]
             refine WpG.vD 9 (some 129) ?_ rfl rfl (by kernel_rfl) (fun _ _ _ h => h) rfl (fun wz hwz => ?_) ?_
             rotate_left
             ·(refine Eq.trans (exec_load rfl (by kernel_rfl) (LL.out wz hwz)) ?_; with_reducible rfl)
             simp only [Zp, Zq, Zr, Zs]
             refine WpG.vD 10 (some 130) ?_ rfl rfl (by kernel_rfl) (fun _ _ _ h => h) rfl (fun wz hwz => ?_) ?_
             rotate_left
             ·(refine Eq.trans (exec_load rfl (by kernel_rfl) (LM.out wz hwz)) ?_; with_reducible rfl)
             simp only [Zp, Zq, Zr, Zs]
             refine WpG.takeD 11 (some 131) rfl rfl (by kernel_rfl) (fun _ _ _ h => h) (.call rfl (fun wz hwz => LS.out wz hwz) (fun wz hwz => ?_)) ?_
             ·go_simp; try (with_reducible rfl)
             simp only [Zp, Zq, Zr, Zs]
             refine WpG.vD 12 (some 132) ?_ rfl rfl (by kernel_rfl) (fun _ _ _ h => h) rfl (fun wz hwz => ?_) ?_
             rotate_left
             ·go_simp; try (with_reducible rfl)
             simp only [Zp, Zq, Zr, Zs]
             refine WpG.done (by kernel_rfl) (fun w12 hb12 => ?_)
             (try simp only [List.drop_succ_cons]); (try simp only [List.drop_zero]); (try simp only [Nat.reduceSub]); (try simp only [List.take_succ_cons]); (try simp only [List.take_zero])
             have HBX := Lib.hid (bl_call hbx (Nat.le_refl _) hb12)
             clear LL LM LS hbx hb12 l0 l2 hwc hgw
             go_wp2_with fail
             go_roundw
             case rel => exact ⟨j + 1, by omega, by go_num, HBX.out⟩
             case measure => simp [intOf]; omega
          ·obtain rfl : L = j := by omega
           have HPX := Lib.hid (HP8.out.call hbx)
           clear hlj hj hbx
           by_cases hdd : (d0 && d1) = true
           ·have hL0 : L = 0 := by rw [← HL9.out]; exact (wt_len d0 d1).2 hdd
            subst hL0
            have h1 := HDU.out
            have h2 := HWA.out
            have h3 := HTR.out
            rw [if_pos hdd] at h1 h2 h3
            subst h1
            subst h2
            subst h3
            clear hdd HDU HWA HTR
            go_wp2_with fail
            go_roundw
            case rel => exact ⟨k + 1, nw, due, wait, tries, d0, d1, k0, k1, by omega, by omega, by go_num, rfl, rfl, rfl, rfl, ⟨by omega, by omega⟩, hwait, ⟨by omega, by omega⟩, HPX.out⟩
            case measure => simp [intOf]; omega
           ·have hLp : (0 : Int) < (L : Int) := by
             have h9 : L ≠ 0 := fun e => hdd ((wt_len d0 d1).1 (HL9.out.trans e))
             omega
            have h1 := HDU.out
            have h2 := HWA.out
            have h3 := HTR.out
            rw [if_neg hdd] at h1 h2 h3
            have hx1 : IntKind.u64.wrap (nw + wait) = du := by rw [← h1]; exact IntWalk.u64_in _ (by omega)
            have hx2 : IntKind.u64.wrap (2 * wait) = 2 * wait := IntWalk.u64_in _ (by omega)
            have hx3 : min (2 * wait) 16 = wa := h2
            have hx4 : IntKind.i64.wrap (tries + 1) = tr := by rw [← h3]; exact IntWalk.i64_in _ (by omega)
            have hwa2 : 0 ≤ wa ∧ wa ≤ 16 := by omega
            have htr2 : 0 ≤ tr ∧ tr ≤ k + 1 := by omega
            clear hdd h1 h2 h3 HDU HWA HTR
            go_wp2_with fail
            go_roundw
            case rel => exact ⟨k + 1, nw, du, wa, tr, d0, d1, k0, k1, by omega, by omega, by go_num, rfl, rfl, rfl, rfl, ⟨by omega, by omega⟩, hwa2, ⟨htr2.1, by omega⟩, HPX.out⟩
            case measure => simp [intOf]; omega
    ·have ha4i : 4 ≤ a % 9 := by omega
     have hwb : IntKind.i64.wrap (b % 3) = b % 3 := IntWalk.i64_in _ (by omega)
     obtain ⟨frm, hfrm⟩ : ∃ z, b % 3 = z := ⟨_, rfl⟩
     obtain ⟨cd, hcd⟩ : ∃ z, c % 32 = z := ⟨_, rfl⟩
     have hfr : 0 ≤ frm ∧ frm ≤ 2 := by omega
     have hwc : IntKind.i64.wrap (c.tmod 32) = cd := by rw [Int.tmod_eq_emod_of_nonneg hc0, hcd]; exact IntWalk.i64_in _ (by omega)
     rw [hfrm] at hwb
     obtain ⟨a0, a1, a2, a3, a4, a5⟩ := hA2.act hml
     go_upto_region 42 with fail
     refine wp_region_lit ?_
     refine wpList_valD (some 150) rfl rfl (exec_load rfl (by kernel_rfl) (hP2.i.loadId HID.out)) ?_
     simp only [Zp, Zq, Zr, Zs]
     refine wpList_valD (some 151) rfl rfl (by (go_simp; first | with_reducible rfl | exact ⟨rfl, rfl⟩ | (trace_state; fail))) ?_
     simp only [Zp, Zq, Zr, Zs]
     refine wpList_valD (some 152) rfl rfl (by (go_simp; first | with_reducible rfl | exact ⟨rfl, rfl⟩ | (trace_state; fail))) ?_
     simp only [Zp, Zq, Zr, Zs]
     refine wpList_valD (some 153) rfl rfl (by (go_simp; first | with_reducible rfl | exact ⟨rfl, rfl⟩ | (trace_state; fail))) ?_
     simp only [Zp, Zq, Zr, Zs]
     refine wpList_valD (some 154) rfl rfl (by (go_simp; first | with_reducible rfl | exact ⟨rfl, rfl⟩ | (trace_state; fail))) ?_
     simp only [Zp, Zq, Zr, Zs]
     refine wpList_valD (some 155) rfl rfl (exec_build rfl (by kernel_rfl) (build_entC HID.out cd _)) ?_
     simp only [Zp, Zq, Zr, Zs]
     refine wpList_valD (some 156) rfl rfl (exec_buildSlice rfl (by kernel_rfl) (build_entry HID.out 0 cd none none 0 0 0 0 w6)) ?_
     simp only [Zp, Zq, Zr, Zs]
     have hEn := Vs.new w6 (entL id 0 (.slice none 0 0) (.slice none 0 0) cd) _ 44 rfl
     have hbA := (Below.refl w6.heap.size w6).alloc (Nat.le_refl _) (.cells (entL id 0 (.slice none 0 0) (.slice none 0 0) cd).toArray 44)
     have hP7 := hP2.call hbA
     have hA7 := hA2.call hbA
     have hpe := hA2.lt
     clear hP2 hA2 hbA a0 a1 a2 a3 a4 a5
     generalize w6.alloc (.cells (entL id 0 (.slice none 0 0) (.slice none 0 0) cd).toArray 44) = w7 at hEn hP7 hA7 ⊢
     obtain ⟨eb, heb⟩ : ∃ z, w6.heap.size = z := ⟨_, rfl⟩
     rw [heb] at hEn hpe
     simp only [heb]
     clear heb
     refine wpList_valD (some 157) rfl rfl (exec_build rfl (by kernel_rfl) (build_msg7 eb _)) ?_
     simp only [Zp, Zq, Zr, Zs]
     refine wpList_valD (some 29) rfl rfl (by (skip; go_simp; first | with_reducible rfl | exact ⟨rfl, rfl⟩ | (trace_state; fail))) ?_
     simp only [Zp, Zq, Zr, Zs]
     have hM7 := Vs.new w7 (msgL 0 0 0 0 z16 0 (.slice none 0 0)) #[.int .u8 0, .int .u64 0, .int .u64 0, .int .i64 0, .int .u8 0, .int .u8 0, .int .u8 0, .int .u8 0, .int .u8 0, .int .u8 0, .int .u8 0, .int .u8 0, .int .u8 0, .int .u8 0, .int .u8 0, .int .u8 0, .int .u8 0, .int .u8 0, .int .u8 0, .int .u8 0, .int .i64 0, .slice none 0 0] 27 rfl
     have hbA := (Below.refl w7.heap.size w7).alloc (Nat.le_refl _) (.cells #[.int .u8 0, .int .u64 0, .int .u64 0, .int .i64 0, .int .u8 0, .int .u8 0, .int .u8 0, .int .u8 0, .int .u8 0, .int .u8 0, .int .u8 0, .int .u8 0, .int .u8 0, .int .u8 0, .int .u8 0, .int .u8 0, .int .u8 0, .int .u8 0, .int .u8 0, .int .u8 0, .int .i64 0, .slice none 0 0] 27)
     have hst := hM7.storeM (kind := 7) (job := 0) (start := 0) (many := 0) (sum := z16) (code := 0) (es := .slice (some ⟨eb, 0, none⟩) 1 1) z16_length z16_length rfl
     refine wpList_skipD rfl rfl (exec_store rfl (by kernel_rfl) (by kernel_rfl) hst) ?_
     have hMg := hM7.setMsg (kind := 7) (job := 0) (start := 0) (many := 0) (sum := z16) (code := 0) (es := .slice (some ⟨eb, 0, none⟩) 1 1) z16_length z16_length
     have hbC := bl_setCells hbA (Nat.le_refl _) 0 (msgL 7 0 0 0 z16 0 (.slice (some ⟨eb, 0, none⟩) 1 1))
     have hP8 := hP7.call hbC
     have hA8 := hA7.call hbC
     have hem := hEn.lt
     replace hEn := hEn.call hbC
     clear hst hbA hbC hM7 hP7 hA7
     generalize (w7.alloc (.cells #[.int .u8 0, .int .u64 0, .int .u64 0, .int .i64 0, .int .u8 0, .int .u8 0, .int .u8 0, .int .u8 0, .int .u8 0, .int .u8 0, .int .u8 0, .int .u8 0, .int .u8 0, .int .u8 0, .int .u8 0, .int .u8 0, .int .u8 0, .int .u8 0, .int .u8 0, .int .u8 0, .int .i64 0, .slice none 0 0] 27)).setCells w7.heap.size 0 (msgL 7 0 0 0 z16 0 (.slice (some ⟨eb, 0, none⟩) 1 1)) = w8 at hMg hP8 hA8 hEn ⊢
     obtain ⟨mb, hmb⟩ : ∃ z, w7.heap.size = z := ⟨_, rfl⟩
     rw [hmb] at hMg hem
     simp only [hmb]
     clear hmb hfrm hcd
     obtain ⟨z1, z2, z3, z4, z5⟩ := hP8.lt
     obtain ⟨a0, a1, a2, a3, a4, a5⟩ := hA8.act hml
     by_cases ha8 : a % 9 = 8
     ·repeat (rename Exit → Act → World → Prop => QB; clear_value (hQB : QB = _); subst hQB)
      as_aux_lemma =>
      have hml9 := hml
      have HSM : Hid (∀ wz, Vs wz mb (msgL 7 0 0 0 z16 0 (.slice (some ⟨eb, 0, none⟩) 1 1)) → (Instr.storeAt 27 (.pointer (some ⟨mb, 0, none⟩)) (.agg m.toArray)).run Try.prog wz = .ok () (wz.setCells mb 0 m) ∧ Vs (wz.setCells mb 0 m) mb m) := Lib.hid fun wz h => ⟨store_W h (by rw [hml9, msgL_length z16_length]) (by rw [hml9]; exact size_msg) hm1, h.setW (by rw [hml9, msgL_length z16_length])⟩
      have HT : Hid (∀ wz, Exc (fun q => q = mb) w8.heap.size w8 wz → (Instr.loadAt 27 (.pointer (some ⟨pb, 4, none⟩))).run Try.prog wz = .ok (.agg m.toArray) wz ∧ wz.cell? ⟨pb, 26, none⟩ = some (.int .i64 n)) := Lib.hid fun wz h => by
       have h2 := hA8.exc (fun e : pb = mb => by omega) h
       exact ⟨h2.loadAny hml9, (h2.act hml9).2.2.2.2.1⟩
      have ha8b : (a % 9 == 8) = true := by simpa using ha8
      go_upto_region 44 with fail
      clear a0 a1 a2 a3 a4 a5 ha8
      refine region_X (fun wz => Exc (fun q => q = mb) w8.heap.size w8 wz) (fun wz => Exc (fun q => q = mb) w8.heap.size w8 wz ∧ Vs wz mb (msgL 7 0 0 0 z16 0 (.slice (some ⟨eb, 0, none⟩) 1 1))) (fun _ h => h.1) (fun _ _ h hb => ⟨h.1.trans ((exc_of hb).mono h.1.size), h.2.call hb⟩) ⟨exc_of ((Below.refl _ _).drew), hMg.drew⟩ (n := 5) (m := 6) (f := 5) (by kernel_rfl) (by kernel_rfl) rfl ?_
      refine WpX.vD 0 (some 162) ?_ rfl rfl (by kernel_rfl) (fun _ _ _ h => h) rfl (fun wz hwz => ?_) ?_
      rotate_left
      ·go_simp; try (with_reducible rfl)
      simp only [Zp, Zq, Zr, Zs]
      refine WpX.vD 1 (some 163) ?_ rfl rfl (by kernel_rfl) (fun _ _ _ h => h) rfl (fun wz hwz => ?_) ?_
      rotate_left
      ·(refine Eq.trans (exec_load rfl (by kernel_rfl) ((HT.out wz hwz).1)) ?_; with_reducible rfl)
      simp only [Zp, Zq, Zr, Zs]
      refine WpX.vD 2 (some 164) ?_ rfl rfl (by kernel_rfl) (fun _ _ _ h => h) rfl (fun wz hwz => ?_) ?_
      rotate_left
      ·go_simp; try (with_reducible rfl)
      simp only [Zp, Zq, Zr, Zs]
      refine WpX.vD 3 (some 165) ?_ rfl rfl (by kernel_rfl) (fun _ _ _ h => h) rfl (fun wz hwz => ?_) ?_
      rotate_left
      ·(have q := (HT.out wz hwz).2; go_simp; try (with_reducible rfl))
      simp only [Zp, Zq, Zr, Zs]
      refine WpX.oneSkip 4 none rfl rfl (by kernel_rfl) ((fun wz => Exc (fun q => q = mb) w8.heap.size w8 wz)) ((fun wz => Exc (fun q => q = mb) w8.heap.size w8 wz ∧ Vs wz mb m)) ((fun _ h => h)) ((fun _ h => h.1)) ((fun _ _ h hb => ⟨h.1.trans ((exc_of hb).mono h.1.size), h.2.call hb⟩)) rfl (fun wz hS => ?_) ?_
      ·((exact ⟨_, exec_store rfl (by kernel_rfl) (by kernel_rfl) (HSM.out wz hS.2).1, exc_setCells (S := fun q => q = mb) mb rfl _ _ _ hS.1, (HSM.out wz hS.2).2⟩))
      simp only [Act.put]
      refine WpX.done (by kernel_rfl) (fun w9 h9 => ?_)
      (try simp only [List.drop_succ_cons]); (try simp only [List.drop_zero]); (try simp only [Nat.reduceSub]); (try simp only [List.take_succ_cons]); (try simp only [List.take_zero])
      have hMg := h9.2
      have hx9 := h9.1
      have hcT := hP8.c.lt
      have hP9 : CpK T cb T kb w.heap.size w w9 id n0 n1 n2 zs0 zs1 zs2 d0 d1 k0 k1 due wait tries := ⟨hP8.c.exc (fun q h1 h2 (e : q = mb) => by omega) hx9, Nat.le_trans hP8.t hx9.size, hP8.d.exc (fun e : T = mb => by omega) hx9, hP8.k.exc (fun e : kb = mb => by omega) hx9, hP8.i.exc (fun e : w.heap.size = mb => by omega) hx9, hP8.b.trans (Exc.below (hx9.mono hP8.b.size) (fun q hq (e : q = mb) => by omega)), z1, z2, z3, z4, z5⟩
      rw [hme, hese] at hMg
      clear h9 hx9 HT HSM hP8 hA8 hEn
      go_upto_region 45 with fail
      obtain ⟨EN, hEN⟩ : ∃ z, ents.length = z := ⟨_, rfl⟩
      rw [hEN] at hMg hents
      have HEN := Lib.hid hEN
      clear hEN
      by_cases hno : (n ≠ 0 ∧ n ≠ 1) ∨ kind ≠ 7 ∨ EN ≠ 1
      ·have hRV := hP9.c.recvNo (frm := n) (kind := kind) (job := job) (start := start) (many := many) (sum := sum) (code := code) (A := Ae) (N := EN) (c := ce) hsum hno
       by_cases hf : n ≠ 0 ∧ n ≠ 1
       ·rw [if_pos hf] at hRV
        have hf0 : (n != 0) = true := by simpa using hf.1
        have hf1 : (n != 1) = true := by simpa using hf.2
        clear hf hno
        obtain ⟨g0, g1, g2, g3, g4, g5, g6, g7⟩ := hMg.msg hsum
        go_upto_region 55 with fail
        refine wp_region_lit ?_
        refine wpList_valD (some 204) rfl rfl (by (go_simp; first | with_reducible rfl | exact ⟨rfl, rfl⟩ | (trace_state; fail))) ?_
        simp only [Zp, Zq, Zr, Zs]
        refine wpList_valD (some 205) rfl rfl (by (go_simp; first | with_reducible rfl | exact ⟨rfl, rfl⟩ | (trace_state; fail))) ?_
        simp only [Zp, Zq, Zr, Zs]
        refine wpList_valD (some 206) rfl rfl (exec_load rfl (by kernel_rfl) (hMg.loadM hsum)) ?_
        simp only [Zp, Zq, Zr, Zs]
        refine wpList_callD (some 207) rfl rfl 17 _ ?_ (hRV) ?_
        ·go_simp; try (with_reducible rfl)
        rintro e w30 ⟨rfl, hb30⟩
        refine ⟨_, rfl, ?_⟩
        simp only [Zp, Zq, Zr, Zs]
        have HP30 := Lib.hid (hP9.call hb30)
        refine wpList_valD (some 208) rfl rfl (by (go_simp; first | with_reducible rfl | exact ⟨rfl, rfl⟩ | (trace_state; fail))) ?_
        simp only [Zp, Zq, Zr, Zs]
        refine wpList_valD (some 209) rfl rfl (by (go_simp; first | with_reducible rfl | exact ⟨rfl, rfl⟩ | (trace_state; fail))) ?_
        simp only [Zp, Zq, Zr, Zs]
        clear hRV hb30 hMg hP9
        go_wp2_with fail
        go_roundw
        case rel => exact ⟨k + 1, now, due, wait, tries, d0, d1, k0, k1, by omega, by omega, by go_num, rfl, rfl, rfl, rfl, ⟨by omega, by omega⟩, hwait, ⟨by omega, by omega⟩, HP30.out⟩
        case measure => simp [intOf]; omega
       ·rw [if_neg hf] at hRV
        have hk := hno.resolve_left hf
        have hf3 : n = 0 ∨ n = 1 := by omega
        obtain ⟨g0, g1, g2, g3, g4, g5, g6, g7⟩ := hMg.msg hsum
        clear hno hf
        by_cases h7 : kind = 7
        ·have hN1 : EN ≠ 1 := hk.resolve_left (fun h => h h7)
         have h7b : (kind != 7) = false := by simpa using h7
         have hNb : ((EN : Int) != 1) = true := by simp; omega
         clear hk h7 hN1
         rcases hf3 with rfl | rfl
         ·skip
          go_upto_region 55 with fail
          refine wp_region_lit ?_
          refine wpList_valD (some 204) rfl rfl (by (go_simp; first | with_reducible rfl | exact ⟨rfl, rfl⟩ | (trace_state; fail))) ?_
          simp only [Zp, Zq, Zr, Zs]
          refine wpList_valD (some 205) rfl rfl (by (go_simp; first | with_reducible rfl | exact ⟨rfl, rfl⟩ | (trace_state; fail))) ?_
          simp only [Zp, Zq, Zr, Zs]
          refine wpList_valD (some 206) rfl rfl (exec_load rfl (by kernel_rfl) (hMg.loadM hsum)) ?_
          simp only [Zp, Zq, Zr, Zs]
          refine wpList_callD (some 207) rfl rfl 17 _ ?_ (hRV) ?_
          ·go_simp; try (with_reducible rfl)
          rintro e w30 ⟨rfl, hb30⟩
          refine ⟨_, rfl, ?_⟩
          simp only [Zp, Zq, Zr, Zs]
          have HP30 := Lib.hid (hP9.call hb30)
          refine wpList_valD (some 208) rfl rfl (by (go_simp; first | with_reducible rfl | exact ⟨rfl, rfl⟩ | (trace_state; fail))) ?_
          simp only [Zp, Zq, Zr, Zs]
          refine wpList_valD (some 209) rfl rfl (by (go_simp; first | with_reducible rfl | exact ⟨rfl, rfl⟩ | (trace_state; fail))) ?_
          simp only [Zp, Zq, Zr, Zs]
          clear hRV hb30 hMg hP9
          go_wp2_with fail
          go_roundw
          case rel => exact ⟨k + 1, now, due, wait, tries, d0, d1, k0, k1, by omega, by omega, by go_num, rfl, rfl, rfl, rfl, ⟨by omega, by omega⟩, hwait, ⟨by omega, by omega⟩, HP30.out⟩
          case measure => simp [intOf]; omega
         ·skip
          go_upto_region 55 with fail
          refine wp_region_lit ?_
          refine wpList_valD (some 204) rfl rfl (by (go_simp; first | with_reducible rfl | exact ⟨rfl, rfl⟩ | (trace_state; fail))) ?_
          simp only [Zp, Zq, Zr, Zs]
          refine wpList_valD (some 205) rfl rfl (by (go_simp; first | with_reducible rfl | exact ⟨rfl, rfl⟩ | (trace_state; fail))) ?_
          simp only [Zp, Zq, Zr, Zs]
          refine wpList_valD (some 206) rfl rfl (exec_load rfl (by kernel_rfl) (hMg.loadM hsum)) ?_
          simp only [Zp, Zq, Zr, Zs]
          refine wpList_callD (some 207) rfl rfl 17 _ ?_ (hRV) ?_
          ·go_simp; try (with_reducible rfl)
          rintro e w30 ⟨rfl, hb30⟩
          refine ⟨_, rfl, ?_⟩
          simp only [Zp, Zq, Zr, Zs]
          have HP30 := Lib.hid (hP9.call hb30)
          refine wpList_valD (some 208) rfl rfl (by (go_simp; first | with_reducible rfl | exact ⟨rfl, rfl⟩ | (trace_state; fail))) ?_
          simp only [Zp, Zq, Zr, Zs]
          refine wpList_valD (some 209) rfl rfl (by (go_simp; first | with_reducible rfl | exact ⟨rfl, rfl⟩ | (trace_state; fail))) ?_
          simp only [Zp, Zq, Zr, Zs]
          clear hRV hb30 hMg hP9
          go_wp2_with fail
          go_roundw
          case rel => exact ⟨k + 1, now, due, wait, tries, d0, d1, k0, k1, by omega, by omega, by go_num, rfl, rfl, rfl, rfl, ⟨by omega, by omega⟩, hwait, ⟨by omega, by omega⟩, HP30.out⟩
          case measure => simp [intOf]; omega
        ·have h7b : (kind != 7) = true := by simpa using h7
         clear hk h7
         rcases hf3 with rfl | rfl
         ·skip
          go_upto_region 55 with fail
          refine wp_region_lit ?_
          refine wpList_valD (some 204) rfl rfl (by (go_simp; first | with_reducible rfl | exact ⟨rfl, rfl⟩ | (trace_state; fail))) ?_
          simp only [Zp, Zq, Zr, Zs]
          refine wpList_valD (some 205) rfl rfl (by (go_simp; first | with_reducible rfl | exact ⟨rfl, rfl⟩ | (trace_state; fail))) ?_
          simp only [Zp, Zq, Zr, Zs]
          refine wpList_valD (some 206) rfl rfl (exec_load rfl (by kernel_rfl) (hMg.loadM hsum)) ?_
          simp only [Zp, Zq, Zr, Zs]
          refine wpList_callD (some 207) rfl rfl 17 _ ?_ (hRV) ?_
          ·go_simp; try (with_reducible rfl)
          rintro e w30 ⟨rfl, hb30⟩
          refine ⟨_, rfl, ?_⟩
          simp only [Zp, Zq, Zr, Zs]
          have HP30 := Lib.hid (hP9.call hb30)
          refine wpList_valD (some 208) rfl rfl (by (go_simp; first | with_reducible rfl | exact ⟨rfl, rfl⟩ | (trace_state; fail))) ?_
          simp only [Zp, Zq, Zr, Zs]
          refine wpList_valD (some 209) rfl rfl (by (go_simp; first | with_reducible rfl | exact ⟨rfl, rfl⟩ | (trace_state; fail))) ?_
          simp only [Zp, Zq, Zr, Zs]
          clear hRV hb30 hMg hP9
          go_wp2_with fail
          go_roundw
          case rel => exact ⟨k + 1, now, due, wait, tries, d0, d1, k0, k1, by omega, by omega, by go_num, rfl, rfl, rfl, rfl, ⟨by omega, by omega⟩, hwait, ⟨by omega, by omega⟩, HP30.out⟩
          case measure => simp [intOf]; omega
         ·skip
          go_upto_region 55 with fail
          refine wp_region_lit ?_
          refine wpList_valD (some 204) rfl rfl (by (go_simp; first | with_reducible rfl | exact ⟨rfl, rfl⟩ | (trace_state; fail))) ?_
          simp only [Zp, Zq, Zr, Zs]
          refine wpList_valD (some 205) rfl rfl (by (go_simp; first | with_reducible rfl | exact ⟨rfl, rfl⟩ | (trace_state; fail))) ?_
          simp only [Zp, Zq, Zr, Zs]
          refine wpList_valD (some 206) rfl rfl (exec_load rfl (by kernel_rfl) (hMg.loadM hsum)) ?_
          simp only [Zp, Zq, Zr, Zs]
          refine wpList_callD (some 207) rfl rfl 17 _ ?_ (hRV) ?_
          ·go_simp; try (with_reducible rfl)
          rintro e w30 ⟨rfl, hb30⟩
          refine ⟨_, rfl, ?_⟩
          simp only [Zp, Zq, Zr, Zs]
          have HP30 := Lib.hid (hP9.call hb30)
          refine wpList_valD (some 208) rfl rfl (by (go_simp; first | with_reducible rfl | exact ⟨rfl, rfl⟩ | (trace_state; fail))) ?_
          simp only [Zp, Zq, Zr, Zs]
          refine wpList_valD (some 209) rfl rfl (by (go_simp; first | with_reducible rfl | exact ⟨rfl, rfl⟩ | (trace_state; fail))) ?_
          simp only [Zp, Zq, Zr, Zs]
          clear hRV hb30 hMg hP9
          go_wp2_with fail
          go_roundw
          case rel => exact ⟨k + 1, now, due, wait, tries, d0, d1, k0, k1, by omega, by omega, by go_num, rfl, rfl, rfl, rfl, ⟨by omega, by omega⟩, hwait, ⟨by omega, by omega⟩, HP30.out⟩
          case measure => simp [intOf]; omega
      ·obtain rfl : kind = 7 := by omega
       obtain rfl : EN = 1 := by omega
       have hf3 : n = 0 ∨ n = 1 := by omega
       clear hno
       obtain ⟨eb9, eo9, hAe, hebl, hre⟩ := hents (by omega)
       subst hAe
       obtain ⟨r0, hr0⟩ : ∃ r, ents[0]? = some r := ⟨_, List.getElem?_eq_getElem (by rw [HEN.out]; omega)⟩
       obtain ⟨eid, et, pu, sh, ec, her, heid⟩ := hent r0 (List.mem_of_getElem? hr0)
       have hEn9 : eb9 < w9.heap.size ∧ w9.rangeAt eb9 eo9 (entL eid et pu sh ec) := ⟨Nat.lt_of_lt_of_le hebl hP9.b.size, fun j v hj => (hP9.b.cell (p := ⟨eb9, eo9 + j, none⟩) hebl).trans (by
        have h1 := hre 0 r0 hr0 j v (by rw [her]; exact hj)
        rw [Nat.zero_mul, Nat.add_zero] at h1
        exact h1)⟩
       clear hre hr0 her hent hents HEN
       rcases hf3 with rfl | rfl
       ·skip
        by_cases hne : eid = id
        ·have hneb : (eid == id) = true := beq_iff_eq.mpr hne
         clear hne
         have hEL := hEn9
         obtain ⟨g0, g1, g2, g3, g4, g5, g6, g7⟩ := hMg.msg hsum
         go_upto_region 51 with fail
         have HLI : Hid (∀ wz, Below w9.heap.size w9 wz → (Instr.loadAt 34 (.pointer (some ⟨eb9, eo9, none⟩))).run Try.prog wz = .ok (.agg (cells8 eid).toArray) wz) := Lib.hid fun wz h => load_R (rangeAt_entId (rangeAt_call hEL.2 h) heid) Try.underlying34 rfl (by rw [cells8_length, heid]; exact size_id)
         have HLO : Hid (∀ wz, Below w9.heap.size w9 wz → (Instr.loadAt 34 (.pointer (some ⟨w.heap.size, 0, none⟩))).run Try.prog wz = .ok (.agg (cells8 id).toArray) wz) := Lib.hid fun wz h => (hP9.i.call h).loadId HID.out
         have hneq : ∀ wz, (Op.equalIn 10000 34 (.agg (cells8 eid).toArray) (.agg (cells8 id).toArray)).run Try.prog wz = .ok (eid == id) wz := fun wz => run_equalIn_16 9998 Try.underlying34 heid HID.out wz
         refine region_G (n := 7) (m := 8) (f := 7) (by kernel_rfl) (by kernel_rfl) rfl ?_
         refine WpG.vD 0 (some 193) ?_ rfl rfl (by kernel_rfl) (fun _ _ _ h => h) rfl (fun wz hwz => ?_) ?_
         rotate_left
         ·go_simp; try (with_reducible rfl)
         simp only [Zp, Zq, Zr, Zs]
         refine WpG.vD 1 (some 194) ?_ rfl rfl (by kernel_rfl) (fun _ _ _ h => h) rfl (fun wz hwz => ?_) ?_
         rotate_left
         ·(obtain ⟨hcz, hfz⟩ := bcell (hwz); go_simp; try (with_reducible rfl))
         simp only [Zp, Zq, Zr, Zs]
         refine WpG.vD 2 (some 195) ?_ rfl rfl (by kernel_rfl) (fun _ _ _ h => h) rfl (fun wz hwz => ?_) ?_
         rotate_left
         ·go_simp; try (with_reducible rfl)
         simp only [Zp, Zq, Zr, Zs]
         refine WpG.vD 3 (some 196) ?_ rfl rfl (by kernel_rfl) (fun _ _ _ h => h) rfl (fun wz hwz => ?_) ?_
         rotate_left
         ·go_simp; try (with_reducible rfl)
         simp only [Zp, Zq, Zr, Zs]
         refine WpG.vD 4 (some 197) ?_ rfl rfl (by kernel_rfl) (fun _ _ _ h => h) rfl (fun wz hwz => ?_) ?_
         rotate_left
         ·(refine Eq.trans (exec_load rfl (by kernel_rfl) (HLI.out wz hwz)) ?_; with_reducible rfl)
         simp only [Zp, Zq, Zr, Zs]
         refine WpG.vD 5 (some 198) ?_ rfl rfl (by kernel_rfl) (fun _ _ _ h => h) rfl (fun wz hwz => ?_) ?_
         rotate_left
         ·(refine Eq.trans (exec_load rfl (by kernel_rfl) (HLO.out wz hwz)) ?_; with_reducible rfl)
         simp only [Zp, Zq, Zr, Zs]
         refine WpG.vD 6 (some 199) ?_ rfl rfl (by kernel_rfl) (fun _ _ _ h => h) rfl (fun wz hwz => ?_) ?_
         rotate_left
         ·go_simp; try (with_reducible rfl)
         simp only [Zp, Zq, Zr, Zs]
         refine WpG.done (by kernel_rfl) (fun w40 hb40 => ?_)
         (try simp only [List.drop_succ_cons]); (try simp only [List.drop_zero]); (try simp only [Nat.reduceSub]); (try simp only [List.take_succ_cons]); (try simp only [List.take_zero])
         have hP40 := hP9.call hb40
         have hM40 := hMg.call hb40
         have hcT := hP40.c.lt
         have hmn := hP40.lt
         have hE40 : eb9 < w40.heap.size ∧ w40.rangeAt eb9 eo9 (entL eid et pu sh ec) := ⟨Nat.lt_of_lt_of_le hEL.1 hb40.size, rangeAt_call hEL.2 hb40⟩
         clear g0 g1 g2 g3 g4 g5 g6 g7 HLI HLO hneq hEL hb40 hP9 hMg
         have hrt := hP40.d.cell 0 _ rfl
         have hrl := hP40.d.lt
         cases d0 with
         | true =>
          have hRV := hP40.c.recvDup0 (job := job) (start := start) (many := many) (code := code) (c := ce) hsum heid hE40 hneb (by omega)
          go_upto_region 55 with fail
          refine wp_region_lit ?_
          refine wpList_valD (some 204) rfl rfl (by (go_simp; first | with_reducible rfl | exact ⟨rfl, rfl⟩ | (trace_state; fail))) ?_
          simp only [Zp, Zq, Zr, Zs]
          refine wpList_valD (some 205) rfl rfl (by (go_simp; first | with_reducible rfl | exact ⟨rfl, rfl⟩ | (trace_state; fail))) ?_
          simp only [Zp, Zq, Zr, Zs]
          refine wpList_valD (some 206) rfl rfl (exec_load rfl (by kernel_rfl) (hM40.loadM hsum)) ?_
          simp only [Zp, Zq, Zr, Zs]
          refine wpList_callD (some 207) rfl rfl 17 _ ?_ (hRV) ?_
          ·go_simp; try (with_reducible rfl)
          rintro e w30 ⟨rfl, hb30⟩
          refine ⟨_, rfl, ?_⟩
          simp only [Zp, Zq, Zr, Zs]
          have HP30 := Lib.hid (hP40.call hb30)
          refine wpList_valD (some 208) rfl rfl (by (go_simp; first | with_reducible rfl | exact ⟨rfl, rfl⟩ | (trace_state; fail))) ?_
          simp only [Zp, Zq, Zr, Zs]
          refine wpList_valD (some 209) rfl rfl (by (go_simp; first | with_reducible rfl | exact ⟨rfl, rfl⟩ | (trace_state; fail))) ?_
          simp only [Zp, Zq, Zr, Zs]
          clear hRV hb30 hM40 hP40
          go_wp2_with fail
          go_roundw
          case rel => exact ⟨k + 1, now, due, wait, tries, true, d1, k0, k1, by omega, by omega, by go_num, rfl, rfl, rfl, rfl, ⟨by omega, by omega⟩, hwait, ⟨by omega, by omega⟩, HP30.out⟩
          case measure => simp [intOf]; omega
         | false =>
          go_upto_region 46 with fail
          clear hrt hrl
          obtain ⟨l1, l2, l3, l4, l5⟩ := hP40.lt
          have HT : Hid (∀ wz, Exc (fun q => q = T) w40.heap.size w40 wz → wz.cell? ⟨mb, 21, none⟩ = some (.slice (some ⟨eb9, eo9, none⟩) 1 ce) ∧ wz.cell? ⟨eb9, eo9 + 19, none⟩ = some (.int .i64 ec)) := Lib.hid fun wz h => ⟨((hM40.exc (fun e : mb = T => by omega) h).msg hsum).2.2.2.2.2.1, (rangeAt_ent (rangeAt_exc hE40.2 (fun e : eb9 = T => by omega) h) heid).2.2.2⟩
          have hd0 : Vs w40 T [.bool false, .bool d1] := hP40.d
          refine region_X (fun wz => Exc (fun q => q = T) w40.heap.size w40 wz) (fun wz => Exc (fun q => q = T) w40.heap.size w40 wz ∧ Vs wz T [.bool false, .bool d1]) (fun _ h => h.1) (fun _ _ h hb => ⟨h.1.trans ((exc_of hb).mono h.1.size), h.2.call hb⟩) ⟨exc_of ((Below.refl _ _).drew), hd0.drew⟩ (n := 10) (m := 11) (f := 10) (by kernel_rfl) (by kernel_rfl) rfl ?_
          refine WpX.vD 0 (some 166) ?_ rfl rfl (by kernel_rfl) (fun _ _ _ h => h) rfl (fun wz hwz => ?_) ?_
          rotate_left
          ·go_simp; try (with_reducible rfl)
          simp only [Zp, Zq, Zr, Zs]
          refine WpX.vD 1 (some 167) ?_ rfl rfl (by kernel_rfl) (fun _ _ _ h => h) rfl (fun wz hwz => ?_) ?_
          rotate_left
          ·go_simp; try (with_reducible rfl)
          simp only [Zp, Zq, Zr, Zs]
          refine WpX.vD 2 (some 168) ?_ rfl rfl (by kernel_rfl) (fun _ _ _ h => h) rfl (fun wz hwz => ?_) ?_
          rotate_left
          ·go_simp; try (with_reducible rfl)
          simp only [Zp, Zq, Zr, Zs]
          refine WpX.vD 3 (some 169) ?_ rfl rfl (by kernel_rfl) (fun _ _ _ h => h) rfl (fun wz hwz => ?_) ?_
          rotate_left
          ·(have q := (HT.out wz hwz).1; go_simp; try (with_reducible rfl))
          simp only [Zp, Zq, Zr, Zs]
          refine WpX.vD 4 (some 170) ?_ rfl rfl (by kernel_rfl) (fun _ _ _ h => h) rfl (fun wz hwz => ?_) ?_
          rotate_left
          ·go_simp; try (with_reducible rfl)
          simp only [Zp, Zq, Zr, Zs]
          refine WpX.vD 5 (some 171) ?_ rfl rfl (by kernel_rfl) (fun _ _ _ h => h) rfl (fun wz hwz => ?_) ?_
          rotate_left
          ·go_simp; try (with_reducible rfl)
          simp only [Zp, Zq, Zr, Zs]
          refine WpX.vD 6 (some 172) ?_ rfl rfl (by kernel_rfl) (fun _ _ _ h => h) rfl (fun wz hwz => ?_) ?_
          rotate_left
          ·(have q := (HT.out wz hwz).2; go_simp; try (with_reducible rfl))
          simp only [Zp, Zq, Zr, Zs]
          refine WpX.vD 7 (some 173) ?_ rfl rfl (by kernel_rfl) (fun _ _ _ h => h) rfl (fun wz hwz => ?_) ?_
          rotate_left
          ·go_simp; try (with_reducible rfl)
          simp only [Zp, Zq, Zr, Zs]
          refine WpX.oneSkip 8 none rfl rfl (by kernel_rfl) ((fun wz => Exc (fun q => q = T) w40.heap.size w40 wz)) ((fun wz => Exc (fun q => q = T) w40.heap.size w40 wz ∧ Vs wz T [.bool true, .bool d1])) ((fun _ h => h)) ((fun _ h => h.1)) ((fun _ _ h hb => ⟨h.1.trans ((exc_of hb).mono h.1.size), h.2.call hb⟩)) rfl (fun wz hS => ?_) ?_
          ·((have z0 := hS.2.cell 0 _ rfl; have z1 := hS.2.frz 0 (by simp); have z2 := hS.2.lt; exact ⟨_, by go_simp; try (with_reducible rfl), exc_sc hS.1 (.inl rfl) 0 (.bool true), hS.2.put 0 (by simp) (.bool true)⟩))
          simp only [Act.put]
          refine WpX.vD 9 (some 174) ?_ rfl rfl (by kernel_rfl) (fun _ _ _ h => h) rfl (fun wz hwz => ?_) ?_
          rotate_left
          ·go_simp; try (with_reducible rfl)
          simp only [Zp, Zq, Zr, Zs]
          refine WpX.done (by kernel_rfl) (fun w41 h41 => ?_)
          (try simp only [List.drop_succ_cons]); (try simp only [List.drop_zero]); (try simp only [Nat.reduceSub]); (try simp only [List.take_succ_cons]); (try simp only [List.take_zero])
          have hk41 := hP40.k.exc (fun e : kb = T => by omega) h41.1
          have z0 := hk41.cell 0 _ rfl
          have z1 := hk41.frz 0 (by simp)
          have z2 := hk41.lt
          have HX41 := Lib.hid h41.1
          have HD41 := Lib.hid h41.2
          clear h41 HT hd0
          go_upto_region 55 with fail
          clear z0 z1 z2
          have hx42 := exc_sc (S := fun q => q = kb) (exc_of (Below.refl w41.heap.size w41)) (.inl rfl) 0 (.int .i64 ec)
          have hk42 : Vs (w41.setCell ⟨kb, 0, none⟩ (.int .i64 ec)) kb [.int .i64 ec, .int .i64 k1] := hk41.put 0 (by simp) (.int .i64 ec)
          have hd42 := HD41.out.exc (fun e : T = kb => by omega) hx42
          have hi42 := (hP40.i.exc (fun e : w.heap.size = T => by omega) HX41.out).exc (fun e : w.heap.size = kb => by omega) hx42
          have hc42 := (hP40.c.exc (fun q h1 h2 (e : q = T) => by omega) HX41.out).exc (fun q h1 h2 (e : q = kb) => by omega) hx42
          have hM42 := (hM40.exc (fun e : mb = T => by omega) HX41.out).exc (fun e : mb = kb => by omega) hx42
          have hE42 : eb9 < (w41.setCell ⟨kb, 0, none⟩ (.int .i64 ec)).heap.size ∧ (w41.setCell ⟨kb, 0, none⟩ (.int .i64 ec)).rangeAt eb9 eo9 (entL eid et pu sh ec) := ⟨Nat.lt_of_lt_of_le (Nat.lt_of_lt_of_le hE40.1 HX41.out.size) hx42.size, rangeAt_exc (rangeAt_exc hE40.2 (fun e : eb9 = T => by omega) HX41.out) (fun e : eb9 = kb => by omega) hx42⟩
          have hb42 := (hP40.b.trans (Exc.below (HX41.out.mono hP40.b.size) (fun q hq (e : q = T) => by omega))).trans (Exc.below (hx42.mono (Nat.le_trans hP40.b.size HX41.out.size)) (fun q hq (e : q = kb) => by omega))
          have hT42 := Nat.le_trans (Nat.le_trans hP40.t HX41.out.size) hx42.size
          clear hP40 hM40 hE40 HX41 HD41 hk41 hx42
          generalize w41.setCell ⟨kb, 0, none⟩ (.int .i64 ec) = w42 at hk42 hd42 hi42 hc42 hM42 hE42 hb42 hT42 ⊢
          have hRV := hc42.recvOk0 (job := job) (start := start) (many := many) (code := code) (c := ce) hsum heid hE42 hneb (by omega)
          refine wp_region_lit ?_
          refine wpList_valD (some 204) rfl rfl (by (go_simp; first | with_reducible rfl | exact ⟨rfl, rfl⟩ | (trace_state; fail))) ?_
          simp only [Zp, Zq, Zr, Zs]
          refine wpList_valD (some 205) rfl rfl (by (go_simp; first | with_reducible rfl | exact ⟨rfl, rfl⟩ | (trace_state; fail))) ?_
          simp only [Zp, Zq, Zr, Zs]
          refine wpList_valD (some 206) rfl rfl (exec_load rfl (by kernel_rfl) (hM42.loadM hsum)) ?_
          simp only [Zp, Zq, Zr, Zs]
          refine wpList_callD (some 207) rfl rfl 17 _ ?_ (hRV) ?_
          ·go_simp; try (with_reducible rfl)
          rintro e w43 ⟨rfl, hc43, hx43⟩
          refine ⟨_, rfl, ?_⟩
          simp only [Zp, Zq, Zr, Zs]
          refine wpList_valD (some 208) rfl rfl (by (go_simp; first | with_reducible rfl | exact ⟨rfl, rfl⟩ | (trace_state; fail))) ?_
          simp only [Zp, Zq, Zr, Zs]
          refine wpList_valD (some 209) rfl rfl (by (go_simp; first | with_reducible rfl | exact ⟨rfl, rfl⟩ | (trace_state; fail))) ?_
          simp only [Zp, Zq, Zr, Zs]
          have HPN : Hid (CpK T cb T kb w.heap.size w w43 id n0 n1 n2 zs0 zs1 zs2 true d1 ec k1 due wait tries) := Lib.hid ⟨hc43, Nat.le_trans hT42 hx43.size, hd42.exc (fun e : T = cb => by omega) hx43, hk42.exc (fun e : kb = cb => by omega) hx43, hi42.exc (fun e : w.heap.size = cb => by omega) hx43, hb42.trans (Exc.below (hx43.mono hb42.size) (fun q hq (e : q = cb) => by omega)), l1, l2, l3, l4, l5⟩
          clear hRV hc42 hk42 hd42 hi42 hM42 hE42 hb42 hT42 hc43 hx43
          go_wp2_with fail
          go_roundw
          case rel => exact ⟨k + 1, now, due, wait, tries, true, d1, ec, k1, by omega, by omega, by go_num, rfl, rfl, rfl, rfl, ⟨by omega, by omega⟩, hwait, ⟨by omega, by omega⟩, HPN.out⟩
          case measure => simp [intOf]; omega
        ·skip
         have hneb : (eid == id) = false := beq_eq_false_iff_ne.mpr hne
         clear hne
         have hEL := hEn9
         obtain ⟨g0, g1, g2, g3, g4, g5, g6, g7⟩ := hMg.msg hsum
         go_upto_region 51 with fail
         have HLI : Hid (∀ wz, Below w9.heap.size w9 wz → (Instr.loadAt 34 (.pointer (some ⟨eb9, eo9, none⟩))).run Try.prog wz = .ok (.agg (cells8 eid).toArray) wz) := Lib.hid fun wz h => load_R (rangeAt_entId (rangeAt_call hEL.2 h) heid) Try.underlying34 rfl (by rw [cells8_length, heid]; exact size_id)
         have HLO : Hid (∀ wz, Below w9.heap.size w9 wz → (Instr.loadAt 34 (.pointer (some ⟨w.heap.size, 0, none⟩))).run Try.prog wz = .ok (.agg (cells8 id).toArray) wz) := Lib.hid fun wz h => (hP9.i.call h).loadId HID.out
         have hneq : ∀ wz, (Op.equalIn 10000 34 (.agg (cells8 eid).toArray) (.agg (cells8 id).toArray)).run Try.prog wz = .ok (eid == id) wz := fun wz => run_equalIn_16 9998 Try.underlying34 heid HID.out wz
         refine region_G (n := 7) (m := 8) (f := 7) (by kernel_rfl) (by kernel_rfl) rfl ?_
         refine WpG.vD 0 (some 193) ?_ rfl rfl (by kernel_rfl) (fun _ _ _ h => h) rfl (fun wz hwz => ?_) ?_
         rotate_left
         ·go_simp; try (with_reducible rfl)
         simp only [Zp, Zq, Zr, Zs]
         refine WpG.vD 1 (some 194) ?_ rfl rfl (by kernel_rfl) (fun _ _ _ h => h) rfl (fun wz hwz => ?_) ?_
         rotate_left
         ·(obtain ⟨hcz, hfz⟩ := bcell (hwz); go_simp; try (with_reducible rfl))
         simp only [Zp, Zq, Zr, Zs]
         refine WpG.vD 2 (some 195) ?_ rfl rfl (by kernel_rfl) (fun _ _ _ h => h) rfl (fun wz hwz => ?_) ?_
         rotate_left
         ·go_simp; try (with_reducible rfl)
         simp only [Zp, Zq, Zr, Zs]
         refine WpG.vD 3 (some 196) ?_ rfl rfl (by kernel_rfl) (fun _ _ _ h => h) rfl (fun wz hwz => ?_) ?_
         rotate_left
         ·go_simp; try (with_reducible rfl)
         simp only [Zp, Zq, Zr, Zs]
         refine WpG.vD 4 (some 197) ?_ rfl rfl (by kernel_rfl) (fun _ _ _ h => h) rfl (fun wz hwz => ?_) ?_
         rotate_left
         ·(refine Eq.trans (exec_load rfl (by kernel_rfl) (HLI.out wz hwz)) ?_; with_reducible rfl)
         simp only [Zp, Zq, Zr, Zs]
         refine WpG.vD 5 (some 198) ?_ rfl rfl (by kernel_rfl) (fun _ _ _ h => h) rfl (fun wz hwz => ?_) ?_
         rotate_left
         ·(refine Eq.trans (exec_load rfl (by kernel_rfl) (HLO.out wz hwz)) ?_; with_reducible rfl)
         simp only [Zp, Zq, Zr, Zs]
         refine WpG.vD 6 (some 199) ?_ rfl rfl (by kernel_rfl) (fun _ _ _ h => h) rfl (fun wz hwz => ?_) ?_
         rotate_left
         ·go_simp; try (with_reducible rfl)
         simp only [Zp, Zq, Zr, Zs]
         refine WpG.done (by kernel_rfl) (fun w40 hb40 => ?_)
         (try simp only [List.drop_succ_cons]); (try simp only [List.drop_zero]); (try simp only [Nat.reduceSub]); (try simp only [List.take_succ_cons]); (try simp only [List.take_zero])
         have hP40 := hP9.call hb40
         have hM40 := hMg.call hb40
         have hcT := hP40.c.lt
         have hmn := hP40.lt
         have hE40 : eb9 < w40.heap.size ∧ w40.rangeAt eb9 eo9 (entL eid et pu sh ec) := ⟨Nat.lt_of_lt_of_le hEL.1 hb40.size, rangeAt_call hEL.2 hb40⟩
         clear g0 g1 g2 g3 g4 g5 g6 g7 HLI HLO hneq hEL hb40 hP9 hMg
         have hRV := hP40.c.recvOth0 (job := job) (start := start) (many := many) (code := code) (c := ce) hsum heid hE40 hneb
         go_upto_region 55 with fail
         refine wp_region_lit ?_
         refine wpList_valD (some 204) rfl rfl (by (go_simp; first | with_reducible rfl | exact ⟨rfl, rfl⟩ | (trace_state; fail))) ?_
         simp only [Zp, Zq, Zr, Zs]
         refine wpList_valD (some 205) rfl rfl (by (go_simp; first | with_reducible rfl | exact ⟨rfl, rfl⟩ | (trace_state; fail))) ?_
         simp only [Zp, Zq, Zr, Zs]
         refine wpList_valD (some 206) rfl rfl (exec_load rfl (by kernel_rfl) (hM40.loadM hsum)) ?_
         simp only [Zp, Zq, Zr, Zs]
         refine wpList_callD (some 207) rfl rfl 17 _ ?_ (hRV) ?_
         ·go_simp; try (with_reducible rfl)
         rintro e w30 ⟨rfl, hb30⟩
         refine ⟨_, rfl, ?_⟩
         simp only [Zp, Zq, Zr, Zs]
         have HP30 := Lib.hid (hP40.call hb30)
         refine wpList_valD (some 208) rfl rfl (by (go_simp; first | with_reducible rfl | exact ⟨rfl, rfl⟩ | (trace_state; fail))) ?_
         simp only [Zp, Zq, Zr, Zs]
         refine wpList_valD (some 209) rfl rfl (by (go_simp; first | with_reducible rfl | exact ⟨rfl, rfl⟩ | (trace_state; fail))) ?_
         simp only [Zp, Zq, Zr, Zs]
         clear hRV hb30 hM40 hP40
         go_wp2_with fail
         go_roundw
         case rel => exact ⟨k + 1, now, due, wait, tries, d0, d1, k0, k1, by omega, by omega, by go_num, rfl, rfl, rfl, rfl, ⟨by omega, by omega⟩, hwait, ⟨by omega, by omega⟩, HP30.out⟩
         case measure => simp [intOf]; omega
       ·skip
        by_cases hne : eid = id
        ·have hneb : (eid == id) = true := beq_iff_eq.mpr hne
         clear hne
         have hEL := hEn9
         obtain ⟨g0, g1, g2, g3, g4, g5, g6, g7⟩ := hMg.msg hsum
         go_upto_region 51 with fail
         have HLI : Hid (∀ wz, Below w9.heap.size w9 wz → (Instr.loadAt 34 (.pointer (some ⟨eb9, eo9, none⟩))).run Try.prog wz = .ok (.agg (cells8 eid).toArray) wz) := Lib.hid fun wz h => load_R (rangeAt_entId (rangeAt_call hEL.2 h) heid) Try.underlying34 rfl (by rw [cells8_length, heid]; exact size_id)
         have HLO : Hid (∀ wz, Below w9.heap.size w9 wz → (Instr.loadAt 34 (.pointer (some ⟨w.heap.size, 0, none⟩))).run Try.prog wz = .ok (.agg (cells8 id).toArray) wz) := Lib.hid fun wz h => (hP9.i.call h).loadId HID.out
         have hneq : ∀ wz, (Op.equalIn 10000 34 (.agg (cells8 eid).toArray) (.agg (cells8 id).toArray)).run Try.prog wz = .ok (eid == id) wz := fun wz => run_equalIn_16 9998 Try.underlying34 heid HID.out wz
         refine region_G (n := 7) (m := 8) (f := 7) (by kernel_rfl) (by kernel_rfl) rfl ?_
         refine WpG.vD 0 (some 193) ?_ rfl rfl (by kernel_rfl) (fun _ _ _ h => h) rfl (fun wz hwz => ?_) ?_
         rotate_left
         ·go_simp; try (with_reducible rfl)
         simp only [Zp, Zq, Zr, Zs]
         refine WpG.vD 1 (some 194) ?_ rfl rfl (by kernel_rfl) (fun _ _ _ h => h) rfl (fun wz hwz => ?_) ?_
         rotate_left
         ·(obtain ⟨hcz, hfz⟩ := bcell (hwz); go_simp; try (with_reducible rfl))
         simp only [Zp, Zq, Zr, Zs]
         refine WpG.vD 2 (some 195) ?_ rfl rfl (by kernel_rfl) (fun _ _ _ h => h) rfl (fun wz hwz => ?_) ?_
         rotate_left
         ·go_simp; try (with_reducible rfl)
         simp only [Zp, Zq, Zr, Zs]
         refine WpG.vD 3 (some 196) ?_ rfl rfl (by kernel_rfl) (fun _ _ _ h => h) rfl (fun wz hwz => ?_) ?_
         rotate_left
         ·go_simp; try (with_reducible rfl)
         simp only [Zp, Zq, Zr, Zs]
         refine WpG.vD 4 (some 197) ?_ rfl rfl (by kernel_rfl) (fun _ _ _ h => h) rfl (fun wz hwz => ?_) ?_
         rotate_left
         ·(refine Eq.trans (exec_load rfl (by kernel_rfl) (HLI.out wz hwz)) ?_; with_reducible rfl)
         simp only [Zp, Zq, Zr, Zs]
         refine WpG.vD 5 (some 198) ?_ rfl rfl (by kernel_rfl) (fun _ _ _ h => h) rfl (fun wz hwz => ?_) ?_
         rotate_left
         ·(refine Eq.trans (exec_load rfl (by kernel_rfl) (HLO.out wz hwz)) ?_; with_reducible rfl)
         simp only [Zp, Zq, Zr, Zs]
         refine WpG.vD 6 (some 199) ?_ rfl rfl (by kernel_rfl) (fun _ _ _ h => h) rfl (fun wz hwz => ?_) ?_
         rotate_left
         ·go_simp; try (with_reducible rfl)
         simp only [Zp, Zq, Zr, Zs]
         refine WpG.done (by kernel_rfl) (fun w40 hb40 => ?_)
         (try simp only [List.drop_succ_cons]); (try simp only [List.drop_zero]); (try simp only [Nat.reduceSub]); (try simp only [List.take_succ_cons]); (try simp only [List.take_zero])
         have hP40 := hP9.call hb40
         have hM40 := hMg.call hb40
         have hcT := hP40.c.lt
         have hmn := hP40.lt
         have hE40 : eb9 < w40.heap.size ∧ w40.rangeAt eb9 eo9 (entL eid et pu sh ec) := ⟨Nat.lt_of_lt_of_le hEL.1 hb40.size, rangeAt_call hEL.2 hb40⟩
         clear g0 g1 g2 g3 g4 g5 g6 g7 HLI HLO hneq hEL hb40 hP9 hMg
         have hrt := hP40.d.cell 1 _ rfl
         have hrl := hP40.d.lt
         cases d1 with
         | true =>
          have hRV := hP40.c.recvDup1 (job := job) (start := start) (many := many) (code := code) (c := ce) hsum heid hE40 hneb (by omega)
          go_upto_region 55 with fail
          refine wp_region_lit ?_
          refine wpList_valD (some 204) rfl rfl (by (go_simp; first | with_reducible rfl | exact ⟨rfl, rfl⟩ | (trace_state; fail))) ?_
          simp only [Zp, Zq, Zr, Zs]
          refine wpList_valD (some 205) rfl rfl (by (go_simp; first | with_reducible rfl | exact ⟨rfl, rfl⟩ | (trace_state; fail))) ?_
          simp only [Zp, Zq, Zr, Zs]
          refine wpList_valD (some 206) rfl rfl (exec_load rfl (by kernel_rfl) (hM40.loadM hsum)) ?_
          simp only [Zp, Zq, Zr, Zs]
          refine wpList_callD (some 207) rfl rfl 17 _ ?_ (hRV) ?_
          ·go_simp; try (with_reducible rfl)
          rintro e w30 ⟨rfl, hb30⟩
          refine ⟨_, rfl, ?_⟩
          simp only [Zp, Zq, Zr, Zs]
          have HP30 := Lib.hid (hP40.call hb30)
          refine wpList_valD (some 208) rfl rfl (by (go_simp; first | with_reducible rfl | exact ⟨rfl, rfl⟩ | (trace_state; fail))) ?_
          simp only [Zp, Zq, Zr, Zs]
          refine wpList_valD (some 209) rfl rfl (by (go_simp; first | with_reducible rfl | exact ⟨rfl, rfl⟩ | (trace_state; fail))) ?_
          simp only [Zp, Zq, Zr, Zs]
          clear hRV hb30 hM40 hP40
          go_wp2_with fail
          go_roundw
          case rel => exact ⟨k + 1, now, due, wait, tries, d0, true, k0, k1, by omega, by omega, by go_num, rfl, rfl, rfl, rfl, ⟨by omega, by omega⟩, hwait, ⟨by omega, by omega⟩, HP30.out⟩
          case measure => simp [intOf]; omega
         | false =>
          go_upto_region 46 with fail
          clear hrt hrl
          obtain ⟨l1, l2, l3, l4, l5⟩ := hP40.lt
          have HT : Hid (∀ wz, Exc (fun q => q = T) w40.heap.size w40 wz → wz.cell? ⟨mb, 21, none⟩ = some (.slice (some ⟨eb9, eo9, none⟩) 1 ce) ∧ wz.cell? ⟨eb9, eo9 + 19, none⟩ = some (.int .i64 ec)) := Lib.hid fun wz h => ⟨((hM40.exc (fun e : mb = T => by omega) h).msg hsum).2.2.2.2.2.1, (rangeAt_ent (rangeAt_exc hE40.2 (fun e : eb9 = T => by omega) h) heid).2.2.2⟩
          have hd0 : Vs w40 T [.bool d0, .bool false] := hP40.d
          refine region_X (fun wz => Exc (fun q => q = T) w40.heap.size w40 wz) (fun wz => Exc (fun q => q = T) w40.heap.size w40 wz ∧ Vs wz T [.bool d0, .bool false]) (fun _ h => h.1) (fun _ _ h hb => ⟨h.1.trans ((exc_of hb).mono h.1.size), h.2.call hb⟩) ⟨exc_of ((Below.refl _ _).drew), hd0.drew⟩ (n := 10) (m := 11) (f := 10) (by kernel_rfl) (by kernel_rfl) rfl ?_
          refine WpX.vD 0 (some 166) ?_ rfl rfl (by kernel_rfl) (fun _ _ _ h => h) rfl (fun wz hwz => ?_) ?_
          rotate_left
          ·go_simp; try (with_reducible rfl)
          simp only [Zp, Zq, Zr, Zs]
          refine WpX.vD 1 (some 167) ?_ rfl rfl (by kernel_rfl) (fun _ _ _ h => h) rfl (fun wz hwz => ?_) ?_
          rotate_left
          ·go_simp; try (with_reducible rfl)
          simp only [Zp, Zq, Zr, Zs]
          refine WpX.vD 2 (some 168) ?_ rfl rfl (by kernel_rfl) (fun _ _ _ h => h) rfl (fun wz hwz => ?_) ?_
          rotate_left
          ·go_simp; try (with_reducible rfl)
          simp only [Zp, Zq, Zr, Zs]
          refine WpX.vD 3 (some 169) ?_ rfl rfl (by kernel_rfl) (fun _ _ _ h => h) rfl (fun wz hwz => ?_) ?_
          rotate_left
          ·(have q := (HT.out wz hwz).1; go_simp; try (with_reducible rfl))
          simp only [Zp, Zq, Zr, Zs]
          refine WpX.vD 4 (some 170) ?_ rfl rfl (by kernel_rfl) (fun _ _ _ h => h) rfl (fun wz hwz => ?_) ?_
          rotate_left
          ·go_simp; try (with_reducible rfl)
          simp only [Zp, Zq, Zr, Zs]
          refine WpX.vD 5 (some 171) ?_ rfl rfl (by kernel_rfl) (fun _ _ _ h => h) rfl (fun wz hwz => ?_) ?_
          rotate_left
          ·go_simp; try (with_reducible rfl)
          simp only [Zp, Zq, Zr, Zs]
          refine WpX.vD 6 (some 172) ?_ rfl rfl (by kernel_rfl) (fun _ _ _ h => h) rfl (fun wz hwz => ?_) ?_
          rotate_left
          ·(have q := (HT.out wz hwz).2; go_simp; try (with_reducible rfl))
          simp only [Zp, Zq, Zr, Zs]
          refine WpX.vD 7 (some 173) ?_ rfl rfl (by kernel_rfl) (fun _ _ _ h => h) rfl (fun wz hwz => ?_) ?_
          rotate_left
          ·go_simp; try (with_reducible rfl)
          simp only [Zp, Zq, Zr, Zs]
          refine WpX.oneSkip 8 none rfl rfl (by kernel_rfl) ((fun wz => Exc (fun q => q = T) w40.heap.size w40 wz)) ((fun wz => Exc (fun q => q = T) w40.heap.size w40 wz ∧ Vs wz T [.bool d0, .bool true])) ((fun _ h => h)) ((fun _ h => h.1)) ((fun _ _ h hb => ⟨h.1.trans ((exc_of hb).mono h.1.size), h.2.call hb⟩)) rfl (fun wz hS => ?_) ?_
          ·((have z0 := hS.2.cell 1 _ rfl; have z1 := hS.2.frz 1 (by simp); have z2 := hS.2.lt; exact ⟨_, by go_simp; try (with_reducible rfl), exc_sc hS.1 (.inl rfl) 1 (.bool true), hS.2.put 1 (by simp) (.bool true)⟩))
          simp only [Act.put]
          refine WpX.vD 9 (some 174) ?_ rfl rfl (by kernel_rfl) (fun _ _ _ h => h) rfl (fun wz hwz => ?_) ?_
          rotate_left
          ·go_simp; try (with_reducible rfl)
          simp only [Zp, Zq, Zr, Zs]
          refine WpX.done (by kernel_rfl) (fun w41 h41 => ?_)
          (try simp only [List.drop_succ_cons]); (try simp only [List.drop_zero]); (try simp only [Nat.reduceSub]); (try simp only [List.take_succ_cons]); (try simp only [List.take_zero])
          have hk41 := hP40.k.exc (fun e : kb = T => by omega) h41.1
          have z0 := hk41.cell 1 _ rfl
          have z1 := hk41.frz 1 (by simp)
          have z2 := hk41.lt
          have HX41 := Lib.hid h41.1
          have HD41 := Lib.hid h41.2
          clear h41 HT hd0
          go_upto_region 55 with fail
          clear z0 z1 z2
          have hx42 := exc_sc (S := fun q => q = kb) (exc_of (Below.refl w41.heap.size w41)) (.inl rfl) 1 (.int .i64 ec)
          have hk42 : Vs (w41.setCell ⟨kb, 1, none⟩ (.int .i64 ec)) kb [.int .i64 k0, .int .i64 ec] := hk41.put 1 (by simp) (.int .i64 ec)
          have hd42 := HD41.out.exc (fun e : T = kb => by omega) hx42
          have hi42 := (hP40.i.exc (fun e : w.heap.size = T => by omega) HX41.out).exc (fun e : w.heap.size = kb => by omega) hx42
          have hc42 := (hP40.c.exc (fun q h1 h2 (e : q = T) => by omega) HX41.out).exc (fun q h1 h2 (e : q = kb) => by omega) hx42
          have hM42 := (hM40.exc (fun e : mb = T => by omega) HX41.out).exc (fun e : mb = kb => by omega) hx42
          have hE42 : eb9 < (w41.setCell ⟨kb, 1, none⟩ (.int .i64 ec)).heap.size ∧ (w41.setCell ⟨kb, 1, none⟩ (.int .i64 ec)).rangeAt eb9 eo9 (entL eid et pu sh ec) := ⟨Nat.lt_of_lt_of_le (Nat.lt_of_lt_of_le hE40.1 HX41.out.size) hx42.size, rangeAt_exc (rangeAt_exc hE40.2 (fun e : eb9 = T => by omega) HX41.out) (fun e : eb9 = kb => by omega) hx42⟩
          have hb42 := (hP40.b.trans (Exc.below (HX41.out.mono hP40.b.size) (fun q hq (e : q = T) => by omega))).trans (Exc.below (hx42.mono (Nat.le_trans hP40.b.size HX41.out.size)) (fun q hq (e : q = kb) => by omega))
          have hT42 := Nat.le_trans (Nat.le_trans hP40.t HX41.out.size) hx42.size
          clear hP40 hM40 hE40 HX41 HD41 hk41 hx42
          generalize w41.setCell ⟨kb, 1, none⟩ (.int .i64 ec) = w42 at hk42 hd42 hi42 hc42 hM42 hE42 hb42 hT42 ⊢
          have hRV := hc42.recvOk1 (job := job) (start := start) (many := many) (code := code) (c := ce) hsum heid hE42 hneb (by omega)
          refine wp_region_lit ?_
          refine wpList_valD (some 204) rfl rfl (by (go_simp; first | with_reducible rfl | exact ⟨rfl, rfl⟩ | (trace_state; fail))) ?_
          simp only [Zp, Zq, Zr, Zs]
          refine wpList_valD (some 205) rfl rfl (by (go_simp; first | with_reducible rfl | exact ⟨rfl, rfl⟩ | (trace_state; fail))) ?_
          simp only [Zp, Zq, Zr, Zs]
          refine wpList_valD (some 206) rfl rfl (exec_load rfl (by kernel_rfl) (hM42.loadM hsum)) ?_
          simp only [Zp, Zq, Zr, Zs]
          refine wpList_callD (some 207) rfl rfl 17 _ ?_ (hRV) ?_
          ·go_simp; try (with_reducible rfl)
          rintro e w43 ⟨rfl, hc43, hx43⟩
          refine ⟨_, rfl, ?_⟩
          simp only [Zp, Zq, Zr, Zs]
          refine wpList_valD (some 208) rfl rfl (by (go_simp; first | with_reducible rfl | exact ⟨rfl, rfl⟩ | (trace_state; fail))) ?_
          simp only [Zp, Zq, Zr, Zs]
          refine wpList_valD (some 209) rfl rfl (by (go_simp; first | with_reducible rfl | exact ⟨rfl, rfl⟩ | (trace_state; fail))) ?_
          simp only [Zp, Zq, Zr, Zs]
          have HPN : Hid (CpK T cb T kb w.heap.size w w43 id n0 n1 n2 zs0 zs1 zs2 d0 true k0 ec due wait tries) := Lib.hid ⟨hc43, Nat.le_trans hT42 hx43.size, hd42.exc (fun e : T = cb => by omega) hx43, hk42.exc (fun e : kb = cb => by omega) hx43, hi42.exc (fun e : w.heap.size = cb => by omega) hx43, hb42.trans (Exc.below (hx43.mono hb42.size) (fun q hq (e : q = cb) => by omega)), l1, l2, l3, l4, l5⟩
          clear hRV hc42 hk42 hd42 hi42 hM42 hE42 hb42 hT42 hc43 hx43
          go_wp2_with fail
          go_roundw
          case rel => exact ⟨k + 1, now, due, wait, tries, d0, true, k0, ec, by omega, by omega, by go_num, rfl, rfl, rfl, rfl, ⟨by omega, by omega⟩, hwait, ⟨by omega, by omega⟩, HPN.out⟩
          case measure => simp [intOf]; omega
        ·skip
         have hneb : (eid == id) = false := beq_eq_false_iff_ne.mpr hne
         clear hne
         have hEL := hEn9
         obtain ⟨g0, g1, g2, g3, g4, g5, g6, g7⟩ := hMg.msg hsum
         go_upto_region 51 with fail
         have HLI : Hid (∀ wz, Below w9.heap.size w9 wz → (Instr.loadAt 34 (.pointer (some ⟨eb9, eo9, none⟩))).run Try.prog wz = .ok (.agg (cells8 eid).toArray) wz) := Lib.hid fun wz h => load_R (rangeAt_entId (rangeAt_call hEL.2 h) heid) Try.underlying34 rfl (by rw [cells8_length, heid]; exact size_id)
         have HLO : Hid (∀ wz, Below w9.heap.size w9 wz → (Instr.loadAt 34 (.pointer (some ⟨w.heap.size, 0, none⟩))).run Try.prog wz = .ok (.agg (cells8 id).toArray) wz) := Lib.hid fun wz h => (hP9.i.call h).loadId HID.out
         have hneq : ∀ wz, (Op.equalIn 10000 34 (.agg (cells8 eid).toArray) (.agg (cells8 id).toArray)).run Try.prog wz = .ok (eid == id) wz := fun wz => run_equalIn_16 9998 Try.underlying34 heid HID.out wz
         refine region_G (n := 7) (m := 8) (f := 7) (by kernel_rfl) (by kernel_rfl) rfl ?_
         refine WpG.vD 0 (some 193) ?_ rfl rfl (by kernel_rfl) (fun _ _ _ h => h) rfl (fun wz hwz => ?_) ?_
         rotate_left
         ·go_simp; try (with_reducible rfl)
         simp only [Zp, Zq, Zr, Zs]
         refine WpG.vD 1 (some 194) ?_ rfl rfl (by kernel_rfl) (fun _ _ _ h => h) rfl (fun wz hwz => ?_) ?_
         rotate_left
         ·(obtain ⟨hcz, hfz⟩ := bcell (hwz); go_simp; try (with_reducible rfl))
         simp only [Zp, Zq, Zr, Zs]
         refine WpG.vD 2 (some 195) ?_ rfl rfl (by kernel_rfl) (fun _ _ _ h => h) rfl (fun wz hwz => ?_) ?_
         rotate_left
         ·go_simp; try (with_reducible rfl)
         simp only [Zp, Zq, Zr, Zs]
         refine WpG.vD 3 (some 196) ?_ rfl rfl (by kernel_rfl) (fun _ _ _ h => h) rfl (fun wz hwz => ?_) ?_
         rotate_left
         ·go_simp; try (with_reducible rfl)
         simp only [Zp, Zq, Zr, Zs]
         refine WpG.vD 4 (some 197) ?_ rfl rfl (by kernel_rfl) (fun _ _ _ h => h) rfl (fun wz hwz => ?_) ?_
         rotate_left
         ·(refine Eq.trans (exec_load rfl (by kernel_rfl) (HLI.out wz hwz)) ?_; with_reducible rfl)
         simp only [Zp, Zq, Zr, Zs]
         refine WpG.vD 5 (some 198) ?_ rfl rfl (by kernel_rfl) (fun _ _ _ h => h) rfl (fun wz hwz => ?_) ?_
         rotate_left
         ·(refine Eq.trans (exec_load rfl (by kernel_rfl) (HLO.out wz hwz)) ?_; with_reducible rfl)
         simp only [Zp, Zq, Zr, Zs]
         refine WpG.vD 6 (some 199) ?_ rfl rfl (by kernel_rfl) (fun _ _ _ h => h) rfl (fun wz hwz => ?_) ?_
         rotate_left
         ·go_simp; try (with_reducible rfl)
         simp only [Zp, Zq, Zr, Zs]
         refine WpG.done (by kernel_rfl) (fun w40 hb40 => ?_)
         (try simp only [List.drop_succ_cons]); (try simp only [List.drop_zero]); (try simp only [Nat.reduceSub]); (try simp only [List.take_succ_cons]); (try simp only [List.take_zero])
         have hP40 := hP9.call hb40
         have hM40 := hMg.call hb40
         have hcT := hP40.c.lt
         have hmn := hP40.lt
         have hE40 : eb9 < w40.heap.size ∧ w40.rangeAt eb9 eo9 (entL eid et pu sh ec) := ⟨Nat.lt_of_lt_of_le hEL.1 hb40.size, rangeAt_call hEL.2 hb40⟩
         clear g0 g1 g2 g3 g4 g5 g6 g7 HLI HLO hneq hEL hb40 hP9 hMg
         have hRV := hP40.c.recvOth1 (job := job) (start := start) (many := many) (code := code) (c := ce) hsum heid hE40 hneb
         go_upto_region 55 with fail
         refine wp_region_lit ?_
         refine wpList_valD (some 204) rfl rfl (by (go_simp; first | with_reducible rfl | exact ⟨rfl, rfl⟩ | (trace_state; fail))) ?_
         simp only [Zp, Zq, Zr, Zs]
         refine wpList_valD (some 205) rfl rfl (by (go_simp; first | with_reducible rfl | exact ⟨rfl, rfl⟩ | (trace_state; fail))) ?_
         simp only [Zp, Zq, Zr, Zs]
         refine wpList_valD (some 206) rfl rfl (exec_load rfl (by kernel_rfl) (hM40.loadM hsum)) ?_
         simp only [Zp, Zq, Zr, Zs]
         refine wpList_callD (some 207) rfl rfl 17 _ ?_ (hRV) ?_
         ·go_simp; try (with_reducible rfl)
         rintro e w30 ⟨rfl, hb30⟩
         refine ⟨_, rfl, ?_⟩
         simp only [Zp, Zq, Zr, Zs]
         have HP30 := Lib.hid (hP40.call hb30)
         refine wpList_valD (some 208) rfl rfl (by (go_simp; first | with_reducible rfl | exact ⟨rfl, rfl⟩ | (trace_state; fail))) ?_
         simp only [Zp, Zq, Zr, Zs]
         refine wpList_valD (some 209) rfl rfl (by (go_simp; first | with_reducible rfl | exact ⟨rfl, rfl⟩ | (trace_state; fail))) ?_
         simp only [Zp, Zq, Zr, Zs]
         clear hRV hb30 hM40 hP40
         go_wp2_with fail
         go_roundw
         case rel => exact ⟨k + 1, now, due, wait, tries, d0, d1, k0, k1, by omega, by omega, by go_num, rfl, rfl, rfl, rfl, ⟨by omega, by omega⟩, hwait, ⟨by omega, by omega⟩, HP30.out⟩
         case measure => simp [intOf]; omega
     ·repeat (rename Exit → Act → World → Prop => QB; clear_value (hQB : QB = _); subst hQB)
      as_aux_lemma =>
      have ha8b : (a % 9 == 8) = false := by simpa using ha8
      go_upto_region 45 with fail
      clear a0 a1 a2 a3 a4 a5 ha8
      by_cases hf2 : frm = 2
      ·subst hf2
       have hRV := hP8.c.recvNo (frm := 2) (kind := 7) (job := 0) (start := 0) (many := 0) (sum := z16) (code := 0) (A := some ⟨eb, 0, none⟩) (N := 1) (c := 1) z16_length (.inl ⟨by decide, by decide⟩)
       rw [if_pos ⟨by decide, by decide⟩] at hRV
       obtain ⟨g0, g1, g2, g3, g4, g5, g6, g7⟩ := hMg.msg z16_length
       go_upto_region 55 with fail
       refine wp_region_lit ?_
       refine wpList_valD (some 204) rfl rfl (by (go_simp; first | with_reducible rfl | exact ⟨rfl, rfl⟩ | (trace_state; fail))) ?_
       simp only [Zp, Zq, Zr, Zs]
       refine wpList_valD (some 205) rfl rfl (by (go_simp; first | with_reducible rfl | exact ⟨rfl, rfl⟩ | (trace_state; fail))) ?_
       simp only [Zp, Zq, Zr, Zs]
       refine wpList_valD (some 206) rfl rfl (exec_load rfl (by kernel_rfl) (hMg.loadM z16_length)) ?_
       simp only [Zp, Zq, Zr, Zs]
       refine wpList_callD (some 207) rfl rfl 17 _ ?_ (hRV) ?_
       ·go_simp; try (with_reducible rfl)
       rintro e w30 ⟨rfl, hb30⟩
       refine ⟨_, rfl, ?_⟩
       simp only [Zp, Zq, Zr, Zs]
       have HP30 := Lib.hid (hP8.call hb30)
       refine wpList_valD (some 208) rfl rfl (by (go_simp; first | with_reducible rfl | exact ⟨rfl, rfl⟩ | (trace_state; fail))) ?_
       simp only [Zp, Zq, Zr, Zs]
       refine wpList_valD (some 209) rfl rfl (by (go_simp; first | with_reducible rfl | exact ⟨rfl, rfl⟩ | (trace_state; fail))) ?_
       simp only [Zp, Zq, Zr, Zs]
       clear hRV hb30 hMg hP8
       go_wp2_with fail
       go_roundw
       case rel => exact ⟨k + 1, now, due, wait, tries, d0, d1, k0, k1, by omega, by omega, by go_num, rfl, rfl, rfl, rfl, ⟨by omega, by omega⟩, hwait, ⟨by omega, by omega⟩, HP30.out⟩
       case measure => simp [intOf]; omega
      ·by_cases hf0 : frm = 0
       ·subst hf0
        by_cases hne : id = id
        ·have hneb : (id == id) = true := beq_iff_eq.mpr hne
         clear hne
         have hEL := (And.intro hEn.lt hEn.rangeW)
         obtain ⟨g0, g1, g2, g3, g4, g5, g6, g7⟩ := hMg.msg z16_length
         go_upto_region 51 with fail
         have HLI : Hid (∀ wz, Below w8.heap.size w8 wz → (Instr.loadAt 34 (.pointer (some ⟨eb, 0, none⟩))).run Try.prog wz = .ok (.agg (cells8 id).toArray) wz) := Lib.hid fun wz h => load_R (rangeAt_entId (rangeAt_call hEL.2 h) HID.out) Try.underlying34 rfl (by rw [cells8_length, HID.out]; exact size_id)
         have HLO : Hid (∀ wz, Below w8.heap.size w8 wz → (Instr.loadAt 34 (.pointer (some ⟨w.heap.size, 0, none⟩))).run Try.prog wz = .ok (.agg (cells8 id).toArray) wz) := Lib.hid fun wz h => (hP8.i.call h).loadId HID.out
         have hneq : ∀ wz, (Op.equalIn 10000 34 (.agg (cells8 id).toArray) (.agg (cells8 id).toArray)).run Try.prog wz = .ok (id == id) wz := fun wz => run_equalIn_16 9998 Try.underlying34 HID.out HID.out wz
         refine region_G (n := 7) (m := 8) (f := 7) (by kernel_rfl) (by kernel_rfl) rfl ?_
         refine WpG.vD 0 (some 193) ?_ rfl rfl (by kernel_rfl) (fun _ _ _ h => h) rfl (fun wz hwz => ?_) ?_
         rotate_left
         ·go_simp; try (with_reducible rfl)
         simp only [Zp, Zq, Zr, Zs]
         refine WpG.vD 1 (some 194) ?_ rfl rfl (by kernel_rfl) (fun _ _ _ h => h) rfl (fun wz hwz => ?_) ?_
         rotate_left
         ·(obtain ⟨hcz, hfz⟩ := bcell (hwz); go_simp; try (with_reducible rfl))
         simp only [Zp, Zq, Zr, Zs]
         refine WpG.vD 2 (some 195) ?_ rfl rfl (by kernel_rfl) (fun _ _ _ h => h) rfl (fun wz hwz => ?_) ?_
         rotate_left
         ·go_simp; try (with_reducible rfl)
         simp only [Zp, Zq, Zr, Zs]
         refine WpG.vD 3 (some 196) ?_ rfl rfl (by kernel_rfl) (fun _ _ _ h => h) rfl (fun wz hwz => ?_) ?_
         rotate_left
         ·go_simp; try (with_reducible rfl)
         simp only [Zp, Zq, Zr, Zs]
         refine WpG.vD 4 (some 197) ?_ rfl rfl (by kernel_rfl) (fun _ _ _ h => h) rfl (fun wz hwz => ?_) ?_
         rotate_left
         ·(refine Eq.trans (exec_load rfl (by kernel_rfl) (HLI.out wz hwz)) ?_; with_reducible rfl)
         simp only [Zp, Zq, Zr, Zs]
         refine WpG.vD 5 (some 198) ?_ rfl rfl (by kernel_rfl) (fun _ _ _ h => h) rfl (fun wz hwz => ?_) ?_
         rotate_left
         ·(refine Eq.trans (exec_load rfl (by kernel_rfl) (HLO.out wz hwz)) ?_; with_reducible rfl)
         simp only [Zp, Zq, Zr, Zs]
         refine WpG.vD 6 (some 199) ?_ rfl rfl (by kernel_rfl) (fun _ _ _ h => h) rfl (fun wz hwz => ?_) ?_
         rotate_left
         ·go_simp; try (with_reducible rfl)
         simp only [Zp, Zq, Zr, Zs]
         refine WpG.done (by kernel_rfl) (fun w40 hb40 => ?_)
         (try simp only [List.drop_succ_cons]); (try simp only [List.drop_zero]); (try simp only [Nat.reduceSub]); (try simp only [List.take_succ_cons]); (try simp only [List.take_zero])
         have hP40 := hP8.call hb40
         have hM40 := hMg.call hb40
         have hcT := hP40.c.lt
         have hmn := hP40.lt
         have hE40 : eb < w40.heap.size ∧ w40.rangeAt eb 0 (entL id 0 (.slice none 0 0) (.slice none 0 0) cd) := ⟨Nat.lt_of_lt_of_le hEL.1 hb40.size, rangeAt_call hEL.2 hb40⟩
         clear g0 g1 g2 g3 g4 g5 g6 g7 HLI HLO hneq hEL hb40 hP8 hMg
         have hrt := hP40.d.cell 0 _ rfl
         have hrl := hP40.d.lt
         cases d0 with
         | true =>
          have hRV := hP40.c.recvDup0 (job := 0) (start := 0) (many := 0) (code := 0) (c := 1) z16_length HID.out hE40 hneb (by omega)
          go_upto_region 55 with fail
          refine wp_region_lit ?_
          refine wpList_valD (some 204) rfl rfl (by (go_simp; first | with_reducible rfl | exact ⟨rfl, rfl⟩ | (trace_state; fail))) ?_
          simp only [Zp, Zq, Zr, Zs]
          refine wpList_valD (some 205) rfl rfl (by (go_simp; first | with_reducible rfl | exact ⟨rfl, rfl⟩ | (trace_state; fail))) ?_
          simp only [Zp, Zq, Zr, Zs]
          refine wpList_valD (some 206) rfl rfl (exec_load rfl (by kernel_rfl) (hM40.loadM z16_length)) ?_
          simp only [Zp, Zq, Zr, Zs]
          refine wpList_callD (some 207) rfl rfl 17 _ ?_ (hRV) ?_
          ·go_simp; try (with_reducible rfl)
          rintro e w30 ⟨rfl, hb30⟩
          refine ⟨_, rfl, ?_⟩
          simp only [Zp, Zq, Zr, Zs]
          have HP30 := Lib.hid (hP40.call hb30)
          refine wpList_valD (some 208) rfl rfl (by (go_simp; first | with_reducible rfl | exact ⟨rfl, rfl⟩ | (trace_state; fail))) ?_
          simp only [Zp, Zq, Zr, Zs]
          refine wpList_valD (some 209) rfl rfl (by (go_simp; first | with_reducible rfl | exact ⟨rfl, rfl⟩ | (trace_state; fail))) ?_
          simp only [Zp, Zq, Zr, Zs]
          clear hRV hb30 hM40 hP40
          go_wp2_with fail
          go_roundw
          case rel => exact ⟨k + 1, now, due, wait, tries, true, d1, k0, k1, by omega, by omega, by go_num, rfl, rfl, rfl, rfl, ⟨by omega, by omega⟩, hwait, ⟨by omega, by omega⟩, HP30.out⟩
          case measure => simp [intOf]; omega
         | false =>
          go_upto_region 46 with fail
          clear hrt hrl
          obtain ⟨l1, l2, l3, l4, l5⟩ := hP40.lt
          have HT : Hid (∀ wz, Exc (fun q => q = T) w40.heap.size w40 wz → wz.cell? ⟨mb, 21, none⟩ = some (.slice (some ⟨eb, 0, none⟩) 1 1) ∧ wz.cell? ⟨eb, 0 + 19, none⟩ = some (.int .i64 cd)) := Lib.hid fun wz h => ⟨((hM40.exc (fun e : mb = T => by omega) h).msg z16_length).2.2.2.2.2.1, (rangeAt_ent (rangeAt_exc hE40.2 (fun e : eb = T => by omega) h) HID.out).2.2.2⟩
          have hd0 : Vs w40 T [.bool false, .bool d1] := hP40.d
          refine region_X (fun wz => Exc (fun q => q = T) w40.heap.size w40 wz) (fun wz => Exc (fun q => q = T) w40.heap.size w40 wz ∧ Vs wz T [.bool false, .bool d1]) (fun _ h => h.1) (fun _ _ h hb => ⟨h.1.trans ((exc_of hb).mono h.1.size), h.2.call hb⟩) ⟨exc_of ((Below.refl _ _).drew), hd0.drew⟩ (n := 10) (m := 11) (f := 10) (by kernel_rfl) (by kernel_rfl) rfl ?_
          refine WpX.vD 0 (some 166) ?_ rfl rfl (by kernel_rfl) (fun _ _ _ h => h) rfl (fun wz hwz => ?_) ?_
          rotate_left
          ·go_simp; try (with_reducible rfl)
          simp only [Zp, Zq, Zr, Zs]
          refine WpX.vD 1 (some 167) ?_ rfl rfl (by kernel_rfl) (fun _ _ _ h => h) rfl (fun wz hwz => ?_) ?_
          rotate_left
          ·go_simp; try (with_reducible rfl)
          simp only [Zp, Zq, Zr, Zs]
          refine WpX.vD 2 (some 168) ?_ rfl rfl (by kernel_rfl) (fun _ _ _ h => h) rfl (fun wz hwz => ?_) ?_
          rotate_left
          ·go_simp; try (with_reducible rfl)
          simp only [Zp, Zq, Zr, Zs]
          refine WpX.vD 3 (some 169) ?_ rfl rfl (by kernel_rfl) (fun _ _ _ h => h) rfl (fun wz hwz => ?_) ?_
          rotate_left
          ·(have q := (HT.out wz hwz).1; go_simp; try (with_reducible rfl))
          simp only [Zp, Zq, Zr, Zs]
          refine WpX.vD 4 (some 170) ?_ rfl rfl (by kernel_rfl) (fun _ _ _ h => h) rfl (fun wz hwz => ?_) ?_
          rotate_left
          ·go_simp; try (with_reducible rfl)
          simp only [Zp, Zq, Zr, Zs]
          refine WpX.vD 5 (some 171) ?_ rfl rfl (by kernel_rfl) (fun _ _ _ h => h) rfl (fun wz hwz => ?_) ?_
          rotate_left
          ·go_simp; try (with_reducible rfl)
          simp only [Zp, Zq, Zr, Zs]
          refine WpX.vD 6 (some 172) ?_ rfl rfl (by kernel_rfl) (fun _ _ _ h => h) rfl (fun wz hwz => ?_) ?_
          rotate_left
          ·(have q := (HT.out wz hwz).2; go_simp; try (with_reducible rfl))
          simp only [Zp, Zq, Zr, Zs]
          refine WpX.vD 7 (some 173) ?_ rfl rfl (by kernel_rfl) (fun _ _ _ h => h) rfl (fun wz hwz => ?_) ?_
          rotate_left
          ·go_simp; try (with_reducible rfl)
          simp only [Zp, Zq, Zr, Zs]
          refine WpX.oneSkip 8 none rfl rfl (by kernel_rfl) ((fun wz => Exc (fun q => q = T) w40.heap.size w40 wz)) ((fun wz => Exc (fun q => q = T) w40.heap.size w40 wz ∧ Vs wz T [.bool true, .bool d1])) ((fun _ h => h)) ((fun _ h => h.1)) ((fun _ _ h hb => ⟨h.1.trans ((exc_of hb).mono h.1.size), h.2.call hb⟩)) rfl (fun wz hS => ?_) ?_
          ·((have z0 := hS.2.cell 0 _ rfl; have z1 := hS.2.frz 0 (by simp); have z2 := hS.2.lt; exact ⟨_, by go_simp; try (with_reducible rfl), exc_sc hS.1 (.inl rfl) 0 (.bool true), hS.2.put 0 (by simp) (.bool true)⟩))
          simp only [Act.put]
          refine WpX.vD 9 (some 174) ?_ rfl rfl (by kernel_rfl) (fun _ _ _ h => h) rfl (fun wz hwz => ?_) ?_
          rotate_left
          ·go_simp; try (with_reducible rfl)
          simp only [Zp, Zq, Zr, Zs]
          refine WpX.done (by kernel_rfl) (fun w41 h41 => ?_)
          (try simp only [List.drop_succ_cons]); (try simp only [List.drop_zero]); (try simp only [Nat.reduceSub]); (try simp only [List.take_succ_cons]); (try simp only [List.take_zero])
          have hk41 := hP40.k.exc (fun e : kb = T => by omega) h41.1
          have z0 := hk41.cell 0 _ rfl
          have z1 := hk41.frz 0 (by simp)
          have z2 := hk41.lt
          have HX41 := Lib.hid h41.1
          have HD41 := Lib.hid h41.2
          clear h41 HT hd0
          go_upto_region 55 with fail
          clear z0 z1 z2
          have hx42 := exc_sc (S := fun q => q = kb) (exc_of (Below.refl w41.heap.size w41)) (.inl rfl) 0 (.int .i64 cd)
          have hk42 : Vs (w41.setCell ⟨kb, 0, none⟩ (.int .i64 cd)) kb [.int .i64 cd, .int .i64 k1] := hk41.put 0 (by simp) (.int .i64 cd)
          have hd42 := HD41.out.exc (fun e : T = kb => by omega) hx42
          have hi42 := (hP40.i.exc (fun e : w.heap.size = T => by omega) HX41.out).exc (fun e : w.heap.size = kb => by omega) hx42
          have hc42 := (hP40.c.exc (fun q h1 h2 (e : q = T) => by omega) HX41.out).exc (fun q h1 h2 (e : q = kb) => by omega) hx42
          have hM42 := (hM40.exc (fun e : mb = T => by omega) HX41.out).exc (fun e : mb = kb => by omega) hx42
          have hE42 : eb < (w41.setCell ⟨kb, 0, none⟩ (.int .i64 cd)).heap.size ∧ (w41.setCell ⟨kb, 0, none⟩ (.int .i64 cd)).rangeAt eb 0 (entL id 0 (.slice none 0 0) (.slice none 0 0) cd) := ⟨Nat.lt_of_lt_of_le (Nat.lt_of_lt_of_le hE40.1 HX41.out.size) hx42.size, rangeAt_exc (rangeAt_exc hE40.2 (fun e : eb = T => by omega) HX41.out) (fun e : eb = kb => by omega) hx42⟩
          have hb42 := (hP40.b.trans (Exc.below (HX41.out.mono hP40.b.size) (fun q hq (e : q = T) => by omega))).trans (Exc.below (hx42.mono (Nat.le_trans hP40.b.size HX41.out.size)) (fun q hq (e : q = kb) => by omega))
          have hT42 := Nat.le_trans (Nat.le_trans hP40.t HX41.out.size) hx42.size
          clear hP40 hM40 hE40 HX41 HD41 hk41 hx42
          generalize w41.setCell ⟨kb, 0, none⟩ (.int .i64 cd) = w42 at hk42 hd42 hi42 hc42 hM42 hE42 hb42 hT42 ⊢
          have hRV := hc42.recvOk0 (job := 0) (start := 0) (many := 0) (code := 0) (c := 1) z16_length HID.out hE42 hneb (by omega)
          refine wp_region_lit ?_
          refine wpList_valD (some 204) rfl rfl (by (go_simp; first | with_reducible rfl | exact ⟨rfl, rfl⟩ | (trace_state; fail))) ?_
          simp only [Zp, Zq, Zr, Zs]
          refine wpList_valD (some 205) rfl rfl (by (go_simp; first | with_reducible rfl | exact ⟨rfl, rfl⟩ | (trace_state; fail))) ?_
          simp only [Zp, Zq, Zr, Zs]
          refine wpList_valD (some 206) rfl rfl (exec_load rfl (by kernel_rfl) (hM42.loadM z16_length)) ?_
          simp only [Zp, Zq, Zr, Zs]
          refine wpList_callD (some 207) rfl rfl 17 _ ?_ (hRV) ?_
          ·go_simp; try (with_reducible rfl)
          rintro e w43 ⟨rfl, hc43, hx43⟩
          refine ⟨_, rfl, ?_⟩
          simp only [Zp, Zq, Zr, Zs]
          refine wpList_valD (some 208) rfl rfl (by (go_simp; first | with_reducible rfl | exact ⟨rfl, rfl⟩ | (trace_state; fail))) ?_
          simp only [Zp, Zq, Zr, Zs]
          refine wpList_valD (some 209) rfl rfl (by (go_simp; first | with_reducible rfl | exact ⟨rfl, rfl⟩ | (trace_state; fail))) ?_
          simp only [Zp, Zq, Zr, Zs]
          have HPN : Hid (CpK T cb T kb w.heap.size w w43 id n0 n1 n2 zs0 zs1 zs2 true d1 cd k1 due wait tries) := Lib.hid ⟨hc43, Nat.le_trans hT42 hx43.size, hd42.exc (fun e : T = cb => by omega) hx43, hk42.exc (fun e : kb = cb => by omega) hx43, hi42.exc (fun e : w.heap.size = cb => by omega) hx43, hb42.trans (Exc.below (hx43.mono hb42.size) (fun q hq (e : q = cb) => by omega)), l1, l2, l3, l4, l5⟩
          clear hRV hc42 hk42 hd42 hi42 hM42 hE42 hb42 hT42 hc43 hx43
          go_wp2_with fail
          go_roundw
          case rel => exact ⟨k + 1, now, due, wait, tries, true, d1, cd, k1, by omega, by omega, by go_num, rfl, rfl, rfl, rfl, ⟨by omega, by omega⟩, hwait, ⟨by omega, by omega⟩, HPN.out⟩
          case measure => simp [intOf]; omega
        ·exact absurd rfl hne
       ·obtain rfl : frm = 1 := by omega
        by_cases hne : id = id
        ·have hneb : (id == id) = true := beq_iff_eq.mpr hne
         clear hne
         have hEL := (And.intro hEn.lt hEn.rangeW)
         obtain ⟨g0, g1, g2, g3, g4, g5, g6, g7⟩ := hMg.msg z16_length
         go_upto_region 51 with fail
         have HLI : Hid (∀ wz, Below w8.heap.size w8 wz → (Instr.loadAt 34 (.pointer (some ⟨eb, 0, none⟩))).run Try.prog wz = .ok (.agg (cells8 id).toArray) wz) := Lib.hid fun wz h => load_R (rangeAt_entId (rangeAt_call hEL.2 h) HID.out) Try.underlying34 rfl (by rw [cells8_length, HID.out]; exact size_id)
         have HLO : Hid (∀ wz, Below w8.heap.size w8 wz → (Instr.loadAt 34 (.pointer (some ⟨w.heap.size, 0, none⟩))).run Try.prog wz = .ok (.agg (cells8 id).toArray) wz) := Lib.hid fun wz h => (hP8.i.call h).loadId HID.out
         have hneq : ∀ wz, (Op.equalIn 10000 34 (.agg (cells8 id).toArray) (.agg (cells8 id).toArray)).run Try.prog wz = .ok (id == id) wz := fun wz => run_equalIn_16 9998 Try.underlying34 HID.out HID.out wz
         refine region_G (n := 7) (m := 8) (f := 7) (by kernel_rfl) (by kernel_rfl) rfl ?_
         refine WpG.vD 0 (some 193) ?_ rfl rfl (by kernel_rfl) (fun _ _ _ h => h) rfl (fun wz hwz => ?_) ?_
         rotate_left
         ·go_simp; try (with_reducible rfl)
         simp only [Zp, Zq, Zr, Zs]
         refine WpG.vD 1 (some 194) ?_ rfl rfl (by kernel_rfl) (fun _ _ _ h => h) rfl (fun wz hwz => ?_) ?_
         rotate_left
         ·(obtain ⟨hcz, hfz⟩ := bcell (hwz); go_simp; try (with_reducible rfl))
         simp only [Zp, Zq, Zr, Zs]
         refine WpG.vD 2 (some 195) ?_ rfl rfl (by kernel_rfl) (fun _ _ _ h => h) rfl (fun wz hwz => ?_) ?_
         rotate_left
         ·go_simp; try (with_reducible rfl)
         simp only [Zp, Zq, Zr, Zs]
         refine WpG.vD 3 (some 196) ?_ rfl rfl (by kernel_rfl) (fun _ _ _ h => h) rfl (fun wz hwz => ?_) ?_
         rotate_left
         ·go_simp; try (with_reducible rfl)
         simp only [Zp, Zq, Zr, Zs]
         refine WpG.vD 4 (some 197) ?_ rfl rfl (by kernel_rfl) (fun _ _ _ h => h) rfl (fun wz hwz => ?_) ?_
         rotate_left
         ·(refine Eq.trans (exec_load rfl (by kernel_rfl) (HLI.out wz hwz)) ?_; with_reducible rfl)
         simp only [Zp, Zq, Zr, Zs]
         refine WpG.vD 5 (some 198) ?_ rfl rfl (by kernel_rfl) (fun _ _ _ h => h) rfl (fun wz hwz => ?_) ?_
         rotate_left
         ·(refine Eq.trans (exec_load rfl (by kernel_rfl) (HLO.out wz hwz)) ?_; with_reducible rfl)
         simp only [Zp, Zq, Zr, Zs]
         refine WpG.vD 6 (some 199) ?_ rfl rfl (by kernel_rfl) (fun _ _ _ h => h) rfl (fun wz hwz => ?_) ?_
         rotate_left
         ·go_simp; try (with_reducible rfl)
         simp only [Zp, Zq, Zr, Zs]
         refine WpG.done (by kernel_rfl) (fun w40 hb40 => ?_)
         (try simp only [List.drop_succ_cons]); (try simp only [List.drop_zero]); (try simp only [Nat.reduceSub]); (try simp only [List.take_succ_cons]); (try simp only [List.take_zero])
         have hP40 := hP8.call hb40
         have hM40 := hMg.call hb40
         have hcT := hP40.c.lt
         have hmn := hP40.lt
         have hE40 : eb < w40.heap.size ∧ w40.rangeAt eb 0 (entL id 0 (.slice none 0 0) (.slice none 0 0) cd) := ⟨Nat.lt_of_lt_of_le hEL.1 hb40.size, rangeAt_call hEL.2 hb40⟩
         clear g0 g1 g2 g3 g4 g5 g6 g7 HLI HLO hneq hEL hb40 hP8 hMg
         have hrt := hP40.d.cell 1 _ rfl
         have hrl := hP40.d.lt
         cases d1 with
         | true =>
          have hRV := hP40.c.recvDup1 (job := 0) (start := 0) (many := 0) (code := 0) (c := 1) z16_length HID.out hE40 hneb (by omega)
          go_upto_region 55 with fail
          refine wp_region_lit ?_
          refine wpList_valD (some 204) rfl rfl (by (go_simp; first | with_reducible rfl | exact ⟨rfl, rfl⟩ | (trace_state; fail))) ?_
          simp only [Zp, Zq, Zr, Zs]
          refine wpList_valD (some 205) rfl rfl (by (go_simp; first | with_reducible rfl | exact ⟨rfl, rfl⟩ | (trace_state; fail))) ?_
          simp only [Zp, Zq, Zr, Zs]
          refine wpList_valD (some 206) rfl rfl (exec_load rfl (by kernel_rfl) (hM40.loadM z16_length)) ?_
          simp only [Zp, Zq, Zr, Zs]
          refine wpList_callD (some 207) rfl rfl 17 _ ?_ (hRV) ?_
          ·go_simp; try (with_reducible rfl)
          rintro e w30 ⟨rfl, hb30⟩
          refine ⟨_, rfl, ?_⟩
          simp only [Zp, Zq, Zr, Zs]
          have HP30 := Lib.hid (hP40.call hb30)
          refine wpList_valD (some 208) rfl rfl (by (go_simp; first | with_reducible rfl | exact ⟨rfl, rfl⟩ | (trace_state; fail))) ?_
          simp only [Zp, Zq, Zr, Zs]
          refine wpList_valD (some 209) rfl rfl (by (go_simp; first | with_reducible rfl | exact ⟨rfl, rfl⟩ | (trace_state; fail))) ?_
          simp only [Zp, Zq, Zr, Zs]
          clear hRV hb30 hM40 hP40
          go_wp2_with fail
          go_roundw
          case rel => exact ⟨k + 1, now, due, wait, tries, d0, true, k0, k1, by omega, by omega, by go_num, rfl, rfl, rfl, rfl, ⟨by omega, by omega⟩, hwait, ⟨by omega, by omega⟩, HP30.out⟩
          case measure => simp [intOf]; omega
         | false =>
          go_upto_region 46 with fail
          clear hrt hrl
          obtain ⟨l1, l2, l3, l4, l5⟩ := hP40.lt
          have HT : Hid (∀ wz, Exc (fun q => q = T) w40.heap.size w40 wz → wz.cell? ⟨mb, 21, none⟩ = some (.slice (some ⟨eb, 0, none⟩) 1 1) ∧ wz.cell? ⟨eb, 0 + 19, none⟩ = some (.int .i64 cd)) := Lib.hid fun wz h => ⟨((hM40.exc (fun e : mb = T => by omega) h).msg z16_length).2.2.2.2.2.1, (rangeAt_ent (rangeAt_exc hE40.2 (fun e : eb = T => by omega) h) HID.out).2.2.2⟩
          have hd0 : Vs w40 T [.bool d0, .bool false] := hP40.d
          refine region_X (fun wz => Exc (fun q => q = T) w40.heap.size w40 wz) (fun wz => Exc (fun q => q = T) w40.heap.size w40 wz ∧ Vs wz T [.bool d0, .bool false]) (fun _ h => h.1) (fun _ _ h hb => ⟨h.1.trans ((exc_of hb).mono h.1.size), h.2.call hb⟩) ⟨exc_of ((Below.refl _ _).drew), hd0.drew⟩ (n := 10) (m := 11) (f := 10) (by kernel_rfl) (by kernel_rfl) rfl ?_
          refine WpX.vD 0 (some 166) ?_ rfl rfl (by kernel_rfl) (fun _ _ _ h => h) rfl (fun wz hwz => ?_) ?_
          rotate_left
          ·go_simp; try (with_reducible rfl)
          simp only [Zp, Zq, Zr, Zs]
          refine WpX.vD 1 (some 167) ?_ rfl rfl (by kernel_rfl) (fun _ _ _ h => h) rfl (fun wz hwz => ?_) ?_
          rotate_left
          ·go_simp; try (with_reducible rfl)
          simp only [Zp, Zq, Zr, Zs]
          refine WpX.vD 2 (some 168) ?_ rfl rfl (by kernel_rfl) (fun _ _ _ h => h) rfl (fun wz hwz => ?_) ?_
          rotate_left
          ·go_simp; try (with_reducible rfl)
          simp only [Zp, Zq, Zr, Zs]
          refine WpX.vD 3 (some 169) ?_ rfl rfl (by kernel_rfl) (fun _ _ _ h => h) rfl (fun wz hwz => ?_) ?_
          rotate_left
          ·(have q := (HT.out wz hwz).1; go_simp; try (with_reducible rfl))
          simp only [Zp, Zq, Zr, Zs]
          refine WpX.vD 4 (some 170) ?_ rfl rfl (by kernel_rfl) (fun _ _ _ h => h) rfl (fun wz hwz => ?_) ?_
          rotate_left
          ·go_simp; try (with_reducible rfl)
          simp only [Zp, Zq, Zr, Zs]
          refine WpX.vD 5 (some 171) ?_ rfl rfl (by kernel_rfl) (fun _ _ _ h => h) rfl (fun wz hwz => ?_) ?_
          rotate_left
          ·go_simp; try (with_reducible rfl)
          simp only [Zp, Zq, Zr, Zs]
          refine WpX.vD 6 (some 172) ?_ rfl rfl (by kernel_rfl) (fun _ _ _ h => h) rfl (fun wz hwz => ?_) ?_
          rotate_left
          ·(have q := (HT.out wz hwz).2; go_simp; try (with_reducible rfl))
          simp only [Zp, Zq, Zr, Zs]
          refine WpX.vD 7 (some 173) ?_ rfl rfl (by kernel_rfl) (fun _ _ _ h => h) rfl (fun wz hwz => ?_) ?_
          rotate_left
          ·go_simp; try (with_reducible rfl)
          simp only [Zp, Zq, Zr, Zs]
          refine WpX.oneSkip 8 none rfl rfl (by kernel_rfl) ((fun wz => Exc (fun q => q = T) w40.heap.size w40 wz)) ((fun wz => Exc (fun q => q = T) w40.heap.size w40 wz ∧ Vs wz T [.bool d0, .bool true])) ((fun _ h => h)) ((fun _ h => h.1)) ((fun _ _ h hb => ⟨h.1.trans ((exc_of hb).mono h.1.size), h.2.call hb⟩)) rfl (fun wz hS => ?_) ?_
          ·((have z0 := hS.2.cell 1 _ rfl; have z1 := hS.2.frz 1 (by simp); have z2 := hS.2.lt; exact ⟨_, by go_simp; try (with_reducible rfl), exc_sc hS.1 (.inl rfl) 1 (.bool true), hS.2.put 1 (by simp) (.bool true)⟩))
          simp only [Act.put]
          refine WpX.vD 9 (some 174) ?_ rfl rfl (by kernel_rfl) (fun _ _ _ h => h) rfl (fun wz hwz => ?_) ?_
          rotate_left
          ·go_simp; try (with_reducible rfl)
          simp only [Zp, Zq, Zr, Zs]
          refine WpX.done (by kernel_rfl) (fun w41 h41 => ?_)
          (try simp only [List.drop_succ_cons]); (try simp only [List.drop_zero]); (try simp only [Nat.reduceSub]); (try simp only [List.take_succ_cons]); (try simp only [List.take_zero])
          have hk41 := hP40.k.exc (fun e : kb = T => by omega) h41.1
          have z0 := hk41.cell 1 _ rfl
          have z1 := hk41.frz 1 (by simp)
          have z2 := hk41.lt
          have HX41 := Lib.hid h41.1
          have HD41 := Lib.hid h41.2
          clear h41 HT hd0
          go_upto_region 55 with fail
          clear z0 z1 z2
          have hx42 := exc_sc (S := fun q => q = kb) (exc_of (Below.refl w41.heap.size w41)) (.inl rfl) 1 (.int .i64 cd)
          have hk42 : Vs (w41.setCell ⟨kb, 1, none⟩ (.int .i64 cd)) kb [.int .i64 k0, .int .i64 cd] := hk41.put 1 (by simp) (.int .i64 cd)
          have hd42 := HD41.out.exc (fun e : T = kb => by omega) hx42
          have hi42 := (hP40.i.exc (fun e : w.heap.size = T => by omega) HX41.out).exc (fun e : w.heap.size = kb => by omega) hx42
          have hc42 := (hP40.c.exc (fun q h1 h2 (e : q = T) => by omega) HX41.out).exc (fun q h1 h2 (e : q = kb) => by omega) hx42
          have hM42 := (hM40.exc (fun e : mb = T => by omega) HX41.out).exc (fun e : mb = kb => by omega) hx42
          have hE42 : eb < (w41.setCell ⟨kb, 1, none⟩ (.int .i64 cd)).heap.size ∧ (w41.setCell ⟨kb, 1, none⟩ (.int .i64 cd)).rangeAt eb 0 (entL id 0 (.slice none 0 0) (.slice none 0 0) cd) := ⟨Nat.lt_of_lt_of_le (Nat.lt_of_lt_of_le hE40.1 HX41.out.size) hx42.size, rangeAt_exc (rangeAt_exc hE40.2 (fun e : eb = T => by omega) HX41.out) (fun e : eb = kb => by omega) hx42⟩
          have hb42 := (hP40.b.trans (Exc.below (HX41.out.mono hP40.b.size) (fun q hq (e : q = T) => by omega))).trans (Exc.below (hx42.mono (Nat.le_trans hP40.b.size HX41.out.size)) (fun q hq (e : q = kb) => by omega))
          have hT42 := Nat.le_trans (Nat.le_trans hP40.t HX41.out.size) hx42.size
          clear hP40 hM40 hE40 HX41 HD41 hk41 hx42
          generalize w41.setCell ⟨kb, 1, none⟩ (.int .i64 cd) = w42 at hk42 hd42 hi42 hc42 hM42 hE42 hb42 hT42 ⊢
          have hRV := hc42.recvOk1 (job := 0) (start := 0) (many := 0) (code := 0) (c := 1) z16_length HID.out hE42 hneb (by omega)
          refine wp_region_lit ?_
          refine wpList_valD (some 204) rfl rfl (by (go_simp; first | with_reducible rfl | exact ⟨rfl, rfl⟩ | (trace_state; fail))) ?_
          simp only [Zp, Zq, Zr, Zs]
          refine wpList_valD (some 205) rfl rfl (by (go_simp; first | with_reducible rfl | exact ⟨rfl, rfl⟩ | (trace_state; fail))) ?_
          simp only [Zp, Zq, Zr, Zs]
          refine wpList_valD (some 206) rfl rfl (exec_load rfl (by kernel_rfl) (hM42.loadM z16_length)) ?_
          simp only [Zp, Zq, Zr, Zs]
          refine wpList_callD (some 207) rfl rfl 17 _ ?_ (hRV) ?_
          ·go_simp; try (with_reducible rfl)
          rintro e w43 ⟨rfl, hc43, hx43⟩
          refine ⟨_, rfl, ?_⟩
          simp only [Zp, Zq, Zr, Zs]
          refine wpList_valD (some 208) rfl rfl (by (go_simp; first | with_reducible rfl | exact ⟨rfl, rfl⟩ | (trace_state; fail))) ?_
          simp only [Zp, Zq, Zr, Zs]
          refine wpList_valD (some 209) rfl rfl (by (go_simp; first | with_reducible rfl | exact ⟨rfl, rfl⟩ | (trace_state; fail))) ?_
          simp only [Zp, Zq, Zr, Zs]
          have HPN : Hid (CpK T cb T kb w.heap.size w w43 id n0 n1 n2 zs0 zs1 zs2 d0 true k0 cd due wait tries) := Lib.hid ⟨hc43, Nat.le_trans hT42 hx43.size, hd42.exc (fun e : T = cb => by omega) hx43, hk42.exc (fun e : kb = cb => by omega) hx43, hi42.exc (fun e : w.heap.size = cb => by omega) hx43, hb42.trans (Exc.below (hx43.mono hb42.size) (fun q hq (e : q = cb) => by omega)), l1, l2, l3, l4, l5⟩
          clear hRV hc42 hk42 hd42 hi42 hM42 hE42 hb42 hT42 hc43 hx43
          go_wp2_with fail
          go_roundw
          case rel => exact ⟨k + 1, now, due, wait, tries, d0, true, k0, cd, by omega, by omega, by go_num, rfl, rfl, rfl, rfl, ⟨by omega, by omega⟩, hwait, ⟨by omega, by omega⟩, HPN.out⟩
          case measure => simp [intOf]; omega
        ·exact absurd rfl hne
  ·obtain rfl : N = k := by omega
   clear hlt hk
   repeat (rename Exit → Act → World → Prop => QB; clear_value (hQB : QB = _); subst hQB)
   as_aux_lemma =>
    go_upto_region 58 with fail
    have HDN := Lib.hid (hP.c.done)
    refine wp_region_lit ?_
    refine wpList_valD (some 212) rfl rfl (by (go_simp; first | with_reducible rfl | exact ⟨rfl, rfl⟩ | (trace_state; fail))) ?_
    simp only [Zp, Zq, Zr, Zs]
    refine wpList_callD (some 213) rfl rfl 13 _ ?_ (HDN.out) ?_
    ·go_simp; try (with_reducible rfl)
    rintro e w20 ⟨rfl, hb20⟩
    refine ⟨_, rfl, ?_⟩
    simp only [Zp, Zq, Zr, Zs]
    have hP20 := hP.call hb20
    refine wpList_valD (some 211) rfl rfl (by (go_simp; first | with_reducible rfl | exact ⟨rfl, rfl⟩ | (trace_state; fail))) ?_
    simp only [Zp, Zq, Zr, Zs]
    refine wpList_valD (some 214) rfl rfl (by (go_simp; first | with_reducible rfl | exact ⟨rfl, rfl⟩ | (trace_state; fail))) ?_
    simp only [Zp, Zq, Zr, Zs]
    refine wpList_valD (some 215) rfl rfl (by (go_simp; first | with_reducible rfl | exact ⟨rfl, rfl⟩ | (trace_state; fail))) ?_
    simp only [Zp, Zq, Zr, Zs]
    refine wpList_valD (some 32) rfl rfl (by (skip; go_simp; first | with_reducible rfl | exact ⟨rfl, rfl⟩ | (trace_state; fail))) ?_
    simp only [Zp, Zq, Zr, Zs]
    have hEc := Vs.new w20 [.int .i64 0, .int .i64 0] #[.int .i64 0, .int .i64 0] 31 rfl
    have hbA := (Below.refl w20.heap.size w20).alloc (Nat.le_refl _) (.cells #[.int .i64 0, .int .i64 0] 31)
    have hst := store_W (T := 31) hEc (l' := [.int .i64 k0, .int .i64 k1]) rfl size_errs2 (by intro v hv; simp at hv; rcases hv with rfl | rfl <;> rfl)
    refine wpList_valD (some 31) rfl rfl (by (go_simp; first | with_reducible rfl | exact ⟨rfl, rfl⟩ | (trace_state; fail))) ?_
    simp only [Zp, Zq, Zr, Zs]
    refine wpList_skipD rfl rfl (exec_store rfl (by kernel_rfl) (by kernel_rfl) hst) ?_
    have hE2 := hEc.setW (l' := [.int .i64 k0, .int .i64 k1]) rfl
    have hbC := bl_setCells hbA (Nat.le_refl _) 0 [.int .i64 k0, .int .i64 k1]
    have hP21 := hP20.call hbC
    clear hst hbA hbC hEc HDN hb20 hP20
    generalize (w20.alloc (.cells #[.int .i64 0, .int .i64 0] 31)).setCells w20.heap.size 0 [.int .i64 k0, .int .i64 k1] = w21 at hE2 hP21 ⊢
    obtain ⟨xb, hxb⟩ : ∃ z, w20.heap.size = z := ⟨_, rfl⟩
    rw [hxb] at hE2
    simp only [hxb]
    clear hxb
    have HDI := Lib.hid (hP21.c.idn)
    go_upto_region 59 with fail
    refine wp_region_lit ?_
    refine wpList_valD (some 217) rfl rfl (by (go_simp; first | with_reducible rfl | exact ⟨rfl, rfl⟩ | (trace_state; fail))) ?_
    simp only [Zp, Zq, Zr, Zs]
    refine wpList_callD (some 218) rfl rfl 14 _ ?_ (HDI.out) ?_
    ·go_simp; try (with_reducible rfl)
    rintro e w22 ⟨rfl, hb22⟩
    refine ⟨_, rfl, ?_⟩
    simp only [Zp, Zq, Zr, Zs]
    have hP22 := hP21.call hb22
    have hE3 := hE2.call hb22
    refine wpList_valD (some 216) rfl rfl (by (go_simp; first | with_reducible rfl | exact ⟨rfl, rfl⟩ | (trace_state; fail))) ?_
    simp only [Zp, Zq, Zr, Zs]
    refine wpList_valD (some 219) rfl rfl (by (go_simp; first | with_reducible rfl | exact ⟨rfl, rfl⟩ | (trace_state; fail))) ?_
    simp only [Zp, Zq, Zr, Zs]
    refine wpList_valD (some 220) rfl rfl (by (go_simp; first | with_reducible rfl | exact ⟨rfl, rfl⟩ | (trace_state; fail))) ?_
    simp only [Zp, Zq, Zr, Zs]
    refine wpList_valD (some 33) rfl rfl (by (skip; go_simp; first | with_reducible rfl | exact ⟨rfl, rfl⟩ | (trace_state; fail))) ?_
    simp only [Zp, Zq, Zr, Zs]
    have hI9 := Vs.new w22 (cells8 z16) #[.int .u8 0, .int .u8 0, .int .u8 0, .int .u8 0, .int .u8 0, .int .u8 0, .int .u8 0, .int .u8 0, .int .u8 0, .int .u8 0, .int .u8 0, .int .u8 0, .int .u8 0, .int .u8 0, .int .u8 0, .int .u8 0] 34 rfl
    have hbA := (Below.refl w22.heap.size w22).alloc (Nat.le_refl _) (.cells #[.int .u8 0, .int .u8 0, .int .u8 0, .int .u8 0, .int .u8 0, .int .u8 0, .int .u8 0, .int .u8 0, .int .u8 0, .int .u8 0, .int .u8 0, .int .u8 0, .int .u8 0, .int .u8 0, .int .u8 0, .int .u8 0] 34)
    have hst := store_W (T := 34) hI9 (l' := cells8 id) (by rw [cells8_length, cells8_length, HID.out, z16_length]) (by rw [cells8_length, HID.out]; exact size_id) (one8 _)
    refine wpList_skipD rfl rfl (exec_store rfl (by kernel_rfl) (by kernel_rfl) hst) ?_
    refine wpList_valD (some 34) rfl rfl (by (go_simp; first | with_reducible rfl | exact ⟨rfl, rfl⟩ | (trace_state; fail))) ?_
    simp only [Zp, Zq, Zr, Zs]
    have hI8 := hI9.set16 z16_length HID.out
    have hbC := bl_setCells hbA (Nat.le_refl _) 0 (cells8 id)
    have hP23 := hP22.call hbC
    have hE4 := hE3.call hbC
    clear hst hbA hbC hI9 hP22 hE3 hb22 HDI hP21 hE2
    generalize (w22.alloc (.cells #[.int .u8 0, .int .u8 0, .int .u8 0, .int .u8 0, .int .u8 0, .int .u8 0, .int .u8 0, .int .u8 0, .int .u8 0, .int .u8 0, .int .u8 0, .int .u8 0, .int .u8 0, .int .u8 0, .int .u8 0, .int .u8 0] 34)).setCells w22.heap.size 0 (cells8 id) = w23 at hI8 hP23 hE4 ⊢
    obtain ⟨yb, hyb⟩ : ∃ z, w22.heap.size = z := ⟨_, rfl⟩
    rw [hyb] at hI8
    simp only [hyb]
    clear hyb
    have t0 := hP23.d.cell 0 _ rfl
    have t1 := hP23.d.cell 1 _ rfl
    have HLQ : Hid ((Op.equalIn 10000 31 (.agg #[.int .i64 k0, .int .i64 k1]) (.agg #[.int .i64 k0, .int .i64 k1])).run Try.prog w23 = .ok true w23) := Lib.hid (by rw [eqItemsC 9998]; simp)
    have HLI : Hid ((Op.equalIn 10000 34 (.agg (cells8 id).toArray) (.agg (cells8 id).toArray)).run Try.prog w23 = .ok true w23) := Lib.hid (by
     rw [run_equalIn_16 9998 Try.underlying34 HID.out HID.out]
     simp)
    have HB := Lib.hid hP23.b
    cases d0 with
    | true =>
     go_upto_region 60 with fail
     refine wp_region_lit ?_
     refine wpList_valD (some 221) rfl rfl (by (go_simp; first | with_reducible rfl | exact ⟨rfl, rfl⟩ | (trace_state; fail))) ?_
     simp only [Zp, Zq, Zr, Zs]
     refine wpList_valD (some 222) rfl rfl (by (go_simp; first | with_reducible rfl | exact ⟨rfl, rfl⟩ | (trace_state; fail))) ?_
     simp only [Zp, Zq, Zr, Zs]
     refine wpList_valD (some 223) rfl rfl (by (go_simp; first | with_reducible rfl | exact ⟨rfl, rfl⟩ | (trace_state; fail))) ?_
     simp only [Zp, Zq, Zr, Zs]
     refine wpList_valD (some 224) rfl rfl (by (go_simp; first | with_reducible rfl | exact ⟨rfl, rfl⟩ | (trace_state; fail))) ?_
     simp only [Zp, Zq, Zr, Zs]
     refine wpList_valG (some 225) rfl (by kernel_rfl) (by (go_simp; first | with_reducible rfl | exact ⟨rfl, rfl⟩ | (trace_state; fail))) ?_
     simp only [Zp, Zq, Zr, Zs]
     refine wpList_valG (some 226) rfl (by kernel_rfl) (by (go_simp; first | with_reducible rfl | exact ⟨rfl, rfl⟩ | (trace_state; fail))) ?_
     simp only [Zp, Zq, Zr, Zs]
     refine wpList_valD (some 227) rfl rfl (by (go_simp; first | with_reducible rfl | exact ⟨rfl, rfl⟩ | (trace_state; fail))) ?_
     simp only [Zp, Zq, Zr, Zs]
     refine wpList_valD (some 228) rfl rfl (by (go_simp; first | with_reducible rfl | exact ⟨rfl, rfl⟩ | (trace_state; fail))) ?_
     simp only [Zp, Zq, Zr, Zs]
     refine wpList_valD (some 229) rfl rfl (by (go_simp; first | with_reducible rfl | exact ⟨rfl, rfl⟩ | (trace_state; fail))) ?_
     simp only [Zp, Zq, Zr, Zs]
     refine wpList_valG (some 230) rfl (by kernel_rfl) (exec_load rfl (by kernel_rfl) (load_W (T := 31) hE4 Try.underlying31 rfl size_errs2)) ?_
     simp only [Zp, Zq, Zr, Zs]
     refine wpList_valG (some 231) rfl (by kernel_rfl) (exec_load rfl (by kernel_rfl) (load_W (T := 31) hP23.k Try.underlying31 rfl size_errs2)) ?_
     simp only [Zp, Zq, Zr, Zs]
     refine wpList_valG (some 232) rfl (by kernel_rfl) (by (have q := HLQ.out; go_simp; first | with_reducible rfl | exact ⟨rfl, rfl⟩ | (trace_state; fail))) ?_
     simp only [Zp, Zq, Zr, Zs]
     refine wpList_valD (some 233) rfl rfl (by (go_simp; first | with_reducible rfl | exact ⟨rfl, rfl⟩ | (trace_state; fail))) ?_
     simp only [Zp, Zq, Zr, Zs]
     refine wpList_valD (some 234) rfl rfl (by (go_simp; first | with_reducible rfl | exact ⟨rfl, rfl⟩ | (trace_state; fail))) ?_
     simp only [Zp, Zq, Zr, Zs]
     refine wpList_valG (some 235) rfl (by kernel_rfl) (exec_load rfl (by kernel_rfl) (hI8.loadId HID.out)) ?_
     simp only [Zp, Zq, Zr, Zs]
     refine wpList_valG (some 236) rfl (by kernel_rfl) (exec_load rfl (by kernel_rfl) (hP23.i.loadId HID.out)) ?_
     simp only [Zp, Zq, Zr, Zs]
     refine wpList_valG (some 237) rfl (by kernel_rfl) (by (have q := HLI.out; go_simp; first | with_reducible rfl | exact ⟨rfl, rfl⟩ | (trace_state; fail))) ?_
     simp only [Zp, Zq, Zr, Zs]
     refine wpList_valD (some 238) rfl rfl (by (go_simp; first | with_reducible rfl | exact ⟨rfl, rfl⟩ | (trace_state; fail))) ?_
     simp only [Zp, Zq, Zr, Zs]
     refine wpList_valD (some 239) rfl rfl (by (go_simp; first | with_reducible rfl | exact ⟨rfl, rfl⟩ | (trace_state; fail))) ?_
     simp only [Zp, Zq, Zr, Zs]
     refine wpList_valG (some 240) rfl (by kernel_rfl) (by (go_simp; first | with_reducible rfl | exact ⟨rfl, rfl⟩ | (trace_state; fail))) ?_
     simp only [Zp, Zq, Zr, Zs]
     refine wpList_valG (some 241) rfl (by kernel_rfl) (by (go_simp; first | with_reducible rfl | exact ⟨rfl, rfl⟩ | (trace_state; fail))) ?_
     simp only [Zp, Zq, Zr, Zs]
     refine wpList_valG (some 242) rfl (by kernel_rfl) (by (go_simp; first | with_reducible rfl | exact ⟨rfl, rfl⟩ | (trace_state; fail))) ?_
     simp only [Zp, Zq, Zr, Zs]
     refine wpList_valD (some 243) rfl rfl (by (go_simp; first | with_reducible rfl | exact ⟨rfl, rfl⟩ | (trace_state; fail))) ?_
     simp only [Zp, Zq, Zr, Zs]
     refine wpList_valD (some 10) rfl rfl (by (go_simp; first | with_reducible rfl | exact ⟨rfl, rfl⟩ | (trace_state; fail))) ?_
     simp only [Zp, Zq, Zr, Zs]
     go_wp2_with fail
     go_ret
     exact ⟨by simp, HB.out⟩
    | false =>
     go_upto_region 60 with fail
     refine wp_region_lit ?_
     refine wpList_valD (some 221) rfl rfl (by (go_simp; first | with_reducible rfl | exact ⟨rfl, rfl⟩ | (trace_state; fail))) ?_
     simp only [Zp, Zq, Zr, Zs]
     refine wpList_valD (some 222) rfl rfl (by (go_simp; first | with_reducible rfl | exact ⟨rfl, rfl⟩ | (trace_state; fail))) ?_
     simp only [Zp, Zq, Zr, Zs]
     refine wpList_valD (some 223) rfl rfl (by (go_simp; first | with_reducible rfl | exact ⟨rfl, rfl⟩ | (trace_state; fail))) ?_
     simp only [Zp, Zq, Zr, Zs]
     refine wpList_valD (some 224) rfl rfl (by (go_simp; first | with_reducible rfl | exact ⟨rfl, rfl⟩ | (trace_state; fail))) ?_
     simp only [Zp, Zq, Zr, Zs]
     refine wpList_passG (some 225) rfl (by kernel_rfl) ?_
     simp only [Zp, Zq, Zr, Zs]
     refine wpList_passG (some 226) rfl (by kernel_rfl) ?_
     simp only [Zp, Zq, Zr, Zs]
     refine wpList_valD (some 227) rfl rfl (by (go_simp; first | with_reducible rfl | exact ⟨rfl, rfl⟩ | (trace_state; fail))) ?_
     simp only [Zp, Zq, Zr, Zs]
     refine wpList_valD (some 228) rfl rfl (by (go_simp; first | with_reducible rfl | exact ⟨rfl, rfl⟩ | (trace_state; fail))) ?_
     simp only [Zp, Zq, Zr, Zs]
     refine wpList_valD (some 229) rfl rfl (by (go_simp; first | with_reducible rfl | exact ⟨rfl, rfl⟩ | (trace_state; fail))) ?_
     simp only [Zp, Zq, Zr, Zs]
     refine wpList_valG (some 230) rfl (by kernel_rfl) (exec_load rfl (by kernel_rfl) (load_W (T := 31) hE4 Try.underlying31 rfl size_errs2)) ?_
     simp only [Zp, Zq, Zr, Zs]
     refine wpList_valG (some 231) rfl (by kernel_rfl) (exec_load rfl (by kernel_rfl) (load_W (T := 31) hP23.k Try.underlying31 rfl size_errs2)) ?_
     simp only [Zp, Zq, Zr, Zs]
     refine wpList_valG (some 232) rfl (by kernel_rfl) (by (have q := HLQ.out; go_simp; first | with_reducible rfl | exact ⟨rfl, rfl⟩ | (trace_state; fail))) ?_
     simp only [Zp, Zq, Zr, Zs]
     refine wpList_valD (some 233) rfl rfl (by (go_simp; first | with_reducible rfl | exact ⟨rfl, rfl⟩ | (trace_state; fail))) ?_
     simp only [Zp, Zq, Zr, Zs]
     refine wpList_valD (some 234) rfl rfl (by (go_simp; first | with_reducible rfl | exact ⟨rfl, rfl⟩ | (trace_state; fail))) ?_
     simp only [Zp, Zq, Zr, Zs]
     refine wpList_valG (some 235) rfl (by kernel_rfl) (exec_load rfl (by kernel_rfl) (hI8.loadId HID.out)) ?_
     simp only [Zp, Zq, Zr, Zs]
     refine wpList_valG (some 236) rfl (by kernel_rfl) (exec_load rfl (by kernel_rfl) (hP23.i.loadId HID.out)) ?_
     simp only [Zp, Zq, Zr, Zs]
     refine wpList_valG (some 237) rfl (by kernel_rfl) (by (have q := HLI.out; go_simp; first | with_reducible rfl | exact ⟨rfl, rfl⟩ | (trace_state; fail))) ?_
     simp only [Zp, Zq, Zr, Zs]
     refine wpList_valD (some 238) rfl rfl (by (go_simp; first | with_reducible rfl | exact ⟨rfl, rfl⟩ | (trace_state; fail))) ?_
     simp only [Zp, Zq, Zr, Zs]
     refine wpList_valD (some 239) rfl rfl (by (go_simp; first | with_reducible rfl | exact ⟨rfl, rfl⟩ | (trace_state; fail))) ?_
     simp only [Zp, Zq, Zr, Zs]
     refine wpList_valG (some 240) rfl (by kernel_rfl) (by (go_simp; first | with_reducible rfl | exact ⟨rfl, rfl⟩ | (trace_state; fail))) ?_
     simp only [Zp, Zq, Zr, Zs]
     refine wpList_valG (some 241) rfl (by kernel_rfl) (by (go_simp; first | with_reducible rfl | exact ⟨rfl, rfl⟩ | (trace_state; fail))) ?_
     simp only [Zp, Zq, Zr, Zs]
     refine wpList_valG (some 242) rfl (by kernel_rfl) (by (go_simp; first | with_reducible rfl | exact ⟨rfl, rfl⟩ | (trace_state; fail))) ?_
     simp only [Zp, Zq, Zr, Zs]
     refine wpList_valD (some 243) rfl rfl (by (go_simp; first | with_reducible rfl | exact ⟨rfl, rfl⟩ | (trace_state; fail))) ?_
     simp only [Zp, Zq, Zr, Zs]
     refine wpList_valD (some 10) rfl rfl (by (go_simp; first | with_reducible rfl | exact ⟨rfl, rfl⟩ | (trace_state; fail))) ?_
     simp only [Zp, Zq, Zr, Zs]
     go_wp2_with fail
     go_ret
     exact ⟨by simp, HB.out⟩

end Go.Proofs.Ytbakkmfjamcbfaa
