/-
 ClX, ClY, ClZ, CnA, Nums8: for ClientPlays.
-/
import Derived.BigQuiet
import Derived.Laws.Bits64b
import Derived.Test.YtbakkmfjamcbfaaSab
namespace Go.Proofs.Ytbakkmfjamcbfaa
open Go.RowKit Fm
set_option linter.unusedVariables false
set_option maxRecDepth 100000

section
variable {w w' : World} {b o : Nat} {id : List Int} {m0 m1 l : List Value} {d0 d1 : Bool} {k0 k1 due wait tries time code : Int} {pu sh : Value}
theorem rangeAt_call (h : w.rangeAt b o l) (hb : Below w.heap.size w w') : w'.rangeAt b o l := fun j v hj => cell_call (h j v hj) hb
theorem rangeAt_exc {S : Nat → Prop} (h : w.rangeAt b o l) (hn : ¬ S b) (hb : Exc S w.heap.size w w') : w'.rangeAt b o l := fun j v hj => cell_exc (h j v hj) hn hb
theorem load_R {T : TypeId} {d : TypeDesc} (h : w.rangeAt b o l) (hu : Try.prog.underlying T = some d) (hd : d.isRow = true) (hi : (Try.prog.info? T).map (·.size) = some l.length) : (Instr.loadAt T (.pointer (some ⟨b, o, none⟩))).run Try.prog w = .ok (.agg l.toArray) w :=
 run_loadAt_mid w b o T l d h hu hd hi
theorem rangeAt_entId (h : w.rangeAt b o (entL id time pu sh code)) (hid : id.length = 16) : w.rangeAt b o (cells8 id) := fun j v hj => h j v (by
 unfold entL
 rw [List.getElem?_append_left (List.getElem?_eq_some_iff.1 hj).1]
 exact hj)
theorem rangeAt_ent (h : w.rangeAt b o (entL id time pu sh code)) (hid : id.length = 16) : w.cell? ⟨b, o + 16, none⟩ = some (.int .u64 time) ∧ w.cell? ⟨b, o + 17, none⟩ = some pu ∧ w.cell? ⟨b, o + 18, none⟩ = some sh ∧ w.cell? ⟨b, o + 19, none⟩ = some (.int .i64 code) := by
 have key : ∀ i (x : Value), [.int .u64 time, pu, sh, .int .i64 code][i]? = some x → w.cell? ⟨b, o + (16 + i), none⟩ = some x := fun i x hi => h (16 + i) x (by
  unfold entL
  rw [List.getElem?_append_right (by rw [cells8_length]; omega), cells8_length, hid, show 16 + i - 16 = i by omega]
  exact hi)
 exact ⟨key 0 _ rfl, key 1 _ rfl, key 2 _ rfl, key 3 _ rfl⟩
theorem Vs.clDone0 (hi : id.length = 16) (h0 : m0.length = 22) (h1 : m1.length = 22) (h : Vs w b (clL id m0 m1 d0 d1 k0 k1 due wait tries)) (x : Bool) : Vs (w.setCell ⟨b, 60, none⟩ (.bool x)) b (clL id m0 m1 x d1 k0 k1 due wait tries) := h.clPut hi h0 h1 0 (by omega) _
theorem Vs.clDone1 (hi : id.length = 16) (h0 : m0.length = 22) (h1 : m1.length = 22) (h : Vs w b (clL id m0 m1 d0 d1 k0 k1 due wait tries)) (x : Bool) : Vs (w.setCell ⟨b, 61, none⟩ (.bool x)) b (clL id m0 m1 d0 x k0 k1 due wait tries) := h.clPut hi h0 h1 1 (by omega) _
theorem Vs.clCode0 (hi : id.length = 16) (h0 : m0.length = 22) (h1 : m1.length = 22) (h : Vs w b (clL id m0 m1 d0 d1 k0 k1 due wait tries)) (x : Int) : Vs (w.setCell ⟨b, 62, none⟩ (.int .i64 x)) b (clL id m0 m1 d0 d1 x k1 due wait tries) := h.clPut hi h0 h1 2 (by omega) _
theorem Vs.clCode1 (hi : id.length = 16) (h0 : m0.length = 22) (h1 : m1.length = 22) (h : Vs w b (clL id m0 m1 d0 d1 k0 k1 due wait tries)) (x : Int) : Vs (w.setCell ⟨b, 63, none⟩ (.int .i64 x)) b (clL id m0 m1 d0 d1 k0 x due wait tries) := h.clPut hi h0 h1 3 (by omega) _
theorem size_errs2 : (Try.prog.info? 31).map (·.size) = some 2 := by kernel_rfl
theorem Vs.loadCodes (hi : id.length = 16) (h0 : m0.length = 22) (h1 : m1.length = 22) (h : Vs w b (clL id m0 m1 d0 d1 k0 k1 due wait tries)) : (Instr.loadAt 31 (.pointer (some ⟨b, 62, none⟩))).run Try.prog w = .ok (.agg #[.int .i64 k0, .int .i64 k1]) w := by
 have e : clL id m0 m1 d0 d1 k0 k1 due wait tries = (cells8 id ++ (m0 ++ (m1 ++ [.bool d0, .bool d1]))) ++ [.int .i64 k0, .int .i64 k1] ++ [.int .u64 due, .int .u64 wait, .int .i64 tries] := by
  unfold clL
  simp
 rw [e] at h
 have h2 := load_P (T := 31) h Try.underlying31 rfl size_errs2
 rw [List.length_append, List.length_append, List.length_append, cells8_length, hi, h0, h1] at h2
 exact h2
end

theorem client_ReceiveNo (id : List Int) (hid : id.length = 16) (m0 m1 : List Value) (h0 : m0.length = 22) (h1 : m1.length = 22) (d0 d1 : Bool) (k0 k1 due wait tries frm kind job start many code : Int) (sum : List Int) (hsum : sum.length = 16) (A : Option Addr) (N c : Nat) (cb : Nat) (w : World) (hC : Vs w cb (clL id m0 m1 d0 d1 k0 k1 due wait tries))
  (hno : (frm ≠ 0 ∧ frm ≠ 1) ∨ kind ≠ 7 ∨ N ≠ 1) :
  Calls Try.prog 17 #[.pointer (some ⟨cb, 0, none⟩), .int .i64 frm, .agg (msgL kind job start many sum code (.slice A N c)).toArray] w fun e w' => e = .returned (.int .i64 (if frm ≠ 0 ∧ frm ≠ 1 then 6 else 10)) ∧ Below w.heap.size w w' := by
 by_cases hf : frm ≠ 0 ∧ frm ≠ 1
 ·rw [if_pos hf]
  have hf0 : (frm != 0) = true := by simpa using hf.1
  have hf1 : (frm != 1) = true := by simpa using hf.2
  clear hno hf
  have HID := Lib.hid hid
  have HCB := Lib.hid hC.lt
  go_enter Try.func17, Try.ntmps17
  go_upto_region 1 with fail
  have hM := Vs.new w (msgL kind job start many sum code (.slice A N c)) ((msgL kind job start many sum code (.slice A N c)).toArray) 27 rfl
  have hb00 : Below w.heap.size w (w.alloc (.cells (msgL kind job start many sum code (.slice A N c)).toArray 27)) := by repeat (first | exact bA | with_reducible assumption | apply bB)
  have hszn : w.heap.size + 1 ≤ (w.alloc (.cells (msgL kind job start many sum code (.slice A N c)).toArray 27)).heap.size := by simp only [World.size_alloc]; omega
  generalize (w.alloc (.cells (msgL kind job start many sum code (.slice A N c)).toArray 27)) = w1 at hM hb00 hszn ⊢
  have HM := Lib.hid hM
  obtain ⟨x0, x1, x2, x3, x4, x5, x6, x7⟩ := hM.msg hsum
  clear hM
  go_wp2_with fail
  go_ret
  exact ⟨rfl, hb00⟩
 ·rw [if_neg hf]
  have hk := hno.resolve_left hf
  have hf3 : frm = 0 ∨ frm = 1 := by omega
  clear hno hf
  by_cases h7 : kind = 7
  ·have hN : N ≠ 1 := hk.resolve_left (fun h => h h7)
   have h7b : (kind != 7) = false := by simpa using h7
   have hNb : ((N : Int) != 1) = true := by simp; omega
   clear hk h7 hN
   rcases hf3 with rfl | rfl
   ·skip
    have HID := Lib.hid hid
    have HCB := Lib.hid hC.lt
    go_enter Try.func17, Try.ntmps17
    go_upto_region 1 with fail
    have hM := Vs.new w (msgL kind job start many sum code (.slice A N c)) ((msgL kind job start many sum code (.slice A N c)).toArray) 27 rfl
    have hb00 : Below w.heap.size w (w.alloc (.cells (msgL kind job start many sum code (.slice A N c)).toArray 27)) := by repeat (first | exact bA | with_reducible assumption | apply bB)
    have hszn : w.heap.size + 1 ≤ (w.alloc (.cells (msgL kind job start many sum code (.slice A N c)).toArray 27)).heap.size := by simp only [World.size_alloc]; omega
    generalize (w.alloc (.cells (msgL kind job start many sum code (.slice A N c)).toArray 27)) = w1 at hM hb00 hszn ⊢
    have HM := Lib.hid hM
    obtain ⟨x0, x1, x2, x3, x4, x5, x6, x7⟩ := hM.msg hsum
    clear hM
    go_wp2_with fail
    go_ret
    exact ⟨rfl, hb00⟩
   ·skip
    have HID := Lib.hid hid
    have HCB := Lib.hid hC.lt
    go_enter Try.func17, Try.ntmps17
    go_upto_region 1 with fail
    have hM := Vs.new w (msgL kind job start many sum code (.slice A N c)) ((msgL kind job start many sum code (.slice A N c)).toArray) 27 rfl
    have hb00 : Below w.heap.size w (w.alloc (.cells (msgL kind job start many sum code (.slice A N c)).toArray 27)) := by repeat (first | exact bA | with_reducible assumption | apply bB)
    have hszn : w.heap.size + 1 ≤ (w.alloc (.cells (msgL kind job start many sum code (.slice A N c)).toArray 27)).heap.size := by simp only [World.size_alloc]; omega
    generalize (w.alloc (.cells (msgL kind job start many sum code (.slice A N c)).toArray 27)) = w1 at hM hb00 hszn ⊢
    have HM := Lib.hid hM
    obtain ⟨x0, x1, x2, x3, x4, x5, x6, x7⟩ := hM.msg hsum
    clear hM
    go_wp2_with fail
    go_ret
    exact ⟨rfl, hb00⟩
  ·have h7b : (kind != 7) = true := by simpa using h7
   clear hk h7
   rcases hf3 with rfl | rfl
   ·skip
    have HID := Lib.hid hid
    have HCB := Lib.hid hC.lt
    go_enter Try.func17, Try.ntmps17
    go_upto_region 1 with fail
    have hM := Vs.new w (msgL kind job start many sum code (.slice A N c)) ((msgL kind job start many sum code (.slice A N c)).toArray) 27 rfl
    have hb00 : Below w.heap.size w (w.alloc (.cells (msgL kind job start many sum code (.slice A N c)).toArray 27)) := by repeat (first | exact bA | with_reducible assumption | apply bB)
    have hszn : w.heap.size + 1 ≤ (w.alloc (.cells (msgL kind job start many sum code (.slice A N c)).toArray 27)).heap.size := by simp only [World.size_alloc]; omega
    generalize (w.alloc (.cells (msgL kind job start many sum code (.slice A N c)).toArray 27)) = w1 at hM hb00 hszn ⊢
    have HM := Lib.hid hM
    obtain ⟨x0, x1, x2, x3, x4, x5, x6, x7⟩ := hM.msg hsum
    clear hM
    go_wp2_with fail
    go_ret
    exact ⟨rfl, hb00⟩
   ·skip
    have HID := Lib.hid hid
    have HCB := Lib.hid hC.lt
    go_enter Try.func17, Try.ntmps17
    go_upto_region 1 with fail
    have hM := Vs.new w (msgL kind job start many sum code (.slice A N c)) ((msgL kind job start many sum code (.slice A N c)).toArray) 27 rfl
    have hb00 : Below w.heap.size w (w.alloc (.cells (msgL kind job start many sum code (.slice A N c)).toArray 27)) := by repeat (first | exact bA | with_reducible assumption | apply bB)
    have hszn : w.heap.size + 1 ≤ (w.alloc (.cells (msgL kind job start many sum code (.slice A N c)).toArray 27)).heap.size := by simp only [World.size_alloc]; omega
    generalize (w.alloc (.cells (msgL kind job start many sum code (.slice A N c)).toArray 27)) = w1 at hM hb00 hszn ⊢
    have HM := Lib.hid hM
    obtain ⟨x0, x1, x2, x3, x4, x5, x6, x7⟩ := hM.msg hsum
    clear hM
    go_wp2_with fail
    go_ret
    exact ⟨rfl, hb00⟩


set_option maxHeartbeats 4000000 in
theorem client_ReceiveOth0 (id : List Int) (hid : id.length = 16) (m0 m1 : List Value) (h0 : m0.length = 22) (h1 : m1.length = 22) (d0 d1 : Bool) (k0 k1 due wait tries job start many code : Int) (sum : List Int) (hsum : sum.length = 16) (eb eo c : Nat) (eid : List Int) (heid : eid.length = 16) (et ec : Int) (pu sh : Value) (cb : Nat) (w : World) (hC : Vs w cb (clL id m0 m1 d0 d1 k0 k1 due wait tries))
  (hE : eb < w.heap.size ∧ w.rangeAt eb eo (entL eid et pu sh ec)) (hne : (eid == id) = false) :
  Calls Try.prog 17 #[.pointer (some ⟨cb, 0, none⟩), .int .i64 0, .agg (msgL 7 job start many sum code (.slice (some ⟨eb, eo, none⟩) 1 c)).toArray] w fun e w' => e = .returned (.int .i64 19) ∧ Below w.heap.size w w' := by
 have HID := Lib.hid hid
 have HCB := Lib.hid hC.lt
 go_enter Try.func17, Try.ntmps17
 go_upto_region 1 with fail
 have hM := Vs.new w (msgL 7 job start many sum code (.slice (some ⟨eb, eo, none⟩) 1 c)) ((msgL 7 job start many sum code (.slice (some ⟨eb, eo, none⟩) 1 c)).toArray) 27 rfl
 have hb00 : Below w.heap.size w (w.alloc (.cells (msgL 7 job start many sum code (.slice (some ⟨eb, eo, none⟩) 1 c)).toArray 27)) := by repeat (first | exact bA | with_reducible assumption | apply bB)
 have hszn : w.heap.size + 1 ≤ (w.alloc (.cells (msgL 7 job start many sum code (.slice (some ⟨eb, eo, none⟩) 1 c)).toArray 27)).heap.size := by simp only [World.size_alloc]; omega
 generalize (w.alloc (.cells (msgL 7 job start many sum code (.slice (some ⟨eb, eo, none⟩) 1 c)).toArray 27)) = w1 at hM hb00 hszn ⊢
 have HM := Lib.hid hM
 obtain ⟨x0, x1, x2, x3, x4, x5, x6, x7⟩ := hM.msg hsum
 clear hM
 have HC1 := Lib.hid (hC.call hb00)
 have HE1 := Lib.hid (rangeAt_call hE.2 hb00)
 have HEL := Lib.hid (Nat.lt_of_lt_of_le hE.1 hb00.size)
 clear hE hC
 go_upto_region 7 with fail
 have HX5 : Hid (∀ wz, Below w1.heap.size w1 wz → wz.cell? ⟨w.heap.size, 21, none⟩ = some (.slice (some ⟨eb, eo, none⟩) 1 c)) := Lib.hid fun wz h => ((HM.out.call h).msg hsum).2.2.2.2.2.1
 have HLI : Hid (∀ wz, Below w1.heap.size w1 wz → (Instr.loadAt 34 (.pointer (some ⟨eb, eo, none⟩))).run Try.prog wz = .ok (.agg (cells8 eid).toArray) wz) := Lib.hid fun wz h => load_R (rangeAt_entId (rangeAt_call HE1.out h) heid) Try.underlying34 rfl (by rw [cells8_length, heid]; exact size_id)
 have HLC : Hid (∀ wz, Below w1.heap.size w1 wz → (Instr.loadAt 34 (.pointer (some ⟨cb, 0, none⟩))).run Try.prog wz = .ok (.agg (cells8 id).toArray) wz) := Lib.hid fun wz h => (HC1.out.call h).loadCid HID.out
 clear x0 x1 x2 x3 x4 x5 x6 x7
 have hneq : ∀ wz, (Op.equalIn 10000 34 (.agg (cells8 eid).toArray) (.agg (cells8 id).toArray)).run Try.prog wz = .ok (eid == id) wz := fun wz => run_equalIn_16 9998 Try.underlying34 heid HID.out wz
 refine region_G (n := 10) (m := 11) (f := 10) (by kernel_rfl) (by kernel_rfl) rfl ?_
 refine WpG.vD 0 (some 28) ?_ rfl rfl (by kernel_rfl) (fun _ _ _ h => h) rfl (fun wz hwz => ?_) ?_
 rotate_left
 ·go_simp; try (with_reducible rfl)
 simp only [Zp, Zq, Zr, Zs]
 refine WpG.vD 1 (some 29) ?_ rfl rfl (by kernel_rfl) (fun _ _ _ h => h) rfl (fun wz hwz => ?_) ?_
 rotate_left
 ·(obtain ⟨hcz, hfz⟩ := bcell (hwz); have q := HX5.out wz hwz; go_simp; try (with_reducible rfl))
 simp only [Zp, Zq, Zr, Zs]
 refine WpG.vD 2 (some 30) ?_ rfl rfl (by kernel_rfl) (fun _ _ _ h => h) rfl (fun wz hwz => ?_) ?_
 rotate_left
 ·go_simp; try (with_reducible rfl)
 simp only [Zp, Zq, Zr, Zs]
 refine WpG.vD 3 (some 31) ?_ rfl rfl (by kernel_rfl) (fun _ _ _ h => h) rfl (fun wz hwz => ?_) ?_
 rotate_left
 ·go_simp; try (with_reducible rfl)
 simp only [Zp, Zq, Zr, Zs]
 refine WpG.vD 4 (some 32) ?_ rfl rfl (by kernel_rfl) (fun _ _ _ h => h) rfl (fun wz hwz => ?_) ?_
 rotate_left
 ·(refine Eq.trans (exec_load rfl (by kernel_rfl) (HLI.out wz hwz)) ?_; with_reducible rfl)
 simp only [Zp, Zq, Zr, Zs]
 refine WpG.vD 5 (some 33) ?_ rfl rfl (by kernel_rfl) (fun _ _ _ h => h) rfl (fun wz hwz => ?_) ?_
 rotate_left
 ·go_simp; try (with_reducible rfl)
 simp only [Zp, Zq, Zr, Zs]
 refine WpG.vD 6 (some 34) ?_ rfl rfl (by kernel_rfl) (fun _ _ _ h => h) rfl (fun wz hwz => ?_) ?_
 rotate_left
 ·go_simp; try (with_reducible rfl)
 simp only [Zp, Zq, Zr, Zs]
 refine WpG.vD 7 (some 35) ?_ rfl rfl (by kernel_rfl) (fun _ _ _ h => h) rfl (fun wz hwz => ?_) ?_
 rotate_left
 ·go_simp; try (with_reducible rfl)
 simp only [Zp, Zq, Zr, Zs]
 refine WpG.vD 8 (some 36) ?_ rfl rfl (by kernel_rfl) (fun _ _ _ h => h) rfl (fun wz hwz => ?_) ?_
 rotate_left
 ·(refine Eq.trans (exec_load rfl (by kernel_rfl) (HLC.out wz hwz)) ?_; with_reducible rfl)
 simp only [Zp, Zq, Zr, Zs]
 refine WpG.vD 9 (some 37) ?_ rfl rfl (by kernel_rfl) (fun _ _ _ h => h) rfl (fun wz hwz => ?_) ?_
 rotate_left
 ·go_simp; try (with_reducible rfl)
 simp only [Zp, Zq, Zr, Zs]
 refine WpG.done (by kernel_rfl) (fun w2 hb2 => ?_)
 (try simp only [List.drop_succ_cons]); (try simp only [List.drop_zero]); (try simp only [Nat.reduceSub]); (try simp only [List.take_succ_cons]); (try simp only [List.take_zero])
 clear hneq HX5 HLI HLC
 have hb02 := bl_call hb00 (Nat.le_refl _) hb2
 go_wp2_with fail
 go_ret
 exact ⟨rfl, hb02⟩
set_option maxHeartbeats 8000000 in
theorem client_RecvA0 (id : List Int) (hid : id.length = 16) (m0 m1 : List Value) (h0 : m0.length = 22) (h1 : m1.length = 22) (d0 d1 : Bool) (k0 k1 due wait tries job start many code : Int) (sum : List Int) (hsum : sum.length = 16) (eb eo c : Nat) (eid : List Int) (heid : eid.length = 16) (et ec : Int) (pu sh : Value) (cb : Nat) (w : World) (hC : Vs w cb (clL id m0 m1 d0 d1 k0 k1 due wait tries))
  (hE : eb < w.heap.size ∧ w.rangeAt eb eo (entL eid et pu sh ec)) (hne : (eid == id) = true) (hbe : eb ≠ cb) :
  Calls Try.prog 17 #[.pointer (some ⟨cb, 0, none⟩), .int .i64 0, .agg (msgL 7 job start many sum code (.slice (some ⟨eb, eo, none⟩) 1 c)).toArray] w fun e w' => (d0 = true ∧ e = .returned (.int .i64 14) ∧ Below w.heap.size w w') ∨ (d0 = false ∧ e = .returned (.int .i64 0) ∧ Exc (fun q => q = cb) w.heap.size w w' ∧
   Vs w' cb (clL id m0 m1 true d1 ec k1 due wait tries)) := by
 have HID := Lib.hid hid
 have HCB := Lib.hid hC.lt
 go_enter Try.func17, Try.ntmps17
 go_upto_region 1 with fail
 have hM := Vs.new w (msgL 7 job start many sum code (.slice (some ⟨eb, eo, none⟩) 1 c)) ((msgL 7 job start many sum code (.slice (some ⟨eb, eo, none⟩) 1 c)).toArray) 27 rfl
 have hb00 : Below w.heap.size w (w.alloc (.cells (msgL 7 job start many sum code (.slice (some ⟨eb, eo, none⟩) 1 c)).toArray 27)) := by repeat (first | exact bA | with_reducible assumption | apply bB)
 have hszn : w.heap.size + 1 ≤ (w.alloc (.cells (msgL 7 job start many sum code (.slice (some ⟨eb, eo, none⟩) 1 c)).toArray 27)).heap.size := by simp only [World.size_alloc]; omega
 generalize (w.alloc (.cells (msgL 7 job start many sum code (.slice (some ⟨eb, eo, none⟩) 1 c)).toArray 27)) = w1 at hM hb00 hszn ⊢
 have HM := Lib.hid hM
 obtain ⟨x0, x1, x2, x3, x4, x5, x6, x7⟩ := hM.msg hsum
 clear hM
 have HC1 := Lib.hid (hC.call hb00)
 have HE1 := Lib.hid (rangeAt_call hE.2 hb00)
 have HEL := Lib.hid (Nat.lt_of_lt_of_le hE.1 hb00.size)
 clear hE hC
 go_upto_region 7 with fail
 have HX5 : Hid (∀ wz, Below w1.heap.size w1 wz → wz.cell? ⟨w.heap.size, 21, none⟩ = some (.slice (some ⟨eb, eo, none⟩) 1 c)) := Lib.hid fun wz h => ((HM.out.call h).msg hsum).2.2.2.2.2.1
 have HLI : Hid (∀ wz, Below w1.heap.size w1 wz → (Instr.loadAt 34 (.pointer (some ⟨eb, eo, none⟩))).run Try.prog wz = .ok (.agg (cells8 eid).toArray) wz) := Lib.hid fun wz h => load_R (rangeAt_entId (rangeAt_call HE1.out h) heid) Try.underlying34 rfl (by rw [cells8_length, heid]; exact size_id)
 have HLC : Hid (∀ wz, Below w1.heap.size w1 wz → (Instr.loadAt 34 (.pointer (some ⟨cb, 0, none⟩))).run Try.prog wz = .ok (.agg (cells8 id).toArray) wz) := Lib.hid fun wz h => (HC1.out.call h).loadCid HID.out
 clear x0 x1 x2 x3 x4 x5 x6 x7
 have hneq : ∀ wz, (Op.equalIn 10000 34 (.agg (cells8 eid).toArray) (.agg (cells8 id).toArray)).run Try.prog wz = .ok (eid == id) wz := fun wz => run_equalIn_16 9998 Try.underlying34 heid HID.out wz
 refine region_G (n := 10) (m := 11) (f := 10) (by kernel_rfl) (by kernel_rfl) rfl ?_
 refine WpG.vD 0 (some 28) ?_ rfl rfl (by kernel_rfl) (fun _ _ _ h => h) rfl (fun wz hwz => ?_) ?_
 rotate_left
 ·go_simp; try (with_reducible rfl)
 simp only [Zp, Zq, Zr, Zs]
 refine WpG.vD 1 (some 29) ?_ rfl rfl (by kernel_rfl) (fun _ _ _ h => h) rfl (fun wz hwz => ?_) ?_
 rotate_left
 ·(obtain ⟨hcz, hfz⟩ := bcell (hwz); have q := HX5.out wz hwz; go_simp; try (with_reducible rfl))
 simp only [Zp, Zq, Zr, Zs]
 refine WpG.vD 2 (some 30) ?_ rfl rfl (by kernel_rfl) (fun _ _ _ h => h) rfl (fun wz hwz => ?_) ?_
 rotate_left
 ·go_simp; try (with_reducible rfl)
 simp only [Zp, Zq, Zr, Zs]
 refine WpG.vD 3 (some 31) ?_ rfl rfl (by kernel_rfl) (fun _ _ _ h => h) rfl (fun wz hwz => ?_) ?_
 rotate_left
 ·go_simp; try (with_reducible rfl)
 simp only [Zp, Zq, Zr, Zs]
 refine WpG.vD 4 (some 32) ?_ rfl rfl (by kernel_rfl) (fun _ _ _ h => h) rfl (fun wz hwz => ?_) ?_
 rotate_left
 ·(refine Eq.trans (exec_load rfl (by kernel_rfl) (HLI.out wz hwz)) ?_; with_reducible rfl)
 simp only [Zp, Zq, Zr, Zs]
 refine WpG.vD 5 (some 33) ?_ rfl rfl (by kernel_rfl) (fun _ _ _ h => h) rfl (fun wz hwz => ?_) ?_
 rotate_left
 ·go_simp; try (with_reducible rfl)
 simp only [Zp, Zq, Zr, Zs]
 refine WpG.vD 6 (some 34) ?_ rfl rfl (by kernel_rfl) (fun _ _ _ h => h) rfl (fun wz hwz => ?_) ?_
 rotate_left
 ·go_simp; try (with_reducible rfl)
 simp only [Zp, Zq, Zr, Zs]
 refine WpG.vD 7 (some 35) ?_ rfl rfl (by kernel_rfl) (fun _ _ _ h => h) rfl (fun wz hwz => ?_) ?_
 rotate_left
 ·go_simp; try (with_reducible rfl)
 simp only [Zp, Zq, Zr, Zs]
 refine WpG.vD 8 (some 36) ?_ rfl rfl (by kernel_rfl) (fun _ _ _ h => h) rfl (fun wz hwz => ?_) ?_
 rotate_left
 ·(refine Eq.trans (exec_load rfl (by kernel_rfl) (HLC.out wz hwz)) ?_; with_reducible rfl)
 simp only [Zp, Zq, Zr, Zs]
 refine WpG.vD 9 (some 37) ?_ rfl rfl (by kernel_rfl) (fun _ _ _ h => h) rfl (fun wz hwz => ?_) ?_
 rotate_left
 ·go_simp; try (with_reducible rfl)
 simp only [Zp, Zq, Zr, Zs]
 refine WpG.done (by kernel_rfl) (fun w2 hb2 => ?_)
 (try simp only [List.drop_succ_cons]); (try simp only [List.drop_zero]); (try simp only [Nat.reduceSub]); (try simp only [List.take_succ_cons]); (try simp only [List.take_zero])
 clear hneq HX5 HLI HLC
 have hb02 := bl_call hb00 (Nat.le_refl _) hb2
 have hC2 := HC1.out.call hb2
 obtain ⟨⟨q0, q1, q2, q3, q4, q5, q6⟩, hfz, hcl⟩ := hC2.cl HID.out h0 h1
 have f0 := hfz 60 (by omega)
 have f2 := hfz 62 (by omega)
 clear hfz
 cases d0 with
 | true =>
  go_wp2_with fail
  go_ret
  exact ⟨rfl, hb02⟩
 | false =>
  go_upto_region 11 with fail
  clear q0 q1 q2 q3 q4 q5 q6 f0 f2
  have HB02 := Lib.hid hb02
  have HT : Hid (∀ wz, Exc (fun q => q = cb) w2.heap.size w2 wz → wz.cell? ⟨w.heap.size, 21, none⟩ = some (.slice (some ⟨eb, eo, none⟩) 1 c) ∧ wz.cell? ⟨eb, eo + 19, none⟩ = some (.int .i64 ec)) := Lib.hid fun wz h => ⟨(((HM.out.call hb2).exc (fun e => by have := HCB.out; have e2 : w.heap.size = cb := e; omega) h).msg hsum).2.2.2.2.2.1, (rangeAt_ent (rangeAt_exc (rangeAt_call HE1.out hb2) (fun e => hbe e) h) heid).2.2.2⟩
  have hCL := fun wz (h : Vs wz cb (clL id m0 m1 false d1 k0 k1 due wait tries)) => h.clDone0 HID.out h0 h1 true
  have HCL := Lib.hid hCL
  clear hb02 hCL
  refine region_X (fun wz => Exc (fun q => q = cb) w2.heap.size w2 wz) (fun wz => Exc (fun q => q = cb) w2.heap.size w2 wz ∧ Vs wz cb (clL id m0 m1 false d1 k0 k1 due wait tries)) (fun _ h => h.1) (fun _ _ h hb => ⟨h.1.trans ((exc_of hb).mono h.1.size), h.2.call hb⟩) ⟨exc_of ((Below.refl _ _).drew), hC2.drew⟩ (n := 16) (m := 17) (f := 16) (by kernel_rfl) (by kernel_rfl) rfl ?_
  refine WpX.vD 0 (some 45) ?_ rfl rfl (by kernel_rfl) (fun _ _ _ h => h) rfl (fun wz hwz => ?_) ?_
  rotate_left
  ·go_simp; try (with_reducible rfl)
  simp only [Zp, Zq, Zr, Zs]
  refine WpX.vD 1 (some 46) ?_ rfl rfl (by kernel_rfl) (fun _ _ _ h => h) rfl (fun wz hwz => ?_) ?_
  rotate_left
  ·go_simp; try (with_reducible rfl)
  simp only [Zp, Zq, Zr, Zs]
  refine WpX.vD 2 (some 47) ?_ rfl rfl (by kernel_rfl) (fun _ _ _ h => h) rfl (fun wz hwz => ?_) ?_
  rotate_left
  ·go_simp; try (with_reducible rfl)
  simp only [Zp, Zq, Zr, Zs]
  refine WpX.vD 3 (some 48) ?_ rfl rfl (by kernel_rfl) (fun _ _ _ h => h) rfl (fun wz hwz => ?_) ?_
  rotate_left
  ·go_simp; try (with_reducible rfl)
  simp only [Zp, Zq, Zr, Zs]
  refine WpX.vD 4 (some 49) ?_ rfl rfl (by kernel_rfl) (fun _ _ _ h => h) rfl (fun wz hwz => ?_) ?_
  rotate_left
  ·go_simp; try (with_reducible rfl)
  simp only [Zp, Zq, Zr, Zs]
  refine WpX.vD 5 (some 50) ?_ rfl rfl (by kernel_rfl) (fun _ _ _ h => h) rfl (fun wz hwz => ?_) ?_
  rotate_left
  ·(have q := (HT.out wz hwz).1; go_simp; try (with_reducible rfl))
  simp only [Zp, Zq, Zr, Zs]
  refine WpX.vD 6 (some 51) ?_ rfl rfl (by kernel_rfl) (fun _ _ _ h => h) rfl (fun wz hwz => ?_) ?_
  rotate_left
  ·go_simp; try (with_reducible rfl)
  simp only [Zp, Zq, Zr, Zs]
  refine WpX.vD 7 (some 52) ?_ rfl rfl (by kernel_rfl) (fun _ _ _ h => h) rfl (fun wz hwz => ?_) ?_
  rotate_left
  ·go_simp; try (with_reducible rfl)
  simp only [Zp, Zq, Zr, Zs]
  refine WpX.vD 8 (some 53) ?_ rfl rfl (by kernel_rfl) (fun _ _ _ h => h) rfl (fun wz hwz => ?_) ?_
  rotate_left
  ·(have q := (HT.out wz hwz).2; go_simp; try (with_reducible rfl))
  simp only [Zp, Zq, Zr, Zs]
  refine WpX.vD 9 (some 54) ?_ rfl rfl (by kernel_rfl) (fun _ _ _ h => h) rfl (fun wz hwz => ?_) ?_
  rotate_left
  ·go_simp; try (with_reducible rfl)
  simp only [Zp, Zq, Zr, Zs]
  refine WpX.vD 10 (some 55) ?_ rfl rfl (by kernel_rfl) (fun _ _ _ h => h) rfl (fun wz hwz => ?_) ?_
  rotate_left
  ·go_simp; try (with_reducible rfl)
  simp only [Zp, Zq, Zr, Zs]
  refine WpX.vD 11 (some 56) ?_ rfl rfl (by kernel_rfl) (fun _ _ _ h => h) rfl (fun wz hwz => ?_) ?_
  rotate_left
  ·go_simp; try (with_reducible rfl)
  simp only [Zp, Zq, Zr, Zs]
  refine WpX.vD 13 (some 57) ?_ rfl rfl (by kernel_rfl) (fun _ _ _ h => h) rfl (fun wz hwz => ?_) ?_
  rotate_left
  ·go_simp; try (with_reducible rfl)
  simp only [Zp, Zq, Zr, Zs]
  refine WpX.vD 14 (some 58) ?_ rfl rfl (by kernel_rfl) (fun _ _ _ h => h) rfl (fun wz hwz => ?_) ?_
  rotate_left
  ·go_simp; try (with_reducible rfl)
  simp only [Zp, Zq, Zr, Zs]
  refine WpX.oneSkip 12 none rfl rfl (by kernel_rfl) ((fun wz => Exc (fun q => q = cb) w2.heap.size w2 wz)) ((fun wz => Exc (fun q => q = cb) w2.heap.size w2 wz ∧ Vs wz cb (clL id m0 m1 true d1 k0 k1 due wait tries))) ((fun _ h => h)) ((fun _ h => h.1)) ((fun _ _ h hb => ⟨h.1.trans ((exc_of hb).mono h.1.size), h.2.call hb⟩)) rfl (fun wz hS => ?_) ?_
  ·((obtain ⟨⟨q0, q1, q2, q3, q4, q5, q6⟩, hfz, hcl⟩ := hS.2.cl HID.out h0 h1; have f0 := hfz 60 (by omega); exact ⟨_, by go_simp; try (with_reducible rfl), exc_sc hS.1 (.inl rfl) 60 (.bool true), HCL.out _ hS.2⟩))
  simp only [Act.put]
  refine WpX.vD 15 (some 59) ?_ rfl rfl (by kernel_rfl) (fun _ _ _ h => h) rfl (fun wz hwz => ?_) ?_
  rotate_left
  ·go_simp; try (with_reducible rfl)
  simp only [Zp, Zq, Zr, Zs]
  refine WpX.done (by kernel_rfl) (fun w3 h3 => ?_)
  (try simp only [List.drop_succ_cons]); (try simp only [List.drop_zero]); (try simp only [Nat.reduceSub]); (try simp only [List.take_succ_cons]); (try simp only [List.take_zero])
  have hC3 := h3.2
  obtain ⟨⟨q0, q1, q2, q3, q4, q5, q6⟩, hfz, hcl⟩ := hC3.cl HID.out h0 h1
  have f2 := hfz 62 (by omega)
  clear hfz
  have hC4 := hC3.clCode0 HID.out h0 h1 ec
  have hx4 := exc_sc h3.1 (.inl rfl) 62 (.int .i64 ec)
  have hx5 := Exc.trans (exc_of HB02.out) (hx4.mono HB02.out.size)
  have HC4 := Lib.hid hC4
  have HX5 := Lib.hid hx5
  clear hC3 hC4 hx4 hx5 h3 HT HCL hC2 hb2
  go_wp2_with fail
  go_ret
  exact ⟨rfl, HX5.out, HC4.out⟩
set_option maxHeartbeats 4000000 in
theorem client_ReceiveOth1 (id : List Int) (hid : id.length = 16) (m0 m1 : List Value) (h0 : m0.length = 22) (h1 : m1.length = 22) (d0 d1 : Bool) (k0 k1 due wait tries job start many code : Int) (sum : List Int) (hsum : sum.length = 16) (eb eo c : Nat) (eid : List Int) (heid : eid.length = 16) (et ec : Int) (pu sh : Value) (cb : Nat) (w : World) (hC : Vs w cb (clL id m0 m1 d0 d1 k0 k1 due wait tries))
  (hE : eb < w.heap.size ∧ w.rangeAt eb eo (entL eid et pu sh ec)) (hne : (eid == id) = false) :
  Calls Try.prog 17 #[.pointer (some ⟨cb, 0, none⟩), .int .i64 1, .agg (msgL 7 job start many sum code (.slice (some ⟨eb, eo, none⟩) 1 c)).toArray] w fun e w' => e = .returned (.int .i64 19) ∧ Below w.heap.size w w' := by
 have HID := Lib.hid hid
 have HCB := Lib.hid hC.lt
 go_enter Try.func17, Try.ntmps17
 go_upto_region 1 with fail
 have hM := Vs.new w (msgL 7 job start many sum code (.slice (some ⟨eb, eo, none⟩) 1 c)) ((msgL 7 job start many sum code (.slice (some ⟨eb, eo, none⟩) 1 c)).toArray) 27 rfl
 have hb00 : Below w.heap.size w (w.alloc (.cells (msgL 7 job start many sum code (.slice (some ⟨eb, eo, none⟩) 1 c)).toArray 27)) := by repeat (first | exact bA | with_reducible assumption | apply bB)
 have hszn : w.heap.size + 1 ≤ (w.alloc (.cells (msgL 7 job start many sum code (.slice (some ⟨eb, eo, none⟩) 1 c)).toArray 27)).heap.size := by simp only [World.size_alloc]; omega
 generalize (w.alloc (.cells (msgL 7 job start many sum code (.slice (some ⟨eb, eo, none⟩) 1 c)).toArray 27)) = w1 at hM hb00 hszn ⊢
 have HM := Lib.hid hM
 obtain ⟨x0, x1, x2, x3, x4, x5, x6, x7⟩ := hM.msg hsum
 clear hM
 have HC1 := Lib.hid (hC.call hb00)
 have HE1 := Lib.hid (rangeAt_call hE.2 hb00)
 have HEL := Lib.hid (Nat.lt_of_lt_of_le hE.1 hb00.size)
 clear hE hC
 go_upto_region 7 with fail
 have HX5 : Hid (∀ wz, Below w1.heap.size w1 wz → wz.cell? ⟨w.heap.size, 21, none⟩ = some (.slice (some ⟨eb, eo, none⟩) 1 c)) := Lib.hid fun wz h => ((HM.out.call h).msg hsum).2.2.2.2.2.1
 have HLI : Hid (∀ wz, Below w1.heap.size w1 wz → (Instr.loadAt 34 (.pointer (some ⟨eb, eo, none⟩))).run Try.prog wz = .ok (.agg (cells8 eid).toArray) wz) := Lib.hid fun wz h => load_R (rangeAt_entId (rangeAt_call HE1.out h) heid) Try.underlying34 rfl (by rw [cells8_length, heid]; exact size_id)
 have HLC : Hid (∀ wz, Below w1.heap.size w1 wz → (Instr.loadAt 34 (.pointer (some ⟨cb, 0, none⟩))).run Try.prog wz = .ok (.agg (cells8 id).toArray) wz) := Lib.hid fun wz h => (HC1.out.call h).loadCid HID.out
 clear x0 x1 x2 x3 x4 x5 x6 x7
 have hneq : ∀ wz, (Op.equalIn 10000 34 (.agg (cells8 eid).toArray) (.agg (cells8 id).toArray)).run Try.prog wz = .ok (eid == id) wz := fun wz => run_equalIn_16 9998 Try.underlying34 heid HID.out wz
 refine region_G (n := 10) (m := 11) (f := 10) (by kernel_rfl) (by kernel_rfl) rfl ?_
 refine WpG.vD 0 (some 28) ?_ rfl rfl (by kernel_rfl) (fun _ _ _ h => h) rfl (fun wz hwz => ?_) ?_
 rotate_left
 ·go_simp; try (with_reducible rfl)
 simp only [Zp, Zq, Zr, Zs]
 refine WpG.vD 1 (some 29) ?_ rfl rfl (by kernel_rfl) (fun _ _ _ h => h) rfl (fun wz hwz => ?_) ?_
 rotate_left
 ·(obtain ⟨hcz, hfz⟩ := bcell (hwz); have q := HX5.out wz hwz; go_simp; try (with_reducible rfl))
 simp only [Zp, Zq, Zr, Zs]
 refine WpG.vD 2 (some 30) ?_ rfl rfl (by kernel_rfl) (fun _ _ _ h => h) rfl (fun wz hwz => ?_) ?_
 rotate_left
 ·go_simp; try (with_reducible rfl)
 simp only [Zp, Zq, Zr, Zs]
 refine WpG.vD 3 (some 31) ?_ rfl rfl (by kernel_rfl) (fun _ _ _ h => h) rfl (fun wz hwz => ?_) ?_
 rotate_left
 ·go_simp; try (with_reducible rfl)
 simp only [Zp, Zq, Zr, Zs]
 refine WpG.vD 4 (some 32) ?_ rfl rfl (by kernel_rfl) (fun _ _ _ h => h) rfl (fun wz hwz => ?_) ?_
 rotate_left
 ·(refine Eq.trans (exec_load rfl (by kernel_rfl) (HLI.out wz hwz)) ?_; with_reducible rfl)
 simp only [Zp, Zq, Zr, Zs]
 refine WpG.vD 5 (some 33) ?_ rfl rfl (by kernel_rfl) (fun _ _ _ h => h) rfl (fun wz hwz => ?_) ?_
 rotate_left
 ·go_simp; try (with_reducible rfl)
 simp only [Zp, Zq, Zr, Zs]
 refine WpG.vD 6 (some 34) ?_ rfl rfl (by kernel_rfl) (fun _ _ _ h => h) rfl (fun wz hwz => ?_) ?_
 rotate_left
 ·go_simp; try (with_reducible rfl)
 simp only [Zp, Zq, Zr, Zs]
 refine WpG.vD 7 (some 35) ?_ rfl rfl (by kernel_rfl) (fun _ _ _ h => h) rfl (fun wz hwz => ?_) ?_
 rotate_left
 ·go_simp; try (with_reducible rfl)
 simp only [Zp, Zq, Zr, Zs]
 refine WpG.vD 8 (some 36) ?_ rfl rfl (by kernel_rfl) (fun _ _ _ h => h) rfl (fun wz hwz => ?_) ?_
 rotate_left
 ·(refine Eq.trans (exec_load rfl (by kernel_rfl) (HLC.out wz hwz)) ?_; with_reducible rfl)
 simp only [Zp, Zq, Zr, Zs]
 refine WpG.vD 9 (some 37) ?_ rfl rfl (by kernel_rfl) (fun _ _ _ h => h) rfl (fun wz hwz => ?_) ?_
 rotate_left
 ·go_simp; try (with_reducible rfl)
 simp only [Zp, Zq, Zr, Zs]
 refine WpG.done (by kernel_rfl) (fun w2 hb2 => ?_)
 (try simp only [List.drop_succ_cons]); (try simp only [List.drop_zero]); (try simp only [Nat.reduceSub]); (try simp only [List.take_succ_cons]); (try simp only [List.take_zero])
 clear hneq HX5 HLI HLC
 have hb02 := bl_call hb00 (Nat.le_refl _) hb2
 go_wp2_with fail
 go_ret
 exact ⟨rfl, hb02⟩
set_option maxHeartbeats 8000000 in
theorem client_RecvA1 (id : List Int) (hid : id.length = 16) (m0 m1 : List Value) (h0 : m0.length = 22) (h1 : m1.length = 22) (d0 d1 : Bool) (k0 k1 due wait tries job start many code : Int) (sum : List Int) (hsum : sum.length = 16) (eb eo c : Nat) (eid : List Int) (heid : eid.length = 16) (et ec : Int) (pu sh : Value) (cb : Nat) (w : World) (hC : Vs w cb (clL id m0 m1 d0 d1 k0 k1 due wait tries))
  (hE : eb < w.heap.size ∧ w.rangeAt eb eo (entL eid et pu sh ec)) (hne : (eid == id) = true) (hbe : eb ≠ cb) :
  Calls Try.prog 17 #[.pointer (some ⟨cb, 0, none⟩), .int .i64 1, .agg (msgL 7 job start many sum code (.slice (some ⟨eb, eo, none⟩) 1 c)).toArray] w fun e w' => (d1 = true ∧ e = .returned (.int .i64 14) ∧ Below w.heap.size w w') ∨ (d1 = false ∧ e = .returned (.int .i64 0) ∧ Exc (fun q => q = cb) w.heap.size w w' ∧
   Vs w' cb (clL id m0 m1 d0 true k0 ec due wait tries)) := by
 have HID := Lib.hid hid
 have HCB := Lib.hid hC.lt
 go_enter Try.func17, Try.ntmps17
 go_upto_region 1 with fail
 have hM := Vs.new w (msgL 7 job start many sum code (.slice (some ⟨eb, eo, none⟩) 1 c)) ((msgL 7 job start many sum code (.slice (some ⟨eb, eo, none⟩) 1 c)).toArray) 27 rfl
 have hb00 : Below w.heap.size w (w.alloc (.cells (msgL 7 job start many sum code (.slice (some ⟨eb, eo, none⟩) 1 c)).toArray 27)) := by repeat (first | exact bA | with_reducible assumption | apply bB)
 have hszn : w.heap.size + 1 ≤ (w.alloc (.cells (msgL 7 job start many sum code (.slice (some ⟨eb, eo, none⟩) 1 c)).toArray 27)).heap.size := by simp only [World.size_alloc]; omega
 generalize (w.alloc (.cells (msgL 7 job start many sum code (.slice (some ⟨eb, eo, none⟩) 1 c)).toArray 27)) = w1 at hM hb00 hszn ⊢
 have HM := Lib.hid hM
 obtain ⟨x0, x1, x2, x3, x4, x5, x6, x7⟩ := hM.msg hsum
 clear hM
 have HC1 := Lib.hid (hC.call hb00)
 have HE1 := Lib.hid (rangeAt_call hE.2 hb00)
 have HEL := Lib.hid (Nat.lt_of_lt_of_le hE.1 hb00.size)
 clear hE hC
 go_upto_region 7 with fail
 have HX5 : Hid (∀ wz, Below w1.heap.size w1 wz → wz.cell? ⟨w.heap.size, 21, none⟩ = some (.slice (some ⟨eb, eo, none⟩) 1 c)) := Lib.hid fun wz h => ((HM.out.call h).msg hsum).2.2.2.2.2.1
 have HLI : Hid (∀ wz, Below w1.heap.size w1 wz → (Instr.loadAt 34 (.pointer (some ⟨eb, eo, none⟩))).run Try.prog wz = .ok (.agg (cells8 eid).toArray) wz) := Lib.hid fun wz h => load_R (rangeAt_entId (rangeAt_call HE1.out h) heid) Try.underlying34 rfl (by rw [cells8_length, heid]; exact size_id)
 have HLC : Hid (∀ wz, Below w1.heap.size w1 wz → (Instr.loadAt 34 (.pointer (some ⟨cb, 0, none⟩))).run Try.prog wz = .ok (.agg (cells8 id).toArray) wz) := Lib.hid fun wz h => (HC1.out.call h).loadCid HID.out
 clear x0 x1 x2 x3 x4 x5 x6 x7
 have hneq : ∀ wz, (Op.equalIn 10000 34 (.agg (cells8 eid).toArray) (.agg (cells8 id).toArray)).run Try.prog wz = .ok (eid == id) wz := fun wz => run_equalIn_16 9998 Try.underlying34 heid HID.out wz
 refine region_G (n := 10) (m := 11) (f := 10) (by kernel_rfl) (by kernel_rfl) rfl ?_
 refine WpG.vD 0 (some 28) ?_ rfl rfl (by kernel_rfl) (fun _ _ _ h => h) rfl (fun wz hwz => ?_) ?_
 rotate_left
 ·go_simp; try (with_reducible rfl)
 simp only [Zp, Zq, Zr, Zs]
 refine WpG.vD 1 (some 29) ?_ rfl rfl (by kernel_rfl) (fun _ _ _ h => h) rfl (fun wz hwz => ?_) ?_
 rotate_left
 ·(obtain ⟨hcz, hfz⟩ := bcell (hwz); have q := HX5.out wz hwz; go_simp; try (with_reducible rfl))
 simp only [Zp, Zq, Zr, Zs]
 refine WpG.vD 2 (some 30) ?_ rfl rfl (by kernel_rfl) (fun _ _ _ h => h) rfl (fun wz hwz => ?_) ?_
 rotate_left
 ·go_simp; try (with_reducible rfl)
 simp only [Zp, Zq, Zr, Zs]
 refine WpG.vD 3 (some 31) ?_ rfl rfl (by kernel_rfl) (fun _ _ _ h => h) rfl (fun wz hwz => ?_) ?_
 rotate_left
 ·go_simp; try (with_reducible rfl)
 simp only [Zp, Zq, Zr, Zs]
 refine WpG.vD 4 (some 32) ?_ rfl rfl (by kernel_rfl) (fun _ _ _ h => h) rfl (fun wz hwz => ?_) ?_
 rotate_left
 ·(refine Eq.trans (exec_load rfl (by kernel_rfl) (HLI.out wz hwz)) ?_; with_reducible rfl)
 simp only [Zp, Zq, Zr, Zs]
 refine WpG.vD 5 (some 33) ?_ rfl rfl (by kernel_rfl) (fun _ _ _ h => h) rfl (fun wz hwz => ?_) ?_
 rotate_left
 ·go_simp; try (with_reducible rfl)
 simp only [Zp, Zq, Zr, Zs]
 refine WpG.vD 6 (some 34) ?_ rfl rfl (by kernel_rfl) (fun _ _ _ h => h) rfl (fun wz hwz => ?_) ?_
 rotate_left
 ·go_simp; try (with_reducible rfl)
 simp only [Zp, Zq, Zr, Zs]
 refine WpG.vD 7 (some 35) ?_ rfl rfl (by kernel_rfl) (fun _ _ _ h => h) rfl (fun wz hwz => ?_) ?_
 rotate_left
 ·go_simp; try (with_reducible rfl)
 simp only [Zp, Zq, Zr, Zs]
 refine WpG.vD 8 (some 36) ?_ rfl rfl (by kernel_rfl) (fun _ _ _ h => h) rfl (fun wz hwz => ?_) ?_
 rotate_left
 ·(refine Eq.trans (exec_load rfl (by kernel_rfl) (HLC.out wz hwz)) ?_; with_reducible rfl)
 simp only [Zp, Zq, Zr, Zs]
 refine WpG.vD 9 (some 37) ?_ rfl rfl (by kernel_rfl) (fun _ _ _ h => h) rfl (fun wz hwz => ?_) ?_
 rotate_left
 ·go_simp; try (with_reducible rfl)
 simp only [Zp, Zq, Zr, Zs]
 refine WpG.done (by kernel_rfl) (fun w2 hb2 => ?_)
 (try simp only [List.drop_succ_cons]); (try simp only [List.drop_zero]); (try simp only [Nat.reduceSub]); (try simp only [List.take_succ_cons]); (try simp only [List.take_zero])
 clear hneq HX5 HLI HLC
 have hb02 := bl_call hb00 (Nat.le_refl _) hb2
 have hC2 := HC1.out.call hb2
 obtain ⟨⟨q0, q1, q2, q3, q4, q5, q6⟩, hfz, hcl⟩ := hC2.cl HID.out h0 h1
 have f0 := hfz 61 (by omega)
 have f2 := hfz 63 (by omega)
 clear hfz
 cases d1 with
 | true =>
  go_wp2_with fail
  go_ret
  exact ⟨rfl, hb02⟩
 | false =>
  go_upto_region 11 with fail
  clear q0 q1 q2 q3 q4 q5 q6 f0 f2
  have HB02 := Lib.hid hb02
  have HT : Hid (∀ wz, Exc (fun q => q = cb) w2.heap.size w2 wz → wz.cell? ⟨w.heap.size, 21, none⟩ = some (.slice (some ⟨eb, eo, none⟩) 1 c) ∧ wz.cell? ⟨eb, eo + 19, none⟩ = some (.int .i64 ec)) := Lib.hid fun wz h => ⟨(((HM.out.call hb2).exc (fun e => by have := HCB.out; have e2 : w.heap.size = cb := e; omega) h).msg hsum).2.2.2.2.2.1, (rangeAt_ent (rangeAt_exc (rangeAt_call HE1.out hb2) (fun e => hbe e) h) heid).2.2.2⟩
  have hCL := fun wz (h : Vs wz cb (clL id m0 m1 d0 false k0 k1 due wait tries)) => h.clDone1 HID.out h0 h1 true
  have HCL := Lib.hid hCL
  clear hb02 hCL
  refine region_X (fun wz => Exc (fun q => q = cb) w2.heap.size w2 wz) (fun wz => Exc (fun q => q = cb) w2.heap.size w2 wz ∧ Vs wz cb (clL id m0 m1 d0 false k0 k1 due wait tries)) (fun _ h => h.1) (fun _ _ h hb => ⟨h.1.trans ((exc_of hb).mono h.1.size), h.2.call hb⟩) ⟨exc_of ((Below.refl _ _).drew), hC2.drew⟩ (n := 16) (m := 17) (f := 16) (by kernel_rfl) (by kernel_rfl) rfl ?_
  refine WpX.vD 0 (some 45) ?_ rfl rfl (by kernel_rfl) (fun _ _ _ h => h) rfl (fun wz hwz => ?_) ?_
  rotate_left
  ·go_simp; try (with_reducible rfl)
  simp only [Zp, Zq, Zr, Zs]
  refine WpX.vD 1 (some 46) ?_ rfl rfl (by kernel_rfl) (fun _ _ _ h => h) rfl (fun wz hwz => ?_) ?_
  rotate_left
  ·go_simp; try (with_reducible rfl)
  simp only [Zp, Zq, Zr, Zs]
  refine WpX.vD 2 (some 47) ?_ rfl rfl (by kernel_rfl) (fun _ _ _ h => h) rfl (fun wz hwz => ?_) ?_
  rotate_left
  ·go_simp; try (with_reducible rfl)
  simp only [Zp, Zq, Zr, Zs]
  refine WpX.vD 3 (some 48) ?_ rfl rfl (by kernel_rfl) (fun _ _ _ h => h) rfl (fun wz hwz => ?_) ?_
  rotate_left
  ·go_simp; try (with_reducible rfl)
  simp only [Zp, Zq, Zr, Zs]
  refine WpX.vD 4 (some 49) ?_ rfl rfl (by kernel_rfl) (fun _ _ _ h => h) rfl (fun wz hwz => ?_) ?_
  rotate_left
  ·go_simp; try (with_reducible rfl)
  simp only [Zp, Zq, Zr, Zs]
  refine WpX.vD 5 (some 50) ?_ rfl rfl (by kernel_rfl) (fun _ _ _ h => h) rfl (fun wz hwz => ?_) ?_
  rotate_left
  ·(have q := (HT.out wz hwz).1; go_simp; try (with_reducible rfl))
  simp only [Zp, Zq, Zr, Zs]
  refine WpX.vD 6 (some 51) ?_ rfl rfl (by kernel_rfl) (fun _ _ _ h => h) rfl (fun wz hwz => ?_) ?_
  rotate_left
  ·go_simp; try (with_reducible rfl)
  simp only [Zp, Zq, Zr, Zs]
  refine WpX.vD 7 (some 52) ?_ rfl rfl (by kernel_rfl) (fun _ _ _ h => h) rfl (fun wz hwz => ?_) ?_
  rotate_left
  ·go_simp; try (with_reducible rfl)
  simp only [Zp, Zq, Zr, Zs]
  refine WpX.vD 8 (some 53) ?_ rfl rfl (by kernel_rfl) (fun _ _ _ h => h) rfl (fun wz hwz => ?_) ?_
  rotate_left
  ·(have q := (HT.out wz hwz).2; go_simp; try (with_reducible rfl))
  simp only [Zp, Zq, Zr, Zs]
  refine WpX.vD 9 (some 54) ?_ rfl rfl (by kernel_rfl) (fun _ _ _ h => h) rfl (fun wz hwz => ?_) ?_
  rotate_left
  ·go_simp; try (with_reducible rfl)
  simp only [Zp, Zq, Zr, Zs]
  refine WpX.vD 10 (some 55) ?_ rfl rfl (by kernel_rfl) (fun _ _ _ h => h) rfl (fun wz hwz => ?_) ?_
  rotate_left
  ·go_simp; try (with_reducible rfl)
  simp only [Zp, Zq, Zr, Zs]
  refine WpX.vD 11 (some 56) ?_ rfl rfl (by kernel_rfl) (fun _ _ _ h => h) rfl (fun wz hwz => ?_) ?_
  rotate_left
  ·go_simp; try (with_reducible rfl)
  simp only [Zp, Zq, Zr, Zs]
  refine WpX.vD 13 (some 57) ?_ rfl rfl (by kernel_rfl) (fun _ _ _ h => h) rfl (fun wz hwz => ?_) ?_
  rotate_left
  ·go_simp; try (with_reducible rfl)
  simp only [Zp, Zq, Zr, Zs]
  refine WpX.vD 14 (some 58) ?_ rfl rfl (by kernel_rfl) (fun _ _ _ h => h) rfl (fun wz hwz => ?_) ?_
  rotate_left
  ·go_simp; try (with_reducible rfl)
  simp only [Zp, Zq, Zr, Zs]
  refine WpX.oneSkip 12 none rfl rfl (by kernel_rfl) ((fun wz => Exc (fun q => q = cb) w2.heap.size w2 wz)) ((fun wz => Exc (fun q => q = cb) w2.heap.size w2 wz ∧ Vs wz cb (clL id m0 m1 d0 true k0 k1 due wait tries))) ((fun _ h => h)) ((fun _ h => h.1)) ((fun _ _ h hb => ⟨h.1.trans ((exc_of hb).mono h.1.size), h.2.call hb⟩)) rfl (fun wz hS => ?_) ?_
  ·((obtain ⟨⟨q0, q1, q2, q3, q4, q5, q6⟩, hfz, hcl⟩ := hS.2.cl HID.out h0 h1; have f0 := hfz 61 (by omega); exact ⟨_, by go_simp; try (with_reducible rfl), exc_sc hS.1 (.inl rfl) 61 (.bool true), HCL.out _ hS.2⟩))
  simp only [Act.put]
  refine WpX.vD 15 (some 59) ?_ rfl rfl (by kernel_rfl) (fun _ _ _ h => h) rfl (fun wz hwz => ?_) ?_
  rotate_left
  ·go_simp; try (with_reducible rfl)
  simp only [Zp, Zq, Zr, Zs]
  refine WpX.done (by kernel_rfl) (fun w3 h3 => ?_)
  (try simp only [List.drop_succ_cons]); (try simp only [List.drop_zero]); (try simp only [Nat.reduceSub]); (try simp only [List.take_succ_cons]); (try simp only [List.take_zero])
  have hC3 := h3.2
  obtain ⟨⟨q0, q1, q2, q3, q4, q5, q6⟩, hfz, hcl⟩ := hC3.cl HID.out h0 h1
  have f2 := hfz 63 (by omega)
  clear hfz
  have hC4 := hC3.clCode1 HID.out h0 h1 ec
  have hx4 := exc_sc h3.1 (.inl rfl) 63 (.int .i64 ec)
  have hx5 := Exc.trans (exc_of HB02.out) (hx4.mono HB02.out.size)
  have HC4 := Lib.hid hC4
  have HX5 := Lib.hid hx5
  clear hC3 hC4 hx4 hx5 h3 HT HCL hC2 hb2
  go_wp2_with fail
  go_ret
  exact ⟨rfl, HX5.out, HC4.out⟩

set_option maxHeartbeats 4000000 in
theorem client_Done (id : List Int) (hid : id.length = 16) (m0 m1 : List Value) (h0 : m0.length = 22) (h1 : m1.length = 22) (d0 d1 : Bool) (k0 k1 due wait tries : Int) (cb : Nat) (w : World) (hC : Vs w cb (clL id m0 m1 d0 d1 k0 k1 due wait tries)) :
  Calls Try.prog 13 #[.pointer (some ⟨cb, 0, none⟩)] w fun e w' => e = .returned (.tuple #[.bool (d0 && d1), .agg #[.int .i64 k0, .int .i64 k1]]) ∧ Below w.heap.size w w' := by
 have HID := Lib.hid hid
 have HC := Lib.hid hC
 go_enter Try.func13, Try.ntmps13
 go_upto_region 1 with fail
 have hI := V2.new w (.int .i64 0) (.int .i64 0) 31
 have hb00 : Below w.heap.size w (w.alloc (.cells #[.int .i64 0, .int .i64 0] 31)) := by repeat (first | exact bA | with_reducible assumption | apply bB)
 have hszn : w.heap.size + 1 ≤ (w.alloc (.cells #[.int .i64 0, .int .i64 0] 31)).heap.size := by simp only [World.size_alloc]; omega
 generalize (w.alloc (.cells #[.int .i64 0, .int .i64 0] 31)) = w1 at hI hb00 hszn ⊢
 have HI := Lib.hid hI
 clear hI hC
 go_upto_region 3 with fail
 have hC1 := HC.out.call hb00
 obtain ⟨⟨q0, q1, q2, q3, q4, q5, q6⟩, hfz, hcl⟩ := hC1.cl HID.out h0 h1
 clear hfz q2 q3 q4 q5 q6
 have HLC : Hid (∀ wz, Below w1.heap.size w1 wz → (Instr.loadAt 31 (.pointer (some ⟨cb, 62, none⟩))).run Try.prog wz = .ok (.agg #[.int .i64 k0, .int .i64 k1]) wz) := Lib.hid fun wz h => (hC1.call h).loadCodes HID.out h0 h1
 clear hC1
 cases d0 with
 | true =>
  refine region_G (n := 17) (m := 18) (f := 17) (by kernel_rfl) (by kernel_rfl) rfl ?_
  refine WpG.vD 0 (some 7) ?_ rfl rfl (by kernel_rfl) (fun _ _ _ h => h) rfl (fun wz hwz => ?_) ?_
  rotate_left
  ·go_simp; try (with_reducible rfl)
  simp only [Zp, Zq, Zr, Zs]
  refine WpG.vD 1 (some 8) ?_ rfl rfl (by kernel_rfl) (fun _ _ _ h => h) rfl (fun wz hwz => ?_) ?_
  rotate_left
  ·go_simp; try (with_reducible rfl)
  simp only [Zp, Zq, Zr, Zs]
  refine WpG.vD 2 (some 9) ?_ rfl rfl (by kernel_rfl) (fun _ _ _ h => h) rfl (fun wz hwz => ?_) ?_
  rotate_left
  ·go_simp; try (with_reducible rfl)
  simp only [Zp, Zq, Zr, Zs]
  refine WpG.vD 3 (some 10) ?_ rfl rfl (by kernel_rfl) (fun _ _ _ h => h) rfl (fun wz hwz => ?_) ?_
  rotate_left
  ·go_simp; try (with_reducible rfl)
  simp only [Zp, Zq, Zr, Zs]
  refine WpG.vD 4 (some 11) ?_ rfl rfl (by kernel_rfl) (fun _ _ _ h => h) rfl (fun wz hwz => ?_) ?_
  rotate_left
  ·(obtain ⟨hcz, hfz⟩ := bcell (hwz); go_simp; try (with_reducible rfl))
  simp only [Zp, Zq, Zr, Zs]
  refine WpG.vD 5 (some 12) ?_ rfl rfl (by kernel_rfl) (fun _ _ _ h => h) rfl (fun wz hwz => ?_) ?_
  rotate_left
  ·go_simp; try (with_reducible rfl)
  simp only [Zp, Zq, Zr, Zs]
  refine WpG.vD 6 (some 13) ?_ rfl rfl (by kernel_rfl) (fun _ _ _ h => h) rfl (fun wz hwz => ?_) ?_
  rotate_left
  ·go_simp; try (with_reducible rfl)
  simp only [Zp, Zq, Zr, Zs]
  refine WpG.vD 7 (some 14) ?_ rfl rfl (by kernel_rfl) (fun _ _ _ h => h) rfl (fun wz hwz => ?_) ?_
  rotate_left
  ·go_simp; try (with_reducible rfl)
  simp only [Zp, Zq, Zr, Zs]
  refine WpG.vD 8 (some 15) ?_ rfl rfl (by kernel_rfl) (fun _ _ _ h => h) rfl (fun wz hwz => ?_) ?_
  rotate_left
  ·go_simp; try (with_reducible rfl)
  simp only [Zp, Zq, Zr, Zs]
  refine WpG.vD 9 (some 16) ?_ rfl rfl (by kernel_rfl) (fun _ _ _ h => h) rfl (fun wz hwz => ?_) ?_
  rotate_left
  ·go_simp; try (with_reducible rfl)
  simp only [Zp, Zq, Zr, Zs]
  refine WpG.vD 10 (some 17) ?_ rfl rfl (by kernel_rfl) (fun _ _ _ h => h) rfl (fun wz hwz => ?_) ?_
  rotate_left
  ·(obtain ⟨hcz, hfz⟩ := bcell (hwz); go_simp; try (with_reducible rfl))
  simp only [Zp, Zq, Zr, Zs]
  refine WpG.vD 11 (some 18) ?_ rfl rfl (by kernel_rfl) (fun _ _ _ h => h) rfl (fun wz hwz => ?_) ?_
  rotate_left
  ·go_simp; try (with_reducible rfl)
  simp only [Zp, Zq, Zr, Zs]
  refine WpG.vD 12 (some 19) ?_ rfl rfl (by kernel_rfl) (fun _ _ _ h => h) rfl (fun wz hwz => ?_) ?_
  rotate_left
  ·go_simp; try (with_reducible rfl)
  simp only [Zp, Zq, Zr, Zs]
  refine WpG.vD 13 (some 20) ?_ rfl rfl (by kernel_rfl) (fun _ _ _ h => h) rfl (fun wz hwz => ?_) ?_
  rotate_left
  ·go_simp; try (with_reducible rfl)
  simp only [Zp, Zq, Zr, Zs]
  refine WpG.vD 14 (some 21) ?_ rfl rfl (by kernel_rfl) (fun _ _ _ h => h) rfl (fun wz hwz => ?_) ?_
  rotate_left
  ·go_simp; try (with_reducible rfl)
  simp only [Zp, Zq, Zr, Zs]
  refine WpG.vD 15 (some 22) ?_ rfl rfl (by kernel_rfl) (fun _ _ _ h => h) rfl (fun wz hwz => ?_) ?_
  rotate_left
  ·(refine Eq.trans (exec_load rfl (by kernel_rfl) (HLC.out wz hwz)) ?_; with_reducible rfl)
  simp only [Zp, Zq, Zr, Zs]
  refine WpG.vD 16 (some 2) ?_ rfl rfl (by kernel_rfl) (fun _ _ _ h => h) rfl (fun wz hwz => ?_) ?_
  rotate_left
  ·go_simp; try (with_reducible rfl)
  simp only [Zp, Zq, Zr, Zs]
  refine WpG.done (by kernel_rfl) (fun w2 hb2 => ?_)
  (try simp only [List.drop_succ_cons]); (try simp only [List.drop_zero]); (try simp only [Nat.reduceSub]); (try simp only [List.take_succ_cons]); (try simp only [List.take_zero])
  have hb02 := bl_call hb00 (Nat.le_refl _) hb2
  have hI2 := HI.out.call hb2
  have hb3 := bl_st hb02 (b := w.heap.size) (Nat.le_refl _) (.int .i64 k0) (.int .i64 k1)
  have hI3 := Vs.of2 (hI2.set (.int .i64 k0) (.int .i64 k1))
  have HB3 := Lib.hid hb3
  have HI3 := Lib.hid hI3
  obtain ⟨I20, I21, I22, I23, I24⟩ := V2.mk hI2.c0 hI2.c1 hI2.f0 hI2.f1 hI2.lt
  clear hb3 hI3 hb02 hb2 HLC q0 q1 hcl
  go_wp2_with fail
  exact bodyPost_ret (results_codes (b := w.heap.size) HI3.out rfl rfl) rfl ⟨rfl, HB3.out⟩
 | false =>
  refine region_G (n := 17) (m := 18) (f := 17) (by kernel_rfl) (by kernel_rfl) rfl ?_
  refine WpG.vD 0 (some 7) ?_ rfl rfl (by kernel_rfl) (fun _ _ _ h => h) rfl (fun wz hwz => ?_) ?_
  rotate_left
  ·go_simp; try (with_reducible rfl)
  simp only [Zp, Zq, Zr, Zs]
  refine WpG.vD 1 (some 8) ?_ rfl rfl (by kernel_rfl) (fun _ _ _ h => h) rfl (fun wz hwz => ?_) ?_
  rotate_left
  ·go_simp; try (with_reducible rfl)
  simp only [Zp, Zq, Zr, Zs]
  refine WpG.vD 2 (some 9) ?_ rfl rfl (by kernel_rfl) (fun _ _ _ h => h) rfl (fun wz hwz => ?_) ?_
  rotate_left
  ·go_simp; try (with_reducible rfl)
  simp only [Zp, Zq, Zr, Zs]
  refine WpG.vD 3 (some 10) ?_ rfl rfl (by kernel_rfl) (fun _ _ _ h => h) rfl (fun wz hwz => ?_) ?_
  rotate_left
  ·go_simp; try (with_reducible rfl)
  simp only [Zp, Zq, Zr, Zs]
  refine WpG.vD 4 (some 11) ?_ rfl rfl (by kernel_rfl) (fun _ _ _ h => h) rfl (fun wz hwz => ?_) ?_
  rotate_left
  ·(obtain ⟨hcz, hfz⟩ := bcell (hwz); go_simp; try (with_reducible rfl))
  simp only [Zp, Zq, Zr, Zs]
  refine WpG.vD 5 (some 12) ?_ rfl rfl (by kernel_rfl) (fun _ _ _ h => h) rfl (fun wz hwz => ?_) ?_
  rotate_left
  ·go_simp; try (with_reducible rfl)
  simp only [Zp, Zq, Zr, Zs]
  refine WpG.takeD 6 (some 13) rfl rfl (by kernel_rfl) (fun _ _ _ h => h) (.skip rfl) ?_
  simp only [Zp, Zq, Zr, Zs]
  refine WpG.takeD 7 (some 14) rfl rfl (by kernel_rfl) (fun _ _ _ h => h) (.skip rfl) ?_
  simp only [Zp, Zq, Zr, Zs]
  refine WpG.takeD 8 (some 15) rfl rfl (by kernel_rfl) (fun _ _ _ h => h) (.skip rfl) ?_
  simp only [Zp, Zq, Zr, Zs]
  refine WpG.takeD 9 (some 16) rfl rfl (by kernel_rfl) (fun _ _ _ h => h) (.skip rfl) ?_
  simp only [Zp, Zq, Zr, Zs]
  refine WpG.takeD 10 (some 17) rfl rfl (by kernel_rfl) (fun _ _ _ h => h) (.skip rfl) ?_
  simp only [Zp, Zq, Zr, Zs]
  refine WpG.vD 11 (some 18) ?_ rfl rfl (by kernel_rfl) (fun _ _ _ h => h) rfl (fun wz hwz => ?_) ?_
  rotate_left
  ·go_simp; try (with_reducible rfl)
  simp only [Zp, Zq, Zr, Zs]
  refine WpG.vD 12 (some 19) ?_ rfl rfl (by kernel_rfl) (fun _ _ _ h => h) rfl (fun wz hwz => ?_) ?_
  rotate_left
  ·go_simp; try (with_reducible rfl)
  simp only [Zp, Zq, Zr, Zs]
  refine WpG.vD 13 (some 20) ?_ rfl rfl (by kernel_rfl) (fun _ _ _ h => h) rfl (fun wz hwz => ?_) ?_
  rotate_left
  ·go_simp; try (with_reducible rfl)
  simp only [Zp, Zq, Zr, Zs]
  refine WpG.vD 14 (some 21) ?_ rfl rfl (by kernel_rfl) (fun _ _ _ h => h) rfl (fun wz hwz => ?_) ?_
  rotate_left
  ·go_simp; try (with_reducible rfl)
  simp only [Zp, Zq, Zr, Zs]
  refine WpG.vD 15 (some 22) ?_ rfl rfl (by kernel_rfl) (fun _ _ _ h => h) rfl (fun wz hwz => ?_) ?_
  rotate_left
  ·(refine Eq.trans (exec_load rfl (by kernel_rfl) (HLC.out wz hwz)) ?_; with_reducible rfl)
  simp only [Zp, Zq, Zr, Zs]
  refine WpG.vD 16 (some 2) ?_ rfl rfl (by kernel_rfl) (fun _ _ _ h => h) rfl (fun wz hwz => ?_) ?_
  rotate_left
  ·go_simp; try (with_reducible rfl)
  simp only [Zp, Zq, Zr, Zs]
  refine WpG.done (by kernel_rfl) (fun w2 hb2 => ?_)
  (try simp only [List.drop_succ_cons]); (try simp only [List.drop_zero]); (try simp only [Nat.reduceSub]); (try simp only [List.take_succ_cons]); (try simp only [List.take_zero])
  have hb02 := bl_call hb00 (Nat.le_refl _) hb2
  have hI2 := HI.out.call hb2
  have hb3 := bl_st hb02 (b := w.heap.size) (Nat.le_refl _) (.int .i64 k0) (.int .i64 k1)
  have hI3 := Vs.of2 (hI2.set (.int .i64 k0) (.int .i64 k1))
  have HB3 := Lib.hid hb3
  have HI3 := Lib.hid hI3
  obtain ⟨I20, I21, I22, I23, I24⟩ := V2.mk hI2.c0 hI2.c1 hI2.f0 hI2.f1 hI2.lt
  clear hb3 hI3 hb02 hb2 HLC q0 q1 hcl
  go_wp2_with fail
  exact bodyPost_ret (results_codes (b := w.heap.size) HI3.out rfl rfl) rfl ⟨rfl, HB3.out⟩

set_option maxHeartbeats 4000000 in
theorem client_Id (id : List Int) (hid : id.length = 16) (m0 m1 : List Value) (h0 : m0.length = 22) (h1 : m1.length = 22) (d0 d1 : Bool) (k0 k1 due wait tries : Int) (cb : Nat) (w : World) (hC : Vs w cb (clL id m0 m1 d0 d1 k0 k1 due wait tries)) :
  Calls Try.prog 14 #[.pointer (some ⟨cb, 0, none⟩)] w fun e w' => e = .returned (.tuple #[.agg (cells8 id).toArray, .int .i64 tries]) ∧ Below w.heap.size w w' := by
 have HID := Lib.hid hid
 have HC := Lib.hid hC
 go_enter Try.func14, Try.ntmps14
 go_upto_region 1 with fail
 have hI := Vs.new w (cells8 z16) (#[.int .u8 0, .int .u8 0, .int .u8 0, .int .u8 0, .int .u8 0, .int .u8 0, .int .u8 0, .int .u8 0, .int .u8 0, .int .u8 0, .int .u8 0, .int .u8 0, .int .u8 0, .int .u8 0, .int .u8 0, .int .u8 0]) 34 rfl
 have hb00 : Below w.heap.size w (w.alloc (.cells #[.int .u8 0, .int .u8 0, .int .u8 0, .int .u8 0, .int .u8 0, .int .u8 0, .int .u8 0, .int .u8 0, .int .u8 0, .int .u8 0, .int .u8 0, .int .u8 0, .int .u8 0, .int .u8 0, .int .u8 0, .int .u8 0] 34)) := by repeat (first | exact bA | with_reducible assumption | apply bB)
 have hszn : w.heap.size + 1 ≤ (w.alloc (.cells #[.int .u8 0, .int .u8 0, .int .u8 0, .int .u8 0, .int .u8 0, .int .u8 0, .int .u8 0, .int .u8 0, .int .u8 0, .int .u8 0, .int .u8 0, .int .u8 0, .int .u8 0, .int .u8 0, .int .u8 0, .int .u8 0] 34)).heap.size := by simp only [World.size_alloc]; omega
 generalize (w.alloc (.cells #[.int .u8 0, .int .u8 0, .int .u8 0, .int .u8 0, .int .u8 0, .int .u8 0, .int .u8 0, .int .u8 0, .int .u8 0, .int .u8 0, .int .u8 0, .int .u8 0, .int .u8 0, .int .u8 0, .int .u8 0, .int .u8 0] 34)) = w1 at hI hb00 hszn ⊢
 have HI := Lib.hid hI
 clear hI hC
 go_upto_region 3 with fail
 have hC1 := HC.out.call hb00
 obtain ⟨⟨q0, q1, q2, q3, q4, q5, q6⟩, hfz, hcl⟩ := hC1.cl HID.out h0 h1
 clear hfz q0 q1 q2 q3 q4 q5
 have HLC : Hid (∀ wz, Below w1.heap.size w1 wz → (Instr.loadAt 34 (.pointer (some ⟨cb, 0, none⟩))).run Try.prog wz = .ok (.agg (cells8 id).toArray) wz) := Lib.hid fun wz h => (hC1.call h).loadCid HID.out
 clear hC1
 have HST : Hid (∀ wz, Vs wz w.heap.size (cells8 z16) → (Instr.storeAt 34 (.pointer (some ⟨w.heap.size, 0, none⟩)) (.agg (cells8 id).toArray)).run Try.prog wz = .ok () (wz.setCells w.heap.size 0 (cells8 id)) ∧ Vs (wz.setCells w.heap.size 0 (cells8 id)) w.heap.size (cells8 id)) := Lib.hid fun wz h => ⟨store_W (T := 34) h (l' := cells8 id) (by rw [cells8_length, cells8_length, HID.out, z16_length]) (by rw [cells8_length, HID.out]; exact size_id) (one8 _), h.set16 z16_length HID.out⟩
 have HT : Hid (∀ wz, Exc (fun q => q = w.heap.size) w1.heap.size w1 wz → (Instr.loadAt 34 (.pointer (some ⟨cb, 0, none⟩))).run Try.prog wz = .ok (.agg (cells8 id).toArray) wz ∧ wz.cell? ⟨cb, 66, none⟩ = some (.int .i64 tries)) := Lib.hid fun wz h => by
  have h2 := (HC.out.call hb00).exc (S := fun q => q = w.heap.size) (fun e => by have := HC.out.lt; have e2 : cb = w.heap.size := e; omega) h
  exact ⟨h2.loadCid HID.out, (h2.cl HID.out h0 h1).1.2.2.2.2.2.2⟩
 clear HLC q6 hcl
 refine region_X (fun wz => Exc (fun q => q = w.heap.size) w1.heap.size w1 wz) (fun wz => Exc (fun q => q = w.heap.size) w1.heap.size w1 wz ∧ Vs wz w.heap.size (cells8 z16)) (fun _ h => h.1) (fun _ _ h hb => ⟨h.1.trans ((exc_of hb).mono h.1.size), h.2.call hb⟩) ⟨exc_of ((Below.refl _ _).drew), HI.out.drew⟩ (n := 9) (m := 10) (f := 9) (by kernel_rfl) (by kernel_rfl) rfl ?_
 refine WpX.vD 0 (some 7) ?_ rfl rfl (by kernel_rfl) (fun _ _ _ h => h) rfl (fun wz hwz => ?_) ?_
 rotate_left
 ·go_simp; try (with_reducible rfl)
 simp only [Zp, Zq, Zr, Zs]
 refine WpX.vD 1 (some 8) ?_ rfl rfl (by kernel_rfl) (fun _ _ _ h => h) rfl (fun wz hwz => ?_) ?_
 rotate_left
 ·go_simp; try (with_reducible rfl)
 simp only [Zp, Zq, Zr, Zs]
 refine WpX.vD 2 (some 9) ?_ rfl rfl (by kernel_rfl) (fun _ _ _ h => h) rfl (fun wz hwz => ?_) ?_
 rotate_left
 ·go_simp; try (with_reducible rfl)
 simp only [Zp, Zq, Zr, Zs]
 refine WpX.vD 3 (some 10) ?_ rfl rfl (by kernel_rfl) (fun _ _ _ h => h) rfl (fun wz hwz => ?_) ?_
 rotate_left
 ·(refine Eq.trans (exec_load rfl (by kernel_rfl) ((HT.out wz hwz).1)) ?_; with_reducible rfl)
 simp only [Zp, Zq, Zr, Zs]
 refine WpX.vD 4 (some 11) ?_ rfl rfl (by kernel_rfl) (fun _ _ _ h => h) rfl (fun wz hwz => ?_) ?_
 rotate_left
 ·go_simp; try (with_reducible rfl)
 simp only [Zp, Zq, Zr, Zs]
 refine WpX.vD 5 (some 12) ?_ rfl rfl (by kernel_rfl) (fun _ _ _ h => h) rfl (fun wz hwz => ?_) ?_
 rotate_left
 ·go_simp; try (with_reducible rfl)
 simp only [Zp, Zq, Zr, Zs]
 refine WpX.vD 6 (some 13) ?_ rfl rfl (by kernel_rfl) (fun _ _ _ h => h) rfl (fun wz hwz => ?_) ?_
 rotate_left
 ·go_simp; try (with_reducible rfl)
 simp only [Zp, Zq, Zr, Zs]
 refine WpX.vD 7 (some 14) ?_ rfl rfl (by kernel_rfl) (fun _ _ _ h => h) rfl (fun wz hwz => ?_) ?_
 rotate_left
 ·(have q := (HT.out wz hwz).2; go_simp; try (with_reducible rfl))
 simp only [Zp, Zq, Zr, Zs]
 refine WpX.oneSkip 8 none rfl rfl (by kernel_rfl) ((fun wz => Exc (fun q => q = w.heap.size) w1.heap.size w1 wz)) ((fun wz => Exc (fun q => q = w.heap.size) w1.heap.size w1 wz ∧ Vs wz w.heap.size (cells8 id))) ((fun _ h => h)) ((fun _ h => h.1)) ((fun _ _ h hb => ⟨h.1.trans ((exc_of hb).mono h.1.size), h.2.call hb⟩)) rfl (fun wz hS => ?_) ?_
 ·((exact ⟨_, exec_store rfl (by kernel_rfl) (by kernel_rfl) (HST.out wz hS.2).1, exc_setCells (S := fun q => q = w.heap.size) w.heap.size rfl _ _ _ hS.1, (HST.out wz hS.2).2⟩))
 simp only [Act.put]
 refine WpX.done (by kernel_rfl) (fun w2 h2 => ?_)
 (try simp only [List.drop_succ_cons]); (try simp only [List.drop_zero]); (try simp only [Nat.reduceSub]); (try simp only [List.take_succ_cons]); (try simp only [List.take_zero])
 have HR := Lib.hid h2.2
 have HB := Lib.hid (hb00.trans (Exc.below (h2.1.mono hb00.size) (fun q hq e => by
  have e2 : q = w.heap.size := e
  omega)))
 clear h2 hb00 HST HT
 go_upto_region 99 with fail
 exact bodyPost_ret (results_idn (b := w.heap.size) HR.out HID.out rfl rfl) rfl ⟨rfl, HB.out⟩

end Go.Proofs.Ytbakkmfjamcbfaa

namespace Go.Proofs.Ytbakkmfjamcbfaa
open Go.RowKit Fm
set_option linter.unusedVariables false
set_option maxRecDepth 100000

theorem rdB_conv {w : World} {A : Option Addr} {n c : Nat} {xs : List Int} (h : RdB w A n xs) : ∀ wz, Below w.heap.size w wz → (convert 28 9 (.slice A n c)).run Try.prog wz = .ok (.string (strOfNums xs)) wz := by
 intro wz hb
 obtain ⟨h1, h2, h3⟩ := h
 by_cases hn : 0 < n
 ·obtain ⟨b, o, rfl, hlt, hr⟩ := h3 hn
  refine run_convert_bytes_arg wz _ 5 Try.underlying28 Try.underlying5 b o n c xs h1 (fun i hi => ?_) _ Try.underlying9
  have hx : xs[i]? = some (xs.getD i 0) := by
   rw [List.getD_eq_getElem?_getD, List.getElem?_eq_getElem (by omega)]
   rfl
  exact (hb.cell (p := ⟨b, o + i, none⟩) hlt).trans (hr i _ hx)
 ·obtain rfl : n = 0 := by omega
  obtain rfl : xs = [] := List.eq_nil_of_length_eq_zero h1
  rw [run_convert_bytes_string wz _ _ _ _ 0 c Try.underlying28 Try.underlying5 Try.underlying9]
  cases A <;> simp [Conv.bytesToString, loadCells]
  all_goals rfl
theorem RdB.exc {S : Nat → Prop} {w w' : World} {A : Option Addr} {n : Nat} {xs : List Int} (h : RdB w A n xs) (hS : ∀ b o, 0 < n → A = some ⟨b, o, none⟩ → ¬ S b) (hb : Exc S w.heap.size w w') : RdB w' A n xs :=
 ⟨h.1, h.2.1, fun hn => by
  obtain ⟨b, o, h1, h2, h3⟩ := h.2.2 hn
  exact ⟨b, o, h1, Nat.lt_of_lt_of_le h2 hb.size, fun i e hi => cell_exc (h3 i e hi) (hS b o hn h1) hb⟩⟩

section
variable {w : World} {b : Nat} {id sum : List Int} {time code kind job start many : Int} {pu sh es : Value}
theorem Vs.loadEid (hid : id.length = 16) (h : Vs w b (entL id time pu sh code)) : (Instr.loadAt 34 (.pointer (some ⟨b, 0, none⟩))).run Try.prog w = .ok (.agg (cells8 id).toArray) w := by
 unfold entL at h
 have h9 : Vs w b ([] ++ cells8 id ++ [.int .u64 time, pu, sh, .int .i64 code]) := h
 exact load_P h9 Try.underlying34 rfl (by rw [cells8_length, hid]; exact size_id)
theorem Vs.loadMsum (hk : sum.length = 16) (h : Vs w b (msgL kind job start many sum code es)) : (Instr.loadAt 23 (.pointer (some ⟨b, 4, none⟩))).run Try.prog w = .ok (.agg (cells8 sum).toArray) w := by
 unfold msgL at h
 rw [← List.append_assoc] at h
 exact load_P h Try.underlying23 rfl (by rw [cells8_length, hk]; kernel_rfl)
end

set_option maxHeartbeats 4000000 in
theorem msg_same1 (id : List Int) (hid : id.length = 16) (time code : Int) (A A' B B' : Option Addr) (n c n' c' d d' : Nat) (xs ys : List Int) (w : World) (hA : RdB w A n xs) (hA' : RdB w A' n' ys) (hB : RdB w B n xs) (hB' : RdB w B' n' ys) :
  Calls Try.prog 51 #[.agg (entL id time (.slice A n c) (.slice A' n' c') code).toArray, .agg (entL id time (.slice B n d) (.slice B' n' d') code).toArray] w fun e w' => e = .returned (.bool true) ∧ Below w.heap.size w w' := by
 have HID := Lib.hid hid
 have CA := Lib.hid fun wz h => rdB_conv (c := c) hA wz h
 have CA' := Lib.hid fun wz h => rdB_conv (c := c') hA' wz h
 have CB := Lib.hid fun wz h => rdB_conv (c := d) hB wz h
 have CB' := Lib.hid fun wz h => rdB_conv (c := d') hB' wz h
 have HEQ : Hid (∀ wz, (Op.equalIn 10000 34 (.agg (cells8 id).toArray) (.agg (cells8 id).toArray)).run Try.prog wz = .ok true wz) := fun wz => by
  rw [run_equalIn_16 9998 Try.underlying34 hid hid]
  simp
 clear hid hA hA' hB hB'
 go_enter Try.func51, Try.ntmps51
 go_upto_region 1 with fail
 have hX := (Vs.new w (entL id time (.slice A n c) (.slice A' n' c') code) ((entL id time (.slice A n c) (.slice A' n' c') code).toArray) 44 rfl).alloc (.cells (entL id time (.slice B n d) (.slice B' n' d') code).toArray 44)
 have hY := Vs.new (w.alloc (.cells (entL id time (.slice A n c) (.slice A' n' c') code).toArray 44)) (entL id time (.slice B n d) (.slice B' n' d') code) ((entL id time (.slice B n d) (.slice B' n' d') code).toArray) 44 rfl
 simp only [World.size_alloc] at hY
 have hb00 : Below w.heap.size w ((w.alloc (.cells (entL id time (.slice A n c) (.slice A' n' c') code).toArray 44)).alloc (.cells (entL id time (.slice B n d) (.slice B' n' d') code).toArray 44)) := by repeat (first | exact bA | with_reducible assumption | apply bB)
 have hszn : w.heap.size + 2 ≤ ((w.alloc (.cells (entL id time (.slice A n c) (.slice A' n' c') code).toArray 44)).alloc (.cells (entL id time (.slice B n d) (.slice B' n' d') code).toArray 44)).heap.size := by simp only [World.size_alloc]; omega
 generalize ((w.alloc (.cells (entL id time (.slice A n c) (.slice A' n' c') code).toArray 44)).alloc (.cells (entL id time (.slice B n d) (.slice B' n' d') code).toArray 44)) = w1 at hX hY hb00 hszn ⊢
 obtain ⟨x0, x1, x2, x3, x4, x5, x6⟩ := hX.ent HID.out
 obtain ⟨y0, y1, y2, y3, y4, y5, y6⟩ := hY.ent HID.out
 refine wp_region_lit ?_
 refine wpList_valD (some 5) rfl rfl (by (go_simp; first | with_reducible rfl | exact ⟨rfl, rfl⟩ | (trace_state; fail))) ?_
 simp only [Zp, Zq, Zr, Zs]
 refine wpList_valD (some 6) rfl rfl (exec_load rfl (by kernel_rfl) (hX.loadEid HID.out)) ?_
 simp only [Zp, Zq, Zr, Zs]
 refine wpList_valD (some 7) rfl rfl (by (go_simp; first | with_reducible rfl | exact ⟨rfl, rfl⟩ | (trace_state; fail))) ?_
 simp only [Zp, Zq, Zr, Zs]
 refine wpList_valD (some 8) rfl rfl (exec_load rfl (by kernel_rfl) (hY.loadEid HID.out)) ?_
 simp only [Zp, Zq, Zr, Zs]
 refine wpList_valD (some 9) rfl rfl (by (have hz := HEQ.out w1; go_simp; first | with_reducible rfl | exact ⟨rfl, rfl⟩ | (trace_state; fail))) ?_
 simp only [Zp, Zq, Zr, Zs]
 refine wpList_valD (some 10) rfl rfl (by (go_simp; first | with_reducible rfl | exact ⟨rfl, rfl⟩ | (trace_state; fail))) ?_
 simp only [Zp, Zq, Zr, Zs]
 refine wpList_valG (some 11) rfl (by kernel_rfl) (by (go_simp; first | with_reducible rfl | exact ⟨rfl, rfl⟩ | (trace_state; fail))) ?_
 simp only [Zp, Zq, Zr, Zs]
 refine wpList_valG (some 12) rfl (by kernel_rfl) (by (go_simp; first | with_reducible rfl | exact ⟨rfl, rfl⟩ | (trace_state; fail))) ?_
 simp only [Zp, Zq, Zr, Zs]
 refine wpList_valG (some 13) rfl (by kernel_rfl) (by (go_simp; first | with_reducible rfl | exact ⟨rfl, rfl⟩ | (trace_state; fail))) ?_
 simp only [Zp, Zq, Zr, Zs]
 refine wpList_valG (some 14) rfl (by kernel_rfl) (by (go_simp; first | with_reducible rfl | exact ⟨rfl, rfl⟩ | (trace_state; fail))) ?_
 simp only [Zp, Zq, Zr, Zs]
 refine wpList_valG (some 15) rfl (by kernel_rfl) (by (go_simp; first | with_reducible rfl | exact ⟨rfl, rfl⟩ | (trace_state; fail))) ?_
 simp only [Zp, Zq, Zr, Zs]
 refine wpList_valD (some 16) rfl rfl (by (go_simp; first | with_reducible rfl | exact ⟨rfl, rfl⟩ | (trace_state; fail))) ?_
 simp only [Zp, Zq, Zr, Zs]
 refine wpList_valD (some 17) rfl rfl (by (go_simp; first | with_reducible rfl | exact ⟨rfl, rfl⟩ | (trace_state; fail))) ?_
 simp only [Zp, Zq, Zr, Zs]
 refine wpList_valG (some 18) rfl (by kernel_rfl) (by (go_simp; first | with_reducible rfl | exact ⟨rfl, rfl⟩ | (trace_state; fail))) ?_
 simp only [Zp, Zq, Zr, Zs]
 refine wpList_valG (some 19) rfl (by kernel_rfl) (by (go_simp; first | with_reducible rfl | exact ⟨rfl, rfl⟩ | (trace_state; fail))) ?_
 simp only [Zp, Zq, Zr, Zs]
 refine wpList_valG (some 20) rfl (by kernel_rfl) (by (go_simp; first | with_reducible rfl | exact ⟨rfl, rfl⟩ | (trace_state; fail))) ?_
 simp only [Zp, Zq, Zr, Zs]
 refine wpList_valG (some 21) rfl (by kernel_rfl) (by (go_simp; first | with_reducible rfl | exact ⟨rfl, rfl⟩ | (trace_state; fail))) ?_
 simp only [Zp, Zq, Zr, Zs]
 refine wpList_valG (some 22) rfl (by kernel_rfl) (by (go_simp; first | with_reducible rfl | exact ⟨rfl, rfl⟩ | (trace_state; fail))) ?_
 simp only [Zp, Zq, Zr, Zs]
 refine wpList_valD (some 23) rfl rfl (by (go_simp; first | with_reducible rfl | exact ⟨rfl, rfl⟩ | (trace_state; fail))) ?_
 simp only [Zp, Zq, Zr, Zs]
 refine wpList_valD (some 24) rfl rfl (by (go_simp; first | with_reducible rfl | exact ⟨rfl, rfl⟩ | (trace_state; fail))) ?_
 simp only [Zp, Zq, Zr, Zs]
 refine wpList_valG (some 25) rfl (by kernel_rfl) (by (go_simp; first | with_reducible rfl | exact ⟨rfl, rfl⟩ | (trace_state; fail))) ?_
 simp only [Zp, Zq, Zr, Zs]
 refine wpList_valG (some 26) rfl (by kernel_rfl) (by (go_simp; first | with_reducible rfl | exact ⟨rfl, rfl⟩ | (trace_state; fail))) ?_
 simp only [Zp, Zq, Zr, Zs]
 refine wpList_valG (some 27) rfl (by kernel_rfl) (by (have hz := CA.out w1 hb00; go_simp; first | with_reducible rfl | exact ⟨rfl, rfl⟩ | (trace_state; fail))) ?_
 simp only [Zp, Zq, Zr, Zs]
 refine wpList_valG (some 28) rfl (by kernel_rfl) (by (go_simp; first | with_reducible rfl | exact ⟨rfl, rfl⟩ | (trace_state; fail))) ?_
 simp only [Zp, Zq, Zr, Zs]
 refine wpList_valG (some 29) rfl (by kernel_rfl) (by (go_simp; first | with_reducible rfl | exact ⟨rfl, rfl⟩ | (trace_state; fail))) ?_
 simp only [Zp, Zq, Zr, Zs]
 refine wpList_valG (some 30) rfl (by kernel_rfl) (by (have hz := CB.out w1 hb00; go_simp; first | with_reducible rfl | exact ⟨rfl, rfl⟩ | (trace_state; fail))) ?_
 simp only [Zp, Zq, Zr, Zs]
 refine wpList_valG (some 31) rfl (by kernel_rfl) (by (go_simp; first | with_reducible rfl | exact ⟨rfl, rfl⟩ | (trace_state; fail))) ?_
 simp only [Zp, Zq, Zr, Zs]
 refine wpList_valD (some 32) rfl rfl (by (go_simp; first | with_reducible rfl | exact ⟨rfl, rfl⟩ | (trace_state; fail))) ?_
 simp only [Zp, Zq, Zr, Zs]
 refine wpList_valD (some 33) rfl rfl (by (go_simp; first | with_reducible rfl | exact ⟨rfl, rfl⟩ | (trace_state; fail))) ?_
 simp only [Zp, Zq, Zr, Zs]
 refine wpList_valG (some 34) rfl (by kernel_rfl) (by (go_simp; first | with_reducible rfl | exact ⟨rfl, rfl⟩ | (trace_state; fail))) ?_
 simp only [Zp, Zq, Zr, Zs]
 refine wpList_valG (some 35) rfl (by kernel_rfl) (by (go_simp; first | with_reducible rfl | exact ⟨rfl, rfl⟩ | (trace_state; fail))) ?_
 simp only [Zp, Zq, Zr, Zs]
 refine wpList_valG (some 36) rfl (by kernel_rfl) (by (have hz := CA'.out w1 hb00; go_simp; first | with_reducible rfl | exact ⟨rfl, rfl⟩ | (trace_state; fail))) ?_
 simp only [Zp, Zq, Zr, Zs]
 refine wpList_valG (some 37) rfl (by kernel_rfl) (by (go_simp; first | with_reducible rfl | exact ⟨rfl, rfl⟩ | (trace_state; fail))) ?_
 simp only [Zp, Zq, Zr, Zs]
 refine wpList_valG (some 38) rfl (by kernel_rfl) (by (go_simp; first | with_reducible rfl | exact ⟨rfl, rfl⟩ | (trace_state; fail))) ?_
 simp only [Zp, Zq, Zr, Zs]
 refine wpList_valG (some 39) rfl (by kernel_rfl) (by (have hz := CB'.out w1 hb00; go_simp; first | with_reducible rfl | exact ⟨rfl, rfl⟩ | (trace_state; fail))) ?_
 simp only [Zp, Zq, Zr, Zs]
 refine wpList_valG (some 40) rfl (by kernel_rfl) (by (go_simp; first | with_reducible rfl | exact ⟨rfl, rfl⟩ | (trace_state; fail))) ?_
 simp only [Zp, Zq, Zr, Zs]
 refine wpList_valD (some 41) rfl rfl (by (go_simp; first | with_reducible rfl | exact ⟨rfl, rfl⟩ | (trace_state; fail))) ?_
 simp only [Zp, Zq, Zr, Zs]
 refine wpList_valD (some 4) rfl rfl (by (go_simp; first | with_reducible rfl | exact ⟨rfl, rfl⟩ | (trace_state; fail))) ?_
 simp only [Zp, Zq, Zr, Zs]
 clear x0 x1 x2 x3 x4 x5 x6 y0 y1 y2 y3 y4 y5 y6 hX hY
 go_wp2_with fail
 go_ret
 exact ⟨by simp, hb00⟩

set_option maxHeartbeats 4000000 in
theorem msg_Same1 (id : List Int) (hid : id.length = 16) (time : Int) (A A' B B' : Option Addr) (n c n' c' d d' g h cg ch : Nat) (xs ys : List Int) (w : World) (hA : RdB w A n xs) (hA' : RdB w A' n' ys) (hB : RdB w B n xs) (hB' : RdB w B' n' ys)
  (hg : Vs w g (entL id time (.slice A n c) (.slice A' n' c') 0)) (hh : Vs w h (entL id time (.slice B n d) (.slice B' n' d') 0)) :
  Calls Try.prog 18 #[.agg (msgL 1 0 0 0 z16 0 (.slice (some ⟨g, 0, none⟩) 1 cg)).toArray, .agg (msgL 1 0 0 0 z16 0 (.slice (some ⟨h, 0, none⟩) 1 ch)).toArray] w fun e w' => e = .returned (.bool true) ∧ Below w.heap.size w w' := by
 have HID := Lib.hid hid
 have HG := Lib.hid hg
 have HH := Lib.hid hh
 have HS : Hid (∀ wz, Below w.heap.size w wz → Calls Try.prog 51 #[.agg (entL id time (.slice A n c) (.slice A' n' c') 0).toArray, .agg (entL id time (.slice B n d) (.slice B' n' d') 0).toArray] wz fun e w' => e = .returned (.bool true) ∧ Below wz.heap.size wz w') := Lib.hid fun wz hb => msg_same1 id hid time 0 A A' B B' n c n' c' d d' xs ys wz (hA.call hb) (hA'.call hb) (hB.call hb) (hB'.call hb)
 have HEQ : Hid (∀ wz, (Op.equalIn 10000 23 (.agg (cells8 z16).toArray) (.agg (cells8 z16).toArray)).run Try.prog wz = .ok true wz) := fun wz => by
  rw [run_equalIn_16 9998 Try.underlying23 z16_length z16_length]
  simp
 clear hid hA hA' hB hB' hg hh
 go_enter Try.func18, Try.ntmps18
 go_upto_region 1 with fail
 have hX := (Vs.new w (msgL 1 0 0 0 z16 0 (.slice (some ⟨g, 0, none⟩) 1 cg)) ((msgL 1 0 0 0 z16 0 (.slice (some ⟨g, 0, none⟩) 1 cg)).toArray) 27 rfl).alloc (.cells (msgL 1 0 0 0 z16 0 (.slice (some ⟨h, 0, none⟩) 1 ch)).toArray 27)
 have hY := Vs.new (w.alloc (.cells (msgL 1 0 0 0 z16 0 (.slice (some ⟨g, 0, none⟩) 1 cg)).toArray 27)) (msgL 1 0 0 0 z16 0 (.slice (some ⟨h, 0, none⟩) 1 ch)) ((msgL 1 0 0 0 z16 0 (.slice (some ⟨h, 0, none⟩) 1 ch)).toArray) 27 rfl
 simp only [World.size_alloc] at hY
 have hb00 : Below w.heap.size w ((w.alloc (.cells (msgL 1 0 0 0 z16 0 (.slice (some ⟨g, 0, none⟩) 1 cg)).toArray 27)).alloc (.cells (msgL 1 0 0 0 z16 0 (.slice (some ⟨h, 0, none⟩) 1 ch)).toArray 27)) := by repeat (first | exact bA | with_reducible assumption | apply bB)
 have hszn : w.heap.size + 2 ≤ ((w.alloc (.cells (msgL 1 0 0 0 z16 0 (.slice (some ⟨g, 0, none⟩) 1 cg)).toArray 27)).alloc (.cells (msgL 1 0 0 0 z16 0 (.slice (some ⟨h, 0, none⟩) 1 ch)).toArray 27)).heap.size := by simp only [World.size_alloc]; omega
 generalize ((w.alloc (.cells (msgL 1 0 0 0 z16 0 (.slice (some ⟨g, 0, none⟩) 1 cg)).toArray 27)).alloc (.cells (msgL 1 0 0 0 z16 0 (.slice (some ⟨h, 0, none⟩) 1 ch)).toArray 27)) = w1 at hX hY hb00 hszn ⊢
 obtain ⟨x0, x1, x2, x3, x4, x5, x6, x7⟩ := hX.msg z16_length
 obtain ⟨y0, y1, y2, y3, y4, y5, y6, y7⟩ := hY.msg z16_length
 refine wp_region_lit ?_
 refine wpList_valD (some 6) rfl rfl (by (go_simp; first | with_reducible rfl | exact ⟨rfl, rfl⟩ | (trace_state; fail))) ?_
 simp only [Zp, Zq, Zr, Zs]
 refine wpList_valD (some 7) rfl rfl (by (go_simp; first | with_reducible rfl | exact ⟨rfl, rfl⟩ | (trace_state; fail))) ?_
 simp only [Zp, Zq, Zr, Zs]
 refine wpList_valD (some 8) rfl rfl (by (go_simp; first | with_reducible rfl | exact ⟨rfl, rfl⟩ | (trace_state; fail))) ?_
 simp only [Zp, Zq, Zr, Zs]
 refine wpList_valD (some 9) rfl rfl (by (go_simp; first | with_reducible rfl | exact ⟨rfl, rfl⟩ | (trace_state; fail))) ?_
 simp only [Zp, Zq, Zr, Zs]
 refine wpList_valD (some 10) rfl rfl (by (go_simp; first | with_reducible rfl | exact ⟨rfl, rfl⟩ | (trace_state; fail))) ?_
 simp only [Zp, Zq, Zr, Zs]
 refine wpList_valD (some 11) rfl rfl (by (go_simp; first | with_reducible rfl | exact ⟨rfl, rfl⟩ | (trace_state; fail))) ?_
 simp only [Zp, Zq, Zr, Zs]
 refine wpList_valG (some 12) rfl (by kernel_rfl) (by (go_simp; first | with_reducible rfl | exact ⟨rfl, rfl⟩ | (trace_state; fail))) ?_
 simp only [Zp, Zq, Zr, Zs]
 refine wpList_valG (some 13) rfl (by kernel_rfl) (by (go_simp; first | with_reducible rfl | exact ⟨rfl, rfl⟩ | (trace_state; fail))) ?_
 simp only [Zp, Zq, Zr, Zs]
 refine wpList_valG (some 14) rfl (by kernel_rfl) (by (go_simp; first | with_reducible rfl | exact ⟨rfl, rfl⟩ | (trace_state; fail))) ?_
 simp only [Zp, Zq, Zr, Zs]
 refine wpList_valG (some 15) rfl (by kernel_rfl) (by (go_simp; first | with_reducible rfl | exact ⟨rfl, rfl⟩ | (trace_state; fail))) ?_
 simp only [Zp, Zq, Zr, Zs]
 refine wpList_valG (some 16) rfl (by kernel_rfl) (by (go_simp; first | with_reducible rfl | exact ⟨rfl, rfl⟩ | (trace_state; fail))) ?_
 simp only [Zp, Zq, Zr, Zs]
 refine wpList_valD (some 17) rfl rfl (by (go_simp; first | with_reducible rfl | exact ⟨rfl, rfl⟩ | (trace_state; fail))) ?_
 simp only [Zp, Zq, Zr, Zs]
 refine wpList_valD (some 18) rfl rfl (by (go_simp; first | with_reducible rfl | exact ⟨rfl, rfl⟩ | (trace_state; fail))) ?_
 simp only [Zp, Zq, Zr, Zs]
 refine wpList_valG (some 19) rfl (by kernel_rfl) (by (go_simp; first | with_reducible rfl | exact ⟨rfl, rfl⟩ | (trace_state; fail))) ?_
 simp only [Zp, Zq, Zr, Zs]
 refine wpList_valG (some 20) rfl (by kernel_rfl) (by (go_simp; first | with_reducible rfl | exact ⟨rfl, rfl⟩ | (trace_state; fail))) ?_
 simp only [Zp, Zq, Zr, Zs]
 refine wpList_valG (some 21) rfl (by kernel_rfl) (by (go_simp; first | with_reducible rfl | exact ⟨rfl, rfl⟩ | (trace_state; fail))) ?_
 simp only [Zp, Zq, Zr, Zs]
 refine wpList_valG (some 22) rfl (by kernel_rfl) (by (go_simp; first | with_reducible rfl | exact ⟨rfl, rfl⟩ | (trace_state; fail))) ?_
 simp only [Zp, Zq, Zr, Zs]
 refine wpList_valG (some 23) rfl (by kernel_rfl) (by (go_simp; first | with_reducible rfl | exact ⟨rfl, rfl⟩ | (trace_state; fail))) ?_
 simp only [Zp, Zq, Zr, Zs]
 refine wpList_valD (some 24) rfl rfl (by (go_simp; first | with_reducible rfl | exact ⟨rfl, rfl⟩ | (trace_state; fail))) ?_
 simp only [Zp, Zq, Zr, Zs]
 refine wpList_valD (some 25) rfl rfl (by (go_simp; first | with_reducible rfl | exact ⟨rfl, rfl⟩ | (trace_state; fail))) ?_
 simp only [Zp, Zq, Zr, Zs]
 refine wpList_valG (some 26) rfl (by kernel_rfl) (by (go_simp; first | with_reducible rfl | exact ⟨rfl, rfl⟩ | (trace_state; fail))) ?_
 simp only [Zp, Zq, Zr, Zs]
 refine wpList_valG (some 27) rfl (by kernel_rfl) (by (go_simp; first | with_reducible rfl | exact ⟨rfl, rfl⟩ | (trace_state; fail))) ?_
 simp only [Zp, Zq, Zr, Zs]
 refine wpList_valG (some 28) rfl (by kernel_rfl) (by (go_simp; first | with_reducible rfl | exact ⟨rfl, rfl⟩ | (trace_state; fail))) ?_
 simp only [Zp, Zq, Zr, Zs]
 refine wpList_valG (some 29) rfl (by kernel_rfl) (by (go_simp; first | with_reducible rfl | exact ⟨rfl, rfl⟩ | (trace_state; fail))) ?_
 simp only [Zp, Zq, Zr, Zs]
 refine wpList_valG (some 30) rfl (by kernel_rfl) (by (go_simp; first | with_reducible rfl | exact ⟨rfl, rfl⟩ | (trace_state; fail))) ?_
 simp only [Zp, Zq, Zr, Zs]
 refine wpList_valD (some 31) rfl rfl (by (go_simp; first | with_reducible rfl | exact ⟨rfl, rfl⟩ | (trace_state; fail))) ?_
 simp only [Zp, Zq, Zr, Zs]
 refine wpList_valD (some 32) rfl rfl (by (go_simp; first | with_reducible rfl | exact ⟨rfl, rfl⟩ | (trace_state; fail))) ?_
 simp only [Zp, Zq, Zr, Zs]
 refine wpList_valG (some 33) rfl (by kernel_rfl) (by (go_simp; first | with_reducible rfl | exact ⟨rfl, rfl⟩ | (trace_state; fail))) ?_
 simp only [Zp, Zq, Zr, Zs]
 refine wpList_valG (some 34) rfl (by kernel_rfl) (exec_load rfl (by kernel_rfl) (hX.loadMsum z16_length)) ?_
 simp only [Zp, Zq, Zr, Zs]
 refine wpList_valG (some 35) rfl (by kernel_rfl) (by (go_simp; first | with_reducible rfl | exact ⟨rfl, rfl⟩ | (trace_state; fail))) ?_
 simp only [Zp, Zq, Zr, Zs]
 refine wpList_valG (some 36) rfl (by kernel_rfl) (exec_load rfl (by kernel_rfl) (hY.loadMsum z16_length)) ?_
 simp only [Zp, Zq, Zr, Zs]
 refine wpList_valG (some 37) rfl (by kernel_rfl) (by (have hz := HEQ.out w1; go_simp; first | with_reducible rfl | exact ⟨rfl, rfl⟩ | (trace_state; fail))) ?_
 simp only [Zp, Zq, Zr, Zs]
 refine wpList_valD (some 38) rfl rfl (by (go_simp; first | with_reducible rfl | exact ⟨rfl, rfl⟩ | (trace_state; fail))) ?_
 simp only [Zp, Zq, Zr, Zs]
 refine wpList_valD (some 39) rfl rfl (by (go_simp; first | with_reducible rfl | exact ⟨rfl, rfl⟩ | (trace_state; fail))) ?_
 simp only [Zp, Zq, Zr, Zs]
 refine wpList_valG (some 40) rfl (by kernel_rfl) (by (go_simp; first | with_reducible rfl | exact ⟨rfl, rfl⟩ | (trace_state; fail))) ?_
 simp only [Zp, Zq, Zr, Zs]
 refine wpList_valG (some 41) rfl (by kernel_rfl) (by (go_simp; first | with_reducible rfl | exact ⟨rfl, rfl⟩ | (trace_state; fail))) ?_
 simp only [Zp, Zq, Zr, Zs]
 refine wpList_valG (some 42) rfl (by kernel_rfl) (by (go_simp; first | with_reducible rfl | exact ⟨rfl, rfl⟩ | (trace_state; fail))) ?_
 simp only [Zp, Zq, Zr, Zs]
 refine wpList_valG (some 43) rfl (by kernel_rfl) (by (go_simp; first | with_reducible rfl | exact ⟨rfl, rfl⟩ | (trace_state; fail))) ?_
 simp only [Zp, Zq, Zr, Zs]
 refine wpList_valG (some 44) rfl (by kernel_rfl) (by (go_simp; first | with_reducible rfl | exact ⟨rfl, rfl⟩ | (trace_state; fail))) ?_
 simp only [Zp, Zq, Zr, Zs]
 refine wpList_valD (some 45) rfl rfl (by (go_simp; first | with_reducible rfl | exact ⟨rfl, rfl⟩ | (trace_state; fail))) ?_
 simp only [Zp, Zq, Zr, Zs]
 refine wpList_valD (some 46) rfl rfl (by (go_simp; first | with_reducible rfl | exact ⟨rfl, rfl⟩ | (trace_state; fail))) ?_
 simp only [Zp, Zq, Zr, Zs]
 refine wpList_valG (some 47) rfl (by kernel_rfl) (by (go_simp; first | with_reducible rfl | exact ⟨rfl, rfl⟩ | (trace_state; fail))) ?_
 simp only [Zp, Zq, Zr, Zs]
 refine wpList_valG (some 48) rfl (by kernel_rfl) (by (go_simp; first | with_reducible rfl | exact ⟨rfl, rfl⟩ | (trace_state; fail))) ?_
 simp only [Zp, Zq, Zr, Zs]
 refine wpList_valG (some 49) rfl (by kernel_rfl) (by (go_simp; first | with_reducible rfl | exact ⟨rfl, rfl⟩ | (trace_state; fail))) ?_
 simp only [Zp, Zq, Zr, Zs]
 refine wpList_valG (some 50) rfl (by kernel_rfl) (by (go_simp; first | with_reducible rfl | exact ⟨rfl, rfl⟩ | (trace_state; fail))) ?_
 simp only [Zp, Zq, Zr, Zs]
 refine wpList_valG (some 51) rfl (by kernel_rfl) (by (go_simp; first | with_reducible rfl | exact ⟨rfl, rfl⟩ | (trace_state; fail))) ?_
 simp only [Zp, Zq, Zr, Zs]
 refine wpList_valG (some 52) rfl (by kernel_rfl) (by (go_simp; first | with_reducible rfl | exact ⟨rfl, rfl⟩ | (trace_state; fail))) ?_
 simp only [Zp, Zq, Zr, Zs]
 refine wpList_valG (some 53) rfl (by kernel_rfl) (by (go_simp; first | with_reducible rfl | exact ⟨rfl, rfl⟩ | (trace_state; fail))) ?_
 simp only [Zp, Zq, Zr, Zs]
 refine wpList_valD (some 54) rfl rfl (by (go_simp; first | with_reducible rfl | exact ⟨rfl, rfl⟩ | (trace_state; fail))) ?_
 simp only [Zp, Zq, Zr, Zs]
 go_upto_region 4 with fail
 clear x0 x1 x2 x3 x4 x5 x6 x7 y0 y1 y2 y3 y4 y5 y6 y7
 go_wp2_with fail
 go_loopw [58] (fun i wr => ∃ k : Nat, k ≤ 1 ∧ i = .int .i64 k ∧ Vs wr w.heap.size (msgL 1 0 0 0 z16 0 (.slice (some ⟨g, 0, none⟩) 1 cg)) ∧ Vs wr (w.heap.size + 1) (msgL 1 0 0 0 z16 0 (.slice (some ⟨h, 0, none⟩) 1 ch)) ∧ Below w.heap.size w wr) (fun i _ => 1 - (intOf i).toNat)
 case atStart => exact ⟨0, by omega, rfl, hX, hY, hb00⟩
 case round =>
  clear hX hY hb00
  obtain ⟨k, hk, rfl, hX, hY, hbw⟩ := hrel
  by_cases hlt : k < 1
  ·obtain rfl : k = 0 := by omega
   clear hlt hk
   go_upto_region 6 with fail
   rw [show ((0 : Nat) : Int) = 0 from rfl]
   have HX6 : Hid (∀ wz, Below wr.heap.size wr wz → wz.cell? ⟨w.heap.size, 21, none⟩ = some (.slice (some ⟨g, 0, none⟩) 1 cg) ∧ wz.cell? ⟨w.heap.size + 1, 21, none⟩ = some (.slice (some ⟨h, 0, none⟩) 1 ch)) := Lib.hid fun wz h => ⟨((hX.call h).msg z16_length).2.2.2.2.2.1, ((hY.call h).msg z16_length).2.2.2.2.2.1⟩
   have HLG : Hid (∀ wz, Below wr.heap.size wr wz → (Instr.loadAt 44 (.pointer (some ⟨g, 0, none⟩))).run Try.prog wz = .ok (.agg (entL id time (.slice A n c) (.slice A' n' c') 0).toArray) wz) := Lib.hid fun wz h => ((HG.out.call hbw).call h).loadE HID.out
   have HLH : Hid (∀ wz, Below wr.heap.size wr wz → (Instr.loadAt 44 (.pointer (some ⟨h, 0, none⟩))).run Try.prog wz = .ok (.agg (entL id time (.slice B n d) (.slice B' n' d') 0).toArray) wz) := Lib.hid fun wz h => ((HH.out.call hbw).call h).loadE HID.out
   have HSC := Lib.hid fun wz (h : Below wr.heap.size wr wz) => HS.out wz (hbw.trans (h.mono hbw.size))
   refine region_G (n := 11) (m := 12) (f := 11) (by kernel_rfl) (by kernel_rfl) rfl ?_
   refine WpG.vD 0 (some 61) ?_ rfl rfl (by kernel_rfl) (fun _ _ _ h => h) rfl (fun wz hwz => ?_) ?_
   rotate_left
   ·go_simp; try (with_reducible rfl)
   simp only [Zp, Zq, Zr, Zs]
   refine WpG.vD 1 (some 62) ?_ rfl rfl (by kernel_rfl) (fun _ _ _ h => h) rfl (fun wz hwz => ?_) ?_
   rotate_left
   ·(obtain ⟨hcz, hfz⟩ := bcell (hwz); have q := (HX6.out wz hwz).1; go_simp; try (with_reducible rfl))
   simp only [Zp, Zq, Zr, Zs]
   refine WpG.vD 2 (some 63) ?_ rfl rfl (by kernel_rfl) (fun _ _ _ h => h) rfl (fun wz hwz => ?_) ?_
   rotate_left
   ·go_simp; try (with_reducible rfl)
   simp only [Zp, Zq, Zr, Zs]
   refine WpG.vD 3 (some 64) ?_ rfl rfl (by kernel_rfl) (fun _ _ _ h => h) rfl (fun wz hwz => ?_) ?_
   rotate_left
   ·go_simp; try (with_reducible rfl)
   simp only [Zp, Zq, Zr, Zs]
   refine WpG.vD 4 (some 65) ?_ rfl rfl (by kernel_rfl) (fun _ _ _ h => h) rfl (fun wz hwz => ?_) ?_
   rotate_left
   ·(refine Eq.trans (exec_load rfl (by kernel_rfl) (HLG.out wz hwz)) ?_; with_reducible rfl)
   simp only [Zp, Zq, Zr, Zs]
   refine WpG.vD 5 (some 66) ?_ rfl rfl (by kernel_rfl) (fun _ _ _ h => h) rfl (fun wz hwz => ?_) ?_
   rotate_left
   ·go_simp; try (with_reducible rfl)
   simp only [Zp, Zq, Zr, Zs]
   refine WpG.vD 6 (some 67) ?_ rfl rfl (by kernel_rfl) (fun _ _ _ h => h) rfl (fun wz hwz => ?_) ?_
   rotate_left
   ·(obtain ⟨hcz, hfz⟩ := bcell (hwz); have q := (HX6.out wz hwz).2; go_simp; try (with_reducible rfl))
   simp only [Zp, Zq, Zr, Zs]
   refine WpG.vD 7 (some 68) ?_ rfl rfl (by kernel_rfl) (fun _ _ _ h => h) rfl (fun wz hwz => ?_) ?_
   rotate_left
   ·go_simp; try (with_reducible rfl)
   simp only [Zp, Zq, Zr, Zs]
   refine WpG.vD 8 (some 69) ?_ rfl rfl (by kernel_rfl) (fun _ _ _ h => h) rfl (fun wz hwz => ?_) ?_
   rotate_left
   ·go_simp; try (with_reducible rfl)
   simp only [Zp, Zq, Zr, Zs]
   refine WpG.vD 9 (some 70) ?_ rfl rfl (by kernel_rfl) (fun _ _ _ h => h) rfl (fun wz hwz => ?_) ?_
   rotate_left
   ·(refine Eq.trans (exec_load rfl (by kernel_rfl) (HLH.out wz hwz)) ?_; with_reducible rfl)
   simp only [Zp, Zq, Zr, Zs]
   refine WpG.takeD 10 (some 71) rfl rfl (by kernel_rfl) (fun _ _ _ h => h) (.call rfl (fun wz hwz => HSC.out wz hwz) (fun wz hwz => ?_)) ?_
   ·go_simp; try (with_reducible rfl)
   simp only [Zp, Zq, Zr, Zs]
   refine WpG.done (by kernel_rfl) (fun w4 hb4 => ?_)
   (try simp only [List.drop_succ_cons]); (try simp only [List.drop_zero]); (try simp only [Nat.reduceSub]); (try simp only [List.take_succ_cons]); (try simp only [List.take_zero])
   replace hbw := bl_call hbw (Nat.le_refl _) hb4
   replace hX := hX.call hb4
   replace hY := hY.call hb4
   clear hb4 HX6 HLG HLH HSC
   go_wp2_with fail
   go_roundw
   case rel => exact ⟨1, by omega, by go_num, hX, hY, hbw⟩
   case measure => simp [intOf]
  ·obtain rfl : k = 1 := by omega
   go_wp2_with fail
   go_ret
   exact ⟨rfl, hbw⟩

end Go.Proofs.Ytbakkmfjamcbfaa

namespace Go.Proofs.Ytbakkmfjamcbfaa
open Go.RowKit Fm
set_option linter.unusedVariables false
set_option maxRecDepth 100000

structure CliK (T cb : Nat) (w : World) (id : List Int) (tm : Int) (n0 n1 n2 : Nat) (zs0 zs1 zs2 : List Int) (d0 d1 : Bool) (k0 k1 due wait tries : Int) : Prop where
 ex : ∃ v0 v1 : Value, Vs w cb (clL id (msgL 1 0 0 0 z16 0 v0) (msgL 1 0 0 0 z16 0 v1) d0 d1 k0 k1 due wait tries) ∧ ClI (cb + 1) T w id tm zs0 zs1 n0 n1 v0 ∧ ClI (cb + 1) T w id tm zs0 zs2 n0 n2 v1
 lt : cb < T
 id16 : id.length = 16
 len : n0 ≤ 1000000 ∧ n1 ≤ 1000000 ∧ n2 ≤ 1000000
section
variable {T cb lo hi : Nat} {w w' : World} {id : List Int} {tm : Int} {n0 n1 n2 n n' : Nat} {zs0 zs1 zs2 xs ys : List Int} {d0 d1 : Bool} {k0 k1 due wait tries now : Int} {S : Nat → Prop} {v : Value}
theorem ClI.toE (h : ClI lo hi w id tm xs ys n n' v) : ClE lo w id tm 0 xs ys n n' v := by
 obtain ⟨A2, A3, c2, c3, g, cg, h1, h2, h3, h4, h5, h6, h7⟩ := h
 exact ⟨A2, A3, c2, c3, g, cg, h1, h2.1, h3, h4, h5, fun q hq => (h7 q hq).2⟩
theorem CliK.exc (h : CliK T cb w id tm n0 n1 n2 zs0 zs1 zs2 d0 d1 k0 k1 due wait tries) (hS : ∀ q, cb ≤ q → q < T → ¬ S q) (hex : Exc S w.heap.size w w') : CliK T cb w' id tm n0 n1 n2 zs0 zs1 zs2 d0 d1 k0 k1 due wait tries := by
 obtain ⟨⟨v0, v1, h1, h2, h3⟩, h4, h5, h6⟩ := h
 exact ⟨⟨v0, v1, h1.exc (hS cb (Nat.le_refl _) h4) hex, h2.exc (fun q k1 k2 => hS q (by omega) k2) hex, h3.exc (fun q k1 k2 => hS q (by omega) k2) hex⟩, h4, h5, h6⟩
theorem CliK.call (h : CliK T cb w id tm n0 n1 n2 zs0 zs1 zs2 d0 d1 k0 k1 due wait tries) (hb : Below w.heap.size w w') : CliK T cb w' id tm n0 n1 n2 zs0 zs1 zs2 d0 d1 k0 k1 due wait tries := h.exc (S := fun _ => False) (fun _ _ _ h => h) (exc_of hb)
theorem client_RawK (id : List Int) (hid : id.length = 16) (now : Int) (A0 A1 A2 : Option Addr) (n0 c0 n1 c1 n2 c2 : Nat) (zs0 zs1 zs2 : List Int) (w : World) (h0 : RdB w A0 n0 zs0) (h1 : RdB w A1 n1 zs1) (h2 : RdB w A2 n2 zs2) (hz1 : entC now 0 n0 n1 = 0) (hz2 : entC now 0 n0 n2 = 0) :
  Calls Try.prog 15 #[.agg (cells8 id).toArray, .int .u64 now, .slice A0 n0 c0, .slice A1 n1 c1, .slice A2 n2 c2] w fun e w' => ∃ cb, e = .returned (.tuple #[.pointer (some ⟨cb, 0, none⟩), .int .i64 0]) ∧ w.heap.size ≤ cb ∧ CliK w'.heap.size cb w' id now n0 n1 n2 zs0 zs1 zs2 false false 0 0 0 1 0 ∧ Below w.heap.size w w' :=
 (client_Raw id hid now A0 A1 A2 n0 c0 n1 c1 n2 c2 zs0 zs1 zs2 w h0 h1 h2).mono fun e w' h => by
  rcases h with ⟨ec, hne, hec, _⟩ | ⟨_, _, cb, v0, v1, he, hcb, hV, he0, he1, hb⟩
  ·exfalso
   rw [if_pos hz1, hz2] at hec
   exact hne hec
  ·exact ⟨cb, he, hcb, ⟨⟨v0, v1, hV, he0.toI, he1.toI⟩, hV.lt, hid, h0.2.1, h1.2.1, h2.2.1⟩, hb⟩
theorem CliK.tickNo (h : CliK T cb w id tm n0 n1 n2 zs0 zs1 zs2 d0 d1 k0 k1 due wait tries) (hd : now < due) :
  Calls Try.prog 16 #[.pointer (some ⟨cb, 0, none⟩), .int .u64 now] w fun e w' => e = .returned (.slice none 0 0) ∧ Below w.heap.size w w' := by
 obtain ⟨v0, v1, h1, _⟩ := h.ex
 exact client_TickNo id h.id16 _ _ (msgL_length z16_length) (msgL_length z16_length) d0 d1 k0 k1 due wait tries now hd cb w h1
theorem CliK.tick (h : CliK T cb w id tm n0 n1 n2 zs0 zs1 zs2 d0 d1 k0 k1 due wait tries) (hT : T ≤ w.heap.size) (hd : due ≤ now) (hnw : 0 ≤ now ∧ now ≤ 1000000) (hwt : 0 ≤ wait ∧ wait ≤ 16) (htr : 0 ≤ tries ∧ tries ≤ 1000000) :
  Calls Try.prog 16 #[.pointer (some ⟨cb, 0, none⟩), .int .u64 now] w fun e w' => ∃ (v : Value) (ps : List (Value × Nat × Nat)), e = .returned v ∧ LtS w.heap.size w' v id tm zs0 n0 (itK d0 d1 zs1 zs2 n1 n2 2) ps ∧
   CliK T cb w' id tm n0 n1 n2 zs0 zs1 zs2 d0 d1 k0 k1 (if d0 && d1 then due else now + wait) (if d0 && d1 then wait else min (2 * wait) 16) (if d0 && d1 then tries else tries + 1) ∧ Exc (fun q => q = cb) w.heap.size w w' := by
 obtain ⟨⟨v0, v1, h1, h2, h3⟩, h4, h5, h6⟩ := h
 exact (client_TickG id h5 tm due wait tries now hd hnw hwt htr n0 n1 n2 h6.1 h6.2.1 h6.2.2 zs0 zs1 zs2 v0 v1 d0 d1 k0 k1 cb w h1 h2.toE h3.toE).mono fun e w' ⟨v, ps, he, hL, hV, hx⟩ =>
  ⟨v, ps, he, hL, ⟨⟨v0, v1, hV, h2.exc (fun q k1 k2 e => by omega) hx, h3.exc (fun q k1 k2 e => by omega) hx⟩, h4, h5, h6⟩, hx⟩
end

theorem own_cellU {w : World} {base g n cap : Nat} {xs : List Int} (h : w.ownsRow base 22 1 (.slice (some ⟨g, 0, none⟩) n cap) n (cellsU xs)) (i : Nat) (e : Int) (hi : xs[i]? = some e) : w.cell? ⟨g, i, none⟩ = some (.int .u64 e) := by
 have f1 := h.cells (g := g) rfl i _ (cellsU_at hi)
 have ha : (⟨g, 0, none⟩ : Addr).add i = ⟨g, 0 + i, none⟩ := by
  unfold Addr.add
  split <;> simp_all
 rwa [ha, Nat.zero_add] at f1
def sentL (k : Nat) : List Int := ([0, 1, 3, 7, 15, 31, 47] : List Int).filter (· < (k : Int))
def dueL (k : Nat) : Int := if k ≤ 0 then 0 else if k ≤ 1 then 1 else if k ≤ 3 then 3 else if k ≤ 7 then 7 else if k ≤ 15 then 15 else if k ≤ 31 then 31 else if k ≤ 47 then 47 else 63
def waitL (k : Nat) : Int := if k ≤ 0 then 1 else if k ≤ 1 then 2 else if k ≤ 3 then 4 else if k ≤ 7 then 8 else 16
theorem tick_tab : ∀ k : Nat, k < 50 → (((k : Int) < dueL k ∧ sentL (k + 1) = sentL k ∧ dueL (k + 1) = dueL k ∧ waitL (k + 1) = waitL k) ∨ (dueL k ≤ (k : Int) ∧ sentL (k + 1) = sentL k ++ [(k : Int)] ∧ dueL (k + 1) = (k : Int) + waitL k ∧ waitL (k + 1) = min (2 * waitL k) 16)) ∧ (0 ≤ waitL k ∧ waitL k ≤ 16) ∧ (sentL k).length ≤ 50 := by decide +kernel
theorem sent_50 : sentL 50 = [0, 1, 3, 7, 15, 31, 47] := by decide +kernel

def idc1 : List Int := [1, 0, 0, 0, 0, 0, 0, 0, 0, 0, 0, 0, 0, 0, 0, 0]
theorem build_idc1 (w : World) : (Instr.build 34 #[(0, .int .u8 1)]).run Try.prog w = .ok (.agg (cells8 idc1).toArray) w := by kernel_rfl
theorem RdB.none (w : World) : RdB w none 0 [] := ⟨rfl, by omega, fun h => absurd h (by omega)⟩

set_option maxHeartbeats 8000000 in
theorem law22_Awake (w : World) : Calls Try.prog 12 #[] w fun e w' => e = .returned (.bool true) ∧ Below w.heap.size w w' := by
 have HR := Lib.hid (client_RawK idc1 rfl 0 none none none 0 0 0 0 0 0 [] [] [] w (RdB.none w) (RdB.none w) (RdB.none w) (by decide) (by decide))
 go_enter Try.func12, Try.ntmps12
 go_upto_region 1 with fail
 refine wp_region_lit ?_
 refine wpList_valD (some 6) rfl rfl (exec_build rfl (by kernel_rfl) (build_idc1 _)) ?_
 simp only [Zp, Zq, Zr, Zs]
 refine wpList_callD (some 7) rfl rfl 15 _ ?_ (HR.out) ?_
 ·go_simp; try (with_reducible rfl)
 rintro e w1 ⟨cb, rfl, hcb, hK, hb1⟩
 refine ⟨_, rfl, ?_⟩
 simp only [Zp, Zq, Zr, Zs]
 refine wpList_valD (some 5) rfl rfl (by (go_simp; first | with_reducible rfl | exact ⟨rfl, rfl⟩ | (trace_state; fail))) ?_
 simp only [Zp, Zq, Zr, Zs]
 refine wpList_valD (some 8) rfl rfl (by (go_simp; first | with_reducible rfl | exact ⟨rfl, rfl⟩ | (trace_state; fail))) ?_
 simp only [Zp, Zq, Zr, Zs]
 refine wpList_valD (some 9) rfl rfl (by (go_simp; first | with_reducible rfl | exact ⟨rfl, rfl⟩ | (trace_state; fail))) ?_
 simp only [Zp, Zq, Zr, Zs]
 refine wpList_valD (some 1) rfl rfl (by (go_simp; first | with_reducible rfl | exact ⟨rfl, rfl⟩ | (trace_state; fail))) ?_
 simp only [Zp, Zq, Zr, Zs]
 refine wpList_valD (some 2) rfl rfl (by (go_simp; first | with_reducible rfl | exact ⟨rfl, rfl⟩ | (trace_state; fail))) ?_
 simp only [Zp, Zq, Zr, Zs]
 obtain ⟨T, hT⟩ : ∃ z, w1.heap.size = z := ⟨_, rfl⟩
 have hT1 : T ≤ w1.heap.size := Nat.le_of_eq hT.symm
 have hT0 : w.heap.size ≤ T := by rw [← hT]; exact hb1.size
 have hcT := hK.lt
 rw [hT] at hK hcT
 clear HR hT
 have HK := Lib.hid hK
 have HB1 := Lib.hid hb1
 clear hK hb1
 go_upto_region 4 with fail
 go_wp2_with fail
 go_loopw [3, 10] (fun v3 i wr => ∃ k : Nat, k ≤ 50 ∧ i = .int .u64 k ∧ wr.ownsRow T 22 1 v3 (sentL k).length (cellsU (sentL k)) ∧ T ≤ wr.heap.size ∧ CliK T cb wr idc1 0 0 0 0 [] [] [] false false 0 0 (dueL k) (waitL k) (sentL k).length ∧ Below w.heap.size w wr) (fun _ i _ => 50 - (intOf i).toNat)
 case atStart => exact ⟨0, by omega, rfl, World.ownsRow_nil _ _ _ _, hT1, HK.out, HB1.out⟩
 case round =>
  clear HK HB1 hT1
  obtain ⟨k, hk, rfl, hown, hTr, hK, hbw⟩ := hrel
  obtain ⟨A, c, rfl⟩ := own_shape hown
  by_cases hlt : k < 50
  ·obtain ⟨htab, hwt, hlen⟩ := tick_tab k hlt
   have hki : (k : Int) < 50 := by omega
   have hwk : IntKind.u64.wrap ((k : Int) + 1) = (k : Int) + 1 := IntWalk.u64_in _ (by omega)
   have HOWN := Lib.hid hown
   have HK := Lib.hid hK
   have HBW := Lib.hid hbw
   have HWT := Lib.hid hwt
   have HLEN := Lib.hid hlen
   rcases htab with ⟨hd, hs1, hd1, hw1⟩ | ⟨hd, hs1, hd1, hw1⟩
   ·have HTI := Lib.hid (hK.tickNo hd)
    have HE := Lib.hid (And.intro hs1 (And.intro hd1 hw1))
    clear hd hs1 hd1 hw1 hown hK hbw hwt hlen
    go_wp2_with (go_at_call 16; refine HTI.out.mono ?_; rintro e w2 ⟨rfl, hb2⟩)
    go_roundw
    case rel => exact ⟨k + 1, by omega, by go_num, by rw [HE.out.1]; exact own_call HOWN.out hb2, Nat.le_trans hTr hb2.size, by rw [HE.out.1, HE.out.2.1, HE.out.2.2]; exact HK.out.call hb2, bl_call HBW.out (Nat.le_refl _) hb2⟩
    case measure => simp [intOf]; omega
   ·have HTI := Lib.hid (hK.tick hTr hd ⟨by omega, by omega⟩ hwt ⟨by omega, by omega⟩)
    have HE := Lib.hid (And.intro hs1 (And.intro hd1 hw1))
    clear hd hs1 hd1 hw1 hown hK hbw hwt hlen
    go_upto_region 6 with fail
    refine wp_region_lit ?_
    refine wpList_valD (some 13) rfl rfl (by (go_simp; first | with_reducible rfl | exact ⟨rfl, rfl⟩ | (trace_state; fail))) ?_
    simp only [Zp, Zq, Zr, Zs]
    refine wpList_valD (some 14) rfl rfl (by (go_simp; first | with_reducible rfl | exact ⟨rfl, rfl⟩ | (trace_state; fail))) ?_
    simp only [Zp, Zq, Zr, Zs]
    refine wpList_callD (some 15) rfl rfl 16 _ ?_ (HTI.out) ?_
    ·go_simp; try (with_reducible rfl)
    rintro e w2 ⟨v, ps, rfl, hL, hK2, hx2⟩
    refine ⟨_, rfl, ?_⟩
    simp only [Zp, Zq, Zr, Zs]
    obtain ⟨A5, c5, rfl⟩ := own_shape hL.row
    have hown2 := own_other HOWN.out hx2 (fun q hq e => by
     have h1 := (World.ownsRow.lt HOWN.out q hq).1
     have h2 : q = cb := e
     omega)
    have hb2 := HBW.out.trans (Exc.below (hx2.mono HBW.out.size) (fun q hq e => by
     have h2 : q = cb := e
     omega))
    have hT2 := Nat.le_trans hTr hx2.size
    clear hL hx2 HTI HK HBW HOWN
    go_upto_region 7 with fail
    refine wp_region_lit ?_
    refine wpList_valD (some 18) rfl rfl (by (go_simp; first | with_reducible rfl | exact ⟨rfl, rfl⟩ | (trace_state; fail))) ?_
    simp only [Zp, Zq, Zr, Zs]
    refine wpList_valD (some 19) rfl rfl (by (go_simp; first | with_reducible rfl | exact ⟨rfl, rfl⟩ | (trace_state; fail))) ?_
    simp only [Zp, Zq, Zr, Zs]
    refine wpList_valD (some 20) rfl rfl (by (skip; go_simp; first | with_reducible rfl | exact ⟨rfl, rfl⟩ | (trace_state; fail))) ?_
    simp only [Zp, Zq, Zr, Zs]
    have hbA := (Below.refl w2.heap.size w2).alloc (Nat.le_refl _) (.cells #[.int .u64 (k : Int)] 22)
    have hN := Vs.new w2 [.int .u64 (k : Int)] #[.int .u64 (k : Int)] 22 rfl
    have hown3 := own_call hown2 hbA
    have hK3 := hK2.call hbA
    have hb3 := bl_call hb2 (Nat.le_refl _) hbA
    have hT3 := Nat.le_trans hT2 hbA.size
    clear hown2 hK2 hb2
    generalize w2.alloc (.cells #[.int .u64 (k : Int)] 22) = w3 at hN hown3 hK3 hb3 hT3 ⊢
    have hR1 : RowU w3 w2.heap.size 0 [(k : Int)] := fun i e hi => by
     match i, hi with
     | 0, hi =>
      injection hi with hi
      subst hi
      exact hN.cell 0 _ rfl
    generalize w2.heap.size = nb at hR1 ⊢
    have hn1 : (sentL k).length + 1 ≤ 1099511627776 := by have := HLEN.out; omega
    refine wpList_append_U rfl (.tmp 18) (.tmp 20) rfl T (.slice A (sentL k).length c) (sentL k).length (sentL k) (by kernel_rfl) hown3 (some ⟨nb, 0, none⟩) 1 1 [(k : Int)] (by kernel_rfl) rfl (fun _ => ⟨_, _, rfl, hR1⟩) hn1 hT3 ?_
    intro v9 w9 hown9 hg9 hat9
    have hx9 := grown_exc hg9
    have hK9 := hK3.exc (fun q k1 k2 e => by
     have h1 := (World.ownsRow.lt hown3 q e).1
     omega) hx9
    have hb9 := hb3.trans (Exc.below (hx9.mono hb3.size) (fun q hq e => by
     have h1 := (World.ownsRow.lt hown3 q e).1
     omega))
    obtain ⟨gg, cgg, hv9⟩ := own_slice hown9
    subst hv9
    have HO9 := Lib.hid hown9
    have HK9 := Lib.hid hK9
    have HB9 := Lib.hid hb9
    have hT9 := Nat.le_trans hT3 hx9.size
    have HL9 : Hid ((((sentL (k + 1)).length : Nat) : Int) = ((sentL k).length : Int) + 1) := Lib.hid (by rw [HE.out.1, List.length_append]; rfl)
    clear hown9 hK9 hb9 hx9 hg9 hat9 hown3 hK3 hb3 hR1 hN hT3 hbA
    go_wp2_with fail
    go_roundw
    case rel => exact ⟨k + 1, by omega, by go_num, by (rw [HE.out.1, List.length_append]; exact HO9.out), hT9, by (rw [HL9.out, HE.out.2.1, HE.out.2.2]; exact HK9.out), HB9.out⟩
    case measure => simp [intOf]; omega
  ·obtain rfl : k = 50 := by omega
   rw [sent_50] at hown
   obtain ⟨g, cg, hg⟩ := own_sl9 hown (by decide)
   injection hg with e1 e2 e3
   subst e1
   have r1 := own_cellU hown 1 1 rfl
   have r4 := own_cellU hown 4 15 rfl
   have r6 := own_cellU hown 6 47 rfl
   clear hown hK
   go_wp2_with fail
   go_ret
   exact ⟨rfl, hbw⟩

end Go.Proofs.Ytbakkmfjamcbfaa

namespace Go.Proofs.Ytbakkmfjamcbfaa
open Go.RowKit Fm
set_option linter.unusedVariables false
set_option maxRecDepth 100000

theorem ltR_at {its : List (Int × List Int × Nat)} {ps : List (Value × Nat × Nat)} (hl : ps.length = its.length) {k : Nat} {it : Int × List Int × Nat} {p : Value × Nat × Nat} (h1 : its[k]? = some it) (h2 : ps[k]? = some p) {j : Nat} {v : Value} (hj : (ltL it.1 (msgL 1 0 0 0 z16 0 p.1))[j]? = some v) : (ltR its ps)[k * 23 + j]? = some v := by
 have key : ∀ (its : List (Int × List Int × Nat)) (ps : List (Value × Nat × Nat)) (k : Nat), ps.length = its.length → its[k]? = some it → ps[k]? = some p → (ltR its ps)[k * 23 + j]? = some v := by
  intro its
  induction its with
  | nil => intro ps k _ h; simp at h
  | cons x its ih =>
   intro ps k hl h1 h2
   cases ps with
   | nil => simp at hl
   | cons y ps =>
    have e : ltR (x :: its) (y :: ps) = ltL x.1 (msgL 1 0 0 0 z16 0 y.1) ++ ltR its ps := by unfold ltR; rw [List.zipWith_cons_cons, List.flatten_cons]
    have hlen : (ltL x.1 (msgL 1 0 0 0 z16 0 y.1)).length = 23 := ltL_length _ (msgL_length z16_length)
    rw [e]
    cases k with
    | zero =>
     simp only [List.getElem?_cons_zero, Option.some.injEq] at h1 h2
     subst h1
     subst h2
     rw [Nat.zero_mul, Nat.zero_add, List.getElem?_append_left (List.getElem?_eq_some_iff.1 hj).1]
     exact hj
    | succ k =>
     rw [List.getElem?_append_right (by rw [hlen]; omega), hlen, show (k + 1) * 23 + j - 23 = k * 23 + j by omega]
     exact ih ps k (by simpa using hl) (by simpa using h1) (by simpa using h2)
 exact key its ps k hl h1 h2
theorem own_rangeL {w : World} {base g n c : Nat} {xs : List Value} (h : w.ownsRow base 42 23 (.slice (some ⟨g, 0, none⟩) n c) n xs) : Vs w g xs ∧ base ≤ g := by
 have hl := h.1
 rcases h.2 with ⟨hv, _⟩ | ⟨g', cap, cur, hv, hb, hg, hnc, hcm, hcs, ht⟩
 ·cases hv
 ·injection hv with e1 e2 e3
  injection e1 with e1
  injection e1 with e1
  subst e1
  subst e3
  refine ⟨⟨fun i v hi => ?_, fun i hi => ?_, ?_⟩, hb⟩
  ·rw [← ht] at hi
   have hlt : i < n * 23 := by
    obtain ⟨h1, _⟩ := List.getElem?_eq_some_iff.1 hi
    rw [List.length_take] at h1
    omega
   rw [List.getElem?_take_of_lt hlt] at hi
   simp [World.cell?, hg]
   simpa using hi
  ·simp [World.frozen?, hg]
  ·exact (Array.getElem?_eq_some_iff.1 hg).1
theorem LtS.at' {B : Nat} {w : World} {g c : Nat} {id : List Int} {tm : Int} {xs : List Int} {n N : Nat} {its : List (Int × List Int × Nat)} {ps : List (Value × Nat × Nat)} (hN : its.length = N) (h : LtS B w (.slice (some ⟨g, 0, none⟩) N c) id tm xs n its ps) {k : Nat} {it : Int × List Int × Nat} {p : Value × Nat × Nat} (h1 : its[k]? = some it) (h2 : ps[k]? = some p) :
  w.rangeAt g (k * 23) (ltL it.1 (msgL 1 0 0 0 z16 0 p.1)) ∧ g < w.heap.size ∧ B ≤ g := by
 subst hN
 obtain ⟨hV, hB⟩ := own_rangeL h.row
 exact ⟨fun j v hj => hV.cell _ _ (ltR_at h.len h1 h2 hj), hV.lt, hB⟩
theorem size_lettr : (Try.prog.info? 42).map (·.size) = some 23 := by kernel_rfl
section
variable {w : World} {b o : Nat} {tq tq' : Int} {es es' : Value}
theorem load_letter (h : w.rangeAt b o (ltL tq (msgL 1 0 0 0 z16 0 es))) : (Instr.loadAt 42 (.pointer (some ⟨b, o, none⟩))).run Try.prog w = .ok (.agg (ltL tq (msgL 1 0 0 0 z16 0 es)).toArray) w :=
 load_R h Try.underlying42 rfl (by rw [ltL_length _ (msgL_length z16_length)]; exact size_lettr)
theorem Vs.storeL (h : Vs w b (ltL tq' (msgL 0 0 0 0 z16 0 es'))) (h1 : es.oneCell' = true) : (Instr.storeAt 42 (.pointer (some ⟨b, 0, none⟩)) (.agg (ltL tq (msgL 1 0 0 0 z16 0 es)).toArray)).run Try.prog w = .ok () (w.setCells b 0 (ltL tq (msgL 1 0 0 0 z16 0 es))) ∧ Vs (w.setCells b 0 (ltL tq (msgL 1 0 0 0 z16 0 es))) b (ltL tq (msgL 1 0 0 0 z16 0 es)) :=
 ⟨store_W h (by rw [ltL_length _ (msgL_length z16_length), ltL_length _ (msgL_length z16_length)]) (by rw [ltL_length _ (msgL_length z16_length)]; exact size_lettr) (ltL_one _ (msgL_one 1 0 0 0 z16 0 h1)), h.setW (by rw [ltL_length _ (msgL_length z16_length), ltL_length _ (msgL_length z16_length)])⟩
theorem Vs.letEs (h : Vs w b (ltL tq (msgL 1 0 0 0 z16 0 es))) : w.cell? ⟨b, 0, none⟩ = some (.int .i64 tq) ∧ w.cell? ⟨b, 22, none⟩ = some es ∧ b < w.heap.size := ⟨h.cell 0 _ rfl, h.cell 22 _ rfl, h.lt⟩
theorem Vs.loadLm (h : Vs w b (ltL tq (msgL 1 0 0 0 z16 0 es))) : (Instr.loadAt 27 (.pointer (some ⟨b, 1, none⟩))).run Try.prog w = .ok (.agg (msgL 1 0 0 0 z16 0 es).toArray) w := by
 have e : ltL tq (msgL 1 0 0 0 z16 0 es) = [.int .i64 tq] ++ msgL 1 0 0 0 z16 0 es ++ [] := by unfold ltL; simp
 rw [e] at h
 exact load_P h Try.underlying27 rfl (by rw [msgL_length z16_length]; exact size_msg)
end

theorem eqItemsC (d : Nat) (w : World) (a0 a1 b0 b1 : Int) : (Op.equalIn (d + 2) 31 (.agg #[.int .i64 a0, .int .i64 a1]) (.agg #[.int .i64 b0, .int .i64 b1])).run Try.prog w = .ok (a0 == b0 && a1 == b1) w := by
 have hs : (Try.prog.info? 24).isSome = true := by kernel_rfl
 have hc : Try.prog.cellsOf 24 = 1 := by kernel_rfl
 obtain ⟨i, hi⟩ : ∃ i, Try.prog.info? 24 = some i := Option.isSome_iff_exists.1 hs
 rw [run_equalIn_array w (d + 1) _ _ Try.underlying31 hi, hc]
 have e0 : ∀ (x y : Int), (Op.equalIn (d + 1) 24 (.int .i64 x) (.int .i64 y)).run Try.prog w = .ok (x == y) w := fun x y => run_equalIn_int w d 24 .i64 .i64 x y Try.underlying24
 have hp : ∀ (l : Array Value) (j : Nat) (x : Int), l[j]? = some (.int .i64 x) → (part 24 l (j * 1)).run Try.prog w = .ok (.int .i64 x) w := fun l j x hx => by
  rw [Nat.mul_one]
  simp [part, isAgg, run_underlying Try.underlying24, hx]
 have hr : List.range 2 = [0, 1] := rfl
 rw [hr]
 simp only [Op.eqItems, Sem.run_bind, hp #[.int .i64 a0, .int .i64 a1] 0 a0 rfl, hp #[.int .i64 b0, .int .i64 b1] 0 b0 rfl, e0, Result.andThen_ok]
 cases h : (a0 == b0)
 ·simp
 ·have e1 := hp #[.int .i64 a0, .int .i64 a1] 1 a1 rfl
  have e2 := hp #[.int .i64 b0, .int .i64 b1] 1 b1 rfl
  simp [e1, e2, e0, Sem.run_bind]
  by_cases h2 : a1 = b1
  ·simp [h2]
  ·simp [h2]
end Go.Proofs.Ytbakkmfjamcbfaa

namespace Go.Proofs.Ytbakkmfjamcbfaa
open Go.RowKit Fm Go.ChangeShapes Go.WideShapes Go.Deep
set_option linter.unusedVariables false
set_option maxRecDepth 100000

def Row8 (w : World) (b o : Nat) (xs : List Int) : Prop := ∀ (i : Nat) (e : Int), xs[i]? = some e → w.cell? ⟨b, o + i, none⟩ = some (.int .u8 e)
def ok8 (e : Int) : Prop := 0 ≤ e ∧ e ≤ 255

structure Sl8 (w : World) (B : Nat) (v : Value) (xs : List Int) : Prop where
 ex : ∃ (A : Option Addr) (c : Nat), v = .slice A xs.length c ∧ xs.length ≤ c ∧ c ≤ 9223372036854775807 ∧ (0 < xs.length → ∃ b o, A = some ⟨b, o, none⟩ ∧ b < B ∧ Row8 w b o xs)
 ok : ∀ e, e ∈ xs → ok8 e

theorem Row8.below {w w' : World} {B b o : Nat} {xs : List Int} (h : Row8 w b o xs) (hb : Below B w w') (hB : b < B) : Row8 w' b o xs := fun i e hi => (hb.cell (p := ⟨b, o + i, none⟩) hB).trans (h i e hi)
theorem Sl8.below {w w' : World} {B : Nat} {v : Value} {xs : List Int} (h : Sl8 w B v xs) (hb : Below B w w') : Sl8 w' B v xs := by
 obtain ⟨⟨A, c, hv, h1, h2, h3⟩, ok⟩ := h
 exact ⟨⟨A, c, hv, h1, h2, fun hn => let ⟨b, o, hA, hB, hr⟩ := h3 hn; ⟨b, o, hA, hB, hr.below hb hB⟩⟩, ok⟩
theorem Sl8.mono {w : World} {B B' : Nat} {v : Value} {xs : List Int} (h : Sl8 w B v xs) (hB : B ≤ B') : Sl8 w B' v xs := by
 obtain ⟨⟨A, c, hv, h1, h2, h3⟩, ok⟩ := h
 exact ⟨⟨A, c, hv, h1, h2, fun hn => let ⟨b, o, hA, hb, hr⟩ := h3 hn; ⟨b, o, hA, Nat.lt_of_lt_of_le hb hB, hr⟩⟩, ok⟩
theorem Sl8.nil (w : World) (B : Nat) : Sl8 w B (.slice none 0 0) [] := ⟨⟨none, 0, rfl, Nat.le_refl _, by simp, fun h => absurd h (by simp)⟩, fun _ h => by cases h⟩

theorem cellsOf_u8 : Try.prog.cellsOf 5 = 1 := by kernel_rfl
section
variable {H : Type} {enc : TypeId × Value → H} {W : World} {base : Nat} {sp : Nat → Bool} {hd : Bool}
theorem open_u8s {r : Reach} {b0 : Nat} {v : Value} {d : DataW H} {ps : List MemPlace} (hval : Value.okWide Try.prog W r b0 28 v) (h : DataW.Trod enc Try.prog W base sp hd 28 v d ps) :
  ∃ xs : List Int, Sl8 W W.heap.size v xs := by
 obtain ⟨a0, len, cap, rfl⟩ := okWide_slice Try.underlying28 hval
 obtain ⟨fuel, hf⟩ := h
 rcases open_slice Try.underlying28 hf with ⟨hcs, _⟩ | ⟨a, len', cap', m, n, D, Pl, hcs, _, hle, hcm, hm, _, hi⟩
 ·simp only [Value.cells, List.cons.injEq, Value.slice.injEq, and_true] at hcs
  obtain ⟨rfl, rfl, rfl⟩ := hcs
  exact ⟨[], Sl8.nil _ _⟩
 ·simp only [Value.cells, List.cons.injEq, Value.slice.injEq, and_true] at hcs
  obtain ⟨rfl, rfl, rfl⟩ := hcs
  have hlm : len ≤ m := by rw [hm]; split <;> omega
  have key : ∀ i, i < len → ∃ e : Int, W.cell? (a.add i) = some (.int .u8 e) ∧ ok8 e := by
   intro i hil
   obtain ⟨cs', hc, ht⟩ := hi i (by omega)
   rw [cellsOf_u8] at hc
   obtain ⟨e, he, _, hw⟩ := DataW.trod_int Try.underlying5 ht
   subst he
   obtain ⟨_, _, hat⟩ := World.cells?_some hc
   have h0 := hat 0 (by omega)
   have e0 : (a.add (i * 1)).add 0 = a.add i := by rw [Nat.mul_one]; rfl
   rw [e0] at h0
   exact ⟨e, h0, wf_u8 hw⟩
  have hex : ∃ f : Nat → Int, ∀ i, i < len → W.cell? (a.add i) = some (.int .u8 (f i)) ∧ ok8 (f i) := by
   refine ⟨fun i => if hil : i < len then Classical.choose (key i hil) else 0, fun i hil => ?_⟩
   simp only [dif_pos hil]
   exact Classical.choose_spec (key i hil)
  obtain ⟨f, hfi⟩ := hex
  refine ⟨(List.range len).map f, ⟨⟨some a, cap, by simp, by simpa using hle, by unfold maxLen at hcm; omega, fun hn => ?_⟩, ?_⟩⟩
  ·have hl0 : 0 < len := by simpa using hn
   have hc0 := (hfi 0 hl0).1
   have ha0 : a.add 0 = a := rfl
   rw [ha0] at hc0
   have hlt := lt_of_cell hc0
   obtain ⟨b, o, s⟩ := a
   have hs : s = none := by
    cases s with
    | none => rfl
    | some q => simp [World.cell?] at hc0; split at hc0 <;> simp_all
   subst hs
   refine ⟨b, o, rfl, hlt, fun i e hie => ?_⟩
   have hil : i < len := by
    have := (List.getElem?_eq_some_iff.1 hie).1
    simpa using this
   have hee : e = f i := by
    rw [List.getElem?_map, List.getElem?_range hil] at hie
    simpa using hie.symm
   subst hee
   obtain ⟨k0, _⟩ := hfi i hil
   have ea : (⟨b, o, none⟩ : Addr).add i = ⟨b, o + i, none⟩ := by
    unfold Addr.add
    split <;> simp_all
   rw [ea] at k0
   exact k0
  ·intro e he
   rw [List.mem_map] at he
   obtain ⟨i, hir, rfl⟩ := he
   exact (hfi i (by simpa using hir)).2
end

end Go.Proofs.Ytbakkmfjamcbfaa
