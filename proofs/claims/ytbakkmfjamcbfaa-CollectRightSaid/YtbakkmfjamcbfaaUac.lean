/-
 CoD, MsA, MsB, MsD, ClA, ClC, ClD, ClT, ClV, ClY, Vector, EncL, UnA, UnB, PkA, PkB, PkC: for CollectRight.
-/
import Derived.BigQuiet
import Derived.Laws.BitsAllLaws
import Derived.Test.YtbakkmfjamcbfaaUab
namespace Go.Proofs.Ytbakkmfjamcbfaa
open Go.RowKit Fm
set_option linter.unusedVariables false
set_option maxRecDepth 100000

theorem law25_Task : ∃ (k f b l m c p : Int) (s : ByteArray), (∀ w, Calls Try.prog 21 #[.agg #[.int .u8 0, .int .u8 0, .int .u8 0, .int .u8 0, .int .u8 0, .int .u8 0, .int .u8 0, .int .u8 0]] w fun e w' => e = .returned (.agg #[.int .u8 k, .int .u8 f, .int .i64 b, .int .i64 l, .int .i64 m, .int .i64 c, .int .i64 p, .string s]) ∧ Below w.heap.size w w') ∧
  ∀ wz, Calls Try.prog 43 #[.agg #[.int .u8 k, .int .u8 f, .int .i64 b, .int .i64 l, .int .i64 m, .int .i64 c, .int .i64 p, .string s]] wz (RetC 0 wz) := by
 obtain ⟨F, y, s, hF, hy9, hs32, hT⟩ := law13_Task 0 0 0 0 0 0 0 0 (by omega) (by omega) (by omega) (by omega) (by omega) (by omega) (by omega) (by omega)
 have hcl := hy9.calls
 exact ⟨_, _, _, _, _, _, _, s, hT, fun wz => small_code (by omega) hy9.ok hF _ (by omega) s hs32 wz⟩

theorem want_20 : wantC [] 20 = 0 ∧ wantQ [] 20 = [20] := wantC_0 (by omega) (by simp) (by simp)

set_option maxHeartbeats 4000000 in
theorem law25_Awake (w : World) : Calls Try.prog 19 #[] w fun e w' => e = .returned (.bool true) ∧ Below w.heap.size w w' := by
 obtain ⟨k, f, b, l, m, c, p, s, hT, hC⟩ := law25_Task
 have HT := Lib.hid hT
 have HN := Lib.hid fun wz => collect_New k f b l m c p s hC wz
 clear hT hC
 go_enter Try.func19, Try.ntmps19
 go_upto_region 2 with (first | (go_at_call 21; refine (HT.out _).mono ?_; rintro e w2 ⟨rfl, hb2⟩) | (go_at_call 20; refine (HN.out w2).mono ?_; rintro e w3 ⟨cb, rfl, hK3, hb3⟩))
 have HW : Hid (Calls Try.prog 22 #[.pointer (some ⟨cb, 0, none⟩), .int .u64 20] w3 fun e w' => e = .returned (.int .i64 0) ∧ Below w2.heap.size w3 w' ∧ ColK w' w2.heap.size cb (tkL k f b l m c p s) 1 [20]) := by
  have h := collect_Want (tkL k f b l m c p s) rfl 1 [] cb w2.heap.size 20 ⟨by omega, by omega⟩ (by simp) w3 hK3
  rw [want_20.1, want_20.2] at h
  exact h
 go_upto_region 3 with (go_at_call 22; refine HW.out.mono ?_; rintro e w4 ⟨rfl, hb4, hK4⟩)
 have HTI := Lib.hid (collect_Tick (tkL k f b l m c p s) rfl cb w2.heap.size w4 hK4)
 go_upto_region 4 with (go_at_call 44; refine HTI.out.mono ?_; rintro e w5 ⟨g, rfl, hL, hb5⟩)
 have l0 := hL.cell 0 _ rfl
 have l1 := hL.cell 1 _ rfl
 have l3 := hL.cell 3 _ rfl
 have hll := hL.lt
 go_wp2_with fail
 go_ret
 exact ⟨rfl, hb2.trans (((hb3.trans hb4).trans hb5).mono hb2.size)⟩

end Go.Proofs.Ytbakkmfjamcbfaa

namespace Go.Proofs.Ytbakkmfjamcbfaa
open Go.RowKit Fm
set_option linter.unusedVariables false
set_option maxRecDepth 100000

def entL (id : List Int) (time : Int) (pu sh : Value) (code : Int) : List Value := cells8 id ++ [.int .u64 time, pu, sh, .int .i64 code]
def msgL (kind job start many : Int) (sum : List Int) (code : Int) (es : Value) : List Value := [.int .u8 kind, .int .u64 job, .int .u64 start, .int .i64 many] ++ (cells8 sum ++ [.int .i64 code, es])
section
variable {w : World} {b : Nat} {id sum : List Int} {time code kind job start many : Int} {pu sh es : Value}
theorem entL_length (h : id.length = 16) : (entL id time pu sh code).length = 20 := by unfold entL; rw [List.length_append, cells8_length, h]; rfl
theorem msgL_length (h : sum.length = 16) : (msgL kind job start many sum code es).length = 22 := by unfold msgL; rw [List.length_append, List.length_append, cells8_length, h]; rfl
theorem Vs.ent (h : id.length = 16) (hv : Vs w b (entL id time pu sh code)) : w.cell? ⟨b, 16, none⟩ = some (.int .u64 time) ∧ w.cell? ⟨b, 17, none⟩ = some pu ∧ w.cell? ⟨b, 18, none⟩ = some sh ∧ w.cell? ⟨b, 19, none⟩ = some (.int .i64 code) ∧ w.frozen? ⟨b, 17, none⟩ = false ∧ w.frozen? ⟨b, 18, none⟩ = false ∧ b < w.heap.size := by
 have hl := entL_length (time := time) (pu := pu) (sh := sh) (code := code) h
 have key : ∀ i (x : Value), [.int .u64 time, pu, sh, .int .i64 code][i]? = some x → w.cell? ⟨b, 16 + i, none⟩ = some x := fun i x hi => hv.cell (16 + i) x (by
  unfold entL
  rw [List.getElem?_append_right (by rw [cells8_length]; omega), cells8_length, h, show 16 + i - 16 = i by omega]
  exact hi)
 exact ⟨key 0 _ rfl, key 1 _ rfl, key 2 _ rfl, key 3 _ rfl, hv.frz 17 (by omega), hv.frz 18 (by omega), hv.lt⟩
theorem Vs.msg (h : sum.length = 16) (hv : Vs w b (msgL kind job start many sum code es)) : w.cell? ⟨b, 0, none⟩ = some (.int .u8 kind) ∧ w.cell? ⟨b, 1, none⟩ = some (.int .u64 job) ∧ w.cell? ⟨b, 2, none⟩ = some (.int .u64 start) ∧ w.cell? ⟨b, 3, none⟩ = some (.int .i64 many) ∧ w.cell? ⟨b, 20, none⟩ = some (.int .i64 code) ∧ w.cell? ⟨b, 21, none⟩ = some es ∧ w.frozen? ⟨b, 21, none⟩ = false ∧ b < w.heap.size := by
 have hl := msgL_length (kind := kind) (job := job) (start := start) (many := many) (code := code) (es := es) h
 have key : ∀ i (x : Value), [.int .i64 code, es][i]? = some x → w.cell? ⟨b, 20 + i, none⟩ = some x := fun i x hi => hv.cell (20 + i) x (by
  unfold msgL
  rw [List.getElem?_append_right (by simp; omega), List.getElem?_append_right (by rw [cells8_length, h]; simp; omega), cells8_length, h]
  rw [show 20 + i - [Value.int .u8 kind, .int .u64 job, .int .u64 start, .int .i64 many].length - 16 = i by simp; omega]
  exact hi)
 exact ⟨hv.cell 0 _ rfl, hv.cell 1 _ rfl, hv.cell 2 _ rfl, hv.cell 3 _ rfl, key 0 _ rfl, key 1 _ rfl, hv.frz 21 (by omega), hv.lt⟩
end

def entC (time code : Int) (n n' : Nat) : Int := if 1099511627776 < time ∨ code < 0 ∨ 31 < code then 6 else if 65536 < n ∨ 65536 < n' then 4 else 0

set_option maxHeartbeats 4000000 in
theorem entry_check (id : List Int) (hid : id.length = 16) (time code : Int) (A A' : Option Addr) (n c n' c' : Nat) (w : World) :
  Calls Try.prog 87 #[.agg (entL id time (.slice A n c) (.slice A' n' c') code).toArray] w (RetC (entC time code n n') w) := by
 have HID := Lib.hid hid
 clear hid
 unfold entC
 by_cases h1 : 1099511627776 < time
 ·rw [if_pos (.inl h1)]
  go_enter Try.func87, Try.ntmps87
  go_upto_region 1 with fail
  have hX := Vs.new w (entL id time (.slice A n c) (.slice A' n' c') code) ((entL id time (.slice A n c) (.slice A' n' c') code).toArray) 44 rfl
  have hb00 : Below w.heap.size w (w.alloc (.cells (entL id time (.slice A n c) (.slice A' n' c') code).toArray 44)) := by repeat (first | exact bA | with_reducible assumption | apply bB)
  have hszn : w.heap.size + 1 ≤ (w.alloc (.cells (entL id time (.slice A n c) (.slice A' n' c') code).toArray 44)).heap.size := by simp only [World.size_alloc]; omega
  generalize (w.alloc (.cells (entL id time (.slice A n c) (.slice A' n' c') code).toArray 44)) = w1 at hX hb00 hszn ⊢
  obtain ⟨x0, x1, x2, x3, x4, x5, x6⟩ := hX.ent HID.out
  clear hX
  go_wp2_with fail
  go_ret
  exact ⟨rfl, hb00⟩
 by_cases h2 : code < 0
 ·rw [if_pos (.inr (.inl h2))]
  go_enter Try.func87, Try.ntmps87
  go_upto_region 1 with fail
  have hX := Vs.new w (entL id time (.slice A n c) (.slice A' n' c') code) ((entL id time (.slice A n c) (.slice A' n' c') code).toArray) 44 rfl
  have hb00 : Below w.heap.size w (w.alloc (.cells (entL id time (.slice A n c) (.slice A' n' c') code).toArray 44)) := by repeat (first | exact bA | with_reducible assumption | apply bB)
  have hszn : w.heap.size + 1 ≤ (w.alloc (.cells (entL id time (.slice A n c) (.slice A' n' c') code).toArray 44)).heap.size := by simp only [World.size_alloc]; omega
  generalize (w.alloc (.cells (entL id time (.slice A n c) (.slice A' n' c') code).toArray 44)) = w1 at hX hb00 hszn ⊢
  obtain ⟨x0, x1, x2, x3, x4, x5, x6⟩ := hX.ent HID.out
  clear hX
  go_wp2_with fail
  go_ret
  exact ⟨rfl, hb00⟩
 by_cases h3 : 31 < code
 ·rw [if_pos (.inr (.inr h3))]
  go_enter Try.func87, Try.ntmps87
  go_upto_region 1 with fail
  have hX := Vs.new w (entL id time (.slice A n c) (.slice A' n' c') code) ((entL id time (.slice A n c) (.slice A' n' c') code).toArray) 44 rfl
  have hb00 : Below w.heap.size w (w.alloc (.cells (entL id time (.slice A n c) (.slice A' n' c') code).toArray 44)) := by repeat (first | exact bA | with_reducible assumption | apply bB)
  have hszn : w.heap.size + 1 ≤ (w.alloc (.cells (entL id time (.slice A n c) (.slice A' n' c') code).toArray 44)).heap.size := by simp only [World.size_alloc]; omega
  generalize (w.alloc (.cells (entL id time (.slice A n c) (.slice A' n' c') code).toArray 44)) = w1 at hX hb00 hszn ⊢
  obtain ⟨x0, x1, x2, x3, x4, x5, x6⟩ := hX.ent HID.out
  clear hX
  go_wp2_with fail
  go_ret
  exact ⟨rfl, hb00⟩
 rw [if_neg (by omega)]
 by_cases h4 : 65536 < n
 ·rw [if_pos (.inl h4)]
  have h4' : (65536 : Int) < (n : Int) := by omega
  go_enter Try.func87, Try.ntmps87
  go_upto_region 1 with fail
  have hX := Vs.new w (entL id time (.slice A n c) (.slice A' n' c') code) ((entL id time (.slice A n c) (.slice A' n' c') code).toArray) 44 rfl
  have hb00 : Below w.heap.size w (w.alloc (.cells (entL id time (.slice A n c) (.slice A' n' c') code).toArray 44)) := by repeat (first | exact bA | with_reducible assumption | apply bB)
  have hszn : w.heap.size + 1 ≤ (w.alloc (.cells (entL id time (.slice A n c) (.slice A' n' c') code).toArray 44)).heap.size := by simp only [World.size_alloc]; omega
  generalize (w.alloc (.cells (entL id time (.slice A n c) (.slice A' n' c') code).toArray 44)) = w1 at hX hb00 hszn ⊢
  obtain ⟨x0, x1, x2, x3, x4, x5, x6⟩ := hX.ent HID.out
  clear hX
  go_wp2_with fail
  go_ret
  exact ⟨rfl, hb00⟩
 have h4' : (n : Int) ≤ 65536 := by omega
 by_cases h5 : 65536 < n'
 ·rw [if_pos (.inr h5)]
  have h5' : (65536 : Int) < (n' : Int) := by omega
  go_enter Try.func87, Try.ntmps87
  go_upto_region 1 with fail
  have hX := Vs.new w (entL id time (.slice A n c) (.slice A' n' c') code) ((entL id time (.slice A n c) (.slice A' n' c') code).toArray) 44 rfl
  have hb00 : Below w.heap.size w (w.alloc (.cells (entL id time (.slice A n c) (.slice A' n' c') code).toArray 44)) := by repeat (first | exact bA | with_reducible assumption | apply bB)
  have hszn : w.heap.size + 1 ≤ (w.alloc (.cells (entL id time (.slice A n c) (.slice A' n' c') code).toArray 44)).heap.size := by simp only [World.size_alloc]; omega
  generalize (w.alloc (.cells (entL id time (.slice A n c) (.slice A' n' c') code).toArray 44)) = w1 at hX hb00 hszn ⊢
  obtain ⟨x0, x1, x2, x3, x4, x5, x6⟩ := hX.ent HID.out
  clear hX
  go_wp2_with fail
  go_ret
  exact ⟨rfl, hb00⟩
 have h5' : (n' : Int) ≤ 65536 := by omega
 rw [if_neg (by omega)]
 go_enter Try.func87, Try.ntmps87
 go_upto_region 1 with fail
 have hX := Vs.new w (entL id time (.slice A n c) (.slice A' n' c') code) ((entL id time (.slice A n c) (.slice A' n' c') code).toArray) 44 rfl
 have hb00 : Below w.heap.size w (w.alloc (.cells (entL id time (.slice A n c) (.slice A' n' c') code).toArray 44)) := by repeat (first | exact bA | with_reducible assumption | apply bB)
 have hszn : w.heap.size + 1 ≤ (w.alloc (.cells (entL id time (.slice A n c) (.slice A' n' c') code).toArray 44)).heap.size := by simp only [World.size_alloc]; omega
 generalize (w.alloc (.cells (entL id time (.slice A n c) (.slice A' n' c') code).toArray 44)) = w1 at hX hb00 hszn ⊢
 obtain ⟨x0, x1, x2, x3, x4, x5, x6⟩ := hX.ent HID.out
 clear hX
 go_wp2_with fail
 go_ret
 exact ⟨rfl, hb00⟩

end Go.Proofs.Ytbakkmfjamcbfaa

namespace Go.Proofs.Ytbakkmfjamcbfaa
open Go.RowKit Fm
set_option linter.unusedVariables false
set_option maxRecDepth 100000

theorem size_entry : (Try.prog.info? 44).map (·.size) = some 20 := by kernel_rfl
theorem entL_one (id : List Int) (time code : Int) {pu sh : Value} (h1 : pu.oneCell' = true) (h2 : sh.oneCell' = true) : ∀ v, v ∈ entL id time pu sh code → v.oneCell' = true := by
 intro v hv
 unfold entL at hv
 rcases List.mem_append.1 hv with h | h
 ·exact one8 id v h
 ·simp at h
  rcases h with rfl | rfl | rfl | rfl
  ·rfl
  ·exact h1
  ·exact h2
  ·rfl
section
variable {w : World} {b : Nat} {id id' : List Int} {time code time' code' : Int} {pu sh pu' sh' : Value}
theorem Vs.loadE (h : Vs w b (entL id time pu sh code)) (hk : id.length = 16) : (Instr.loadAt 44 (.pointer (some ⟨b, 0, none⟩))).run Try.prog w = .ok (.agg (entL id time pu sh code).toArray) w :=
 load_W h Try.underlying44 rfl (by rw [entL_length hk]; exact size_entry)
theorem Vs.storeE (h : Vs w b (entL id' time' pu' sh' code')) (hk' : id'.length = 16) (hk : id.length = 16) (h1 : pu.oneCell' = true) (h2 : sh.oneCell' = true) : (Instr.storeAt 44 (.pointer (some ⟨b, 0, none⟩)) (.agg (entL id time pu sh code).toArray)).run Try.prog w = .ok () (w.setCells b 0 (entL id time pu sh code)) :=
 store_W h (by rw [entL_length hk, entL_length hk']) (by rw [entL_length hk]; exact size_entry) (entL_one id time code h1 h2)
theorem Vs.setE (h : Vs w b (entL id' time' pu' sh' code')) (hk' : id'.length = 16) (hk : id.length = 16) : Vs (w.setCells b 0 (entL id time pu sh code)) b (entL id time pu sh code) := h.setW (by rw [entL_length hk, entL_length hk'])
end

end Go.Proofs.Ytbakkmfjamcbfaa

namespace Go.Proofs.Ytbakkmfjamcbfaa
open Go.RowKit Fm
set_option linter.unusedVariables false
set_option maxRecDepth 100000

theorem size_msg : (Try.prog.info? 27).map (·.size) = some 22 := by kernel_rfl
theorem msgL_one (kind job start many : Int) (sum : List Int) (code : Int) {es : Value} (h1 : es.oneCell' = true) : ∀ v, v ∈ msgL kind job start many sum code es → v.oneCell' = true := by
 intro v hv
 unfold msgL at hv
 rcases List.mem_append.1 hv with h | h
 ·simp at h
  rcases h with rfl | rfl | rfl | rfl <;> rfl
 ·rcases List.mem_append.1 h with h | h
  ·exact one8 sum v h
  ·simp at h
   rcases h with rfl | rfl
   ·rfl
   ·exact h1
section
variable {w : World} {b : Nat} {id sum sum' : List Int} {time code kind job start many kind' job' start' many' code' : Int} {pu sh es es' : Value}
theorem Vs.loadM (h : Vs w b (msgL kind job start many sum code es)) (hk : sum.length = 16) : (Instr.loadAt 27 (.pointer (some ⟨b, 0, none⟩))).run Try.prog w = .ok (.agg (msgL kind job start many sum code es).toArray) w :=
 load_W h Try.underlying27 rfl (by rw [msgL_length hk]; exact size_msg)
end
theorem exec_buildSlice {w w' : World} {ρ : Operand → Value} {o : Oper} {T : TypeId} {n : Nat} {ps : Array (Nat × Operand)} {qs : Array (Nat × Value)} {v : Value} (ho : o.op = .buildSlice T n ps) (hx : (ps.map fun (i, x) => (i, ρ x)) = qs) (h : (Instr.buildSlice T n qs).run Try.prog w = .ok v w') : (execOp ρ o).run Try.prog w = .ok (.value v) w' := by
 unfold execOp
 simp only [ho, hx, Sem.run_bind, h, Result.andThen_ok, Sem.run_pure]
structure ClE (B : Nat) (w' : World) (id : List Int) (time code : Int) (xs ys : List Int) (n n' : Nat) (v : Value) : Prop where
 ex : ∃ (A2 A3 : Option Addr) (c2 c3 g cg : Nat), v = .slice (some ⟨g, 0, none⟩) 1 cg ∧ B ≤ g ∧ Vs w' g (entL id time (.slice A2 n c2) (.slice A3 n' c3) code) ∧ w'.ownsRow B 5 1 (.slice A2 n c2) n (cells8 xs) ∧ w'.ownsRow B 5 1 (.slice A3 n' c3) n' (cells8 ys) ∧ ∀ q, (Value.slice A3 n' c3).ownBlock = some q → q ≠ g
theorem ClE.call {B : Nat} {w' w2 : World} {id : List Int} {time code : Int} {xs ys : List Int} {n n' : Nat} {v : Value} (h : ClE B w' id time code xs ys n n' v) (hb : Below w'.heap.size w' w2) : ClE B w2 id time code xs ys n n' v := by
 obtain ⟨A2, A3, c2, c3, g, cg, h1, h2, h3, h4, h5, h6⟩ := h
 exact ⟨A2, A3, c2, c3, g, cg, h1, h2, h3.call hb, own_call h4 hb, own_call h5 hb, h6⟩

end Go.Proofs.Ytbakkmfjamcbfaa

namespace Go.Proofs.Ytbakkmfjamcbfaa
open Go.RowKit Fm
set_option linter.unusedVariables false
set_option maxRecDepth 100000

section
variable {w : World} {b : Nat} {p l l' q : List Value}
theorem Vs.thereP (h : Vs w b (p ++ l ++ q)) : w.there b p.length l.length := fun j hj => by
 have hi : (p ++ l ++ q)[p.length + j]? = some l[j] := by
  rw [List.append_assoc, List.getElem?_append_right (by omega), show p.length + j - p.length = j by omega, List.getElem?_append_left hj]
  exact List.getElem?_eq_getElem hj
 rw [h.cell _ _ hi]
 exact ⟨rfl, h.frz _ (by rw [List.length_append, List.length_append]; omega)⟩
theorem store_P {T : TypeId} (h : Vs w b (p ++ l ++ q)) (hl : l'.length = l.length) (hi : (Try.prog.info? T).map (·.size) = some l'.length) (h1 : ∀ v, v ∈ l' → v.oneCell' = true) :
  (Instr.storeAt T (.pointer (some ⟨b, p.length, none⟩)) (.agg l'.toArray)).run Try.prog w = .ok () (w.setCells b p.length l') :=
 run_storeAt_mid w b p.length T l'.toArray (by rw [List.size_toArray, hl]; exact h.thereP) (by rw [List.size_toArray]; exact hi) (all_oneCell_toArray h1)
theorem Vs.setP (h : Vs w b (p ++ l ++ q)) (hl : l'.length = l.length) : Vs (w.setCells b p.length l') b (p ++ l' ++ q) := by
 refine ⟨fun i x hi => ?_, fun i hi => ?_, by rw [size_setCells]; exact h.lt⟩
 ·by_cases h1 : i < p.length
  ·rw [World.cell?_setCells_out b l' p.length w ⟨b, i, none⟩ (fun _ _ => .inl h1)]
   refine h.cell i x ?_
   rw [List.append_assoc, List.getElem?_append_left h1] at hi ⊢
   exact hi
  ·by_cases h2 : i < p.length + l'.length
   ·obtain ⟨j, rfl⟩ : ∃ j, i = p.length + j := ⟨i - p.length, by omega⟩
    have hj : j < l'.length := by omega
    rw [World.cell?_setCells_in b l' p.length w (fun k hk => (h.thereP k (by rw [← hl]; exact hk)).1) j hj]
    rw [List.append_assoc, List.getElem?_append_right (by omega), show p.length + j - p.length = j by omega, List.getElem?_append_left hj, List.getElem?_eq_getElem hj] at hi
    exact hi
   ·rw [World.cell?_setCells_out b l' p.length w ⟨b, i, none⟩ (fun _ _ => .inr (by dsimp only; omega))]
    refine h.cell i x ?_
    rw [List.getElem?_append_right (by rw [List.length_append]; omega), List.length_append] at hi ⊢
    rw [← hl]
    exact hi
 ·rw [World.frozen?_setCells]
  exact h.frz i (by rw [List.length_append, List.length_append] at hi ⊢; omega)
end

section
variable {w : World} {b : Nat} {id : List Int} {m0 m1 m : List Value} {d0 d1 : Bool} {k0 k1 due wait tries : Int}
end

end Go.Proofs.Ytbakkmfjamcbfaa

namespace Go.Proofs.Ytbakkmfjamcbfaa
open Go.RowKit Fm
set_option linter.unusedVariables false
set_option maxRecDepth 100000

def ReT (w0 : World) (cb : Nat) (o1 : Option Nat) (o2 : Option Value) (wz : World) : Prop := Exc (fun q => q = cb) w0.heap.size w0 wz
structure ReK (w0 : World) (cb : Nat) (ents : List Value) (Cl : World → Value → Prop) (old : List Value) (new : Value → List Value) (o1 : Option Nat) (o2 : Option Value) (s : Bool) (wz : World) : Prop where
 t : Exc (fun q => q = cb) w0.heap.size w0 wz
 l : cb < w0.heap.size
 a : ∀ g, o1 = some g → w0.heap.size ≤ g ∧ Vs wz g ents
 b : ∀ v, o2 = some v → Cl wz v
 v : s = false → Vs wz cb old
 u : s = true → ∀ x, o2 = some x → Vs wz cb (new x)
section
variable {w0 w w' : World} {cb : Nat} {ents old : List Value} {Cl : World → Value → Prop} {new : Value → List Value} {o1 : Option Nat} {o2 : Option Value} {s : Bool}
theorem ReK.weak (o1 : Option Nat) (o2 : Option Value) (s : Bool) (w : World) (h : ReK w0 cb ents Cl old new o1 o2 s w) : ReT w0 cb o1 o2 w := h.t
theorem ReK.clo (hC : ∀ v, Clo fun w => Cl w v) : Clo (ReK w0 cb ents Cl old new o1 o2 s) := fun w w' h hb => ⟨h.t.call hb, h.l, fun g e => ⟨(h.a g e).1, (h.a g e).2.call hb⟩, fun v e => hC v w w' (h.b v e) hb, fun e => (h.v e).call hb, fun e x e2 => (h.u e x e2).call hb⟩
theorem ReK.start (h : Vs w0 cb old) : ReK w0 cb ents Cl old new none none false w0.drew :=
 ⟨exc_of ((Below.refl _ _).drew), h.lt, fun _ e => (by cases e), fun _ e => (by cases e), fun _ => h.drew, fun e => (by cases e)⟩
theorem ReK.put {x : Value} {o : Nat} {l : List Value} (h : ReK w0 cb ents Cl old new o1 (some x) false w) (hn : Vs (w.setCells cb o l) cb (new x)) (hx : Cl (w.setCells cb o l) x) : ReK w0 cb ents Cl old new o1 (some x) true (w.setCells cb o l) := by
 have hl := h.l
 refine ⟨exc_setCells (S := fun q => q = cb) (B := w0.heap.size) cb rfl l o w h.t, h.l, fun g e => ⟨(h.a g e).1, Vs.farW (h.a g e).2 (b' := cb) (by have := (h.a g e).1; omega) o l⟩, fun v e => ?_, fun e => (by cases e), fun _ v e => ?_⟩
 ·injection e with e
  subst e
  exact hx
 ·injection e with e
  subst e
  exact hn
end

end Go.Proofs.Ytbakkmfjamcbfaa

namespace Go.Proofs.Ytbakkmfjamcbfaa
open Go.RowKit Fm
set_option linter.unusedVariables false
set_option maxRecDepth 100000

def RdB (w : World) (A : Option Addr) (n : Nat) (xs : List Int) : Prop := xs.length = n ∧ n ≤ 1000000 ∧ (0 < n → ∃ b o, A = some ⟨b, o, none⟩ ∧ b < w.heap.size ∧ RowB w b o xs)
theorem RdB.call {w w' : World} {A : Option Addr} {n : Nat} {xs : List Int} (h : RdB w A n xs) (hb : Below w.heap.size w w') : RdB w' A n xs :=
 ⟨h.1, h.2.1, fun hn => by
  obtain ⟨b, o, h1, h2, h3⟩ := h.2.2 hn
  exact ⟨b, o, h1, Nat.lt_of_lt_of_le h2 hb.size, h3.belowB hb h2⟩⟩

theorem ClE.mono {B B' : Nat} {w' : World} {id : List Int} {time code : Int} {xs ys : List Int} {n n' : Nat} {v : Value} (h : ClE B w' id time code xs ys n n' v) (hB : B' ≤ B) : ClE B' w' id time code xs ys n n' v := by
 obtain ⟨A2, A3, c2, c3, g, cg, h1, h2, h3, h4, h5, h6⟩ := h
 exact ⟨A2, A3, c2, c3, g, cg, h1, Nat.le_trans hB h2, h3, own_base9 h4 hB, own_base9 h5 hB, h6⟩
theorem ClE.exc {B b : Nat} {w w' : World} {id : List Int} {time code : Int} {xs ys : List Int} {n n' : Nat} {v : Value} (h : ClE B w id time code xs ys n n' v) (hb : b < B) (hex : Exc (fun q => q = b) w.heap.size w w') : ClE B w' id time code xs ys n n' v := by
 obtain ⟨A2, A3, c2, c3, g, cg, h1, h2, h3, h4, h5, h6⟩ := h
 exact ⟨A2, A3, c2, c3, g, cg, h1, h2, h3.exc (S := fun q => q = b) (fun h => by
  have h9 : g = b := h
  omega) hex, own_other h4 hex (fun q hq h => by
  have h9 : q = b := h
  have := (World.ownsRow.lt h4 q hq).1
  omega), own_other h5 hex (fun q hq h => by
  have h9 : q = b := h
  have := (World.ownsRow.lt h5 q hq).1
  omega), h6⟩
theorem ClE.set {B : Nat} {w' : World} {id : List Int} {time code : Int} {xs ys : List Int} {n n' : Nat} {v : Value} (h : ClE B w' id time code xs ys n n' v) {b : Nat} (hb : b < B) (o : Nat) (l : List Value) : ClE B (w'.setCells b o l) id time code xs ys n n' v := by
 obtain ⟨A2, A3, c2, c3, g, cg, h1, h2, h3, h4, h5, h6⟩ := h
 have hex := exc_setCells (S := fun q => q = b) (B := w'.heap.size) b rfl l o w' (exc_of (Below.refl _ _))
 exact ⟨A2, A3, c2, c3, g, cg, h1, h2, Vs.farW h3 (b' := b) (by omega) o l, own_other h4 hex (fun q hq h => by
  have h9 : q = b := h
  have := (World.ownsRow.lt h4 q hq).1
  omega), own_other h5 hex (fun q hq h => by
  have h9 : q = b := h
  have := (World.ownsRow.lt h5 q hq).1
  omega), h6⟩

end Go.Proofs.Ytbakkmfjamcbfaa

namespace Go.Proofs.Ytbakkmfjamcbfaa
open Go.RowKit Fm
set_option linter.unusedVariables false
set_option maxRecDepth 100000

def ltL (tq : Int) (m : List Value) : List Value := .int .i64 tq :: m
end Go.Proofs.Ytbakkmfjamcbfaa

namespace Go.Proofs.Ytbakkmfjamcbfaa
open Go.RowKit Fm
set_option linter.unusedVariables false
set_option maxRecDepth 100000

structure ClI (lo hi : Nat) (w : World) (id : List Int) (tm : Int) (xs ys : List Int) (n n' : Nat) (v : Value) : Prop where
 ex : ∃ (A2 A3 : Option Addr) (c2 c3 g cg : Nat), v = .slice (some ⟨g, 0, none⟩) 1 cg ∧ (lo ≤ g ∧ g < hi) ∧ Vs w g (entL id tm (.slice A2 n c2) (.slice A3 n' c3) 0) ∧ w.ownsRow lo 5 1 (.slice A2 n c2) n (cells8 xs) ∧ w.ownsRow lo 5 1 (.slice A3 n' c3) n' (cells8 ys) ∧
  (∀ q, (Value.slice A2 n c2).ownBlock = some q → q < hi) ∧ (∀ q, (Value.slice A3 n' c3).ownBlock = some q → q < hi ∧ q ≠ g)
section
variable {B lo hi : Nat} {S : Nat → Prop} {w w' w2 w3 : World} {id : List Int} {tm : Int} {xs ys : List Int} {n n' : Nat} {v u v' : Value}
theorem ClI.exc (h : ClI lo hi w id tm xs ys n n' v) (hS : ∀ q, lo ≤ q → q < hi → ¬ S q) (hex : Exc S w.heap.size w w') : ClI lo hi w' id tm xs ys n n' v := by
 obtain ⟨A2, A3, c2, c3, g, cg, h1, h2, h3, h4, h5, h6, h7⟩ := h
 exact ⟨A2, A3, c2, c3, g, cg, h1, h2, h3.exc (hS g h2.1 h2.2) hex, own_other h4 hex (fun q hq => hS q (World.ownsRow.lt h4 q hq).1 (h6 q hq)), own_other h5 hex (fun q hq => hS q (World.ownsRow.lt h5 q hq).1 (h7 q hq).1), h6, h7⟩
theorem ClI.call (h : ClI lo hi w id tm xs ys n n' v) (hb : Below w.heap.size w w') : ClI lo hi w' id tm xs ys n n' v := h.exc (S := fun _ => False) (fun _ _ _ h => h) (exc_of hb)
def ltR (its : List (Int × List Int × Nat)) (ps : List (Value × Nat × Nat)) : List Value := (List.zipWith (fun it p => ltL it.1 (msgL 1 0 0 0 z16 0 p.1)) its ps).flatten
structure LtS (B : Nat) (w : World) (v : Value) (id : List Int) (tm : Int) (xs : List Int) (n : Nat) (its : List (Int × List Int × Nat)) (ps : List (Value × Nat × Nat)) : Prop where
 len : ps.length = its.length
 row : w.ownsRow B 42 23 v its.length (ltR its ps)
 each : ∀ (i : Nat) it p, its[i]? = some it → ps[i]? = some p → B ≤ p.2.1 ∧ ClI p.2.1 p.2.2 w id tm xs it.2.1 n it.2.2 p.1 ∧ (∀ q, v.ownBlock = some q → q < p.2.1 ∨ p.2.2 ≤ q) ∧ p.2.2 ≤ w.heap.size
 sep : ∀ (i j : Nat) p p', i < j → ps[i]? = some p → ps[j]? = some p' → p.2.2 ≤ p'.2.1
variable {its : List (Int × List Int × Nat)} {ps : List (Value × Nat × Nat)} {it : Int × List Int × Nat}
theorem LtS.exc (h : LtS B w v id tm xs n its ps) (hS : ∀ q, B ≤ q → ¬ S q) (hex : Exc S w.heap.size w w') : LtS B w' v id tm xs n its ps :=
 ⟨h.len, own_other h.row hex (fun q hq => hS q (World.ownsRow.lt h.row q hq).1), fun i it p h1 h2 => by
  obtain ⟨k1, k2, k3, k4⟩ := h.each i it p h1 h2
  exact ⟨k1, k2.exc (fun q hq _ => hS q (Nat.le_trans k1 hq)) hex, k3, Nat.le_trans k4 hex.size⟩, h.sep⟩
theorem LtS.call (h : LtS B w v id tm xs n its ps) (hb : Below w.heap.size w w') : LtS B w' v id tm xs n its ps := h.exc (S := fun _ => False) (fun _ _ h => h) (exc_of hb)
end

end Go.Proofs.Ytbakkmfjamcbfaa

namespace Go.Proofs.Ytbakkmfjamcbfaa
open Go.RowKit Fm
set_option linter.unusedVariables false
set_option maxRecDepth 100000

theorem RdB.exc {S : Nat → Prop} {w w' : World} {A : Option Addr} {n : Nat} {xs : List Int} (h : RdB w A n xs) (hS : ∀ b o, 0 < n → A = some ⟨b, o, none⟩ → ¬ S b) (hb : Exc S w.heap.size w w') : RdB w' A n xs :=
 ⟨h.1, h.2.1, fun hn => by
  obtain ⟨b, o, h1, h2, h3⟩ := h.2.2 hn
  exact ⟨b, o, h1, Nat.lt_of_lt_of_le h2 hb.size, fun i e hi => cell_exc (h3 i e hi) (hS b o hn h1) hb⟩⟩

section
variable {w : World} {b : Nat} {id sum : List Int} {time code kind job start many : Int} {pu sh es : Value}
theorem Vs.loadMsum (hk : sum.length = 16) (h : Vs w b (msgL kind job start many sum code es)) : (Instr.loadAt 23 (.pointer (some ⟨b, 4, none⟩))).run Try.prog w = .ok (.agg (cells8 sum).toArray) w := by
 unfold msgL at h
 rw [← List.append_assoc] at h
 exact load_P h Try.underlying23 rfl (by rw [cells8_length, hk]; kernel_rfl)
end

end Go.Proofs.Ytbakkmfjamcbfaa

namespace Go.Proofs.Ytbakkmfjamcbfaa
open Go.RowKit Fm
set_option linter.unusedVariables false
set_option maxRecDepth 100000

theorem eK_nK {f : Nat} (hf : IsF f) {n : Nat} (hn : n < 4294967296) : eK (nK f n) = ((n : Int), 0) := by
 rw [nK_kI, eK_kI]
 have h : (n : Int) % (Pm f : Int) = n := by
  rcases hf.or with rfl | rfl
  ·rw [show ((Pm 1 : Nat) : Int) = 18446744069414584321 from rfl]; omega
  ·rw [show ((Pm 2 : Nat) : Int) = 340282366920938462946865773367900766209 from rfl]; omega
 rw [h]
 simp only [eN, Prod.mk.injEq]
 omega

section
variable {f : Nat} (hf : IsF f)
include hf

end

end Go.Proofs.Ytbakkmfjamcbfaa

namespace Go.Proofs.Ytbakkmfjamcbfaa
open Go.RowKit Fm
set_option linter.unusedVariables false
set_option maxRecDepth 100000

def nEs (l : List Nat) : List E := l.map fun n : Nat => ((n : Int), 0)
section
variable {f : Nat} (hf : IsF f)
include hf

theorem esK_nK {l : List Nat} (h : ∀ x, x ∈ l → x < 4294967296) : esK (l.map (nK f)) = nEs l := by
 unfold esK nEs
 rw [List.map_map]
 exact List.map_congr_left fun x hx => eK_nK hf (h x hx)
end

section
variable {f : Nat} (hf : IsF f)
include hf

/-! ### what both say of a measure -/
end

end Go.Proofs.Ytbakkmfjamcbfaa

namespace Go.Proofs.Ytbakkmfjamcbfaa
open Go.RowKit Fm
set_option linter.unusedVariables false
set_option maxRecDepth 100000

/-! ### shares of sums -/
theorem nEs_len (l : List Nat) : (nEs l).length = l.length := List.length_map ..
section
variable {f : Nat}
end

/-! ### Unshard -/
set_option maxHeartbeats 4000000 in
theorem total_UnshardCheck (k f b l m c p : Int) (s : ByteArray) (HC : ∀ wz, Calls Try.prog 43 #[.agg #[.int .u8 k, .int .u8 f, .int .i64 b, .int .i64 l, .int .i64 m, .int .i64 c, .int .i64 p, .string s]] wz (RetC 0 wz))
  (vx vo : Value) (M : Int) (K1 K2 : List Int) (hK1 : K1.length = 16) (hK2 : K2.length = 16) (hne : (K1 == K2) = false) (w : World) :
  Calls Try.prog 38 #[.agg #[.int .u8 k, .int .u8 f, .int .i64 b, .int .i64 l, .int .i64 m, .int .i64 c, .int .i64 p, .string s], .agg (totL vx M K1).toArray, .agg (totL vo M K2).toArray] w (RetErr 22 w) := by
 have HC := Lib.hid HC
 have HK1 := Lib.hid hK1
 have HK2 := Lib.hid hK2
 have HEQ : Hid (∀ wz, (Op.equalIn 10000 74 (.agg (cells8 K1).toArray) (.agg (cells8 K2).toArray)).run Try.prog wz = .ok false wz) := fun wz => by
  rw [run_equalIn_16 9998 Try.underlying74 hK1 hK2, hne]
 clear hK1 hK2 hne
 go_enter Try.func38, Try.ntmps38
 go_upto_region 1 with fail
 have hT := ((Vs.new w [.int .u8 k, .int .u8 f, .int .i64 b, .int .i64 l, .int .i64 m, .int .i64 c, .int .i64 p, .string s] #[.int .u8 k, .int .u8 f, .int .i64 b, .int .i64 l, .int .i64 m, .int .i64 c, .int .i64 p, .string s] 62 rfl).alloc (.cells (totL vx M K1).toArray 76)).alloc (.cells (totL vo M K2).toArray 76)
 have hX := (Vs.new (w.alloc (.cells #[.int .u8 k, .int .u8 f, .int .i64 b, .int .i64 l, .int .i64 m, .int .i64 c, .int .i64 p, .string s] 62)) (totL vx M K1) ((totL vx M K1).toArray) 76 rfl).alloc (.cells (totL vo M K2).toArray 76)
 have hY := Vs.new ((w.alloc (.cells #[.int .u8 k, .int .u8 f, .int .i64 b, .int .i64 l, .int .i64 m, .int .i64 c, .int .i64 p, .string s] 62)).alloc (.cells (totL vx M K1).toArray 76)) (totL vo M K2) ((totL vo M K2).toArray) 76 rfl
 simp only [World.size_alloc] at hX hY
 have hb00 : Below w.heap.size w (((w.alloc (.cells #[.int .u8 k, .int .u8 f, .int .i64 b, .int .i64 l, .int .i64 m, .int .i64 c, .int .i64 p, .string s] 62)).alloc (.cells (totL vx M K1).toArray 76)).alloc (.cells (totL vo M K2).toArray 76)) := by repeat (first | exact bA | with_reducible assumption | apply bB)
 have hszn : w.heap.size + 3 ≤ (((w.alloc (.cells #[.int .u8 k, .int .u8 f, .int .i64 b, .int .i64 l, .int .i64 m, .int .i64 c, .int .i64 p, .string s] 62)).alloc (.cells (totL vx M K1).toArray 76)).alloc (.cells (totL vo M K2).toArray 76)).heap.size := by simp only [World.size_alloc]; omega
 generalize (((w.alloc (.cells #[.int .u8 k, .int .u8 f, .int .i64 b, .int .i64 l, .int .i64 m, .int .i64 c, .int .i64 p, .string s] 62)).alloc (.cells (totL vx M K1).toArray 76)).alloc (.cells (totL vo M K2).toArray 76)) = w1 at hT hX hY hb00 hszn ⊢
 obtain ⟨⟨T0, T1, T2, T3, T4, T5, T6, T7⟩, ⟨T8, T9, T10, T11, T12, T13, T14, T15⟩, T16⟩ := hT.get8
 obtain ⟨x0, x1, x2, x3, x4⟩ := hX.tot
 obtain ⟨y0, y1, y2, y3, y4⟩ := hY.tot
 go_upto_region 6 with (first
  | (go_at_call 43; refine (HC.out _).mono ?_; rintro e w2 ⟨rfl, hb2⟩; replace hb00 := bl_call hb00 (Nat.le_refl _) hb2; replace hX := hX.call hb2; replace hT := hT.call hb2; replace hY := hY.call hb2; clear T0 T1 T2 T3 T4 T5 T6 T7 T8 T9 T10 T11 T12 T13 T14 T15 T16; clear hb2; obtain ⟨⟨T0, T1, T2, T3, T4, T5, T6, T7⟩, ⟨T8, T9, T10, T11, T12, T13, T14, T15⟩, T16⟩ := hT.get8; clear x0 x1 x2 x3 x4 y0 y1 y2 y3 y4; obtain ⟨x0, x1, x2, x3, x4⟩ := hX.tot; obtain ⟨y0, y1, y2, y3, y4⟩ := hY.tot))
 refine wp_region_lit ?_
 refine wpList_valD (some 23) rfl rfl (by (go_simp; first | with_reducible rfl | exact ⟨rfl, rfl⟩ | (trace_state; fail))) ?_
 simp only [Zp, Zq, Zr, Zs]
 refine wpList_valD (some 24) rfl rfl (exec_load rfl (by kernel_rfl) (hX.loadTC HK1.out)) ?_
 simp only [Zp, Zq, Zr, Zs]
 refine wpList_valD (some 25) rfl rfl (by (go_simp; first | with_reducible rfl | exact ⟨rfl, rfl⟩ | (trace_state; fail))) ?_
 simp only [Zp, Zq, Zr, Zs]
 refine wpList_valD (some 26) rfl rfl (exec_load rfl (by kernel_rfl) (hY.loadTC HK2.out)) ?_
 simp only [Zp, Zq, Zr, Zs]
 refine wpList_valD (some 27) rfl rfl (by (have hz := HEQ.out w2; go_simp; first | with_reducible rfl | exact ⟨rfl, rfl⟩ | (trace_state; fail))) ?_
 simp only [Zp, Zq, Zr, Zs]
 refine wpList_valD (some 22) rfl rfl (by (go_simp; first | with_reducible rfl | exact ⟨rfl, rfl⟩ | (trace_state; fail))) ?_
 simp only [Zp, Zq, Zr, Zs]
 go_wp2_with fail
 go_ret2
 exact ⟨rfl, hb00⟩

end Go.Proofs.Ytbakkmfjamcbfaa

namespace Go.Proofs.Ytbakkmfjamcbfaa
open Go.RowKit Fm Go.Joins Go.ChangeShapes Go.WideShapes Go.Deep
set_option linter.unusedVariables false
set_option maxRecDepth 100000

/-! ### two new totals -/
def UnT (w0 : World) (o1 o2 o3 o4 : Option Nat) (wz : World) : Prop := Below w0.heap.size w0 wz
structure UnK (w0 : World) (n : Nat) (zs : List E) (o1 o2 o3 o4 : Option Nat) (s : Bool) (wz : World) : Prop where
 t : Below w0.heap.size w0 wz
 a : ∀ g, o1 = some g → w0.heap.size ≤ g ∧ BlkE wz g zs
 b : ∀ g, o2 = some g → w0.heap.size ≤ g ∧ BlkE wz g zs
 c : ∀ x, o3 = some x → w0.heap.size ≤ x ∧ (s = false → Vs wz x (totL (.slice none 0 0) 0 z16)) ∧ (s = true → ∀ g, o1 = some g → Vs wz x (totL (.slice (some ⟨g, 0, none⟩) n n) 0 z16))
 d : ∀ x, o4 = some x → w0.heap.size ≤ x ∧ Vs wz x (totL (.slice none 0 0) 0 z16)
 e : ∀ x x', o3 = some x → o4 = some x' → x ≠ x'
section
variable {w0 w w' : World} {n : Nat} {zs : List E} {o1 o2 o3 o4 : Option Nat} {s : Bool}
theorem UnK.weak (o1 o2 o3 o4 : Option Nat) (s : Bool) (w : World) (h : UnK w0 n zs o1 o2 o3 o4 s w) : UnT w0 o1 o2 o3 o4 w := h.t
theorem UnK.clo : Clo (UnK w0 n zs o1 o2 o3 o4 s) := fun w w' h hb => ⟨bl_call h.t (Nat.le_refl _) hb, fun g e => ⟨(h.a g e).1, (h.a g e).2.call hb⟩, fun g e => ⟨(h.b g e).1, (h.b g e).2.call hb⟩, fun x e => ⟨(h.c x e).1, fun e1 => ((h.c x e).2.1 e1).call hb, fun e1 g e2 => ((h.c x e).2.2 e1 g e2).call hb⟩, fun x e => ⟨(h.d x e).1, (h.d x e).2.call hb⟩, h.e⟩
theorem UnK.start (w0 : World) : UnK w0 n zs none none none none false w0.drew :=
 ⟨(Below.refl _ _).drew, fun _ e => (by cases e), fun _ e => (by cases e), fun _ e => (by cases e), fun _ e => (by cases e), fun _ _ e => (by cases e)⟩
theorem UnK.mkA {g : Nat} (h : UnK w0 n zs none o2 o3 o4 false w) (hB : BlkE w' g zs) (hg : w.heap.size ≤ g) (hb : Below w.heap.size w w') : UnK w0 n zs (some g) o2 o3 o4 false w' := by
 have h2 := UnK.clo _ _ h hb
 refine ⟨h2.t, fun g' e => ?_, h2.b, fun x e => ⟨(h2.c x e).1, (h2.c x e).2.1, fun e1 => (by cases e1)⟩, h2.d, h2.e⟩
 injection e with e
 subst e
 exact ⟨Nat.le_trans h.t.size hg, hB⟩
theorem UnK.mkB {g : Nat} (h : UnK w0 n zs o1 none o3 o4 s w) (hB : BlkE w' g zs) (hg : w.heap.size ≤ g) (hb : Below w.heap.size w w') : UnK w0 n zs o1 (some g) o3 o4 s w' := by
 have h2 := UnK.clo _ _ h hb
 refine ⟨h2.t, h2.a, fun g' e => ?_, h2.c, h2.d, h2.e⟩
 injection e with e
 subst e
 exact ⟨Nat.le_trans h.t.size hg, hB⟩
theorem UnK.mkC {cs : Array Value} {t : TypeId} (h : UnK w0 n zs o1 o2 none o4 false w) (hc : cs = (totL (.slice none 0 0) 0 z16).toArray) : UnK w0 n zs o1 o2 (some w.heap.size) o4 false (w.alloc (.cells cs t)) := by
 have h2 := UnK.clo _ _ h ((Below.refl w.heap.size w).alloc (Nat.le_refl _) (.cells cs t))
 refine ⟨h2.t, h2.a, h2.b, fun x e => ?_, h2.d, fun x x' e e' => ?_⟩
 ·injection e with e
  subst e
  exact ⟨h.t.size, fun _ => Vs.new w _ cs t hc, fun e => (by cases e)⟩
 ·injection e with e
  subst e
  have := (h.d x' e').2.lt
  omega
theorem UnK.mkD {cs : Array Value} {t : TypeId} (h : UnK w0 n zs o1 o2 o3 none false w) (hc : cs = (totL (.slice none 0 0) 0 z16).toArray) : UnK w0 n zs o1 o2 o3 (some w.heap.size) false (w.alloc (.cells cs t)) := by
 have h2 := UnK.clo _ _ h ((Below.refl w.heap.size w).alloc (Nat.le_refl _) (.cells cs t))
 refine ⟨h2.t, h2.a, h2.b, h2.c, fun x e => ?_, fun x x' e e' => ?_⟩
 ·injection e with e
  subst e
  exact ⟨h.t.size, Vs.new w _ cs t hc⟩
 ·injection e' with e'
  subst e'
  have := ((h.c x e).2.1 rfl).lt
  omega
theorem UnK.put {g x : Nat} (h : UnK w0 n zs (some g) o2 (some x) o4 false w) : UnK w0 n zs (some g) o2 (some x) o4 true (w.setCells x 0 (totL (.slice (some ⟨g, 0, none⟩) n n) 0 z16)) := by
 obtain ⟨c1, c2, _⟩ := h.c x rfl
 have hv := c2 rfl
 have hset := hv.setW (l' := totL (.slice (some ⟨g, 0, none⟩) n n) 0 z16) (by rw [totL_length _ _ z16_length, totL_length _ _ z16_length])
 have hnew : ∀ g', (some g : Option Nat) = some g' → totL (.slice (some ⟨g', 0, none⟩) n n) 0 z16 = totL (.slice (some ⟨g, 0, none⟩) n n) 0 z16 := fun g' e => by injection e with e; rw [e]
 generalize totL (.slice (some ⟨g, 0, none⟩) n n) 0 z16 = L at hset hnew ⊢
 have hbe : Below w0.heap.size w0 (w.setCells x 0 L) := bl_setCells h.t c1 0 _
 have n1 : ∀ (q : Nat), BlkE w q zs → x ≠ q := fun q h e => blk_vs (A := none) (n := 0) (c := 0) (m := 0) (k := z16) h hv e.symm
 refine ⟨hbe, fun g' e => ⟨(h.a g' e).1, (h.a g' e).2.farC (n1 g' (h.a g' e).2) _ _⟩, fun g' e => ⟨(h.b g' e).1, (h.b g' e).2.farC (n1 g' (h.b g' e).2) _ _⟩, fun x' e => ?_, fun x' e => ⟨(h.d x' e).1, (h.d x' e).2.farW (h.e x x' rfl e) _ _⟩, h.e⟩
 injection e with e
 subst e
 refine ⟨c1, fun e => (by cases e), fun _ g' e => ?_⟩
 rw [hnew g' e]
 exact hset
end

/-! ### rows of numbers -/
/-! ### an argument -/
section
variable {H : Type} {enc : TypeId × Value → H} {W : World} {base : Nat} {sp : Nat → Bool} {hd : Bool}
end

end Go.Proofs.Ytbakkmfjamcbfaa

namespace Go.Proofs.Ytbakkmfjamcbfaa
open Go.RowKit Fm
set_option linter.unusedVariables false
set_option maxRecDepth 100000

def RetOB (bs : List Int) (w : World) (e : Ending) (w' : World) : Prop :=
 ∃ (A : Option Addr) (c : Nat), e = .returned (.slice A bs.length c) ∧ w'.ownsRow w.heap.size 5 1 (.slice A bs.length c) bs.length (cells8 bs) ∧ Below w.heap.size w w'

theorem own_srcB {w : World} {B n c : Nat} {A : Option Addr} {xs : List Int} (h : w.ownsRow B 5 1 (.slice A n c) n (cells8 xs)) : 0 < n → ∃ b o, A = some ⟨b, o, none⟩ ∧ RowB w b o xs := by
 intro hn
 rcases A with _ | ⟨g, o, s⟩
 ·rcases h.2 with ⟨hv, h0⟩ | ⟨g, cap, cur, hv, _⟩
  ·omega
  ·cases hv
 ·rcases h.2 with ⟨hv, h0⟩ | ⟨g, cap, cur, hv, _⟩
  ·cases hv
  ·injection hv with e1 e2 e3
   injection e1 with e1
   injection e1 with e1 e4 e5
   subst e1
   subst e4
   subst e5
   exact ⟨g, 0, rfl, (own_rowB h).1⟩

structure Wr (w : World) (B b : Nat) (xs : List Int) : Prop where
 ex : ∃ (A : Option Addr) (c : Nat), Vs w b [.slice A xs.length c] ∧ w.ownsRow B 5 1 (.slice A xs.length c) xs.length (cells8 xs) ∧ ∀ g, (Value.slice A xs.length c).ownBlock = some g → g ≠ b
 l : B ≤ b
 lb : B ≤ w.heap.size
theorem Wr.call {w w' : World} {B b : Nat} {xs : List Int} (h : Wr w B b xs) (hb : Below w.heap.size w w') : Wr w' B b xs := by
 obtain ⟨⟨A, c, h1, h2, h3⟩, h4, h5⟩ := h
 exact ⟨⟨A, c, h1.call hb, own_call h2 hb, h3⟩, h4, Nat.le_trans h5 hb.size⟩

set_option maxHeartbeats 4000000 in
theorem pack_Raw (B b : Nat) (xs ys : List Int) (A : Option Addr) (m c : Nat) (w : World) (h : Wr w B b xs) (hm : ys.length = m) (hy : 0 < m → ∃ b o, A = some ⟨b, o, none⟩ ∧ RowB w b o ys) (hn : xs.length + m ≤ 1000000) :
  Calls Try.prog 72 #[.pointer (some ⟨b, 0, none⟩), .slice A m c] w fun e w' => e = .returned (.tuple #[]) ∧ Wr w' B b (xs ++ ys) ∧ Below B w w' := by
 obtain ⟨⟨A1, c1, hV, hown, hob⟩, hBb, hBw⟩ := h
 have HOW := Lib.hid hown
 have HY := Lib.hid hy
 have HM := Lib.hid hm
 have hk1 : xs.length + m ≤ 1099511627776 := by omega
 clear hy hm hown hn
 go_enter Try.func72, Try.ntmps72
 obtain ⟨V0, V1, V2⟩ := hV.get1
 go_wp2_with (at_builtin; (refine wpList_append_B rfl (.tmp 10) (.tmp 11) rfl B _ xs.length xs rfl HOW.out A m c ys rfl HM.out HY.out hk1 hBw ?_; intro v2 w7 hown7 hg7 hat7; obtain ⟨g2, cap2, hv2⟩ := own_shape hown7; subst hv2; have hV7 := hV.exc (S := fun q => (Value.slice A1 xs.length c1).ownBlock = some q) (fun e => hob _ e rfl) (grown_exc hg7); clear V0 V1 V2; obtain ⟨V0, V1, V2⟩ := hV7.get1))
 have hb7 := (Below.refl B w).grown hg7 hBw (fun q hq => (HOW.out.lt q hq).1)
 have hne : ∀ q, (Value.slice g2 (xs.length + m) cap2).ownBlock = some q → q ≠ b := fun q hq => by
  rcases hat7 with h | h
  ·exact hob q (h ▸ hq)
  ·rw [h] at hq
   injection hq with hq
   have := hV.lt
   omega
 have hl : (xs ++ ys).length = xs.length + m := by rw [List.length_append, HM.out]
 refine end_none Try.results72 rfl ⟨rfl, ⟨⟨g2, cap2, ?_, ?_, ?_⟩, hBb, ?_⟩, ?_⟩
 ·rw [hl]
  exact hV7.put 0 (Nat.zero_lt_succ _) _
 ·rw [hl]
  exact own_other hown7 (exc_sc (S := fun q => q = b) (exc_of (Below.refl _ _)) (.inl rfl) 0 _) (fun g hg => hne g hg)
 ·rw [hl]
  exact hne
 ·exact Nat.le_trans hBw (bl_set (p := ⟨b, 0, none⟩) hb7 hBb (.slice g2 (xs.length + m) cap2)).size
 ·exact bl_set (p := ⟨b, 0, none⟩) hb7 hBb _

set_option maxHeartbeats 4000000 in
theorem pack_Uint4 (B b : Nat) (xs : List Int) (x : Nat) (w : World) (h : Wr w B b xs) (hn : xs.length ≤ 900000) :
  Calls Try.prog 71 #[.pointer (some ⟨b, 0, none⟩), .int .u64 x, .int .i64 4] w fun e w' => e = .returned (.tuple #[]) ∧ Wr w' B b (xs ++ bytesN x 4) ∧ Below B w w' := by
 have HH := Lib.hid h
 have HBL := Lib.hid (bytesN_length x 4)
 clear h
 go_enter Try.func71, Try.ntmps71
 go_wp2_with fail
 go_loopw [10] (fun i wr => ∃ k : Nat, k ≤ 4 ∧ i = .int .i64 k ∧ Wr wr B b (xs ++ (bytesN x 4).take k) ∧ Below B w wr) (fun i _ => 4 - (intOf i).toNat)
 case atStart => exact ⟨0, by omega, rfl, by rw [List.take_zero, List.append_nil]; exact HH.out, Below.refl _ _⟩
 case round =>
  obtain ⟨k, hk, rfl, hW, hbw⟩ := hrel
  by_cases hlt : k < 4
  ·obtain ⟨s, hs⟩ : ∃ s, 8 * k = s := ⟨_, rfl⟩
   have hsi : (8 : Int) * (k : Int) = (s : Int) := by omega
   have hs64 : s ≤ 56 := by omega
   have hs0 : (0 : Int) ≤ (s : Int) := by omega
   have hwr := byteN_wrap x s
   have hat : (bytesN x 4)[k]? = some ((x / 2 ^ s % 256 : Nat) : Int) := by rw [bytesN_at x 4 k hlt, ← hs]; rfl
   obtain ⟨d, hd⟩ : ∃ d, x / 2 ^ s % 256 = d := ⟨_, rfl⟩
   rw [hd] at hwr hat
   have HL : Hid (xs ++ (bytesN x 4).take (k + 1) = (xs ++ (bytesN x 4).take k) ++ [(d : Int)]) := by
    show _ = _
    rw [List.take_add_one, hat, List.append_assoc]
    rfl
   have hw8 : IntKind.i64.wrap (s : Int) = (s : Int) := IntWalk.i64_in _ (by omega)
   have hal := (Below.refl wr.heap.size wr).alloc (Nat.le_refl _) (.cells #[.int .u8 (d : Int)] 5)
   have hR1 : RowB (wr.alloc (.cells #[.int .u8 (d : Int)] 5)) wr.heap.size 0 [(d : Int)] := fun i e hi => by
    have hn := (Vs.new wr [.int .u8 (d : Int)] #[.int .u8 (d : Int)] 5 rfl).cell
    match i, hi with
    | 0, hi =>
     injection hi with hi
     subst hi
     exact hn 0 _ rfl
   have HC := Lib.hid (pack_Raw B b (xs ++ (bytesN x 4).take k) [(d : Int)] (some ⟨wr.heap.size, 0, none⟩) 1 1 _ (hW.call hal) rfl (fun _ => ⟨_, _, rfl, hR1⟩) (by rw [List.length_append, List.length_take]; omega))
   have HBW := Lib.hid (bl_call hbw HH.out.lb hal)
   clear hs hd hat hR1 hal hW hbw
   go_wp2_with (go_at_call 72; refine HC.out.mono ?_; rintro e w3 ⟨rfl, hW3, hb3⟩)
   go_roundw
   case rel => exact ⟨k + 1, by omega, by go_num, by rw [HL.out]; exact hW3, HBW.out.trans hb3⟩
   case measure => simp [intOf]; omega
  ·obtain rfl : k = 4 := by omega
   rw [List.take_of_length_le (by rw [HBL.out]; exact Nat.le_refl _)] at hW
   go_wp2_with fail
   exact end_none Try.results71 rfl ⟨rfl, hW, hbw⟩

set_option maxHeartbeats 4000000 in
theorem pack_Bytes (B b : Nat) (xs : List Int) (w : World) (h : Wr w B b xs) (hn : xs.length ≤ 1000000) :
  Calls Try.prog 74 #[.pointer (some ⟨b, 0, none⟩)] w (RetOB xs w) := by
 obtain ⟨⟨A1, c1, hV, hown, hob⟩, hBb, hBw⟩ := h
 have HOW := Lib.hid hown
 clear hown
 go_enter Try.func74, Try.ntmps74
 obtain ⟨V0, V1, V2⟩ := hV.get1
 have hb1 : Below w.heap.size w (w.alloc (.cells #[] 5)) := (Below.refl _ _).alloc (Nat.le_refl _) _
 have hown0 : (w.alloc (.cells #[] 5)).ownsRow w.heap.size 5 1 (.slice (some ⟨w.heap.size, 0, none⟩) 0 0) 0 (cells8 []) := World.ownsRow_made w #[] 0 (Nat.le_refl _) (by unfold maxLen; omega) rfl
 have HW := Lib.hid hown0
 have HSRC := Lib.hid (own_srcB (own_call HOW.out hb1))
 have hk1 : 0 + xs.length ≤ 1099511627776 := by omega
 clear hown0 hn
 go_wp2_with (at_builtin; (refine wpList_append_B rfl (.tmp 5) (.tmp 9) rfl w.heap.size _ 0 [] rfl HW.out A1 xs.length c1 xs rfl rfl HSRC.out hk1 (by simp) ?_; intro v2 w2 hown2 hg2 hat2; have hb2 : Below w.heap.size w w2 := hb1.trans ((Below.refl _ _).grown hg2 (by simp) (fun k hk => Nat.le_of_eq (Option.some.inj hk))); rw [Nat.zero_add, List.nil_append] at hown2; obtain ⟨g2, cap2, hv2⟩ := own_shape hown2; subst hv2))
 go_ret
 exact ⟨g2, cap2, rfl, hown2, hb2⟩

section
variable {f : Nat} (hf : IsF f)
include hf

set_option maxHeartbeats 4000000 in
theorem field_VecO (vl : Value) (l : KL f) (w : World) (hl : SlK w w.heap.size vl l) (hn : l.length ≤ 1000000) :
  Calls Try.prog 73 #[.int .u8 f, vl] w (RetOB (vecB l) w) := by
 obtain ⟨A, c, rfl, hc, hcm, hA⟩ := hl
 have HBY := Lib.hid (fun (x : Fin (Pm f)) wz => field_Bytes hf x wz)
 have hfb0 : (1 : Int) ≤ (f : Int) := by rcases hf.or with rfl | rfl <;> omega
 have hfb1 : (f : Int) ≤ 2 := by rcases hf.or with rfl | rfl <;> omega
 have hsk : sizeK f ≤ 16 ∧ 1 ≤ sizeK f := by unfold sizeK; split <;> omega
 obtain ⟨S, hS⟩ : ∃ S, sizeK f = S := ⟨_, rfl⟩
 rw [hS] at HBY hsk
 have HS := Lib.hid hS
 clear hS
 go_enter Try.func73, Try.ntmps73
 go_wp2_with fail
 go_loopw [5, 10] (fun v5 i wr => ∃ (k : Nat) (A' : Option Addr) (m cp : Nat), k ≤ l.length ∧ i = .int .i64 k ∧ v5 = .slice A' m cp ∧ m ≤ 16 * k ∧ Hid ((vecB (l.take k)).length = m) ∧ wr.ownsRow w.heap.size 5 1 (.slice A' m cp) m (cells8 (vecB (l.take k))) ∧ Below w.heap.size w wr) (fun _ i _ => l.length - (intOf i).toNat)
 case atStart => exact ⟨0, none, 0, 0, Nat.zero_le _, rfl, rfl, by omega, (by rw [List.take_zero]; rfl : (vecB (l.take 0)).length = 0), World.ownsRow_nil _ _ _ _, Below.refl _ _⟩
 case round =>
  obtain ⟨k, A', m, cp, hk, rfl, rfl, hm, hml, hown, hbw⟩ := hrel
  by_cases hlt : k < l.length
  ·obtain ⟨b, o, rfl, hB, hr⟩ := hA (by omega)
   obtain ⟨x, he⟩ : ∃ e, l[k]? = some e := ⟨_, List.getElem?_eq_getElem hlt⟩
   obtain ⟨d0, d1⟩ := (hr.below hbw hB).kat he
   have HV : Hid (vecB (l.take (k + 1)) = vecB (l.take k) ++ bytesK x) := by
    show vecB (l.take (k + 1)) = _
    unfold vecB
    rw [List.take_add_one, he, List.flatMap_append]
    simp
   have HXL : Hid ((bytesK x).length = S) := by show (bytesK x).length = S; rw [bytesK_length, HS.out]
   clear he hr hA
   go_upto_region 5 with fail
   have hz := hbw.size
   have hx := V2.new wr (.int .u64 (lo x)) (.int .u64 (hi x)) 99
   have hbA : Below wr.heap.size wr (wr.alloc (.cells #[.int .u64 (lo x), .int .u64 (hi x)] 99)) := by repeat (first | exact bA | with_reducible assumption | apply bB)
   replace hbw := bl_call hbw (Nat.le_refl _) hbA
   replace hown := own_call hown hbA
   clear hbA
   generalize wr.alloc (.cells #[.int .u64 (lo x), .int .u64 (hi x)] 99) = w4 at hbw hown hx ⊢
   obtain ⟨x0, x1, x2, x3, x4⟩ := V2.mk hx.c0 hx.c1 hx.f0 hx.f1 hx.lt
   generalize vecB (l.take k) = zs at *
   have hz4 := hbw.size
   go_wp2_with (first
    | (go_at_call 106; refine (HBY.out x _).mono ?_; rintro e w5 ⟨g, rfl, hg, hgl, hb5⟩; have hbw5 := bl_call hbw (Nat.le_refl _) hb5; have HOW := Lib.hid (own_call hown hb5); have hbase : w.heap.size ≤ w5.heap.size := hbw5.size; have HR1 : Hid (0 < S → ∃ b o, (some ⟨g, 0, none⟩ : Option Addr) = some ⟨b, o, none⟩ ∧ RowB w5 b o (bytesK x)) := (fun _ => ⟨g, 0, rfl, fun i e hi => by rw [Nat.zero_add]; exact hg.cell i _ (cells8_at hi)⟩); have hk1 : m + S ≤ 1099511627776 := by omega)
    | (at_builtin; (refine wpList_append_B rfl (.tmp 14) (.tmp 17) rfl w.heap.size _ m zs rfl HOW.out (some ⟨g, 0, none⟩) S S (bytesK x) rfl HXL.out HR1.out hk1 hbase ?_; intro v2 w7 hown7 hg7 hat7; have hb7 : Below w.heap.size w5 w7 := (Below.refl _ _).grown hg7 hbase (fun q hq => (HOW.out.lt q hq).1); obtain ⟨g2, cap2, hv2⟩ := own_shape hown7; rw [hv2])))
   rw [hv2, ← HV.out] at hown7
   go_roundw
   case rel => exact ⟨k + 1, _, m + S, cap2, by omega, by go_num, rfl, by omega, (by rw [HV.out, List.length_append, HXL.out, hml.out] : (vecB (l.take (k + 1))).length = m + S), hown7, hbw5.trans hb7⟩
   case measure => simp [intOf]; omega
  ·obtain rfl : k = l.length := by omega
   rw [List.take_length] at hml hown
   go_wp2_with fail
   go_ret
   have hml9 := hml.out
   subst hml9
   exact ⟨_, _, rfl, hown, hbw⟩
end

end Go.Proofs.Ytbakkmfjamcbfaa

namespace Go.Proofs.Ytbakkmfjamcbfaa
open Go.RowKit Fm
set_option linter.unusedVariables false
set_option maxRecDepth 100000

def putB {f : Nat} (N : Nat) (K : List Int) (S : KL f) : List Int := bytesN N 4 ++ (K ++ vecB S)

theorem Vs.rowK {w : World} {b : Nat} {v : Value} {m : Int} {k : List Int} (h : Vs w b (totL v m k)) : RowB w b 2 k := fun i e hi => by
 have hlt : i < k.length := (List.getElem?_eq_some_iff.1 hi).1
 have h1 := (h.totK hlt).1
 rw [List.getD_eq_getElem?_getD, hi] at h1
 exact h1

theorem own_lower {w : World} {B B' : Nat} {e : TypeId} {size : Nat} {v : Value} {n : Nat} {xs : List Value} (h : w.ownsRow B e size v n xs) (hb : B' ≤ B) : w.ownsRow B' e size v n xs :=
 ⟨h.1, h.2.imp id fun ⟨g, cap, cur, h1, h2, h3⟩ => ⟨g, cap, cur, h1, Nat.le_trans hb h2, h3⟩⟩

section
variable {f : Nat} (hf : IsF f)
include hf

set_option maxHeartbeats 4000000 in
theorem total_Put (k b l m c p : Int) (s : ByteArray) (vx : Value) (S : KL f) (N : Nat) (K : List Int) (w : World) (hx : SlK w w.heap.size vx S) (hS : S.length ≤ 1000) (hN : N ≤ 1000000) (hK : K.length = 16) :
  Calls Try.prog 39 #[.agg (totL vx (N : Int) K).toArray, .agg #[.int .u8 k, .int .u8 f, .int .i64 b, .int .i64 l, .int .i64 m, .int .i64 c, .int .i64 p, .string s]] w (RetOB (putB N K S) w) := by
 have hfb0 : (1 : Int) ≤ (f : Int) := by rcases hf.or with rfl | rfl <;> omega
 have hfb1 : (f : Int) ≤ 2 := by rcases hf.or with rfl | rfl <;> omega
 have hsk : sizeK f ≤ 16 ∧ 1 ≤ sizeK f := by unfold sizeK; split <;> omega
 have HVL : Hid ((vecB S).length ≤ 16000) := by
  show (vecB S).length ≤ 16000
  rw [vecB_length]
  calc S.length * sizeK f ≤ 1000 * 16 := Nat.mul_le_mul hS hsk.1
   _ = 16000 := rfl
 have HS9 := Lib.hid hS
 have HK := Lib.hid hK
 have HX := Lib.hid hx
 have hwN : IntKind.u64.wrap (N : Int) = (N : Int) := IntWalk.u64_in _ (by omega)
 clear hS hsk hx
 go_enter Try.func39, Try.ntmps39
 go_upto_region 1 with fail
 have hX := (Vs.new w (totL vx (N : Int) K) ((totL vx (N : Int) K).toArray) 76 rfl).alloc (.cells #[.int .u8 k, .int .u8 f, .int .i64 b, .int .i64 l, .int .i64 m, .int .i64 c, .int .i64 p, .string s] 62)
 have hT := Vs.new (w.alloc (.cells (totL vx (N : Int) K).toArray 76)) [.int .u8 k, .int .u8 f, .int .i64 b, .int .i64 l, .int .i64 m, .int .i64 c, .int .i64 p, .string s] #[.int .u8 k, .int .u8 f, .int .i64 b, .int .i64 l, .int .i64 m, .int .i64 c, .int .i64 p, .string s] 62 rfl
 simp only [World.size_alloc] at hT
 have hb00 : Below w.heap.size w ((w.alloc (.cells (totL vx (N : Int) K).toArray 76)).alloc (.cells #[.int .u8 k, .int .u8 f, .int .i64 b, .int .i64 l, .int .i64 m, .int .i64 c, .int .i64 p, .string s] 62)) := by repeat (first | exact bA | with_reducible assumption | apply bB)
 have hszn : w.heap.size + 2 ≤ ((w.alloc (.cells (totL vx (N : Int) K).toArray 76)).alloc (.cells #[.int .u8 k, .int .u8 f, .int .i64 b, .int .i64 l, .int .i64 m, .int .i64 c, .int .i64 p, .string s] 62)).heap.size := by simp only [World.size_alloc]; omega
 generalize ((w.alloc (.cells (totL vx (N : Int) K).toArray 76)).alloc (.cells #[.int .u8 k, .int .u8 f, .int .i64 b, .int .i64 l, .int .i64 m, .int .i64 c, .int .i64 p, .string s] 62)) = w1 at hX hT hb00 hszn ⊢
 have hW1 : Wr (w1.alloc (.cells #[.slice none 0 0] 156)) w1.heap.size w1.heap.size [] := ⟨⟨none, 0, Vs.new w1 _ _ 156 rfl, World.ownsRow_nil _ _ _ _, fun g h => by cases h⟩, Nat.le_refl _, by simp⟩
 have hbA := (Below.refl w1.heap.size w1).alloc (Nat.le_refl _) (.cells #[.slice none 0 0] 156)
 go_upto_region 2 with fail
 generalize w1.alloc (.cells #[.slice none 0 0] 156) = w2 at hW1 hbA ⊢
 have hX2 := hX.call hbA
 obtain ⟨x0, x1, x2, x3, x4⟩ := hX2.tot
 go_upto_region 3 with (go_at_call 71; refine (pack_Uint4 w1.heap.size w1.heap.size [] N _ hW1 (by simp)).mono ?_; rintro e w3 ⟨rfl, hW3, hb3⟩)
 rw [List.nil_append] at hW3
 clear x0 x1 x2 x3 x4 hX2 hW1
 have hbB := hbA.trans hb3
 clear hbA hb3
 have hX3 := hX.call hbB
 have hr3 := hX3.rowK
 obtain ⟨x0, x1, x2, x3, x4⟩ := hX3.tot
 have HR3 := Lib.hid (fun (_ : 0 < 16) => (⟨w.heap.size, 2, rfl, hr3⟩ : ∃ b o, (some ⟨w.heap.size, 2, none⟩ : Option Addr) = some ⟨b, o, none⟩ ∧ RowB w3 b o K))
 have HRW := Lib.hid (pack_Raw w1.heap.size w1.heap.size _ K (some ⟨w.heap.size, 2, none⟩) 16 16 w3 hW3 HK.out HR3.out (by rw [bytesN_length]; omega))
 clear hr3 hW3
 go_upto_region 4 with (go_at_call 72; refine HRW.out.mono ?_; rintro e w4 ⟨rfl, hW4, hb4⟩)
 clear x0 x1 x2 x3 x4 hX3
 have hbC := hbB.trans hb4
 clear hbB hb4
 have hX4 := hX.call hbC
 have hT4 := hT.call hbC
 have HX4 := HX.out.later (hb00.trans (hbC.mono hb00.size))
 obtain ⟨x0, x1, x2, x3, x4⟩ := hX4.tot
 obtain ⟨⟨T40, T41, T42, T43, T44, T45, T46, T47⟩, ⟨T48, T49, T410, T411, T412, T413, T414, T415⟩, T416⟩ := hT4.get8
 have HVE := Lib.hid (field_VecO hf vx S w4 HX4 (by have := HS9.out; omega))
 have HW4 := Lib.hid hW4
 have HBC := Lib.hid hbC
 have HB00 := Lib.hid hb00
 clear hb00 hbC
 clear hW4 hX hT HX4 hX4
 have HNX : Hid (∀ (A : Option Addr) (cc : Nat) wz, wz.ownsRow w4.heap.size 5 1 (.slice A (vecB S).length cc) (vecB S).length (cells8 (vecB S)) → Below w4.heap.size w4 wz → Calls Try.prog 72 #[.pointer (some ⟨w1.heap.size, 0, none⟩), .slice A (vecB S).length cc] wz fun e w' => e = .returned (.tuple #[]) ∧ Wr w' w1.heap.size w1.heap.size (putB N K S) ∧ Below w1.heap.size wz w') := Lib.hid fun A cc wz h1 h2 => (pack_Raw w1.heap.size w1.heap.size _ (vecB S) A (vecB S).length cc wz (HW4.out.call h2) rfl (own_srcB h1) (by rw [List.length_append, bytesN_length, HK.out]; have := HVL.out; omega)).mono fun e w' ⟨he, h3, h4⟩ => ⟨he, by unfold putB; rw [← List.append_assoc]; exact h3, h4⟩
 have HPL : Hid ((putB N K S).length ≤ 1000000) := by
  show (putB N K S).length ≤ 1000000
  unfold putB
  rw [List.length_append, List.length_append, bytesN_length, HK.out]
  have := HVL.out
  omega
 clear hwN
 go_upto_region 5 with (first
  | (go_at_call 73; refine HVE.out.mono ?_; rintro e w5 ⟨A5, c5, rfl, ho5, hb5⟩; have HN5 := Lib.hid (HNX.out A5 c5 w5 ho5 hb5); have HB5 := Lib.hid (HBC.out.trans (hb5.mono HBC.out.size)); clear HNX HVE ho5 hb5 x0 x1 x2 x3 x4; clear T40 T41 T42 T43 T44 T45 T46 T47 T48 T49 T410 T411 T412 T413 T414 T415 T416)
  | (go_at_call 72; refine HN5.out.mono ?_; rintro e w6 ⟨rfl, hW6, hb6⟩))
 have HBY := Lib.hid (pack_Bytes w1.heap.size w1.heap.size _ w6 hW6 HPL.out)
 have HB6 := Lib.hid (HB00.out.trans ((HB5.out.trans hb6).mono HB00.out.size))
 clear hb6 hW6
 go_wp2_with (go_at_call 74; refine HBY.out.mono ?_; rintro e w7 ⟨A7, c7, rfl, ho7, hb7⟩)
 go_ret
 exact ⟨A7, c7, rfl, own_lower ho7 HB6.out.size, bl_call HB6.out (Nat.le_refl _) hb7⟩
end

end Go.Proofs.Ytbakkmfjamcbfaa

namespace Go.Proofs.Ytbakkmfjamcbfaa
open Go.RowKit Fm
set_option linter.unusedVariables false
set_option maxRecDepth 100000

def valB : List Int → Nat
 | [] => 0
 | b :: l => b.toNat + 256 * valB l
theorem valB_snoc (l : List Int) (b : Int) : valB (l ++ [b]) = valB l + b.toNat * 256 ^ l.length := by
 induction l with
 | nil => simp [valB]
 | cons a l ih =>
  show a.toNat + 256 * valB (l ++ [b]) = a.toNat + 256 * valB l + b.toNat * 256 ^ (l.length + 1)
  rw [ih, Nat.mul_add, Nat.pow_succ, Nat.add_assoc]
  have : 256 * (b.toNat * 256 ^ l.length) = b.toNat * (256 ^ l.length * 256) := by rw [Nat.mul_left_comm, Nat.mul_comm (256 ^ l.length)]
  rw [this]
theorem valB_lt (l : List Int) (h : B8 l) : valB l < 256 ^ l.length := by
 induction l with
 | nil => simp [valB]
 | cons a l ih =>
  have h1 := ih fun x hx => h x (List.mem_cons_of_mem _ hx)
  have h2 := h a (List.mem_cons_self ..)
  show a.toNat + 256 * valB l < 256 ^ (l.length + 1)
  rw [Nat.pow_succ]
  omega
theorem valB_take (l : List Int) (i : Nat) (b : Int) (h : l[i]? = some b) : valB (l.take (i + 1)) = valB (l.take i) + b.toNat * 2 ^ (8 * i) := by
 have hlt : i < l.length := (List.getElem?_eq_some_iff.1 h).1
 rw [List.take_add_one, h, Option.toList_some, valB_snoc, List.length_take, Nat.min_eq_left (by omega), show (256 : Nat) = 2 ^ 8 from rfl, ← Nat.pow_mul]
theorem valB_bytesN (n : Nat) : ∀ x, x < 256 ^ n → valB (bytesN x n) = x := by
 intro x hx
 have key : ∀ i, i ≤ n → valB ((bytesN x n).take i) = x % 256 ^ i := by
  intro i
  induction i with
  | zero => intro _; simp [valB, Nat.mod_one]
  | succ i ih =>
   intro hi
   rw [valB_take _ i _ (bytesN_at x n i (by omega)), ih (by omega), Nat.pow_succ, Nat.mod_mul, Int.toNat_natCast, byteN_256, Nat.pow_mul, show (2 : Nat) ^ 8 = 256 from rfl, Nat.mul_comm]
 have h := key n (Nat.le_refl _)
 rwa [List.take_of_length_le (by rw [bytesN_length]; exact Nat.le_refl _), Nat.mod_eq_of_lt hx] at h
theorem or_byte (a s : Nat) (c : Int) (ha : a < 2 ^ s) (hc : 0 ≤ c ∧ c ≤ 255) (hs : s ≤ 56) : bits BinOp.or IntKind.u64 (a : Int) (IntKind.u64.wrap (c * 2 ^ s)) = ((a + c.toNat * 2 ^ s : Nat) : Int) := by
 obtain ⟨n, rfl⟩ := Int.eq_ofNat_of_zero_le hc.1
 have hp : (2 : Nat) ^ s ≤ 2 ^ 56 := Nat.pow_le_pow_right (by omega) hs
 have e56 : (2 : Nat) ^ 56 = 72057594037927936 := rfl
 have h1 : n * 2 ^ s ≤ 255 * 2 ^ s := Nat.mul_le_mul_right _ (by omega)
 have hw : IntKind.u64.wrap (((n : Nat) : Int) * 2 ^ s) = ((n * 2 ^ s : Nat) : Int) := by
  have e : ((n : Nat) : Int) * 2 ^ s = ((n * 2 ^ s : Nat) : Int) := by rw [Int.natCast_mul, Int.natCast_pow]; rfl
  rw [e]
  exact IntWalk.u64_in _ (by omega)
 rw [hw, u64_or_nat _ _ (by omega) (by omega), Nat.or_comm, ← Nat.shiftLeft_eq, ← Nat.shiftLeft_add_eq_or_of_lt ha, Int.toNat_natCast, Nat.shiftLeft_eq, Nat.add_comm]

theorem list8 {l : List Int} (h : l.length = 8) : ∃ b0 b1 b2 b3 b4 b5 b6 b7, l = [b0, b1, b2, b3, b4, b5, b6, b7] := by
 match l, h with
 | [b0, b1, b2, b3, b4, b5, b6, b7], _ => exact ⟨_, _, _, _, _, _, _, _, rfl⟩

set_option maxHeartbeats 4000000 in
theorem gold_Take (bs : List Int) (hl : bs.length = 8) (h8 : B8 bs) (w : World) :
  Calls Try.prog 124 #[.agg (cells8 bs).toArray] w fun e w' => ∃ (v : Nat) (c : Int), e = .returned (.tuple #[.int .u64 (v : Int), .int .i64 c]) ∧ Below w.heap.size w w' ∧ (valB bs < 18446744069414584321 ∧ c = 0 ∧ v = valB bs ∨ ¬ valB bs < 18446744069414584321 ∧ c = 7 ∧ v = 0) := by
 have hlt := valB_lt bs h8
 rw [hl] at hlt
 have hlt2 : valB bs < 18446744073709551616 := hlt
 have HIN := Lib.hid (gold_In ((valB bs : Nat) : Int) · (by omega) (by omega))
 have hidx : ∀ k : Nat, k < 8 → ∀ w, (Instr.index 205 (.agg (cells8 bs).toArray) (.int .i64 (k : Int))).run Try.prog w = .ok (.int .u8 (bs.getD k 0)) w := by
  obtain ⟨b0, b1, b2, b3, b4, b5, b6, b7, rfl⟩ := list8 hl
  intro k hk w
  obtain rfl | rfl | rfl | rfl | rfl | rfl | rfl | rfl : k = 0 ∨ k = 1 ∨ k = 2 ∨ k = 3 ∨ k = 4 ∨ k = 5 ∨ k = 6 ∨ k = 7 := by omega
  all_goals kernel_rfl
 have HLD : Hid (∀ wz bk, Vs wz bk (cells8 bs) → (Instr.loadAt 205 (.pointer (some ⟨bk, 0, none⟩))).run Try.prog wz = .ok (.agg (cells8 bs).toArray) wz) := by
  obtain ⟨b0, b1, b2, b3, b4, b5, b6, b7, rfl⟩ := list8 hl
  intro wz bk h
  exact load_b8 h
 have HIDX := Lib.hid hidx
 have HL := Lib.hid hl
 have H8 := Lib.hid h8
 clear hlt hidx hl h8
 go_enter Try.func124, Try.ntmps124
 go_upto_region 1 with fail
 have hx := Vs.new w (cells8 bs) ((cells8 bs).toArray) 205 rfl
 have hb00 : Below w.heap.size w (w.alloc (.cells (cells8 bs).toArray 205)) := by repeat (first | exact bA | with_reducible assumption | apply bB)
 have hszn : w.heap.size + 1 ≤ (w.alloc (.cells (cells8 bs).toArray 205)).heap.size := by simp only [World.size_alloc]; omega
 generalize (w.alloc (.cells (cells8 bs).toArray 205)) = w1 at hx hb00 hszn ⊢
 go_upto_region 2 with fail
 refine wp_region_lit ?_
 refine wpList_valD (some 7) rfl rfl (exec_load rfl (by kernel_rfl) (HLD.out _ _ hx)) ?_
 simp only [Zp, Zq, Zr, Zs]
 refine wpList_valD (some 8) rfl rfl (by (go_simp; first | with_reducible rfl | exact ⟨rfl, rfl⟩ | (trace_state; fail))) ?_
 simp only [Zp, Zq, Zr, Zs]
 clear hx HLD
 go_wp2_with fail
 go_loopw [4, 8] (fun v4 v8 wr => ∃ k : Nat, k ≤ 8 ∧ v8 = .int .i64 k ∧ v4 = .int .u64 ((valB (bs.take k) : Nat) : Int) ∧ wr = w1) (fun _ v8 _ => 8 - (intOf v8).toNat)
 case atStart => exact ⟨0, by omega, rfl, rfl, rfl⟩
 case round =>
  obtain ⟨k, hk, rfl, rfl, rfl⟩ := hrel
  by_cases hlt : k < 8
  ·have hi := HIDX.out k hlt
   have hat : bs[k]? = some (bs.getD k 0) := by rw [List.getD_eq_getElem?_getD, List.getElem?_eq_getElem (by rw [HL.out]; exact hlt)]; rfl
   obtain ⟨r0, r1⟩ := H8.out _ (List.mem_of_getElem? hat)
   have ha := valB_lt (bs.take k) (fun x hx => H8.out x (List.mem_of_mem_take hx))
   rw [List.length_take, HL.out, Nat.min_eq_left hk, show (256 : Nat) = 2 ^ 8 from rfl, ← Nat.pow_mul] at ha
   have HV := Lib.hid (valB_take bs k _ hat)
   generalize valB (bs.take k) = a at *
   generalize bs.getD k 0 = c at *
   obtain ⟨s, hs⟩ : ∃ s, 8 * k = s := ⟨_, rfl⟩
   rw [hs] at HV ha
   have hsi : (8 : Int) * (k : Int) = (s : Int) := by omega
   have hs64 : s ≤ 56 := by omega
   have hs0 : (0 : Int) ≤ (s : Int) := by omega
   have hor := or_byte a s c ha ⟨r0, r1⟩ hs64
   have hw8 : IntKind.i64.wrap (s : Int) = (s : Int) := IntWalk.i64_in _ (by omega)
   obtain ⟨d, hd⟩ : ∃ d, a + c.toNat * 2 ^ s = d := ⟨_, rfl⟩
   rw [hd] at hor
   have HD : Hid (valB (bs.take (k + 1)) = d) := Lib.hid (HV.out.trans hd)
   clear hs hd hat ha HV
   go_wp2_with fail
   go_roundw
   case rel => exact ⟨k + 1, by omega, by go_num, by rw [HD.out], trivial⟩
   case measure => simp [intOf]; omega
  ·obtain rfl : k = 8 := by omega
   rw [List.take_of_length_le (by rw [HL.out]; exact Nat.le_refl _)]
   have HB := Lib.hid hb00
   by_cases hp : valB bs < 18446744069414584321
   ·have hd : decide (((valB bs : Nat) : Int) < 18446744069414584321) = true := decide_eq_true (by omega)
    rw [hd] at HIN
    have HP := Lib.hid hp
    clear hp hd hlt2
    go_wp2_with (go_at_call 120; refine (HIN.out _).mono ?_; rintro e w3 ⟨rfl, rfl⟩)
    go_ret2
    exact ⟨_, _, rfl, HB.out, .inl ⟨HP.out, rfl, rfl⟩⟩
   ·have hd : decide (((valB bs : Nat) : Int) < 18446744069414584321) = false := decide_eq_false (by omega)
    rw [hd] at HIN
    have HP := Lib.hid hp
    clear hp hd hlt2
    go_wp2_with (go_at_call 120; refine (HIN.out _).mono ?_; rintro e w3 ⟨rfl, rfl⟩)
    go_ret2
    exact ⟨0, _, rfl, HB.out, .inr ⟨HP.out, rfl, rfl⟩⟩

end Go.Proofs.Ytbakkmfjamcbfaa
