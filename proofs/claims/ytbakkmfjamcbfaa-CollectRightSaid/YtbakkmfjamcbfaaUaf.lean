/-
 CrA, CrB, CrC, CrD, CrH: for CollectRight.
-/
import Derived.BigQuiet
import Derived.Test.YtbakkmfjamcbfaaUae
namespace Go.Proofs.Ytbakkmfjamcbfaa
open Go.RowKit Fm
set_option linter.unusedVariables false
set_option maxRecDepth 100000

def askL (num start : Int) (has : Bool) (v : Value) (m : Int) (k : List Int) (due wait : Int) : List Value := [.int .u64 num, .int .u64 start, .bool has] ++ totL v m k ++ [.int .u64 due, .int .u64 wait]
section
variable {w : World} {b : Nat} {num start m due wait : Int} {has : Bool} {v : Value} {k : List Int}
theorem askL_length (hk : k.length = 16) : (askL num start has v m k due wait).length = 23 := by
 unfold askL
 rw [List.length_append, List.length_append, totL_length v m hk]
 rfl
theorem Vs.askC (hk : k.length = 16) (h : Vs w b (askL num start has v m k due wait)) : w.cell? ⟨b, 0, none⟩ = some (.int .u64 num) ∧ w.cell? ⟨b, 1, none⟩ = some (.int .u64 start) ∧ w.cell? ⟨b, 2, none⟩ = some (.bool has) ∧ w.cell? ⟨b, 4, none⟩ = some (.int .i64 m) ∧ w.cell? ⟨b, 21, none⟩ = some (.int .u64 due) ∧ w.cell? ⟨b, 22, none⟩ = some (.int .u64 wait) ∧ b < w.heap.size := by
 have hl : ([Value.int .u64 num, Value.int .u64 start, Value.bool has] ++ totL v m k).length = 21 := by
  rw [List.length_append, totL_length v m hk]
  rfl
 have hz : ∀ (i : Nat) (x : Value), i < 2 → [Value.int .u64 due, .int .u64 wait][i]? = some x → w.cell? ⟨b, 21 + i, none⟩ = some x := fun i x hi hx => h.cell (21 + i) x (by
  unfold askL
  rw [List.getElem?_append_right (by omega), hl, show 21 + i - 21 = i by omega]
  exact hx)
 exact ⟨h.cell 0 _ rfl, h.cell 1 _ rfl, h.cell 2 _ rfl, h.cell 4 _ rfl, hz 0 _ (by omega) rfl, hz 1 _ (by omega) rfl, h.lt⟩
theorem Vs.askF (hk : k.length = 16) (h : Vs w b (askL num start has v m k due wait)) : w.frozen? ⟨b, 2, none⟩ = false ∧ w.frozen? ⟨b, 21, none⟩ = false ∧ w.frozen? ⟨b, 22, none⟩ = false := by
 have hl := askL_length (num := num) (start := start) (has := has) (v := v) (m := m) (due := due) (wait := wait) hk
 exact ⟨h.frz 2 (by omega), h.frz 21 (by omega), h.frz 22 (by omega)⟩
theorem Vs.askDue (hk : k.length = 16) (h : Vs w b (askL num start has v m k due wait)) (x : Int) : Vs (w.setCell ⟨b, 21, none⟩ (.int .u64 x)) b (askL num start has v m k x wait) := by
 have h1 := h.put 21 (by rw [askL_length hk]; omega) (.int .u64 x)
 have h2 : (askL num start has v m k due wait).set 21 (.int .u64 x) = askL num start has v m k x wait := by
  unfold askL
  rw [List.set_append_right _ _ (by rw [List.length_append, totL_length v m hk]; exact Nat.le_refl _), List.length_append, totL_length v m hk]
  rfl
 rwa [h2] at h1
theorem Vs.askWait (hk : k.length = 16) (h : Vs w b (askL num start has v m k due wait)) (x : Int) : Vs (w.setCell ⟨b, 22, none⟩ (.int .u64 x)) b (askL num start has v m k due x) := by
 have h1 := h.put 22 (by rw [askL_length hk]; omega) (.int .u64 x)
 have h2 : (askL num start has v m k due wait).set 22 (.int .u64 x) = askL num start has v m k due x := by
  unfold askL
  rw [List.set_append_right _ _ (by rw [List.length_append, totL_length v m hk]; exact Nat.le_succ _), List.length_append, totL_length v m hk]
  rfl
 rwa [h2] at h1
theorem Vs.askHas (h : Vs w b (askL num start has v m k due wait)) (x : Bool) : Vs (w.setCell ⟨b, 2, none⟩ (.bool x)) b (askL num start x v m k due wait) := h.put 2 (by simp [askL, totL]) (.bool x)
theorem Vs.askCheck (hk : k.length = 16) (h : Vs w b (askL num start has v m k due wait)) : (Instr.loadAt 74 (.pointer (some ⟨b, 5, none⟩))).run Try.prog w = .ok (.agg (cells8 k).toArray) w := by
 have h9 : Vs w b ([.int .u64 num, .int .u64 start, .bool has, v, .int .i64 m] ++ cells8 k ++ [.int .u64 due, .int .u64 wait]) := by
  unfold askL totL at h
  simpa [List.append_assoc] using h
 exact load_P h9 Try.underlying74 rfl (by rw [cells8_length, hk]; exact size_check)
theorem Vs.askTot (hk : k.length = 16) (h : Vs w b (askL num start has v m k due wait)) : (Instr.loadAt 76 (.pointer (some ⟨b, 3, none⟩))).run Try.prog w = .ok (.agg (totL v m k).toArray) w := by
 unfold askL at h
 exact load_P h Try.underlying76 rfl (by rw [totL_length _ _ hk]; exact size_total)
end

theorem build_lt0 (num start : Int) (w : World) : (Instr.build 127 #[(0, .int .i64 0), (1, .agg (msgL 4 num start 0 z16 0 (.slice none 0 0)).toArray)]).run Try.prog w = .ok (.agg (ltL 0 (msgL 4 num start 0 z16 0 (.slice none 0 0))).toArray) w := by kernel_rfl
theorem build_ms4 (num start : Int) (w : World) : (Instr.build 27 #[(0, .int .u8 4), (1, .int .u64 num), (2, .int .u64 start)]).run Try.prog w = .ok (.agg (msgL 4 num start 0 z16 0 (.slice none 0 0)).toArray) w := by kernel_rfl
theorem build_ms5 {k : List Int} (hk : k.length = 16) (num start m : Int) (w : World) : (Instr.build 27 #[(0, .int .u8 5), (1, .int .u64 num), (2, .int .u64 start), (3, .int .i64 m), (4, .agg (cells8 k).toArray)]).run Try.prog w = .ok (.agg (msgL 5 num start m k 0 (.slice none 0 0)).toArray) w := by
 obtain ⟨x0, x1, x2, x3, x4, x5, x6, x7, y0, y1, y2, y3, y4, y5, y6, y7, rfl⟩ := list16 hk
 kernel_rfl
theorem build_lt1 {k : List Int} (hk : k.length = 16) (num start m : Int) (w : World) : (Instr.build 127 #[(0, .int .i64 1), (1, .agg (msgL 5 num start m k 0 (.slice none 0 0)).toArray)]).run Try.prog w = .ok (.agg (ltL 1 (msgL 5 num start m k 0 (.slice none 0 0))).toArray) w := by
 obtain ⟨x0, x1, x2, x3, x4, x5, x6, x7, y0, y1, y2, y3, y4, y5, y6, y7, rfl⟩ := list16 hk
 kernel_rfl
theorem results_lett {w : World} {b : Nat} {L : List Value} {fn : Func} {p : Tmp} {tmps : Array Value} (hL : L.length = 23) (hv : Vs w b L) (h : fn.results = #[.cell p 127]) (hp : tmps.getD p undef = .pointer (some ⟨b, 0, none⟩)) :
  (results fn tmps).run Try.prog w = .ok (.agg L.toArray) w := by
 have hl : (loadVar 127 ⟨b, 0, none⟩).run Try.prog w = _ := loadVar_W hv Try.underlying127 rfl (by rw [hL]; exact size_letter)
 rw [Array.getD_eq_getD_getElem?] at hp
 simp only [results, h]
 simp [asAddr, hp, hl]

def letK (num start : Int) (has : Bool) (m : Int) (k : List Int) : List Value := if has then ltL 1 (msgL 5 num start m k 0 (.slice none 0 0)) else ltL 0 (msgL 4 num start 0 z16 0 (.slice none 0 0))
theorem letK_length {k : List Int} (hk : k.length = 16) (num start : Int) (has : Bool) (m : Int) : (letK num start has m k).length = 23 := by
 unfold letK ltL
 cases has
 ·rw [if_neg (by decide), List.length_cons, msgL_length z16_length]
 ·rw [if_pos rfl, List.length_cons, msgL_length hk]
theorem letK_one {k : List Int} (num start : Int) (has : Bool) (m : Int) : ∀ u, u ∈ letK num start has m k → u.oneCell' = true := by
 intro u hu
 unfold letK ltL at hu
 cases has
 ·rw [if_neg (by decide)] at hu
  rcases List.mem_cons.1 hu with rfl | hu
  ·rfl
  ·exact msgL_one _ _ _ _ _ _ rfl u hu
 ·rw [if_pos rfl] at hu
  rcases List.mem_cons.1 hu with rfl | hu
  ·rfl
  ·exact msgL_one _ _ _ _ _ _ rfl u hu

set_option maxHeartbeats 4000000 in
theorem collect_letG (tk : List Value) (ht : tk.length = 8) (nx : Int) (qv res : Value) (c a : Nat) (num start : Int) (has : Bool) (v : Value) (m : Int) (k : List Int) (hk : k.length = 16) (due wait : Int) (w : World) (hV : Vs w c (colL tk (.pointer (some ⟨a, 0, none⟩)) qv nx res)) (hA : Vs w a (askL num start has v m k due wait)) :
  Calls Try.prog 84 #[.pointer (some ⟨c, 0, none⟩)] w fun e w' => e = .returned (.agg (letK num start has m k).toArray) ∧ Below w.heap.size w w' := by
 cases has with
 | false =>
  have HTK := Lib.hid ht
  have HK := Lib.hid hk
  clear ht hk
  go_enter Try.func84, Try.ntmps84
  go_upto_region 1 with fail
  have hL := Vs.new w [.int .i64 0, .int .u8 0, .int .u64 0, .int .u64 0, .int .i64 0, .int .u8 0, .int .u8 0, .int .u8 0, .int .u8 0, .int .u8 0, .int .u8 0, .int .u8 0, .int .u8 0, .int .u8 0, .int .u8 0, .int .u8 0, .int .u8 0, .int .u8 0, .int .u8 0, .int .u8 0, .int .u8 0, .int .i64 0, .slice none 0 0] #[.int .i64 0, .int .u8 0, .int .u64 0, .int .u64 0, .int .i64 0, .int .u8 0, .int .u8 0, .int .u8 0, .int .u8 0, .int .u8 0, .int .u8 0, .int .u8 0, .int .u8 0, .int .u8 0, .int .u8 0, .int .u8 0, .int .u8 0, .int .u8 0, .int .u8 0, .int .u8 0, .int .u8 0, .int .i64 0, .slice none 0 0] 127 rfl
  have hb00 : Below w.heap.size w (w.alloc (.cells #[.int .i64 0, .int .u8 0, .int .u64 0, .int .u64 0, .int .i64 0, .int .u8 0, .int .u8 0, .int .u8 0, .int .u8 0, .int .u8 0, .int .u8 0, .int .u8 0, .int .u8 0, .int .u8 0, .int .u8 0, .int .u8 0, .int .u8 0, .int .u8 0, .int .u8 0, .int .u8 0, .int .u8 0, .int .i64 0, .slice none 0 0] 127)) := by repeat (first | exact bA | with_reducible assumption | apply bB)
  have hszn : w.heap.size + 1 ≤ (w.alloc (.cells #[.int .i64 0, .int .u8 0, .int .u64 0, .int .u64 0, .int .i64 0, .int .u8 0, .int .u8 0, .int .u8 0, .int .u8 0, .int .u8 0, .int .u8 0, .int .u8 0, .int .u8 0, .int .u8 0, .int .u8 0, .int .u8 0, .int .u8 0, .int .u8 0, .int .u8 0, .int .u8 0, .int .u8 0, .int .i64 0, .slice none 0 0] 127)).heap.size := by simp only [World.size_alloc]; omega
  generalize (w.alloc (.cells #[.int .i64 0, .int .u8 0, .int .u64 0, .int .u64 0, .int .i64 0, .int .u8 0, .int .u8 0, .int .u8 0, .int .u8 0, .int .u8 0, .int .u8 0, .int .u8 0, .int .u8 0, .int .u8 0, .int .u8 0, .int .u8 0, .int .u8 0, .int .u8 0, .int .u8 0, .int .u8 0, .int .u8 0, .int .i64 0, .slice none 0 0] 127)) = w1 at hL hb00 hszn ⊢
  replace hV := hV.call hb00
  replace hA := hA.call hb00
  obtain ⟨c8, c9, c10, c11, f8, f9, f10, hcl⟩ := hV.col HTK.out
  obtain ⟨a0, a1, a2, a4, a21, a22, hal⟩ := hA.askC HK.out
  go_upto_region 3 with fail
  refine region_G (n := 10) (m := 11) (f := 10) (by kernel_rfl) (by kernel_rfl) rfl ?_
  refine WpG.vD 0 (some 13) ?_ rfl rfl (by kernel_rfl) (fun _ _ _ h => h) rfl (fun wz hwz => ?_) ?_
  rotate_left
  ·go_simp; try (with_reducible rfl)
  simp only [Zp, Zq, Zr, Zs]
  refine WpG.vD 1 (some 14) ?_ rfl rfl (by kernel_rfl) (fun _ _ _ h => h) rfl (fun wz hwz => ?_) ?_
  rotate_left
  ·go_simp; try (with_reducible rfl)
  simp only [Zp, Zq, Zr, Zs]
  refine WpG.vD 2 (some 15) ?_ rfl rfl (by kernel_rfl) (fun _ _ _ h => h) rfl (fun wz hwz => ?_) ?_
  rotate_left
  ·go_simp; try (with_reducible rfl)
  simp only [Zp, Zq, Zr, Zs]
  refine WpG.vD 3 (some 16) ?_ rfl rfl (by kernel_rfl) (fun _ _ _ h => h) rfl (fun wz hwz => ?_) ?_
  rotate_left
  ·(obtain ⟨hcz, hfz⟩ := bcell (hwz); go_simp; try (with_reducible rfl))
  simp only [Zp, Zq, Zr, Zs]
  refine WpG.vD 4 (some 17) ?_ rfl rfl (by kernel_rfl) (fun _ _ _ h => h) rfl (fun wz hwz => ?_) ?_
  rotate_left
  ·go_simp; try (with_reducible rfl)
  simp only [Zp, Zq, Zr, Zs]
  refine WpG.vD 5 (some 18) ?_ rfl rfl (by kernel_rfl) (fun _ _ _ h => h) rfl (fun wz hwz => ?_) ?_
  rotate_left
  ·go_simp; try (with_reducible rfl)
  simp only [Zp, Zq, Zr, Zs]
  refine WpG.vD 6 (some 19) ?_ rfl rfl (by kernel_rfl) (fun _ _ _ h => h) rfl (fun wz hwz => ?_) ?_
  rotate_left
  ·go_simp; try (with_reducible rfl)
  simp only [Zp, Zq, Zr, Zs]
  refine WpG.vD 7 (some 20) ?_ rfl rfl (by kernel_rfl) (fun _ _ _ h => h) rfl (fun wz hwz => ?_) ?_
  rotate_left
  ·(obtain ⟨hcz, hfz⟩ := bcell (hwz); go_simp; try (with_reducible rfl))
  simp only [Zp, Zq, Zr, Zs]
  refine WpG.vD 8 (some 21) ?_ rfl rfl (by kernel_rfl) (fun _ _ _ h => h) rfl (fun wz hwz => ?_) ?_
  rotate_left
  ·(refine Eq.trans (exec_build rfl (by kernel_rfl) (build_ms4 num start wz)) ?_; with_reducible rfl)
  simp only [Zp, Zq, Zr, Zs]
  refine WpG.vD 9 (some 22) ?_ rfl rfl (by kernel_rfl) (fun _ _ _ h => h) rfl (fun wz hwz => ?_) ?_
  rotate_left
  ·(refine Eq.trans (exec_build rfl (by kernel_rfl) (build_lt0 num start wz)) ?_; with_reducible rfl)
  simp only [Zp, Zq, Zr, Zs]
  refine WpG.done (by kernel_rfl) (fun w4 hw4 => ?_)
  (try simp only [List.drop_succ_cons]); (try simp only [List.drop_zero]); (try simp only [Nat.reduceSub]); (try simp only [List.take_succ_cons]); (try simp only [List.take_zero])
  have hLw := hL.call hw4
  have hb4 := hb00.trans (hw4.mono hb00.size)
  have hst := store_W (T := 127) hLw (l' := letK num start false m k) (by rw [letK_length HK.out]; rfl) (by rw [letK_length HK.out]; exact size_letter) (letK_one _ _ _ _)
  have HR := Lib.hid (hLw.setW (l' := letK num start false m k) (by rw [letK_length HK.out]; rfl))
  have HB := Lib.hid (bl_setCells hb4 (b := w.heap.size) (Nat.le_refl _) 0 (letK num start false m k))
  clear hL hb00 hV hA hLw hb4 hw4 c8 c9 c10 c11 f8 f9 f10 hcl a0 a1 a2 a4 a21 a22 hal
  refine wpList_skipD rfl rfl (exec_store rfl (by kernel_rfl) (by kernel_rfl) hst) ?_
  clear hst
  go_upto_region 99 with fail
  exact bodyPost_ret (results_lett (b := w.heap.size) (letK_length HK.out _ _ _ _) HR.out rfl rfl) rfl ⟨rfl, HB.out⟩
 | true =>
  have HTK := Lib.hid ht
  have HK := Lib.hid hk
  clear ht hk
  go_enter Try.func84, Try.ntmps84
  go_upto_region 1 with fail
  have hL := Vs.new w [.int .i64 0, .int .u8 0, .int .u64 0, .int .u64 0, .int .i64 0, .int .u8 0, .int .u8 0, .int .u8 0, .int .u8 0, .int .u8 0, .int .u8 0, .int .u8 0, .int .u8 0, .int .u8 0, .int .u8 0, .int .u8 0, .int .u8 0, .int .u8 0, .int .u8 0, .int .u8 0, .int .u8 0, .int .i64 0, .slice none 0 0] #[.int .i64 0, .int .u8 0, .int .u64 0, .int .u64 0, .int .i64 0, .int .u8 0, .int .u8 0, .int .u8 0, .int .u8 0, .int .u8 0, .int .u8 0, .int .u8 0, .int .u8 0, .int .u8 0, .int .u8 0, .int .u8 0, .int .u8 0, .int .u8 0, .int .u8 0, .int .u8 0, .int .u8 0, .int .i64 0, .slice none 0 0] 127 rfl
  have hb00 : Below w.heap.size w (w.alloc (.cells #[.int .i64 0, .int .u8 0, .int .u64 0, .int .u64 0, .int .i64 0, .int .u8 0, .int .u8 0, .int .u8 0, .int .u8 0, .int .u8 0, .int .u8 0, .int .u8 0, .int .u8 0, .int .u8 0, .int .u8 0, .int .u8 0, .int .u8 0, .int .u8 0, .int .u8 0, .int .u8 0, .int .u8 0, .int .i64 0, .slice none 0 0] 127)) := by repeat (first | exact bA | with_reducible assumption | apply bB)
  have hszn : w.heap.size + 1 ≤ (w.alloc (.cells #[.int .i64 0, .int .u8 0, .int .u64 0, .int .u64 0, .int .i64 0, .int .u8 0, .int .u8 0, .int .u8 0, .int .u8 0, .int .u8 0, .int .u8 0, .int .u8 0, .int .u8 0, .int .u8 0, .int .u8 0, .int .u8 0, .int .u8 0, .int .u8 0, .int .u8 0, .int .u8 0, .int .u8 0, .int .i64 0, .slice none 0 0] 127)).heap.size := by simp only [World.size_alloc]; omega
  generalize (w.alloc (.cells #[.int .i64 0, .int .u8 0, .int .u64 0, .int .u64 0, .int .i64 0, .int .u8 0, .int .u8 0, .int .u8 0, .int .u8 0, .int .u8 0, .int .u8 0, .int .u8 0, .int .u8 0, .int .u8 0, .int .u8 0, .int .u8 0, .int .u8 0, .int .u8 0, .int .u8 0, .int .u8 0, .int .u8 0, .int .i64 0, .slice none 0 0] 127)) = w1 at hL hb00 hszn ⊢
  replace hV := hV.call hb00
  replace hA := hA.call hb00
  obtain ⟨c8, c9, c10, c11, f8, f9, f10, hcl⟩ := hV.col HTK.out
  obtain ⟨a0, a1, a2, a4, a21, a22, hal⟩ := hA.askC HK.out
  go_upto_region 4 with fail
  have hA1 := Lib.hid hA
  refine region_G (n := 20) (m := 21) (f := 20) (by kernel_rfl) (by kernel_rfl) rfl ?_
  refine WpG.vD 0 (some 23) ?_ rfl rfl (by kernel_rfl) (fun _ _ _ h => h) rfl (fun wz hwz => ?_) ?_
  rotate_left
  ·go_simp; try (with_reducible rfl)
  simp only [Zp, Zq, Zr, Zs]
  refine WpG.vD 1 (some 24) ?_ rfl rfl (by kernel_rfl) (fun _ _ _ h => h) rfl (fun wz hwz => ?_) ?_
  rotate_left
  ·go_simp; try (with_reducible rfl)
  simp only [Zp, Zq, Zr, Zs]
  refine WpG.vD 2 (some 25) ?_ rfl rfl (by kernel_rfl) (fun _ _ _ h => h) rfl (fun wz hwz => ?_) ?_
  rotate_left
  ·go_simp; try (with_reducible rfl)
  simp only [Zp, Zq, Zr, Zs]
  refine WpG.vD 3 (some 26) ?_ rfl rfl (by kernel_rfl) (fun _ _ _ h => h) rfl (fun wz hwz => ?_) ?_
  rotate_left
  ·(obtain ⟨hcz, hfz⟩ := bcell (hwz); go_simp; try (with_reducible rfl))
  simp only [Zp, Zq, Zr, Zs]
  refine WpG.vD 4 (some 27) ?_ rfl rfl (by kernel_rfl) (fun _ _ _ h => h) rfl (fun wz hwz => ?_) ?_
  rotate_left
  ·go_simp; try (with_reducible rfl)
  simp only [Zp, Zq, Zr, Zs]
  refine WpG.vD 5 (some 28) ?_ rfl rfl (by kernel_rfl) (fun _ _ _ h => h) rfl (fun wz hwz => ?_) ?_
  rotate_left
  ·go_simp; try (with_reducible rfl)
  simp only [Zp, Zq, Zr, Zs]
  refine WpG.vD 6 (some 29) ?_ rfl rfl (by kernel_rfl) (fun _ _ _ h => h) rfl (fun wz hwz => ?_) ?_
  rotate_left
  ·go_simp; try (with_reducible rfl)
  simp only [Zp, Zq, Zr, Zs]
  refine WpG.vD 7 (some 30) ?_ rfl rfl (by kernel_rfl) (fun _ _ _ h => h) rfl (fun wz hwz => ?_) ?_
  rotate_left
  ·(obtain ⟨hcz, hfz⟩ := bcell (hwz); go_simp; try (with_reducible rfl))
  simp only [Zp, Zq, Zr, Zs]
  refine WpG.vD 8 (some 31) ?_ rfl rfl (by kernel_rfl) (fun _ _ _ h => h) rfl (fun wz hwz => ?_) ?_
  rotate_left
  ·go_simp; try (with_reducible rfl)
  simp only [Zp, Zq, Zr, Zs]
  refine WpG.vD 9 (some 32) ?_ rfl rfl (by kernel_rfl) (fun _ _ _ h => h) rfl (fun wz hwz => ?_) ?_
  rotate_left
  ·go_simp; try (with_reducible rfl)
  simp only [Zp, Zq, Zr, Zs]
  refine WpG.vD 10 (some 33) ?_ rfl rfl (by kernel_rfl) (fun _ _ _ h => h) rfl (fun wz hwz => ?_) ?_
  rotate_left
  ·go_simp; try (with_reducible rfl)
  simp only [Zp, Zq, Zr, Zs]
  refine WpG.vD 11 (some 34) ?_ rfl rfl (by kernel_rfl) (fun _ _ _ h => h) rfl (fun wz hwz => ?_) ?_
  rotate_left
  ·go_simp; try (with_reducible rfl)
  simp only [Zp, Zq, Zr, Zs]
  refine WpG.vD 12 (some 35) ?_ rfl rfl (by kernel_rfl) (fun _ _ _ h => h) rfl (fun wz hwz => ?_) ?_
  rotate_left
  ·(obtain ⟨hcz, hfz⟩ := bcell (hwz); go_simp; try (with_reducible rfl))
  simp only [Zp, Zq, Zr, Zs]
  refine WpG.vD 13 (some 36) ?_ rfl rfl (by kernel_rfl) (fun _ _ _ h => h) rfl (fun wz hwz => ?_) ?_
  rotate_left
  ·go_simp; try (with_reducible rfl)
  simp only [Zp, Zq, Zr, Zs]
  refine WpG.vD 14 (some 37) ?_ rfl rfl (by kernel_rfl) (fun _ _ _ h => h) rfl (fun wz hwz => ?_) ?_
  rotate_left
  ·go_simp; try (with_reducible rfl)
  simp only [Zp, Zq, Zr, Zs]
  refine WpG.vD 15 (some 38) ?_ rfl rfl (by kernel_rfl) (fun _ _ _ h => h) rfl (fun wz hwz => ?_) ?_
  rotate_left
  ·go_simp; try (with_reducible rfl)
  simp only [Zp, Zq, Zr, Zs]
  refine WpG.vD 16 (some 39) ?_ rfl rfl (by kernel_rfl) (fun _ _ _ h => h) rfl (fun wz hwz => ?_) ?_
  rotate_left
  ·go_simp; try (with_reducible rfl)
  simp only [Zp, Zq, Zr, Zs]
  refine WpG.vD 17 (some 40) ?_ rfl rfl (by kernel_rfl) (fun _ _ _ h => h) rfl (fun wz hwz => ?_) ?_
  rotate_left
  ·(refine Eq.trans (exec_load rfl (by kernel_rfl) ((hA1.out.call (hwz)).askCheck HK.out)) ?_; with_reducible rfl)
  simp only [Zp, Zq, Zr, Zs]
  refine WpG.vD 18 (some 41) ?_ rfl rfl (by kernel_rfl) (fun _ _ _ h => h) rfl (fun wz hwz => ?_) ?_
  rotate_left
  ·(refine Eq.trans (exec_build rfl (by kernel_rfl) (build_ms5 HK.out num start m wz)) ?_; with_reducible rfl)
  simp only [Zp, Zq, Zr, Zs]
  refine WpG.vD 19 (some 42) ?_ rfl rfl (by kernel_rfl) (fun _ _ _ h => h) rfl (fun wz hwz => ?_) ?_
  rotate_left
  ·(refine Eq.trans (exec_build rfl (by kernel_rfl) (build_lt1 HK.out num start m wz)) ?_; with_reducible rfl)
  simp only [Zp, Zq, Zr, Zs]
  refine WpG.done (by kernel_rfl) (fun w4 hw4 => ?_)
  (try simp only [List.drop_succ_cons]); (try simp only [List.drop_zero]); (try simp only [Nat.reduceSub]); (try simp only [List.take_succ_cons]); (try simp only [List.take_zero])
  have hLw := hL.call hw4
  have hb4 := hb00.trans (hw4.mono hb00.size)
  have hst := store_W (T := 127) hLw (l' := letK num start true m k) (by rw [letK_length HK.out]; rfl) (by rw [letK_length HK.out]; exact size_letter) (letK_one _ _ _ _)
  have HR := Lib.hid (hLw.setW (l' := letK num start true m k) (by rw [letK_length HK.out]; rfl))
  have HB := Lib.hid (bl_setCells hb4 (b := w.heap.size) (Nat.le_refl _) 0 (letK num start true m k))
  clear hL hb00 hV hA hLw hb4 hw4 c8 c9 c10 c11 f8 f9 f10 hcl a0 a1 a2 a4 a21 a22 hal
  refine wpList_skipD rfl rfl (exec_store rfl (by kernel_rfl) (by kernel_rfl) hst) ?_
  clear hst
  go_upto_region 99 with fail
  exact bodyPost_ret (results_lett (b := w.heap.size) (letK_length HK.out _ _ _ _) HR.out rfl rfl) rfl ⟨rfl, HB.out⟩

end Go.Proofs.Ytbakkmfjamcbfaa

namespace Go.Proofs.Ytbakkmfjamcbfaa
open Go.RowKit Fm
set_option linter.unusedVariables false
set_option maxRecDepth 100000

set_option maxHeartbeats 2000000 in
theorem clone_Us (p : Addr) (n c : Nat) (xs : List Int) (hl : xs.length = n) (hn : n ≤ 1000000) (w : World) (hr : 0 < n → ∃ b o, p = ⟨b, o, none⟩ ∧ b < w.heap.size ∧ RowU w b o xs) :
  Calls Try.prog 83 #[.slice (some p) n c] w fun e w' => ∃ (A : Option Addr) (c' : Nat), e = .returned (.slice A n c') ∧ w'.ownsRow w.heap.size 22 1 (.slice A n c') n (cellsU xs) ∧ Below w.heap.size w w' := by
 have hown0 : (w.alloc (.cells #[] 22)).ownsRow w.heap.size 22 1 (.slice (some ⟨w.heap.size, 0, none⟩) 0 0) 0 (cellsU []) := World.ownsRow_made w #[] 0 (Nat.le_refl _) (by unfold maxLen; omega) rfl
 have hb1 : Below w.heap.size w (w.alloc (.cells #[] 22)) := (Below.refl _ _).alloc (Nat.le_refl _) _
 have HYR : Hid (0 < n → ∃ b o, (some p : Option Addr) = some ⟨b, o, none⟩ ∧ RowU (w.alloc (.cells #[] 22)) b o xs) := Lib.hid fun h => by
  obtain ⟨b, o, e1, e2, e3⟩ := hr h
  exact ⟨b, o, by rw [e1], e3.below hb1 e2⟩
 have hnil := Lib.run_eql_slice_nil (P := Try.prog)
 have HW := Lib.hid hown0
 have HL := Lib.hid hl
 clear hown0 hr hl
 go_enter Try.func83, Try.ntmps83
 go_wp2_with (at_builtin; (refine wpList_append_U rfl (.tmp 5) (.tmp 6) rfl w.heap.size _ 0 [] rfl HW.out (some p) n c xs rfl HL.out HYR.out (by omega) (by simp) ?_; intro v2 w2 hown2 hg2 hat2; have hb2 : Below w.heap.size w w2 := hb1.trans ((Below.refl _ _).grown hg2 (by simp) (fun k hk => Nat.le_of_eq (Option.some.inj hk)))))
 go_ret
 rw [Nat.zero_add, List.nil_append] at hown2
 obtain ⟨A, cp, h⟩ := own_shape hown2
 subst h
 exact ⟨A, cp, rfl, hown2, hb2⟩
set_option maxHeartbeats 2000000 in
theorem clone_U0 (w : World) : Calls Try.prog 83 #[.slice none 0 0] w fun e w' => e = .returned (.slice none 0 0) ∧ Below w.heap.size w w' := by
 have hnil := Lib.run_eql_slice_nil (P := Try.prog)
 go_enter Try.func83, Try.ntmps83
 go_wp2_with fail
 go_ret
 exact ⟨rfl, Below.refl _ _⟩
theorem clone_Uo (v : Value) (n : Nat) (xs : List Int) (hl : xs.length = n) (hn : n ≤ 1000000) (B : Nat) (w : World) (ho : w.ownsRow B 22 1 v n (cellsU xs)) :
  Calls Try.prog 83 #[v] w fun e w' => ∃ (A : Option Addr) (c' : Nat), e = .returned (.slice A n c') ∧ w'.ownsRow w.heap.size 22 1 (.slice A n c') n (cellsU xs) ∧ Below w.heap.size w w' := by
 rcases ho.2 with ⟨rfl, rfl⟩ | ⟨g, cap, cur, rfl, h1, h2, h3, h4, h5, h6⟩
 ·refine (clone_U0 w).mono fun e w' ⟨he, hb⟩ => ⟨none, 0, he, ?_, hb⟩
  obtain rfl : xs = [] := List.eq_nil_of_length_eq_zero hl
  exact World.ownsRow_nil _ _ _ _
 ·exact clone_Us ⟨g, 0, none⟩ n cap xs hl hn w fun hp => ⟨g, 0, rfl, (Array.getElem?_eq_some_iff.1 h2).1, fun i e hi => by
   have h9 := ho.cells (g := g) rfl i (.int .u64 e) (by unfold cellsU; rw [List.getElem?_map, hi]; rfl)
   rwa [Addr.add_mid] at h9⟩

structure ResK where
 start : Int
 many : Int
 sums : List Int
 code : Int
def resC (r : ResK) (v : Value) : List Value := [.int .u64 r.start, .int .i64 r.many, v, .int .i64 r.code]
def resCs (rs : List ResK) (vs : List Value) : List Value := (List.zipWith resC rs vs).flatten

structure ColS (w : World) (O X : Nat → Prop) (c : Nat) (tk : List Value) (nowv : Value) (nx : Int) (qs : List Int) (rs : List ResK) : Prop where
 ex : ∃ (A R : Option Addr) (cp rp : Nat) (vs : List Value), Vs w c (colL tk nowv (.slice A qs.length cp) nx (.slice R rs.length rp)) ∧
  w.ownsRow 0 22 1 (.slice A qs.length cp) qs.length (cellsU qs) ∧ (∀ g, (Value.slice A qs.length cp).ownBlock = some g → O g ∧ ¬ X g ∧ (Value.slice R rs.length rp).ownBlock ≠ some g) ∧
  w.ownsRow 0 121 4 (.slice R rs.length rp) rs.length (resCs rs vs) ∧ (∀ g, (Value.slice R rs.length rp).ownBlock = some g → O g ∧ ¬ X g) ∧
  vs.length = rs.length ∧ ∀ (i : Nat) (r : ResK) (v : Value), rs[i]? = some r → vs[i]? = some v → v.oneCell' = true ∧ w.ownsRow 0 22 1 v r.sums.length (cellsU r.sums) ∧ ∀ g, v.ownBlock = some g → ¬ O g
 oc : O c ∧ X c
 lt : ∀ q, O q → q < w.heap.size
 ok : ∀ e, e ∈ qs → okU e
section
variable {w w' : World} {O X : Nat → Prop} {c : Nat} {tk : List Value} {nowv : Value} {nx : Int} {qs : List Int} {rs : List ResK}
theorem ColS.call (h : ColS w O X c tk nowv nx qs rs) (hb : Below w.heap.size w w') : ColS w' O X c tk nowv nx qs rs := by
 obtain ⟨⟨A, R, cp, rp, vs, h1, h2, h3, h4, h5, h6, h7⟩, h8, h9, h10⟩ := h
 exact ⟨⟨A, R, cp, rp, vs, h1.call hb, own_call h2 hb, h3, own_call h4 hb, h5, h6, fun i r v a b => ⟨(h7 i r v a b).1, own_call (h7 i r v a b).2.1 hb, (h7 i r v a b).2.2⟩⟩, h8, fun q hq => Nat.lt_of_lt_of_le (h9 q hq) hb.size, h10⟩
theorem ColS.turn {nowv' : Value} {nx' : Int} (h : ColS w O X c tk nowv nx qs rs) {S : Nat → Prop} (hS : ∀ q, S q → O q ∧ X q) (hx : Exc S w.heap.size w w') (hV : ∀ qv res, Vs w c (colL tk nowv qv nx res) → Vs w' c (colL tk nowv' qv nx' res)) : ColS w' O X c tk nowv' nx' qs rs := by
 obtain ⟨⟨A, R, cp, rp, vs, h1, h2, h3, h4, h5, h6, h7⟩, h8, h9, h10⟩ := h
 exact ⟨⟨A, R, cp, rp, vs, hV _ _ h1, own_other h2 hx (fun g hg e => (h3 g hg).2.1 (hS g e).2), h3, own_other h4 hx (fun g hg e => (h5 g hg).2 (hS g e).2), h5, h6, fun i r v a b => ⟨(h7 i r v a b).1, own_other (h7 i r v a b).2.1 hx (fun g hg e => (h7 i r v a b).2.2 g hg (hS g e).1), (h7 i r v a b).2.2⟩⟩, h8, fun q hq => Nat.lt_of_lt_of_le (h9 q hq) hx.size, h10⟩
theorem ColS.more (h : ColS w O X c tk nowv nx qs rs) (hb : Below w.heap.size w w') {a : Nat} (ha : w.heap.size ≤ a ∧ a < w'.heap.size) : ColS w' (fun q => O q ∨ q = a) (fun q => X q ∨ q = a) c tk nowv nx qs rs := by
 have h' := h.call hb
 obtain ⟨⟨A, R, cp, rp, vs, h1, h2, h3, h4, h5, h6, h7⟩, h8, h9, h10⟩ := h
 refine ⟨⟨A, R, cp, rp, vs, h1.call hb, own_call h2 hb, fun g hg => ⟨.inl (h3 g hg).1, fun e => ?_, (h3 g hg).2.2⟩, own_call h4 hb, fun g hg => ⟨.inl (h5 g hg).1, fun e => ?_⟩, h6, fun i r v a b => ⟨(h7 i r v a b).1, own_call (h7 i r v a b).2.1 hb, fun g hg e => ?_⟩⟩, ⟨.inl h8.1, .inl h8.2⟩, fun q hq => ?_, h10⟩
 ·have := (h2.lt g hg).2
  rcases e with e | e
  ·exact (h3 g hg).2.1 e
  ·omega
 ·have := (h4.lt g hg).2
  rcases e with e | e
  ·exact (h5 g hg).2 e
  ·omega
 ·have := ((h7 i r v a b).2.1.lt g hg).2
  rcases e with e | e
  ·exact (h7 i r v a b).2.2 g hg e
  ·omega
 ·rcases hq with hq | rfl
  ·exact h'.lt q hq
  ·exact ha.2
theorem ColS.less {X' : Nat → Prop} (h : ColS w O X c tk nowv nx qs rs) (hX : ∀ q, X' q → X q) (hc : X' c) : ColS w O X' c tk nowv nx qs rs := by
 obtain ⟨⟨A, R, cp, rp, vs, h1, h2, h3, h4, h5, h6, h7⟩, h8, h9, h10⟩ := h
 exact ⟨⟨A, R, cp, rp, vs, h1, h2, fun g hg => ⟨(h3 g hg).1, fun e => (h3 g hg).2.1 (hX g e), (h3 g hg).2.2⟩, h4, fun g hg => ⟨(h5 g hg).1, fun e => (h5 g hg).2 (hX g e)⟩, h6, h7⟩, ⟨h8.1, hc⟩, h9, h10⟩
end
def ColR (w w' : World) (O O' : Nat → Prop) : Prop := (∀ q, O' q → O q ∨ w.heap.size ≤ q) ∧ Exc O w.heap.size w w'

theorem ColK.toS {w : World} {B c : Nat} {tk : List Value} {nx : Int} {qs : List Int} (h : ColK w B c tk nx qs) : ColS w (fun q => B ≤ q ∧ q < w.heap.size) (fun q => q = c) c tk (.pointer none) nx qs [] := by
 obtain ⟨⟨A, cp, h1, h2, h3⟩, h4, h5, h6⟩ := h
 refine ⟨⟨A, none, cp, 0, [], h1, own_lower h2 (Nat.zero_le _), fun g hg => ⟨?_, h3 g hg, fun e => (by cases e)⟩, World.ownsRow_nil _ _ _ _, fun g hg => (by cases hg), rfl, fun i r v hi => (by simp at hi)⟩, ⟨⟨h4, h1.lt⟩, rfl⟩, fun q hq => hq.2, h6⟩
 exact h2.lt g hg

end Go.Proofs.Ytbakkmfjamcbfaa

namespace Go.Proofs.Ytbakkmfjamcbfaa
open Go.RowKit Fm
set_option linter.unusedVariables false
set_option maxRecDepth 100000

structure AskS (w : World) (O : Nat → Prop) (c a : Nat) (tk : List Value) (nx : Int) (qs : List Int) (rs : List ResK) (num start : Int) (has : Bool) (v : Value) (m : Int) (k : List Int) (due wait : Int) : Prop where
 col : ColS w O (fun q => q = c ∨ q = a) c tk (.pointer (some ⟨a, 0, none⟩)) nx qs rs
 ask : Vs w a (askL num start has v m k due wait)
 o : O a ∧ a ≠ c
 k16 : k.length = 16
theorem AskS.call {w w' : World} {O : Nat → Prop} {c a : Nat} {tk : List Value} {nx : Int} {qs : List Int} {rs : List ResK} {num start : Int} {has : Bool} {v : Value} {m : Int} {k : List Int} {due wait : Int} (h : AskS w O c a tk nx qs rs num start has v m k due wait) (hb : Below w.heap.size w w') : AskS w' O c a tk nx qs rs num start has v m k due wait :=
 ⟨h.col.call hb, h.ask.call hb, h.o, h.k16⟩

theorem slice_tail (A : Option Addr) (n cp : Nat) (hn : 1 ≤ n) (w : World) : (Instr.sliceAt 88 (.slice A n cp) (some (.int .i64 1)) none none).run Try.prog w = .ok (.slice (if cp = 1 then A else A.map (·.add 1)) (n - 1) (cp - 1)) w := by
 obtain ⟨i, hi, _⟩ := info_parts infoU64
 exact sliceAt_l Try.underlying88 (by kernel_rfl) hi 1 (by kernel_rfl) A n cp 1 hn w

theorem build_letS {k : List Int} (hk : k.length = 16) (num start m : Int) (has : Bool) (w : World) : (Instr.buildSlice 112 1 #[(0, .agg (letK num start has m k).toArray)]).run Try.prog w = .ok (.slice (some ⟨w.heap.size, 0, none⟩) 1 1) (w.alloc (.cells (letK num start has m k).toArray 127)) := by
 obtain ⟨x0, x1, x2, x3, x4, x5, x6, x7, y0, y1, y2, y3, y4, y5, y6, y7, rfl⟩ := list16 hk
 cases has <;> kernel_rfl

set_option maxHeartbeats 8000000 in
theorem collect_Tick1 (tk : List Value) (ht : tk.length = 8) (O : Nat → Prop) (c : Nat) (nx s : Int) (rest : List Int) (rs : List ResK) (now : Int) (hnow : 0 ≤ now ∧ now ≤ 1099511627776) (hnx : 0 ≤ nx ∧ nx ≤ 1099511627776) (hrl : rest.length ≤ 1000) (w : World) (h : ColS w O (fun q => q = c) c tk (.pointer none) nx (s :: rest) rs) :
  Calls Try.prog 44 #[.pointer (some ⟨c, 0, none⟩), .int .u64 now] w fun e w' => ∃ (g a : Nat) (O' : Nat → Prop), e = .returned (.slice (some ⟨g, 0, none⟩) 1 1) ∧ Vs w' g (letK nx s false 0 z16) ∧ ¬ O' g ∧ AskS w' O' c a tk (nx + 1) rest rs nx s false (.slice none 0 0) 0 z16 (now + 1) 2 ∧ ColR w w' O O' := by
 have HTK := Lib.hid ht
 have hcol := h
 obtain ⟨⟨A, R, cp, rp, vs, hV, hown, hob, hR, hRo, hvl, hvs⟩, hoc, hlt, hok⟩ := h
 have hcl0 := hV.lt
 obtain ⟨n, hn⟩ : ∃ z, rest.length = z := ⟨_, rfl⟩
 rw [List.length_cons, hn] at hV hown hob
 obtain ⟨g, cp', hgs⟩ : ∃ g cp', Value.slice A (n + 1) cp = .slice (some ⟨g, 0, none⟩) (n + 1) cp' := own_sl9 hown (by omega)
 injection hgs with e1 e2 e3
 subst e1
 subst e3
 clear e2
 have hcells : ∀ i e, (s :: rest)[i]? = some e → w.cell? ⟨g, i, none⟩ = some (.int .u64 e) := fun i e hi => by
  have h9 := hown.cells (g := g) rfl i (.int .u64 e) (by unfold cellsU; rw [List.getElem?_map, hi]; rfl)
  rw [Addr.add_mid, Nat.zero_add] at h9
  exact h9
 have hq0 := hcells 0 s rfl
 have hgl : g < w.heap.size := (hown.lt g rfl).2
 have hgc : g ≠ c := fun e => (hob g rfl).2.1 e
 have hcp : n + 1 ≤ cp ∧ cp ≤ 9223372036854775807 := by
  rcases hown.2 with ⟨h, _⟩ | ⟨g', cap', cur, h1, h2, h3, h4, h5, _⟩
  ·cases h
  ·injection h1 with e1 e2 e3
   unfold maxLen at h5
   omega
 have HCE := Lib.hid hcells
 have HOWN := Lib.hid hown
 have HRR := Lib.hid (And.intro hR (And.intro hRo (And.intro hvl hvs)))
 have HOO := Lib.hid (And.intro hoc (And.intro hlt hok))
 have HN := Lib.hid hn
 have hwx : IntKind.u64.wrap (nx + 1) = nx + 1 := IntWalk.u64_in _ (by omega)
 have hwn : IntKind.u64.wrap (now + 1) = now + 1 := IntWalk.u64_in _ (by omega)
 obtain ⟨c8, c9, c10, c11, f8, f9, f10, hcl⟩ := hV.col ht
 clear hown hob hR hRo hvl hvs hoc hlt hok ht hcells hcol hn
 go_enter Try.func44, Try.ntmps44
 go_upto_region 6 with fail
 refine region_G (n := 16) (m := 17) (f := 16) (by kernel_rfl) (by kernel_rfl) rfl ?_
 refine WpG.vD 0 (some 19) ?_ rfl rfl (by kernel_rfl) (fun _ _ _ h => h) rfl (fun wz hwz => ?_) ?_
 rotate_left
 ·go_simp; try (with_reducible rfl)
 simp only [Zp, Zq, Zr, Zs]
 refine WpG.vD 1 (some 20) ?_ rfl rfl (by kernel_rfl) (fun _ _ _ h => h) rfl (fun wz hwz => ?_) ?_
 rotate_left
 ·go_simp; try (with_reducible rfl)
 simp only [Zp, Zq, Zr, Zs]
 refine WpG.vD 2 (some 21) ?_ rfl rfl (by kernel_rfl) (fun _ _ _ h => h) rfl (fun wz hwz => ?_) ?_
 rotate_left
 ·go_simp; try (with_reducible rfl)
 simp only [Zp, Zq, Zr, Zs]
 refine WpG.vD 3 (some 22) ?_ rfl rfl (by kernel_rfl) (fun _ _ _ h => h) rfl (fun wz hwz => ?_) ?_
 rotate_left
 ·go_simp; try (with_reducible rfl)
 simp only [Zp, Zq, Zr, Zs]
 refine WpG.vD 4 (some 23) ?_ rfl rfl (by kernel_rfl) (fun _ _ _ h => h) rfl (fun wz hwz => ?_) ?_
 rotate_left
 ·(obtain ⟨hcz, hfz⟩ := bcell (hwz); go_simp; try (with_reducible rfl))
 simp only [Zp, Zq, Zr, Zs]
 refine WpG.vD 5 (some 24) ?_ rfl rfl (by kernel_rfl) (fun _ _ _ h => h) rfl (fun wz hwz => ?_) ?_
 rotate_left
 ·go_simp; try (with_reducible rfl)
 simp only [Zp, Zq, Zr, Zs]
 refine WpG.vD 6 (some 25) ?_ rfl rfl (by kernel_rfl) (fun _ _ _ h => h) rfl (fun wz hwz => ?_) ?_
 rotate_left
 ·go_simp; try (with_reducible rfl)
 simp only [Zp, Zq, Zr, Zs]
 refine WpG.vD 7 (some 26) ?_ rfl rfl (by kernel_rfl) (fun _ _ _ h => h) rfl (fun wz hwz => ?_) ?_
 rotate_left
 ·go_simp; try (with_reducible rfl)
 simp only [Zp, Zq, Zr, Zs]
 refine WpG.vD 8 (some 27) ?_ rfl rfl (by kernel_rfl) (fun _ _ _ h => h) rfl (fun wz hwz => ?_) ?_
 rotate_left
 ·(obtain ⟨hcz, hfz⟩ := bcell (hwz); go_simp; try (with_reducible rfl))
 simp only [Zp, Zq, Zr, Zs]
 refine WpG.vD 9 (some 28) ?_ rfl rfl (by kernel_rfl) (fun _ _ _ h => h) rfl (fun wz hwz => ?_) ?_
 rotate_left
 ·go_simp; try (with_reducible rfl)
 simp only [Zp, Zq, Zr, Zs]
 refine WpG.vD 10 (some 29) ?_ rfl rfl (by kernel_rfl) (fun _ _ _ h => h) rfl (fun wz hwz => ?_) ?_
 rotate_left
 ·(obtain ⟨hcz, hfz⟩ := bcell (hwz); go_simp; try (with_reducible rfl))
 simp only [Zp, Zq, Zr, Zs]
 refine WpG.vD 11 (some 30) ?_ rfl rfl (by kernel_rfl) (fun _ _ _ h => h) rfl (fun wz hwz => ?_) ?_
 rotate_left
 ·go_simp; try (with_reducible rfl)
 simp only [Zp, Zq, Zr, Zs]
 refine WpG.vD 12 (some 31) ?_ rfl rfl (by kernel_rfl) (fun _ _ _ h => h) rfl (fun wz hwz => ?_) ?_
 rotate_left
 ·go_simp; try (with_reducible rfl)
 simp only [Zp, Zq, Zr, Zs]
 refine WpG.oneD 13 (some 32) rfl rfl (by kernel_rfl) (fun b : Nat => Value.pointer (some ⟨b, 0, none⟩)) (fun b wz => w.heap.size ≤ b ∧ Vs wz b (askL nx s false (.slice none 0 0) 0 z16 now 1)) (fun _ _ _ h hb => ⟨h.1, h.2.call hb⟩) (Fresh.var [.int .u64 nx, .int .u64 s, .bool false, .slice none 0 0, .int .i64 0, .int .u8 0, .int .u8 0, .int .u8 0, .int .u8 0, .int .u8 0, .int .u8 0, .int .u8 0, .int .u8 0, .int .u8 0, .int .u8 0, .int .u8 0, .int .u8 0, .int .u8 0, .int .u8 0, .int .u8 0, .int .u8 0, .int .u64 now, .int .u64 1] 141 rfl (fun wz hwz => (hwz).size) (fun wz hwz => by go_simp; try (with_reducible rfl)) (R := fun b wz => Vs wz b (askL nx s false (.slice none 0 0) 0 z16 now 1)) (fun wz hwz => Vs.new wz (askL nx s false (.slice none 0 0) 0 z16 now 1) _ _ rfl)) (fun ab w0b' hw0b' hR0b' => ?_)
 simp only [Zp, Zq, Zr, Zs]
 refine WpG.vD 14 (some 33) ?_ rfl rfl (by kernel_rfl) (fun _ _ _ h => h) rfl (fun wz hwz => ?_) ?_
 rotate_left
 ·go_simp; try (with_reducible rfl)
 simp only [Zp, Zq, Zr, Zs]
 refine WpG.vD 15 (some 34) ?_ rfl rfl (by kernel_rfl) (fun _ _ _ h => h) rfl (fun wz hwz => ?_) ?_
 rotate_left
 ·go_simp; try (with_reducible rfl)
 simp only [Zp, Zq, Zr, Zs]
 refine WpG.done (by kernel_rfl) (fun w5 hS => ?_)
 (try simp only [List.drop_succ_cons]); (try simp only [List.drop_zero]); (try simp only [Nat.reduceSub]); (try simp only [List.take_succ_cons]); (try simp only [List.take_zero])
 obtain ⟨hb5, habl, hAs⟩ := hS
 have hV5 := hV.call hb5
 clear c8 c9 c10 c11 f8 f9 f10 hcl hq0 hw0b' hR0b'
 obtain ⟨c8, c9, c10, c11, f8, f9, f10, hcl⟩ := hV5.col HTK.out
 go_upto_region 7 with fail
 clear c8 c9 c10 c11 f8 f9 f10 hcl
 have hV6 := hV5.setN HTK.out (.pointer (some ⟨ab, 0, none⟩))
 have hAs6 := hAs.far (p := ⟨c, 8, none⟩) (by dsimp only; omega) (.pointer (some ⟨ab, 0, none⟩))
 have hx6 : Exc (fun q => q = c) w.heap.size w (w5.setCell ⟨c, 8, none⟩ (.pointer (some ⟨ab, 0, none⟩))) := exc_sc (S := fun q => q = c) (exc_of hb5) (.inl rfl) 8 _
 clear hV5 hAs hb5 hV
 generalize w5.setCell ⟨c, 8, none⟩ (.pointer (some ⟨ab, 0, none⟩)) = w6 at hV6 hAs6 hx6 ⊢
 have hs6 := hx6.size
 have hal6 := hAs6.lt
 obtain ⟨pp, hpp, hp1⟩ : ∃ pp : Addr, (if cp = 1 then (some ⟨g, 0, none⟩ : Option Addr) else (some ⟨g, 0, none⟩ : Option Addr).map (·.add 1)) = some pp ∧ (0 < n → pp = ⟨g, 1, none⟩) := by
  by_cases h1 : cp = 1
  ·exact ⟨_, if_pos h1, fun h => by omega⟩
  ·refine ⟨_, if_neg h1, fun _ => ?_⟩
   show (⟨g, 0, none⟩ : Addr).add 1 = _
   rw [Addr.add_mid]
 have hsl := slice_tail (some ⟨g, 0, none⟩) (n + 1) cp (by omega) w6
 rw [hpp, Nat.add_sub_cancel] at hsl
 have HCL := Lib.hid (clone_Us pp n (cp - 1) rest HN.out (by have := HN.out; omega) w6 (fun hp => ⟨g, 1, hp1 hp, by omega, fun i e hi => (hx6.cell (p := ⟨g, 1 + i, none⟩) hgl hgc).trans (by
  have h9 := HCE.out (i + 1) e (by rw [List.getElem?_cons_succ]; exact hi)
  rw [Nat.add_comm] at h9
  exact h9)⟩))
 clear hpp hp1
 obtain ⟨c8, c9, c10, c11, f8, f9, f10, hcl⟩ := hV6.col HTK.out
 refine wp_region_lit ?_
 refine wpList_valD (some 35) rfl rfl (by (go_simp; first | with_reducible rfl | exact ⟨rfl, rfl⟩ | (trace_state; fail))) ?_
 simp only [Zp, Zq, Zr, Zs]
 refine wpList_valD (some 36) rfl rfl (by (go_simp; first | with_reducible rfl | exact ⟨rfl, rfl⟩ | (trace_state; fail))) ?_
 simp only [Zp, Zq, Zr, Zs]
 refine wpList_valD (some 37) rfl rfl (by (go_simp; first | with_reducible rfl | exact ⟨rfl, rfl⟩ | (trace_state; fail))) ?_
 simp only [Zp, Zq, Zr, Zs]
 refine wpList_valD (some 38) rfl rfl (by (go_simp; first | with_reducible rfl | exact ⟨rfl, rfl⟩ | (trace_state; fail))) ?_
 simp only [Zp, Zq, Zr, Zs]
 refine wpList_valD (some 39) rfl rfl (by (go_simp; first | with_reducible rfl | exact ⟨rfl, rfl⟩ | (trace_state; fail))) ?_
 simp only [Zp, Zq, Zr, Zs]
 refine wpList_valD (some 40) rfl rfl (exec_slice rfl (by kernel_rfl) (by kernel_rfl) (by kernel_rfl) (by kernel_rfl) hsl) ?_
 simp only [Zp, Zq, Zr, Zs]
 refine wpList_callD (some 41) rfl rfl 83 _ ?_ (HCL.out) ?_
 ·go_simp; try (with_reducible rfl)
 rintro e w7 ⟨A7, c7, rfl, hO7, hb7⟩
 refine ⟨_, rfl, ?_⟩
 simp only [Zp, Zq, Zr, Zs]
 have hV7 := hV6.call hb7
 have hAs7 := hAs6.call hb7
 have hx7 := hx6.call hb7
 clear c8 c9 c10 c11 f8 f9 f10 hcl
 have hc7 := hV7.col HTK.out
 obtain ⟨c8, c9, c10, c11, f8, f9, f10, hcl⟩ := hc7
 refine wpList_valD (some 42) rfl rfl (by (go_simp; first | with_reducible rfl | exact ⟨rfl, rfl⟩ | (trace_state; fail))) ?_
 simp only [Zp, Zq, Zr, Zs]
 refine wpList_valD (some 43) rfl rfl (by (go_simp; first | with_reducible rfl | exact ⟨rfl, rfl⟩ | (trace_state; fail))) ?_
 simp only [Zp, Zq, Zr, Zs]
 refine wpList_skipD rfl rfl (by (skip; go_simp; first | with_reducible rfl | exact ⟨rfl, rfl⟩ | (trace_state; fail))) ?_
 clear c8 c9 c10 c11 f8 f9 f10 hcl
 have hV8 := hV7.setQ HTK.out (.slice A7 n c7)
 have hAs8 := hAs7.far (p := ⟨c, 9, none⟩) (by dsimp only; omega) (.slice A7 n c7)
 have hx8 := exc_sc (S := fun q => q = c) hx7 (.inl rfl) 9 (.slice A7 n c7)
 have hO8 := own_other hO7 (exc_sc (S := fun q => q = c) (exc_of (Below.refl _ _)) (.inl rfl) 9 (.slice A7 n c7)) (fun q hq e => by
  have := (hO7.lt q hq).1
  omega)
 clear hV6 hAs6 hx6 hV7 hAs7 hx7 hO7 hb7 hsl HCL
 go_upto_region 8 with fail
 generalize w7.setCell ⟨c, 9, none⟩ (.slice A7 n c7) = w8 at hV8 hAs8 hx8 hO8 ⊢
 obtain ⟨c8, c9, c10, c11, f8, f9, f10, hcl⟩ := hV8.col HTK.out
 go_upto_region 9 with fail
 clear c8 c9 c10 c11 f8 f9 f10 hcl
 have hV9 := hV8.setX HTK.out (nx + 1)
 have hAs9 := hAs8.far (p := ⟨c, 10, none⟩) (by dsimp only; omega) (.int .u64 (nx + 1))
 have hx9 := exc_sc (S := fun q => q = c) hx8 (.inl rfl) 10 (.int .u64 (nx + 1))
 have hO9 := own_other hO8 (exc_sc (S := fun q => q = c) (exc_of (Below.refl _ _)) (.inl rfl) 10 (.int .u64 (nx + 1))) (fun q hq e => by
  have := (hO8.lt q hq).1
  omega)
 clear hV8 hAs8 hx8 hO8
 generalize w8.setCell ⟨c, 10, none⟩ (.int .u64 (nx + 1)) = w9 at hV9 hAs9 hx9 hO9 ⊢
 obtain ⟨c8, c9, c10, c11, f8, f9, f10, hcl⟩ := hV9.col HTK.out
 obtain ⟨a0, a1, a2, a4, a21, a22, hal⟩ := hAs9.askC z16_length
 obtain ⟨g2, g21, g22⟩ := hAs9.askF z16_length
 go_upto_region 13 with fail
 clear c8 c9 c10 c11 f8 f9 f10 hcl a0 a1 a2 a4 a21 a22 g2 g21 g22
 have hV10 := hV9.far (p := ⟨ab, 21, none⟩) (by dsimp only; omega) (.int .u64 (now + 1))
 have hAs10 := hAs9.askDue z16_length (now + 1)
 have hx10 := exc_sc (S := fun q => q = c) hx9 (.inr habl) 21 (.int .u64 (now + 1))
 have hO10 := own_other hO9 (exc_sc (S := fun q => q = ab) (exc_of (Below.refl _ _)) (.inl rfl) 21 (.int .u64 (now + 1))) (fun q hq e => by
  have := (hO9.lt q hq).1
  omega)
 clear hV9 hAs9 hx9 hO9
 generalize w9.setCell ⟨ab, 21, none⟩ (.int .u64 (now + 1)) = w10 at hV10 hAs10 hx10 hO10 ⊢
 obtain ⟨a0, a1, a2, a4, a21, a22, hal2⟩ := hAs10.askC z16_length
 obtain ⟨g2, g21, g22⟩ := hAs10.askF z16_length
 go_upto_region 14 with fail
 rw [show min (2 : Int) 16 = 2 from rfl]
 clear a0 a1 a2 a4 a21 a22 g2 g21 g22
 have hV11 := hV10.far (p := ⟨ab, 22, none⟩) (by dsimp only; omega) (.int .u64 2)
 have hAs11 := hAs10.askWait z16_length 2
 have hx11 := exc_sc (S := fun q => q = c) hx10 (.inr habl) 22 (.int .u64 2)
 have hO11 := own_other hO10 (exc_sc (S := fun q => q = ab) (exc_of (Below.refl _ _)) (.inl rfl) 22 (.int .u64 2)) (fun q hq e => by
  have := (hO10.lt q hq).1
  omega)
 clear hV10 hAs10 hx10 hO10
 generalize w10.setCell ⟨ab, 22, none⟩ (.int .u64 2) = w11 at hV11 hAs11 hx11 hO11 ⊢
 have hL := collect_letG tk HTK.out (nx + 1) (.slice A7 n c7) (.slice R rs.length rp) c ab nx s false (.slice none 0 0) 0 z16 z16_length (now + 1) 2 w11 hV11 hAs11
 refine wp_region_lit ?_
 refine wpList_valD (some 79) rfl rfl (by (go_simp; first | with_reducible rfl | exact ⟨rfl, rfl⟩ | (trace_state; fail))) ?_
 simp only [Zp, Zq, Zr, Zs]
 refine wpList_callD (some 80) rfl rfl 84 _ ?_ (hL) ?_
 ·go_simp; try (with_reducible rfl)
 rintro e w12 ⟨rfl, hb12⟩
 refine ⟨_, rfl, ?_⟩
 simp only [Zp, Zq, Zr, Zs]
 have hV12 := hV11.call hb12
 have hAs12 := hAs11.call hb12
 have hx12 := hx11.call hb12
 have hO12 := own_call hO11 hb12
 refine wpList_valD (some 81) rfl rfl (exec_buildSlice rfl (by kernel_rfl) (build_letS z16_length nx s 0 false w12)) ?_
 simp only [Zp, Zq, Zr, Zs]
 have hG := Vs.new w12 (letK nx s false 0 z16) _ 127 rfl
 have hbA := (Below.refl w12.heap.size w12).alloc (Nat.le_refl _) (.cells (letK nx s false 0 z16).toArray 127)
 refine wpList_valD (some 4) rfl rfl (by (go_simp; first | with_reducible rfl | exact ⟨rfl, rfl⟩ | (trace_state; fail))) ?_
 simp only [Zp, Zq, Zr, Zs]
 have hV13 := hV12.call hbA
 have hAs13 := hAs12.call hbA
 have hx13 := hx12.call hbA
 have hO13 := own_call hO12 hbA
 have hlA : ∀ q, (Value.slice A7 n c7).ownBlock = some q → w6.heap.size ≤ q ∧ q < w12.heap.size := fun q hq => hO12.lt q hq
 have hal12 := hAs12.lt
 have hs13 := hbA.size
 have hs12 := hx12.size
 clear hV11 hAs11 hx11 hO11 hV12 hAs12 hx12 hO12 hb12 hbA hL
 generalize w12.alloc (.cells (letK nx s false 0 z16).toArray 127) = w13 at hG hV13 hAs13 hx13 hO13 hs13 ⊢
 obtain ⟨hR, hRo, hvl, hvs⟩ := HRR.out
 obtain ⟨hoc, hlt, hok⟩ := HOO.out
 have hn := HN.out
 have hGl := hG.lt
 obtain ⟨gb, hgb⟩ : ∃ z, w12.heap.size = z := ⟨_, rfl⟩
 rw [hgb] at hG hGl hlA hal12 hs12
 simp only [hgb]
 clear hgb
 have HFIN : Hid (∃ (g a : Nat) (O' : Nat → Prop), gb = g ∧ Vs w13 g (letK nx s false 0 z16) ∧ ¬ O' g ∧ AskS w13 O' c a tk (nx + 1) rest rs nx s false (.slice none 0 0) 0 z16 (now + 1) 2 ∧ ColR w w13 O O') := by
  refine ⟨gb, ab, fun q => (O q ∨ q = ab) ∨ (Value.slice A7 n c7).ownBlock = some q, rfl, hG, ?_, ⟨⟨⟨A7, R, c7, rp, vs, by rw [hn]; exact hV13, by rw [hn]; exact own_lower hO13 (Nat.zero_le _), ?_, own_other hR hx13 (fun q hq e => (hRo q hq).2 e), ?_, hvl, ?_⟩, ⟨.inl (.inl hoc.1), .inl rfl⟩, ?_, ?_⟩, hAs13, ⟨.inl (.inr rfl), by omega⟩, z16_length⟩, ?_, hx13.less (fun q _ e => by rw [e]; exact hoc.1)⟩
  ·rintro ((h | h) | h)
   ·have := hlt _ h
    omega
   ·omega
   ·have := hlA _ h
    omega
  ·intro q hq
   rw [hn] at hq
   have := hlA q hq
   refine ⟨.inr hq, ?_, fun e => ?_⟩
   ·rintro (h | h) <;> omega
   ·have := (hR.lt q e).2
    omega
  ·intro q hq
   have h1 := hRo q hq
   have h2 := (hR.lt q hq).2
   refine ⟨.inl (.inl h1.1), ?_⟩
   rintro (h | h)
   ·exact h1.2 h
   ·omega
  ·intro i r v h1 h2
   obtain ⟨k1, k2, k3⟩ := hvs i r v h1 h2
   refine ⟨k1, own_other k2 hx13 (fun q hq e => k3 q hq (by rw [e]; exact hoc.1)), ?_⟩
   intro q hq h
   have h9 := (k2.lt q hq).2
   rcases h with (h | h) | h
   ·exact k3 q hq h
   ·omega
   ·have := hlA q h
    omega
  ·intro q hq
   rcases hq with (h | h) | h
   ·have := hlt q h
    omega
   ·omega
   ·have := hlA q h
    omega
  ·exact fun e he => hok e (List.mem_cons_of_mem _ he)
  ·intro q hq
   rcases hq with (h | h) | h
   ·exact .inl h
   ·exact .inr (by omega)
   ·have := hlA q h
    exact .inr (by omega)
 clear hR hRo hvl hvs hoc hlt hok hn hV13 hAs13 hx13 hO13 hG hlA HRR HOO
 go_upto_region 99 with fail
 go_ret
 obtain ⟨g9, a9, O9, e9, f1, f2, f3, f4⟩ := HFIN.out
 subst e9
 exact ⟨_, a9, O9, rfl, f1, f2, f3, f4⟩

end Go.Proofs.Ytbakkmfjamcbfaa

namespace Go.Proofs.Ytbakkmfjamcbfaa
open Go.RowKit Fm
set_option linter.unusedVariables false
set_option maxRecDepth 100000

theorem info_result : (Try.prog.info? 121).map (fun i => (i.zero, i.size, i.bytes)) = some (some (.agg #[.int .u64 0, .int .i64 0, .slice none 0 0, .int .i64 0]), 4, 48) := by kernel_rfl
theorem run_append_Res (w : World) (base : Nat) (ty : TypeId) (v : Value) (n : Nat) (xs : List Value) (hown : w.ownsRow base 121 4 v n xs) (nb : Nat) (ys : List Value) (hys : ys.length = 4) (hN : Vs w nb ys) (h1 : ∀ u, u ∈ ys → u.oneCell' = true) (hbound : n + 1 ≤ 1000000) (hbase : base ≤ w.heap.size) :
  ∃ v' w', (Builtin.append_ #[118, 118] ty #[v, .slice (some ⟨nb, 0, none⟩) 1 1]).run Try.prog w = .ok v' w' ∧ w'.ownsRow base 121 4 v' (n + 1) (xs ++ ys) ∧ w.grownBy w' v.ownBlock ∧
   (v'.ownBlock = v.ownBlock ∨ v'.ownBlock = some w.heap.size) := by
 obtain ⟨i, hi, hz, hi1, hi2⟩ := info_parts info_result
 obtain ⟨v', w', hrun, h3, h4, _, h5⟩ := run_append_own_at (P := Try.prog) w base 118 ty 121 i _ 4 48 Try.underlying118 hi hz hi1 hi2 rfl (by omega) v n _ hown ⟨nb, 0, none⟩ 1 1 ys
  (by rw [hys]) (fun j u hu => by
   rw [Addr.add_mid, Nat.zero_add]
   exact hN.cell j u hu) h1 (by unfold maxLen; omega) (by omega) hbase
 exact ⟨v', w', hrun, h3, h4, h5⟩

theorem resCs_snoc (rs : List ResK) (vs : List Value) (h : vs.length = rs.length) (r : ResK) (v : Value) : resCs (rs ++ [r]) (vs ++ [v]) = resCs rs vs ++ resC r v := by
 unfold resCs
 rw [List.zipWith_append h.symm, List.flatten_append]
 simp

/-! ### a result is put to the others -/
def EnT (w0 : World) (rv : Value) (o1 : Option Nat) (o2 : Option (Option Addr × Nat)) (w : World) : Prop := Exc (fun q => rv.ownBlock = some q) w0.heap.size w0 w
structure EnK (w0 : World) (rv : Value) (n : Nat) (xs ys : List Value) (o1 : Option Nat) (o2 : Option (Option Addr × Nat)) (w : World) : Prop where
 t : Exc (fun q => rv.ownBlock = some q) w0.heap.size w0 w
 a : o2 = none → w.ownsRow 0 121 4 rv n xs
 b : ∀ g, o1 = some g → o2 = none → w0.heap.size ≤ g ∧ Vs w g ys
 c : ∀ p, o2 = some p → w.ownsRow 0 121 4 (.slice p.1 (n + 1) p.2) (n + 1) (xs ++ ys) ∧ ∀ g, (Value.slice p.1 (n + 1) p.2).ownBlock = some g → rv.ownBlock = some g ∨ w0.heap.size ≤ g
section
variable {w0 w w' : World} {rv : Value} {n : Nat} {xs ys : List Value} {o1 : Option Nat} {o2 : Option (Option Addr × Nat)}
theorem EnK.weak (o1 : Option Nat) (o2 : Option (Option Addr × Nat)) (w : World) (h : EnK w0 rv n xs ys o1 o2 w) : EnT w0 rv o1 o2 w := h.t
theorem EnK.clo : Clo (EnK w0 rv n xs ys o1 o2) := fun w w' h hb => ⟨h.t.call hb, fun e => own_call (h.a e) hb, fun g e e2 => ⟨(h.b g e e2).1, (h.b g e e2).2.call hb⟩, fun p e => ⟨own_call (h.c p e).1 hb, (h.c p e).2⟩⟩
theorem EnK.start {w0 : World} (h : w0.ownsRow 0 121 4 rv n xs) : EnK w0 rv n xs ys none none w0.drew :=
 ⟨exc_of ((Below.refl _ _).drew), fun _ => own_call h ((Below.refl _ _).drew), fun _ e => (by cases e), fun _ e => (by cases e)⟩
theorem EnK.mk1 {cs : Array Value} {t : TypeId} (h : EnK w0 rv n xs ys none none w) (hc : cs = ys.toArray) : EnK w0 rv n xs ys (some w.heap.size) none (w.alloc (.cells cs t)) := by
 have h2 := EnK.clo _ _ h ((Below.refl w.heap.size w).alloc (Nat.le_refl _) (.cells cs t))
 refine ⟨h2.t, h2.a, fun g e _ => ?_, h2.c⟩
 injection e with e
 subst e
 exact ⟨h.t.size, Vs.new w _ cs t hc⟩
theorem EnK.mk2 {g : Nat} (h : EnK w0 rv n xs ys (some g) none w) {o : Oper} {a : Act} (s x : Operand) (ho : o.op = .call { callee := .builtin .append, args := #[s, x], argTypes := #[118, 118] })
  (hs : a.eval s = rv) (hx : a.eval x = .slice (some ⟨g, 0, none⟩) 1 1) (hys : ys.length = 4) (h1 : ∀ u, u ∈ ys → u.oneCell' = true) (hn : n + 1 ≤ 1000000) :
  ∃ (p : Option Addr × Nat) (w' : World), (execOp a.eval o).run Try.prog w = .ok (.value (.slice p.1 (n + 1) p.2)) w' ∧ EnK w0 rv n xs ys (some g) (some p) w' := by
 obtain ⟨v', w', hrun, h3, h4, h5⟩ := run_append_Res w 0 o.type rv n xs (h.a rfl) g ys hys (h.b g rfl rfl).2 h1 hn (Nat.zero_le _)
 obtain ⟨A, c, hv⟩ := own_shape h3
 subst hv
 have hx9 : Exc (fun q => rv.ownBlock = some q) w.heap.size w w' := ⟨h4.os, h4.tape, h4.output, h4.size, fun k hk hne => h4.block k hk fun e => hne e.symm⟩
 refine ⟨(A, c), w', ?_, h.t.more hx9 (fun q e => .inl e), fun e => (by cases e), fun _ _ e => (by cases e), fun p e => ?_⟩
 ·unfold execOp
  simp only [ho, resolve, invoke, builtin, Sem.run_bind, Sem.run_pure, Result.andThen_ok, List.map_toArray, List.map_cons, List.map_nil, hs, hx, hrun]
 ·injection e with e
  subst e
  refine ⟨h3, fun q hq => ?_⟩
  rcases h5 with h5 | h5
  ·exact .inl (h5 ▸ hq)
  ·rw [h5] at hq
   injection hq with hq
   have := h.t.size
   exact .inr (by omega)
end

theorem Vs.setRs {w : World} {b : Nat} {tk : List Value} {now qv res : Value} {nx : Int} (ht : tk.length = 8) (h : Vs w b (colL tk now qv nx res)) (v : Value) : Vs (w.setCell ⟨b, 11, none⟩ v) b (colL tk now qv nx v) := by
 have h1 := h.put 11 (by rw [colL_length ht]; omega) v
 have h2 : (colL tk now qv nx res).set 11 v = colL tk now qv nx v := by
  unfold colL
  rw [List.set_append_right _ _ (by omega), ht]
  rfl
 rwa [h2] at h1
theorem Vs.colR {w : World} {b : Nat} {tk : List Value} {now qv res : Value} {nx : Int} (ht : tk.length = 8) (h : Vs w b (colL tk now qv nx res)) : w.frozen? ⟨b, 11, none⟩ = false := h.frz 11 (by rw [colL_length ht]; omega)

set_option maxHeartbeats 8000000 in
theorem collect_end (tk : List Value) (ht : tk.length = 8) (O X : Nat → Prop) (c : Nat) (nowv : Value) (nx : Int) (qs : List Int) (rs : List ResK) (r : ResK) (Av : Option Addr) (nv cv : Nat) (hrs : rs.length ≤ 1000) (w : World) (h : ColS w O X c tk nowv nx qs rs) (hsv : w.ownsRow 0 22 1 (.slice Av nv cv) r.sums.length (cellsU r.sums)) (hso : ∀ g, (Value.slice Av nv cv).ownBlock = some g → ¬ O g) :
  Calls Try.prog 86 #[.pointer (some ⟨c, 0, none⟩), .agg #[.int .u64 r.start, .int .i64 r.many, .slice Av nv cv, .int .i64 r.code]] w fun e w' => e = .returned (.tuple #[]) ∧ ∃ O', ColS w' O' (fun q => q = c) c tk (.pointer none) nx qs (rs ++ [r]) ∧ ColR w w' O O' := by
 have HTK := Lib.hid ht
 obtain ⟨⟨A, R, cp, rp, vs, hV, hown, hob, hR, hRo, hvl, hvs⟩, hoc, hlt, hok⟩ := h
 have hcl0 := hV.lt
 obtain ⟨m, hm⟩ : ∃ z, rs.length = z := ⟨_, rfl⟩
 rw [hm] at hV hR hRo hvl
 have HRR := Lib.hid (And.intro hR (And.intro hRo (And.intro hvl hvs)))
 have HQQ := Lib.hid (And.intro hown hob)
 have HOO := Lib.hid (And.intro hoc (And.intro hlt hok))
 have HSV := Lib.hid (And.intro hsv hso)
 have HM := Lib.hid hm
 have hrb : ∀ q, (Value.slice R m rp).ownBlock = some q → q ≠ c ∧ q < w.heap.size := fun q hq => ⟨fun e => (hRo q hq).2 (e ▸ hoc.2), (hR.lt q hq).2⟩
 clear hown hob hR hRo hvl hvs hlt hok hsv hso ht hm hoc
 go_enter Try.func86, Try.ntmps86
 go_upto_region 1 with fail
 have hB := Vs.new w [.int .u64 r.start, .int .i64 r.many, .slice Av nv cv, .int .i64 r.code] #[.int .u64 r.start, .int .i64 r.many, .slice Av nv cv, .int .i64 r.code] 121 rfl
 have hb00 : Below w.heap.size w (w.alloc (.cells #[.int .u64 r.start, .int .i64 r.many, .slice Av nv cv, .int .i64 r.code] 121)) := by repeat (first | exact bA | with_reducible assumption | apply bB)
 have hszn : w.heap.size + 1 ≤ (w.alloc (.cells #[.int .u64 r.start, .int .i64 r.many, .slice Av nv cv, .int .i64 r.code] 121)).heap.size := by simp only [World.size_alloc]; omega
 generalize (w.alloc (.cells #[.int .u64 r.start, .int .i64 r.many, .slice Av nv cv, .int .i64 r.code] 121)) = w1 at hB hb00 hszn ⊢
 have hV1 := hV.call hb00
 have hR1 := own_call HRR.out.1 hb00
 have hBl := hB.lt
 apply region_Z2 (n := 10) (m := 11) (f := 10) (fun x0 x1 => (EnK w1 (.slice R m rp) m (resCs rs vs) (resC r (.slice Av nv cv))) (some x0) (some x1) ) ((EnT w1 (.slice R m rp)) none none) ((EnK w1 (.slice R m rp) m (resCs rs vs) (resC r (.slice Av nv cv))) none none) ((EnK.weak _ _)) (EnK.clo) ((EnK.start hR1))
 case hm => kernel_rfl
 case hB => kernel_rfl
 case hf => rfl
 case' h =>
  refine WpX.vD 0 (some 4) ?_ rfl rfl (by kernel_rfl) (fun _ _ _ h => h) rfl (fun wz hwz => ?_) ?_
  rotate_left
  ·go_simp; try (with_reducible rfl)
  simp only [Zp, Zq, Zr, Zs]
  refine WpX.vD 1 (some 5) ?_ rfl rfl (by kernel_rfl) (fun _ _ _ h => h) rfl (fun wz hwz => ?_) ?_
  rotate_left
  ·go_simp; try (with_reducible rfl)
  simp only [Zp, Zq, Zr, Zs]
  refine WpX.vD 2 (some 6) ?_ rfl rfl (by kernel_rfl) (fun _ _ _ h => h) rfl (fun wz hwz => ?_) ?_
  rotate_left
  ·go_simp; try (with_reducible rfl)
  simp only [Zp, Zq, Zr, Zs]
  refine WpX.vD 3 (some 7) ?_ rfl rfl (by kernel_rfl) (fun _ _ _ h => h) rfl (fun wz hwz => ?_) ?_
  rotate_left
  ·go_simp; try (with_reducible rfl)
  simp only [Zp, Zq, Zr, Zs]
  refine WpX.vD 4 (some 8) ?_ rfl rfl (by kernel_rfl) (fun _ _ _ h => h) rfl (fun wz hwz => ?_) ?_
  rotate_left
  ·(have q := ((hV1.exc (S := fun q => (Value.slice R m rp).ownBlock = some q) (fun e => (hrb _ e).1 rfl) hwz).col HTK.out).2.2.2.1; have q2 := (hV1.exc (S := fun q => (Value.slice R m rp).ownBlock = some q) (fun e => (hrb _ e).1 rfl) hwz).lt; go_simp; try (with_reducible rfl))
  simp only [Zp, Zq, Zr, Zs]
  refine WpX.vD 5 (some 9) ?_ rfl rfl (by kernel_rfl) (fun _ _ _ h => h) rfl (fun wz hwz => ?_) ?_
  rotate_left
  ·(have hz := (hB.exc (S := fun q => (Value.slice R m rp).ownBlock = some q) (fun e => by have := (hrb _ e).2; omega) hwz).get4; obtain ⟨⟨z0, z1, z2, z3⟩, ⟨z4, z5, z6, z7⟩, z8⟩ := hz; go_simp; try (with_reducible rfl))
  simp only [Zp, Zq, Zr, Zs]
  refine WpX.oneD 6 (some 10) rfl rfl (by kernel_rfl) (fun g1 : Nat => Value.slice (some ⟨g1, 0, none⟩) 1 1) (fun g1 => (EnT w1 (.slice R m rp)) (some g1) none) (fun g1 => (EnK w1 (.slice R m rp) m (resCs rs vs) (resC r (.slice Av nv cv))) (some g1) none) (Turns.val rfl (fun _ _ h => h) (fun _ => (EnK.weak _ _)) (fun _ => EnK.clo) (fun wz hS => ⟨wz.heap.size, wz.alloc (.cells #[.int .u64 r.start, .int .i64 r.many, .slice Av nv cv, .int .i64 r.code] 121), by go_simp; try (with_reducible rfl), hS.mk1 rfl⟩)) (fun g1 => ?_)
  simp only [Zp, Zq, Zr, Zs]
  refine WpX.oneD 7 (some 11) rfl rfl (by kernel_rfl) (fun p2 : Option Addr × Nat => Value.slice p2.1 (m + 1) p2.2) (fun p2 => (EnT w1 (.slice R m rp)) (some g1) (some p2)) (fun p2 => (EnK w1 (.slice R m rp) m (resCs rs vs) (resC r (.slice Av nv cv))) (some g1) (some p2)) (Turns.val rfl (fun _ _ h => h) (fun _ => (EnK.weak _ _)) (fun _ => EnK.clo) (fun wz hS => hS.mk2 (.tmp 8) (.tmp 10) rfl (by kernel_rfl) (by kernel_rfl) rfl (by intro u hu; unfold resC at hu; simp at hu; rcases hu with rfl | rfl | rfl | rfl <;> rfl) (by have := HM.out; omega))) (fun p2 => ?_)
  simp only [Zp, Zq, Zr, Zs]
  refine WpX.vD 8 (some 12) ?_ rfl rfl (by kernel_rfl) (fun _ _ _ h => h) rfl (fun wz hwz => ?_) ?_
  rotate_left
  ·go_simp; try (with_reducible rfl)
  simp only [Zp, Zq, Zr, Zs]
  refine WpX.vD 9 (some 13) ?_ rfl rfl (by kernel_rfl) (fun _ _ _ h => h) rfl (fun wz hwz => ?_) ?_
  rotate_left
  ·go_simp; try (with_reducible rfl)
  simp only [Zp, Zq, Zr, Zs]
  refine WpX.done (by kernel_rfl) (fun w2 hS => ⟨g1, p2, rfl, ?_⟩)
  ·exact hS
 intro g1 p2 w2 hS
 (try simp only [List.drop_succ_cons]); (try simp only [List.drop_zero]); (try simp only [Nat.reduceSub]); (try simp only [List.take_succ_cons]); (try simp only [List.take_zero])
 obtain ⟨pa, pc⟩ := p2
 have hP := hS.c _ rfl
 dsimp only at hP ⊢
 have hx2 := hS.t
 have hV2 := hV1.exc (S := fun q => (Value.slice R m rp).ownBlock = some q) (fun e => (hrb _ e).1 rfl) hx2
 have HX2 : Exc (fun q => (Value.slice R m rp).ownBlock = some q ∨ q = c) w.heap.size w w2 := (exc_of hb00).trans ((hx2.mono hb00.size).less fun q _ e => .inl e)
 have hs1 := hb00.size
 have hpl : ∀ q, (Value.slice pa (m + 1) pc).ownBlock = some q → q ≠ c ∧ q < w2.heap.size := fun q hq => ⟨fun e => by
  rcases hP.2 q hq with h | h
  ·exact (hrb q h).1 e
  ·omega, (hP.1.lt q hq).2⟩
 clear hS hx2 hV1 hR1 hB hBl hb00 hV
 obtain ⟨c8, c9, c10, c11, f8, f9, f10, hcl⟩ := hV2.col HTK.out
 have f11 := hV2.colR HTK.out
 go_upto_region 2 with fail
 clear c8 c9 c10 c11 f8 f9 f10 hcl f11
 have hV3 := hV2.setRs HTK.out (.slice pa (m + 1) pc)
 have HX3 := exc_sc HX2 (.inl (.inr rfl)) 11 (.slice pa (m + 1) pc)
 have hP3 := own_other hP.1 (exc_sc (S := fun q => q = c) (exc_of (Below.refl _ _)) (.inl rfl) 11 (.slice pa (m + 1) pc)) (fun q hq e => (hpl q hq).1 e)
 have hP2 := hP.2
 clear hV2 HX2 hP
 generalize w2.setCell ⟨c, 11, none⟩ (.slice pa (m + 1) pc) = w3 at hV3 HX3 hP3 ⊢
 obtain ⟨c8, c9, c10, c11, f8, f9, f10, hcl⟩ := hV3.col HTK.out
 have HFIN : Hid (∃ O', ColS (w3.setCell ⟨c, 8, none⟩ (.pointer none)) O' (fun q => q = c) c tk (.pointer none) nx qs (rs ++ [r]) ∧ ColR w (w3.setCell ⟨c, 8, none⟩ (.pointer none)) O O') := by
  have hV4 := hV3.setN HTK.out (.pointer none)
  have HX4 := exc_sc HX3 (.inl (.inr rfl)) 8 (.pointer none)
  have hP4 := own_other hP3 (exc_sc (S := fun q => q = c) (exc_of (Below.refl _ _)) (.inl rfl) 8 (.pointer none)) (fun q hq e => (hpl q hq).1 e)
  obtain ⟨hR, hRo, hvl, hvs⟩ := HRR.out
  obtain ⟨hown, hob⟩ := HQQ.out
  obtain ⟨hoc, hlt, hok⟩ := HOO.out
  obtain ⟨hsv, hso⟩ := HSV.out
  have hm := HM.out
  have hs4 := HX4.size
  generalize w3.setCell ⟨c, 8, none⟩ (.pointer none) = w4 at hV4 HX4 hP4 hs4 ⊢
  have hl4 : (rs ++ [r]).length = m + 1 := by rw [List.length_append, hm]; rfl
  have hE : ∀ {t : TypeId} {z n : Nat} {v : Value} {xs : List Value}, w.ownsRow 0 t z v n xs → (∀ g, v.ownBlock = some g → ¬ O g) → w4.ownsRow 0 t z v n xs := fun h1 h2 => own_other h1 HX4 (fun g hg e => by
   rcases e with e | e
   ·exact h2 g hg (hRo g e).1
   ·exact h2 g hg (e ▸ hoc.1))
  have hgl : ∀ q, (Value.slice R m rp).ownBlock = some q → q < w.heap.size := fun q hq => (hR.lt q hq).2
  refine ⟨fun q => O q ∨ (Value.slice pa (m + 1) pc).ownBlock = some q, ⟨⟨A, pa, cp, pc, vs ++ [.slice Av nv cv], by rw [hl4]; exact hV4, own_other hown HX4 (fun g hg e => ?_), fun g hg => ⟨.inl (hob g hg).1, fun e => ?_, fun e => ?_⟩, ?_, ?_, by rw [List.length_append, hvl, hl4]; rfl, ?_⟩, ⟨.inl hoc.1, rfl⟩, ?_, hok⟩, ?_, HX4.less fun q _ e => ?_⟩
  ·rcases e with e | e
   ·rw [hm] at hob
    exact (hob g hg).2.2 e
   ·exact (hob g hg).2.1 (e ▸ hoc.2)
  ·exact (hob g hg).2.1 (e ▸ hoc.2)
  ·rw [hl4] at e
   rw [hm] at hob
   rcases hP2 g e with h | h
   ·exact (hob g hg).2.2 h
   ·have := (hown.lt g hg).2
    omega
  ·rw [hl4, resCs_snoc rs vs (by rw [hvl, hm])]
   exact hP4
  ·intro g hg
   rw [hl4] at hg
   exact ⟨.inr hg, (hpl g hg).1⟩
  ·intro i r' v h1 h2
   by_cases hi : i < rs.length
   ·rw [List.getElem?_append_left hi] at h1
    rw [List.getElem?_append_left (by rw [hvl]; omega)] at h2
    obtain ⟨k1, k2, k3⟩ := hvs i r' v h1 h2
    refine ⟨k1, hE k2 k3, fun g hg e => ?_⟩
    rcases e with e | e
    ·exact k3 g hg e
    ·rcases hP2 g e with h | h
     ·exact k3 g hg (hRo g h).1
     ·have := (k2.lt g hg).2
      omega
   ·have hi2 : i = rs.length := by
     have := (List.getElem?_eq_some_iff.1 h1).1
     rw [hl4] at this
     omega
    subst hi2
    rw [List.getElem?_append_right (Nat.le_refl _), Nat.sub_self] at h1
    rw [List.getElem?_append_right (by rw [hvl, hm]; exact Nat.le_refl _), hvl, hm, Nat.sub_self] at h2
    injection h1 with h1
    injection h2 with h2
    subst h1 h2
    refine ⟨rfl, hE hsv hso, fun g hg e => ?_⟩
    rcases e with e | e
    ·exact hso g hg e
    ·rcases hP2 g e with h | h
     ·exact hso g hg (hRo g h).1
     ·have := (hsv.lt g hg).2
      omega
  ·intro q hq
   rcases hq with h | h
   ·have := hlt q h
    omega
   ·exact (hP4.lt q h).2
  ·intro q hq
   rcases hq with h | h
   ·exact .inl h
   ·rcases hP2 q h with h2 | h2
    ·exact .inl (hRo q h2).1
    ·exact .inr (by omega)
  ·rcases e with e | e
   ·exact (hRo q e).1
   ·rw [e]
    exact hoc.1
 clear HRR HQQ HOO HSV hrb hV3 HX3 hP3 hP2 hpl
 go_upto_region 99 with fail
 exact end_none Try.results86 rfl ⟨rfl, HFIN.out⟩

end Go.Proofs.Ytbakkmfjamcbfaa

namespace Go.Proofs.Ytbakkmfjamcbfaa
open Go.RowKit Fm
set_option linter.unusedVariables false
set_option maxRecDepth 100000

theorem resCs_at : ∀ (rs : List ResK) (vs : List Value) (i : Nat) (r : ResK) (v : Value), rs[i]? = some r → vs[i]? = some v → ∀ (j : Nat) (u : Value), (resC r v)[j]? = some u → (resCs rs vs)[i * 4 + j]? = some u
 | [], _, i, r, v, h, _, _, _, _ => by simp at h
 | _ :: _, [], i, r, v, _, h, _, _, _ => by simp at h
 | r :: rs, v :: vs, 0, r', v', h1, h2, j, u, hu => by
  simp at h1 h2
  subst h1 h2
  unfold resCs
  rw [List.zipWith_cons_cons, List.flatten_cons, Nat.zero_mul, Nat.zero_add, List.getElem?_append_left (List.getElem?_eq_some_iff.1 hu).1]
  exact hu
 | r :: rs, v :: vs, i + 1, r', v', h1, h2, j, u, hu => by
  have h9 := resCs_at rs vs i r' v' (by simpa using h1) (by simpa using h2) j u hu
  unfold resCs at h9 ⊢
  rw [List.zipWith_cons_cons, List.flatten_cons, List.getElem?_append_right (by show 4 ≤ _; omega)]
  show ((List.zipWith resC rs vs).flatten)[(i + 1) * 4 + j - 4]? = some u
  rw [show (i + 1) * 4 + j - 4 = i * 4 + j by omega]
  exact h9

theorem size_res : (Try.prog.info? 121).map (·.size) = some 4 := by kernel_rfl
theorem resC_one (r : ResK) {u : Value} (h : u.oneCell' = true) : ∀ v, v ∈ resC r u → v.oneCell' = true := by
 intro v hv
 unfold resC at hv
 simp at hv
 rcases hv with rfl | rfl | rfl | rfl <;> first | rfl | exact h
def ResR (w : World) (B : Nat) (v : Value) (n : Nat) (rs : List ResK) : Prop :=
 rs.length = n ∧ ∃ vs : List Value, w.ownsRow B 121 4 v n (resCs rs vs) ∧ vs.length = n ∧ ∀ (i : Nat) (r : ResK) (u : Value), rs[i]? = some r → vs[i]? = some u → ∃ (A : Option Addr) (c : Nat), u = .slice A r.sums.length c ∧ w.ownsRow B 22 1 (.slice A r.sums.length c) r.sums.length (cellsU r.sums) ∧ ∀ g, (Value.slice A r.sums.length c).ownBlock = some g → v.ownBlock ≠ some g
theorem ResR.call {w w' : World} {B n : Nat} {v : Value} {rs : List ResK} (h : ResR w B v n rs) (hb : Below w.heap.size w w') : ResR w' B v n rs := by
 obtain ⟨h0, vs, h1, h2, h3⟩ := h
 refine ⟨h0, vs, own_call h1 hb, h2, fun i r u a b => ?_⟩
 obtain ⟨A, c, e, ho, hg⟩ := h3 i r u a b
 exact ⟨A, c, e, own_call ho hb, hg⟩
theorem ResR.snoc {w w' : World} {B n : Nat} {v v' : Value} {rs : List ResK} {r : ResK} {A : Option Addr} {c : Nat} {vs : List Value} (h0 : rs.length = n) (h1 : w.ownsRow B 121 4 v n (resCs rs vs)) (h2 : vs.length = n)
  (h3 : ∀ (i : Nat) (r : ResK) (u : Value), rs[i]? = some r → vs[i]? = some u → ∃ (A : Option Addr) (c : Nat), u = .slice A r.sums.length c ∧ w.ownsRow B 22 1 (.slice A r.sums.length c) r.sums.length (cellsU r.sums) ∧ ∀ g, (Value.slice A r.sums.length c).ownBlock = some g → v.ownBlock ≠ some g) (hs : w.ownsRow B 22 1 (.slice A r.sums.length c) r.sums.length (cellsU r.sums)) (hn : ∀ g, (Value.slice A r.sums.length c).ownBlock = some g → v.ownBlock ≠ some g)
  (hv : w'.ownsRow B 121 4 v' (n + 1) (resCs rs vs ++ resC r (.slice A r.sums.length c))) (hg : w.grownBy w' v.ownBlock) (hat : v'.ownBlock = v.ownBlock ∨ v'.ownBlock = some w.heap.size) : ResR w' B v' (n + 1) (rs ++ [r]) := by
 have hx : Exc (fun q => v.ownBlock = some q) w.heap.size w w' := ⟨hg.os, hg.tape, hg.output, hg.size, fun k hk hne => hg.block k hk fun e => hne e.symm⟩
 have hnew : ∀ {A' : Option Addr} {n' c' : Nat} {xs : List Value}, w.ownsRow B 22 1 (.slice A' n' c') n' xs → (∀ g, (Value.slice A' n' c').ownBlock = some g → v.ownBlock ≠ some g) → w'.ownsRow B 22 1 (.slice A' n' c') n' xs ∧ ∀ g, (Value.slice A' n' c').ownBlock = some g → v'.ownBlock ≠ some g := fun ho hne => ⟨own_other ho hx (fun g hg e => hne g hg e), fun g hg e => by
  rcases hat with h | h
  ·exact hne g hg (h ▸ e)
  ·rw [h] at e
   injection e with e
   have := (ho.lt g hg).2
   omega⟩
 refine ⟨by rw [List.length_append, h0]; rfl, vs ++ [.slice A r.sums.length c], by rw [resCs_snoc rs vs (by rw [h2, h0])]; exact hv, by rw [List.length_append, h2]; rfl, fun i r' u a b => ?_⟩
 by_cases hi : i < rs.length
 ·rw [List.getElem?_append_left hi] at a
  rw [List.getElem?_append_left (by rw [h2]; omega)] at b
  obtain ⟨A', c', e, ho, hg'⟩ := h3 i r' u a b
  exact ⟨A', c', e, hnew ho hg'⟩
 ·have hi2 : i = rs.length := by
   have := (List.getElem?_eq_some_iff.1 a).1
   rw [List.length_append] at this
   have h9 : [r].length = 1 := rfl
   omega
  subst hi2
  rw [List.getElem?_append_right (Nat.le_refl _), Nat.sub_self] at a
  rw [List.getElem?_append_right (by rw [h2, h0]; exact Nat.le_refl _), h2, h0, Nat.sub_self] at b
  injection a with a
  injection b with b
  subst a b
  exact ⟨A, c, rfl, hnew hs hn⟩

theorem append_ResR {w : World} (s x : Operand) (B n : Nat) (v : Value) (rs : List ResK) (hR : ResR w B v n rs) (r : ResK) (A : Option Addr) (c nb : Nat) (hN : Vs w nb (resC r (.slice A r.sums.length c)))
  (hsv : w.ownsRow B 22 1 (.slice A r.sums.length c) r.sums.length (cellsU r.sums)) (hne : ∀ g, (Value.slice A r.sums.length c).ownBlock = some g → v.ownBlock ≠ some g) (hbound : n + 1 ≤ 1000000) (hbase : B ≤ w.heap.size) :
  ∃ (A' : Option Addr) (c' : Nat) (w' : World), (∀ (ρ : Operand → Value) (o : Oper), o.op = .call { callee := .builtin .append, args := #[s, x], argTypes := #[118, 118] } → o.type = 118 → ρ s = v → ρ x = .slice (some ⟨nb, 0, none⟩) 1 1 → (execOp ρ o).run Try.prog w = .ok (.value (.slice A' (n + 1) c')) w') ∧ ResR w' B (.slice A' (n + 1) c') (n + 1) (rs ++ [r]) ∧ Below B w w' := by
 obtain ⟨h0, vs, h1, h2, h3⟩ := hR
 obtain ⟨v', w', hrun, k2, k3, k4⟩ := run_append_Res w B 118 v n (resCs rs vs) h1 nb (resC r (.slice A r.sums.length c)) rfl hN (resC_one r rfl) hbound hbase
 obtain ⟨A', c', hv'⟩ := own_shape k2
 subst hv'
 refine ⟨A', c', w', fun ρ o ho ht hs hx => ?_, ResR.snoc (w := w) h0 h1 h2 h3 hsv hne k2 k3 k4, (Below.refl _ _).grown k3 hbase (fun q hq => (h1.lt q hq).1)⟩
 unfold execOp
 simp only [ho, ht, resolve, invoke, builtin, Sem.run_bind, Sem.run_pure, Result.andThen_ok, List.map_toArray, List.map_cons, List.map_nil, hs, hx, hrun]

set_option maxHeartbeats 8000000 in
theorem collect_Results (tk : List Value) (ht : tk.length = 8) (O X : Nat → Prop) (c : Nat) (nowv : Value) (nx : Int) (qs : List Int) (rs : List ResK) (hrs : rs.length ≤ 1000) (hsl : ∀ r, r ∈ rs → r.sums.length ≤ 1000) (w : World) (h : ColS w O X c tk nowv nx qs rs) :
  Calls Try.prog 47 #[.pointer (some ⟨c, 0, none⟩)] w fun e w' => ∃ (A : Option Addr) (cp : Nat), e = .returned (.slice A rs.length cp) ∧ ResR w' w.heap.size (.slice A rs.length cp) rs.length rs ∧ Below w.heap.size w w' := by
 have HTK := Lib.hid ht
 obtain ⟨⟨A, R, cp, rp, vs, hV, _, _, hR, _, hvl, hvs⟩, _, _, _⟩ := h
 obtain ⟨m, hm⟩ : ∃ z, rs.length = z := ⟨_, rfl⟩
 rw [hm] at hV hR hvl
 have HM := Lib.hid hm
 have HR := Lib.hid hR
 have HVL := Lib.hid hvl
 have HVS := Lib.hid hvs
 have HSL := Lib.hid hsl
 have hm9 : m ≤ 1000 := by omega
 rw [hm]
 obtain ⟨c8, c9, c10, c11, f8, f9, f10, hcl⟩ := hV.col ht
 clear hR hvl hvs hm hsl hrs ht
 go_enter Try.func47, Try.ntmps47
 go_upto_region 5 with fail
 clear c8 c9 c10 c11 f8 f9 f10 hcl hV
 have hmi : (m : Int) ≤ 1000 := by omega
 go_loopw [3, 13] (fun v3 v13 wr => ∃ (i : Nat) (A : Option Addr) (cp : Nat), i ≤ m ∧ v13 = .int .i64 i ∧ v3 = .slice A i cp ∧ ResR wr w.heap.size (.slice A i cp) i (rs.take i) ∧ Below w.heap.size w wr) (fun _ v13 _ => m - (intOf v13).toNat)
 case atStart => exact ⟨0, none, 0, Nat.zero_le _, rfl, rfl, ⟨by simp, [], World.ownsRow_nil _ _ _ _, rfl, fun i r u a => by simp at a⟩, Below.refl _ _⟩
 case round =>
  obtain ⟨i, A1, cp1, hi, rfl, rfl, hR1, hbw⟩ := hrel
  by_cases hlt : i < m
  ·have hlti : (i : Int) < (m : Int) := by omega
   have hwi : IntKind.i64.wrap ((i : Int) + 1) = (i : Int) + 1 := IntWalk.i64_in _ (by omega)
   obtain ⟨r, hr⟩ : ∃ r, rs[i]? = some r := ⟨_, List.getElem?_eq_getElem (by rw [HM.out]; exact hlt)⟩
   obtain ⟨u, hu⟩ : ∃ u, vs[i]? = some u := ⟨_, List.getElem?_eq_getElem (by rw [HVL.out]; exact hlt)⟩
   obtain ⟨hu1, hou, _⟩ := HVS.out i r u hr hu
   have hou2 := own_call hou (hbw.mono (Nat.le_refl _))
   obtain ⟨g, cg, hg⟩ := own_sl9 HR.out (by omega)
   rw [hg]
   have hgl := (HR.out.lt g (by rw [hg]; rfl)).2
   have hra : wr.rangeAt g (i * 4) (resC r u) := fun j v hj => by
    have h1 := HR.out.cells (g := g) (by rw [hg]; rfl) (i * 4 + j) v (resCs_at rs vs i r u hr hu j v hj)
    rw [Addr.add_mid, Nat.zero_add] at h1
    exact (hbw.cell (p := ⟨g, i * 4 + j, none⟩) hgl).trans h1
   have hgl9 : g < wr.heap.size := Nat.lt_of_lt_of_le hgl hbw.size
   have hsm := HSL.out r (List.mem_of_getElem? hr)
   have HRT := Lib.hid (show rs.take (i + 1) = rs.take i ++ [r] by rw [List.take_add_one, hr]; rfl)
   clear hr hu hg hgl hou
   go_upto_region 6 with fail
   refine wp_region_lit ?_
   refine wpList_valD (some 15) rfl rfl (by (go_simp; first | with_reducible rfl | exact ⟨rfl, rfl⟩ | (trace_state; fail))) ?_
   simp only [Zp, Zq, Zr, Zs]
   refine wpList_valD (some 16) rfl rfl (exec_load rfl (by kernel_rfl) (run_loadAt_mid wr g (i * 4) _ (resC r u) _ hra Try.underlying121 rfl size_res)) ?_
   simp only [Zp, Zq, Zr, Zs]
   refine wpList_valD (some 5) rfl rfl (by (skip; go_simp; first | with_reducible rfl | exact ⟨rfl, rfl⟩ | (trace_state; fail))) ?_
   simp only [Zp, Zq, Zr, Zs]
   have hA := Vs.new wr (resC ⟨0, 0, [], 0⟩ (.slice none 0 0)) #[.int .u64 0, .int .i64 0, .slice none 0 0, .int .i64 0] 121 rfl
   have hbA := (Below.refl wr.heap.size wr).alloc (Nat.le_refl _) (.cells #[.int .u64 0, .int .i64 0, .slice none 0 0, .int .i64 0] 121)
   refine wpList_skipD rfl rfl (exec_store rfl (by kernel_rfl) (by kernel_rfl) (store_W hA (l' := resC r u) rfl size_res (resC_one r hu1))) ?_
   have hA2 := hA.setW (l' := resC r u) rfl
   have hb2 := bl_setCells hbA (Nat.le_refl _) 0 (resC r u)
   clear hA hbA
   generalize (wr.alloc (.cells #[.int .u64 0, .int .i64 0, .slice none 0 0, .int .i64 0] 121)).setCells wr.heap.size 0 (resC r u) = w2 at hA2 hb2 ⊢
   have hou3 := own_call hou2 (hb2.mono (Nat.le_refl _))
   have hwz := hbw.size
   have HRB := Lib.hid (And.intro hR1 (And.intro hb2 hbw))
   obtain ⟨nb, hnb⟩ : ∃ z, wr.heap.size = z := ⟨_, rfl⟩
   rw [hnb] at hA2 hwz
   simp only [hnb]
   have HNB := Lib.hid hnb
   clear hb2 hbw hou2 hR1 hgl9 hra hnb
   have hA2l := hA2.lt
   have q2 := hA2.cell 2 u rfl
   have hcl := clone_Uo u r.sums.length r.sums rfl (by omega) 0 w2 hou3
   have f2 := hA2.frz 2 (show 2 < 4 by decide)
   go_upto_region 7 with fail
   refine wp_region_lit ?_
   refine wpList_valD (some 17) rfl rfl (by (go_simp; first | with_reducible rfl | exact ⟨rfl, rfl⟩ | (trace_state; fail))) ?_
   simp only [Zp, Zq, Zr, Zs]
   refine wpList_valD (some 18) rfl rfl (by (go_simp; first | with_reducible rfl | exact ⟨rfl, rfl⟩ | (trace_state; fail))) ?_
   simp only [Zp, Zq, Zr, Zs]
   refine wpList_callD (some 19) rfl rfl 83 _ ?_ (hcl) ?_
   ·go_simp; try (with_reducible rfl)
   rintro e w3 ⟨A2, c2, rfl, ho3, hb3⟩
   refine ⟨_, rfl, ?_⟩
   simp only [Zp, Zq, Zr, Zs]
   have q3 := (hA2.call hb3).cell 2 u rfl
   have f3 := (hA2.call hb3).frz 2 (show 2 < 4 by decide)
   have l3 := (hA2.call hb3).lt
   refine wpList_valD (some 20) rfl rfl (by (go_simp; first | with_reducible rfl | exact ⟨rfl, rfl⟩ | (trace_state; fail))) ?_
   simp only [Zp, Zq, Zr, Zs]
   refine wpList_skipD rfl rfl (by (skip; go_simp; first | with_reducible rfl | exact ⟨rfl, rfl⟩ | (trace_state; fail))) ?_
   have hA3 := (hA2.call hb3).put 2 (show 2 < 4 by decide) (.slice A2 r.sums.length c2)
   have hcol : Below nb wr w2 := by rw [← HNB.out]; exact HRB.out.2.1
   have hb4 : Below nb wr (w3.setCell ⟨nb, 2, none⟩ (.slice A2 r.sums.length c2)) := (exc_sc (S := fun q => q = nb) (exc_of (hcol.trans (hb3.mono (by omega)))) (.inl rfl) 2 _).below fun k hk e => by
    have e2 : k = nb := e
    omega
   have hR4 := HRB.out.1.call (by rw [HNB.out]; exact hb4)
   have hbw4 := HRB.out.2.2.trans (hb4.mono hwz)
   have hz3 := hb3.size
   have hpl : ∀ q, (Value.slice A2 r.sums.length c2).ownBlock = some q → w2.heap.size ≤ q := fun q hq => (ho3.lt q hq).1
   have ho4 := own_lower (own_other ho3 (exc_sc (S := fun q => q = nb) (exc_of (Below.refl _ _)) (.inl rfl) 2 (.slice A2 r.sums.length c2)) (fun q hq e => by
    have e2 : q = nb := e
    have := hpl q hq
    omega)) (show w.heap.size ≤ w2.heap.size by omega)
   have hne4 : ∀ q, (Value.slice A2 r.sums.length c2).ownBlock = some q → (Value.slice A1 i cp1).ownBlock ≠ some q := fun q hq e => by
    obtain ⟨_, vs', h1, _⟩ := HRB.out.1
    have h2 := (h1.lt q e).2
    have h3 := hpl q hq
    have h4 := HNB.out
    omega
   replace hA3 : Vs (w3.setCell ⟨nb, 2, none⟩ (.slice A2 r.sums.length c2)) nb (resC r (.slice A2 r.sums.length c2)) := hA3
   clear hb3 hcol hb4 hA2 q2 f2 q3 f3 l3 hou3 ho3 hpl hz3
   generalize w3.setCell ⟨nb, 2, none⟩ (.slice A2 r.sums.length c2) = w4 at hA3 hR4 hbw4 ho4 ⊢
   clear hA2l
   have hA3l := hA3.lt
   have hsz4 := hbw4.size
   go_upto_region 8 with fail
   refine wp_region_lit ?_
   refine wpList_valD (some 21) rfl rfl (by (go_simp; first | with_reducible rfl | exact ⟨rfl, rfl⟩ | (trace_state; fail))) ?_
   simp only [Zp, Zq, Zr, Zs]
   refine wpList_valD (some 22) rfl rfl (exec_load rfl (by kernel_rfl) (load_W (l := [.int .u64 r.start, .int .i64 r.many, .slice A2 r.sums.length c2, .int .i64 r.code]) hA3 Try.underlying121 rfl size_res)) ?_
   simp only [Zp, Zq, Zr, Zs]
   refine wpList_valD (some 23) rfl rfl (by (skip; go_simp; first | with_reducible rfl | exact ⟨rfl, rfl⟩ | (trace_state; fail))) ?_
   simp only [Zp, Zq, Zr, Zs]
   have hN := Vs.new w4 (resC r (.slice A2 r.sums.length c2)) #[.int .u64 r.start, .int .i64 r.many, .slice A2 r.sums.length c2, .int .i64 r.code] 121 rfl
   have hbN := (Below.refl w4.heap.size w4).alloc (Nat.le_refl _) (.cells #[.int .u64 r.start, .int .i64 r.many, .slice A2 r.sums.length c2, .int .i64 r.code] 121)
   have hwz5 := (hbw4.trans (hbN.mono hsz4)).size
   obtain ⟨A6, c6, w6, hex, hR6, hb6⟩ := append_ResR (.tmp 21) (.tmp 23) w.heap.size i (.slice A1 i cp1) (rs.take i) (hR4.call hbN) r A2 c2 w4.heap.size hN (own_call ho4 hbN) hne4 (by omega) hwz5
   refine wpList_valD (some 24) rfl rfl (hex _ _ rfl rfl rfl rfl) ?_
   simp only [Zp, Zq, Zr, Zs]
   refine wpList_valD (some 3) rfl rfl (by (go_simp; first | with_reducible rfl | exact ⟨rfl, rfl⟩ | (trace_state; fail))) ?_
   simp only [Zp, Zq, Zr, Zs]
   have hbw6 := (hbw4.trans (hbN.mono hsz4)).trans (hb6.mono (Nat.le_refl _))
   rw [← HRT.out] at hR6
   clear hR4 ho4 hbw4 hbN hA3 hA3l hcl hN hex hb6 hwz5
   go_upto_region 9 with fail
   go_wp2_with fail
   go_roundw
   case rel => exact ⟨i + 1, A6, c6, by omega, by go_num, rfl, hR6, hbw6⟩
   case measure => simp [intOf]; omega
  ·obtain rfl : i = m := by omega
   rw [List.take_of_length_le (by rw [HM.out]; exact Nat.le_refl _)] at hR1
   go_wp2_with fail
   go_ret
   exact ⟨A1, cp1, rfl, hR1, hbw⟩

end Go.Proofs.Ytbakkmfjamcbfaa
