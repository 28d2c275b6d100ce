/-
  WALKS: circuit.Gadget, Proof, Verifier; Check of circuits in range.
-/
/-
  SINGLE STEPS of a region that does not draw, of any program; a whole store into the block made last.
-/
import Derived.Test.YtiphahbeedeebaaMak
import Derived.Test.YtiphahbeedeebaaMah
import Derived.Deep.WholeRow
namespace Go.Proofs.Ytiphahbeedeebaa
open Go.RowKit Fm
set_option linter.unusedVariables false
set_option maxRecDepth 100000

section
variable {f : Nat} (hf : IsF f)
include hf

/-- as gadget_Bit; the coefficients' block is new -/
def RetGB (w : World) (e : Ending) (w' : World) : Prop :=
  ∃ b : Nat, e = .returned (.agg #[.int .u8 2, .slice (some ⟨b, 0, none⟩) 3 3, .int .i64 0]) ∧ w.heap.size ≤ b ∧ BlkE w' b (esK ([0, -1, 1] : KL f)) ∧ Below w.heap.size w w'

omit hf in
theorem setCell_size (w : World) (p : Addr) (x : Value) : (w.setCell p x).heap.size = w.heap.size := by simp [World.setCell]

set_option maxHeartbeats 4000000 in
theorem gadget_Bit2 (w : World) : Calls Try.prog 33 #[.int .u8 f] w (RetGB (f := f) w) := by
  go_enter Try.func33, Try.ntmps33
  go_upto_region 1 with fail
  have hr := Vs.new w [.int .u8 0, .slice none 0 0, .int .i64 0] #[.int .u8 0, .slice none 0 0, .int .i64 0] 47 rfl
  have hb00 : Below w.heap.size w (w.alloc (.cells #[.int .u8 0, .slice none 0 0, .int .i64 0] 47)) := by repeat (first | exact Below.refl _ _ | with_reducible assumption | (refine bl_alloc ?_ (Nat.le_refl _) _) | (refine bl_set ?_ (by dsimp only; omega) _) | (refine Below.drew ?_) | (refine bl_drewN ?_ _) | (refine bl_call ?_ (Nat.le_refl _) (by assumption)))
  generalize w.alloc (.cells #[.int .u8 0, .slice none 0 0, .int .i64 0] 47) = w1 at hr hb00 ⊢
  have H1 := Lib.hid (field_One hf)
  have H2 := Lib.hid (field_NegK hf (1 : Fin (Pm f)))
  obtain ⟨a0, a1, a2, a3, a4, a5, a6⟩ := hr.get3
  go_wp2_with (first
    | (go_at_call 53; refine (H1.out _).mono ?_; rintro e w2 ⟨rfl, hb2⟩; replace hr := hr.call hb2; replace hb00 := bl_call hb00 (Nat.le_refl _) hb2; obtain ⟨a0, a1, a2, a3, a4, a5, a6⟩ := hr.get3)
    | (go_at_call 94; refine (H2.out _).mono ?_; rintro e w2 ⟨rfl, hb2⟩; replace hr := hr.call hb2; replace hb00 := bl_call hb00 (Nat.le_refl _) hb2; obtain ⟨a0, a1, a2, a3, a4, a5, a6⟩ := hr.get3))
  have hne : w.heap.size < w2.heap.size := hr.lt
  have hrw := Vs.set3 hr (.int .u8 2) (.slice (some ⟨w2.heap.size, 0, none⟩) 3 3) (.int .i64 0)
  have hbw := bl_st3 hb00 (Nat.le_refl _) (.int .u8 2) (.slice (some ⟨w2.heap.size, 0, none⟩) 3 3) (.int .i64 0)
  have hsz : (((w2.setCell ⟨w.heap.size, 0, none⟩ (.int .u8 2)).setCell ⟨w.heap.size, 1, none⟩ (.slice (some ⟨w2.heap.size, 0, none⟩) 3 3)).setCell ⟨w.heap.size, 2, none⟩ (.int .i64 0)).heap.size = w2.heap.size := by simp [World.setCell]
  generalize ((w2.setCell ⟨w.heap.size, 0, none⟩ (.int .u8 2)).setCell ⟨w.heap.size, 1, none⟩ (.slice (some ⟨w2.heap.size, 0, none⟩) 3 3)).setCell ⟨w.heap.size, 2, none⟩ (.int .i64 0) = w4 at hrw hbw hsz ⊢
  have hB : BlkE (w4.alloc (.cells #[.int .u64 0, .int .u64 0, .int .u64 (lo (-(1 : Fin (Pm f)))), .int .u64 (hi (-(1 : Fin (Pm f)))), .int .u64 (lo (1 : Fin (Pm f))), .int .u64 (hi (1 : Fin (Pm f)))] 41)) w4.heap.size (esK [0, -1, 1] : List E) :=
    BlkE.new w4 _ _ (by
      show _ = (Value.int .u64 (lo (0 : Fin (Pm f))) :: .int .u64 (hi (0 : Fin (Pm f))) :: _).toArray
      rw [lo_zero, hi_zero]
      rfl)
  rw [hsz] at hB
  have hle : w.heap.size ≤ w2.heap.size := by omega
  refine bodyPost_ret (results_gadget (b := w.heap.size) (hrw.alloc _) rfl rfl) rfl ⟨w2.heap.size, rfl, hle, hB, by repeat (first | exact Below.refl _ _ | with_reducible assumption | (refine bl_alloc ?_ (Nat.le_refl _) _) | (refine bl_set ?_ (by dsimp only; omega) _) | (refine Below.drew ?_) | (refine bl_drewN ?_ _) | (refine bl_call ?_ (Nat.le_refl _) (by assumption)))⟩

omit hf in
theorem RetGB.toG {w : World} {e : Ending} {w' : World} (h : RetGB (f := f) w e w') : RetG (.eval [0, -1, 1] : Gad f) w e w' := by
  obtain ⟨b, rfl, _, hB, hb⟩ := h
  exact ⟨2, _, 0, rfl, ⟨rfl, rfl, hB.slK (by simp) hB.lt, ⟨2, 1, rfl, rfl, k_one_ne, by omega, by omega⟩⟩, hb⟩

set_option maxHeartbeats 1000000 in
theorem circuit_Gadget (y : CK) (hy : y.ok) (w : World) : Calls Try.prog 60 #[y.val f] w (RetG (y.gad f) w) := by
  cases y with
  | count =>
    rw [val_count]
    go_enter Try.func60, Try.ntmps60
    go_wp2
    refine bodyPost_ret (by simp [results, Try.results60, go_sem]; first | done | rfl) rfl ⟨1, _, 0, rfl, ⟨rfl, rfl, rfl⟩, by repeat (first | exact Below.refl _ _ | with_reducible assumption | (refine bl_alloc ?_ (Nat.le_refl _) _) | (refine bl_set ?_ (by dsimp only; omega) _) | (refine Below.drew ?_) | (refine bl_drewN ?_ _) | (refine bl_call ?_ (Nat.le_refl _) (by assumption)))⟩
  | vec b l c =>
    rw [val_vec]
    go_enter Try.func60, Try.ntmps60
    go_wp2
    refine bodyPost_ret (by simp [results, Try.results60, go_sem]; first | done | rfl) rfl ⟨3, _, c, rfl, ⟨rfl, rfl, rfl, hy.2.2.1, hy.2.2.2⟩, by repeat (first | exact Below.refl _ _ | with_reducible assumption | (refine bl_alloc ?_ (Nat.le_refl _) _) | (refine bl_set ?_ (by dsimp only; omega) _) | (refine Below.drew ?_) | (refine bl_drewN ?_ _) | (refine bl_call ?_ (Nat.le_refl _) (by assumption)))⟩
  | hist l c =>
    rw [val_hist]
    go_enter Try.func60, Try.ntmps60
    go_wp2
    refine bodyPost_ret (by simp [results, Try.results60, go_sem]; first | done | rfl) rfl ⟨3, _, c, rfl, ⟨rfl, rfl, rfl, hy.2.1, hy.2.2⟩, by repeat (first | exact Below.refl _ _ | with_reducible assumption | (refine bl_alloc ?_ (Nat.le_refl _) _) | (refine bl_set ?_ (by dsimp only; omega) _) | (refine Below.drew ?_) | (refine bl_drewN ?_ _) | (refine bl_call ?_ (Nat.le_refl _) (by assumption)))⟩
  | multi l m c =>
    rw [val_multi]
    go_enter Try.func60, Try.ntmps60
    go_wp2
    refine bodyPost_ret (by simp [results, Try.results60, go_sem]; first | done | rfl) rfl ⟨3, _, c, rfl, ⟨rfl, rfl, rfl, hy.2.2.1, hy.2.2.2⟩, by repeat (first | exact Below.refl _ _ | with_reducible assumption | (refine bl_alloc ?_ (Nat.le_refl _) _) | (refine bl_set ?_ (by dsimp only; omega) _) | (refine Below.drew ?_) | (refine bl_drewN ?_ _) | (refine bl_call ?_ (Nat.le_refl _) (by assumption)))⟩
  | sum b =>
    rw [val_sum]
    have HB := Lib.hid (gadget_Bit2 hf)
    have hb00 : Below w.heap.size w w := Below.refl _ _
    go_enter Try.func60, Try.ntmps60
    go_upto_region 1 with fail
    have hr := Vs.new (w.alloc (.cells #[.int .u8 2, .int .u8 f, .int .i64 b, .int .i64 0, .int .i64 0, .int .i64 0] 60)) [.int .u8 0, .slice none 0 0, .int .i64 0] #[.int .u8 0, .slice none 0 0, .int .i64 0] 47 rfl
    have hx := (Vs.new w [.int .u8 2, .int .u8 f, .int .i64 b, .int .i64 0, .int .i64 0, .int .i64 0] #[.int .u8 2, .int .u8 f, .int .i64 b, .int .i64 0, .int .i64 0, .int .i64 0] 60 rfl).alloc (.cells #[.int .u8 0, .slice none 0 0, .int .i64 0] 47)
    have hbA : Below w.heap.size w ((w.alloc (.cells #[.int .u8 2, .int .u8 f, .int .i64 b, .int .i64 0, .int .i64 0, .int .i64 0] 60)).alloc (.cells #[.int .u8 0, .slice none 0 0, .int .i64 0] 47)) := by repeat (first | exact Below.refl _ _ | with_reducible assumption | (refine bl_alloc ?_ (Nat.le_refl _) _) | (refine bl_set ?_ (by dsimp only; omega) _) | (refine Below.drew ?_) | (refine bl_drewN ?_ _) | (refine bl_call ?_ (Nat.le_refl _) (by assumption)))
    rw [World.size_alloc] at hr
    generalize (w.alloc (.cells #[.int .u8 2, .int .u8 f, .int .i64 b, .int .i64 0, .int .i64 0, .int .i64 0] 60)).alloc (.cells #[.int .u8 0, .slice none 0 0, .int .i64 0] 47) = w1 at hr hx hbA ⊢
    obtain ⟨⟨x0, x1, x2, x3, x4, x5⟩, ⟨x6, x7, x8, x9, x10, x11⟩, x12⟩ := hx.get6
    obtain ⟨r0, r1, r2, r3, r4, r5, r6⟩ := hr.get3
    go_wp2_with (go_at_call 33; refine (HB.out _).mono ?_; rintro e w2 ⟨g, rfl, hg, hB, hb2⟩; replace hr := hr.call hb2; replace hbA := bl_call hbA (Nat.le_refl _) hb2; have hgl : w.heap.size + 1 < g := Nat.lt_of_lt_of_le r6 hg; clear x0 x1 x2 x3 x4 x5 x6 x7 x8 x9 x10 x11 x12 r0 r1 r2 r3 r4 r5 r6; obtain ⟨r0, r1, r2, r3, r4, r5, r6⟩ := hr.get3)
    have hS := Vs.set3 hr (.int .u8 2) (.slice (some ⟨g, 0, none⟩) 3 3) (.int .i64 0)
    have hBS : BlkE (((w2.setCell ⟨w.heap.size + 1, 0, none⟩ (.int .u8 2)).setCell ⟨w.heap.size + 1, 1, none⟩ (.slice (some ⟨g, 0, none⟩) 3 3)).setCell ⟨w.heap.size + 1, 2, none⟩ (.int .i64 0)) g (esK ([0, -1, 1] : KL f)) :=
      ((hB.far (by simp; omega) _).far (by simp; omega) _).far (by simp; omega) _
    have hbS := bl_st3 (b := w.heap.size + 1) hbA (by omega) (.int .u8 2) (.slice (some ⟨g, 0, none⟩) 3 3) (.int .i64 0)
    refine bodyPost_ret (results_gadget (b := w.heap.size + 1) hS rfl rfl) rfl ?_
    exact ⟨2, _, 0, rfl, ⟨rfl, rfl, hBS.slK (by simp) hBS.lt, ⟨2, 1, rfl, rfl, k_one_ne, by omega, by omega⟩⟩, hbS⟩

omit hf in
/-- a gadget's coefficients are a slice -/
theorem RepG.sl {w : World} {B : Nat} {k : Int} {sl : Value} {n : Int} {g : Gad f} (hg : RepG w B k sl n g) : ∃ (A : Option Addr) (a b : Nat), sl = .slice A a b := by
  cases g with
  | mul => exact ⟨_, _, _, hg.2.1⟩
  | par m => exact ⟨_, _, _, hg.2.1⟩
  | eval cs =>
    obtain ⟨A, c, h, _⟩ := hg.2.2.1
    exact ⟨_, _, _, h⟩

/-- how many elements a proof has -/
def CK.proof (y : CK) : Nat := y.arity + 2 * (nextP (y.calls + 1) - 1) + 1

omit hf in
theorem CK.arity_le {y : CK} (h : y.ok) : 1 ≤ y.arity ∧ y.arity ≤ 32 := by
  cases y with
  | count => exact ⟨by show 1 ≤ 2; omega, by show 2 ≤ 32; omega⟩
  | sum b => exact ⟨by show 1 ≤ 1; omega, by show 1 ≤ 32; omega⟩
  | vec b l c => have := h.2.2; exact ⟨by show 1 ≤ 2 * c; omega, by show 2 * c ≤ 32; omega⟩
  | hist l c => have := h.2; exact ⟨by show 1 ≤ 2 * c; omega, by show 2 * c ≤ 32; omega⟩
  | multi l m c => have := h.2.2; exact ⟨by show 1 ≤ 2 * c; omega, by show 2 * c ≤ 32; omega⟩

set_option maxHeartbeats 2000000 in
theorem circuit_Proof (y : CK) (hy : y.ok) (hc : y.calls ≤ 511) (w : World) : Calls Try.prog 56 #[y.val f] w (RetI y.proof w) := by
  have HG := Lib.hid (fun wz => circuit_Gadget hf y hy wz)
  have HD := Lib.hid (fun wz => circuit_Domain f y hy hc wz)
  have ha := gad_arity f y
  have hd := gad_degree f y
  have hal := CK.arity_le hy
  unfold CK.proof
  have hn := nextP_le (y.calls + 1)
  generalize nextP (y.calls + 1) = q at *
  unfold CK.val at HG HD ⊢
  generalize y.gad f = g at *
  generalize y.arity = r at *
  clear hc hy
  generalize ((y.k : Nat) : Int) = k at *
  generalize ((y.b : Nat) : Int) = b at *
  generalize ((y.l : Nat) : Int) = l at *
  generalize ((y.m : Nat) : Int) = m at *
  generalize ((y.c : Nat) : Int) = c at *
  have HAR : Hid (∀ (wz w1 : World) (B : Nat) (k : Int) (sl : Value) (n : Int), RepG w1 B k sl n g → Below B w1 wz → Calls Try.prog 28 #[.agg #[.int .u8 k, sl, .int .i64 n]] wz (RetI r wz)) := by
    intro wz w1 B k sl n hg hb
    have h := gadget_Arity wz B g k sl n (hg.below hb)
    rwa [ha] at h
  have HDG : Hid (∀ (wz w1 : World) (B : Nat) (k : Int) (sl : Value) (n : Int), RepG w1 B k sl n g → Below B w1 wz → Calls Try.prog 32 #[.agg #[.int .u8 k, sl, .int .i64 n]] wz (RetI 2 wz)) := by
    intro wz w1 B k sl n hg hb
    have h := gadget_Degree wz B g k sl n (hg.below hb)
    rwa [hd] at h
  clear ha hd
  have hb00 : Below w.heap.size w w := Below.refl _ _
  go_enter Try.func56, Try.ntmps56
  go_upto_region 1 with fail
  have hx := Vs.new w [.int .u8 k, .int .u8 f, .int .i64 b, .int .i64 l, .int .i64 m, .int .i64 c] #[.int .u8 k, .int .u8 f, .int .i64 b, .int .i64 l, .int .i64 m, .int .i64 c] 60 rfl
  have hbA : Below w.heap.size w (w.alloc (.cells #[.int .u8 k, .int .u8 f, .int .i64 b, .int .i64 l, .int .i64 m, .int .i64 c] 60)) := by repeat (first | exact Below.refl _ _ | with_reducible assumption | (refine bl_alloc ?_ (Nat.le_refl _) _))
  replace hb00 := bl_call hb00 (Nat.le_refl _) hbA
  clear hbA
  generalize w.alloc (.cells #[.int .u8 k, .int .u8 f, .int .i64 b, .int .i64 l, .int .i64 m, .int .i64 c] 60) = w1 at hb00 hx ⊢
  obtain ⟨⟨x0, x1, x2, x3, x4, x5⟩, ⟨x6, x7, x8, x9, x10, x11⟩, x12⟩ := hx.get6
  go_wp2_with fail
  refine (HG.out _).mono ?_
  rintro e w2 ⟨gk, sl, gn, rfl, hg, hb2⟩
  obtain ⟨A2, l2, c2, rfl⟩ := hg.sl
  replace hb00 := bl_call hb00 (Nat.le_refl _) hb2
  replace hx := hx.call hb2
  clear x0 x1 x2 x3 x4 x5 x6 x7 x8 x9 x10 x11 x12
  clear hb2
  go_upto_region 2 with fail
  have hv := Vs.new w2 [.int .u8 gk, .slice A2 l2 c2, .int .i64 gn] #[.int .u8 gk, .slice A2 l2 c2, .int .i64 gn] 47 rfl
  have hbA : Below w2.heap.size w2 (w2.alloc (.cells #[.int .u8 gk, .slice A2 l2 c2, .int .i64 gn] 47)) := by repeat (first | exact Below.refl _ _ | with_reducible assumption | (refine bl_alloc ?_ (Nat.le_refl _) _))
  replace hb00 := bl_call hb00 (Nat.le_refl _) hbA
  replace hx := hx.call hbA
  replace hg := hg.later hbA
  clear hbA
  generalize w2.alloc (.cells #[.int .u8 gk, .slice A2 l2 c2, .int .i64 gn] 47) = w3 at hb00 hx hg hv ⊢
  obtain ⟨⟨x0, x1, x2, x3, x4, x5⟩, ⟨x6, x7, x8, x9, x10, x11⟩, x12⟩ := hx.get6
  obtain ⟨v0, v1, v2, v3, v4, v5, v6⟩ := hv.get3
  have hw1 : IntKind.i64.wrap ((q : Int) - 1) = (q : Int) - 1 := IntWalk.i64_in _ (by omega)
  have hw2 : IntKind.i64.wrap (2 * ((q : Int) - 1)) = 2 * ((q : Int) - 1) := IntWalk.i64_in _ (by omega)
  have hw3 : IntKind.i64.wrap ((r : Int) + 2 * ((q : Int) - 1)) = (r : Int) + 2 * ((q : Int) - 1) := IntWalk.i64_in _ (by omega)
  have hw4 : IntKind.i64.wrap ((r : Int) + 2 * ((q : Int) - 1) + 1) = (r : Int) + 2 * ((q : Int) - 1) + 1 := IntWalk.i64_in _ (by omega)
  refine region_B (n := 10) (m := 11) (f := 10) (by kernel_rfl) (by kernel_rfl) rfl ?_
  refine WpH.takeB (i := 0) (v := ?_) rfl (by kernel_rfl) (fun _ _ _ h => h) (.val rfl (fun wz hwz => ?_)) ?_
  rotate_left
  · (obtain ⟨hcz, hfz⟩ := bcell hwz; go_simp; try (with_reducible rfl))
  (simp only [Act.put]); (try simp only [List.setIfInBounds_toArray]); (try simp only [List.set_cons_succ]); (try simp only [List.set_cons_zero])
  refine WpH.takeB (i := 1) rfl (by kernel_rfl) (fun _ _ _ h => h) (.call rfl (fun wz hwz => HAR.out wz _ _ _ _ _ hg hwz) (fun wz hwz => ?_)) ?_
  · go_simp; try (with_reducible rfl)
  (simp only [Act.put]); (try simp only [List.setIfInBounds_toArray]); (try simp only [List.set_cons_succ]); (try simp only [List.set_cons_zero])
  refine WpH.takeB (i := 2) (v := ?_) rfl (by kernel_rfl) (fun _ _ _ h => h) (.val rfl (fun wz hwz => ?_)) ?_
  rotate_left
  · (obtain ⟨hcz, hfz⟩ := bcell hwz; go_simp; try (with_reducible rfl))
  (simp only [Act.put]); (try simp only [List.setIfInBounds_toArray]); (try simp only [List.set_cons_succ]); (try simp only [List.set_cons_zero])
  refine WpH.takeB (i := 3) rfl (by kernel_rfl) (fun _ _ _ h => h) (.call rfl (fun wz hwz => HDG.out wz _ _ _ _ _ hg hwz) (fun wz hwz => ?_)) ?_
  · go_simp; try (with_reducible rfl)
  (simp only [Act.put]); (try simp only [List.setIfInBounds_toArray]); (try simp only [List.set_cons_succ]); (try simp only [List.set_cons_zero])
  refine WpH.takeB (i := 4) (v := ?_) rfl (by kernel_rfl) (fun _ _ _ h => h) (.val rfl (fun wz hwz => ?_)) ?_
  rotate_left
  · (obtain ⟨hcz, hfz⟩ := bcell hwz; go_simp; try (with_reducible rfl))
  (simp only [Act.put]); (try simp only [List.setIfInBounds_toArray]); (try simp only [List.set_cons_succ]); (try simp only [List.set_cons_zero])
  refine WpH.takeB (i := 5) rfl (by kernel_rfl) (fun _ _ _ h => h) (.call rfl (fun wz hwz => HD.out wz) (fun wz hwz => ?_)) ?_
  · go_simp; try (with_reducible rfl)
  (simp only [Act.put]); (try simp only [List.setIfInBounds_toArray]); (try simp only [List.set_cons_succ]); (try simp only [List.set_cons_zero])
  refine WpH.takeB (i := 6) (v := ?_) rfl (by kernel_rfl) (fun _ _ _ h => h) (.val rfl (fun wz hwz => ?_)) ?_
  rotate_left
  · go_simp; try (with_reducible rfl)
  (simp only [Act.put]); (try simp only [List.setIfInBounds_toArray]); (try simp only [List.set_cons_succ]); (try simp only [List.set_cons_zero])
  refine WpH.takeB (i := 7) (v := ?_) rfl (by kernel_rfl) (fun _ _ _ h => h) (.val rfl (fun wz hwz => ?_)) ?_
  rotate_left
  · go_simp; try (with_reducible rfl)
  (simp only [Act.put]); (try simp only [List.setIfInBounds_toArray]); (try simp only [List.set_cons_succ]); (try simp only [List.set_cons_zero])
  refine WpH.takeB (i := 8) (v := ?_) rfl (by kernel_rfl) (fun _ _ _ h => h) (.val rfl (fun wz hwz => ?_)) ?_
  rotate_left
  · go_simp; try (with_reducible rfl)
  (simp only [Act.put]); (try simp only [List.setIfInBounds_toArray]); (try simp only [List.set_cons_succ]); (try simp only [List.set_cons_zero])
  refine WpH.takeB (i := 9) (v := ?_) rfl (by kernel_rfl) (fun _ _ _ h => h) (.val rfl (fun wz hwz => ?_)) ?_
  rotate_left
  · go_simp; try (with_reducible rfl)
  (simp only [Act.put]); (try simp only [List.setIfInBounds_toArray]); (try simp only [List.set_cons_succ]); (try simp only [List.set_cons_zero])
  refine WpH.doneB (by kernel_rfl) (fun w4 hw4 => ?_)
  (try simp only [List.drop_succ_cons]); (try simp only [List.drop_zero]); (try simp only [Nat.reduceSub]); (try simp only [List.take_succ_cons]); (try simp only [List.take_zero])
  replace hb00 := bl_call hb00 (Nat.le_refl _) hw4
  go_wp2_with fail
  go_ret
  exact ⟨ret_int (by omega), hb00⟩

set_option maxHeartbeats 2000000 in
theorem circuit_Verifier (y : CK) (hy : y.ok) (w : World) : Calls Try.prog 70 #[y.val f] w (RetI (y.arity + 2) w) := by
  have HG := Lib.hid (fun wz => circuit_Gadget hf y hy wz)
  have ha := gad_arity f y
  have hal := CK.arity_le hy
  unfold CK.val at HG ⊢
  generalize y.gad f = g at *
  generalize y.arity = r at *
  clear hy
  generalize ((y.k : Nat) : Int) = k at *
  generalize ((y.b : Nat) : Int) = b at *
  generalize ((y.l : Nat) : Int) = l at *
  generalize ((y.m : Nat) : Int) = m at *
  generalize ((y.c : Nat) : Int) = c at *
  have HAR : Hid (∀ (wz : World) (B : Nat) (k : Int) (sl : Value) (n : Int), RepG wz B k sl n g → Calls Try.prog 28 #[.agg #[.int .u8 k, sl, .int .i64 n]] wz (RetI r wz)) := by
    intro wz B k sl n hg
    have h := gadget_Arity wz B g k sl n hg
    rwa [ha] at h
  clear ha
  go_enter Try.func70, Try.ntmps70
  go_wp2_with (first
    | (go_at_call 60; refine (HG.out _).mono ?_; rintro e w2 ⟨gk, sl, gn, rfl, hg, hb2⟩)
    | (go_at_call 28; refine (HAR.out _ _ _ _ _ hg).mono ?_; rintro e w3 ⟨rfl, hb3⟩))
  go_ret
  exact ⟨ret_int (by omega), by repeat (first | exact Below.refl _ _ | with_reducible assumption | (refine bl_alloc ?_ (Nat.le_refl _) _) | (refine bl_set ?_ (by dsimp only; omega) _) | (refine Below.drew ?_) | (refine bl_drewN ?_ _) | (refine bl_call ?_ (Nat.le_refl _) (by assumption)))⟩
end

end Go.Proofs.Ytiphahbeedeebaa

namespace Go.Proofs.Ytiphahbeedeebaa
open Go Go.RowKit
set_option linter.unusedVariables false

theorem wpList_val {P : Program} {ops : Array Oper} {Q : Exit → Act → World → Prop} {a : Act} {w w' : World} {rest : List Oper} {o : Oper} {v : Value} (hg : o.guard = none)
    (h : (execOp a.eval o).run P w = .ok (.value v) w') (hK : wpList P ops Q rest (a.put o.dst v) w') : wpList P ops Q (o :: rest) a w := by
  refine wpList_plain hg fun K hk => ?_
  unfold Oper.wp
  rw [h]
  exact hk _ _ hK
theorem wpList_skip {P : Program} {ops : Array Oper} {Q : Exit → Act → World → Prop} {a : Act} {w w' : World} {rest : List Oper} {o : Oper} (hg : o.guard = none)
    (h : (execOp a.eval o).run P w = .ok .skip w') (hK : wpList P ops Q rest (a.put o.dst undef) w') : wpList P ops Q (o :: rest) a w := by
  refine wpList_plain hg fun K hk => ?_
  unfold Oper.wp
  rw [h]
  exact hk _ _ hK
theorem exec_store_new {P : Program} (ρ : Operand → Value) (o : Oper) (t : TypeId) (x y : Operand) (ho : o.op = .store t x y) (w : World) (c c' : Array Value) (hx : ρ x = .pointer (some ⟨w.heap.size, 0, none⟩)) (hy : ρ y = .agg c')
    (hi : (P.info? t).map (·.size) = some c'.size) (hs : c.size = c'.size) (h1 : c'.all (·.oneCell') = true) : (execOp ρ o).run P (w.alloc (.cells c t)) = .ok .skip (w.alloc (.cells c' t)) := by
  have h := run_storeAt_new (P := P) w t c c' hi hs h1
  unfold execOp
  simp only [ho, hx, hy, Sem.run_bind, h, Result.andThen_ok, Sem.run_pure]

end Go.Proofs.Ytiphahbeedeebaa
