/-
 Cir2, Cir3, Step: what the statements of this layer share.
-/
import Derived.BigQuiet
import Derived.Deep.WholeRow
import Derived.Test.YtpggflcapfkgpaaMah
namespace Go.Proofs.Ytpggflcapfkgpaa
open Go.RowKit Fm
set_option linter.unusedVariables false
set_option maxRecDepth 100000

theorem ntt_Next (n : Nat) (hn : n ≤ 1024) (w : World) : Calls Try.prog 38 #[.int .i64 n] w fun e w' => e = .returned (.int .i64 (nextP n)) ∧ w = w' := by
 go_enter Try.func38, Try.ntmps38
 go_wp2
 go_loop [3] (fun o => ∃ p : Nat, o = .int .i64 p ∧ Hid (OnWay n p) ∧ p ≤ 1024) (fun o => 1024 - (intOf o).toNat)
 case atStart => exact ⟨1, rfl, onWay_one n, by omega⟩
 case round =>
  obtain ⟨p, rfl, hp, hp2⟩ := hrel
  by_cases hlt : p < n
  ·have h1 : p < 1024 := by omega
   have h2 := onWay_next hp.out hlt h1
   have h3 := (onWay_le h2).2
   have H2 := Lib.hid h2
   have h4 := (onWay_le hp.out).1
   clear h2
   go_wp2
   go_round
   case rel => exact ⟨2 * p, by go_num, H2.out, h3⟩
   case measure => simp [intOf]; omega
  ·have h5 := Lib.hid (onWay_end hp.out hn hlt)
   go_wp2
   go_ret
   exact ⟨ret_int (by rw [h5.out]), rfl⟩

section
variable (f : Nat) (y : CK) (hy : y.ok)
include hy

theorem circuit_Domain (hc : y.calls ≤ 511) (w : World) : Calls Try.prog 25 #[y.val f] w (RetI (nextP (y.calls + 1)) w) := by
 have HC := Lib.hid (fun wz => circuit_Calls f y hy wz)
 unfold CK.val at HC ⊢
 generalize y.calls = q at *
 have HN : Hid (∀ wz, Calls Try.prog 38 #[.int .i64 ((q : Int) + 1)] wz fun e w' => e = .returned (.int .i64 (nextP (q + 1))) ∧ wz = w') := fun wz => ntt_Next (q + 1) (by omega) wz
 go_enter Try.func25, Try.ntmps25
 go_wp2_with (first
  | (go_at_call 34; refine (HC.out _).mono ?_; rintro e w2 ⟨rfl, hb2⟩)
  | (go_at_call 38; refine (HN.out _).mono ?_; rintro e w3 ⟨rfl, rfl⟩))
 go_ret
 exact ⟨rfl, by repeat (first | exact bA | with_reducible assumption | apply bB | (refine bC ?_ (by dsimp only; omega)) | apply bD | apply bE | (refine bF ?_ (by assumption)))⟩

end

theorem circuit_offset (k f b l c : Int) (m : Nat) (h1 : m ≤ 64) (w : World) :
  Calls Try.prog 20 #[.agg #[.int .u8 k, .int .u8 f, .int .i64 b, .int .i64 l, .int .i64 m, .int .i64 c]] w fun e w' => e = .returned (.int .u64 (offN m : Int)) ∧ Below w.heap.size w w' := by
 have HW := Lib.hid (fun wz => circuit_weightBits k f b l c m h1 wz)
 have hs := bitLen_small m h1
 have HO : Hid ((2 ^ Lib.bitLen m : Nat) - 1 - m = offN m) := rfl
 generalize Lib.bitLen m = q at *
 have hmx : max (m : Int) 0 = (m : Int) := by omega
 obtain ⟨p, hp⟩ : ∃ p, 2 ^ q = p := ⟨_, rfl⟩
 have hp7 : 2 ^ q ≤ 2 ^ 7 := Nat.pow_le_pow_right (by omega) hs.1
 have hpm := hs.2.1
 rw [hp] at hp7 hpm HO
 have hpow : (2 : Int) ^ q = (p : Int) := by rw [← hp]; exact (Int.natCast_pow 2 q).symm
 have hq7 := hs.1
 have hpx : (2 : Nat) ^ 7 = 128 := rfl
 rw [hpx] at hp7
 have hb00 : Below w.heap.size w w := Below.refl _ _
 clear hs hpx hp
 go_enter Try.func20, Try.ntmps20
 go_upto_region 1 with fail
 have hx := Vs.new w [.int .u8 k, .int .u8 f, .int .i64 b, .int .i64 l, .int .i64 m, .int .i64 c] #[.int .u8 k, .int .u8 f, .int .i64 b, .int .i64 l, .int .i64 m, .int .i64 c] 32 rfl
 have hbA : Below w.heap.size w (w.alloc (.cells #[.int .u8 k, .int .u8 f, .int .i64 b, .int .i64 l, .int .i64 m, .int .i64 c] 32)) := by repeat (first | exact bA | with_reducible assumption | apply bB)
 replace hb00 := bl_call hb00 (Nat.le_refl _) hbA
 clear hbA
 generalize w.alloc (.cells #[.int .u8 k, .int .u8 f, .int .i64 b, .int .i64 l, .int .i64 m, .int .i64 c] 32) = w1 at hb00 hx ⊢
 obtain ⟨⟨x0, x1, x2, x3, x4, x5⟩, ⟨x6, x7, x8, x9, x10, x11⟩, x12⟩ := hx.get6
 refine region_B (n := 9) (m := 10) (f := 9) (by kernel_rfl) (by kernel_rfl) rfl ?_
 refine WpH.takeB (i := 0) (v := ?_) rfl (by kernel_rfl) (fun _ _ _ h => h) (.val rfl (fun wz hwz => ?_)) ?_
 rotate_left
 ·(obtain ⟨hcz, hfz⟩ := bcell hwz; go_simp; try (with_reducible rfl))
 (simp only [Act.put]); (try simp only [List.setIfInBounds_toArray]); (try simp only [List.set_cons_succ]); (try simp only [List.set_cons_zero])
 refine WpH.takeB (i := 1) rfl (by kernel_rfl) (fun _ _ _ h => h) (.call rfl (fun wz hwz => HW.out wz) (fun wz hwz => ?_)) ?_
 ·go_simp; try (with_reducible rfl)
 (simp only [Act.put]); (try simp only [List.setIfInBounds_toArray]); (try simp only [List.set_cons_succ]); (try simp only [List.set_cons_zero])
 refine WpH.takeB (i := 2) (v := ?_) rfl (by kernel_rfl) (fun _ _ _ h => h) (.val rfl (fun wz hwz => ?_)) ?_
 rotate_left
 ·go_simp; try (with_reducible rfl)
 (simp only [Act.put]); (try simp only [List.setIfInBounds_toArray]); (try simp only [List.set_cons_succ]); (try simp only [List.set_cons_zero])
 refine WpH.takeB (i := 3) (v := ?_) rfl (by kernel_rfl) (fun _ _ _ h => h) (.val rfl (fun wz hwz => ?_)) ?_
 rotate_left
 ·go_simp; try (with_reducible rfl)
 (simp only [Act.put]); (try simp only [List.setIfInBounds_toArray]); (try simp only [List.set_cons_succ]); (try simp only [List.set_cons_zero])
 refine WpH.takeB (i := 4) (v := ?_) rfl (by kernel_rfl) (fun _ _ _ h => h) (.val rfl (fun wz hwz => ?_)) ?_
 rotate_left
 ·go_simp; try (with_reducible rfl)
 (simp only [Act.put]); (try simp only [List.setIfInBounds_toArray]); (try simp only [List.set_cons_succ]); (try simp only [List.set_cons_zero])
 refine WpH.takeB (i := 5) (v := ?_) rfl (by kernel_rfl) (fun _ _ _ h => h) (.val rfl (fun wz hwz => ?_)) ?_
 rotate_left
 ·(obtain ⟨hcz, hfz⟩ := bcell hwz; go_simp; try (with_reducible rfl))
 (simp only [Act.put]); (try simp only [List.setIfInBounds_toArray]); (try simp only [List.set_cons_succ]); (try simp only [List.set_cons_zero])
 refine WpH.takeB (i := 6) (v := ?_) rfl (by kernel_rfl) (fun _ _ _ h => h) (.val rfl (fun wz hwz => ?_)) ?_
 rotate_left
 ·go_simp; try (with_reducible rfl)
 (simp only [Act.put]); (try simp only [List.setIfInBounds_toArray]); (try simp only [List.set_cons_succ]); (try simp only [List.set_cons_zero])
 refine WpH.takeB (i := 7) (v := ?_) rfl (by kernel_rfl) (fun _ _ _ h => h) (.val rfl (fun wz hwz => ?_)) ?_
 rotate_left
 ·go_simp; try (with_reducible rfl)
 (simp only [Act.put]); (try simp only [List.setIfInBounds_toArray]); (try simp only [List.set_cons_succ]); (try simp only [List.set_cons_zero])
 refine WpH.takeB (i := 8) (v := ?_) rfl (by kernel_rfl) (fun _ _ _ h => h) (.val rfl (fun wz hwz => ?_)) ?_
 rotate_left
 ·go_simp; try (with_reducible rfl)
 (simp only [Act.put]); (try simp only [List.setIfInBounds_toArray]); (try simp only [List.set_cons_succ]); (try simp only [List.set_cons_zero])
 refine WpH.doneB (by kernel_rfl) (fun w2 hw2 => ?_)
 (try simp only [List.drop_succ_cons]); (try simp only [List.drop_zero]); (try simp only [Nat.reduceSub]); (try simp only [List.take_succ_cons]); (try simp only [List.take_zero])
 replace hb00 := bl_call hb00 (Nat.le_refl _) hw2
 replace hx := hx.call hw2
 go_wp2_with fail
 go_ret
 exact ⟨ret_int (by have := HO.out; omega), hb00⟩

def CK.most : CK → Nat
 | sum b => 2 ^ b - 1
 | vec b _ _ => 2 ^ b - 1
 | _ => 1

theorem pow32 {b : Nat} (h : b ≤ 32) : 1 ≤ 2 ^ b ∧ 2 ^ b ≤ 4294967296 := ⟨Nat.one_le_two_pow, Nat.le_trans (Nat.pow_le_pow_right (by omega) h) (by decide)⟩

/-! ### the reference's circuit of a circuit -/
theorem load_cir {w : World} {b : Nat} {p q r s t u : Value} (h : Vs w b [p, q, r, s, t, u]) : (loadVar 32 ⟨b, 0, none⟩).run Try.prog w = .ok (.agg #[p, q, r, s, t, u]) w := by
 obtain ⟨⟨c0, c1, c2, c3, c4, c5⟩, _⟩ := h.get6
 simp [loadVar, go_sem, c0, c1, c2, c3, c4, c5]
theorem results_cir {fn : Func} {p : Tmp} {tmps : Array Value} {w : World} {b : Nat} {x0 x1 x2 x3 x4 x5 : Value} (hv : Vs w b [x0, x1, x2, x3, x4, x5]) (h : fn.results = #[.cell p 32]) (hp : tmps.getD p undef = .pointer (some ⟨b, 0, none⟩)) :
  (results fn tmps).run Try.prog w = .ok (.agg #[x0, x1, x2, x3, x4, x5]) w := by
 have hl := load_cir hv
 rw [Array.getD_eq_getD_getElem?] at hp
 simp only [results, h]
 simp [asAddr, hp, hl]

end Go.Proofs.Ytpggflcapfkgpaa

namespace Go.Proofs.Ytpggflcapfkgpaa
open Go.RowKit Fm
set_option linter.unusedVariables false
set_option maxRecDepth 100000

section
variable {f : Nat} (hf : IsF f)
include hf

def RetGB (w : World) (e : Ending) (w' : World) : Prop :=
 ∃ b : Nat, e = .returned (.agg #[.int .u8 2, .slice (some ⟨b, 0, none⟩) 3 3, .int .i64 0]) ∧ w.heap.size ≤ b ∧ BlkE w' b (esK ([0, -1, 1] : KL f)) ∧ Below w.heap.size w w'

set_option maxHeartbeats 4000000 in
theorem gadget_Bit2 (w : World) : Calls Try.prog 37 #[.int .u8 f] w (RetGB (f := f) w) := by
 go_enter Try.func37, Try.ntmps37
 go_upto_region 1 with fail
 have hr := Vs.new w [.int .u8 0, .slice none 0 0, .int .i64 0] #[.int .u8 0, .slice none 0 0, .int .i64 0] 68 rfl
 have hb00 : Below w.heap.size w (w.alloc (.cells #[.int .u8 0, .slice none 0 0, .int .i64 0] 68)) := by repeat (first | exact bA | with_reducible assumption | apply bB | (refine bC ?_ (by dsimp only; omega)) | apply bD | apply bE | (refine bF ?_ (by assumption)))
 generalize w.alloc (.cells #[.int .u8 0, .slice none 0 0, .int .i64 0] 68) = w1 at hr hb00 ⊢
 have H1 := Lib.hid (field_One hf)
 have H2 := Lib.hid (field_NegK hf (1 : Fin (Pm f)))
 obtain ⟨a0, a1, a2, a3, a4, a5, a6⟩ := hr.get3
 go_wp2_with (first
  | (go_at_call 17; refine (H1.out _).mono ?_; rintro e w2 ⟨rfl, hb2⟩; replace hr := hr.call hb2; replace hb00 := bl_call hb00 (Nat.le_refl _) hb2; obtain ⟨a0, a1, a2, a3, a4, a5, a6⟩ := hr.get3)
  | (go_at_call 48; refine (H2.out _).mono ?_; rintro e w2 ⟨rfl, hb2⟩; replace hr := hr.call hb2; replace hb00 := bl_call hb00 (Nat.le_refl _) hb2; obtain ⟨a0, a1, a2, a3, a4, a5, a6⟩ := hr.get3))
 have hne : w.heap.size < w2.heap.size := hr.lt
 have hrw := Vs.set3 hr (.int .u8 2) (.slice (some ⟨w2.heap.size, 0, none⟩) 3 3) (.int .i64 0)
 have hbw := bl_st3 hb00 (Nat.le_refl _) (.int .u8 2) (.slice (some ⟨w2.heap.size, 0, none⟩) 3 3) (.int .i64 0)
 have hsz : (((w2.setCell ⟨w.heap.size, 0, none⟩ (.int .u8 2)).setCell ⟨w.heap.size, 1, none⟩ (.slice (some ⟨w2.heap.size, 0, none⟩) 3 3)).setCell ⟨w.heap.size, 2, none⟩ (.int .i64 0)).heap.size = w2.heap.size := by simp [World.setCell]
 generalize ((w2.setCell ⟨w.heap.size, 0, none⟩ (.int .u8 2)).setCell ⟨w.heap.size, 1, none⟩ (.slice (some ⟨w2.heap.size, 0, none⟩) 3 3)).setCell ⟨w.heap.size, 2, none⟩ (.int .i64 0) = w4 at hrw hbw hsz ⊢
 have hB : BlkE (w4.alloc (.cells #[.int .u64 0, .int .u64 0, .int .u64 (lo (-(1 : Fin (Pm f)))), .int .u64 (hi (-(1 : Fin (Pm f)))), .int .u64 (lo (1 : Fin (Pm f))), .int .u64 (hi (1 : Fin (Pm f)))] 55)) w4.heap.size (esK [0, -1, 1] : List E) :=
  BlkE.new w4 _ _ (by
   show _ = (Value.int .u64 (lo (0 : Fin (Pm f))) :: .int .u64 (hi (0 : Fin (Pm f))) :: _).toArray
   rw [lo_zero, hi_zero]
   rfl)
 rw [hsz] at hB
 have hle : w.heap.size ≤ w2.heap.size := by omega
 refine bodyPost_ret (results_gadget (b := w.heap.size) (hrw.alloc _) rfl rfl) rfl ⟨w2.heap.size, rfl, hle, hB, by repeat (first | exact bA | with_reducible assumption | apply bB | (refine bC ?_ (by dsimp only; omega)) | apply bD | apply bE | (refine bF ?_ (by assumption)))⟩

set_option maxHeartbeats 1000000 in
theorem circuit_Gadget (y : CK) (hy : y.ok) (w : World) : Calls Try.prog 22 #[y.val f] w (RetG (y.gad f) w) := by
 cases y with
 | count =>
  rw [val_count]
  go_enter Try.func22, Try.ntmps22
  go_wp2
  refine bodyPost_ret (by simp [results, Try.results22, go_sem]; first | done | rfl) rfl ⟨1, _, 0, rfl, ⟨rfl, rfl, rfl⟩, by repeat (first | exact bA | with_reducible assumption | apply bB | (refine bC ?_ (by dsimp only; omega)) | apply bD | apply bE | (refine bF ?_ (by assumption)))⟩
 | vec b l c =>
  rw [val_vec]
  go_enter Try.func22, Try.ntmps22
  go_wp2
  refine bodyPost_ret (by simp [results, Try.results22, go_sem]; first | done | rfl) rfl ⟨3, _, c, rfl, ⟨rfl, rfl, rfl, hy.2.2.1, hy.2.2.2⟩, by repeat (first | exact bA | with_reducible assumption | apply bB | (refine bC ?_ (by dsimp only; omega)) | apply bD | apply bE | (refine bF ?_ (by assumption)))⟩
 | hist l c =>
  rw [val_hist]
  go_enter Try.func22, Try.ntmps22
  go_wp2
  refine bodyPost_ret (by simp [results, Try.results22, go_sem]; first | done | rfl) rfl ⟨3, _, c, rfl, ⟨rfl, rfl, rfl, hy.2.1, hy.2.2⟩, by repeat (first | exact bA | with_reducible assumption | apply bB | (refine bC ?_ (by dsimp only; omega)) | apply bD | apply bE | (refine bF ?_ (by assumption)))⟩
 | multi l m c =>
  rw [val_multi]
  go_enter Try.func22, Try.ntmps22
  go_wp2
  refine bodyPost_ret (by simp [results, Try.results22, go_sem]; first | done | rfl) rfl ⟨3, _, c, rfl, ⟨rfl, rfl, rfl, hy.2.2.1, hy.2.2.2⟩, by repeat (first | exact bA | with_reducible assumption | apply bB | (refine bC ?_ (by dsimp only; omega)) | apply bD | apply bE | (refine bF ?_ (by assumption)))⟩
 | sum b =>
  rw [val_sum]
  have HB := Lib.hid (gadget_Bit2 hf)
  have hb00 : Below w.heap.size w w := Below.refl _ _
  go_enter Try.func22, Try.ntmps22
  go_upto_region 1 with fail
  have hr := Vs.new (w.alloc (.cells #[.int .u8 2, .int .u8 f, .int .i64 b, .int .i64 0, .int .i64 0, .int .i64 0] 32)) [.int .u8 0, .slice none 0 0, .int .i64 0] #[.int .u8 0, .slice none 0 0, .int .i64 0] 68 rfl
  have hx := (Vs.new w [.int .u8 2, .int .u8 f, .int .i64 b, .int .i64 0, .int .i64 0, .int .i64 0] #[.int .u8 2, .int .u8 f, .int .i64 b, .int .i64 0, .int .i64 0, .int .i64 0] 32 rfl).alloc (.cells #[.int .u8 0, .slice none 0 0, .int .i64 0] 68)
  have hbA : Below w.heap.size w ((w.alloc (.cells #[.int .u8 2, .int .u8 f, .int .i64 b, .int .i64 0, .int .i64 0, .int .i64 0] 32)).alloc (.cells #[.int .u8 0, .slice none 0 0, .int .i64 0] 68)) := by repeat (first | exact bA | with_reducible assumption | apply bB | (refine bC ?_ (by dsimp only; omega)) | apply bD | apply bE | (refine bF ?_ (by assumption)))
  rw [World.size_alloc] at hr
  generalize (w.alloc (.cells #[.int .u8 2, .int .u8 f, .int .i64 b, .int .i64 0, .int .i64 0, .int .i64 0] 32)).alloc (.cells #[.int .u8 0, .slice none 0 0, .int .i64 0] 68) = w1 at hr hx hbA ⊢
  obtain ⟨⟨x0, x1, x2, x3, x4, x5⟩, ⟨x6, x7, x8, x9, x10, x11⟩, x12⟩ := hx.get6
  obtain ⟨r0, r1, r2, r3, r4, r5, r6⟩ := hr.get3
  go_wp2_with (go_at_call 37; refine (HB.out _).mono ?_; rintro e w2 ⟨g, rfl, hg, hB, hb2⟩; replace hr := hr.call hb2; replace hbA := bl_call hbA (Nat.le_refl _) hb2; have hgl : w.heap.size + 1 < g := Nat.lt_of_lt_of_le r6 hg; clear x0 x1 x2 x3 x4 x5 x6 x7 x8 x9 x10 x11 x12 r0 r1 r2 r3 r4 r5 r6; obtain ⟨r0, r1, r2, r3, r4, r5, r6⟩ := hr.get3)
  have hS := Vs.set3 hr (.int .u8 2) (.slice (some ⟨g, 0, none⟩) 3 3) (.int .i64 0)
  have hBS : BlkE (((w2.setCell ⟨w.heap.size + 1, 0, none⟩ (.int .u8 2)).setCell ⟨w.heap.size + 1, 1, none⟩ (.slice (some ⟨g, 0, none⟩) 3 3)).setCell ⟨w.heap.size + 1, 2, none⟩ (.int .i64 0)) g (esK ([0, -1, 1] : KL f)) :=
   ((hB.far (by simp; omega) _).far (by simp; omega) _).far (by simp; omega) _
  have hbS := bl_st3 (b := w.heap.size + 1) hbA (by omega) (.int .u8 2) (.slice (some ⟨g, 0, none⟩) 3 3) (.int .i64 0)
  refine bodyPost_ret (results_gadget (b := w.heap.size + 1) hS rfl rfl) rfl ?_
  exact ⟨2, _, 0, rfl, ⟨rfl, rfl, hBS.slK (by simp) hBS.lt, ⟨2, 1, rfl, rfl, k_one_ne, by omega, by omega⟩⟩, hbS⟩

omit hf in
theorem RepG.sl {w : World} {B : Nat} {k : Int} {sl : Value} {n : Int} {g : Gad f} (hg : RepG w B k sl n g) : ∃ (A : Option Addr) (a b : Nat), sl = .slice A a b := by
 cases g with
 | mul => exact ⟨_, _, _, hg.2.1⟩
 | par m => exact ⟨_, _, _, hg.2.1⟩
 | eval cs =>
  obtain ⟨A, c, h, _⟩ := hg.2.2.1
  exact ⟨_, _, _, h⟩

def CK.proof (y : CK) : Nat := y.arity + 2 * (nextP (y.calls + 1) - 1) + 1

omit hf in
theorem CK.arity_le {y : CK} (h : y.ok) : 1 ≤ y.arity ∧ y.arity ≤ 32 := by
 cases y with
 | count => exact ⟨by show 1 ≤ 2; omega, by show 2 ≤ 32; omega⟩
 | sum b => exact ⟨by show 1 ≤ 1; omega, by show 1 ≤ 32; omega⟩
 | vec b l c => have := h.2.2; exact ⟨by show 1 ≤ 2 * c; omega, by show 2 * c ≤ 32; omega⟩
 | hist l c => have := h.2; exact ⟨by show 1 ≤ 2 * c; omega, by show 2 * c ≤ 32; omega⟩
 | multi l m c => have := h.2.2; exact ⟨by show 1 ≤ 2 * c; omega, by show 2 * c ≤ 32; omega⟩

set_option maxHeartbeats 2000000 in
theorem circuit_Proof (y : CK) (hy : y.ok) (hc : y.calls ≤ 511) (w : World) : Calls Try.prog 8 #[y.val f] w (RetI y.proof w) := by
 have HG := Lib.hid (fun wz => circuit_Gadget hf y hy wz)
 have HD := Lib.hid (fun wz => circuit_Domain f y hy hc wz)
 have ha := gad_arity f y
 have hd := gad_degree f y
 have hal := CK.arity_le hy
 unfold CK.proof
 have hn := nextP_le (y.calls + 1)
 generalize nextP (y.calls + 1) = q at *
 unfold CK.val at HG HD ⊢
 generalize y.gad f = g at *
 generalize y.arity = r at *
 clear hc hy
 generalize ((y.k : Nat) : Int) = k at *
 generalize ((y.b : Nat) : Int) = b at *
 generalize ((y.l : Nat) : Int) = l at *
 generalize ((y.m : Nat) : Int) = m at *
 generalize ((y.c : Nat) : Int) = c at *
 have HAR : Hid (∀ (wz w1 : World) (B : Nat) (k : Int) (sl : Value) (n : Int), RepG w1 B k sl n g → Below B w1 wz → Calls Try.prog 23 #[.agg #[.int .u8 k, sl, .int .i64 n]] wz (RetI r wz)) := by
  intro wz w1 B k sl n hg hb
  have h := gadget_Arity wz B g k sl n (hg.below hb)
  rwa [ha] at h
 have HDG : Hid (∀ (wz w1 : World) (B : Nat) (k : Int) (sl : Value) (n : Int), RepG w1 B k sl n g → Below B w1 wz → Calls Try.prog 24 #[.agg #[.int .u8 k, sl, .int .i64 n]] wz (RetI 2 wz)) := by
  intro wz w1 B k sl n hg hb
  have h := gadget_Degree wz B g k sl n (hg.below hb)
  rwa [hd] at h
 clear ha hd
 have hb00 : Below w.heap.size w w := Below.refl _ _
 go_enter Try.func8, Try.ntmps8
 go_upto_region 1 with fail
 have hx := Vs.new w [.int .u8 k, .int .u8 f, .int .i64 b, .int .i64 l, .int .i64 m, .int .i64 c] #[.int .u8 k, .int .u8 f, .int .i64 b, .int .i64 l, .int .i64 m, .int .i64 c] 32 rfl
 have hbA : Below w.heap.size w (w.alloc (.cells #[.int .u8 k, .int .u8 f, .int .i64 b, .int .i64 l, .int .i64 m, .int .i64 c] 32)) := by repeat (first | exact bA | with_reducible assumption | apply bB)
 replace hb00 := bl_call hb00 (Nat.le_refl _) hbA
 clear hbA
 generalize w.alloc (.cells #[.int .u8 k, .int .u8 f, .int .i64 b, .int .i64 l, .int .i64 m, .int .i64 c] 32) = w1 at hb00 hx ⊢
 obtain ⟨⟨x0, x1, x2, x3, x4, x5⟩, ⟨x6, x7, x8, x9, x10, x11⟩, x12⟩ := hx.get6
 go_wp2_with fail
 refine (HG.out _).mono ?_
 rintro e w2 ⟨gk, sl, gn, rfl, hg, hb2⟩
 obtain ⟨A2, l2, c2, rfl⟩ := hg.sl
 replace hb00 := bl_call hb00 (Nat.le_refl _) hb2
 replace hx := hx.call hb2
 clear x0 x1 x2 x3 x4 x5 x6 x7 x8 x9 x10 x11 x12
 clear hb2
 go_upto_region 2 with fail
 have hv := Vs.new w2 [.int .u8 gk, .slice A2 l2 c2, .int .i64 gn] #[.int .u8 gk, .slice A2 l2 c2, .int .i64 gn] 68 rfl
 have hbA : Below w2.heap.size w2 (w2.alloc (.cells #[.int .u8 gk, .slice A2 l2 c2, .int .i64 gn] 68)) := by repeat (first | exact bA | with_reducible assumption | apply bB)
 replace hb00 := bl_call hb00 (Nat.le_refl _) hbA
 replace hx := hx.call hbA
 replace hg := hg.later hbA
 clear hbA
 generalize w2.alloc (.cells #[.int .u8 gk, .slice A2 l2 c2, .int .i64 gn] 68) = w3 at hb00 hx hg hv ⊢
 obtain ⟨⟨x0, x1, x2, x3, x4, x5⟩, ⟨x6, x7, x8, x9, x10, x11⟩, x12⟩ := hx.get6
 obtain ⟨v0, v1, v2, v3, v4, v5, v6⟩ := hv.get3
 have hw1 : IntKind.i64.wrap ((q : Int) - 1) = (q : Int) - 1 := IntWalk.i64_in _ (by omega)
 have hw2 : IntKind.i64.wrap (2 * ((q : Int) - 1)) = 2 * ((q : Int) - 1) := IntWalk.i64_in _ (by omega)
 have hw3 : IntKind.i64.wrap ((r : Int) + 2 * ((q : Int) - 1)) = (r : Int) + 2 * ((q : Int) - 1) := IntWalk.i64_in _ (by omega)
 have hw4 : IntKind.i64.wrap ((r : Int) + 2 * ((q : Int) - 1) + 1) = (r : Int) + 2 * ((q : Int) - 1) + 1 := IntWalk.i64_in _ (by omega)
 refine region_B (n := 10) (m := 11) (f := 10) (by kernel_rfl) (by kernel_rfl) rfl ?_
 refine WpH.takeB (i := 0) (v := ?_) rfl (by kernel_rfl) (fun _ _ _ h => h) (.val rfl (fun wz hwz => ?_)) ?_
 rotate_left
 ·(obtain ⟨hcz, hfz⟩ := bcell hwz; go_simp; try (with_reducible rfl))
 (simp only [Act.put]); (try simp only [List.setIfInBounds_toArray]); (try simp only [List.set_cons_succ]); (try simp only [List.set_cons_zero])
 refine WpH.takeB (i := 1) rfl (by kernel_rfl) (fun _ _ _ h => h) (.call rfl (fun wz hwz => HAR.out wz _ _ _ _ _ hg hwz) (fun wz hwz => ?_)) ?_
 ·go_simp; try (with_reducible rfl)
 (simp only [Act.put]); (try simp only [List.setIfInBounds_toArray]); (try simp only [List.set_cons_succ]); (try simp only [List.set_cons_zero])
 refine WpH.takeB (i := 2) (v := ?_) rfl (by kernel_rfl) (fun _ _ _ h => h) (.val rfl (fun wz hwz => ?_)) ?_
 rotate_left
 ·(obtain ⟨hcz, hfz⟩ := bcell hwz; go_simp; try (with_reducible rfl))
 (simp only [Act.put]); (try simp only [List.setIfInBounds_toArray]); (try simp only [List.set_cons_succ]); (try simp only [List.set_cons_zero])
 refine WpH.takeB (i := 3) rfl (by kernel_rfl) (fun _ _ _ h => h) (.call rfl (fun wz hwz => HDG.out wz _ _ _ _ _ hg hwz) (fun wz hwz => ?_)) ?_
 ·go_simp; try (with_reducible rfl)
 (simp only [Act.put]); (try simp only [List.setIfInBounds_toArray]); (try simp only [List.set_cons_succ]); (try simp only [List.set_cons_zero])
 refine WpH.takeB (i := 4) (v := ?_) rfl (by kernel_rfl) (fun _ _ _ h => h) (.val rfl (fun wz hwz => ?_)) ?_
 rotate_left
 ·(obtain ⟨hcz, hfz⟩ := bcell hwz; go_simp; try (with_reducible rfl))
 (simp only [Act.put]); (try simp only [List.setIfInBounds_toArray]); (try simp only [List.set_cons_succ]); (try simp only [List.set_cons_zero])
 refine WpH.takeB (i := 5) rfl (by kernel_rfl) (fun _ _ _ h => h) (.call rfl (fun wz hwz => HD.out wz) (fun wz hwz => ?_)) ?_
 ·go_simp; try (with_reducible rfl)
 (simp only [Act.put]); (try simp only [List.setIfInBounds_toArray]); (try simp only [List.set_cons_succ]); (try simp only [List.set_cons_zero])
 refine WpH.takeB (i := 6) (v := ?_) rfl (by kernel_rfl) (fun _ _ _ h => h) (.val rfl (fun wz hwz => ?_)) ?_
 rotate_left
 ·go_simp; try (with_reducible rfl)
 (simp only [Act.put]); (try simp only [List.setIfInBounds_toArray]); (try simp only [List.set_cons_succ]); (try simp only [List.set_cons_zero])
 refine WpH.takeB (i := 7) (v := ?_) rfl (by kernel_rfl) (fun _ _ _ h => h) (.val rfl (fun wz hwz => ?_)) ?_
 rotate_left
 ·go_simp; try (with_reducible rfl)
 (simp only [Act.put]); (try simp only [List.setIfInBounds_toArray]); (try simp only [List.set_cons_succ]); (try simp only [List.set_cons_zero])
 refine WpH.takeB (i := 8) (v := ?_) rfl (by kernel_rfl) (fun _ _ _ h => h) (.val rfl (fun wz hwz => ?_)) ?_
 rotate_left
 ·go_simp; try (with_reducible rfl)
 (simp only [Act.put]); (try simp only [List.setIfInBounds_toArray]); (try simp only [List.set_cons_succ]); (try simp only [List.set_cons_zero])
 refine WpH.takeB (i := 9) (v := ?_) rfl (by kernel_rfl) (fun _ _ _ h => h) (.val rfl (fun wz hwz => ?_)) ?_
 rotate_left
 ·go_simp; try (with_reducible rfl)
 (simp only [Act.put]); (try simp only [List.setIfInBounds_toArray]); (try simp only [List.set_cons_succ]); (try simp only [List.set_cons_zero])
 refine WpH.doneB (by kernel_rfl) (fun w4 hw4 => ?_)
 (try simp only [List.drop_succ_cons]); (try simp only [List.drop_zero]); (try simp only [Nat.reduceSub]); (try simp only [List.take_succ_cons]); (try simp only [List.take_zero])
 replace hb00 := bl_call hb00 (Nat.le_refl _) hw4
 go_wp2_with fail
 go_ret
 exact ⟨ret_int (by omega), hb00⟩

end

end Go.Proofs.Ytpggflcapfkgpaa

namespace Go.Proofs.Ytpggflcapfkgpaa
open Go Go.RowKit
set_option linter.unusedVariables false

theorem wpList_val {P : Program} {ops : Array Oper} {Q : Exit → Act → World → Prop} {a : Act} {w w' : World} {rest : List Oper} {o : Oper} {v : Value} (hg : o.guard = none)
  (h : (execOp a.eval o).run P w = .ok (.value v) w') (hK : wpList P ops Q rest (a.put o.dst v) w') : wpList P ops Q (o :: rest) a w := by
 refine wpList_plain hg fun K hk => ?_
 unfold Oper.wp
 rw [h]
 exact hk _ _ hK
theorem wpList_skip {P : Program} {ops : Array Oper} {Q : Exit → Act → World → Prop} {a : Act} {w w' : World} {rest : List Oper} {o : Oper} (hg : o.guard = none)
  (h : (execOp a.eval o).run P w = .ok .skip w') (hK : wpList P ops Q rest (a.put o.dst undef) w') : wpList P ops Q (o :: rest) a w := by
 refine wpList_plain hg fun K hk => ?_
 unfold Oper.wp
 rw [h]
 exact hk _ _ hK
theorem exec_store_new {P : Program} (ρ : Operand → Value) (o : Oper) (t : TypeId) (x y : Operand) (ho : o.op = .store t x y) (w : World) (c c' : Array Value) (hx : ρ x = .pointer (some ⟨w.heap.size, 0, none⟩)) (hy : ρ y = .agg c')
  (hi : (P.info? t).map (·.size) = some c'.size) (hs : c.size = c'.size) (h1 : c'.all (·.oneCell') = true) : (execOp ρ o).run P (w.alloc (.cells c t)) = .ok .skip (w.alloc (.cells c' t)) := by
 have h := run_storeAt_new (P := P) w t c c' hi hs h1
 unfold execOp
 simp only [ho, hx, hy, Sem.run_bind, h, Result.andThen_ok, Sem.run_pure]

end Go.Proofs.Ytpggflcapfkgpaa
