/-
 ElemEq, K, CirM, Open, Ref9, Cir2, Valid, Said, Pow, Dot: for ProofJoint.
-/
import Derived.Test.YtfbfbijkkbflkaaGreatDoorProg
import Derived.ChangeKeysEq
import Derived.Lib.BitFns
import Derived.Deep.Slices
import Derived.Test.YtfbfbijkkbflkaaGreatDoorMay
namespace Go.Proofs.YtfbfbijkkbflkaaGreatDoor
open Go.RowKit

theorem neq_elem (a0 a1 b0 b1 : Int) (w : World) :
  (binOp .neq 36 (.agg #[.int .u64 a0, .int .u64 a1]) (.agg #[.int .u64 b0, .int .u64 b1])).run Tryz.prog w = .ok (.bool (!(a0 == b0 && a1 == b1))) w := by
 rw [run_neq_struct, run_equalIn_elem 9998]
 rfl

end Go.Proofs.YtfbfbijkkbflkaaGreatDoor

namespace Go.Proofs.YtfbfbijkkbflkaaGreatDoor
open Go.RowKit Fm
set_option linter.unusedVariables false
set_option maxRecDepth 100000

section
variable {f : Nat} (hf : IsF f)
include hf

end

/-! ### lists of elements -/
theorem esK_nil {f : Nat} : esK ([] : KL f) = [] := rfl
theorem esK_cons {f : Nat} (x : Fin (Pm f)) (l : KL f) : esK (x :: l) = eK x :: esK l := rfl

end Go.Proofs.YtfbfbijkkbflkaaGreatDoor

namespace Go.Proofs.YtfbfbijkkbflkaaGreatDoor
open Go.RowKit Fm
set_option linter.unusedVariables false
set_option maxRecDepth 100000

namespace CK
end CK

/-! ### how many bits -/
namespace CK
end CK

theorem ceil_of {n c j : Nat} (hc : 1 ≤ c) (h1 : n ≤ j * c) (h2 : j = 0 ∨ (j - 1) * c < n) : (n + c - 1) / c = j := by
 rcases h2 with rfl | h2
 ·have : n = 0 := by simpa using h1
  subst this
  exact Nat.div_eq_of_lt (by omega)
 ·have hj : 1 ≤ j := by
   rcases Nat.eq_zero_or_pos j with rfl | h
   ·simp at h1; omega
   ·exact h
  obtain ⟨i, rfl⟩ : ∃ i, j = i + 1 := ⟨j - 1, by omega⟩
  rw [Nat.add_sub_cancel] at h2
  rw [Nat.succ_mul] at h1
  refine Nat.div_eq_of_lt_le ?_ ?_
  ·rw [Nat.succ_mul]; omega
  ·rw [Nat.succ_mul, Nat.succ_mul]; omega
/-! ### the least power of two that isn't below -/
end Go.Proofs.YtfbfbijkkbflkaaGreatDoor

namespace Go.Proofs.YtfbfbijkkbflkaaGreatDoor
open Go.RowKit Go.ChangeShapes Go.WideShapes Go.Deep
set_option linter.unusedVariables false
set_option maxRecDepth 100000

section
variable {H : Type} {enc : TypeId × Value → H} {W : World} {base : Nat} {sp : Nat → Bool} {hd : Bool}

theorem open_elems {r : Reach} {b0 : Nat} {v : Value} {d : DataW H} {ps : List MemPlace} (hval : Value.okWide Tryz.prog W r b0 24 v) (h : DataW.Trod enc Tryz.prog W base sp hd 24 v d ps) :
  ∃ xs : List E, SlE W W.heap.size v xs := by
 obtain ⟨a0, len, cap, rfl⟩ := okWide_slice Tryz.underlying24 hval
 obtain ⟨fuel, hf⟩ := h
 rcases open_slice Tryz.underlying24 hf with ⟨hcs, _⟩ | ⟨a, len', cap', m, n, D, Pl, hcs, _, hle, hcm, hm, _, hi⟩
 ·simp only [Value.cells, List.cons.injEq, Value.slice.injEq, and_true] at hcs
  obtain ⟨rfl, rfl, rfl⟩ := hcs
  exact ⟨[], SlE.nil _ _⟩
 ·simp only [Value.cells, List.cons.injEq, Value.slice.injEq, and_true] at hcs
  obtain ⟨rfl, rfl, rfl⟩ := hcs
  have hlm : len ≤ m := by rw [hm]; split <;> omega
  have key : ∀ i, i < len → ∃ e : E, W.cell? (a.add (i * 2)) = some (.int .u64 e.1) ∧ W.cell? (a.add (i * 2 + 1)) = some (.int .u64 e.2) ∧ okE e := by
   intro i hil
   obtain ⟨cs', hc, ht⟩ := hi i (by omega)
   rw [cellsOf_elem] at hc
   obtain ⟨e, rfl, hok⟩ := trod_elem ht
   obtain ⟨_, _, hat⟩ := World.cells?_some hc
   have h0 := hat 0 (by omega)
   have h1 := hat 1 (by omega)
   have e0 : (a.add (i * 2)).add 0 = a.add (i * 2) := rfl
   have e1 : (a.add (i * 2)).add 1 = a.add (i * 2 + 1) := by
    unfold Addr.add
    by_cases h : i * 2 = 0
    ·simp [h]
    ·simp [h, Nat.add_assoc]
   rw [e0] at h0
   rw [e1] at h1
   exact ⟨e, h0, h1, hok⟩
  have hex : ∃ f : Nat → E, ∀ i, i < len → W.cell? (a.add (i * 2)) = some (.int .u64 (f i).1) ∧ W.cell? (a.add (i * 2 + 1)) = some (.int .u64 (f i).2) ∧ okE (f i) := by
   refine ⟨fun i => if hil : i < len then Classical.choose (key i hil) else (0, 0), fun i hil => ?_⟩
   simp only [dif_pos hil]
   exact Classical.choose_spec (key i hil)
  obtain ⟨f, hfi⟩ := hex
  refine ⟨(List.range len).map f, ⟨⟨some a, cap, by simp, by simpa using hle, by unfold maxLen at hcm; omega, fun hn => ?_⟩, ?_⟩⟩
  ·have hl0 : 0 < len := by simpa using hn
   have hc0 := (hfi 0 hl0).1
   have ha0 : a.add (0 * 2) = a := rfl
   rw [ha0] at hc0
   have hlt := lt_of_cell hc0
   obtain ⟨b, o, s⟩ := a
   have hs : s = none := by
    cases s with
    | none => rfl
    | some q => simp [World.cell?] at hc0; split at hc0 <;> simp_all
   subst hs
   refine ⟨b, o, rfl, hlt, fun i e hie => ?_⟩
   have hil : i < len := by
    have := (List.getElem?_eq_some_iff.1 hie).1
    simpa using this
   have hee : e = f i := by
    rw [List.getElem?_map, List.getElem?_range hil] at hie
    simpa using hie.symm
   subst hee
   obtain ⟨k0, k1, _⟩ := hfi i hil
   have ea : ∀ j, (⟨b, o, none⟩ : Addr).add j = ⟨b, o + j, none⟩ := by
    intro j
    unfold Addr.add
    split <;> simp_all
   rw [ea] at k0 k1
   exact ⟨k0, by rw [Nat.add_assoc]; exact k1⟩
  ·intro e he
   rw [List.mem_map] at he
   obtain ⟨i, hir, rfl⟩ := he
   exact (hfi i (by simpa using hir)).2.2
end

end Go.Proofs.YtfbfbijkkbflkaaGreatDoor

namespace Go.Proofs.YtfbfbijkkbflkaaGreatDoor
open Go.RowKit Fm
set_option linter.unusedVariables false
set_option maxRecDepth 100000

theorem rval_count (f : Nat) : CK.count.rval f = .agg #[.int .i64 1, .int .i64 f, .int .i64 0, .int .i64 0, .int .i64 0, .int .i64 0] := rfl
theorem rval_sum (f b : Nat) : (CK.sum b).rval f = .agg #[.int .i64 2, .int .i64 f, .int .i64 b, .int .i64 0, .int .i64 0, .int .i64 0] := rfl
theorem rval_vec (f b l c : Nat) : (CK.vec b l c).rval f = .agg #[.int .i64 3, .int .i64 f, .int .i64 b, .int .i64 l, .int .i64 0, .int .i64 c] := rfl
theorem rval_hist (f l c : Nat) : (CK.hist l c).rval f = .agg #[.int .i64 4, .int .i64 f, .int .i64 0, .int .i64 l, .int .i64 0, .int .i64 c] := rfl
theorem rval_multi (f l m c : Nat) : (CK.multi l m c).rval f = .agg #[.int .i64 5, .int .i64 f, .int .i64 0, .int .i64 l, .int .i64 m, .int .i64 c] := rfl

theorem bitLen_half : ∀ m : Nat, m ≤ 64 → 0 < m → Lib.bitLen m = Lib.bitLen (m / 2) + 1 := by decide +kernel

set_option maxHeartbeats 1000000 in
theorem ref9_WeightBits (k f b l c : Int) (m : Nat) (h1 : m ≤ 64) (w : World) :
  Calls Tryz.prog 139 #[.agg #[.int .i64 k, .int .i64 f, .int .i64 b, .int .i64 l, .int .i64 m, .int .i64 c]] w (RetI (Lib.bitLen m) w) := by
 go_enter Tryz.func139, Tryz.ntmps139
 go_wp2
 go_loop [3, 4] (fun n q => ∃ (i j : Nat), j ≤ 64 ∧ i ≤ 7 ∧ n = .int .i64 i ∧ q = .int .i64 j ∧ Hid (i + Lib.bitLen j = Lib.bitLen m)) (fun _ q => (intOf q).toNat)
 case atStart => exact ⟨0, m, h1, by omega, rfl, rfl, Nat.zero_add _⟩
 case round =>
  obtain ⟨i, j, hj, hi7, rfl, rfl, hij⟩ := hrel
  have hb := (bitLen_small m h1).1
  by_cases hlt : 0 < j
  ·have hh := bitLen_half j hj hlt
   have HH := Lib.hid hh
   have h8 : i + 1 ≤ 7 := by have := hij.out; omega
   clear hh
   go_wp2
   go_round
   case rel => exact ⟨i + 1, j / 2, by omega, h8, by go_num, by go_num, by have h1 := hij.out; have h2 := HH.out; show i + 1 + Lib.bitLen (j / 2) = _; omega⟩
   case measure => simp [intOf]; omega
  ·obtain rfl : j = 0 := by omega
   go_wp2
   go_ret
   exact ⟨ret_int (by have h := hij.out; have h0 : Lib.bitLen 0 = 0 := rfl; omega), by repeat (first | exact bA | with_reducible assumption | apply bB | (refine bC ?_ (by dsimp only; omega)) | apply bD | apply bE | (refine bF ?_ (by assumption)))⟩

set_option maxHeartbeats 1000000 in
theorem ref9_In (f : Nat) (y : CK) (hy : y.ok) (w : World) : Calls Tryz.prog 121 #[y.rval f] w (RetI y.nin w) := by
 cases y with
 | count =>
  rw [rval_count]
  go_enter Tryz.func121, Tryz.ntmps121
  go_wp2
  go_ret
  exact ⟨rfl, by repeat (first | exact bA | with_reducible assumption | apply bB | (refine bC ?_ (by dsimp only; omega)) | apply bD | apply bE | (refine bF ?_ (by assumption)))⟩
 | sum b =>
  rw [rval_sum]
  go_enter Tryz.func121, Tryz.ntmps121
  go_wp2
  go_ret
  exact ⟨rfl, by repeat (first | exact bA | with_reducible assumption | apply bB | (refine bC ?_ (by dsimp only; omega)) | apply bD | apply bE | (refine bF ?_ (by assumption)))⟩
 | vec b l c =>
  rw [rval_vec]
  have hle := CK.nin_le hy
  rw [show (CK.vec b l c).nin = l * b from rfl] at hle ⊢
  have hmul : (b : Int) * (l : Int) = ((l * b : Nat) : Int) := by rw [Int.natCast_mul, Int.mul_comm]
  generalize l * b = n at *
  clear hy
  go_enter Tryz.func121, Tryz.ntmps121
  go_wp2
  go_ret
  refine ⟨ret_int ?_, by repeat (first | exact bA | with_reducible assumption | apply bB | (refine bC ?_ (by dsimp only; omega)) | apply bD | apply bE | (refine bF ?_ (by assumption)))⟩
  first
   | rfl
   | omega
   | (rw [hmul]; exact IntWalk.i64_in _ (by omega))
 | hist l c =>
  rw [rval_hist]
  go_enter Tryz.func121, Tryz.ntmps121
  go_wp2
  go_ret
  exact ⟨rfl, by repeat (first | exact bA | with_reducible assumption | apply bB | (refine bC ?_ (by dsimp only; omega)) | apply bD | apply bE | (refine bF ?_ (by assumption)))⟩
 | multi l m c =>
  rw [rval_multi]
  obtain ⟨⟨hl1, hl2⟩, ⟨hm1, hm2⟩, hc⟩ := hy
  have HW := Lib.hid (fun wz => ref9_WeightBits 5 f 0 l c m (by omega) wz)
  have hb7 := (bitLen_small m (by omega)).1
  rw [show (CK.multi l m c).nin = l + Lib.bitLen m from rfl]
  generalize Lib.bitLen m = q at *
  have hw1 : IntKind.i64.wrap ((l : Int) + (q : Int)) = (l : Int) + (q : Int) := IntWalk.i64_in _ (by omega)
  have hb00 : Below w.heap.size w w := Below.refl _ _
  go_enter Tryz.func121, Tryz.ntmps121
  go_upto_region 10 with fail
  have hx := Vs.new w [.int .i64 5, .int .i64 f, .int .i64 0, .int .i64 l, .int .i64 m, .int .i64 c] #[.int .i64 5, .int .i64 f, .int .i64 0, .int .i64 l, .int .i64 m, .int .i64 c] 72 rfl
  have hbA : Below w.heap.size w (w.alloc (.cells #[.int .i64 5, .int .i64 f, .int .i64 0, .int .i64 l, .int .i64 m, .int .i64 c] 72)) := by repeat (first | exact bA | with_reducible assumption | apply bB)
  replace hb00 := bl_call hb00 (Nat.le_refl _) hbA
  clear hbA
  generalize w.alloc (.cells #[.int .i64 5, .int .i64 f, .int .i64 0, .int .i64 l, .int .i64 m, .int .i64 c] 72) = w1 at hb00 hx ⊢
  obtain ⟨⟨x0, x1, x2, x3, x4, x5⟩, ⟨x6, x7, x8, x9, x10, x11⟩, x12⟩ := hx.get6
  refine region_B (n := 5) (m := 6) (f := 5) (by kernel_rfl) (by kernel_rfl) rfl ?_
  refine WpH.takeB (i := 0) (v := ?_) rfl (by kernel_rfl) (fun _ _ _ h => h) (.val rfl (fun wz hwz => ?_)) ?_
  rotate_left
  ·go_simp; try (with_reducible rfl)
  (simp only [Act.put]); (try simp only [List.setIfInBounds_toArray]); (try simp only [List.set_cons_succ]); (try simp only [List.set_cons_zero])
  refine WpH.takeB (i := 1) (v := ?_) rfl (by kernel_rfl) (fun _ _ _ h => h) (.val rfl (fun wz hwz => ?_)) ?_
  rotate_left
  ·(obtain ⟨hcz, hfz⟩ := bcell hwz; go_simp; try (with_reducible rfl))
  (simp only [Act.put]); (try simp only [List.setIfInBounds_toArray]); (try simp only [List.set_cons_succ]); (try simp only [List.set_cons_zero])
  refine WpH.takeB (i := 2) (v := ?_) rfl (by kernel_rfl) (fun _ _ _ h => h) (.val rfl (fun wz hwz => ?_)) ?_
  rotate_left
  ·(obtain ⟨hcz, hfz⟩ := bcell hwz; go_simp; try (with_reducible rfl))
  (simp only [Act.put]); (try simp only [List.setIfInBounds_toArray]); (try simp only [List.set_cons_succ]); (try simp only [List.set_cons_zero])
  refine WpH.takeB (i := 3) rfl (by kernel_rfl) (fun _ _ _ h => h) (.call rfl (fun wz hwz => HW.out wz) (fun wz hwz => ?_)) ?_
  ·go_simp; try (with_reducible rfl)
  (simp only [Act.put]); (try simp only [List.setIfInBounds_toArray]); (try simp only [List.set_cons_succ]); (try simp only [List.set_cons_zero])
  refine WpH.takeB (i := 4) (v := ?_) rfl (by kernel_rfl) (fun _ _ _ h => h) (.val rfl (fun wz hwz => ?_)) ?_
  rotate_left
  ·go_simp; try (with_reducible rfl)
  (simp only [Act.put]); (try simp only [List.setIfInBounds_toArray]); (try simp only [List.set_cons_succ]); (try simp only [List.set_cons_zero])
  refine WpH.doneB (by kernel_rfl) (fun w2 hw2 => ?_)
  (try simp only [List.drop_succ_cons]); (try simp only [List.drop_zero]); (try simp only [Nat.reduceSub]); (try simp only [List.take_succ_cons]); (try simp only [List.take_zero])
  replace hb00 := bl_call hb00 (Nat.le_refl _) hw2
  replace hx := hx.call hw2
  go_wp2_with fail
  go_ret
  exact ⟨ret_int (by omega), by repeat (first | exact bA | with_reducible assumption | apply bB | (refine bC ?_ (by dsimp only; omega)) | apply bD | apply bE | (refine bF ?_ (by assumption)))⟩

set_option maxHeartbeats 1000000 in
theorem ref9_Calls_chunk (k f b l m : Int) (c n : Nat) (hk : (k == 1) = false) (hk2 : (k == 2) = false) (hc1 : 1 ≤ c) (hc2 : c ≤ 16) (hn : n ≤ 2048) (w : World)
  (hI : ∀ wz, Calls Tryz.prog 121 #[.agg #[.int .i64 k, .int .i64 f, .int .i64 b, .int .i64 l, .int .i64 m, .int .i64 c]] wz (RetI n wz)) :
  Calls Tryz.prog 88 #[.agg #[.int .i64 k, .int .i64 f, .int .i64 b, .int .i64 l, .int .i64 m, .int .i64 c]] w (RetI ((n + c - 1) / c) w) := by
 have HI := Lib.hid hI
 clear hI
 have hb00 : Below w.heap.size w w := Below.refl _ _
 go_enter Tryz.func88, Tryz.ntmps88
 go_upto_region 1 with fail
 have hx := Vs.new w [.int .i64 k, .int .i64 f, .int .i64 b, .int .i64 l, .int .i64 m, .int .i64 c] #[.int .i64 k, .int .i64 f, .int .i64 b, .int .i64 l, .int .i64 m, .int .i64 c] 72 rfl
 have hbA : Below w.heap.size w (w.alloc (.cells #[.int .i64 k, .int .i64 f, .int .i64 b, .int .i64 l, .int .i64 m, .int .i64 c] 72)) := by repeat (first | exact bA | with_reducible assumption | apply bB)
 replace hb00 := bl_call hb00 (Nat.le_refl _) hbA
 clear hbA
 generalize w.alloc (.cells #[.int .i64 k, .int .i64 f, .int .i64 b, .int .i64 l, .int .i64 m, .int .i64 c] 72) = w1 at hb00 hx ⊢
 obtain ⟨⟨x0, x1, x2, x3, x4, x5⟩, ⟨x6, x7, x8, x9, x10, x11⟩, x12⟩ := hx.get6
 go_wp2_with fail
 go_loopw [3, 4] (fun u v wr => ∃ (j p : Nat), j ≤ 2048 ∧ p ≤ 2064 ∧ u = .int .i64 j ∧ v = .int .i64 p ∧ Hid (p = j * c) ∧ Hid (j = 0 ∨ (j - 1) * c < n) ∧ Vs wr w.heap.size [.int .i64 k, .int .i64 f, .int .i64 b, .int .i64 l, .int .i64 m, .int .i64 c] ∧ Below w.heap.size w wr) (fun _ v _ => 2064 - (intOf v).toNat)
 case atStart => exact ⟨0, 0, by omega, by omega, rfl, rfl, (Nat.zero_mul c).symm, .inl rfl, hx, hb00⟩
 case round =>
  clear x0 x1 x2 x3 x4 x5 x6 x7 x8 x9 x10 x11 x12
  clear hx hb00
  obtain ⟨j, p, hj, hp, rfl, rfl, hpj, hj0, hx, hb00⟩ := hrel
  obtain ⟨⟨x0, x1, x2, x3, x4, x5⟩, ⟨x6, x7, x8, x9, x10, x11⟩, x12⟩ := hx.get6
  by_cases hlt : p < n
  ·have hjj : j + 1 ≤ 2048 := by
    have h1 := hpj.out
    have h2 : j * 1 ≤ j * c := Nat.mul_le_mul_left j hc1
    omega
   go_wp2_with (first
    | (go_at_call 121; refine (HI.out _).mono ?_; rintro e w2 ⟨rfl, hb2⟩; replace hb00 := bl_call hb00 (Nat.le_refl _) hb2; replace hx := hx.call hb2; obtain ⟨⟨x0, x1, x2, x3, x4, x5⟩, ⟨x6, x7, x8, x9, x10, x11⟩, x12⟩ := hx.get6))
   go_roundw
   case rel => exact ⟨j + 1, p + c, hjj, by omega, by go_num, by go_num, (by rw [hpj.out, Nat.succ_mul] : p + c = (j + 1) * c), .inr (by rw [Nat.add_sub_cancel, ← hpj.out]; exact hlt), hx, hb00⟩
   case measure => simp [intOf]; omega
  ·have hge : n ≤ j * c := by rw [← hpj.out]; omega
   have HE := Lib.hid (ceil_of hc1 hge hj0.out)
   clear hge
   go_wp2_with (first
    | (go_at_call 121; refine (HI.out _).mono ?_; rintro e w2 ⟨rfl, hb2⟩; replace hb00 := bl_call hb00 (Nat.le_refl _) hb2; replace hx := hx.call hb2; obtain ⟨⟨x0, x1, x2, x3, x4, x5⟩, ⟨x6, x7, x8, x9, x10, x11⟩, x12⟩ := hx.get6))
   go_ret
   exact ⟨ret_int (by rw [HE.out]), hb00⟩

theorem ref9_Calls (f : Nat) (y : CK) (hy : y.ok) (w : World) : Calls Tryz.prog 88 #[y.rval f] w (RetI y.calls w) := by
 have hI := fun wz => ref9_In f y hy wz
 have hn := CK.nin_le hy
 cases y with
 | count =>
  rw [rval_count]
  go_enter Tryz.func88, Tryz.ntmps88
  go_wp2
  go_ret
  exact ⟨rfl, by repeat (first | exact bA | with_reducible assumption | apply bB | (refine bC ?_ (by dsimp only; omega)) | apply bD | apply bE | (refine bF ?_ (by assumption)))⟩
 | sum b =>
  rw [rval_sum]
  go_enter Tryz.func88, Tryz.ntmps88
  go_wp2
  go_ret
  exact ⟨rfl, by repeat (first | exact bA | with_reducible assumption | apply bB | (refine bC ?_ (by dsimp only; omega)) | apply bD | apply bE | (refine bF ?_ (by assumption)))⟩
 | vec b l c =>
  rw [rval_vec] at hI ⊢
  exact ref9_Calls_chunk 3 f b l 0 c _ rfl rfl hy.2.2.1 hy.2.2.2 hn w hI
 | hist l c =>
  rw [rval_hist] at hI ⊢
  exact ref9_Calls_chunk 4 f 0 l 0 c _ rfl rfl hy.2.1 hy.2.2 hn w hI
 | multi l m c =>
  rw [rval_multi] at hI ⊢
  exact ref9_Calls_chunk 5 f 0 l m c _ rfl rfl hy.2.2.1 hy.2.2.2 hn w hI

end Go.Proofs.YtfbfbijkkbflkaaGreatDoor

namespace Go.Proofs.YtfbfbijkkbflkaaGreatDoor
open Go.RowKit Fm
set_option linter.unusedVariables false
set_option maxRecDepth 100000

section
variable (f : Nat) (y : CK) (hy : y.ok)
include hy

set_option maxHeartbeats 1000000 in
theorem ref9_Domain (hc : y.calls ≤ 511) (w : World) : Calls Tryz.prog 57 #[y.rval f] w (RetI (nextP (y.calls + 1)) w) := by
 have HC := Lib.hid (fun wz => ref9_Calls f y hy wz)
 unfold CK.rval at HC ⊢
 generalize y.calls = q at *
 clear hy
 generalize ((y.k : Nat) : Int) = k at *
 generalize ((y.b : Nat) : Int) = b at *
 generalize ((y.l : Nat) : Int) = l at *
 generalize ((y.m : Nat) : Int) = m at *
 generalize ((y.c : Nat) : Int) = c at *
 have hb00 : Below w.heap.size w w := Below.refl _ _
 go_enter Tryz.func57, Tryz.ntmps57
 go_upto_region 1 with fail
 have hx := Vs.new w [.int .i64 k, .int .i64 f, .int .i64 b, .int .i64 l, .int .i64 m, .int .i64 c] #[.int .i64 k, .int .i64 f, .int .i64 b, .int .i64 l, .int .i64 m, .int .i64 c] 72 rfl
 have hbA : Below w.heap.size w (w.alloc (.cells #[.int .i64 k, .int .i64 f, .int .i64 b, .int .i64 l, .int .i64 m, .int .i64 c] 72)) := by repeat (first | exact bA | with_reducible assumption | apply bB)
 replace hb00 := bl_call hb00 (Nat.le_refl _) hbA
 clear hbA
 generalize w.alloc (.cells #[.int .i64 k, .int .i64 f, .int .i64 b, .int .i64 l, .int .i64 m, .int .i64 c] 72) = w1 at hb00 hx ⊢
 go_wp2_with fail
 go_loopw [3] (fun o wr => ∃ p : Nat, o = .int .i64 p ∧ Hid (OnWay (q + 1) p) ∧ p ≤ 1024 ∧ Vs wr w.heap.size [.int .i64 k, .int .i64 f, .int .i64 b, .int .i64 l, .int .i64 m, .int .i64 c] ∧ Below w.heap.size w wr) (fun o _ => 1024 - (intOf o).toNat)
 case atStart => exact ⟨1, rfl, onWay_one _, by omega, hx, hb00⟩
 case round =>
  clear hx hb00
  obtain ⟨p, rfl, hp, hp2, hx, hb00⟩ := hrel
  obtain ⟨⟨x0, x1, x2, x3, x4, x5⟩, ⟨x6, x7, x8, x9, x10, x11⟩, x12⟩ := hx.get6
  by_cases hlt : p < q + 1
  ·have h2 := onWay_next hp.out hlt (by omega)
   have h3 := (onWay_le h2).2
   have H2 := Lib.hid h2
   have h4 := (onWay_le hp.out).1
   clear h2
   go_wp2_with (first
    | (go_at_call 88; refine (HC.out _).mono ?_; rintro e w2 ⟨rfl, hb2⟩; replace hb00 := bl_call hb00 (Nat.le_refl _) hb2; replace hx := hx.call hb2))
   go_roundw
   case rel => exact ⟨2 * p, by go_num, H2.out, h3, hx, hb00⟩
   case measure => simp [intOf]; omega
  ·have h5 := Lib.hid (onWay_end hp.out (by omega) hlt)
   go_wp2_with (first
    | (go_at_call 88; refine (HC.out _).mono ?_; rintro e w2 ⟨rfl, hb2⟩; replace hb00 := bl_call hb00 (Nat.le_refl _) hb2; replace hx := hx.call hb2))
   go_ret
   exact ⟨ret_int (by rw [h5.out]), hb00⟩

end

/-! ### the reference's circuit of a circuit -/
set_option maxHeartbeats 1000000 in
theorem law10_Ref (k f b l m c : Int) (hk0 : 0 ≤ k) (hk1 : k ≤ 255) (hf0 : 0 ≤ f) (hf1 : f ≤ 255) (w : World) :
  Calls Tryz.prog 40 #[.agg #[.int .u8 k, .int .u8 f, .int .i64 b, .int .i64 l, .int .i64 m, .int .i64 c]] w fun e w' => e = .returned (.agg #[.int .i64 k, .int .i64 f, .int .i64 b, .int .i64 l, .int .i64 m, .int .i64 c]) ∧ Below w.heap.size w w' := by
 go_enter Tryz.func40, Tryz.ntmps40
 go_wp2
 refine bodyPost_ret (by simp [results, Tryz.results40, go_sem]) rfl ⟨rfl, by repeat (first | exact bA | with_reducible assumption | apply bB | (refine bC ?_ (by dsimp only; omega)) | apply bD | apply bE | (refine bF ?_ (by assumption)))⟩

end Go.Proofs.YtfbfbijkkbflkaaGreatDoor

namespace Go.Proofs.YtfbfbijkkbflkaaGreatDoor
open Go.RowKit Fm
set_option linter.unusedVariables false
set_option maxRecDepth 100000

def okBits {f : Nat} (l : KL f) : Prop := ∀ x, x ∈ l → x = 0 ∨ x = 1
def okRest {f : Nat} (y : CK) (l : KL f) : Prop :=
 match y with
 | .hist _ _ => ksum l = 1
 | .multi n m _ => ksum (l.take n) + nK f (offN m) = knum (l.drop n)
 | _ => True
def okVec {f : Nat} (y : CK) (l : KL f) : Prop := okBits l ∧ okRest y l

def RetTest (p : Prop) (w : World) (e : Ending) (w' : World) : Prop := (∃ b : Bool, e = .returned (.bool b) ∧ (b = true ↔ p)) ∧ Below w.heap.size w w'

theorem okBits_take {f : Nat} {l : KL f} {k : Nat} {x : Fin (Pm f)} (h : l[k]? = some x) (ha : okBits (l.take k)) (hx : x = 0 ∨ x = 1) : okBits (l.take (k + 1)) := by
 intro z hz
 rw [List.take_add_one, h] at hz
 rcases List.mem_append.1 hz with h1 | h1
 ·exact ha z h1
 ·have : z = x := by simpa using h1
  subst this
  exact hx

section
variable {f : Nat} (hf : IsF f)
include hf

set_option maxHeartbeats 8000000 in
theorem circuit_Valid (y : CK) (hy : y.ok) (hcalls : ¬ 511 < y.calls) (vl : Value) (l : KL f) (w : World) (hl : SlK w w.heap.size vl l) (hlen : l.length = y.nin) :
  Calls Tryz.prog 13 #[y.val f, vl] w (RetTest (okVec y l) w) := by
 have HC : Hid (∀ wz, Calls Tryz.prog 48 #[y.val f] wz (RetC 0 wz)) := by
  intro wz
  have h := circuit_Check_ok hf y hy wz
  rwa [CK.code_ok hcalls] at h
 have HI := Lib.hid (fun wz => circuit_In f y hy wz)
 have HONE := Lib.hid (fun wz => field_One hf wz)
 have hnin := CK.nin_le hy
 have heq := eql_elem
 have hneq := neq_elem
 have hfb0 : (1 : Int) ≤ (f : Int) := by rcases hf.or with rfl | rfl <;> omega
 have hfb1 : (f : Int) ≤ 2 := by rcases hf.or with rfl | rfl <;> omega
 have HSL := Lib.hid hl
 obtain ⟨A, cc, rfl, hcc, hcm, hA⟩ := hl
 have HL := Lib.hid hlen
 unfold CK.val at HC HI ⊢
 obtain ⟨K, hK⟩ : ∃ K : Int, ((y.k : Nat) : Int) = K := ⟨_, rfl⟩
 obtain ⟨B, hB⟩ : ∃ K : Int, ((y.b : Nat) : Int) = K := ⟨_, rfl⟩
 obtain ⟨N, hN⟩ : ∃ K : Int, ((y.l : Nat) : Int) = K := ⟨_, rfl⟩
 obtain ⟨M, hM⟩ : ∃ K : Int, ((y.m : Nat) : Int) = K := ⟨_, rfl⟩
 obtain ⟨C, hC⟩ : ∃ K : Int, ((y.c : Nat) : Int) = K := ⟨_, rfl⟩
 rw [hK, hB, hN, hM, hC] at HC HI ⊢
 have HK := Lib.hid hK
 have HB := Lib.hid hB
 have HN := Lib.hid hN
 have HM := Lib.hid hM
 have HCC := Lib.hid hC
 rw [← hlen] at HI
 have hll : l.length ≤ 2048 := by rw [hlen]; exact hnin
 clear hK hB hN hM hC hlen hnin hcalls
 have hb00 : Below w.heap.size w w := Below.refl _ _
 go_enter Tryz.func13, Tryz.ntmps13
 go_upto_region 1 with fail
 have hx := Vs.new w [.int .u8 K, .int .u8 f, .int .i64 B, .int .i64 N, .int .i64 M, .int .i64 C] #[.int .u8 K, .int .u8 f, .int .i64 B, .int .i64 N, .int .i64 M, .int .i64 C] 30 rfl
 have hbA : Below w.heap.size w (w.alloc (.cells #[.int .u8 K, .int .u8 f, .int .i64 B, .int .i64 N, .int .i64 M, .int .i64 C] 30)) := by repeat (first | exact bA | with_reducible assumption | apply bB)
 replace hb00 := bl_call hb00 (Nat.le_refl _) hbA
 clear hbA
 generalize w.alloc (.cells #[.int .u8 K, .int .u8 f, .int .i64 B, .int .i64 N, .int .i64 M, .int .i64 C] 30) = w1 at hb00 hx ⊢
 obtain ⟨⟨x0, x1, x2, x3, x4, x5⟩, ⟨x6, x7, x8, x9, x10, x11⟩, x12⟩ := hx.get6
 have hxl : w.heap.size < w1.heap.size := hx.lt
 go_upto_region 4 with (first
  | (go_at_call 48; refine (HC.out _).mono ?_; rintro e w2 ⟨rfl, hb2⟩; replace hb00 := bl_call hb00 (Nat.le_refl _) hb2; replace hx := hx.call hb2; obtain ⟨⟨x0, x1, x2, x3, x4, x5⟩, ⟨x6, x7, x8, x9, x10, x11⟩, x12⟩ := hx.get6)
  | (go_at_call 42; refine (HI.out _).mono ?_; rintro e w3 ⟨rfl, hb3⟩; replace hb00 := bl_call hb00 (Nat.le_refl _) hb3; replace hx := hx.call hb3; obtain ⟨⟨x0, x1, x2, x3, x4, x5⟩, ⟨x6, x7, x8, x9, x10, x11⟩, x12⟩ := hx.get6))
 have hsz : w.heap.size + 1 ≤ w3.heap.size := hx.lt
 clear HC HI hb2 hb3
 clear x0 x1 x2 x3 x4 x5 x6 x7 x8 x9 x10 x11 x12
 go_wp2_with fail
 go_loopw [22] (fun i wr => ∃ k : Nat, k ≤ l.length ∧ i = .int .i64 k ∧ Hid (okBits (l.take k)) ∧ Vs wr w.heap.size [.int .u8 K, .int .u8 f, .int .i64 B, .int .i64 N, .int .i64 M, .int .i64 C] ∧ Below w.heap.size w wr) (fun i _ => l.length - (intOf i).toNat)
 case atStart => exact ⟨0, Nat.zero_le _, rfl, fun x h => (by simp at h), hx, hb00⟩
 case round =>
  clear hx hb00 hsz hxl
  obtain ⟨k, hk, rfl, hbits, hx, hbw⟩ := hrel
  obtain ⟨⟨x0, x1, x2, x3, x4, x5⟩, ⟨x6, x7, x8, x9, x10, x11⟩, x12⟩ := hx.get6
  by_cases hlt : k < l.length
  ·obtain ⟨b, o, rfl, hBb, hr⟩ := hA (by omega)
   obtain ⟨x, he⟩ : ∃ e, l[k]? = some e := ⟨_, List.getElem?_eq_getElem hlt⟩
   obtain ⟨d0, d1⟩ := (hr.below hbw hBb).kat he
   have hbl : b < wr.heap.size := Nat.lt_of_lt_of_le hBb hbw.size
   have HE := Lib.hid he
   have HNX := Lib.hid (fun h => okBits_take he hbits.out h)
   clear he hr hA
   go_upto_region 7 with fail
   clear x0 x1 x2 x3 x4 x5 x6 x7 x8 x9 x10 x11 x12
   have hv := V2.new wr (.int .u64 (lo x)) (.int .u64 (hi x)) 36
   have hbA : Below wr.heap.size wr (wr.alloc (.cells #[.int .u64 (lo x), .int .u64 (hi x)] 36)) := by repeat (first | exact bA | with_reducible assumption | apply bB)
   replace hbw := bl_call hbw (Nat.le_refl _) hbA
   replace hx := hx.call hbA
   clear hbA
   generalize wr.alloc (.cells #[.int .u64 (lo x), .int .u64 (hi x)] 36) = w4 at hbw hx hv ⊢
   obtain ⟨⟨x0, x1, x2, x3, x4, x5⟩, ⟨x6, x7, x8, x9, x10, x11⟩, x12⟩ := hx.get6
   obtain ⟨v0, v1, v2, v3, v4⟩ := V2.mk hv.c0 hv.c1 hv.f0 hv.f1 hv.lt
   have hl0 := lohi_zero x
   have hl1 := lohi_eq x 1
   by_cases h0 : x = 0
   ·rw [decide_eq_true h0] at hl0
    have HX := Lib.hid (HNX.out (.inl h0))
    clear hl1 h0
    refine region_B (n := 8) (m := 9) (f := 8) (by kernel_rfl) (by kernel_rfl) rfl ?_
    refine WpH.vD 0 (some 26) ?_ rfl rfl (by kernel_rfl) (fun _ _ _ h => h) rfl (fun wz hwz => ?_) ?_
    rotate_left
    ·(obtain ⟨hcz, hfz⟩ := bcell hwz; go_simp; try (with_reducible rfl))
    simp only [Zp, Zq, Zr, Zs]
    refine WpH.vD 1 (some 27) ?_ rfl rfl (by kernel_rfl) (fun _ _ _ h => h) rfl (fun wz hwz => ?_) ?_
    rotate_left
    ·go_simp; try (with_reducible rfl)
    simp only [Zp, Zq, Zr, Zs]
    refine WpH.vD 2 (some 28) ?_ rfl rfl (by kernel_rfl) (fun _ _ _ h => h) rfl (fun wz hwz => ?_) ?_
    rotate_left
    ·go_simp; try (with_reducible rfl)
    simp only [Zp, Zq, Zr, Zs]
    refine WpH.vD 3 (some 29) ?_ rfl rfl (by kernel_rfl) (fun _ _ _ h => h) rfl (fun wz hwz => ?_) ?_
    rotate_left
    ·go_simp; try (with_reducible rfl)
    simp only [Zp, Zq, Zr, Zs]
    refine WpH.takeD 4 (some 30) rfl rfl (by kernel_rfl) (fun _ _ _ h => h) (.skip rfl) ?_
    simp only [Zp, Zq, Zr, Zs]
    refine WpH.takeD 5 (some 31) rfl rfl (by kernel_rfl) (fun _ _ _ h => h) (.skip rfl) ?_
    simp only [Zp, Zq, Zr, Zs]
    refine WpH.takeD 6 (some 32) rfl rfl (by kernel_rfl) (fun _ _ _ h => h) (.skip rfl) ?_
    simp only [Zp, Zq, Zr, Zs]
    refine WpH.takeD 7 (some 33) rfl rfl (by kernel_rfl) (fun _ _ _ h => h) (.skip rfl) ?_
    simp only [Zp, Zq, Zr, Zs]
    refine WpH.doneB (by kernel_rfl) (fun w6 hw6 => ?_)
    (try simp only [List.drop_succ_cons]); (try simp only [List.drop_zero]); (try simp only [Nat.reduceSub]); (try simp only [List.take_succ_cons]); (try simp only [List.take_zero])
    clear x0 x1 x2 x3 x4 x5 x6 x7 x8 x9 x10 x11 x12 v0 v1 v2 v3 v4
    replace hbw := bl_call hbw (Nat.le_refl _) hw6
    replace hx := hx.call hw6
    replace hv := hv.call hw6
    obtain ⟨⟨x0, x1, x2, x3, x4, x5⟩, ⟨x6, x7, x8, x9, x10, x11⟩, x12⟩ := hx.get6
    obtain ⟨v0, v1, v2, v3, v4⟩ := V2.mk hv.c0 hv.c1 hv.f0 hv.f1 hv.lt
    go_wp2_with fail
    go_roundw
    case rel => exact ⟨k + 1, by omega, by go_num, HX.out, hx, hbw⟩
    case measure => simp [intOf]; omega
   ·rw [decide_eq_false h0] at hl0
    by_cases h1 : x = 1
    ·rw [decide_eq_true h1] at hl1
     have HX := Lib.hid (HNX.out (.inr h1))
     clear h0 h1
     refine region_B (n := 8) (m := 9) (f := 8) (by kernel_rfl) (by kernel_rfl) rfl ?_
     refine WpH.vD 0 (some 26) ?_ rfl rfl (by kernel_rfl) (fun _ _ _ h => h) rfl (fun wz hwz => ?_) ?_
     rotate_left
     ·(obtain ⟨hcz, hfz⟩ := bcell hwz; go_simp; try (with_reducible rfl))
     simp only [Zp, Zq, Zr, Zs]
     refine WpH.vD 1 (some 27) ?_ rfl rfl (by kernel_rfl) (fun _ _ _ h => h) rfl (fun wz hwz => ?_) ?_
     rotate_left
     ·go_simp; try (with_reducible rfl)
     simp only [Zp, Zq, Zr, Zs]
     refine WpH.vD 2 (some 28) ?_ rfl rfl (by kernel_rfl) (fun _ _ _ h => h) rfl (fun wz hwz => ?_) ?_
     rotate_left
     ·go_simp; try (with_reducible rfl)
     simp only [Zp, Zq, Zr, Zs]
     refine WpH.vD 3 (some 29) ?_ rfl rfl (by kernel_rfl) (fun _ _ _ h => h) rfl (fun wz hwz => ?_) ?_
     rotate_left
     ·go_simp; try (with_reducible rfl)
     simp only [Zp, Zq, Zr, Zs]
     refine WpH.vD 4 (some 30) ?_ rfl rfl (by kernel_rfl) (fun _ _ _ h => h) rfl (fun wz hwz => ?_) ?_
     rotate_left
     ·(obtain ⟨hcz, hfz⟩ := bcell hwz; go_simp; try (with_reducible rfl))
     simp only [Zp, Zq, Zr, Zs]
     refine WpH.vD 5 (some 31) ?_ rfl rfl (by kernel_rfl) (fun _ _ _ h => h) rfl (fun wz hwz => ?_) ?_
     rotate_left
     ·go_simp; try (with_reducible rfl)
     simp only [Zp, Zq, Zr, Zs]
     refine WpH.takeD 6 (some 32) rfl rfl (by kernel_rfl) (fun _ _ _ h => h) (.call rfl (fun wz hwz => HONE.out wz) (fun wz hwz => ?_)) ?_
     ·go_simp; try (with_reducible rfl)
     simp only [Zp, Zq, Zr, Zs]
     refine WpH.vD 7 (some 33) ?_ rfl rfl (by kernel_rfl) (fun _ _ _ h => h) rfl (fun wz hwz => ?_) ?_
     rotate_left
     ·go_simp; try (with_reducible rfl)
     simp only [Zp, Zq, Zr, Zs]
     refine WpH.doneB (by kernel_rfl) (fun w6 hw6 => ?_)
     (try simp only [List.drop_succ_cons]); (try simp only [List.drop_zero]); (try simp only [Nat.reduceSub]); (try simp only [List.take_succ_cons]); (try simp only [List.take_zero])
     clear x0 x1 x2 x3 x4 x5 x6 x7 x8 x9 x10 x11 x12 v0 v1 v2 v3 v4
     replace hbw := bl_call hbw (Nat.le_refl _) hw6
     replace hx := hx.call hw6
     replace hv := hv.call hw6
     obtain ⟨⟨x0, x1, x2, x3, x4, x5⟩, ⟨x6, x7, x8, x9, x10, x11⟩, x12⟩ := hx.get6
     obtain ⟨v0, v1, v2, v3, v4⟩ := V2.mk hv.c0 hv.c1 hv.f0 hv.f1 hv.lt
     go_wp2_with fail
     go_roundw
     case rel => exact ⟨k + 1, by omega, by go_num, HX.out, hx, hbw⟩
     case measure => simp [intOf]; omega
    ·rw [decide_eq_false h1] at hl1
     have hbad : ¬ okVec y l := fun h => (h.1 x (List.mem_of_getElem? HE.out)).elim h0 h1
     have HBAD := Lib.hid hbad
     clear h0 h1 hbad
     refine region_B (n := 8) (m := 9) (f := 8) (by kernel_rfl) (by kernel_rfl) rfl ?_
     refine WpH.vD 0 (some 26) ?_ rfl rfl (by kernel_rfl) (fun _ _ _ h => h) rfl (fun wz hwz => ?_) ?_
     rotate_left
     ·(obtain ⟨hcz, hfz⟩ := bcell hwz; go_simp; try (with_reducible rfl))
     simp only [Zp, Zq, Zr, Zs]
     refine WpH.vD 1 (some 27) ?_ rfl rfl (by kernel_rfl) (fun _ _ _ h => h) rfl (fun wz hwz => ?_) ?_
     rotate_left
     ·go_simp; try (with_reducible rfl)
     simp only [Zp, Zq, Zr, Zs]
     refine WpH.vD 2 (some 28) ?_ rfl rfl (by kernel_rfl) (fun _ _ _ h => h) rfl (fun wz hwz => ?_) ?_
     rotate_left
     ·go_simp; try (with_reducible rfl)
     simp only [Zp, Zq, Zr, Zs]
     refine WpH.vD 3 (some 29) ?_ rfl rfl (by kernel_rfl) (fun _ _ _ h => h) rfl (fun wz hwz => ?_) ?_
     rotate_left
     ·go_simp; try (with_reducible rfl)
     simp only [Zp, Zq, Zr, Zs]
     refine WpH.vD 4 (some 30) ?_ rfl rfl (by kernel_rfl) (fun _ _ _ h => h) rfl (fun wz hwz => ?_) ?_
     rotate_left
     ·(obtain ⟨hcz, hfz⟩ := bcell hwz; go_simp; try (with_reducible rfl))
     simp only [Zp, Zq, Zr, Zs]
     refine WpH.vD 5 (some 31) ?_ rfl rfl (by kernel_rfl) (fun _ _ _ h => h) rfl (fun wz hwz => ?_) ?_
     rotate_left
     ·go_simp; try (with_reducible rfl)
     simp only [Zp, Zq, Zr, Zs]
     refine WpH.takeD 6 (some 32) rfl rfl (by kernel_rfl) (fun _ _ _ h => h) (.call rfl (fun wz hwz => HONE.out wz) (fun wz hwz => ?_)) ?_
     ·go_simp; try (with_reducible rfl)
     simp only [Zp, Zq, Zr, Zs]
     refine WpH.vD 7 (some 33) ?_ rfl rfl (by kernel_rfl) (fun _ _ _ h => h) rfl (fun wz hwz => ?_) ?_
     rotate_left
     ·go_simp; try (with_reducible rfl)
     simp only [Zp, Zq, Zr, Zs]
     refine WpH.doneB (by kernel_rfl) (fun w6 hw6 => ?_)
     (try simp only [List.drop_succ_cons]); (try simp only [List.drop_zero]); (try simp only [Nat.reduceSub]); (try simp only [List.take_succ_cons]); (try simp only [List.take_zero])
     clear x0 x1 x2 x3 x4 x5 x6 x7 x8 x9 x10 x11 x12 v0 v1 v2 v3 v4
     replace hbw := bl_call hbw (Nat.le_refl _) hw6
     replace hx := hx.call hw6
     replace hv := hv.call hw6
     go_wp2_with fail
     go_ret
     exact ⟨⟨false, rfl, by simp; exact HBAD.out⟩, hbw⟩
  ·obtain rfl : k = l.length := by omega
   rw [List.take_length] at hbits
   clear hlt hA
   cases y with
   | count =>
    obtain rfl : K = 1 := HK.out.symm
    go_wp2_with fail
    go_ret
    exact ⟨⟨true, rfl, by simp; exact ⟨hbits.out, trivial⟩⟩, hbw⟩
   | sum _ =>
    obtain rfl : K = 2 := HK.out.symm
    go_wp2_with fail
    go_ret
    exact ⟨⟨true, rfl, by simp; exact ⟨hbits.out, trivial⟩⟩, hbw⟩
   | vec _ _ _ =>
    obtain rfl : K = 3 := HK.out.symm
    go_wp2_with fail
    go_ret
    exact ⟨⟨true, rfl, by simp; exact ⟨hbits.out, trivial⟩⟩, hbw⟩
   | hist n c =>
    obtain rfl : K = 4 := HK.out.symm
    have HSUM := Lib.hid (fun wz (hb : Below w.heap.size w wz) => field_SumK hf _ l wz (HSL.out.later hb) (by omega))
    have hl1 := lohi_eq (ksum l) 1
    by_cases h1 : ksum l = 1
    ·rw [decide_eq_true h1] at hl1
     have H1 := Lib.hid h1
     clear h1
     go_wp2_with (first
      | (go_at_call 50; refine (HSUM.out _ hbw).mono ?_; rintro e w5 ⟨rfl, hb5⟩; replace hbw := bl_call hbw (Nat.le_refl _) hb5; replace hx := hx.call hb5; obtain ⟨⟨x0, x1, x2, x3, x4, x5⟩, ⟨x6, x7, x8, x9, x10, x11⟩, x12⟩ := hx.get6)
      | (go_at_call 49; refine (HONE.out _).mono ?_; rintro e w6 ⟨rfl, hb6⟩; replace hbw := bl_call hbw (Nat.le_refl _) hb6; replace hx := hx.call hb6; obtain ⟨⟨x0, x1, x2, x3, x4, x5⟩, ⟨x6, x7, x8, x9, x10, x11⟩, x12⟩ := hx.get6))
     exact bodyPost_ret (v := .bool true) (by simp [results, Tryz.results13, go_sem]) rfl ⟨⟨true, rfl, by simp; exact ⟨hbits.out, H1.out⟩⟩, hbw⟩
    ·rw [decide_eq_false h1] at hl1
     have H1 := Lib.hid h1
     clear h1
     go_wp2_with (first
      | (go_at_call 50; refine (HSUM.out _ hbw).mono ?_; rintro e w5 ⟨rfl, hb5⟩; replace hbw := bl_call hbw (Nat.le_refl _) hb5; replace hx := hx.call hb5; obtain ⟨⟨x0, x1, x2, x3, x4, x5⟩, ⟨x6, x7, x8, x9, x10, x11⟩, x12⟩ := hx.get6)
      | (go_at_call 49; refine (HONE.out _).mono ?_; rintro e w6 ⟨rfl, hb6⟩; replace hbw := bl_call hbw (Nat.le_refl _) hb6; replace hx := hx.call hb6; obtain ⟨⟨x0, x1, x2, x3, x4, x5⟩, ⟨x6, x7, x8, x9, x10, x11⟩, x12⟩ := hx.get6))
     exact bodyPost_ret (v := .bool false) (by simp [results, Tryz.results13, go_sem]) rfl ⟨⟨false, rfl, by simp; exact fun h => H1.out h.2⟩, hbw⟩
   | multi n m c =>
    obtain rfl : K = 5 := HK.out.symm
    obtain rfl : N = (n : Int) := HN.out.symm
    obtain rfl : M = (m : Int) := HM.out.symm
    have hm64 : m ≤ 64 := Nat.le_trans hy.2.1.2 hy.1.2
    have hln : n ≤ l.length := by rw [HL.out]; exact Nat.le_add_right _ _
    have hn64 : n ≤ 64 := hy.1.2
    have hn0 : (0 : Int) ≤ (n : Int) := by omega
    have hnl : (n : Int) ≤ (l.length : Int) := by omega
    have hnc : n ≤ cc := by omega
    have hlc : l.length ≤ cc := hcc
    have HOFF := Lib.hid (fun wz => circuit_offset 5 f B n C m hm64 wz)
    have HOFV := Lib.hid (fun wz => field_Of hf (offN m : Int) wz (by omega) (by have h1 := (bitLen_small m hm64).1; have h2 : 2 ^ Lib.bitLen m ≤ 2 ^ 7 := Nat.pow_le_pow_right (by omega) h1; have h3 : (2 : Nat) ^ 7 = 128 := rfl; show ((2 ^ Lib.bitLen m - 1 - m : Nat) : Int) ≤ _; omega))
    rw [show kL f (offN m : Int) 0 = nK f (offN m) from rfl] at HOFV
    have HS1 := Lib.hid (fun wz (hb : Below w.heap.size w wz) => field_SumK hf _ (l.take n) wz (SlK.takeN (HSL.out.later hb) hln (.slice A n cc) rfl) (by rw [List.length_take]; omega))
    obtain ⟨of, hof⟩ : ∃ of, offN m = of := ⟨_, rfl⟩
    rw [hof] at HOFF HOFV
    have HOF2 := Lib.hid hof.symm
    clear hof
    have hbq : 1 ≤ Lib.bitLen m := (bitLen_small m hm64).2.2 hy.2.1.1
    have hlt2 : n < l.length := by rw [HL.out]; show n < n + Lib.bitLen m; omega
    obtain ⟨A', c', hh, _, _, h3⟩ := HSL.out
    injection hh with e1 _ e3
    subst e1 e3
    obtain ⟨b, o, rfl, hBb, hr⟩ := h3 (by omega)
    have hne : ¬ (cc = n) := by omega
    clear h3 hr hbq
    have HNM := Lib.hid (fun wz (hb : Below w.heap.size w wz) => circuit_number hf 5 B (m : Int) C (n : Int) _ (l.drop n) wz (SlK.dropN (HSL.out.later hb) hlt2) (by rw [List.length_drop]; omega))
    have hl1 := lohi_eq (ksum (l.take n) + nK f of) (knum (l.drop n))
    have HOK : Hid (okRest (.multi n m c) l ↔ ksum (l.take n) + nK f of = knum (l.drop n)) := by rw [HOF2.out]; exact Iff.rfl
    generalize ksum (l.take n) = S1 at *
    generalize knum (l.drop n) = S2 at *
    by_cases h1 : S1 + nK f of = S2
    ·rw [decide_eq_true h1] at hl1
     have hgood : okVec (.multi n m c) l := ⟨hbits.out, HOK.out.2 h1⟩
     have HG := Lib.hid hgood
     clear h1 hgood hy
     go_upto_region 14 with fail
     refine region_B (n := 19) (m := 20) (f := 19) (by kernel_rfl) (by kernel_rfl) rfl ?_
     refine WpH.vD 0 (some 48) ?_ rfl rfl (by kernel_rfl) (fun _ _ _ h => h) rfl (fun wz hwz => ?_) ?_
     rotate_left
     ·go_simp; try (with_reducible rfl)
     simp only [Zp, Zq, Zr, Zs]
     refine WpH.vD 1 (some 49) ?_ rfl rfl (by kernel_rfl) (fun _ _ _ h => h) rfl (fun wz hwz => ?_) ?_
     rotate_left
     ·go_simp; try (with_reducible rfl)
     simp only [Zp, Zq, Zr, Zs]
     refine WpH.vD 2 (some 50) ?_ rfl rfl (by kernel_rfl) (fun _ _ _ h => h) rfl (fun wz hwz => ?_) ?_
     rotate_left
     ·go_simp; try (with_reducible rfl)
     simp only [Zp, Zq, Zr, Zs]
     refine WpH.vD 3 (some 51) ?_ rfl rfl (by kernel_rfl) (fun _ _ _ h => h) rfl (fun wz hwz => ?_) ?_
     rotate_left
     ·go_simp; try (with_reducible rfl)
     simp only [Zp, Zq, Zr, Zs]
     refine WpH.vD 4 (some 52) ?_ rfl rfl (by kernel_rfl) (fun _ _ _ h => h) rfl (fun wz hwz => ?_) ?_
     rotate_left
     ·(obtain ⟨hcz, hfz⟩ := bcell hwz; go_simp; try (with_reducible rfl))
     simp only [Zp, Zq, Zr, Zs]
     refine WpH.vD 5 (some 53) ?_ rfl rfl (by kernel_rfl) (fun _ _ _ h => h) rfl (fun wz hwz => ?_) ?_
     rotate_left
     ·go_simp; try (with_reducible rfl)
     simp only [Zp, Zq, Zr, Zs]
     refine WpH.takeD 6 (some 54) rfl rfl (by kernel_rfl) (fun _ _ _ h => h) (.call rfl (fun wz hwz => HS1.out wz (hbw.trans (hwz.mono hbw.size))) (fun wz hwz => ?_)) ?_
     ·go_simp; try (with_reducible rfl)
     simp only [Zp, Zq, Zr, Zs]
     refine WpH.vD 7 (some 55) ?_ rfl rfl (by kernel_rfl) (fun _ _ _ h => h) rfl (fun wz hwz => ?_) ?_
     rotate_left
     ·go_simp; try (with_reducible rfl)
     simp only [Zp, Zq, Zr, Zs]
     refine WpH.vD 8 (some 56) ?_ rfl rfl (by kernel_rfl) (fun _ _ _ h => h) rfl (fun wz hwz => ?_) ?_
     rotate_left
     ·(obtain ⟨hcz, hfz⟩ := bcell hwz; go_simp; try (with_reducible rfl))
     simp only [Zp, Zq, Zr, Zs]
     refine WpH.takeD 9 (some 57) rfl rfl (by kernel_rfl) (fun _ _ _ h => h) (.call rfl (fun wz hwz => HOFF.out wz) (fun wz hwz => ?_)) ?_
     ·go_simp; try (with_reducible rfl)
     simp only [Zp, Zq, Zr, Zs]
     refine WpH.takeD 10 (some 58) rfl rfl (by kernel_rfl) (fun _ _ _ h => h) (.call rfl (fun wz hwz => HOFV.out wz) (fun wz hwz => ?_)) ?_
     ·go_simp; try (with_reducible rfl)
     simp only [Zp, Zq, Zr, Zs]
     refine WpH.takeD 11 (some 59) rfl rfl (by kernel_rfl) (fun _ _ _ h => h) (.call rfl (fun wz hwz => field_AddK hf S1 (nK f of) wz) (fun wz hwz => ?_)) ?_
     ·go_simp; try (with_reducible rfl)
     simp only [Zp, Zq, Zr, Zs]
     refine WpH.vD 12 (some 60) ?_ rfl rfl (by kernel_rfl) (fun _ _ _ h => h) rfl (fun wz hwz => ?_) ?_
     rotate_left
     ·(obtain ⟨hcz, hfz⟩ := bcell hwz; go_simp; try (with_reducible rfl))
     simp only [Zp, Zq, Zr, Zs]
     refine WpH.vD 13 (some 61) ?_ rfl rfl (by kernel_rfl) (fun _ _ _ h => h) rfl (fun wz hwz => ?_) ?_
     rotate_left
     ·go_simp; try (with_reducible rfl)
     simp only [Zp, Zq, Zr, Zs]
     refine WpH.vD 14 (some 62) ?_ rfl rfl (by kernel_rfl) (fun _ _ _ h => h) rfl (fun wz hwz => ?_) ?_
     rotate_left
     ·go_simp; try (with_reducible rfl)
     simp only [Zp, Zq, Zr, Zs]
     refine WpH.vD 15 (some 63) ?_ rfl rfl (by kernel_rfl) (fun _ _ _ h => h) rfl (fun wz hwz => ?_) ?_
     rotate_left
     ·(obtain ⟨hcz, hfz⟩ := bcell hwz; go_simp; try (with_reducible rfl))
     simp only [Zp, Zq, Zr, Zs]
     refine WpH.vD 16 (some 64) ?_ rfl rfl (by kernel_rfl) (fun _ _ _ h => h) rfl (fun wz hwz => ?_) ?_
     rotate_left
     ·go_simp; try (with_reducible rfl)
     simp only [Zp, Zq, Zr, Zs]
     refine WpH.takeD 17 (some 65) rfl rfl (by kernel_rfl) (fun _ _ _ h => h) (.call rfl (fun wz hwz => HNM.out wz (hbw.trans (hwz.mono hbw.size))) (fun wz hwz => ?_)) ?_
     ·go_simp; try (with_reducible rfl)
     simp only [Zp, Zq, Zr, Zs]
     refine WpH.vD 18 (some 66) ?_ rfl rfl (by kernel_rfl) (fun _ _ _ h => h) rfl (fun wz hwz => ?_) ?_
     rotate_left
     ·go_simp; try (with_reducible rfl)
     simp only [Zp, Zq, Zr, Zs]
     refine WpH.doneB (by kernel_rfl) (fun w5 hw5 => ?_)
     (try simp only [List.drop_succ_cons]); (try simp only [List.drop_zero]); (try simp only [Nat.reduceSub]); (try simp only [List.take_succ_cons]); (try simp only [List.take_zero])
     clear x0 x1 x2 x3 x4 x5 x6 x7 x8 x9 x10 x11 x12
     replace hbw := bl_call hbw (Nat.le_refl _) hw5
     replace hx := hx.call hw5
     go_wp2_with fail
     exact bodyPost_ret (v := .bool true) (by simp [results, Tryz.results13, go_sem]) rfl ⟨⟨true, rfl, by simp; exact HG.out⟩, hbw⟩
    ·rw [decide_eq_false h1] at hl1
     have hbad : ¬ okVec (.multi n m c) l := fun h => h1 (HOK.out.1 h.2)
     have HG := Lib.hid hbad
     clear h1 hbad hy
     go_upto_region 14 with fail
     refine region_B (n := 19) (m := 20) (f := 19) (by kernel_rfl) (by kernel_rfl) rfl ?_
     refine WpH.vD 0 (some 48) ?_ rfl rfl (by kernel_rfl) (fun _ _ _ h => h) rfl (fun wz hwz => ?_) ?_
     rotate_left
     ·go_simp; try (with_reducible rfl)
     simp only [Zp, Zq, Zr, Zs]
     refine WpH.vD 1 (some 49) ?_ rfl rfl (by kernel_rfl) (fun _ _ _ h => h) rfl (fun wz hwz => ?_) ?_
     rotate_left
     ·go_simp; try (with_reducible rfl)
     simp only [Zp, Zq, Zr, Zs]
     refine WpH.vD 2 (some 50) ?_ rfl rfl (by kernel_rfl) (fun _ _ _ h => h) rfl (fun wz hwz => ?_) ?_
     rotate_left
     ·go_simp; try (with_reducible rfl)
     simp only [Zp, Zq, Zr, Zs]
     refine WpH.vD 3 (some 51) ?_ rfl rfl (by kernel_rfl) (fun _ _ _ h => h) rfl (fun wz hwz => ?_) ?_
     rotate_left
     ·go_simp; try (with_reducible rfl)
     simp only [Zp, Zq, Zr, Zs]
     refine WpH.vD 4 (some 52) ?_ rfl rfl (by kernel_rfl) (fun _ _ _ h => h) rfl (fun wz hwz => ?_) ?_
     rotate_left
     ·(obtain ⟨hcz, hfz⟩ := bcell hwz; go_simp; try (with_reducible rfl))
     simp only [Zp, Zq, Zr, Zs]
     refine WpH.vD 5 (some 53) ?_ rfl rfl (by kernel_rfl) (fun _ _ _ h => h) rfl (fun wz hwz => ?_) ?_
     rotate_left
     ·go_simp; try (with_reducible rfl)
     simp only [Zp, Zq, Zr, Zs]
     refine WpH.takeD 6 (some 54) rfl rfl (by kernel_rfl) (fun _ _ _ h => h) (.call rfl (fun wz hwz => HS1.out wz (hbw.trans (hwz.mono hbw.size))) (fun wz hwz => ?_)) ?_
     ·go_simp; try (with_reducible rfl)
     simp only [Zp, Zq, Zr, Zs]
     refine WpH.vD 7 (some 55) ?_ rfl rfl (by kernel_rfl) (fun _ _ _ h => h) rfl (fun wz hwz => ?_) ?_
     rotate_left
     ·go_simp; try (with_reducible rfl)
     simp only [Zp, Zq, Zr, Zs]
     refine WpH.vD 8 (some 56) ?_ rfl rfl (by kernel_rfl) (fun _ _ _ h => h) rfl (fun wz hwz => ?_) ?_
     rotate_left
     ·(obtain ⟨hcz, hfz⟩ := bcell hwz; go_simp; try (with_reducible rfl))
     simp only [Zp, Zq, Zr, Zs]
     refine WpH.takeD 9 (some 57) rfl rfl (by kernel_rfl) (fun _ _ _ h => h) (.call rfl (fun wz hwz => HOFF.out wz) (fun wz hwz => ?_)) ?_
     ·go_simp; try (with_reducible rfl)
     simp only [Zp, Zq, Zr, Zs]
     refine WpH.takeD 10 (some 58) rfl rfl (by kernel_rfl) (fun _ _ _ h => h) (.call rfl (fun wz hwz => HOFV.out wz) (fun wz hwz => ?_)) ?_
     ·go_simp; try (with_reducible rfl)
     simp only [Zp, Zq, Zr, Zs]
     refine WpH.takeD 11 (some 59) rfl rfl (by kernel_rfl) (fun _ _ _ h => h) (.call rfl (fun wz hwz => field_AddK hf S1 (nK f of) wz) (fun wz hwz => ?_)) ?_
     ·go_simp; try (with_reducible rfl)
     simp only [Zp, Zq, Zr, Zs]
     refine WpH.vD 12 (some 60) ?_ rfl rfl (by kernel_rfl) (fun _ _ _ h => h) rfl (fun wz hwz => ?_) ?_
     rotate_left
     ·(obtain ⟨hcz, hfz⟩ := bcell hwz; go_simp; try (with_reducible rfl))
     simp only [Zp, Zq, Zr, Zs]
     refine WpH.vD 13 (some 61) ?_ rfl rfl (by kernel_rfl) (fun _ _ _ h => h) rfl (fun wz hwz => ?_) ?_
     rotate_left
     ·go_simp; try (with_reducible rfl)
     simp only [Zp, Zq, Zr, Zs]
     refine WpH.vD 14 (some 62) ?_ rfl rfl (by kernel_rfl) (fun _ _ _ h => h) rfl (fun wz hwz => ?_) ?_
     rotate_left
     ·go_simp; try (with_reducible rfl)
     simp only [Zp, Zq, Zr, Zs]
     refine WpH.vD 15 (some 63) ?_ rfl rfl (by kernel_rfl) (fun _ _ _ h => h) rfl (fun wz hwz => ?_) ?_
     rotate_left
     ·(obtain ⟨hcz, hfz⟩ := bcell hwz; go_simp; try (with_reducible rfl))
     simp only [Zp, Zq, Zr, Zs]
     refine WpH.vD 16 (some 64) ?_ rfl rfl (by kernel_rfl) (fun _ _ _ h => h) rfl (fun wz hwz => ?_) ?_
     rotate_left
     ·go_simp; try (with_reducible rfl)
     simp only [Zp, Zq, Zr, Zs]
     refine WpH.takeD 17 (some 65) rfl rfl (by kernel_rfl) (fun _ _ _ h => h) (.call rfl (fun wz hwz => HNM.out wz (hbw.trans (hwz.mono hbw.size))) (fun wz hwz => ?_)) ?_
     ·go_simp; try (with_reducible rfl)
     simp only [Zp, Zq, Zr, Zs]
     refine WpH.vD 18 (some 66) ?_ rfl rfl (by kernel_rfl) (fun _ _ _ h => h) rfl (fun wz hwz => ?_) ?_
     rotate_left
     ·go_simp; try (with_reducible rfl)
     simp only [Zp, Zq, Zr, Zs]
     refine WpH.doneB (by kernel_rfl) (fun w5 hw5 => ?_)
     (try simp only [List.drop_succ_cons]); (try simp only [List.drop_zero]); (try simp only [Nat.reduceSub]); (try simp only [List.take_succ_cons]); (try simp only [List.take_zero])
     clear x0 x1 x2 x3 x4 x5 x6 x7 x8 x9 x10 x11 x12
     replace hbw := bl_call hbw (Nat.le_refl _) hw5
     replace hx := hx.call hw5
     go_wp2_with fail
     exact bodyPost_ret (v := .bool false) (by simp [results, Tryz.results13, go_sem]) rfl ⟨⟨false, rfl, by simp; exact HG.out⟩, hbw⟩
end

end Go.Proofs.YtfbfbijkkbflkaaGreatDoor

namespace Go.Proofs.YtfbfbijkkbflkaaGreatDoor
open Go.RowKit Fm
set_option linter.unusedVariables false
set_option maxRecDepth 100000

theorem CK.k_le (y : CK) : 1 ≤ y.k ∧ y.k ≤ 5 := by cases y <;> exact ⟨Nat.le_of_ble_eq_true rfl, Nat.le_of_ble_eq_true rfl⟩
end Go.Proofs.YtfbfbijkkbflkaaGreatDoor

namespace Go.Proofs.YtfbfbijkkbflkaaGreatDoor
open Go.RowKit Fm
set_option linter.unusedVariables false
set_option maxRecDepth 100000

theorem gold_PowL (a0 a1 : Int) (ha : okE (a0, a1)) (n : Nat) (hn : n ≤ 18446744073709551615) (w : World) : Calls Tryz.prog 55 #[.int .u64 a0, .int .u64 n] w fun e w' => e = .returned (.int .u64 (lo (Fm.kpow (kL 1 a0 a1) n))) ∧ w = w' := by
 have hp : ((Pm 1 : Nat) : Int) = 18446744069414584321 := rfl
 have h := gold_Pow a0 (n : Int) w ha.1 ha.2.1 (by omega) (by omega)
 have hk : kI (Pm 1) (ipow a0 n) = Fm.kpow (kL 1 a0 a1) n := by
  clear h hn
  induction n with
  | zero => exact kI_one
  | succ n ih =>
   rw [ipow, kI_mul, ih, Fm.kpow_succ]
   rfl
 rwa [Int.toNat_natCast, ← hp, ← val_kI, hk, ← (lo_small (Fm.kpow (kL 1 a0 a1) n)).1] at h

set_option maxHeartbeats 4000000 in
theorem field_PowL {f : Nat} (hf : IsF f) (a0 a1 : Int) (ha : okE (a0, a1)) (n : Nat) (hn : n ≤ 18446744073709551615) (w : World) :
  Calls Tryz.prog 15 #[.int .u8 f, .agg #[.int .u64 a0, .int .u64 a1], .int .u64 n] w (RetK (Fm.kpow (kL f a0 a1) n) w) := by
 rcases hf.or with rfl | rfl
 ·have HG := Lib.hid (fun wz => gold_PowL a0 a1 ha n hn wz)
  have HH : Hid (hi (Fm.kpow (kL 1 a0 a1) n) = 0) := (lo_small _).2
  obtain ⟨y, hy⟩ : ∃ y, Fm.kpow (kL 1 a0 a1) n = y := ⟨_, rfl⟩
  rw [hy] at HG HH ⊢
  clear hy
  go_enter Tryz.func15, Tryz.ntmps15
  go_upto_region 1 with fail
  have q0 := (V2.new w (.int .u64 a0) (.int .u64 a1) 36).alloc (.cells #[(.int .u64 0), (.int .u64 0)] 36)
  have s0 := V2.new (w.alloc (.cells #[(.int .u64 a0), (.int .u64 a1)] 36)) (.int .u64 0) (.int .u64 0) 36
  simp only [World.size_alloc] at s0
  have hb00 : Below w.heap.size w ((w.alloc (.cells #[(.int .u64 a0), (.int .u64 a1)] 36)).alloc (.cells #[(.int .u64 0), (.int .u64 0)] 36)) := by repeat (first | exact bA | with_reducible assumption | apply bB)
  have hsz : w.heap.size + 2 ≤ ((w.alloc (.cells #[(.int .u64 a0), (.int .u64 a1)] 36)).alloc (.cells #[(.int .u64 0), (.int .u64 0)] 36)).heap.size := by simp only [World.size_alloc]; omega
  generalize ((w.alloc (.cells #[(.int .u64 a0), (.int .u64 a1)] 36)).alloc (.cells #[(.int .u64 0), (.int .u64 0)] 36)) = w1 at q0 s0 hb00 hsz ⊢
  obtain ⟨q00, q01, q02, q03, q04⟩ := V2.mk q0.c0 q0.c1 q0.f0 q0.f1 q0.lt
  obtain ⟨s00, s01, s02, s03, s04⟩ := V2.mk s0.c0 s0.c1 s0.f0 s0.f1 s0.lt
  go_wp2_with fail
  refine (HG.out _).mono ?_
  rintro e w3 ⟨rfl, rfl⟩
  go_wp2_with fail
  refine bodyPost_ret (results_v2 (b := w.heap.size + 1) (u := .int .u64 (lo y)) (v := .int .u64 0) ?_ rfl rfl) rfl ?_
  ·exact V2.set s0 _ _
  ·exact ⟨by rw [← HH.out], by repeat (first | exact bA | with_reducible assumption | apply bB | (refine bC ?_ (by dsimp only; omega)) | apply bD | apply bE | (refine bF ?_ (by assumption)))⟩
 ·have HI : Hid (∀ wz, Calls Tryz.prog 56 #[.agg #[.int .u64 a0, .int .u64 a1], .agg #[.int .u64 n, .int .u64 0]] wz (RetK (Fm.kpow (kL 2 a0 a1) n) wz)) := fun wz => by
   have h := wide_Pow a0 a1 n 0 wz ha.1 ha.2.1 ha.2.2.1 ha.2.2.2 hn (by omega)
   rw [Nat.mul_zero, Nat.add_zero, kpw_fm] at h
   exact h
  obtain ⟨y, hy⟩ : ∃ y, Fm.kpow (kL 2 a0 a1) n = y := ⟨_, rfl⟩
  rw [hy] at HI ⊢
  clear hy
  go_enter Tryz.func15, Tryz.ntmps15
  go_upto_region 1 with fail
  have q0 := (V2.new w (.int .u64 a0) (.int .u64 a1) 36).alloc (.cells #[(.int .u64 0), (.int .u64 0)] 36)
  have s0 := V2.new (w.alloc (.cells #[(.int .u64 a0), (.int .u64 a1)] 36)) (.int .u64 0) (.int .u64 0) 36
  simp only [World.size_alloc] at s0
  have hb00 : Below w.heap.size w ((w.alloc (.cells #[(.int .u64 a0), (.int .u64 a1)] 36)).alloc (.cells #[(.int .u64 0), (.int .u64 0)] 36)) := by repeat (first | exact bA | with_reducible assumption | apply bB)
  have hsz : w.heap.size + 2 ≤ ((w.alloc (.cells #[(.int .u64 a0), (.int .u64 a1)] 36)).alloc (.cells #[(.int .u64 0), (.int .u64 0)] 36)).heap.size := by simp only [World.size_alloc]; omega
  generalize ((w.alloc (.cells #[(.int .u64 a0), (.int .u64 a1)] 36)).alloc (.cells #[(.int .u64 0), (.int .u64 0)] 36)) = w1 at q0 s0 hb00 hsz ⊢
  obtain ⟨q00, q01, q02, q03, q04⟩ := V2.mk q0.c0 q0.c1 q0.f0 q0.f1 q0.lt
  obtain ⟨s00, s01, s02, s03, s04⟩ := V2.mk s0.c0 s0.c1 s0.f0 s0.f1 s0.lt
  go_wp2_with fail
  refine (HI.out _).mono ?_
  rintro e w3 ⟨rfl, hb3⟩
  clear q00 q01 q02 q03 q04 s00 s01 s02 s03 s04
  replace hb00 := bl_call hb00 (Nat.le_refl _) hb3
  replace q0 := q0.call hb3
  replace s0 := s0.call hb3
  clear hb3
  obtain ⟨s00, s01, s02, s03, s04⟩ := V2.mk s0.c0 s0.c1 s0.f0 s0.f1 s0.lt
  go_wp2_with fail
  refine bodyPost_ret (results_v2 (b := w.heap.size + 1) (u := .int .u64 (lo y)) (v := .int .u64 (hi y)) ?_ rfl rfl) rfl ?_
  ·exact V2.set s0 _ _
  ·exact ⟨rfl, by repeat (first | exact bA | with_reducible assumption | apply bB | (refine bC ?_ (by dsimp only; omega)) | apply bD | apply bE | (refine bF ?_ (by assumption)))⟩

theorem field_Pow {f : Nat} (hf : IsF f) (x : Fin (Pm f)) (n : Nat) (hn : n ≤ 18446744073709551615) (w : World) :
  Calls Tryz.prog 15 #[.int .u8 f, vK x, .int .u64 n] w (RetK (Fm.kpow x n) w) := by
 have h := field_PowL hf (lo x) (hi x) (okE_eK x) n hn w
 rwa [kL_lohi] at h

end Go.Proofs.YtfbfbijkkbflkaaGreatDoor

namespace Go.Proofs.YtfbfbijkkbflkaaGreatDoor
open Go.RowKit Fm
set_option linter.unusedVariables false
set_option maxRecDepth 100000

section
variable {f : Nat} (hf : IsF f)
include hf
def RetK0 {f : Nat} (x : Fin (Pm f)) (w : World) (e : Ending) (w' : World) : Prop := e = .returned (.tuple #[vK x, .int .i64 0]) ∧ Below w.heap.size w w'

end

end Go.Proofs.YtfbfbijkkbflkaaGreatDoor
