/-
  CirM, Ref9, Cir2, Cir3: for ProofErrors.
-/
import Derived.Lib.BitFns
import Derived.Test.YtfbfbijkkbflkaaGreatDoorMak
namespace Go.Proofs.YtfbfbijkkbflkaaGreatDoor
open Go.RowKit Fm
set_option linter.unusedVariables false
set_option maxRecDepth 100000

namespace CK
end CK

/-! ### how many bits -/
namespace CK
end CK

theorem ceil_of {n c j : Nat} (hc : 1 ≤ c) (h1 : n ≤ j * c) (h2 : j = 0 ∨ (j - 1) * c < n) : (n + c - 1) / c = j := by
  rcases h2 with rfl | h2
  · have : n = 0 := by simpa using h1
    subst this
    exact Nat.div_eq_of_lt (by omega)
  · have hj : 1 ≤ j := by
      rcases Nat.eq_zero_or_pos j with rfl | h
      · simp at h1; omega
      · exact h
    obtain ⟨i, rfl⟩ : ∃ i, j = i + 1 := ⟨j - 1, by omega⟩
    rw [Nat.add_sub_cancel] at h2
    rw [Nat.succ_mul] at h1
    refine Nat.div_eq_of_lt_le ?_ ?_
    · rw [Nat.succ_mul]; omega
    · rw [Nat.succ_mul, Nat.succ_mul]; omega
/-! ### the least power of two that isn't below -/
end Go.Proofs.YtfbfbijkkbflkaaGreatDoor

namespace Go.Proofs.YtfbfbijkkbflkaaGreatDoor
open Go.RowKit Fm
set_option linter.unusedVariables false
set_option maxRecDepth 100000

theorem rval_count (f : Nat) : CK.count.rval f = .agg #[.int .i64 1, .int .i64 f, .int .i64 0, .int .i64 0, .int .i64 0, .int .i64 0] := rfl
theorem rval_sum (f b : Nat) : (CK.sum b).rval f = .agg #[.int .i64 2, .int .i64 f, .int .i64 b, .int .i64 0, .int .i64 0, .int .i64 0] := rfl
theorem rval_vec (f b l c : Nat) : (CK.vec b l c).rval f = .agg #[.int .i64 3, .int .i64 f, .int .i64 b, .int .i64 l, .int .i64 0, .int .i64 c] := rfl
theorem rval_hist (f l c : Nat) : (CK.hist l c).rval f = .agg #[.int .i64 4, .int .i64 f, .int .i64 0, .int .i64 l, .int .i64 0, .int .i64 c] := rfl
theorem rval_multi (f l m c : Nat) : (CK.multi l m c).rval f = .agg #[.int .i64 5, .int .i64 f, .int .i64 0, .int .i64 l, .int .i64 m, .int .i64 c] := rfl

theorem ref9_used (n most : Int) (u : Bool) (w : World) : Calls Tryz.prog 87 #[.int .i64 n, .int .i64 most, .bool u] w fun e w' => e = .returned (.bool (usedB n most u)) ∧ w = w' := by
  cases u
  · rw [usedB_no]
    go_enter Tryz.func87, Tryz.ntmps87
    go_wp2
    go_ret
    exact ⟨rfl, rfl⟩
  · rw [usedB_yes]
    by_cases h1 : 1 ≤ n
    · have hd : decide (1 ≤ n) = true := decide_eq_true h1
      rw [hd, Bool.true_and]
      go_enter Tryz.func87, Tryz.ntmps87
      go_wp2
      go_ret
      exact ⟨rfl, rfl⟩
    · have hd : decide (1 ≤ n) = false := decide_eq_false h1
      rw [hd, Bool.false_and]
      go_enter Tryz.func87, Tryz.ntmps87
      go_wp2
      go_ret
      exact ⟨rfl, rfl⟩

theorem bitLen_half : ∀ m : Nat, m ≤ 64 → 0 < m → Lib.bitLen m = Lib.bitLen (m / 2) + 1 := by decide +kernel

set_option maxHeartbeats 1000000 in
theorem ref9_WeightBits (k f b l c : Int) (m : Nat) (h1 : m ≤ 64) (w : World) :
    Calls Tryz.prog 139 #[.agg #[.int .i64 k, .int .i64 f, .int .i64 b, .int .i64 l, .int .i64 m, .int .i64 c]] w (RetI (Lib.bitLen m) w) := by
  go_enter Tryz.func139, Tryz.ntmps139
  go_wp2
  go_loop [3, 4] (fun n q => ∃ (i j : Nat), j ≤ 64 ∧ i ≤ 7 ∧ n = .int .i64 i ∧ q = .int .i64 j ∧ Hid (i + Lib.bitLen j = Lib.bitLen m)) (fun _ q => (intOf q).toNat)
  case atStart => exact ⟨0, m, h1, by omega, rfl, rfl, Nat.zero_add _⟩
  case round =>
    obtain ⟨i, j, hj, hi7, rfl, rfl, hij⟩ := hrel
    have hb := (bitLen_small m h1).1
    by_cases hlt : 0 < j
    · have hh := bitLen_half j hj hlt
      have HH := Lib.hid hh
      have h8 : i + 1 ≤ 7 := by have := hij.out; omega
      clear hh
      go_wp2
      go_round
      case rel => exact ⟨i + 1, j / 2, by omega, h8, by go_num, by go_num, by have h1 := hij.out; have h2 := HH.out; show i + 1 + Lib.bitLen (j / 2) = _; omega⟩
      case measure => simp [intOf]; omega
    · obtain rfl : j = 0 := by omega
      go_wp2
      go_ret
      exact ⟨ret_int (by have h := hij.out; have h0 : Lib.bitLen 0 = 0 := rfl; omega), by repeat (first | exact Below.refl _ _ | with_reducible assumption | (refine bl_alloc ?_ (Nat.le_refl _) _) | (refine bl_set ?_ (by dsimp only; omega) _) | (refine Below.drew ?_) | (refine bl_drewN ?_ _) | (refine bl_call ?_ (Nat.le_refl _) (by assumption)))⟩

set_option maxHeartbeats 1000000 in
theorem ref9_In (f : Nat) (y : CK) (hy : y.ok) (w : World) : Calls Tryz.prog 121 #[y.rval f] w (RetI y.nin w) := by
  cases y with
  | count =>
    rw [rval_count]
    go_enter Tryz.func121, Tryz.ntmps121
    go_wp2
    go_ret
    exact ⟨rfl, by repeat (first | exact Below.refl _ _ | with_reducible assumption | (refine bl_alloc ?_ (Nat.le_refl _) _) | (refine bl_set ?_ (by dsimp only; omega) _) | (refine Below.drew ?_) | (refine bl_drewN ?_ _) | (refine bl_call ?_ (Nat.le_refl _) (by assumption)))⟩
  | sum b =>
    rw [rval_sum]
    go_enter Tryz.func121, Tryz.ntmps121
    go_wp2
    go_ret
    exact ⟨rfl, by repeat (first | exact Below.refl _ _ | with_reducible assumption | (refine bl_alloc ?_ (Nat.le_refl _) _) | (refine bl_set ?_ (by dsimp only; omega) _) | (refine Below.drew ?_) | (refine bl_drewN ?_ _) | (refine bl_call ?_ (Nat.le_refl _) (by assumption)))⟩
  | vec b l c =>
    rw [rval_vec]
    have hle := CK.nin_le hy
    rw [show (CK.vec b l c).nin = l * b from rfl] at hle ⊢
    have hmul : (b : Int) * (l : Int) = ((l * b : Nat) : Int) := by rw [Int.natCast_mul, Int.mul_comm]
    generalize l * b = n at *
    clear hy
    go_enter Tryz.func121, Tryz.ntmps121
    go_wp2
    go_ret
    refine ⟨ret_int ?_, by repeat (first | exact Below.refl _ _ | with_reducible assumption | (refine bl_alloc ?_ (Nat.le_refl _) _) | (refine bl_set ?_ (by dsimp only; omega) _) | (refine Below.drew ?_) | (refine bl_drewN ?_ _) | (refine bl_call ?_ (Nat.le_refl _) (by assumption)))⟩
    first
      | rfl
      | omega
      | (rw [hmul]; exact IntWalk.i64_in _ (by omega))
  | hist l c =>
    rw [rval_hist]
    go_enter Tryz.func121, Tryz.ntmps121
    go_wp2
    go_ret
    exact ⟨rfl, by repeat (first | exact Below.refl _ _ | with_reducible assumption | (refine bl_alloc ?_ (Nat.le_refl _) _) | (refine bl_set ?_ (by dsimp only; omega) _) | (refine Below.drew ?_) | (refine bl_drewN ?_ _) | (refine bl_call ?_ (Nat.le_refl _) (by assumption)))⟩
  | multi l m c =>
    rw [rval_multi]
    obtain ⟨⟨hl1, hl2⟩, ⟨hm1, hm2⟩, hc⟩ := hy
    have HW := Lib.hid (fun wz => ref9_WeightBits 5 f 0 l c m (by omega) wz)
    have hb7 := (bitLen_small m (by omega)).1
    rw [show (CK.multi l m c).nin = l + Lib.bitLen m from rfl]
    generalize Lib.bitLen m = q at *
    have hw1 : IntKind.i64.wrap ((l : Int) + (q : Int)) = (l : Int) + (q : Int) := IntWalk.i64_in _ (by omega)
    have hb00 : Below w.heap.size w w := Below.refl _ _
    go_enter Tryz.func121, Tryz.ntmps121
    go_upto_region 10 with fail
    have hx := Vs.new w [.int .i64 5, .int .i64 f, .int .i64 0, .int .i64 l, .int .i64 m, .int .i64 c] #[.int .i64 5, .int .i64 f, .int .i64 0, .int .i64 l, .int .i64 m, .int .i64 c] 72 rfl
    have hbA : Below w.heap.size w (w.alloc (.cells #[.int .i64 5, .int .i64 f, .int .i64 0, .int .i64 l, .int .i64 m, .int .i64 c] 72)) := by repeat (first | exact Below.refl _ _ | with_reducible assumption | (refine bl_alloc ?_ (Nat.le_refl _) _))
    replace hb00 := bl_call hb00 (Nat.le_refl _) hbA
    clear hbA
    generalize w.alloc (.cells #[.int .i64 5, .int .i64 f, .int .i64 0, .int .i64 l, .int .i64 m, .int .i64 c] 72) = w1 at hb00 hx ⊢
    obtain ⟨⟨x0, x1, x2, x3, x4, x5⟩, ⟨x6, x7, x8, x9, x10, x11⟩, x12⟩ := hx.get6
    refine region_B (n := 5) (m := 6) (f := 5) (by kernel_rfl) (by kernel_rfl) rfl ?_
    refine WpH.takeB (i := 0) (v := ?_) rfl (by kernel_rfl) (fun _ _ _ h => h) (.val rfl (fun wz hwz => ?_)) ?_
    rotate_left
    · go_simp; try (with_reducible rfl)
    (simp only [Act.put]); (try simp only [List.setIfInBounds_toArray]); (try simp only [List.set_cons_succ]); (try simp only [List.set_cons_zero])
    refine WpH.takeB (i := 1) (v := ?_) rfl (by kernel_rfl) (fun _ _ _ h => h) (.val rfl (fun wz hwz => ?_)) ?_
    rotate_left
    · (obtain ⟨hcz, hfz⟩ := bcell hwz; go_simp; try (with_reducible rfl))
    (simp only [Act.put]); (try simp only [List.setIfInBounds_toArray]); (try simp only [List.set_cons_succ]); (try simp only [List.set_cons_zero])
    refine WpH.takeB (i := 2) (v := ?_) rfl (by kernel_rfl) (fun _ _ _ h => h) (.val rfl (fun wz hwz => ?_)) ?_
    rotate_left
    · (obtain ⟨hcz, hfz⟩ := bcell hwz; go_simp; try (with_reducible rfl))
    (simp only [Act.put]); (try simp only [List.setIfInBounds_toArray]); (try simp only [List.set_cons_succ]); (try simp only [List.set_cons_zero])
    refine WpH.takeB (i := 3) rfl (by kernel_rfl) (fun _ _ _ h => h) (.call rfl (fun wz hwz => HW.out wz) (fun wz hwz => ?_)) ?_
    · go_simp; try (with_reducible rfl)
    (simp only [Act.put]); (try simp only [List.setIfInBounds_toArray]); (try simp only [List.set_cons_succ]); (try simp only [List.set_cons_zero])
    refine WpH.takeB (i := 4) (v := ?_) rfl (by kernel_rfl) (fun _ _ _ h => h) (.val rfl (fun wz hwz => ?_)) ?_
    rotate_left
    · go_simp; try (with_reducible rfl)
    (simp only [Act.put]); (try simp only [List.setIfInBounds_toArray]); (try simp only [List.set_cons_succ]); (try simp only [List.set_cons_zero])
    refine WpH.doneB (by kernel_rfl) (fun w2 hw2 => ?_)
    (try simp only [List.drop_succ_cons]); (try simp only [List.drop_zero]); (try simp only [Nat.reduceSub]); (try simp only [List.take_succ_cons]); (try simp only [List.take_zero])
    replace hb00 := bl_call hb00 (Nat.le_refl _) hw2
    replace hx := hx.call hw2
    go_wp2_with fail
    go_ret
    exact ⟨ret_int (by omega), by repeat (first | exact Below.refl _ _ | with_reducible assumption | (refine bl_alloc ?_ (Nat.le_refl _) _) | (refine bl_set ?_ (by dsimp only; omega) _) | (refine Below.drew ?_) | (refine bl_drewN ?_ _) | (refine bl_call ?_ (Nat.le_refl _) (by assumption)))⟩

set_option maxHeartbeats 1000000 in
theorem ref9_Calls_chunk (k f b l m : Int) (c n : Nat) (hk : (k == 1) = false) (hk2 : (k == 2) = false) (hc1 : 1 ≤ c) (hc2 : c ≤ 16) (hn : n ≤ 2048) (w : World)
    (hI : ∀ wz, Calls Tryz.prog 121 #[.agg #[.int .i64 k, .int .i64 f, .int .i64 b, .int .i64 l, .int .i64 m, .int .i64 c]] wz (RetI n wz)) :
    Calls Tryz.prog 88 #[.agg #[.int .i64 k, .int .i64 f, .int .i64 b, .int .i64 l, .int .i64 m, .int .i64 c]] w (RetI ((n + c - 1) / c) w) := by
  have HI := Lib.hid hI
  clear hI
  have hb00 : Below w.heap.size w w := Below.refl _ _
  go_enter Tryz.func88, Tryz.ntmps88
  go_upto_region 1 with fail
  have hx := Vs.new w [.int .i64 k, .int .i64 f, .int .i64 b, .int .i64 l, .int .i64 m, .int .i64 c] #[.int .i64 k, .int .i64 f, .int .i64 b, .int .i64 l, .int .i64 m, .int .i64 c] 72 rfl
  have hbA : Below w.heap.size w (w.alloc (.cells #[.int .i64 k, .int .i64 f, .int .i64 b, .int .i64 l, .int .i64 m, .int .i64 c] 72)) := by repeat (first | exact Below.refl _ _ | with_reducible assumption | (refine bl_alloc ?_ (Nat.le_refl _) _))
  replace hb00 := bl_call hb00 (Nat.le_refl _) hbA
  clear hbA
  generalize w.alloc (.cells #[.int .i64 k, .int .i64 f, .int .i64 b, .int .i64 l, .int .i64 m, .int .i64 c] 72) = w1 at hb00 hx ⊢
  obtain ⟨⟨x0, x1, x2, x3, x4, x5⟩, ⟨x6, x7, x8, x9, x10, x11⟩, x12⟩ := hx.get6
  go_wp2_with fail
  go_loopw [3, 4] (fun u v wr => ∃ (j p : Nat), j ≤ 2048 ∧ p ≤ 2064 ∧ u = .int .i64 j ∧ v = .int .i64 p ∧ Hid (p = j * c) ∧ Hid (j = 0 ∨ (j - 1) * c < n) ∧ Vs wr w.heap.size [.int .i64 k, .int .i64 f, .int .i64 b, .int .i64 l, .int .i64 m, .int .i64 c] ∧ Below w.heap.size w wr) (fun _ v _ => 2064 - (intOf v).toNat)
  case atStart => exact ⟨0, 0, by omega, by omega, rfl, rfl, (Nat.zero_mul c).symm, .inl rfl, hx, hb00⟩
  case round =>
    clear x0 x1 x2 x3 x4 x5 x6 x7 x8 x9 x10 x11 x12
    clear hx hb00
    obtain ⟨j, p, hj, hp, rfl, rfl, hpj, hj0, hx, hb00⟩ := hrel
    obtain ⟨⟨x0, x1, x2, x3, x4, x5⟩, ⟨x6, x7, x8, x9, x10, x11⟩, x12⟩ := hx.get6
    by_cases hlt : p < n
    · have hjj : j + 1 ≤ 2048 := by
        have h1 := hpj.out
        have h2 : j * 1 ≤ j * c := Nat.mul_le_mul_left j hc1
        omega
      go_wp2_with (first
        | (go_at_call 121; refine (HI.out _).mono ?_; rintro e w2 ⟨rfl, hb2⟩; replace hb00 := bl_call hb00 (Nat.le_refl _) hb2; replace hx := hx.call hb2; obtain ⟨⟨x0, x1, x2, x3, x4, x5⟩, ⟨x6, x7, x8, x9, x10, x11⟩, x12⟩ := hx.get6))
      go_roundw
      case rel => exact ⟨j + 1, p + c, hjj, by omega, by go_num, by go_num, (by rw [hpj.out, Nat.succ_mul] : p + c = (j + 1) * c), .inr (by rw [Nat.add_sub_cancel, ← hpj.out]; exact hlt), hx, hb00⟩
      case measure => simp [intOf]; omega
    · have hge : n ≤ j * c := by rw [← hpj.out]; omega
      have HE := Lib.hid (ceil_of hc1 hge hj0.out)
      clear hge
      go_wp2_with (first
        | (go_at_call 121; refine (HI.out _).mono ?_; rintro e w2 ⟨rfl, hb2⟩; replace hb00 := bl_call hb00 (Nat.le_refl _) hb2; replace hx := hx.call hb2; obtain ⟨⟨x0, x1, x2, x3, x4, x5⟩, ⟨x6, x7, x8, x9, x10, x11⟩, x12⟩ := hx.get6))
      go_ret
      exact ⟨ret_int (by rw [HE.out]), hb00⟩

theorem ref9_Calls (f : Nat) (y : CK) (hy : y.ok) (w : World) : Calls Tryz.prog 88 #[y.rval f] w (RetI y.calls w) := by
  have hI := fun wz => ref9_In f y hy wz
  have hn := CK.nin_le hy
  cases y with
  | count =>
    rw [rval_count]
    go_enter Tryz.func88, Tryz.ntmps88
    go_wp2
    go_ret
    exact ⟨rfl, by repeat (first | exact Below.refl _ _ | with_reducible assumption | (refine bl_alloc ?_ (Nat.le_refl _) _) | (refine bl_set ?_ (by dsimp only; omega) _) | (refine Below.drew ?_) | (refine bl_drewN ?_ _) | (refine bl_call ?_ (Nat.le_refl _) (by assumption)))⟩
  | sum b =>
    rw [rval_sum]
    go_enter Tryz.func88, Tryz.ntmps88
    go_wp2
    go_ret
    exact ⟨rfl, by repeat (first | exact Below.refl _ _ | with_reducible assumption | (refine bl_alloc ?_ (Nat.le_refl _) _) | (refine bl_set ?_ (by dsimp only; omega) _) | (refine Below.drew ?_) | (refine bl_drewN ?_ _) | (refine bl_call ?_ (Nat.le_refl _) (by assumption)))⟩
  | vec b l c =>
    rw [rval_vec] at hI ⊢
    exact ref9_Calls_chunk 3 f b l 0 c _ rfl rfl hy.2.2.1 hy.2.2.2 hn w hI
  | hist l c =>
    rw [rval_hist] at hI ⊢
    exact ref9_Calls_chunk 4 f 0 l 0 c _ rfl rfl hy.2.1 hy.2.2 hn w hI
  | multi l m c =>
    rw [rval_multi] at hI ⊢
    exact ref9_Calls_chunk 5 f 0 l m c _ rfl rfl hy.2.2.1 hy.2.2.2 hn w hI

end Go.Proofs.YtfbfbijkkbflkaaGreatDoor

namespace Go.Proofs.YtfbfbijkkbflkaaGreatDoor
open Go.RowKit Fm
set_option linter.unusedVariables false
set_option maxRecDepth 100000

section
variable (f : Nat) (y : CK) (hy : y.ok)
include hy

end

/-! ### the reference's circuit of a circuit -/
set_option maxHeartbeats 1000000 in
theorem law10_Ref (k f b l m c : Int) (hk0 : 0 ≤ k) (hk1 : k ≤ 255) (hf0 : 0 ≤ f) (hf1 : f ≤ 255) (w : World) :
    Calls Tryz.prog 40 #[.agg #[.int .u8 k, .int .u8 f, .int .i64 b, .int .i64 l, .int .i64 m, .int .i64 c]] w fun e w' => e = .returned (.agg #[.int .i64 k, .int .i64 f, .int .i64 b, .int .i64 l, .int .i64 m, .int .i64 c]) ∧ Below w.heap.size w w' := by
  go_enter Tryz.func40, Tryz.ntmps40
  go_wp2
  refine bodyPost_ret (by simp [results, Tryz.results40, go_sem]) rfl ⟨rfl, by repeat (first | exact Below.refl _ _ | with_reducible assumption | (refine bl_alloc ?_ (Nat.le_refl _) _) | (refine bl_set ?_ (by dsimp only; omega) _) | (refine Below.drew ?_) | (refine bl_drewN ?_ _) | (refine bl_call ?_ (Nat.le_refl _) (by assumption)))⟩

end Go.Proofs.YtfbfbijkkbflkaaGreatDoor

namespace Go.Proofs.YtfbfbijkkbflkaaGreatDoor
open Go.RowKit Fm
set_option linter.unusedVariables false
set_option maxRecDepth 100000

section
variable {f : Nat} (hf : IsF f)
include hf

set_option maxHeartbeats 2000000 in
theorem circuit_Verifier (y : CK) (hy : y.ok) (w : World) : Calls Tryz.prog 43 #[y.val f] w (RetI (y.arity + 2) w) := by
  have HG := Lib.hid (fun wz => circuit_Gadget hf y hy wz)
  have ha := gad_arity f y
  have hal := CK.arity_le hy
  unfold CK.val at HG ⊢
  generalize y.gad f = g at *
  generalize y.arity = r at *
  clear hy
  generalize ((y.k : Nat) : Int) = k at *
  generalize ((y.b : Nat) : Int) = b at *
  generalize ((y.l : Nat) : Int) = l at *
  generalize ((y.m : Nat) : Int) = m at *
  generalize ((y.c : Nat) : Int) = c at *
  have HAR : Hid (∀ (wz : World) (B : Nat) (k : Int) (sl : Value) (n : Int), RepG wz B k sl n g → Calls Tryz.prog 28 #[.agg #[.int .u8 k, sl, .int .i64 n]] wz (RetI r wz)) := by
    intro wz B k sl n hg
    have h := gadget_Arity wz B g k sl n hg
    rwa [ha] at h
  clear ha
  go_enter Tryz.func43, Tryz.ntmps43
  go_wp2_with (first
    | (go_at_call 27; refine (HG.out _).mono ?_; rintro e w2 ⟨gk, sl, gn, rfl, hg, hb2⟩)
    | (go_at_call 28; refine (HAR.out _ _ _ _ _ hg).mono ?_; rintro e w3 ⟨rfl, hb3⟩))
  go_ret
  exact ⟨ret_int (by omega), by repeat (first | exact Below.refl _ _ | with_reducible assumption | (refine bl_alloc ?_ (Nat.le_refl _) _) | (refine bl_set ?_ (by dsimp only; omega) _) | (refine Below.drew ?_) | (refine bl_drewN ?_ _) | (refine bl_call ?_ (Nat.le_refl _) (by assumption)))⟩
end

end Go.Proofs.YtfbfbijkkbflkaaGreatDoor
