/-
  Both, Run, PfNo, PfSz: for ProofErrors.
-/
import Derived.Test.YtfbfbijkkbflkaaGreatDoorMaz
import Derived.Test.YtfbfbijkkbflkaaGreatDoorNab
namespace Go.Proofs.YtfbfbijkkbflkaaGreatDoor
open Go.RowKit Fm
set_option linter.unusedVariables false
set_option maxRecDepth 100000

theorem raw_checks (x : Raw) : ∃ n : Int, (n = 0 ∨ n = 5 ∨ n = 6 ∨ n = 7 ∨ n = 10) ∧ (∀ w, Calls Tryz.prog 48 #[x.val] w (RetC n w)) ∧ (∀ w, Calls Tryz.prog 41 #[x.rval] w (RetC n w)) ∧
    (n = 0 → ∃ F y, x.Is F y) := by
  obtain ⟨k, f, b, l, m, c⟩ := x
  by_cases hf : (f == 1 || f == 2) = true
  · obtain ⟨F, hF, rfl⟩ : ∃ F : Nat, IsF F ∧ f = (F : Int) := by
      rw [Bool.or_eq_true, beq_iff_eq, beq_iff_eq] at hf
      rcases hf with rfl | rfl
      · exact ⟨1, isF1, rfl⟩
      · exact ⟨2, isF2, rfl⟩
    by_cases hk : 1 ≤ k ∧ k ≤ 5
    · cases hr : rangeB k b l m c
      · exact ⟨6, by omega, fun w => circuit_Check_range hF k b l m c hk hr w, fun w => ref9_Check_range hF k b l m c hk hr w, fun h => by omega⟩
      · obtain ⟨y, hy, rfl, rfl, rfl, rfl, rfl⟩ := cir_range hk hr
        by_cases hc : 511 < y.calls
        · refine ⟨5, by omega, fun w => ?_, fun w => ?_, fun h => by omega⟩
          · have h := circuit_Check_ok hF y hy w
            rwa [CK.code_no hc] at h
          · have h := ref9_Check_ok hF y hy w
            rwa [CK.code_no hc] at h
        · refine ⟨0, by omega, fun w => ?_, fun w => ?_, fun _ => ⟨F, y, hF, hy, hc, rfl, rfl⟩⟩
          · have h := circuit_Check_ok hF y hy w
            rwa [CK.code_ok hc] at h
          · have h := ref9_Check_ok hF y hy w
            rwa [CK.code_ok hc] at h
    · exact ⟨10, by omega, fun w => circuit_Check_kind hF k b l m c (by omega) w, fun w => ref9_Check_kind hF k b l m c (by omega) w, fun h => by omega⟩
  · have hf' : (f == 1 || f == 2) = false := by simpa using hf
    exact ⟨7, by omega, fun w => circuit_Check_field k f b l m c hf' w, fun w => ref9_Check_field k f b l m c hf' w, fun h => by omega⟩

end Go.Proofs.YtfbfbijkkbflkaaGreatDoor

namespace Go.Proofs.YtfbfbijkkbflkaaGreatDoor
open Go.RowKit Fm
set_option linter.unusedVariables false
set_option maxRecDepth 100000

def RetNoE (n : Int) (w : World) (e : Ending) (w' : World) : Prop := e = .returned (.tuple #[.agg #[.int .u64 0, .int .u64 0], .int .i64 n]) ∧ Below w.heap.size w w'

set_option maxHeartbeats 2000000 in
theorem circuit_Run_no (x : Raw) (n : Int) (hn : n ≠ 0) (HC : ∀ wz, Calls Tryz.prog 48 #[x.val] wz (RetC n wz)) (vi vj vs vc : Value) (w : World) :
    Calls Tryz.prog 32 #[x.val, vi, vj, vs, vc] w (RetNoE n w) := by
  have HC := Lib.hid HC
  obtain ⟨xk, xf, xb, xl, xm, xc⟩ := x
  unfold Raw.val at HC ⊢
  dsimp only at HC ⊢
  have hn1 : (n == 0) = false := by simpa using hn
  have hn2 : (n != 0) = true := by simpa using hn
  clear hn
  go_enter Tryz.func32, Tryz.ntmps32
  go_upto_region 1 with fail
  have hx := (Vs.new w [.int .u8 xk, .int .u8 xf, .int .i64 xb, .int .i64 xl, .int .i64 xm, .int .i64 xc] #[.int .u8 xk, .int .u8 xf, .int .i64 xb, .int .i64 xl, .int .i64 xm, .int .i64 xc] 30 rfl).alloc (.cells #[.int .u64 0, .int .u64 0] 36)
  have s0 := V2.new (w.alloc (.cells #[.int .u8 xk, .int .u8 xf, .int .i64 xb, .int .i64 xl, .int .i64 xm, .int .i64 xc] 30)) (.int .u64 0) (.int .u64 0) 36
  simp only [World.size_alloc] at s0
  have hb00 : Below w.heap.size w ((w.alloc (.cells #[.int .u8 xk, .int .u8 xf, .int .i64 xb, .int .i64 xl, .int .i64 xm, .int .i64 xc] 30)).alloc (.cells #[.int .u64 0, .int .u64 0] 36)) := by repeat (first | exact Below.refl _ _ | with_reducible assumption | (refine bl_alloc ?_ (Nat.le_refl _) _))
  have hszn : w.heap.size + 2 ≤ ((w.alloc (.cells #[.int .u8 xk, .int .u8 xf, .int .i64 xb, .int .i64 xl, .int .i64 xm, .int .i64 xc] 30)).alloc (.cells #[.int .u64 0, .int .u64 0] 36)).heap.size := by simp only [World.size_alloc]; omega
  generalize ((w.alloc (.cells #[.int .u8 xk, .int .u8 xf, .int .i64 xb, .int .i64 xl, .int .i64 xm, .int .i64 xc] 30)).alloc (.cells #[.int .u64 0, .int .u64 0] 36)) = w1 at hx s0 hb00 hszn ⊢
  obtain ⟨⟨x0, x1, x2, x3, x4, x5⟩, ⟨x6, x7, x8, x9, x10, x11⟩, x12⟩ := hx.get6
  go_upto_region 3 with (first
    | (go_at_call 48; refine (HC.out _).mono ?_; rintro e w2 ⟨rfl, hb2⟩; replace hb00 := bl_call hb00 (Nat.le_refl _) hb2; replace hx := hx.call hb2; replace s0 := s0.call hb2; clear x0 x1 x2 x3 x4 x5 x6 x7 x8 x9 x10 x11 x12; clear hb2; obtain ⟨⟨x0, x1, x2, x3, x4, x5⟩, ⟨x6, x7, x8, x9, x10, x11⟩, x12⟩ := hx.get6))
  obtain ⟨s00, s01, s02, s03, s04⟩ := V2.mk s0.c0 s0.c1 s0.f0 s0.f1 s0.lt
  go_wp2_with fail
  refine bodyPost_ret (results_v2_tmp (b := w.heap.size + 1) (u := .int .u64 0) (v := .int .u64 0) ?_ rfl rfl) rfl ?_
  · first | exact V2.set s0 _ _ | exact s0
  · exact ⟨rfl, by repeat (first | exact Below.refl _ _ | with_reducible assumption | (refine bl_alloc ?_ (Nat.le_refl _) _) | (refine bl_set ?_ (by dsimp only; omega) _) | (refine Below.drew ?_) | (refine bl_drewN ?_ _) | (refine bl_call ?_ (Nat.le_refl _) (by assumption)))⟩

set_option maxHeartbeats 2000000 in
theorem circuit_Run_size (K F B N M C : Int) (ni nj : Nat) (HC : Hid (∀ wz, Calls Tryz.prog 48 #[.agg #[.int .u8 K, .int .u8 F, .int .i64 B, .int .i64 N, .int .i64 M, .int .i64 C]] wz (RetC 0 wz)))
    (HI : Hid (∀ wz, Calls Tryz.prog 42 #[.agg #[.int .u8 K, .int .u8 F, .int .i64 B, .int .i64 N, .int .i64 M, .int .i64 C]] wz (RetI ni wz)))
    (HJ : Hid (∀ wz, Calls Tryz.prog 14 #[.agg #[.int .u8 K, .int .u8 F, .int .i64 B, .int .i64 N, .int .i64 M, .int .i64 C]] wz (RetI nj wz)))
    (A1 : Option Addr) (n1 c1 : Nat) (A2 : Option Addr) (n2 c2 : Nat) (vs : Value) (fn : Fn) (first cap : Array Value) (w : World) (hbad : ¬ n1 = ni ∨ ¬ n2 = nj) :
    Calls Tryz.prog 32 #[.agg #[.int .u8 K, .int .u8 F, .int .i64 B, .int .i64 N, .int .i64 M, .int .i64 C], .slice A1 n1 c1, .slice A2 n2 c2, vs, .func fn first cap] w (RetNoE 9 w) := by
  have heq := eql_func
  by_cases h1 : n1 = ni
  · subst h1
    have h2 : ¬ n2 = nj := by
      rcases hbad with h | h
      · exact absurd rfl h
      · exact h
    clear hbad
    go_enter Tryz.func32, Tryz.ntmps32
    go_upto_region 1 with fail
    have hx := (Vs.new w [.int .u8 K, .int .u8 F, .int .i64 B, .int .i64 N, .int .i64 M, .int .i64 C] #[.int .u8 K, .int .u8 F, .int .i64 B, .int .i64 N, .int .i64 M, .int .i64 C] 30 rfl).alloc (.cells #[.int .u64 0, .int .u64 0] 36)
    have s0 := V2.new (w.alloc (.cells #[.int .u8 K, .int .u8 F, .int .i64 B, .int .i64 N, .int .i64 M, .int .i64 C] 30)) (.int .u64 0) (.int .u64 0) 36
    simp only [World.size_alloc] at s0
    have hb00 : Below w.heap.size w ((w.alloc (.cells #[.int .u8 K, .int .u8 F, .int .i64 B, .int .i64 N, .int .i64 M, .int .i64 C] 30)).alloc (.cells #[.int .u64 0, .int .u64 0] 36)) := by repeat (first | exact Below.refl _ _ | with_reducible assumption | (refine bl_alloc ?_ (Nat.le_refl _) _))
    have hszn : w.heap.size + 2 ≤ ((w.alloc (.cells #[.int .u8 K, .int .u8 F, .int .i64 B, .int .i64 N, .int .i64 M, .int .i64 C] 30)).alloc (.cells #[.int .u64 0, .int .u64 0] 36)).heap.size := by simp only [World.size_alloc]; omega
    generalize ((w.alloc (.cells #[.int .u8 K, .int .u8 F, .int .i64 B, .int .i64 N, .int .i64 M, .int .i64 C] 30)).alloc (.cells #[.int .u64 0, .int .u64 0] 36)) = w1 at hx s0 hb00 hszn ⊢
    obtain ⟨⟨x0, x1, x2, x3, x4, x5⟩, ⟨x6, x7, x8, x9, x10, x11⟩, x12⟩ := hx.get6
    go_upto_region 7 with (first
      | (go_at_call 48; refine (HC.out _).mono ?_; rintro e w2 ⟨rfl, hb2⟩; replace hb00 := bl_call hb00 (Nat.le_refl _) hb2; replace hx := hx.call hb2; replace s0 := s0.call hb2; clear x0 x1 x2 x3 x4 x5 x6 x7 x8 x9 x10 x11 x12; clear hb2; obtain ⟨⟨x0, x1, x2, x3, x4, x5⟩, ⟨x6, x7, x8, x9, x10, x11⟩, x12⟩ := hx.get6)
      | (go_at_call 42; refine (HI.out _).mono ?_; rintro e w3 ⟨rfl, hb3⟩; replace hb00 := bl_call hb00 (Nat.le_refl _) hb3; replace hx := hx.call hb3; replace s0 := s0.call hb3; clear x0 x1 x2 x3 x4 x5 x6 x7 x8 x9 x10 x11 x12; clear hb3; obtain ⟨⟨x0, x1, x2, x3, x4, x5⟩, ⟨x6, x7, x8, x9, x10, x11⟩, x12⟩ := hx.get6)
      | (go_at_call 14; refine (HJ.out _).mono ?_; rintro e w4 ⟨rfl, hb4⟩; replace hb00 := bl_call hb00 (Nat.le_refl _) hb4; replace hx := hx.call hb4; replace s0 := s0.call hb4; clear x0 x1 x2 x3 x4 x5 x6 x7 x8 x9 x10 x11 x12; clear hb4; obtain ⟨⟨x0, x1, x2, x3, x4, x5⟩, ⟨x6, x7, x8, x9, x10, x11⟩, x12⟩ := hx.get6))
    obtain ⟨s00, s01, s02, s03, s04⟩ := V2.mk s0.c0 s0.c1 s0.f0 s0.f1 s0.lt
    go_wp2_with fail
    refine bodyPost_ret (results_v2_tmp (b := w.heap.size + 1) (u := .int .u64 0) (v := .int .u64 0) ?_ rfl rfl) rfl ?_
    · first | exact V2.set s0 _ _ | exact s0
    · exact ⟨rfl, by repeat (first | exact Below.refl _ _ | with_reducible assumption | (refine bl_alloc ?_ (Nat.le_refl _) _) | (refine bl_set ?_ (by dsimp only; omega) _) | (refine Below.drew ?_) | (refine bl_drewN ?_ _) | (refine bl_call ?_ (Nat.le_refl _) (by assumption)))⟩
  · clear hbad
    go_enter Tryz.func32, Tryz.ntmps32
    go_upto_region 1 with fail
    have hx := (Vs.new w [.int .u8 K, .int .u8 F, .int .i64 B, .int .i64 N, .int .i64 M, .int .i64 C] #[.int .u8 K, .int .u8 F, .int .i64 B, .int .i64 N, .int .i64 M, .int .i64 C] 30 rfl).alloc (.cells #[.int .u64 0, .int .u64 0] 36)
    have s0 := V2.new (w.alloc (.cells #[.int .u8 K, .int .u8 F, .int .i64 B, .int .i64 N, .int .i64 M, .int .i64 C] 30)) (.int .u64 0) (.int .u64 0) 36
    simp only [World.size_alloc] at s0
    have hb00 : Below w.heap.size w ((w.alloc (.cells #[.int .u8 K, .int .u8 F, .int .i64 B, .int .i64 N, .int .i64 M, .int .i64 C] 30)).alloc (.cells #[.int .u64 0, .int .u64 0] 36)) := by repeat (first | exact Below.refl _ _ | with_reducible assumption | (refine bl_alloc ?_ (Nat.le_refl _) _))
    have hszn : w.heap.size + 2 ≤ ((w.alloc (.cells #[.int .u8 K, .int .u8 F, .int .i64 B, .int .i64 N, .int .i64 M, .int .i64 C] 30)).alloc (.cells #[.int .u64 0, .int .u64 0] 36)).heap.size := by simp only [World.size_alloc]; omega
    generalize ((w.alloc (.cells #[.int .u8 K, .int .u8 F, .int .i64 B, .int .i64 N, .int .i64 M, .int .i64 C] 30)).alloc (.cells #[.int .u64 0, .int .u64 0] 36)) = w1 at hx s0 hb00 hszn ⊢
    obtain ⟨⟨x0, x1, x2, x3, x4, x5⟩, ⟨x6, x7, x8, x9, x10, x11⟩, x12⟩ := hx.get6
    go_upto_region 7 with (first
      | (go_at_call 48; refine (HC.out _).mono ?_; rintro e w2 ⟨rfl, hb2⟩; replace hb00 := bl_call hb00 (Nat.le_refl _) hb2; replace hx := hx.call hb2; replace s0 := s0.call hb2; clear x0 x1 x2 x3 x4 x5 x6 x7 x8 x9 x10 x11 x12; clear hb2; obtain ⟨⟨x0, x1, x2, x3, x4, x5⟩, ⟨x6, x7, x8, x9, x10, x11⟩, x12⟩ := hx.get6)
      | (go_at_call 42; refine (HI.out _).mono ?_; rintro e w3 ⟨rfl, hb3⟩; replace hb00 := bl_call hb00 (Nat.le_refl _) hb3; replace hx := hx.call hb3; replace s0 := s0.call hb3; clear x0 x1 x2 x3 x4 x5 x6 x7 x8 x9 x10 x11 x12; clear hb3; obtain ⟨⟨x0, x1, x2, x3, x4, x5⟩, ⟨x6, x7, x8, x9, x10, x11⟩, x12⟩ := hx.get6)
      | (go_at_call 14; refine (HJ.out _).mono ?_; rintro e w4 ⟨rfl, hb4⟩; replace hb00 := bl_call hb00 (Nat.le_refl _) hb4; replace hx := hx.call hb4; replace s0 := s0.call hb4; clear x0 x1 x2 x3 x4 x5 x6 x7 x8 x9 x10 x11 x12; clear hb4; obtain ⟨⟨x0, x1, x2, x3, x4, x5⟩, ⟨x6, x7, x8, x9, x10, x11⟩, x12⟩ := hx.get6))
    obtain ⟨s00, s01, s02, s03, s04⟩ := V2.mk s0.c0 s0.c1 s0.f0 s0.f1 s0.lt
    go_wp2_with fail
    refine bodyPost_ret (results_v2_tmp (b := w.heap.size + 1) (u := .int .u64 0) (v := .int .u64 0) ?_ rfl rfl) rfl ?_
    · first | exact V2.set s0 _ _ | exact s0
    · exact ⟨rfl, by repeat (first | exact Below.refl _ _ | with_reducible assumption | (refine bl_alloc ?_ (Nat.le_refl _) _) | (refine bl_set ?_ (by dsimp only; omega) _) | (refine Below.drew ?_) | (refine bl_drewN ?_ _) | (refine bl_call ?_ (Nat.le_refl _) (by assumption)))⟩

end Go.Proofs.YtfbfbijkkbflkaaGreatDoor

namespace Go.Proofs.YtfbfbijkkbflkaaGreatDoor
open Go.RowKit Fm
set_option linter.unusedVariables false
set_option maxRecDepth 100000

section
variable (F : Int) (hF : ¬ (F = 1 ∨ F = 2))
include hF
theorem no_kinds : (F == 1) = false ∧ (F == 2) = false := ⟨by simpa using fun h => hF (.inl h), by simpa using fun h => hF (.inr h)⟩
set_option maxHeartbeats 2000000 in
theorem field_Of_no (n : Int) (w : World) : Calls Tryz.prog 52 #[.int .u8 F, .int .u64 n] w fun e w' => e = .returned (.agg #[.int .u64 0, .int .u64 0]) ∧ Below w.heap.size w w' := by
  obtain ⟨h1, h2⟩ := no_kinds F hF
  clear hF
  go_enter Tryz.func52, Tryz.ntmps52
  go_wp2
  refine bodyPost_ret (by simp [results, Tryz.results52, go_sem]; first | done | rfl) rfl ⟨rfl, by repeat (first | exact Below.refl _ _ | with_reducible assumption | (refine bl_alloc ?_ (Nat.le_refl _) _) | (refine bl_set ?_ (by dsimp only; omega) _) | (refine Below.drew ?_) | (refine bl_drewN ?_ _) | (refine bl_call ?_ (Nat.le_refl _) (by assumption)))⟩
set_option maxHeartbeats 2000000 in
theorem field_Sub_no (a0 a1 b0 b1 : Int) (w : World) : Calls Tryz.prog 62 #[.int .u8 F, .agg #[.int .u64 a0, .int .u64 a1], .agg #[.int .u64 b0, .int .u64 b1]] w fun e w' => e = .returned (.agg #[.int .u64 0, .int .u64 0]) ∧ Below w.heap.size w w' := by
  obtain ⟨h1, h2⟩ := no_kinds F hF
  clear hF
  go_enter Tryz.func62, Tryz.ntmps62
  go_upto_region 1 with fail
  have q0 := ((V2.new w (.int .u64 a0) (.int .u64 a1) 36).alloc (.cells #[(.int .u64 b0), (.int .u64 b1)] 36)).alloc (.cells #[(.int .u64 0), (.int .u64 0)] 36)
  have t0 := (V2.new (w.alloc (.cells #[(.int .u64 a0), (.int .u64 a1)] 36)) (.int .u64 b0) (.int .u64 b1) 36).alloc (.cells #[(.int .u64 0), (.int .u64 0)] 36)
  have s0 := V2.new ((w.alloc (.cells #[(.int .u64 a0), (.int .u64 a1)] 36)).alloc (.cells #[(.int .u64 b0), (.int .u64 b1)] 36)) (.int .u64 0) (.int .u64 0) 36
  simp only [World.size_alloc] at t0 s0
  have hb00 : Below w.heap.size w (((w.alloc (.cells #[(.int .u64 a0), (.int .u64 a1)] 36)).alloc (.cells #[(.int .u64 b0), (.int .u64 b1)] 36)).alloc (.cells #[(.int .u64 0), (.int .u64 0)] 36)) := by repeat (first | exact Below.refl _ _ | with_reducible assumption | (refine bl_alloc ?_ (Nat.le_refl _) _))
  have hsz : w.heap.size + 3 ≤ (((w.alloc (.cells #[(.int .u64 a0), (.int .u64 a1)] 36)).alloc (.cells #[(.int .u64 b0), (.int .u64 b1)] 36)).alloc (.cells #[(.int .u64 0), (.int .u64 0)] 36)).heap.size := by simp only [World.size_alloc]; omega
  generalize (((w.alloc (.cells #[(.int .u64 a0), (.int .u64 a1)] 36)).alloc (.cells #[(.int .u64 b0), (.int .u64 b1)] 36)).alloc (.cells #[(.int .u64 0), (.int .u64 0)] 36)) = w1 at q0 t0 s0 hb00 hsz ⊢
  obtain ⟨e0, e1, e2, e3, e4⟩ := s0
  go_wp2
  refine bodyPost_ret (results_v2 (b := w.heap.size + 1 + 1) (u := .int .u64 0) (v := .int .u64 0) ?_ rfl rfl) rfl ⟨rfl, by repeat (first | exact Below.refl _ _ | with_reducible assumption | (refine bl_alloc ?_ (Nat.le_refl _) _) | (refine bl_set ?_ (by dsimp only; omega) _) | (refine Below.drew ?_) | (refine bl_drewN ?_ _) | (refine bl_call ?_ (Nat.le_refl _) (by assumption)))⟩
  exact V2.set ⟨e0, e1, e2, e3, e4⟩ _ _
theorem field_One_no (w : World) : Calls Tryz.prog 49 #[.int .u8 F] w fun e w' => e = .returned (.agg #[.int .u64 0, .int .u64 0]) ∧ Below w.heap.size w w' := by
  have H := Lib.hid (fun wz => field_Of_no F hF 1 wz)
  clear hF
  go_enter Tryz.func49, Tryz.ntmps49
  go_upto_region 1 with fail
  have s0 := V2.new w (.int .u64 0) (.int .u64 0) 36
  have hb00 : Below w.heap.size w (w.alloc (.cells #[(.int .u64 0), (.int .u64 0)] 36)) := by repeat (first | exact Below.refl _ _ | with_reducible assumption | (refine bl_alloc ?_ (Nat.le_refl _) _))
  have hsz : w.heap.size + 1 ≤ (w.alloc (.cells #[(.int .u64 0), (.int .u64 0)] 36)).heap.size := by simp only [World.size_alloc]; omega
  generalize (w.alloc (.cells #[(.int .u64 0), (.int .u64 0)] 36)) = w1 at s0 hb00 hsz ⊢
  go_wp2_with (go_at_call 52; refine (H.out _).mono ?_; rintro e w5 ⟨rfl, hb5⟩; obtain ⟨e0, e1, e2, e3, e4⟩ := s0.call hb5)
  refine bodyPost_ret (results_v2 (b := w.heap.size) (u := .int .u64 0) (v := .int .u64 0) ?_ rfl rfl) rfl ⟨rfl, by repeat (first | exact Below.refl _ _ | with_reducible assumption | (refine bl_alloc ?_ (Nat.le_refl _) _) | (refine bl_set ?_ (by dsimp only; omega) _) | (refine Below.drew ?_) | (refine bl_drewN ?_ _) | (refine bl_call ?_ (Nat.le_refl _) (by assumption)))⟩
  exact V2.set ⟨e0, e1, e2, e3, e4⟩ _ _
theorem field_Neg_no (a0 a1 : Int) (w : World) : Calls Tryz.prog 104 #[.int .u8 F, .agg #[.int .u64 a0, .int .u64 a1]] w fun e w' => e = .returned (.agg #[.int .u64 0, .int .u64 0]) ∧ Below w.heap.size w w' := by
  have H := Lib.hid (fun wz => field_Sub_no F hF 0 0 a0 a1 wz)
  clear hF
  go_enter Tryz.func104, Tryz.ntmps104
  go_upto_region 1 with fail
  have q0 := (V2.new w (.int .u64 a0) (.int .u64 a1) 36).alloc (.cells #[(.int .u64 0), (.int .u64 0)] 36)
  have s0 := V2.new (w.alloc (.cells #[(.int .u64 a0), (.int .u64 a1)] 36)) (.int .u64 0) (.int .u64 0) 36
  simp only [World.size_alloc] at s0
  have hb00 : Below w.heap.size w ((w.alloc (.cells #[(.int .u64 a0), (.int .u64 a1)] 36)).alloc (.cells #[(.int .u64 0), (.int .u64 0)] 36)) := by repeat (first | exact Below.refl _ _ | with_reducible assumption | (refine bl_alloc ?_ (Nat.le_refl _) _))
  have hsz : w.heap.size + 2 ≤ ((w.alloc (.cells #[(.int .u64 a0), (.int .u64 a1)] 36)).alloc (.cells #[(.int .u64 0), (.int .u64 0)] 36)).heap.size := by simp only [World.size_alloc]; omega
  generalize ((w.alloc (.cells #[(.int .u64 a0), (.int .u64 a1)] 36)).alloc (.cells #[(.int .u64 0), (.int .u64 0)] 36)) = w1 at q0 s0 hb00 hsz ⊢
  obtain ⟨c0, c1, c2, c3, c4⟩ := q0
  go_wp2_with (go_at_call 62; refine (H.out _).mono ?_; rintro e w5 ⟨rfl, hb5⟩; obtain ⟨e0, e1, e2, e3, e4⟩ := s0.call hb5)
  refine bodyPost_ret (results_v2 (b := w.heap.size + 1) (u := .int .u64 0) (v := .int .u64 0) ?_ rfl rfl) rfl ⟨rfl, by repeat (first | exact Below.refl _ _ | with_reducible assumption | (refine bl_alloc ?_ (Nat.le_refl _) _) | (refine bl_set ?_ (by dsimp only; omega) _) | (refine Below.drew ?_) | (refine bl_drewN ?_ _) | (refine bl_call ?_ (Nat.le_refl _) (by assumption)))⟩
  exact V2.set ⟨e0, e1, e2, e3, e4⟩ _ _
end

def RetGX (w : World) (e : Ending) (w' : World) : Prop := ∃ (k n : Int) (A : Option Addr) (a c : Nat), e = .returned (.agg #[.int .u8 k, .slice A a c, .int .i64 n]) ∧ Below w.heap.size w w'

set_option maxHeartbeats 4000000 in
theorem gadget_Bit_no (F : Int) (hF : ¬ (F = 1 ∨ F = 2)) (w : World) : Calls Tryz.prog 70 #[.int .u8 F] w (RetGX w) := by
  have H1 := Lib.hid (field_One_no F hF)
  have H2 := Lib.hid (field_Neg_no F hF 0 0)
  clear hF
  go_enter Tryz.func70, Tryz.ntmps70
  go_upto_region 1 with fail
  have hr := Vs.new w [.int .u8 0, .slice none 0 0, .int .i64 0] #[.int .u8 0, .slice none 0 0, .int .i64 0] 54 rfl
  have hb00 : Below w.heap.size w (w.alloc (.cells #[.int .u8 0, .slice none 0 0, .int .i64 0] 54)) := by repeat (first | exact Below.refl _ _ | with_reducible assumption | (refine bl_alloc ?_ (Nat.le_refl _) _) | (refine bl_set ?_ (by dsimp only; omega) _) | (refine Below.drew ?_) | (refine bl_drewN ?_ _) | (refine bl_call ?_ (Nat.le_refl _) (by assumption)))
  generalize w.alloc (.cells #[.int .u8 0, .slice none 0 0, .int .i64 0] 54) = w1 at hr hb00 ⊢
  obtain ⟨a0, a1, a2, a3, a4, a5, a6⟩ := hr.get3
  go_wp2_with (first
    | (go_at_call 49; refine (H1.out _).mono ?_; rintro e w2 ⟨rfl, hb2⟩; replace hr := hr.call hb2; replace hb00 := bl_call hb00 (Nat.le_refl _) hb2; obtain ⟨a0, a1, a2, a3, a4, a5, a6⟩ := hr.get3)
    | (go_at_call 104; refine (H2.out _).mono ?_; rintro e w2 ⟨rfl, hb2⟩; replace hr := hr.call hb2; replace hb00 := bl_call hb00 (Nat.le_refl _) hb2; obtain ⟨a0, a1, a2, a3, a4, a5, a6⟩ := hr.get3))
  have hne : w.heap.size < w2.heap.size := hr.lt
  have hrw := Vs.set3 hr (.int .u8 2) (.slice (some ⟨w2.heap.size, 0, none⟩) 3 3) (.int .i64 0)
  have hbw := bl_st3 hb00 (Nat.le_refl _) (.int .u8 2) (.slice (some ⟨w2.heap.size, 0, none⟩) 3 3) (.int .i64 0)
  have hsz : (((w2.setCell ⟨w.heap.size, 0, none⟩ (.int .u8 2)).setCell ⟨w.heap.size, 1, none⟩ (.slice (some ⟨w2.heap.size, 0, none⟩) 3 3)).setCell ⟨w.heap.size, 2, none⟩ (.int .i64 0)).heap.size = w2.heap.size := by simp [World.setCell]
  generalize ((w2.setCell ⟨w.heap.size, 0, none⟩ (.int .u8 2)).setCell ⟨w.heap.size, 1, none⟩ (.slice (some ⟨w2.heap.size, 0, none⟩) 3 3)).setCell ⟨w.heap.size, 2, none⟩ (.int .i64 0) = w4 at hrw hbw hsz ⊢
  refine bodyPost_ret (results_gadget (b := w.heap.size) (hrw.alloc _) rfl rfl) rfl ⟨_, _, _, _, _, rfl, by repeat (first | exact Below.refl _ _ | with_reducible assumption | (refine bl_alloc ?_ (Nat.le_refl _) _) | (refine bl_set ?_ (by dsimp only; omega) _) | (refine Below.drew ?_) | (refine bl_drewN ?_ _) | (refine bl_call ?_ (Nat.le_refl _) (by assumption)))⟩
theorem gadget_Bit_any (F : Int) (w : World) : Calls Tryz.prog 70 #[.int .u8 F] w (RetGX w) := by
  by_cases hF : F = 1 ∨ F = 2
  · rcases hF with rfl | rfl
    · exact (gadget_Bit2 (f := 1) ⟨.inl rfl⟩ w).mono fun e w' ⟨b, he, _, _, hb⟩ => ⟨_, _, _, _, _, he, hb⟩
    · exact (gadget_Bit2 (f := 2) ⟨.inr rfl⟩ w).mono fun e w' ⟨b, he, _, _, hb⟩ => ⟨_, _, _, _, _, he, hb⟩
  · exact gadget_Bit_no F hF w

set_option maxHeartbeats 4000000 in
theorem circuit_Gadget_any (K F B L M C : Int) (w : World) : Calls Tryz.prog 27 #[.agg #[.int .u8 K, .int .u8 F, .int .i64 B, .int .i64 L, .int .i64 M, .int .i64 C]] w (RetGX w) := by
  have HB := Lib.hid (gadget_Bit_any F)
  by_cases h2 : K = 2
  · subst h2
    go_enter Tryz.func27, Tryz.ntmps27
    go_upto_region 1 with fail
    have hx := (Vs.new w [.int .u8 2, .int .u8 F, .int .i64 B, .int .i64 L, .int .i64 M, .int .i64 C] #[.int .u8 2, .int .u8 F, .int .i64 B, .int .i64 L, .int .i64 M, .int .i64 C] 30 rfl).alloc (.cells #[.int .u8 0, .slice none 0 0, .int .i64 0] 54)
    have hr := Vs.new (w.alloc (.cells #[.int .u8 2, .int .u8 F, .int .i64 B, .int .i64 L, .int .i64 M, .int .i64 C] 30)) [.int .u8 0, .slice none 0 0, .int .i64 0] #[.int .u8 0, .slice none 0 0, .int .i64 0] 54 rfl
    simp only [World.size_alloc] at hr
    have hb00 : Below w.heap.size w ((w.alloc (.cells #[.int .u8 2, .int .u8 F, .int .i64 B, .int .i64 L, .int .i64 M, .int .i64 C] 30)).alloc (.cells #[.int .u8 0, .slice none 0 0, .int .i64 0] 54)) := by repeat (first | exact Below.refl _ _ | with_reducible assumption | (refine bl_alloc ?_ (Nat.le_refl _) _))
    have hszn : w.heap.size + 2 ≤ ((w.alloc (.cells #[.int .u8 2, .int .u8 F, .int .i64 B, .int .i64 L, .int .i64 M, .int .i64 C] 30)).alloc (.cells #[.int .u8 0, .slice none 0 0, .int .i64 0] 54)).heap.size := by simp only [World.size_alloc]; omega
    generalize ((w.alloc (.cells #[.int .u8 2, .int .u8 F, .int .i64 B, .int .i64 L, .int .i64 M, .int .i64 C] 30)).alloc (.cells #[.int .u8 0, .slice none 0 0, .int .i64 0] 54)) = w1 at hx hr hb00 hszn ⊢
    obtain ⟨⟨x0, x1, x2, x3, x4, x5⟩, ⟨x6, x7, x8, x9, x10, x11⟩, x12⟩ := hx.get6
    obtain ⟨r0, r1, r2, r3, r4, r5, r6⟩ := hr.get3
    go_wp2_with (go_at_call 70; refine (HB.out _).mono ?_; rintro e w2 ⟨k, n, A, a, c, rfl, hb2⟩; replace hr := hr.call hb2; replace hb00 := bl_call hb00 (Nat.le_refl _) hb2; clear x0 x1 x2 x3 x4 x5 x6 x7 x8 x9 x10 x11 x12 r0 r1 r2 r3 r4 r5 r6; obtain ⟨r0, r1, r2, r3, r4, r5, r6⟩ := hr.get3)
    have hS := Vs.set3 hr (.int .u8 k) (.slice A a c) (.int .i64 n)
    refine bodyPost_ret (results_gadget (b := w.heap.size + 1) hS rfl rfl) rfl ?_
    exact ⟨_, _, _, _, _, rfl, bl_st3 (b := w.heap.size + 1) hb00 (by omega) _ _ _⟩
  by_cases h1 : K = 1
  · subst h1
    clear h2 HB
    go_enter Tryz.func27, Tryz.ntmps27
    go_wp2
    refine bodyPost_ret (by simp [results, Tryz.results27, go_sem]; first | done | rfl) rfl ⟨1, 0, none, 0, 0, rfl, by repeat (first | exact Below.refl _ _ | with_reducible assumption | (refine bl_alloc ?_ (Nat.le_refl _) _) | (refine bl_set ?_ (by dsimp only; omega) _) | (refine Below.drew ?_) | (refine bl_drewN ?_ _) | (refine bl_call ?_ (Nat.le_refl _) (by assumption)))⟩
  by_cases h3 : K = 3
  · subst h3
    clear h2 h1 HB
    go_enter Tryz.func27, Tryz.ntmps27
    go_wp2
    refine bodyPost_ret (by simp [results, Tryz.results27, go_sem]; first | done | rfl) rfl ⟨3, C, none, 0, 0, rfl, by repeat (first | exact Below.refl _ _ | with_reducible assumption | (refine bl_alloc ?_ (Nat.le_refl _) _) | (refine bl_set ?_ (by dsimp only; omega) _) | (refine Below.drew ?_) | (refine bl_drewN ?_ _) | (refine bl_call ?_ (Nat.le_refl _) (by assumption)))⟩
  by_cases h4 : K = 4
  · subst h4
    clear h2 h1 h3 HB
    go_enter Tryz.func27, Tryz.ntmps27
    go_wp2
    refine bodyPost_ret (by simp [results, Tryz.results27, go_sem]; first | done | rfl) rfl ⟨3, C, none, 0, 0, rfl, by repeat (first | exact Below.refl _ _ | with_reducible assumption | (refine bl_alloc ?_ (Nat.le_refl _) _) | (refine bl_set ?_ (by dsimp only; omega) _) | (refine Below.drew ?_) | (refine bl_drewN ?_ _) | (refine bl_call ?_ (Nat.le_refl _) (by assumption)))⟩
  by_cases h5 : K = 5
  · subst h5
    clear h2 h1 h3 h4 HB
    go_enter Tryz.func27, Tryz.ntmps27
    go_wp2
    refine bodyPost_ret (by simp [results, Tryz.results27, go_sem]; first | done | rfl) rfl ⟨3, C, none, 0, 0, rfl, by repeat (first | exact Below.refl _ _ | with_reducible assumption | (refine bl_alloc ?_ (Nat.le_refl _) _) | (refine bl_set ?_ (by dsimp only; omega) _) | (refine Below.drew ?_) | (refine bl_drewN ?_ _) | (refine bl_call ?_ (Nat.le_refl _) (by assumption)))⟩
  have k1 : (K == 1) = false := by simpa using h1
  have k2 : (K == 2) = false := by simpa using h2
  have k3 : (K == 3) = false := by simpa using h3
  have k4 : (K == 4) = false := by simpa using h4
  have k5 : (K == 5) = false := by simpa using h5
  clear h1 h2 h3 h4 h5 HB
  go_enter Tryz.func27, Tryz.ntmps27
  go_wp2
  refine bodyPost_ret (by simp [results, Tryz.results27, go_sem]; first | done | rfl) rfl ⟨0, 0, none, 0, 0, rfl, by repeat (first | exact Below.refl _ _ | with_reducible assumption | (refine bl_alloc ?_ (Nat.le_refl _) _) | (refine bl_set ?_ (by dsimp only; omega) _) | (refine Below.drew ?_) | (refine bl_drewN ?_ _) | (refine bl_call ?_ (Nat.le_refl _) (by assumption)))⟩

section
variable (K F B L M C n : Int) (hn : ¬ n = 0) (HC : ∀ wz, Calls Tryz.prog 48 #[.agg #[.int .u8 K, .int .u8 F, .int .i64 B, .int .i64 L, .int .i64 M, .int .i64 C]] wz (RetC n wz))
include hn HC
set_option maxHeartbeats 2000000 in
theorem prove_no (vi vs vj : Value) (w : World) : Calls Tryz.prog 38 #[.agg #[.int .u8 K, .int .u8 F, .int .i64 B, .int .i64 L, .int .i64 M, .int .i64 C], vi, vs, vj] w (RetE9 n w) := by
  have HCK := Lib.hid HC
  have hn1 : (n == 0) = false := by simpa using hn
  have hn2 : (n != 0) = true := by simpa using hn
  clear HC hn
  go_enter Tryz.func38, Tryz.ntmps38
  go_upto_region 1 with fail
  have hx := Vs.new w [.int .u8 K, .int .u8 F, .int .i64 B, .int .i64 L, .int .i64 M, .int .i64 C] #[.int .u8 K, .int .u8 F, .int .i64 B, .int .i64 L, .int .i64 M, .int .i64 C] 30 rfl
  have hb00 : Below w.heap.size w (w.alloc (.cells #[.int .u8 K, .int .u8 F, .int .i64 B, .int .i64 L, .int .i64 M, .int .i64 C] 30)) := by repeat (first | exact Below.refl _ _ | with_reducible assumption | (refine bl_alloc ?_ (Nat.le_refl _) _))
  have hszn : w.heap.size + 1 ≤ (w.alloc (.cells #[.int .u8 K, .int .u8 F, .int .i64 B, .int .i64 L, .int .i64 M, .int .i64 C] 30)).heap.size := by simp only [World.size_alloc]; omega
  generalize (w.alloc (.cells #[.int .u8 K, .int .u8 F, .int .i64 B, .int .i64 L, .int .i64 M, .int .i64 C] 30)) = w1 at hx hb00 hszn ⊢
  obtain ⟨⟨x0, x1, x2, x3, x4, x5⟩, ⟨x6, x7, x8, x9, x10, x11⟩, x12⟩ := hx.get6
  go_wp2_with (first
    | (go_at_call 48; refine (HCK.out _).mono ?_; rintro e w2 ⟨rfl, hb2⟩; replace hb00 := bl_call hb00 (Nat.le_refl _) hb2; replace hx := hx.call hb2))
  go_ret2
  exact ⟨rfl, hb00⟩
set_option maxHeartbeats 2000000 in
theorem query_no (vi vp vj : Value) (x0 x1 sh : Int) (w : World) : Calls Tryz.prog 24 #[.agg #[.int .u8 K, .int .u8 F, .int .i64 B, .int .i64 L, .int .i64 M, .int .i64 C], vi, vp, vj, .agg #[.int .u64 x0, .int .u64 x1], .int .i64 sh] w (RetE9 n w) := by
  have HCK := Lib.hid HC
  have hn1 : (n == 0) = false := by simpa using hn
  have hn2 : (n != 0) = true := by simpa using hn
  clear HC hn
  go_enter Tryz.func24, Tryz.ntmps24
  go_upto_region 1 with fail
  have hx := (Vs.new w [.int .u8 K, .int .u8 F, .int .i64 B, .int .i64 L, .int .i64 M, .int .i64 C] #[.int .u8 K, .int .u8 F, .int .i64 B, .int .i64 L, .int .i64 M, .int .i64 C] 30 rfl).alloc (.cells #[.int .u64 x0, .int .u64 x1] 36)
  have hq := V2.new (w.alloc (.cells #[.int .u8 K, .int .u8 F, .int .i64 B, .int .i64 L, .int .i64 M, .int .i64 C] 30)) (.int .u64 x0) (.int .u64 x1) 36
  simp only [World.size_alloc] at hq
  have hb00 : Below w.heap.size w ((w.alloc (.cells #[.int .u8 K, .int .u8 F, .int .i64 B, .int .i64 L, .int .i64 M, .int .i64 C] 30)).alloc (.cells #[.int .u64 x0, .int .u64 x1] 36)) := by repeat (first | exact Below.refl _ _ | with_reducible assumption | (refine bl_alloc ?_ (Nat.le_refl _) _))
  have hszn : w.heap.size + 2 ≤ ((w.alloc (.cells #[.int .u8 K, .int .u8 F, .int .i64 B, .int .i64 L, .int .i64 M, .int .i64 C] 30)).alloc (.cells #[.int .u64 x0, .int .u64 x1] 36)).heap.size := by simp only [World.size_alloc]; omega
  generalize ((w.alloc (.cells #[.int .u8 K, .int .u8 F, .int .i64 B, .int .i64 L, .int .i64 M, .int .i64 C] 30)).alloc (.cells #[.int .u64 x0, .int .u64 x1] 36)) = w1 at hx hq hb00 hszn ⊢
  obtain ⟨⟨x0, x1, x2, x3, x4, x5⟩, ⟨x6, x7, x8, x9, x10, x11⟩, x12⟩ := hx.get6
  go_wp2_with (first
    | (go_at_call 48; refine (HCK.out _).mono ?_; rintro e w2 ⟨rfl, hb2⟩; replace hb00 := bl_call hb00 (Nat.le_refl _) hb2; replace hx := hx.call hb2))
  go_ret2
  exact ⟨rfl, hb00⟩
set_option maxHeartbeats 2000000 in
theorem decide_no (vl : Value) (w : World) : Calls Tryz.prog 36 #[.agg #[.int .u8 K, .int .u8 F, .int .i64 B, .int .i64 L, .int .i64 M, .int .i64 C], vl] w fun e w' => e = .returned (.tuple #[.bool false, .int .i64 n]) ∧ Below w.heap.size w w' := by
  have HCK := Lib.hid HC
  have hn1 : (n == 0) = false := by simpa using hn
  have hn2 : (n != 0) = true := by simpa using hn
  clear HC hn
  go_enter Tryz.func36, Tryz.ntmps36
  go_upto_region 1 with fail
  have hx := Vs.new w [.int .u8 K, .int .u8 F, .int .i64 B, .int .i64 L, .int .i64 M, .int .i64 C] #[.int .u8 K, .int .u8 F, .int .i64 B, .int .i64 L, .int .i64 M, .int .i64 C] 30 rfl
  have hb00 : Below w.heap.size w (w.alloc (.cells #[.int .u8 K, .int .u8 F, .int .i64 B, .int .i64 L, .int .i64 M, .int .i64 C] 30)) := by repeat (first | exact Below.refl _ _ | with_reducible assumption | (refine bl_alloc ?_ (Nat.le_refl _) _))
  have hszn : w.heap.size + 1 ≤ (w.alloc (.cells #[.int .u8 K, .int .u8 F, .int .i64 B, .int .i64 L, .int .i64 M, .int .i64 C] 30)).heap.size := by simp only [World.size_alloc]; omega
  generalize (w.alloc (.cells #[.int .u8 K, .int .u8 F, .int .i64 B, .int .i64 L, .int .i64 M, .int .i64 C] 30)) = w1 at hx hb00 hszn ⊢
  obtain ⟨⟨x0, x1, x2, x3, x4, x5⟩, ⟨x6, x7, x8, x9, x10, x11⟩, x12⟩ := hx.get6
  go_wp2_with (first
    | (go_at_call 48; refine (HCK.out _).mono ?_; rintro e w2 ⟨rfl, hb2⟩; replace hb00 := bl_call hb00 (Nat.le_refl _) hb2; replace hx := hx.call hb2))
  go_ret2
  exact ⟨rfl, hb00⟩
set_option maxHeartbeats 4000000 in
theorem direct_no (vi vj : Value) (w : World) : Calls Tryz.prog 18 #[.agg #[.int .u8 K, .int .u8 F, .int .i64 B, .int .i64 L, .int .i64 M, .int .i64 C], vi, vj] w (RetNoE n w) := by
  have HRN := Lib.hid (fun vi vj vs vc wz => circuit_Run_no ⟨K, F, B, L, M, C⟩ n hn HC vi vj vs vc wz)
  have HG := Lib.hid (fun wz => circuit_Gadget_any K F B L M C wz)
  have hmf : ∀ (fn : Fn) (first cap : Array Value) (w : World), (Instr.makeFunc fn first cap).run Tryz.prog w = .ok (.func fn first cap) w := fun _ _ _ _ => rfl
  clear HC hn
  unfold Raw.val at HRN
  dsimp only at HRN
  go_enter Tryz.func18, Tryz.ntmps18
  go_upto_region 1 with fail
  have hx := (Vs.new w [.int .u8 K, .int .u8 F, .int .i64 B, .int .i64 L, .int .i64 M, .int .i64 C] #[.int .u8 K, .int .u8 F, .int .i64 B, .int .i64 L, .int .i64 M, .int .i64 C] 30 rfl).alloc (.cells #[.int .u64 0, .int .u64 0] 36)
  have s0 := V2.new (w.alloc (.cells #[.int .u8 K, .int .u8 F, .int .i64 B, .int .i64 L, .int .i64 M, .int .i64 C] 30)) (.int .u64 0) (.int .u64 0) 36
  simp only [World.size_alloc] at s0
  have hb00 : Below w.heap.size w ((w.alloc (.cells #[.int .u8 K, .int .u8 F, .int .i64 B, .int .i64 L, .int .i64 M, .int .i64 C] 30)).alloc (.cells #[.int .u64 0, .int .u64 0] 36)) := by repeat (first | exact Below.refl _ _ | with_reducible assumption | (refine bl_alloc ?_ (Nat.le_refl _) _))
  have hszn : w.heap.size + 2 ≤ ((w.alloc (.cells #[.int .u8 K, .int .u8 F, .int .i64 B, .int .i64 L, .int .i64 M, .int .i64 C] 30)).alloc (.cells #[.int .u64 0, .int .u64 0] 36)).heap.size := by simp only [World.size_alloc]; omega
  generalize ((w.alloc (.cells #[.int .u8 K, .int .u8 F, .int .i64 B, .int .i64 L, .int .i64 M, .int .i64 C] 30)).alloc (.cells #[.int .u64 0, .int .u64 0] 36)) = w1 at hx s0 hb00 hszn ⊢
  obtain ⟨⟨x0, x1, x2, x3, x4, x5⟩, ⟨x6, x7, x8, x9, x10, x11⟩, x12⟩ := hx.get6
  go_upto_region 2 with (go_at_call 27; refine (HG.out _).mono ?_; rintro e w2 ⟨k9, n9, A9, a9, c9, rfl, hb2⟩)
  clear x0 x1 x2 x3 x4 x5 x6 x7 x8 x9 x10 x11 x12
  replace hb00 := bl_call hb00 (Nat.le_refl _) hb2
  replace hx := hx.call hb2
  replace s0 := s0.call hb2
  clear hb2
  have hg := Vs.new w2 [.int .u8 k9, .slice A9 a9 c9, .int .i64 n9] #[.int .u8 k9, .slice A9 a9 c9, .int .i64 n9] 54 rfl
  have hbA : Below w2.heap.size w2 (w2.alloc (.cells #[.int .u8 k9, .slice A9 a9 c9, .int .i64 n9] 54)) := by repeat (first | exact Below.refl _ _ | with_reducible assumption | (refine bl_alloc ?_ (Nat.le_refl _) _))
  replace hb00 := bl_call hb00 (Nat.le_refl _) hbA
  replace hx := hx.call hbA
  replace s0 := s0.call hbA
  clear hbA
  generalize w2.alloc (.cells #[.int .u8 k9, .slice A9 a9 c9, .int .i64 n9] 54) = w3 at hb00 hx s0 hg ⊢
  obtain ⟨⟨x0, x1, x2, x3, x4, x5⟩, ⟨x6, x7, x8, x9, x10, x11⟩, x12⟩ := hx.get6
  go_wp2_with (go_at_call 32; refine (HRN.out _ _ _ _ _).mono ?_; rintro e w4 ⟨rfl, hb4⟩; have HB4 := Lib.hid hb4; obtain ⟨t0, t1, t2, t3, t4⟩ := s0.call hb4; clear hb4)
  refine bodyPost_ret (results_v2_tmp (b := w.heap.size + 1) (u := .int .u64 0) (v := .int .u64 0) ?_ rfl rfl) rfl ?_
  · exact V2.set ⟨t0, t1, t2, t3, t4⟩ _ _
  · exact ⟨rfl, bl_st (bl_call hb00 (Nat.le_refl _) HB4.out) (by omega) _ _⟩
end

end Go.Proofs.YtfbfbijkkbflkaaGreatDoor

namespace Go.Proofs.YtfbfbijkkbflkaaGreatDoor
open Go.RowKit Fm
set_option linter.unusedVariables false
set_option maxRecDepth 100000

theorem run_append_fullK {w : World} (g n k : Nat) (zs ys : List E) (hz : zs.length = n) (hy : ys.length = k) (hk : 1 ≤ k) (hn : n + k ≤ 1099511627776) (hg : RowE w g 0 zs) (b c : Nat) (hb : RowE w b 0 ys) (ty : TypeId) :
    ∃ cp w', (Builtin.append_ #[24, 24] ty #[.slice (some ⟨g, 0, none⟩) n n, .slice (some ⟨b, 0, none⟩) k c]).run Tryz.prog w = .ok (.slice (some ⟨w.heap.size, 0, none⟩) (n + k) cp) w' ∧ Below w.heap.size w w' := by
  obtain ⟨i, hi, hz2, h1, h2⟩ := info_parts info_elem
  have hr := run_append_grow (P := Tryz.prog) w 24 ty 36 i _ Tryz.underlying24 hi hz2 ⟨g, 0, none⟩ n n (cellsE zs) (by rw [length_cellsE, hz, h1]) hg.cells ⟨b, 0, none⟩ k c (cellsE ys) (by rw [length_cellsE, hy, h1]) hb.cells
    (by omega) (by omega) (growslice_fits (by omega) (by rw [h2]; omega))
  exact ⟨_, _, hr, undrew ((Below.refl _ _).alloc (Nat.le_refl _) _)⟩

section
variable {f : Nat} (hf : IsF f) (y : CK) (hy : y.ok) (hcl : y.calls ≤ 511)
include hf hy hcl

set_option maxHeartbeats 4000000 in
theorem prove_size (vi vj : Value) (A : Option Addr) (n c : Nat) (hn : n ≠ y.arity) (w : World) : Calls Tryz.prog 38 #[y.val f, vi, .slice A n c, vj] w (RetE9 9 w) := by
  have HCHK : Hid (∀ wz, Calls Tryz.prog 48 #[y.val f] wz (RetC 0 wz)) := fun wz => by
    have h := circuit_Check_ok hf y hy wz
    rwa [CK.code_ok (by omega)] at h
  have HGAD : Hid (∀ wz, Calls Tryz.prog 27 #[y.val f] wz (RetG2 (y.gad f) wz)) := fun wz => circuit_Gadget2 hf y hy wz
  have hga := gad_arity f y
  have HARI : Hid (∀ wz (B : Nat) (k : Int) (sl : Value) (n : Int), RepG wz B k sl n (y.gad f) → Calls Tryz.prog 28 #[.agg #[.int .u8 k, sl, .int .i64 n]] wz fun e w' => e = .returned (.int .i64 (y.arity : Nat)) ∧ Below wz.heap.size wz w') := fun wz B k sl n h => by
    have h2 := gadget_Arity wz B (y.gad f) k sl n h
    rwa [hga] at h2
  have hne : ((n : Int) == (y.arity : Int)) = false := by simp; omega
  have hne2 : ((n : Int) != (y.arity : Int)) = true := by simp; omega
  clear hga
  unfold CK.val at HCHK HGAD ⊢
  generalize y.gad f = gd at *
  generalize y.arity = ar at *
  generalize ((y.k : Nat) : Int) = K at *
  generalize ((y.b : Nat) : Int) = B at *
  generalize ((y.l : Nat) : Int) = NN at *
  generalize ((y.m : Nat) : Int) = M at *
  generalize ((y.c : Nat) : Int) = C at *
  clear hy hcl hn
  go_enter Tryz.func38, Tryz.ntmps38
  go_upto_region 1 with fail
  have hyy := Vs.new w [.int .u8 K, .int .u8 f, .int .i64 B, .int .i64 NN, .int .i64 M, .int .i64 C] #[.int .u8 K, .int .u8 f, .int .i64 B, .int .i64 NN, .int .i64 M, .int .i64 C] 30 rfl
  have hb00 : Below w.heap.size w (w.alloc (.cells #[.int .u8 K, .int .u8 f, .int .i64 B, .int .i64 NN, .int .i64 M, .int .i64 C] 30)) := by repeat (first | exact Below.refl _ _ | with_reducible assumption | (refine bl_alloc ?_ (Nat.le_refl _) _))
  have hszn : w.heap.size + 1 ≤ (w.alloc (.cells #[.int .u8 K, .int .u8 f, .int .i64 B, .int .i64 NN, .int .i64 M, .int .i64 C] 30)).heap.size := by simp only [World.size_alloc]; omega
  generalize (w.alloc (.cells #[.int .u8 K, .int .u8 f, .int .i64 B, .int .i64 NN, .int .i64 M, .int .i64 C] 30)) = w1 at hyy hb00 hszn ⊢
  obtain ⟨⟨yy0, yy1, yy2, yy3, yy4, yy5⟩, ⟨yy6, yy7, yy8, yy9, yy10, yy11⟩, yy12⟩ := hyy.get6
  go_upto_region 2 with (go_at_call 48; refine (HCHK.out _).mono ?_; rintro e w2 ⟨rfl, hb2⟩)
  clear yy0 yy1 yy2 yy3 yy4 yy5 yy6 yy7 yy8 yy9 yy10 yy11 yy12
  replace hb00 := bl_call hb00 (Nat.le_refl _) hb2
  replace hyy := hyy.call hb2
  clear hb2
  obtain ⟨⟨yy0, yy1, yy2, yy3, yy4, yy5⟩, ⟨yy6, yy7, yy8, yy9, yy10, yy11⟩, yy12⟩ := hyy.get6
  go_upto_region 5 with (go_at_call 27; refine (HGAD.out _).mono ?_; rintro e w3 ⟨kd, sl, nn, rfl, hR3, hb3, hSL3⟩; obtain ⟨A2, a2, c2, rfl⟩ := RepG.sl hR3)
  clear yy0 yy1 yy2 yy3 yy4 yy5 yy6 yy7 yy8 yy9 yy10 yy11 yy12
  replace hb00 := bl_call hb00 (Nat.le_refl _) hb3
  replace hyy := hyy.call hb3
  clear hb3
  have hgg := Vs.new w3 [.int .u8 kd, .slice A2 a2 c2, .int .i64 nn] #[.int .u8 kd, .slice A2 a2 c2, .int .i64 nn] 54 rfl
  have hbA : Below w3.heap.size w3 (w3.alloc (.cells #[.int .u8 kd, .slice A2 a2 c2, .int .i64 nn] 54)) := (Below.refl _ _).alloc (Nat.le_refl _) _
  replace hb00 := bl_call hb00 (Nat.le_refl _) hbA
  replace hyy := hyy.call hbA
  have hR4 := hR3.later hbA
  generalize w3.alloc (.cells #[.int .u8 kd, .slice A2 a2 c2, .int .i64 nn] 54) = w4 at *
  clear hbA hR3
  obtain ⟨gg0, gg1, gg2, gg3, gg4, gg5, gg6⟩ := hgg.get3
  go_wp2_with (go_at_call 28; refine (HARI.out _ _ _ _ _ hR4).mono ?_; rintro e w5 ⟨rfl, hb5⟩)
  replace hb00 := bl_call hb00 (Nat.le_refl _) hb5
  replace hyy := hyy.call hb5
  go_ret2
  exact ⟨rfl, hb00⟩

set_option maxHeartbeats 4000000 in
theorem query_size (vi vj : Value) (A : Option Addr) (n c : Nat) (hn : n ≠ y.proof) (x0 x1 sh : Int) (w : World) : Calls Tryz.prog 24 #[y.val f, vi, .slice A n c, vj, .agg #[.int .u64 x0, .int .u64 x1], .int .i64 sh] w (RetE9 9 w) := by
  have HCHK : Hid (∀ wz, Calls Tryz.prog 48 #[y.val f] wz (RetC 0 wz)) := fun wz => by
    have h := circuit_Check_ok hf y hy wz
    rwa [CK.code_ok (by omega)] at h
  have HGAD : Hid (∀ wz, Calls Tryz.prog 27 #[y.val f] wz (RetG2 (y.gad f) wz)) := fun wz => circuit_Gadget2 hf y hy wz
  have HPRF : Hid (∀ wz, Calls Tryz.prog 21 #[y.val f] wz (RetI y.proof wz)) := fun wz => circuit_Proof hf y hy hcl wz
  have hfb0 : (1 : Int) ≤ (f : Int) := by rcases hf.or with rfl | rfl <;> omega
  have hfb1 : (f : Int) ≤ 2 := by rcases hf.or with rfl | rfl <;> omega
  have hne : ((n : Int) == (y.proof : Int)) = false := by simp; omega
  have hne2 : ((n : Int) != (y.proof : Int)) = true := by simp; omega
  unfold CK.val at HCHK HGAD HPRF ⊢
  generalize y.gad f = gd at *
  generalize y.proof = tot at *
  generalize ((y.k : Nat) : Int) = K at *
  generalize ((y.b : Nat) : Int) = B at *
  generalize ((y.l : Nat) : Int) = NN at *
  generalize ((y.m : Nat) : Int) = M at *
  generalize ((y.c : Nat) : Int) = C at *
  clear hy hcl hn
  go_enter Tryz.func24, Tryz.ntmps24
  go_upto_region 1 with fail
  have hyy := (Vs.new w [.int .u8 K, .int .u8 f, .int .i64 B, .int .i64 NN, .int .i64 M, .int .i64 C] #[.int .u8 K, .int .u8 f, .int .i64 B, .int .i64 NN, .int .i64 M, .int .i64 C] 30 rfl).alloc (.cells #[.int .u64 x0, .int .u64 x1] 36)
  have hqq := V2.new (w.alloc (.cells #[.int .u8 K, .int .u8 f, .int .i64 B, .int .i64 NN, .int .i64 M, .int .i64 C] 30)) (.int .u64 x0) (.int .u64 x1) 36
  simp only [World.size_alloc] at hqq
  have hb00 : Below w.heap.size w ((w.alloc (.cells #[.int .u8 K, .int .u8 f, .int .i64 B, .int .i64 NN, .int .i64 M, .int .i64 C] 30)).alloc (.cells #[.int .u64 x0, .int .u64 x1] 36)) := by repeat (first | exact Below.refl _ _ | with_reducible assumption | (refine bl_alloc ?_ (Nat.le_refl _) _))
  have hszn : w.heap.size + 2 ≤ ((w.alloc (.cells #[.int .u8 K, .int .u8 f, .int .i64 B, .int .i64 NN, .int .i64 M, .int .i64 C] 30)).alloc (.cells #[.int .u64 x0, .int .u64 x1] 36)).heap.size := by simp only [World.size_alloc]; omega
  generalize ((w.alloc (.cells #[.int .u8 K, .int .u8 f, .int .i64 B, .int .i64 NN, .int .i64 M, .int .i64 C] 30)).alloc (.cells #[.int .u64 x0, .int .u64 x1] 36)) = w1 at hyy hqq hb00 hszn ⊢
  obtain ⟨⟨yy0, yy1, yy2, yy3, yy4, yy5⟩, ⟨yy6, yy7, yy8, yy9, yy10, yy11⟩, yy12⟩ := hyy.get6
  go_upto_region 2 with (go_at_call 48; refine (HCHK.out _).mono ?_; rintro e w2 ⟨rfl, hb2⟩)
  clear yy0 yy1 yy2 yy3 yy4 yy5 yy6 yy7 yy8 yy9 yy10 yy11 yy12
  replace hb00 := bl_call hb00 (Nat.le_refl _) hb2
  replace hyy := hyy.call hb2
  clear hb2
  go_upto_region 4 with fail
  have HYY := Lib.hid hyy
  have HB2 := Lib.hid hb00
  clear hyy
  apply region_Z3 (n := 6) (m := 8) (f := 6) (fun x0 x1 x2 => (QyK w2 gd) (some x0) (some x1) (some x2) ) ((QyT w2 gd) none none none) ((QyK w2 gd) none none none) ((fun _ h => h.t)) (QyK.clo) ((QyK.start w2 gd))
  case hm => kernel_rfl
  case hB => kernel_rfl
  case hf => rfl
  case' h =>
    refine WpX.takeD 0 (some 36) (v := ?_) rfl rfl (by kernel_rfl) (fun _ _ _ h => h) (.val rfl (fun wz hwz => ?_)) ?_
    rotate_left
    · go_simp; try (with_reducible rfl)
    simp only [Act.put, List.setIfInBounds_toArray, List.set_cons_succ, List.set_cons_zero]
    refine WpX.takeD 1 (some 37) (v := ?_) rfl rfl (by kernel_rfl) (fun _ _ _ h => h) (.val rfl (fun wz hwz => ?_)) ?_
    rotate_left
    · (have hz := (HYY.out.call hwz).get6; obtain ⟨⟨z0, z1, z2, z3, z4, z5⟩, ⟨y0, y1, y2, y3, y4, y5⟩, y6⟩ := hz; go_simp; try (with_reducible rfl))
    simp only [Act.put, List.setIfInBounds_toArray, List.set_cons_succ, List.set_cons_zero]
    refine WpX.takeD 2 (some 38) (v := ?_) rfl rfl (by kernel_rfl) (fun _ _ _ h => h) (.val rfl (fun wz hwz => ?_)) ?_
    rotate_left
    · (have hz := (HYY.out.call hwz).get6; obtain ⟨⟨z0, z1, z2, z3, z4, z5⟩, ⟨y0, y1, y2, y3, y4, y5⟩, y6⟩ := hz; go_simp; try (with_reducible rfl))
    simp only [Act.put, List.setIfInBounds_toArray, List.set_cons_succ, List.set_cons_zero]
    refine WpX.threeD 3 4 5 (some 39) (some 15) (some 16) rfl rfl rfl rfl rfl rfl (by kernel_rfl) (fun q : Int × Value × Int => Value.agg #[.int .u8 q.1, q.2.1, .int .i64 q.2.2]) (fun gq => (QyT w2 gd) (some gq) none none) (fun gq => (QyK w2 gd) (some gq) none none) (Turns.call rfl (fun _ _ h => h) (fun _ => (fun _ h => h.t)) (fun _ => QyK.clo) (fun wz hS => (HGAD.out wz).mono fun e w' ⟨k, sl, n, he, hr, hb, hn⟩ => ⟨(k, sl, n), he, hS.mk1 (k, sl, n) hr hb hn⟩) (fun wz hS => by go_simp; try (with_reducible rfl))) (fun b : Nat => Value.pointer (some ⟨b, 0, none⟩)) (fun fb => (QyT w2 gd) none (some fb) none) (fun fb => (QyK w2 gd) none (some fb) none) (Turns.val rfl (fun _ _ h => h) (fun _ => (fun _ h => h.t)) (fun _ => QyK.clo) (fun wz hS => ⟨wz.heap.size, wz.alloc (.cells #[.int .u8 0] 28), by go_simp; try (with_reducible rfl), hS.mk2⟩)) (fun b : Nat => Value.pointer (some ⟨b, 0, none⟩)) (fun gb => (QyT w2 gd) none none (some gb)) (fun gb => (QyK w2 gd) none none (some gb)) (Turns.val rfl (fun _ _ h => h) (fun _ => (fun _ h => h.t)) (fun _ => QyK.clo) (fun wz hS => ⟨wz.heap.size, wz.alloc (.cells #[.int .u8 0, .slice none 0 0, .int .i64 0] 54), by go_simp; try (with_reducible rfl), hS.mk3⟩)) (fun gq => ?rz4_9a) (fun fb => ?rz4_9b) (fun gb => ?rz4_9c)
    case' rz4_9a =>
      simp only [Act.put, List.setIfInBounds_toArray, List.set_cons_succ, List.set_cons_zero]
      refine WpX.twoD 4 5 (some 15) (some 16) rfl rfl rfl rfl (by kernel_rfl) (fun b : Nat => Value.pointer (some ⟨b, 0, none⟩)) (fun fb => (QyT w2 gd) (some gq) (some fb) none) (fun fb => (QyK w2 gd) (some gq) (some fb) none) (Turns.val rfl (fun _ _ h => h) (fun _ => (fun _ h => h.t)) (fun _ => QyK.clo) (fun wz hS => ⟨wz.heap.size, wz.alloc (.cells #[.int .u8 0] 28), by go_simp; try (with_reducible rfl), hS.mk2⟩)) (fun b : Nat => Value.pointer (some ⟨b, 0, none⟩)) (fun gb => (QyT w2 gd) (some gq) none (some gb)) (fun gb => (QyK w2 gd) (some gq) none (some gb)) (Turns.val rfl (fun _ _ h => h) (fun _ => (fun _ h => h.t)) (fun _ => QyK.clo) (fun wz hS => ⟨wz.heap.size, wz.alloc (.cells #[.int .u8 0, .slice none 0 0, .int .i64 0] 54), by go_simp; try (with_reducible rfl), hS.mk3⟩)) (fun fb => ?rz4_10a) (fun gb => ?rz4_10b)
      case' rz4_10a =>
        simp only [Act.put, List.setIfInBounds_toArray, List.set_cons_succ, List.set_cons_zero]
        refine WpX.oneD 5 (some 16) rfl rfl (by kernel_rfl) (fun b : Nat => Value.pointer (some ⟨b, 0, none⟩)) (fun gb => (QyT w2 gd) (some gq) (some fb) (some gb)) (fun gb => (QyK w2 gd) (some gq) (some fb) (some gb)) (Turns.val rfl (fun _ _ h => h) (fun _ => (fun _ h => h.t)) (fun _ => QyK.clo) (fun wz hS => ⟨wz.heap.size, wz.alloc (.cells #[.int .u8 0, .slice none 0 0, .int .i64 0] 54), by go_simp; try (with_reducible rfl), hS.mk3⟩)) (fun gb => ?_)
        simp only [Act.put, List.setIfInBounds_toArray, List.set_cons_succ, List.set_cons_zero]
        refine WpX.done (by kernel_rfl) (fun w5 hS => ⟨gq, fb, gb, rfl, ?_⟩)
        · exact hS
      case' rz4_10b =>
        simp only [Act.put, List.setIfInBounds_toArray, List.set_cons_succ, List.set_cons_zero]
        refine WpX.oneD 4 (some 15) rfl rfl (by kernel_rfl) (fun b : Nat => Value.pointer (some ⟨b, 0, none⟩)) (fun fb => (QyT w2 gd) (some gq) (some fb) (some gb)) (fun fb => (QyK w2 gd) (some gq) (some fb) (some gb)) (Turns.val rfl (fun _ _ h => h) (fun _ => (fun _ h => h.t)) (fun _ => QyK.clo) (fun wz hS => ⟨wz.heap.size, wz.alloc (.cells #[.int .u8 0] 28), by go_simp; try (with_reducible rfl), hS.mk2⟩)) (fun fb => ?_)
        simp only [Act.put, List.setIfInBounds_toArray, List.set_cons_succ, List.set_cons_zero]
        refine WpX.done (by kernel_rfl) (fun w5 hS => ⟨gq, fb, gb, rfl, ?_⟩)
        · exact hS
    case' rz4_9b =>
      simp only [Act.put, List.setIfInBounds_toArray, List.set_cons_succ, List.set_cons_zero]
      refine WpX.twoD 3 5 (some 39) (some 16) rfl rfl rfl rfl (by kernel_rfl) (fun q : Int × Value × Int => Value.agg #[.int .u8 q.1, q.2.1, .int .i64 q.2.2]) (fun gq => (QyT w2 gd) (some gq) (some fb) none) (fun gq => (QyK w2 gd) (some gq) (some fb) none) (Turns.call rfl (fun _ _ h => h) (fun _ => (fun _ h => h.t)) (fun _ => QyK.clo) (fun wz hS => (HGAD.out wz).mono fun e w' ⟨k, sl, n, he, hr, hb, hn⟩ => ⟨(k, sl, n), he, hS.mk1 (k, sl, n) hr hb hn⟩) (fun wz hS => by go_simp; try (with_reducible rfl))) (fun b : Nat => Value.pointer (some ⟨b, 0, none⟩)) (fun gb => (QyT w2 gd) none (some fb) (some gb)) (fun gb => (QyK w2 gd) none (some fb) (some gb)) (Turns.val rfl (fun _ _ h => h) (fun _ => (fun _ h => h.t)) (fun _ => QyK.clo) (fun wz hS => ⟨wz.heap.size, wz.alloc (.cells #[.int .u8 0, .slice none 0 0, .int .i64 0] 54), by go_simp; try (with_reducible rfl), hS.mk3⟩)) (fun gq => ?rz4_11a) (fun gb => ?rz4_11b)
      case' rz4_11a =>
        simp only [Act.put, List.setIfInBounds_toArray, List.set_cons_succ, List.set_cons_zero]
        refine WpX.oneD 5 (some 16) rfl rfl (by kernel_rfl) (fun b : Nat => Value.pointer (some ⟨b, 0, none⟩)) (fun gb => (QyT w2 gd) (some gq) (some fb) (some gb)) (fun gb => (QyK w2 gd) (some gq) (some fb) (some gb)) (Turns.val rfl (fun _ _ h => h) (fun _ => (fun _ h => h.t)) (fun _ => QyK.clo) (fun wz hS => ⟨wz.heap.size, wz.alloc (.cells #[.int .u8 0, .slice none 0 0, .int .i64 0] 54), by go_simp; try (with_reducible rfl), hS.mk3⟩)) (fun gb => ?_)
        simp only [Act.put, List.setIfInBounds_toArray, List.set_cons_succ, List.set_cons_zero]
        refine WpX.done (by kernel_rfl) (fun w5 hS => ⟨gq, fb, gb, rfl, ?_⟩)
        · exact hS
      case' rz4_11b =>
        simp only [Act.put, List.setIfInBounds_toArray, List.set_cons_succ, List.set_cons_zero]
        refine WpX.oneD 3 (some 39) rfl rfl (by kernel_rfl) (fun q : Int × Value × Int => Value.agg #[.int .u8 q.1, q.2.1, .int .i64 q.2.2]) (fun gq => (QyT w2 gd) (some gq) (some fb) (some gb)) (fun gq => (QyK w2 gd) (some gq) (some fb) (some gb)) (Turns.call rfl (fun _ _ h => h) (fun _ => (fun _ h => h.t)) (fun _ => QyK.clo) (fun wz hS => (HGAD.out wz).mono fun e w' ⟨k, sl, n, he, hr, hb, hn⟩ => ⟨(k, sl, n), he, hS.mk1 (k, sl, n) hr hb hn⟩) (fun wz hS => by go_simp; try (with_reducible rfl))) (fun gq => ?_)
        simp only [Act.put, List.setIfInBounds_toArray, List.set_cons_succ, List.set_cons_zero]
        refine WpX.done (by kernel_rfl) (fun w5 hS => ⟨gq, fb, gb, rfl, ?_⟩)
        · exact hS
    case' rz4_9c =>
      simp only [Act.put, List.setIfInBounds_toArray, List.set_cons_succ, List.set_cons_zero]
      refine WpX.twoD 3 4 (some 39) (some 15) rfl rfl rfl rfl (by kernel_rfl) (fun q : Int × Value × Int => Value.agg #[.int .u8 q.1, q.2.1, .int .i64 q.2.2]) (fun gq => (QyT w2 gd) (some gq) none (some gb)) (fun gq => (QyK w2 gd) (some gq) none (some gb)) (Turns.call rfl (fun _ _ h => h) (fun _ => (fun _ h => h.t)) (fun _ => QyK.clo) (fun wz hS => (HGAD.out wz).mono fun e w' ⟨k, sl, n, he, hr, hb, hn⟩ => ⟨(k, sl, n), he, hS.mk1 (k, sl, n) hr hb hn⟩) (fun wz hS => by go_simp; try (with_reducible rfl))) (fun b : Nat => Value.pointer (some ⟨b, 0, none⟩)) (fun fb => (QyT w2 gd) none (some fb) (some gb)) (fun fb => (QyK w2 gd) none (some fb) (some gb)) (Turns.val rfl (fun _ _ h => h) (fun _ => (fun _ h => h.t)) (fun _ => QyK.clo) (fun wz hS => ⟨wz.heap.size, wz.alloc (.cells #[.int .u8 0] 28), by go_simp; try (with_reducible rfl), hS.mk2⟩)) (fun gq => ?rz4_12a) (fun fb => ?rz4_12b)
      case' rz4_12a =>
        simp only [Act.put, List.setIfInBounds_toArray, List.set_cons_succ, List.set_cons_zero]
        refine WpX.oneD 4 (some 15) rfl rfl (by kernel_rfl) (fun b : Nat => Value.pointer (some ⟨b, 0, none⟩)) (fun fb => (QyT w2 gd) (some gq) (some fb) (some gb)) (fun fb => (QyK w2 gd) (some gq) (some fb) (some gb)) (Turns.val rfl (fun _ _ h => h) (fun _ => (fun _ h => h.t)) (fun _ => QyK.clo) (fun wz hS => ⟨wz.heap.size, wz.alloc (.cells #[.int .u8 0] 28), by go_simp; try (with_reducible rfl), hS.mk2⟩)) (fun fb => ?_)
        simp only [Act.put, List.setIfInBounds_toArray, List.set_cons_succ, List.set_cons_zero]
        refine WpX.done (by kernel_rfl) (fun w5 hS => ⟨gq, fb, gb, rfl, ?_⟩)
        · exact hS
      case' rz4_12b =>
        simp only [Act.put, List.setIfInBounds_toArray, List.set_cons_succ, List.set_cons_zero]
        refine WpX.oneD 3 (some 39) rfl rfl (by kernel_rfl) (fun q : Int × Value × Int => Value.agg #[.int .u8 q.1, q.2.1, .int .i64 q.2.2]) (fun gq => (QyT w2 gd) (some gq) (some fb) (some gb)) (fun gq => (QyK w2 gd) (some gq) (some fb) (some gb)) (Turns.call rfl (fun _ _ h => h) (fun _ => (fun _ h => h.t)) (fun _ => QyK.clo) (fun wz hS => (HGAD.out wz).mono fun e w' ⟨k, sl, n, he, hr, hb, hn⟩ => ⟨(k, sl, n), he, hS.mk1 (k, sl, n) hr hb hn⟩) (fun wz hS => by go_simp; try (with_reducible rfl))) (fun gq => ?_)
        simp only [Act.put, List.setIfInBounds_toArray, List.set_cons_succ, List.set_cons_zero]
        refine WpX.done (by kernel_rfl) (fun w5 hS => ⟨gq, fb, gb, rfl, ?_⟩)
        · exact hS
  intro gq fb gb w5 hS
  (try simp only [List.drop_succ_cons]); (try simp only [List.drop_zero]); (try simp only [Nat.reduceSub]); (try simp only [List.take_succ_cons]); (try simp only [List.take_zero])
  obtain ⟨kd, sl, nn⟩ := gq
  have hR5 := hS.a (kd, sl, nn) rfl
  dsimp only at hR5 ⊢
  obtain ⟨A2, a2, c2, rfl⟩ := RepG.sl hR5
  obtain ⟨hfb, hff⟩ := hS.b fb rfl
  obtain ⟨hgb, hgg⟩ := hS.c gb rfl
  have hb5 := hS.t
  have hd3 := hS.d3 fb gb rfl rfl
  clear hS
  obtain ⟨ff0, ff1, ff2⟩ := hff.get1
  obtain ⟨gg0, gg1, gg2, gg3, gg4, gg5, gg6⟩ := hgg.get3
  go_upto_region 5 with fail
  clear ff0 ff1 ff2 gg0 gg1 gg2 gg3 gg4 gg5 gg6
  have hb26 : Below w2.heap.size w2 ((((w5.setCell ⟨fb, 0, none⟩ (.int .u8 f)).setCell ⟨gb, 0, none⟩ (.int .u8 kd)).setCell ⟨gb, 1, none⟩ (.slice A2 a2 c2)).setCell ⟨gb, 2, none⟩ (.int .i64 nn)) := bl_st3 (bl_set hb5 hfb _) hgb _ _ _
  generalize ((((w5.setCell ⟨fb, 0, none⟩ (.int .u8 f)).setCell ⟨gb, 0, none⟩ (.int .u8 kd)).setCell ⟨gb, 1, none⟩ (.slice A2 a2 c2)).setCell ⟨gb, 2, none⟩ (.int .i64 nn)) = w6 at *
  clear hff hgg hR5 hb5
  have hyy := HYY.out.call hb26
  have hb00 := bl_call HB2.out (Nat.le_refl _) hb26
  obtain ⟨⟨yy0, yy1, yy2, yy3, yy4, yy5⟩, ⟨yy6, yy7, yy8, yy9, yy10, yy11⟩, yy12⟩ := hyy.get6
  go_wp2_with (go_at_call 21; refine (HPRF.out _).mono ?_; rintro e w7 ⟨rfl, hb7⟩)
  replace hb00 := bl_call hb00 (Nat.le_refl _) hb7
  replace hyy := hyy.call hb7
  go_ret2
  exact ⟨rfl, hb00⟩

set_option maxHeartbeats 4000000 in
theorem decide_size (A : Option Addr) (n c : Nat) (hn : n ≠ y.arity + 2) (w : World) : Calls Tryz.prog 36 #[y.val f, .slice A n c] w fun e w' => e = .returned (.tuple #[.bool false, .int .i64 9]) ∧ Below w.heap.size w w' := by
  have HCHK : Hid (∀ wz, Calls Tryz.prog 48 #[y.val f] wz (RetC 0 wz)) := fun wz => by
    have h := circuit_Check_ok hf y hy wz
    rwa [CK.code_ok (by omega)] at h
  have HVER : Hid (∀ wz, Calls Tryz.prog 43 #[y.val f] wz (RetI (y.arity + 2) wz)) := fun wz => circuit_Verifier hf y hy wz
  generalize y.arity + 2 = ver at *
  have hne : ((n : Int) == (ver : Int)) = false := by simp; omega
  have hne2 : ((n : Int) != (ver : Int)) = true := by simp; omega
  unfold CK.val at HCHK HVER ⊢
  generalize ((y.k : Nat) : Int) = K at *
  generalize ((y.b : Nat) : Int) = B at *
  generalize ((y.l : Nat) : Int) = NN at *
  generalize ((y.m : Nat) : Int) = M at *
  generalize ((y.c : Nat) : Int) = C at *
  clear hy hcl hn
  go_enter Tryz.func36, Tryz.ntmps36
  go_upto_region 1 with fail
  have hyy := Vs.new w [.int .u8 K, .int .u8 f, .int .i64 B, .int .i64 NN, .int .i64 M, .int .i64 C] #[.int .u8 K, .int .u8 f, .int .i64 B, .int .i64 NN, .int .i64 M, .int .i64 C] 30 rfl
  have hb00 : Below w.heap.size w (w.alloc (.cells #[.int .u8 K, .int .u8 f, .int .i64 B, .int .i64 NN, .int .i64 M, .int .i64 C] 30)) := by repeat (first | exact Below.refl _ _ | with_reducible assumption | (refine bl_alloc ?_ (Nat.le_refl _) _))
  have hszn : w.heap.size + 1 ≤ (w.alloc (.cells #[.int .u8 K, .int .u8 f, .int .i64 B, .int .i64 NN, .int .i64 M, .int .i64 C] 30)).heap.size := by simp only [World.size_alloc]; omega
  generalize (w.alloc (.cells #[.int .u8 K, .int .u8 f, .int .i64 B, .int .i64 NN, .int .i64 M, .int .i64 C] 30)) = w1 at hyy hb00 hszn ⊢
  obtain ⟨⟨yy0, yy1, yy2, yy3, yy4, yy5⟩, ⟨yy6, yy7, yy8, yy9, yy10, yy11⟩, yy12⟩ := hyy.get6
  go_upto_region 2 with (go_at_call 48; refine (HCHK.out _).mono ?_; rintro e w2 ⟨rfl, hb2⟩)
  clear yy0 yy1 yy2 yy3 yy4 yy5 yy6 yy7 yy8 yy9 yy10 yy11 yy12
  replace hb00 := bl_call hb00 (Nat.le_refl _) hb2
  replace hyy := hyy.call hb2
  clear hb2
  obtain ⟨⟨yy0, yy1, yy2, yy3, yy4, yy5⟩, ⟨yy6, yy7, yy8, yy9, yy10, yy11⟩, yy12⟩ := hyy.get6
  go_wp2_with (go_at_call 43; refine (HVER.out _).mono ?_; rintro e w3 ⟨rfl, hb3⟩)
  replace hb00 := bl_call hb00 (Nat.le_refl _) hb3
  replace hyy := hyy.call hb3
  go_ret2
  exact ⟨rfl, hb00⟩

set_option maxHeartbeats 4000000 in
theorem prove_size_in (A1 : Option Addr) (n1 c1 : Nat) (A3 : Option Addr) (n3 c3 : Nat) (hbad : ¬ n1 = y.nin ∨ ¬ n3 = y.joint) (vs : Value) (seeds : KL f) (hsl : seeds.length = y.arity) (w : World) (hs : SlK w w.heap.size vs seeds) :
    Calls Tryz.prog 38 #[y.val f, .slice A1 n1 c1, vs, .slice A3 n3 c3] w (RetE9 9 w) := by
  have HCHK : Hid (∀ wz, Calls Tryz.prog 48 #[y.val f] wz (RetC 0 wz)) := fun wz => by
    have h := circuit_Check_ok hf y hy wz
    rwa [CK.code_ok (by omega)] at h
  have HGAD : Hid (∀ wz, Calls Tryz.prog 27 #[y.val f] wz (RetG2 (y.gad f) wz)) := fun wz => circuit_Gadget2 hf y hy wz
  have hal := CK.arity_le hy
  have hga := gad_arity f y
  have HARI : Hid (∀ wz (B : Nat) (k : Int) (sl : Value) (n : Int), RepG wz B k sl n (y.gad f) → Calls Tryz.prog 28 #[.agg #[.int .u8 k, sl, .int .i64 n]] wz fun e w' => e = .returned (.int .i64 (y.arity : Nat)) ∧ Below wz.heap.size wz w') := fun wz B k sl n h => by
    have h2 := gadget_Arity wz B (y.gad f) k sl n h
    rwa [hga] at h2
  have HBEG : Hid (∀ wz, SlK wz wz.heap.size vs seeds → Calls Tryz.prog 64 #[y.val f, vs] wz (RetBeg (nextP (y.calls + 1)) seeds wz)) := fun wz h => proof_begin y hy hcl vs seeds wz h (by omega) (by omega)
  have HI : Hid (∀ wz, Calls Tryz.prog 42 #[y.val f] wz (RetI y.nin wz)) := fun wz => circuit_In f y hy wz
  have HJ : Hid (∀ wz, Calls Tryz.prog 14 #[y.val f] wz (RetI y.joint wz)) := fun wz => circuit_Joint f y hy wz
  have HSZ : Hid (∀ wz cap, Calls Tryz.prog 32 #[y.val f, .slice A1 n1 c1, .slice A3 n3 c3, .int .i64 1, .func (.func 84) #[] cap] wz (RetNoE 9 wz)) := fun wz cap => circuit_Run_size _ _ _ _ _ _ y.nin y.joint HCHK HI HJ A1 n1 c1 A3 n3 c3 _ _ _ _ wz hbad
  clear HI HJ hbad hga
  obtain ⟨A, c, rfl, hsc, _, _⟩ := id hs
  have HSD := Lib.hid hs
  rw [hsl] at hsc HSD HBEG ⊢
  unfold CK.val at HCHK HGAD HBEG HSZ ⊢
  generalize y.gad f = gd at *
  generalize nextP (y.calls + 1) = N at *
  generalize y.arity = ar at *
  generalize ((y.k : Nat) : Int) = K at *
  generalize ((y.b : Nat) : Int) = B at *
  generalize ((y.l : Nat) : Int) = NN at *
  generalize ((y.m : Nat) : Int) = M at *
  generalize ((y.c : Nat) : Int) = C at *
  clear hy hcl hs hsl
  go_enter Tryz.func38, Tryz.ntmps38
  go_upto_region 1 with fail
  have hyy := Vs.new w [.int .u8 K, .int .u8 f, .int .i64 B, .int .i64 NN, .int .i64 M, .int .i64 C] #[.int .u8 K, .int .u8 f, .int .i64 B, .int .i64 NN, .int .i64 M, .int .i64 C] 30 rfl
  have hb00 : Below w.heap.size w (w.alloc (.cells #[.int .u8 K, .int .u8 f, .int .i64 B, .int .i64 NN, .int .i64 M, .int .i64 C] 30)) := by repeat (first | exact Below.refl _ _ | with_reducible assumption | (refine bl_alloc ?_ (Nat.le_refl _) _))
  have hszn : w.heap.size + 1 ≤ (w.alloc (.cells #[.int .u8 K, .int .u8 f, .int .i64 B, .int .i64 NN, .int .i64 M, .int .i64 C] 30)).heap.size := by simp only [World.size_alloc]; omega
  generalize (w.alloc (.cells #[.int .u8 K, .int .u8 f, .int .i64 B, .int .i64 NN, .int .i64 M, .int .i64 C] 30)) = w1 at hyy hb00 hszn ⊢
  obtain ⟨⟨yy0, yy1, yy2, yy3, yy4, yy5⟩, ⟨yy6, yy7, yy8, yy9, yy10, yy11⟩, yy12⟩ := hyy.get6
  go_upto_region 2 with (go_at_call 48; refine (HCHK.out _).mono ?_; rintro e w2 ⟨rfl, hb2⟩)
  clear yy0 yy1 yy2 yy3 yy4 yy5 yy6 yy7 yy8 yy9 yy10 yy11 yy12
  replace hb00 := bl_call hb00 (Nat.le_refl _) hb2
  replace hyy := hyy.call hb2
  clear hb2
  obtain ⟨⟨yy0, yy1, yy2, yy3, yy4, yy5⟩, ⟨yy6, yy7, yy8, yy9, yy10, yy11⟩, yy12⟩ := hyy.get6
  go_upto_region 5 with (go_at_call 27; refine (HGAD.out _).mono ?_; rintro e w3 ⟨kd, sl, nn, rfl, hR3, hb3, hSL3⟩; obtain ⟨A2, a2, c2, rfl⟩ := RepG.sl hR3)
  clear yy0 yy1 yy2 yy3 yy4 yy5 yy6 yy7 yy8 yy9 yy10 yy11 yy12
  replace hb00 := bl_call hb00 (Nat.le_refl _) hb3
  replace hyy := hyy.call hb3
  clear hb3 hSL3
  have hgg := Vs.new w3 [.int .u8 kd, .slice A2 a2 c2, .int .i64 nn] #[.int .u8 kd, .slice A2 a2 c2, .int .i64 nn] 54 rfl
  have hbA : Below w3.heap.size w3 (w3.alloc (.cells #[.int .u8 kd, .slice A2 a2 c2, .int .i64 nn] 54)) := (Below.refl _ _).alloc (Nat.le_refl _) _
  replace hb00 := bl_call hb00 (Nat.le_refl _) hbA
  replace hyy := hyy.call hbA
  have hR4 := hR3.later hbA
  generalize w3.alloc (.cells #[.int .u8 kd, .slice A2 a2 c2, .int .i64 nn] 54) = w4 at *
  clear hbA hR3
  obtain ⟨gg0, gg1, gg2, gg3, gg4, gg5, gg6⟩ := hgg.get3
  go_upto_region 7 with (go_at_call 28; refine (HARI.out _ _ _ _ _ hR4).mono ?_; rintro e w5 ⟨rfl, hb5⟩)
  clear gg0 gg1 gg2 gg3 gg4 gg5 gg6
  replace hb00 := bl_call hb00 (Nat.le_refl _) hb5
  replace hyy := hyy.call hb5
  clear hb5 hR4
  obtain ⟨⟨yy0, yy1, yy2, yy3, yy4, yy5⟩, ⟨yy6, yy7, yy8, yy9, yy10, yy11⟩, yy12⟩ := hyy.get6
  go_upto_region 8 with (go_at_call 64; refine (HBEG.out _ (HSD.out.later hb00)).mono ?_; rintro e w6 ⟨wb, lb, cp, us, rfl, hW6, hD6, hb6⟩)
  clear yy0 yy1 yy2 yy3 yy4 yy5 yy6 yy7 yy8 yy9 yy10 yy11 yy12
  replace hb00 := bl_call hb00 (Nat.le_refl _) hb6
  replace hyy := hyy.call hb6
  clear hb6 hW6 hD6
  have hpp := Vs.new w6 [.pointer (some ⟨wb, 0, none⟩)] #[.pointer (some ⟨wb, 0, none⟩)] 94 rfl
  have hbA : Below w6.heap.size w6 (w6.alloc (.cells #[.pointer (some ⟨wb, 0, none⟩)] 94)) := by repeat (first | exact Below.refl _ _ | with_reducible assumption | (refine bl_alloc ?_ (Nat.le_refl _) _))
  replace hb00 := bl_call hb00 (Nat.le_refl _) hbA
  replace hyy := hyy.call hbA
  clear hbA
  generalize w6.alloc (.cells #[.pointer (some ⟨wb, 0, none⟩)] 94) = w7 at hb00 hyy hpp ⊢
  have hmf : ∀ (fn : Fn) (first cap : Array Value) (w : World), (Instr.makeFunc fn first cap).run Tryz.prog w = .ok (.func fn first cap) w := fun _ _ _ _ => rfl
  obtain ⟨⟨yy0, yy1, yy2, yy3, yy4, yy5⟩, ⟨yy6, yy7, yy8, yy9, yy10, yy11⟩, yy12⟩ := hyy.get6
  obtain ⟨pp0, pp1, pp2⟩ := hpp.get1
  go_wp2_with (go_at_call 32; refine (HSZ.out _ _).mono ?_; rintro e w8 ⟨rfl, hb8⟩)
  replace hb00 := bl_call hb00 (Nat.le_refl _) hb8
  replace hyy := hyy.call hb8
  replace hpp := hpp.call hb8
  go_ret2
  exact ⟨rfl, by repeat (first | exact Below.refl _ _ | with_reducible assumption | (refine bl_alloc ?_ (Nat.le_refl _) _) | (refine bl_set ?_ (by dsimp only; omega) _) | (refine Below.drew ?_) | (refine bl_drewN ?_ _) | (refine bl_call ?_ (Nat.le_refl _) (by assumption)))⟩
end

end Go.Proofs.YtfbfbijkkbflkaaGreatDoor
