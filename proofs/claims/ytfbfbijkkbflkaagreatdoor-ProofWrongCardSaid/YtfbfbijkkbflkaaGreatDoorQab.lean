/-
 Sums, Said, Pl, Nt, Pd, Rt, Gp, Pow, Trunc, Wts, Dot, Lag, PfM, PfQ, PfQ2, RegZ: for ProofWrong.
-/
import Derived.Test.YtfbfbijkkbflkaaGreatDoorMaz
import Derived.Test.YtfbfbijkkbflkaaGreatDoorQaa
namespace Go.Proofs.YtfbfbijkkbflkaaGreatDoor
open Go.RowKit Fm
set_option linter.unusedVariables false
set_option maxRecDepth 100000

section
variable {f : Nat} (hf : IsF f)
include hf

set_option maxHeartbeats 4000000 in
theorem ref9_Number (vl : Value) (l : KL f) (w : World) (hl : SlK w w.heap.size vl l) (hn : l.length ≤ 1099511627776) :
  Calls Tryz.prog 120 #[.int .i64 f, vl] w (RetK (knum l) w) := by
 have HADD := Lib.hid (fun (x y : Fin (Pm f)) wz => ref_AddK hf x y wz)
 obtain ⟨A, cc, rfl, hc, hcm, hA⟩ := hl
 have hfb0 : (1 : Int) ≤ (f : Int) := by rcases hf.or with rfl | rfl <;> omega
 have hfb1 : (f : Int) ≤ 2 := by rcases hf.or with rfl | rfl <;> omega
 go_enter Tryz.func120, Tryz.ntmps120
 go_upto_region 3 with fail
 have hz := ((V2.new w (.int .u64 0) (.int .u64 0) 36).alloc (.cells #[.int .u64 0, .int .u64 0] 36)).alloc (.cells #[.int .u64 1, .int .u64 0] 36)
 have hy := (V2.new (w.alloc (.cells #[.int .u64 0, .int .u64 0] 36)) (.int .u64 0) (.int .u64 0) 36).alloc (.cells #[.int .u64 1, .int .u64 0] 36)
 have hp := V2.new ((w.alloc (.cells #[.int .u64 0, .int .u64 0] 36)).alloc (.cells #[.int .u64 0, .int .u64 0] 36)) (.int .u64 1) (.int .u64 0) 36
 have hbA : Below w.heap.size w (((w.alloc (.cells #[.int .u64 0, .int .u64 0] 36)).alloc (.cells #[.int .u64 0, .int .u64 0] 36)).alloc (.cells #[.int .u64 1, .int .u64 0] 36)) := by repeat (first | exact bA | with_reducible assumption | apply bB | (refine bC ?_ (by dsimp only; omega)) | apply bD | apply bE | (refine bF ?_ (by assumption)))
 simp only [World.size_alloc] at hy hp
 generalize ((w.alloc (.cells #[.int .u64 0, .int .u64 0] 36)).alloc (.cells #[.int .u64 0, .int .u64 0] 36)).alloc (.cells #[.int .u64 1, .int .u64 0] 36) = w1 at hz hy hp hbA ⊢
 go_wp2
 go_loopw [7] (fun i wr => ∃ j : Nat, j ≤ l.length ∧ i = .int .i64 j ∧ V2 wr w.heap.size (.int .u64 0) (.int .u64 0) ∧ V2 wr (w.heap.size + 1) (.int .u64 (lo (knum (l.take j)))) (.int .u64 (hi (knum (l.take j)))) ∧
   V2 wr (w.heap.size + 1 + 1) (.int .u64 (lo (kpow f j))) (.int .u64 (hi (kpow f j))) ∧ Below w.heap.size w wr) (fun i _ => l.length - (intOf i).toNat)
 case atStart =>
  refine ⟨0, Nat.zero_le _, rfl, hz, ?_, ?_, hbA⟩
  ·rw [List.take_zero, show knum ([] : KL f) = 0 from rfl, lo_zero, hi_zero]
   exact hy
  ·rw [show kpow f 0 = 1 from rfl, lo_one, hi_one]
   exact hp
 case round =>
  clear hz hy hp hbA
  obtain ⟨j, hj, rfl, hz, hy, hp, hbw⟩ := hrel
  obtain ⟨z0, z1, z2, z3, z4⟩ := V2.mk hz.c0 hz.c1 hz.f0 hz.f1 hz.lt
  obtain ⟨y0, y1, y2, y3, y4⟩ := V2.mk hy.c0 hy.c1 hy.f0 hy.f1 hy.lt
  obtain ⟨p0, p1, p2, p3, p4⟩ := V2.mk hp.c0 hp.c1 hp.f0 hp.f1 hp.lt
  by_cases hlt : j < l.length
  ·obtain ⟨bl, o, rfl, hB, hr⟩ := hA (by omega)
   obtain ⟨x, he⟩ : ∃ e, l[j]? = some e := ⟨_, List.getElem?_eq_getElem hlt⟩
   obtain ⟨d0, d1⟩ := (hr.below hbw hB).kat he
   have HST := Lib.hid (knum_take l j x he)
   have HPW : Hid (kpow f (j + 1) = kpow f j + kpow f j) := rfl
   generalize knum (l.take j) = s at *
   generalize kpow f j = p at *
   clear he hr hA
   have hbl : bl < wr.heap.size := Nat.lt_of_lt_of_le hB hbw.size
   go_upto_region 6 with fail
   refine region_B (n := 10) (m := 11) (f := 10) (by kernel_rfl) (by kernel_rfl) rfl ?_
   refine WpH.vD 0 (some 15) ?_ rfl rfl (by kernel_rfl) (fun _ _ _ h => h) rfl (fun wz hwz => ?_) ?_
   rotate_left
   ·go_simp; try (with_reducible rfl)
   simp only [Zp, Zq, Zr, Zs]
   refine WpH.vD 1 (some 16) ?_ rfl rfl (by kernel_rfl) (fun _ _ _ h => h) rfl (fun wz hwz => ?_) ?_
   rotate_left
   ·(obtain ⟨hcz, hfz⟩ := bcell hwz; go_simp; try (with_reducible rfl))
   simp only [Zp, Zq, Zr, Zs]
   refine WpH.vD 2 (some 17) ?_ rfl rfl (by kernel_rfl) (fun _ _ _ h => h) rfl (fun wz hwz => ?_) ?_
   rotate_left
   ·go_simp; try (with_reducible rfl)
   simp only [Zp, Zq, Zr, Zs]
   refine WpH.vD 3 (some 18) ?_ rfl rfl (by kernel_rfl) (fun _ _ _ h => h) rfl (fun wz hwz => ?_) ?_
   rotate_left
   ·(obtain ⟨hcz, hfz⟩ := bcell hwz; go_simp; try (with_reducible rfl))
   simp only [Zp, Zq, Zr, Zs]
   refine WpH.vD 4 (some 19) ?_ rfl rfl (by kernel_rfl) (fun _ _ _ h => h) rfl (fun wz hwz => ?_) ?_
   rotate_left
   ·go_simp; try (with_reducible rfl)
   simp only [Zp, Zq, Zr, Zs]
   refine WpH.vD 5 (some 20) ?_ rfl rfl (by kernel_rfl) (fun _ _ _ h => h) rfl (fun wz hwz => ?_) ?_
   rotate_left
   ·go_simp; try (with_reducible rfl)
   simp only [Zp, Zq, Zr, Zs]
   refine WpH.vD 6 (some 21) ?_ rfl rfl (by kernel_rfl) (fun _ _ _ h => h) rfl (fun wz hwz => ?_) ?_
   rotate_left
   ·go_simp; try (with_reducible rfl)
   simp only [Zp, Zq, Zr, Zs]
   refine WpH.vD 7 (some 22) ?_ rfl rfl (by kernel_rfl) (fun _ _ _ h => h) rfl (fun wz hwz => ?_) ?_
   rotate_left
   ·(obtain ⟨hcz, hfz⟩ := bcell hwz; go_simp; try (with_reducible rfl))
   simp only [Zp, Zq, Zr, Zs]
   refine WpH.takeD 8 (some 23) rfl rfl (by kernel_rfl) (fun _ _ _ h => h) (.call rfl (fun wz hwz => ref_MulK hf p x wz) (fun wz hwz => ?_)) ?_
   ·go_simp; try (with_reducible rfl)
   simp only [Zp, Zq, Zr, Zs]
   refine WpH.takeD 9 (some 24) rfl rfl (by kernel_rfl) (fun _ _ _ h => h) (.call rfl (fun wz hwz => ref_AddK hf s (p * x) wz) (fun wz hwz => ?_)) ?_
   ·go_simp; try (with_reducible rfl)
   simp only [Zp, Zq, Zr, Zs]
   refine WpH.doneB (by kernel_rfl) (fun w6 hw6 => ?_)
   (try simp only [List.drop_succ_cons]); (try simp only [List.drop_zero]); (try simp only [Nat.reduceSub]); (try simp only [List.take_succ_cons]); (try simp only [List.take_zero])
   clear z0 z1 z2 z3 z4 y0 y1 y2 y3 y4 p0 p1 p2 p3 p4
   replace hbw := bl_call hbw (Nat.le_refl _) hw6
   replace hz := hz.call hw6
   replace hy := hy.call hw6
   replace hp := hp.call hw6
   obtain ⟨z0, z1, z2, z3, z4⟩ := V2.mk hz.c0 hz.c1 hz.f0 hz.f1 hz.lt
   obtain ⟨y0, y1, y2, y3, y4⟩ := V2.mk hy.c0 hy.c1 hy.f0 hy.f1 hy.lt
   obtain ⟨p0, p1, p2, p3, p4⟩ := V2.mk hp.c0 hp.c1 hp.f0 hp.f1 hp.lt
   go_upto_region 7 with fail
   clear z0 z1 z2 z3 z4 y0 y1 y2 y3 y4 p0 p1 p2 p3 p4
   replace hy : V2 ((w6.setCell ⟨w.heap.size + 1, 0, none⟩ (.int .u64 (lo (s + p * x)))).setCell ⟨w.heap.size + 1, 1, none⟩ (.int .u64 (hi (s + p * x)))) (w.heap.size + 1) (.int .u64 (lo (s + p * x))) (.int .u64 (hi (s + p * x))) := V2.set hy _ _
   replace hz := V2.oth hz (b := w.heap.size + 1) (by omega) (.int .u64 (lo (s + p * x))) (.int .u64 (hi (s + p * x)))
   replace hp := V2.oth hp (b := w.heap.size + 1) (by omega) (.int .u64 (lo (s + p * x))) (.int .u64 (hi (s + p * x)))
   replace hbw := bl_st hbw (b := w.heap.size + 1) (by omega) (.int .u64 (lo (s + p * x))) (.int .u64 (hi (s + p * x)))
   generalize ((w6.setCell ⟨w.heap.size + 1, 0, none⟩ (.int .u64 (lo (s + p * x)))).setCell ⟨w.heap.size + 1, 1, none⟩ (.int .u64 (hi (s + p * x)))) = w7 at hy hz hp hbw ⊢
   obtain ⟨z0, z1, z2, z3, z4⟩ := V2.mk hz.c0 hz.c1 hz.f0 hz.f1 hz.lt
   obtain ⟨y0, y1, y2, y3, y4⟩ := V2.mk hy.c0 hy.c1 hy.f0 hy.f1 hy.lt
   obtain ⟨p0, p1, p2, p3, p4⟩ := V2.mk hp.c0 hp.c1 hp.f0 hp.f1 hp.lt
   go_wp2_with (first
    | (go_at_call 80; refine (HADD.out p p _).mono ?_; rintro e w8 ⟨rfl, hb8⟩; replace hbw := bl_call hbw (Nat.le_refl _) hb8; replace hz := hz.call hb8; replace hy := hy.call hb8; replace hp := hp.call hb8; obtain ⟨z0, z1, z2, z3, z4⟩ := V2.mk hz.c0 hz.c1 hz.f0 hz.f1 hz.lt; obtain ⟨y0, y1, y2, y3, y4⟩ := V2.mk hy.c0 hy.c1 hy.f0 hy.f1 hy.lt; obtain ⟨p0, p1, p2, p3, p4⟩ := V2.mk hp.c0 hp.c1 hp.f0 hp.f1 hp.lt))
   go_roundw
   case rel => exact ⟨j + 1, by omega, by go_num, V2.oth hz (by omega) _ _, by rw [HST.out]; exact V2.oth hy (by omega) _ _, by rw [HPW.out]; exact V2.set hp _ _, by repeat (first | exact bA | with_reducible assumption | apply bB | (refine bC ?_ (by dsimp only; omega)) | apply bD | apply bE | (refine bF ?_ (by assumption)))⟩
   case measure => simp [intOf]; omega
  ·obtain rfl : j = l.length := by omega
   rw [List.take_length] at hy y0 y1
   go_wp2
   refine bodyPost_ret (results_v2 (b := w.heap.size) (u := .int .u64 (lo (knum l))) (v := .int .u64 (hi (knum l))) ?_ rfl rfl) rfl ?_
   ·exact V2.set hz _ _
   ·exact ⟨rfl, by repeat (first | exact bA | with_reducible assumption | apply bB | (refine bC ?_ (by dsimp only; omega)) | apply bD | apply bE | (refine bF ?_ (by assumption)))⟩
end

end Go.Proofs.YtfbfbijkkbflkaaGreatDoor

namespace Go.Proofs.YtfbfbijkkbflkaaGreatDoor
open Go.RowKit Fm
set_option linter.unusedVariables false
set_option maxRecDepth 100000

theorem CK.k_le (y : CK) : 1 ≤ y.k ∧ y.k ≤ 5 := by cases y <;> exact ⟨Nat.le_of_ble_eq_true rfl, Nat.le_of_ble_eq_true rfl⟩
end Go.Proofs.YtfbfbijkkbflkaaGreatDoor

namespace Go.Proofs.YtfbfbijkkbflkaaGreatDoor.Fm
set_option linter.unusedVariables false

section
variable {f : Nat}

/-! ### without noughts at the end -/
/-! ### roots -/
/-! ### a list out of its coefficients -/
/-! ### sums, products -/
theorem ev_pmul (x : Fin (Pm f)) (p q : List (Fin (Pm f))) : ev x (pmul p q) = ev x p * ev x q := by unfold pmul; rw [ev_trim, prodL_ev]
end

end Go.Proofs.YtfbfbijkkbflkaaGreatDoor.Fm

namespace Go.Proofs.YtfbfbijkkbflkaaGreatDoor.Fm
set_option linter.unusedVariables false

section
variable {f : Nat}

/-! ### values, and back -/
theorem vals_coefs {r s m : Fin (Pm f)} {L : Nat} (hr : Rt r L) (hs : r * s = 1) (hm : nn f (2 ^ L) * m = 1) (v : List (Fin (Pm f))) (hv : v.length = 2 ^ L) : vals r (2 ^ L) (coefs s m (2 ^ L) v) = v := by
 refine (eq_ofF hv fun i hi => ?_).symm
 have h := round_trip (hr.inv hs) (s := r) (by grind) (fun j => v.getD j 0) i hi
 unfold coefs
 rw [ofF_ev, sm_congr (h := fun k => m * (sm (fun j => v.getD j 0 * kpow s (k * j)) (2 ^ L) * kpow r (i * k))) (fun k hk => by
  rw [ev_sm, hv, sm_congr (h := fun j => v.getD j 0 * kpow s (k * j)) (fun j _ => by rw [kpow_mul]), kpow_mul r i k]
  grind), sm_mul, h]
 unfold nn at hm
 grind
end

end Go.Proofs.YtfbfbijkkbflkaaGreatDoor.Fm

namespace Go.Proofs.YtfbfbijkkbflkaaGreatDoor.Fm
set_option linter.unusedVariables false

section
variable {f : Nat}

/-! ### what goes into what -/
/-! ### Lagrange -/
theorem lagrange {r s m x : Fin (Pm f)} {L : Nat} (hr : Rt r L) (hs : r * s = 1) (v : List (Fin (Pm f))) (hv : v.length = 2 ^ L) (d : Nat → Fin (Pm f)) (hd : ∀ k, k < 2 ^ L → (x - kpow r k) * d k = 1) :
  sm (fun k => (kpow x (2 ^ L) - 1) * m * kpow r k * d k * v.getD k 0) (2 ^ L) = ev x (coefs s m (2 ^ L) v) := by
 have e : ∀ n, kpow r n * kpow s n = 1 := fun n => by rw [← mul_kpow, hs, one_kpow]
 have hss := hr.inv hs
 unfold coefs
 have hR : sm (fun i => ev (kpow s i) v * m * kpow x i) (2 ^ L) = sm (fun i => sm (fun k => m * v.getD k 0 * kpow (x * kpow s k) i) (2 ^ L)) (2 ^ L) := sm_congr fun i hi => by
  rw [ev_sm, hv, ← sm_mulr, ← sm_mulr]
  refine sm_congr fun k _ => ?_
  rw [mul_kpow, ← kpow_mul, ← kpow_mul, Nat.mul_comm k i]
  grind
 rw [ofF_ev, hR, sm_swap]
 refine sm_congr fun k hk => ?_
 rw [sm_mul]
 have hg := geo (x * kpow s k) (2 ^ L)
 rw [mul_kpow, ← kpow_mul, Nat.mul_comm k, kpow_mul s, hss.one, one_kpow] at hg
 have h1 := e k
 have h2 := hd k hk
 have h3 : (x - kpow r k) * kpow s k = x * kpow s k - 1 := by grind
 have h4 : (x * kpow s k - 1) * (d k * kpow r k) = 1 := by
  rw [← h3]
  grind
 have hfin : ∀ S X rk dk vk xs : Fin (Pm f), (xs - 1) * S = X * 1 - 1 → (xs - 1) * (dk * rk) = 1 → (X - 1) * m * rk * dk * vk = m * vk * S := by
  intro S X rk dk vk xs a1 a2
  have a3 : X - 1 = (xs - 1) * S := by grind
  rw [a3]
  grind
 exact hfin _ _ _ _ _ _ hg h4
end

end Go.Proofs.YtfbfbijkkbflkaaGreatDoor.Fm

namespace Go.Proofs.YtfbfbijkkbflkaaGreatDoor.Fm
set_option linter.unusedVariables false

section
variable {f : Nat}
theorem valsK_coefs {L : Nat} (hL : L ≤ 32) (v : List (Fin (Pm f))) (hv : v.length = 2 ^ L) : valsK L (coefsK L v) = v :=
 vals_coefs (rt_root f L hL) (mul_kinv _ (rt_root f L hL).ne_zero) (mul_kinv _ (nn_ne f _ (Nat.two_pow_pos L) (two_pow_lt hL))) v hv
end

end Go.Proofs.YtfbfbijkkbflkaaGreatDoor.Fm

namespace Go.Proofs.YtfbfbijkkbflkaaGreatDoor
open Go.RowKit Fm
set_option linter.unusedVariables false
set_option maxRecDepth 100000

section
variable {f : Nat}
theorem ev_comp (x : Fin (Pm f)) (p : KL f) : ∀ cs : KL f, ev x (comp p cs) = ev (ev x p) cs
 | [] => rfl
 | c :: cs => by
  rw [comp, ev_padd, ev_pmul, ev_comp x p cs, ev_cons, ev_cons, ev_nil]
  grind
theorem getD_map_ev (x : Fin (Pm f)) (l : List (KL f)) (i : Nat) : (l.map (ev x)).getD i 0 = ev x (l.getD i []) := by
 rw [List.getD_eq_getElem?_getD, List.getElem?_map, List.getD_eq_getElem?_getD]
 cases l[i]? <;> rfl
theorem ev_ppsum (x : Fin (Pm f)) (l : List (KL f)) : ∀ k, ev x (ppsum l k) = psum (l.map (ev x)) k
 | 0 => rfl
 | k + 1 => by
  rw [ppsum, ev_padd, ev_pmul, ev_ppsum x l k]
  show _ = psum _ k + (l.map (ev x)).getD (2 * k) 0 * (l.map (ev x)).getD (2 * k + 1) 0
  rw [getD_map_ev, getD_map_ev]
theorem ev_gpoly (x : Fin (Pm f)) (g : Gad f) (l : List (KL f)) : ev x (gpoly g l) = gval g (l.map (ev x)) := by
 cases g with
 | mul => exact ev_ppsum x l 1
 | par n => exact ev_ppsum x l n
 | eval cs =>
  show ev x (comp _ cs) = ev ((l.map (ev x)).getD 0 0) cs
  rw [ev_comp, getD_map_ev]
end

end Go.Proofs.YtfbfbijkkbflkaaGreatDoor

namespace Go.Proofs.YtfbfbijkkbflkaaGreatDoor
open Go.RowKit Fm
set_option linter.unusedVariables false
set_option maxRecDepth 100000

theorem gold_PowL (a0 a1 : Int) (ha : okE (a0, a1)) (n : Nat) (hn : n ≤ 18446744073709551615) (w : World) : Calls Tryz.prog 55 #[.int .u64 a0, .int .u64 n] w fun e w' => e = .returned (.int .u64 (lo (Fm.kpow (kL 1 a0 a1) n))) ∧ w = w' := by
 have hp : ((Pm 1 : Nat) : Int) = 18446744069414584321 := rfl
 have h := gold_Pow a0 (n : Int) w ha.1 ha.2.1 (by omega) (by omega)
 have hk : kI (Pm 1) (ipow a0 n) = Fm.kpow (kL 1 a0 a1) n := by
  clear h hn
  induction n with
  | zero => exact kI_one
  | succ n ih =>
   rw [ipow, kI_mul, ih, Fm.kpow_succ]
   rfl
 rwa [Int.toNat_natCast, ← hp, ← val_kI, hk, ← (lo_small (Fm.kpow (kL 1 a0 a1) n)).1] at h

set_option maxHeartbeats 4000000 in
theorem field_PowL {f : Nat} (hf : IsF f) (a0 a1 : Int) (ha : okE (a0, a1)) (n : Nat) (hn : n ≤ 18446744073709551615) (w : World) :
  Calls Tryz.prog 15 #[.int .u8 f, .agg #[.int .u64 a0, .int .u64 a1], .int .u64 n] w (RetK (Fm.kpow (kL f a0 a1) n) w) := by
 rcases hf.or with rfl | rfl
 ·have HG := Lib.hid (fun wz => gold_PowL a0 a1 ha n hn wz)
  have HH : Hid (hi (Fm.kpow (kL 1 a0 a1) n) = 0) := (lo_small _).2
  obtain ⟨y, hy⟩ : ∃ y, Fm.kpow (kL 1 a0 a1) n = y := ⟨_, rfl⟩
  rw [hy] at HG HH ⊢
  clear hy
  go_enter Tryz.func15, Tryz.ntmps15
  go_upto_region 1 with fail
  have q0 := (V2.new w (.int .u64 a0) (.int .u64 a1) 36).alloc (.cells #[(.int .u64 0), (.int .u64 0)] 36)
  have s0 := V2.new (w.alloc (.cells #[(.int .u64 a0), (.int .u64 a1)] 36)) (.int .u64 0) (.int .u64 0) 36
  simp only [World.size_alloc] at s0
  have hb00 : Below w.heap.size w ((w.alloc (.cells #[(.int .u64 a0), (.int .u64 a1)] 36)).alloc (.cells #[(.int .u64 0), (.int .u64 0)] 36)) := by repeat (first | exact bA | with_reducible assumption | apply bB)
  have hsz : w.heap.size + 2 ≤ ((w.alloc (.cells #[(.int .u64 a0), (.int .u64 a1)] 36)).alloc (.cells #[(.int .u64 0), (.int .u64 0)] 36)).heap.size := by simp only [World.size_alloc]; omega
  generalize ((w.alloc (.cells #[(.int .u64 a0), (.int .u64 a1)] 36)).alloc (.cells #[(.int .u64 0), (.int .u64 0)] 36)) = w1 at q0 s0 hb00 hsz ⊢
  obtain ⟨q00, q01, q02, q03, q04⟩ := V2.mk q0.c0 q0.c1 q0.f0 q0.f1 q0.lt
  obtain ⟨s00, s01, s02, s03, s04⟩ := V2.mk s0.c0 s0.c1 s0.f0 s0.f1 s0.lt
  go_wp2_with fail
  refine (HG.out _).mono ?_
  rintro e w3 ⟨rfl, rfl⟩
  go_wp2_with fail
  refine bodyPost_ret (results_v2 (b := w.heap.size + 1) (u := .int .u64 (lo y)) (v := .int .u64 0) ?_ rfl rfl) rfl ?_
  ·exact V2.set s0 _ _
  ·exact ⟨by rw [← HH.out], by repeat (first | exact bA | with_reducible assumption | apply bB | (refine bC ?_ (by dsimp only; omega)) | apply bD | apply bE | (refine bF ?_ (by assumption)))⟩
 ·have HI : Hid (∀ wz, Calls Tryz.prog 56 #[.agg #[.int .u64 a0, .int .u64 a1], .agg #[.int .u64 n, .int .u64 0]] wz (RetK (Fm.kpow (kL 2 a0 a1) n) wz)) := fun wz => by
   have h := wide_Pow a0 a1 n 0 wz ha.1 ha.2.1 ha.2.2.1 ha.2.2.2 hn (by omega)
   rw [Nat.mul_zero, Nat.add_zero, kpw_fm] at h
   exact h
  obtain ⟨y, hy⟩ : ∃ y, Fm.kpow (kL 2 a0 a1) n = y := ⟨_, rfl⟩
  rw [hy] at HI ⊢
  clear hy
  go_enter Tryz.func15, Tryz.ntmps15
  go_upto_region 1 with fail
  have q0 := (V2.new w (.int .u64 a0) (.int .u64 a1) 36).alloc (.cells #[(.int .u64 0), (.int .u64 0)] 36)
  have s0 := V2.new (w.alloc (.cells #[(.int .u64 a0), (.int .u64 a1)] 36)) (.int .u64 0) (.int .u64 0) 36
  simp only [World.size_alloc] at s0
  have hb00 : Below w.heap.size w ((w.alloc (.cells #[(.int .u64 a0), (.int .u64 a1)] 36)).alloc (.cells #[(.int .u64 0), (.int .u64 0)] 36)) := by repeat (first | exact bA | with_reducible assumption | apply bB)
  have hsz : w.heap.size + 2 ≤ ((w.alloc (.cells #[(.int .u64 a0), (.int .u64 a1)] 36)).alloc (.cells #[(.int .u64 0), (.int .u64 0)] 36)).heap.size := by simp only [World.size_alloc]; omega
  generalize ((w.alloc (.cells #[(.int .u64 a0), (.int .u64 a1)] 36)).alloc (.cells #[(.int .u64 0), (.int .u64 0)] 36)) = w1 at q0 s0 hb00 hsz ⊢
  obtain ⟨q00, q01, q02, q03, q04⟩ := V2.mk q0.c0 q0.c1 q0.f0 q0.f1 q0.lt
  obtain ⟨s00, s01, s02, s03, s04⟩ := V2.mk s0.c0 s0.c1 s0.f0 s0.f1 s0.lt
  go_wp2_with fail
  refine (HI.out _).mono ?_
  rintro e w3 ⟨rfl, hb3⟩
  clear q00 q01 q02 q03 q04 s00 s01 s02 s03 s04
  replace hb00 := bl_call hb00 (Nat.le_refl _) hb3
  replace q0 := q0.call hb3
  replace s0 := s0.call hb3
  clear hb3
  obtain ⟨s00, s01, s02, s03, s04⟩ := V2.mk s0.c0 s0.c1 s0.f0 s0.f1 s0.lt
  go_wp2_with fail
  refine bodyPost_ret (results_v2 (b := w.heap.size + 1) (u := .int .u64 (lo y)) (v := .int .u64 (hi y)) ?_ rfl rfl) rfl ?_
  ·exact V2.set s0 _ _
  ·exact ⟨rfl, by repeat (first | exact bA | with_reducible assumption | apply bB | (refine bC ?_ (by dsimp only; omega)) | apply bD | apply bE | (refine bF ?_ (by assumption)))⟩

end Go.Proofs.YtfbfbijkkbflkaaGreatDoor

namespace Go.Proofs.YtfbfbijkkbflkaaGreatDoor
open Go.RowKit Fm
set_option linter.unusedVariables false
set_option maxRecDepth 100000

section
variable {f : Nat} (hf : IsF f)
include hf

omit hf in
theorem SlE.dropN {w : World} {B b o : Nat} {c : Nat} {l : List E} {n L : Nat} (h : SlE w B (.slice (some ⟨b, o, none⟩) L c) l) (hn : n < L) : SlE w B (.slice (some ⟨b, o + n * 2, none⟩) (L - n) (c - n)) (l.drop n) := by
 obtain ⟨⟨A', c', hh, h1, h2, h3⟩, hok⟩ := h
 injection hh with e1 e2 e3
 subst e1 e2 e3
 have hl : (l.drop n).length = l.length - n := List.length_drop
 refine ⟨⟨some ⟨b, o + n * 2, none⟩, c - n, by rw [hl], by omega, by omega, fun h0 => ?_⟩, fun e he => hok e (List.mem_of_mem_drop he)⟩
 obtain ⟨b', o', hA, hB, hr⟩ := h3 (by omega)
 injection hA with hA
 injection hA with hb ho
 subst hb
 subst ho
 refine ⟨b, o + n * 2, rfl, hB, fun i e hi => ?_⟩
 rw [List.getElem?_drop] at hi
 have h4 := hr (n + i) e hi
 rw [show o + n * 2 + i * 2 = o + (n + i) * 2 by omega]
 exact h4

end

end Go.Proofs.YtfbfbijkkbflkaaGreatDoor

namespace Go.Proofs.YtfbfbijkkbflkaaGreatDoor
open Go.RowKit Fm
set_option linter.unusedVariables false
set_option maxRecDepth 100000

section
variable {f : Nat}
def wt (L : Nat) (x : Fin (Pm f)) (k : Nat) : Fin (Pm f) := (Fm.kpow x (2 ^ L) - 1) * kinv (nK f (2 ^ L)) * Fm.kpow (rootK f L) k * kinv (x - Fm.kpow (rootK f L) k)
def wts (L : Nat) (x : Fin (Pm f)) : KL f := ofF (2 ^ L) (wt L x)
def RetWts (L : Nat) (x : Fin (Pm f)) (w : World) (e : Ending) (w' : World) : Prop :=
 (Fm.kpow x (2 ^ L) = 1 ∧ RetE9 12 w e w') ∨ (Fm.kpow x (2 ^ L) ≠ 1 ∧ RetOwn0 (wts L x) w e w')

variable (hf : IsF f)
include hf
set_option maxHeartbeats 8000000 in
theorem poly_WeightsL (L : Nat) (hL : L ≤ 10) (x0 x1 : Int) (hx : okE (x0, x1)) (w : World) :
  Calls Tryz.prog 63 #[.int .u8 f, .int .i64 L, .agg #[.int .u64 x0, .int .u64 x1]] w (RetWts L (kL f x0 x1) w) := by
 obtain ⟨x, hxk⟩ : ∃ x, kL f x0 x1 = x := ⟨_, rfl⟩
 have HSX : Hid (∀ y wz, Calls Tryz.prog 62 #[.int .u8 f, .agg #[.int .u64 x0, .int .u64 x1], vK y] wz (RetK (x - y) wz)) := fun y wz => by
  have h := field_SubL hf x0 x1 (lo y) (hi y) wz hx.1 hx.2.1 hx.2.2.1 hx.2.2.2 (lo_0 y) (lo_1 y) (hi_0 y) (hi_1 y)
  rwa [kL_lohi, hxk] at h
 have hfb0 : (1 : Int) ≤ (f : Int) := by rcases hf.or with rfl | rfl <;> omega
 have hfb1 : (f : Int) ≤ 2 := by rcases hf.or with rfl | rfl <;> omega
 have heq := eql_elem
 have HE := Lib.hid (vK_eq0 (f := f))
 have HPO := Lib.hid (fun wz => ntt_Points hf L hL wz)
 have HON := Lib.hid (fun wz => field_One hf wz)
 have HSU := Lib.hid (fun x y wz => field_SubK hf x y wz)
 have HMU := Lib.hid (fun x y wz => field_MulK hf x y wz)
 have HIN := Lib.hid (fun x wz => field_Inv hf x wz)
 have hp : 2 ^ L ≤ 2 ^ 10 := Nat.pow_le_pow_right (by omega) hL
 have hp0 := Nat.two_pow_pos L
 have HNN : Hid (nK f (2 ^ L) ≠ 0) := by
  show _ ≠ _
  rw [← nn_nK]
  exact nn_ne f _ hp0 (two_pow_lt (by omega))
 have HOF : Hid (∀ wz, Calls Tryz.prog 52 #[.int .u8 f, .int .u64 ((2 ^ L : Nat) : Int)] wz (RetK (nK f (2 ^ L)) wz)) := fun wz => by
  exact field_Of hf _ wz (by omega) (by omega)
 have HPW : Hid (∀ wz, Calls Tryz.prog 15 #[.int .u8 f, .agg #[.int .u64 x0, .int .u64 x1], .int .u64 ((2 ^ L : Nat) : Int)] wz (RetK (Fm.kpow x (2 ^ L)) wz)) := fun wz => by
  have h := field_PowL hf x0 x1 hx (2 ^ L) (by omega) wz
  rwa [hxk] at h
 rw [hxk]
 clear hxk hx
 have HRN : Hid (∀ k, Fm.kpow x (2 ^ L) ≠ 1 → x - Fm.kpow (rootK f L) k ≠ 0) := fun k h1 h2 => by
  have h3 : x = Fm.kpow (rootK f L) k := by grind
  apply h1
  rw [h3, ← Fm.kpow_mul, Nat.mul_comm, Fm.kpow_mul, (rt_root f L (by omega)).one, one_kpow]
 have HWT : Hid (∀ k, wt L x k = (Fm.kpow x (2 ^ L) - 1) * kinv (nK f (2 ^ L)) * Fm.kpow (rootK f L) k * kinv (x - Fm.kpow (rootK f L) k)) := fun _ => rfl
 have HPA : Hid (∀ k, k < 2 ^ L → (pows (rootK f L) (2 ^ L))[k]? = some (Fm.kpow (rootK f L) k)) := fun k hk => by
  have h1 : (pows (rootK f L) (2 ^ L)).getD k 0 = Fm.kpow (rootK f L) k := by unfold pows; rw [ofF_getD, if_pos hk]
  rw [List.getD_eq_getElem?_getD] at h1
  obtain ⟨z, hz⟩ : ∃ z, (pows (rootK f L) (2 ^ L))[k]? = some z := ⟨_, List.getElem?_eq_getElem (by rw [pows_length]; exact hk)⟩
  rw [hz] at h1 ⊢
  exact congrArg some h1
 have HPL : Hid ((pows (rootK f L) (2 ^ L)).length = 2 ^ L) := pows_length ..
 have hwn : IntKind.u64.wrap ((2 ^ L : Nat) : Int) = ((2 ^ L : Nat) : Int) := IntWalk.u64_in _ (by omega)
 obtain ⟨N, hN⟩ : ∃ N, 2 ^ L = N := ⟨_, rfl⟩
 have HNL := Lib.hid hN
 have HWL : Hid ((wts L x).length = 2 ^ L) := ofF_length ..
 have HWS : Hid (wts L x = ofF (2 ^ L) (wt L x)) := rfl
 have HGO : Hid (∀ (e : Ending) (w' : World), RetWts L x w e w' ↔ ((Fm.kpow x (2 ^ L) = 1 ∧ RetE9 12 w e w') ∨ (Fm.kpow x (2 ^ L) ≠ 1 ∧ RetOwn0 (wts L x) w e w'))) := fun _ _ => Iff.rfl
 rw [hN] at hp hp0 HNN HOF HPW HRN HWT HPA HPL hwn HWL HWS HGO
 rw [hN] at HPO
 have HSN : Hid (∀ k, ofF (k + 1) (wt L x) = ofF k (wt L x) ++ [wt L x k]) := fun k => by
  unfold ofF
  rw [List.range_succ, List.map_append]
  rfl
 have HSL : Hid (∀ k, (ofF k (wt L x)).length = k) := fun k => ofF_length ..
 clear hN
 obtain ⟨xn, hxn⟩ : ∃ z, Fm.kpow x N = z := ⟨_, rfl⟩
 rw [hxn] at HPW HRN HWT HGO
 clear hxn
 generalize nK f N = nn0 at *
 have hb00 : Below w.heap.size w w := Below.refl _ _
 go_enter Tryz.func63, Tryz.ntmps63
 go_upto_region 1 with fail
 clear hb00
 have q0 := V2.new w (.int .u64 x0) (.int .u64 x1) 36
 have hb00 : Below w.heap.size w (w.alloc (.cells #[(.int .u64 x0), (.int .u64 x1)] 36)) := by repeat (first | exact bA | with_reducible assumption | apply bB)
 have hsz : w.heap.size + 1 ≤ (w.alloc (.cells #[(.int .u64 x0), (.int .u64 x1)] 36)).heap.size := by simp only [World.size_alloc]; omega
 generalize (w.alloc (.cells #[(.int .u64 x0), (.int .u64 x1)] 36)) = w1 at q0 hb00 hsz ⊢
 go_wp2_with fail
 refine (HPO.out _).mono ?_
 rintro e w2 ⟨vp, rfl, hop, hb2⟩
 obtain ⟨AP, cP, rfl⟩ := own_shape hop
 have hps := own_sl rfl hop
 rw [HPL.out] at hps ⊢
 replace hb00 := bl_call hb00 (Nat.le_refl _) hb2
 replace q0 := q0.call hb2
 clear hb2 hop HPO
 obtain ⟨q00, q01, q02, q03, q04⟩ := V2.mk q0.c0 q0.c1 q0.f0 q0.f1 q0.lt
 go_wp2_with fail
 refine (HPW.out _).mono ?_
 rintro e w3 ⟨rfl, hb3⟩
 clear q00 q01 q02 q03 q04
 replace hb00 := bl_call hb00 (Nat.le_refl _) hb3
 replace q0 := q0.call hb3
 replace hps := hps.later hb3
 clear hb3
 go_wp2_with fail
 refine (HON.out _).mono ?_
 rintro e w4 ⟨rfl, hb4⟩
 replace hb00 := bl_call hb00 (Nat.le_refl _) hb4
 replace q0 := q0.call hb4
 replace hps := hps.later hb4
 clear hb4
 go_wp2_with fail
 refine (HSU.out xn 1 _).mono ?_
 rintro e w5 ⟨rfl, hb5⟩
 replace hb00 := bl_call hb00 (Nat.le_refl _) hb5
 replace q0 := q0.call hb5
 replace hps := hps.later hb5
 clear hb5
 obtain ⟨top, htop⟩ : ∃ t, xn - 1 = t := ⟨_, rfl⟩
 rw [htop]
 go_upto_region 6 with fail
 have HPS := Lib.hid hps
 have hw5q := q0.lt
 have hc00 : Below w5.heap.size w5 w5 := Below.refl _ _
 clear hps
 have tv := V2.new w5 (.int .u64 (lo top)) (.int .u64 (hi top)) 36
 have hbA : Below w5.heap.size w5 (w5.alloc (.cells #[.int .u64 (lo top), .int .u64 (hi top)] 36)) := by repeat (first | exact bA | with_reducible assumption | apply bB)
 replace hb00 := bl_call hb00 (Nat.le_refl _) hbA
 replace hc00 := bl_call hc00 (Nat.le_refl _) hbA
 replace q0 := q0.call hbA
 clear hbA
 generalize w5.alloc (.cells #[.int .u64 (lo top), .int .u64 (hi top)] 36) = w6 at hb00 hc00 q0 tv ⊢
 obtain ⟨tb, htb⟩ : ∃ z, w5.heap.size = z := ⟨_, rfl⟩
 have hwt : w.heap.size < tb := by rw [← htb]; exact hw5q
 have htc : w5.heap.size ≤ tb := by omega
 rw [htb] at tv
 simp only [htb]
 clear htb hw5q
 have hE0 := HE.out top
 by_cases ht0 : top = 0
 ·rw [decide_eq_true ht0] at hE0
  have HX1 : Hid (xn = 1) := by show _ = _; rw [ht0] at htop; grind
  clear htop ht0
  obtain ⟨tv0, tv1, tv2, tv3, tv4⟩ := V2.mk tv.c0 tv.c1 tv.f0 tv.f1 tv.lt
  go_wp2_with fail
  go_ret2
  exact (HGO.out _ _).2 (.inl ⟨HX1.out, rfl, hb00⟩)
 ·rw [decide_eq_false ht0] at hE0
  have HX1 : Hid (xn ≠ 1) := fun h => ht0 (by rw [← htop, h]; grind)
  have HTP := Lib.hid htop
  clear htop ht0
  obtain ⟨tv0, tv1, tv2, tv3, tv4⟩ := V2.mk tv.c0 tv.c1 tv.f0 tv.f1 tv.lt
  go_wp2_with fail
  refine (HOF.out _).mono ?_
  rintro e w7 ⟨rfl, hb7⟩
  clear tv0 tv1 tv2 tv3 tv4
  replace hb00 := bl_call hb00 (Nat.le_refl _) hb7
  replace hc00 := bl_call hc00 (Nat.le_refl _) hb7
  replace q0 := q0.call hb7
  replace tv := tv.call hb7
  clear hb7
  go_wp2_with fail
  refine (HIN.out nn0 _).mono ?_
  rintro e w8 (⟨h0, _⟩ | ⟨_, rfl, hb8⟩)
  ·exact absurd h0 HNN.out
  replace hb00 := bl_call hb00 (Nat.le_refl _) hb8
  replace hc00 := bl_call hc00 (Nat.le_refl _) hb8
  replace q0 := q0.call hb8
  replace tv := tv.call hb8
  clear hb8
  obtain ⟨m, hm⟩ : ∃ t, kinv nn0 = t := ⟨_, rfl⟩
  rw [hm] at HWT ⊢
  clear hm
  go_upto_region 9 with fail
  have mv := V2.new w8 (.int .u64 (lo m)) (.int .u64 (hi m)) 36
  have hbA : Below w8.heap.size w8 (w8.alloc (.cells #[.int .u64 (lo m), .int .u64 (hi m)] 36)) := by repeat (first | exact bA | with_reducible assumption | apply bB)
  replace hb00 := bl_call hb00 (Nat.le_refl _) hbA
  replace hc00 := bl_call hc00 (Nat.le_refl _) hbA
  replace q0 := q0.call hbA
  replace tv := tv.call hbA
  clear hbA
  generalize w8.alloc (.cells #[.int .u64 (lo m), .int .u64 (hi m)] 36) = w9 at hb00 hc00 q0 tv mv ⊢
  obtain ⟨mb, hmb⟩ : ∃ z, w8.heap.size = z := ⟨_, rfl⟩
  rw [hmb] at mv
  simp only [hmb]
  clear hmb
  obtain ⟨tv0, tv1, tv2, tv3, tv4⟩ := V2.mk tv.c0 tv.c1 tv.f0 tv.f1 tv.lt
  obtain ⟨mv0, mv1, mv2, mv3, mv4⟩ := V2.mk mv.c0 mv.c1 mv.f0 mv.f1 mv.lt
  go_wp2_with fail
  refine (HMU.out top m _).mono ?_
  rintro e w10 ⟨rfl, hb10⟩
  clear tv0 tv1 tv2 tv3 tv4 mv0 mv1 mv2 mv3 mv4
  replace hb00 := bl_call hb00 (Nat.le_refl _) hb10
  replace hc00 := bl_call hc00 (Nat.le_refl _) hb10
  replace q0 := q0.call hb10
  replace tv := tv.call hb10
  replace mv := mv.call hb10
  clear hb10 mv
  obtain ⟨c, hc⟩ : ∃ c, top * m = c := ⟨_, rfl⟩
  have HWT2 : Hid (∀ k, wt L x k = c * Fm.kpow (rootK f L) k * kinv (x - Fm.kpow (rootK f L) k)) := fun k => by rw [HWT.out, HTP.out, hc]
  rw [hc]
  clear hc HWT HTP
  obtain ⟨tv0, tv1, tv2, tv3, tv4⟩ := V2.mk tv.c0 tv.c1 tv.f0 tv.f1 tv.lt
  go_upto_region 12 with fail
  clear tv0 tv1 tv2 tv3 tv4
  replace q0 := V2.oth q0 (b := tb) (by omega) (.int .u64 (lo c)) (.int .u64 (hi c))
  replace hb00 := bl_st hb00 (b := tb) (by omega) (.int .u64 (lo c)) (.int .u64 (hi c))
  replace hc00 := bl_st hc00 (b := tb) htc (.int .u64 (lo c)) (.int .u64 (hi c))
  replace tv : V2 ((w10.setCell ⟨tb, 0, none⟩ (.int .u64 (lo c))).setCell ⟨tb, 1, none⟩ (.int .u64 (hi c))) tb (.int .u64 (lo c)) (.int .u64 (hi c)) := V2.set tv _ _
  generalize (w10.setCell ⟨tb, 0, none⟩ (.int .u64 (lo c))).setCell ⟨tb, 1, none⟩ (.int .u64 (hi c)) = w11 at hb00 hc00 q0 tv ⊢
  have HQ := Lib.hid q0
  have HTV := Lib.hid tv
  have HPS2 := Lib.hid (HPS.out.later hc00)
  clear q0 tv hc00 HPS htc hwt
  have hbo : Below w11.heap.size w11 w11 := Below.refl _ _
  go_wp2_with fail
  go_loopw [13, 58] (fun vr iv wr => ∃ (k : Nat) (D : Option Addr) (cp : Nat), k ≤ N ∧ iv = .int .i64 k ∧ vr = .slice D k cp ∧ wr.ownsRow w11.heap.size 36 2 (.slice D k cp) k (cellsE (esK (ofF k (wt L x)))) ∧ Below w11.heap.size w11 wr) (fun _ iv _ => N - (intOf iv).toNat)
  case atStart => exact ⟨0, none, 0, Nat.zero_le _, rfl, rfl, World.ownsRow_nil _ _ _ _, hbo⟩
  case round =>
   clear hbo
   obtain ⟨k, D, cp, hk, rfl, rfl, hown, hbo⟩ := hrel
   by_cases hkN : k < N
   ·obtain ⟨b1, o1, hAe, hbw1, hrow1⟩ := HPS2.out.rowOf (by rw [HPL.out]; omega)
    obtain ⟨p, hp9⟩ : ∃ p, Fm.kpow (rootK f L) k = p := ⟨_, rfl⟩
    have hpk := HPA.out k hkN
    have HNZ := HRN.out k HX1.out
    have HWK := HWT2.out k
    rw [hp9] at hpk HNZ HWK
    obtain ⟨d0, d1⟩ := (hrow1.below hbo hbw1).kat hpk
    have HNZ' := Lib.hid HNZ
    have HWK' := Lib.hid HWK
    have g1 : (0 : Int) ≤ (k : Int) := by omega
    have g3 : (k : Int) < (N : Int) := by omega
    have q0 := HQ.out.call hbo
    have tv := HTV.out.call hbo
    have hwz := hbo.size
    subst hAe
    clear hpk hrow1 HNZ HWK hp9
    go_upto_region 16 with fail
    have pv := V2.new wr (.int .u64 (lo p)) (.int .u64 (hi p)) 36
    have hbA : Below wr.heap.size wr (wr.alloc (.cells #[.int .u64 (lo p), .int .u64 (hi p)] 36)) := by repeat (first | exact bA | with_reducible assumption | apply bB)
    replace hbo := bl_call hbo (Nat.le_refl _) hbA
    replace hown := own_call hown hbA
    replace q0 := q0.call hbA
    replace tv := tv.call hbA
    clear hbA
    generalize wr.alloc (.cells #[.int .u64 (lo p), .int .u64 (hi p)] 36) = w12 at hbo hown q0 tv pv ⊢
    clear d0 d1
    obtain ⟨q00, q01, q02, q03, q04⟩ := V2.mk q0.c0 q0.c1 q0.f0 q0.f1 q0.lt
    obtain ⟨pv0, pv1, pv2, pv3, pv4⟩ := V2.mk pv.c0 pv.c1 pv.f0 pv.f1 pv.lt
    go_wp2_with fail
    refine (HSX.out p _).mono ?_
    rintro e w13 ⟨rfl, hb13⟩
    clear q00 q01 q02 q03 q04 pv0 pv1 pv2 pv3 pv4
    replace hbo := bl_call hbo (Nat.le_refl _) hb13
    replace hown := own_call hown hb13
    replace tv := tv.call hb13
    replace pv := pv.call hb13
    clear hb13 q0
    go_wp2_with fail
    refine (HIN.out (x - p) _).mono ?_
    rintro e w14 (⟨h0, _⟩ | ⟨_, rfl, hb14⟩)
    ·exact absurd h0 HNZ'.out
    replace hbo := bl_call hbo (Nat.le_refl _) hb14
    replace hown := own_call hown hb14
    replace tv := tv.call hb14
    replace pv := pv.call hb14
    clear hb14
    obtain ⟨d, hd⟩ : ∃ t, kinv (x - p) = t := ⟨_, rfl⟩
    rw [hd] at HWK' ⊢
    clear hd
    go_upto_region 17 with fail
    have dv := V2.new w14 (.int .u64 (lo d)) (.int .u64 (hi d)) 36
    have hbA : Below w14.heap.size w14 (w14.alloc (.cells #[.int .u64 (lo d), .int .u64 (hi d)] 36)) := by repeat (first | exact bA | with_reducible assumption | apply bB)
    replace hbo := bl_call hbo (Nat.le_refl _) hbA
    replace hown := own_call hown hbA
    replace tv := tv.call hbA
    replace pv := pv.call hbA
    clear hbA
    generalize w14.alloc (.cells #[.int .u64 (lo d), .int .u64 (hi d)] 36) = w15 at hbo hown tv pv dv ⊢
    go_upto_region 19 with fail
    obtain ⟨tv0, tv1, tv2, tv3, tv4⟩ := V2.mk tv.c0 tv.c1 tv.f0 tv.f1 tv.lt
    obtain ⟨pv0, pv1, pv2, pv3, pv4⟩ := V2.mk pv.c0 pv.c1 pv.f0 pv.f1 pv.lt
    obtain ⟨dv0, dv1, dv2, dv3, dv4⟩ := V2.mk dv.c0 dv.c1 dv.f0 dv.f1 dv.lt
    refine region_G (n := 9) (m := 11) (f := 9) (by kernel_rfl) (by kernel_rfl) rfl ?_
    refine WpG.vD 0 (some 74) ?_ rfl rfl (by kernel_rfl) (fun _ _ _ h => h) rfl (fun wz hwz => ?_) ?_
    rotate_left
    ·go_simp; try (with_reducible rfl)
    simp only [Zp, Zq, Zr, Zs]
    refine WpG.vD 1 (some 75) ?_ rfl rfl (by kernel_rfl) (fun _ _ _ h => h) rfl (fun wz hwz => ?_) ?_
    rotate_left
    ·go_simp; try (with_reducible rfl)
    simp only [Zp, Zq, Zr, Zs]
    refine WpG.vD 2 (some 76) ?_ rfl rfl (by kernel_rfl) (fun _ _ _ h => h) rfl (fun wz hwz => ?_) ?_
    rotate_left
    ·go_simp; try (with_reducible rfl)
    simp only [Zp, Zq, Zr, Zs]
    refine WpG.vD 3 (some 77) ?_ rfl rfl (by kernel_rfl) (fun _ _ _ h => h) rfl (fun wz hwz => ?_) ?_
    rotate_left
    ·(obtain ⟨hcz, hfz⟩ := bcell (hwz); go_simp; try (with_reducible rfl))
    simp only [Zp, Zq, Zr, Zs]
    refine WpG.vD 4 (some 78) ?_ rfl rfl (by kernel_rfl) (fun _ _ _ h => h) rfl (fun wz hwz => ?_) ?_
    rotate_left
    ·(obtain ⟨hcz, hfz⟩ := bcell (hwz); go_simp; try (with_reducible rfl))
    simp only [Zp, Zq, Zr, Zs]
    refine WpG.takeD 5 (some 79) rfl rfl (by kernel_rfl) (fun _ _ _ h => h) (.call rfl (fun wz hwz => HMU.out c p wz) (fun wz hwz => ?_)) ?_
    ·go_simp; try (with_reducible rfl)
    simp only [Zp, Zq, Zr, Zs]
    refine WpG.vD 6 (some 80) ?_ rfl rfl (by kernel_rfl) (fun _ _ _ h => h) rfl (fun wz hwz => ?_) ?_
    rotate_left
    ·(obtain ⟨hcz, hfz⟩ := bcell (hwz); go_simp; try (with_reducible rfl))
    simp only [Zp, Zq, Zr, Zs]
    refine WpG.takeD 7 (some 81) rfl rfl (by kernel_rfl) (fun _ _ _ h => h) (.call rfl (fun wz hwz => HMU.out (c * p) d wz) (fun wz hwz => ?_)) ?_
    ·go_simp; try (with_reducible rfl)
    simp only [Zp, Zq, Zr, Zs]
    refine WpG.oneD 8 (some 82) rfl rfl (by kernel_rfl) (fun b : Nat => Value.slice (some ⟨b, 0, none⟩) 1 1) (fun b wz => w15.heap.size ≤ b ∧ BlkE wz b [eK (c * p * d)]) (fun _ _ _ h hb => ⟨h.1, h.2.call hb⟩) (Fresh.slice 1 1 [.int .u64 (lo (c * p * d)), .int .u64 (hi (c * p * d))] 36 rfl (fun wz hwz => (hwz).size) (fun wz hwz => by go_simp; try (with_reducible rfl)) (R := fun b wz => BlkE wz b [eK (c * p * d)]) (fun wz hwz => BlkE.new wz [eK (c * p * d)] _ rfl)) (fun nb w0 hw0 hR0 => ?_)
    simp only [Zp, Zq, Zr, Zs]
    refine WpG.done (by kernel_rfl) (fun w16 hS => ?_)
    (try simp only [List.drop_succ_cons]); (try simp only [List.drop_zero]); (try simp only [Nat.reduceSub]); (try simp only [List.take_succ_cons]); (try simp only [List.take_zero])
    obtain ⟨hb16, hnb, hE⟩ := hS
    clear tv0 tv1 tv2 tv3 tv4 pv0 pv1 pv2 pv3 pv4 dv0 dv1 dv2 dv3 dv4
    obtain ⟨u, hu⟩ : ∃ u, c * p * d = u := ⟨_, rfl⟩
    rw [hu] at hE
    have HU : Hid (wt L x k = u) := by show _ = _; rw [HWK'.out, hu]
    have hb15 := hbo.trans (hb16.mono hbo.size)
    have HOW := Lib.hid (own_call hown hb16)
    have HR1 := Lib.hid (show 0 < 1 → ∃ b o, (some ⟨nb, 0, none⟩ : Option Addr) = some ⟨b, o, none⟩ ∧ RowE w16 b o [eK u] from fun _ => ⟨_, _, rfl, hE.rowE⟩)
    have hk1 : k + 1 ≤ 1099511627776 := by omega
    have hbase : w11.heap.size ≤ w16.heap.size := hb15.size
    clear hown hE hu hb16 hnb hw0 hR0
    go_upto_region 20 with (at_builtin; (refine wpList_append_E rfl (.tmp 74) (.tmp 82) rfl w11.heap.size _ k (esK (ofF k (wt L x))) rfl HOW.out (some ⟨nb, 0, none⟩) 1 1 [eK u] rfl rfl HR1.out hk1 hbase ?_; intro v2 w2 hown2 hg2 hat2; have hb2 : Below w11.heap.size w11 w2 := hb15.trans ((Below.refl _ _).grown hg2 hbase (fun q hq => (HOW.out.lt q hq).1)); obtain ⟨g2, cap2, hv2⟩ := own_slice hown2; rw [hv2]))
    rw [hv2, show esK (ofF k (wt L x)) ++ [eK u] = esK (ofF (k + 1) (wt L x)) by rw [HSN.out, esK_append, HU.out]; rfl] at hown2
    clear HOW HR1 hg2 hat2 hbase
    go_wp2_with fail
    go_roundw
    case rel => exact ⟨k + 1, _, cap2, by omega, by go_num, rfl, hown2, hb2⟩
    case measure => simp [intOf]; omega
   ·obtain hke : k = N := by omega
    subst hke
    go_wp2_with fail
    go_ret2
    exact (HGO.out _ _).2 (.inr ⟨HX1.out, _, rfl, by rw [HWL.out, HWS.out]; exact own_mono hown hb00.size, bl_call hb00 (Nat.le_refl _) hbo⟩)
theorem poly_Weights (L : Nat) (hL : L ≤ 10) (x : Fin (Pm f)) (w : World) :
  Calls Tryz.prog 63 #[.int .u8 f, .int .i64 L, vK x] w (RetWts L x w) := by
 have h := poly_WeightsL hf L hL (lo x) (hi x) (okE_eK x) w
 rwa [kL_lohi] at h
end

end Go.Proofs.YtfbfbijkkbflkaaGreatDoor

namespace Go.Proofs.YtfbfbijkkbflkaaGreatDoor
open Go.RowKit Fm
set_option linter.unusedVariables false
set_option maxRecDepth 100000

section
variable {f : Nat} (hf : IsF f)
include hf
set_option maxHeartbeats 8000000 in
theorem pair_MulK (va vb : Value) (a b : KL f) (w : World) (ha : SlK w w.heap.size va a) (hb : SlK w w.heap.size vb b) (hl : a.length = b.length) (hn : a.length ≤ 100000) :
  Calls Tryz.prog 61 #[va, vb, .func (.func 79) #[.int .u8 f] #[]] w (RetBlk0 (ofF a.length fun i => a.getD i 0 * b.getD i 0) w) := by
 have HMU := Lib.hid (fun y z wz => field_MulK hf y z wz)
 obtain ⟨A, c, rfl, hc, hcm, hA⟩ := ha
 obtain ⟨B, d, rfl, hd, hdm, hB⟩ := hb
 have HL := Lib.hid hl
 obtain ⟨n, hnn⟩ : ∃ n, a.length = n := ⟨_, rfl⟩
 have hnb : b.length = n := by omega
 have HAL := Lib.hid hnn
 have HBL := Lib.hid hnb
 have hmk := make_elem n (by omega)
 have HA := Lib.hid hA
 have HB := Lib.hid hB
 rw [hnn] at hn ⊢
 rw [hnb]
 clear hA hB hl hnn hnb
 have HEND : Hid (∀ S : KL f, S.length = n → (∀ j, j < n → S.getD j 0 = a.getD j 0 * b.getD j 0) → S = ofF n fun i => a.getD i 0 * b.getD i 0) := fun S h1 h2 => eq_ofF h1 h2
 have HRT : Hid (∀ (e : Ending) (w' : World), RetBlk0 (ofF n fun i => a.getD i 0 * b.getD i 0) w e w' ↔ ∃ g, e = .returned (.tuple #[.slice (some ⟨g, 0, none⟩) n n, .int .i64 0]) ∧ RwK w' g (ofF n fun i => a.getD i 0 * b.getD i 0) ∧ w.heap.size ≤ g ∧ Below w.heap.size w w') := fun e w' => by
  unfold RetBlk0
  rw [show (ofF n fun i => a.getD i 0 * b.getD i 0).length = n from ofF_length ..]
 have hb : ((n : Int) != (n : Int)) = false := by simp
 go_enter Tryz.func61, Tryz.ntmps61
 go_wp2_with fail
 have hB0 := RwK.new w (List.replicate n (0 : Fin (Pm f))) (cellsE (List.replicate n (0, 0))).toArray (by unfold esK; rw [List.map_replicate, eK_zero]) 36
 have hb00 : Below w.heap.size w (w.alloc (.cells (cellsE (List.replicate n (0, 0))).toArray 36)) := by repeat (first | exact bA | with_reducible assumption | apply bB | (refine bC ?_ (by dsimp only; omega)) | apply bD | apply bE | (refine bF ?_ (by assumption)))
 generalize w.alloc (.cells (cellsE (List.replicate n (0, 0))).toArray 36) = w1 at hB0 hb00 ⊢
 clear hmk
 go_loopw [20] (fun kv wr => ∃ (k : Nat) (S : KL f), k ≤ n ∧ kv = .int .i64 k ∧ Hid (S.length = n ∧ ∀ j, j < k → S.getD j 0 = a.getD j 0 * b.getD j 0) ∧ RwK wr w.heap.size S ∧ Below w.heap.size w wr) (fun kv _ => n - (intOf kv).toNat)
 case atStart => exact ⟨0, _, Nat.zero_le _, rfl, ⟨List.length_replicate .., fun j h => absurd h (Nat.not_lt_zero _)⟩, hB0, hb00⟩
 case round =>
  clear hB0 hb00
  obtain ⟨k, S, hk, rfl, hS, hR, hb00⟩ := hrel
  by_cases hkn : k < n
  ·have g1 : (0 : Int) ≤ (k : Int) := by omega
   have g3 : (k : Int) < (n : Int) := by omega
   have HSL : Hid (S.length = n) := hS.out.1
   have HS1 : Hid (∀ j, j < k → S.getD j 0 = a.getD j 0 * b.getD j 0) := hS.out.2
   obtain ⟨b1, o1, hAe, hbw1, hrow1⟩ := HA.out (by rw [HAL.out]; omega)
   obtain ⟨b2, o2, hBe, hbw2, hrow2⟩ := HB.out (by rw [HBL.out]; omega)
   obtain ⟨y, hy⟩ : ∃ z, a[k]? = some z := ⟨_, List.getElem?_eq_getElem (by rw [HAL.out]; exact hkn)⟩
   obtain ⟨z, hz⟩ : ∃ z, b[k]? = some z := ⟨_, List.getElem?_eq_getElem (by rw [HBL.out]; exact hkn)⟩
   have HPR : Hid (a.getD k 0 * b.getD k 0 = y * z) := by show _ = _; rw [List.getD_eq_getElem?_getD, hy, List.getD_eq_getElem?_getD, hz]; rfl
   obtain ⟨d0, d1⟩ := (hrow1.below hb00 hbw1).kat hy
   obtain ⟨e0, e1⟩ := (hrow2.below hb00 hbw2).kat hz
   have l1 : b1 < wr.heap.size := Nat.lt_of_lt_of_le hbw1 hb00.size
   have l2 : b2 < wr.heap.size := Nat.lt_of_lt_of_le hbw2 hb00.size
   subst hAe
   subst hBe
   obtain ⟨y9, hy9⟩ : ∃ x, S[k]? = some x := ⟨_, List.getElem?_eq_getElem (by have := HSL.out; omega)⟩
   have HY9 := Lib.hid hy9
   obtain ⟨c0, c1⟩ := hR.at hy9
   have g9 := hR.lt
   clear hy hz hrow1 hrow2 hy9 hS
   go_upto_region 7 with fail
   refine region_B (n := 12) (m := 14) (f := 12) (by kernel_rfl) (by kernel_rfl) rfl ?_
   refine WpH.vD 0 (some 23) ?_ rfl rfl (by kernel_rfl) (fun _ _ _ h => h) rfl (fun wz hwz => ?_) ?_
   rotate_left
   ·go_simp; try (with_reducible rfl)
   simp only [Zp, Zq, Zr, Zs]
   refine WpH.vD 1 (some 24) ?_ rfl rfl (by kernel_rfl) (fun _ _ _ h => h) rfl (fun wz hwz => ?_) ?_
   rotate_left
   ·go_simp; try (with_reducible rfl)
   simp only [Zp, Zq, Zr, Zs]
   refine WpH.vD 2 (some 25) ?_ rfl rfl (by kernel_rfl) (fun _ _ _ h => h) rfl (fun wz hwz => ?_) ?_
   rotate_left
   ·go_simp; try (with_reducible rfl)
   simp only [Zp, Zq, Zr, Zs]
   refine WpH.vD 3 (some 26) ?_ rfl rfl (by kernel_rfl) (fun _ _ _ h => h) rfl (fun wz hwz => ?_) ?_
   rotate_left
   ·go_simp; try (with_reducible rfl)
   simp only [Zp, Zq, Zr, Zs]
   refine WpH.vD 4 (some 27) ?_ rfl rfl (by kernel_rfl) (fun _ _ _ h => h) rfl (fun wz hwz => ?_) ?_
   rotate_left
   ·go_simp; try (with_reducible rfl)
   simp only [Zp, Zq, Zr, Zs]
   refine WpH.vD 5 (some 28) ?_ rfl rfl (by kernel_rfl) (fun _ _ _ h => h) rfl (fun wz hwz => ?_) ?_
   rotate_left
   ·go_simp; try (with_reducible rfl)
   simp only [Zp, Zq, Zr, Zs]
   refine WpH.vD 6 (some 29) ?_ rfl rfl (by kernel_rfl) (fun _ _ _ h => h) rfl (fun wz hwz => ?_) ?_
   rotate_left
   ·(obtain ⟨hcz, hfz⟩ := bcell hwz; go_simp; try (with_reducible rfl))
   simp only [Zp, Zq, Zr, Zs]
   refine WpH.vD 7 (some 30) ?_ rfl rfl (by kernel_rfl) (fun _ _ _ h => h) rfl (fun wz hwz => ?_) ?_
   rotate_left
   ·go_simp; try (with_reducible rfl)
   simp only [Zp, Zq, Zr, Zs]
   refine WpH.vD 8 (some 31) ?_ rfl rfl (by kernel_rfl) (fun _ _ _ h => h) rfl (fun wz hwz => ?_) ?_
   rotate_left
   ·go_simp; try (with_reducible rfl)
   simp only [Zp, Zq, Zr, Zs]
   refine WpH.vD 9 (some 32) ?_ rfl rfl (by kernel_rfl) (fun _ _ _ h => h) rfl (fun wz hwz => ?_) ?_
   rotate_left
   ·go_simp; try (with_reducible rfl)
   simp only [Zp, Zq, Zr, Zs]
   refine WpH.vD 10 (some 33) ?_ rfl rfl (by kernel_rfl) (fun _ _ _ h => h) rfl (fun wz hwz => ?_) ?_
   rotate_left
   ·(obtain ⟨hcz, hfz⟩ := bcell hwz; go_simp; try (with_reducible rfl))
   simp only [Zp, Zq, Zr, Zs]
   refine WpH.takeD 11 (some 34) rfl rfl (by kernel_rfl) (fun _ _ _ h => h) (.call rfl (fun wz hwz => HMU.out y z wz) (fun wz hwz => ?_)) ?_
   ·go_simp; try (with_reducible rfl)
   simp only [Zp, Zq, Zr, Zs]
   refine WpH.doneB (by kernel_rfl) (fun w7 hw7 => ?_)
   (try simp only [List.drop_succ_cons]); (try simp only [List.drop_zero]); (try simp only [Nat.reduceSub]); (try simp only [List.take_succ_cons]); (try simp only [List.take_zero])
   clear d0 d1 e0 e1 l1 l2 c0 c1 g9
   replace hb00 := bl_call hb00 (Nat.le_refl _) hw7
   replace hR := hR.call hw7
   clear hw7
   obtain ⟨c0, c1⟩ := hR.at HY9.out
   obtain ⟨f0, f1⟩ := hR.frz (i := k) (by have := HSL.out; omega)
   have g9 := hR.lt
   go_wp2_with fail
   go_roundw
   case rel => exact ⟨k + 1, _, by omega, by go_num, ⟨by rw [List.length_set]; exact HSL.out, fun j hj => by
    rw [set_getD _ _ _ (by have := HSL.out; omega)]
    by_cases he : j = k
    ·rw [if_pos he, he, HPR.out]
    ·rw [if_neg he]
     exact HS1.out j (by omega)⟩, hR.set k (by have := HSL.out; omega) (y * z), by repeat (first | exact bA | with_reducible assumption | apply bB | (refine bC ?_ (by dsimp only; omega)) | apply bD | apply bE | (refine bF ?_ (by assumption)))⟩
   case measure => simp [intOf]; omega
  ·obtain hke : k = n := by omega
   subst hke
   have HT := Lib.hid (HEND.out S hS.out.1 hS.out.2)
   rw [HT.out] at hR
   go_wp2_with fail
   go_ret2
   exact (HRT.out _ _).2 ⟨_, rfl, hR, Nat.le_refl _, hb00⟩

def RetK0 {f : Nat} (x : Fin (Pm f)) (w : World) (e : Ending) (w' : World) : Prop := e = .returned (.tuple #[vK x, .int .i64 0]) ∧ Below w.heap.size w w'

set_option maxHeartbeats 4000000 in
theorem field_Dot (va vb : Value) (a b : KL f) (w : World) (ha : SlK w w.heap.size va a) (hb : SlK w w.heap.size vb b) (hl : a.length = b.length) (hn : a.length ≤ 100000) :
  Calls Tryz.prog 69 #[.int .u8 f, va, vb] w (RetK0 (ksum (ofF a.length fun i => a.getD i 0 * b.getD i 0)) w) := by
 have HPM : Hid (∀ wz, Below w.heap.size w wz → Calls Tryz.prog 61 #[va, vb, .func (.func 79) #[.int .u8 f] #[]] wz (RetBlk0 (ofF a.length fun i => a.getD i 0 * b.getD i 0) wz)) := fun wz h => pair_MulK hf va vb a b wz (ha.later h) (hb.later h) hl hn
 have HSM := Lib.hid (fun v (l : KL f) wz h1 h2 => field_SumK hf v l wz h1 h2)
 have HPL : Hid ((ofF a.length fun i => a.getD i 0 * b.getD i 0).length ≤ 100000) := by show _ ≤ _; rw [ofF_length]; exact hn
 obtain ⟨A, c, rfl, _, _, _⟩ := ha
 obtain ⟨B, d, rfl, _, _, _⟩ := hb
 generalize (ofF a.length fun i => a.getD i 0 * b.getD i 0) = P at *
 obtain ⟨s, hs⟩ : ∃ s, ksum P = s := ⟨_, rfl⟩
 rw [hs]
 have HS := Lib.hid hs
 clear hs hl
 have hmf : ∀ (fn : Fn) (first cap : Array Value) (w : World), (Instr.makeFunc fn first cap).run Tryz.prog w = .ok (.func fn first cap) w := fun _ _ _ _ => rfl
 go_enter Tryz.func69, Tryz.ntmps69
 go_upto_region 1 with fail
 have s0 := V2.new w (.int .u64 0) (.int .u64 0) 36
 have hb00 : Below w.heap.size w (w.alloc (.cells #[(.int .u64 0), (.int .u64 0)] 36)) := by repeat (first | exact bA | with_reducible assumption | apply bB)
 have hsz : w.heap.size + 1 ≤ (w.alloc (.cells #[(.int .u64 0), (.int .u64 0)] 36)).heap.size := by simp only [World.size_alloc]; omega
 generalize (w.alloc (.cells #[(.int .u64 0), (.int .u64 0)] 36)) = w1 at s0 hb00 hsz ⊢
 go_wp2_with fail
 refine (HPM.out _ hb00).mono ?_
 rintro e w2 ⟨g, rfl, hR, _, hb2⟩
 replace hb00 := bl_call hb00 (Nat.le_refl _) hb2
 replace s0 := s0.call hb2
 clear hb2
 have ss := hR.sl (n := P.length) (c := P.length) rfl (Nat.le_refl _) (by have := HPL.out; omega)
 clear hR
 go_wp2_with fail
 refine (HSM.out _ P _ ss (by have := HPL.out; omega)).mono ?_
 rintro e w3 ⟨rfl, hb3⟩
 rw [HS.out]
 replace hb00 := bl_call hb00 (Nat.le_refl _) hb3
 replace s0 := s0.call hb3
 clear hb3
 obtain ⟨s00, s01, s02, s03, s04⟩ := V2.mk s0.c0 s0.c1 s0.f0 s0.f1 s0.lt
 go_wp2_with fail
 refine bodyPost_ret (results_v2_tmp (b := w.heap.size) (u := .int .u64 (lo s)) (v := .int .u64 (hi s)) ?_ rfl rfl) rfl ?_
 ·exact V2.set s0 _ _
 ·exact ⟨rfl, by repeat (first | exact bA | with_reducible assumption | apply bB | (refine bC ?_ (by dsimp only; omega)) | apply bD | apply bE | (refine bF ?_ (by assumption)))⟩
end

end Go.Proofs.YtfbfbijkkbflkaaGreatDoor

namespace Go.Proofs.YtfbfbijkkbflkaaGreatDoor
open Go.RowKit Fm
set_option linter.unusedVariables false
set_option maxRecDepth 100000

section
variable {f : Nat}
theorem ksum_ofF (g : Nat → Fin (Pm f)) : ∀ n, ksum (ofF n g) = sm g n
 | 0 => rfl
 | n + 1 => by
  have h : ofF (n + 1) g = ofF n g ++ [g n] := by
   unfold ofF
   rw [List.range_succ, List.map_append]
   rfl
  rw [h]
  unfold ksum
  rw [List.foldl_append]
  have ih := ksum_ofF g n
  unfold ksum at ih
  rw [ih]
  rfl
theorem lag_sum (L : Nat) (hL : L ≤ 10) (x : Fin (Pm f)) (v : KL f) (hv : v.length = 2 ^ L) (hx : Fm.kpow x (2 ^ L) ≠ 1) : ksum (ofF (2 ^ L) fun i => (wts L x).getD i 0 * v.getD i 0) = ev x (coefsK L v) := by
 rw [ksum_ofF]
 have hr := rt_root f L (by omega)
 have hd : ∀ k, k < 2 ^ L → (x - Fm.kpow (rootK f L) k) * kinv (x - Fm.kpow (rootK f L) k) = 1 := fun k _ => mul_kinvK _ fun h2 => by
  have h3 : x = Fm.kpow (rootK f L) k := by grind
  apply hx
  rw [h3, ← Fm.kpow_mul, Nat.mul_comm, Fm.kpow_mul, hr.one, one_kpow]
 have h := lagrange (x := x) (m := Fm.kinv (nn f (2 ^ L))) hr (mul_kinv _ hr.ne_zero) v hv (fun k => kinv (x - Fm.kpow (rootK f L) k)) hd
 refine Eq.trans (sm_congr fun k hk => ?_) h
 unfold wts
 rw [ofF_getD, if_pos hk]
 unfold wt
 rw [kinv_fm (nK f (2 ^ L)), nn_nK]

variable (hf : IsF f)
include hf
end

end Go.Proofs.YtfbfbijkkbflkaaGreatDoor

namespace Go.Proofs.YtfbfbijkkbflkaaGreatDoor
open Go.RowKit Fm
set_option linter.unusedVariables false
set_option maxRecDepth 100000

section
variable {f : Nat}
theorem lineA_at (s : Fin (Pm f)) (args : Nat → KL f) (i n t : Nat) (ht : t < n) : (lineA s args i n).getD (t + 1) 0 = (args t).getD i 0 := by
 show (((List.range n).map fun t => (args t).getD i 0)).getD t 0 = _
 rw [List.getD_eq_getElem?_getD, List.getElem?_map, List.getElem?_range ht]
 rfl
theorem padTo_length {L : Nat} {l : KL f} (h : l.length ≤ 2 ^ L) : (padTo L l).length = 2 ^ L := by
 unfold padTo
 rw [List.length_append, List.length_replicate]
 omega
theorem padTo_getD (L : Nat) (l : KL f) (i : Nat) : (padTo L l).getD i 0 = l.getD i 0 := by
 unfold padTo
 rw [List.getD_eq_getElem?_getD, List.getD_eq_getElem?_getD]
 by_cases hi : i < l.length
 ·rw [List.getElem?_append_left hi]
 ·rw [List.getElem?_append_right (by omega), List.getElem?_eq_none (l := l) (by omega)]
  by_cases h2 : i - l.length < 2 ^ L - l.length
  ·rw [List.getElem?_replicate, if_pos h2]
   rfl
  ·rw [List.getElem?_replicate, if_neg h2]
theorem ev_coefs {L : Nat} (hL : L ≤ 32) (v : KL f) (hv : v.length = 2 ^ L) (k : Nat) (hk : k < 2 ^ L) : ev (Fm.kpow (rootK f L) k) (coefsK L v) = v.getD k 0 := by
 have h := valsK_coefs hL v hv
 have h2 : (valsK L (coefsK L v)).getD k 0 = ev (Fm.kpow (rootK f L) k) (coefsK L v) := by
  unfold valsK vals
  rw [ofF_getD, if_pos hk]
 rw [← h2, h]
theorem range_getD (l : KL f) (a : Nat) (h : l.length = a) : (List.range a).map (fun i => l.getD i 0) = l := by
 refine List.ext_getElem (by rw [List.length_map, List.length_range, h]) fun i h1 h2 => ?_
 rw [List.getElem_map, List.getElem_range, List.getD_eq_getElem?_getD, List.getElem?_eq_getElem h2]
 rfl
theorem polysA_at {L : Nat} (hL : L ≤ 32) (seeds : KL f) (args : Nat → KL f) (n a k : Nat) (hn : n + 1 ≤ 2 ^ L) (hk : k < n) (ha : (args k).length = a) :
  (polysA L seeds args n a).map (ev (Fm.kpow (rootK f L) (k + 1))) = args k := by
 unfold polysA
 rw [List.map_map]
 refine Eq.trans (List.map_congr_left fun i hi => ?_) (range_getD (args k) a ha)
 show ev _ (coefsK L _) = _
 rw [ev_coefs hL _ (padTo_length (by rw [lineA_length]; exact hn)) (k + 1) (by omega), padTo_getD, lineA_at _ _ _ _ _ hk]
theorem gpoly_at {L : Nat} (hL : L ≤ 32) (g : Gad f) (seeds : KL f) (args : Nat → KL f) (n k : Nat) (hn : n + 1 ≤ 2 ^ L) (hk : k < n) (ha : (args k).length = g.arity) :
  ev (Fm.kpow (rootK f L) (k + 1)) (gpoly g (polysA L seeds args n g.arity)) = gval g (args k) := by
 rw [ev_gpoly, polysA_at hL seeds args n g.arity k hn hk ha]
end

end Go.Proofs.YtfbfbijkkbflkaaGreatDoor

namespace Go.Proofs.YtfbfbijkkbflkaaGreatDoor
open Go.RowKit Fm
set_option linter.unusedVariables false
set_option maxRecDepth 100000

section
variable {f : Nat} (hf : IsF f)
include hf

set_option maxHeartbeats 4000000 in
theorem query_closure (E : Nat → Prop) (wE : World) (pb cb fb qb tb wb sz : Nat) (vp vt : Value) (P T : KL f) (hC : CapQ E wE pb fb qb tb wb vp vt P T) (hcE : ¬ E cb)
  (lsOf : Nat → List (KL f)) (k : Nat) (l : KL f) (hlen : ∀ (i : Nat) (x : KL f), (lsOf k)[i]? = some x → x.length = k + 1) (hk : k + 1 < sz) (hsz : sz ≤ 4096) (hll : (lsOf k).length = l.length) (ha1 : 1 ≤ l.length) (ha2 : l.length ≤ 32) (hstep : apn (lsOf k) l (lsOf k).length = lsOf (k + 1))
  (hP : P.length ≤ 100000) (x : Fin (Pm f)) (hx : T[k + 1]? = some x)
  (D : Nat → Prop) (w : World) (va : Value) (hst : St (InvQ wb sz cb E wE lsOf k) D w) (hl : SlX D w va l) :
  Calls Tryz.prog 65 #[va, .pointer (some ⟨pb, 0, none⟩), .pointer (some ⟨cb, 0, none⟩), .pointer (some ⟨fb, 0, none⟩), .pointer (some ⟨qb, 0, none⟩), .pointer (some ⟨tb, 0, none⟩)] w fun e w' => e = .returned (.tuple #[vK (horner x P), .int .i64 0]) ∧
   ∃ D', St (InvQ wb sz cb E wE lsOf (k + 1)) D' w' ∧ (∀ q, D' q → D q ∨ w.heap.size ≤ q) ∧ Exc D w.heap.size w w' := by
 obtain ⟨lb, cp, vs, hW, hDD, hEW, hAg, hcc⟩ := hst.here
 have hWD : ∀ q, WrD wb lb vs q → D q := fun q hq => (hDD q).2 (.inl hq)
 have hltE := hC.lt
 have hcD : D cb := (hDD cb).2 (.inr (.inl rfl))
 have hcW : ¬ WrD wb lb vs cb := hEW cb (.inl rfl)
 have HASK : Hid (∀ wz, Below w.heap.size w wz → Calls Tryz.prog 66 #[.pointer (some ⟨wb, 0, none⟩), va] wz (RetAsk wb lb cp sz vs (lsOf k) l wz)) := fun wz hb => proof_ask wb lb cp sz k vs (lsOf k) l va wz (hW.call hb) hlen hk hsz ((hl.call hb).set fun b hb => .inl (hWD b hb)) hll.symm (by omega) (by omega)
 obtain ⟨z, hz⟩ : ∃ z, horner x P = z := ⟨_, rfl⟩
 have HAT : Hid (∀ wz, SlK wz wz.heap.size vp P → Calls Tryz.prog 67 #[.int .u8 f, vp, .agg #[.int .u64 (lo x), .int .u64 (hi x)]] wz (RetK z wz)) := fun wz hs => by
  rw [← hz]
  exact poly_At hf vp P x wz hs (by omega)
 rw [hz]
 obtain ⟨h1, h2, h3, h4, h5, h6⟩ := hC.at hAg
 have HCC := Lib.hid hC
 have HAG := Lib.hid hAg
 have HST := Lib.hid hst
 have HSL := Lib.hid hl
 have HW := Lib.hid hW
 have HD := Lib.hid hDD
 have HEW := Lib.hid hEW
 have HSTEP := Lib.hid hstep
 have HLT := Lib.hid hltE
 have HWD := Lib.hid hWD
 have HCV := Lib.hid hcc
 have HCD := Lib.hid hcD
 have HCW := Lib.hid hcW
 have HCE := Lib.hid hcE
 have HX := Lib.hid hx
 have hk4 : k ≤ 4096 := by omega
 obtain ⟨A, cl, cc, rfl⟩ : ∃ (A : Option Addr) (a c : Nat), va = .slice A a c := hl.isSl
 obtain ⟨A2, c2, rfl, _, _, _⟩ := id h5
 obtain ⟨A3, c3, rfl, hc31, hc32, hA3⟩ := id h6
 obtain ⟨b3, o3, rfl, _, _⟩ := hA3 (by have := (List.getElem?_eq_some_iff.1 hx).1; omega)
 have hkT : (k : Int) + 1 < (T.length : Int) := by have := (List.getElem?_eq_some_iff.1 hx).1; omega
 have hkT0 : (0 : Int) ≤ (k : Int) + 1 := by omega
 clear hz hll ha1 ha2 hstep hk hsz hlen hst hl hW hDD hEW hAg hC h1 h2 h3 h4 h5 h6 hltE hWD hcc hcD hcW hcE hx hA3
 go_enter Tryz.func65, Tryz.ntmps65
 go_upto_region 1 with fail
 have s0 := V2.new w (.int .u64 0) (.int .u64 0) 36
 have hbA : Below w.heap.size w (w.alloc (.cells #[.int .u64 0, .int .u64 0] 36)) := (Below.refl _ _).alloc (Nat.le_refl _) _
 have hsz1 : (w.alloc (.cells #[.int .u64 0, .int .u64 0] 36)).heap.size = w.heap.size + 1 := World.size_alloc _ _
 generalize w.alloc (.cells #[.int .u64 0, .int .u64 0] 36) = w1 at s0 hbA hsz1 ⊢
 have hAg1 : Agr E wE w1 := HAG.out.exc (S := fun _ => False) (exc_of hbA) (fun q _ h => h) HLT.out
 have hs0 : ¬ WrD wb lb vs w.heap.size := fun h => by have := HW.out.lt _ h; omega
 have hc1 := HCV.out.call hbA
 have hcl : cb < w.heap.size := HCV.out.lt
 obtain ⟨p0, p1, p2⟩ := (HCC.out.at hAg1).1.get1
 have HAG1 := Lib.hid hAg1
 have HS0 := Lib.hid hs0
 have HS1 := Lib.hid hsz1
 have HBA := Lib.hid hbA
 have HV0 := Lib.hid s0
 have HC1 := Lib.hid hc1
 clear hAg1 hs0 hsz1 hbA s0 hc1
 go_upto_region 2 with (go_at_call 66; refine (HASK.out _ HBA.out).mono ?_; rintro e w2 ⟨rfl, us, hW2, hD2, hE2⟩; clear p0 p1 p2)
 have hAg2 : Agr E wE w2 := HAG1.out.exc hE2 (fun q hq => HEW.out q (.inr hq)) HLT.out
 have hE02 : Exc D w.heap.size w w2 := (exc_of HBA.out).more hE2 (fun q hq => .inl (HWD.out q hq))
 have hv2 : V2 w2 w.heap.size (.int .u64 0) (.int .u64 0) := HV0.out.exc HS0.out hE2
 have hc2 : Vs w2 cb [.int .i64 (k : Nat)] := HC1.out.exc HCW.out hE2
 have hs12 := hE2.size
 have hs1 := HS1.out
 have hcW2 : ¬ WrD wb lb us cb := fun h => (hD2 cb h).elim HCW.out (fun h => by omega)
 -- the count of calls goes up
 obtain ⟨c0, c1, c2⟩ := hc2.get1
 have hw1 : IntKind.i64.wrap ((k : Int) + 1) = (k : Int) + 1 := IntWalk.i64_in _ (by omega)
 have HV2 := Lib.hid hv2
 have HC2 := Lib.hid hc2
 have HE02 := Lib.hid hE02
 have HAG2 := Lib.hid hAg2
 have HW2 := Lib.hid hW2
 have HD2 := Lib.hid hD2
 have HCW2 := Lib.hid hcW2
 have HS12' := Lib.hid hs12
 have HS12 := Lib.hid hs12
 clear hv2 hc2 hE02 hAg2 hW2 hD2 hE2 hcW2 hs12 hs1
 go_upto_region 5 with fail
 have hc3 : Vs (w2.setCell ⟨cb, 0, none⟩ (.int .i64 ((k : Int) + 1))) cb [.int .i64 ((k + 1 : Nat) : Int)] := HC2.out.put 0 (by simp) _
 have hE3 : Exc D w.heap.size w (w2.setCell ⟨cb, 0, none⟩ (.int .i64 ((k : Int) + 1))) := HE02.out.trans ⟨rfl, rfl, rfl, by simp [World.setCell], fun q hq hn => Below.heap_setCell _ _ _ _ (fun e => hn (e ▸ HCD.out))⟩
 have hAg3 : Agr E wE (w2.setCell ⟨cb, 0, none⟩ (.int .i64 ((k : Int) + 1))) := fun q hq => (Below.heap_setCell _ _ _ _ (fun e => HCE.out (by have e2 : q = cb := e; rw [← e2]; exact hq))).trans (HAG2.out q hq)
 have hW3 : WrI wb lb cp sz us (apn (lsOf k) l (lsOf k).length) (w2.setCell ⟨cb, 0, none⟩ (.int .i64 ((k : Int) + 1))) := HW2.out.same fun q hq => Below.heap_setCell _ _ _ _ (fun e => HCW2.out (by have e2 : q = cb := e; rw [← e2]; exact hq))
 have hv3 : V2 (w2.setCell ⟨cb, 0, none⟩ (.int .i64 ((k : Int) + 1))) w.heap.size (.int .u64 0) (.int .u64 0) := ((Vs.of2 HV2.out).far (p := ⟨cb, 0, none⟩) (by dsimp only; omega) _).to2
 have hs3 : w1.heap.size ≤ (w2.setCell ⟨cb, 0, none⟩ (.int .i64 ((k : Int) + 1))).heap.size := by
  have := HS12.out
  simpa [World.setCell] using this
 generalize w2.setCell ⟨cb, 0, none⟩ (.int .i64 ((k : Int) + 1)) = w3 at *
 clear c0 c1 c2
 obtain ⟨h1, hff, hqq, htt, hsp, hst⟩ := HCC.out.at hAg3
 obtain ⟨d3, d4, d5⟩ := hst.cells HX.out
 have HSP := Lib.hid hsp
 have HC3 := Lib.hid hc3
 have HV3 := Lib.hid hv3
 have HE3 := Lib.hid hE3
 have HAG3 := Lib.hid hAg3
 have HW3 := Lib.hid hW3
 have hc3l := hc3.lt
 have hc3c : w3.cell? ⟨cb, 0, none⟩ = some (.int .i64 ((k : Int) + 1)) := hc3.get1.1
 have hc3f := hc3.get1.2.1
 clear h1 hsp hst hE3 hAg3 hW3 hc3
 obtain ⟨ff0, ff1, ff2⟩ := hff.get1
 obtain ⟨qq0, qq1, qq2⟩ := hqq.get1
 obtain ⟨tt0, tt1, tt2⟩ := htt.get1
 refine region_B (n := 7) (m := 9) (f := 7) (by kernel_rfl) (by kernel_rfl) rfl ?_
 refine WpH.vD 0 (some 19) ?_ rfl rfl (by kernel_rfl) (fun _ _ _ h => h) rfl (fun wz hwz => ?_) ?_
 rotate_left
 ·(obtain ⟨hcz, hfz⟩ := bcell hwz; go_simp; try (with_reducible rfl))
 simp only [Zp, Zq, Zr, Zs]
 refine WpH.vD 1 (some 20) ?_ rfl rfl (by kernel_rfl) (fun _ _ _ h => h) rfl (fun wz hwz => ?_) ?_
 rotate_left
 ·(obtain ⟨hcz, hfz⟩ := bcell hwz; go_simp; try (with_reducible rfl))
 simp only [Zp, Zq, Zr, Zs]
 refine WpH.vD 2 (some 21) ?_ rfl rfl (by kernel_rfl) (fun _ _ _ h => h) rfl (fun wz hwz => ?_) ?_
 rotate_left
 ·(obtain ⟨hcz, hfz⟩ := bcell hwz; go_simp; try (with_reducible rfl))
 simp only [Zp, Zq, Zr, Zs]
 refine WpH.vD 3 (some 22) ?_ rfl rfl (by kernel_rfl) (fun _ _ _ h => h) rfl (fun wz hwz => ?_) ?_
 rotate_left
 ·(obtain ⟨hcz, hfz⟩ := bcell hwz; go_simp; try (with_reducible rfl))
 simp only [Zp, Zq, Zr, Zs]
 refine WpH.vD 4 (some 23) ?_ rfl rfl (by kernel_rfl) (fun _ _ _ h => h) rfl (fun wz hwz => ?_) ?_
 rotate_left
 ·go_simp; try (with_reducible rfl)
 simp only [Zp, Zq, Zr, Zs]
 refine WpH.vD 5 (some 24) ?_ rfl rfl (by kernel_rfl) (fun _ _ _ h => h) rfl (fun wz hwz => ?_) ?_
 rotate_left
 ·(obtain ⟨hcz, hfz⟩ := bcell hwz; go_simp; try (with_reducible rfl))
 simp only [Zp, Zq, Zr, Zs]
 refine WpH.takeD 6 (some 25) rfl rfl (by kernel_rfl) (fun _ _ _ h => h) (.call rfl (fun wz hwz => HAT.out wz (HSP.out.later hwz)) (fun wz hwz => ?_)) ?_
 ·go_simp; try (with_reducible rfl)
 simp only [Zp, Zq, Zr, Zs]
 refine WpH.doneB (by kernel_rfl) (fun w4 hw4 => ?_)
 (try simp only [List.drop_succ_cons]); (try simp only [List.drop_zero]); (try simp only [Nat.reduceSub]); (try simp only [List.take_succ_cons]); (try simp only [List.take_zero])
 have HB4 := Lib.hid hw4
 obtain ⟨t0, t1, t2, t3, t4⟩ := HV3.out.call hw4
 clear hw4
 go_wp2_with fail
 have hs1 := HS1.out
 have hs12 := HS12.out
 have hcl9 : cb < w.heap.size := HCV.out.lt
 have hlw : ∀ q, WrD wb lb us q → q ≠ w.heap.size := fun q hq e => by
  rcases HD2.out q hq with h | h
  ·exact HS0.out (e ▸ h)
  ·omega
 have hlE : ∀ q, E q → q < w.heap.size := fun q hq => HAG.out.lt hq (HLT.out q hq)
 refine bodyPost_ret (results_v2_tmp (b := w.heap.size) (u := .int .u64 (lo z)) (v := .int .u64 (hi z)) ?_ rfl rfl) rfl ?_
 ·exact V2.set ⟨t0, t1, t2, t3, t4⟩ _ _
 ·have hc4 := (HC3.out.call HB4.out)
  refine ⟨rfl, fun q => WrD wb lb us q ∨ (q = cb ∨ E q), InvQ.st ⟨lb, cp, us, ?_, fun q => Iff.rfl, ?_, ?_, ?_⟩ HLT.out, ?_, ?_⟩
  ·rw [← HSTEP.out]
   exact (HW3.out.call HB4.out).same fun q hq => (Below.heap_setCell _ _ _ _ (hlw q hq)).trans (Below.heap_setCell _ _ _ _ (hlw q hq))
  ·rintro q (rfl | hq) hw
   ·exact HCW2.out hw
   ·exact (HD2.out q hw).elim (HEW.out q (.inr hq)) (fun h => by have := hlE q hq; omega)
  ·intro q hq
   have h0 : q ≠ w.heap.size := Nat.ne_of_lt (hlE q hq)
   exact ((Below.heap_setCell _ _ _ _ h0).trans (Below.heap_setCell _ _ _ _ h0)).trans ((HB4.out.block q (HAG3.out.lt hq (HLT.out q hq))).trans (HAG3.out q hq))
  ·exact ((hc4.far (p := ⟨w.heap.size, 0, none⟩) (by dsimp only; omega) _).far (p := ⟨w.heap.size, 1, none⟩) (by dsimp only; omega) _)
  ·rintro q (hq | rfl | hq)
   ·exact (HD2.out q hq).imp (HWD.out q) (fun h => by omega)
   ·exact .inl HCD.out
   ·exact .inl ((HD.out q).2 (.inr (.inr hq)))
  ·exact (HE3.out.call HB4.out).st (Nat.le_refl _) _ _
end

end Go.Proofs.YtfbfbijkkbflkaaGreatDoor

namespace Go.Proofs.YtfbfbijkkbflkaaGreatDoor
open Go.RowKit Fm
set_option linter.unusedVariables false
set_option maxRecDepth 100000

section
variable {f : Nat}
def ansQ (L : Nat) (P : KL f) (k : Nat) : Fin (Pm f) := ev (Fm.kpow (rootK f L) (k + 1)) P
def qryL (y : CK) (L : Nat) (v j : KL f) (part : Fin (Pm f)) (p : KL f) (x : Fin (Pm f)) : KL f :=
 runF y v j part (ansQ L (p.drop y.arity)) :: ((polysA L (p.take y.arity) (argOf y v j part) y.calls y.arity).map (ev x) ++ [ev x (p.drop y.arity)])
theorem qryL_length (y : CK) (L : Nat) (v j : KL f) (part : Fin (Pm f)) (p : KL f) (x : Fin (Pm f)) : (qryL y L v j part p x).length = y.arity + 2 := by
 unfold qryL
 rw [List.length_cons, List.length_append, List.length_map, polysA_length]
 rfl
def RetQy (y : CK) (L : Nat) (v j : KL f) (part : Fin (Pm f)) (p : KL f) (x : Fin (Pm f)) (w : World) (e : Ending) (w' : World) : Prop :=
 (Fm.kpow x (2 ^ L) = 1 ∧ RetE9 12 w e w') ∨ (Fm.kpow x (2 ^ L) ≠ 1 ∧ RetSq0 (qryL y L v j part p x) w e w')
theorem pows_get (x : Fin (Pm f)) (n k : Nat) (h : k < n) : (pows x n)[k]? = some (Fm.kpow x k) := by
 unfold pows ofF
 rw [List.getElem?_map, List.getElem?_range h]
 rfl
end

section
variable {f : Nat} (hf : IsF f)
include hf
theorem asked_query (y : CK) (hy : y.ok) (hcl : y.calls ≤ 511) (v j seeds P : KL f) (part : Fin (Pm f)) (L : Nat) (hN : nextP (y.calls + 1) = 2 ^ L) (E : Nat → Prop) (wE : World) (pb cb fb qb tb wb : Nat) (vp vt : Value)
  (hC : CapQ E wE pb fb qb tb wb vp vt P (pows (rootK f L) (2 ^ L))) (hcE : ¬ E cb) (hP : P.length ≤ 100000) :
  Asked y v j part 65 #[.pointer (some ⟨pb, 0, none⟩), .pointer (some ⟨cb, 0, none⟩), .pointer (some ⟨fb, 0, none⟩), .pointer (some ⟨qb, 0, none⟩), .pointer (some ⟨tb, 0, none⟩)] (InvQ wb (2 ^ L) cb E wE (linesA seeds (argOf y v j part) y.arity)) (ansQ L P) 0 := by
 refine ⟨fun args w => by kernel_rfl, fun k D w va hk hst hv => ?_⟩
 obtain ⟨L', hL', hN', hN2⟩ := nextP_pow (y.calls + 1) (by omega)
 have hN4 := (nextP_le (y.calls + 1)).2
 have hal := CK.arity_le hy
 have hga := gad_arity f y
 have harg := argOf_lenP y v j part k
 have hk2 : k + 1 < 2 ^ L := by rw [← hN, hN']; omega
 exact query_closure hf E wE pb cb fb qb tb wb (2 ^ L) vp vt P _ hC hcE _ k (argOf y v j part k) (fun i x h => linesA_at _ _ _ _ _ _ h) hk2 (by omega) (by rw [linesA_length, harg, hga]) (by rw [harg, hga]; exact hal.1) (by rw [harg, hga]; exact hal.2) (linesA_step _ _ _ _) hP _ (pows_get _ _ _ hk2) D w va hst hv
end

/-! ### c.Field and c.Gadget() are laid in two variables -/
/-! ### the wires begin, and a variable for them -/
def QbT (w0 : World) (o1 : Option (Nat × Nat × Nat × List Value)) (o2 : Option Nat) (wz : World) : Prop := Below w0.heap.size w0 wz
end Go.Proofs.YtfbfbijkkbflkaaGreatDoor

namespace Go.Proofs.YtfbfbijkkbflkaaGreatDoor
open Go Go.RowKit
set_option linter.unusedVariables false

section
variable {P : Program} {ops : Array Oper} {Q : Exit → Act → World → Prop} {md : Region.Mode} {n m : Nat} {L : Act → World → Prop} {f : Nat} {listed : Array Bool} {a : Act} {T S : World → Prop}
variable {L' : Act → World → Prop}
theorem region_Z2 {id n m f : Nat} {l : List Oper} {a : Act} {w : World} {α β : Type} (R : α → β → World → Prop) (T S : World → Prop) (hST : ∀ w, S w → T w) (hC : Clo S) (hS : S w.drew) {E : α → β → Act} (hm : P.follows .mixedOrders = true) (hB : partsB .any l.toArray n m (Array.replicate l.length false) = true) (hf : f + (m - n) = l.length)
  (h : WpX P .any l.toArray Q n m (fun a w => ∃ x y, a = E x y ∧ R x y w) f (Array.replicate l.length false) a T S)
  (hc : ∀ x y w', R x y w' → wpList P l.toArray Q ((l.drop n).take (m - n)) (E x y) w') : (Code.region id l.toArray true).wp P Q a w :=
 region_X T S hST hC hS hm hB hf (h.monoZ fun _ w ⟨x, y, e, hr⟩ => e ▸ hc x y w hr)
end

end Go.Proofs.YtfbfbijkkbflkaaGreatDoor
