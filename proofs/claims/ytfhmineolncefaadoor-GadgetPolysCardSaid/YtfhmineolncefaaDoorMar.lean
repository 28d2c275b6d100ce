/-
  WALKS of the statements on layer 4: what wakes them, tallymanlaw04.Pad, log.
-/
/-
  WALKS: poly.Add, poly.Scale, poly.direct.
-/
/-
  WALK: the reference's Valid.
-/
/-
  PURE: what circuit.Run says of a vector, the gadget being asked by calls.
-/
import Derived.Test.YtfhmineolncefaaDoorMaq
import Derived.Test.YtfhmineolncefaaDoorMab
import Derived.Test.YtfhmineolncefaaDoorMag
import Derived.Test.YtfhmineolncefaaDoorMap
import Derived.Test.YtfhmineolncefaaDoorMao
import Derived.Test.YtfhmineolncefaaDoorMam
namespace Go.Proofs.YtfhmineolncefaaDoor
open Go.RowKit Fm
set_option linter.unusedVariables false
set_option maxRecDepth 100000

theorem awake04_val : valsK (f := 1) 1 [1, 1] = [1 + 1, 0] := by
  have hr := (rt_root 1 1 (by omega)).half
  rw [Nat.pow_zero, Fm.kpow_one] at hr
  show [ev (Fm.kpow (rootK 1 1) 0) [1, 1], ev (Fm.kpow (rootK 1 1) 1) [1, 1]] = [1 + 1, 0]
  rw [Fm.kpow_one, hr, Fm.kpow_zero]
  simp only [ev_cons, ev_nil]
  exact List.cons_eq_cons.2 ⟨by grind, List.cons_eq_cons.2 ⟨by grind, rfl⟩⟩

theorem RwK.new {f : Nat} (w : World) (l : KL f) (a : Array Value) (h : a = (cellsE (esK l)).toArray) (t : TypeId) : RwK (w.alloc (.cells a t)) w.heap.size l := Vs.new w _ _ _ h

theorem lohi2 : lo ((1 : Fin (Pm 1)) + 1) = 2 ∧ hi ((1 : Fin (Pm 1)) + 1) = 0 := vK_of (by decide +kernel) (by omega) (by omega)
set_option maxHeartbeats 1000000 in
theorem law04_Awake (w : World) (hT : TabW w) : Calls Tryd.prog 15 #[] w fun e w' => e = .returned (.bool true) ∧ Below w.heap.size w w' := by
  have heq := eql_elem
  have hE : esK ([1, 1] : KL 1) = [(1, 0), (1, 0)] := by
    show [eK 1, eK 1] = _
    rw [eK_one]
  have hR := RwK.new (f := 1) w [1, 1] #[.int .u64 1, .int .u64 0, .int .u64 1, .int .u64 0] (by rw [hE]; rfl) 28
  have hT1 := hT.call ((Below.refl _ _).alloc (Nat.le_refl _) (.cells #[.int .u64 1, .int .u64 0, .int .u64 1, .int .u64 0] 28))
  have h := ntt_Values isF1 1 (by omega) _ [1, 1] rfl _ hT1 (hR.sl (n := 2) (c := 2) rfl (by omega) (by omega))
  rw [awake04_val] at h
  have HV := Lib.hid h
  have HH := Lib.hid lohi2
  clear hR h hT1 hT hE
  go_enter Tryd.func15, Tryd.ntmps15
  go_wp2_with fail
  refine HV.out.mono ?_
  rintro e w1 ⟨g, rfl, hR, hg, hb1⟩
  obtain ⟨c0, c1⟩ := hR.at (i := 0) rfl
  obtain ⟨d0, d1⟩ := hR.at (i := 1) rfl
  rw [HH.out.1] at c0
  rw [HH.out.2] at c1
  rw [lo_zero] at d0
  rw [hi_zero] at d1
  simp only [Nat.zero_mul, Nat.zero_add, Nat.one_mul, Nat.reduceAdd] at c0 c1 d0 d1
  go_wp2
  go_ret
  exact ⟨rfl, by repeat (first | exact Below.refl _ _ | with_reducible assumption | (refine bl_alloc ?_ (Nat.le_refl _) _) | (refine bl_set ?_ (by dsimp only; omega) _) | (refine Below.drew ?_) | (refine bl_drewN ?_ _) | (refine bl_call ?_ (Nat.le_refl _) (by assumption)))⟩

set_option maxHeartbeats 1000000 in
theorem law04_log_ok (k : Nat) (hk : k ≤ 10) (w : World) :
    Calls Tryd.prog 24 #[.int .i64 ((2 ^ k : Nat) : Int)] w fun e w' => e = .returned (.int .i64 k) ∧ w = w' := by
  have hp : 2 ^ k ≤ 2 ^ 10 := Nat.pow_le_pow_right (by omega) hk
  have HP : Hid (∀ j, j < k → 2 ^ j < 2 ^ k ∧ 2 ^ (j + 1) = 2 ^ j * 2) := fun j hj => ⟨Nat.pow_lt_pow_right (by omega) hj, Nat.pow_succ _ _⟩
  obtain ⟨N, hN⟩ : ∃ N, 2 ^ k = N := ⟨_, rfl⟩
  rw [hN] at hp HP ⊢
  have HN := Lib.hid hN
  clear hN
  go_enter Tryd.func24, Tryd.ntmps24
  go_wp2
  go_loop [3, 4] (fun iv xv => ∃ j X : Nat, j ≤ k ∧ iv = .int .i64 j ∧ xv = .int .i64 X ∧ Hid (2 ^ j = X) ∧ X ≤ N) (fun iv _ => k + 1 - (intOf iv).toNat)
  case atStart => exact ⟨0, 1, by omega, rfl, rfl, rfl, by rw [← HN.out]; exact Nat.two_pow_pos k⟩
  case round =>
    obtain ⟨j, X, hj, rfl, rfl, hX, hXN⟩ := hrel
    by_cases hlt : j < k
    · obtain ⟨h1, h2⟩ := HP.out j hlt
      rw [hX.out] at h1 h2
      have HX2 := Lib.hid h2
      clear h2
      have t1 : ((X : Int) == (N : Int)) = false := by simp; omega
      have t2 : (X == N) = false := by simp; omega
      have t3 : ¬ (X = N) := by omega
      go_wp2
      go_round
      case rel => exact ⟨j + 1, X * 2, by omega, by go_num, by go_num, HX2.out, by
        by_cases h3 : j + 1 = k
        · rw [← HX2.out, h3, HN.out]
          exact Nat.le_refl _
        · have := (HP.out (j + 1) (by omega)).1
          rw [HX2.out] at this
          omega⟩
      case measure => simp [intOf]; omega
    · obtain rfl : j = k := by omega
      obtain rfl : X = N := hX.out.symm.trans HN.out
      go_wp2
      go_ret
      exact ⟨rfl, rfl⟩

set_option maxHeartbeats 1000000 in
theorem law04_log_no (n : Int) (w : World) (h : ∀ k : Nat, k ≤ 10 → n ≠ ((2 ^ k : Nat) : Int)) :
    Calls Tryd.prog 24 #[.int .i64 n] w fun e w' => e = .returned (.int .i64 (-1)) ∧ w = w' := by
  have HN := Lib.hid h
  clear h
  go_enter Tryd.func24, Tryd.ntmps24
  go_wp2
  go_loop [3, 4] (fun iv xv => ∃ j X : Nat, j ≤ 11 ∧ iv = .int .i64 j ∧ xv = .int .i64 X ∧ Hid (2 ^ j = X) ∧ X ≤ 2048) (fun iv _ => 12 - (intOf iv).toNat)
  case atStart => exact ⟨0, 1, by omega, rfl, rfl, rfl, by omega⟩
  case round =>
    obtain ⟨j, X, hj, rfl, rfl, hX, hXN⟩ := hrel
    by_cases hlt : j < 11
    · have h1 := HN.out j (by omega)
      rw [hX.out] at h1
      have h2 : X ≤ 1024 := by rw [← hX.out]; exact Nat.pow_le_pow_right (n := 2) (by omega) (show j ≤ 10 by omega)
      have HX2 : Hid (2 ^ (j + 1) = X * 2) := by show _ = _; rw [Nat.pow_succ, hX.out]
      have t1 : ((X : Int) == n) = false := by simp; omega
      have t2 : decide ((X : Int) ≤ 1024) = true := by simp; omega
      go_wp2
      go_round
      case rel => exact ⟨j + 1, X * 2, by omega, by go_num, by go_num, HX2.out, by omega⟩
      case measure => simp [intOf]; omega
    · obtain rfl : j = 11 := by omega
      obtain rfl : X = 2048 := hX.out.symm
      go_wp2
      go_ret
      exact ⟨rfl, rfl⟩

section
variable {f : Nat} (hf : IsF f)
include hf

/-- a polynomial of as many coefficients as a power of two comes back -/
def RetPad (f : Nat) (w : World) (e : Ending) (w' : World) : Prop :=
  ∃ (L g : Nat) (p : KL f), L ≤ 4 ∧ p.length = 2 ^ L ∧ e = .returned (.slice (some ⟨g, 0, none⟩) p.length p.length) ∧ RwK w' g p ∧ w.heap.size ≤ g ∧ Below w.heap.size w w'

set_option maxHeartbeats 4000000 in
theorem law04_Pad (vl : Value) (l : List E) (w : World) (hs : SlE w w.heap.size vl l) :
    Calls Tryd.prog 22 #[.int .i64 f, vl, .int .i64 16] w (RetPad f w) := by
  have hfb0 : (1 : Int) ≤ (f : Int) := by rcases hf.or with rfl | rfl <;> omega
  have hfb1 : (f : Int) ≤ 2 := by rcases hf.or with rfl | rfl <;> omega
  have HOF := Lib.hid (fun a0 a1 wz h0 h1 k0 k1 => ref_OfL hf a0 a1 wz h0 h1 k0 k1)
  have H0 := Lib.hid hs
  obtain ⟨⟨A, c, rfl, hc, hcm, hA⟩, hok⟩ := hs
  have HA := Lib.hid hA
  have HOK := Lib.hid hok
  clear hA hok
  go_enter Tryd.func22, Tryd.ntmps22
  go_wp2
  go_loop [7] (fun nv => ∃ j X : Nat, j ≤ 4 ∧ nv = .int .i64 X ∧ Hid (2 ^ j = X) ∧ X ≤ 16 ∧ 1 ≤ X) (fun nv => 16 - (intOf nv).toNat)
  case atStart => exact ⟨0, 1, by omega, rfl, rfl, by omega, by omega⟩
  case round =>
    obtain ⟨j, X, hj, rfl, hX, hX1, hX2⟩ := hrel
    by_cases hlt : X < l.length ∧ X < 16
    · obtain ⟨h1, h2⟩ := hlt
      have hj4 : j < 4 := by
        apply Nat.lt_of_not_le
        intro h
        have h3 : 2 ^ 4 ≤ 2 ^ j := Nat.pow_le_pow_right (by omega) h
        rw [hX.out] at h3
        omega
      have HX2 : Hid (2 ^ (j + 1) = X * 2) := by show _ = _; rw [Nat.pow_succ, hX.out]
      have h5 : X * 2 ≤ 16 := by rw [← HX2.out]; exact Nat.pow_le_pow_right (n := 2) (by omega) (show j + 1 ≤ 4 by omega)
      go_wp2
      go_round
      case rel => exact ⟨j + 1, X * 2, by omega, by go_num, HX2.out, h5, by omega⟩
      case measure => simp [intOf]; omega
    · have hmk := make_elem X (by omega)
      have HLT := Lib.hid hlt
      clear hlt
      by_cases h1 : X < l.length
      · have h2 : ¬ X < 16 := fun h => HLT.out ⟨h1, h⟩
        have t1 : decide ((X : Int) < 16) = false := by simp; omega
        go_upto_region 5 with fail
        have hB0 := RwK.new w (List.replicate X (0 : Fin (Pm f))) (cellsE (List.replicate X (0, 0))).toArray (by unfold esK; rw [List.map_replicate, eK_zero]) 28
        have hb00 : Below w.heap.size w (w.alloc (.cells (cellsE (List.replicate X (0, 0))).toArray 28)) := by repeat (first | exact Below.refl _ _ | with_reducible assumption | (refine bl_alloc ?_ (Nat.le_refl _) _) | (refine bl_set ?_ (by dsimp only; omega) _) | (refine Below.drew ?_) | (refine bl_drewN ?_ _) | (refine bl_call ?_ (Nat.le_refl _) (by assumption)))
        generalize w.alloc (.cells (cellsE (List.replicate X (0, 0))).toArray 28) = w1 at hB0 hb00 ⊢
        clear hmk
        obtain ⟨M, hM⟩ : ∃ M, min l.length X = M := ⟨_, rfl⟩
        have hMi : min (l.length : Int) (X : Int) = (M : Int) := by omega
        have hMl : M ≤ l.length := by omega
        have hMX : M ≤ X := by omega
        clear hM
        go_wp2_with fail
        go_loopw [27] (fun kv wr => ∃ (k : Nat) (S : KL f), k ≤ M ∧ kv = .int .i64 k ∧ Hid (S.length = X) ∧ RwK wr w.heap.size S ∧ Below w.heap.size w wr) (fun kv _ => M - (intOf kv).toNat)
        case atStart => exact ⟨0, _, Nat.zero_le _, rfl, List.length_replicate .., hB0, hb00⟩
        case round =>
          clear hB0 hb00
          obtain ⟨k, S, hk, rfl, hS, hR, hb00⟩ := hrel
          by_cases hkM : k < M
          · obtain ⟨b, o, hAe, hB, hrow⟩ := HA.out (by omega)
            obtain ⟨⟨x0, x1⟩, he⟩ : ∃ e, l[k]? = some e := ⟨_, List.getElem?_eq_getElem (by omega)⟩
            obtain ⟨hx0, hx1, hx2, hx3⟩ := HOK.out _ (List.mem_of_getElem? he)
            obtain ⟨c0, c1⟩ := (hrow.below hb00 hB) k _ he
            dsimp only at hx0 hx1 hx2 hx3 c0 c1
            subst hAe
            have hkX : k < X := by omega
            have hkl : k < l.length := by omega
            have g1 : (0 : Int) ≤ (k : Int) := by omega
            have g2 : (k : Int) < (l.length : Int) := by omega
            have g3 : (k : Int) < (X : Int) := by omega
            clear he hrow
            go_upto_region 8 with fail
            go_wp2_with fail
            refine (HOF.out x0 x1 _ hx0 hx1 hx2 hx3).mono ?_
            rintro e w5 ⟨rfl, hb5⟩
            clear c0 c1
            replace hb00 := bl_call hb00 (Nat.le_refl _) hb5
            replace hR := hR.call hb5
            clear hb5
            obtain ⟨y9, hy9⟩ : ∃ x, S[k]? = some x := ⟨_, List.getElem?_eq_getElem (by have := hS.out; omega)⟩
            obtain ⟨c0, c1⟩ := hR.at hy9
            obtain ⟨f0, f1⟩ := hR.frz (i := k) (by have := hS.out; omega)
            have g5 := hR.lt
            clear hy9
            go_wp2_with fail
            go_roundw
            case rel => exact ⟨k + 1, _, by omega, by go_num, by show _ = _; rw [List.length_set]; exact hS.out, hR.set k (by have := hS.out; omega) (kL f x0 x1), by repeat (first | exact Below.refl _ _ | with_reducible assumption | (refine bl_alloc ?_ (Nat.le_refl _) _) | (refine bl_set ?_ (by dsimp only; omega) _) | (refine Below.drew ?_) | (refine bl_drewN ?_ _) | (refine bl_call ?_ (Nat.le_refl _) (by assumption)))⟩
            case measure => simp [intOf]; omega
          · obtain rfl : k = M := by omega
            go_wp2
            go_ret
            exact ⟨j, _, S, hj, by rw [hS.out, hX.out], by rw [hS.out]; rfl, hR, Nat.le_refl _, hb00⟩
      · skip
        go_upto_region 5 with fail
        have hB0 := RwK.new w (List.replicate X (0 : Fin (Pm f))) (cellsE (List.replicate X (0, 0))).toArray (by unfold esK; rw [List.map_replicate, eK_zero]) 28
        have hb00 : Below w.heap.size w (w.alloc (.cells (cellsE (List.replicate X (0, 0))).toArray 28)) := by repeat (first | exact Below.refl _ _ | with_reducible assumption | (refine bl_alloc ?_ (Nat.le_refl _) _) | (refine bl_set ?_ (by dsimp only; omega) _) | (refine Below.drew ?_) | (refine bl_drewN ?_ _) | (refine bl_call ?_ (Nat.le_refl _) (by assumption)))
        generalize w.alloc (.cells (cellsE (List.replicate X (0, 0))).toArray 28) = w1 at hB0 hb00 ⊢
        clear hmk
        obtain ⟨M, hM⟩ : ∃ M, min l.length X = M := ⟨_, rfl⟩
        have hMi : min (l.length : Int) (X : Int) = (M : Int) := by omega
        have hMl : M ≤ l.length := by omega
        have hMX : M ≤ X := by omega
        clear hM
        go_wp2_with fail
        go_loopw [27] (fun kv wr => ∃ (k : Nat) (S : KL f), k ≤ M ∧ kv = .int .i64 k ∧ Hid (S.length = X) ∧ RwK wr w.heap.size S ∧ Below w.heap.size w wr) (fun kv _ => M - (intOf kv).toNat)
        case atStart => exact ⟨0, _, Nat.zero_le _, rfl, List.length_replicate .., hB0, hb00⟩
        case round =>
          clear hB0 hb00
          obtain ⟨k, S, hk, rfl, hS, hR, hb00⟩ := hrel
          by_cases hkM : k < M
          · obtain ⟨b, o, hAe, hB, hrow⟩ := HA.out (by omega)
            obtain ⟨⟨x0, x1⟩, he⟩ : ∃ e, l[k]? = some e := ⟨_, List.getElem?_eq_getElem (by omega)⟩
            obtain ⟨hx0, hx1, hx2, hx3⟩ := HOK.out _ (List.mem_of_getElem? he)
            obtain ⟨c0, c1⟩ := (hrow.below hb00 hB) k _ he
            dsimp only at hx0 hx1 hx2 hx3 c0 c1
            subst hAe
            have hkX : k < X := by omega
            have hkl : k < l.length := by omega
            have g1 : (0 : Int) ≤ (k : Int) := by omega
            have g2 : (k : Int) < (l.length : Int) := by omega
            have g3 : (k : Int) < (X : Int) := by omega
            clear he hrow
            go_upto_region 8 with fail
            go_wp2_with fail
            refine (HOF.out x0 x1 _ hx0 hx1 hx2 hx3).mono ?_
            rintro e w5 ⟨rfl, hb5⟩
            clear c0 c1
            replace hb00 := bl_call hb00 (Nat.le_refl _) hb5
            replace hR := hR.call hb5
            clear hb5
            obtain ⟨y9, hy9⟩ : ∃ x, S[k]? = some x := ⟨_, List.getElem?_eq_getElem (by have := hS.out; omega)⟩
            obtain ⟨c0, c1⟩ := hR.at hy9
            obtain ⟨f0, f1⟩ := hR.frz (i := k) (by have := hS.out; omega)
            have g5 := hR.lt
            clear hy9
            go_wp2_with fail
            go_roundw
            case rel => exact ⟨k + 1, _, by omega, by go_num, by show _ = _; rw [List.length_set]; exact hS.out, hR.set k (by have := hS.out; omega) (kL f x0 x1), by repeat (first | exact Below.refl _ _ | with_reducible assumption | (refine bl_alloc ?_ (Nat.le_refl _) _) | (refine bl_set ?_ (by dsimp only; omega) _) | (refine Below.drew ?_) | (refine bl_drewN ?_ _) | (refine bl_call ?_ (Nat.le_refl _) (by assumption)))⟩
            case measure => simp [intOf]; omega
          · obtain rfl : k = M := by omega
            go_wp2
            go_ret
            exact ⟨j, _, S, hj, by rw [hS.out, hX.out], by rw [hS.out]; rfl, hR, Nat.le_refl _, hb00⟩
end

end Go.Proofs.YtfhmineolncefaaDoor

namespace Go.Proofs.YtfhmineolncefaaDoor
open Go.RowKit Fm
set_option linter.unusedVariables false
set_option maxRecDepth 100000

theorem lenN_ne {α : Type} {l : List α} {n : Nat} (h : n < l.length) : 0 < l.length := by omega

section
variable {f : Nat} (hf : IsF f)
include hf

set_option maxHeartbeats 8000000 in
theorem poly_Add (va vb : Value) (a b : KL f) (w : World) (ha : SlK w w.heap.size va a) (hb : SlK w w.heap.size vb b) (hal : a.length ≤ 400000) (hbl : b.length ≤ 400000) :
    Calls Tryd.prog 38 #[.int .u8 f, va, vb] w (RetOwn (padd a b) w) := by
  have hfb0 : (1 : Int) ≤ (f : Int) := by rcases hf.or with rfl | rfl <;> omega
  have hfb1 : (f : Int) ≤ 2 := by rcases hf.or with rfl | rfl <;> omega
  have HADD := Lib.hid (fun x y wz => field_AddK hf x y wz)
  obtain ⟨A, c, rfl, hc, hcm, hA⟩ := ha
  obtain ⟨B, d, rfl, hd, hdm, hB⟩ := hb
  obtain ⟨N, hN⟩ : ∃ N, max a.length b.length = N := ⟨_, rfl⟩
  have hNi : max (a.length : Int) (b.length : Int) = (N : Int) := by omega
  have hNa : a.length ≤ N := by omega
  have hNb : b.length ≤ N := by omega
  have hNm : N ≤ 400000 := by omega
  have hmk := make_elem N (by omega)
  have HEND : Hid (∀ S : KL f, S.length = N → (∀ j, j < N → S.getD j 0 = a.getD j 0 + b.getD j 0) → trim S = padd a b) := fun S h1 h2 => by
    unfold padd
    rw [hN, ← eq_ofF h1 h2]
  have HA := Lib.hid hA
  have HB := Lib.hid hB
  clear hA hB hN
  go_enter Tryd.func38, Tryd.ntmps38
  go_upto_region 3 with fail
  have hB0 := RwK.new w (List.replicate N (0 : Fin (Pm f))) (cellsE (List.replicate N (0, 0))).toArray (by unfold esK; rw [List.map_replicate, eK_zero]) 28
  have hb00 : Below w.heap.size w (w.alloc (.cells (cellsE (List.replicate N (0, 0))).toArray 28)) := by repeat (first | exact Below.refl _ _ | with_reducible assumption | (refine bl_alloc ?_ (Nat.le_refl _) _) | (refine bl_set ?_ (by dsimp only; omega) _) | (refine Below.drew ?_) | (refine bl_drewN ?_ _) | (refine bl_call ?_ (Nat.le_refl _) (by assumption)))
  generalize w.alloc (.cells (cellsE (List.replicate N (0, 0))).toArray 28) = w1 at hB0 hb00 ⊢
  clear hmk
  go_wp2_with fail
  go_loopw [19] (fun kv wr => ∃ (k : Nat) (S : KL f), k ≤ N ∧ kv = .int .i64 k ∧ Hid (S.length = N ∧ (∀ j, j < k → S.getD j 0 = a.getD j 0 + b.getD j 0) ∧ ∀ j, k ≤ j → S.getD j 0 = 0) ∧ RwK wr w.heap.size S ∧ Below w.heap.size w wr) (fun kv _ => N - (intOf kv).toNat)
  case atStart => exact ⟨0, _, Nat.zero_le _, rfl, ⟨List.length_replicate .., fun j h => absurd h (Nat.not_lt_zero _), fun j _ => getD_zeros _ _⟩, hB0, hb00⟩
  case round =>
    clear hB0 hb00
    obtain ⟨k, S, hk, rfl, hS, hR, hb00⟩ := hrel
    by_cases hkN : k < N
    · have g1 : (0 : Int) ≤ (k : Int) := by omega
      have g3 : (k : Int) < (N : Int) := by omega
      have HSL : Hid (S.length = N) := hS.out.1
      have HS1 : Hid (∀ j, j < k → S.getD j 0 = a.getD j 0 + b.getD j 0) := hS.out.2.1
      have HS2 : Hid (∀ j, k < j → S.getD j 0 = 0) := fun j hj => hS.out.2.2 j (by omega)
      obtain ⟨x, hx⟩ : ∃ x, S[k]? = some x := ⟨_, List.getElem?_eq_getElem (by have := HSL.out; omega)⟩
      have hx0 : x = 0 := by
        have h := hS.out.2.2 k (Nat.le_refl _)
        rw [List.getD_eq_getElem?_getD, hx] at h
        exact h
      clear hS
      by_cases hka : k < a.length
      · obtain ⟨b1, o1, hAe, hbw1, hrow1⟩ := HA.out (by omega)
        obtain ⟨z, hz⟩ : ∃ z, a[k]? = some z := ⟨_, List.getElem?_eq_getElem hka⟩
        have HXA : Hid (a.getD k 0 = z) := by show _ = _; rw [List.getD_eq_getElem?_getD, hz]; rfl
        obtain ⟨d0, d1⟩ := (hrow1.below hb00 hbw1).kat hz
        obtain ⟨c0, c1⟩ := hR.at hx
        obtain ⟨f0, f1⟩ := hR.frz (i := k) (by have := HSL.out; omega)
        have g6 : (k : Int) < (a.length : Int) := by omega
        have g9 := hR.lt
        subst hAe
        clear hz hx0 hx hrow1
        go_upto_region 8 with fail
        replace hR := hR.set k (by have := HSL.out; omega) z
        replace hb00 := bl_set (p := ⟨w.heap.size, k * 2 + 1, none⟩) (bl_set (p := ⟨w.heap.size, k * 2, none⟩) hb00 (by dsimp only; omega) (.int .u64 (lo z))) (by dsimp only; omega) (.int .u64 (hi z))
        generalize (wr.setCell ⟨w.heap.size, k * 2, none⟩ (.int .u64 (lo z))).setCell ⟨w.heap.size, k * 2 + 1, none⟩ (.int .u64 (hi z)) = w5 at hR hb00 ⊢
        replace HS1 : Hid (∀ j, j < k → (S.set k z).getD j 0 = a.getD j 0 + b.getD j 0) := fun j hj => by rw [set_getD _ _ _ (by have := HSL.out; omega), if_neg (by omega)]; exact HS1.out j hj
        replace HS2 : Hid (∀ j, k < j → (S.set k z).getD j 0 = 0) := fun j hj => by rw [set_getD _ _ _ (by have := HSL.out; omega), if_neg (by omega)]; exact HS2.out j hj
        have HX : Hid ((S.set k z)[k]? = some z) := List.getElem?_set_self (by have := HSL.out; omega)
        replace HSL : Hid ((S.set k z).length = N) := by show _ = _; rw [List.length_set]; exact HSL.out
        generalize S.set k z = S2 at *
        clear S x c0 c1 d0 d1 f0 f1 g9 g6
        obtain ⟨S, hS9⟩ : ∃ S : KL f, S = S2 := ⟨_, rfl⟩
        obtain ⟨x, hx9⟩ : ∃ x : Fin (Pm f), x = z := ⟨_, rfl⟩
        subst hS9
        subst hx9
        by_cases hkb : k < b.length
        · obtain ⟨b2, o2, hBe, hbw2, hrow2⟩ := HB.out (by omega)
          obtain ⟨y, hy⟩ : ∃ y, b[k]? = some y := ⟨_, List.getElem?_eq_getElem hkb⟩
          have hyd : b.getD k 0 = y := by rw [List.getD_eq_getElem?_getD, hy]; rfl
          obtain ⟨d0, d1⟩ := (hrow2.below hb00 hbw2).kat hy
          obtain ⟨c0, c1⟩ := hR.at HX.out
          have g6 : (k : Int) < (b.length : Int) := by omega
          have hbl2 : b2 < w5.heap.size := Nat.lt_of_lt_of_le hbw2 hb00.size
          have g9 := hR.lt
          have HYD := Lib.hid hyd
          subst hBe
          clear hy hyd hrow2
          go_upto_region 9 with fail
          refine region_B (n := 12) (m := 14) (f := 12) (by kernel_rfl) (by kernel_rfl) rfl ?_
          refine WpH.takeD 0 (some 37) (v := ?_) rfl rfl (by kernel_rfl) (fun _ _ _ h => h) (.val rfl (fun wz hwz => ?_)) ?_
          rotate_left
          · go_simp; try (with_reducible rfl)
          (simp only [Act.put]); (try simp only [List.setIfInBounds_toArray]); (try simp only [List.set_cons_succ]); (try simp only [List.set_cons_zero])
          refine WpH.takeD 1 (some 38) (v := ?_) rfl rfl (by kernel_rfl) (fun _ _ _ h => h) (.val rfl (fun wz hwz => ?_)) ?_
          rotate_left
          · go_simp; try (with_reducible rfl)
          (simp only [Act.put]); (try simp only [List.setIfInBounds_toArray]); (try simp only [List.set_cons_succ]); (try simp only [List.set_cons_zero])
          refine WpH.takeD 2 (some 39) (v := ?_) rfl rfl (by kernel_rfl) (fun _ _ _ h => h) (.val rfl (fun wz hwz => ?_)) ?_
          rotate_left
          · go_simp; try (with_reducible rfl)
          (simp only [Act.put]); (try simp only [List.setIfInBounds_toArray]); (try simp only [List.set_cons_succ]); (try simp only [List.set_cons_zero])
          refine WpH.takeD 3 (some 40) (v := ?_) rfl rfl (by kernel_rfl) (fun _ _ _ h => h) (.val rfl (fun wz hwz => ?_)) ?_
          rotate_left
          · go_simp; try (with_reducible rfl)
          (simp only [Act.put]); (try simp only [List.setIfInBounds_toArray]); (try simp only [List.set_cons_succ]); (try simp only [List.set_cons_zero])
          refine WpH.takeD 4 (some 41) (v := ?_) rfl rfl (by kernel_rfl) (fun _ _ _ h => h) (.val rfl (fun wz hwz => ?_)) ?_
          rotate_left
          · go_simp; try (with_reducible rfl)
          (simp only [Act.put]); (try simp only [List.setIfInBounds_toArray]); (try simp only [List.set_cons_succ]); (try simp only [List.set_cons_zero])
          refine WpH.takeD 5 (some 42) (v := ?_) rfl rfl (by kernel_rfl) (fun _ _ _ h => h) (.val rfl (fun wz hwz => ?_)) ?_
          rotate_left
          · go_simp; try (with_reducible rfl)
          (simp only [Act.put]); (try simp only [List.setIfInBounds_toArray]); (try simp only [List.set_cons_succ]); (try simp only [List.set_cons_zero])
          refine WpH.takeD 6 (some 43) (v := ?_) rfl rfl (by kernel_rfl) (fun _ _ _ h => h) (.val rfl (fun wz hwz => ?_)) ?_
          rotate_left
          · (obtain ⟨hcz, hfz⟩ := bcell hwz; go_simp; try (with_reducible rfl))
          (simp only [Act.put]); (try simp only [List.setIfInBounds_toArray]); (try simp only [List.set_cons_succ]); (try simp only [List.set_cons_zero])
          refine WpH.takeD 7 (some 44) (v := ?_) rfl rfl (by kernel_rfl) (fun _ _ _ h => h) (.val rfl (fun wz hwz => ?_)) ?_
          rotate_left
          · go_simp; try (with_reducible rfl)
          (simp only [Act.put]); (try simp only [List.setIfInBounds_toArray]); (try simp only [List.set_cons_succ]); (try simp only [List.set_cons_zero])
          refine WpH.takeD 8 (some 45) (v := ?_) rfl rfl (by kernel_rfl) (fun _ _ _ h => h) (.val rfl (fun wz hwz => ?_)) ?_
          rotate_left
          · go_simp; try (with_reducible rfl)
          (simp only [Act.put]); (try simp only [List.setIfInBounds_toArray]); (try simp only [List.set_cons_succ]); (try simp only [List.set_cons_zero])
          refine WpH.takeD 9 (some 46) (v := ?_) rfl rfl (by kernel_rfl) (fun _ _ _ h => h) (.val rfl (fun wz hwz => ?_)) ?_
          rotate_left
          · go_simp; try (with_reducible rfl)
          (simp only [Act.put]); (try simp only [List.setIfInBounds_toArray]); (try simp only [List.set_cons_succ]); (try simp only [List.set_cons_zero])
          refine WpH.takeD 10 (some 47) (v := ?_) rfl rfl (by kernel_rfl) (fun _ _ _ h => h) (.val rfl (fun wz hwz => ?_)) ?_
          rotate_left
          · (obtain ⟨hcz, hfz⟩ := bcell hwz; go_simp; try (with_reducible rfl))
          (simp only [Act.put]); (try simp only [List.setIfInBounds_toArray]); (try simp only [List.set_cons_succ]); (try simp only [List.set_cons_zero])
          refine WpH.takeD 11 (some 48) rfl rfl (by kernel_rfl) (fun _ _ _ h => h) (.call rfl (fun wz hwz => HADD.out x y wz) (fun wz hwz => ?_)) ?_
          · go_simp; try (with_reducible rfl)
          (simp only [Act.put]); (try simp only [List.setIfInBounds_toArray]); (try simp only [List.set_cons_succ]); (try simp only [List.set_cons_zero])
          refine WpH.doneB (by kernel_rfl) (fun w6 hw6 => ?_)
          (try simp only [List.drop_succ_cons]); (try simp only [List.drop_zero]); (try simp only [Nat.reduceSub]); (try simp only [List.take_succ_cons]); (try simp only [List.take_zero])
          clear c0 c1 d0 d1 hbl2 g9
          replace hb00 := bl_call hb00 (Nat.le_refl _) hw6
          replace hR := hR.call hw6
          clear hw6
          obtain ⟨c0, c1⟩ := hR.at HX.out
          obtain ⟨f0, f1⟩ := hR.frz (i := k) (by have := HSL.out; omega)
          have g9 := hR.lt
          go_wp2_with fail
          go_roundw
          case rel => exact ⟨k + 1, _, by omega, by go_num, ⟨by rw [List.length_set]; exact HSL.out, fun j hj => by
            rw [set_getD _ _ _ (by have := HSL.out; omega)]
            by_cases he : j = k
            · rw [if_pos he, he, HYD.out, HXA.out]
            · rw [if_neg he]
              exact HS1.out j (by omega), fun j hj => by
            rw [set_getD _ _ _ (by have := HSL.out; omega), if_neg (by omega)]
            exact HS2.out j (by omega)⟩, hR.set k (by have := HSL.out; omega) (x + y), by repeat (first | exact Below.refl _ _ | with_reducible assumption | (refine bl_alloc ?_ (Nat.le_refl _) _) | (refine bl_set ?_ (by dsimp only; omega) _) | (refine Below.drew ?_) | (refine bl_drewN ?_ _) | (refine bl_call ?_ (Nat.le_refl _) (by assumption)))⟩
          case measure => simp [intOf]; omega
        · have HYD : Hid (b.getD k 0 = 0) := Fm.getD_end (by omega)
          have HXD : Hid (S.getD k 0 = x) := by show _ = _; rw [List.getD_eq_getElem?_getD, HX.out]; rfl
          go_wp2_with fail
          go_roundw
          case rel => exact ⟨k + 1, _, by omega, by go_num, ⟨HSL.out, fun j hj => by
            by_cases he : j = k
            · rw [he, HYD.out, HXA.out, HXD.out]
              grind
            · exact HS1.out j (by omega), fun j hj => HS2.out j (by omega)⟩, hR, hb00⟩
          case measure => simp [intOf]; omega
      · have HXA : Hid (a.getD k 0 = x) := by show _ = _; rw [hx0]; exact Fm.getD_end (by omega)
        have HX := Lib.hid hx
        clear hx hx0
        by_cases hkb : k < b.length
        · obtain ⟨b2, o2, hBe, hbw2, hrow2⟩ := HB.out (by omega)
          obtain ⟨y, hy⟩ : ∃ y, b[k]? = some y := ⟨_, List.getElem?_eq_getElem hkb⟩
          have hyd : b.getD k 0 = y := by rw [List.getD_eq_getElem?_getD, hy]; rfl
          obtain ⟨d0, d1⟩ := (hrow2.below hb00 hbw2).kat hy
          obtain ⟨c0, c1⟩ := hR.at HX.out
          have g6 : (k : Int) < (b.length : Int) := by omega
          have hbl2 : b2 < wr.heap.size := Nat.lt_of_lt_of_le hbw2 hb00.size
          have g9 := hR.lt
          have HYD := Lib.hid hyd
          subst hBe
          clear hy hyd hrow2
          go_upto_region 9 with fail
          refine region_B (n := 12) (m := 14) (f := 12) (by kernel_rfl) (by kernel_rfl) rfl ?_
          refine WpH.takeD 0 (some 37) (v := ?_) rfl rfl (by kernel_rfl) (fun _ _ _ h => h) (.val rfl (fun wz hwz => ?_)) ?_
          rotate_left
          · go_simp; try (with_reducible rfl)
          (simp only [Act.put]); (try simp only [List.setIfInBounds_toArray]); (try simp only [List.set_cons_succ]); (try simp only [List.set_cons_zero])
          refine WpH.takeD 1 (some 38) (v := ?_) rfl rfl (by kernel_rfl) (fun _ _ _ h => h) (.val rfl (fun wz hwz => ?_)) ?_
          rotate_left
          · go_simp; try (with_reducible rfl)
          (simp only [Act.put]); (try simp only [List.setIfInBounds_toArray]); (try simp only [List.set_cons_succ]); (try simp only [List.set_cons_zero])
          refine WpH.takeD 2 (some 39) (v := ?_) rfl rfl (by kernel_rfl) (fun _ _ _ h => h) (.val rfl (fun wz hwz => ?_)) ?_
          rotate_left
          · go_simp; try (with_reducible rfl)
          (simp only [Act.put]); (try simp only [List.setIfInBounds_toArray]); (try simp only [List.set_cons_succ]); (try simp only [List.set_cons_zero])
          refine WpH.takeD 3 (some 40) (v := ?_) rfl rfl (by kernel_rfl) (fun _ _ _ h => h) (.val rfl (fun wz hwz => ?_)) ?_
          rotate_left
          · go_simp; try (with_reducible rfl)
          (simp only [Act.put]); (try simp only [List.setIfInBounds_toArray]); (try simp only [List.set_cons_succ]); (try simp only [List.set_cons_zero])
          refine WpH.takeD 4 (some 41) (v := ?_) rfl rfl (by kernel_rfl) (fun _ _ _ h => h) (.val rfl (fun wz hwz => ?_)) ?_
          rotate_left
          · go_simp; try (with_reducible rfl)
          (simp only [Act.put]); (try simp only [List.setIfInBounds_toArray]); (try simp only [List.set_cons_succ]); (try simp only [List.set_cons_zero])
          refine WpH.takeD 5 (some 42) (v := ?_) rfl rfl (by kernel_rfl) (fun _ _ _ h => h) (.val rfl (fun wz hwz => ?_)) ?_
          rotate_left
          · go_simp; try (with_reducible rfl)
          (simp only [Act.put]); (try simp only [List.setIfInBounds_toArray]); (try simp only [List.set_cons_succ]); (try simp only [List.set_cons_zero])
          refine WpH.takeD 6 (some 43) (v := ?_) rfl rfl (by kernel_rfl) (fun _ _ _ h => h) (.val rfl (fun wz hwz => ?_)) ?_
          rotate_left
          · (obtain ⟨hcz, hfz⟩ := bcell hwz; go_simp; try (with_reducible rfl))
          (simp only [Act.put]); (try simp only [List.setIfInBounds_toArray]); (try simp only [List.set_cons_succ]); (try simp only [List.set_cons_zero])
          refine WpH.takeD 7 (some 44) (v := ?_) rfl rfl (by kernel_rfl) (fun _ _ _ h => h) (.val rfl (fun wz hwz => ?_)) ?_
          rotate_left
          · go_simp; try (with_reducible rfl)
          (simp only [Act.put]); (try simp only [List.setIfInBounds_toArray]); (try simp only [List.set_cons_succ]); (try simp only [List.set_cons_zero])
          refine WpH.takeD 8 (some 45) (v := ?_) rfl rfl (by kernel_rfl) (fun _ _ _ h => h) (.val rfl (fun wz hwz => ?_)) ?_
          rotate_left
          · go_simp; try (with_reducible rfl)
          (simp only [Act.put]); (try simp only [List.setIfInBounds_toArray]); (try simp only [List.set_cons_succ]); (try simp only [List.set_cons_zero])
          refine WpH.takeD 9 (some 46) (v := ?_) rfl rfl (by kernel_rfl) (fun _ _ _ h => h) (.val rfl (fun wz hwz => ?_)) ?_
          rotate_left
          · go_simp; try (with_reducible rfl)
          (simp only [Act.put]); (try simp only [List.setIfInBounds_toArray]); (try simp only [List.set_cons_succ]); (try simp only [List.set_cons_zero])
          refine WpH.takeD 10 (some 47) (v := ?_) rfl rfl (by kernel_rfl) (fun _ _ _ h => h) (.val rfl (fun wz hwz => ?_)) ?_
          rotate_left
          · (obtain ⟨hcz, hfz⟩ := bcell hwz; go_simp; try (with_reducible rfl))
          (simp only [Act.put]); (try simp only [List.setIfInBounds_toArray]); (try simp only [List.set_cons_succ]); (try simp only [List.set_cons_zero])
          refine WpH.takeD 11 (some 48) rfl rfl (by kernel_rfl) (fun _ _ _ h => h) (.call rfl (fun wz hwz => HADD.out x y wz) (fun wz hwz => ?_)) ?_
          · go_simp; try (with_reducible rfl)
          (simp only [Act.put]); (try simp only [List.setIfInBounds_toArray]); (try simp only [List.set_cons_succ]); (try simp only [List.set_cons_zero])
          refine WpH.doneB (by kernel_rfl) (fun w6 hw6 => ?_)
          (try simp only [List.drop_succ_cons]); (try simp only [List.drop_zero]); (try simp only [Nat.reduceSub]); (try simp only [List.take_succ_cons]); (try simp only [List.take_zero])
          clear c0 c1 d0 d1 hbl2 g9
          replace hb00 := bl_call hb00 (Nat.le_refl _) hw6
          replace hR := hR.call hw6
          clear hw6
          obtain ⟨c0, c1⟩ := hR.at HX.out
          obtain ⟨f0, f1⟩ := hR.frz (i := k) (by have := HSL.out; omega)
          have g9 := hR.lt
          go_wp2_with fail
          go_roundw
          case rel => exact ⟨k + 1, _, by omega, by go_num, ⟨by rw [List.length_set]; exact HSL.out, fun j hj => by
            rw [set_getD _ _ _ (by have := HSL.out; omega)]
            by_cases he : j = k
            · rw [if_pos he, he, HYD.out, HXA.out]
            · rw [if_neg he]
              exact HS1.out j (by omega), fun j hj => by
            rw [set_getD _ _ _ (by have := HSL.out; omega), if_neg (by omega)]
            exact HS2.out j (by omega)⟩, hR.set k (by have := HSL.out; omega) (x + y), by repeat (first | exact Below.refl _ _ | with_reducible assumption | (refine bl_alloc ?_ (Nat.le_refl _) _) | (refine bl_set ?_ (by dsimp only; omega) _) | (refine Below.drew ?_) | (refine bl_drewN ?_ _) | (refine bl_call ?_ (Nat.le_refl _) (by assumption)))⟩
          case measure => simp [intOf]; omega
        · have HYD : Hid (b.getD k 0 = 0) := Fm.getD_end (by omega)
          have HXD : Hid (S.getD k 0 = x) := by show _ = _; rw [List.getD_eq_getElem?_getD, HX.out]; rfl
          go_wp2_with fail
          go_roundw
          case rel => exact ⟨k + 1, _, by omega, by go_num, ⟨HSL.out, fun j hj => by
            by_cases he : j = k
            · rw [he, HYD.out, HXA.out, HXD.out]
              grind
            · exact HS1.out j (by omega), fun j hj => HS2.out j (by omega)⟩, hR, hb00⟩
          case measure => simp [intOf]; omega
    · obtain rfl : k = N := by omega
      have HT := Lib.hid (HEND.out S hS.out.1 hS.out.2.1)
      have hs := hR.sl hS.out.1 (Nat.le_refl _) (by omega)
      have hsl : S.length ≤ 1000000 := by have := hS.out.1; omega
      clear hS hR HEND HA HB
      go_wp2_with fail
      refine (poly_Trim _ S _ hs hsl).mono ?_
      rintro e w7 ⟨v, rfl, ho, hb7⟩
      go_wp2
      go_ret
      exact ⟨_, rfl, by rw [← HT.out]; exact own_mono ho hb00.size, bl_call hb00 (Nat.le_refl _) hb7⟩

set_option maxHeartbeats 8000000 in
theorem poly_Scale (va : Value) (a : KL f) (x : Fin (Pm f)) (w : World) (ha : SlK w w.heap.size va a) (hal : a.length ≤ 400000) :
    Calls Tryd.prog 39 #[.int .u8 f, va, vK x] w (RetOwn (pscale x a) w) := by
  have hfb0 : (1 : Int) ≤ (f : Int) := by rcases hf.or with rfl | rfl <;> omega
  have hfb1 : (f : Int) ≤ 2 := by rcases hf.or with rfl | rfl <;> omega
  have HMU := Lib.hid (fun y z wz => field_MulK hf y z wz)
  obtain ⟨A, c, rfl, hc, hcm, hA⟩ := ha
  have hmk := make_elem a.length (by omega)
  have HEND : Hid (∀ S : KL f, S.length = a.length → (∀ j, j < a.length → S.getD j 0 = a.getD j 0 * x) → trim S = pscale x a) := fun S h1 h2 => by
    unfold pscale
    congr 1
    refine ext_getD (by rw [h1, List.length_map]) fun i => ?_
    rw [map_getD]
    by_cases hi : i < a.length
    · exact h2 i hi
    · rw [Fm.getD_end (by omega), Fm.getD_end (by omega)]
      grind
  have HA := Lib.hid hA
  clear hA
  have hb00 : Below w.heap.size w w := Below.refl _ _
  go_enter Tryd.func39, Tryd.ntmps39
  go_upto_region 1 with fail
  clear hb00
  have q0 := V2.new w (.int .u64 (lo x)) (.int .u64 (hi x)) 28
  have hb00 : Below w.heap.size w (w.alloc (.cells #[(.int .u64 (lo x)), (.int .u64 (hi x))] 28)) := by repeat (first | exact Below.refl _ _ | with_reducible assumption | (refine bl_alloc ?_ (Nat.le_refl _) _))
  have hsz : w.heap.size + 1 ≤ (w.alloc (.cells #[(.int .u64 (lo x)), (.int .u64 (hi x))] 28)).heap.size := by simp only [World.size_alloc]; omega
  generalize (w.alloc (.cells #[(.int .u64 (lo x)), (.int .u64 (hi x))] 28)) = w1 at q0 hb00 hsz ⊢
  go_upto_region 2 with fail
  obtain ⟨g, hg⟩ : ∃ z, w1.heap.size = z := ⟨_, rfl⟩
  have hB0 := RwK.new w1 (List.replicate a.length (0 : Fin (Pm f))) (cellsE (List.replicate a.length (0, 0))).toArray (by unfold esK; rw [List.map_replicate, eK_zero]) 28
  rw [hg] at hB0
  replace q0 := q0.alloc (.cells (cellsE (List.replicate a.length (0, 0))).toArray 28)
  replace hb00 : Below w.heap.size w (w1.alloc (.cells (cellsE (List.replicate a.length (0, 0))).toArray 28)) := by repeat (first | exact Below.refl _ _ | with_reducible assumption | (refine bl_alloc ?_ (Nat.le_refl _) _) | (refine bl_set ?_ (by dsimp only; omega) _) | (refine Below.drew ?_) | (refine bl_drewN ?_ _) | (refine bl_call ?_ (Nat.le_refl _) (by assumption)))
  simp only [hg]
  have hgw : w.heap.size < g := by omega
  generalize w1.alloc (.cells (cellsE (List.replicate a.length (0, 0))).toArray 28) = w2 at hB0 hb00 q0 ⊢
  clear hmk hg hsz
  go_wp2_with fail
  go_loopw [15] (fun kv wr => ∃ (k : Nat) (S : KL f), k ≤ a.length ∧ kv = .int .i64 k ∧ Hid (S.length = a.length ∧ ∀ j, j < k → S.getD j 0 = a.getD j 0 * x) ∧ RwK wr g S ∧ V2 wr w.heap.size (.int .u64 (lo x)) (.int .u64 (hi x)) ∧ Below w.heap.size w wr) (fun kv _ => a.length - (intOf kv).toNat)
  case atStart => exact ⟨0, _, Nat.zero_le _, rfl, ⟨List.length_replicate .., fun j h => absurd h (Nat.not_lt_zero _)⟩, hB0, q0, hb00⟩
  case round =>
    clear hB0 hb00 q0
    obtain ⟨k, S, hk, rfl, hS, hR, q0, hb00⟩ := hrel
    by_cases hka : k < a.length
    · have g1 : (0 : Int) ≤ (k : Int) := by omega
      have g3 : (k : Int) < (a.length : Int) := by omega
      have HSL : Hid (S.length = a.length) := hS.out.1
      have HS1 : Hid (∀ j, j < k → S.getD j 0 = a.getD j 0 * x) := hS.out.2
      obtain ⟨b1, o1, hAe, hbw1, hrow1⟩ := HA.out (by omega)
      obtain ⟨z, hz⟩ : ∃ z, a[k]? = some z := ⟨_, List.getElem?_eq_getElem hka⟩
      have HXA : Hid (a.getD k 0 = z) := by show _ = _; rw [List.getD_eq_getElem?_getD, hz]; rfl
      obtain ⟨d0, d1⟩ := (hrow1.below hb00 hbw1).kat hz
      have hrl := hR.lt
      subst hAe
      clear hz hrow1 hS
      go_upto_region 5 with fail
      have z0 := V2.new wr (.int .u64 (lo z)) (.int .u64 (hi z)) 28
      have hbA : Below wr.heap.size wr (wr.alloc (.cells #[.int .u64 (lo z), .int .u64 (hi z)] 28)) := by repeat (first | exact Below.refl _ _ | with_reducible assumption | (refine bl_alloc ?_ (Nat.le_refl _) _))
      replace hb00 := bl_call hb00 (Nat.le_refl _) hbA
      replace hR := hR.call hbA
      replace q0 := q0.call hbA
      clear hbA
      generalize wr.alloc (.cells #[.int .u64 (lo z), .int .u64 (hi z)] 28) = w5 at hb00 hR q0 z0 ⊢
      obtain ⟨zb, hzb⟩ : ∃ q, wr.heap.size = q := ⟨_, rfl⟩
      rw [hzb] at z0 hrl
      simp only [hzb]
      clear hzb d0 d1
      obtain ⟨z00, z01, z02, z03, z04⟩ := V2.mk z0.c0 z0.c1 z0.f0 z0.f1 z0.lt
      obtain ⟨q00, q01, q02, q03, q04⟩ := V2.mk q0.c0 q0.c1 q0.f0 q0.f1 q0.lt
      go_wp2_with fail
      refine (HMU.out z x _).mono ?_
      rintro e w6 ⟨rfl, hb6⟩
      clear z00 z01 z02 z03 z04 q00 q01 q02 q03 q04
      replace hb00 := bl_call hb00 (Nat.le_refl _) hb6
      replace hR := hR.call hb6
      replace q0 := q0.call hb6
      replace z0 := z0.call hb6
      clear hb6
      obtain ⟨y9, hy9⟩ : ∃ x, S[k]? = some x := ⟨_, List.getElem?_eq_getElem (by have := HSL.out; omega)⟩
      obtain ⟨c0, c1⟩ := hR.at hy9
      obtain ⟨f0, f1⟩ := hR.frz (i := k) (by have := HSL.out; omega)
      have g9 := hR.lt
      clear hy9
      go_wp2_with fail
      go_roundw
      case rel => exact ⟨k + 1, _, by omega, by go_num, ⟨by rw [List.length_set]; exact HSL.out, fun j hj => by
        rw [set_getD _ _ _ (by have := HSL.out; omega)]
        by_cases he : j = k
        · rw [if_pos he, he, HXA.out]
        · rw [if_neg he]
          exact HS1.out j (by omega)⟩, hR.set k (by have := HSL.out; omega) (z * x), V2.setOther (V2.setOther q0 (by dsimp only; omega) _) (by dsimp only; omega) _, by repeat (first | exact Below.refl _ _ | with_reducible assumption | (refine bl_alloc ?_ (Nat.le_refl _) _) | (refine bl_set ?_ (by dsimp only; omega) _) | (refine Below.drew ?_) | (refine bl_drewN ?_ _) | (refine bl_call ?_ (Nat.le_refl _) (by assumption)))⟩
      case measure => simp [intOf]; omega
    · obtain hke : k = a.length := by omega
      subst hke
      have HT := Lib.hid (HEND.out S hS.out.1 hS.out.2)
      have hs := hR.sl hS.out.1 (Nat.le_refl _) (by omega)
      have hsl : S.length ≤ 1000000 := by have := hS.out.1; omega
      clear hS hR HEND HA q0
      go_wp2_with fail
      refine (poly_Trim _ S _ hs hsl).mono ?_
      rintro e w7 ⟨v, rfl, ho, hb7⟩
      go_wp2
      go_ret
      exact ⟨_, rfl, by rw [← HT.out]; exact own_mono ho hb00.size, bl_call hb00 (Nat.le_refl _) hb7⟩

set_option maxHeartbeats 8000000 in
theorem poly_direct (va vb : Value) (a b : KL f) (w : World) (ha : SlK w w.heap.size va a) (hb : SlK w w.heap.size vb b) (ha0 : 0 < a.length) (hb0 : 0 < b.length) (hal : a.length ≤ 400000) (hbl : b.length ≤ 400000) :
    Calls Tryd.prog 69 #[.int .u8 f, va, vb] w (RetBlk (prodL a b) w) := by
  have hfb0 : (1 : Int) ≤ (f : Int) := by rcases hf.or with rfl | rfl <;> omega
  have hfb1 : (f : Int) ≤ 2 := by rcases hf.or with rfl | rfl <;> omega
  have HADD := Lib.hid (fun x y wz => field_AddK hf x y wz)
  have HMU := Lib.hid (fun x y wz => field_MulK hf x y wz)
  obtain ⟨A, c, rfl, hc, hcm, hA⟩ := ha
  obtain ⟨B, d, rfl, hd, hdm, hB⟩ := hb
  obtain ⟨b1, o1, rfl, hbw1, hrow1⟩ := hA ha0
  obtain ⟨b2, o2, rfl, hbw2, hrow2⟩ := hB hb0
  obtain ⟨N, hN⟩ : ∃ N, a.length + b.length - 1 = N := ⟨_, rfl⟩
  have hN1 : (a.length : Int) + (b.length : Int) - 1 = (N : Int) := by omega
  have hN2 : N + 1 = a.length + b.length := by omega
  have hmk := make_elem N (by omega)
  have HDL : Hid (∀ I K, (dl a b I K).length = N) := fun I K => by rw [dl_length, hN]
  have HPL : Hid ((prodL a b).length = N) := by show _ = _; rw [prodL_length, hN]
  have HZ : Hid (List.replicate N 0 = dl a b 0 0) := by show _ = _; rw [dl_zero, hN]
  have HNX := Lib.hid (fun I K z h1 h2 h3 => dl_next a b I K h1 h2 z h3)
  have HRO := Lib.hid (fun I => dl_row a b I)
  have HEN := Lib.hid (dl_end a b)
  have HR1 := Lib.hid hrow1
  have HR2 := Lib.hid hrow2
  clear hA hB hN hrow1 hrow2
  go_enter Tryd.func69, Tryd.ntmps69
  go_upto_region 2 with fail
  have hB0 := RwK.new w (List.replicate N (0 : Fin (Pm f))) (cellsE (List.replicate N (0, 0))).toArray (by unfold esK; rw [List.map_replicate, eK_zero]) 28
  rw [HZ.out] at hB0
  have hb00 : Below w.heap.size w (w.alloc (.cells (cellsE (List.replicate N (0, 0))).toArray 28)) := by repeat (first | exact Below.refl _ _ | with_reducible assumption | (refine bl_alloc ?_ (Nat.le_refl _) _) | (refine bl_set ?_ (by dsimp only; omega) _) | (refine Below.drew ?_) | (refine bl_drewN ?_ _) | (refine bl_call ?_ (Nat.le_refl _) (by assumption)))
  generalize w.alloc (.cells (cellsE (List.replicate N (0, 0))).toArray 28) = w1 at hB0 hb00 ⊢
  clear hmk HZ
  go_wp2_with fail
  go_loopw [21] (fun kv wr => ∃ I : Nat, I ≤ a.length ∧ kv = .int .i64 I ∧ RwK wr w.heap.size (dl a b I 0) ∧ Below w.heap.size w wr) (fun kv _ => a.length - (intOf kv).toNat)
  case atStart => exact ⟨0, Nat.zero_le _, rfl, hB0, hb00⟩
  case round =>
    clear hB0 hb00
    obtain ⟨I, hI, rfl, hR, hb00⟩ := hrel
    by_cases hIa : I < a.length
    · obtain ⟨x, hx⟩ : ∃ x, a[I]? = some x := ⟨_, List.getElem?_eq_getElem hIa⟩
      have HXA : Hid (a.getD I 0 = x) := by show _ = _; rw [List.getD_eq_getElem?_getD, hx]; rfl
      obtain ⟨d0, d1⟩ := (HR1.out.below hb00 hbw1).kat hx
      have hrl := hR.lt
      clear hx
      go_upto_region 5 with fail
      have x0 := V2.new wr (.int .u64 (lo x)) (.int .u64 (hi x)) 28
      have hbA : Below wr.heap.size wr (wr.alloc (.cells #[.int .u64 (lo x), .int .u64 (hi x)] 28)) := by repeat (first | exact Below.refl _ _ | with_reducible assumption | (refine bl_alloc ?_ (Nat.le_refl _) _))
      replace hb00 := bl_call hb00 (Nat.le_refl _) hbA
      replace hR := hR.call hbA
      clear hbA
      generalize wr.alloc (.cells #[.int .u64 (lo x), .int .u64 (hi x)] 28) = w5 at hb00 hR x0 ⊢
      obtain ⟨xb, hxb⟩ : ∃ q, wr.heap.size = q := ⟨_, rfl⟩
      rw [hxb] at x0 hrl
      simp only [hxb]
      clear hxb d0 d1
      go_wp2_with fail
      go_loopw [28] (fun kv wi => ∃ K : Nat, K ≤ b.length ∧ kv = .int .i64 K ∧ RwK wi w.heap.size (dl a b I K) ∧ V2 wi xb (.int .u64 (lo x)) (.int .u64 (hi x)) ∧ Below w.heap.size w wi) (fun kv _ => b.length - (intOf kv).toNat)
      case atStart => exact ⟨0, Nat.zero_le _, rfl, hR, x0, hb00⟩
      case round =>
        clear hR x0 hb00
        obtain ⟨K, hK, rfl, hR, x0, hb00⟩ := hrel
        by_cases hKb : K < b.length
        · obtain ⟨y, hy⟩ : ∃ y, b[K]? = some y := ⟨_, List.getElem?_eq_getElem hKb⟩
          have HYB : Hid (b.getD K 0 = y) := by show _ = _; rw [List.getD_eq_getElem?_getD, hy]; rfl
          obtain ⟨d0, d1⟩ := (HR2.out.below hb00 hbw2).kat hy
          obtain ⟨q, hq⟩ : ∃ q, I + K = q := ⟨_, rfl⟩
          have hqN : q < N := by omega
          obtain ⟨z, hz⟩ : ∃ z, (dl a b I K)[q]? = some z := ⟨_, List.getElem?_eq_getElem (by rw [HDL.out]; exact hqN)⟩
          have HZD : Hid ((dl a b I K).set q (z + x * y) = dl a b I (K + 1)) := by
            show _ = _
            rw [← hq]
            refine HNX.out I K _ hIa hKb ?_
            rw [HXA.out, HYB.out, hq, List.getD_eq_getElem?_getD, hz]
            rfl
          have HZX := Lib.hid hz
          have v1 : IntKind.i64.wrap (q : Int) = (q : Int) := IntWalk.i64_in _ (by omega)
          have v2 : (I : Int) + (K : Int) = (q : Int) := by omega
          have g1 : (0 : Int) ≤ (q : Int) := by omega
          have g3 : (q : Int) < (N : Int) := by omega
          clear hy hz hq
          go_upto_region 8 with fail
          have y0 := V2.new wr (.int .u64 (lo y)) (.int .u64 (hi y)) 28
          have hbA : Below wr.heap.size wr (wr.alloc (.cells #[.int .u64 (lo y), .int .u64 (hi y)] 28)) := by repeat (first | exact Below.refl _ _ | with_reducible assumption | (refine bl_alloc ?_ (Nat.le_refl _) _))
          replace hb00 := bl_call hb00 (Nat.le_refl _) hbA
          replace hR := hR.call hbA
          replace x0 := x0.call hbA
          clear hbA
          generalize wr.alloc (.cells #[.int .u64 (lo y), .int .u64 (hi y)] 28) = w6 at hb00 hR x0 y0 ⊢
          clear d0 d1
          obtain ⟨c0, c1⟩ := hR.at HZX.out
          have g9 := hR.lt
          obtain ⟨x00, x01, x02, x03, x04⟩ := V2.mk x0.c0 x0.c1 x0.f0 x0.f1 x0.lt
          obtain ⟨y00, y01, y02, y03, y04⟩ := V2.mk y0.c0 y0.c1 y0.f0 y0.f1 y0.lt
          refine region_B (n := 16) (m := 18) (f := 16) (by kernel_rfl) (by kernel_rfl) rfl ?_
          refine WpH.takeD 0 (some 33) (v := ?_) rfl rfl (by kernel_rfl) (fun _ _ _ h => h) (.val rfl (fun wz hwz => ?_)) ?_
          rotate_left
          · go_simp; try (with_reducible rfl)
          (simp only [Act.put]); (try simp only [List.setIfInBounds_toArray]); (try simp only [List.set_cons_succ]); (try simp only [List.set_cons_zero])
          refine WpH.takeD 1 (some 34) (v := ?_) rfl rfl (by kernel_rfl) (fun _ _ _ h => h) (.val rfl (fun wz hwz => ?_)) ?_
          rotate_left
          · go_simp; try (with_reducible rfl)
          (simp only [Act.put]); (try simp only [List.setIfInBounds_toArray]); (try simp only [List.set_cons_succ]); (try simp only [List.set_cons_zero])
          refine WpH.takeD 2 (some 35) (v := ?_) rfl rfl (by kernel_rfl) (fun _ _ _ h => h) (.val rfl (fun wz hwz => ?_)) ?_
          rotate_left
          · go_simp; try (with_reducible rfl)
          (simp only [Act.put]); (try simp only [List.setIfInBounds_toArray]); (try simp only [List.set_cons_succ]); (try simp only [List.set_cons_zero])
          refine WpH.takeD 3 (some 36) (v := ?_) rfl rfl (by kernel_rfl) (fun _ _ _ h => h) (.val rfl (fun wz hwz => ?_)) ?_
          rotate_left
          · go_simp; try (with_reducible rfl)
          (simp only [Act.put]); (try simp only [List.setIfInBounds_toArray]); (try simp only [List.set_cons_succ]); (try simp only [List.set_cons_zero])
          refine WpH.takeD 4 (some 37) (v := ?_) rfl rfl (by kernel_rfl) (fun _ _ _ h => h) (.val rfl (fun wz hwz => ?_)) ?_
          rotate_left
          · go_simp; try (with_reducible rfl)
          (simp only [Act.put]); (try simp only [List.setIfInBounds_toArray]); (try simp only [List.set_cons_succ]); (try simp only [List.set_cons_zero])
          refine WpH.takeD 5 (some 38) (v := ?_) rfl rfl (by kernel_rfl) (fun _ _ _ h => h) (.val rfl (fun wz hwz => ?_)) ?_
          rotate_left
          · go_simp; try (with_reducible rfl)
          (simp only [Act.put]); (try simp only [List.setIfInBounds_toArray]); (try simp only [List.set_cons_succ]); (try simp only [List.set_cons_zero])
          refine WpH.takeD 6 (some 39) (v := ?_) rfl rfl (by kernel_rfl) (fun _ _ _ h => h) (.val rfl (fun wz hwz => ?_)) ?_
          rotate_left
          · go_simp; try (with_reducible rfl)
          (simp only [Act.put]); (try simp only [List.setIfInBounds_toArray]); (try simp only [List.set_cons_succ]); (try simp only [List.set_cons_zero])
          refine WpH.takeD 7 (some 40) (v := ?_) rfl rfl (by kernel_rfl) (fun _ _ _ h => h) (.val rfl (fun wz hwz => ?_)) ?_
          rotate_left
          · go_simp; try (with_reducible rfl)
          (simp only [Act.put]); (try simp only [List.setIfInBounds_toArray]); (try simp only [List.set_cons_succ]); (try simp only [List.set_cons_zero])
          refine WpH.takeD 8 (some 41) (v := ?_) rfl rfl (by kernel_rfl) (fun _ _ _ h => h) (.val rfl (fun wz hwz => ?_)) ?_
          rotate_left
          · go_simp; try (with_reducible rfl)
          (simp only [Act.put]); (try simp only [List.setIfInBounds_toArray]); (try simp only [List.set_cons_succ]); (try simp only [List.set_cons_zero])
          refine WpH.takeD 9 (some 42) (v := ?_) rfl rfl (by kernel_rfl) (fun _ _ _ h => h) (.val rfl (fun wz hwz => ?_)) ?_
          rotate_left
          · go_simp; try (with_reducible rfl)
          (simp only [Act.put]); (try simp only [List.setIfInBounds_toArray]); (try simp only [List.set_cons_succ]); (try simp only [List.set_cons_zero])
          refine WpH.takeD 10 (some 43) (v := ?_) rfl rfl (by kernel_rfl) (fun _ _ _ h => h) (.val rfl (fun wz hwz => ?_)) ?_
          rotate_left
          · (obtain ⟨hcz, hfz⟩ := bcell hwz; go_simp; try (with_reducible rfl))
          (simp only [Act.put]); (try simp only [List.setIfInBounds_toArray]); (try simp only [List.set_cons_succ]); (try simp only [List.set_cons_zero])
          refine WpH.takeD 11 (some 44) (v := ?_) rfl rfl (by kernel_rfl) (fun _ _ _ h => h) (.val rfl (fun wz hwz => ?_)) ?_
          rotate_left
          · go_simp; try (with_reducible rfl)
          (simp only [Act.put]); (try simp only [List.setIfInBounds_toArray]); (try simp only [List.set_cons_succ]); (try simp only [List.set_cons_zero])
          refine WpH.takeD 12 (some 45) (v := ?_) rfl rfl (by kernel_rfl) (fun _ _ _ h => h) (.val rfl (fun wz hwz => ?_)) ?_
          rotate_left
          · (obtain ⟨hcz, hfz⟩ := bcell hwz; go_simp; try (with_reducible rfl))
          (simp only [Act.put]); (try simp only [List.setIfInBounds_toArray]); (try simp only [List.set_cons_succ]); (try simp only [List.set_cons_zero])
          refine WpH.takeD 13 (some 46) (v := ?_) rfl rfl (by kernel_rfl) (fun _ _ _ h => h) (.val rfl (fun wz hwz => ?_)) ?_
          rotate_left
          · (obtain ⟨hcz, hfz⟩ := bcell hwz; go_simp; try (with_reducible rfl))
          (simp only [Act.put]); (try simp only [List.setIfInBounds_toArray]); (try simp only [List.set_cons_succ]); (try simp only [List.set_cons_zero])
          refine WpH.takeD 14 (some 47) rfl rfl (by kernel_rfl) (fun _ _ _ h => h) (.call rfl (fun wz hwz => HMU.out x y wz) (fun wz hwz => ?_)) ?_
          · go_simp; try (with_reducible rfl)
          (simp only [Act.put]); (try simp only [List.setIfInBounds_toArray]); (try simp only [List.set_cons_succ]); (try simp only [List.set_cons_zero])
          refine WpH.takeD 15 (some 48) rfl rfl (by kernel_rfl) (fun _ _ _ h => h) (.call rfl (fun wz hwz => HADD.out z (x * y) wz) (fun wz hwz => ?_)) ?_
          · go_simp; try (with_reducible rfl)
          (simp only [Act.put]); (try simp only [List.setIfInBounds_toArray]); (try simp only [List.set_cons_succ]); (try simp only [List.set_cons_zero])
          refine WpH.doneB (by kernel_rfl) (fun w7 hw7 => ?_)
          (try simp only [List.drop_succ_cons]); (try simp only [List.drop_zero]); (try simp only [Nat.reduceSub]); (try simp only [List.take_succ_cons]); (try simp only [List.take_zero])
          clear x00 x01 x02 x03 x04 y00 y01 y02 y03 y04
          clear c0 c1 g9
          replace hb00 := bl_call hb00 (Nat.le_refl _) hw7
          replace hR := hR.call hw7
          replace x0 := x0.call hw7
          clear hw7 y0
          obtain ⟨c0, c1⟩ := hR.at HZX.out
          obtain ⟨f0, f1⟩ := hR.frz (i := q) (by rw [HDL.out]; exact hqN)
          have g9 := hR.lt
          go_wp2_with fail
          go_roundw
          case rel =>
            have h := hR.set q (by rw [HDL.out]; exact hqN) (z + x * y)
            rw [HZD.out] at h
            exact ⟨K + 1, by omega, by go_num, h, V2.setOther (V2.setOther x0 (by dsimp only; omega) _) (by dsimp only; omega) _, by repeat (first | exact Below.refl _ _ | with_reducible assumption | (refine bl_alloc ?_ (Nat.le_refl _) _) | (refine bl_set ?_ (by dsimp only; omega) _) | (refine Below.drew ?_) | (refine bl_drewN ?_ _) | (refine bl_call ?_ (Nat.le_refl _) (by assumption)))⟩
          case measure => simp [intOf]; omega
        · obtain hKe : K = b.length := by omega
          subst hKe
          rw [HRO.out] at hR
          go_wp2_with fail
          go_roundw
          case rel => exact ⟨I + 1, by omega, by go_num, hR, hb00⟩
          case measure => simp [intOf]; omega
    · obtain hIe : I = a.length := by omega
      subst hIe
      rw [HEN.out] at hR
      have HRR := Lib.hid hR
      clear hR
      go_wp2_with fail
      go_ret
      exact ⟨w.heap.size, by rw [HPL.out]; rfl, HRR.out, Nat.le_refl _, hb00⟩
end

end Go.Proofs.YtfhmineolncefaaDoor

namespace Go.Proofs.YtfhmineolncefaaDoor
open Go.RowKit Fm
set_option linter.unusedVariables false
set_option maxRecDepth 100000

/-- small numbers are told apart by their elements -/
theorem nK_small {f : Nat} (hf : IsF f) {a b : Nat} (ha : a < 4294967296) (hb : b < 4294967296) (h : nK f a = nK f b) : a = b := by
  have h1 := congrArg (fun x : Fin (Pm f) => ((x.val : Nat) : Int)) h
  simp only [nK_kI, kI_val] at h1
  rcases hf.or with rfl | rfl
  · rw [show ((Pm 1 : Nat) : Int) = 18446744069414584321 from rfl] at h1
    omega
  · rw [show ((Pm 2 : Nat) : Int) = 340282366920938462946865773367900766209 from rfl] at h1
    omega

/-- so many of the first N are 1 -/
def Cnt {f : Nat} (l : KL f) (N k s : Nat) : Prop := nK f s = ksum (l.take (min k N))
theorem Cnt.zero {f : Nat} (l : KL f) (N : Nat) : Cnt l N 0 0 := by
  unfold Cnt
  rw [nK_zero, Nat.zero_min]
  rfl
theorem Cnt.out {f : Nat} {l : KL f} {N k s : Nat} (h : Cnt l N k s) (hk : ¬ k < N) : Cnt l N (k + 1) s := by
  unfold Cnt at *
  rw [show min (k + 1) N = min k N by omega]
  exact h
theorem Cnt.no {f : Nat} {l : KL f} {N k s : Nat} (h : Cnt l N k s) (hx : l[k]? = some 0) : Cnt l N (k + 1) s := by
  by_cases hk : k < N
  · unfold Cnt at *
    rw [show min (k + 1) N = k + 1 by omega, ksum_take l k _ hx, h, show min k N = k by omega]
    grind
  · exact h.out hk
theorem Cnt.yes {f : Nat} {l : KL f} {N k s : Nat} (h : Cnt l N k s) (hk : k < N) (hx : l[k]? = some 1) : Cnt l N (k + 1) (s + 1) := by
  unfold Cnt at *
  rw [show min (k + 1) N = k + 1 by omega, ksum_take l k _ hx, nK_add, nK_one, h, show min k N = k by omega]

theorem kpow_nK (f : Nat) : ∀ j, kpow f j = nK f (2 ^ j)
  | 0 => (nK_one f).symm
  | j + 1 => by rw [kpow, kpow_nK f j, Nat.pow_succ, Nat.mul_two, nK_add]

/-- the number that the first j of some bits make -/
def Num {f : Nat} (l : KL f) (j v : Nat) : Prop := nK f v = knum (l.take j) ∧ v < 2 ^ j
theorem Num.zero {f : Nat} (l : KL f) : Num l 0 0 := ⟨by rw [nK_zero]; rfl, by decide⟩
theorem Num.no {f : Nat} {l : KL f} {j v : Nat} (h : Num l j v) (hx : l[j]? = some 0) : Num l (j + 1) v := by
  refine ⟨?_, ?_⟩
  · rw [knum_take l j _ hx, ← h.1]
    grind
  · have := h.2
    rw [Nat.pow_succ]
    omega
theorem Num.yes {f : Nat} {l : KL f} {j v : Nat} (h : Num l j v) (hx : l[j]? = some 1) : Num l (j + 1) (v + 2 ^ j) := by
  refine ⟨?_, ?_⟩
  · rw [knum_take l j _ hx, nK_add, ← h.1, kpow_nK]
    grind
  · have := h.2
    rw [Nat.pow_succ]
    omega

section
variable {f : Nat} (hf : IsF f)
include hf

end

end Go.Proofs.YtfhmineolncefaaDoor

namespace Go.Proofs.YtfhmineolncefaaDoor
open Go.RowKit Fm
set_option linter.unusedVariables false
set_option maxRecDepth 100000

theorem SlK.cells {f : Nat} {w : World} {B b o n c k : Nat} {l : KL f} {x : Fin (Pm f)} (h : SlK w B (.slice (some ⟨b, o, none⟩) n c) l) (hk : l[k]? = some x) : b < B ∧ w.cell? ⟨b, o + k * 2, none⟩ = some (.int .u64 (lo x)) ∧ w.cell? ⟨b, o + k * 2 + 1, none⟩ = some (.int .u64 (hi x)) := by
  obtain ⟨A', c', hv, h1, h2, h3⟩ := h
  obtain ⟨b', o', k1, k2, k4⟩ := h3 (by have := (List.getElem?_eq_some_iff.1 hk).1; omega)
  injection hv with e1 e2 e3
  rw [k1] at e1
  injection e1 with e1
  injection e1 with e4 e5 e6
  subst e4
  subst e5
  exact ⟨k2, (k4.kat hk).1, (k4.kat hk).2⟩

/-- the sum of the first n of g -/
def acc {f : Nat} (g : Nat → Fin (Pm f)) : Nat → Fin (Pm f)
  | 0 => 0
  | n + 1 => acc g n + g n

theorem acc_congr {f : Nat} {g h : Nat → Fin (Pm f)} : ∀ n, (∀ i, i < n → g i = h i) → acc g n = acc h n
  | 0, _ => rfl
  | n + 1, H => by
    show acc g n + g n = acc h n + h n
    rw [acc_congr n (fun i hi => H i (by omega)), H n (by omega)]
theorem acc_add {f : Nat} (g h : Nat → Fin (Pm f)) : ∀ n, acc (fun i => g i + h i) n = acc g n + acc h n
  | 0 => by
    show (0 : Fin (Pm f)) = 0 + 0
    grind
  | n + 1 => by
    show acc (fun i => g i + h i) n + (g n + h n) = acc g n + g n + (acc h n + h n)
    rw [acc_add g h n]
    grind
theorem acc_zero {f : Nat} (g : Nat → Fin (Pm f)) (m : Nat) : ∀ n, (∀ i, m ≤ i → i < m + n → g i = 0) → acc g (m + n) = acc g m
  | 0, _ => rfl
  | n + 1, H => by
    show acc g (m + n) + g (m + n) = _
    rw [acc_zero g m n (fun i h1 h2 => H i h1 (by omega)), H (m + n) (by omega) (by omega)]
    grind
theorem acc_shift {f : Nat} (g : Nat → Fin (Pm f)) (m : Nat) : ∀ n, acc g (m + n) = acc g m + acc (fun i => g (m + i)) n
  | 0 => by
    show acc g m = acc g m + 0
    grind
  | n + 1 => by
    show acc g (m + n) + g (m + n) = acc g m + (acc (fun i => g (m + i)) n + g (m + n))
    rw [acc_shift g m n]
    grind
theorem acc_flat {f : Nat} (h : Nat → Fin (Pm f)) (C : Nat) : ∀ q, acc (fun k => acc (fun i => h (k * C + i)) C) q = acc h (q * C)
  | 0 => by rw [Nat.zero_mul]; rfl
  | q + 1 => by
    show acc (fun k => acc (fun i => h (k * C + i)) C) q + acc (fun i => h (q * C + i)) C = _
    rw [acc_flat h C q, Nat.succ_mul, acc_shift]

theorem kpw_kpow {f : Nat} (x : Fin (Pm f)) : ∀ n, kpw x n = Fm.kpow x n
  | 0 => rfl
  | n + 1 => by rw [kpw, kpw_kpow x n, Fm.kpow_succ]
theorem mul_kinvK {f : Nat} (x : Fin (Pm f)) (hx : x ≠ 0) : x * kinv x = 1 := by
  have h := Fm.mul_kinv x hx
  unfold kinv
  rw [kpw_kpow]
  exact h
theorem kinv_one {f : Nat} : kinv (1 : Fin (Pm f)) = 1 := by
  have h := mul_kinvK (1 : Fin (Pm f)) k_one_ne
  grind
theorem kinv_two {f : Nat} (hf : IsF f) : nK f 2 ≠ 0 ∧ kinv (nK f 2) + kinv (nK f 2) = 1 := by
  have h0 : nK f 2 ≠ 0 := fun h => by
    have := nK_small hf (a := 2) (b := 0) (by decide) (by decide) (by rw [h, nK_zero])
    omega
  refine ⟨h0, ?_⟩
  have h := mul_kinvK (nK f 2) h0
  have h2 : nK f 2 = 1 + 1 := by rw [show 2 = 1 + 1 from rfl, nK_add, nK_one]
  generalize kinv (nK f 2) = k at h ⊢
  rw [h2] at h
  grind

/-- one pair of a chunk -/
def pairL {f : Nat} (v : KL f) (r part : Fin (Pm f)) (s i : Nat) : KL f :=
  if s + i < v.length then [kpw r (i + 1) * v.getD (s + i) 0, v.getD (s + i) 0 - part] else [0, 0]
/-- a chunk's first i pairs -/
def argL {f : Nat} (v : KL f) (r part : Fin (Pm f)) (s : Nat) : Nat → KL f
  | 0 => []
  | i + 1 => argL v r part s i ++ pairL v r part s i
theorem pairL_length {f : Nat} (v : KL f) (r part : Fin (Pm f)) (s i : Nat) : (pairL v r part s i).length = 2 := by unfold pairL; split <;> rfl
theorem argL_length {f : Nat} (v : KL f) (r part : Fin (Pm f)) (s : Nat) : ∀ i, (argL v r part s i).length = 2 * i
  | 0 => rfl
  | i + 1 => by
    show (argL v r part s i ++ pairL v r part s i).length = _
    rw [List.length_append, argL_length v r part s i, pairL_length]
    omega
theorem pairL_in {f : Nat} {v : KL f} {r part x : Fin (Pm f)} {s i : Nat} (h : v[s + i]? = some x) : pairL v r part s i = [kpw r (i + 1) * x, x - part] := by
  obtain ⟨hlt, he⟩ := List.getElem?_eq_some_iff.1 h
  unfold pairL
  rw [if_pos hlt, List.getD_eq_getElem?_getD, h]
  rfl
theorem pairL_out {f : Nat} {v : KL f} {r part : Fin (Pm f)} {s i : Nat} (h : ¬ s + i < v.length) : pairL v r part s i = [0, 0] := by
  unfold pairL
  rw [if_neg h]

/-- what is asked by the k-th call -/
def argOf {f : Nat} (y : CK) (v j : KL f) (part : Fin (Pm f)) (k : Nat) : KL f :=
  match y with
  | .count => [v.getD 0 0, v.getD 0 0]
  | .sum _ => [v.getD k 0]
  | .vec _ _ c => argL v (j.getD k 0) part (k * c) c
  | .hist _ c => argL v (j.getD k 0) part (k * c) c
  | .multi _ _ c => argL v (j.getD k 0) part (k * c) c

theorem getD_of {f : Nat} {l : KL f} {i : Nat} {x : Fin (Pm f)} (h : l[i]? = some x) : l.getD i 0 = x := by
  rw [List.getD_eq_getElem?_getD, h]
  rfl

/-- what the bits come to -/
def bitsF {f : Nat} (ans : Nat → Fin (Pm f)) (r : Fin (Pm f)) (n : Nat) : Fin (Pm f) := acc (fun i => kpw r (i + 1) * ans i) n
theorem bitsF_zero {f : Nat} (ans : Nat → Fin (Pm f)) (r : Fin (Pm f)) : bitsF ans r 0 = 0 := rfl
theorem bitsF_succ {f : Nat} (ans : Nat → Fin (Pm f)) (r : Fin (Pm f)) (n : Nat) : bitsF ans r (n + 1) = bitsF ans r n + kpw r (n + 1) * ans n := rfl

/-- what is said of a vector -/
def runF {f : Nat} (y : CK) (v j : KL f) (part : Fin (Pm f)) (ans : Nat → Fin (Pm f)) : Fin (Pm f) :=
  match y with
  | .count => ans 0 - v.getD 0 0
  | .sum b => bitsF ans (j.getD 0 0) b
  | .vec b l c => acc ans (CK.vec b l c).calls
  | .hist l c => acc ans (CK.hist l c).calls + j.getD (j.length - 1) 0 * (ksum (v.take l) - part)
  | .multi l m c => acc ans (CK.multi l m c).calls + j.getD (j.length - 1) 0 * (ksum (v.take l) - knum (v.drop l) + nK f (offN m) * part)

/-! ### shares -/
theorem bitsF_sum {f : Nat} (p q r : Nat → Fin (Pm f)) (x : Fin (Pm f)) : ∀ n, (∀ i, i < n → p i + q i = r i) → bitsF p x n + bitsF q x n = bitsF r x n
  | 0, _ => by
    show (0 : Fin (Pm f)) + 0 = 0
    grind
  | n + 1, H => by
    have ih := bitsF_sum p q r x n (fun i hi => H i (by omega))
    have h := H n (by omega)
    show bitsF p x n + kpw x (n + 1) * p n + (bitsF q x n + kpw x (n + 1) * q n) = bitsF r x n + kpw x (n + 1) * r n
    rw [← ih, ← h]
    grind
theorem acc_sum {f : Nat} (p q r : Nat → Fin (Pm f)) (n : Nat) (H : ∀ i, i < n → p i + q i = r i) : acc p n + acc q n = acc r n := by
  rw [← acc_add]
  exact acc_congr n H

/-- a and b add up to v -/
def SumL {f : Nat} (a b v : KL f) : Prop := a.length = v.length ∧ b.length = v.length ∧ ∀ (i : Nat) (x y z : Fin (Pm f)), a[i]? = some x → b[i]? = some y → v[i]? = some z → x + y = z
theorem SumL.at {f : Nat} {a b v : KL f} (h : SumL a b v) {i : Nat} (hi : i < v.length) : ∃ x y, a[i]? = some x ∧ b[i]? = some y ∧ v[i]? = some (x + y) := by
  obtain ⟨x, h1⟩ : ∃ x, a[i]? = some x := ⟨_, List.getElem?_eq_getElem (by rw [h.1]; exact hi)⟩
  obtain ⟨y, h2⟩ : ∃ x, b[i]? = some x := ⟨_, List.getElem?_eq_getElem (by rw [h.2.1]; exact hi)⟩
  have h3 : v[i]? = some v[i] := List.getElem?_eq_getElem hi
  have h4 := h.2.2 i _ _ _ h1 h2 h3
  exact ⟨_, _, h1, h2, by rw [h3, h4]⟩
theorem SumL.ksum {f : Nat} {a b v : KL f} (h : SumL a b v) : ∀ n, n ≤ v.length → ksum (a.take n) + ksum (b.take n) = ksum (v.take n)
  | 0, _ => by
    show (0 : Fin (Pm f)) + 0 = 0
    grind
  | n + 1, hn => by
    obtain ⟨x, y, h1, h2, h3⟩ := h.at (i := n) (by omega)
    rw [ksum_take _ _ _ h1, ksum_take _ _ _ h2, ksum_take _ _ _ h3, ← SumL.ksum h n (by omega)]
    grind
theorem SumL.knum {f : Nat} {a b v : KL f} (h : SumL a b v) : ∀ d, d ≤ v.length → knum (a.drop (v.length - d)) + knum (b.drop (v.length - d)) = knum (v.drop (v.length - d))
  | 0, _ => by
    rw [Nat.sub_zero, List.drop_length, show a.drop v.length = [] by rw [← h.1]; exact List.drop_length, show b.drop v.length = [] by rw [← h.2.1]; exact List.drop_length]
    show (0 : Fin (Pm f)) + 0 = 0
    grind
  | d + 1, hd => by
    obtain ⟨x, y, h1, h2, h3⟩ := h.at (i := v.length - (d + 1)) (by omega)
    have ih := SumL.knum h d (by omega)
    rw [knum_drop _ _ _ h1, knum_drop _ _ _ h2, knum_drop _ _ _ h3, show v.length - (d + 1) + 1 = v.length - d by omega, ← ih]
    grind

theorem runF_sum {f : Nat} (y : CK) (hy : y.ok) (v a b j : KL f) (hl : v.length = y.nin) (hs : SumL a b v) (h : Fin (Pm f)) (hh : h + h = 1) (p q r : Nat → Fin (Pm f)) (H : ∀ k, k < y.calls → p k + q k = r k) :
    runF y a j h p + runF y b j h q = runF y v j 1 r := by
  have hn := CK.nin_pos hy
  obtain ⟨x0, y0, h1, h2, h3⟩ := hs.at (i := 0) (by omega)
  cases y with
  | count =>
    show p 0 - a.getD 0 0 + (q 0 - b.getD 0 0) = r 0 - v.getD 0 0
    rw [getD_of h1, getD_of h2, getD_of h3, ← H 0 (by decide)]
    grind
  | sum b => exact bitsF_sum p q r _ b H
  | vec bb l c => exact acc_sum p q r _ H
  | hist l c =>
    show acc p (CK.hist l c).calls + j.getD (j.length - 1) 0 * (Go.Proofs.YtfhmineolncefaaDoor.ksum (a.take l) - h) + (acc q (CK.hist l c).calls + j.getD (j.length - 1) 0 * (Go.Proofs.YtfhmineolncefaaDoor.ksum (b.take l) - h)) = acc r (CK.hist l c).calls + j.getD (j.length - 1) 0 * (Go.Proofs.YtfhmineolncefaaDoor.ksum (v.take l) - 1)
    have hl2 : v.length = l := hl
    have e1 := acc_sum p q r _ H
    have e2 := hs.ksum l (by omega)
    rw [← e1, ← e2, ← hh]
    grind
  | multi l m c =>
    show acc p (CK.multi l m c).calls + j.getD (j.length - 1) 0 * (Go.Proofs.YtfhmineolncefaaDoor.ksum (a.take l) - Go.Proofs.YtfhmineolncefaaDoor.knum (a.drop l) + nK f (offN m) * h) + (acc q (CK.multi l m c).calls + j.getD (j.length - 1) 0 * (Go.Proofs.YtfhmineolncefaaDoor.ksum (b.take l) - Go.Proofs.YtfhmineolncefaaDoor.knum (b.drop l) + nK f (offN m) * h)) = acc r (CK.multi l m c).calls + j.getD (j.length - 1) 0 * (Go.Proofs.YtfhmineolncefaaDoor.ksum (v.take l) - Go.Proofs.YtfhmineolncefaaDoor.knum (v.drop l) + nK f (offN m) * 1)
    have hl2 : v.length = l + Lib.bitLen m := hl
    have e1 := acc_sum p q r _ H
    have e2 := hs.ksum l (by omega)
    have e3 := hs.knum (Lib.bitLen m) (by omega)
    rw [show v.length - Lib.bitLen m = l by omega] at e3
    rw [← e1, ← e2, ← e3, ← hh]
    grind

/-! ### directly -/
/-- what the reference adds up -/
def dirG {f : Nat} (v j : KL f) (s i : Nat) : Fin (Pm f) := kpw (j.getD (i / s) 0) (i % s + 1) * (v.getD i 0 * (v.getD i 0 - 1))
def CK.size : CK → Nat
  | .sum b => b
  | y => y.c
def dirF {f : Nat} (y : CK) (v j : KL f) : Fin (Pm f) :=
  match y with
  | .count => v.getD 0 0 * v.getD 0 0 - v.getD 0 0
  | .sum b => acc (dirG v j b) b
  | .vec b l c => acc (dirG v j c) (l * b)
  | .hist l c => acc (dirG v j c) l + j.getD (j.length - 1) 0 * (ksum (v.take l) - 1)
  | .multi l m c => acc (dirG v j c) (l + Lib.bitLen m) + j.getD (j.length - 1) 0 * (ksum (v.take l) + nK f (offN m) - knum (v.drop l))

theorem psum_append {f : Nat} (l m : KL f) : ∀ i, 2 * i ≤ l.length → psum (l ++ m) i = psum l i
  | 0, _ => rfl
  | i + 1, h => by
    show psum (l ++ m) i + (l ++ m).getD (2 * i) 0 * (l ++ m).getD (2 * i + 1) 0 = psum l i + l.getD (2 * i) 0 * l.getD (2 * i + 1) 0
    rw [psum_append l m i (by omega)]
    simp only [List.getD_eq_getElem?_getD]
    rw [List.getElem?_append_left (by omega), List.getElem?_append_left (by omega)]
theorem psum_argL {f : Nat} (v : KL f) (r : Fin (Pm f)) (s : Nat) : ∀ i, psum (argL v r 1 s i) i = acc (fun i => if s + i < v.length then kpw r (i + 1) * (v.getD (s + i) 0 * (v.getD (s + i) 0 - 1)) else 0) i
  | 0 => rfl
  | i + 1 => by
    have hl := argL_length v r 1 s i
    show psum (argL v r 1 s i ++ pairL v r 1 s i) i + (argL v r 1 s i ++ pairL v r 1 s i).getD (2 * i) 0 * (argL v r 1 s i ++ pairL v r 1 s i).getD (2 * i + 1) 0 = _ + _
    rw [psum_append _ _ _ (by omega), psum_argL v r s i]
    simp only [List.getD_eq_getElem?_getD]
    rw [List.getElem?_append_right (by omega), List.getElem?_append_right (by omega), hl, show 2 * i - 2 * i = 0 by omega, show 2 * i + 1 - 2 * i = 1 by omega]
    unfold pairL
    by_cases hlt : s + i < v.length
    · rw [if_pos hlt, if_pos hlt]
      simp only [List.getD_eq_getElem?_getD, List.getElem?_cons_zero, List.getElem?_cons_succ, Option.getD_some]
      grind
    · rw [if_neg hlt, if_neg hlt]
      simp only [List.getElem?_cons_zero, List.getElem?_cons_succ, Option.getD_some]
      grind

theorem chunks_dir {f : Nat} (v j : KL f) (c : Nat) (hc : 1 ≤ c) (q : Nat) (hq : v.length ≤ q * c) : acc (fun k => psum (argL v (j.getD k 0) 1 (k * c) c) c) q = acc (dirG v j c) v.length := by
  have h1 : acc (fun k => psum (argL v (j.getD k 0) 1 (k * c) c) c) q = acc (fun k => acc (fun i => (fun n => if n < v.length then dirG v j c n else 0) (k * c + i)) c) q := by
    refine acc_congr q fun k hk => ?_
    rw [psum_argL]
    refine acc_congr c fun i hi => ?_
    have e1 : (k * c + i) / c = k := by rw [Nat.mul_comm, Nat.mul_add_div (by omega), Nat.div_eq_of_lt hi, Nat.add_zero]
    have e2 : (k * c + i) % c = i := by rw [Nat.mul_comm, Nat.mul_add_mod, Nat.mod_eq_of_lt hi]
    show (if k * c + i < v.length then _ else _) = if k * c + i < v.length then dirG v j c (k * c + i) else 0
    unfold dirG
    rw [e1, e2]
  rw [h1, acc_flat (fun n => if n < v.length then dirG v j c n else 0) c q]
  obtain ⟨d, hd⟩ : ∃ d, q * c = v.length + d := ⟨q * c - v.length, by omega⟩
  rw [hd, acc_zero _ _ d (fun i h1 h2 => if_neg (by omega))]
  exact acc_congr _ fun i hi => if_pos hi

/-- what is said of a vector, the gadget being asked itself, is as the document has it -/
theorem runF_dir {f : Nat} (y : CK) (hy : y.ok) (v j : KL f) (hl : v.length = y.nin) : runF y v j 1 (fun k => gval (y.gad f) (argOf y v j 1 k)) = dirF y v j := by
  cases y with
  | count =>
    show (0 : Fin (Pm f)) + v.getD 0 0 * v.getD 0 0 - v.getD 0 0 = v.getD 0 0 * v.getD 0 0 - v.getD 0 0
    grind
  | sum b =>
    refine acc_congr b fun i hi => ?_
    show kpw (j.getD 0 0) (i + 1) * (((0 * v.getD i 0 + 1) * v.getD i 0 + -1) * v.getD i 0 + 0) = kpw (j.getD (i / b) 0) (i % b + 1) * (v.getD i 0 * (v.getD i 0 - 1))
    rw [Nat.div_eq_of_lt hi, Nat.mod_eq_of_lt hi]
    grind
  | vec bb l c =>
    have h := chunks_dir v j c hy.2.2.1 (CK.vec bb l c).calls (by rw [hl]; exact ceil_spec hy.2.2.1)
    rw [hl] at h
    exact h
  | hist l c =>
    have h := chunks_dir v j c hy.2.1 (CK.hist l c).calls (by rw [hl]; exact ceil_spec hy.2.1)
    rw [hl] at h
    show acc _ _ + _ = acc (dirG v j c) l + _
    exact congrArg (· + j.getD (j.length - 1) 0 * (ksum (v.take l) - 1)) h
  | multi l m c =>
    have h := chunks_dir v j c hy.2.2.1 (CK.multi l m c).calls (by rw [hl]; exact ceil_spec hy.2.2.1)
    rw [hl] at h
    refine (congrArg (· + j.getD (j.length - 1) 0 * (ksum (v.take l) - knum (v.drop l) + nK f (offN m) * 1)) h).trans ?_
    show acc (dirG v j c) (l + Lib.bitLen m) + _ = acc (dirG v j c) (l + Lib.bitLen m) + _
    grind

/-- nought is said of a right one -/
theorem dirF_ok {f : Nat} (y : CK) (hy : y.ok) (v j : KL f) (hl : v.length = y.nin) (hv : okVec y v) : dirF y v j = 0 := by
  have hz : ∀ s n, n ≤ v.length → acc (dirG v j s) n = 0 := fun s n hn => by
    have h := acc_zero (dirG v j s) 0 n (fun i _ hi => by
      have hx := hv.1 v[i] (List.getElem_mem (by omega))
      have he : v[i]? = some v[i] := List.getElem?_eq_getElem (by omega)
      unfold dirG
      rw [getD_of he]
      rcases hx with h | h
      · rw [h]
        grind
      · rw [h]
        grind)
    rw [Nat.zero_add] at h
    exact h
  have hn := CK.nin_pos hy
  cases y with
  | count =>
    have hx := hv.1 v[0] (List.getElem_mem (by omega))
    have he : v[0]? = some v[0] := List.getElem?_eq_getElem (by omega)
    show v.getD 0 0 * v.getD 0 0 - v.getD 0 0 = 0
    rw [getD_of he]
    rcases hx with h | h
    · rw [h]
      grind
    · rw [h]
      grind
  | sum b => exact hz b b (by rw [hl]; exact Nat.le_refl _)
  | vec bb l c => exact hz c (l * bb) (by rw [hl]; exact Nat.le_refl _)
  | hist l c =>
    show acc (dirG v j c) l + _ = 0
    rw [hz c l (by rw [hl]; exact Nat.le_refl _)]
    have h2 : ksum v = 1 := hv.2
    have h3 : v.take l = v := List.take_of_length_le (by rw [hl]; exact Nat.le_refl _)
    rw [h3, h2]
    grind
  | multi l m c =>
    show acc (dirG v j c) (l + Lib.bitLen m) + _ = 0
    rw [hz c _ (by rw [hl]; exact Nat.le_refl _)]
    have h2 : ksum (v.take l) + nK f (offN m) = knum (v.drop l) := hv.2
    rw [h2]
    grind

end Go.Proofs.YtfhmineolncefaaDoor
