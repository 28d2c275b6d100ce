/-
  WALK: circuit.Valid.
-/
/-
  WALKS: powers and inverses (wide.Pow ..).
-/
/-
  PURE MATHEMATICS: finite sums in Fin p; sums over even and odd places; the sum of a number's powers.
-/
import Derived.Test.YtfhmineolncefaaDoorMal
import Derived.Test.YtfhmineolncefaaDoorMag
import Derived.Laws.Bits64b
import Derived.Test.YtfhmineolncefaaDoorMaa
namespace Go.Proofs.YtfhmineolncefaaDoor
open Go.RowKit Fm
set_option linter.unusedVariables false
set_option maxRecDepth 100000

theorem lohi_eq {f : Nat} (x y : Fin (Pm f)) : (lo x == lo y && hi x == hi y) = decide (x = y) := by
  by_cases h : x = y
  · subst h
    simp
  · rw [decide_eq_false h, Bool.and_eq_false_iff, beq_eq_false_iff_ne, beq_eq_false_iff_ne]
    by_cases h0 : lo x = lo y
    · exact .inr fun h1 => h (lohi_inj h0 h1)
    · exact .inl h0

/-- is a vector right? -/
def okBits {f : Nat} (l : KL f) : Prop := ∀ x, x ∈ l → x = 0 ∨ x = 1
def okRest {f : Nat} (y : CK) (l : KL f) : Prop :=
  match y with
  | .hist _ _ => ksum l = 1
  | .multi n m _ => ksum (l.take n) + nK f (offN m) = knum (l.drop n)
  | _ => True
def okVec {f : Nat} (y : CK) (l : KL f) : Prop := okBits l ∧ okRest y l

/-- a test's answer comes back -/
def RetTest (p : Prop) (w : World) (e : Ending) (w' : World) : Prop := (∃ b : Bool, e = .returned (.bool b) ∧ (b = true ↔ p)) ∧ Below w.heap.size w w'

theorem okBits_take {f : Nat} {l : KL f} {k : Nat} {x : Fin (Pm f)} (h : l[k]? = some x) (ha : okBits (l.take k)) (hx : x = 0 ∨ x = 1) : okBits (l.take (k + 1)) := by
  intro z hz
  rw [List.take_add_one, h] at hz
  rcases List.mem_append.1 hz with h1 | h1
  · exact ha z h1
  · have : z = x := by simpa using h1
    subst this
    exact hx

theorem SlK.takeN {f : Nat} {w : World} {B : Nat} {A : Option Addr} {c : Nat} {l : KL f} {n : Nat} (h : SlK w B (.slice A l.length c) l) (hn : n ≤ l.length) (v : Value) (hv : v = .slice A n c) : SlK w B v (l.take n) := by
  obtain ⟨A', c', hh, h1, h2, h3⟩ := h
  injection hh with e1 e2 e3
  subst e1
  subst e3
  have hl : (l.take n).length = n := by rw [List.length_take]; omega
  refine ⟨A, c, by rw [hl]; exact hv, by omega, h2, fun h0 => ?_⟩
  rw [hl] at h0
  obtain ⟨b, o, hA, hB, hr⟩ := h3 (by omega)
  refine ⟨b, o, hA, hB, fun i e hi => hr i e ?_⟩
  unfold esK at hi ⊢
  rw [List.map_take] at hi
  rw [← hi, List.getElem?_take]
  split
  · rfl
  · rename_i hge
    rw [List.getElem?_take, if_neg hge] at hi
    cases hi

theorem SlK.dropN {f : Nat} {w : World} {B b o : Nat} {c : Nat} {l : KL f} {n : Nat} (h : SlK w B (.slice (some ⟨b, o, none⟩) l.length c) l) (hn : n < l.length) : SlK w B (.slice (some ⟨b, o + n * 2, none⟩) (l.length - n) (c - n)) (l.drop n) := by
  obtain ⟨A', c', hh, h1, h2, h3⟩ := h
  injection hh with e1 e2 e3
  subst e1
  subst e3
  have hl : (l.drop n).length = l.length - n := List.length_drop
  refine ⟨some ⟨b, o + n * 2, none⟩, c - n, by rw [hl], by omega, by omega, fun h0 => ?_⟩
  obtain ⟨b', o', hA, hB, hr⟩ := h3 (by omega)
  injection hA with hA
  injection hA with hb ho
  subst hb
  subst ho
  refine ⟨b, o + n * 2, rfl, hB, fun i e hi => ?_⟩
  unfold esK at hi
  rw [List.map_drop, List.getElem?_drop] at hi
  have h4 := hr (n + i) e hi
  rw [show o + n * 2 + i * 2 = o + (n + i) * 2 by omega]
  exact h4

section
variable {f : Nat} (hf : IsF f)
include hf

end

end Go.Proofs.YtfhmineolncefaaDoor

namespace Go.Proofs.YtfhmineolncefaaDoor
open Go.RowKit Fm
set_option linter.unusedVariables false
set_option maxRecDepth 100000

/-- powers -/
def kpw {f : Nat} (x : Fin (Pm f)) : Nat → Fin (Pm f)
  | 0 => 1
  | n + 1 => kpw x n * x
theorem kpw_add {f : Nat} (x : Fin (Pm f)) (m : Nat) : ∀ n, kpw x (m + n) = kpw x m * kpw x n
  | 0 => by
    show kpw x m = kpw x m * 1
    grind
  | n + 1 => by
    show kpw x (m + n) * x = kpw x m * (kpw x n * x)
    rw [kpw_add x m n]
    grind
theorem kpw_bit {f : Nat} (x : Fin (Pm f)) (n k : Nat) : kpw x (n % 2 ^ (k + 1)) = if n / 2 ^ k % 2 = 1 then kpw x (n % 2 ^ k) * kpw x (2 ^ k) else kpw x (n % 2 ^ k) := by
  rw [Nat.mod_pow_succ]
  rcases (by omega : n / 2 ^ k % 2 = 0 ∨ n / 2 ^ k % 2 = 1) with h | h
  · rw [h, if_neg (by omega), Nat.mul_zero, Nat.add_zero]
  · rw [h, if_pos rfl, Nat.mul_one, kpw_add]
theorem kpw_twice {f : Nat} (x : Fin (Pm f)) (k : Nat) : kpw x (2 ^ (k + 1)) = kpw x (2 ^ k) * kpw x (2 ^ k) := by
  rw [Nat.pow_succ, Nat.mul_two, kpw_add]
theorem bit_of (n0 n1 k : Nat) (h0 : n0 ≤ 18446744073709551615) (hk : k < 128) : (n0 + 18446744073709551616 * n1) / 2 ^ k % 2 = (if k < 64 then n0 else n1) / 2 ^ (k % 64) % 2 := by
  by_cases h : k < 64
  · rw [if_pos h, Nat.mod_eq_of_lt h]
    rw [show 18446744073709551616 * n1 = 2 ^ k * (2 * (2 ^ (63 - k) * n1)) by
      rw [← Nat.mul_assoc 2, ← Nat.pow_succ', ← Nat.mul_assoc, ← Nat.pow_add, show k + (63 - k).succ = 64 by omega], Nat.add_mul_div_left _ _ (Nat.two_pow_pos k), Nat.add_mul_mod_self_left]
  · rw [if_neg h]
    have h1 : (n0 + 18446744073709551616 * n1) / 2 ^ 64 = n1 := by omega
    have h2 : 2 ^ k = 2 ^ 64 * 2 ^ (k % 64) := by rw [← Nat.pow_add, show 64 + k % 64 = k by omega]
    rw [h2, ← Nat.div_div_eq_div_mul, h1]

set_option maxHeartbeats 4000000 in
theorem wide_Pow (a0 a1 : Int) (n0 n1 : Nat) (w : World) (h0 : 0 ≤ a0) (h1 : a0 ≤ 18446744073709551615) (k0 : 0 ≤ a1) (k1 : a1 ≤ 18446744073709551615) (g0 : n0 ≤ 18446744073709551615) (g1 : n1 ≤ 18446744073709551615) :
    Calls Tryd.prog 100 #[.agg #[.int .u64 a0, .int .u64 a1], .agg #[.int .u64 n0, .int .u64 n1]] w (RetK (kpw (kL 2 a0 a1) (n0 + 18446744073709551616 * n1)) w) := by
  have HO := Lib.hid (fun wz => wide_OfK a0 a1 wz h0 h1 k0 k1)
  have HB := Lib.hid (fun k hk => bit_of n0 n1 k g0 hk)
  generalize kL 2 a0 a1 = x at *
  have HMU : Hid (∀ (y z : Fin (Pm 2)) wz, Calls Tryd.prog 71 #[vK y, vK z] wz (RetK (y * z) wz)) := fun y z wz => by
    have h := wide_MulL (lo y) (hi y) (lo z) (hi z) wz (lo_0 y) (lo_1 y) (hi_0 y) (hi_1 y) (lo_0 z) (lo_1 z) (hi_0 z) (hi_1 z)
    rwa [kL_lohi, kL_lohi] at h
  have HNL : Hid ((n0 + 18446744073709551616 * n1) % 2 ^ 128 = n0 + 18446744073709551616 * n1) := Nat.mod_eq_of_lt (by omega)
  generalize n0 + 18446744073709551616 * n1 = N at *
  have HP0 : Hid (kpw x (2 ^ 0) = x) := by show 1 * x = x; grind
  have HM0 : Hid (kpw x (N % 2 ^ 0) = 1) := by show _ = _; rw [Nat.pow_zero, Nat.mod_one]; rfl
  go_enter Tryd.func100, Tryd.ntmps100
  go_upto_region 1 with fail
  have q0 := ((V2.new w (.int .u64 a0) (.int .u64 a1) 28).alloc (.cells #[(.int .u64 n0), (.int .u64 n1)] 28)).alloc (.cells #[(.int .u64 0), (.int .u64 0)] 28)
  have t0 := (V2.new (w.alloc (.cells #[(.int .u64 a0), (.int .u64 a1)] 28)) (.int .u64 n0) (.int .u64 n1) 28).alloc (.cells #[(.int .u64 0), (.int .u64 0)] 28)
  have s0 := V2.new ((w.alloc (.cells #[(.int .u64 a0), (.int .u64 a1)] 28)).alloc (.cells #[(.int .u64 n0), (.int .u64 n1)] 28)) (.int .u64 0) (.int .u64 0) 28
  simp only [World.size_alloc] at t0 s0
  have hb00 : Below w.heap.size w (((w.alloc (.cells #[(.int .u64 a0), (.int .u64 a1)] 28)).alloc (.cells #[(.int .u64 n0), (.int .u64 n1)] 28)).alloc (.cells #[(.int .u64 0), (.int .u64 0)] 28)) := by repeat (first | exact Below.refl _ _ | with_reducible assumption | (refine bl_alloc ?_ (Nat.le_refl _) _))
  have hsz : w.heap.size + 3 ≤ (((w.alloc (.cells #[(.int .u64 a0), (.int .u64 a1)] 28)).alloc (.cells #[(.int .u64 n0), (.int .u64 n1)] 28)).alloc (.cells #[(.int .u64 0), (.int .u64 0)] 28)).heap.size := by simp only [World.size_alloc]; omega
  generalize (((w.alloc (.cells #[(.int .u64 a0), (.int .u64 a1)] 28)).alloc (.cells #[(.int .u64 n0), (.int .u64 n1)] 28)).alloc (.cells #[(.int .u64 0), (.int .u64 0)] 28)) = w1 at q0 t0 s0 hb00 hsz ⊢
  go_upto_region 2 with fail
  have o0 := V2.new w1 (.int .u64 1) (.int .u64 0) 28
  have hbA : Below w1.heap.size w1 (w1.alloc (.cells #[.int .u64 1, .int .u64 0] 28)) := by repeat (first | exact Below.refl _ _ | with_reducible assumption | (refine bl_alloc ?_ (Nat.le_refl _) _))
  replace hb00 := bl_call hb00 (Nat.le_refl _) hbA
  replace q0 := q0.call hbA
  replace t0 := t0.call hbA
  replace s0 := s0.call hbA
  clear hbA
  generalize w1.alloc (.cells #[.int .u64 1, .int .u64 0] 28) = w2 at hb00 q0 t0 s0 o0 ⊢
  have hob := hsz
  generalize w1.heap.size = ob at *
  obtain ⟨q00, q01, q02, q03, q04⟩ := V2.mk q0.c0 q0.c1 q0.f0 q0.f1 q0.lt
  go_upto_region 3 with (first
    | (go_at_call 95; refine (HO.out _).mono ?_; rintro e w3 ⟨rfl, hb3⟩; replace hb00 := bl_call hb00 (Nat.le_refl _) hb3; replace q0 := q0.call hb3; replace t0 := t0.call hb3; replace s0 := s0.call hb3; replace o0 := o0.call hb3; clear q00 q01 q02 q03 q04; clear hb3; obtain ⟨q00, q01, q02, q03, q04⟩ := V2.mk q0.c0 q0.c1 q0.f0 q0.f1 q0.lt))
  clear q00 q01 q02 q03 q04
  replace q0 : V2 ((w3.setCell ⟨w.heap.size, 0, none⟩ (.int .u64 (lo x))).setCell ⟨w.heap.size, 1, none⟩ (.int .u64 (hi x))) (w.heap.size) (.int .u64 (lo x)) (.int .u64 (hi x)) := V2.set q0 _ _
  replace t0 := V2.oth t0 (b := w.heap.size) (by omega) (.int .u64 (lo x)) (.int .u64 (hi x))
  replace s0 := V2.oth s0 (b := w.heap.size) (by omega) (.int .u64 (lo x)) (.int .u64 (hi x))
  replace o0 := V2.oth o0 (b := w.heap.size) (by omega) (.int .u64 (lo x)) (.int .u64 (hi x))
  replace hb00 := bl_st hb00 (b := w.heap.size) (by omega) (.int .u64 (lo x)) (.int .u64 (hi x))
  generalize ((w3.setCell ⟨w.heap.size, 0, none⟩ (.int .u64 (lo x))).setCell ⟨w.heap.size, 1, none⟩ (.int .u64 (hi x))) = w4 at q0 t0 s0 o0 hb00 ⊢
  clear HO hsz
  go_wp2_with fail
  go_loopw [10] (fun i wr => ∃ (k : Nat) (y o : Fin (Pm 2)), k ≤ 128 ∧ i = .int .i64 k ∧ Hid (y = kpw x (2 ^ k)) ∧ Hid (o = kpw x (N % 2 ^ k)) ∧ V2 wr w.heap.size (.int .u64 (lo y)) (.int .u64 (hi y)) ∧ V2 wr (w.heap.size + 1) (.int .u64 n0) (.int .u64 n1) ∧ V2 wr (w.heap.size + 2) (.int .u64 0) (.int .u64 0) ∧
    V2 wr ob (.int .u64 (lo o)) (.int .u64 (hi o)) ∧ Below w.heap.size w wr) (fun i _ => 128 - (intOf i).toNat)
  case atStart => exact ⟨0, x, 1, by omega, rfl, HP0.out.symm, HM0.out.symm, q0, t0, s0, by rw [lo_one, hi_one]; exact o0, hb00⟩
  case round =>
    clear q0 t0 s0 o0 hb00
    obtain ⟨k, y, o, hk, rfl, hy, ho, q0, t0, s0, o0, hb00⟩ := hrel
    by_cases hlt : k < 128
    · have HY2 : Hid (y * y = kpw x (2 ^ (k + 1))) := by show _ = _; rw [kpw_twice, hy.out]
      have HKB := Lib.hid (kpw_bit x N k)
      by_cases h : k < 64
      · skip
        have hq0 : (k : Int) / 64 = 0 := by omega
        have hbit := HB.out k hlt
        rw [if_pos h] at hbit
        obtain ⟨c, hc⟩ : ∃ c, k % 64 = c := ⟨_, rfl⟩
        have hir : (k : Int) % 64 = (c : Int) := by omega
        have hc64 : c < 64 := by omega
        have hc0 : (0 : Int) ≤ (c : Int) := by omega
        rw [hc] at hbit
        obtain ⟨d, hd⟩ : ∃ d, n0 / 2 ^ c % 2 = d := ⟨_, rfl⟩
        have hd2 : d = 0 ∨ d = 1 := by rw [← hd]; omega
        have hand : bits .and .u64 ((n0 : Int) / 2 ^ c) 1 = (d : Int) := by
          rw [show (n0 : Int) / 2 ^ c = ((n0 / 2 ^ c : Nat) : Int) by rw [Int.natCast_ediv, Int.natCast_pow]; rfl, show (1 : Int) = ((1 : Nat) : Int) from rfl,
            bits_and_u64_nat _ _ (Nat.lt_of_le_of_lt (Nat.div_le_self _ _) (by omega)) (by omega), Nat.and_one_is_mod, hd]
        have HBD := Lib.hid (hbit.trans hd)
        clear hbit hd hc h
        obtain ⟨q00, q01, q02, q03, q04⟩ := V2.mk q0.c0 q0.c1 q0.f0 q0.f1 q0.lt
        obtain ⟨t00, t01, t02, t03, t04⟩ := V2.mk t0.c0 t0.c1 t0.f0 t0.f1 t0.lt
        obtain ⟨o00, o01, o02, o03, o04⟩ := V2.mk o0.c0 o0.c1 o0.f0 o0.f1 o0.lt
        rcases hd2 with rfl | rfl
        · have HKN : Hid (o = kpw x (N % 2 ^ (k + 1))) := by show _ = _; rw [HKB.out, HBD.out, if_neg (by omega), ho.out]
          go_upto_region 9 with (first
            | (go_at_call 71; refine (HMU.out _ _ _).mono ?_; rintro e w5 ⟨rfl, hb5⟩; replace hb00 := bl_call hb00 (Nat.le_refl _) hb5; replace q0 := q0.call hb5; replace t0 := t0.call hb5; replace s0 := s0.call hb5; replace o0 := o0.call hb5; clear q00 q01 q02 q03 q04 t00 t01 t02 t03 t04 o00 o01 o02 o03 o04; clear hb5; obtain ⟨q00, q01, q02, q03, q04⟩ := V2.mk q0.c0 q0.c1 q0.f0 q0.f1 q0.lt; obtain ⟨t00, t01, t02, t03, t04⟩ := V2.mk t0.c0 t0.c1 t0.f0 t0.f1 t0.lt; obtain ⟨o00, o01, o02, o03, o04⟩ := V2.mk o0.c0 o0.c1 o0.f0 o0.f1 o0.lt))
          clear q00 q01 q02 q03 q04 t00 t01 t02 t03 t04 o00 o01 o02 o03 o04
          replace q0 : V2 ((w5.setCell ⟨w.heap.size, 0, none⟩ (.int .u64 (lo (y * y)))).setCell ⟨w.heap.size, 1, none⟩ (.int .u64 (hi (y * y)))) (w.heap.size) (.int .u64 (lo (y * y))) (.int .u64 (hi (y * y))) := V2.set q0 _ _
          replace t0 := V2.oth t0 (b := w.heap.size) (by omega) (.int .u64 (lo (y * y))) (.int .u64 (hi (y * y)))
          replace s0 := V2.oth s0 (b := w.heap.size) (by omega) (.int .u64 (lo (y * y))) (.int .u64 (hi (y * y)))
          replace o0 := V2.oth o0 (b := w.heap.size) (by omega) (.int .u64 (lo (y * y))) (.int .u64 (hi (y * y)))
          replace hb00 := bl_st hb00 (b := w.heap.size) (by omega) (.int .u64 (lo (y * y))) (.int .u64 (hi (y * y)))
          generalize ((w5.setCell ⟨w.heap.size, 0, none⟩ (.int .u64 (lo (y * y)))).setCell ⟨w.heap.size, 1, none⟩ (.int .u64 (hi (y * y)))) = w6 at q0 t0 s0 o0 hb00 ⊢
          go_wp2_with fail
          go_roundw
          case rel => exact ⟨k + 1, _, _, by omega, by go_num, HY2, HKN, q0, t0, s0, o0, hb00⟩
          case measure => simp [intOf]; omega
        · have HKN : Hid (o * y = kpw x (N % 2 ^ (k + 1))) := by show _ = _; rw [HKB.out, HBD.out, if_pos rfl, ho.out, hy.out]
          go_upto_region 8 with (first
            | (go_at_call 71; refine (HMU.out _ _ _).mono ?_; rintro e w5 ⟨rfl, hb5⟩; replace hb00 := bl_call hb00 (Nat.le_refl _) hb5; replace q0 := q0.call hb5; replace t0 := t0.call hb5; replace s0 := s0.call hb5; replace o0 := o0.call hb5; clear q00 q01 q02 q03 q04 t00 t01 t02 t03 t04 o00 o01 o02 o03 o04; clear hb5; obtain ⟨q00, q01, q02, q03, q04⟩ := V2.mk q0.c0 q0.c1 q0.f0 q0.f1 q0.lt; obtain ⟨t00, t01, t02, t03, t04⟩ := V2.mk t0.c0 t0.c1 t0.f0 t0.f1 t0.lt; obtain ⟨o00, o01, o02, o03, o04⟩ := V2.mk o0.c0 o0.c1 o0.f0 o0.f1 o0.lt))
          clear q00 q01 q02 q03 q04 t00 t01 t02 t03 t04 o00 o01 o02 o03 o04
          replace o0 : V2 ((w5.setCell ⟨ob, 0, none⟩ (.int .u64 (lo (o * y)))).setCell ⟨ob, 1, none⟩ (.int .u64 (hi (o * y)))) (ob) (.int .u64 (lo (o * y))) (.int .u64 (hi (o * y))) := V2.set o0 _ _
          replace q0 := V2.oth q0 (b := ob) (by omega) (.int .u64 (lo (o * y))) (.int .u64 (hi (o * y)))
          replace t0 := V2.oth t0 (b := ob) (by omega) (.int .u64 (lo (o * y))) (.int .u64 (hi (o * y)))
          replace s0 := V2.oth s0 (b := ob) (by omega) (.int .u64 (lo (o * y))) (.int .u64 (hi (o * y)))
          replace hb00 := bl_st hb00 (b := ob) (by omega) (.int .u64 (lo (o * y))) (.int .u64 (hi (o * y)))
          generalize ((w5.setCell ⟨ob, 0, none⟩ (.int .u64 (lo (o * y)))).setCell ⟨ob, 1, none⟩ (.int .u64 (hi (o * y)))) = w6 at o0 q0 t0 s0 hb00 ⊢
          obtain ⟨q00, q01, q02, q03, q04⟩ := V2.mk q0.c0 q0.c1 q0.f0 q0.f1 q0.lt
          obtain ⟨t00, t01, t02, t03, t04⟩ := V2.mk t0.c0 t0.c1 t0.f0 t0.f1 t0.lt
          obtain ⟨o00, o01, o02, o03, o04⟩ := V2.mk o0.c0 o0.c1 o0.f0 o0.f1 o0.lt
          go_upto_region 9 with (first
            | (go_at_call 71; refine (HMU.out _ _ _).mono ?_; rintro e w7 ⟨rfl, hb7⟩; replace hb00 := bl_call hb00 (Nat.le_refl _) hb7; replace q0 := q0.call hb7; replace t0 := t0.call hb7; replace s0 := s0.call hb7; replace o0 := o0.call hb7; clear q00 q01 q02 q03 q04 t00 t01 t02 t03 t04 o00 o01 o02 o03 o04; clear hb7; obtain ⟨q00, q01, q02, q03, q04⟩ := V2.mk q0.c0 q0.c1 q0.f0 q0.f1 q0.lt; obtain ⟨t00, t01, t02, t03, t04⟩ := V2.mk t0.c0 t0.c1 t0.f0 t0.f1 t0.lt; obtain ⟨o00, o01, o02, o03, o04⟩ := V2.mk o0.c0 o0.c1 o0.f0 o0.f1 o0.lt))
          clear q00 q01 q02 q03 q04 t00 t01 t02 t03 t04 o00 o01 o02 o03 o04
          replace q0 : V2 ((w7.setCell ⟨w.heap.size, 0, none⟩ (.int .u64 (lo (y * y)))).setCell ⟨w.heap.size, 1, none⟩ (.int .u64 (hi (y * y)))) (w.heap.size) (.int .u64 (lo (y * y))) (.int .u64 (hi (y * y))) := V2.set q0 _ _
          replace t0 := V2.oth t0 (b := w.heap.size) (by omega) (.int .u64 (lo (y * y))) (.int .u64 (hi (y * y)))
          replace s0 := V2.oth s0 (b := w.heap.size) (by omega) (.int .u64 (lo (y * y))) (.int .u64 (hi (y * y)))
          replace o0 := V2.oth o0 (b := w.heap.size) (by omega) (.int .u64 (lo (y * y))) (.int .u64 (hi (y * y)))
          replace hb00 := bl_st hb00 (b := w.heap.size) (by omega) (.int .u64 (lo (y * y))) (.int .u64 (hi (y * y)))
          generalize ((w7.setCell ⟨w.heap.size, 0, none⟩ (.int .u64 (lo (y * y)))).setCell ⟨w.heap.size, 1, none⟩ (.int .u64 (hi (y * y)))) = w8 at q0 t0 s0 o0 hb00 ⊢
          go_wp2_with fail
          go_roundw
          case rel => exact ⟨k + 1, _, _, by omega, by go_num, HY2, HKN, q0, t0, s0, o0, hb00⟩
          case measure => simp [intOf]; omega
      · skip
        have hq0 : (k : Int) / 64 = 1 := by omega
        have hbit := HB.out k hlt
        rw [if_neg h] at hbit
        obtain ⟨c, hc⟩ : ∃ c, k % 64 = c := ⟨_, rfl⟩
        have hir : (k : Int) % 64 = (c : Int) := by omega
        have hc64 : c < 64 := by omega
        have hc0 : (0 : Int) ≤ (c : Int) := by omega
        rw [hc] at hbit
        obtain ⟨d, hd⟩ : ∃ d, n1 / 2 ^ c % 2 = d := ⟨_, rfl⟩
        have hd2 : d = 0 ∨ d = 1 := by rw [← hd]; omega
        have hand : bits .and .u64 ((n1 : Int) / 2 ^ c) 1 = (d : Int) := by
          rw [show (n1 : Int) / 2 ^ c = ((n1 / 2 ^ c : Nat) : Int) by rw [Int.natCast_ediv, Int.natCast_pow]; rfl, show (1 : Int) = ((1 : Nat) : Int) from rfl,
            bits_and_u64_nat _ _ (Nat.lt_of_le_of_lt (Nat.div_le_self _ _) (by omega)) (by omega), Nat.and_one_is_mod, hd]
        have HBD := Lib.hid (hbit.trans hd)
        clear hbit hd hc h
        obtain ⟨q00, q01, q02, q03, q04⟩ := V2.mk q0.c0 q0.c1 q0.f0 q0.f1 q0.lt
        obtain ⟨t00, t01, t02, t03, t04⟩ := V2.mk t0.c0 t0.c1 t0.f0 t0.f1 t0.lt
        obtain ⟨o00, o01, o02, o03, o04⟩ := V2.mk o0.c0 o0.c1 o0.f0 o0.f1 o0.lt
        rcases hd2 with rfl | rfl
        · have HKN : Hid (o = kpw x (N % 2 ^ (k + 1))) := by show _ = _; rw [HKB.out, HBD.out, if_neg (by omega), ho.out]
          go_upto_region 9 with (first
            | (go_at_call 71; refine (HMU.out _ _ _).mono ?_; rintro e w5 ⟨rfl, hb5⟩; replace hb00 := bl_call hb00 (Nat.le_refl _) hb5; replace q0 := q0.call hb5; replace t0 := t0.call hb5; replace s0 := s0.call hb5; replace o0 := o0.call hb5; clear q00 q01 q02 q03 q04 t00 t01 t02 t03 t04 o00 o01 o02 o03 o04; clear hb5; obtain ⟨q00, q01, q02, q03, q04⟩ := V2.mk q0.c0 q0.c1 q0.f0 q0.f1 q0.lt; obtain ⟨t00, t01, t02, t03, t04⟩ := V2.mk t0.c0 t0.c1 t0.f0 t0.f1 t0.lt; obtain ⟨o00, o01, o02, o03, o04⟩ := V2.mk o0.c0 o0.c1 o0.f0 o0.f1 o0.lt))
          clear q00 q01 q02 q03 q04 t00 t01 t02 t03 t04 o00 o01 o02 o03 o04
          replace q0 : V2 ((w5.setCell ⟨w.heap.size, 0, none⟩ (.int .u64 (lo (y * y)))).setCell ⟨w.heap.size, 1, none⟩ (.int .u64 (hi (y * y)))) (w.heap.size) (.int .u64 (lo (y * y))) (.int .u64 (hi (y * y))) := V2.set q0 _ _
          replace t0 := V2.oth t0 (b := w.heap.size) (by omega) (.int .u64 (lo (y * y))) (.int .u64 (hi (y * y)))
          replace s0 := V2.oth s0 (b := w.heap.size) (by omega) (.int .u64 (lo (y * y))) (.int .u64 (hi (y * y)))
          replace o0 := V2.oth o0 (b := w.heap.size) (by omega) (.int .u64 (lo (y * y))) (.int .u64 (hi (y * y)))
          replace hb00 := bl_st hb00 (b := w.heap.size) (by omega) (.int .u64 (lo (y * y))) (.int .u64 (hi (y * y)))
          generalize ((w5.setCell ⟨w.heap.size, 0, none⟩ (.int .u64 (lo (y * y)))).setCell ⟨w.heap.size, 1, none⟩ (.int .u64 (hi (y * y)))) = w6 at q0 t0 s0 o0 hb00 ⊢
          go_wp2_with fail
          go_roundw
          case rel => exact ⟨k + 1, _, _, by omega, by go_num, HY2, HKN, q0, t0, s0, o0, hb00⟩
          case measure => simp [intOf]; omega
        · have HKN : Hid (o * y = kpw x (N % 2 ^ (k + 1))) := by show _ = _; rw [HKB.out, HBD.out, if_pos rfl, ho.out, hy.out]
          go_upto_region 8 with (first
            | (go_at_call 71; refine (HMU.out _ _ _).mono ?_; rintro e w5 ⟨rfl, hb5⟩; replace hb00 := bl_call hb00 (Nat.le_refl _) hb5; replace q0 := q0.call hb5; replace t0 := t0.call hb5; replace s0 := s0.call hb5; replace o0 := o0.call hb5; clear q00 q01 q02 q03 q04 t00 t01 t02 t03 t04 o00 o01 o02 o03 o04; clear hb5; obtain ⟨q00, q01, q02, q03, q04⟩ := V2.mk q0.c0 q0.c1 q0.f0 q0.f1 q0.lt; obtain ⟨t00, t01, t02, t03, t04⟩ := V2.mk t0.c0 t0.c1 t0.f0 t0.f1 t0.lt; obtain ⟨o00, o01, o02, o03, o04⟩ := V2.mk o0.c0 o0.c1 o0.f0 o0.f1 o0.lt))
          clear q00 q01 q02 q03 q04 t00 t01 t02 t03 t04 o00 o01 o02 o03 o04
          replace o0 : V2 ((w5.setCell ⟨ob, 0, none⟩ (.int .u64 (lo (o * y)))).setCell ⟨ob, 1, none⟩ (.int .u64 (hi (o * y)))) (ob) (.int .u64 (lo (o * y))) (.int .u64 (hi (o * y))) := V2.set o0 _ _
          replace q0 := V2.oth q0 (b := ob) (by omega) (.int .u64 (lo (o * y))) (.int .u64 (hi (o * y)))
          replace t0 := V2.oth t0 (b := ob) (by omega) (.int .u64 (lo (o * y))) (.int .u64 (hi (o * y)))
          replace s0 := V2.oth s0 (b := ob) (by omega) (.int .u64 (lo (o * y))) (.int .u64 (hi (o * y)))
          replace hb00 := bl_st hb00 (b := ob) (by omega) (.int .u64 (lo (o * y))) (.int .u64 (hi (o * y)))
          generalize ((w5.setCell ⟨ob, 0, none⟩ (.int .u64 (lo (o * y)))).setCell ⟨ob, 1, none⟩ (.int .u64 (hi (o * y)))) = w6 at o0 q0 t0 s0 hb00 ⊢
          obtain ⟨q00, q01, q02, q03, q04⟩ := V2.mk q0.c0 q0.c1 q0.f0 q0.f1 q0.lt
          obtain ⟨t00, t01, t02, t03, t04⟩ := V2.mk t0.c0 t0.c1 t0.f0 t0.f1 t0.lt
          obtain ⟨o00, o01, o02, o03, o04⟩ := V2.mk o0.c0 o0.c1 o0.f0 o0.f1 o0.lt
          go_upto_region 9 with (first
            | (go_at_call 71; refine (HMU.out _ _ _).mono ?_; rintro e w7 ⟨rfl, hb7⟩; replace hb00 := bl_call hb00 (Nat.le_refl _) hb7; replace q0 := q0.call hb7; replace t0 := t0.call hb7; replace s0 := s0.call hb7; replace o0 := o0.call hb7; clear q00 q01 q02 q03 q04 t00 t01 t02 t03 t04 o00 o01 o02 o03 o04; clear hb7; obtain ⟨q00, q01, q02, q03, q04⟩ := V2.mk q0.c0 q0.c1 q0.f0 q0.f1 q0.lt; obtain ⟨t00, t01, t02, t03, t04⟩ := V2.mk t0.c0 t0.c1 t0.f0 t0.f1 t0.lt; obtain ⟨o00, o01, o02, o03, o04⟩ := V2.mk o0.c0 o0.c1 o0.f0 o0.f1 o0.lt))
          clear q00 q01 q02 q03 q04 t00 t01 t02 t03 t04 o00 o01 o02 o03 o04
          replace q0 : V2 ((w7.setCell ⟨w.heap.size, 0, none⟩ (.int .u64 (lo (y * y)))).setCell ⟨w.heap.size, 1, none⟩ (.int .u64 (hi (y * y)))) (w.heap.size) (.int .u64 (lo (y * y))) (.int .u64 (hi (y * y))) := V2.set q0 _ _
          replace t0 := V2.oth t0 (b := w.heap.size) (by omega) (.int .u64 (lo (y * y))) (.int .u64 (hi (y * y)))
          replace s0 := V2.oth s0 (b := w.heap.size) (by omega) (.int .u64 (lo (y * y))) (.int .u64 (hi (y * y)))
          replace o0 := V2.oth o0 (b := w.heap.size) (by omega) (.int .u64 (lo (y * y))) (.int .u64 (hi (y * y)))
          replace hb00 := bl_st hb00 (b := w.heap.size) (by omega) (.int .u64 (lo (y * y))) (.int .u64 (hi (y * y)))
          generalize ((w7.setCell ⟨w.heap.size, 0, none⟩ (.int .u64 (lo (y * y)))).setCell ⟨w.heap.size, 1, none⟩ (.int .u64 (hi (y * y)))) = w8 at q0 t0 s0 o0 hb00 ⊢
          go_wp2_with fail
          go_roundw
          case rel => exact ⟨k + 1, _, _, by omega, by go_num, HY2, HKN, q0, t0, s0, o0, hb00⟩
          case measure => simp [intOf]; omega
    · obtain rfl : k = 128 := by omega
      obtain ⟨o00, o01, o02, o03, o04⟩ := V2.mk o0.c0 o0.c1 o0.f0 o0.f1 o0.lt
      obtain ⟨s00, s01, s02, s03, s04⟩ := V2.mk s0.c0 s0.c1 s0.f0 s0.f1 s0.lt
      go_wp2_with fail
      refine bodyPost_ret (results_v2 (b := w.heap.size + 2) (u := .int .u64 (lo o)) (v := .int .u64 (hi o)) ?_ rfl rfl) rfl ⟨by rw [← HNL.out, ← ho.out], by repeat (first | exact Below.refl _ _ | with_reducible assumption | (refine bl_alloc ?_ (Nat.le_refl _) _) | (refine bl_set ?_ (by dsimp only; omega) _) | (refine Below.drew ?_) | (refine bl_drewN ?_ _) | (refine bl_call ?_ (Nat.le_refl _) (by assumption)))⟩
      exact V2.set s0 _ _

/-! ### inverses -/
/-- the power that inverts -/
def kinv {f : Nat} (x : Fin (Pm f)) : Fin (Pm f) := kpw x (Pm f - 2)

set_option maxHeartbeats 1000000 in
theorem gold_Inv (a : Int) (w : World) (h0 : 0 ≤ a) (h1 : a ≤ 18446744073709551615) :
    Calls Tryd.prog 86 #[.int .u64 a] w fun e w' => (a % 18446744069414584321 = 0 ∧ e = .returned (.tuple #[.int .u64 0, .int .i64 8]) ∧ w = w') ∨ (a % 18446744069414584321 ≠ 0 ∧ e = .returned (.tuple #[.int .u64 (ipow a 18446744069414584319 % 18446744069414584321), .int .i64 0]) ∧ w = w') := by
  obtain ⟨en, hen⟩ : ∃ en : Nat, en = 18446744069414584319 := ⟨_, rfl⟩
  rw [← hen]
  have HP : Hid (∀ wz, Calls Tryd.prog 99 #[.int .u64 a, .int .u64 18446744069414584319] wz fun e w' => e = .returned (.int .u64 (ipow a en % 18446744069414584321)) ∧ wz = w') := fun wz => by
    have h := gold_Pow a 18446744069414584319 wz h0 h1 (by omega) (by omega)
    rwa [show (18446744069414584319 : Int).toNat = en by omega] at h
  clear hen
  go_enter Tryd.func86, Tryd.ntmps86
  by_cases hz : a % 18446744069414584321 = 0
  · have hz2 : (a % 18446744069414584321 == 0) = true := by simpa using hz
    go_wp2_with (first
      | (go_at_call 88; refine (gold_Of _ _ (by omega) (by omega)).mono ?_; rintro e w' ⟨rfl, rfl⟩))
    go_ret2
    exact .inl ⟨hz, rfl, rfl⟩
  · have hz2 : (a % 18446744069414584321 == 0) = false := by simpa using hz
    have HZ := Lib.hid hz
    clear hz
    go_wp2_with (first
      | (go_at_call 88; refine (gold_Of _ _ (by omega) (by omega)).mono ?_; rintro e w' ⟨rfl, rfl⟩)
      | (go_at_call 99; refine (HP.out _).mono ?_; rintro e w' ⟨rfl, rfl⟩))
    go_ret2
    exact .inr ⟨HZ.out, rfl, rfl⟩

set_option maxHeartbeats 2000000 in
theorem wide_Inv (x : Fin (Pm 2)) (w : World) :
    Calls Tryd.prog 87 #[vK x] w fun e w' => (x = 0 ∧ e = .returned (.tuple #[.agg #[.int .u64 0, .int .u64 0], .int .i64 8]) ∧ Below w.heap.size w w') ∨ (x ≠ 0 ∧ e = .returned (.tuple #[vK (kinv x), .int .i64 0]) ∧ Below w.heap.size w w') := by
  have HP : Hid (∀ wz, Calls Tryd.prog 100 #[.agg #[.int .u64 (lo x), .int .u64 (hi x)], .agg #[.int .u64 18446744073709551615, .int .u64 18446744073709551587]] wz (RetK (kinv x) wz)) := fun wz => by
    have h := wide_Pow (lo x) (hi x) 18446744073709551615 18446744073709551587 wz (lo_0 x) (lo_1 x) (hi_0 x) (hi_1 x) (by omega) (by omega)
    rwa [kL_lohi, show 18446744073709551615 + 18446744073709551616 * 18446744073709551587 = Pm 2 - 2 from rfl] at h
  have HO : Hid (∀ wz, Calls Tryd.prog 95 #[.agg #[.int .u64 (lo x), .int .u64 (hi x)]] wz fun e w' => e = .returned (.agg #[.int .u64 (lo x), .int .u64 (hi x)]) ∧ Below wz.heap.size wz w') := fun wz => by
    have h := wide_OfK (lo x) (hi x) wz (lo_0 x) (lo_1 x) (hi_0 x) (hi_1 x)
    rw [kL_lohi] at h
    exact h
  have HT : Hid (∀ wz, Calls Tryd.prog 105 #[.agg #[.int .u64 1, .int .u64 18446744073709551588], .agg #[.int .u64 2, .int .u64 0]] wz fun e w' => e = .returned (.agg #[.int .u64 18446744073709551615, .int .u64 18446744073709551587]) ∧ Below wz.heap.size wz w') := fun wz =>
    wide_take 1 18446744073709551588 2 0 wz (by omega) (by omega) (by omega) (by omega) (by omega) (by omega) (by omega) (by omega) 340282366920938462946865773367900766207 (by show _ = _; omega)
  obtain ⟨b, hb⟩ : ∃ b : Bool, (lo x == 0 && hi x == 0) = b := ⟨_, rfl⟩
  have hz : (x = 0 ∧ b = true) ∨ (x ≠ 0 ∧ b = false) := by
    have h := lohi_eq x 0
    rw [lo_zero, hi_zero, hb] at h
    by_cases hx : x = 0
    · exact .inl ⟨hx, by rw [h]; simpa using hx⟩
    · exact .inr ⟨hx, by rw [h]; simpa using hx⟩
  generalize kinv x = y at *
  show Calls Tryd.prog 87 #[.agg #[.int .u64 (lo x), .int .u64 (hi x)]] w _
  generalize lo x = a0 at *
  generalize hi x = a1 at *
  have heq := eql_elem
  go_enter Tryd.func87, Tryd.ntmps87
  go_upto_region 1 with fail
  have q0 := (V2.new w (.int .u64 a0) (.int .u64 a1) 28).alloc (.cells #[(.int .u64 0), (.int .u64 0)] 28)
  have s0 := V2.new (w.alloc (.cells #[(.int .u64 a0), (.int .u64 a1)] 28)) (.int .u64 0) (.int .u64 0) 28
  simp only [World.size_alloc] at s0
  have hb00 : Below w.heap.size w ((w.alloc (.cells #[(.int .u64 a0), (.int .u64 a1)] 28)).alloc (.cells #[(.int .u64 0), (.int .u64 0)] 28)) := by repeat (first | exact Below.refl _ _ | with_reducible assumption | (refine bl_alloc ?_ (Nat.le_refl _) _))
  have hsz : w.heap.size + 2 ≤ ((w.alloc (.cells #[(.int .u64 a0), (.int .u64 a1)] 28)).alloc (.cells #[(.int .u64 0), (.int .u64 0)] 28)).heap.size := by simp only [World.size_alloc]; omega
  generalize ((w.alloc (.cells #[(.int .u64 a0), (.int .u64 a1)] 28)).alloc (.cells #[(.int .u64 0), (.int .u64 0)] 28)) = w1 at q0 s0 hb00 hsz ⊢
  obtain ⟨q00, q01, q02, q03, q04⟩ := V2.mk q0.c0 q0.c1 q0.f0 q0.f1 q0.lt
  obtain ⟨s00, s01, s02, s03, s04⟩ := V2.mk s0.c0 s0.c1 s0.f0 s0.f1 s0.lt
  rcases hz with ⟨hx, rfl⟩ | ⟨hx, rfl⟩
  · have HX := Lib.hid hx
    clear hx
    go_wp2_with (go_at_call 95; refine (HO.out _).mono ?_; rintro e w3 ⟨rfl, hb3⟩; replace hb00 := bl_call hb00 (Nat.le_refl _) hb3; replace q0 := q0.call hb3; replace s0 := s0.call hb3; clear q00 q01 q02 q03 q04 s00 s01 s02 s03 s04; obtain ⟨s00, s01, s02, s03, s04⟩ := V2.mk s0.c0 s0.c1 s0.f0 s0.f1 s0.lt)
    refine bodyPost_ret (results_v2_tmp (b := w.heap.size + 1) (u := .int .u64 0) (v := .int .u64 0) ?_ rfl rfl) rfl ?_
    · first | exact V2.set s0 _ _ | exact s0
    · exact .inl ⟨HX.out, rfl, by repeat (first | exact Below.refl _ _ | with_reducible assumption | (refine bl_alloc ?_ (Nat.le_refl _) _) | (refine bl_set ?_ (by dsimp only; omega) _) | (refine Below.drew ?_) | (refine bl_drewN ?_ _) | (refine bl_call ?_ (Nat.le_refl _) (by assumption)))⟩
  · have HX := Lib.hid hx
    clear hx
    go_upto_region 3 with (first
      | (go_at_call 95; refine (HO.out _).mono ?_; rintro e w3 ⟨rfl, hb3⟩; replace hb00 := bl_call hb00 (Nat.le_refl _) hb3; replace q0 := q0.call hb3; replace s0 := s0.call hb3; clear q00 q01 q02 q03 q04 s00 s01 s02 s03 s04; clear hb3; obtain ⟨q00, q01, q02, q03, q04⟩ := V2.mk q0.c0 q0.c1 q0.f0 q0.f1 q0.lt; obtain ⟨s00, s01, s02, s03, s04⟩ := V2.mk s0.c0 s0.c1 s0.f0 s0.f1 s0.lt))
    refine region_B (n := 5) (m := 7) (f := 5) (by kernel_rfl) (by kernel_rfl) rfl ?_
    refine WpH.takeD 0 (some 9) (v := ?_) rfl rfl (by kernel_rfl) (fun _ _ _ h => h) (.val rfl (fun wz hwz => ?_)) ?_
    rotate_left
    · (obtain ⟨hcz, hfz⟩ := bcell hwz; go_simp; try (with_reducible rfl))
    (simp only [Act.put]); (try simp only [List.setIfInBounds_toArray]); (try simp only [List.set_cons_succ]); (try simp only [List.set_cons_zero])
    refine WpH.takeD 1 (some 10) rfl rfl (by kernel_rfl) (fun _ _ _ h => h) (.call rfl (fun wz hwz => wide_P wz) (fun wz hwz => ?_)) ?_
    · go_simp; try (with_reducible rfl)
    (simp only [Act.put]); (try simp only [List.setIfInBounds_toArray]); (try simp only [List.set_cons_succ]); (try simp only [List.set_cons_zero])
    refine WpH.takeD 2 (some 11) (v := ?_) rfl rfl (by kernel_rfl) (fun _ _ _ h => h) (.val rfl (fun wz hwz => ?_)) ?_
    rotate_left
    · go_simp; try (with_reducible rfl)
    (simp only [Act.put]); (try simp only [List.setIfInBounds_toArray]); (try simp only [List.set_cons_succ]); (try simp only [List.set_cons_zero])
    refine WpH.takeD 3 (some 12) rfl rfl (by kernel_rfl) (fun _ _ _ h => h) (.call rfl (fun wz hwz => HT.out wz) (fun wz hwz => ?_)) ?_
    · go_simp; try (with_reducible rfl)
    (simp only [Act.put]); (try simp only [List.setIfInBounds_toArray]); (try simp only [List.set_cons_succ]); (try simp only [List.set_cons_zero])
    refine WpH.takeD 4 (some 13) rfl rfl (by kernel_rfl) (fun _ _ _ h => h) (.call rfl (fun wz hwz => HP.out wz) (fun wz hwz => ?_)) ?_
    · go_simp; try (with_reducible rfl)
    (simp only [Act.put]); (try simp only [List.setIfInBounds_toArray]); (try simp only [List.set_cons_succ]); (try simp only [List.set_cons_zero])
    refine WpH.doneB (by kernel_rfl) (fun w4 hw4 => ?_)
    (try simp only [List.drop_succ_cons]); (try simp only [List.drop_zero]); (try simp only [Nat.reduceSub]); (try simp only [List.take_succ_cons]); (try simp only [List.take_zero])
    clear q00 q01 q02 q03 q04 s00 s01 s02 s03 s04
    replace hb00 := bl_call hb00 (Nat.le_refl _) hw4
    replace q0 := q0.call hw4
    replace s0 := s0.call hw4
    obtain ⟨s00, s01, s02, s03, s04⟩ := V2.mk s0.c0 s0.c1 s0.f0 s0.f1 s0.lt
    go_wp2_with fail
    refine bodyPost_ret (results_v2_tmp (b := w.heap.size + 1) (u := .int .u64 (lo y)) (v := .int .u64 (hi y)) ?_ rfl rfl) rfl ?_
    · exact V2.set s0 _ _
    · exact .inr ⟨HX.out, rfl, by repeat (first | exact Below.refl _ _ | with_reducible assumption | (refine bl_alloc ?_ (Nat.le_refl _) _) | (refine bl_set ?_ (by dsimp only; omega) _) | (refine Below.drew ?_) | (refine bl_drewN ?_ _) | (refine bl_call ?_ (Nat.le_refl _) (by assumption)))⟩

theorem kpw_ipow {f : Nat} (x : Fin (Pm f)) : ∀ n, kpw x n = kI (Pm f) (ipow (x.val : Int) n)
  | 0 => kI_one.symm
  | n + 1 => by rw [kpw, kpw_ipow x n, ipow, kI_mul, kI_ofVal]

/-- an inverse comes back, or an error for 0 -/
def RetInv {f : Nat} (x : Fin (Pm f)) (w : World) (e : Ending) (w' : World) : Prop :=
  (x = 0 ∧ e = .returned (.tuple #[.agg #[.int .u64 0, .int .u64 0], .int .i64 8]) ∧ Below w.heap.size w w') ∨ (x ≠ 0 ∧ e = .returned (.tuple #[vK (kinv x), .int .i64 0]) ∧ Below w.heap.size w w')

set_option maxHeartbeats 2000000 in
theorem field_Inv {f : Nat} (hf : IsF f) (x : Fin (Pm f)) (w : World) :
    Calls Tryd.prog 64 #[.int .u8 f, vK x] w (RetInv x w) := by
  have hb00 : Below w.heap.size w w := Below.refl _ _
  rcases hf.or with rfl | rfl
  · have hp : ((Pm 1 : Nat) : Int) = 18446744069414584321 := rfl
    have hxv : ((x.val : Nat) : Int) < 18446744069414584321 := by rw [← hp]; exact Int.ofNat_lt.2 x.isLt
    have hlx := vK_of (x := x) (z0 := ((x.val : Nat) : Int)) (z1 := 0) (by omega) (by omega) (by omega)
    have hki := vK_of (x := kinv x) (z0 := ipow (x.val : Int) 18446744069414584319 % 18446744069414584321) (z1 := 0) (by
      unfold kinv
      rw [kpw_ipow, val_kI, hp, show Pm 1 - 2 = 18446744069414584319 from rfl, Int.mul_zero, Int.add_zero]) (Int.emod_nonneg _ (by omega)) (by have := Int.emod_lt_of_pos (ipow (x.val : Int) 18446744069414584319) (show (0 : Int) < 18446744069414584321 by omega); omega)
    have hx0 : x = 0 ↔ ((x.val : Nat) : Int) % 18446744069414584321 = 0 := by
      rw [Int.emod_eq_of_lt (by omega) hxv]
      constructor
      · rintro rfl
        rfl
      · intro h
        exact Fin.ext (by show x.val = 0; omega)
    have HG := Lib.hid (fun wz => gold_Inv ((x.val : Nat) : Int) wz (by omega) (by omega))
    have HR : Hid ((x ≠ 0 ∧ Value.tuple #[.agg #[.int .u64 (ipow (x.val : Int) 18446744069414584319 % 18446744069414584321), .int .u64 0], .int .i64 0] = .tuple #[vK (kinv x), .int .i64 0]) ∨ x = 0) := by
      by_cases h : x = 0
      · exact .inr h
      · exact .inl ⟨h, by show _ = Value.tuple #[.agg #[.int .u64 (lo (kinv x)), .int .u64 (hi (kinv x))], .int .i64 0]; rw [hki.1, hki.2]⟩
    show Calls Tryd.prog 64 #[.int .u8 1, .agg #[.int .u64 (lo x), .int .u64 (hi x)]] w (RetInv x w)
    rw [hlx.1, hlx.2]
    have HX0 := Lib.hid hx0
    clear hx0 hki hlx hp
    generalize ipow ((x.val : Nat) : Int) 18446744069414584319 % 18446744069414584321 = r at *
    generalize ((x.val : Nat) : Int) = a at *
    go_enter Tryd.func64, Tryd.ntmps64
    go_upto_region 1 with fail
    clear hb00
    have q0 := (V2.new w (.int .u64 a) (.int .u64 0) 28).alloc (.cells #[(.int .u64 0), (.int .u64 0)] 28)
    have s0 := V2.new (w.alloc (.cells #[(.int .u64 a), (.int .u64 0)] 28)) (.int .u64 0) (.int .u64 0) 28
    simp only [World.size_alloc] at s0
    have hb00 : Below w.heap.size w ((w.alloc (.cells #[(.int .u64 a), (.int .u64 0)] 28)).alloc (.cells #[(.int .u64 0), (.int .u64 0)] 28)) := by repeat (first | exact Below.refl _ _ | with_reducible assumption | (refine bl_alloc ?_ (Nat.le_refl _) _))
    have hsz : w.heap.size + 2 ≤ ((w.alloc (.cells #[(.int .u64 a), (.int .u64 0)] 28)).alloc (.cells #[(.int .u64 0), (.int .u64 0)] 28)).heap.size := by simp only [World.size_alloc]; omega
    generalize ((w.alloc (.cells #[(.int .u64 a), (.int .u64 0)] 28)).alloc (.cells #[(.int .u64 0), (.int .u64 0)] 28)) = w1 at q0 s0 hb00 hsz ⊢
    obtain ⟨q00, q01, q02, q03, q04⟩ := V2.mk q0.c0 q0.c1 q0.f0 q0.f1 q0.lt
    obtain ⟨s00, s01, s02, s03, s04⟩ := V2.mk s0.c0 s0.c1 s0.f0 s0.f1 s0.lt
    go_wp2_with fail
    refine (HG.out _).mono ?_
    rintro e w3 (⟨h9, rfl, rfl⟩ | ⟨h9, rfl, rfl⟩)
    · have H9 := Lib.hid h9
      clear h9
      go_wp2_with fail
      refine bodyPost_ret (results_v2_tmp (b := w.heap.size + 1) (u := .int .u64 0) (v := .int .u64 0) ?_ rfl rfl) rfl ?_
      · first | exact V2.set s0 _ _ | exact s0
      · exact .inl ⟨HX0.out.2 H9.out, rfl, by repeat (first | exact Below.refl _ _ | with_reducible assumption | (refine bl_alloc ?_ (Nat.le_refl _) _) | (refine bl_set ?_ (by dsimp only; omega) _) | (refine Below.drew ?_) | (refine bl_drewN ?_ _) | (refine bl_call ?_ (Nat.le_refl _) (by assumption)))⟩
    · have H9 := Lib.hid h9
      clear h9
      go_wp2_with fail
      refine bodyPost_ret (results_v2_tmp (b := w.heap.size + 1) (u := .int .u64 r) (v := .int .u64 0) ?_ rfl rfl) rfl ?_
      · first | exact V2.set s0 _ _ | exact s0
      · rcases HR.out with ⟨h1, h2⟩ | h1
        · exact .inr ⟨h1, congrArg _ h2, by repeat (first | exact Below.refl _ _ | with_reducible assumption | (refine bl_alloc ?_ (Nat.le_refl _) _) | (refine bl_set ?_ (by dsimp only; omega) _) | (refine Below.drew ?_) | (refine bl_drewN ?_ _) | (refine bl_call ?_ (Nat.le_refl _) (by assumption)))⟩
        · exact absurd (HX0.out.1 h1) H9.out
  · have HI := Lib.hid (fun wz => wide_Inv x wz)
    clear hb00
    go_enter Tryd.func64, Tryd.ntmps64
    go_upto_region 1 with fail
    have q0 := (V2.new w (.int .u64 (lo x)) (.int .u64 (hi x)) 28).alloc (.cells #[(.int .u64 0), (.int .u64 0)] 28)
    have s0 := V2.new (w.alloc (.cells #[(.int .u64 (lo x)), (.int .u64 (hi x))] 28)) (.int .u64 0) (.int .u64 0) 28
    simp only [World.size_alloc] at s0
    have hb00 : Below w.heap.size w ((w.alloc (.cells #[(.int .u64 (lo x)), (.int .u64 (hi x))] 28)).alloc (.cells #[(.int .u64 0), (.int .u64 0)] 28)) := by repeat (first | exact Below.refl _ _ | with_reducible assumption | (refine bl_alloc ?_ (Nat.le_refl _) _))
    have hsz : w.heap.size + 2 ≤ ((w.alloc (.cells #[(.int .u64 (lo x)), (.int .u64 (hi x))] 28)).alloc (.cells #[(.int .u64 0), (.int .u64 0)] 28)).heap.size := by simp only [World.size_alloc]; omega
    generalize ((w.alloc (.cells #[(.int .u64 (lo x)), (.int .u64 (hi x))] 28)).alloc (.cells #[(.int .u64 0), (.int .u64 0)] 28)) = w1 at q0 s0 hb00 hsz ⊢
    obtain ⟨q00, q01, q02, q03, q04⟩ := V2.mk q0.c0 q0.c1 q0.f0 q0.f1 q0.lt
    obtain ⟨s00, s01, s02, s03, s04⟩ := V2.mk s0.c0 s0.c1 s0.f0 s0.f1 s0.lt
    go_wp2_with fail
    refine (HI.out _).mono ?_
    rintro e w3 (⟨h9, rfl, hb3⟩ | ⟨h9, rfl, hb3⟩)
    · have H9 := Lib.hid h9
      clear h9
      clear q00 q01 q02 q03 q04 s00 s01 s02 s03 s04
      replace hb00 := bl_call hb00 (Nat.le_refl _) hb3
      replace q0 := q0.call hb3
      replace s0 := s0.call hb3
      clear hb3
      obtain ⟨s00, s01, s02, s03, s04⟩ := V2.mk s0.c0 s0.c1 s0.f0 s0.f1 s0.lt
      go_wp2_with fail
      refine bodyPost_ret (results_v2_tmp (b := w.heap.size + 1) (u := .int .u64 0) (v := .int .u64 0) ?_ rfl rfl) rfl ?_
      · first | exact V2.set s0 _ _ | exact s0
      · exact .inl ⟨H9.out, rfl, by repeat (first | exact Below.refl _ _ | with_reducible assumption | (refine bl_alloc ?_ (Nat.le_refl _) _) | (refine bl_set ?_ (by dsimp only; omega) _) | (refine Below.drew ?_) | (refine bl_drewN ?_ _) | (refine bl_call ?_ (Nat.le_refl _) (by assumption)))⟩
    · have H9 := Lib.hid h9
      clear h9
      clear q00 q01 q02 q03 q04 s00 s01 s02 s03 s04
      replace hb00 := bl_call hb00 (Nat.le_refl _) hb3
      replace q0 := q0.call hb3
      replace s0 := s0.call hb3
      clear hb3
      obtain ⟨s00, s01, s02, s03, s04⟩ := V2.mk s0.c0 s0.c1 s0.f0 s0.f1 s0.lt
      go_wp2_with fail
      refine bodyPost_ret (results_v2_tmp (b := w.heap.size + 1) (u := .int .u64 (lo (kinv x))) (v := .int .u64 (hi (kinv x))) ?_ rfl rfl) rfl ?_
      · exact V2.set s0 _ _
      · exact .inr ⟨H9.out, rfl, by repeat (first | exact Below.refl _ _ | with_reducible assumption | (refine bl_alloc ?_ (Nat.le_refl _) _) | (refine bl_set ?_ (by dsimp only; omega) _) | (refine Below.drew ?_) | (refine bl_drewN ?_ _) | (refine bl_call ?_ (Nat.le_refl _) (by assumption)))⟩

end Go.Proofs.YtfhmineolncefaaDoor

namespace Go.Proofs.YtfhmineolncefaaDoor.Fm
set_option linter.unusedVariables false

section
variable {p : Nat} [NeZero p]

/-- the sum of g 0 .. g (n - 1) -/
def sm (g : Nat → Fin p) : Nat → Fin p
  | 0 => 0
  | n + 1 => sm g n + g n
theorem sm_zero (g : Nat → Fin p) : sm g 0 = 0 := rfl
theorem sm_succ (g : Nat → Fin p) (n : Nat) : sm g (n + 1) = sm g n + g n := rfl
theorem sm_congr {g h : Nat → Fin p} : ∀ {n : Nat}, (∀ i, i < n → g i = h i) → sm g n = sm h n
  | 0, _ => rfl
  | n + 1, hh => by rw [sm_succ, sm_succ, sm_congr (fun i hi => hh i (by omega)), hh n (by omega)]
theorem sm_none {g : Nat → Fin p} : ∀ {n : Nat}, (∀ i, i < n → g i = 0) → sm g n = 0
  | 0, _ => rfl
  | n + 1, hh => by rw [sm_succ, sm_none (fun i hi => hh i (by omega)), hh n (by omega)]; grind
theorem sm_add (g h : Nat → Fin p) : ∀ n, sm (fun i => g i + h i) n = sm g n + sm h n
  | 0 => by simp only [sm_zero]; grind
  | n + 1 => by rw [sm_succ, sm_succ, sm_succ, sm_add g h n]; grind
theorem sm_mul (c : Fin p) (g : Nat → Fin p) : ∀ n, sm (fun i => c * g i) n = c * sm g n
  | 0 => by simp only [sm_zero]; grind
  | n + 1 => by rw [sm_succ, sm_succ, sm_mul c g n]; grind
theorem sm_mulr (c : Fin p) (g : Nat → Fin p) (n : Nat) : sm (fun i => g i * c) n = sm g n * c := by
  rw [show (fun i => g i * c) = fun i => c * g i from funext fun i => by grind, sm_mul]
  grind
theorem sm_sub (g h : Nat → Fin p) : ∀ n, sm (fun i => g i - h i) n = sm g n - sm h n
  | 0 => by simp only [sm_zero]; grind
  | n + 1 => by rw [sm_succ, sm_succ, sm_succ, sm_sub g h n]; grind
theorem sm_swap (g : Nat → Nat → Fin p) (m : Nat) : ∀ n, sm (fun i => sm (fun j => g i j) m) n = sm (fun j => sm (fun i => g i j) n) m
  | 0 => by
    rw [sm_zero]
    exact (sm_none (fun i _ => rfl)).symm
  | n + 1 => by
    rw [sm_succ, sm_swap g m n, ← sm_add]
    rfl
theorem sm_split (g : Nat → Fin p) (m : Nat) : ∀ n, sm g (m + n) = sm g m + sm (fun i => g (m + i)) n
  | 0 => by
    rw [sm_zero, Nat.add_zero]
    grind
  | n + 1 => by
    rw [← Nat.add_assoc, sm_succ, sm_split g m n, sm_succ]
    grind
theorem sm_head (g : Nat → Fin p) (n : Nat) : sm g (n + 1) = g 0 + sm (fun i => g (i + 1)) n := by
  rw [Nat.add_comm, sm_split g 1 n, sm_succ, sm_zero]
  rw [show (fun i => g (1 + i)) = fun i => g (i + 1) from funext fun i => by rw [Nat.add_comm]]
  grind
theorem sm_two (g : Nat → Fin p) : ∀ n, sm g (2 * n) = sm (fun i => g (2 * i)) n + sm (fun i => g (2 * i + 1)) n
  | 0 => by
    rw [Nat.mul_zero, sm_zero, sm_zero, sm_zero]
    grind
  | n + 1 => by
    rw [show 2 * (n + 1) = 2 * n + 1 + 1 by omega, sm_succ, sm_succ, sm_succ, sm_succ, sm_two g n]
    grind
theorem sm_one {g : Nat → Fin p} {k : Nat} : ∀ {n : Nat}, k < n → (∀ i, i < n → i ≠ k → g i = 0) → sm g n = g k
  | 0, h, _ => absurd h (Nat.not_lt_zero _)
  | n + 1, h, hh => by
    rw [sm_succ]
    by_cases hk : k = n
    · subst hk
      rw [sm_none (fun i hi => hh i (by omega) (by omega))]
      grind
    · rw [sm_one (n := n) (by omega) (fun i hi hne => hh i (by omega) hne), hh n (by omega) (by omega)]
      grind
theorem sm_more {g : Nat → Fin p} {m n : Nat} (h : m ≤ n) (h0 : ∀ i, m ≤ i → i < n → g i = 0) : sm g n = sm g m := by
  obtain ⟨k, rfl⟩ : ∃ k, n = m + k := ⟨n - m, by omega⟩
  rw [sm_split, sm_none (g := fun i => g (m + i)) (n := k) (fun i hi => h0 _ (by omega) (by omega))]
  grind
theorem sm_const (c : Fin p) : ∀ n, sm (fun _ => c) n = sm (fun _ => 1) n * c
  | 0 => by simp only [sm_zero]; grind
  | n + 1 => by rw [sm_succ, sm_succ, sm_const c n]; grind
/-- the sum of a number's powers -/
theorem geo (x : Fin p) : ∀ n, (x - 1) * sm (fun i => kpow x i) n = kpow x n - 1
  | 0 => by simp only [sm_zero, kpow_zero]; grind
  | n + 1 => by
    have h := geo x n
    rw [sm_succ, kpow_succ]
    grind
theorem zero_kpow (n : Nat) (h : 0 < n) : kpow (0 : Fin p) n = 0 := by
  obtain ⟨k, rfl⟩ : ∃ k, n = k + 1 := ⟨n - 1, by omega⟩
  rw [kpow_succ]
  grind
end

/-! ### a root of 1 -/
section
variable {f : Nat}

/-- a root of 1 of order 2^L -/
structure Rt (r : Fin (Pm f)) (L : Nat) : Prop where
  one : kpow r (2 ^ L) = 1
  ne : ∀ d, 0 < d → d < 2 ^ L → kpow r d ≠ 1

theorem k_cancel {a b c : Fin (Pm f)} (h : a ≠ 0) (he : a * b = a * c) : b = c := by
  rcases k_mul_eq_zero a (b - c) (by grind) with h1 | h1
  · exact absurd h1 h
  · grind
theorem Rt.ne_zero {r : Fin (Pm f)} {L : Nat} (h : Rt r L) : r ≠ 0 := by
  intro e
  have h1 := h.one
  rw [e, zero_kpow _ (Nat.two_pow_pos L)] at h1
  exact k_one_ne h1.symm
theorem kpow_ne {r : Fin (Pm f)} (h : r ≠ 0) : ∀ n, kpow r n ≠ 0
  | 0 => k_one_ne
  | n + 1 => fun e => by
    rw [kpow_succ] at e
    rcases k_mul_eq_zero _ _ e with h1 | h1
    · exact kpow_ne h n h1
    · exact h h1
/-- half way round -/
theorem Rt.half {r : Fin (Pm f)} {L : Nat} (h : Rt r (L + 1)) : kpow r (2 ^ L) = -1 := by
  have h1 := h.one
  rw [Nat.pow_succ, Nat.mul_two, kpow_add] at h1
  have h2 := h.ne (2 ^ L) (Nat.two_pow_pos L) (by rw [Nat.pow_succ]; have := Nat.two_pow_pos L; omega)
  rcases k_mul_eq_zero (kpow r (2 ^ L) - 1) (kpow r (2 ^ L) + 1) (by grind) with h3 | h3
  · exact absurd (by grind) h2
  · grind
theorem Rt.sq {r : Fin (Pm f)} {L : Nat} (h : Rt r (L + 1)) : Rt (r * r) L := by
  have e : r * r = kpow r 2 := by rw [kpow_succ, kpow_one]
  refine ⟨?_, fun d h0 h1 => ?_⟩
  · rw [e, ← kpow_mul, Nat.mul_comm, ← Nat.pow_succ]
    exact h.one
  · rw [e, ← kpow_mul]
    exact h.ne _ (by omega) (by rw [Nat.pow_succ]; omega)
theorem Rt.inv {r s : Fin (Pm f)} {L : Nat} (h : Rt r L) (hs : r * s = 1) : Rt s L := by
  have e : ∀ n, kpow r n * kpow s n = 1 := fun n => by rw [← mul_kpow, hs, one_kpow]
  refine ⟨?_, fun d h0 h1 h2 => h.ne d h0 h1 ?_⟩
  · have h1 := e (2 ^ L)
    rw [h.one] at h1
    grind
  · have h3 := e d
    rw [h2] at h3
    grind
theorem Rt.inj {r : Fin (Pm f)} {L i j : Nat} (h : Rt r L) (hi : i < 2 ^ L) (hj : j < 2 ^ L) (he : kpow r i = kpow r j) : i = j := by
  have aux : ∀ i j : Nat, i < j → j < 2 ^ L → kpow r i = kpow r j → False := by
    intro i j hij hj he
    refine h.ne (j - i) (by omega) (by omega) ?_
    have h1 : kpow r j = kpow r i * kpow r (j - i) := by rw [← kpow_add]; congr 1; omega
    rw [h1] at he
    exact k_cancel (a := kpow r i) (kpow_ne h.ne_zero _) (by grind)
  rcases Nat.lt_trichotomy i j with h1 | h1 | h1
  · exact (aux i j h1 hj he).elim
  · exact h1
  · exact (aux j i h1 hi he.symm).elim
theorem Rt.mod {r : Fin (Pm f)} {L : Nat} (h : Rt r L) (n : Nat) : kpow r (n % 2 ^ L) = kpow r n := by
  have h1 : kpow r (2 ^ L * (n / 2 ^ L) + n % 2 ^ L) = kpow r (n % 2 ^ L) := by
    rw [kpow_add, kpow_mul, h.one, one_kpow]
    grind
  rw [Nat.div_add_mod] at h1
  exact h1.symm

/-- values at the powers of a root, and back: so many times the number -/
theorem round_trip {r s : Fin (Pm f)} {L : Nat} (h : Rt r L) (hs : r * s = 1) (a : Nat → Fin (Pm f)) (i : Nat) (hi : i < 2 ^ L) :
    sm (fun k => sm (fun j => a j * kpow r (k * j)) (2 ^ L) * kpow s (i * k)) (2 ^ L) = sm (fun _ => 1) (2 ^ L) * a i := by
  have hss := h.inv hs
  have e : ∀ n, kpow r n * kpow s n = 1 := fun n => by rw [← mul_kpow, hs, one_kpow]
  rw [sm_congr (h := fun k => sm (fun j => a j * kpow r (k * j) * kpow s (i * k)) (2 ^ L)) (fun k _ => (sm_mulr _ _ _).symm), sm_swap]
  rw [sm_one (k := i) hi]
  · rw [sm_congr (h := fun _ => a i) (fun k _ => ?_), sm_const]
    have h1 := e (k * i)
    rw [Nat.mul_comm i k]
    grind
  · intro j hj hne
    rw [sm_congr (h := fun k => a j * kpow (kpow r j * kpow s i) k) (fun k _ => ?_), sm_mul]
    · have hx : kpow r j * kpow s i - 1 ≠ 0 := by
        intro h0
        apply hne
        refine h.inj hj hi (k_cancel (a := kpow s i) (kpow_ne hss.ne_zero _) ?_)
        have h1 := e i
        grind
      have hg := geo (kpow r j * kpow s i) (2 ^ L)
      rw [mul_kpow, ← kpow_mul, ← kpow_mul, Nat.mul_comm j, Nat.mul_comm i, kpow_mul, kpow_mul, h.one, hss.one, one_kpow, one_kpow] at hg
      rcases k_mul_eq_zero _ _ (show (kpow r j * kpow s i - 1) * sm (fun k => kpow (kpow r j * kpow s i) k) (2 ^ L) = 0 by rw [hg]; grind) with h1 | h1
      · exact absurd h1 hx
      · rw [h1]
        grind
    · rw [mul_kpow, ← kpow_mul, ← kpow_mul, Nat.mul_comm j k]
      grind
end

end Go.Proofs.YtfhmineolncefaaDoor.Fm
