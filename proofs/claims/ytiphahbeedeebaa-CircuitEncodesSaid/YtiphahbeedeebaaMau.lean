/-
  WALK: the reference's Valid.
-/
/-
  WALK: tallymanlaw10.Vector.
-/
/-
  WALK: tallymanlaw10.CircuitValid.
-/
import Derived.Test.YtiphahbeedeebaaMaq
import Derived.Test.YtiphahbeedeebaaMao
import Derived.Test.YtiphahbeedeebaaMal
import Derived.Test.YtiphahbeedeebaaMat
import Derived.Test.YtiphahbeedeebaaMak
namespace Go.Proofs.Ytiphahbeedeebaa
open Go.RowKit Fm
set_option linter.unusedVariables false
set_option maxRecDepth 100000

/-- small numbers are told apart by their elements -/
theorem nK_small {f : Nat} (hf : IsF f) {a b : Nat} (ha : a < 4294967296) (hb : b < 4294967296) (h : nK f a = nK f b) : a = b := by
  have h1 := congrArg (fun x : Fin (Pm f) => ((x.val : Nat) : Int)) h
  simp only [nK_kI, kI_val] at h1
  rcases hf.or with rfl | rfl
  · rw [show ((Pm 1 : Nat) : Int) = 18446744069414584321 from rfl] at h1
    omega
  · rw [show ((Pm 2 : Nat) : Int) = 340282366920938462946865773367900766209 from rfl] at h1
    omega

/-- so many of the first N are 1 -/
def Cnt {f : Nat} (l : KL f) (N k s : Nat) : Prop := nK f s = ksum (l.take (min k N))
theorem Cnt.zero {f : Nat} (l : KL f) (N : Nat) : Cnt l N 0 0 := by
  unfold Cnt
  rw [nK_zero, Nat.zero_min]
  rfl
theorem Cnt.out {f : Nat} {l : KL f} {N k s : Nat} (h : Cnt l N k s) (hk : ¬ k < N) : Cnt l N (k + 1) s := by
  unfold Cnt at *
  rw [show min (k + 1) N = min k N by omega]
  exact h
theorem Cnt.no {f : Nat} {l : KL f} {N k s : Nat} (h : Cnt l N k s) (hx : l[k]? = some 0) : Cnt l N (k + 1) s := by
  by_cases hk : k < N
  · unfold Cnt at *
    rw [show min (k + 1) N = k + 1 by omega, ksum_take l k _ hx, h, show min k N = k by omega]
    grind
  · exact h.out hk
theorem Cnt.yes {f : Nat} {l : KL f} {N k s : Nat} (h : Cnt l N k s) (hk : k < N) (hx : l[k]? = some 1) : Cnt l N (k + 1) (s + 1) := by
  unfold Cnt at *
  rw [show min (k + 1) N = k + 1 by omega, ksum_take l k _ hx, nK_add, nK_one, h, show min k N = k by omega]

theorem kpow_nK (f : Nat) : ∀ j, kpow f j = nK f (2 ^ j)
  | 0 => (nK_one f).symm
  | j + 1 => by rw [kpow, kpow_nK f j, Nat.pow_succ, Nat.mul_two, nK_add]

/-- the number that the first j of some bits make -/
def Num {f : Nat} (l : KL f) (j v : Nat) : Prop := nK f v = knum (l.take j) ∧ v < 2 ^ j
theorem Num.zero {f : Nat} (l : KL f) : Num l 0 0 := ⟨by rw [nK_zero]; rfl, by decide⟩
theorem Num.no {f : Nat} {l : KL f} {j v : Nat} (h : Num l j v) (hx : l[j]? = some 0) : Num l (j + 1) v := by
  refine ⟨?_, ?_⟩
  · rw [knum_take l j _ hx, ← h.1]
    grind
  · have := h.2
    rw [Nat.pow_succ]
    omega
theorem Num.yes {f : Nat} {l : KL f} {j v : Nat} (h : Num l j v) (hx : l[j]? = some 1) : Num l (j + 1) (v + 2 ^ j) := by
  refine ⟨?_, ?_⟩
  · rw [knum_take l j _ hx, nK_add, ← h.1, kpow_nK]
    grind
  · have := h.2
    rw [Nat.pow_succ]
    omega

section
variable {f : Nat} (hf : IsF f)
include hf

set_option maxHeartbeats 8000000 in
theorem ref9_Valid (y : CK) (hy : y.ok) (hcalls : ¬ 511 < y.calls) (vl : Value) (l : KL f) (w : World) (hl : SlK w w.heap.size vl l) (hlen : l.length = y.nin) :
    Calls Try.prog 46 #[y.rval f, vl] w (RetTest (okVec y l) w) := by
  have HC : Hid (∀ wz, Calls Try.prog 49 #[y.rval f] wz (RetC 0 wz)) := by
    intro wz
    have h := ref9_Check_ok hf y hy wz
    rwa [CK.code_ok hcalls] at h
  have HI := Lib.hid (fun wz => ref9_In f y hy wz)
  have hnin := CK.nin_le hy
  have heq := eql_elem
  have hneq := neq_elem
  have hfb0 : (1 : Int) ≤ (f : Int) := by rcases hf.or with rfl | rfl <;> omega
  have hfb1 : (f : Int) ≤ 2 := by rcases hf.or with rfl | rfl <;> omega
  obtain ⟨A, cc, rfl, hcc, hcm, hA⟩ := hl
  have HL := Lib.hid hlen
  unfold CK.rval at HC HI ⊢
  obtain ⟨K, hK⟩ : ∃ K : Int, ((y.k : Nat) : Int) = K := ⟨_, rfl⟩
  obtain ⟨B, hB⟩ : ∃ K : Int, ((y.b : Nat) : Int) = K := ⟨_, rfl⟩
  obtain ⟨N, hN⟩ : ∃ K : Nat, y.l = K := ⟨_, rfl⟩
  obtain ⟨M, hM⟩ : ∃ K : Int, ((y.m : Nat) : Int) = K := ⟨_, rfl⟩
  obtain ⟨C, hC⟩ : ∃ K : Int, ((y.c : Nat) : Int) = K := ⟨_, rfl⟩
  rw [hK, hB, hN, hM, hC] at HC HI ⊢
  have HK := Lib.hid hK
  have HB := Lib.hid hB
  have HN := Lib.hid hN
  have HM := Lib.hid hM
  have HCC := Lib.hid hC
  rw [← hlen] at HI
  have hll : l.length ≤ 2048 := by rw [hlen]; exact hnin
  clear hK hB hN hM hC hlen hnin hcalls
  have hb00 : Below w.heap.size w w := Below.refl _ _
  go_enter Try.func46, Try.ntmps46
  go_upto_region 1 with fail
  have hx := Vs.new w [.int .i64 K, .int .i64 f, .int .i64 B, .int .i64 N, .int .i64 M, .int .i64 C] #[.int .i64 K, .int .i64 f, .int .i64 B, .int .i64 N, .int .i64 M, .int .i64 C] 72 rfl
  have hbA : Below w.heap.size w (w.alloc (.cells #[.int .i64 K, .int .i64 f, .int .i64 B, .int .i64 N, .int .i64 M, .int .i64 C] 72)) := by repeat (first | exact Below.refl _ _ | with_reducible assumption | (refine bl_alloc ?_ (Nat.le_refl _) _))
  replace hb00 := bl_call hb00 (Nat.le_refl _) hbA
  clear hbA
  generalize w.alloc (.cells #[.int .i64 K, .int .i64 f, .int .i64 B, .int .i64 N, .int .i64 M, .int .i64 C] 72) = w1 at hb00 hx ⊢
  obtain ⟨⟨x0, x1, x2, x3, x4, x5⟩, ⟨x6, x7, x8, x9, x10, x11⟩, x12⟩ := hx.get6
  go_wp2_with (first
    | (go_at_call 49; refine (HC.out _).mono ?_; rintro e w2 ⟨rfl, hb2⟩; replace hb00 := bl_call hb00 (Nat.le_refl _) hb2; replace hx := hx.call hb2; obtain ⟨⟨x0, x1, x2, x3, x4, x5⟩, ⟨x6, x7, x8, x9, x10, x11⟩, x12⟩ := hx.get6)
    | (go_at_call 61; refine (HI.out _).mono ?_; rintro e w3 ⟨rfl, hb3⟩; replace hb00 := bl_call hb00 (Nat.le_refl _) hb3; replace hx := hx.call hb3; obtain ⟨⟨x0, x1, x2, x3, x4, x5⟩, ⟨x6, x7, x8, x9, x10, x11⟩, x12⟩ := hx.get6))
  clear HC HI hb2 hb3
  clear x0 x1 x2 x3 x4 x5 x6 x7 x8 x9 x10 x11 x12
  go_loopw [5, 6] (fun s i wr => ∃ k n : Nat, k ≤ l.length ∧ i = .int .i64 k ∧ s = .int .i64 n ∧ n ≤ k ∧ Hid (okBits (l.take k)) ∧ Hid (Cnt l N k n) ∧ Vs wr w.heap.size [.int .i64 K, .int .i64 f, .int .i64 B, .int .i64 N, .int .i64 M, .int .i64 C] ∧ Below w.heap.size w wr) (fun _ i _ => l.length - (intOf i).toNat)
  case atStart => exact ⟨0, 0, Nat.zero_le _, rfl, rfl, Nat.le_refl _, fun x h => (by simp at h), Cnt.zero l N, hx, hb00⟩
  case round =>
    clear hx hb00
    obtain ⟨k, n, hk, rfl, rfl, hnk, hbits, hcnt, hx, hbw⟩ := hrel
    obtain ⟨⟨x0, x1, x2, x3, x4, x5⟩, ⟨x6, x7, x8, x9, x10, x11⟩, x12⟩ := hx.get6
    by_cases hlt : k < l.length
    · obtain ⟨b, o, rfl, hBb, hr⟩ := hA (by omega)
      obtain ⟨x, he⟩ : ∃ e, l[k]? = some e := ⟨_, List.getElem?_eq_getElem hlt⟩
      obtain ⟨d0, d1⟩ := (hr.below hbw hBb).kat he
      have hbl : b < wr.heap.size := Nat.lt_of_lt_of_le hBb hbw.size
      have HE := Lib.hid he
      have HNX := Lib.hid (fun h => okBits_take he hbits.out h)
      clear he hr hA
      have hl0 := lohi_zero x
      have hl1 := lohi_eq x 1
      rw [lo_one, hi_one] at hl1
      by_cases h0 : x = 0
      · have HX := Lib.hid (HNX.out (.inl h0))
        have HCX := Lib.hid (hcnt.out.no (by rw [HE.out, h0]))
        rw [decide_eq_true h0] at hl0
        rw [decide_eq_false (by rw [h0]; exact k_one_ne.symm)] at hl1
        clear h0
        by_cases hkN : k < N
        · go_wp2
          go_roundw
          case rel => exact ⟨k + 1, n, by omega, by go_num, rfl, by omega, HX.out, HCX.out, hx, hbw⟩
          case measure => simp [intOf]; omega
        · have hd : decide ((k : Int) < (N : Int)) = false := decide_eq_false (by omega)
          go_wp2
          go_roundw
          case rel => exact ⟨k + 1, n, by omega, by go_num, rfl, by omega, HX.out, HCX.out, hx, hbw⟩
          case measure => simp [intOf]; omega
      · rw [decide_eq_false h0] at hl0
        by_cases h1 : x = 1
        · have HX := Lib.hid (HNX.out (.inr h1))
          rw [decide_eq_true h1] at hl1
          by_cases hkN : k < N
          · have HCX := Lib.hid (hcnt.out.yes hkN (by rw [HE.out, h1]))
            clear h0 h1
            go_wp2
            go_roundw
            case rel => exact ⟨k + 1, n + 1, by omega, by go_num, by go_num, by omega, HX.out, HCX.out, hx, hbw⟩
            case measure => simp [intOf]; omega
          · have HCX := Lib.hid (hcnt.out.out hkN)
            have hd : decide ((k : Int) < (N : Int)) = false := decide_eq_false (by omega)
            clear h0 h1
            go_wp2
            go_roundw
            case rel => exact ⟨k + 1, n, by omega, by go_num, rfl, by omega, HX.out, HCX.out, hx, hbw⟩
            case measure => simp [intOf]; omega
        · rw [decide_eq_false h1] at hl1
          have hbad : ¬ okVec y l := fun h => (h.1 x (List.mem_of_getElem? HE.out)).elim h0 h1
          have HBAD := Lib.hid hbad
          clear h0 h1 hbad
          go_wp2
          go_ret
          exact ⟨⟨false, rfl, by simp; exact HBAD.out⟩, hbw⟩
    · obtain rfl : k = l.length := by omega
      rw [List.take_length] at hbits
      clear hlt
      cases y with
      | count =>
        obtain rfl : K = 1 := HK.out.symm
        go_wp2_with fail
        go_ret
        exact ⟨⟨true, rfl, by simp; exact ⟨hbits.out, trivial⟩⟩, hbw⟩
      | sum _ =>
        obtain rfl : K = 2 := HK.out.symm
        go_wp2_with fail
        go_ret
        exact ⟨⟨true, rfl, by simp; exact ⟨hbits.out, trivial⟩⟩, hbw⟩
      | vec _ _ _ =>
        obtain rfl : K = 3 := HK.out.symm
        go_wp2_with fail
        go_ret
        exact ⟨⟨true, rfl, by simp; exact ⟨hbits.out, trivial⟩⟩, hbw⟩
      | hist n' c =>
        obtain rfl : K = 4 := HK.out.symm
        obtain rfl : N = n' := HN.out.symm
        have hS : Hid (okVec (.hist N c) l ↔ n = 1) := by
          show okVec (.hist N c) l ↔ n = 1
          have h1 : nK f n = ksum l := by
            have h := hcnt.out
            unfold Cnt at h
            rwa [HL.out, show min (CK.hist N c).nin N = (CK.hist N c).nin from Nat.min_self N, ← HL.out, List.take_length] at h
          constructor
          · intro h
            have h2 : ksum l = 1 := h.2
            exact nK_small hf (by omega) (by omega) (by rw [h1, h2, nK_one])
          · rintro rfl
            exact ⟨hbits.out, by show ksum l = 1; rw [← h1, nK_one]⟩
        go_wp2_with fail
        go_ret
        exact ⟨⟨_, rfl, by rw [hS.out]; simp; omega⟩, hbw⟩
      | multi n' m c =>
        obtain rfl : K = 5 := HK.out.symm
        obtain rfl : N = n' := HN.out.symm
        obtain rfl : M = (m : Int) := HM.out.symm
        have hm64 : m ≤ 64 := Nat.le_trans hy.2.1.2 hy.1.2
        have hN64 : N ≤ 64 := hy.1.2
        have hlq : l.length = N + Lib.bitLen m := HL.out
        have hq7 := (bitLen_small m hm64).1
        have HOFF := Lib.hid (fun wz => ref9_Offset 5 f B N C m hm64 wz)
        have hoff : offN m ≤ 128 := by
          have h2 : 2 ^ Lib.bitLen m ≤ 2 ^ 7 := Nat.pow_le_pow_right (by omega) hq7
          have h3 : (2 : Nat) ^ 7 = 128 := rfl
          show 2 ^ Lib.bitLen m - 1 - m ≤ 128
          omega
        have HOK : Hid (∀ v, Num (l.drop N) (l.length - N) v → (okVec (.multi N m c) l ↔ n + offN m = v)) := by
          intro v hv
          have h1 : nK f n = ksum (l.take N) := by
            have h := hcnt.out
            unfold Cnt at h
            rwa [show min l.length N = N by omega] at h
          have h2 : nK f v = knum (l.drop N) := by
            rw [hv.1, List.take_of_length_le (by rw [List.length_drop]; exact Nat.le_refl _)]
          have h3 : v < 4294967296 := by
            have h4 := hv.2
            have h5 : 2 ^ (l.length - N) ≤ 2 ^ 7 := Nat.pow_le_pow_right (by omega) (by omega)
            have h6 : (2 : Nat) ^ 7 = 128 := rfl
            omega
          constructor
          · intro h
            have h4 : ksum (l.take N) + nK f (offN m) = knum (l.drop N) := h.2
            exact nK_small hf (by omega) h3 (by rw [nK_add, h1, h2, h4])
          · intro h
            refine ⟨hbits.out, ?_⟩
            show ksum (l.take N) + nK f (offN m) = knum (l.drop N)
            rw [← h1, ← h2, ← nK_add, h]
        have hNl : N ≤ l.length := by omega
        have hl7 : l.length - N ≤ 7 := by omega
        have hnl : n ≤ 2048 := by omega
        generalize offN m = of at *
        clear hlq hq7
        obtain ⟨wo, hwo⟩ : ∃ wo : World, wo = wr := ⟨_, rfl⟩
        subst hwo
        go_wp2_with fail
        go_loopw [7, 8, 9] (fun v7 v8 i wi => ∃ e j v p : Nat, Hid (e = N + j) ∧ N ≤ e ∧ e ≤ l.length ∧ i = .int .i64 e ∧ v7 = .int .i64 v ∧ v8 = .int .i64 p ∧ Hid (p = 2 ^ j) ∧ p ≤ 128 ∧ v ≤ 128 ∧ Hid (Num (l.drop N) j v) ∧
          Vs wi w.heap.size [.int .i64 5, .int .i64 f, .int .i64 B, .int .i64 N, .int .i64 m, .int .i64 C] ∧ Below w.heap.size w wi) (fun _ _ i _ => l.length - (intOf i).toNat)
        case atStart => exact ⟨N, 0, 0, 1, rfl, Nat.le_refl _, hNl, rfl, rfl, rfl, rfl, by omega, by omega, Num.zero _, hx, hbw⟩
        case round =>
          clear hx hbw
          obtain ⟨e, j, v, p, he, hNe, hel, rfl, rfl, rfl, hp, hp7, hv7, hnum, hx, hbw⟩ := hrel
          obtain ⟨⟨x0, x1, x2, x3, x4, x5⟩, ⟨x6, x7, x8, x9, x10, x11⟩, x12⟩ := hx.get6
          by_cases hlt : e < l.length
          · obtain ⟨b, o, rfl, hBb, hr⟩ := hA (by omega)
            obtain ⟨x, hex⟩ : ∃ x, l[e]? = some x := ⟨_, List.getElem?_eq_getElem hlt⟩
            obtain ⟨d0, d1⟩ := (hr.below hbw hBb).kat hex
            have hbl : b < wr.heap.size := Nat.lt_of_lt_of_le hBb hbw.size
            have hj7 : 2 ^ (j + 1) ≤ 2 ^ 7 := Nat.pow_le_pow_right (by omega) (by have := he.out; omega)
            have h27 : (2 : Nat) ^ 7 = 128 := rfl
            have hpj := hp.out
            have h2j : 2 ^ (j + 1) = 2 * p := by rw [Nat.pow_succ, hpj]; omega
            have hdr : (l.drop N)[j]? = some x := by rw [List.getElem?_drop, ← he.out]; exact hex
            have HP2 : Hid (2 * p = 2 ^ (j + 1)) := h2j.symm
            have hp27 : 2 * p ≤ 128 := by omega
            have hv27 : v + p ≤ 128 := by have h := hnum.out.2; omega
            have HE1 : Hid (e + 1 = N + (j + 1)) := by show e + 1 = N + (j + 1); have := he.out; omega
            rcases hbits.out x (List.mem_of_getElem? hex) with h | h
            · subst h
              have HN1 := Lib.hid (hnum.out.no hdr)
              rw [lo_zero] at d0
              clear hex hr hA hdr hpj h2j hj7 h27 d1
              go_wp2
              go_roundw
              case rel => exact ⟨e + 1, j + 1, v, 2 * p, HE1.out, by omega, by omega, by go_num, rfl, by go_num, HP2.out, hp27, by omega, HN1.out, hx, hbw⟩
              case measure => simp [intOf]; omega
            · subst h
              have HN1 : Hid (Num (l.drop N) (j + 1) (v + p)) := by rw [hpj]; exact hnum.out.yes hdr
              rw [lo_one] at d0
              clear hex hr hA hdr hpj h2j hj7 h27 d1
              go_wp2
              go_roundw
              case rel => exact ⟨e + 1, j + 1, v + p, 2 * p, HE1.out, by omega, by omega, by go_num, by go_num, by go_num, HP2.out, hp27, hv27, HN1.out, hx, hbw⟩
              case measure => simp [intOf]; omega
          · obtain rfl : e = l.length := by omega
            have hjl : l.length - N = j := by have := he.out; omega
            have HF := Lib.hid (HOK.out v (by rw [hjl]; exact hnum.out))
            clear hjl
            go_wp2_with (first
              | (go_at_call 99; refine (HOFF.out _).mono ?_; rintro e w5 ⟨rfl, hb5⟩; replace hbw := bl_call hbw (Nat.le_refl _) hb5; replace hx := hx.call hb5))
            go_ret
            exact ⟨⟨_, rfl, by rw [HF.out]; simp; omega⟩, hbw⟩
end

end Go.Proofs.Ytiphahbeedeebaa

namespace Go.Proofs.Ytiphahbeedeebaa
open Go.RowKit Fm
set_option linter.unusedVariables false
set_option maxRecDepth 100000

/-- a new slice of n elements of the field comes back -/
def RetV (f n : Nat) (w : World) (e : Ending) (w' : World) : Prop :=
  ∃ (g : Nat) (zs : KL f), zs.length = n ∧ e = .returned (.slice (some ⟨g, 0, none⟩) n n) ∧ BlkE w' g (esK zs) ∧ w.heap.size ≤ g ∧ Below w.heap.size w w'

theorem fill_put {f : Nat} (zs : KL f) (n k : Nat) (hz : zs.length = k) (hk : k < n) (y : Fin (Pm f)) (a b : Int) (hy : eK y = (a, b)) :
    (esK zs ++ List.replicate (n - k) ((0, 0) : E)).set k (a, b) = esK (zs ++ [y]) ++ List.replicate (n - (k + 1)) (0, 0) := by
  have hl : (esK zs).length = k := by rw [esK_length, hz]
  rw [List.set_append_right _ _ (by rw [hl]; exact Nat.le_refl _), hl, Nat.sub_self, show n - k = (n - (k + 1)) + 1 by omega, List.replicate_succ, List.set_cons_zero, esK_append, esK_cons, esK_nil, hy, List.append_assoc]
  rfl
theorem fill_none {f : Nat} (zs : KL f) (n k : Nat) (hk : k < n) :
    esK zs ++ List.replicate (n - k) ((0, 0) : E) = esK (zs ++ [(0 : Fin (Pm f))]) ++ List.replicate (n - (k + 1)) (0, 0) := by
  rw [show n - k = (n - (k + 1)) + 1 by omega, List.replicate_succ, esK_append, esK_cons, esK_nil, eK_zero, List.append_assoc]
  rfl
theorem eK_nK {f : Nat} (hf : IsF f) {n : Nat} (hn : n < 4294967296) : eK (nK f n) = ((n : Int), 0) := by
  rw [nK_kI, eK_kI]
  have h : (n : Int) % (Pm f : Int) = n := by
    rcases hf.or with rfl | rfl
    · rw [show ((Pm 1 : Nat) : Int) = 18446744069414584321 from rfl]; omega
    · rw [show ((Pm 2 : Nat) : Int) = 340282366920938462946865773367900766209 from rfl]; omega
  rw [h]
  simp only [eN, Prod.mk.injEq]
  omega

section
variable {f : Nat} (hf : IsF f)
include hf

set_option maxHeartbeats 8000000 in
theorem law10_Vector (y : CK) (hy : y.ok) (vl : Value) (l : List E) (sm : Bool) (w : World) (hl : SlE w w.heap.size vl l) (hl60 : l.length ≤ 60) :
    Calls Try.prog 44 #[y.val f, vl, .bool sm] w (RetV f y.nin w) := by
  have HI := Lib.hid (fun wz => circuit_In f y hy wz)
  have hnin := CK.nin_le hy
  obtain ⟨⟨A, c, rfl, hlc, hcm, hA⟩, hok⟩ := hl
  have hfb0 : (1 : Int) ≤ (f : Int) := by rcases hf.or with rfl | rfl <;> omega
  have hfb1 : (f : Int) ≤ 2 := by rcases hf.or with rfl | rfl <;> omega
  unfold CK.val at HI ⊢
  obtain ⟨K, hK⟩ : ∃ K : Int, ((y.k : Nat) : Int) = K := ⟨_, rfl⟩
  obtain ⟨B, hB⟩ : ∃ K : Int, ((y.b : Nat) : Int) = K := ⟨_, rfl⟩
  obtain ⟨N, hN⟩ : ∃ K : Int, ((y.l : Nat) : Int) = K := ⟨_, rfl⟩
  obtain ⟨M, hM⟩ : ∃ K : Int, ((y.m : Nat) : Int) = K := ⟨_, rfl⟩
  obtain ⟨C, hC⟩ : ∃ K : Int, ((y.c : Nat) : Int) = K := ⟨_, rfl⟩
  rw [hK, hB, hN, hM, hC] at HI ⊢
  clear hK hB hN hM hC hy
  generalize y.nin = n at *
  have hmk := make_elem n (by omega)
  have hb00 : Below w.heap.size w w := Below.refl _ _
  go_enter Try.func44, Try.ntmps44
  go_upto_region 1 with fail
  have hx := Vs.new w [.int .u8 K, .int .u8 f, .int .i64 B, .int .i64 N, .int .i64 M, .int .i64 C] #[.int .u8 K, .int .u8 f, .int .i64 B, .int .i64 N, .int .i64 M, .int .i64 C] 60 rfl
  have hbA : Below w.heap.size w (w.alloc (.cells #[.int .u8 K, .int .u8 f, .int .i64 B, .int .i64 N, .int .i64 M, .int .i64 C] 60)) := by repeat (first | exact Below.refl _ _ | with_reducible assumption | (refine bl_alloc ?_ (Nat.le_refl _) _))
  replace hb00 := bl_call hb00 (Nat.le_refl _) hbA
  clear hbA
  generalize w.alloc (.cells #[.int .u8 K, .int .u8 f, .int .i64 B, .int .i64 N, .int .i64 M, .int .i64 C] 60) = w1 at hb00 hx ⊢
  obtain ⟨⟨x0, x1, x2, x3, x4, x5⟩, ⟨x6, x7, x8, x9, x10, x11⟩, x12⟩ := hx.get6
  go_upto_region 2 with (first
    | (go_at_call 45; refine (HI.out _).mono ?_; rintro e w2 ⟨rfl, hb2⟩; replace hb00 := bl_call hb00 (Nat.le_refl _) hb2; replace hx := hx.call hb2; obtain ⟨⟨x0, x1, x2, x3, x4, x5⟩, ⟨x6, x7, x8, x9, x10, x11⟩, x12⟩ := hx.get6))
  have hBk : BlkE (w2.alloc (.cells (cellsE (List.replicate n (0, 0))).toArray 41)) w2.heap.size (List.replicate n (0, 0)) := heap_alloc_new w2 _
  have hbA : Below w2.heap.size w2 (w2.alloc (.cells (cellsE (List.replicate n (0, 0))).toArray 41)) := by repeat (first | exact Below.refl _ _ | with_reducible assumption | (refine bl_alloc ?_ (Nat.le_refl _) _) | (refine bl_set ?_ (by dsimp only; omega) _) | (refine Below.drew ?_) | (refine bl_drewN ?_ _) | (refine bl_call ?_ (Nat.le_refl _) (by assumption)))
  have hgx : w.heap.size < w2.heap.size := hx.lt
  clear x0 x1 x2 x3 x4 x5 x6 x7 x8 x9 x10 x11 x12
  replace hb00 := bl_call hb00 (Nat.le_refl _) hbA
  replace hx := hx.call hbA
  clear hbA hb2
  obtain ⟨g, hg⟩ : ∃ g, w2.heap.size = g := ⟨_, rfl⟩
  rw [hg] at hBk hgx ⊢
  generalize w2.alloc (.cells (cellsE (List.replicate n (0, 0))).toArray 41) = w3 at hBk hx hb00 ⊢
  clear hg hmk HI
  go_wp2_with fail
  go_loopw [14] (fun i wr => ∃ (k : Nat) (zs : KL f), zs.length = k ∧ k ≤ n ∧ i = .int .i64 k ∧ BlkE wr g (esK zs ++ List.replicate (n - k) (0, 0)) ∧ Vs wr w.heap.size [.int .u8 K, .int .u8 f, .int .i64 B, .int .i64 N, .int .i64 M, .int .i64 C] ∧ Below w.heap.size w wr) (fun i _ => n - (intOf i).toNat)
  case atStart => exact ⟨0, [], rfl, Nat.zero_le _, rfl, hBk, hx, hb00⟩
  case round =>
    clear hBk hx hb00
    obtain ⟨k, zs, hzl, hk, rfl, hBk, hx, hbw⟩ := hrel
    obtain ⟨⟨x0, x1, x2, x3, x4, x5⟩, ⟨x6, x7, x8, x9, x10, x11⟩, x12⟩ := hx.get6
    have HZ := Lib.hid hzl
    clear hzl
    by_cases hlt : k < n
    · by_cases hl0 : l.length = 0
      · rw [fill_none zs n k hlt] at hBk
        have HBK := Lib.hid hBk
        clear hBk hA
        go_wp2
        go_roundw
        case rel => exact ⟨k + 1, zs ++ [0], (by rw [List.length_append, HZ.out]; rfl), by omega, by go_num, HBK.out, hx, hbw⟩
        case measure => simp [intOf]; omega
      · obtain ⟨b, o, rfl, hBl, hr⟩ := hA (by omega)
        have hjm : k % l.length < l.length := Nat.mod_lt _ (by omega)
        obtain ⟨⟨e0, e1⟩, he⟩ : ∃ e, l[k % l.length]? = some e := ⟨_, List.getElem?_eq_getElem hjm⟩
        obtain ⟨h0, h1, h2, h3⟩ := hok _ (List.mem_of_getElem? he)
        obtain ⟨c0, c1⟩ := (hr.below hbw hBl) _ _ he
        dsimp only at h0 h1 h2 h3 c0 c1
        have hbl : b < wr.heap.size := Nat.lt_of_lt_of_le hBl hbw.size
        have HO := Lib.hid (fun wz => ref_OfL hf e0 e1 wz h0 h1 h2 h3)
        obtain ⟨x, hxx⟩ : ∃ x, kL f e0 e1 = x := ⟨_, rfl⟩
        rw [hxx] at HO
        have hjn : 0 ≤ (k : Int) % (l.length : Int) := Int.emod_nonneg _ (by omega)
        have hjl : (k : Int) % (l.length : Int) < (l.length : Int) := Int.emod_lt_of_pos _ (by omega)
        have hjt : ((k : Int) % (l.length : Int)).toNat = k % l.length := by rw [← Int.natCast_emod, Int.toNat_natCast]
        have hjd : (k : Int).tmod (l.length : Int) = (k : Int) % (l.length : Int) := Int.tmod_eq_emod_of_nonneg (by omega)
        have hgl : g < wr.heap.size := hBk.lt
        have hl9 : ¬ (l.length = 0) := hl0
        have hwf : IntKind.i64.wrap (f : Int) = (f : Int) := IntWalk.i64_in _ (by omega)
        clear he hr hA hxx
        go_upto_region 6 with fail
        refine region_B (n := 14) (m := 15) (f := 14) (by kernel_rfl) (by kernel_rfl) rfl ?_
        refine WpH.takeD 0 (some 20) (v := ?_) rfl rfl (by kernel_rfl) (fun _ _ _ h => h) (.val rfl (fun wz hwz => ?_)) ?_
        rotate_left
        · go_simp; try (with_reducible rfl)
        (simp only [Act.put]); (try simp only [List.setIfInBounds_toArray]); (try simp only [List.set_cons_succ]); (try simp only [List.set_cons_zero])
        refine WpH.takeD 1 (some 21) (v := ?_) rfl rfl (by kernel_rfl) (fun _ _ _ h => h) (.val rfl (fun wz hwz => ?_)) ?_
        rotate_left
        · go_simp; try (with_reducible rfl)
        (simp only [Act.put]); (try simp only [List.setIfInBounds_toArray]); (try simp only [List.set_cons_succ]); (try simp only [List.set_cons_zero])
        refine WpH.takeD 2 (some 22) (v := ?_) rfl rfl (by kernel_rfl) (fun _ _ _ h => h) (.val rfl (fun wz hwz => ?_)) ?_
        rotate_left
        · go_simp; try (with_reducible rfl)
        (simp only [Act.put]); (try simp only [List.setIfInBounds_toArray]); (try simp only [List.set_cons_succ]); (try simp only [List.set_cons_zero])
        refine WpH.takeD 3 (some 23) (v := ?_) rfl rfl (by kernel_rfl) (fun _ _ _ h => h) (.val rfl (fun wz hwz => ?_)) ?_
        rotate_left
        · (obtain ⟨hcz, hfz⟩ := bcell hwz; go_simp; try (with_reducible rfl))
        (simp only [Act.put]); (try simp only [List.setIfInBounds_toArray]); (try simp only [List.set_cons_succ]); (try simp only [List.set_cons_zero])
        refine WpH.takeD 4 (some 24) (v := ?_) rfl rfl (by kernel_rfl) (fun _ _ _ h => h) (.val rfl (fun wz hwz => ?_)) ?_
        rotate_left
        · go_simp; try (with_reducible rfl)
        (simp only [Act.put]); (try simp only [List.setIfInBounds_toArray]); (try simp only [List.set_cons_succ]); (try simp only [List.set_cons_zero])
        refine WpH.takeD 5 (some 25) (v := ?_) rfl rfl (by kernel_rfl) (fun _ _ _ h => h) (.val rfl (fun wz hwz => ?_)) ?_
        rotate_left
        · go_simp; try (with_reducible rfl)
        (simp only [Act.put]); (try simp only [List.setIfInBounds_toArray]); (try simp only [List.set_cons_succ]); (try simp only [List.set_cons_zero])
        refine WpH.takeD 6 (some 26) (v := ?_) rfl rfl (by kernel_rfl) (fun _ _ _ h => h) (.val rfl (fun wz hwz => ?_)) ?_
        rotate_left
        · go_simp; try (with_reducible rfl)
        (simp only [Act.put]); (try simp only [List.setIfInBounds_toArray]); (try simp only [List.set_cons_succ]); (try simp only [List.set_cons_zero])
        refine WpH.takeD 7 (some 27) (v := ?_) rfl rfl (by kernel_rfl) (fun _ _ _ h => h) (.val rfl (fun wz hwz => ?_)) ?_
        rotate_left
        · go_simp; try (with_reducible rfl)
        (simp only [Act.put]); (try simp only [List.setIfInBounds_toArray]); (try simp only [List.set_cons_succ]); (try simp only [List.set_cons_zero])
        refine WpH.takeD 8 (some 28) (v := ?_) rfl rfl (by kernel_rfl) (fun _ _ _ h => h) (.val rfl (fun wz hwz => ?_)) ?_
        rotate_left
        · go_simp; try (with_reducible rfl)
        (simp only [Act.put]); (try simp only [List.setIfInBounds_toArray]); (try simp only [List.set_cons_succ]); (try simp only [List.set_cons_zero])
        refine WpH.takeD 9 (some 29) (v := ?_) rfl rfl (by kernel_rfl) (fun _ _ _ h => h) (.val rfl (fun wz hwz => ?_)) ?_
        rotate_left
        · go_simp; try (with_reducible rfl)
        (simp only [Act.put]); (try simp only [List.setIfInBounds_toArray]); (try simp only [List.set_cons_succ]); (try simp only [List.set_cons_zero])
        refine WpH.takeD 10 (some 30) (v := ?_) rfl rfl (by kernel_rfl) (fun _ _ _ h => h) (.val rfl (fun wz hwz => ?_)) ?_
        rotate_left
        · go_simp; try (with_reducible rfl)
        (simp only [Act.put]); (try simp only [List.setIfInBounds_toArray]); (try simp only [List.set_cons_succ]); (try simp only [List.set_cons_zero])
        refine WpH.takeD 11 (some 31) (v := ?_) rfl rfl (by kernel_rfl) (fun _ _ _ h => h) (.val rfl (fun wz hwz => ?_)) ?_
        rotate_left
        · (obtain ⟨hcz, hfz⟩ := bcell hwz; go_simp; try (with_reducible rfl))
        (simp only [Act.put]); (try simp only [List.setIfInBounds_toArray]); (try simp only [List.set_cons_succ]); (try simp only [List.set_cons_zero])
        refine WpH.takeD 12 (some 32) rfl rfl (by kernel_rfl) (fun _ _ _ h => h) (.call rfl (fun wz hwz => HO.out wz) (fun wz hwz => ?_)) ?_
        · go_simp; try (with_reducible rfl)
        (simp only [Act.put]); (try simp only [List.setIfInBounds_toArray]); (try simp only [List.set_cons_succ]); (try simp only [List.set_cons_zero])
        refine WpH.takeD 13 (some 33) (v := ?_) rfl rfl (by kernel_rfl) (fun _ _ _ h => h) (.val rfl (fun wz hwz => ?_)) ?_
        rotate_left
        · go_simp; try (with_reducible rfl)
        (simp only [Act.put]); (try simp only [List.setIfInBounds_toArray]); (try simp only [List.set_cons_succ]); (try simp only [List.set_cons_zero])
        refine WpH.doneB (by kernel_rfl) (fun w6 hw6 => ?_)
        (try simp only [List.drop_succ_cons]); (try simp only [List.drop_zero]); (try simp only [Nat.reduceSub]); (try simp only [List.take_succ_cons]); (try simp only [List.take_zero])
        replace hBk := hBk.call hw6
        clear x0 x1 x2 x3 x4 x5 x6 x7 x8 x9 x10 x11 x12
        replace hbw := bl_call hbw (Nat.le_refl _) hw6
        replace hx := hx.call hw6
        obtain ⟨⟨x0, x1, x2, x3, x4, x5⟩, ⟨x6, x7, x8, x9, x10, x11⟩, x12⟩ := hx.get6
        have hzk : ∃ u v : Value, w6.cell? ⟨g, k * 2, none⟩ = some u ∧ w6.cell? ⟨g, k * 2 + 1, none⟩ = some v := by
          have hlen : k < (esK zs ++ List.replicate (n - k) ((0, 0) : E)).length := by
            rw [List.length_append, List.length_replicate, esK_length, HZ.out]
            omega
          obtain ⟨e1, e2⟩ := hBk.row k _ (List.getElem?_eq_getElem hlen)
          exact ⟨_, _, e1, e2⟩
        obtain ⟨u, v, z0, z1⟩ := hzk
        have fz0 := hBk.frozen (k * 2)
        have fz1 := hBk.frozen (k * 2 + 1)
        have HS : Hid ((esK zs ++ List.replicate (n - k) ((0, 0) : E)).set k (lo x, hi x) = esK (zs ++ [x]) ++ List.replicate (n - (k + 1)) (0, 0)) := fill_put zs n k HZ.out hlt x _ _ rfl
        have HBS := Lib.hid (hBk.set k (lo x) (hi x))
        clear hBk
        have hgw : w.heap.size ≤ g := by omega
        cases sm with
        | false =>
          go_wp2
          go_roundw
          case rel =>
            have h := HBS.out
            rw [HS.out] at h
            exact ⟨k + 1, zs ++ [x], (by rw [List.length_append, HZ.out]; rfl), by omega, by go_num, h, (hx.far (by dsimp only; omega) _).far (by dsimp only; omega) _, by repeat (first | exact Below.refl _ _ | with_reducible assumption | (refine bl_alloc ?_ (Nat.le_refl _) _) | (refine bl_set ?_ (by dsimp only; omega) _) | (refine Below.drew ?_) | (refine bl_drewN ?_ _) | (refine bl_call ?_ (Nat.le_refl _) (by assumption)))⟩
          case measure => simp [intOf]; omega
        | true =>
          obtain ⟨q, hq, hq2⟩ : ∃ q : Nat, lo x % 2 = (q : Int) ∧ q ≤ 1 := ⟨(lo x % 2).toNat, by omega, by omega⟩
          have hx0 := lo_0 x
          have hqm : (lo x).tmod 2 = (q : Int) := by rw [Int.tmod_eq_emod_of_nonneg hx0]; exact hq
          have hwq : IntKind.u64.wrap (q : Int) = (q : Int) := IntWalk.u64_in _ (by omega)
          go_upto_region 8 with fail
          clear x0 x1 x2 x3 x4 x5 x6 x7 x8 x9 x10 x11 x12
          have hB2 := HBS.out
          have hx2 := (hx.far (p := ⟨g, k * 2, none⟩) (by dsimp only; omega) (.int .u64 (lo x))).far (p := ⟨g, k * 2 + 1, none⟩) (by dsimp only; omega) (.int .u64 (hi x))
          have hbw2 := bl_set (p := ⟨g, k * 2 + 1, none⟩) (bl_set (p := ⟨g, k * 2, none⟩) hbw hgw (.int .u64 (lo x))) hgw (.int .u64 (hi x))
          clear hx hbw HBS z0 z1 fz0 fz1 hw6
          generalize (w6.setCell ⟨g, k * 2, none⟩ (.int .u64 (lo x))).setCell ⟨g, k * 2 + 1, none⟩ (.int .u64 (hi x)) = w7 at hB2 hx2 hbw2 ⊢
          rw [HS.out] at hB2
          have hzx : (esK (zs ++ [x]) ++ List.replicate (n - (k + 1)) ((0, 0) : E))[k]? = some (lo x, hi x) := by
            rw [← HS.out, List.getElem?_set_self]
            · rw [List.length_append, List.length_replicate, esK_length, HZ.out]
              omega
          obtain ⟨z0, z1⟩ := hB2.row k _ hzx
          have fz0 := hB2.frozen (k * 2)
          have fz1 := hB2.frozen (k * 2 + 1)
          have HB3 : Hid (BlkE ((w7.setCell ⟨g, k * 2, none⟩ (.int .u64 q)).setCell ⟨g, k * 2 + 1, none⟩ (.int .u64 0)) g (esK (zs ++ [nK f q]) ++ List.replicate (n - (k + 1)) (0, 0))) := by
            have h := hB2.set k (q : Int) 0
            rw [← HS.out, List.set_set, fill_put zs n k HZ.out hlt (nK f q) _ _ (eK_nK hf (by omega))] at h
            exact h
          clear hB2 hzx
          dsimp only at z0 z1
          go_wp2
          go_roundw
          case rel => exact ⟨k + 1, zs ++ [nK f q], (by rw [List.length_append, HZ.out]; rfl), by omega, by go_num, HB3.out, (hx2.far (by dsimp only; omega) _).far (by dsimp only; omega) _, by repeat (first | exact Below.refl _ _ | with_reducible assumption | (refine bl_alloc ?_ (Nat.le_refl _) _) | (refine bl_set ?_ (by dsimp only; omega) _) | (refine Below.drew ?_) | (refine bl_drewN ?_ _) | (refine bl_call ?_ (Nat.le_refl _) (by assumption)))⟩
          case measure => simp [intOf]; omega
    · obtain rfl : k = n := by omega
      rw [Nat.sub_self, List.replicate_zero, List.append_nil] at hBk
      go_wp2
      go_ret
      exact ⟨g, zs, HZ.out, rfl, hBk, by omega, hbw⟩
end

end Go.Proofs.Ytiphahbeedeebaa

namespace Go.Proofs.Ytiphahbeedeebaa
open Go.RowKit Fm
set_option linter.unusedVariables false
set_option maxRecDepth 100000

set_option maxHeartbeats 1000000 in
theorem circuit_Valid_size (K G B N M C : Int) (n : Nat) (A : Option Addr) (len cp : Nat) (w : World) (hnl : ¬ len = n)
    (HC : Hid (∀ wz, Calls Try.prog 59 #[.agg #[.int .u8 K, .int .u8 G, .int .i64 B, .int .i64 N, .int .i64 M, .int .i64 C]] wz (RetC 0 wz)))
    (HI : Hid (∀ wz, Calls Try.prog 45 #[.agg #[.int .u8 K, .int .u8 G, .int .i64 B, .int .i64 N, .int .i64 M, .int .i64 C]] wz (RetI n wz))) :
    Calls Try.prog 42 #[.agg #[.int .u8 K, .int .u8 G, .int .i64 B, .int .i64 N, .int .i64 M, .int .i64 C], .slice A len cp] w fun e w' => e = .returned (.bool false) ∧ Below w.heap.size w w' := by
  have hb00 : Below w.heap.size w w := Below.refl _ _
  go_enter Try.func42, Try.ntmps42
  go_upto_region 1 with fail
  have hx := Vs.new w [.int .u8 K, .int .u8 G, .int .i64 B, .int .i64 N, .int .i64 M, .int .i64 C] #[.int .u8 K, .int .u8 G, .int .i64 B, .int .i64 N, .int .i64 M, .int .i64 C] 60 rfl
  have hbA : Below w.heap.size w (w.alloc (.cells #[.int .u8 K, .int .u8 G, .int .i64 B, .int .i64 N, .int .i64 M, .int .i64 C] 60)) := by repeat (first | exact Below.refl _ _ | with_reducible assumption | (refine bl_alloc ?_ (Nat.le_refl _) _))
  replace hb00 := bl_call hb00 (Nat.le_refl _) hbA
  clear hbA
  generalize w.alloc (.cells #[.int .u8 K, .int .u8 G, .int .i64 B, .int .i64 N, .int .i64 M, .int .i64 C] 60) = w1 at hb00 hx ⊢
  obtain ⟨⟨x0, x1, x2, x3, x4, x5⟩, ⟨x6, x7, x8, x9, x10, x11⟩, x12⟩ := hx.get6
  go_wp2_with (first
    | (go_at_call 59; refine (HC.out _).mono ?_; rintro e w2 ⟨rfl, hb2⟩; replace hb00 := bl_call hb00 (Nat.le_refl _) hb2; replace hx := hx.call hb2; obtain ⟨⟨x0, x1, x2, x3, x4, x5⟩, ⟨x6, x7, x8, x9, x10, x11⟩, x12⟩ := hx.get6)
    | (go_at_call 45; refine (HI.out _).mono ?_; rintro e w3 ⟨rfl, hb3⟩; replace hb00 := bl_call hb00 (Nat.le_refl _) hb3; replace hx := hx.call hb3; obtain ⟨⟨x0, x1, x2, x3, x4, x5⟩, ⟨x6, x7, x8, x9, x10, x11⟩, x12⟩ := hx.get6))
  go_ret
  exact ⟨rfl, hb00⟩

theorem test_is {p : Prop} {w : World} {e : Ending} {w' : World} {b : Bool} (h : RetTest p w e w') (hb : b = true ↔ p) : e = .returned (.bool b) ∧ Below w.heap.size w w' := by
  obtain ⟨⟨c, rfl, hc⟩, hw⟩ := h
  have : c = b := by
    cases c <;> cases b <;> simp_all
  exact ⟨by rw [this], hw⟩

set_option maxHeartbeats 4000000 in
theorem walk_CircuitValid (k f b l m c : Int) (vl vr : Value) (xs rs : List E) (sm : Bool) (w : World) (hk : 0 ≤ k ∧ k ≤ 255) (hf : 0 ≤ f ∧ f ≤ 255) (hb : 0 ≤ b ∧ b ≤ 255) (hl : 0 ≤ l ∧ l ≤ 255) (hm : 0 ≤ m ∧ m ≤ 255) (hc : 0 ≤ c ∧ c ≤ 255)
    (hxs : SlE w w.heap.size vl xs) (hrs : SlE w w.heap.size vr rs) :
    Calls Try.prog 9 #[.agg #[.int .u8 k, .int .u8 f, .int .u8 b, .int .u8 l, .int .u8 m, .int .u8 c], vl, vr, .bool sm] w fun e w' => e = .returned (.bool true) ∧ Below w.heap.size w w' := by
  obtain ⟨F, y, hF, hy, hCIR⟩ := law10_Circuit k f b l m c hk.1 hk.2 hf.1 hf.2 hb.1 hb.2 hl.1 hl.2 hm.1 hm.2 hc.1 hc.2
  have hyk := y.k_le
  have hFF := hF.or
  have HCIR := Lib.hid hCIR
  have HAW := Lib.hid law10_Awake
  have HC : Hid (∀ wz, Calls Try.prog 59 #[y.val F] wz (RetC 0 wz)) := by
    intro wz
    have h := circuit_Check_ok hF y hy.ok wz
    rwa [CK.code_ok hy.calls] at h
  have HIN := Lib.hid (fun wz => circuit_In F y hy.ok wz)
  have HREF : Hid (∀ wz, Calls Try.prog 39 #[y.val F] wz fun e w' => e = .returned (y.rval F) ∧ Below wz.heap.size wz w') :=
    fun wz => law10_Ref y.k F y.b y.l y.m y.c (by omega) (by omega) (by omega) (by omega) wz
  have HXS := Lib.hid hxs
  have HRS := Lib.hid hrs
  have HVEC : Hid (∀ wz, Below w.heap.size w wz → xs.length ≤ 60 → Calls Try.prog 44 #[y.val F, vl, .bool sm] wz (RetV F y.nin wz)) :=
    fun wz hb h60 => law10_Vector hF y hy.ok vl xs sm wz ((hxs.below hb).mono hb.size) h60
  have HTR : Hid (∀ wz v (ys : List E), SlE wz wz.heap.size v ys → ys.length = y.nin → Calls Try.prog 41 #[y.val F, v] wz (RetSE (truncE F y ys) wz)) :=
    fun wz v ys hs hn => circuit_Truncate hF y hy.ok hy.calls v ys wz hs hn
  have HRT : Hid (∀ wz v (zs : KL F), SlK wz wz.heap.size v zs → zs.length = y.nin → Calls Try.prog 47 #[y.rval F, v] wz (RetS1 (truncE F y (esK zs)) wz)) :=
    fun wz v zs hs hn => ref9_Truncate hF y hy.ok v zs wz hs hn
  have HVAL : Hid (∀ wz v (zs : KL F) (t : Bool), SlK wz wz.heap.size v zs → zs.length = y.nin → (t = true ↔ okVec y zs) → Calls Try.prog 42 #[y.val F, v] wz fun e w' => e = .returned (.bool t) ∧ Below wz.heap.size wz w') :=
    fun wz v zs t hs hn ht => (circuit_Valid hF y hy.ok hy.calls v zs wz hs hn).mono fun _ _ h => test_is h ht
  have HRVAL : Hid (∀ wz v (zs : KL F) (t : Bool), SlK wz wz.heap.size v zs → zs.length = y.nin → (t = true ↔ okVec y zs) → Calls Try.prog 46 #[y.rval F, v] wz fun e w' => e = .returned (.bool t) ∧ Below wz.heap.size wz w') :=
    fun wz v zs t hs hn ht => (ref9_Valid hF y hy.ok hy.calls v zs wz hs hn).mono fun _ _ h => test_is h ht
  have HSZ : Hid (∀ wz A len cp, ¬ len = y.nin → Calls Try.prog 41 #[y.val F, .slice A len cp] wz (RetNil 9 wz)) :=
    fun wz A len cp hn => circuit_Truncate_size y.k y.b y.l y.m y.c y.nin A len cp wz hn HC HIN
  have HVZ : Hid (∀ wz A len cp, ¬ len = y.nin → Calls Try.prog 42 #[y.val F, .slice A len cp] wz fun e w' => e = .returned (.bool false) ∧ Below wz.heap.size wz w') :=
    fun wz A len cp hn => circuit_Valid_size y.k F y.b y.l y.m y.c y.nin A len cp wz hn HC HIN
  have hnin := CK.nin_le hy.ok
  have hnin1 := CK.nin_pos hy.ok
  have HYT : Hid (∀ zs : KL F, ∃ t : Bool, t = true ↔ okVec y zs) := fun zs => by
    by_cases h : okVec y zs
    · exact ⟨true, by simp [h]⟩
    · exact ⟨false, by simp [h]⟩
  unfold CK.val at HCIR HIN HREF HVEC HTR HVAL HSZ HVZ
  unfold CK.rval at HREF HRT HRVAL
  clear hCIR hyk hFF HC
  obtain ⟨⟨A1, c1, rfl, hc1, hm1, _⟩, _⟩ := hxs
  obtain ⟨⟨A2, c2, rfl, hc2, hm2, _⟩, _⟩ := hrs
  generalize ((y.k : Nat) : Int) = yk at *
  generalize ((y.b : Nat) : Int) = yb at *
  generalize ((y.l : Nat) : Int) = yl at *
  generalize ((y.m : Nat) : Int) = ym at *
  generalize ((y.c : Nat) : Int) = yc at *
  clear hF hy
  have hb00 : Below w.heap.size w w := Below.refl _ _
  go_enter Try.func9, Try.ntmps9
  go_upto_region 1 with fail
  have hs := Vs.new w [.int .u8 k, .int .u8 f, .int .u8 b, .int .u8 l, .int .u8 m, .int .u8 c] #[.int .u8 k, .int .u8 f, .int .u8 b, .int .u8 l, .int .u8 m, .int .u8 c] 62 rfl
  have hbA : Below w.heap.size w (w.alloc (.cells #[.int .u8 k, .int .u8 f, .int .u8 b, .int .u8 l, .int .u8 m, .int .u8 c] 62)) := by repeat (first | exact Below.refl _ _ | with_reducible assumption | (refine bl_alloc ?_ (Nat.le_refl _) _))
  replace hb00 := bl_call hb00 (Nat.le_refl _) hbA
  clear hbA
  generalize w.alloc (.cells #[.int .u8 k, .int .u8 f, .int .u8 b, .int .u8 l, .int .u8 m, .int .u8 c] 62) = w1 at hb00 hs ⊢
  by_cases h60 : 60 < xs.length
  · skip
    go_wp2_with (first
      | (go_at_call 35; refine (HAW.out _).mono ?_; rintro e w2 ⟨rfl, hb2⟩; replace hb00 := bl_call hb00 (Nat.le_refl _) hb2; replace hs := hs.call hb2))
    go_ret
    exact ⟨rfl, hb00⟩
  by_cases h61 : 60 < rs.length
  · skip
    go_wp2_with (first
      | (go_at_call 35; refine (HAW.out _).mono ?_; rintro e w2 ⟨rfl, hb2⟩; replace hb00 := bl_call hb00 (Nat.le_refl _) hb2; replace hs := hs.call hb2))
    go_ret
    exact ⟨rfl, hb00⟩
  obtain ⟨⟨s0, s1, s2, s3, s4, s5⟩, ⟨s6, s7, s8, s9, s10, s11⟩, s12⟩ := hs.get6
  go_upto_region 6 with (first
    | (go_at_call 35; refine (HAW.out _).mono ?_; rintro e w2 ⟨rfl, hb2⟩; replace hb00 := bl_call hb00 (Nat.le_refl _) hb2; replace hs := hs.call hb2; clear s0 s1 s2 s3 s4 s5 s6 s7 s8 s9 s10 s11 s12; clear hb2; obtain ⟨⟨s0, s1, s2, s3, s4, s5⟩, ⟨s6, s7, s8, s9, s10, s11⟩, s12⟩ := hs.get6)
    | (go_at_call 36; refine (HCIR.out _).mono ?_; rintro e w3 ⟨rfl, hb3⟩; replace hb00 := bl_call hb00 (Nat.le_refl _) hb3; replace hs := hs.call hb3; clear s0 s1 s2 s3 s4 s5 s6 s7 s8 s9 s10 s11 s12; clear hb3; obtain ⟨⟨s0, s1, s2, s3, s4, s5⟩, ⟨s6, s7, s8, s9, s10, s11⟩, s12⟩ := hs.get6))
  clear s0 s1 s2 s3 s4 s5 s6 s7 s8 s9 s10 s11 s12
  have hz3 := hb00.size
  have hx := Vs.new w3 [.int .u8 yk, .int .u8 F, .int .i64 yb, .int .i64 yl, .int .i64 ym, .int .i64 yc] #[.int .u8 yk, .int .u8 F, .int .i64 yb, .int .i64 yl, .int .i64 ym, .int .i64 yc] 60 rfl
  have hbA : Below w3.heap.size w3 (w3.alloc (.cells #[.int .u8 yk, .int .u8 F, .int .i64 yb, .int .i64 yl, .int .i64 ym, .int .i64 yc] 60)) := by repeat (first | exact Below.refl _ _ | with_reducible assumption | (refine bl_alloc ?_ (Nat.le_refl _) _))
  replace hb00 := bl_call hb00 (Nat.le_refl _) hbA
  replace hs := hs.call hbA
  clear hbA
  generalize w3.alloc (.cells #[.int .u8 yk, .int .u8 F, .int .i64 yb, .int .i64 yl, .int .i64 ym, .int .i64 yc] 60) = w4 at hb00 hs hx ⊢
  obtain ⟨⟨x0, x1, x2, x3, x4, x5⟩, ⟨x6, x7, x8, x9, x10, x11⟩, x12⟩ := hx.get6
  have hxl : w3.heap.size < w4.heap.size := hx.lt
  go_wp2_with fail
  refine (HVEC.out _ hb00 (by omega)).mono ?_
  rintro e w5 ⟨g, zs, hzl, rfl, hBk, hg, hb5⟩
  clear x0 x1 x2 x3 x4 x5 x6 x7 x8 x9 x10 x11 x12
  replace hb00 := bl_call hb00 (Nat.le_refl _) hb5
  replace hs := hs.call hb5
  replace hx := hx.call hb5
  clear hb5
  obtain ⟨⟨x0, x1, x2, x3, x4, x5⟩, ⟨x6, x7, x8, x9, x10, x11⟩, x12⟩ := hx.get6
  have hsv : SlK w5 w5.heap.size (.slice (some ⟨g, 0, none⟩) y.nin y.nin) zs := by
    have h := hBk.slK (by omega) hBk.lt
    rwa [hzl] at h
  go_wp2_with fail
  refine (HTR.out _ _ _ hsv.toE (by rw [esK_length, hzl])).mono ?_
  rintro e w6 ⟨v1, rfl, hs1, hb6⟩
  clear x0 x1 x2 x3 x4 x5 x6 x7 x8 x9 x10 x11 x12
  replace hsv := hsv.later hb6
  replace hb00 := bl_call hb00 (Nat.le_refl _) hb6
  replace hs := hs.call hb6
  replace hx := hx.call hb6
  replace hBk := hBk.call hb6
  clear hb6
  obtain ⟨⟨x0, x1, x2, x3, x4, x5⟩, ⟨x6, x7, x8, x9, x10, x11⟩, x12⟩ := hx.get6
  obtain ⟨t, ht⟩ := HYT.out zs
  have HZL := Lib.hid hzl
  have HT := Lib.hid ht
  clear hzl ht
  by_cases hraw : rs.length = y.nin
  · have HRAW := Lib.hid hraw
    rw [← hraw] at HIN
    clear hraw
    go_wp2_with fail
    refine (HTR.out _ _ _ (HRS.out.later hb00) HRAW.out).mono ?_
    rintro e w7 ⟨v2, rfl, hs2, hb7⟩
    clear x0 x1 x2 x3 x4 x5 x6 x7 x8 x9 x10 x11 x12
    replace hsv := hsv.later hb7
    replace hs1 := hs1.later hb7
    replace hb00 := bl_call hb00 (Nat.le_refl _) hb7
    replace hs := hs.call hb7
    replace hx := hx.call hb7
    replace hBk := hBk.call hb7
    clear hb7
    obtain ⟨⟨x0, x1, x2, x3, x4, x5⟩, ⟨x6, x7, x8, x9, x10, x11⟩, x12⟩ := hx.get6
    go_upto_region 12 with (first
      | (go_at_call 45; refine (HIN.out _).mono ?_; rintro e w8 ⟨rfl, hb8⟩; replace hb00 := bl_call hb00 (Nat.le_refl _) hb8; replace hs := hs.call hb8; replace hx := hx.call hb8; replace hBk := hBk.call hb8; replace hsv := hsv.later hb8; replace hs1 := hs1.later hb8; clear x0 x1 x2 x3 x4 x5 x6 x7 x8 x9 x10 x11 x12; clear hb8; obtain ⟨⟨x0, x1, x2, x3, x4, x5⟩, ⟨x6, x7, x8, x9, x10, x11⟩, x12⟩ := hx.get6))
    refine region_G (n := 35) (m := 36) (f := 35) (by kernel_rfl) (by kernel_rfl) rfl ?_
    refine WpG.takeD 0 (some 49) (v := ?_) rfl rfl (by kernel_rfl) (fun _ _ _ h => h) (.val rfl (fun wz hwz => ?_)) ?_
    rotate_left
    · (obtain ⟨hcz, hfz⟩ := bcell (hwz); go_simp; try (with_reducible rfl))
    (simp only [Act.put]); (try simp only [List.setIfInBounds_toArray]); (try simp only [List.set_cons_succ]); (try simp only [List.set_cons_zero])
    refine WpG.takeD 1 (some 50) (v := ?_) rfl rfl (by kernel_rfl) (fun _ _ _ h => h) (.val rfl (fun wz hwz => ?_)) ?_
    rotate_left
    · go_simp; try (with_reducible rfl)
    (simp only [Act.put]); (try simp only [List.setIfInBounds_toArray]); (try simp only [List.set_cons_succ]); (try simp only [List.set_cons_zero])
    refine WpG.takeD 2 (some 51) rfl rfl (by kernel_rfl) (fun _ _ _ h => h) (.call rfl (fun wz hwz => HVAL.out wz _ zs t (hsv.later (hwz)) HZL.out HT.out) (fun wz hwz => ?_)) ?_
    · go_simp; try (with_reducible rfl)
    (simp only [Act.put]); (try simp only [List.setIfInBounds_toArray]); (try simp only [List.set_cons_succ]); (try simp only [List.set_cons_zero])
    refine WpG.takeD 3 (some 52) (v := ?_) rfl rfl (by kernel_rfl) (fun _ _ _ h => h) (.val rfl (fun wz hwz => ?_)) ?_
    rotate_left
    · (obtain ⟨hcz, hfz⟩ := bcell (hwz); go_simp; try (with_reducible rfl))
    (simp only [Act.put]); (try simp only [List.setIfInBounds_toArray]); (try simp only [List.set_cons_succ]); (try simp only [List.set_cons_zero])
    refine WpG.takeD 4 (some 53) rfl rfl (by kernel_rfl) (fun _ _ _ h => h) (.call rfl (fun wz hwz => HREF.out wz) (fun wz hwz => ?_)) ?_
    · go_simp; try (with_reducible rfl)
    (simp only [Act.put]); (try simp only [List.setIfInBounds_toArray]); (try simp only [List.set_cons_succ]); (try simp only [List.set_cons_zero])
    refine WpG.takeD 5 (some 54) (v := ?_) rfl rfl (by kernel_rfl) (fun _ _ _ h => h) (.val rfl (fun wz hwz => ?_)) ?_
    rotate_left
    · go_simp; try (with_reducible rfl)
    (simp only [Act.put]); (try simp only [List.setIfInBounds_toArray]); (try simp only [List.set_cons_succ]); (try simp only [List.set_cons_zero])
    refine WpG.takeD 6 (some 55) rfl rfl (by kernel_rfl) (fun _ _ _ h => h) (.call rfl (fun wz hwz => HRVAL.out wz _ zs t (hsv.later (hwz)) HZL.out HT.out) (fun wz hwz => ?_)) ?_
    · go_simp; try (with_reducible rfl)
    (simp only [Act.put]); (try simp only [List.setIfInBounds_toArray]); (try simp only [List.set_cons_succ]); (try simp only [List.set_cons_zero])
    refine WpG.takeD 7 (some 56) (v := ?_) rfl rfl (by kernel_rfl) (fun _ _ _ h => h) (.val rfl (fun wz hwz => ?_)) ?_
    rotate_left
    · go_simp; try (with_reducible rfl)
    (simp only [Act.put]); (try simp only [List.setIfInBounds_toArray]); (try simp only [List.set_cons_succ]); (try simp only [List.set_cons_zero])
    refine WpG.takeD 8 (some 57) (v := ?_) rfl rfl (by kernel_rfl) (fun _ _ _ h => h) (.val rfl (fun wz hwz => ?_)) ?_
    rotate_left
    · go_simp; try (with_reducible rfl)
    (simp only [Act.put]); (try simp only [List.setIfInBounds_toArray]); (try simp only [List.set_cons_succ]); (try simp only [List.set_cons_zero])
    refine WpG.takeD 9 (some 58) (v := ?_) rfl rfl (by kernel_rfl) (fun _ _ _ h => h) (.val rfl (fun wz hwz => ?_)) ?_
    rotate_left
    · go_simp; try (with_reducible rfl)
    (simp only [Act.put]); (try simp only [List.setIfInBounds_toArray]); (try simp only [List.set_cons_succ]); (try simp only [List.set_cons_zero])
    refine WpG.takeD 10 (some 59) (v := ?_) rfl rfl (by kernel_rfl) (fun _ _ _ h => h) (.val rfl (fun wz hwz => ?_)) ?_
    rotate_left
    · go_simp; try (with_reducible rfl)
    (simp only [Act.put]); (try simp only [List.setIfInBounds_toArray]); (try simp only [List.set_cons_succ]); (try simp only [List.set_cons_zero])
    refine WpG.takeD 11 (some 60) (v := ?_) rfl rfl (by kernel_rfl) (fun _ _ _ h => h) (.val rfl (fun wz hwz => ?_)) ?_
    rotate_left
    · go_simp; try (with_reducible rfl)
    (simp only [Act.put]); (try simp only [List.setIfInBounds_toArray]); (try simp only [List.set_cons_succ]); (try simp only [List.set_cons_zero])
    refine WpG.takeD 12 (some 61) (v := ?_) rfl rfl (by kernel_rfl) (fun _ _ _ h => h) (.val rfl (fun wz hwz => ?_)) ?_
    rotate_left
    · go_simp; try (with_reducible rfl)
    (simp only [Act.put]); (try simp only [List.setIfInBounds_toArray]); (try simp only [List.set_cons_succ]); (try simp only [List.set_cons_zero])
    refine WpG.takeD 13 (some 62) (v := ?_) rfl rfl (by kernel_rfl) (fun _ _ _ h => h) (.val rfl (fun wz hwz => ?_)) ?_
    rotate_left
    · go_simp; try (with_reducible rfl)
    (simp only [Act.put]); (try simp only [List.setIfInBounds_toArray]); (try simp only [List.set_cons_succ]); (try simp only [List.set_cons_zero])
    refine WpG.takeD 14 (some 63) (v := ?_) rfl rfl (by kernel_rfl) (fun _ _ _ h => h) (.val rfl (fun wz hwz => ?_)) ?_
    rotate_left
    · (obtain ⟨hcz, hfz⟩ := bcell (hwz); go_simp; try (with_reducible rfl))
    (simp only [Act.put]); (try simp only [List.setIfInBounds_toArray]); (try simp only [List.set_cons_succ]); (try simp only [List.set_cons_zero])
    refine WpG.takeD 15 (some 64) rfl rfl (by kernel_rfl) (fun _ _ _ h => h) (.call rfl (fun wz hwz => HREF.out wz) (fun wz hwz => ?_)) ?_
    · go_simp; try (with_reducible rfl)
    (simp only [Act.put]); (try simp only [List.setIfInBounds_toArray]); (try simp only [List.set_cons_succ]); (try simp only [List.set_cons_zero])
    refine WpG.takeD 16 (some 65) (v := ?_) rfl rfl (by kernel_rfl) (fun _ _ _ h => h) (.val rfl (fun wz hwz => ?_)) ?_
    rotate_left
    · go_simp; try (with_reducible rfl)
    (simp only [Act.put]); (try simp only [List.setIfInBounds_toArray]); (try simp only [List.set_cons_succ]); (try simp only [List.set_cons_zero])
    refine WpG.oneD 17 (some 66) rfl rfl (by kernel_rfl) (fun v : Value => v) (fun v wz => SlE wz wz.heap.size v (truncE F y (esK zs))) (fun _ _ _ h hb => h.later hb) (Fresh.call rfl (fun wz hwz => HRT.out wz _ zs (hsv.later (hwz)) HZL.out) (fun wz hwz => by go_simp; try (with_reducible rfl))) (fun vv w0 hw0 hR0 => ?_)
    (simp only [Act.put]); (try simp only [List.setIfInBounds_toArray]); (try simp only [List.set_cons_succ]); (try simp only [List.set_cons_zero])
    refine WpG.takeD 18 (some 67) rfl rfl (by kernel_rfl) (fun _ _ _ h => h) (.call rfl (fun wz hwz => ref_Same_eq _ _ _ _ wz (hs1.later (hwz.1)) hwz.2 rfl) (fun wz hwz => ?_)) ?_
    · go_simp; try (with_reducible rfl)
    (simp only [Act.put]); (try simp only [List.setIfInBounds_toArray]); (try simp only [List.set_cons_succ]); (try simp only [List.set_cons_zero])
    refine WpG.takeD 19 (some 68) (v := ?_) rfl rfl (by kernel_rfl) (fun _ _ _ h => h) (.val rfl (fun wz hwz => ?_)) ?_
    rotate_left
    · go_simp; try (with_reducible rfl)
    (simp only [Act.put]); (try simp only [List.setIfInBounds_toArray]); (try simp only [List.set_cons_succ]); (try simp only [List.set_cons_zero])
    refine WpG.takeD 20 (some 69) (v := ?_) rfl rfl (by kernel_rfl) (fun _ _ _ h => h) (.val rfl (fun wz hwz => ?_)) ?_
    rotate_left
    · go_simp; try (with_reducible rfl)
    (simp only [Act.put]); (try simp only [List.setIfInBounds_toArray]); (try simp only [List.set_cons_succ]); (try simp only [List.set_cons_zero])
    refine WpG.takeD 21 (some 70) (v := ?_) rfl rfl (by kernel_rfl) (fun _ _ _ h => h) (.val rfl (fun wz hwz => ?_)) ?_
    rotate_left
    · go_simp; try (with_reducible rfl)
    (simp only [Act.put]); (try simp only [List.setIfInBounds_toArray]); (try simp only [List.set_cons_succ]); (try simp only [List.set_cons_zero])
    refine WpG.takeD 22 (some 71) (v := ?_) rfl rfl (by kernel_rfl) (fun _ _ _ h => h) (.val rfl (fun wz hwz => ?_)) ?_
    rotate_left
    · go_simp; try (with_reducible rfl)
    (simp only [Act.put]); (try simp only [List.setIfInBounds_toArray]); (try simp only [List.set_cons_succ]); (try simp only [List.set_cons_zero])
    refine WpG.takeD 23 (some 72) (v := ?_) rfl rfl (by kernel_rfl) (fun _ _ _ h => h) (.val rfl (fun wz hwz => ?_)) ?_
    rotate_left
    · go_simp; try (with_reducible rfl)
    (simp only [Act.put]); (try simp only [List.setIfInBounds_toArray]); (try simp only [List.set_cons_succ]); (try simp only [List.set_cons_zero])
    refine WpG.takeD 24 (some 73) (v := ?_) rfl rfl (by kernel_rfl) (fun _ _ _ h => h) (.val rfl (fun wz hwz => ?_)) ?_
    rotate_left
    · go_simp; try (with_reducible rfl)
    (simp only [Act.put]); (try simp only [List.setIfInBounds_toArray]); (try simp only [List.set_cons_succ]); (try simp only [List.set_cons_zero])
    refine WpG.takeD 25 (some 74) (v := ?_) rfl rfl (by kernel_rfl) (fun _ _ _ h => h) (.val rfl (fun wz hwz => ?_)) ?_
    rotate_left
    · go_simp; try (with_reducible rfl)
    (simp only [Act.put]); (try simp only [List.setIfInBounds_toArray]); (try simp only [List.set_cons_succ]); (try simp only [List.set_cons_zero])
    refine WpG.takeD 26 (some 75) (v := ?_) rfl rfl (by kernel_rfl) (fun _ _ _ h => h) (.val rfl (fun wz hwz => ?_)) ?_
    rotate_left
    · go_simp; try (with_reducible rfl)
    (simp only [Act.put]); (try simp only [List.setIfInBounds_toArray]); (try simp only [List.set_cons_succ]); (try simp only [List.set_cons_zero])
    refine WpG.takeD 27 (some 76) (v := ?_) rfl rfl (by kernel_rfl) (fun _ _ _ h => h) (.val rfl (fun wz hwz => ?_)) ?_
    rotate_left
    · go_simp; try (with_reducible rfl)
    (simp only [Act.put]); (try simp only [List.setIfInBounds_toArray]); (try simp only [List.set_cons_succ]); (try simp only [List.set_cons_zero])
    refine WpG.takeD 28 (some 77) (v := ?_) rfl rfl (by kernel_rfl) (fun _ _ _ h => h) (.val rfl (fun wz hwz => ?_)) ?_
    rotate_left
    · go_simp; try (with_reducible rfl)
    (simp only [Act.put]); (try simp only [List.setIfInBounds_toArray]); (try simp only [List.set_cons_succ]); (try simp only [List.set_cons_zero])
    refine WpG.takeD 29 (some 78) rfl rfl (by kernel_rfl) (fun _ _ _ h => h) (.skip rfl) ?_
    (simp only [Act.put]); (try simp only [List.setIfInBounds_toArray]); (try simp only [List.set_cons_succ]); (try simp only [List.set_cons_zero])
    refine WpG.takeD 30 (some 79) rfl rfl (by kernel_rfl) (fun _ _ _ h => h) (.skip rfl) ?_
    (simp only [Act.put]); (try simp only [List.setIfInBounds_toArray]); (try simp only [List.set_cons_succ]); (try simp only [List.set_cons_zero])
    refine WpG.takeD 31 (some 80) rfl rfl (by kernel_rfl) (fun _ _ _ h => h) (.skip rfl) ?_
    (simp only [Act.put]); (try simp only [List.setIfInBounds_toArray]); (try simp only [List.set_cons_succ]); (try simp only [List.set_cons_zero])
    refine WpG.takeD 32 (some 81) rfl rfl (by kernel_rfl) (fun _ _ _ h => h) (.skip rfl) ?_
    (simp only [Act.put]); (try simp only [List.setIfInBounds_toArray]); (try simp only [List.set_cons_succ]); (try simp only [List.set_cons_zero])
    refine WpG.takeD 33 (some 82) (v := ?_) rfl rfl (by kernel_rfl) (fun _ _ _ h => h) (.val rfl (fun wz hwz => ?_)) ?_
    rotate_left
    · go_simp; try (with_reducible rfl)
    (simp only [Act.put]); (try simp only [List.setIfInBounds_toArray]); (try simp only [List.set_cons_succ]); (try simp only [List.set_cons_zero])
    refine WpG.takeD 34 (some 83) (v := ?_) rfl rfl (by kernel_rfl) (fun _ _ _ h => h) (.val rfl (fun wz hwz => ?_)) ?_
    rotate_left
    · go_simp; try (with_reducible rfl)
    (simp only [Act.put]); (try simp only [List.setIfInBounds_toArray]); (try simp only [List.set_cons_succ]); (try simp only [List.set_cons_zero])
    refine WpG.done (by kernel_rfl) (fun w9 hS => ?_)
    (try simp only [List.drop_succ_cons]); (try simp only [List.drop_zero]); (try simp only [Nat.reduceSub]); (try simp only [List.take_succ_cons]); (try simp only [List.take_zero])
    replace hb00 := bl_call hb00 (Nat.le_refl _) hS.1
    go_wp2_with fail
    go_ret
    exact ⟨rfl, hb00⟩
  · have HRAW := Lib.hid hraw
    have hne := hraw
    go_wp2_with fail
    refine (HSZ.out _ _ _ _ HRAW.out).mono ?_
    rintro e w7 ⟨rfl, hb7⟩
    clear x0 x1 x2 x3 x4 x5 x6 x7 x8 x9 x10 x11 x12
    replace hsv := hsv.later hb7
    replace hs1 := hs1.later hb7
    replace hb00 := bl_call hb00 (Nat.le_refl _) hb7
    replace hs := hs.call hb7
    replace hx := hx.call hb7
    replace hBk := hBk.call hb7
    clear hb7
    obtain ⟨⟨x0, x1, x2, x3, x4, x5⟩, ⟨x6, x7, x8, x9, x10, x11⟩, x12⟩ := hx.get6
    go_upto_region 12 with (first
      | (go_at_call 45; refine (HIN.out _).mono ?_; rintro e w8 ⟨rfl, hb8⟩; replace hb00 := bl_call hb00 (Nat.le_refl _) hb8; replace hs := hs.call hb8; replace hx := hx.call hb8; replace hBk := hBk.call hb8; replace hsv := hsv.later hb8; replace hs1 := hs1.later hb8; clear x0 x1 x2 x3 x4 x5 x6 x7 x8 x9 x10 x11 x12; clear hb8; obtain ⟨⟨x0, x1, x2, x3, x4, x5⟩, ⟨x6, x7, x8, x9, x10, x11⟩, x12⟩ := hx.get6))
    refine region_G (n := 35) (m := 36) (f := 35) (by kernel_rfl) (by kernel_rfl) rfl ?_
    refine WpG.takeD 0 (some 49) (v := ?_) rfl rfl (by kernel_rfl) (fun _ _ _ h => h) (.val rfl (fun wz hwz => ?_)) ?_
    rotate_left
    · (obtain ⟨hcz, hfz⟩ := bcell (hwz); go_simp; try (with_reducible rfl))
    (simp only [Act.put]); (try simp only [List.setIfInBounds_toArray]); (try simp only [List.set_cons_succ]); (try simp only [List.set_cons_zero])
    refine WpG.takeD 1 (some 50) (v := ?_) rfl rfl (by kernel_rfl) (fun _ _ _ h => h) (.val rfl (fun wz hwz => ?_)) ?_
    rotate_left
    · go_simp; try (with_reducible rfl)
    (simp only [Act.put]); (try simp only [List.setIfInBounds_toArray]); (try simp only [List.set_cons_succ]); (try simp only [List.set_cons_zero])
    refine WpG.takeD 2 (some 51) rfl rfl (by kernel_rfl) (fun _ _ _ h => h) (.call rfl (fun wz hwz => HVAL.out wz _ zs t (hsv.later (hwz)) HZL.out HT.out) (fun wz hwz => ?_)) ?_
    · go_simp; try (with_reducible rfl)
    (simp only [Act.put]); (try simp only [List.setIfInBounds_toArray]); (try simp only [List.set_cons_succ]); (try simp only [List.set_cons_zero])
    refine WpG.takeD 3 (some 52) (v := ?_) rfl rfl (by kernel_rfl) (fun _ _ _ h => h) (.val rfl (fun wz hwz => ?_)) ?_
    rotate_left
    · (obtain ⟨hcz, hfz⟩ := bcell (hwz); go_simp; try (with_reducible rfl))
    (simp only [Act.put]); (try simp only [List.setIfInBounds_toArray]); (try simp only [List.set_cons_succ]); (try simp only [List.set_cons_zero])
    refine WpG.takeD 4 (some 53) rfl rfl (by kernel_rfl) (fun _ _ _ h => h) (.call rfl (fun wz hwz => HREF.out wz) (fun wz hwz => ?_)) ?_
    · go_simp; try (with_reducible rfl)
    (simp only [Act.put]); (try simp only [List.setIfInBounds_toArray]); (try simp only [List.set_cons_succ]); (try simp only [List.set_cons_zero])
    refine WpG.takeD 5 (some 54) (v := ?_) rfl rfl (by kernel_rfl) (fun _ _ _ h => h) (.val rfl (fun wz hwz => ?_)) ?_
    rotate_left
    · go_simp; try (with_reducible rfl)
    (simp only [Act.put]); (try simp only [List.setIfInBounds_toArray]); (try simp only [List.set_cons_succ]); (try simp only [List.set_cons_zero])
    refine WpG.takeD 6 (some 55) rfl rfl (by kernel_rfl) (fun _ _ _ h => h) (.call rfl (fun wz hwz => HRVAL.out wz _ zs t (hsv.later (hwz)) HZL.out HT.out) (fun wz hwz => ?_)) ?_
    · go_simp; try (with_reducible rfl)
    (simp only [Act.put]); (try simp only [List.setIfInBounds_toArray]); (try simp only [List.set_cons_succ]); (try simp only [List.set_cons_zero])
    refine WpG.takeD 7 (some 56) (v := ?_) rfl rfl (by kernel_rfl) (fun _ _ _ h => h) (.val rfl (fun wz hwz => ?_)) ?_
    rotate_left
    · go_simp; try (with_reducible rfl)
    (simp only [Act.put]); (try simp only [List.setIfInBounds_toArray]); (try simp only [List.set_cons_succ]); (try simp only [List.set_cons_zero])
    refine WpG.takeD 8 (some 57) (v := ?_) rfl rfl (by kernel_rfl) (fun _ _ _ h => h) (.val rfl (fun wz hwz => ?_)) ?_
    rotate_left
    · go_simp; try (with_reducible rfl)
    (simp only [Act.put]); (try simp only [List.setIfInBounds_toArray]); (try simp only [List.set_cons_succ]); (try simp only [List.set_cons_zero])
    refine WpG.takeD 9 (some 58) (v := ?_) rfl rfl (by kernel_rfl) (fun _ _ _ h => h) (.val rfl (fun wz hwz => ?_)) ?_
    rotate_left
    · go_simp; try (with_reducible rfl)
    (simp only [Act.put]); (try simp only [List.setIfInBounds_toArray]); (try simp only [List.set_cons_succ]); (try simp only [List.set_cons_zero])
    refine WpG.takeD 10 (some 59) (v := ?_) rfl rfl (by kernel_rfl) (fun _ _ _ h => h) (.val rfl (fun wz hwz => ?_)) ?_
    rotate_left
    · go_simp; try (with_reducible rfl)
    (simp only [Act.put]); (try simp only [List.setIfInBounds_toArray]); (try simp only [List.set_cons_succ]); (try simp only [List.set_cons_zero])
    refine WpG.takeD 11 (some 60) (v := ?_) rfl rfl (by kernel_rfl) (fun _ _ _ h => h) (.val rfl (fun wz hwz => ?_)) ?_
    rotate_left
    · go_simp; try (with_reducible rfl)
    (simp only [Act.put]); (try simp only [List.setIfInBounds_toArray]); (try simp only [List.set_cons_succ]); (try simp only [List.set_cons_zero])
    refine WpG.takeD 12 (some 61) (v := ?_) rfl rfl (by kernel_rfl) (fun _ _ _ h => h) (.val rfl (fun wz hwz => ?_)) ?_
    rotate_left
    · go_simp; try (with_reducible rfl)
    (simp only [Act.put]); (try simp only [List.setIfInBounds_toArray]); (try simp only [List.set_cons_succ]); (try simp only [List.set_cons_zero])
    refine WpG.takeD 13 (some 62) (v := ?_) rfl rfl (by kernel_rfl) (fun _ _ _ h => h) (.val rfl (fun wz hwz => ?_)) ?_
    rotate_left
    · go_simp; try (with_reducible rfl)
    (simp only [Act.put]); (try simp only [List.setIfInBounds_toArray]); (try simp only [List.set_cons_succ]); (try simp only [List.set_cons_zero])
    refine WpG.takeD 14 (some 63) (v := ?_) rfl rfl (by kernel_rfl) (fun _ _ _ h => h) (.val rfl (fun wz hwz => ?_)) ?_
    rotate_left
    · (obtain ⟨hcz, hfz⟩ := bcell (hwz); go_simp; try (with_reducible rfl))
    (simp only [Act.put]); (try simp only [List.setIfInBounds_toArray]); (try simp only [List.set_cons_succ]); (try simp only [List.set_cons_zero])
    refine WpG.takeD 15 (some 64) rfl rfl (by kernel_rfl) (fun _ _ _ h => h) (.call rfl (fun wz hwz => HREF.out wz) (fun wz hwz => ?_)) ?_
    · go_simp; try (with_reducible rfl)
    (simp only [Act.put]); (try simp only [List.setIfInBounds_toArray]); (try simp only [List.set_cons_succ]); (try simp only [List.set_cons_zero])
    refine WpG.takeD 16 (some 65) (v := ?_) rfl rfl (by kernel_rfl) (fun _ _ _ h => h) (.val rfl (fun wz hwz => ?_)) ?_
    rotate_left
    · go_simp; try (with_reducible rfl)
    (simp only [Act.put]); (try simp only [List.setIfInBounds_toArray]); (try simp only [List.set_cons_succ]); (try simp only [List.set_cons_zero])
    refine WpG.oneD 17 (some 66) rfl rfl (by kernel_rfl) (fun v : Value => v) (fun v wz => SlE wz wz.heap.size v (truncE F y (esK zs))) (fun _ _ _ h hb => h.later hb) (Fresh.call rfl (fun wz hwz => HRT.out wz _ zs (hsv.later (hwz)) HZL.out) (fun wz hwz => by go_simp; try (with_reducible rfl))) (fun vv w0 hw0 hR0 => ?_)
    (simp only [Act.put]); (try simp only [List.setIfInBounds_toArray]); (try simp only [List.set_cons_succ]); (try simp only [List.set_cons_zero])
    refine WpG.takeD 18 (some 67) rfl rfl (by kernel_rfl) (fun _ _ _ h => h) (.call rfl (fun wz hwz => ref_Same_eq _ _ _ _ wz (hs1.later (hwz.1)) hwz.2 rfl) (fun wz hwz => ?_)) ?_
    · go_simp; try (with_reducible rfl)
    (simp only [Act.put]); (try simp only [List.setIfInBounds_toArray]); (try simp only [List.set_cons_succ]); (try simp only [List.set_cons_zero])
    refine WpG.takeD 19 (some 68) (v := ?_) rfl rfl (by kernel_rfl) (fun _ _ _ h => h) (.val rfl (fun wz hwz => ?_)) ?_
    rotate_left
    · go_simp; try (with_reducible rfl)
    (simp only [Act.put]); (try simp only [List.setIfInBounds_toArray]); (try simp only [List.set_cons_succ]); (try simp only [List.set_cons_zero])
    refine WpG.takeD 20 (some 69) (v := ?_) rfl rfl (by kernel_rfl) (fun _ _ _ h => h) (.val rfl (fun wz hwz => ?_)) ?_
    rotate_left
    · go_simp; try (with_reducible rfl)
    (simp only [Act.put]); (try simp only [List.setIfInBounds_toArray]); (try simp only [List.set_cons_succ]); (try simp only [List.set_cons_zero])
    refine WpG.takeD 21 (some 70) (v := ?_) rfl rfl (by kernel_rfl) (fun _ _ _ h => h) (.val rfl (fun wz hwz => ?_)) ?_
    rotate_left
    · go_simp; try (with_reducible rfl)
    (simp only [Act.put]); (try simp only [List.setIfInBounds_toArray]); (try simp only [List.set_cons_succ]); (try simp only [List.set_cons_zero])
    refine WpG.takeD 22 (some 71) (v := ?_) rfl rfl (by kernel_rfl) (fun _ _ _ h => h) (.val rfl (fun wz hwz => ?_)) ?_
    rotate_left
    · go_simp; try (with_reducible rfl)
    (simp only [Act.put]); (try simp only [List.setIfInBounds_toArray]); (try simp only [List.set_cons_succ]); (try simp only [List.set_cons_zero])
    refine WpG.takeD 23 (some 72) (v := ?_) rfl rfl (by kernel_rfl) (fun _ _ _ h => h) (.val rfl (fun wz hwz => ?_)) ?_
    rotate_left
    · go_simp; try (with_reducible rfl)
    (simp only [Act.put]); (try simp only [List.setIfInBounds_toArray]); (try simp only [List.set_cons_succ]); (try simp only [List.set_cons_zero])
    refine WpG.takeD 24 (some 73) (v := ?_) rfl rfl (by kernel_rfl) (fun _ _ _ h => h) (.val rfl (fun wz hwz => ?_)) ?_
    rotate_left
    · go_simp; try (with_reducible rfl)
    (simp only [Act.put]); (try simp only [List.setIfInBounds_toArray]); (try simp only [List.set_cons_succ]); (try simp only [List.set_cons_zero])
    refine WpG.takeD 25 (some 74) (v := ?_) rfl rfl (by kernel_rfl) (fun _ _ _ h => h) (.val rfl (fun wz hwz => ?_)) ?_
    rotate_left
    · go_simp; try (with_reducible rfl)
    (simp only [Act.put]); (try simp only [List.setIfInBounds_toArray]); (try simp only [List.set_cons_succ]); (try simp only [List.set_cons_zero])
    refine WpG.takeD 26 (some 75) (v := ?_) rfl rfl (by kernel_rfl) (fun _ _ _ h => h) (.val rfl (fun wz hwz => ?_)) ?_
    rotate_left
    · go_simp; try (with_reducible rfl)
    (simp only [Act.put]); (try simp only [List.setIfInBounds_toArray]); (try simp only [List.set_cons_succ]); (try simp only [List.set_cons_zero])
    refine WpG.takeD 27 (some 76) (v := ?_) rfl rfl (by kernel_rfl) (fun _ _ _ h => h) (.val rfl (fun wz hwz => ?_)) ?_
    rotate_left
    · go_simp; try (with_reducible rfl)
    (simp only [Act.put]); (try simp only [List.setIfInBounds_toArray]); (try simp only [List.set_cons_succ]); (try simp only [List.set_cons_zero])
    refine WpG.takeD 28 (some 77) (v := ?_) rfl rfl (by kernel_rfl) (fun _ _ _ h => h) (.val rfl (fun wz hwz => ?_)) ?_
    rotate_left
    · go_simp; try (with_reducible rfl)
    (simp only [Act.put]); (try simp only [List.setIfInBounds_toArray]); (try simp only [List.set_cons_succ]); (try simp only [List.set_cons_zero])
    refine WpG.takeD 29 (some 78) (v := ?_) rfl rfl (by kernel_rfl) (fun _ _ _ h => h) (.val rfl (fun wz hwz => ?_)) ?_
    rotate_left
    · (obtain ⟨hcz, hfz⟩ := bcell (hwz.1); go_simp; try (with_reducible rfl))
    (simp only [Act.put]); (try simp only [List.setIfInBounds_toArray]); (try simp only [List.set_cons_succ]); (try simp only [List.set_cons_zero])
    refine WpG.takeD 30 (some 79) (v := ?_) rfl rfl (by kernel_rfl) (fun _ _ _ h => h) (.val rfl (fun wz hwz => ?_)) ?_
    rotate_left
    · go_simp; try (with_reducible rfl)
    (simp only [Act.put]); (try simp only [List.setIfInBounds_toArray]); (try simp only [List.set_cons_succ]); (try simp only [List.set_cons_zero])
    refine WpG.takeD 31 (some 80) rfl rfl (by kernel_rfl) (fun _ _ _ h => h) (.call rfl (fun wz hwz => HVZ.out wz A2 rs.length c2 HRAW.out) (fun wz hwz => ?_)) ?_
    · go_simp; try (with_reducible rfl)
    (simp only [Act.put]); (try simp only [List.setIfInBounds_toArray]); (try simp only [List.set_cons_succ]); (try simp only [List.set_cons_zero])
    refine WpG.takeD 32 (some 81) (v := ?_) rfl rfl (by kernel_rfl) (fun _ _ _ h => h) (.val rfl (fun wz hwz => ?_)) ?_
    rotate_left
    · go_simp; try (with_reducible rfl)
    (simp only [Act.put]); (try simp only [List.setIfInBounds_toArray]); (try simp only [List.set_cons_succ]); (try simp only [List.set_cons_zero])
    refine WpG.takeD 33 (some 82) (v := ?_) rfl rfl (by kernel_rfl) (fun _ _ _ h => h) (.val rfl (fun wz hwz => ?_)) ?_
    rotate_left
    · go_simp; try (with_reducible rfl)
    (simp only [Act.put]); (try simp only [List.setIfInBounds_toArray]); (try simp only [List.set_cons_succ]); (try simp only [List.set_cons_zero])
    refine WpG.takeD 34 (some 83) (v := ?_) rfl rfl (by kernel_rfl) (fun _ _ _ h => h) (.val rfl (fun wz hwz => ?_)) ?_
    rotate_left
    · go_simp; try (with_reducible rfl)
    (simp only [Act.put]); (try simp only [List.setIfInBounds_toArray]); (try simp only [List.set_cons_succ]); (try simp only [List.set_cons_zero])
    refine WpG.done (by kernel_rfl) (fun w9 hS => ?_)
    (try simp only [List.drop_succ_cons]); (try simp only [List.drop_zero]); (try simp only [Nat.reduceSub]); (try simp only [List.take_succ_cons]); (try simp only [List.take_zero])
    replace hb00 := bl_call hb00 (Nat.le_refl _) hS.1
    go_wp2_with fail
    go_ret
    exact ⟨rfl, hb00⟩

end Go.Proofs.Ytiphahbeedeebaa
