/-
 RefE, Trunc, EncL, UnA, UnB: for TotalUnshards.
-/
import Derived.BigQuiet
import Derived.Test.YtbakkmfjamcbfaaRad
namespace Go.Proofs.Ytbakkmfjamcbfaa
open Go.RowKit Fm
set_option linter.unusedVariables false
set_option maxRecDepth 100000

theorem bitsL_le (x : Nat) : ∀ q e, e ∈ bitsL x q → e ≤ 1
 | 0, e, h => by cases h
 | q + 1, e, h => by
  rw [bitsL] at h
  rcases List.mem_append.1 h with h | h
  ·exact bitsL_le x q e h
  ·rw [List.mem_singleton.1 h]
   omega
theorem encNums_le (b : Nat) (ms : List Nat) : ∀ e, e ∈ encNums b ms → e ≤ 1 := by
 intro e he
 unfold encNums at he
 obtain ⟨x, _, h⟩ := List.mem_flatMap.1 he
 exact bitsL_le x b e h
theorem encOne_le (l n : Nat) : ∀ e, e ∈ encOne l n → e ≤ 1 := by
 intro e he
 unfold encOne at he
 rcases List.mem_or_eq_of_mem_set he with h | h
 ·rw [(List.mem_replicate.1 h).2]
  omega
 ·omega
section
variable {f : Nat}

end

end Go.Proofs.Ytbakkmfjamcbfaa

namespace Go.Proofs.Ytbakkmfjamcbfaa
open Go.RowKit Fm
set_option linter.unusedVariables false
set_option maxRecDepth 100000

def kEs (f : Nat) (l : List E) : KL f := l.map (kE f)
theorem kEs_length (f : Nat) (l : List E) : (kEs f l).length = l.length := List.length_map ..
theorem kEs_at {f : Nat} {l : List E} {i : Nat} {e : E} (h : l[i]? = some e) : (kEs f l)[i]? = some (kE f e) := by unfold kEs; rw [List.getElem?_map, h]; rfl
theorem kEs_esK {f : Nat} (l : KL f) : kEs f (esK l) = l := by
 unfold kEs esK
 rw [List.map_map]
 conv => rhs; rw [← List.map_id l]
 exact List.map_congr_left fun x _ => kE_eK x

section
variable {f : Nat} (hf : IsF f)
include hf

set_option maxHeartbeats 4000000 in
theorem circuit_numberL (k b m c n : Int) (vl : Value) (l : List E) (w : World) (hl : SlE w w.heap.size vl l) (hn : l.length ≤ 1099511627776) :
  Calls Try.prog 67 #[.agg #[.int .u8 k, .int .u8 f, .int .i64 b, .int .i64 n, .int .i64 m, .int .i64 c], vl] w (RetK (knum (kEs f l)) w) := by
 obtain ⟨⟨A, cc, rfl, hc, hcm, hA⟩, hok⟩ := hl
 have hfb0 : (1 : Int) ≤ (f : Int) := by rcases hf.or with rfl | rfl <;> omega
 have hfb1 : (f : Int) ≤ 2 := by rcases hf.or with rfl | rfl <;> omega
 have hb00 : Below w.heap.size w w := Below.refl _ _
 have HLL := Lib.hid (kEs_length f l)
 go_enter Try.func67, Try.ntmps67
 go_upto_region 2 with fail
 have hx := ((Vs.new w [.int .u8 k, .int .u8 f, .int .i64 b, .int .i64 n, .int .i64 m, .int .i64 c] #[.int .u8 k, .int .u8 f, .int .i64 b, .int .i64 n, .int .i64 m, .int .i64 c] 60 rfl).alloc (.cells #[.int .u64 0, .int .u64 0] 99)).alloc (.cells #[.int .u64 0, .int .u64 0] 99)
 have hz := (V2.new (w.alloc (.cells #[.int .u8 k, .int .u8 f, .int .i64 b, .int .i64 n, .int .i64 m, .int .i64 c] 60)) (.int .u64 0) (.int .u64 0) 99).alloc (.cells #[.int .u64 0, .int .u64 0] 99)
 have hy := V2.new ((w.alloc (.cells #[.int .u8 k, .int .u8 f, .int .i64 b, .int .i64 n, .int .i64 m, .int .i64 c] 60)).alloc (.cells #[.int .u64 0, .int .u64 0] 99)) (.int .u64 0) (.int .u64 0) 99
 have hbA : Below w.heap.size w (((w.alloc (.cells #[.int .u8 k, .int .u8 f, .int .i64 b, .int .i64 n, .int .i64 m, .int .i64 c] 60)).alloc (.cells #[.int .u64 0, .int .u64 0] 99)).alloc (.cells #[.int .u64 0, .int .u64 0] 99)) := by repeat (first | exact bA | with_reducible assumption | apply bB | (refine bC ?_ (by dsimp only; omega)) | apply bD | apply bE | (refine bF ?_ (by assumption)))
 simp only [World.size_alloc] at hz hy
 generalize ((w.alloc (.cells #[.int .u8 k, .int .u8 f, .int .i64 b, .int .i64 n, .int .i64 m, .int .i64 c] 60)).alloc (.cells #[.int .u64 0, .int .u64 0] 99)).alloc (.cells #[.int .u64 0, .int .u64 0] 99) = w1 at hx hz hy hbA ⊢
 clear hb00
 go_wp2
 go_loopw [6] (fun i wr => ∃ j : Nat, j ≤ l.length ∧ i = .int .i64 ((j : Int) - 1) ∧ Vs wr w.heap.size [.int .u8 k, .int .u8 f, .int .i64 b, .int .i64 n, .int .i64 m, .int .i64 c] ∧ V2 wr (w.heap.size + 1) (.int .u64 0) (.int .u64 0) ∧
   V2 wr (w.heap.size + 1 + 1) (.int .u64 (lo (knum ((kEs f l).drop j)))) (.int .u64 (hi (knum ((kEs f l).drop j)))) ∧ Below w.heap.size w wr) (fun i _ => (intOf i + 1).toNat)
 case atStart =>
  refine ⟨l.length, Nat.le_refl _, rfl, hx, hz, ?_, hbA⟩
  rw [← HLL.out, List.drop_length, show knum ([] : KL f) = 0 from rfl, lo_zero, hi_zero]
  exact hy
 case round =>
  clear hx hz hy hbA
  obtain ⟨j, hj, rfl, hx, hz, hy, hbw⟩ := hrel
  obtain ⟨⟨x0, x1, x2, x3, x4, x5⟩, ⟨x6, x7, x8, x9, x10, x11⟩, x12⟩ := hx.get6
  obtain ⟨z0, z1, z2, z3, z4⟩ := V2.mk hz.c0 hz.c1 hz.f0 hz.f1 hz.lt
  obtain ⟨y0, y1, y2, y3, y4⟩ := V2.mk hy.c0 hy.c1 hy.f0 hy.f1 hy.lt
  by_cases hj0 : j = 0
  ·subst hj0
   rw [List.drop_zero] at hy y0 y1
   go_wp2
   refine bodyPost_ret (results_v2 (b := w.heap.size + 1) (u := .int .u64 (lo (knum (kEs f l)))) (v := .int .u64 (hi (knum (kEs f l)))) ?_ rfl rfl) rfl ?_
   ·exact V2.set hz _ _
   ·exact ⟨rfl, by repeat (first | exact bA | with_reducible assumption | apply bB | (refine bC ?_ (by dsimp only; omega)) | apply bD | apply bE | (refine bF ?_ (by assumption)))⟩
  ·obtain ⟨j, rfl⟩ : ∃ i, j = i + 1 := ⟨j - 1, by omega⟩
   obtain ⟨bl, o, rfl, hB, hr⟩ := hA (by omega)
   obtain ⟨⟨a0, a1⟩, he⟩ : ∃ e, l[j]? = some e := ⟨_, List.getElem?_eq_getElem (by omega)⟩
   obtain ⟨h0, h1, h2, h3⟩ := hok _ (List.mem_of_getElem? he)
   obtain ⟨d0, d1⟩ := (hr.below hbw hB) _ _ he
   dsimp only at h0 h1 h2 h3 d0 d1
   have HST : Hid (knum ((kEs f l).drop j) = knum ((kEs f l).drop (j + 1)) + knum ((kEs f l).drop (j + 1)) + kL f a0 a1) := knum_drop (kEs f l) j _ (kEs_at he)
   generalize knum ((kEs f l).drop (j + 1)) = s at *
   have HAD : Hid (∀ wz, Calls Try.prog 96 #[.int .u8 f, vK (s + s), .agg #[.int .u64 a0, .int .u64 a1]] wz (RetK (s + s + kL f a0 a1) wz)) := by
    intro wz
    have h := field_AddL hf (lo (s + s)) (hi (s + s)) a0 a1 wz (lo_0 _) (lo_1 _) (hi_0 _) (hi_1 _) h0 h1 h2 h3
    rwa [kL_lohi] at h
   clear he hr hA
   have hkl : j < l.length := by omega
   have hbl : bl < wr.heap.size := Nat.lt_of_lt_of_le hB hbw.size
   go_wp2_with fail
   refine region_B (n := 12) (m := 13) (f := 12) (by kernel_rfl) (by kernel_rfl) rfl ?_
   refine WpH.vD 0 (some 14) ?_ rfl rfl (by kernel_rfl) (fun _ _ _ h => h) rfl (fun wz hwz => ?_) ?_
   rotate_left
   ·go_simp; try (with_reducible rfl)
   simp only [Zp, Zq, Zr, Zs]
   refine WpH.vD 1 (some 15) ?_ rfl rfl (by kernel_rfl) (fun _ _ _ h => h) rfl (fun wz hwz => ?_) ?_
   rotate_left
   ·(obtain ⟨hcz, hfz⟩ := bcell hwz; go_simp; try (with_reducible rfl))
   simp only [Zp, Zq, Zr, Zs]
   refine WpH.vD 2 (some 16) ?_ rfl rfl (by kernel_rfl) (fun _ _ _ h => h) rfl (fun wz hwz => ?_) ?_
   rotate_left
   ·go_simp; try (with_reducible rfl)
   simp only [Zp, Zq, Zr, Zs]
   refine WpH.vD 3 (some 17) ?_ rfl rfl (by kernel_rfl) (fun _ _ _ h => h) rfl (fun wz hwz => ?_) ?_
   rotate_left
   ·(obtain ⟨hcz, hfz⟩ := bcell hwz; go_simp; try (with_reducible rfl))
   simp only [Zp, Zq, Zr, Zs]
   refine WpH.vD 4 (some 18) ?_ rfl rfl (by kernel_rfl) (fun _ _ _ h => h) rfl (fun wz hwz => ?_) ?_
   rotate_left
   ·(obtain ⟨hcz, hfz⟩ := bcell hwz; go_simp; try (with_reducible rfl))
   simp only [Zp, Zq, Zr, Zs]
   refine WpH.vD 5 (some 19) ?_ rfl rfl (by kernel_rfl) (fun _ _ _ h => h) rfl (fun wz hwz => ?_) ?_
   rotate_left
   ·(obtain ⟨hcz, hfz⟩ := bcell hwz; go_simp; try (with_reducible rfl))
   simp only [Zp, Zq, Zr, Zs]
   refine WpH.takeD 6 (some 20) rfl rfl (by kernel_rfl) (fun _ _ _ h => h) (.call rfl (fun wz hwz => field_AddK hf s s wz) (fun wz hwz => ?_)) ?_
   ·go_simp; try (with_reducible rfl)
   simp only [Zp, Zq, Zr, Zs]
   refine WpH.vD 7 (some 21) ?_ rfl rfl (by kernel_rfl) (fun _ _ _ h => h) rfl (fun wz hwz => ?_) ?_
   rotate_left
   ·go_simp; try (with_reducible rfl)
   simp only [Zp, Zq, Zr, Zs]
   refine WpH.vD 8 (some 22) ?_ rfl rfl (by kernel_rfl) (fun _ _ _ h => h) rfl (fun wz hwz => ?_) ?_
   rotate_left
   ·go_simp; try (with_reducible rfl)
   simp only [Zp, Zq, Zr, Zs]
   refine WpH.vD 9 (some 23) ?_ rfl rfl (by kernel_rfl) (fun _ _ _ h => h) rfl (fun wz hwz => ?_) ?_
   rotate_left
   ·go_simp; try (with_reducible rfl)
   simp only [Zp, Zq, Zr, Zs]
   refine WpH.vD 10 (some 24) ?_ rfl rfl (by kernel_rfl) (fun _ _ _ h => h) rfl (fun wz hwz => ?_) ?_
   rotate_left
   ·(obtain ⟨hcz, hfz⟩ := bcell hwz; go_simp; try (with_reducible rfl))
   simp only [Zp, Zq, Zr, Zs]
   refine WpH.takeD 11 (some 25) rfl rfl (by kernel_rfl) (fun _ _ _ h => h) (.call rfl (fun wz hwz => HAD.out wz) (fun wz hwz => ?_)) ?_
   ·go_simp; try (with_reducible rfl)
   simp only [Zp, Zq, Zr, Zs]
   refine WpH.doneB (by kernel_rfl) (fun w6 hw6 => ?_)
   (try simp only [List.drop_succ_cons]); (try simp only [List.drop_zero]); (try simp only [Nat.reduceSub]); (try simp only [List.take_succ_cons]); (try simp only [List.take_zero])
   clear x0 x1 x2 x3 x4 x5 x6 x7 x8 x9 x10 x11 x12 z0 z1 z2 z3 z4 y0 y1 y2 y3 y4
   replace hbw := bl_call hbw (Nat.le_refl _) hw6
   replace hx := hx.call hw6
   replace hz := hz.call hw6
   replace hy := hy.call hw6
   obtain ⟨⟨x0, x1, x2, x3, x4, x5⟩, ⟨x6, x7, x8, x9, x10, x11⟩, x12⟩ := hx.get6
   obtain ⟨z0, z1, z2, z3, z4⟩ := V2.mk hz.c0 hz.c1 hz.f0 hz.f1 hz.lt
   obtain ⟨y0, y1, y2, y3, y4⟩ := V2.mk hy.c0 hy.c1 hy.f0 hy.f1 hy.lt
   go_wp2
   go_roundw
   case rel => exact ⟨j, by omega, by go_num, (hx.far (by dsimp only; omega) _).far (by dsimp only; omega) _, V2.oth hz (by omega) _ _, by rw [HST.out]; exact V2.set hy _ _, by repeat (first | exact bA | with_reducible assumption | apply bB | (refine bC ?_ (by dsimp only; omega)) | apply bD | apply bE | (refine bF ?_ (by assumption)))⟩
   case measure => simp [intOf]

def numsE (b n : Nat) (l : List E) : List E := (List.range n).map fun i => eK (knum ((kEs f l).drop (i * b) |>.take b))
omit hf in
theorem numsE_length (b n : Nat) (l : List E) : (numsE (f := f) b n l).length = n := by unfold numsE; rw [List.length_map, List.length_range]
omit hf in
theorem numsE_at (b n : Nat) (l : List E) (i : Nat) (h : i < n) : (numsE (f := f) b n l)[i]? = some (eK (knum ((kEs f l).drop (i * b) |>.take b))) := by
 unfold numsE
 rw [List.getElem?_map, List.getElem?_range h]
 rfl
omit hf in
theorem numsE_ok (b n : Nat) (l : List E) : ∀ e, e ∈ numsE (f := f) b n l → okE e := by
 intro e he
 unfold numsE at he
 obtain ⟨i, _, rfl⟩ := List.mem_map.1 he
 exact okE_eK _

def truncE (f : Nat) (y : CK) (l : List E) : List E :=
 match y with
 | .sum b => numsE (f := f) b 1 l
 | .vec b n _ => numsE (f := f) b n l
 | _ => l.take y.nout
def lenV : Value → Nat
 | .slice _ n _ => n
 | _ => 0
omit hf in
theorem SlE.takeN {w : World} {B : Nat} {A : Option Addr} {c : Nat} {l : List E} {n L : Nat} (h : SlE w B (.slice A L c) l) (hn : n ≤ L) : SlE w B (.slice A n c) (l.take n) := by
 obtain ⟨⟨A', c', hh, h1, h2, h3⟩, hok⟩ := h
 injection hh with e1 e2 e3
 subst e1 e2 e3
 have hl : (l.take n).length = n := by rw [List.length_take]; omega
 refine ⟨⟨A, c, by rw [hl], by omega, h2, fun h0 => ?_⟩, fun e he => hok e (List.mem_of_mem_take he)⟩
 rw [hl] at h0
 obtain ⟨b, o, hA, hB, hr⟩ := h3 (by omega)
 refine ⟨b, o, hA, hB, fun i e hi => hr i e ?_⟩
 rw [List.getElem?_take] at hi
 split at hi
 ·exact hi
 ·cases hi
omit hf in
theorem SlE.dropN {w : World} {B b o : Nat} {c : Nat} {l : List E} {n L : Nat} (h : SlE w B (.slice (some ⟨b, o, none⟩) L c) l) (hn : n < L) : SlE w B (.slice (some ⟨b, o + n * 2, none⟩) (L - n) (c - n)) (l.drop n) := by
 obtain ⟨⟨A', c', hh, h1, h2, h3⟩, hok⟩ := h
 injection hh with e1 e2 e3
 subst e1 e2 e3
 have hl : (l.drop n).length = l.length - n := List.length_drop
 refine ⟨⟨some ⟨b, o + n * 2, none⟩, c - n, by rw [hl], by omega, by omega, fun h0 => ?_⟩, fun e he => hok e (List.mem_of_mem_drop he)⟩
 obtain ⟨b', o', hA, hB, hr⟩ := h3 (by omega)
 injection hA with hA
 injection hA with hb ho
 subst hb
 subst ho
 refine ⟨b, o + n * 2, rfl, hB, fun i e hi => ?_⟩
 rw [List.getElem?_drop] at hi
 have h4 := hr (n + i) e hi
 rw [show o + n * 2 + i * 2 = o + (n + i) * 2 by omega]
 exact h4

omit hf in
theorem CK.nout_nin (y : CK) (hk : ¬ (y.k = 2 ∨ y.k = 3)) : y.nout ≤ y.nin := by
 cases y with
 | count => exact Nat.le_refl _
 | sum b => exact absurd (.inl rfl) hk
 | vec b l c => exact absurd (.inr rfl) hk
 | hist l c => exact Nat.le_refl _
 | multi l m c => exact Nat.le_add_right _ _

end

end Go.Proofs.Ytbakkmfjamcbfaa

namespace Go.Proofs.Ytbakkmfjamcbfaa
open Go.RowKit Fm
set_option linter.unusedVariables false
set_option maxRecDepth 100000

theorem law10_Measure {f : Nat} (hf : IsF f) (y : CK) (hy : y.ok) (vl : Value) (xs : List Int) (w : World) (hl : SlU w w.heap.size vl xs) (hl100 : xs.length ≤ 1000000) :
  Calls Try.prog 34 #[y.val f, vl] w (RetM y w) := by
 cases y with
 | count => exact law10_Measure_count hf hy vl xs w hl hl100
 | sum b => exact law10_Measure_sum hf b hy vl xs w hl hl100
 | vec b l c => exact law10_Measure_vec hf b l c hy vl xs w hl hl100
 | hist l c => exact law10_Measure_hist hf l c hy vl xs w hl hl100
 | multi l m c => exact law10_Measure_multi hf l m c hy vl xs w hl hl100

def nEs (l : List Nat) : List E := l.map fun n : Nat => ((n : Int), 0)
section
variable {f : Nat} (hf : IsF f)
include hf

theorem esK_nK {l : List Nat} (h : ∀ x, x ∈ l → x < 4294967296) : esK (l.map (nK f)) = nEs l := by
 unfold esK nEs
 rw [List.map_map]
 exact List.map_congr_left fun x hx => eK_nK hf (h x hx)
end

theorem enc_le {y : CK} {ms : List Nat} (h : okEnc y ms) : ∀ e, e ∈ encL y ms → e ≤ 1 := by
 intro e he
 cases y with
 | count => exact h e he
 | sum b => exact encNums_le b ms e he
 | vec b l c => exact encNums_le b ms e he
 | hist l c => exact encOne_le l _ e he
 | multi l m c =>
  rcases List.mem_append.1 (show e ∈ ms ++ bitsL (ms.sum + offN m) (Lib.bitLen m) from he) with h1 | h1
  ·exact h.1 e h1
  ·exact bitsL_le _ _ e h1

theorem enc_length {y : CK} {ms : List Nat} (hl : ms.length = y.meas) : (encL y ms).length = y.nin := by
 cases y with
 | count => exact hl
 | sum b => exact (encNums_length b ms).trans (by rw [hl]; exact Nat.one_mul b)
 | vec b l c => exact (encNums_length b ms).trans (by rw [hl]; rfl)
 | hist l c => exact encOne_length l _
 | multi l m c =>
  show (ms ++ bitsL (ms.sum + offN m) (Lib.bitLen m)).length = l + Lib.bitLen m
  rw [List.length_append, bitsL_length, hl]
  rfl

theorem nK_mul (f m n : Nat) : nK f (m * n) = nK f m * nK f n := by rw [nK_kI, nK_kI, nK_kI, Int.natCast_mul, kI_mul]

theorem knum_bits (f n : Nat) : ∀ q, knum ((bitsL n q).map (nK f)) = nK f (n % 2 ^ q)
 | 0 => by
  rw [Nat.pow_zero, Nat.mod_one, nK_zero]
  rfl
 | q + 1 => by
  have hq : (bitsL n q).length = q := bitsL_length n q
  have h1 : ((bitsL n (q + 1)).map (nK f))[q]? = some (nK f (n / 2 ^ q % 2)) := by
   rw [List.getElem?_map, bitsL, List.getElem?_append_right (by omega), hq, Nat.sub_self]
   rfl
  have h2 := knum_take _ q _ h1
  have h3 : ((bitsL n (q + 1)).map (nK f)).take (q + 1) = (bitsL n (q + 1)).map (nK f) := List.take_of_length_le (by rw [List.length_map, bitsL_length]; exact Nat.le_refl _)
  have h4 : ((bitsL n (q + 1)).map (nK f)).take q = (bitsL n q).map (nK f) := by
   rw [← List.map_take, bitsL, List.take_append_of_le_length (by omega), List.take_of_length_le (by omega)]
  rw [h3, h4, knum_bits f n q, kpow_nK, ← nK_mul, ← nK_add] at h2
  rw [h2, Nat.mod_pow_succ]

section
variable {f : Nat} (hf : IsF f)
include hf

def tgt (y : CK) (ms : List Nat) : List Nat :=
 match y with
 | .hist l _ => encOne l (ms.headD 0)
 | _ => ms

omit hf in
theorem tgt_lt {y : CK} (hy : y.ok) {ms : List Nat} (h : okEnc y ms) : ∀ x, x ∈ tgt y ms → x < 4294967296 := by
 intro x hx
 cases y with
 | count => have := h x hx; omega
 | sum b => exact Nat.lt_of_lt_of_le (h x hx) (by have := Nat.pow_le_pow_right (n := 2) (by omega) hy.2; have h32 : (2 : Nat) ^ 32 = 4294967296 := rfl; omega)
 | vec b l c => exact Nat.lt_of_lt_of_le (h x hx) (by have := Nat.pow_le_pow_right (n := 2) (by omega) hy.1.2; have h32 : (2 : Nat) ^ 32 = 4294967296 := rfl; omega)
 | hist l c => have := encOne_le l _ x hx; omega
 | multi l m c => have := h.1 x hx; omega

omit hf in
theorem encNums_at (b : Nat) : ∀ (ms : List Nat) (i n : Nat), ms[i]? = some n → ((encNums b ms).drop (i * b)).take b = bitsL n b
 | [], i, n, h => by simp at h
 | a :: ms, 0, n, h => by
  obtain rfl : a = n := by simpa using h
  show ((bitsL a b ++ encNums b ms).drop (0 * b)).take b = _
  rw [Nat.zero_mul, List.drop_zero, List.take_append_of_le_length (by rw [bitsL_length]; exact Nat.le_refl _), List.take_of_length_le (by rw [bitsL_length]; exact Nat.le_refl _)]
 | a :: ms, i + 1, n, h => by
  show ((bitsL a b ++ encNums b ms).drop ((i + 1) * b)).take b = _
  rw [show (i + 1) * b = (bitsL a b).length + i * b by rw [bitsL_length, Nat.succ_mul, Nat.add_comm], List.drop_append]
  rw [List.drop_of_length_le (by omega), List.nil_append, Nat.add_sub_cancel_left]
  exact encNums_at b ms i n (by simpa using h)

omit hf in
theorem nums_enc (b : Nat) (ms : List Nat) (h : okNums b ms) : numsE (f := f) b ms.length (esK ((encNums b ms).map (nK f))) = esK (ms.map (nK f)) := by
 apply List.ext_getElem?
 intro i
 by_cases hi : i < ms.length
 ·have h1 := List.getElem?_eq_getElem hi
  rw [numsE_at b _ _ i hi, esK_at (x := nK f ms[i]) (by rw [List.getElem?_map, h1]; rfl), kEs_esK, ← List.map_drop, ← List.map_take, encNums_at b ms i _ h1, knum_bits, Nat.mod_eq_of_lt (h _ (List.getElem_mem hi))]
 ·rw [List.getElem?_eq_none (by rw [numsE_length]; omega), List.getElem?_eq_none (by rw [esK_length, List.length_map]; omega)]

theorem trunc_enc (y : CK) (hy : y.ok) {ms : List Nat} (hl : ms.length = y.meas) (h : okEnc y ms) : truncE f y (esK ((encL y ms).map (nK f))) = nEs (tgt y ms) := by
 rw [← esK_nK hf (tgt_lt hy h)]
 cases y with
 | sum b =>
  have h1 := nums_enc (f := f) b ms h
  rw [hl] at h1
  exact h1
 | vec b l c =>
  have h1 := nums_enc (f := f) b ms h
  rw [hl] at h1
  exact h1
 | count =>
  show (esK (ms.map (nK f))).take 1 = _
  exact List.take_of_length_le (by rw [esK_length, List.length_map, hl]; exact Nat.le_refl _)
 | hist l c =>
  show (esK ((encOne l (ms.headD 0)).map (nK f))).take l = _
  exact List.take_of_length_le (by rw [esK_length, List.length_map, encOne_length]; exact Nat.le_refl _)
 | multi l m c =>
  have hlen : ms.length = l := hl
  show (esK ((ms ++ bitsL (ms.sum + offN m) (Lib.bitLen m)).map (nK f))).take l = esK (ms.map (nK f))
  rw [List.map_append, esK_append, List.take_append_of_le_length (by rw [esK_length, List.length_map]; omega), List.take_of_length_le (by rw [esK_length, List.length_map]; omega)]

/-! ### what both say of a measure -/
theorem circuit_Encode_E (y : CK) (hy : y.ok) (hcalls : ¬ 511 < y.calls) (vm : Value) (ms : List Nat) (hl : ms.length = y.meas) (hok : okEnc y ms) (w : World) (hm : SlU w w.heap.size vm (natsI ms)) :
  Calls Try.prog 33 #[y.val f, vm] w fun e w' => ∃ A cp, e = .returned (.tuple #[.slice A y.nin cp, .int .i64 0]) ∧ SlE w' w'.heap.size (.slice A y.nin cp) (nEs (encL y ms)) ∧ Below w.heap.size w w' := by
 refine (circuit_Encode hf y hy hcalls vm ms w hm hl).mono ?_
 rintro e w' (⟨_, v, rfl, hown, hb⟩ | ⟨h1, _⟩)
 ·rw [List.length_map, enc_length hl] at hown
  obtain ⟨A, cp, rfl⟩ := own_shape hown
  have h2 := own_sl (by rw [List.length_map, enc_length hl]) hown
  refine ⟨A, cp, rfl, ?_, hb⟩
  rw [← esK_nK hf (fun x hx => by have := enc_le hok x hx; omega)]
  exact h2.toE
 ·exact absurd hok h1

end

end Go.Proofs.Ytbakkmfjamcbfaa

namespace Go.Proofs.Ytbakkmfjamcbfaa
open Go.RowKit Fm
set_option linter.unusedVariables false
set_option maxRecDepth 100000

/-! ### shares of sums -/
theorem nEs_len (l : List Nat) : (nEs l).length = l.length := List.length_map ..
def addN (a b : List Nat) : List Nat := List.zipWith (· + ·) a b
section
variable {f : Nat}
theorem addN_length {a b : List Nat} {n : Nat} (h1 : a.length = n) (h2 : b.length = n) : (addN a b).length = n := by unfold addN; rw [List.length_zipWith, h1, h2, Nat.min_self]
theorem addN_map : ∀ (a b : List Nat), (addN a b).map (nK f) = addL (a.map (nK f)) (b.map (nK f))
 | [], b => by cases b <;> rfl
 | a :: l, [] => rfl
 | a :: l, b :: bs => by
  have ih := addN_map l bs
  show nK f (a + b) :: (addN l bs).map (nK f) = (nK f a + nK f b) :: addL (l.map (nK f)) (bs.map (nK f))
  rw [ih, nK_add]
theorem addN_le {a b : List Nat} {p q : Nat} (h1 : ∀ t, t ∈ a → t ≤ p) (h2 : ∀ t, t ∈ b → t ≤ q) : ∀ t, t ∈ addN a b → t ≤ p + q := by
 intro t ht
 unfold addN at ht
 rw [List.mem_iff_getElem?] at ht
 obtain ⟨i, hi⟩ := ht
 rw [List.getElem?_zipWith] at hi
 cases ha : a[i]? with
 | none => rw [ha] at hi; simp at hi
 | some x =>
  cases hb : b[i]? with
  | none => rw [ha, hb] at hi; simp at hi
  | some y =>
   rw [ha, hb] at hi
   simp at hi
   have k1 := h1 x (List.mem_of_getElem? ha)
   have k2 := h2 y (List.mem_of_getElem? hb)
   omega
theorem split_step : ∀ (T A t p : KL f), addL (subL T A) (subL t p) = subL (addL T t) (addL A p)
 | [], A, t, p => by simp [addL, subL]
 | x :: T, [], t, p => by simp [addL, subL]
 | x :: T, a :: A, [], p => by simp [addL, subL]
 | x :: T, a :: A, y :: t, [] => by simp [addL, subL]
 | x :: T, a :: A, y :: t, b :: p => by
  have ih := split_step T A t p
  show (x - a + (y - b)) :: addL (subL T A) (subL t p) = (x + y - (a + b)) :: subL (addL T t) (addL A p)
  have e : x - a + (y - b) = x + y - (a + b) := by grind
  rw [ih, e]
theorem recomb : ∀ (T A : KL f), A.length = T.length → addL A (subL T A) = T
 | [], A, h => by simp [addL, subL]
 | x :: T, [], h => by simp at h
 | x :: T, a :: A, h => by
  have ih := recomb T A (by simpa using h)
  show (a + (x - a)) :: addL A (subL T A) = x :: T
  have e : a + (x - a) = x := by grind
  rw [ih, e]
theorem subL_len {xs ys : KL f} {n : Nat} (h1 : xs.length = n) (h2 : ys.length = n) : (subL xs ys).length = n := by
 unfold subL
 rw [List.length_zipWith, h1, h2, Nat.min_self]
theorem zeros_sub (n : Nat) : subL ((List.replicate n 0).map (nK f)) (zK f n) = zK f n := by
 unfold subL zK
 rw [List.map_replicate, nK_zero]
 apply List.ext_getElem?
 intro i
 rw [List.getElem?_zipWith]
 by_cases hi : i < n
 ·rw [List.getElem?_replicate_of_lt hi]
  simp
 ·rw [List.getElem?_eq_none (by rw [List.length_replicate]; omega)]
end

/-! ### Unshard -/
set_option maxHeartbeats 4000000 in
theorem total_UnshardCount (k f b l m c p : Int) (s : ByteArray) (HC : ∀ wz, Calls Try.prog 43 #[.agg #[.int .u8 k, .int .u8 f, .int .i64 b, .int .i64 l, .int .i64 m, .int .i64 c, .int .i64 p, .string s]] wz (RetC 0 wz))
  (vx vo : Value) (M1 M2 : Int) (hM : (M1 != M2) = true) (K1 K2 : List Int) (w : World) :
  Calls Try.prog 38 #[.agg #[.int .u8 k, .int .u8 f, .int .i64 b, .int .i64 l, .int .i64 m, .int .i64 c, .int .i64 p, .string s], .agg (totL vx M1 K1).toArray, .agg (totL vo M2 K2).toArray] w (RetErr 21 w) := by
 have HC := Lib.hid HC
 go_enter Try.func38, Try.ntmps38
 go_upto_region 1 with fail
 have hT := ((Vs.new w [.int .u8 k, .int .u8 f, .int .i64 b, .int .i64 l, .int .i64 m, .int .i64 c, .int .i64 p, .string s] #[.int .u8 k, .int .u8 f, .int .i64 b, .int .i64 l, .int .i64 m, .int .i64 c, .int .i64 p, .string s] 62 rfl).alloc (.cells (totL vx M1 K1).toArray 76)).alloc (.cells (totL vo M2 K2).toArray 76)
 have hX := (Vs.new (w.alloc (.cells #[.int .u8 k, .int .u8 f, .int .i64 b, .int .i64 l, .int .i64 m, .int .i64 c, .int .i64 p, .string s] 62)) (totL vx M1 K1) ((totL vx M1 K1).toArray) 76 rfl).alloc (.cells (totL vo M2 K2).toArray 76)
 have hY := Vs.new ((w.alloc (.cells #[.int .u8 k, .int .u8 f, .int .i64 b, .int .i64 l, .int .i64 m, .int .i64 c, .int .i64 p, .string s] 62)).alloc (.cells (totL vx M1 K1).toArray 76)) (totL vo M2 K2) ((totL vo M2 K2).toArray) 76 rfl
 simp only [World.size_alloc] at hX hY
 have hb00 : Below w.heap.size w (((w.alloc (.cells #[.int .u8 k, .int .u8 f, .int .i64 b, .int .i64 l, .int .i64 m, .int .i64 c, .int .i64 p, .string s] 62)).alloc (.cells (totL vx M1 K1).toArray 76)).alloc (.cells (totL vo M2 K2).toArray 76)) := by repeat (first | exact bA | with_reducible assumption | apply bB)
 have hszn : w.heap.size + 3 ≤ (((w.alloc (.cells #[.int .u8 k, .int .u8 f, .int .i64 b, .int .i64 l, .int .i64 m, .int .i64 c, .int .i64 p, .string s] 62)).alloc (.cells (totL vx M1 K1).toArray 76)).alloc (.cells (totL vo M2 K2).toArray 76)).heap.size := by simp only [World.size_alloc]; omega
 generalize (((w.alloc (.cells #[.int .u8 k, .int .u8 f, .int .i64 b, .int .i64 l, .int .i64 m, .int .i64 c, .int .i64 p, .string s] 62)).alloc (.cells (totL vx M1 K1).toArray 76)).alloc (.cells (totL vo M2 K2).toArray 76)) = w1 at hT hX hY hb00 hszn ⊢
 obtain ⟨⟨T0, T1, T2, T3, T4, T5, T6, T7⟩, ⟨T8, T9, T10, T11, T12, T13, T14, T15⟩, T16⟩ := hT.get8
 obtain ⟨x0, x1, x2, x3, x4⟩ := hX.tot
 obtain ⟨y0, y1, y2, y3, y4⟩ := hY.tot
 go_wp2_with (first
  | (go_at_call 43; refine (HC.out _).mono ?_; rintro e w2 ⟨rfl, hb2⟩; replace hb00 := bl_call hb00 (Nat.le_refl _) hb2; replace hX := hX.call hb2; replace hT := hT.call hb2; replace hY := hY.call hb2; clear T0 T1 T2 T3 T4 T5 T6 T7 T8 T9 T10 T11 T12 T13 T14 T15 T16; clear hb2; obtain ⟨⟨T0, T1, T2, T3, T4, T5, T6, T7⟩, ⟨T8, T9, T10, T11, T12, T13, T14, T15⟩, T16⟩ := hT.get8; clear x0 x1 x2 x3 x4 y0 y1 y2 y3 y4; obtain ⟨x0, x1, x2, x3, x4⟩ := hX.tot; obtain ⟨y0, y1, y2, y3, y4⟩ := hY.tot))
 go_ret2
 exact ⟨rfl, hb00⟩

set_option maxHeartbeats 4000000 in
theorem total_UnshardCheck (k f b l m c p : Int) (s : ByteArray) (HC : ∀ wz, Calls Try.prog 43 #[.agg #[.int .u8 k, .int .u8 f, .int .i64 b, .int .i64 l, .int .i64 m, .int .i64 c, .int .i64 p, .string s]] wz (RetC 0 wz))
  (vx vo : Value) (M : Int) (K1 K2 : List Int) (hK1 : K1.length = 16) (hK2 : K2.length = 16) (hne : (K1 == K2) = false) (w : World) :
  Calls Try.prog 38 #[.agg #[.int .u8 k, .int .u8 f, .int .i64 b, .int .i64 l, .int .i64 m, .int .i64 c, .int .i64 p, .string s], .agg (totL vx M K1).toArray, .agg (totL vo M K2).toArray] w (RetErr 22 w) := by
 have HC := Lib.hid HC
 have HK1 := Lib.hid hK1
 have HK2 := Lib.hid hK2
 have HEQ : Hid (∀ wz, (Op.equalIn 10000 74 (.agg (cells8 K1).toArray) (.agg (cells8 K2).toArray)).run Try.prog wz = .ok false wz) := fun wz => by
  rw [run_equalIn_16 9998 Try.underlying74 hK1 hK2, hne]
 clear hK1 hK2 hne
 go_enter Try.func38, Try.ntmps38
 go_upto_region 1 with fail
 have hT := ((Vs.new w [.int .u8 k, .int .u8 f, .int .i64 b, .int .i64 l, .int .i64 m, .int .i64 c, .int .i64 p, .string s] #[.int .u8 k, .int .u8 f, .int .i64 b, .int .i64 l, .int .i64 m, .int .i64 c, .int .i64 p, .string s] 62 rfl).alloc (.cells (totL vx M K1).toArray 76)).alloc (.cells (totL vo M K2).toArray 76)
 have hX := (Vs.new (w.alloc (.cells #[.int .u8 k, .int .u8 f, .int .i64 b, .int .i64 l, .int .i64 m, .int .i64 c, .int .i64 p, .string s] 62)) (totL vx M K1) ((totL vx M K1).toArray) 76 rfl).alloc (.cells (totL vo M K2).toArray 76)
 have hY := Vs.new ((w.alloc (.cells #[.int .u8 k, .int .u8 f, .int .i64 b, .int .i64 l, .int .i64 m, .int .i64 c, .int .i64 p, .string s] 62)).alloc (.cells (totL vx M K1).toArray 76)) (totL vo M K2) ((totL vo M K2).toArray) 76 rfl
 simp only [World.size_alloc] at hX hY
 have hb00 : Below w.heap.size w (((w.alloc (.cells #[.int .u8 k, .int .u8 f, .int .i64 b, .int .i64 l, .int .i64 m, .int .i64 c, .int .i64 p, .string s] 62)).alloc (.cells (totL vx M K1).toArray 76)).alloc (.cells (totL vo M K2).toArray 76)) := by repeat (first | exact bA | with_reducible assumption | apply bB)
 have hszn : w.heap.size + 3 ≤ (((w.alloc (.cells #[.int .u8 k, .int .u8 f, .int .i64 b, .int .i64 l, .int .i64 m, .int .i64 c, .int .i64 p, .string s] 62)).alloc (.cells (totL vx M K1).toArray 76)).alloc (.cells (totL vo M K2).toArray 76)).heap.size := by simp only [World.size_alloc]; omega
 generalize (((w.alloc (.cells #[.int .u8 k, .int .u8 f, .int .i64 b, .int .i64 l, .int .i64 m, .int .i64 c, .int .i64 p, .string s] 62)).alloc (.cells (totL vx M K1).toArray 76)).alloc (.cells (totL vo M K2).toArray 76)) = w1 at hT hX hY hb00 hszn ⊢
 obtain ⟨⟨T0, T1, T2, T3, T4, T5, T6, T7⟩, ⟨T8, T9, T10, T11, T12, T13, T14, T15⟩, T16⟩ := hT.get8
 obtain ⟨x0, x1, x2, x3, x4⟩ := hX.tot
 obtain ⟨y0, y1, y2, y3, y4⟩ := hY.tot
 go_upto_region 6 with (first
  | (go_at_call 43; refine (HC.out _).mono ?_; rintro e w2 ⟨rfl, hb2⟩; replace hb00 := bl_call hb00 (Nat.le_refl _) hb2; replace hX := hX.call hb2; replace hT := hT.call hb2; replace hY := hY.call hb2; clear T0 T1 T2 T3 T4 T5 T6 T7 T8 T9 T10 T11 T12 T13 T14 T15 T16; clear hb2; obtain ⟨⟨T0, T1, T2, T3, T4, T5, T6, T7⟩, ⟨T8, T9, T10, T11, T12, T13, T14, T15⟩, T16⟩ := hT.get8; clear x0 x1 x2 x3 x4 y0 y1 y2 y3 y4; obtain ⟨x0, x1, x2, x3, x4⟩ := hX.tot; obtain ⟨y0, y1, y2, y3, y4⟩ := hY.tot))
 refine wp_region_lit ?_
 refine wpList_valD (some 23) rfl rfl (by (go_simp; first | with_reducible rfl | exact ⟨rfl, rfl⟩ | (trace_state; fail))) ?_
 simp only [Zp, Zq, Zr, Zs]
 refine wpList_valD (some 24) rfl rfl (exec_load rfl (by kernel_rfl) (hX.loadTC HK1.out)) ?_
 simp only [Zp, Zq, Zr, Zs]
 refine wpList_valD (some 25) rfl rfl (by (go_simp; first | with_reducible rfl | exact ⟨rfl, rfl⟩ | (trace_state; fail))) ?_
 simp only [Zp, Zq, Zr, Zs]
 refine wpList_valD (some 26) rfl rfl (exec_load rfl (by kernel_rfl) (hY.loadTC HK2.out)) ?_
 simp only [Zp, Zq, Zr, Zs]
 refine wpList_valD (some 27) rfl rfl (by (have hz := HEQ.out w2; go_simp; first | with_reducible rfl | exact ⟨rfl, rfl⟩ | (trace_state; fail))) ?_
 simp only [Zp, Zq, Zr, Zs]
 refine wpList_valD (some 22) rfl rfl (by (go_simp; first | with_reducible rfl | exact ⟨rfl, rfl⟩ | (trace_state; fail))) ?_
 simp only [Zp, Zq, Zr, Zs]
 go_wp2_with fail
 go_ret2
 exact ⟨rfl, hb00⟩

set_option maxHeartbeats 4000000 in
theorem total_UnshardOk {f : Nat} (hf : IsF f) (y : CK) (hy : y.ok) (hcalls : ¬ 511 < y.calls) (pq : Int) (s : ByteArray) (n : Nat) (hn : y.nout = n) (hn70 : n ≤ 70)
  (HC : ∀ wz, Calls Try.prog 43 #[.agg #[.int .u8 ((y.k : Nat) : Int), .int .u8 (f : Int), .int .i64 ((y.b : Nat) : Int), .int .i64 ((y.l : Nat) : Int), .int .i64 ((y.m : Nat) : Int), .int .i64 ((y.c : Nat) : Int), .int .i64 pq, .string s]] wz (RetC 0 wz))
  (M : Nat) (hM : M ≤ 256) (K : List Int) (hK : K.length = 16) (vx vo : Value) (xs os : KL f) (T : List Nat) (hT : addL xs os = T.map (nK f)) (hTl : T.length = n) (hT32 : ∀ t, t ∈ T → t < 4294967296) (hTm : ∀ t, t ∈ T → t ≤ M * y.most) (w : World) (hx : SlK w w.heap.size vx xs) (ho : SlK w w.heap.size vo os) (hxl : xs.length = n) (hol : os.length = n) :
  Calls Try.prog 38 #[.agg #[.int .u8 ((y.k : Nat) : Int), .int .u8 (f : Int), .int .i64 ((y.b : Nat) : Int), .int .i64 ((y.l : Nat) : Int), .int .i64 ((y.m : Nat) : Int), .int .i64 ((y.c : Nat) : Int), .int .i64 pq, .string s], .agg (totL vx (M : Int) K).toArray, .agg (totL vo (M : Int) K).toArray] w
   fun e w' => ∃ (A : Option Addr) (cp : Nat), e = .returned (.tuple #[.slice A n cp, .int .i64 0]) ∧ SlU w' w'.heap.size (.slice A n cp) (natsI T) ∧ Below w.heap.size w w' := by
 have HADD : Hid (∀ wz, Below w.heap.size w wz → Calls Try.prog 58 #[.int .u8 f, vx, vo] wz fun e w' => ∃ g, e = .returned (.tuple #[.slice (some ⟨g, 0, none⟩) n n, .int .i64 0]) ∧ BlkE w' g (nEs T) ∧ wz.heap.size ≤ g ∧ Below wz.heap.size wz w') := fun wz hb => by
  have h := addvec_n hf (by omega : n ≤ 1000000) hxl hol wz (hx.later hb) (ho.later hb)
  rwa [hT, esK_nK hf hT32] at h
 have hdec : decN y (nEs T) (M : Int) = 0 := by
  unfold decN
  rw [if_pos (by rw [nEs_len, hTl, hn]), if_neg (by omega), if_neg]
  intro h
  rw [List.any_eq_true] at h
  obtain ⟨e, he, hbad⟩ := h
  unfold nEs at he
  obtain ⟨t, ht, rfl⟩ := List.mem_map.1 he
  unfold decBad at hbad
  have h1 := hTm t ht
  simp at hbad
  have h2 : (M : Int) * (y.most : Int) = ((M * y.most : Nat) : Int) := by rw [Int.natCast_mul]
  rw [h2] at hbad
  omega
 have HDEC : Hid (∀ (g : Nat) wz, BlkE wz g (nEs T) → Calls Try.prog 70 #[.agg #[.int .u8 ((y.k : Nat) : Int), .int .u8 (f : Int), .int .i64 ((y.b : Nat) : Int), .int .i64 ((y.l : Nat) : Int), .int .i64 ((y.m : Nat) : Int), .int .i64 ((y.c : Nat) : Int)], .slice (some ⟨g, 0, none⟩) n n, .int .i64 (M : Int)] wz
   fun e w' => ∃ (A : Option Addr) (cp : Nat), e = .returned (.tuple #[.slice A n cp, .int .i64 0]) ∧ SlU w' w'.heap.size (.slice A n cp) (natsI T) ∧ Below wz.heap.size wz w') := fun g wz h => by
  have hsl : SlE wz wz.heap.size (.slice (some ⟨g, 0, none⟩) n n) (nEs T) := by
   rw [← esK_nK hf hT32] at h ⊢
   exact (BlkE.slNn h (by rw [List.length_map, hTl]) (by omega)).toE
  refine (circuit_Decode hf y hy hcalls _ (nEs T) (M : Int) wz hsl (by rw [nEs_len, hTl]; exact hn70)).mono fun e w' h9 => ?_
  rcases h9 with ⟨h1, _⟩ | ⟨_, v, he, hv, hb⟩
  ·exact absurd hdec h1
  ·have e9 : (nEs T).map (·.1) = natsI T := by
    unfold nEs natsI
    rw [List.map_map]
    rfl
   rw [e9] at hv
   obtain ⟨⟨A, c, hve, k1, k2, k3⟩, ok⟩ := hv
   have hl : (natsI T).length = n := by unfold natsI; rw [List.length_map, hTl]
   rw [hl] at hve
   subst hve
   exact ⟨A, c, he, ⟨⟨A, c, by rw [hl], k1, k2, k3⟩, ok⟩, hb⟩
 have HC := Lib.hid HC
 have HK1 := Lib.hid hK
 have HK2 := Lib.hid hK
 have HEQ : Hid (∀ wz, (Op.equalIn 10000 74 (.agg (cells8 K).toArray) (.agg (cells8 K).toArray)).run Try.prog wz = .ok true wz) := fun wz => by
  rw [run_equalIn_16 9998 Try.underlying74 hK hK]
  simp
 have hx9 := hx
 obtain ⟨A1, c1, hv1, _⟩ := hx9
 have ho9 := ho
 obtain ⟨A2, c2, hv2, _⟩ := ho9
 rw [hxl] at hv1
 rw [hol] at hv2
 subst hv1 hv2
 obtain ⟨vx, hvx⟩ : ∃ z, Value.slice A1 n c1 = z := ⟨_, rfl⟩
 obtain ⟨vo, hvo⟩ : ∃ z, Value.slice A2 n c2 = z := ⟨_, rfl⟩
 rw [hvx, hvo] at HADD
 rw [hvx, hvo]
 obtain ⟨M9, hM9⟩ : ∃ z : Int, (M : Int) = z := ⟨_, rfl⟩
 rw [hM9] at HDEC ⊢
 clear hvx hvo hK hx ho hxl hol hT hTl hT32 hTm hdec hM hn hn70 hcalls hy hf hM9
 generalize ((y.k : Nat) : Int) = yk at *
 generalize ((y.b : Nat) : Int) = yb at *
 generalize ((y.l : Nat) : Int) = yl at *
 generalize ((y.m : Nat) : Int) = ym at *
 generalize ((y.c : Nat) : Int) = yc at *
 generalize ((f : Nat) : Int) = F at *
 obtain ⟨K1, hK1⟩ : ∃ z, K = z := ⟨_, rfl⟩
 subst hK1
 go_enter Try.func38, Try.ntmps38
 go_upto_region 1 with fail
 have hT := ((Vs.new w [.int .u8 yk, .int .u8 F, .int .i64 yb, .int .i64 yl, .int .i64 ym, .int .i64 yc, .int .i64 pq, .string s] #[.int .u8 yk, .int .u8 F, .int .i64 yb, .int .i64 yl, .int .i64 ym, .int .i64 yc, .int .i64 pq, .string s] 62 rfl).alloc (.cells (totL vx M9 K).toArray 76)).alloc (.cells (totL vo M9 K).toArray 76)
 have hX := (Vs.new (w.alloc (.cells #[.int .u8 yk, .int .u8 F, .int .i64 yb, .int .i64 yl, .int .i64 ym, .int .i64 yc, .int .i64 pq, .string s] 62)) (totL vx M9 K) ((totL vx M9 K).toArray) 76 rfl).alloc (.cells (totL vo M9 K).toArray 76)
 have hY := Vs.new ((w.alloc (.cells #[.int .u8 yk, .int .u8 F, .int .i64 yb, .int .i64 yl, .int .i64 ym, .int .i64 yc, .int .i64 pq, .string s] 62)).alloc (.cells (totL vx M9 K).toArray 76)) (totL vo M9 K) ((totL vo M9 K).toArray) 76 rfl
 simp only [World.size_alloc] at hX hY
 have hb00 : Below w.heap.size w (((w.alloc (.cells #[.int .u8 yk, .int .u8 F, .int .i64 yb, .int .i64 yl, .int .i64 ym, .int .i64 yc, .int .i64 pq, .string s] 62)).alloc (.cells (totL vx M9 K).toArray 76)).alloc (.cells (totL vo M9 K).toArray 76)) := by repeat (first | exact bA | with_reducible assumption | apply bB)
 have hszn : w.heap.size + 3 ≤ (((w.alloc (.cells #[.int .u8 yk, .int .u8 F, .int .i64 yb, .int .i64 yl, .int .i64 ym, .int .i64 yc, .int .i64 pq, .string s] 62)).alloc (.cells (totL vx M9 K).toArray 76)).alloc (.cells (totL vo M9 K).toArray 76)).heap.size := by simp only [World.size_alloc]; omega
 generalize (((w.alloc (.cells #[.int .u8 yk, .int .u8 F, .int .i64 yb, .int .i64 yl, .int .i64 ym, .int .i64 yc, .int .i64 pq, .string s] 62)).alloc (.cells (totL vx M9 K).toArray 76)).alloc (.cells (totL vo M9 K).toArray 76)) = w1 at hT hX hY hb00 hszn ⊢
 obtain ⟨⟨T0, T1, T2, T3, T4, T5, T6, T7⟩, ⟨T8, T9, T10, T11, T12, T13, T14, T15⟩, T16⟩ := hT.get8
 obtain ⟨x0, x1, x2, x3, x4⟩ := hX.tot
 obtain ⟨y0, y1, y2, y3, y4⟩ := hY.tot
 go_upto_region 6 with (first
  | (go_at_call 43; refine (HC.out _).mono ?_; rintro e w2 ⟨rfl, hb2⟩; replace hb00 := bl_call hb00 (Nat.le_refl _) hb2; replace hX := hX.call hb2; replace hT := hT.call hb2; replace hY := hY.call hb2; clear T0 T1 T2 T3 T4 T5 T6 T7 T8 T9 T10 T11 T12 T13 T14 T15 T16; clear hb2; obtain ⟨⟨T0, T1, T2, T3, T4, T5, T6, T7⟩, ⟨T8, T9, T10, T11, T12, T13, T14, T15⟩, T16⟩ := hT.get8; clear x0 x1 x2 x3 x4 y0 y1 y2 y3 y4; obtain ⟨x0, x1, x2, x3, x4⟩ := hX.tot; obtain ⟨y0, y1, y2, y3, y4⟩ := hY.tot))
 refine wp_region_lit ?_
 refine wpList_valD (some 23) rfl rfl (by (go_simp; first | with_reducible rfl | exact ⟨rfl, rfl⟩ | (trace_state; fail))) ?_
 simp only [Zp, Zq, Zr, Zs]
 refine wpList_valD (some 24) rfl rfl (exec_load rfl (by kernel_rfl) (hX.loadTC HK1.out)) ?_
 simp only [Zp, Zq, Zr, Zs]
 refine wpList_valD (some 25) rfl rfl (by (go_simp; first | with_reducible rfl | exact ⟨rfl, rfl⟩ | (trace_state; fail))) ?_
 simp only [Zp, Zq, Zr, Zs]
 refine wpList_valD (some 26) rfl rfl (exec_load rfl (by kernel_rfl) (hY.loadTC HK2.out)) ?_
 simp only [Zp, Zq, Zr, Zs]
 refine wpList_valD (some 27) rfl rfl (by (have hz := HEQ.out w2; go_simp; first | with_reducible rfl | exact ⟨rfl, rfl⟩ | (trace_state; fail))) ?_
 simp only [Zp, Zq, Zr, Zs]
 refine wpList_valD (some 22) rfl rfl (by (go_simp; first | with_reducible rfl | exact ⟨rfl, rfl⟩ | (trace_state; fail))) ?_
 simp only [Zp, Zq, Zr, Zs]
 go_wp2_with (first | (go_at_call 58; refine (HADD.out _ hb00).mono ?_; rintro e w5 ⟨g, rfl, hB, hg, hb5⟩; replace hb00 := bl_call hb00 (Nat.le_refl _) hb5; replace hX := hX.call hb5; replace hT := hT.call hb5; clear x0 x1 x2 x3 x4; obtain ⟨x0, x1, x2, x3, x4⟩ := hX.tot; clear T0 T1 T2 T3 T4 T5 T6 T7 T8 T9 T10 T11 T12 T13 T14 T15 T16; obtain ⟨⟨T0, T1, T2, T3, T4, T5, T6, T7⟩, ⟨T8, T9, T10, T11, T12, T13, T14, T15⟩, T16⟩ := hT.get8) | (go_at_call 70; refine (HDEC.out _ _ hB).mono ?_; rintro e w6 ⟨A, cp, rfl, hsl, hb6⟩; have HSL := Lib.hid hsl; clear hsl))
 go_ret2
 exact ⟨_, _, rfl, HSL.out, bl_call hb00 (Nat.le_refl _) hb6⟩

end Go.Proofs.Ytbakkmfjamcbfaa

namespace Go.Proofs.Ytbakkmfjamcbfaa
open Go.RowKit Fm Go.Joins Go.ChangeShapes Go.WideShapes Go.Deep
set_option linter.unusedVariables false
set_option maxRecDepth 100000

/-! ### two new totals -/
def UnT (w0 : World) (o1 o2 o3 o4 : Option Nat) (wz : World) : Prop := Below w0.heap.size w0 wz
structure UnK (w0 : World) (n : Nat) (zs : List E) (o1 o2 o3 o4 : Option Nat) (s : Bool) (wz : World) : Prop where
 t : Below w0.heap.size w0 wz
 a : ∀ g, o1 = some g → w0.heap.size ≤ g ∧ BlkE wz g zs
 b : ∀ g, o2 = some g → w0.heap.size ≤ g ∧ BlkE wz g zs
 c : ∀ x, o3 = some x → w0.heap.size ≤ x ∧ (s = false → Vs wz x (totL (.slice none 0 0) 0 z16)) ∧ (s = true → ∀ g, o1 = some g → Vs wz x (totL (.slice (some ⟨g, 0, none⟩) n n) 0 z16))
 d : ∀ x, o4 = some x → w0.heap.size ≤ x ∧ Vs wz x (totL (.slice none 0 0) 0 z16)
 e : ∀ x x', o3 = some x → o4 = some x' → x ≠ x'
section
variable {w0 w w' : World} {n : Nat} {zs : List E} {o1 o2 o3 o4 : Option Nat} {s : Bool}
theorem UnK.weak (o1 o2 o3 o4 : Option Nat) (s : Bool) (w : World) (h : UnK w0 n zs o1 o2 o3 o4 s w) : UnT w0 o1 o2 o3 o4 w := h.t
theorem UnK.clo : Clo (UnK w0 n zs o1 o2 o3 o4 s) := fun w w' h hb => ⟨bl_call h.t (Nat.le_refl _) hb, fun g e => ⟨(h.a g e).1, (h.a g e).2.call hb⟩, fun g e => ⟨(h.b g e).1, (h.b g e).2.call hb⟩, fun x e => ⟨(h.c x e).1, fun e1 => ((h.c x e).2.1 e1).call hb, fun e1 g e2 => ((h.c x e).2.2 e1 g e2).call hb⟩, fun x e => ⟨(h.d x e).1, (h.d x e).2.call hb⟩, h.e⟩
theorem UnK.start (w0 : World) : UnK w0 n zs none none none none false w0.drew :=
 ⟨(Below.refl _ _).drew, fun _ e => (by cases e), fun _ e => (by cases e), fun _ e => (by cases e), fun _ e => (by cases e), fun _ _ e => (by cases e)⟩
theorem UnK.mkA {g : Nat} (h : UnK w0 n zs none o2 o3 o4 false w) (hB : BlkE w' g zs) (hg : w.heap.size ≤ g) (hb : Below w.heap.size w w') : UnK w0 n zs (some g) o2 o3 o4 false w' := by
 have h2 := UnK.clo _ _ h hb
 refine ⟨h2.t, fun g' e => ?_, h2.b, fun x e => ⟨(h2.c x e).1, (h2.c x e).2.1, fun e1 => (by cases e1)⟩, h2.d, h2.e⟩
 injection e with e
 subst e
 exact ⟨Nat.le_trans h.t.size hg, hB⟩
theorem UnK.mkB {g : Nat} (h : UnK w0 n zs o1 none o3 o4 s w) (hB : BlkE w' g zs) (hg : w.heap.size ≤ g) (hb : Below w.heap.size w w') : UnK w0 n zs o1 (some g) o3 o4 s w' := by
 have h2 := UnK.clo _ _ h hb
 refine ⟨h2.t, h2.a, fun g' e => ?_, h2.c, h2.d, h2.e⟩
 injection e with e
 subst e
 exact ⟨Nat.le_trans h.t.size hg, hB⟩
theorem UnK.mkC {cs : Array Value} {t : TypeId} (h : UnK w0 n zs o1 o2 none o4 false w) (hc : cs = (totL (.slice none 0 0) 0 z16).toArray) : UnK w0 n zs o1 o2 (some w.heap.size) o4 false (w.alloc (.cells cs t)) := by
 have h2 := UnK.clo _ _ h ((Below.refl w.heap.size w).alloc (Nat.le_refl _) (.cells cs t))
 refine ⟨h2.t, h2.a, h2.b, fun x e => ?_, h2.d, fun x x' e e' => ?_⟩
 ·injection e with e
  subst e
  exact ⟨h.t.size, fun _ => Vs.new w _ cs t hc, fun e => (by cases e)⟩
 ·injection e with e
  subst e
  have := (h.d x' e').2.lt
  omega
theorem UnK.mkD {cs : Array Value} {t : TypeId} (h : UnK w0 n zs o1 o2 o3 none false w) (hc : cs = (totL (.slice none 0 0) 0 z16).toArray) : UnK w0 n zs o1 o2 o3 (some w.heap.size) false (w.alloc (.cells cs t)) := by
 have h2 := UnK.clo _ _ h ((Below.refl w.heap.size w).alloc (Nat.le_refl _) (.cells cs t))
 refine ⟨h2.t, h2.a, h2.b, h2.c, fun x e => ?_, fun x x' e e' => ?_⟩
 ·injection e with e
  subst e
  exact ⟨h.t.size, Vs.new w _ cs t hc⟩
 ·injection e' with e'
  subst e'
  have := ((h.c x e).2.1 rfl).lt
  omega
theorem UnK.put {g x : Nat} (h : UnK w0 n zs (some g) o2 (some x) o4 false w) : UnK w0 n zs (some g) o2 (some x) o4 true (w.setCells x 0 (totL (.slice (some ⟨g, 0, none⟩) n n) 0 z16)) := by
 obtain ⟨c1, c2, _⟩ := h.c x rfl
 have hv := c2 rfl
 have hset := hv.setW (l' := totL (.slice (some ⟨g, 0, none⟩) n n) 0 z16) (by rw [totL_length _ _ z16_length, totL_length _ _ z16_length])
 have hnew : ∀ g', (some g : Option Nat) = some g' → totL (.slice (some ⟨g', 0, none⟩) n n) 0 z16 = totL (.slice (some ⟨g, 0, none⟩) n n) 0 z16 := fun g' e => by injection e with e; rw [e]
 generalize totL (.slice (some ⟨g, 0, none⟩) n n) 0 z16 = L at hset hnew ⊢
 have hbe : Below w0.heap.size w0 (w.setCells x 0 L) := bl_setCells h.t c1 0 _
 have n1 : ∀ (q : Nat), BlkE w q zs → x ≠ q := fun q h e => blk_vs (A := none) (n := 0) (c := 0) (m := 0) (k := z16) h hv e.symm
 refine ⟨hbe, fun g' e => ⟨(h.a g' e).1, (h.a g' e).2.farC (n1 g' (h.a g' e).2) _ _⟩, fun g' e => ⟨(h.b g' e).1, (h.b g' e).2.farC (n1 g' (h.b g' e).2) _ _⟩, fun x' e => ?_, fun x' e => ⟨(h.d x' e).1, (h.d x' e).2.farW (h.e x x' rfl e) _ _⟩, h.e⟩
 injection e with e
 subst e
 refine ⟨c1, fun e => (by cases e), fun _ g' e => ?_⟩
 rw [hnew g' e]
 exact hset
end

/-! ### rows of numbers -/
theorem make_u64 (n : Nat) (hn : n ≤ 1099511627776) (w : World) :
  (Instr.makeSlice 88 (.int .i64 (n : Int)) (.int .i64 (n : Int))).run Try.prog w = .ok (.slice (some ⟨w.heap.size, 0, none⟩) n n) (w.alloc (.cells (cellsU (natsI (List.replicate n 0))).toArray 22)) := by
 obtain ⟨i, hi, hz, h1, h2⟩ := info_parts infoU64
 have hr := run_make (P := Try.prog) w 88 22 i _ Try.underlying88 hi hz .i64 .i64 n n (by omega) (by omega) (by rw [h2]; omega) (by omega)
 rw [hr, h1]
 simp only [Int.toNat_natCast, Value.cells]
 have hm : madeCells #[Value.int IntKind.u64 0] (n * 1) = (cellsU (natsI (List.replicate n 0))).toArray := by
  apply Array.ext
  ·simp [madeCells, cellsU, natsI]
  ·intro i h1 h2
   simp only [madeCells, Array.getElem_map, Array.getElem_range, List.getElem_toArray, cellsU, natsI, List.getElem_map, List.getElem_replicate]
   simp [Nat.mod_one]
 rw [hm]
theorem natsI_get {l : List Nat} {i x : Nat} (h : l[i]? = some x) : (natsI l)[i]? = some (x : Int) := by unfold natsI; rw [List.getElem?_map, h]; rfl
theorem natsI_len (l : List Nat) : (natsI l).length = l.length := List.length_map ..
theorem Vs.numAt {w : World} {g : Nat} {l : List Nat} (h : Vs w g (cellsU (natsI l))) {i x : Nat} (hi : l[i]? = some x) : w.cell? ⟨g, i, none⟩ = some (.int .u64 (x : Int)) ∧ w.frozen? ⟨g, i, none⟩ = false ∧ g < w.heap.size :=
 ⟨h.cell i _ (cellsU_at (natsI_get hi)), h.frz i (by rw [length_cellsU, natsI_len]; exact (List.getElem?_eq_some_iff.1 hi).1), h.lt⟩
theorem Vs.numPut {w : World} {g : Nat} {l : List Nat} (h : Vs w g (cellsU (natsI l))) {i : Nat} (hi : i < l.length) (x : Nat) : Vs (w.setCell ⟨g, i, none⟩ (.int .u64 (x : Int))) g (cellsU (natsI (l.set i x))) := by
 have h2 := h.put i (by rw [length_cellsU, natsI_len]; exact hi) (.int .u64 (x : Int))
 have e : (cellsU (natsI l)).set i (.int .u64 (x : Int)) = cellsU (natsI (l.set i x)) := by
  unfold cellsU natsI
  rw [List.map_set, List.map_set]
 rwa [e] at h2
theorem addN_at {a b : List Nat} {j x y : Nat} (h1 : a[j]? = some x) (h2 : b[j]? = some y) : (addN a b)[j]? = some (x + y) := by
 unfold addN
 rw [List.getElem?_zipWith, h1, h2]

/-! ### an argument -/
section
variable {H : Type} {enc : TypeId × Value → H} {W : World} {base : Nat} {sp : Nat → Bool} {hd : Bool}
theorem num_lists : ∀ (rows : List (List Value)), (∀ r, r ∈ rows → ∃ e : Int, r = [.int .u64 e] ∧ okU e) → ∃ xs : List Int, rows = xs.map (fun e => [.int .u64 e]) ∧ ∀ e, e ∈ xs → okU e
 | [], _ => ⟨[], rfl, fun e h => (by cases h)⟩
 | r :: rows, h => by
  obtain ⟨es, h1, h2⟩ := num_lists rows fun q hq => h q (List.mem_cons_of_mem _ hq)
  obtain ⟨e, rfl, he⟩ := h r (List.mem_cons_self ..)
  refine ⟨e :: es, by rw [List.map_cons, ← h1], fun x hx => ?_⟩
  rcases List.mem_cons.1 hx with rfl | hx
  ·exact he
  ·exact h2 x hx
theorem wf_okU {n : Int} (h : (Lit.int .u64 n).wf = true) : okU n := by
 unfold okU
 simpa [Lit.wf, IntKind.min, IntKind.max, IntKind.signed, IntKind.bits] using h
theorem open_numsS {fuel : Nat} {v : Value} {x : DataW H × List MemPlace} (hf : DataW.trod enc Try.prog W base sp hd fuel 88 [v] = some x) : ∃ xs : List Int, SlU W W.heap.size v xs := by
 obtain ⟨rows, ⟨A, c, hv, h1, h2, h3⟩, h4⟩ := open_rows (q := 1) (fun r => ∃ e : Int, r = [.int .u64 e] ∧ okU e) Try.underlying88 (by kernel_rfl) (by omega) (fun hx => by
  obtain ⟨n, e0, _, w0⟩ := DataW.trod_int Try.underlying22 hx
  rw [e0]
  exact ⟨rfl, n, rfl, wf_okU w0⟩) hf
 obtain ⟨es, he, hok⟩ := num_lists rows fun r hr => (h4 r hr).2
 subst he
 rw [List.length_map] at hv h1 h3
 refine ⟨es, ⟨A, c, hv, h1, h2, fun hp => ?_⟩, hok⟩
 obtain ⟨b, o, k1, k2, k3⟩ := h3 hp
 refine ⟨b, o, k1, k2, fun i e hi => ?_⟩
 have hr : (es.map (fun e => [Value.int .u64 e]))[i]? = some [.int .u64 e] := by
  rw [List.getElem?_map, hi]
  rfl
 have h9 := k3 i _ hr 0 _ rfl
 rwa [Nat.mul_one, Nat.add_zero] at h9
theorem open_nums2 {r : Reach} {b0 : Nat} {v : Value} {d : DataW H} {pl : List MemPlace} (hval : Value.okWide Try.prog W r b0 86 v) (h : DataW.Trod enc Try.prog W base sp hd 86 v d pl) :
  ∃ rows : List (List Value), SlR W W.heap.size v 1 rows ∧ ∀ r, r ∈ rows → r.length = 1 ∧ ∃ (u : Value) (xs : List Int), r = [u] ∧ SlU W W.heap.size u xs :=
 open_rowsV (q := 1) (fun r => ∃ (u : Value) (xs : List Int), r = [u] ∧ SlU W W.heap.size u xs) Try.underlying86 (by kernel_rfl) (by omega) (fun {n cs y} hx => by
  have h1 : ∃ u, cs = [u] := by
   rcases DataW.trod_slice Try.underlying88 hx with ⟨h, _⟩ | ⟨_, _, _, _, _, _, _, h, _⟩
   ·exact ⟨_, h⟩
   ·exact ⟨_, h⟩
  obtain ⟨u, rfl⟩ := h1
  obtain ⟨xs, hxs⟩ := open_numsS hx
  exact ⟨rfl, u, xs, rfl, hxs⟩) hval h
end

end Go.Proofs.Ytbakkmfjamcbfaa
