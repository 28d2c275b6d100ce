/-
 Sums, Nums, BitsOf, EncM, Valid, Inv, RegD2: what the statements of this layer share.
-/
import Derived.Laws.Bits64b
import Derived.Test.YtfbfbijkkbflkaaGreatDoorMam
namespace Go.Proofs.YtfbfbijkkbflkaaGreatDoor
open Go.RowKit Fm
set_option linter.unusedVariables false
set_option maxRecDepth 100000

def nK (f : Nat) (n : Nat) : Fin (Pm f) := kL f (n : Int) 0
theorem nK_kI (f n : Nat) : nK f n = kI (Pm f) (n : Int) := by
 unfold nK
 rw [← kI_nI]
 congr 1
 unfold nI
 split <;> omega
theorem nK_add (f m n : Nat) : nK f (m + n) = nK f m + nK f n := by rw [nK_kI, nK_kI, nK_kI, Int.natCast_add, kI_add]
theorem nK_zero (f : Nat) : nK f 0 = 0 := kL_zero
theorem nK_one (f : Nat) : nK f 1 = 1 := kL_one

def ksum {f : Nat} (l : KL f) : Fin (Pm f) := l.foldl (· + ·) 0
theorem ksum_take {f : Nat} (l : KL f) (k : Nat) (x : Fin (Pm f)) (h : l[k]? = some x) : ksum (l.take (k + 1)) = ksum (l.take k) + x := by
 unfold ksum
 rw [List.take_add_one, h, List.foldl_append]
 rfl
def knum {f : Nat} (l : KL f) : Fin (Pm f) := l.foldr (fun a s => s + s + a) 0
theorem knum_drop {f : Nat} (p : KL f) (k : Nat) (a : Fin (Pm f)) (h : p[k]? = some a) : knum (p.drop k) = knum (p.drop (k + 1)) + knum (p.drop (k + 1)) + a := by
 obtain ⟨hlt, rfl⟩ := List.getElem?_eq_some_iff.1 h
 rw [List.drop_eq_getElem_cons hlt]
 rfl
def kpow (f : Nat) : Nat → Fin (Pm f)
 | 0 => 1
 | k + 1 => kpow f k + kpow f k
theorem knum_take {f : Nat} : ∀ (l : KL f) (k : Nat) (x : Fin (Pm f)), l[k]? = some x → knum (l.take (k + 1)) = knum (l.take k) + kpow f k * x
 | [], k, x, h => by simp at h
 | y :: l, 0, x, h => by
  obtain rfl : y = x := by simpa using h
  show (0 : Fin (Pm f)) + 0 + y = 0 + 1 * y
  grind
 | y :: l, k + 1, x, h => by
  have ih := knum_take l k x (by simpa using h)
  rw [List.take_succ_cons, List.take_succ_cons]
  show knum (l.take (k + 1)) + knum (l.take (k + 1)) + y = knum (l.take k) + knum (l.take k) + y + (kpow f k + kpow f k) * x
  rw [ih]
  grind

section
variable {f : Nat} (hf : IsF f)
include hf

set_option maxHeartbeats 4000000 in
theorem field_SumK (vl : Value) (l : KL f) (w : World) (hl : SlK w w.heap.size vl l) (hn : l.length ≤ 1099511627776) :
  Calls Tryz.prog 50 #[.int .u8 f, vl] w (RetK (ksum l) w) := by
 have HADD := Lib.hid (fun (x y : Fin (Pm f)) wz => field_AddK hf x y wz)
 obtain ⟨A, c, rfl, hc, hcm, hA⟩ := hl
 go_enter Tryz.func50, Tryz.ntmps50
 go_wp2
 go_loopw [10] (fun i wr => ∃ k : Nat, k ≤ l.length ∧ i = .int .i64 k ∧ V2 wr w.heap.size (.int .u64 0) (.int .u64 0) ∧ V2 wr (w.heap.size + 1) (.int .u64 (lo (ksum (l.take k)))) (.int .u64 (hi (ksum (l.take k)))) ∧ Below w.heap.size w wr) (fun i _ => l.length - (intOf i).toNat)
 case atStart =>
  refine ⟨0, Nat.zero_le _, rfl, (V2.new w _ _ 36).alloc _, ?_, by repeat (first | exact bA | with_reducible assumption | apply bB | (refine bC ?_ (by dsimp only; omega)) | apply bD | apply bE | (refine bF ?_ (by assumption)))⟩
  rw [List.take_zero, show ksum ([] : KL f) = 0 from rfl, lo_zero, hi_zero]
  have h := V2.new (w.alloc (.cells #[.int .u64 0, .int .u64 0] 36)) (.int .u64 0) (.int .u64 0) 36
  simpa only [World.size_alloc] using h
 case round =>
  obtain ⟨k, hk, rfl, hz, hy, hbw⟩ := hrel
  by_cases hlt : k < l.length
  ·obtain ⟨b, o, rfl, hB, hr⟩ := hA (by omega)
   obtain ⟨x, he⟩ : ∃ e, l[k]? = some e := ⟨_, List.getElem?_eq_getElem hlt⟩
   obtain ⟨d0, d1⟩ := (hr.below hbw hB).kat he
   have hbl : b < wr.heap.size := Nat.lt_of_lt_of_le hB hbw.size
   have HST := Lib.hid (ksum_take l k x he)
   generalize ksum (l.take k) = s at *
   clear he hr hA
   go_upto_region 5 with fail
   have hx := V2.new wr (.int .u64 (lo x)) (.int .u64 (hi x)) 36
   have hbA : Below wr.heap.size wr (wr.alloc (.cells #[.int .u64 (lo x), .int .u64 (hi x)] 36)) := by repeat (first | exact bA | with_reducible assumption | apply bB)
   replace hbw := bl_call hbw (Nat.le_refl _) hbA
   replace hz := hz.call hbA
   replace hy := hy.call hbA
   clear hbA
   generalize wr.alloc (.cells #[.int .u64 (lo x), .int .u64 (hi x)] 36) = w1 at hbw hz hy hx ⊢
   obtain ⟨z0, z1, z2, z3, z4⟩ := V2.mk hz.c0 hz.c1 hz.f0 hz.f1 hz.lt
   obtain ⟨y0, y1, y2, y3, y4⟩ := V2.mk hy.c0 hy.c1 hy.f0 hy.f1 hy.lt
   obtain ⟨x0, x1, x2, x3, x4⟩ := V2.mk hx.c0 hx.c1 hx.f0 hx.f1 hx.lt
   have hbx : wr.heap.size < w1.heap.size := hx.lt
   go_wp2_with (first
    | (go_at_call 51; refine (HADD.out s x _).mono ?_; rintro e w2 ⟨rfl, hb2⟩; replace hbw := bl_call hbw (Nat.le_refl _) hb2; replace hz := hz.call hb2; replace hy := hy.call hb2; replace hx := hx.call hb2; obtain ⟨z0, z1, z2, z3, z4⟩ := V2.mk hz.c0 hz.c1 hz.f0 hz.f1 hz.lt; obtain ⟨y0, y1, y2, y3, y4⟩ := V2.mk hy.c0 hy.c1 hy.f0 hy.f1 hy.lt))
   go_roundw
   case rel =>
    exact ⟨k + 1, by omega, by go_num, V2.oth hz (by omega) _ _, by rw [HST.out]; exact V2.set hy _ _, by repeat (first | exact bA | with_reducible assumption | apply bB | (refine bC ?_ (by dsimp only; omega)) | apply bD | apply bE | (refine bF ?_ (by assumption)))⟩
   case measure => simp [intOf]; omega
  ·obtain rfl : k = l.length := by omega
   rw [List.take_length] at hy
   obtain ⟨z0, z1, z2, z3, z4⟩ := V2.mk hz.c0 hz.c1 hz.f0 hz.f1 hz.lt
   obtain ⟨y0, y1, y2, y3, y4⟩ := V2.mk hy.c0 hy.c1 hy.f0 hy.f1 hy.lt
   go_wp2
   refine bodyPost_ret (results_v2 (b := w.heap.size) (u := .int .u64 (lo (ksum l))) (v := .int .u64 (hi (ksum l))) ?_ rfl rfl) rfl ?_
   ·exact V2.set hz _ _
   ·exact ⟨rfl, by repeat (first | exact bA | with_reducible assumption | apply bB | (refine bC ?_ (by dsimp only; omega)) | apply bD | apply bE | (refine bF ?_ (by assumption)))⟩

set_option maxHeartbeats 4000000 in
theorem circuit_number (k b m c n : Int) (vl : Value) (l : KL f) (w : World) (hl : SlK w w.heap.size vl l) (hn : l.length ≤ 1099511627776) :
  Calls Tryz.prog 54 #[.agg #[.int .u8 k, .int .u8 f, .int .i64 b, .int .i64 n, .int .i64 m, .int .i64 c], vl] w (RetK (knum l) w) := by
 obtain ⟨A, cc, rfl, hc, hcm, hA⟩ := hl
 have hfb0 : (1 : Int) ≤ (f : Int) := by rcases hf.or with rfl | rfl <;> omega
 have hfb1 : (f : Int) ≤ 2 := by rcases hf.or with rfl | rfl <;> omega
 have hb00 : Below w.heap.size w w := Below.refl _ _
 go_enter Tryz.func54, Tryz.ntmps54
 go_upto_region 2 with fail
 have hx := ((Vs.new w [.int .u8 k, .int .u8 f, .int .i64 b, .int .i64 n, .int .i64 m, .int .i64 c] #[.int .u8 k, .int .u8 f, .int .i64 b, .int .i64 n, .int .i64 m, .int .i64 c] 30 rfl).alloc (.cells #[.int .u64 0, .int .u64 0] 36)).alloc (.cells #[.int .u64 0, .int .u64 0] 36)
 have hz := (V2.new (w.alloc (.cells #[.int .u8 k, .int .u8 f, .int .i64 b, .int .i64 n, .int .i64 m, .int .i64 c] 30)) (.int .u64 0) (.int .u64 0) 36).alloc (.cells #[.int .u64 0, .int .u64 0] 36)
 have hy := V2.new ((w.alloc (.cells #[.int .u8 k, .int .u8 f, .int .i64 b, .int .i64 n, .int .i64 m, .int .i64 c] 30)).alloc (.cells #[.int .u64 0, .int .u64 0] 36)) (.int .u64 0) (.int .u64 0) 36
 have hbA : Below w.heap.size w (((w.alloc (.cells #[.int .u8 k, .int .u8 f, .int .i64 b, .int .i64 n, .int .i64 m, .int .i64 c] 30)).alloc (.cells #[.int .u64 0, .int .u64 0] 36)).alloc (.cells #[.int .u64 0, .int .u64 0] 36)) := by repeat (first | exact bA | with_reducible assumption | apply bB | (refine bC ?_ (by dsimp only; omega)) | apply bD | apply bE | (refine bF ?_ (by assumption)))
 simp only [World.size_alloc] at hz hy
 generalize ((w.alloc (.cells #[.int .u8 k, .int .u8 f, .int .i64 b, .int .i64 n, .int .i64 m, .int .i64 c] 30)).alloc (.cells #[.int .u64 0, .int .u64 0] 36)).alloc (.cells #[.int .u64 0, .int .u64 0] 36) = w1 at hx hz hy hbA ⊢
 clear hb00
 go_wp2
 go_loopw [6] (fun i wr => ∃ j : Nat, j ≤ l.length ∧ i = .int .i64 ((j : Int) - 1) ∧ Vs wr w.heap.size [.int .u8 k, .int .u8 f, .int .i64 b, .int .i64 n, .int .i64 m, .int .i64 c] ∧ V2 wr (w.heap.size + 1) (.int .u64 0) (.int .u64 0) ∧
   V2 wr (w.heap.size + 1 + 1) (.int .u64 (lo (knum (l.drop j)))) (.int .u64 (hi (knum (l.drop j)))) ∧ Below w.heap.size w wr) (fun i _ => (intOf i + 1).toNat)
 case atStart =>
  refine ⟨l.length, Nat.le_refl _, rfl, hx, hz, ?_, hbA⟩
  rw [List.drop_length, show knum ([] : KL f) = 0 from rfl, lo_zero, hi_zero]
  exact hy
 case round =>
  clear hx hz hy hbA
  obtain ⟨j, hj, rfl, hx, hz, hy, hbw⟩ := hrel
  obtain ⟨⟨x0, x1, x2, x3, x4, x5⟩, ⟨x6, x7, x8, x9, x10, x11⟩, x12⟩ := hx.get6
  obtain ⟨z0, z1, z2, z3, z4⟩ := V2.mk hz.c0 hz.c1 hz.f0 hz.f1 hz.lt
  obtain ⟨y0, y1, y2, y3, y4⟩ := V2.mk hy.c0 hy.c1 hy.f0 hy.f1 hy.lt
  by_cases hj0 : j = 0
  ·subst hj0
   rw [List.drop_zero] at hy y0 y1
   go_wp2
   refine bodyPost_ret (results_v2 (b := w.heap.size + 1) (u := .int .u64 (lo (knum l))) (v := .int .u64 (hi (knum l))) ?_ rfl rfl) rfl ?_
   ·exact V2.set hz _ _
   ·exact ⟨rfl, by repeat (first | exact bA | with_reducible assumption | apply bB | (refine bC ?_ (by dsimp only; omega)) | apply bD | apply bE | (refine bF ?_ (by assumption)))⟩
  ·obtain ⟨j, rfl⟩ : ∃ i, j = i + 1 := ⟨j - 1, by omega⟩
   obtain ⟨bl, o, rfl, hB, hr⟩ := hA (by omega)
   obtain ⟨x, he⟩ : ∃ e, l[j]? = some e := ⟨_, List.getElem?_eq_getElem (by omega)⟩
   obtain ⟨d0, d1⟩ := (hr.below hbw hB).kat he
   have HST := Lib.hid (knum_drop l j x he)
   generalize knum (l.drop (j + 1)) = s at *
   clear he hr hA
   have hkl : j < l.length := by omega
   have hbl : bl < wr.heap.size := Nat.lt_of_lt_of_le hB hbw.size
   go_wp2_with fail
   refine region_B (n := 12) (m := 13) (f := 12) (by kernel_rfl) (by kernel_rfl) rfl ?_
   refine WpH.vD 0 (some 14) ?_ rfl rfl (by kernel_rfl) (fun _ _ _ h => h) rfl (fun wz hwz => ?_) ?_
   rotate_left
   ·go_simp; try (with_reducible rfl)
   simp only [Zp, Zq, Zr, Zs]
   refine WpH.vD 1 (some 15) ?_ rfl rfl (by kernel_rfl) (fun _ _ _ h => h) rfl (fun wz hwz => ?_) ?_
   rotate_left
   ·(obtain ⟨hcz, hfz⟩ := bcell hwz; go_simp; try (with_reducible rfl))
   simp only [Zp, Zq, Zr, Zs]
   refine WpH.vD 2 (some 16) ?_ rfl rfl (by kernel_rfl) (fun _ _ _ h => h) rfl (fun wz hwz => ?_) ?_
   rotate_left
   ·go_simp; try (with_reducible rfl)
   simp only [Zp, Zq, Zr, Zs]
   refine WpH.vD 3 (some 17) ?_ rfl rfl (by kernel_rfl) (fun _ _ _ h => h) rfl (fun wz hwz => ?_) ?_
   rotate_left
   ·(obtain ⟨hcz, hfz⟩ := bcell hwz; go_simp; try (with_reducible rfl))
   simp only [Zp, Zq, Zr, Zs]
   refine WpH.vD 4 (some 18) ?_ rfl rfl (by kernel_rfl) (fun _ _ _ h => h) rfl (fun wz hwz => ?_) ?_
   rotate_left
   ·(obtain ⟨hcz, hfz⟩ := bcell hwz; go_simp; try (with_reducible rfl))
   simp only [Zp, Zq, Zr, Zs]
   refine WpH.vD 5 (some 19) ?_ rfl rfl (by kernel_rfl) (fun _ _ _ h => h) rfl (fun wz hwz => ?_) ?_
   rotate_left
   ·(obtain ⟨hcz, hfz⟩ := bcell hwz; go_simp; try (with_reducible rfl))
   simp only [Zp, Zq, Zr, Zs]
   refine WpH.takeD 6 (some 20) rfl rfl (by kernel_rfl) (fun _ _ _ h => h) (.call rfl (fun wz hwz => field_AddK hf s s wz) (fun wz hwz => ?_)) ?_
   ·go_simp; try (with_reducible rfl)
   simp only [Zp, Zq, Zr, Zs]
   refine WpH.vD 7 (some 21) ?_ rfl rfl (by kernel_rfl) (fun _ _ _ h => h) rfl (fun wz hwz => ?_) ?_
   rotate_left
   ·go_simp; try (with_reducible rfl)
   simp only [Zp, Zq, Zr, Zs]
   refine WpH.vD 8 (some 22) ?_ rfl rfl (by kernel_rfl) (fun _ _ _ h => h) rfl (fun wz hwz => ?_) ?_
   rotate_left
   ·go_simp; try (with_reducible rfl)
   simp only [Zp, Zq, Zr, Zs]
   refine WpH.vD 9 (some 23) ?_ rfl rfl (by kernel_rfl) (fun _ _ _ h => h) rfl (fun wz hwz => ?_) ?_
   rotate_left
   ·go_simp; try (with_reducible rfl)
   simp only [Zp, Zq, Zr, Zs]
   refine WpH.vD 10 (some 24) ?_ rfl rfl (by kernel_rfl) (fun _ _ _ h => h) rfl (fun wz hwz => ?_) ?_
   rotate_left
   ·(obtain ⟨hcz, hfz⟩ := bcell hwz; go_simp; try (with_reducible rfl))
   simp only [Zp, Zq, Zr, Zs]
   refine WpH.takeD 11 (some 25) rfl rfl (by kernel_rfl) (fun _ _ _ h => h) (.call rfl (fun wz hwz => field_AddK hf (s + s) x wz) (fun wz hwz => ?_)) ?_
   ·go_simp; try (with_reducible rfl)
   simp only [Zp, Zq, Zr, Zs]
   refine WpH.doneB (by kernel_rfl) (fun w6 hw6 => ?_)
   (try simp only [List.drop_succ_cons]); (try simp only [List.drop_zero]); (try simp only [Nat.reduceSub]); (try simp only [List.take_succ_cons]); (try simp only [List.take_zero])
   clear x0 x1 x2 x3 x4 x5 x6 x7 x8 x9 x10 x11 x12 z0 z1 z2 z3 z4 y0 y1 y2 y3 y4
   replace hbw := bl_call hbw (Nat.le_refl _) hw6
   replace hx := hx.call hw6
   replace hz := hz.call hw6
   replace hy := hy.call hw6
   obtain ⟨⟨x0, x1, x2, x3, x4, x5⟩, ⟨x6, x7, x8, x9, x10, x11⟩, x12⟩ := hx.get6
   obtain ⟨z0, z1, z2, z3, z4⟩ := V2.mk hz.c0 hz.c1 hz.f0 hz.f1 hz.lt
   obtain ⟨y0, y1, y2, y3, y4⟩ := V2.mk hy.c0 hy.c1 hy.f0 hy.f1 hy.lt
   go_wp2
   go_roundw
   case rel => exact ⟨j, by omega, by go_num, (hx.far (by dsimp only; omega) _).far (by dsimp only; omega) _, V2.oth hz (by omega) _ _, by rw [HST.out]; exact V2.set hy _ _, by repeat (first | exact bA | with_reducible assumption | apply bB | (refine bC ?_ (by dsimp only; omega)) | apply bD | apply bE | (refine bF ?_ (by assumption)))⟩
   case measure => simp [intOf]

end

end Go.Proofs.YtfbfbijkkbflkaaGreatDoor

namespace Go.Proofs.YtfbfbijkkbflkaaGreatDoor
open Go.RowKit Fm Go.ChangeShapes Go.WideShapes Go.Deep
set_option linter.unusedVariables false
set_option maxRecDepth 100000

def RowU (w : World) (b o : Nat) (xs : List Int) : Prop := ∀ (i : Nat) (e : Int), xs[i]? = some e → w.cell? ⟨b, o + i, none⟩ = some (.int .u64 e)
def okU (e : Int) : Prop := 0 ≤ e ∧ e ≤ 18446744073709551615

structure SlU (w : World) (B : Nat) (v : Value) (xs : List Int) : Prop where
 ex : ∃ (A : Option Addr) (c : Nat), v = .slice A xs.length c ∧ xs.length ≤ c ∧ c ≤ 9223372036854775807 ∧ (0 < xs.length → ∃ b o, A = some ⟨b, o, none⟩ ∧ b < B ∧ RowU w b o xs)
 ok : ∀ e, e ∈ xs → okU e

theorem RowU.call {w w' : World} {b o : Nat} {xs : List Int} (h : RowU w b o xs) (hb : Below w.heap.size w w') : RowU w' b o xs := fun i e hi => cell_call (h i e hi) hb
theorem RowU.below {w w' : World} {B b o : Nat} {xs : List Int} (h : RowU w b o xs) (hb : Below B w w') (hB : b < B) : RowU w' b o xs := fun i e hi => (hb.cell (p := ⟨b, o + i, none⟩) hB).trans (h i e hi)
theorem SlU.below {w w' : World} {B : Nat} {v : Value} {xs : List Int} (h : SlU w B v xs) (hb : Below B w w') : SlU w' B v xs := by
 obtain ⟨⟨A, c, hv, h1, h2, h3⟩, ok⟩ := h
 exact ⟨⟨A, c, hv, h1, h2, fun hn => let ⟨b, o, hA, hB, hr⟩ := h3 hn; ⟨b, o, hA, hB, hr.below hb hB⟩⟩, ok⟩
theorem SlU.mono {w : World} {B B' : Nat} {v : Value} {xs : List Int} (h : SlU w B v xs) (hB : B ≤ B') : SlU w B' v xs := by
 obtain ⟨⟨A, c, hv, h1, h2, h3⟩, ok⟩ := h
 exact ⟨⟨A, c, hv, h1, h2, fun hn => let ⟨b, o, hA, hb, hr⟩ := h3 hn; ⟨b, o, hA, Nat.lt_of_lt_of_le hb hB, hr⟩⟩, ok⟩
theorem SlU.later {w w' : World} {v : Value} {xs : List Int} (h : SlU w w.heap.size v xs) (hb : Below w.heap.size w w') : SlU w' w'.heap.size v xs := (h.below hb).mono hb.size
theorem SlU.nil (w : World) (B : Nat) : SlU w B (.slice none 0 0) [] := ⟨⟨none, 0, rfl, Nat.le_refl _, by simp, fun h => absurd h (by simp)⟩, fun _ h => by cases h⟩

def cellsU (xs : List Int) : List Value := xs.map (.int .u64)
theorem cellsU_at {xs : List Int} {i : Nat} {e : Int} (h : xs[i]? = some e) : (cellsU xs)[i]? = some (.int .u64 e) := by unfold cellsU; rw [List.getElem?_map, h]; rfl
theorem RowU.cells {w : World} {b o : Nat} {xs : List Int} (h : RowU w b o xs) (j : Nat) (u : Value) (hu : (cellsU xs)[j]? = some u) : w.cell? ((⟨b, o, none⟩ : Addr).add j) = some u := by
 have ha : (⟨b, o, none⟩ : Addr).add j = ⟨b, o + j, none⟩ := by
  unfold Addr.add
  split <;> simp_all
 rw [ha]
 unfold cellsU at hu
 rw [List.getElem?_map] at hu
 cases hx : xs[j]? with
 | none => rw [hx] at hu; cases hu
 | some e =>
  rw [hx] at hu
  injection hu with hu
  subst hu
  exact h j e hx

theorem SlU.of_own {w : World} {base : Nat} {v : Value} {xs : List Int} (h : w.ownsRow base 25 1 v xs.length (cellsU xs)) (ok : ∀ e, e ∈ xs → okU e) : SlU w w.heap.size v xs := by
 rcases h.2 with ⟨rfl, h0⟩ | ⟨g, cap, cur, rfl, hb, hg, hnc, hcm, hcs, htk⟩
 ·refine ⟨⟨none, 0, by rw [h0], by omega, by omega, fun hn => by omega⟩, ok⟩
 ·refine ⟨⟨some ⟨g, 0, none⟩, cap, rfl, hnc, by unfold maxLen at hcm; omega, fun _ => ⟨g, 0, rfl, (Array.getElem?_eq_some_iff.1 hg).1, fun i e hi => ?_⟩⟩, ok⟩
  have f1 := h.cells (g := g) rfl i _ (cellsU_at hi)
  have ha : (⟨g, 0, none⟩ : Addr).add i = ⟨g, 0 + i, none⟩ := by
   unfold Addr.add
   split <;> simp_all
  rw [ha] at f1
  exact f1

section
variable {H : Type} {enc : TypeId × Value → H} {W : World} {base : Nat} {sp : Nat → Bool} {hd : Bool}
end

end Go.Proofs.YtfbfbijkkbflkaaGreatDoor

namespace Go.Proofs.YtfbfbijkkbflkaaGreatDoor
open Go.RowKit Fm
set_option linter.unusedVariables false
set_option maxRecDepth 100000

def RetOwn {f : Nat} (l : KL f) (w : World) (e : Ending) (w' : World) : Prop :=
 ∃ v, e = .returned v ∧ w'.ownsRow w.heap.size 36 2 v l.length (cellsE (esK l)) ∧ Below w.heap.size w w'

theorem own_sl {f : Nat} {w : World} {base : Nat} {v : Value} {n : Nat} {l : KL f} (hl : l.length = n) (h : w.ownsRow base 36 2 v n (cellsE (esK l))) : SlK w w.heap.size v l := by
 subst hl
 exact (SlE.of_own (xs := esK l) (by rw [esK_length]; exact h) (esK_ok l)).toK

theorem own_mono {w : World} {base base' : Nat} {e : TypeId} {size : Nat} {v : Value} {n : Nat} {xs : List Value} (h : w.ownsRow base e size v n xs) (hB : base' ≤ base) : w.ownsRow base' e size v n xs := by
 refine ⟨h.1, ?_⟩
 rcases h.2 with h | ⟨g, cap, cur, h1, h2, h3⟩
 ·exact .inl h
 ·exact .inr ⟨g, cap, cur, h1, Nat.le_trans hB h2, h3⟩

section
variable {f : Nat} (hf : IsF f)
include hf

end

end Go.Proofs.YtfbfbijkkbflkaaGreatDoor

namespace Go.Proofs.YtfbfbijkkbflkaaGreatDoor
open Go.RowKit Fm
set_option linter.unusedVariables false
set_option maxRecDepth 100000

theorem own_shape {w : World} {base : Nat} {e : TypeId} {size : Nat} {v : Value} {n : Nat} {xs : List Value} (h : w.ownsRow base e size v n xs) : ∃ (A : Option Addr) (cp : Nat), v = .slice A n cp := by
 rcases h.2 with ⟨hv, hn⟩ | ⟨g, cap, cur, hv, _⟩
 ·subst hn
  exact ⟨_, _, hv⟩
 ·exact ⟨_, _, hv⟩

section
variable {f : Nat} (hf : IsF f)
include hf

end

end Go.Proofs.YtfbfbijkkbflkaaGreatDoor

namespace Go.Proofs.YtfbfbijkkbflkaaGreatDoor
open Go.RowKit Fm
set_option linter.unusedVariables false
set_option maxRecDepth 100000

theorem lohi_eq {f : Nat} (x y : Fin (Pm f)) : (lo x == lo y && hi x == hi y) = decide (x = y) := by
 by_cases h : x = y
 ·subst h
  simp
 ·rw [decide_eq_false h, Bool.and_eq_false_iff, beq_eq_false_iff_ne, beq_eq_false_iff_ne]
  by_cases h0 : lo x = lo y
  ·exact .inr fun h1 => h (lohi_inj h0 h1)
  ·exact .inl h0

theorem SlK.takeN {f : Nat} {w : World} {B : Nat} {A : Option Addr} {c : Nat} {l : KL f} {n : Nat} (h : SlK w B (.slice A l.length c) l) (hn : n ≤ l.length) (v : Value) (hv : v = .slice A n c) : SlK w B v (l.take n) := by
 obtain ⟨A', c', hh, h1, h2, h3⟩ := h
 injection hh with e1 e2 e3
 subst e1
 subst e3
 have hl : (l.take n).length = n := by rw [List.length_take]; omega
 refine ⟨A, c, by rw [hl]; exact hv, by omega, h2, fun h0 => ?_⟩
 rw [hl] at h0
 obtain ⟨b, o, hA, hB, hr⟩ := h3 (by omega)
 refine ⟨b, o, hA, hB, fun i e hi => hr i e ?_⟩
 unfold esK at hi ⊢
 rw [List.map_take] at hi
 rw [← hi, List.getElem?_take]
 split
 ·rfl
 ·rename_i hge
  rw [List.getElem?_take, if_neg hge] at hi
  cases hi

theorem SlK.dropN {f : Nat} {w : World} {B b o : Nat} {c : Nat} {l : KL f} {n : Nat} (h : SlK w B (.slice (some ⟨b, o, none⟩) l.length c) l) (hn : n < l.length) : SlK w B (.slice (some ⟨b, o + n * 2, none⟩) (l.length - n) (c - n)) (l.drop n) := by
 obtain ⟨A', c', hh, h1, h2, h3⟩ := h
 injection hh with e1 e2 e3
 subst e1
 subst e3
 have hl : (l.drop n).length = l.length - n := List.length_drop
 refine ⟨some ⟨b, o + n * 2, none⟩, c - n, by rw [hl], by omega, by omega, fun h0 => ?_⟩
 obtain ⟨b', o', hA, hB, hr⟩ := h3 (by omega)
 injection hA with hA
 injection hA with hb ho
 subst hb
 subst ho
 refine ⟨b, o + n * 2, rfl, hB, fun i e hi => ?_⟩
 unfold esK at hi
 rw [List.map_drop, List.getElem?_drop] at hi
 have h4 := hr (n + i) e hi
 rw [show o + n * 2 + i * 2 = o + (n + i) * 2 by omega]
 exact h4

section
variable {f : Nat} (hf : IsF f)
include hf

end

end Go.Proofs.YtfbfbijkkbflkaaGreatDoor

namespace Go.Proofs.YtfbfbijkkbflkaaGreatDoor
open Go.RowKit Fm
set_option linter.unusedVariables false
set_option maxRecDepth 100000

def kpw {f : Nat} (x : Fin (Pm f)) : Nat → Fin (Pm f)
 | 0 => 1
 | n + 1 => kpw x n * x
theorem kpw_add {f : Nat} (x : Fin (Pm f)) (m : Nat) : ∀ n, kpw x (m + n) = kpw x m * kpw x n
 | 0 => by
  show kpw x m = kpw x m * 1
  grind
 | n + 1 => by
  show kpw x (m + n) * x = kpw x m * (kpw x n * x)
  rw [kpw_add x m n]
  grind
theorem kpw_bit {f : Nat} (x : Fin (Pm f)) (n k : Nat) : kpw x (n % 2 ^ (k + 1)) = if n / 2 ^ k % 2 = 1 then kpw x (n % 2 ^ k) * kpw x (2 ^ k) else kpw x (n % 2 ^ k) := by
 rw [Nat.mod_pow_succ]
 rcases (by omega : n / 2 ^ k % 2 = 0 ∨ n / 2 ^ k % 2 = 1) with h | h
 ·rw [h, if_neg (by omega), Nat.mul_zero, Nat.add_zero]
 ·rw [h, if_pos rfl, Nat.mul_one, kpw_add]
theorem kpw_twice {f : Nat} (x : Fin (Pm f)) (k : Nat) : kpw x (2 ^ (k + 1)) = kpw x (2 ^ k) * kpw x (2 ^ k) := by
 rw [Nat.pow_succ, Nat.mul_two, kpw_add]
theorem bit_of (n0 n1 k : Nat) (h0 : n0 ≤ 18446744073709551615) (hk : k < 128) : (n0 + 18446744073709551616 * n1) / 2 ^ k % 2 = (if k < 64 then n0 else n1) / 2 ^ (k % 64) % 2 := by
 by_cases h : k < 64
 ·rw [if_pos h, Nat.mod_eq_of_lt h]
  rw [show 18446744073709551616 * n1 = 2 ^ k * (2 * (2 ^ (63 - k) * n1)) by
   rw [← Nat.mul_assoc 2, ← Nat.pow_succ', ← Nat.mul_assoc, ← Nat.pow_add, show k + (63 - k).succ = 64 by omega], Nat.add_mul_div_left _ _ (Nat.two_pow_pos k), Nat.add_mul_mod_self_left]
 ·rw [if_neg h]
  have h1 : (n0 + 18446744073709551616 * n1) / 2 ^ 64 = n1 := by omega
  have h2 : 2 ^ k = 2 ^ 64 * 2 ^ (k % 64) := by rw [← Nat.pow_add, show 64 + k % 64 = k by omega]
  rw [h2, ← Nat.div_div_eq_div_mul, h1]

set_option maxHeartbeats 4000000 in
theorem wide_Pow (a0 a1 : Int) (n0 n1 : Nat) (w : World) (h0 : 0 ≤ a0) (h1 : a0 ≤ 18446744073709551615) (k0 : 0 ≤ a1) (k1 : a1 ≤ 18446744073709551615) (g0 : n0 ≤ 18446744073709551615) (g1 : n1 ≤ 18446744073709551615) :
  Calls Tryz.prog 56 #[.agg #[.int .u64 a0, .int .u64 a1], .agg #[.int .u64 n0, .int .u64 n1]] w (RetK (kpw (kL 2 a0 a1) (n0 + 18446744073709551616 * n1)) w) := by
 have HO := Lib.hid (fun wz => wide_OfK a0 a1 wz h0 h1 k0 k1)
 have HB := Lib.hid (fun k hk => bit_of n0 n1 k g0 hk)
 generalize kL 2 a0 a1 = x at *
 have HMU : Hid (∀ (y z : Fin (Pm 2)) wz, Calls Tryz.prog 101 #[vK y, vK z] wz (RetK (y * z) wz)) := fun y z wz => by
  have h := wide_MulL (lo y) (hi y) (lo z) (hi z) wz (lo_0 y) (lo_1 y) (hi_0 y) (hi_1 y) (lo_0 z) (lo_1 z) (hi_0 z) (hi_1 z)
  rwa [kL_lohi, kL_lohi] at h
 have HNL : Hid ((n0 + 18446744073709551616 * n1) % 2 ^ 128 = n0 + 18446744073709551616 * n1) := Nat.mod_eq_of_lt (by omega)
 generalize n0 + 18446744073709551616 * n1 = N at *
 have HP0 : Hid (kpw x (2 ^ 0) = x) := by show 1 * x = x; grind
 have HM0 : Hid (kpw x (N % 2 ^ 0) = 1) := by show _ = _; rw [Nat.pow_zero, Nat.mod_one]; rfl
 go_enter Tryz.func56, Tryz.ntmps56
 go_upto_region 1 with fail
 have q0 := ((V2.new w (.int .u64 a0) (.int .u64 a1) 36).alloc (.cells #[(.int .u64 n0), (.int .u64 n1)] 36)).alloc (.cells #[(.int .u64 0), (.int .u64 0)] 36)
 have t0 := (V2.new (w.alloc (.cells #[(.int .u64 a0), (.int .u64 a1)] 36)) (.int .u64 n0) (.int .u64 n1) 36).alloc (.cells #[(.int .u64 0), (.int .u64 0)] 36)
 have s0 := V2.new ((w.alloc (.cells #[(.int .u64 a0), (.int .u64 a1)] 36)).alloc (.cells #[(.int .u64 n0), (.int .u64 n1)] 36)) (.int .u64 0) (.int .u64 0) 36
 simp only [World.size_alloc] at t0 s0
 have hb00 : Below w.heap.size w (((w.alloc (.cells #[(.int .u64 a0), (.int .u64 a1)] 36)).alloc (.cells #[(.int .u64 n0), (.int .u64 n1)] 36)).alloc (.cells #[(.int .u64 0), (.int .u64 0)] 36)) := by repeat (first | exact bA | with_reducible assumption | apply bB)
 have hsz : w.heap.size + 3 ≤ (((w.alloc (.cells #[(.int .u64 a0), (.int .u64 a1)] 36)).alloc (.cells #[(.int .u64 n0), (.int .u64 n1)] 36)).alloc (.cells #[(.int .u64 0), (.int .u64 0)] 36)).heap.size := by simp only [World.size_alloc]; omega
 generalize (((w.alloc (.cells #[(.int .u64 a0), (.int .u64 a1)] 36)).alloc (.cells #[(.int .u64 n0), (.int .u64 n1)] 36)).alloc (.cells #[(.int .u64 0), (.int .u64 0)] 36)) = w1 at q0 t0 s0 hb00 hsz ⊢
 go_upto_region 2 with fail
 have o0 := V2.new w1 (.int .u64 1) (.int .u64 0) 36
 have hbA : Below w1.heap.size w1 (w1.alloc (.cells #[.int .u64 1, .int .u64 0] 36)) := by repeat (first | exact bA | with_reducible assumption | apply bB)
 replace hb00 := bl_call hb00 (Nat.le_refl _) hbA
 replace q0 := q0.call hbA
 replace t0 := t0.call hbA
 replace s0 := s0.call hbA
 clear hbA
 generalize w1.alloc (.cells #[.int .u64 1, .int .u64 0] 36) = w2 at hb00 q0 t0 s0 o0 ⊢
 have hob := hsz
 generalize w1.heap.size = ob at *
 obtain ⟨q00, q01, q02, q03, q04⟩ := V2.mk q0.c0 q0.c1 q0.f0 q0.f1 q0.lt
 go_upto_region 3 with (first
  | (go_at_call 100; refine (HO.out _).mono ?_; rintro e w3 ⟨rfl, hb3⟩; replace hb00 := bl_call hb00 (Nat.le_refl _) hb3; replace q0 := q0.call hb3; replace t0 := t0.call hb3; replace s0 := s0.call hb3; replace o0 := o0.call hb3; clear q00 q01 q02 q03 q04; clear hb3; obtain ⟨q00, q01, q02, q03, q04⟩ := V2.mk q0.c0 q0.c1 q0.f0 q0.f1 q0.lt))
 clear q00 q01 q02 q03 q04
 replace q0 : V2 ((w3.setCell ⟨w.heap.size, 0, none⟩ (.int .u64 (lo x))).setCell ⟨w.heap.size, 1, none⟩ (.int .u64 (hi x))) (w.heap.size) (.int .u64 (lo x)) (.int .u64 (hi x)) := V2.set q0 _ _
 replace t0 := V2.oth t0 (b := w.heap.size) (by omega) (.int .u64 (lo x)) (.int .u64 (hi x))
 replace s0 := V2.oth s0 (b := w.heap.size) (by omega) (.int .u64 (lo x)) (.int .u64 (hi x))
 replace o0 := V2.oth o0 (b := w.heap.size) (by omega) (.int .u64 (lo x)) (.int .u64 (hi x))
 replace hb00 := bl_st hb00 (b := w.heap.size) (by omega) (.int .u64 (lo x)) (.int .u64 (hi x))
 generalize ((w3.setCell ⟨w.heap.size, 0, none⟩ (.int .u64 (lo x))).setCell ⟨w.heap.size, 1, none⟩ (.int .u64 (hi x))) = w4 at q0 t0 s0 o0 hb00 ⊢
 clear HO hsz
 go_wp2_with fail
 go_loopw [10] (fun i wr => ∃ (k : Nat) (y o : Fin (Pm 2)), k ≤ 128 ∧ i = .int .i64 k ∧ Hid (y = kpw x (2 ^ k)) ∧ Hid (o = kpw x (N % 2 ^ k)) ∧ V2 wr w.heap.size (.int .u64 (lo y)) (.int .u64 (hi y)) ∧ V2 wr (w.heap.size + 1) (.int .u64 n0) (.int .u64 n1) ∧ V2 wr (w.heap.size + 2) (.int .u64 0) (.int .u64 0) ∧
  V2 wr ob (.int .u64 (lo o)) (.int .u64 (hi o)) ∧ Below w.heap.size w wr) (fun i _ => 128 - (intOf i).toNat)
 case atStart => exact ⟨0, x, 1, by omega, rfl, HP0.out.symm, HM0.out.symm, q0, t0, s0, by rw [lo_one, hi_one]; exact o0, hb00⟩
 case round =>
  clear q0 t0 s0 o0 hb00
  obtain ⟨k, y, o, hk, rfl, hy, ho, q0, t0, s0, o0, hb00⟩ := hrel
  by_cases hlt : k < 128
  ·have HY2 : Hid (y * y = kpw x (2 ^ (k + 1))) := by show _ = _; rw [kpw_twice, hy.out]
   have HKB := Lib.hid (kpw_bit x N k)
   by_cases h : k < 64
   ·skip
    have hq0 : (k : Int) / 64 = 0 := by omega
    have hbit := HB.out k hlt
    rw [if_pos h] at hbit
    obtain ⟨c, hc⟩ : ∃ c, k % 64 = c := ⟨_, rfl⟩
    have hir : (k : Int) % 64 = (c : Int) := by omega
    have hc64 : c < 64 := by omega
    have hc0 : (0 : Int) ≤ (c : Int) := by omega
    rw [hc] at hbit
    obtain ⟨d, hd⟩ : ∃ d, n0 / 2 ^ c % 2 = d := ⟨_, rfl⟩
    have hd2 : d = 0 ∨ d = 1 := by rw [← hd]; omega
    have hand : bits .and .u64 ((n0 : Int) / 2 ^ c) 1 = (d : Int) := by
     rw [show (n0 : Int) / 2 ^ c = ((n0 / 2 ^ c : Nat) : Int) by rw [Int.natCast_ediv, Int.natCast_pow]; rfl, show (1 : Int) = ((1 : Nat) : Int) from rfl,
      bits_and_u64_nat _ _ (Nat.lt_of_le_of_lt (Nat.div_le_self _ _) (by omega)) (by omega), Nat.and_one_is_mod, hd]
    have HBD := Lib.hid (hbit.trans hd)
    clear hbit hd hc h
    obtain ⟨q00, q01, q02, q03, q04⟩ := V2.mk q0.c0 q0.c1 q0.f0 q0.f1 q0.lt
    obtain ⟨t00, t01, t02, t03, t04⟩ := V2.mk t0.c0 t0.c1 t0.f0 t0.f1 t0.lt
    obtain ⟨o00, o01, o02, o03, o04⟩ := V2.mk o0.c0 o0.c1 o0.f0 o0.f1 o0.lt
    rcases hd2 with rfl | rfl
    ·have HKN : Hid (o = kpw x (N % 2 ^ (k + 1))) := by show _ = _; rw [HKB.out, HBD.out, if_neg (by omega), ho.out]
     go_upto_region 9 with (first
      | (go_at_call 101; refine (HMU.out _ _ _).mono ?_; rintro e w5 ⟨rfl, hb5⟩; replace hb00 := bl_call hb00 (Nat.le_refl _) hb5; replace q0 := q0.call hb5; replace t0 := t0.call hb5; replace s0 := s0.call hb5; replace o0 := o0.call hb5; clear q00 q01 q02 q03 q04 t00 t01 t02 t03 t04 o00 o01 o02 o03 o04; clear hb5; obtain ⟨q00, q01, q02, q03, q04⟩ := V2.mk q0.c0 q0.c1 q0.f0 q0.f1 q0.lt; obtain ⟨t00, t01, t02, t03, t04⟩ := V2.mk t0.c0 t0.c1 t0.f0 t0.f1 t0.lt; obtain ⟨o00, o01, o02, o03, o04⟩ := V2.mk o0.c0 o0.c1 o0.f0 o0.f1 o0.lt))
     clear q00 q01 q02 q03 q04 t00 t01 t02 t03 t04 o00 o01 o02 o03 o04
     replace q0 : V2 ((w5.setCell ⟨w.heap.size, 0, none⟩ (.int .u64 (lo (y * y)))).setCell ⟨w.heap.size, 1, none⟩ (.int .u64 (hi (y * y)))) (w.heap.size) (.int .u64 (lo (y * y))) (.int .u64 (hi (y * y))) := V2.set q0 _ _
     replace t0 := V2.oth t0 (b := w.heap.size) (by omega) (.int .u64 (lo (y * y))) (.int .u64 (hi (y * y)))
     replace s0 := V2.oth s0 (b := w.heap.size) (by omega) (.int .u64 (lo (y * y))) (.int .u64 (hi (y * y)))
     replace o0 := V2.oth o0 (b := w.heap.size) (by omega) (.int .u64 (lo (y * y))) (.int .u64 (hi (y * y)))
     replace hb00 := bl_st hb00 (b := w.heap.size) (by omega) (.int .u64 (lo (y * y))) (.int .u64 (hi (y * y)))
     generalize ((w5.setCell ⟨w.heap.size, 0, none⟩ (.int .u64 (lo (y * y)))).setCell ⟨w.heap.size, 1, none⟩ (.int .u64 (hi (y * y)))) = w6 at q0 t0 s0 o0 hb00 ⊢
     go_wp2_with fail
     go_roundw
     case rel => exact ⟨k + 1, _, _, by omega, by go_num, HY2, HKN, q0, t0, s0, o0, hb00⟩
     case measure => simp [intOf]; omega
    ·have HKN : Hid (o * y = kpw x (N % 2 ^ (k + 1))) := by show _ = _; rw [HKB.out, HBD.out, if_pos rfl, ho.out, hy.out]
     go_upto_region 8 with (first
      | (go_at_call 101; refine (HMU.out _ _ _).mono ?_; rintro e w5 ⟨rfl, hb5⟩; replace hb00 := bl_call hb00 (Nat.le_refl _) hb5; replace q0 := q0.call hb5; replace t0 := t0.call hb5; replace s0 := s0.call hb5; replace o0 := o0.call hb5; clear q00 q01 q02 q03 q04 t00 t01 t02 t03 t04 o00 o01 o02 o03 o04; clear hb5; obtain ⟨q00, q01, q02, q03, q04⟩ := V2.mk q0.c0 q0.c1 q0.f0 q0.f1 q0.lt; obtain ⟨t00, t01, t02, t03, t04⟩ := V2.mk t0.c0 t0.c1 t0.f0 t0.f1 t0.lt; obtain ⟨o00, o01, o02, o03, o04⟩ := V2.mk o0.c0 o0.c1 o0.f0 o0.f1 o0.lt))
     clear q00 q01 q02 q03 q04 t00 t01 t02 t03 t04 o00 o01 o02 o03 o04
     replace o0 : V2 ((w5.setCell ⟨ob, 0, none⟩ (.int .u64 (lo (o * y)))).setCell ⟨ob, 1, none⟩ (.int .u64 (hi (o * y)))) (ob) (.int .u64 (lo (o * y))) (.int .u64 (hi (o * y))) := V2.set o0 _ _
     replace q0 := V2.oth q0 (b := ob) (by omega) (.int .u64 (lo (o * y))) (.int .u64 (hi (o * y)))
     replace t0 := V2.oth t0 (b := ob) (by omega) (.int .u64 (lo (o * y))) (.int .u64 (hi (o * y)))
     replace s0 := V2.oth s0 (b := ob) (by omega) (.int .u64 (lo (o * y))) (.int .u64 (hi (o * y)))
     replace hb00 := bl_st hb00 (b := ob) (by omega) (.int .u64 (lo (o * y))) (.int .u64 (hi (o * y)))
     generalize ((w5.setCell ⟨ob, 0, none⟩ (.int .u64 (lo (o * y)))).setCell ⟨ob, 1, none⟩ (.int .u64 (hi (o * y)))) = w6 at o0 q0 t0 s0 hb00 ⊢
     obtain ⟨q00, q01, q02, q03, q04⟩ := V2.mk q0.c0 q0.c1 q0.f0 q0.f1 q0.lt
     obtain ⟨t00, t01, t02, t03, t04⟩ := V2.mk t0.c0 t0.c1 t0.f0 t0.f1 t0.lt
     obtain ⟨o00, o01, o02, o03, o04⟩ := V2.mk o0.c0 o0.c1 o0.f0 o0.f1 o0.lt
     go_upto_region 9 with (first
      | (go_at_call 101; refine (HMU.out _ _ _).mono ?_; rintro e w7 ⟨rfl, hb7⟩; replace hb00 := bl_call hb00 (Nat.le_refl _) hb7; replace q0 := q0.call hb7; replace t0 := t0.call hb7; replace s0 := s0.call hb7; replace o0 := o0.call hb7; clear q00 q01 q02 q03 q04 t00 t01 t02 t03 t04 o00 o01 o02 o03 o04; clear hb7; obtain ⟨q00, q01, q02, q03, q04⟩ := V2.mk q0.c0 q0.c1 q0.f0 q0.f1 q0.lt; obtain ⟨t00, t01, t02, t03, t04⟩ := V2.mk t0.c0 t0.c1 t0.f0 t0.f1 t0.lt; obtain ⟨o00, o01, o02, o03, o04⟩ := V2.mk o0.c0 o0.c1 o0.f0 o0.f1 o0.lt))
     clear q00 q01 q02 q03 q04 t00 t01 t02 t03 t04 o00 o01 o02 o03 o04
     replace q0 : V2 ((w7.setCell ⟨w.heap.size, 0, none⟩ (.int .u64 (lo (y * y)))).setCell ⟨w.heap.size, 1, none⟩ (.int .u64 (hi (y * y)))) (w.heap.size) (.int .u64 (lo (y * y))) (.int .u64 (hi (y * y))) := V2.set q0 _ _
     replace t0 := V2.oth t0 (b := w.heap.size) (by omega) (.int .u64 (lo (y * y))) (.int .u64 (hi (y * y)))
     replace s0 := V2.oth s0 (b := w.heap.size) (by omega) (.int .u64 (lo (y * y))) (.int .u64 (hi (y * y)))
     replace o0 := V2.oth o0 (b := w.heap.size) (by omega) (.int .u64 (lo (y * y))) (.int .u64 (hi (y * y)))
     replace hb00 := bl_st hb00 (b := w.heap.size) (by omega) (.int .u64 (lo (y * y))) (.int .u64 (hi (y * y)))
     generalize ((w7.setCell ⟨w.heap.size, 0, none⟩ (.int .u64 (lo (y * y)))).setCell ⟨w.heap.size, 1, none⟩ (.int .u64 (hi (y * y)))) = w8 at q0 t0 s0 o0 hb00 ⊢
     go_wp2_with fail
     go_roundw
     case rel => exact ⟨k + 1, _, _, by omega, by go_num, HY2, HKN, q0, t0, s0, o0, hb00⟩
     case measure => simp [intOf]; omega
   ·skip
    have hq0 : (k : Int) / 64 = 1 := by omega
    have hbit := HB.out k hlt
    rw [if_neg h] at hbit
    obtain ⟨c, hc⟩ : ∃ c, k % 64 = c := ⟨_, rfl⟩
    have hir : (k : Int) % 64 = (c : Int) := by omega
    have hc64 : c < 64 := by omega
    have hc0 : (0 : Int) ≤ (c : Int) := by omega
    rw [hc] at hbit
    obtain ⟨d, hd⟩ : ∃ d, n1 / 2 ^ c % 2 = d := ⟨_, rfl⟩
    have hd2 : d = 0 ∨ d = 1 := by rw [← hd]; omega
    have hand : bits .and .u64 ((n1 : Int) / 2 ^ c) 1 = (d : Int) := by
     rw [show (n1 : Int) / 2 ^ c = ((n1 / 2 ^ c : Nat) : Int) by rw [Int.natCast_ediv, Int.natCast_pow]; rfl, show (1 : Int) = ((1 : Nat) : Int) from rfl,
      bits_and_u64_nat _ _ (Nat.lt_of_le_of_lt (Nat.div_le_self _ _) (by omega)) (by omega), Nat.and_one_is_mod, hd]
    have HBD := Lib.hid (hbit.trans hd)
    clear hbit hd hc h
    obtain ⟨q00, q01, q02, q03, q04⟩ := V2.mk q0.c0 q0.c1 q0.f0 q0.f1 q0.lt
    obtain ⟨t00, t01, t02, t03, t04⟩ := V2.mk t0.c0 t0.c1 t0.f0 t0.f1 t0.lt
    obtain ⟨o00, o01, o02, o03, o04⟩ := V2.mk o0.c0 o0.c1 o0.f0 o0.f1 o0.lt
    rcases hd2 with rfl | rfl
    ·have HKN : Hid (o = kpw x (N % 2 ^ (k + 1))) := by show _ = _; rw [HKB.out, HBD.out, if_neg (by omega), ho.out]
     go_upto_region 9 with (first
      | (go_at_call 101; refine (HMU.out _ _ _).mono ?_; rintro e w5 ⟨rfl, hb5⟩; replace hb00 := bl_call hb00 (Nat.le_refl _) hb5; replace q0 := q0.call hb5; replace t0 := t0.call hb5; replace s0 := s0.call hb5; replace o0 := o0.call hb5; clear q00 q01 q02 q03 q04 t00 t01 t02 t03 t04 o00 o01 o02 o03 o04; clear hb5; obtain ⟨q00, q01, q02, q03, q04⟩ := V2.mk q0.c0 q0.c1 q0.f0 q0.f1 q0.lt; obtain ⟨t00, t01, t02, t03, t04⟩ := V2.mk t0.c0 t0.c1 t0.f0 t0.f1 t0.lt; obtain ⟨o00, o01, o02, o03, o04⟩ := V2.mk o0.c0 o0.c1 o0.f0 o0.f1 o0.lt))
     clear q00 q01 q02 q03 q04 t00 t01 t02 t03 t04 o00 o01 o02 o03 o04
     replace q0 : V2 ((w5.setCell ⟨w.heap.size, 0, none⟩ (.int .u64 (lo (y * y)))).setCell ⟨w.heap.size, 1, none⟩ (.int .u64 (hi (y * y)))) (w.heap.size) (.int .u64 (lo (y * y))) (.int .u64 (hi (y * y))) := V2.set q0 _ _
     replace t0 := V2.oth t0 (b := w.heap.size) (by omega) (.int .u64 (lo (y * y))) (.int .u64 (hi (y * y)))
     replace s0 := V2.oth s0 (b := w.heap.size) (by omega) (.int .u64 (lo (y * y))) (.int .u64 (hi (y * y)))
     replace o0 := V2.oth o0 (b := w.heap.size) (by omega) (.int .u64 (lo (y * y))) (.int .u64 (hi (y * y)))
     replace hb00 := bl_st hb00 (b := w.heap.size) (by omega) (.int .u64 (lo (y * y))) (.int .u64 (hi (y * y)))
     generalize ((w5.setCell ⟨w.heap.size, 0, none⟩ (.int .u64 (lo (y * y)))).setCell ⟨w.heap.size, 1, none⟩ (.int .u64 (hi (y * y)))) = w6 at q0 t0 s0 o0 hb00 ⊢
     go_wp2_with fail
     go_roundw
     case rel => exact ⟨k + 1, _, _, by omega, by go_num, HY2, HKN, q0, t0, s0, o0, hb00⟩
     case measure => simp [intOf]; omega
    ·have HKN : Hid (o * y = kpw x (N % 2 ^ (k + 1))) := by show _ = _; rw [HKB.out, HBD.out, if_pos rfl, ho.out, hy.out]
     go_upto_region 8 with (first
      | (go_at_call 101; refine (HMU.out _ _ _).mono ?_; rintro e w5 ⟨rfl, hb5⟩; replace hb00 := bl_call hb00 (Nat.le_refl _) hb5; replace q0 := q0.call hb5; replace t0 := t0.call hb5; replace s0 := s0.call hb5; replace o0 := o0.call hb5; clear q00 q01 q02 q03 q04 t00 t01 t02 t03 t04 o00 o01 o02 o03 o04; clear hb5; obtain ⟨q00, q01, q02, q03, q04⟩ := V2.mk q0.c0 q0.c1 q0.f0 q0.f1 q0.lt; obtain ⟨t00, t01, t02, t03, t04⟩ := V2.mk t0.c0 t0.c1 t0.f0 t0.f1 t0.lt; obtain ⟨o00, o01, o02, o03, o04⟩ := V2.mk o0.c0 o0.c1 o0.f0 o0.f1 o0.lt))
     clear q00 q01 q02 q03 q04 t00 t01 t02 t03 t04 o00 o01 o02 o03 o04
     replace o0 : V2 ((w5.setCell ⟨ob, 0, none⟩ (.int .u64 (lo (o * y)))).setCell ⟨ob, 1, none⟩ (.int .u64 (hi (o * y)))) (ob) (.int .u64 (lo (o * y))) (.int .u64 (hi (o * y))) := V2.set o0 _ _
     replace q0 := V2.oth q0 (b := ob) (by omega) (.int .u64 (lo (o * y))) (.int .u64 (hi (o * y)))
     replace t0 := V2.oth t0 (b := ob) (by omega) (.int .u64 (lo (o * y))) (.int .u64 (hi (o * y)))
     replace s0 := V2.oth s0 (b := ob) (by omega) (.int .u64 (lo (o * y))) (.int .u64 (hi (o * y)))
     replace hb00 := bl_st hb00 (b := ob) (by omega) (.int .u64 (lo (o * y))) (.int .u64 (hi (o * y)))
     generalize ((w5.setCell ⟨ob, 0, none⟩ (.int .u64 (lo (o * y)))).setCell ⟨ob, 1, none⟩ (.int .u64 (hi (o * y)))) = w6 at o0 q0 t0 s0 hb00 ⊢
     obtain ⟨q00, q01, q02, q03, q04⟩ := V2.mk q0.c0 q0.c1 q0.f0 q0.f1 q0.lt
     obtain ⟨t00, t01, t02, t03, t04⟩ := V2.mk t0.c0 t0.c1 t0.f0 t0.f1 t0.lt
     obtain ⟨o00, o01, o02, o03, o04⟩ := V2.mk o0.c0 o0.c1 o0.f0 o0.f1 o0.lt
     go_upto_region 9 with (first
      | (go_at_call 101; refine (HMU.out _ _ _).mono ?_; rintro e w7 ⟨rfl, hb7⟩; replace hb00 := bl_call hb00 (Nat.le_refl _) hb7; replace q0 := q0.call hb7; replace t0 := t0.call hb7; replace s0 := s0.call hb7; replace o0 := o0.call hb7; clear q00 q01 q02 q03 q04 t00 t01 t02 t03 t04 o00 o01 o02 o03 o04; clear hb7; obtain ⟨q00, q01, q02, q03, q04⟩ := V2.mk q0.c0 q0.c1 q0.f0 q0.f1 q0.lt; obtain ⟨t00, t01, t02, t03, t04⟩ := V2.mk t0.c0 t0.c1 t0.f0 t0.f1 t0.lt; obtain ⟨o00, o01, o02, o03, o04⟩ := V2.mk o0.c0 o0.c1 o0.f0 o0.f1 o0.lt))
     clear q00 q01 q02 q03 q04 t00 t01 t02 t03 t04 o00 o01 o02 o03 o04
     replace q0 : V2 ((w7.setCell ⟨w.heap.size, 0, none⟩ (.int .u64 (lo (y * y)))).setCell ⟨w.heap.size, 1, none⟩ (.int .u64 (hi (y * y)))) (w.heap.size) (.int .u64 (lo (y * y))) (.int .u64 (hi (y * y))) := V2.set q0 _ _
     replace t0 := V2.oth t0 (b := w.heap.size) (by omega) (.int .u64 (lo (y * y))) (.int .u64 (hi (y * y)))
     replace s0 := V2.oth s0 (b := w.heap.size) (by omega) (.int .u64 (lo (y * y))) (.int .u64 (hi (y * y)))
     replace o0 := V2.oth o0 (b := w.heap.size) (by omega) (.int .u64 (lo (y * y))) (.int .u64 (hi (y * y)))
     replace hb00 := bl_st hb00 (b := w.heap.size) (by omega) (.int .u64 (lo (y * y))) (.int .u64 (hi (y * y)))
     generalize ((w7.setCell ⟨w.heap.size, 0, none⟩ (.int .u64 (lo (y * y)))).setCell ⟨w.heap.size, 1, none⟩ (.int .u64 (hi (y * y)))) = w8 at q0 t0 s0 o0 hb00 ⊢
     go_wp2_with fail
     go_roundw
     case rel => exact ⟨k + 1, _, _, by omega, by go_num, HY2, HKN, q0, t0, s0, o0, hb00⟩
     case measure => simp [intOf]; omega
  ·obtain rfl : k = 128 := by omega
   obtain ⟨o00, o01, o02, o03, o04⟩ := V2.mk o0.c0 o0.c1 o0.f0 o0.f1 o0.lt
   obtain ⟨s00, s01, s02, s03, s04⟩ := V2.mk s0.c0 s0.c1 s0.f0 s0.f1 s0.lt
   go_wp2_with fail
   refine bodyPost_ret (results_v2 (b := w.heap.size + 2) (u := .int .u64 (lo o)) (v := .int .u64 (hi o)) ?_ rfl rfl) rfl ⟨by rw [← HNL.out, ← ho.out], by repeat (first | exact bA | with_reducible assumption | apply bB | (refine bC ?_ (by dsimp only; omega)) | apply bD | apply bE | (refine bF ?_ (by assumption)))⟩
   exact V2.set s0 _ _

/-! ### inverses -/
def kinv {f : Nat} (x : Fin (Pm f)) : Fin (Pm f) := kpw x (Pm f - 2)

set_option maxHeartbeats 1000000 in
theorem gold_Inv (a : Int) (w : World) (h0 : 0 ≤ a) (h1 : a ≤ 18446744073709551615) :
  Calls Tryz.prog 109 #[.int .u64 a] w fun e w' => (a % 18446744069414584321 = 0 ∧ e = .returned (.tuple #[.int .u64 0, .int .i64 8]) ∧ w = w') ∨ (a % 18446744069414584321 ≠ 0 ∧ e = .returned (.tuple #[.int .u64 (ipow a 18446744069414584319 % 18446744069414584321), .int .i64 0]) ∧ w = w') := by
 obtain ⟨en, hen⟩ : ∃ en : Nat, en = 18446744069414584319 := ⟨_, rfl⟩
 rw [← hen]
 have HP : Hid (∀ wz, Calls Tryz.prog 55 #[.int .u64 a, .int .u64 18446744069414584319] wz fun e w' => e = .returned (.int .u64 (ipow a en % 18446744069414584321)) ∧ wz = w') := fun wz => by
  have h := gold_Pow a 18446744069414584319 wz h0 h1 (by omega) (by omega)
  rwa [show (18446744069414584319 : Int).toNat = en by omega] at h
 clear hen
 go_enter Tryz.func109, Tryz.ntmps109
 by_cases hz : a % 18446744069414584321 = 0
 ·have hz2 : (a % 18446744069414584321 == 0) = true := by simpa using hz
  go_wp2_with (first
   | (go_at_call 98; refine (gold_Of _ _ (by omega) (by omega)).mono ?_; rintro e w' ⟨rfl, rfl⟩))
  go_ret2
  exact .inl ⟨hz, rfl, rfl⟩
 ·have hz2 : (a % 18446744069414584321 == 0) = false := by simpa using hz
  have HZ := Lib.hid hz
  clear hz
  go_wp2_with (first
   | (go_at_call 98; refine (gold_Of _ _ (by omega) (by omega)).mono ?_; rintro e w' ⟨rfl, rfl⟩)
   | (go_at_call 55; refine (HP.out _).mono ?_; rintro e w' ⟨rfl, rfl⟩))
  go_ret2
  exact .inr ⟨HZ.out, rfl, rfl⟩

set_option maxHeartbeats 2000000 in
theorem wide_Inv (x : Fin (Pm 2)) (w : World) :
  Calls Tryz.prog 110 #[vK x] w fun e w' => (x = 0 ∧ e = .returned (.tuple #[.agg #[.int .u64 0, .int .u64 0], .int .i64 8]) ∧ Below w.heap.size w w') ∨ (x ≠ 0 ∧ e = .returned (.tuple #[vK (kinv x), .int .i64 0]) ∧ Below w.heap.size w w') := by
 have HP : Hid (∀ wz, Calls Tryz.prog 56 #[.agg #[.int .u64 (lo x), .int .u64 (hi x)], .agg #[.int .u64 18446744073709551615, .int .u64 18446744073709551587]] wz (RetK (kinv x) wz)) := fun wz => by
  have h := wide_Pow (lo x) (hi x) 18446744073709551615 18446744073709551587 wz (lo_0 x) (lo_1 x) (hi_0 x) (hi_1 x) (by omega) (by omega)
  rwa [kL_lohi, show 18446744073709551615 + 18446744073709551616 * 18446744073709551587 = Pm 2 - 2 from rfl] at h
 have HO : Hid (∀ wz, Calls Tryz.prog 100 #[.agg #[.int .u64 (lo x), .int .u64 (hi x)]] wz fun e w' => e = .returned (.agg #[.int .u64 (lo x), .int .u64 (hi x)]) ∧ Below wz.heap.size wz w') := fun wz => by
  have h := wide_OfK (lo x) (hi x) wz (lo_0 x) (lo_1 x) (hi_0 x) (hi_1 x)
  rw [kL_lohi] at h
  exact h
 have HT : Hid (∀ wz, Calls Tryz.prog 125 #[.agg #[.int .u64 1, .int .u64 18446744073709551588], .agg #[.int .u64 2, .int .u64 0]] wz fun e w' => e = .returned (.agg #[.int .u64 18446744073709551615, .int .u64 18446744073709551587]) ∧ Below wz.heap.size wz w') := fun wz =>
  wide_take 1 18446744073709551588 2 0 wz (by omega) (by omega) (by omega) (by omega) (by omega) (by omega) (by omega) (by omega) 340282366920938462946865773367900766207 (by show _ = _; omega)
 obtain ⟨b, hb⟩ : ∃ b : Bool, (lo x == 0 && hi x == 0) = b := ⟨_, rfl⟩
 have hz : (x = 0 ∧ b = true) ∨ (x ≠ 0 ∧ b = false) := by
  have h := lohi_eq x 0
  rw [lo_zero, hi_zero, hb] at h
  by_cases hx : x = 0
  ·exact .inl ⟨hx, by rw [h]; simpa using hx⟩
  ·exact .inr ⟨hx, by rw [h]; simpa using hx⟩
 generalize kinv x = y at *
 show Calls Tryz.prog 110 #[.agg #[.int .u64 (lo x), .int .u64 (hi x)]] w _
 generalize lo x = a0 at *
 generalize hi x = a1 at *
 have heq := eql_elem
 go_enter Tryz.func110, Tryz.ntmps110
 go_upto_region 1 with fail
 have q0 := (V2.new w (.int .u64 a0) (.int .u64 a1) 36).alloc (.cells #[(.int .u64 0), (.int .u64 0)] 36)
 have s0 := V2.new (w.alloc (.cells #[(.int .u64 a0), (.int .u64 a1)] 36)) (.int .u64 0) (.int .u64 0) 36
 simp only [World.size_alloc] at s0
 have hb00 : Below w.heap.size w ((w.alloc (.cells #[(.int .u64 a0), (.int .u64 a1)] 36)).alloc (.cells #[(.int .u64 0), (.int .u64 0)] 36)) := by repeat (first | exact bA | with_reducible assumption | apply bB)
 have hsz : w.heap.size + 2 ≤ ((w.alloc (.cells #[(.int .u64 a0), (.int .u64 a1)] 36)).alloc (.cells #[(.int .u64 0), (.int .u64 0)] 36)).heap.size := by simp only [World.size_alloc]; omega
 generalize ((w.alloc (.cells #[(.int .u64 a0), (.int .u64 a1)] 36)).alloc (.cells #[(.int .u64 0), (.int .u64 0)] 36)) = w1 at q0 s0 hb00 hsz ⊢
 obtain ⟨q00, q01, q02, q03, q04⟩ := V2.mk q0.c0 q0.c1 q0.f0 q0.f1 q0.lt
 obtain ⟨s00, s01, s02, s03, s04⟩ := V2.mk s0.c0 s0.c1 s0.f0 s0.f1 s0.lt
 rcases hz with ⟨hx, rfl⟩ | ⟨hx, rfl⟩
 ·have HX := Lib.hid hx
  clear hx
  go_wp2_with (go_at_call 100; refine (HO.out _).mono ?_; rintro e w3 ⟨rfl, hb3⟩; replace hb00 := bl_call hb00 (Nat.le_refl _) hb3; replace q0 := q0.call hb3; replace s0 := s0.call hb3; clear q00 q01 q02 q03 q04 s00 s01 s02 s03 s04; obtain ⟨s00, s01, s02, s03, s04⟩ := V2.mk s0.c0 s0.c1 s0.f0 s0.f1 s0.lt)
  refine bodyPost_ret (results_v2_tmp (b := w.heap.size + 1) (u := .int .u64 0) (v := .int .u64 0) ?_ rfl rfl) rfl ?_
  ·first | exact V2.set s0 _ _ | exact s0
  ·exact .inl ⟨HX.out, rfl, by repeat (first | exact bA | with_reducible assumption | apply bB | (refine bC ?_ (by dsimp only; omega)) | apply bD | apply bE | (refine bF ?_ (by assumption)))⟩
 ·have HX := Lib.hid hx
  clear hx
  go_upto_region 3 with (first
   | (go_at_call 100; refine (HO.out _).mono ?_; rintro e w3 ⟨rfl, hb3⟩; replace hb00 := bl_call hb00 (Nat.le_refl _) hb3; replace q0 := q0.call hb3; replace s0 := s0.call hb3; clear q00 q01 q02 q03 q04 s00 s01 s02 s03 s04; clear hb3; obtain ⟨q00, q01, q02, q03, q04⟩ := V2.mk q0.c0 q0.c1 q0.f0 q0.f1 q0.lt; obtain ⟨s00, s01, s02, s03, s04⟩ := V2.mk s0.c0 s0.c1 s0.f0 s0.f1 s0.lt))
  refine region_B (n := 5) (m := 7) (f := 5) (by kernel_rfl) (by kernel_rfl) rfl ?_
  refine WpH.vD 0 (some 9) ?_ rfl rfl (by kernel_rfl) (fun _ _ _ h => h) rfl (fun wz hwz => ?_) ?_
  rotate_left
  ·(obtain ⟨hcz, hfz⟩ := bcell hwz; go_simp; try (with_reducible rfl))
  simp only [Zp, Zq, Zr, Zs]
  refine WpH.takeD 1 (some 10) rfl rfl (by kernel_rfl) (fun _ _ _ h => h) (.call rfl (fun wz hwz => wide_P wz) (fun wz hwz => ?_)) ?_
  ·go_simp; try (with_reducible rfl)
  simp only [Zp, Zq, Zr, Zs]
  refine WpH.vD 2 (some 11) ?_ rfl rfl (by kernel_rfl) (fun _ _ _ h => h) rfl (fun wz hwz => ?_) ?_
  rotate_left
  ·go_simp; try (with_reducible rfl)
  simp only [Zp, Zq, Zr, Zs]
  refine WpH.takeD 3 (some 12) rfl rfl (by kernel_rfl) (fun _ _ _ h => h) (.call rfl (fun wz hwz => HT.out wz) (fun wz hwz => ?_)) ?_
  ·go_simp; try (with_reducible rfl)
  simp only [Zp, Zq, Zr, Zs]
  refine WpH.takeD 4 (some 13) rfl rfl (by kernel_rfl) (fun _ _ _ h => h) (.call rfl (fun wz hwz => HP.out wz) (fun wz hwz => ?_)) ?_
  ·go_simp; try (with_reducible rfl)
  simp only [Zp, Zq, Zr, Zs]
  refine WpH.doneB (by kernel_rfl) (fun w4 hw4 => ?_)
  (try simp only [List.drop_succ_cons]); (try simp only [List.drop_zero]); (try simp only [Nat.reduceSub]); (try simp only [List.take_succ_cons]); (try simp only [List.take_zero])
  clear q00 q01 q02 q03 q04 s00 s01 s02 s03 s04
  replace hb00 := bl_call hb00 (Nat.le_refl _) hw4
  replace q0 := q0.call hw4
  replace s0 := s0.call hw4
  obtain ⟨s00, s01, s02, s03, s04⟩ := V2.mk s0.c0 s0.c1 s0.f0 s0.f1 s0.lt
  go_wp2_with fail
  refine bodyPost_ret (results_v2_tmp (b := w.heap.size + 1) (u := .int .u64 (lo y)) (v := .int .u64 (hi y)) ?_ rfl rfl) rfl ?_
  ·exact V2.set s0 _ _
  ·exact .inr ⟨HX.out, rfl, by repeat (first | exact bA | with_reducible assumption | apply bB | (refine bC ?_ (by dsimp only; omega)) | apply bD | apply bE | (refine bF ?_ (by assumption)))⟩

theorem kpw_ipow {f : Nat} (x : Fin (Pm f)) : ∀ n, kpw x n = kI (Pm f) (ipow (x.val : Int) n)
 | 0 => kI_one.symm
 | n + 1 => by rw [kpw, kpw_ipow x n, ipow, kI_mul, kI_ofVal]

def RetInv {f : Nat} (x : Fin (Pm f)) (w : World) (e : Ending) (w' : World) : Prop :=
 (x = 0 ∧ e = .returned (.tuple #[.agg #[.int .u64 0, .int .u64 0], .int .i64 8]) ∧ Below w.heap.size w w') ∨ (x ≠ 0 ∧ e = .returned (.tuple #[vK (kinv x), .int .i64 0]) ∧ Below w.heap.size w w')

set_option maxHeartbeats 2000000 in
theorem field_Inv {f : Nat} (hf : IsF f) (x : Fin (Pm f)) (w : World) :
  Calls Tryz.prog 76 #[.int .u8 f, vK x] w (RetInv x w) := by
 have hb00 : Below w.heap.size w w := Below.refl _ _
 rcases hf.or with rfl | rfl
 ·have hp : ((Pm 1 : Nat) : Int) = 18446744069414584321 := rfl
  have hxv : ((x.val : Nat) : Int) < 18446744069414584321 := by rw [← hp]; exact Int.ofNat_lt.2 x.isLt
  have hlx := vK_of (x := x) (z0 := ((x.val : Nat) : Int)) (z1 := 0) (by omega) (by omega) (by omega)
  have hki := vK_of (x := kinv x) (z0 := ipow (x.val : Int) 18446744069414584319 % 18446744069414584321) (z1 := 0) (by
   unfold kinv
   rw [kpw_ipow, val_kI, hp, show Pm 1 - 2 = 18446744069414584319 from rfl, Int.mul_zero, Int.add_zero]) (Int.emod_nonneg _ (by omega)) (by have := Int.emod_lt_of_pos (ipow (x.val : Int) 18446744069414584319) (show (0 : Int) < 18446744069414584321 by omega); omega)
  have hx0 : x = 0 ↔ ((x.val : Nat) : Int) % 18446744069414584321 = 0 := by
   rw [Int.emod_eq_of_lt (by omega) hxv]
   constructor
   ·rintro rfl
    rfl
   ·intro h
    exact Fin.ext (by show x.val = 0; omega)
  have HG := Lib.hid (fun wz => gold_Inv ((x.val : Nat) : Int) wz (by omega) (by omega))
  have HR : Hid ((x ≠ 0 ∧ Value.tuple #[.agg #[.int .u64 (ipow (x.val : Int) 18446744069414584319 % 18446744069414584321), .int .u64 0], .int .i64 0] = .tuple #[vK (kinv x), .int .i64 0]) ∨ x = 0) := by
   by_cases h : x = 0
   ·exact .inr h
   ·exact .inl ⟨h, by show _ = Value.tuple #[.agg #[.int .u64 (lo (kinv x)), .int .u64 (hi (kinv x))], .int .i64 0]; rw [hki.1, hki.2]⟩
  show Calls Tryz.prog 76 #[.int .u8 1, .agg #[.int .u64 (lo x), .int .u64 (hi x)]] w (RetInv x w)
  rw [hlx.1, hlx.2]
  have HX0 := Lib.hid hx0
  clear hx0 hki hlx hp
  generalize ipow ((x.val : Nat) : Int) 18446744069414584319 % 18446744069414584321 = r at *
  generalize ((x.val : Nat) : Int) = a at *
  go_enter Tryz.func76, Tryz.ntmps76
  go_upto_region 1 with fail
  clear hb00
  have q0 := (V2.new w (.int .u64 a) (.int .u64 0) 36).alloc (.cells #[(.int .u64 0), (.int .u64 0)] 36)
  have s0 := V2.new (w.alloc (.cells #[(.int .u64 a), (.int .u64 0)] 36)) (.int .u64 0) (.int .u64 0) 36
  simp only [World.size_alloc] at s0
  have hb00 : Below w.heap.size w ((w.alloc (.cells #[(.int .u64 a), (.int .u64 0)] 36)).alloc (.cells #[(.int .u64 0), (.int .u64 0)] 36)) := by repeat (first | exact bA | with_reducible assumption | apply bB)
  have hsz : w.heap.size + 2 ≤ ((w.alloc (.cells #[(.int .u64 a), (.int .u64 0)] 36)).alloc (.cells #[(.int .u64 0), (.int .u64 0)] 36)).heap.size := by simp only [World.size_alloc]; omega
  generalize ((w.alloc (.cells #[(.int .u64 a), (.int .u64 0)] 36)).alloc (.cells #[(.int .u64 0), (.int .u64 0)] 36)) = w1 at q0 s0 hb00 hsz ⊢
  obtain ⟨q00, q01, q02, q03, q04⟩ := V2.mk q0.c0 q0.c1 q0.f0 q0.f1 q0.lt
  obtain ⟨s00, s01, s02, s03, s04⟩ := V2.mk s0.c0 s0.c1 s0.f0 s0.f1 s0.lt
  go_wp2_with fail
  refine (HG.out _).mono ?_
  rintro e w3 (⟨h9, rfl, rfl⟩ | ⟨h9, rfl, rfl⟩)
  ·have H9 := Lib.hid h9
   clear h9
   go_wp2_with fail
   refine bodyPost_ret (results_v2_tmp (b := w.heap.size + 1) (u := .int .u64 0) (v := .int .u64 0) ?_ rfl rfl) rfl ?_
   ·first | exact V2.set s0 _ _ | exact s0
   ·exact .inl ⟨HX0.out.2 H9.out, rfl, by repeat (first | exact bA | with_reducible assumption | apply bB | (refine bC ?_ (by dsimp only; omega)) | apply bD | apply bE | (refine bF ?_ (by assumption)))⟩
  ·have H9 := Lib.hid h9
   clear h9
   go_wp2_with fail
   refine bodyPost_ret (results_v2_tmp (b := w.heap.size + 1) (u := .int .u64 r) (v := .int .u64 0) ?_ rfl rfl) rfl ?_
   ·first | exact V2.set s0 _ _ | exact s0
   ·rcases HR.out with ⟨h1, h2⟩ | h1
    ·exact .inr ⟨h1, congrArg _ h2, by repeat (first | exact bA | with_reducible assumption | apply bB | (refine bC ?_ (by dsimp only; omega)) | apply bD | apply bE | (refine bF ?_ (by assumption)))⟩
    ·exact absurd (HX0.out.1 h1) H9.out
 ·have HI := Lib.hid (fun wz => wide_Inv x wz)
  clear hb00
  go_enter Tryz.func76, Tryz.ntmps76
  go_upto_region 1 with fail
  have q0 := (V2.new w (.int .u64 (lo x)) (.int .u64 (hi x)) 36).alloc (.cells #[(.int .u64 0), (.int .u64 0)] 36)
  have s0 := V2.new (w.alloc (.cells #[(.int .u64 (lo x)), (.int .u64 (hi x))] 36)) (.int .u64 0) (.int .u64 0) 36
  simp only [World.size_alloc] at s0
  have hb00 : Below w.heap.size w ((w.alloc (.cells #[(.int .u64 (lo x)), (.int .u64 (hi x))] 36)).alloc (.cells #[(.int .u64 0), (.int .u64 0)] 36)) := by repeat (first | exact bA | with_reducible assumption | apply bB)
  have hsz : w.heap.size + 2 ≤ ((w.alloc (.cells #[(.int .u64 (lo x)), (.int .u64 (hi x))] 36)).alloc (.cells #[(.int .u64 0), (.int .u64 0)] 36)).heap.size := by simp only [World.size_alloc]; omega
  generalize ((w.alloc (.cells #[(.int .u64 (lo x)), (.int .u64 (hi x))] 36)).alloc (.cells #[(.int .u64 0), (.int .u64 0)] 36)) = w1 at q0 s0 hb00 hsz ⊢
  obtain ⟨q00, q01, q02, q03, q04⟩ := V2.mk q0.c0 q0.c1 q0.f0 q0.f1 q0.lt
  obtain ⟨s00, s01, s02, s03, s04⟩ := V2.mk s0.c0 s0.c1 s0.f0 s0.f1 s0.lt
  go_wp2_with fail
  refine (HI.out _).mono ?_
  rintro e w3 (⟨h9, rfl, hb3⟩ | ⟨h9, rfl, hb3⟩)
  ·have H9 := Lib.hid h9
   clear h9
   clear q00 q01 q02 q03 q04 s00 s01 s02 s03 s04
   replace hb00 := bl_call hb00 (Nat.le_refl _) hb3
   replace q0 := q0.call hb3
   replace s0 := s0.call hb3
   clear hb3
   obtain ⟨s00, s01, s02, s03, s04⟩ := V2.mk s0.c0 s0.c1 s0.f0 s0.f1 s0.lt
   go_wp2_with fail
   refine bodyPost_ret (results_v2_tmp (b := w.heap.size + 1) (u := .int .u64 0) (v := .int .u64 0) ?_ rfl rfl) rfl ?_
   ·first | exact V2.set s0 _ _ | exact s0
   ·exact .inl ⟨H9.out, rfl, by repeat (first | exact bA | with_reducible assumption | apply bB | (refine bC ?_ (by dsimp only; omega)) | apply bD | apply bE | (refine bF ?_ (by assumption)))⟩
  ·have H9 := Lib.hid h9
   clear h9
   clear q00 q01 q02 q03 q04 s00 s01 s02 s03 s04
   replace hb00 := bl_call hb00 (Nat.le_refl _) hb3
   replace q0 := q0.call hb3
   replace s0 := s0.call hb3
   clear hb3
   obtain ⟨s00, s01, s02, s03, s04⟩ := V2.mk s0.c0 s0.c1 s0.f0 s0.f1 s0.lt
   go_wp2_with fail
   refine bodyPost_ret (results_v2_tmp (b := w.heap.size + 1) (u := .int .u64 (lo (kinv x))) (v := .int .u64 (hi (kinv x))) ?_ rfl rfl) rfl ?_
   ·exact V2.set s0 _ _
   ·exact .inr ⟨H9.out, rfl, by repeat (first | exact bA | with_reducible assumption | apply bB | (refine bC ?_ (by dsimp only; omega)) | apply bD | apply bE | (refine bF ?_ (by assumption)))⟩

end Go.Proofs.YtfbfbijkkbflkaaGreatDoor

namespace Go.Proofs.YtfbfbijkkbflkaaGreatDoor
open Go Go.RowKit

section
variable {P : Program} {Q : Exit → Act → World → Prop}

theorem region_GS {id n m f : Nat} {l : List Oper} {a : Act} {w : World} (S : World → Prop) (hC : Clo S) (hS : S w.drew) (hm : P.follows .mixedOrders = true) (hB : partsB .any l.toArray n m (Array.replicate l.length false) = true) (hf : f + (m - n) = l.length)
  (h : WpG P .any l.toArray Q n m (wpList P l.toArray Q ((l.drop n).take (m - n))) f (Array.replicate l.length false) a S) : (Code.region id l.toArray true).wp P Q a w := by
 refine wp_region_any hm ?_
 have := any_G (w := w.drew) hB hC hS h
 rw [hf] at this
 simpa using this
end

end Go.Proofs.YtfbfbijkkbflkaaGreatDoor
