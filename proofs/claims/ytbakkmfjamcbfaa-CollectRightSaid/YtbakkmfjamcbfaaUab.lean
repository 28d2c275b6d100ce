/-
 Bytes, Vec, RegZ, TaA, TaC, RwA, RefV, Exc, TaH, OpenTo, CoA, CoB, CoC: for CollectRight.
-/
import Derived.BigQuiet
import Derived.Laws.BytesArg
import Derived.ChangeKeysEq
import Derived.IntWalk
import Derived.Test.YtbakkmfjamcbfaaKat
import Derived.Test.YtbakkmfjamcbfaaKax
import Derived.Test.YtbakkmfjamcbfaaUaa
namespace Go.Proofs.Ytbakkmfjamcbfaa
open Go.RowKit Fm
set_option linter.unusedVariables false
set_option maxRecDepth 100000

def byteN (x i : Nat) : Nat := x / 2 ^ (8 * i) % 256
def bytesN (x n : Nat) : List Int := (List.range n).map fun i => ((byteN x i : Nat) : Int)
theorem bytesN_length (x n : Nat) : (bytesN x n).length = n := by unfold bytesN; rw [List.length_map, List.length_range]
theorem bytesN_at (x n i : Nat) (h : i < n) : (bytesN x n)[i]? = some ((byteN x i : Nat) : Int) := by unfold bytesN; rw [List.getElem?_map, List.getElem?_range h]; rfl
theorem u8_wrap (n : Int) : IntKind.u8.wrap n = n % 256 := by
 first | rfl | simp [IntKind.wrap, IntKind.signed, IntKind.bits, IntKind.min, IntKind.max]
theorem byteN_wrap (x s : Nat) : IntKind.u8.wrap ((x : Int) / 2 ^ s) = ((x / 2 ^ s % 256 : Nat) : Int) := by
 rw [u8_wrap, Int.natCast_emod, Int.natCast_ediv, Int.natCast_pow]
 rfl

theorem fill_set {α : Type} (xs : List α) (z x : α) (n i : Nat) (hl : xs.length = n) (hi : i < n) (hx : xs[i]? = some x) :
  (xs.take i ++ List.replicate (n - i) z).set i x = xs.take (i + 1) ++ List.replicate (n - (i + 1)) z := by
 have h1 : (xs.take i).length = i := by rw [List.length_take]; omega
 rw [List.set_append_right _ _ (by rw [h1]; exact Nat.le_refl _), h1, Nat.sub_self, show n - i = (n - (i + 1)) + 1 by omega, List.replicate_succ, List.set_cons_zero, List.take_add_one, hx, List.append_assoc]
 rfl

theorem load_b8 {w : World} {b : Nat} {x0 x1 x2 x3 x4 x5 x6 x7 : Value} (h : Vs w b [x0, x1, x2, x3, x4, x5, x6, x7]) : (loadVar 205 ⟨b, 0, none⟩).run Try.prog w = .ok (.agg #[x0, x1, x2, x3, x4, x5, x6, x7]) w := by
 obtain ⟨⟨c0, c1, c2, c3, c4, c5, c6, c7⟩, _⟩ := h.get8
 simp [loadVar, go_sem, c0, c1, c2, c3, c4, c5, c6, c7]
theorem results_b8 {fn : Func} {p : Tmp} {tmps : Array Value} {w : World} {b : Nat} {x0 x1 x2 x3 x4 x5 x6 x7 : Value} (hv : Vs w b [x0, x1, x2, x3, x4, x5, x6, x7]) (h : fn.results = #[.cell p 205]) (hp : tmps.getD p undef = .pointer (some ⟨b, 0, none⟩)) :
  (results fn tmps).run Try.prog w = .ok (.agg #[x0, x1, x2, x3, x4, x5, x6, x7]) w := by
 have hl := load_b8 hv
 rw [Array.getD_eq_getD_getElem?] at hp
 simp only [results, h]
 simp [asAddr, hp, hl]
theorem Vs.set8 {w : World} {b : Nat} {p q r s t u v z : Value} (h : Vs w b [p, q, r, s, t, u, v, z]) (x0 x1 x2 x3 x4 x5 x6 x7 : Value) :
  Vs ((((((((w.setCell ⟨b, 0, none⟩ x0).setCell ⟨b, 1, none⟩ x1).setCell ⟨b, 2, none⟩ x2).setCell ⟨b, 3, none⟩ x3).setCell ⟨b, 4, none⟩ x4).setCell ⟨b, 5, none⟩ x5).setCell ⟨b, 6, none⟩ x6).setCell ⟨b, 7, none⟩ x7) b [x0, x1, x2, x3, x4, x5, x6, x7] :=
 (((((((h.put 0 (by simp) x0).put 1 (by simp) x1).put 2 (by simp) x2).put 3 (by simp) x3).put 4 (by simp) x4).put 5 (by simp) x5).put 6 (by simp) x6).put 7 (by simp) x7
theorem bl_set8 {B b : Nat} {a w : World} (h : Below B a w) (hp : B ≤ b) (x0 x1 x2 x3 x4 x5 x6 x7 : Value) :
  Below B a ((((((((w.setCell ⟨b, 0, none⟩ x0).setCell ⟨b, 1, none⟩ x1).setCell ⟨b, 2, none⟩ x2).setCell ⟨b, 3, none⟩ x3).setCell ⟨b, 4, none⟩ x4).setCell ⟨b, 5, none⟩ x5).setCell ⟨b, 6, none⟩ x6).setCell ⟨b, 7, none⟩ x7) :=
 bl_set (bl_set (bl_set (bl_set (bl_set (bl_set (bl_set (bl_set h hp x0) hp x1) hp x2) hp x3) hp x4) hp x5) hp x6) hp x7

set_option maxHeartbeats 4000000 in
theorem gold_Bytes (x : Nat) (hx : (x : Int) < 18446744069414584321) (w : World) :
  Calls Try.prog 122 #[.int .u64 x] w fun e w' => e = .returned (.agg #[.int .u8 (byteN x 0 : Nat), .int .u8 (byteN x 1 : Nat), .int .u8 (byteN x 2 : Nat), .int .u8 (byteN x 3 : Nat), .int .u8 (byteN x 4 : Nat), .int .u8 (byteN x 5 : Nat), .int .u8 (byteN x 6 : Nat), .int .u8 (byteN x 7 : Nat)]) ∧ Below w.heap.size w w' := by
 have HOF : Hid (∀ wz, Calls Try.prog 100 #[.int .u64 x] wz fun e w' => e = .returned (.int .u64 x) ∧ wz = w') := by
  intro wz
  have h := gold_Of (x : Int) wz (by omega) (by omega)
  rwa [Int.emod_eq_of_lt (by omega) hx] at h
 clear hx
 go_enter Try.func122, Try.ntmps122
 go_upto_region 3 with (go_at_call 100; refine (HOF.out _).mono ?_; rintro e w2 ⟨rfl, rfl⟩)
 have hr := (Vs.new w [.int .u8 0, .int .u8 0, .int .u8 0, .int .u8 0, .int .u8 0, .int .u8 0, .int .u8 0, .int .u8 0] #[.int .u8 0, .int .u8 0, .int .u8 0, .int .u8 0, .int .u8 0, .int .u8 0, .int .u8 0, .int .u8 0] 205 rfl).alloc (.cells #[.int .u8 0, .int .u8 0, .int .u8 0, .int .u8 0, .int .u8 0, .int .u8 0, .int .u8 0, .int .u8 0] 205)
 have hb := Vs.new (w.alloc (.cells #[.int .u8 0, .int .u8 0, .int .u8 0, .int .u8 0, .int .u8 0, .int .u8 0, .int .u8 0, .int .u8 0] 205)) [.int .u8 0, .int .u8 0, .int .u8 0, .int .u8 0, .int .u8 0, .int .u8 0, .int .u8 0, .int .u8 0] #[.int .u8 0, .int .u8 0, .int .u8 0, .int .u8 0, .int .u8 0, .int .u8 0, .int .u8 0, .int .u8 0] 205 rfl
 simp only [World.size_alloc] at hb
 have hb00 : Below w.heap.size w ((w.alloc (.cells #[.int .u8 0, .int .u8 0, .int .u8 0, .int .u8 0, .int .u8 0, .int .u8 0, .int .u8 0, .int .u8 0] 205)).alloc (.cells #[.int .u8 0, .int .u8 0, .int .u8 0, .int .u8 0, .int .u8 0, .int .u8 0, .int .u8 0, .int .u8 0] 205)) := by repeat (first | exact bA | with_reducible assumption | apply bB)
 have hszn : w.heap.size + 2 ≤ ((w.alloc (.cells #[.int .u8 0, .int .u8 0, .int .u8 0, .int .u8 0, .int .u8 0, .int .u8 0, .int .u8 0, .int .u8 0] 205)).alloc (.cells #[.int .u8 0, .int .u8 0, .int .u8 0, .int .u8 0, .int .u8 0, .int .u8 0, .int .u8 0, .int .u8 0] 205)).heap.size := by simp only [World.size_alloc]; omega
 generalize ((w.alloc (.cells #[.int .u8 0, .int .u8 0, .int .u8 0, .int .u8 0, .int .u8 0, .int .u8 0, .int .u8 0, .int .u8 0] 205)).alloc (.cells #[.int .u8 0, .int .u8 0, .int .u8 0, .int .u8 0, .int .u8 0, .int .u8 0, .int .u8 0, .int .u8 0] 205)) = w1 at hr hb hb00 hszn ⊢
 have HBL := Lib.hid (bytesN_length x 8)
 go_wp2_with fail
 go_loopw [7] (fun i wr => ∃ k : Nat, k ≤ 8 ∧ i = .int .i64 k ∧ Vs wr w.heap.size [.int .u8 0, .int .u8 0, .int .u8 0, .int .u8 0, .int .u8 0, .int .u8 0, .int .u8 0, .int .u8 0] ∧
  Vs wr (w.heap.size + 1) (cells8 ((bytesN x 8).take k ++ List.replicate (8 - k) 0)) ∧ Below w.heap.size w wr) (fun i _ => 8 - (intOf i).toNat)
 case atStart => exact ⟨0, by omega, rfl, hr, hb, hb00⟩
 case round =>
  clear hr hb hb00
  obtain ⟨k, hk, rfl, hr, hb, hbw⟩ := hrel
  by_cases hlt : k < 8
  ·obtain ⟨s, hs⟩ : ∃ s, 8 * k = s := ⟨_, rfl⟩
   have hsi : (8 : Int) * (k : Int) = (s : Int) := by omega
   have hs64 : s ≤ 56 := by omega
   have hs0 : (0 : Int) ≤ (s : Int) := by omega
   have hwr := byteN_wrap x s
   have hat : (bytesN x 8)[k]? = some ((x / 2 ^ s % 256 : Nat) : Int) := by rw [bytesN_at x 8 k hlt, ← hs]; rfl
   obtain ⟨d, hd⟩ : ∃ d, x / 2 ^ s % 256 = d := ⟨_, rfl⟩
   rw [hd] at hwr hat
   have hB2 := hb.put k (by rw [cells8_length, List.length_append, List.length_take, List.length_replicate, HBL.out]; omega) (.int .u8 (d : Int))
   have HL : Hid ((cells8 ((bytesN x 8).take k ++ List.replicate (8 - k) 0)).set k (.int .u8 (d : Int)) = cells8 ((bytesN x 8).take (k + 1) ++ List.replicate (8 - (k + 1)) 0)) := by
    show (cells8 _).set k _ = _
    unfold cells8
    rw [← List.map_set, fill_set (bytesN x 8) 0 (d : Int) 8 k HBL.out hlt hat]
   rw [HL.out] at hB2
   have HB2 := Lib.hid hB2
   have hlen : k < (cells8 ((bytesN x 8).take k ++ List.replicate (8 - k) 0)).length := by rw [cells8_length, List.length_append, List.length_take, List.length_replicate, HBL.out]; omega
   obtain ⟨v0, c0⟩ : ∃ v, wr.cell? ⟨w.heap.size + 1, k, none⟩ = some v := ⟨_, hb.cell k _ (List.getElem?_eq_getElem hlen)⟩
   have f0 := hb.frz k hlen
   have hblt := hb.lt
   have hR2 := hr.far (p := ⟨w.heap.size + 1, k, none⟩) (by dsimp only; omega) (.int .u8 (d : Int))
   have HR2 := Lib.hid hR2
   have hw8 : IntKind.i64.wrap (s : Int) = (s : Int) := IntWalk.i64_in _ (by omega)
   clear hs hd hat hB2 hlen hR2 hb hr
   go_wp2_with fail
   go_roundw
   case rel => exact ⟨k + 1, by omega, by go_num, HR2.out, HB2.out, by repeat (first | exact bA | with_reducible assumption | apply bB | (refine bC ?_ (by dsimp only; omega)) | apply bD | apply bE | (refine bF ?_ (by assumption)))⟩
   case measure => simp [intOf]; omega
  ·obtain rfl : k = 8 := by omega
   rw [List.take_of_length_le (by rw [HBL.out]; exact Nat.le_refl _), Nat.sub_self, List.replicate_zero, List.append_nil] at hb
   have hb' : Vs wr (w.heap.size + 1) [.int .u8 (byteN x 0 : Nat), .int .u8 (byteN x 1 : Nat), .int .u8 (byteN x 2 : Nat), .int .u8 (byteN x 3 : Nat), .int .u8 (byteN x 4 : Nat), .int .u8 (byteN x 5 : Nat), .int .u8 (byteN x 6 : Nat), .int .u8 (byteN x 7 : Nat)] := hb
   clear hb
   obtain ⟨⟨bq0, bq1, bq2, bq3, bq4, bq5, bq6, bq7⟩, ⟨bq8, bq9, bq10, bq11, bq12, bq13, bq14, bq15⟩, bq16⟩ := hb'.get8
   obtain ⟨⟨r0, r1, r2, r3, r4, r5, r6, r7⟩, ⟨r8, r9, r10, r11, r12, r13, r14, r15⟩, r16⟩ := hr.get8
   go_wp2_with fail
   have hS := Vs.set8 hr (.int .u8 (byteN x 0 : Nat)) (.int .u8 (byteN x 1 : Nat)) (.int .u8 (byteN x 2 : Nat)) (.int .u8 (byteN x 3 : Nat)) (.int .u8 (byteN x 4 : Nat)) (.int .u8 (byteN x 5 : Nat)) (.int .u8 (byteN x 6 : Nat)) (.int .u8 (byteN x 7 : Nat))
   refine bodyPost_ret (results_b8 (b := w.heap.size) hS rfl rfl) rfl ⟨rfl, ?_⟩
   exact bl_set8 hbw (Nat.le_refl _) _ _ _ _ _ _ _ _

theorem Vs.get16 {w : World} {b : Nat} {x0 x1 x2 x3 x4 x5 x6 x7 y0 y1 y2 y3 y4 y5 y6 y7 : Value} (h : Vs w b [x0, x1, x2, x3, x4, x5, x6, x7, y0, y1, y2, y3, y4, y5, y6, y7]) :
  (w.cell? ⟨b, 0, none⟩ = some x0 ∧ w.cell? ⟨b, 1, none⟩ = some x1 ∧ w.cell? ⟨b, 2, none⟩ = some x2 ∧ w.cell? ⟨b, 3, none⟩ = some x3 ∧ w.cell? ⟨b, 4, none⟩ = some x4 ∧ w.cell? ⟨b, 5, none⟩ = some x5 ∧ w.cell? ⟨b, 6, none⟩ = some x6 ∧ w.cell? ⟨b, 7, none⟩ = some x7 ∧ w.cell? ⟨b, 8, none⟩ = some y0 ∧ w.cell? ⟨b, 9, none⟩ = some y1 ∧ w.cell? ⟨b, 10, none⟩ = some y2 ∧ w.cell? ⟨b, 11, none⟩ = some y3 ∧ w.cell? ⟨b, 12, none⟩ = some y4 ∧ w.cell? ⟨b, 13, none⟩ = some y5 ∧ w.cell? ⟨b, 14, none⟩ = some y6 ∧ w.cell? ⟨b, 15, none⟩ = some y7) ∧ (w.frozen? ⟨b, 0, none⟩ = false ∧ w.frozen? ⟨b, 1, none⟩ = false ∧ w.frozen? ⟨b, 2, none⟩ = false ∧ w.frozen? ⟨b, 3, none⟩ = false ∧ w.frozen? ⟨b, 4, none⟩ = false ∧ w.frozen? ⟨b, 5, none⟩ = false ∧ w.frozen? ⟨b, 6, none⟩ = false ∧ w.frozen? ⟨b, 7, none⟩ = false ∧ w.frozen? ⟨b, 8, none⟩ = false ∧ w.frozen? ⟨b, 9, none⟩ = false ∧ w.frozen? ⟨b, 10, none⟩ = false ∧ w.frozen? ⟨b, 11, none⟩ = false ∧ w.frozen? ⟨b, 12, none⟩ = false ∧ w.frozen? ⟨b, 13, none⟩ = false ∧ w.frozen? ⟨b, 14, none⟩ = false ∧ w.frozen? ⟨b, 15, none⟩ = false) ∧ b < w.heap.size :=
 ⟨⟨h.cell 0 _ rfl, h.cell 1 _ rfl, h.cell 2 _ rfl, h.cell 3 _ rfl, h.cell 4 _ rfl, h.cell 5 _ rfl, h.cell 6 _ rfl, h.cell 7 _ rfl, h.cell 8 _ rfl, h.cell 9 _ rfl, h.cell 10 _ rfl, h.cell 11 _ rfl, h.cell 12 _ rfl, h.cell 13 _ rfl, h.cell 14 _ rfl, h.cell 15 _ rfl⟩, ⟨h.frz 0 (by simp), h.frz 1 (by simp), h.frz 2 (by simp), h.frz 3 (by simp), h.frz 4 (by simp), h.frz 5 (by simp), h.frz 6 (by simp), h.frz 7 (by simp), h.frz 8 (by simp), h.frz 9 (by simp), h.frz 10 (by simp), h.frz 11 (by simp), h.frz 12 (by simp), h.frz 13 (by simp), h.frz 14 (by simp), h.frz 15 (by simp)⟩, h.lt⟩
theorem load_b16 {w : World} {b : Nat} {x0 x1 x2 x3 x4 x5 x6 x7 y0 y1 y2 y3 y4 y5 y6 y7 : Value} (h : Vs w b [x0, x1, x2, x3, x4, x5, x6, x7, y0, y1, y2, y3, y4, y5, y6, y7]) : (loadVar 23 ⟨b, 0, none⟩).run Try.prog w = .ok (.agg #[x0, x1, x2, x3, x4, x5, x6, x7, y0, y1, y2, y3, y4, y5, y6, y7]) w := by
 obtain ⟨⟨c0, c1, c2, c3, c4, c5, c6, c7, d0, d1, d2, d3, d4, d5, d6, d7⟩, _⟩ := h.get16
 simp [loadVar, go_sem, c0, c1, c2, c3, c4, c5, c6, c7, d0, d1, d2, d3, d4, d5, d6, d7]

theorem results_b16 {fn : Func} {p : Tmp} {tmps : Array Value} {w : World} {b : Nat} {x0 x1 x2 x3 x4 x5 x6 x7 y0 y1 y2 y3 y4 y5 y6 y7 : Value} (hv : Vs w b [x0, x1, x2, x3, x4, x5, x6, x7, y0, y1, y2, y3, y4, y5, y6, y7]) (h : fn.results = #[.cell p 23]) (hp : tmps.getD p undef = .pointer (some ⟨b, 0, none⟩)) :
  (results fn tmps).run Try.prog w = .ok (.agg #[x0, x1, x2, x3, x4, x5, x6, x7, y0, y1, y2, y3, y4, y5, y6, y7]) w := by
 have hl := load_b16 hv
 rw [Array.getD_eq_getD_getElem?] at hp
 simp only [results, h]
 simp [asAddr, hp, hl]

set_option maxHeartbeats 4000000 in
theorem wide_Bytes (x y : Nat) (hx : (x : Int) ≤ 18446744073709551615) (hxy : (x : Int) + 18446744073709551616 * (y : Int) < 340282366920938462946865773367900766209) (w : World) :
  Calls Try.prog 123 #[.agg #[.int .u64 x, .int .u64 y]] w fun e w' => e = .returned (.agg #[.int .u8 (byteN x 0 : Nat), .int .u8 (byteN x 1 : Nat), .int .u8 (byteN x 2 : Nat), .int .u8 (byteN x 3 : Nat), .int .u8 (byteN x 4 : Nat), .int .u8 (byteN x 5 : Nat), .int .u8 (byteN x 6 : Nat), .int .u8 (byteN x 7 : Nat), .int .u8 (byteN y 0 : Nat), .int .u8 (byteN y 1 : Nat), .int .u8 (byteN y 2 : Nat), .int .u8 (byteN y 3 : Nat), .int .u8 (byteN y 4 : Nat), .int .u8 (byteN y 5 : Nat), .int .u8 (byteN y 6 : Nat), .int .u8 (byteN y 7 : Nat)]) ∧ Below w.heap.size w w' := by
 have HOF : Hid (∀ wz, Calls Try.prog 131 #[.agg #[.int .u64 x, .int .u64 y]] wz fun e w' => e = .returned (.agg #[.int .u64 x, .int .u64 y]) ∧ Below wz.heap.size wz w') := by
  intro wz
  have h := wide_Of (x : Int) (y : Int) wz (by omega) (by omega) (by omega) (by omega) ((x : Int) + 18446744073709551616 * (y : Int)) ((Int.emod_eq_of_lt (by omega) hxy).symm)
  rwa [show ((x : Int) + 18446744073709551616 * (y : Int)) % 18446744073709551616 = x by omega, show ((x : Int) + 18446744073709551616 * (y : Int)) / 18446744073709551616 = y by omega] at h
 clear hx hxy
 go_enter Try.func123, Try.ntmps123
 go_upto_region 1 with fail
 have hx := (V2.new w (.int .u64 x) (.int .u64 y) 99).alloc (.cells #[.int .u8 0, .int .u8 0, .int .u8 0, .int .u8 0, .int .u8 0, .int .u8 0, .int .u8 0, .int .u8 0, .int .u8 0, .int .u8 0, .int .u8 0, .int .u8 0, .int .u8 0, .int .u8 0, .int .u8 0, .int .u8 0] 23)
 have hr := Vs.new (w.alloc (.cells #[.int .u64 x, .int .u64 y] 99)) [.int .u8 0, .int .u8 0, .int .u8 0, .int .u8 0, .int .u8 0, .int .u8 0, .int .u8 0, .int .u8 0, .int .u8 0, .int .u8 0, .int .u8 0, .int .u8 0, .int .u8 0, .int .u8 0, .int .u8 0, .int .u8 0] #[.int .u8 0, .int .u8 0, .int .u8 0, .int .u8 0, .int .u8 0, .int .u8 0, .int .u8 0, .int .u8 0, .int .u8 0, .int .u8 0, .int .u8 0, .int .u8 0, .int .u8 0, .int .u8 0, .int .u8 0, .int .u8 0] 23 rfl
 simp only [World.size_alloc] at hr
 have hb00 : Below w.heap.size w ((w.alloc (.cells #[.int .u64 x, .int .u64 y] 99)).alloc (.cells #[.int .u8 0, .int .u8 0, .int .u8 0, .int .u8 0, .int .u8 0, .int .u8 0, .int .u8 0, .int .u8 0, .int .u8 0, .int .u8 0, .int .u8 0, .int .u8 0, .int .u8 0, .int .u8 0, .int .u8 0, .int .u8 0] 23)) := by repeat (first | exact bA | with_reducible assumption | apply bB)
 have hszn : w.heap.size + 2 ≤ ((w.alloc (.cells #[.int .u64 x, .int .u64 y] 99)).alloc (.cells #[.int .u8 0, .int .u8 0, .int .u8 0, .int .u8 0, .int .u8 0, .int .u8 0, .int .u8 0, .int .u8 0, .int .u8 0, .int .u8 0, .int .u8 0, .int .u8 0, .int .u8 0, .int .u8 0, .int .u8 0, .int .u8 0] 23)).heap.size := by simp only [World.size_alloc]; omega
 generalize ((w.alloc (.cells #[.int .u64 x, .int .u64 y] 99)).alloc (.cells #[.int .u8 0, .int .u8 0, .int .u8 0, .int .u8 0, .int .u8 0, .int .u8 0, .int .u8 0, .int .u8 0, .int .u8 0, .int .u8 0, .int .u8 0, .int .u8 0, .int .u8 0, .int .u8 0, .int .u8 0, .int .u8 0] 23)) = w1 at hx hr hb00 hszn ⊢
 obtain ⟨x0, x1, x2, x3, x4⟩ := V2.mk hx.c0 hx.c1 hx.f0 hx.f1 hx.lt
 go_upto_region 2 with (first
  | (go_at_call 131; refine (HOF.out _).mono ?_; rintro e w2 ⟨rfl, hb2⟩; replace hb00 := bl_call hb00 (Nat.le_refl _) hb2; replace hx := hx.call hb2; replace hr := hr.call hb2; clear x0 x1 x2 x3 x4; clear hb2; obtain ⟨x0, x1, x2, x3, x4⟩ := V2.mk hx.c0 hx.c1 hx.f0 hx.f1 hx.lt))
 clear x0 x1 x2 x3 x4
 replace hr := (hr.far (p := ⟨w.heap.size, 0, none⟩) (by dsimp only; omega) (.int .u64 x)).far (p := ⟨w.heap.size, 1, none⟩) (by dsimp only; omega) (.int .u64 y)
 replace hx := V2.set hx (.int .u64 x) (.int .u64 y)
 replace hb00 := bl_st hb00 (Nat.le_refl _) (.int .u64 x) (.int .u64 y)
 generalize (w2.setCell ⟨w.heap.size, 0, none⟩ (.int .u64 x)).setCell ⟨w.heap.size, 1, none⟩ (.int .u64 y) = w3 at hr hx hb00 ⊢
 have hgr : w.heap.size + 1 < w3.heap.size := hr.lt
 go_upto_region 3 with fail
 have hb := Vs.new w3 [.int .u8 0, .int .u8 0, .int .u8 0, .int .u8 0, .int .u8 0, .int .u8 0, .int .u8 0, .int .u8 0, .int .u8 0, .int .u8 0, .int .u8 0, .int .u8 0, .int .u8 0, .int .u8 0, .int .u8 0, .int .u8 0] #[.int .u8 0, .int .u8 0, .int .u8 0, .int .u8 0, .int .u8 0, .int .u8 0, .int .u8 0, .int .u8 0, .int .u8 0, .int .u8 0, .int .u8 0, .int .u8 0, .int .u8 0, .int .u8 0, .int .u8 0, .int .u8 0] 23 rfl
 have hbA : Below w3.heap.size w3 (w3.alloc (.cells #[.int .u8 0, .int .u8 0, .int .u8 0, .int .u8 0, .int .u8 0, .int .u8 0, .int .u8 0, .int .u8 0, .int .u8 0, .int .u8 0, .int .u8 0, .int .u8 0, .int .u8 0, .int .u8 0, .int .u8 0, .int .u8 0] 23)) := by repeat (first | exact bA | with_reducible assumption | apply bB)
 replace hb00 := bl_call hb00 (Nat.le_refl _) hbA
 replace hx := hx.call hbA
 replace hr := hr.call hbA
 clear hbA
 generalize w3.alloc (.cells #[.int .u8 0, .int .u8 0, .int .u8 0, .int .u8 0, .int .u8 0, .int .u8 0, .int .u8 0, .int .u8 0, .int .u8 0, .int .u8 0, .int .u8 0, .int .u8 0, .int .u8 0, .int .u8 0, .int .u8 0, .int .u8 0] 23) = w4 at hb00 hx hr hb ⊢
 have hgl : w3.heap.size < w4.heap.size := hb.lt
 generalize w3.heap.size = g at *
 have HBL : Hid ((bytesN x 8 ++ bytesN y 8).length = 16) := by show (_ : List Int).length = 16; rw [List.length_append, bytesN_length, bytesN_length]
 go_wp2_with fail
 go_loopw [7] (fun i wr => ∃ k : Nat, k ≤ 16 ∧ i = .int .i64 k ∧ V2 wr w.heap.size (.int .u64 x) (.int .u64 y) ∧ Vs wr (w.heap.size + 1) [.int .u8 0, .int .u8 0, .int .u8 0, .int .u8 0, .int .u8 0, .int .u8 0, .int .u8 0, .int .u8 0, .int .u8 0, .int .u8 0, .int .u8 0, .int .u8 0, .int .u8 0, .int .u8 0, .int .u8 0, .int .u8 0] ∧
  Vs wr g (cells8 ((bytesN x 8 ++ bytesN y 8).take k ++ List.replicate (16 - k) 0)) ∧ Below w.heap.size w wr) (fun i _ => 16 - (intOf i).toNat)
 case atStart => exact ⟨0, by omega, rfl, hx, hr, hb, hb00⟩
 case round =>
  clear hx hr hb hb00
  obtain ⟨k, hk, rfl, hx, hr, hb, hbw⟩ := hrel
  by_cases hlt : k < 16
  ·by_cases hk8 : k < 8
   ·have hq1 : (k : Int) / 8 = 0 := by omega
    have hq2 : (k : Int).tdiv 8 = 0 := by rw [Int.tdiv_eq_ediv_of_nonneg (by omega)]; exact hq1
    have hq3 : (k : Int) % 8 = (k : Int) := by omega
    have hq4 : (k : Int).tmod 8 = (k : Int) := by rw [Int.tmod_eq_emod_of_nonneg (by omega)]; exact hq3
    have hq5 : k / 8 = 0 := by omega
    have hq6 : k % 8 = k := by omega
    obtain ⟨s, hs⟩ : ∃ s, 8 * k = s := ⟨_, rfl⟩
    have hsi : (8 : Int) * (k : Int) = (s : Int) := by omega
    have hs64 : s ≤ 56 := by omega
    have hs0 : (0 : Int) ≤ (s : Int) := by omega
    have hwr := byteN_wrap x s
    have hat : (bytesN x 8 ++ bytesN y 8)[k]? = some ((x / 2 ^ s % 256 : Nat) : Int) := by
     rw [List.getElem?_append_left (by rw [bytesN_length]; exact hk8), bytesN_at x 8 k hk8, ← hs]
     rfl
    obtain ⟨d, hd⟩ : ∃ d, x / 2 ^ s % 256 = d := ⟨_, rfl⟩
    rw [hd] at hwr hat
    have hlen : k < (cells8 ((bytesN x 8 ++ bytesN y 8).take k ++ List.replicate (16 - k) 0)).length := by rw [cells8_length, List.length_append, List.length_take, List.length_replicate, HBL.out]; omega
    have hB2 := hb.put k hlen (.int .u8 (d : Int))
    have HL : Hid ((cells8 ((bytesN x 8 ++ bytesN y 8).take k ++ List.replicate (16 - k) 0)).set k (.int .u8 (d : Int)) = cells8 ((bytesN x 8 ++ bytesN y 8).take (k + 1) ++ List.replicate (16 - (k + 1)) 0)) := by
     show (cells8 _).set k _ = _
     unfold cells8
     rw [← List.map_set, fill_set (bytesN x 8 ++ bytesN y 8) 0 (d : Int) 16 k HBL.out hlt hat]
    rw [HL.out] at hB2
    have HB2 := Lib.hid hB2
    obtain ⟨v0, c0⟩ : ∃ v, wr.cell? ⟨g, k, none⟩ = some v := ⟨_, hb.cell k _ (List.getElem?_eq_getElem hlen)⟩
    have f0 := hb.frz k hlen
    have hblt := hb.lt
    have HR2 := Lib.hid (hr.far (p := ⟨g, k, none⟩) (by dsimp only; omega) (.int .u8 (d : Int)))
    have HX2 := Lib.hid (hx.setOther (p := ⟨g, k, none⟩) (by dsimp only; omega) (.int .u8 (d : Int)))
    have hw8 : IntKind.i64.wrap (s : Int) = (s : Int) := IntWalk.i64_in _ (by omega)
    have hwm : (0 : Int) ≤ (k : Int) := by omega
    obtain ⟨x0, x1, x2, x3, x4⟩ := V2.mk hx.c0 hx.c1 hx.f0 hx.f1 hx.lt
    clear hs hd hat hB2 hlen hb hr hx
    go_wp2_with fail
    go_roundw
    case rel => exact ⟨k + 1, by omega, by go_num, HX2.out, HR2.out, HB2.out, by repeat (first | exact bA | with_reducible assumption | apply bB | (refine bC ?_ (by dsimp only; omega)) | apply bD | apply bE | (refine bF ?_ (by assumption)))⟩
    case measure => simp [intOf]; omega
   ·obtain ⟨m, rfl⟩ : ∃ m, k = m + 8 := ⟨k - 8, by omega⟩
    have hq1 : ((m : Int) + 8) / 8 = 1 := by omega
    have hq2 : ((m : Int) + 8).tdiv 8 = 1 := by rw [Int.tdiv_eq_ediv_of_nonneg (by omega)]; exact hq1
    have hq3 : ((m : Int) + 8) % 8 = (m : Int) := by omega
    have hq4 : ((m : Int) + 8).tmod 8 = (m : Int) := by rw [Int.tmod_eq_emod_of_nonneg (by omega)]; exact hq3
    have hq5 : (m + 8) / 8 = 1 := by omega
    have hq6 : (m + 8) % 8 = m := by omega
    obtain ⟨k, hkm⟩ : ∃ k, m + 8 = k := ⟨_, rfl⟩
    have hkm2 : (m : Int) + 8 = (k : Int) := by omega
    rw [hkm] at hq5 hq6 hb hlt hk
    rw [hkm2] at hq1 hq2 hq3 hq4
    rw [show ((m + 8 : Nat) : Int) = (k : Int) by omega]
    obtain ⟨s, hs⟩ : ∃ s, 8 * m = s := ⟨_, rfl⟩
    have hsi : (8 : Int) * (m : Int) = (s : Int) := by omega
    have hs64 : s ≤ 56 := by omega
    have hs0 : (0 : Int) ≤ (s : Int) := by omega
    have hwr := byteN_wrap y s
    have hat : (bytesN x 8 ++ bytesN y 8)[k]? = some ((y / 2 ^ s % 256 : Nat) : Int) := by
     rw [List.getElem?_append_right (by rw [bytesN_length]; omega), bytesN_length, show k - 8 = m by omega, bytesN_at y 8 m (by omega), ← hs]
     rfl
    obtain ⟨d, hd⟩ : ∃ d, y / 2 ^ s % 256 = d := ⟨_, rfl⟩
    rw [hd] at hwr hat
    have hlen : k < (cells8 ((bytesN x 8 ++ bytesN y 8).take k ++ List.replicate (16 - k) 0)).length := by rw [cells8_length, List.length_append, List.length_take, List.length_replicate, HBL.out]; omega
    have hB2 := hb.put k hlen (.int .u8 (d : Int))
    have HL : Hid ((cells8 ((bytesN x 8 ++ bytesN y 8).take k ++ List.replicate (16 - k) 0)).set k (.int .u8 (d : Int)) = cells8 ((bytesN x 8 ++ bytesN y 8).take (k + 1) ++ List.replicate (16 - (k + 1)) 0)) := by
     show (cells8 _).set k _ = _
     unfold cells8
     rw [← List.map_set, fill_set (bytesN x 8 ++ bytesN y 8) 0 (d : Int) 16 k HBL.out hlt hat]
    rw [HL.out] at hB2
    have HB2 := Lib.hid hB2
    obtain ⟨v0, c0⟩ : ∃ v, wr.cell? ⟨g, k, none⟩ = some v := ⟨_, hb.cell k _ (List.getElem?_eq_getElem hlen)⟩
    have f0 := hb.frz k hlen
    have hblt := hb.lt
    have HR2 := Lib.hid (hr.far (p := ⟨g, k, none⟩) (by dsimp only; omega) (.int .u8 (d : Int)))
    have HX2 := Lib.hid (hx.setOther (p := ⟨g, k, none⟩) (by dsimp only; omega) (.int .u8 (d : Int)))
    have hw8 : IntKind.i64.wrap (s : Int) = (s : Int) := IntWalk.i64_in _ (by omega)
    have hwm : (0 : Int) ≤ (m : Int) := by omega
    obtain ⟨x0, x1, x2, x3, x4⟩ := V2.mk hx.c0 hx.c1 hx.f0 hx.f1 hx.lt
    clear hkm hkm2 hs hd hat hB2 hlen hb hr hx
    go_wp2_with fail
    go_roundw
    case rel => exact ⟨k + 1, by omega, by go_num, HX2.out, HR2.out, HB2.out, by repeat (first | exact bA | with_reducible assumption | apply bB | (refine bC ?_ (by dsimp only; omega)) | apply bD | apply bE | (refine bF ?_ (by assumption)))⟩
    case measure => simp [intOf]; omega
  ·obtain rfl : k = 16 := by omega
   rw [List.take_of_length_le (by rw [HBL.out]; exact Nat.le_refl _), Nat.sub_self, List.replicate_zero, List.append_nil] at hb
   have hb' : Vs wr g [.int .u8 (byteN x 0 : Nat), .int .u8 (byteN x 1 : Nat), .int .u8 (byteN x 2 : Nat), .int .u8 (byteN x 3 : Nat), .int .u8 (byteN x 4 : Nat), .int .u8 (byteN x 5 : Nat), .int .u8 (byteN x 6 : Nat), .int .u8 (byteN x 7 : Nat), .int .u8 (byteN y 0 : Nat), .int .u8 (byteN y 1 : Nat), .int .u8 (byteN y 2 : Nat), .int .u8 (byteN y 3 : Nat), .int .u8 (byteN y 4 : Nat), .int .u8 (byteN y 5 : Nat), .int .u8 (byteN y 6 : Nat), .int .u8 (byteN y 7 : Nat)] := hb
   clear hb
   obtain ⟨⟨bq0, bq1, bq2, bq3, bq4, bq5, bq6, bq7, bq8, bq9, bq10, bq11, bq12, bq13, bq14, bq15⟩, ⟨bq16, bq17, bq18, bq19, bq20, bq21, bq22, bq23, bq24, bq25, bq26, bq27, bq28, bq29, bq30, bq31⟩, bq32⟩ := hb'.get16
   obtain ⟨⟨r0, r1, r2, r3, r4, r5, r6, r7, r8, r9, r10, r11, r12, r13, r14, r15⟩, ⟨r16, r17, r18, r19, r20, r21, r22, r23, r24, r25, r26, r27, r28, r29, r30, r31⟩, r32⟩ := hr.get16
   go_wp2_with fail
   have hS := ((((((((((((((((hr.put 0 (by simp) (.int .u8 (byteN x 0 : Nat))).put 1 (by simp) (.int .u8 (byteN x 1 : Nat))).put 2 (by simp) (.int .u8 (byteN x 2 : Nat))).put 3 (by simp) (.int .u8 (byteN x 3 : Nat))).put 4 (by simp) (.int .u8 (byteN x 4 : Nat))).put 5 (by simp) (.int .u8 (byteN x 5 : Nat))).put 6 (by simp) (.int .u8 (byteN x 6 : Nat))).put 7 (by simp) (.int .u8 (byteN x 7 : Nat))).put 8 (by simp) (.int .u8 (byteN y 0 : Nat))).put 9 (by simp) (.int .u8 (byteN y 1 : Nat))).put 10 (by simp) (.int .u8 (byteN y 2 : Nat))).put 11 (by simp) (.int .u8 (byteN y 3 : Nat))).put 12 (by simp) (.int .u8 (byteN y 4 : Nat))).put 13 (by simp) (.int .u8 (byteN y 5 : Nat))).put 14 (by simp) (.int .u8 (byteN y 6 : Nat))).put 15 (by simp) (.int .u8 (byteN y 7 : Nat)))
   have hB := (bl_set (p := ⟨w.heap.size + 1, 15, none⟩) (bl_set (p := ⟨w.heap.size + 1, 14, none⟩) (bl_set (p := ⟨w.heap.size + 1, 13, none⟩) (bl_set (p := ⟨w.heap.size + 1, 12, none⟩) (bl_set (p := ⟨w.heap.size + 1, 11, none⟩) (bl_set (p := ⟨w.heap.size + 1, 10, none⟩) (bl_set (p := ⟨w.heap.size + 1, 9, none⟩) (bl_set (p := ⟨w.heap.size + 1, 8, none⟩) (bl_set (p := ⟨w.heap.size + 1, 7, none⟩) (bl_set (p := ⟨w.heap.size + 1, 6, none⟩) (bl_set (p := ⟨w.heap.size + 1, 5, none⟩) (bl_set (p := ⟨w.heap.size + 1, 4, none⟩) (bl_set (p := ⟨w.heap.size + 1, 3, none⟩) (bl_set (p := ⟨w.heap.size + 1, 2, none⟩) (bl_set (p := ⟨w.heap.size + 1, 1, none⟩) (bl_set (p := ⟨w.heap.size + 1, 0, none⟩) hbw (by dsimp only; omega) (.int .u8 (byteN x 0 : Nat))) (by dsimp only; omega) (.int .u8 (byteN x 1 : Nat))) (by dsimp only; omega) (.int .u8 (byteN x 2 : Nat))) (by dsimp only; omega) (.int .u8 (byteN x 3 : Nat))) (by dsimp only; omega) (.int .u8 (byteN x 4 : Nat))) (by dsimp only; omega) (.int .u8 (byteN x 5 : Nat))) (by dsimp only; omega) (.int .u8 (byteN x 6 : Nat))) (by dsimp only; omega) (.int .u8 (byteN x 7 : Nat))) (by dsimp only; omega) (.int .u8 (byteN y 0 : Nat))) (by dsimp only; omega) (.int .u8 (byteN y 1 : Nat))) (by dsimp only; omega) (.int .u8 (byteN y 2 : Nat))) (by dsimp only; omega) (.int .u8 (byteN y 3 : Nat))) (by dsimp only; omega) (.int .u8 (byteN y 4 : Nat))) (by dsimp only; omega) (.int .u8 (byteN y 5 : Nat))) (by dsimp only; omega) (.int .u8 (byteN y 6 : Nat))) (by dsimp only; omega) (.int .u8 (byteN y 7 : Nat)))
   refine bodyPost_ret (results_b16 (b := w.heap.size + 1) hS rfl rfl) rfl ⟨rfl, hB⟩

end Go.Proofs.Ytbakkmfjamcbfaa

namespace Go.Proofs.Ytbakkmfjamcbfaa
open Go.RowKit Fm
set_option linter.unusedVariables false
set_option maxRecDepth 100000

theorem bytes_eq : ∀ (n a b : Nat), a < 256 ^ n → b < 256 ^ n → (∀ i, i < n → a / 256 ^ i % 256 = b / 256 ^ i % 256) → a = b
 | 0, a, b, ha, hb, _ => by simp at ha hb; omega
 | n + 1, a, b, ha, hb, h => by
  have h0 := h 0 (by omega)
  simp only [Nat.pow_zero, Nat.div_one] at h0
  have h1 : a / 256 = b / 256 := by
   refine bytes_eq n _ _ ?_ ?_ fun i hi => ?_
   ·rw [Nat.pow_succ, Nat.mul_comm] at ha
    exact (Nat.div_lt_iff_lt_mul (by omega)).2 (by rwa [Nat.mul_comm])
   ·rw [Nat.pow_succ, Nat.mul_comm] at hb
    exact (Nat.div_lt_iff_lt_mul (by omega)).2 (by rwa [Nat.mul_comm])
   ·have h2 := h (i + 1) (by omega)
    rw [Nat.pow_succ, Nat.mul_comm, ← Nat.div_div_eq_div_mul, ← Nat.div_div_eq_div_mul] at h2
    exact h2
  omega
theorem byteN_256 (x i : Nat) : byteN x i = x / 256 ^ i % 256 := by
 unfold byteN
 rw [Nat.pow_mul]
theorem bytesN_inj {a b : Nat} (ha : a < 18446744073709551616) (hb : b < 18446744073709551616) (h : bytesN a 8 = bytesN b 8) : a = b := by
 refine bytes_eq 8 a b (by simpa using ha) (by simpa using hb) fun i hi => ?_
 have h1 := bytesN_at a 8 i hi
 rw [h, bytesN_at b 8 i hi] at h1
 have h2 : ((byteN b i : Nat) : Int) = ((byteN a i : Nat) : Int) := Option.some.inj h1
 rw [← byteN_256, ← byteN_256]
 omega

def bytesK {f : Nat} (x : Fin (Pm f)) : List Int := if f = 1 then bytesN (lo x).toNat 8 else bytesN (lo x).toNat 8 ++ bytesN (hi x).toNat 8
def sizeK (f : Nat) : Nat := if f = 1 then 8 else 16
theorem bytesK_length {f : Nat} (x : Fin (Pm f)) : (bytesK x).length = sizeK f := by
 unfold bytesK sizeK
 split
 ·exact bytesN_length _ _
 ·rw [List.length_append, bytesN_length, bytesN_length]
theorem bytesK_inj {f : Nat} (hf : IsF f) {x y : Fin (Pm f)} (h : bytesK x = bytesK y) : x = y := by
 have h0 := lo_0 x
 have h1 := lo_1 x
 have h2 := lo_0 y
 have h3 := lo_1 y
 have g0 := hi_0 x
 have g1 := hi_1 x
 have g2 := hi_0 y
 have g3 := hi_1 y
 unfold bytesK at h
 by_cases h1f : f = 1
 ·rw [if_pos h1f, if_pos h1f] at h
  have e := bytesN_inj (by omega) (by omega) h
  refine lohi_inj (by omega) ?_
  subst h1f
  have a1 := val_lohi x
  have a2 := val_lohi y
  have b1 := x.isLt
  have b2 := y.isLt
  have hp : Pm 1 = 18446744069414584321 := rfl
  omega
 ·rw [if_neg h1f, if_neg h1f] at h
  obtain ⟨e1, e2⟩ := List.append_inj h (by rw [bytesN_length, bytesN_length])
  have e3 := bytesN_inj (by omega) (by omega) e1
  have e4 := bytesN_inj (by omega) (by omega) e2
  exact lohi_inj (by omega) (by omega)
theorem bytesK_u8 {f : Nat} (x : Fin (Pm f)) : ∀ e, e ∈ bytesK x → 0 ≤ e ∧ e ≤ 255 := by
 have key : ∀ a n e, e ∈ bytesN a n → 0 ≤ e ∧ e ≤ 255 := by
  intro a n e he
  unfold bytesN at he
  obtain ⟨i, _, rfl⟩ := List.mem_map.1 he
  have : byteN a i < 256 := Nat.mod_lt _ (by omega)
  omega
 intro e he
 unfold bytesK at he
 split at he
 ·exact key _ _ e he
 ·rcases List.mem_append.1 he with h | h <;> exact key _ _ e h

def vecB {f : Nat} (l : KL f) : List Int := l.flatMap bytesK
theorem vecB_length {f : Nat} (l : KL f) : (vecB l).length = l.length * sizeK f := by
 unfold vecB
 induction l with
 | nil => simp
 | cons x l ih => rw [List.flatMap_cons, List.length_append, ih, bytesK_length, List.length_cons, Nat.succ_mul, Nat.add_comm]
theorem vecB_inj {f : Nat} (hf : IsF f) : ∀ {l m : KL f}, l.length = m.length → vecB l = vecB m → l = m
 | [], [], _, _ => rfl
 | [], _ :: _, h, _ => by simp at h
 | _ :: _, [], h, _ => by simp at h
 | x :: l, y :: m, hl, h => by
  unfold vecB at h
  rw [List.flatMap_cons, List.flatMap_cons] at h
  obtain ⟨e1, e2⟩ := List.append_inj h (by rw [bytesK_length, bytesK_length])
  rw [bytesK_inj hf e1, vecB_inj hf (by simpa using hl) e2]
theorem vecB_u8 {f : Nat} (l : KL f) : ∀ e, e ∈ vecB l → 0 ≤ e ∧ e ≤ 255 := by
 intro e he
 unfold vecB at he
 obtain ⟨x, _, h⟩ := List.mem_flatMap.1 he
 exact bytesK_u8 x e h
section
variable {f : Nat} (hf : IsF f)
include hf

set_option maxHeartbeats 4000000 in
theorem field_Bytes (x : Fin (Pm f)) (w : World) :
  Calls Try.prog 106 #[.int .u8 f, vK x] w fun e w' => ∃ g : Nat, e = .returned (.slice (some ⟨g, 0, none⟩) (sizeK f) (sizeK f)) ∧ Vs w' g (cells8 (bytesK x)) ∧ w.heap.size ≤ g ∧ Below w.heap.size w w' := by
 obtain ⟨a, ha⟩ : ∃ a : Nat, lo x = (a : Int) := ⟨(lo x).toNat, by have := lo_0 x; omega⟩
 obtain ⟨b, hb⟩ : ∃ b : Nat, hi x = (b : Int) := ⟨(hi x).toNat, by have := hi_0 x; omega⟩
 have h1 := lo_1 x
 have hv := val_lohi x
 have hlt := x.isLt
 have hv2 : vK x = .agg #[.int .u64 a, .int .u64 b] := by rw [← ha, ← hb]
 rw [hv2]
 have hta : (lo x).toNat = a := by omega
 have htb : (hi x).toNat = b := by omega
 have HBK : Hid (bytesK x = if f = 1 then bytesN a 8 else bytesN a 8 ++ bytesN b 8) := by
  show bytesK x = _
  unfold bytesK
  rw [hta, htb]
 rcases hf.or with rfl | rfl
 ·have HG := Lib.hid (fun wz => gold_Bytes a (by have hp : Pm 1 = 18446744069414584321 := rfl; omega) wz)
  rw [if_pos rfl] at HBK
  clear h1 hv hlt hv2 hta htb ha hb
  have hb00 : Below w.heap.size w w := Below.refl _ _
  go_enter Try.func106, Try.ntmps106
  go_upto_region 1 with fail
  have hx := V2.new w (.int .u64 a) (.int .u64 b) 99
  have hbA : Below w.heap.size w (w.alloc (.cells #[.int .u64 a, .int .u64 b] 99)) := by repeat (first | exact bA | with_reducible assumption | apply bB)
  replace hb00 := bl_call hb00 (Nat.le_refl _) hbA
  clear hbA
  generalize w.alloc (.cells #[.int .u64 a, .int .u64 b] 99) = w1 at hb00 hx ⊢
  obtain ⟨x0, x1, x2, x3, x4⟩ := V2.mk hx.c0 hx.c1 hx.f0 hx.f1 hx.lt
  go_upto_region 4 with (first
   | (go_at_call 122; refine (HG.out _).mono ?_; rintro e w2 ⟨rfl, hb2⟩; replace hb00 := bl_call hb00 (Nat.le_refl _) hb2; replace hx := hx.call hb2))
  clear x0 x1 x2 x3 x4
  have hz := hb00.size
  have hr := Vs.new w2 [.int .u8 (byteN a 0 : Nat), .int .u8 (byteN a 1 : Nat), .int .u8 (byteN a 2 : Nat), .int .u8 (byteN a 3 : Nat), .int .u8 (byteN a 4 : Nat), .int .u8 (byteN a 5 : Nat), .int .u8 (byteN a 6 : Nat), .int .u8 (byteN a 7 : Nat)] #[.int .u8 (byteN a 0 : Nat), .int .u8 (byteN a 1 : Nat), .int .u8 (byteN a 2 : Nat), .int .u8 (byteN a 3 : Nat), .int .u8 (byteN a 4 : Nat), .int .u8 (byteN a 5 : Nat), .int .u8 (byteN a 6 : Nat), .int .u8 (byteN a 7 : Nat)] 205 rfl
  have hbA : Below w2.heap.size w2 (w2.alloc (.cells #[.int .u8 (byteN a 0 : Nat), .int .u8 (byteN a 1 : Nat), .int .u8 (byteN a 2 : Nat), .int .u8 (byteN a 3 : Nat), .int .u8 (byteN a 4 : Nat), .int .u8 (byteN a 5 : Nat), .int .u8 (byteN a 6 : Nat), .int .u8 (byteN a 7 : Nat)] 205)) := by repeat (first | exact bA | with_reducible assumption | apply bB)
  replace hb00 := bl_call hb00 (Nat.le_refl _) hbA
  replace hx := hx.call hbA
  clear hbA
  generalize w2.alloc (.cells #[.int .u8 (byteN a 0 : Nat), .int .u8 (byteN a 1 : Nat), .int .u8 (byteN a 2 : Nat), .int .u8 (byteN a 3 : Nat), .int .u8 (byteN a 4 : Nat), .int .u8 (byteN a 5 : Nat), .int .u8 (byteN a 6 : Nat), .int .u8 (byteN a 7 : Nat)] 205) = w3 at hb00 hx hr ⊢
  go_wp2_with fail
  go_ret
  exact ⟨_, rfl, by rw [HBK.out]; exact hr, hz, hb00⟩
 ·have HG := Lib.hid (fun wz => wide_Bytes a b (by omega) (by have hp : Pm 2 = 340282366920938462946865773367900766209 := rfl; omega) wz)
  rw [if_neg (by decide)] at HBK
  clear h1 hv hlt hv2 hta htb ha hb
  have hb00 : Below w.heap.size w w := Below.refl _ _
  go_enter Try.func106, Try.ntmps106
  go_upto_region 1 with fail
  have hx := V2.new w (.int .u64 a) (.int .u64 b) 99
  have hbA : Below w.heap.size w (w.alloc (.cells #[.int .u64 a, .int .u64 b] 99)) := by repeat (first | exact bA | with_reducible assumption | apply bB)
  replace hb00 := bl_call hb00 (Nat.le_refl _) hbA
  clear hbA
  generalize w.alloc (.cells #[.int .u64 a, .int .u64 b] 99) = w1 at hb00 hx ⊢
  obtain ⟨x0, x1, x2, x3, x4⟩ := V2.mk hx.c0 hx.c1 hx.f0 hx.f1 hx.lt
  go_upto_region 7 with (first
   | (go_at_call 123; refine (HG.out _).mono ?_; rintro e w2 ⟨rfl, hb2⟩; replace hb00 := bl_call hb00 (Nat.le_refl _) hb2; replace hx := hx.call hb2))
  clear x0 x1 x2 x3 x4
  have hz := hb00.size
  have hr := Vs.new w2 [.int .u8 (byteN a 0 : Nat), .int .u8 (byteN a 1 : Nat), .int .u8 (byteN a 2 : Nat), .int .u8 (byteN a 3 : Nat), .int .u8 (byteN a 4 : Nat), .int .u8 (byteN a 5 : Nat), .int .u8 (byteN a 6 : Nat), .int .u8 (byteN a 7 : Nat), .int .u8 (byteN b 0 : Nat), .int .u8 (byteN b 1 : Nat), .int .u8 (byteN b 2 : Nat), .int .u8 (byteN b 3 : Nat), .int .u8 (byteN b 4 : Nat), .int .u8 (byteN b 5 : Nat), .int .u8 (byteN b 6 : Nat), .int .u8 (byteN b 7 : Nat)] #[.int .u8 (byteN a 0 : Nat), .int .u8 (byteN a 1 : Nat), .int .u8 (byteN a 2 : Nat), .int .u8 (byteN a 3 : Nat), .int .u8 (byteN a 4 : Nat), .int .u8 (byteN a 5 : Nat), .int .u8 (byteN a 6 : Nat), .int .u8 (byteN a 7 : Nat), .int .u8 (byteN b 0 : Nat), .int .u8 (byteN b 1 : Nat), .int .u8 (byteN b 2 : Nat), .int .u8 (byteN b 3 : Nat), .int .u8 (byteN b 4 : Nat), .int .u8 (byteN b 5 : Nat), .int .u8 (byteN b 6 : Nat), .int .u8 (byteN b 7 : Nat)] 23 rfl
  have hbA : Below w2.heap.size w2 (w2.alloc (.cells #[.int .u8 (byteN a 0 : Nat), .int .u8 (byteN a 1 : Nat), .int .u8 (byteN a 2 : Nat), .int .u8 (byteN a 3 : Nat), .int .u8 (byteN a 4 : Nat), .int .u8 (byteN a 5 : Nat), .int .u8 (byteN a 6 : Nat), .int .u8 (byteN a 7 : Nat), .int .u8 (byteN b 0 : Nat), .int .u8 (byteN b 1 : Nat), .int .u8 (byteN b 2 : Nat), .int .u8 (byteN b 3 : Nat), .int .u8 (byteN b 4 : Nat), .int .u8 (byteN b 5 : Nat), .int .u8 (byteN b 6 : Nat), .int .u8 (byteN b 7 : Nat)] 23)) := by repeat (first | exact bA | with_reducible assumption | apply bB)
  replace hb00 := bl_call hb00 (Nat.le_refl _) hbA
  replace hx := hx.call hbA
  clear hbA
  generalize w2.alloc (.cells #[.int .u8 (byteN a 0 : Nat), .int .u8 (byteN a 1 : Nat), .int .u8 (byteN a 2 : Nat), .int .u8 (byteN a 3 : Nat), .int .u8 (byteN a 4 : Nat), .int .u8 (byteN a 5 : Nat), .int .u8 (byteN a 6 : Nat), .int .u8 (byteN a 7 : Nat), .int .u8 (byteN b 0 : Nat), .int .u8 (byteN b 1 : Nat), .int .u8 (byteN b 2 : Nat), .int .u8 (byteN b 3 : Nat), .int .u8 (byteN b 4 : Nat), .int .u8 (byteN b 5 : Nat), .int .u8 (byteN b 6 : Nat), .int .u8 (byteN b 7 : Nat)] 23) = w3 at hb00 hx hr ⊢
  go_wp2_with fail
  go_ret
  exact ⟨_, rfl, by rw [HBK.out]; exact hr, hz, hb00⟩
end

end Go.Proofs.Ytbakkmfjamcbfaa

namespace Go.Proofs.Ytbakkmfjamcbfaa
open Go Go.RowKit
set_option linter.unusedVariables false

section
variable {P : Program} {ops : Array Oper} {Q : Exit → Act → World → Prop} {md : Region.Mode} {n m : Nat} {L : Act → World → Prop} {f : Nat} {listed : Array Bool} {a : Act} {T S : World → Prop}
variable {L' : Act → World → Prop}
theorem region_Z3 {id n m f : Nat} {l : List Oper} {a : Act} {w : World} {α β γ : Type} (R : α → β → γ → World → Prop) (T S : World → Prop) (hST : ∀ w, S w → T w) (hC : Clo S) (hS : S w.drew) {E : α → β → γ → Act} (hm : P.follows .mixedOrders = true) (hB : partsB .any l.toArray n m (Array.replicate l.length false) = true) (hf : f + (m - n) = l.length)
  (h : WpX P .any l.toArray Q n m (fun a w => ∃ x y z, a = E x y z ∧ R x y z w) f (Array.replicate l.length false) a T S)
  (hc : ∀ x y z w', R x y z w' → wpList P l.toArray Q ((l.drop n).take (m - n)) (E x y z) w') : (Code.region id l.toArray true).wp P Q a w :=
 region_X T S hST hC hS hm hB hf (h.monoZ fun _ w ⟨x, y, z, e, hr⟩ => e ▸ hc x y z w hr)
end

end Go.Proofs.Ytbakkmfjamcbfaa

namespace Go.Proofs.Ytbakkmfjamcbfaa
open Go.RowKit Fm
set_option linter.unusedVariables false
set_option maxRecDepth 100000

/-! ### 'exclusive or' of bytes -/
/-! ### loads and stores of many cells at once -/
/-! ### a total's eighteen cells -/
section
variable {w : World} {b : Nat} {k : List Int} {v : Value} {m : Int}
end

theorem build_total0 (w : World) :
  (Instr.build 76 #[]).run Try.prog w = .ok (.agg (totL (.slice none 0 0) 0 z16).toArray) w := by kernel_rfl

/-! ### '==' of sixteen bytes -/
end Go.Proofs.Ytbakkmfjamcbfaa

namespace Go.Proofs.Ytbakkmfjamcbfaa
open Go.RowKit Fm
set_option linter.unusedVariables false
set_option maxRecDepth 100000

def RetT0 (c : Int) (w : World) (e : Ending) (w' : World) : Prop :=
 e = .returned (.tuple #[.agg (totL (.slice none 0 0) 0 z16).toArray, .int .i64 c]) ∧ Below w.heap.size w w'

end Go.Proofs.Ytbakkmfjamcbfaa

namespace Go.Proofs.Ytbakkmfjamcbfaa
open Go.RowKit Fm
set_option linter.unusedVariables false
set_option maxRecDepth 100000

section
variable {f : Nat}

theorem RwK.drew {w : World} {g : Nat} {l : KL f} (h : RwK w g l) : RwK w.drew g l := Vs.drew h
theorem RwK.belowB {w w' : World} {B g : Nat} {l : KL f} (h : RwK w g l) (hb : Below B w w') (hlt : g < B) : RwK w' g l := Vs.belowB h hb hlt
end

end Go.Proofs.Ytbakkmfjamcbfaa

namespace Go.Proofs.Ytbakkmfjamcbfaa
open Go.RowKit Fm
set_option linter.unusedVariables false
set_option maxRecDepth 100000

theorem Cnt.no {f : Nat} {l : KL f} {N k s : Nat} (h : Cnt l N k s) (hx : l[k]? = some 0) : Cnt l N (k + 1) s := by
 by_cases hk : k < N
 ·unfold Cnt at *
  rw [show min (k + 1) N = k + 1 by omega, ksum_take l k _ hx, h, show min k N = k by omega]
  grind
 ·exact h.out hk
theorem Num.no {f : Nat} {l : KL f} {j v : Nat} (h : Num l j v) (hx : l[j]? = some 0) : Num l (j + 1) v := by
 refine ⟨?_, ?_⟩
 ·rw [knum_take l j _ hx, ← h.1]
  grind
 ·have := h.2
  rw [Nat.pow_succ]
  omega
section
variable {f : Nat} (hf : IsF f)
include hf

end

end Go.Proofs.Ytbakkmfjamcbfaa

namespace Go.Proofs.Ytbakkmfjamcbfaa
open Go.RowKit Fm
set_option linter.unusedVariables false
set_option maxRecDepth 100000

/-! ### what is known of worlds within a region in which the gadget is asked -/
section
variable {D D1 : Nat → Prop} {w0 w w' : World} {I : (Nat → Prop) → World → Prop}
end

theorem Rd.from {D : Nat → Prop} {w0 w w' : World} {I : (Nat → Prop) → World → Prop} (h : Rd D w I w') (k : Exc D w0.heap.size w0 w) : Rd D w0 I w' := ⟨k.more h.1 fun _ hq => .inl hq, by
 obtain ⟨D', h1, h2⟩ := h.2
 exact ⟨D', h1, fun q hq => (h2 q hq).imp_right fun h3 => Nat.le_trans k.size h3⟩⟩
end Go.Proofs.Ytbakkmfjamcbfaa

namespace Go.Proofs.Ytbakkmfjamcbfaa
open Go.RowKit Fm
set_option linter.unusedVariables false
set_option maxRecDepth 100000

section
variable {w w' : World} {b : Nat} {v : Value} {m : Int} {k : List Int}
theorem RowB.belowB {g o B : Nat} {xs : List Int} (h : RowB w g o xs) (hb : Below B w w') (hg : g < B) : RowB w' g o xs := fun i e hi => (hb.cell (p := ⟨g, o + i, none⟩) hg).trans (h i e hi)
end
end Go.Proofs.Ytbakkmfjamcbfaa

namespace Go.Proofs.Ytbakkmfjamcbfaa
open Go.RowKit Go.Joins Go.ChangeShapes Go.WideShapes Go.Deep
set_option linter.unusedVariables false
set_option maxRecDepth 100000

section
variable {H : Type} {enc : TypeId × Value → H} {W : World} {base : Nat} {sp : Nat → Bool} {hd : Bool}

theorem okWide_array {P : Program} {w : World} {r : Reach} {b0 : Nat} {t e : TypeId} {n : Nat} {v : Value} (ht : P.underlying t = some (.array n e)) (h : Value.okWide P w r b0 t v) : ∃ cs, v = .agg cs ∧ cs.size = P.cellsOf t := by
 simp only [Value.okWide, ht] at h
 obtain ⟨cs, h1, h2, _⟩ := h
 exact ⟨cs, h1, h2⟩

theorem open_id {r : Reach} {b0 : Nat} {v : Value} {d : DataW H} {ps : List MemPlace} (hval : Value.okWide Try.prog W r b0 34 v) (h : DataW.Trod enc Try.prog W base sp hd 34 v d ps) :
  ∃ k : List Int, v = .agg (cells8 k).toArray ∧ k.length = 16 ∧ B8 k := by
 obtain ⟨cs, rfl, hsz⟩ := okWide_array Try.underlying34 hval
 obtain ⟨l⟩ := cs
 obtain ⟨fuel, hf⟩ := h
 have hf2 : DataW.trod enc Try.prog W base sp hd fuel 34 l = some (d, ps) := hf
 obtain ⟨k, rfl, h1, h2⟩ := trod_b16 Try.underlying34 (by kernel_rfl) hf2
 exact ⟨k, rfl, h1, h2⟩

end

end Go.Proofs.Ytbakkmfjamcbfaa

namespace Go.Proofs.Ytbakkmfjamcbfaa
open Go.RowKit Fm
set_option linter.unusedVariables false
set_option maxRecDepth 100000

theorem mem_take_step {qs : List Int} {k : Nat} {e s : Int} (h : ¬ s ∈ qs.take k) (he : qs[k]? = some e) (hs : ¬ s = e) : ¬ s ∈ qs.take (k + 1) := by
 rw [List.take_add_one, he, List.mem_append]
 rintro (h1 | h1)
 ·exact h h1
 ·simp at h1
  exact hs h1

set_option maxHeartbeats 1000000 in
theorem idx_u64 (v : Value) (qs : List Int) (s : Int) (t : Bool) (ht : decide (s ∈ qs) = t) (w : World) (hq : SlU w w.heap.size v qs) :
  Calls Try.prog 88 #[v, .int .u64 s] w fun e w' => (∃ r : Int, e = .returned (.int .i64 r) ∧ decide (0 ≤ r) = t) ∧ Below w.heap.size w w' := by
 have HT := Lib.hid ht
 obtain ⟨⟨A, c, rfl, hc, hcm, hA⟩, hokx⟩ := hq
 clear ht
 go_enter Try.func88, Try.ntmps88
 go_wp2
 go_loopw [8] (fun i wr => ∃ k : Nat, k ≤ qs.length ∧ i = .int .i64 k ∧ Hid (¬ s ∈ qs.take k) ∧ Below w.heap.size w wr) (fun i _ => qs.length - (intOf i).toNat)
 case atStart => exact ⟨0, Nat.zero_le _, rfl, Lib.hid (by simp), Below.refl _ _⟩
 case round =>
  obtain ⟨k, hk, rfl, HN, hbw⟩ := hrel
  by_cases hlt : k < qs.length
  ·obtain ⟨b, o, rfl, hB, hr⟩ := hA (by omega)
   obtain ⟨e, he⟩ : ∃ e, qs[k]? = some e := ⟨_, List.getElem?_eq_getElem hlt⟩
   have c0 := (hr.below hbw hB) k _ he
   have HE := Lib.hid he
   clear he hr hA
   by_cases heq : s = e
   ·have hb1 : (s == e) = true := by simpa using heq
    have HS := Lib.hid heq
    clear heq
    go_wp2_with fail
    go_ret
    refine ⟨⟨k, rfl, ?_⟩, hbw⟩
    rw [← HT.out]
    have h1 : s ∈ qs := by
     rw [HS.out]
     exact List.mem_of_getElem? HE.out
    simp [h1]
   ·have hb1 : (s == e) = false := by simpa using heq
    have HS := Lib.hid heq
    clear heq
    go_wp2_with fail
    go_roundw
    case rel => exact ⟨k + 1, by omega, by go_num, Lib.hid (mem_take_step HN.out HE.out HS.out), hbw⟩
    case measure => simp [intOf]; omega
  ·obtain rfl : k = qs.length := by omega
   go_wp2
   go_ret
   refine ⟨⟨-1, rfl, ?_⟩, hbw⟩
   rw [← HT.out]
   have h1 := HN.out
   rw [List.take_of_length_le (Nat.le_refl _)] at h1
   simp [h1]

set_option maxHeartbeats 1000000 in
theorem contains_u64 (v : Value) (qs : List Int) (s : Int) (t : Bool) (ht : decide (s ∈ qs) = t) (w : World) (hq : SlU w w.heap.size v qs) :
  Calls Try.prog 53 #[v, .int .u64 s] w fun e w' => e = .returned (.bool t) ∧ Below w.heap.size w w' := by
 have HI := Lib.hid (idx_u64 v qs s t ht w hq)
 clear ht
 obtain ⟨⟨A, c, rfl, _⟩, _⟩ := hq
 go_enter Try.func53, Try.ntmps53
 go_wp2_with (go_at_call 88; refine HI.out.mono ?_; rintro e w5 ⟨⟨r, rfl, hr⟩, hb5⟩)
 go_ret
 exact ⟨rfl, hb5⟩

/-! ### a collector -/
def colL (tk : List Value) (now qv : Value) (nx : Int) (res : Value) : List Value := tk ++ [now, qv, .int .u64 nx, res]
section
variable {w w' : World} {b : Nat} {tk : List Value} {now qv res : Value} {nx : Int}
theorem colL_length (ht : tk.length = 8) : (colL tk now qv nx res).length = 12 := by unfold colL; rw [List.length_append, ht]; rfl
theorem Vs.col (ht : tk.length = 8) (h : Vs w b (colL tk now qv nx res)) : w.cell? ⟨b, 8, none⟩ = some now ∧ w.cell? ⟨b, 9, none⟩ = some qv ∧ w.cell? ⟨b, 10, none⟩ = some (.int .u64 nx) ∧ w.cell? ⟨b, 11, none⟩ = some res ∧ w.frozen? ⟨b, 8, none⟩ = false ∧ w.frozen? ⟨b, 9, none⟩ = false ∧ w.frozen? ⟨b, 10, none⟩ = false ∧ b < w.heap.size := by
 have hl := colL_length (now := now) (qv := qv) (nx := nx) (res := res) ht
 have key : ∀ i (x : Value), [now, qv, .int .u64 nx, res][i]? = some x → w.cell? ⟨b, 8 + i, none⟩ = some x := fun i x hi => h.cell (8 + i) x (by
  unfold colL
  rw [List.getElem?_append_right (by omega), ht, show 8 + i - 8 = i by omega]
  exact hi)
 exact ⟨key 0 _ rfl, key 1 _ rfl, key 2 _ rfl, key 3 _ rfl, h.frz 8 (by omega), h.frz 9 (by omega), h.frz 10 (by omega), h.lt⟩
theorem Vs.setQ (ht : tk.length = 8) (h : Vs w b (colL tk now qv nx res)) (v : Value) : Vs (w.setCell ⟨b, 9, none⟩ v) b (colL tk now v nx res) := by
 have h1 := h.put 9 (by rw [colL_length ht]; omega) v
 have h2 : (colL tk now qv nx res).set 9 v = colL tk now v nx res := by
  unfold colL
  rw [List.set_append_right _ _ (by omega), ht]
  rfl
 rwa [h2] at h1
end

structure ColK (w : World) (B c : Nat) (tk : List Value) (nx : Int) (qs : List Int) : Prop where
 ex : ∃ (A : Option Addr) (cp : Nat), Vs w c (colL tk (.pointer none) (.slice A qs.length cp) nx (.slice none 0 0)) ∧ w.ownsRow B 22 1 (.slice A qs.length cp) qs.length (cellsU qs) ∧ ∀ g, (Value.slice A qs.length cp).ownBlock = some g → g ≠ c
 l : B ≤ c
 lb : B ≤ w.heap.size
 ok : ∀ e, e ∈ qs → okU e
theorem ColK.call {w w' : World} {B c : Nat} {tk : List Value} {nx : Int} {qs : List Int} (h : ColK w B c tk nx qs) (hb : Below w.heap.size w w') : ColK w' B c tk nx qs := by
 obtain ⟨⟨A, cp, h1, h2, h3⟩, h4, h5, h6⟩ := h
 exact ⟨⟨A, cp, h1.call hb, own_call h2 hb, h3⟩, h4, Nat.le_trans h5 hb.size, h6⟩

def wantC (qs : List Int) (s : Int) : Int := if 1099511627776 < s then 15 else if s ∈ qs then 29 else if 32 ≤ qs.length then 5 else 0
def wantQ (qs : List Int) (s : Int) : List Int := if wantC qs s = 0 then qs ++ [s] else qs

theorem wantC_0 {qs : List Int} {s : Int} (h1 : ¬ 1099511627776 < s) (h2 : ¬ s ∈ qs) (h3 : ¬ 32 ≤ qs.length) : wantC qs s = 0 ∧ wantQ qs s = qs ++ [s] := by
 have h : wantC qs s = 0 := by unfold wantC; rw [if_neg h1, if_neg h2, if_neg h3]
 exact ⟨h, by unfold wantQ; rw [if_pos h]⟩
theorem wantQ_ne {qs : List Int} {s : Int} (h : wantC qs s ≠ 0) : wantQ qs s = qs := by unfold wantQ; rw [if_neg h]

set_option maxHeartbeats 4000000 in
theorem collect_Want (tk : List Value) (ht : tk.length = 8) (nx : Int) (qs : List Int) (c B : Nat) (s : Int) (hs : okU s) (hql : qs.length ≤ 100) (w : World) (h : ColK w B c tk nx qs) :
  Calls Try.prog 22 #[.pointer (some ⟨c, 0, none⟩), .int .u64 s] w fun e w' => e = .returned (.int .i64 (wantC qs s)) ∧ Below B w w' ∧ ColK w' B c tk nx (wantQ qs s) := by
 have HTK := Lib.hid ht
 have HK := Lib.hid h
 obtain ⟨⟨A, cp, hV, hown, hob⟩, hBc, hBw, hok⟩ := h
 have hc0 := hV.col ht
 obtain ⟨c8, c9, c10, c11, f8, f9, f10, hcl⟩ := hc0
 by_cases h1 : 1099511627776 < s
 ·have hw : wantC qs s = 15 := by unfold wantC; rw [if_pos h1]
  rw [wantQ_ne (by rw [hw]; decide), hw]
  have hd : decide (1099511627776 < s) = true := by simpa using h1
  clear hw h1 hV hown hob
  go_enter Try.func22, Try.ntmps22
  go_wp2_with fail
  go_ret
  exact ⟨rfl, Below.refl _ _, HK.out⟩
 have hd : decide (1099511627776 < s) = false := by simpa using h1
 obtain ⟨t, ht2⟩ : ∃ t, decide (s ∈ qs) = t := ⟨_, rfl⟩
 have HCO := Lib.hid (contains_u64 (.slice A qs.length cp) qs s t ht2 w (SlU.of_own (hown) hok))
 cases t with
 | true =>
  have h2 : s ∈ qs := by simpa using ht2
  have hw : wantC qs s = 29 := by unfold wantC; rw [if_neg h1, if_pos h2]
  rw [wantQ_ne (by rw [hw]; decide), hw]
  clear hw h1 h2 ht2 hV hown hob
  go_enter Try.func22, Try.ntmps22
  go_wp2_with (go_at_call 53; refine HCO.out.mono ?_; rintro e w2 ⟨rfl, hb2⟩; have hK2 := HK.out.call hb2; clear c8 c9 c10 c11 f8 f9 f10; have hB2 := hb2.mono hBw)
  go_ret
  exact ⟨rfl, hB2, hK2⟩
 | false =>
  have h2 : ¬ s ∈ qs := by simpa using ht2
  by_cases h3 : 32 ≤ qs.length
  ·have hw : wantC qs s = 5 := by unfold wantC; rw [if_neg h1, if_neg h2, if_pos h3]
   rw [wantQ_ne (by rw [hw]; decide), hw]
   have hl3 : (32 : Int) ≤ (qs.length : Int) := by omega
   clear hw h1 h2 ht2 hown hob h3
   go_enter Try.func22, Try.ntmps22
   go_wp2_with (go_at_call 53; refine HCO.out.mono ?_; rintro e w2 ⟨rfl, hb2⟩; have hK2 := HK.out.call hb2; clear c8 c9 c10 c11 f8 f9 f10; have hV2 := hV.call hb2; have hc2 := hV2.col HTK.out; clear hV2; obtain ⟨c8, c9, c10, c11, f8, f9, f10, hcl2⟩ := hc2; have hB2 := hb2.mono hBw)
   go_ret
   exact ⟨rfl, hB2, hK2⟩
  ·obtain ⟨hw, hwq⟩ := wantC_0 h1 h2 h3
   rw [hw, hwq]
   have hl3 : (qs.length : Int) < 32 := by omega
   clear hw hwq h1 h2 ht2 h3
   go_enter Try.func22, Try.ntmps22
   go_upto_region 7 with (go_at_call 53; refine HCO.out.mono ?_; rintro e w2 ⟨rfl, hb2⟩; clear c8 c9 c10 c11 f8 f9 f10; have hV2 := hV.call hb2; have hc2 := hV2.col HTK.out; obtain ⟨c8, c9, c10, c11, f8, f9, f10, hcl2⟩ := hc2; have hB2 := hb2.mono hBw; have hown2 := own_call hown hb2)
   have hal := (Below.refl w2.heap.size w2).alloc (Nat.le_refl _) (.cells #[.int .u64 s] 22)
   have hVa := hV2.call hal
   have HOW := Lib.hid (own_call hown2 hal)
   have hBa := hB2.trans (hal.mono (Nat.le_trans hBw hb2.size))
   have hR1 : RowU (w2.alloc (.cells #[.int .u64 s] 22)) w2.heap.size 0 [s] := fun i e hi => by
    have hn := (Vs.new w2 [.int .u64 s] #[.int .u64 s] 22 rfl).cell
    match i, hi with
    | 0, hi =>
     injection hi with hi
     subst hi
     exact hn 0 _ rfl
   have HR1 : Hid (0 < 1 → ∃ b o, (some ⟨w2.heap.size, 0, none⟩ : Option Addr) = some ⟨b, o, none⟩ ∧ RowU (w2.alloc (.cells #[.int .u64 s] 22)) b o [s]) := Lib.hid fun _ => ⟨_, _, rfl, hR1⟩
   have hk1 : qs.length + 1 ≤ 1099511627776 := by omega
   have hbase : B ≤ (w2.alloc (.cells #[.int .u64 s] 22)).heap.size := Nat.le_trans (Nat.le_trans hBw hb2.size) hal.size
   have hca : c < (w2.alloc (.cells #[.int .u64 s] 22)).heap.size := hVa.lt
   clear hR1 hown2 hV2 hal hb2 hB2 hown hV
   go_wp2_with (at_builtin; (refine wpList_append_U rfl (.tmp 47) (.tmp 49) rfl B _ qs.length qs rfl HOW.out (some ⟨w2.heap.size, 0, none⟩) 1 1 [s] rfl rfl HR1.out hk1 hbase ?_; intro v2 w7 hown7 hg7 hat7; obtain ⟨g2, cap2, hv2⟩ := own_slice hown7; subst hv2; have hV7 := hVa.exc (S := fun q => (Value.slice A qs.length cp).ownBlock = some q) (fun e => hob _ e rfl) (grown_exc hg7); have hc7 := hV7.col HTK.out; clear c8 c9 c10 c11 f8 f9 f10; obtain ⟨c8, c9, c10, c11, f8, f9, f10, hcl7⟩ := hc7))
   go_ret
   have hb7 := hBa.grown hg7 hbase (fun q hq => (HOW.out.lt q hq).1)
   have hne : ∀ q, (Value.slice (some ⟨g2, 0, none⟩) (qs.length + 1) cap2).ownBlock = some q → q ≠ c := fun q hq => by
    rcases hat7 with h | h
    ·exact hob q (h ▸ hq)
    ·rw [h] at hq
     injection hq with hq
     omega
   refine ⟨rfl, bl_set (p := ⟨c, 9, none⟩) hb7 hBc _, ⟨⟨some ⟨g2, 0, none⟩, cap2, ?_, ?_, ?_⟩, hBc, ?_, ?_⟩⟩
   ·rw [List.length_append]
    exact hV7.setQ HTK.out _
   ·rw [List.length_append]
    exact own_other hown7 (exc_sc (S := fun q => q = c) (exc_of (Below.refl _ _)) (.inl rfl) 9 _) (fun g hg => hne g hg)
   ·rw [List.length_append]
    exact hne
   ·exact Nat.le_trans hBw (bl_set (p := ⟨c, 9, none⟩) hb7 hBc (.slice (some ⟨g2, 0, none⟩) (qs.length + 1) cap2)).size
   ·intro e he
    rcases List.mem_append.1 he with h | h
    ·exact hok e h
    ·simp at h
     subst h
     exact hs

end Go.Proofs.Ytbakkmfjamcbfaa

namespace Go.Proofs.Ytbakkmfjamcbfaa
open Go.RowKit Fm
set_option linter.unusedVariables false
set_option maxRecDepth 100000

def tkL (k f b l m c p : Int) (s : ByteArray) : List Value := [.int .u8 k, .int .u8 f, .int .i64 b, .int .i64 l, .int .i64 m, .int .i64 c, .int .i64 p, .string s]

set_option maxHeartbeats 4000000 in
theorem collect_New (k f b l m c p : Int) (s : ByteArray) (HC : ∀ wz, Calls Try.prog 43 #[.agg #[.int .u8 k, .int .u8 f, .int .i64 b, .int .i64 l, .int .i64 m, .int .i64 c, .int .i64 p, .string s]] wz (RetC 0 wz)) (w : World) :
  Calls Try.prog 20 #[.agg #[.int .u8 k, .int .u8 f, .int .i64 b, .int .i64 l, .int .i64 m, .int .i64 c, .int .i64 p, .string s]] w fun e w' =>
   ∃ cb : Nat, e = .returned (.tuple #[.pointer (some ⟨cb, 0, none⟩), .int .i64 0]) ∧ ColK w' w.heap.size cb (tkL k f b l m c p s) 1 [] ∧ Below w.heap.size w w' := by
 have HC := Lib.hid HC
 go_enter Try.func20, Try.ntmps20
 go_upto_region 1 with fail
 have hT := Vs.new w [.int .u8 k, .int .u8 f, .int .i64 b, .int .i64 l, .int .i64 m, .int .i64 c, .int .i64 p, .string s] #[.int .u8 k, .int .u8 f, .int .i64 b, .int .i64 l, .int .i64 m, .int .i64 c, .int .i64 p, .string s] 62 rfl
 have hb00 : Below w.heap.size w (w.alloc (.cells #[.int .u8 k, .int .u8 f, .int .i64 b, .int .i64 l, .int .i64 m, .int .i64 c, .int .i64 p, .string s] 62)) := by repeat (first | exact bA | with_reducible assumption | apply bB)
 have hszn : w.heap.size + 1 ≤ (w.alloc (.cells #[.int .u8 k, .int .u8 f, .int .i64 b, .int .i64 l, .int .i64 m, .int .i64 c, .int .i64 p, .string s] 62)).heap.size := by simp only [World.size_alloc]; omega
 generalize (w.alloc (.cells #[.int .u8 k, .int .u8 f, .int .i64 b, .int .i64 l, .int .i64 m, .int .i64 c, .int .i64 p, .string s] 62)) = w1 at hT hb00 hszn ⊢
 obtain ⟨⟨T0, T1, T2, T3, T4, T5, T6, T7⟩, ⟨T8, T9, T10, T11, T12, T13, T14, T15⟩, T16⟩ := hT.get8
 go_upto_region 4 with (first
  | (go_at_call 43; refine (HC.out _).mono ?_; rintro e w2 ⟨rfl, hb2⟩; replace hb00 := bl_call hb00 (Nat.le_refl _) hb2; replace hT := hT.call hb2; clear T0 T1 T2 T3 T4 T5 T6 T7 T8 T9 T10 T11 T12 T13 T14 T15 T16; clear hb2; obtain ⟨⟨T0, T1, T2, T3, T4, T5, T6, T7⟩, ⟨T8, T9, T10, T11, T12, T13, T14, T15⟩, T16⟩ := hT.get8))
 obtain ⟨⟨T0, T1, T2, T3, T4, T5, T6, T7⟩, ⟨T8, T9, T10, T11, T12, T13, T14, T15⟩, T16⟩ := hT.get8
 go_wp2_with fail
 go_ret2
 have hal := (Below.refl w2.heap.size w2).alloc (Nat.le_refl _) (.cells #[.int .u8 k, .int .u8 f, .int .i64 b, .int .i64 l, .int .i64 m, .int .i64 c, .int .i64 p, .string s, .pointer none, .slice none 0 0, .int .u64 1, .slice none 0 0] 136)
 have hs2 := hb00.size
 exact ⟨w2.heap.size, rfl, ⟨⟨none, 0, Vs.new w2 (colL (tkL k f b l m c p s) (.pointer none) (.slice none 0 0) 1 (.slice none 0 0)) _ _ rfl, World.ownsRow_nil _ _ _ _, fun g hg => (by cases hg)⟩, hs2, Nat.le_trans hs2 hal.size, fun e he => (by cases he)⟩, hb00.trans (hal.mono hs2)⟩

end Go.Proofs.Ytbakkmfjamcbfaa

namespace Go.Proofs.Ytbakkmfjamcbfaa
open Go.RowKit Fm
set_option linter.unusedVariables false
set_option maxRecDepth 100000

set_option maxHeartbeats 2000000 in
theorem clone_U (p : Addr) (c : Nat) (w : World) :
  Calls Try.prog 83 #[.slice (some p) 0 c] w fun e w' => ∃ (A : Option Addr) (c' : Nat), e = .returned (.slice A 0 c') ∧ Below w.heap.size w w' := by
 have hown0 : (w.alloc (.cells #[] 22)).ownsRow w.heap.size 22 1 (.slice (some ⟨w.heap.size, 0, none⟩) 0 0) 0 (cellsU []) := World.ownsRow_made w #[] 0 (Nat.le_refl _) (by unfold maxLen; omega) rfl
 have hb1 : Below w.heap.size w (w.alloc (.cells #[] 22)) := (Below.refl _ _).alloc (Nat.le_refl _) _
 have HYR : Hid (0 < 0 → ∃ b o, (some p : Option Addr) = some ⟨b, o, none⟩ ∧ RowU (w.alloc (.cells #[] 22)) b o []) := Lib.hid fun h => absurd h (by omega)
 have hnil := Lib.run_eql_slice_nil (P := Try.prog)
 have HW := Lib.hid hown0
 clear hown0
 go_enter Try.func83, Try.ntmps83
 go_wp2_with (at_builtin; (refine wpList_append_U rfl (.tmp 5) (.tmp 6) rfl w.heap.size _ 0 [] rfl HW.out (some p) 0 c [] rfl rfl HYR.out (by omega) (by simp) ?_; intro v2 w2 hown2 hg2 hat2; have hb2 : Below w.heap.size w w2 := hb1.trans ((Below.refl _ _).grown hg2 (by simp) (fun k hk => Nat.le_of_eq (Option.some.inj hk)))))
 go_ret
 obtain ⟨A, cp, h⟩ := own_shape hown2
 exact ⟨A, cp, by subst h; rfl, hb2⟩

section
variable {w w' : World} {b : Nat} {tk : List Value} {now qv res : Value} {nx : Int}
theorem Vs.setN (ht : tk.length = 8) (h : Vs w b (colL tk now qv nx res)) (v : Value) : Vs (w.setCell ⟨b, 8, none⟩ v) b (colL tk v qv nx res) := by
 have h1 := h.put 8 (by rw [colL_length ht]; omega) v
 have h2 : (colL tk now qv nx res).set 8 v = colL tk v qv nx res := by
  unfold colL
  rw [List.set_append_right _ _ (by omega), ht]
  rfl
 rwa [h2] at h1
theorem Vs.setX (ht : tk.length = 8) (h : Vs w b (colL tk now qv nx res)) (n : Int) : Vs (w.setCell ⟨b, 10, none⟩ (.int .u64 n)) b (colL tk now qv n res) := by
 have h1 := h.put 10 (by rw [colL_length ht]; omega) (.int .u64 n)
 have h2 : (colL tk now qv nx res).set 10 (.int .u64 n) = colL tk now qv n res := by
  unfold colL
  rw [List.set_append_right _ _ (by omega), ht]
  rfl
 rwa [h2] at h1
end

theorem size_letter : (Try.prog.info? 127).map (·.size) = some 23 := by kernel_rfl
def let1 : List Value := [.int .i64 0, .int .u8 4, .int .u64 1, .int .u64 20, .int .i64 0, .int .u8 0, .int .u8 0, .int .u8 0, .int .u8 0, .int .u8 0, .int .u8 0, .int .u8 0, .int .u8 0, .int .u8 0, .int .u8 0, .int .u8 0, .int .u8 0, .int .u8 0, .int .u8 0, .int .u8 0, .int .u8 0, .int .i64 0, .slice none 0 0]
theorem results_letter {w : World} {b : Nat} {fn : Func} {p : Tmp} {tmps : Array Value} (hv : Vs w b let1) (h : fn.results = #[.cell p 127]) (hp : tmps.getD p undef = .pointer (some ⟨b, 0, none⟩)) :
  (results fn tmps).run Try.prog w = .ok (.agg let1.toArray) w := by
 have hl : (loadVar 127 ⟨b, 0, none⟩).run Try.prog w = _ := loadVar_W hv Try.underlying127 rfl size_letter
 rw [Array.getD_eq_getD_getElem?] at hp
 simp only [results, h]
 simp [asAddr, hp, hl]

set_option maxHeartbeats 4000000 in
theorem collect_letter (tk : List Value) (ht : tk.length = 8) (nx : Int) (qv : Value) (c a : Nat) (due wait : Int) (w : World) (hV : Vs w c (colL tk (.pointer (some ⟨a, 0, none⟩)) qv nx (.slice none 0 0))) (hA : Vs w a [.int .u64 1, .int .u64 20, .bool false, .slice none 0 0, .int .i64 0, .int .u8 0, .int .u8 0, .int .u8 0, .int .u8 0, .int .u8 0, .int .u8 0, .int .u8 0, .int .u8 0, .int .u8 0, .int .u8 0, .int .u8 0, .int .u8 0, .int .u8 0, .int .u8 0, .int .u8 0, .int .u8 0, .int .u64 due, .int .u64 wait]) :
  Calls Try.prog 84 #[.pointer (some ⟨c, 0, none⟩)] w fun e w' => e = .returned (.agg #[.int .i64 0, .int .u8 4, .int .u64 1, .int .u64 20, .int .i64 0, .int .u8 0, .int .u8 0, .int .u8 0, .int .u8 0, .int .u8 0, .int .u8 0, .int .u8 0, .int .u8 0, .int .u8 0, .int .u8 0, .int .u8 0, .int .u8 0, .int .u8 0, .int .u8 0, .int .u8 0, .int .u8 0, .int .i64 0, .slice none 0 0]) ∧ Below w.heap.size w w' := by
 have HTK := Lib.hid ht
 clear ht
 have hal := hA.lt
 go_enter Try.func84, Try.ntmps84
 go_upto_region 1 with fail
 have hL := Vs.new w [.int .i64 0, .int .u8 0, .int .u64 0, .int .u64 0, .int .i64 0, .int .u8 0, .int .u8 0, .int .u8 0, .int .u8 0, .int .u8 0, .int .u8 0, .int .u8 0, .int .u8 0, .int .u8 0, .int .u8 0, .int .u8 0, .int .u8 0, .int .u8 0, .int .u8 0, .int .u8 0, .int .u8 0, .int .i64 0, .slice none 0 0] #[.int .i64 0, .int .u8 0, .int .u64 0, .int .u64 0, .int .i64 0, .int .u8 0, .int .u8 0, .int .u8 0, .int .u8 0, .int .u8 0, .int .u8 0, .int .u8 0, .int .u8 0, .int .u8 0, .int .u8 0, .int .u8 0, .int .u8 0, .int .u8 0, .int .u8 0, .int .u8 0, .int .u8 0, .int .i64 0, .slice none 0 0] 127 rfl
 have hb00 : Below w.heap.size w (w.alloc (.cells #[.int .i64 0, .int .u8 0, .int .u64 0, .int .u64 0, .int .i64 0, .int .u8 0, .int .u8 0, .int .u8 0, .int .u8 0, .int .u8 0, .int .u8 0, .int .u8 0, .int .u8 0, .int .u8 0, .int .u8 0, .int .u8 0, .int .u8 0, .int .u8 0, .int .u8 0, .int .u8 0, .int .u8 0, .int .i64 0, .slice none 0 0] 127)) := by repeat (first | exact bA | with_reducible assumption | apply bB)
 have hszn : w.heap.size + 1 ≤ (w.alloc (.cells #[.int .i64 0, .int .u8 0, .int .u64 0, .int .u64 0, .int .i64 0, .int .u8 0, .int .u8 0, .int .u8 0, .int .u8 0, .int .u8 0, .int .u8 0, .int .u8 0, .int .u8 0, .int .u8 0, .int .u8 0, .int .u8 0, .int .u8 0, .int .u8 0, .int .u8 0, .int .u8 0, .int .u8 0, .int .i64 0, .slice none 0 0] 127)).heap.size := by simp only [World.size_alloc]; omega
 generalize (w.alloc (.cells #[.int .i64 0, .int .u8 0, .int .u64 0, .int .u64 0, .int .i64 0, .int .u8 0, .int .u8 0, .int .u8 0, .int .u8 0, .int .u8 0, .int .u8 0, .int .u8 0, .int .u8 0, .int .u8 0, .int .u8 0, .int .u8 0, .int .u8 0, .int .u8 0, .int .u8 0, .int .u8 0, .int .u8 0, .int .i64 0, .slice none 0 0] 127)) = w1 at hL hb00 hszn ⊢
 replace hV := hV.call hb00
 replace hA := hA.call hb00
 have hc0 := hV.col HTK.out
 obtain ⟨c8, c9, c10, c11, f8, f9, f10, hcl⟩ := hc0
 have a0 := hA.cell 0 _ rfl
 have a1 := hA.cell 1 _ rfl
 have a2 := hA.cell 2 _ rfl
 have hal1 := hA.lt
 go_upto_region 3 with fail
 refine region_B (n := 10) (m := 11) (f := 10) (by kernel_rfl) (by kernel_rfl) rfl ?_
 refine WpH.vD 0 (some 13) ?_ rfl rfl (by kernel_rfl) (fun _ _ _ h => h) rfl (fun wz hwz => ?_) ?_
 rotate_left
 ·go_simp; try (with_reducible rfl)
 simp only [Zp, Zq, Zr, Zs]
 refine WpH.vD 1 (some 14) ?_ rfl rfl (by kernel_rfl) (fun _ _ _ h => h) rfl (fun wz hwz => ?_) ?_
 rotate_left
 ·go_simp; try (with_reducible rfl)
 simp only [Zp, Zq, Zr, Zs]
 refine WpH.vD 2 (some 15) ?_ rfl rfl (by kernel_rfl) (fun _ _ _ h => h) rfl (fun wz hwz => ?_) ?_
 rotate_left
 ·go_simp; try (with_reducible rfl)
 simp only [Zp, Zq, Zr, Zs]
 refine WpH.vD 3 (some 16) ?_ rfl rfl (by kernel_rfl) (fun _ _ _ h => h) rfl (fun wz hwz => ?_) ?_
 rotate_left
 ·(obtain ⟨hcz, hfz⟩ := bcell hwz; go_simp; try (with_reducible rfl))
 simp only [Zp, Zq, Zr, Zs]
 refine WpH.vD 4 (some 17) ?_ rfl rfl (by kernel_rfl) (fun _ _ _ h => h) rfl (fun wz hwz => ?_) ?_
 rotate_left
 ·go_simp; try (with_reducible rfl)
 simp only [Zp, Zq, Zr, Zs]
 refine WpH.vD 5 (some 18) ?_ rfl rfl (by kernel_rfl) (fun _ _ _ h => h) rfl (fun wz hwz => ?_) ?_
 rotate_left
 ·go_simp; try (with_reducible rfl)
 simp only [Zp, Zq, Zr, Zs]
 refine WpH.vD 6 (some 19) ?_ rfl rfl (by kernel_rfl) (fun _ _ _ h => h) rfl (fun wz hwz => ?_) ?_
 rotate_left
 ·go_simp; try (with_reducible rfl)
 simp only [Zp, Zq, Zr, Zs]
 refine WpH.vD 7 (some 20) ?_ rfl rfl (by kernel_rfl) (fun _ _ _ h => h) rfl (fun wz hwz => ?_) ?_
 rotate_left
 ·(obtain ⟨hcz, hfz⟩ := bcell hwz; go_simp; try (with_reducible rfl))
 simp only [Zp, Zq, Zr, Zs]
 refine WpH.vD 8 (some 21) ?_ rfl rfl (by kernel_rfl) (fun _ _ _ h => h) rfl (fun wz hwz => ?_) ?_
 rotate_left
 ·go_simp; try (with_reducible rfl)
 simp only [Zp, Zq, Zr, Zs]
 refine WpH.vD 9 (some 22) ?_ rfl rfl (by kernel_rfl) (fun _ _ _ h => h) rfl (fun wz hwz => ?_) ?_
 rotate_left
 ·go_simp; try (with_reducible rfl)
 simp only [Zp, Zq, Zr, Zs]
 refine WpH.doneB (by kernel_rfl) (fun w4 hw4 => ?_)
 (try simp only [List.drop_succ_cons]); (try simp only [List.drop_zero]); (try simp only [Nat.reduceSub]); (try simp only [List.take_succ_cons]); (try simp only [List.take_zero])
 clear c8 c9 c10 c11 f8 f9 f10 a0 a1 a2
 have hLw := hL.call hw4
 have hb4 := hb00.trans (hw4.mono hb00.size)
 have hst := store_W (T := 127) hLw (l' := let1) rfl size_letter (by
  intro v hv
  have h : (let1.all fun v => v.oneCell') = true := by kernel_rfl
  exact List.all_eq_true.1 h v hv)
 have HR := Lib.hid (hLw.setW (l' := let1) rfl)
 have HB := Lib.hid (bl_setCells hb4 (b := w.heap.size) (Nat.le_refl _) 0 let1)
 clear hL hb00 hV hA hLw hb4 hw4
 refine wpList_skipD rfl rfl (exec_store rfl (by kernel_rfl) (by kernel_rfl) hst) ?_
 clear hst
 go_upto_region 99 with fail
 exact bodyPost_ret (results_letter (b := w.heap.size) HR.out rfl rfl) rfl ⟨rfl, HB.out⟩

theorem slice_q (A : Addr) (cp : Nat) (hc : 1 ≤ cp) (w : World) : ∃ p : Addr, (Instr.sliceAt 88 (.slice (some A) 1 cp) (some (.int .i64 1)) none none).run Try.prog w = .ok (.slice (some p) 0 (cp - 1)) w := by
 obtain ⟨i, hi, _⟩ := info_parts infoU64
 have h := sliceAt_l Try.underlying88 (by kernel_rfl) hi 1 (by kernel_rfl) (some A) 1 cp 1 (Nat.le_refl _) w
 by_cases h1 : cp = 1
 ·rw [if_pos h1] at h
  exact ⟨A, h⟩
 ·rw [if_neg h1] at h
  exact ⟨A.add 1, h⟩

set_option maxHeartbeats 8000000 in
theorem collect_Tick (tk : List Value) (ht : tk.length = 8) (c B : Nat) (w : World) (h : ColK w B c tk 1 [20]) :
  Calls Try.prog 44 #[.pointer (some ⟨c, 0, none⟩), .int .u64 3] w fun e w' => ∃ g : Nat, e = .returned (.slice (some ⟨g, 0, none⟩) 1 1) ∧ Vs w' g let1 ∧ Below B w w' := by
 have HTK := Lib.hid ht
 clear ht
 obtain ⟨⟨A, cp, hV, hown, hob⟩, hBc, hBw, hok⟩ := h
 obtain ⟨g, cp', hgs⟩ := own_slice hown
 injection hgs with e1 e2 e3
 subst e1
 subst e3
 clear e2
 have hq0 : w.cell? ⟨g, 0, none⟩ = some (.int .u64 20) := hown.cells (g := g) rfl 0 _ rfl
 have hgl : g < w.heap.size := lt_of_cell hq0
 have hgc : g ≠ c := hob g rfl
 have hcp : 1 ≤ cp := by
  obtain ⟨_, h2⟩ := hown
  rcases h2 with ⟨h, _⟩ | ⟨g', cap', cur, h1, h2, h3, h4, _⟩
  ·cases h
  ·injection h1 with e1 e2 e3
   rw [e3]
   exact h4
 have hcl0 := hV.lt
 have HOWN := Lib.hid hown
 have hc0 := hV.col HTK.out
 obtain ⟨c8, c9, c10, c11, f8, f9, f10, hcl⟩ := hc0
 clear hown hob
 go_enter Try.func44, Try.ntmps44
 go_upto_region 6 with fail
 refine region_G (n := 16) (m := 17) (f := 16) (by kernel_rfl) (by kernel_rfl) rfl ?_
 refine WpG.vD 0 (some 19) ?_ rfl rfl (by kernel_rfl) (fun _ _ _ h => h) rfl (fun wz hwz => ?_) ?_
 rotate_left
 ·go_simp; try (with_reducible rfl)
 simp only [Zp, Zq, Zr, Zs]
 refine WpG.vD 1 (some 20) ?_ rfl rfl (by kernel_rfl) (fun _ _ _ h => h) rfl (fun wz hwz => ?_) ?_
 rotate_left
 ·go_simp; try (with_reducible rfl)
 simp only [Zp, Zq, Zr, Zs]
 refine WpG.vD 2 (some 21) ?_ rfl rfl (by kernel_rfl) (fun _ _ _ h => h) rfl (fun wz hwz => ?_) ?_
 rotate_left
 ·go_simp; try (with_reducible rfl)
 simp only [Zp, Zq, Zr, Zs]
 refine WpG.vD 3 (some 22) ?_ rfl rfl (by kernel_rfl) (fun _ _ _ h => h) rfl (fun wz hwz => ?_) ?_
 rotate_left
 ·go_simp; try (with_reducible rfl)
 simp only [Zp, Zq, Zr, Zs]
 refine WpG.vD 4 (some 23) ?_ rfl rfl (by kernel_rfl) (fun _ _ _ h => h) rfl (fun wz hwz => ?_) ?_
 rotate_left
 ·(obtain ⟨hcz, hfz⟩ := bcell (hwz); go_simp; try (with_reducible rfl))
 simp only [Zp, Zq, Zr, Zs]
 refine WpG.vD 5 (some 24) ?_ rfl rfl (by kernel_rfl) (fun _ _ _ h => h) rfl (fun wz hwz => ?_) ?_
 rotate_left
 ·go_simp; try (with_reducible rfl)
 simp only [Zp, Zq, Zr, Zs]
 refine WpG.vD 6 (some 25) ?_ rfl rfl (by kernel_rfl) (fun _ _ _ h => h) rfl (fun wz hwz => ?_) ?_
 rotate_left
 ·go_simp; try (with_reducible rfl)
 simp only [Zp, Zq, Zr, Zs]
 refine WpG.vD 7 (some 26) ?_ rfl rfl (by kernel_rfl) (fun _ _ _ h => h) rfl (fun wz hwz => ?_) ?_
 rotate_left
 ·go_simp; try (with_reducible rfl)
 simp only [Zp, Zq, Zr, Zs]
 refine WpG.vD 8 (some 27) ?_ rfl rfl (by kernel_rfl) (fun _ _ _ h => h) rfl (fun wz hwz => ?_) ?_
 rotate_left
 ·(obtain ⟨hcz, hfz⟩ := bcell (hwz); go_simp; try (with_reducible rfl))
 simp only [Zp, Zq, Zr, Zs]
 refine WpG.vD 9 (some 28) ?_ rfl rfl (by kernel_rfl) (fun _ _ _ h => h) rfl (fun wz hwz => ?_) ?_
 rotate_left
 ·go_simp; try (with_reducible rfl)
 simp only [Zp, Zq, Zr, Zs]
 refine WpG.vD 10 (some 29) ?_ rfl rfl (by kernel_rfl) (fun _ _ _ h => h) rfl (fun wz hwz => ?_) ?_
 rotate_left
 ·(obtain ⟨hcz, hfz⟩ := bcell (hwz); go_simp; try (with_reducible rfl))
 simp only [Zp, Zq, Zr, Zs]
 refine WpG.vD 11 (some 30) ?_ rfl rfl (by kernel_rfl) (fun _ _ _ h => h) rfl (fun wz hwz => ?_) ?_
 rotate_left
 ·go_simp; try (with_reducible rfl)
 simp only [Zp, Zq, Zr, Zs]
 refine WpG.vD 12 (some 31) ?_ rfl rfl (by kernel_rfl) (fun _ _ _ h => h) rfl (fun wz hwz => ?_) ?_
 rotate_left
 ·go_simp; try (with_reducible rfl)
 simp only [Zp, Zq, Zr, Zs]
 refine WpG.oneD 13 (some 32) rfl rfl (by kernel_rfl) (fun b : Nat => Value.pointer (some ⟨b, 0, none⟩)) (fun b wz => w.heap.size ≤ b ∧ Vs wz b [.int .u64 1, .int .u64 20, .bool false, .slice none 0 0, .int .i64 0, .int .u8 0, .int .u8 0, .int .u8 0, .int .u8 0, .int .u8 0, .int .u8 0, .int .u8 0, .int .u8 0, .int .u8 0, .int .u8 0, .int .u8 0, .int .u8 0, .int .u8 0, .int .u8 0, .int .u8 0, .int .u8 0, .int .u64 3, .int .u64 1]) (fun _ _ _ h hb => ⟨h.1, h.2.call hb⟩) (Fresh.var [.int .u64 1, .int .u64 20, .bool false, .slice none 0 0, .int .i64 0, .int .u8 0, .int .u8 0, .int .u8 0, .int .u8 0, .int .u8 0, .int .u8 0, .int .u8 0, .int .u8 0, .int .u8 0, .int .u8 0, .int .u8 0, .int .u8 0, .int .u8 0, .int .u8 0, .int .u8 0, .int .u8 0, .int .u64 3, .int .u64 1] 141 rfl (fun wz hwz => (hwz).size) (fun wz hwz => by go_simp; try (with_reducible rfl)) (R := fun b wz => Vs wz b [.int .u64 1, .int .u64 20, .bool false, .slice none 0 0, .int .i64 0, .int .u8 0, .int .u8 0, .int .u8 0, .int .u8 0, .int .u8 0, .int .u8 0, .int .u8 0, .int .u8 0, .int .u8 0, .int .u8 0, .int .u8 0, .int .u8 0, .int .u8 0, .int .u8 0, .int .u8 0, .int .u8 0, .int .u64 3, .int .u64 1]) (fun wz hwz => Vs.new wz _ _ _ rfl)) (fun ab w0b' hw0b' hR0b' => ?_)
 simp only [Zp, Zq, Zr, Zs]
 refine WpG.vD 14 (some 33) ?_ rfl rfl (by kernel_rfl) (fun _ _ _ h => h) rfl (fun wz hwz => ?_) ?_
 rotate_left
 ·go_simp; try (with_reducible rfl)
 simp only [Zp, Zq, Zr, Zs]
 refine WpG.vD 15 (some 34) ?_ rfl rfl (by kernel_rfl) (fun _ _ _ h => h) rfl (fun wz hwz => ?_) ?_
 rotate_left
 ·go_simp; try (with_reducible rfl)
 simp only [Zp, Zq, Zr, Zs]
 refine WpG.done (by kernel_rfl) (fun w5 hS => ?_)
 (try simp only [List.drop_succ_cons]); (try simp only [List.drop_zero]); (try simp only [Nat.reduceSub]); (try simp only [List.take_succ_cons]); (try simp only [List.take_zero])
 obtain ⟨hb5, habl, hAs⟩ := hS
 have hV5 := hV.call hb5
 have hc5 := hV5.col HTK.out
 clear c8 c9 c10 c11 f8 f9 f10 hcl hq0 hw0b' hR0b'
 obtain ⟨c8, c9, c10, c11, f8, f9, f10, hcl⟩ := hc5
 go_upto_region 7 with fail
 clear c8 c9 c10 c11 f8 f9 f10 hcl
 have hV6 := hV5.setN HTK.out (.pointer (some ⟨ab, 0, none⟩))
 have hAs6 := hAs.far (p := ⟨c, 8, none⟩) (by dsimp only; omega) (.pointer (some ⟨ab, 0, none⟩))
 have hb6 := bl_set (p := ⟨c, 8, none⟩) (hb5.mono hBw) hBc (.pointer (some ⟨ab, 0, none⟩))
 clear hV hV5 hAs hb5
 generalize w5.setCell ⟨c, 8, none⟩ (.pointer (some ⟨ab, 0, none⟩)) = w6 at hV6 hAs6 hb6 ⊢
 have hc6 := hV6.col HTK.out
 obtain ⟨c8, c9, c10, c11, f8, f9, f10, hcl⟩ := hc6
 obtain ⟨pp, hsl⟩ := slice_q ⟨g, 0, none⟩ cp hcp w6
 refine wp_region_lit ?_
 refine wpList_valD (some 35) rfl rfl (by (go_simp; first | with_reducible rfl | exact ⟨rfl, rfl⟩ | (trace_state; fail))) ?_
 simp only [Zp, Zq, Zr, Zs]
 refine wpList_valD (some 36) rfl rfl (by (go_simp; first | with_reducible rfl | exact ⟨rfl, rfl⟩ | (trace_state; fail))) ?_
 simp only [Zp, Zq, Zr, Zs]
 refine wpList_valD (some 37) rfl rfl (by (go_simp; first | with_reducible rfl | exact ⟨rfl, rfl⟩ | (trace_state; fail))) ?_
 simp only [Zp, Zq, Zr, Zs]
 refine wpList_valD (some 38) rfl rfl (by (go_simp; first | with_reducible rfl | exact ⟨rfl, rfl⟩ | (trace_state; fail))) ?_
 simp only [Zp, Zq, Zr, Zs]
 refine wpList_valD (some 39) rfl rfl (by (go_simp; first | with_reducible rfl | exact ⟨rfl, rfl⟩ | (trace_state; fail))) ?_
 simp only [Zp, Zq, Zr, Zs]
 refine wpList_valD (some 40) rfl rfl (exec_slice rfl (by kernel_rfl) (by kernel_rfl) (by kernel_rfl) (by kernel_rfl) hsl) ?_
 simp only [Zp, Zq, Zr, Zs]
 refine wpList_callD (some 41) rfl rfl 83 _ ?_ (clone_U pp (cp - 1) w6) ?_
 ·go_simp; try (with_reducible rfl)
 rintro e w7 ⟨A7, c7, rfl, hb7⟩
 refine ⟨_, rfl, ?_⟩
 simp only [Zp, Zq, Zr, Zs]
 have hV7 := hV6.call hb7
 have hAs7 := hAs6.call hb7
 have hb8 := bl_call hb6 hBw hb7
 clear c8 c9 c10 c11 f8 f9 f10 hcl
 have hc7 := hV7.col HTK.out
 obtain ⟨c8, c9, c10, c11, f8, f9, f10, hcl⟩ := hc7
 refine wpList_valD (some 42) rfl rfl (by (go_simp; first | with_reducible rfl | exact ⟨rfl, rfl⟩ | (trace_state; fail))) ?_
 simp only [Zp, Zq, Zr, Zs]
 refine wpList_valD (some 43) rfl rfl (by (go_simp; first | with_reducible rfl | exact ⟨rfl, rfl⟩ | (trace_state; fail))) ?_
 simp only [Zp, Zq, Zr, Zs]
 refine wpList_skipD rfl rfl (by (skip; go_simp; first | with_reducible rfl | exact ⟨rfl, rfl⟩ | (trace_state; fail))) ?_
 clear c8 c9 c10 c11 f8 f9 f10 hcl
 have hV8 := hV7.setQ HTK.out (.slice A7 0 c7)
 have hAs8 := hAs7.far (p := ⟨c, 9, none⟩) (by dsimp only; omega) (.slice A7 0 c7)
 have hbq := bl_set (p := ⟨c, 9, none⟩) hb8 hBc (.slice A7 0 c7)
 clear hV6 hAs6 hb6 hV7 hAs7 hb8 hsl
 go_upto_region 8 with fail
 generalize w7.setCell ⟨c, 9, none⟩ (.slice A7 0 c7) = w8 at hV8 hAs8 hbq ⊢
 have hc8 := hV8.col HTK.out
 obtain ⟨c8, c9, c10, c11, f8, f9, f10, hcl⟩ := hc8
 go_upto_region 9 with fail
 clear c8 c9 c10 c11 f8 f9 f10 hcl
 have hV9 := hV8.setX HTK.out 2
 have hAs9 := hAs8.far (p := ⟨c, 10, none⟩) (by dsimp only; omega) (.int .u64 2)
 have hb9 := bl_set (p := ⟨c, 10, none⟩) hbq hBc (.int .u64 2)
 clear hV8 hAs8 hbq
 generalize w8.setCell ⟨c, 10, none⟩ (.int .u64 2) = w9 at hV9 hAs9 hb9 ⊢
 have hc9 := hV9.col HTK.out
 obtain ⟨c8, c9, c10, c11, f8, f9, f10, hcl⟩ := hc9
 have a21 := hAs9.cell 21 _ rfl
 have a22 := hAs9.cell 22 _ rfl
 have g21 := hAs9.frz 21 (by decide)
 have g22 := hAs9.frz 22 (by decide)
 have hal := hAs9.lt
 go_upto_region 13 with fail
 clear c8 c9 c10 c11 f8 f9 f10 hcl a21 a22 g21 g22 hal
 have hV10 := hV9.far (p := ⟨ab, 21, none⟩) (by dsimp only; omega) (.int .u64 4)
 have hAs10 : Vs (w9.setCell ⟨ab, 21, none⟩ (.int .u64 4)) ab [.int .u64 1, .int .u64 20, .bool false, .slice none 0 0, .int .i64 0, .int .u8 0, .int .u8 0, .int .u8 0, .int .u8 0, .int .u8 0, .int .u8 0, .int .u8 0, .int .u8 0, .int .u8 0, .int .u8 0, .int .u8 0, .int .u8 0, .int .u8 0, .int .u8 0, .int .u8 0, .int .u8 0, .int .u64 4, .int .u64 1] := hAs9.put 21 (by decide) (.int .u64 4)
 have hb10 := bl_set (p := ⟨ab, 21, none⟩) hb9 (by dsimp only; omega) (.int .u64 4)
 clear hV9 hAs9 hb9
 generalize w9.setCell ⟨ab, 21, none⟩ (.int .u64 4) = w10 at hV10 hAs10 hb10 ⊢
 have a22 := hAs10.cell 22 _ rfl
 have g22 := hAs10.frz 22 (by decide)
 have hal := hAs10.lt
 go_upto_region 14 with fail
 rw [show min (2 : Int) 16 = 2 from rfl]
 clear a22 g22 hal
 have hV11 := hV10.far (p := ⟨ab, 22, none⟩) (by dsimp only; omega) (.int .u64 2)
 have hAs11 : Vs (w10.setCell ⟨ab, 22, none⟩ (.int .u64 2)) ab [.int .u64 1, .int .u64 20, .bool false, .slice none 0 0, .int .i64 0, .int .u8 0, .int .u8 0, .int .u8 0, .int .u8 0, .int .u8 0, .int .u8 0, .int .u8 0, .int .u8 0, .int .u8 0, .int .u8 0, .int .u8 0, .int .u8 0, .int .u8 0, .int .u8 0, .int .u8 0, .int .u8 0, .int .u64 4, .int .u64 2] := hAs10.put 22 (by decide) (.int .u64 2)
 have hb11 := bl_set (p := ⟨ab, 22, none⟩) hb10 (by dsimp only; omega) (.int .u64 2)
 clear hV10 hAs10 hb10
 generalize w10.setCell ⟨ab, 22, none⟩ (.int .u64 2) = w11 at hV11 hAs11 hb11 ⊢
 have HLE := Lib.hid (collect_letter tk HTK.out 2 (.slice A7 0 c7) c ab 4 2 w11 hV11 hAs11)
 clear hV11 hAs11
 go_wp2_with (go_at_call 84; refine HLE.out.mono ?_; rintro e w12 ⟨rfl, hb12⟩)
 go_ret
 have hb13 := bl_call hb11 hBw hb12
 have hs13 := hb13.size
 exact ⟨w12.heap.size, rfl, Vs.new w12 let1 _ _ rfl, hb13.trans (((Below.refl _ _).alloc (Nat.le_refl _) _).mono (Nat.le_trans hBw hs13))⟩

end Go.Proofs.Ytbakkmfjamcbfaa
