/-
  WALKS: gold.Bytes, wide.Bytes, field.Bytes, field.Vec: elements as bytes.
-/
/-
  WALKS: field.Bytes, field.Vec; what elements' bytes tell.
-/
/-
  WALKS: 'append' of bytes; field.Vec; tape.Swap of elements of the field.
-/
import Derived.Test.YtiphahbeedeebaaMaw
import Derived.Test.YtiphahbeedeebaaMao
import Derived.Laws.BytesArg
namespace Go.Proofs.Ytiphahbeedeebaa
open Go.RowKit Fm
set_option linter.unusedVariables false
set_option maxRecDepth 100000

/-- a number's bytes, the lowest first -/
def byteN (x i : Nat) : Nat := x / 2 ^ (8 * i) % 256
def bytesN (x n : Nat) : List Int := (List.range n).map fun i => ((byteN x i : Nat) : Int)
theorem bytesN_length (x n : Nat) : (bytesN x n).length = n := by unfold bytesN; rw [List.length_map, List.length_range]
theorem bytesN_at (x n i : Nat) (h : i < n) : (bytesN x n)[i]? = some ((byteN x i : Nat) : Int) := by unfold bytesN; rw [List.getElem?_map, List.getElem?_range h]; rfl
theorem u8_wrap (n : Int) : IntKind.u8.wrap n = n % 256 := by
  first | rfl | simp [IntKind.wrap, IntKind.signed, IntKind.bits, IntKind.min, IntKind.max]
theorem byteN_wrap (x s : Nat) : IntKind.u8.wrap ((x : Int) / 2 ^ s) = ((x / 2 ^ s % 256 : Nat) : Int) := by
  rw [u8_wrap, Int.natCast_emod, Int.natCast_ediv, Int.natCast_pow]
  rfl

def cells8 (xs : List Int) : List Value := xs.map (.int .u8)
theorem cells8_length (xs : List Int) : (cells8 xs).length = xs.length := List.length_map ..
theorem cells8_at {xs : List Int} {i : Nat} {e : Int} (h : xs[i]? = some e) : (cells8 xs)[i]? = some (.int .u8 e) := by unfold cells8; rw [List.getElem?_map, h]; rfl

/-- a list filled from its head on -/
theorem fill_set {α : Type} (xs : List α) (z x : α) (n i : Nat) (hl : xs.length = n) (hi : i < n) (hx : xs[i]? = some x) :
    (xs.take i ++ List.replicate (n - i) z).set i x = xs.take (i + 1) ++ List.replicate (n - (i + 1)) z := by
  have h1 : (xs.take i).length = i := by rw [List.length_take]; omega
  rw [List.set_append_right _ _ (by rw [h1]; exact Nat.le_refl _), h1, Nat.sub_self, show n - i = (n - (i + 1)) + 1 by omega, List.replicate_succ, List.set_cons_zero, List.take_add_one, hx, List.append_assoc]
  rfl

theorem load_b8 {w : World} {b : Nat} {x0 x1 x2 x3 x4 x5 x6 x7 : Value} (h : Vs w b [x0, x1, x2, x3, x4, x5, x6, x7]) : (loadVar 160 ⟨b, 0, none⟩).run Try.prog w = .ok (.agg #[x0, x1, x2, x3, x4, x5, x6, x7]) w := by
  obtain ⟨⟨c0, c1, c2, c3, c4, c5, c6, c7⟩, _⟩ := h.get8
  simp [loadVar, go_sem, c0, c1, c2, c3, c4, c5, c6, c7]
theorem results_b8 {fn : Func} {p : Tmp} {tmps : Array Value} {w : World} {b : Nat} {x0 x1 x2 x3 x4 x5 x6 x7 : Value} (hv : Vs w b [x0, x1, x2, x3, x4, x5, x6, x7]) (h : fn.results = #[.cell p 160]) (hp : tmps.getD p undef = .pointer (some ⟨b, 0, none⟩)) :
    (results fn tmps).run Try.prog w = .ok (.agg #[x0, x1, x2, x3, x4, x5, x6, x7]) w := by
  have hl := load_b8 hv
  rw [Array.getD_eq_getD_getElem?] at hp
  simp only [results, h]
  simp [asAddr, hp, hl]
theorem Vs.set8 {w : World} {b : Nat} {p q r s t u v z : Value} (h : Vs w b [p, q, r, s, t, u, v, z]) (x0 x1 x2 x3 x4 x5 x6 x7 : Value) :
    Vs ((((((((w.setCell ⟨b, 0, none⟩ x0).setCell ⟨b, 1, none⟩ x1).setCell ⟨b, 2, none⟩ x2).setCell ⟨b, 3, none⟩ x3).setCell ⟨b, 4, none⟩ x4).setCell ⟨b, 5, none⟩ x5).setCell ⟨b, 6, none⟩ x6).setCell ⟨b, 7, none⟩ x7) b [x0, x1, x2, x3, x4, x5, x6, x7] :=
  (((((((h.put 0 (by simp) x0).put 1 (by simp) x1).put 2 (by simp) x2).put 3 (by simp) x3).put 4 (by simp) x4).put 5 (by simp) x5).put 6 (by simp) x6).put 7 (by simp) x7
theorem bl_set8 {B b : Nat} {a w : World} (h : Below B a w) (hp : B ≤ b) (x0 x1 x2 x3 x4 x5 x6 x7 : Value) :
    Below B a ((((((((w.setCell ⟨b, 0, none⟩ x0).setCell ⟨b, 1, none⟩ x1).setCell ⟨b, 2, none⟩ x2).setCell ⟨b, 3, none⟩ x3).setCell ⟨b, 4, none⟩ x4).setCell ⟨b, 5, none⟩ x5).setCell ⟨b, 6, none⟩ x6).setCell ⟨b, 7, none⟩ x7) :=
  bl_set (bl_set (bl_set (bl_set (bl_set (bl_set (bl_set (bl_set h hp x0) hp x1) hp x2) hp x3) hp x4) hp x5) hp x6) hp x7

set_option maxHeartbeats 4000000 in
theorem gold_Bytes (x : Nat) (hx : (x : Int) < 18446744069414584321) (w : World) :
    Calls Try.prog 142 #[.int .u64 x] w fun e w' => e = .returned (.agg #[.int .u8 (byteN x 0 : Nat), .int .u8 (byteN x 1 : Nat), .int .u8 (byteN x 2 : Nat), .int .u8 (byteN x 3 : Nat), .int .u8 (byteN x 4 : Nat), .int .u8 (byteN x 5 : Nat), .int .u8 (byteN x 6 : Nat), .int .u8 (byteN x 7 : Nat)]) ∧ Below w.heap.size w w' := by
  have HOF : Hid (∀ wz, Calls Try.prog 122 #[.int .u64 x] wz fun e w' => e = .returned (.int .u64 x) ∧ wz = w') := by
    intro wz
    have h := gold_Of (x : Int) wz (by omega) (by omega)
    rwa [Int.emod_eq_of_lt (by omega) hx] at h
  clear hx
  go_enter Try.func142, Try.ntmps142
  go_upto_region 3 with (go_at_call 122; refine (HOF.out _).mono ?_; rintro e w2 ⟨rfl, rfl⟩)
  have hr := (Vs.new w [.int .u8 0, .int .u8 0, .int .u8 0, .int .u8 0, .int .u8 0, .int .u8 0, .int .u8 0, .int .u8 0] #[.int .u8 0, .int .u8 0, .int .u8 0, .int .u8 0, .int .u8 0, .int .u8 0, .int .u8 0, .int .u8 0] 160 rfl).alloc (.cells #[.int .u8 0, .int .u8 0, .int .u8 0, .int .u8 0, .int .u8 0, .int .u8 0, .int .u8 0, .int .u8 0] 160)
  have hb := Vs.new (w.alloc (.cells #[.int .u8 0, .int .u8 0, .int .u8 0, .int .u8 0, .int .u8 0, .int .u8 0, .int .u8 0, .int .u8 0] 160)) [.int .u8 0, .int .u8 0, .int .u8 0, .int .u8 0, .int .u8 0, .int .u8 0, .int .u8 0, .int .u8 0] #[.int .u8 0, .int .u8 0, .int .u8 0, .int .u8 0, .int .u8 0, .int .u8 0, .int .u8 0, .int .u8 0] 160 rfl
  simp only [World.size_alloc] at hb
  have hb00 : Below w.heap.size w ((w.alloc (.cells #[.int .u8 0, .int .u8 0, .int .u8 0, .int .u8 0, .int .u8 0, .int .u8 0, .int .u8 0, .int .u8 0] 160)).alloc (.cells #[.int .u8 0, .int .u8 0, .int .u8 0, .int .u8 0, .int .u8 0, .int .u8 0, .int .u8 0, .int .u8 0] 160)) := by repeat (first | exact Below.refl _ _ | with_reducible assumption | (refine bl_alloc ?_ (Nat.le_refl _) _))
  have hszn : w.heap.size + 2 ≤ ((w.alloc (.cells #[.int .u8 0, .int .u8 0, .int .u8 0, .int .u8 0, .int .u8 0, .int .u8 0, .int .u8 0, .int .u8 0] 160)).alloc (.cells #[.int .u8 0, .int .u8 0, .int .u8 0, .int .u8 0, .int .u8 0, .int .u8 0, .int .u8 0, .int .u8 0] 160)).heap.size := by simp only [World.size_alloc]; omega
  generalize ((w.alloc (.cells #[.int .u8 0, .int .u8 0, .int .u8 0, .int .u8 0, .int .u8 0, .int .u8 0, .int .u8 0, .int .u8 0] 160)).alloc (.cells #[.int .u8 0, .int .u8 0, .int .u8 0, .int .u8 0, .int .u8 0, .int .u8 0, .int .u8 0, .int .u8 0] 160)) = w1 at hr hb hb00 hszn ⊢
  have HBL := Lib.hid (bytesN_length x 8)
  go_wp2_with fail
  go_loopw [7] (fun i wr => ∃ k : Nat, k ≤ 8 ∧ i = .int .i64 k ∧ Vs wr w.heap.size [.int .u8 0, .int .u8 0, .int .u8 0, .int .u8 0, .int .u8 0, .int .u8 0, .int .u8 0, .int .u8 0] ∧
    Vs wr (w.heap.size + 1) (cells8 ((bytesN x 8).take k ++ List.replicate (8 - k) 0)) ∧ Below w.heap.size w wr) (fun i _ => 8 - (intOf i).toNat)
  case atStart => exact ⟨0, by omega, rfl, hr, hb, hb00⟩
  case round =>
    clear hr hb hb00
    obtain ⟨k, hk, rfl, hr, hb, hbw⟩ := hrel
    by_cases hlt : k < 8
    · obtain ⟨s, hs⟩ : ∃ s, 8 * k = s := ⟨_, rfl⟩
      have hsi : (8 : Int) * (k : Int) = (s : Int) := by omega
      have hs64 : s ≤ 56 := by omega
      have hs0 : (0 : Int) ≤ (s : Int) := by omega
      have hwr := byteN_wrap x s
      have hat : (bytesN x 8)[k]? = some ((x / 2 ^ s % 256 : Nat) : Int) := by rw [bytesN_at x 8 k hlt, ← hs]; rfl
      obtain ⟨d, hd⟩ : ∃ d, x / 2 ^ s % 256 = d := ⟨_, rfl⟩
      rw [hd] at hwr hat
      have hB2 := hb.put k (by rw [cells8_length, List.length_append, List.length_take, List.length_replicate, HBL.out]; omega) (.int .u8 (d : Int))
      have HL : Hid ((cells8 ((bytesN x 8).take k ++ List.replicate (8 - k) 0)).set k (.int .u8 (d : Int)) = cells8 ((bytesN x 8).take (k + 1) ++ List.replicate (8 - (k + 1)) 0)) := by
        show (cells8 _).set k _ = _
        unfold cells8
        rw [← List.map_set, fill_set (bytesN x 8) 0 (d : Int) 8 k HBL.out hlt hat]
      rw [HL.out] at hB2
      have HB2 := Lib.hid hB2
      have hlen : k < (cells8 ((bytesN x 8).take k ++ List.replicate (8 - k) 0)).length := by rw [cells8_length, List.length_append, List.length_take, List.length_replicate, HBL.out]; omega
      obtain ⟨v0, c0⟩ : ∃ v, wr.cell? ⟨w.heap.size + 1, k, none⟩ = some v := ⟨_, hb.cell k _ (List.getElem?_eq_getElem hlen)⟩
      have f0 := hb.frz k hlen
      have hblt := hb.lt
      have hR2 := hr.far (p := ⟨w.heap.size + 1, k, none⟩) (by dsimp only; omega) (.int .u8 (d : Int))
      have HR2 := Lib.hid hR2
      have hw8 : IntKind.i64.wrap (s : Int) = (s : Int) := IntWalk.i64_in _ (by omega)
      clear hs hd hat hB2 hlen hR2 hb hr
      go_wp2_with fail
      go_roundw
      case rel => exact ⟨k + 1, by omega, by go_num, HR2.out, HB2.out, by repeat (first | exact Below.refl _ _ | with_reducible assumption | (refine bl_alloc ?_ (Nat.le_refl _) _) | (refine bl_set ?_ (by dsimp only; omega) _) | (refine Below.drew ?_) | (refine bl_drewN ?_ _) | (refine bl_call ?_ (Nat.le_refl _) (by assumption)))⟩
      case measure => simp [intOf]; omega
    · obtain rfl : k = 8 := by omega
      rw [List.take_of_length_le (by rw [HBL.out]; exact Nat.le_refl _), Nat.sub_self, List.replicate_zero, List.append_nil] at hb
      have hb' : Vs wr (w.heap.size + 1) [.int .u8 (byteN x 0 : Nat), .int .u8 (byteN x 1 : Nat), .int .u8 (byteN x 2 : Nat), .int .u8 (byteN x 3 : Nat), .int .u8 (byteN x 4 : Nat), .int .u8 (byteN x 5 : Nat), .int .u8 (byteN x 6 : Nat), .int .u8 (byteN x 7 : Nat)] := hb
      clear hb
      obtain ⟨⟨bq0, bq1, bq2, bq3, bq4, bq5, bq6, bq7⟩, ⟨bq8, bq9, bq10, bq11, bq12, bq13, bq14, bq15⟩, bq16⟩ := hb'.get8
      obtain ⟨⟨r0, r1, r2, r3, r4, r5, r6, r7⟩, ⟨r8, r9, r10, r11, r12, r13, r14, r15⟩, r16⟩ := hr.get8
      go_wp2_with fail
      have hS := Vs.set8 hr (.int .u8 (byteN x 0 : Nat)) (.int .u8 (byteN x 1 : Nat)) (.int .u8 (byteN x 2 : Nat)) (.int .u8 (byteN x 3 : Nat)) (.int .u8 (byteN x 4 : Nat)) (.int .u8 (byteN x 5 : Nat)) (.int .u8 (byteN x 6 : Nat)) (.int .u8 (byteN x 7 : Nat))
      refine bodyPost_ret (results_b8 (b := w.heap.size) hS rfl rfl) rfl ⟨rfl, ?_⟩
      exact bl_set8 hbw (Nat.le_refl _) _ _ _ _ _ _ _ _

theorem Vs.get16 {w : World} {b : Nat} {x0 x1 x2 x3 x4 x5 x6 x7 y0 y1 y2 y3 y4 y5 y6 y7 : Value} (h : Vs w b [x0, x1, x2, x3, x4, x5, x6, x7, y0, y1, y2, y3, y4, y5, y6, y7]) :
    (w.cell? ⟨b, 0, none⟩ = some x0 ∧ w.cell? ⟨b, 1, none⟩ = some x1 ∧ w.cell? ⟨b, 2, none⟩ = some x2 ∧ w.cell? ⟨b, 3, none⟩ = some x3 ∧ w.cell? ⟨b, 4, none⟩ = some x4 ∧ w.cell? ⟨b, 5, none⟩ = some x5 ∧ w.cell? ⟨b, 6, none⟩ = some x6 ∧ w.cell? ⟨b, 7, none⟩ = some x7 ∧ w.cell? ⟨b, 8, none⟩ = some y0 ∧ w.cell? ⟨b, 9, none⟩ = some y1 ∧ w.cell? ⟨b, 10, none⟩ = some y2 ∧ w.cell? ⟨b, 11, none⟩ = some y3 ∧ w.cell? ⟨b, 12, none⟩ = some y4 ∧ w.cell? ⟨b, 13, none⟩ = some y5 ∧ w.cell? ⟨b, 14, none⟩ = some y6 ∧ w.cell? ⟨b, 15, none⟩ = some y7) ∧ (w.frozen? ⟨b, 0, none⟩ = false ∧ w.frozen? ⟨b, 1, none⟩ = false ∧ w.frozen? ⟨b, 2, none⟩ = false ∧ w.frozen? ⟨b, 3, none⟩ = false ∧ w.frozen? ⟨b, 4, none⟩ = false ∧ w.frozen? ⟨b, 5, none⟩ = false ∧ w.frozen? ⟨b, 6, none⟩ = false ∧ w.frozen? ⟨b, 7, none⟩ = false ∧ w.frozen? ⟨b, 8, none⟩ = false ∧ w.frozen? ⟨b, 9, none⟩ = false ∧ w.frozen? ⟨b, 10, none⟩ = false ∧ w.frozen? ⟨b, 11, none⟩ = false ∧ w.frozen? ⟨b, 12, none⟩ = false ∧ w.frozen? ⟨b, 13, none⟩ = false ∧ w.frozen? ⟨b, 14, none⟩ = false ∧ w.frozen? ⟨b, 15, none⟩ = false) ∧ b < w.heap.size :=
  ⟨⟨h.cell 0 _ rfl, h.cell 1 _ rfl, h.cell 2 _ rfl, h.cell 3 _ rfl, h.cell 4 _ rfl, h.cell 5 _ rfl, h.cell 6 _ rfl, h.cell 7 _ rfl, h.cell 8 _ rfl, h.cell 9 _ rfl, h.cell 10 _ rfl, h.cell 11 _ rfl, h.cell 12 _ rfl, h.cell 13 _ rfl, h.cell 14 _ rfl, h.cell 15 _ rfl⟩, ⟨h.frz 0 (by simp), h.frz 1 (by simp), h.frz 2 (by simp), h.frz 3 (by simp), h.frz 4 (by simp), h.frz 5 (by simp), h.frz 6 (by simp), h.frz 7 (by simp), h.frz 8 (by simp), h.frz 9 (by simp), h.frz 10 (by simp), h.frz 11 (by simp), h.frz 12 (by simp), h.frz 13 (by simp), h.frz 14 (by simp), h.frz 15 (by simp)⟩, h.lt⟩
theorem load_b16 {w : World} {b : Nat} {x0 x1 x2 x3 x4 x5 x6 x7 y0 y1 y2 y3 y4 y5 y6 y7 : Value} (h : Vs w b [x0, x1, x2, x3, x4, x5, x6, x7, y0, y1, y2, y3, y4, y5, y6, y7]) : (loadVar 162 ⟨b, 0, none⟩).run Try.prog w = .ok (.agg #[x0, x1, x2, x3, x4, x5, x6, x7, y0, y1, y2, y3, y4, y5, y6, y7]) w := by
  obtain ⟨⟨c0, c1, c2, c3, c4, c5, c6, c7, d0, d1, d2, d3, d4, d5, d6, d7⟩, _⟩ := h.get16
  simp [loadVar, go_sem, c0, c1, c2, c3, c4, c5, c6, c7, d0, d1, d2, d3, d4, d5, d6, d7]

theorem results_b16 {fn : Func} {p : Tmp} {tmps : Array Value} {w : World} {b : Nat} {x0 x1 x2 x3 x4 x5 x6 x7 y0 y1 y2 y3 y4 y5 y6 y7 : Value} (hv : Vs w b [x0, x1, x2, x3, x4, x5, x6, x7, y0, y1, y2, y3, y4, y5, y6, y7]) (h : fn.results = #[.cell p 162]) (hp : tmps.getD p undef = .pointer (some ⟨b, 0, none⟩)) :
    (results fn tmps).run Try.prog w = .ok (.agg #[x0, x1, x2, x3, x4, x5, x6, x7, y0, y1, y2, y3, y4, y5, y6, y7]) w := by
  have hl := load_b16 hv
  rw [Array.getD_eq_getD_getElem?] at hp
  simp only [results, h]
  simp [asAddr, hp, hl]

set_option maxHeartbeats 4000000 in
theorem wide_Bytes (x y : Nat) (hx : (x : Int) ≤ 18446744073709551615) (hxy : (x : Int) + 18446744073709551616 * (y : Int) < 340282366920938462946865773367900766209) (w : World) :
    Calls Try.prog 143 #[.agg #[.int .u64 x, .int .u64 y]] w fun e w' => e = .returned (.agg #[.int .u8 (byteN x 0 : Nat), .int .u8 (byteN x 1 : Nat), .int .u8 (byteN x 2 : Nat), .int .u8 (byteN x 3 : Nat), .int .u8 (byteN x 4 : Nat), .int .u8 (byteN x 5 : Nat), .int .u8 (byteN x 6 : Nat), .int .u8 (byteN x 7 : Nat), .int .u8 (byteN y 0 : Nat), .int .u8 (byteN y 1 : Nat), .int .u8 (byteN y 2 : Nat), .int .u8 (byteN y 3 : Nat), .int .u8 (byteN y 4 : Nat), .int .u8 (byteN y 5 : Nat), .int .u8 (byteN y 6 : Nat), .int .u8 (byteN y 7 : Nat)]) ∧ Below w.heap.size w w' := by
  have HOF : Hid (∀ wz, Calls Try.prog 125 #[.agg #[.int .u64 x, .int .u64 y]] wz fun e w' => e = .returned (.agg #[.int .u64 x, .int .u64 y]) ∧ Below wz.heap.size wz w') := by
    intro wz
    have h := wide_Of (x : Int) (y : Int) wz (by omega) (by omega) (by omega) (by omega) ((x : Int) + 18446744073709551616 * (y : Int)) ((Int.emod_eq_of_lt (by omega) hxy).symm)
    rwa [show ((x : Int) + 18446744073709551616 * (y : Int)) % 18446744073709551616 = x by omega, show ((x : Int) + 18446744073709551616 * (y : Int)) / 18446744073709551616 = y by omega] at h
  clear hx hxy
  go_enter Try.func143, Try.ntmps143
  go_upto_region 1 with fail
  have hx := (V2.new w (.int .u64 x) (.int .u64 y) 41).alloc (.cells #[.int .u8 0, .int .u8 0, .int .u8 0, .int .u8 0, .int .u8 0, .int .u8 0, .int .u8 0, .int .u8 0, .int .u8 0, .int .u8 0, .int .u8 0, .int .u8 0, .int .u8 0, .int .u8 0, .int .u8 0, .int .u8 0] 162)
  have hr := Vs.new (w.alloc (.cells #[.int .u64 x, .int .u64 y] 41)) [.int .u8 0, .int .u8 0, .int .u8 0, .int .u8 0, .int .u8 0, .int .u8 0, .int .u8 0, .int .u8 0, .int .u8 0, .int .u8 0, .int .u8 0, .int .u8 0, .int .u8 0, .int .u8 0, .int .u8 0, .int .u8 0] #[.int .u8 0, .int .u8 0, .int .u8 0, .int .u8 0, .int .u8 0, .int .u8 0, .int .u8 0, .int .u8 0, .int .u8 0, .int .u8 0, .int .u8 0, .int .u8 0, .int .u8 0, .int .u8 0, .int .u8 0, .int .u8 0] 162 rfl
  simp only [World.size_alloc] at hr
  have hb00 : Below w.heap.size w ((w.alloc (.cells #[.int .u64 x, .int .u64 y] 41)).alloc (.cells #[.int .u8 0, .int .u8 0, .int .u8 0, .int .u8 0, .int .u8 0, .int .u8 0, .int .u8 0, .int .u8 0, .int .u8 0, .int .u8 0, .int .u8 0, .int .u8 0, .int .u8 0, .int .u8 0, .int .u8 0, .int .u8 0] 162)) := by repeat (first | exact Below.refl _ _ | with_reducible assumption | (refine bl_alloc ?_ (Nat.le_refl _) _))
  have hszn : w.heap.size + 2 ≤ ((w.alloc (.cells #[.int .u64 x, .int .u64 y] 41)).alloc (.cells #[.int .u8 0, .int .u8 0, .int .u8 0, .int .u8 0, .int .u8 0, .int .u8 0, .int .u8 0, .int .u8 0, .int .u8 0, .int .u8 0, .int .u8 0, .int .u8 0, .int .u8 0, .int .u8 0, .int .u8 0, .int .u8 0] 162)).heap.size := by simp only [World.size_alloc]; omega
  generalize ((w.alloc (.cells #[.int .u64 x, .int .u64 y] 41)).alloc (.cells #[.int .u8 0, .int .u8 0, .int .u8 0, .int .u8 0, .int .u8 0, .int .u8 0, .int .u8 0, .int .u8 0, .int .u8 0, .int .u8 0, .int .u8 0, .int .u8 0, .int .u8 0, .int .u8 0, .int .u8 0, .int .u8 0] 162)) = w1 at hx hr hb00 hszn ⊢
  obtain ⟨x0, x1, x2, x3, x4⟩ := V2.mk hx.c0 hx.c1 hx.f0 hx.f1 hx.lt
  go_upto_region 2 with (first
    | (go_at_call 125; refine (HOF.out _).mono ?_; rintro e w2 ⟨rfl, hb2⟩; replace hb00 := bl_call hb00 (Nat.le_refl _) hb2; replace hx := hx.call hb2; replace hr := hr.call hb2; clear x0 x1 x2 x3 x4; clear hb2; obtain ⟨x0, x1, x2, x3, x4⟩ := V2.mk hx.c0 hx.c1 hx.f0 hx.f1 hx.lt))
  clear x0 x1 x2 x3 x4
  replace hr := (hr.far (p := ⟨w.heap.size, 0, none⟩) (by dsimp only; omega) (.int .u64 x)).far (p := ⟨w.heap.size, 1, none⟩) (by dsimp only; omega) (.int .u64 y)
  replace hx := V2.set hx (.int .u64 x) (.int .u64 y)
  replace hb00 := bl_st hb00 (Nat.le_refl _) (.int .u64 x) (.int .u64 y)
  generalize (w2.setCell ⟨w.heap.size, 0, none⟩ (.int .u64 x)).setCell ⟨w.heap.size, 1, none⟩ (.int .u64 y) = w3 at hr hx hb00 ⊢
  have hgr : w.heap.size + 1 < w3.heap.size := hr.lt
  go_upto_region 3 with fail
  have hb := Vs.new w3 [.int .u8 0, .int .u8 0, .int .u8 0, .int .u8 0, .int .u8 0, .int .u8 0, .int .u8 0, .int .u8 0, .int .u8 0, .int .u8 0, .int .u8 0, .int .u8 0, .int .u8 0, .int .u8 0, .int .u8 0, .int .u8 0] #[.int .u8 0, .int .u8 0, .int .u8 0, .int .u8 0, .int .u8 0, .int .u8 0, .int .u8 0, .int .u8 0, .int .u8 0, .int .u8 0, .int .u8 0, .int .u8 0, .int .u8 0, .int .u8 0, .int .u8 0, .int .u8 0] 162 rfl
  have hbA : Below w3.heap.size w3 (w3.alloc (.cells #[.int .u8 0, .int .u8 0, .int .u8 0, .int .u8 0, .int .u8 0, .int .u8 0, .int .u8 0, .int .u8 0, .int .u8 0, .int .u8 0, .int .u8 0, .int .u8 0, .int .u8 0, .int .u8 0, .int .u8 0, .int .u8 0] 162)) := by repeat (first | exact Below.refl _ _ | with_reducible assumption | (refine bl_alloc ?_ (Nat.le_refl _) _))
  replace hb00 := bl_call hb00 (Nat.le_refl _) hbA
  replace hx := hx.call hbA
  replace hr := hr.call hbA
  clear hbA
  generalize w3.alloc (.cells #[.int .u8 0, .int .u8 0, .int .u8 0, .int .u8 0, .int .u8 0, .int .u8 0, .int .u8 0, .int .u8 0, .int .u8 0, .int .u8 0, .int .u8 0, .int .u8 0, .int .u8 0, .int .u8 0, .int .u8 0, .int .u8 0] 162) = w4 at hb00 hx hr hb ⊢
  have hgl : w3.heap.size < w4.heap.size := hb.lt
  generalize w3.heap.size = g at *
  have HBL : Hid ((bytesN x 8 ++ bytesN y 8).length = 16) := by show (_ : List Int).length = 16; rw [List.length_append, bytesN_length, bytesN_length]
  go_wp2_with fail
  go_loopw [7] (fun i wr => ∃ k : Nat, k ≤ 16 ∧ i = .int .i64 k ∧ V2 wr w.heap.size (.int .u64 x) (.int .u64 y) ∧ Vs wr (w.heap.size + 1) [.int .u8 0, .int .u8 0, .int .u8 0, .int .u8 0, .int .u8 0, .int .u8 0, .int .u8 0, .int .u8 0, .int .u8 0, .int .u8 0, .int .u8 0, .int .u8 0, .int .u8 0, .int .u8 0, .int .u8 0, .int .u8 0] ∧
    Vs wr g (cells8 ((bytesN x 8 ++ bytesN y 8).take k ++ List.replicate (16 - k) 0)) ∧ Below w.heap.size w wr) (fun i _ => 16 - (intOf i).toNat)
  case atStart => exact ⟨0, by omega, rfl, hx, hr, hb, hb00⟩
  case round =>
    clear hx hr hb hb00
    obtain ⟨k, hk, rfl, hx, hr, hb, hbw⟩ := hrel
    by_cases hlt : k < 16
    · by_cases hk8 : k < 8
      · have hq1 : (k : Int) / 8 = 0 := by omega
        have hq2 : (k : Int).tdiv 8 = 0 := by rw [Int.tdiv_eq_ediv_of_nonneg (by omega)]; exact hq1
        have hq3 : (k : Int) % 8 = (k : Int) := by omega
        have hq4 : (k : Int).tmod 8 = (k : Int) := by rw [Int.tmod_eq_emod_of_nonneg (by omega)]; exact hq3
        have hq5 : k / 8 = 0 := by omega
        have hq6 : k % 8 = k := by omega
        obtain ⟨s, hs⟩ : ∃ s, 8 * k = s := ⟨_, rfl⟩
        have hsi : (8 : Int) * (k : Int) = (s : Int) := by omega
        have hs64 : s ≤ 56 := by omega
        have hs0 : (0 : Int) ≤ (s : Int) := by omega
        have hwr := byteN_wrap x s
        have hat : (bytesN x 8 ++ bytesN y 8)[k]? = some ((x / 2 ^ s % 256 : Nat) : Int) := by
          rw [List.getElem?_append_left (by rw [bytesN_length]; exact hk8), bytesN_at x 8 k hk8, ← hs]
          rfl
        obtain ⟨d, hd⟩ : ∃ d, x / 2 ^ s % 256 = d := ⟨_, rfl⟩
        rw [hd] at hwr hat
        have hlen : k < (cells8 ((bytesN x 8 ++ bytesN y 8).take k ++ List.replicate (16 - k) 0)).length := by rw [cells8_length, List.length_append, List.length_take, List.length_replicate, HBL.out]; omega
        have hB2 := hb.put k hlen (.int .u8 (d : Int))
        have HL : Hid ((cells8 ((bytesN x 8 ++ bytesN y 8).take k ++ List.replicate (16 - k) 0)).set k (.int .u8 (d : Int)) = cells8 ((bytesN x 8 ++ bytesN y 8).take (k + 1) ++ List.replicate (16 - (k + 1)) 0)) := by
          show (cells8 _).set k _ = _
          unfold cells8
          rw [← List.map_set, fill_set (bytesN x 8 ++ bytesN y 8) 0 (d : Int) 16 k HBL.out hlt hat]
        rw [HL.out] at hB2
        have HB2 := Lib.hid hB2
        obtain ⟨v0, c0⟩ : ∃ v, wr.cell? ⟨g, k, none⟩ = some v := ⟨_, hb.cell k _ (List.getElem?_eq_getElem hlen)⟩
        have f0 := hb.frz k hlen
        have hblt := hb.lt
        have HR2 := Lib.hid (hr.far (p := ⟨g, k, none⟩) (by dsimp only; omega) (.int .u8 (d : Int)))
        have HX2 := Lib.hid (hx.setOther (p := ⟨g, k, none⟩) (by dsimp only; omega) (.int .u8 (d : Int)))
        have hw8 : IntKind.i64.wrap (s : Int) = (s : Int) := IntWalk.i64_in _ (by omega)
        have hwm : (0 : Int) ≤ (k : Int) := by omega
        obtain ⟨x0, x1, x2, x3, x4⟩ := V2.mk hx.c0 hx.c1 hx.f0 hx.f1 hx.lt
        clear hs hd hat hB2 hlen hb hr hx
        go_wp2_with fail
        go_roundw
        case rel => exact ⟨k + 1, by omega, by go_num, HX2.out, HR2.out, HB2.out, by repeat (first | exact Below.refl _ _ | with_reducible assumption | (refine bl_alloc ?_ (Nat.le_refl _) _) | (refine bl_set ?_ (by dsimp only; omega) _) | (refine Below.drew ?_) | (refine bl_drewN ?_ _) | (refine bl_call ?_ (Nat.le_refl _) (by assumption)))⟩
        case measure => simp [intOf]; omega
      · obtain ⟨m, rfl⟩ : ∃ m, k = m + 8 := ⟨k - 8, by omega⟩
        have hq1 : ((m : Int) + 8) / 8 = 1 := by omega
        have hq2 : ((m : Int) + 8).tdiv 8 = 1 := by rw [Int.tdiv_eq_ediv_of_nonneg (by omega)]; exact hq1
        have hq3 : ((m : Int) + 8) % 8 = (m : Int) := by omega
        have hq4 : ((m : Int) + 8).tmod 8 = (m : Int) := by rw [Int.tmod_eq_emod_of_nonneg (by omega)]; exact hq3
        have hq5 : (m + 8) / 8 = 1 := by omega
        have hq6 : (m + 8) % 8 = m := by omega
        obtain ⟨k, hkm⟩ : ∃ k, m + 8 = k := ⟨_, rfl⟩
        have hkm2 : (m : Int) + 8 = (k : Int) := by omega
        rw [hkm] at hq5 hq6 hb hlt hk
        rw [hkm2] at hq1 hq2 hq3 hq4
        rw [show ((m + 8 : Nat) : Int) = (k : Int) by omega]
        obtain ⟨s, hs⟩ : ∃ s, 8 * m = s := ⟨_, rfl⟩
        have hsi : (8 : Int) * (m : Int) = (s : Int) := by omega
        have hs64 : s ≤ 56 := by omega
        have hs0 : (0 : Int) ≤ (s : Int) := by omega
        have hwr := byteN_wrap y s
        have hat : (bytesN x 8 ++ bytesN y 8)[k]? = some ((y / 2 ^ s % 256 : Nat) : Int) := by
          rw [List.getElem?_append_right (by rw [bytesN_length]; omega), bytesN_length, show k - 8 = m by omega, bytesN_at y 8 m (by omega), ← hs]
          rfl
        obtain ⟨d, hd⟩ : ∃ d, y / 2 ^ s % 256 = d := ⟨_, rfl⟩
        rw [hd] at hwr hat
        have hlen : k < (cells8 ((bytesN x 8 ++ bytesN y 8).take k ++ List.replicate (16 - k) 0)).length := by rw [cells8_length, List.length_append, List.length_take, List.length_replicate, HBL.out]; omega
        have hB2 := hb.put k hlen (.int .u8 (d : Int))
        have HL : Hid ((cells8 ((bytesN x 8 ++ bytesN y 8).take k ++ List.replicate (16 - k) 0)).set k (.int .u8 (d : Int)) = cells8 ((bytesN x 8 ++ bytesN y 8).take (k + 1) ++ List.replicate (16 - (k + 1)) 0)) := by
          show (cells8 _).set k _ = _
          unfold cells8
          rw [← List.map_set, fill_set (bytesN x 8 ++ bytesN y 8) 0 (d : Int) 16 k HBL.out hlt hat]
        rw [HL.out] at hB2
        have HB2 := Lib.hid hB2
        obtain ⟨v0, c0⟩ : ∃ v, wr.cell? ⟨g, k, none⟩ = some v := ⟨_, hb.cell k _ (List.getElem?_eq_getElem hlen)⟩
        have f0 := hb.frz k hlen
        have hblt := hb.lt
        have HR2 := Lib.hid (hr.far (p := ⟨g, k, none⟩) (by dsimp only; omega) (.int .u8 (d : Int)))
        have HX2 := Lib.hid (hx.setOther (p := ⟨g, k, none⟩) (by dsimp only; omega) (.int .u8 (d : Int)))
        have hw8 : IntKind.i64.wrap (s : Int) = (s : Int) := IntWalk.i64_in _ (by omega)
        have hwm : (0 : Int) ≤ (m : Int) := by omega
        obtain ⟨x0, x1, x2, x3, x4⟩ := V2.mk hx.c0 hx.c1 hx.f0 hx.f1 hx.lt
        clear hkm hkm2 hs hd hat hB2 hlen hb hr hx
        go_wp2_with fail
        go_roundw
        case rel => exact ⟨k + 1, by omega, by go_num, HX2.out, HR2.out, HB2.out, by repeat (first | exact Below.refl _ _ | with_reducible assumption | (refine bl_alloc ?_ (Nat.le_refl _) _) | (refine bl_set ?_ (by dsimp only; omega) _) | (refine Below.drew ?_) | (refine bl_drewN ?_ _) | (refine bl_call ?_ (Nat.le_refl _) (by assumption)))⟩
        case measure => simp [intOf]; omega
    · obtain rfl : k = 16 := by omega
      rw [List.take_of_length_le (by rw [HBL.out]; exact Nat.le_refl _), Nat.sub_self, List.replicate_zero, List.append_nil] at hb
      have hb' : Vs wr g [.int .u8 (byteN x 0 : Nat), .int .u8 (byteN x 1 : Nat), .int .u8 (byteN x 2 : Nat), .int .u8 (byteN x 3 : Nat), .int .u8 (byteN x 4 : Nat), .int .u8 (byteN x 5 : Nat), .int .u8 (byteN x 6 : Nat), .int .u8 (byteN x 7 : Nat), .int .u8 (byteN y 0 : Nat), .int .u8 (byteN y 1 : Nat), .int .u8 (byteN y 2 : Nat), .int .u8 (byteN y 3 : Nat), .int .u8 (byteN y 4 : Nat), .int .u8 (byteN y 5 : Nat), .int .u8 (byteN y 6 : Nat), .int .u8 (byteN y 7 : Nat)] := hb
      clear hb
      obtain ⟨⟨bq0, bq1, bq2, bq3, bq4, bq5, bq6, bq7, bq8, bq9, bq10, bq11, bq12, bq13, bq14, bq15⟩, ⟨bq16, bq17, bq18, bq19, bq20, bq21, bq22, bq23, bq24, bq25, bq26, bq27, bq28, bq29, bq30, bq31⟩, bq32⟩ := hb'.get16
      obtain ⟨⟨r0, r1, r2, r3, r4, r5, r6, r7, r8, r9, r10, r11, r12, r13, r14, r15⟩, ⟨r16, r17, r18, r19, r20, r21, r22, r23, r24, r25, r26, r27, r28, r29, r30, r31⟩, r32⟩ := hr.get16
      go_wp2_with fail
      have hS := ((((((((((((((((hr.put 0 (by simp) (.int .u8 (byteN x 0 : Nat))).put 1 (by simp) (.int .u8 (byteN x 1 : Nat))).put 2 (by simp) (.int .u8 (byteN x 2 : Nat))).put 3 (by simp) (.int .u8 (byteN x 3 : Nat))).put 4 (by simp) (.int .u8 (byteN x 4 : Nat))).put 5 (by simp) (.int .u8 (byteN x 5 : Nat))).put 6 (by simp) (.int .u8 (byteN x 6 : Nat))).put 7 (by simp) (.int .u8 (byteN x 7 : Nat))).put 8 (by simp) (.int .u8 (byteN y 0 : Nat))).put 9 (by simp) (.int .u8 (byteN y 1 : Nat))).put 10 (by simp) (.int .u8 (byteN y 2 : Nat))).put 11 (by simp) (.int .u8 (byteN y 3 : Nat))).put 12 (by simp) (.int .u8 (byteN y 4 : Nat))).put 13 (by simp) (.int .u8 (byteN y 5 : Nat))).put 14 (by simp) (.int .u8 (byteN y 6 : Nat))).put 15 (by simp) (.int .u8 (byteN y 7 : Nat)))
      have hB := (bl_set (p := ⟨w.heap.size + 1, 15, none⟩) (bl_set (p := ⟨w.heap.size + 1, 14, none⟩) (bl_set (p := ⟨w.heap.size + 1, 13, none⟩) (bl_set (p := ⟨w.heap.size + 1, 12, none⟩) (bl_set (p := ⟨w.heap.size + 1, 11, none⟩) (bl_set (p := ⟨w.heap.size + 1, 10, none⟩) (bl_set (p := ⟨w.heap.size + 1, 9, none⟩) (bl_set (p := ⟨w.heap.size + 1, 8, none⟩) (bl_set (p := ⟨w.heap.size + 1, 7, none⟩) (bl_set (p := ⟨w.heap.size + 1, 6, none⟩) (bl_set (p := ⟨w.heap.size + 1, 5, none⟩) (bl_set (p := ⟨w.heap.size + 1, 4, none⟩) (bl_set (p := ⟨w.heap.size + 1, 3, none⟩) (bl_set (p := ⟨w.heap.size + 1, 2, none⟩) (bl_set (p := ⟨w.heap.size + 1, 1, none⟩) (bl_set (p := ⟨w.heap.size + 1, 0, none⟩) hbw (by dsimp only; omega) (.int .u8 (byteN x 0 : Nat))) (by dsimp only; omega) (.int .u8 (byteN x 1 : Nat))) (by dsimp only; omega) (.int .u8 (byteN x 2 : Nat))) (by dsimp only; omega) (.int .u8 (byteN x 3 : Nat))) (by dsimp only; omega) (.int .u8 (byteN x 4 : Nat))) (by dsimp only; omega) (.int .u8 (byteN x 5 : Nat))) (by dsimp only; omega) (.int .u8 (byteN x 6 : Nat))) (by dsimp only; omega) (.int .u8 (byteN x 7 : Nat))) (by dsimp only; omega) (.int .u8 (byteN y 0 : Nat))) (by dsimp only; omega) (.int .u8 (byteN y 1 : Nat))) (by dsimp only; omega) (.int .u8 (byteN y 2 : Nat))) (by dsimp only; omega) (.int .u8 (byteN y 3 : Nat))) (by dsimp only; omega) (.int .u8 (byteN y 4 : Nat))) (by dsimp only; omega) (.int .u8 (byteN y 5 : Nat))) (by dsimp only; omega) (.int .u8 (byteN y 6 : Nat))) (by dsimp only; omega) (.int .u8 (byteN y 7 : Nat)))
      refine bodyPost_ret (results_b16 (b := w.heap.size + 1) hS rfl rfl) rfl ⟨rfl, hB⟩

end Go.Proofs.Ytiphahbeedeebaa

namespace Go.Proofs.Ytiphahbeedeebaa
open Go.RowKit Fm
set_option linter.unusedVariables false
set_option maxRecDepth 100000

theorem bytes_eq : ∀ (n a b : Nat), a < 256 ^ n → b < 256 ^ n → (∀ i, i < n → a / 256 ^ i % 256 = b / 256 ^ i % 256) → a = b
  | 0, a, b, ha, hb, _ => by simp at ha hb; omega
  | n + 1, a, b, ha, hb, h => by
    have h0 := h 0 (by omega)
    simp only [Nat.pow_zero, Nat.div_one] at h0
    have h1 : a / 256 = b / 256 := by
      refine bytes_eq n _ _ ?_ ?_ fun i hi => ?_
      · rw [Nat.pow_succ, Nat.mul_comm] at ha
        exact (Nat.div_lt_iff_lt_mul (by omega)).2 (by rwa [Nat.mul_comm])
      · rw [Nat.pow_succ, Nat.mul_comm] at hb
        exact (Nat.div_lt_iff_lt_mul (by omega)).2 (by rwa [Nat.mul_comm])
      · have h2 := h (i + 1) (by omega)
        rw [Nat.pow_succ, Nat.mul_comm, ← Nat.div_div_eq_div_mul, ← Nat.div_div_eq_div_mul] at h2
        exact h2
    omega
theorem byteN_256 (x i : Nat) : byteN x i = x / 256 ^ i % 256 := by
  unfold byteN
  rw [Nat.pow_mul]
theorem bytesN_inj {a b : Nat} (ha : a < 18446744073709551616) (hb : b < 18446744073709551616) (h : bytesN a 8 = bytesN b 8) : a = b := by
  refine bytes_eq 8 a b (by simpa using ha) (by simpa using hb) fun i hi => ?_
  have h1 := bytesN_at a 8 i hi
  rw [h, bytesN_at b 8 i hi] at h1
  have h2 : ((byteN b i : Nat) : Int) = ((byteN a i : Nat) : Int) := Option.some.inj h1
  rw [← byteN_256, ← byteN_256]
  omega

/-- an element's bytes -/
def bytesK {f : Nat} (x : Fin (Pm f)) : List Int := if f = 1 then bytesN (lo x).toNat 8 else bytesN (lo x).toNat 8 ++ bytesN (hi x).toNat 8
def sizeK (f : Nat) : Nat := if f = 1 then 8 else 16
theorem bytesK_length {f : Nat} (x : Fin (Pm f)) : (bytesK x).length = sizeK f := by
  unfold bytesK sizeK
  split
  · exact bytesN_length _ _
  · rw [List.length_append, bytesN_length, bytesN_length]
theorem bytesK_inj {f : Nat} (hf : IsF f) {x y : Fin (Pm f)} (h : bytesK x = bytesK y) : x = y := by
  have h0 := lo_0 x
  have h1 := lo_1 x
  have h2 := lo_0 y
  have h3 := lo_1 y
  have g0 := hi_0 x
  have g1 := hi_1 x
  have g2 := hi_0 y
  have g3 := hi_1 y
  unfold bytesK at h
  by_cases h1f : f = 1
  · rw [if_pos h1f, if_pos h1f] at h
    have e := bytesN_inj (by omega) (by omega) h
    refine lohi_inj (by omega) ?_
    subst h1f
    have a1 := val_lohi x
    have a2 := val_lohi y
    have b1 := x.isLt
    have b2 := y.isLt
    have hp : Pm 1 = 18446744069414584321 := rfl
    omega
  · rw [if_neg h1f, if_neg h1f] at h
    obtain ⟨e1, e2⟩ := List.append_inj h (by rw [bytesN_length, bytesN_length])
    have e3 := bytesN_inj (by omega) (by omega) e1
    have e4 := bytesN_inj (by omega) (by omega) e2
    exact lohi_inj (by omega) (by omega)
theorem bytesK_u8 {f : Nat} (x : Fin (Pm f)) : ∀ e, e ∈ bytesK x → 0 ≤ e ∧ e ≤ 255 := by
  have key : ∀ a n e, e ∈ bytesN a n → 0 ≤ e ∧ e ≤ 255 := by
    intro a n e he
    unfold bytesN at he
    obtain ⟨i, _, rfl⟩ := List.mem_map.1 he
    have : byteN a i < 256 := Nat.mod_lt _ (by omega)
    omega
  intro e he
  unfold bytesK at he
  split at he
  · exact key _ _ e he
  · rcases List.mem_append.1 he with h | h <;> exact key _ _ e h

/-- a vector's bytes -/
def vecB {f : Nat} (l : KL f) : List Int := l.flatMap bytesK
theorem vecB_length {f : Nat} (l : KL f) : (vecB l).length = l.length * sizeK f := by
  unfold vecB
  induction l with
  | nil => simp
  | cons x l ih => rw [List.flatMap_cons, List.length_append, ih, bytesK_length, List.length_cons, Nat.succ_mul, Nat.add_comm]
theorem vecB_inj {f : Nat} (hf : IsF f) : ∀ {l m : KL f}, l.length = m.length → vecB l = vecB m → l = m
  | [], [], _, _ => rfl
  | [], _ :: _, h, _ => by simp at h
  | _ :: _, [], h, _ => by simp at h
  | x :: l, y :: m, hl, h => by
    unfold vecB at h
    rw [List.flatMap_cons, List.flatMap_cons] at h
    obtain ⟨e1, e2⟩ := List.append_inj h (by rw [bytesK_length, bytesK_length])
    rw [bytesK_inj hf e1, vecB_inj hf (by simpa using hl) e2]
theorem vecB_u8 {f : Nat} (l : KL f) : ∀ e, e ∈ vecB l → 0 ≤ e ∧ e ≤ 255 := by
  intro e he
  unfold vecB at he
  obtain ⟨x, _, h⟩ := List.mem_flatMap.1 he
  exact bytesK_u8 x e h
theorem str_inj : ∀ {xs ys : List Int}, (∀ e, e ∈ xs → 0 ≤ e ∧ e ≤ 255) → (∀ e, e ∈ ys → 0 ≤ e ∧ e ≤ 255) → (xs.map fun n => UInt8.ofNat n.toNat) = (ys.map fun n => UInt8.ofNat n.toNat) → xs = ys
  | [], [], _, _, _ => rfl
  | [], _ :: _, _, _, h => by simp at h
  | _ :: _, [], _, _, h => by simp at h
  | x :: xs, y :: ys, hx, hy, h => by
    rw [List.map_cons, List.map_cons] at h
    injection h with h1 h2
    have a := hx x (List.mem_cons_self ..)
    have b := hy y (List.mem_cons_self ..)
    have h3 := congrArg UInt8.toNat h1
    rw [UInt8.toNat_ofNat', UInt8.toNat_ofNat'] at h3
    have h4 : x = y := by omega
    rw [h4, str_inj (fun e he => hx e (List.mem_cons_of_mem _ he)) (fun e he => hy e (List.mem_cons_of_mem _ he)) h2]
theorem vec_str_inj {f : Nat} (hf : IsF f) {l m : KL f} (hl : l.length = m.length) (h : strOfNums (vecB l) = strOfNums (vecB m)) : l = m := by
  refine vecB_inj hf hl (str_inj (vecB_u8 l) (vecB_u8 m) ?_)
  have h1 := congrArg (fun s : ByteArray => s.data.toList) h
  exact h1

section
variable {f : Nat} (hf : IsF f)
include hf

set_option maxHeartbeats 4000000 in
theorem field_Bytes (x : Fin (Pm f)) (w : World) :
    Calls Try.prog 128 #[.int .u8 f, vK x] w fun e w' => ∃ g : Nat, e = .returned (.slice (some ⟨g, 0, none⟩) (sizeK f) (sizeK f)) ∧ Vs w' g (cells8 (bytesK x)) ∧ w.heap.size ≤ g ∧ Below w.heap.size w w' := by
  obtain ⟨a, ha⟩ : ∃ a : Nat, lo x = (a : Int) := ⟨(lo x).toNat, by have := lo_0 x; omega⟩
  obtain ⟨b, hb⟩ : ∃ b : Nat, hi x = (b : Int) := ⟨(hi x).toNat, by have := hi_0 x; omega⟩
  have h1 := lo_1 x
  have hv := val_lohi x
  have hlt := x.isLt
  have hv2 : vK x = .agg #[.int .u64 a, .int .u64 b] := by rw [← ha, ← hb]
  rw [hv2]
  have hta : (lo x).toNat = a := by omega
  have htb : (hi x).toNat = b := by omega
  have HBK : Hid (bytesK x = if f = 1 then bytesN a 8 else bytesN a 8 ++ bytesN b 8) := by
    show bytesK x = _
    unfold bytesK
    rw [hta, htb]
  rcases hf.or with rfl | rfl
  · have HG := Lib.hid (fun wz => gold_Bytes a (by have hp : Pm 1 = 18446744069414584321 := rfl; omega) wz)
    rw [if_pos rfl] at HBK
    clear h1 hv hlt hv2 hta htb ha hb
    have hb00 : Below w.heap.size w w := Below.refl _ _
    go_enter Try.func128, Try.ntmps128
    go_upto_region 1 with fail
    have hx := V2.new w (.int .u64 a) (.int .u64 b) 41
    have hbA : Below w.heap.size w (w.alloc (.cells #[.int .u64 a, .int .u64 b] 41)) := by repeat (first | exact Below.refl _ _ | with_reducible assumption | (refine bl_alloc ?_ (Nat.le_refl _) _))
    replace hb00 := bl_call hb00 (Nat.le_refl _) hbA
    clear hbA
    generalize w.alloc (.cells #[.int .u64 a, .int .u64 b] 41) = w1 at hb00 hx ⊢
    obtain ⟨x0, x1, x2, x3, x4⟩ := V2.mk hx.c0 hx.c1 hx.f0 hx.f1 hx.lt
    go_upto_region 4 with (first
      | (go_at_call 142; refine (HG.out _).mono ?_; rintro e w2 ⟨rfl, hb2⟩; replace hb00 := bl_call hb00 (Nat.le_refl _) hb2; replace hx := hx.call hb2))
    clear x0 x1 x2 x3 x4
    have hz := hb00.size
    have hr := Vs.new w2 [.int .u8 (byteN a 0 : Nat), .int .u8 (byteN a 1 : Nat), .int .u8 (byteN a 2 : Nat), .int .u8 (byteN a 3 : Nat), .int .u8 (byteN a 4 : Nat), .int .u8 (byteN a 5 : Nat), .int .u8 (byteN a 6 : Nat), .int .u8 (byteN a 7 : Nat)] #[.int .u8 (byteN a 0 : Nat), .int .u8 (byteN a 1 : Nat), .int .u8 (byteN a 2 : Nat), .int .u8 (byteN a 3 : Nat), .int .u8 (byteN a 4 : Nat), .int .u8 (byteN a 5 : Nat), .int .u8 (byteN a 6 : Nat), .int .u8 (byteN a 7 : Nat)] 160 rfl
    have hbA : Below w2.heap.size w2 (w2.alloc (.cells #[.int .u8 (byteN a 0 : Nat), .int .u8 (byteN a 1 : Nat), .int .u8 (byteN a 2 : Nat), .int .u8 (byteN a 3 : Nat), .int .u8 (byteN a 4 : Nat), .int .u8 (byteN a 5 : Nat), .int .u8 (byteN a 6 : Nat), .int .u8 (byteN a 7 : Nat)] 160)) := by repeat (first | exact Below.refl _ _ | with_reducible assumption | (refine bl_alloc ?_ (Nat.le_refl _) _))
    replace hb00 := bl_call hb00 (Nat.le_refl _) hbA
    replace hx := hx.call hbA
    clear hbA
    generalize w2.alloc (.cells #[.int .u8 (byteN a 0 : Nat), .int .u8 (byteN a 1 : Nat), .int .u8 (byteN a 2 : Nat), .int .u8 (byteN a 3 : Nat), .int .u8 (byteN a 4 : Nat), .int .u8 (byteN a 5 : Nat), .int .u8 (byteN a 6 : Nat), .int .u8 (byteN a 7 : Nat)] 160) = w3 at hb00 hx hr ⊢
    go_wp2_with fail
    go_ret
    exact ⟨_, rfl, by rw [HBK.out]; exact hr, hz, hb00⟩
  · have HG := Lib.hid (fun wz => wide_Bytes a b (by omega) (by have hp : Pm 2 = 340282366920938462946865773367900766209 := rfl; omega) wz)
    rw [if_neg (by decide)] at HBK
    clear h1 hv hlt hv2 hta htb ha hb
    have hb00 : Below w.heap.size w w := Below.refl _ _
    go_enter Try.func128, Try.ntmps128
    go_upto_region 1 with fail
    have hx := V2.new w (.int .u64 a) (.int .u64 b) 41
    have hbA : Below w.heap.size w (w.alloc (.cells #[.int .u64 a, .int .u64 b] 41)) := by repeat (first | exact Below.refl _ _ | with_reducible assumption | (refine bl_alloc ?_ (Nat.le_refl _) _))
    replace hb00 := bl_call hb00 (Nat.le_refl _) hbA
    clear hbA
    generalize w.alloc (.cells #[.int .u64 a, .int .u64 b] 41) = w1 at hb00 hx ⊢
    obtain ⟨x0, x1, x2, x3, x4⟩ := V2.mk hx.c0 hx.c1 hx.f0 hx.f1 hx.lt
    go_upto_region 7 with (first
      | (go_at_call 143; refine (HG.out _).mono ?_; rintro e w2 ⟨rfl, hb2⟩; replace hb00 := bl_call hb00 (Nat.le_refl _) hb2; replace hx := hx.call hb2))
    clear x0 x1 x2 x3 x4
    have hz := hb00.size
    have hr := Vs.new w2 [.int .u8 (byteN a 0 : Nat), .int .u8 (byteN a 1 : Nat), .int .u8 (byteN a 2 : Nat), .int .u8 (byteN a 3 : Nat), .int .u8 (byteN a 4 : Nat), .int .u8 (byteN a 5 : Nat), .int .u8 (byteN a 6 : Nat), .int .u8 (byteN a 7 : Nat), .int .u8 (byteN b 0 : Nat), .int .u8 (byteN b 1 : Nat), .int .u8 (byteN b 2 : Nat), .int .u8 (byteN b 3 : Nat), .int .u8 (byteN b 4 : Nat), .int .u8 (byteN b 5 : Nat), .int .u8 (byteN b 6 : Nat), .int .u8 (byteN b 7 : Nat)] #[.int .u8 (byteN a 0 : Nat), .int .u8 (byteN a 1 : Nat), .int .u8 (byteN a 2 : Nat), .int .u8 (byteN a 3 : Nat), .int .u8 (byteN a 4 : Nat), .int .u8 (byteN a 5 : Nat), .int .u8 (byteN a 6 : Nat), .int .u8 (byteN a 7 : Nat), .int .u8 (byteN b 0 : Nat), .int .u8 (byteN b 1 : Nat), .int .u8 (byteN b 2 : Nat), .int .u8 (byteN b 3 : Nat), .int .u8 (byteN b 4 : Nat), .int .u8 (byteN b 5 : Nat), .int .u8 (byteN b 6 : Nat), .int .u8 (byteN b 7 : Nat)] 162 rfl
    have hbA : Below w2.heap.size w2 (w2.alloc (.cells #[.int .u8 (byteN a 0 : Nat), .int .u8 (byteN a 1 : Nat), .int .u8 (byteN a 2 : Nat), .int .u8 (byteN a 3 : Nat), .int .u8 (byteN a 4 : Nat), .int .u8 (byteN a 5 : Nat), .int .u8 (byteN a 6 : Nat), .int .u8 (byteN a 7 : Nat), .int .u8 (byteN b 0 : Nat), .int .u8 (byteN b 1 : Nat), .int .u8 (byteN b 2 : Nat), .int .u8 (byteN b 3 : Nat), .int .u8 (byteN b 4 : Nat), .int .u8 (byteN b 5 : Nat), .int .u8 (byteN b 6 : Nat), .int .u8 (byteN b 7 : Nat)] 162)) := by repeat (first | exact Below.refl _ _ | with_reducible assumption | (refine bl_alloc ?_ (Nat.le_refl _) _))
    replace hb00 := bl_call hb00 (Nat.le_refl _) hbA
    replace hx := hx.call hbA
    clear hbA
    generalize w2.alloc (.cells #[.int .u8 (byteN a 0 : Nat), .int .u8 (byteN a 1 : Nat), .int .u8 (byteN a 2 : Nat), .int .u8 (byteN a 3 : Nat), .int .u8 (byteN a 4 : Nat), .int .u8 (byteN a 5 : Nat), .int .u8 (byteN a 6 : Nat), .int .u8 (byteN a 7 : Nat), .int .u8 (byteN b 0 : Nat), .int .u8 (byteN b 1 : Nat), .int .u8 (byteN b 2 : Nat), .int .u8 (byteN b 3 : Nat), .int .u8 (byteN b 4 : Nat), .int .u8 (byteN b 5 : Nat), .int .u8 (byteN b 6 : Nat), .int .u8 (byteN b 7 : Nat)] 162) = w3 at hb00 hx hr ⊢
    go_wp2_with fail
    go_ret
    exact ⟨_, rfl, by rw [HBK.out]; exact hr, hz, hb00⟩
end

end Go.Proofs.Ytiphahbeedeebaa

namespace Go.Proofs.Ytiphahbeedeebaa
open Go.RowKit Fm Go.ChangeShapes Go.WideShapes Go.Deep
set_option linter.unusedVariables false
set_option maxRecDepth 100000

theorem cells8_append (xs ys : List Int) : cells8 (xs ++ ys) = cells8 xs ++ cells8 ys := by unfold cells8; rw [List.map_append]

/-- the cells from ⟨b, o⟩ on hold the numbers xs -/
def RowB (w : World) (b o : Nat) (xs : List Int) : Prop := ∀ (i : Nat) (e : Int), xs[i]? = some e → w.cell? ⟨b, o + i, none⟩ = some (.int .u8 e)
theorem infoU8 : (Try.prog.info? 5).map (fun i => (i.zero, i.size, i.bytes)) = some (some (.int .u8 0), 1, 1) := by kernel_rfl

theorem RowB.cells {w : World} {b o : Nat} {xs : List Int} (h : RowB w b o xs) (j : Nat) (u : Value) (hu : (cells8 xs)[j]? = some u) : w.cell? ((⟨b, o, none⟩ : Addr).add j) = some u := by
  have ha : (⟨b, o, none⟩ : Addr).add j = ⟨b, o + j, none⟩ := by
    unfold Addr.add
    split <;> simp_all
  rw [ha]
  unfold cells8 at hu
  rw [List.getElem?_map] at hu
  cases hx : xs[j]? with
  | none => rw [hx] at hu; cases hu
  | some e =>
    rw [hx] at hu
    injection hu with hu
    subst hu
    exact h j e hx

theorem oneCell_cells8 (xs : List Int) : ∀ u, u ∈ cells8 xs → u.oneCell' = true := by
  intro u h
  unfold cells8 at h
  rw [List.mem_map] at h
  obtain ⟨e, _, rfl⟩ := h
  rfl

theorem run_append_B (w : World) (base : Nat) (ty : TypeId) (v : Value) (n : Nat) (xs : List Int) (hown : w.ownsRow base 5 1 v n (cells8 xs)) (A : Option Addr) (m c : Nat) (ys : List Int)
    (hm : ys.length = m) (hy : 0 < m → ∃ b o, A = some ⟨b, o, none⟩ ∧ RowB w b o ys) (hbound : n + m ≤ 1099511627776) (hbase : base ≤ w.heap.size) :
    ∃ v' w', (Builtin.append_ #[132, 132] ty #[v, .slice A m c]).run Try.prog w = .ok v' w' ∧ w'.ownsRow base 5 1 v' (n + m) (cells8 (xs ++ ys)) ∧ w.grownBy w' v.ownBlock ∧
      (v'.ownBlock = v.ownBlock ∨ v'.ownBlock = some w.heap.size) := by
  obtain ⟨i, hi, hz, h1, h2⟩ := info_parts infoU8
  rw [cells8_append]
  rcases A with _ | ad
  · have hm0 : m = 0 := by
      rcases Nat.eq_zero_or_pos m with h0 | h0
      · exact h0
      · obtain ⟨b, o, h, _⟩ := hy h0
        cases h
    subst hm0
    obtain rfl : ys = [] := List.eq_nil_of_length_eq_zero hm
    refine ⟨v, w, ?_, by simpa [cells8] using hown, World.grownBy.refl w _, .inl rfl⟩
    rcases hown.2 with ⟨rfl, rfl⟩ | ⟨g, cap, cur, rfl, _, _, hnc, _⟩
    · simp [Builtin.append_, run_underlying Try.underlying132, sizeOf, typeInfo, hi, Builtin.lenOf, Builtin.firstCells]
    · simp [Builtin.append_, run_underlying Try.underlying132, sizeOf, typeInfo, hi, Builtin.lenOf, Builtin.firstCells, hnc, storeCells]
  · have hcells : ∀ j u, (cells8 ys)[j]? = some u → w.cell? (ad.add j) = some u := by
      intro j u hu
      rcases Nat.eq_zero_or_pos m with h0 | h0
      · subst h0
        obtain rfl : ys = [] := List.eq_nil_of_length_eq_zero hm
        simp [cells8] at hu
      · obtain ⟨b, o, h, hr⟩ := hy h0
        injection h with h
        subst h
        exact hr.cells j u hu
    obtain ⟨v', w', hrun, h3, h4, _, h5⟩ := run_append_own_at (P := Try.prog) w base 132 ty 5 i _ 1 1 Try.underlying132 hi hz h1 h2 rfl (by omega) v n _ hown ad m c (cells8 ys)
      (by rw [cells8_length, hm, Nat.mul_one]) hcells (oneCell_cells8 ys) (by unfold maxLen; omega) (by omega) hbase
    exact ⟨v', w', hrun, h3, h4, h5⟩

theorem wpList_append_B {w : World} {ops : Array Oper} {rest : List Oper} {o : Oper} {a : Act} {Q : Exit → Act → World → Prop} (hgd : o.guard = none) (s x : Operand)
    (ho : o.op = .call { callee := .builtin .append, args := #[s, x], argTypes := #[132, 132] })
    (base : Nat) (v : Value) (n : Nat) (xs : List Int) (hs : a.eval s = v) (hown : w.ownsRow base 5 1 v n (cells8 xs)) (A : Option Addr) (m c : Nat) (ys : List Int) (hx : a.eval x = .slice A m c)
    (hm : ys.length = m) (hy : 0 < m → ∃ b o, A = some ⟨b, o, none⟩ ∧ RowB w b o ys) (hbound : n + m ≤ 1099511627776) (hbase : base ≤ w.heap.size)
    (h : ∀ v' w', w'.ownsRow base 5 1 v' (n + m) (cells8 (xs ++ ys)) → w.grownBy w' v.ownBlock → (v'.ownBlock = v.ownBlock ∨ v'.ownBlock = some w.heap.size) → wpList Try.prog ops Q rest (a.put o.dst v') w') : wpList Try.prog ops Q (o :: rest) a w := by
  obtain ⟨v', w', hrun, h2, h3, h4⟩ := run_append_B w base o.type v n xs hown A m c ys hm hy hbound hbase
  refine wpList_plain hgd fun K hK => ?_
  unfold Oper.wp execOp
  simp only [ho, resolve, invoke, builtin, Sem.run_bind, Sem.run_pure, Result.andThen_ok, List.map_toArray, List.map_cons, List.map_nil, hs, hx, hrun]
  exact hK _ _ (h v' w' h2 h3 h4)


theorem cell_own {w : World} {base g n cap : Nat} {xs : List Int} (h : w.ownsRow base 5 1 (.slice (some ⟨g, 0, none⟩) n cap) n (cells8 xs)) (i : Nat) (e : Int) (hi : xs[i]? = some e) : w.cell? ⟨g, i, none⟩ = some (.int .u8 e) := by
  have f1 := h.cells (g := g) rfl i _ (cells8_at hi)
  have ha : (⟨g, 0, none⟩ : Addr).add i = ⟨g, 0 + i, none⟩ := by
    unfold Addr.add
    split <;> simp_all
  rwa [ha, Nat.zero_add] at f1

/-- bytes come back, and make that string -/
def RetStr (bs : List Int) (w : World) (e : Ending) (w' : World) : Prop :=
  ∃ (A : Option Addr) (n cp : Nat), e = .returned (.slice A n cp) ∧ (∀ wz, Below w'.heap.size w' wz → (convert 132 9 (.slice A n cp)).run Try.prog wz = .ok (.string (strOfNums bs)) wz) ∧ Below w.heap.size w w'

theorem str_own {w : World} {base n : Nat} {A : Option Addr} {cp : Nat} {xs : List Int} (h : w.ownsRow base 5 1 (.slice A n cp) n (cells8 xs)) (hn : xs.length = n) :
    ∀ wz, Below w.heap.size w wz → (convert 132 9 (.slice A n cp)).run Try.prog wz = .ok (.string (strOfNums xs)) wz := by
  intro wz hb
  rcases h.2 with ⟨hv, h0⟩ | ⟨g, cap, cur, hv, h1, h2, h3⟩
  · injection hv with e1 e2 e3
    subst e1
    obtain rfl : xs = [] := List.eq_nil_of_length_eq_zero (by omega)
    exact run_convert_bytes_nil wz _ 5 Try.underlying132 Try.underlying5 _ _ _ Try.underlying9
  · injection hv with e1 e2 e3
    subst e1
    have hlt : g < w.heap.size := (Array.getElem?_eq_some_iff.1 h2).1
    refine run_convert_bytes_arg wz _ 5 Try.underlying132 Try.underlying5 g 0 n cp xs hn (fun i hi => ?_) _ Try.underlying9
    have hx : xs[i]? = some (xs.getD i 0) := by
      rw [List.getD_eq_getElem?_getD, List.getElem?_eq_getElem (by omega)]
      rfl
    rw [Nat.zero_add]
    exact (hb.cell (p := ⟨g, i, none⟩) hlt).trans (cell_own h i _ hx)

section
variable {f : Nat} (hf : IsF f)
include hf

set_option maxHeartbeats 4000000 in
theorem field_Vec (vl : Value) (l : KL f) (w : World) (hl : SlK w w.heap.size vl l) (hn : l.length ≤ 1000000) :
    Calls Try.prog 107 #[.int .u8 f, vl] w (RetStr (vecB l) w) := by
  obtain ⟨A, c, rfl, hc, hcm, hA⟩ := hl
  have HBY := Lib.hid (fun (x : Fin (Pm f)) wz => field_Bytes hf x wz)
  have hfb0 : (1 : Int) ≤ (f : Int) := by rcases hf.or with rfl | rfl <;> omega
  have hfb1 : (f : Int) ≤ 2 := by rcases hf.or with rfl | rfl <;> omega
  have hsk : sizeK f ≤ 16 ∧ 1 ≤ sizeK f := by unfold sizeK; split <;> omega
  obtain ⟨S, hS⟩ : ∃ S, sizeK f = S := ⟨_, rfl⟩
  rw [hS] at HBY hsk
  have HS := Lib.hid hS
  clear hS
  go_enter Try.func107, Try.ntmps107
  go_wp2_with fail
  go_loopw [5, 10] (fun v5 i wr => ∃ (k : Nat) (A' : Option Addr) (m cp : Nat), k ≤ l.length ∧ i = .int .i64 k ∧ v5 = .slice A' m cp ∧ m ≤ 16 * k ∧ Hid ((vecB (l.take k)).length = m) ∧ wr.ownsRow w.heap.size 5 1 (.slice A' m cp) m (cells8 (vecB (l.take k))) ∧ Below w.heap.size w wr) (fun _ i _ => l.length - (intOf i).toNat)
  case atStart => exact ⟨0, none, 0, 0, Nat.zero_le _, rfl, rfl, by omega, (by rw [List.take_zero]; rfl : (vecB (l.take 0)).length = 0), World.ownsRow_nil _ _ _ _, Below.refl _ _⟩
  case round =>
    obtain ⟨k, A', m, cp, hk, rfl, rfl, hm, hml, hown, hbw⟩ := hrel
    by_cases hlt : k < l.length
    · obtain ⟨b, o, rfl, hB, hr⟩ := hA (by omega)
      obtain ⟨x, he⟩ : ∃ e, l[k]? = some e := ⟨_, List.getElem?_eq_getElem hlt⟩
      obtain ⟨d0, d1⟩ := (hr.below hbw hB).kat he
      have HV : Hid (vecB (l.take (k + 1)) = vecB (l.take k) ++ bytesK x) := by
        show vecB (l.take (k + 1)) = _
        unfold vecB
        rw [List.take_add_one, he, List.flatMap_append]
        simp
      have HXL : Hid ((bytesK x).length = S) := by show (bytesK x).length = S; rw [bytesK_length, HS.out]
      clear he hr hA
      go_upto_region 5 with fail
      have hz := hbw.size
      have hx := V2.new wr (.int .u64 (lo x)) (.int .u64 (hi x)) 41
      have hbA : Below wr.heap.size wr (wr.alloc (.cells #[.int .u64 (lo x), .int .u64 (hi x)] 41)) := by repeat (first | exact Below.refl _ _ | with_reducible assumption | (refine bl_alloc ?_ (Nat.le_refl _) _))
      replace hbw := bl_call hbw (Nat.le_refl _) hbA
      replace hown := own_call hown hbA
      clear hbA
      generalize wr.alloc (.cells #[.int .u64 (lo x), .int .u64 (hi x)] 41) = w4 at hbw hown hx ⊢
      obtain ⟨x0, x1, x2, x3, x4⟩ := V2.mk hx.c0 hx.c1 hx.f0 hx.f1 hx.lt
      generalize vecB (l.take k) = zs at *
      have hz4 := hbw.size
      go_wp2_with (first
        | (go_at_call 128; refine (HBY.out x _).mono ?_; rintro e w5 ⟨g, rfl, hg, hgl, hb5⟩; have hbw5 := bl_call hbw (Nat.le_refl _) hb5; have HOW := Lib.hid (own_call hown hb5); have hbase : w.heap.size ≤ w5.heap.size := hbw5.size; have HR1 : Hid (0 < S → ∃ b o, (some ⟨g, 0, none⟩ : Option Addr) = some ⟨b, o, none⟩ ∧ RowB w5 b o (bytesK x)) := (fun _ => ⟨g, 0, rfl, fun i e hi => by rw [Nat.zero_add]; exact hg.cell i _ (cells8_at hi)⟩); have hk1 : m + S ≤ 1099511627776 := by omega)
        | (at_builtin; (refine wpList_append_B rfl (.tmp 14) (.tmp 17) rfl w.heap.size _ m zs rfl HOW.out (some ⟨g, 0, none⟩) S S (bytesK x) rfl HXL.out HR1.out hk1 hbase ?_; intro v2 w7 hown7 hg7 hat7; have hb7 : Below w.heap.size w5 w7 := (Below.refl _ _).grown hg7 hbase (fun q hq => (HOW.out.lt q hq).1); obtain ⟨g2, cap2, hv2⟩ := own_shape hown7; rw [hv2])))
      rw [hv2, ← HV.out] at hown7
      go_roundw
      case rel => exact ⟨k + 1, _, m + S, cap2, by omega, by go_num, rfl, by omega, (by rw [HV.out, List.length_append, HXL.out, hml.out] : (vecB (l.take (k + 1))).length = m + S), hown7, hbw5.trans hb7⟩
      case measure => simp [intOf]; omega
    · obtain rfl : k = l.length := by omega
      rw [List.take_length] at hml hown
      go_wp2_with fail
      go_ret
      exact ⟨_, _, _, rfl, str_own hown hml.out, hbw⟩
omit hf in
theorem zip_esK (op : Int → Int → Int) (ok : Fin (Pm f) → Fin (Pm f) → Fin (Pm f)) (h : ∀ x y : Int, kI (Pm f) (op x y) = ok (kI (Pm f) x) (kI (Pm f) y)) (m : Int) (hm : m = (Pm f : Int)) :
    ∀ (a b : KL f), zipO op f m (esK a) (esK b) = esK (List.zipWith ok a b)
  | [], _ => rfl
  | _ :: _, [] => rfl
  | x :: a, y :: b => by
    have ih := zip_esK op ok h m hm a b
    unfold zipO at ih ⊢
    rw [esK_cons, esK_cons, List.zipWith_cons_cons, List.zipWith_cons_cons, esK_cons, ih]
    congr 1
    have h1 : nI (f : Int) (eK x).1 (eK x).2 = nI (f : Int) (lo x) (hi x) := rfl
    have h2 : nI (f : Int) (eK y).1 (eK y).2 = nI (f : Int) (lo y) (hi y) := rfl
    rw [h1, h2, hm, ← eK_kI, h, kI_nI, kI_nI, kL_lohi, kL_lohi]
def addL (a b : KL f) : KL f := List.zipWith (· + ·) a b
def subL (a b : KL f) : KL f := List.zipWith (· - ·) a b
omit hf in
theorem zip_addL (a b : KL f) : zipO (· + ·) f (Pm f : Int) (esK a) (esK b) = esK (addL a b) := zip_esK _ _ (fun x y => kI_add x y) _ rfl a b
omit hf in
theorem zip_subL (a b : KL f) : zipO (· - ·) f (Pm f : Int) (esK a) (esK b) = esK (subL a b) := zip_esK _ _ (fun x y => kI_sub x y) _ rfl a b
omit hf in
theorem addL_length (a b : KL f) (h : a.length = b.length) : (addL a b).length = a.length := by unfold addL; rw [List.length_zipWith]; omega
omit hf in
theorem subL_length (a b : KL f) (h : a.length = b.length) : (subL a b).length = a.length := by unfold subL; rw [List.length_zipWith]; omega
omit hf in
theorem allIn_esK (l : KL f) : AllIn ((Pm f : Nat) : Int) (esK l) := by
  intro e he
  unfold esK at he
  obtain ⟨x, _, rfl⟩ := List.mem_map.1 he
  have h1 := val_lohi x
  have h2 := x.isLt
  show lo x + 18446744073709551616 * hi x < _
  omega

/-- a new slice of elements and no error come back -/
def RetSK (zs : KL f) (w : World) (e : Ending) (w' : World) : Prop :=
  ∃ g, e = .returned (.tuple #[.slice (some ⟨g, 0, none⟩) zs.length zs.length, .int .i64 0]) ∧ BlkE w' g (esK zs) ∧ w.heap.size ≤ g ∧ Below w.heap.size w w'

theorem field_AddVecK (va vb : Value) (a b : KL f) (w : World) (ha : SlK w w.heap.size va a) (hb : SlK w w.heap.size vb b) (hl : a.length = b.length) (hn : a.length ≤ 1000000) :
    Calls Try.prog 24 #[.int .u8 f, va, vb] w (RetSK (addL a b) w) :=
  (field_AddVec f _ (FM.ofN hf) va vb (esK a) (esK b) w ha.toE hb.toE (by rw [esK_length, esK_length, hl]) (by rw [esK_length]; omega)).mono fun e w' ⟨g, he, hB, h1, h2⟩ => by
    rw [zip_addL] at he hB
    exact ⟨g, by rw [← esK_length]; exact he, hB, h1, h2⟩
theorem field_SubVecK (va vb : Value) (a b : KL f) (w : World) (ha : SlK w w.heap.size va a) (hb : SlK w w.heap.size vb b) (hl : a.length = b.length) (hn : a.length ≤ 1000000) :
    Calls Try.prog 51 #[.int .u8 f, va, vb] w (RetSK (subL a b) w) :=
  (field_SubVec f _ (FM.ofN hf) va vb (esK a) (esK b) w ha.toE hb.toE (by rw [esK_length, esK_length, hl]) (by rw [esK_length]; omega)).mono fun e w' ⟨g, he, hB, h1, h2⟩ => by
    rw [zip_subL] at he hB
    exact ⟨g, by rw [← esK_length]; exact he, hB, h1, h2⟩
theorem tape_RetapeK (va vo vb : Value) (a o b : KL f) (w : World) (ha : SlK w w.heap.size va a) (ho : SlK w w.heap.size vo o) (hb : SlK w w.heap.size vb b) (hl : a.length = b.length) (hl2 : o.length = b.length) (hn : a.length ≤ 1000000) :
    Calls Try.prog 22 #[.int .u8 f, va, vo, vb] w (RetSK (subL o (subL a b)) w) :=
  (tape_Retape f _ (FM.ofN hf) va vo vb (esK a) (esK o) (esK b) w ha.toE ho.toE hb.toE (by rw [esK_length, esK_length, hl]) (by rw [esK_length, esK_length, hl2]) (by rw [esK_length]; omega) (allIn_esK a) (allIn_esK o) (allIn_esK b)).mono fun e w' ⟨g, he, hB, h1, h2⟩ => by
    rw [zip_subL, zip_subL] at he hB
    exact ⟨g, by rw [← esK_length]; exact he, hB, h1, h2⟩
theorem tape_SplitK (va vb : Value) (a b : KL f) (w : World) (ha : SlK w w.heap.size va a) (hb : SlK w w.heap.size vb b) (hl : a.length = b.length) (hn : a.length ≤ 1000000) :
    Calls Try.prog 21 #[.int .u8 f, va, vb] w fun e w' => ∃ u v : Value, e = .returned (.tuple #[.agg #[u, v], .int .i64 0]) ∧ SlK w' w'.heap.size u (subL a b) ∧ SlK w' w'.heap.size v b ∧ Below w.heap.size w w' :=
  (tape_Split f _ (FM.ofN hf) va vb (esK a) (esK b) w ha.toE hb.toE (by rw [esK_length, esK_length, hl]) (by rw [esK_length]; omega) (allIn_esK a) (allIn_esK b)).mono fun e w' ⟨u, v, he, hu, hv, hb2⟩ => by
    rw [zip_subL] at hu
    exact ⟨u, v, he, hu.toK, hv.toK, hb2⟩

/-- what Swap answers: by both sums, and what is drawn anew -/
def RetSw (s1 s2 r1 r2 : KL f) (w : World) (e : Ending) (w' : World) : Prop :=
  (s1 = s2 ∧ ∃ u v : Value, e = .returned (.tuple #[u, v, .int .i64 0]) ∧ SlK w' w'.heap.size u r1 ∧ SlK w' w'.heap.size v r2 ∧ Below w.heap.size w w') ∨ (s1 ≠ s2 ∧ RetNil2 31 w e w')

set_option maxHeartbeats 8000000 in
theorem tape_Swap (y : CK) (hy : y.ok) (hcalls : ¬ 511 < y.calls) (va vb vc vd ve vf : Value) (a b oa ob p q : KL f) (n : Nat) (w : World) (ha : SlK w w.heap.size va a) (hb : SlK w w.heap.size vb b) (hoa : SlK w w.heap.size vc oa) (hob : SlK w w.heap.size vd ob)
    (hp : SlK w w.heap.size ve p) (hq : SlK w w.heap.size vf q) (la : a.length = n) (lb : b.length = n) (loa : oa.length = n) (lob : ob.length = n) (lp : p.length = n) (lq : q.length = n) (hn : n ≤ 1000000) :
    Calls Try.prog 54 #[y.val f, va, vb, vc, vd, ve, vf] w (RetSw (addL a b) (addL oa ob) (subL oa (subL a p)) (subL ob (subL b q)) w) := by
  have HC : Hid (∀ wz, Calls Try.prog 59 #[y.val f] wz (RetC 0 wz)) := by
    intro wz
    have h := circuit_Check_ok hf y hy wz
    rwa [CK.code_ok hcalls] at h
  have H1 := Lib.hid (fun wz (hb9 : Below w.heap.size w wz) => field_AddVecK hf va vb a b wz (ha.later hb9) (hb.later hb9) (by omega) (by omega))
  have H2 := Lib.hid (fun wz (hb9 : Below w.heap.size w wz) => field_AddVecK hf vc vd oa ob wz (hoa.later hb9) (hob.later hb9) (by omega) (by omega))
  have H3 := Lib.hid (fun wz (hb9 : Below w.heap.size w wz) => tape_RetapeK hf va vc ve a oa p wz (ha.later hb9) (hoa.later hb9) (hp.later hb9) (by omega) (by omega) (by omega))
  have H4 := Lib.hid (fun wz (hb9 : Below w.heap.size w wz) => tape_RetapeK hf vb vd vf b ob q wz (hb.later hb9) (hob.later hb9) (hq.later hb9) (by omega) (by omega) (by omega))
  have hs1 : (addL a b).length = n := by rw [addL_length a b (by omega), la]
  have hs2 : (addL oa ob).length = n := by rw [addL_length oa ob (by omega), loa]
  have hr1 : (subL oa (subL a p)).length = n := by rw [subL_length oa _ (by rw [subL_length a p (by omega)]; omega), loa]
  have hr2 : (subL ob (subL b q)).length = n := by rw [subL_length ob _ (by rw [subL_length b q (by omega)]; omega), lob]
  unfold CK.val at HC ⊢
  obtain ⟨A1, c1, rfl, _⟩ := ha
  obtain ⟨A2, c2, rfl, _⟩ := hb
  obtain ⟨A3, c3, rfl, _⟩ := hoa
  obtain ⟨A4, c4, rfl, _⟩ := hob
  obtain ⟨A5, c5, rfl, _⟩ := hp
  obtain ⟨A6, c6, rfl, _⟩ := hq
  obtain ⟨s1, hs1e⟩ : ∃ s, addL a b = s := ⟨_, rfl⟩
  obtain ⟨s2, hs2e⟩ : ∃ s, addL oa ob = s := ⟨_, rfl⟩
  obtain ⟨r1, hr1e⟩ : ∃ s, subL oa (subL a p) = s := ⟨_, rfl⟩
  obtain ⟨r2, hr2e⟩ : ∃ s, subL ob (subL b q) = s := ⟨_, rfl⟩
  rw [hs1e] at H1 hs1
  rw [hs2e] at H2 hs2
  rw [hr1e] at H3 hr1
  rw [hr2e] at H4 hr2
  rw [hs1e, hs2e, hr1e, hr2e]
  clear hs1e hs2e hr1e hr2e
  generalize ((y.k : Nat) : Int) = yk at *
  generalize ((y.b : Nat) : Int) = yb at *
  generalize ((y.l : Nat) : Int) = yl at *
  generalize ((y.m : Nat) : Int) = ym at *
  generalize ((y.c : Nat) : Int) = yc at *
  rw [la, lb, loa, lob, lp, lq] at *
  have HS1 := Lib.hid hs1
  have HS2 := Lib.hid hs2
  have HR1 := Lib.hid hr1
  have HR2 := Lib.hid hr2
  have hfb0 : (1 : Int) ≤ (f : Int) := by rcases hf.or with rfl | rfl <;> omega
  have hfb1 : (f : Int) ≤ 2 := by rcases hf.or with rfl | rfl <;> omega
  clear hcalls hy la lb loa lob lp lq hs1 hs2 hr1 hr2
  have hb00 : Below w.heap.size w w := Below.refl _ _
  have HN : Hid (s1 = s2 ∨ (s1 ≠ s2 ∧ ((strOfNums (vecB s1)).toList == (strOfNums (vecB s2)).toList) = false)) := by
    by_cases h : s1 = s2
    · exact .inl h
    · exact .inr ⟨h, by rw [beq_eq_false_iff_ne]; exact fun e => h (vec_str_inj hf (by rw [HS1.out, HS2.out]) (Go.WideShapes.bytes_inj (by rw [← ByteArray.toList_eq, ← ByteArray.toList_eq, e])))⟩
  go_enter Try.func54, Try.ntmps54
  go_upto_region 1 with fail
  have hx := Vs.new w [.int .u8 yk, .int .u8 f, .int .i64 yb, .int .i64 yl, .int .i64 ym, .int .i64 yc] #[.int .u8 yk, .int .u8 f, .int .i64 yb, .int .i64 yl, .int .i64 ym, .int .i64 yc] 60 rfl
  have hbA : Below w.heap.size w (w.alloc (.cells #[.int .u8 yk, .int .u8 f, .int .i64 yb, .int .i64 yl, .int .i64 ym, .int .i64 yc] 60)) := by repeat (first | exact Below.refl _ _ | with_reducible assumption | (refine bl_alloc ?_ (Nat.le_refl _) _))
  replace hb00 := bl_call hb00 (Nat.le_refl _) hbA
  clear hbA
  generalize w.alloc (.cells #[.int .u8 yk, .int .u8 f, .int .i64 yb, .int .i64 yl, .int .i64 ym, .int .i64 yc] 60) = w1 at hb00 hx ⊢
  obtain ⟨⟨x0, x1, x2, x3, x4, x5⟩, ⟨x6, x7, x8, x9, x10, x11⟩, x12⟩ := hx.get6
  go_upto_region 5 with (first
    | (go_at_call 59; refine (HC.out _).mono ?_; rintro e w2 ⟨rfl, hb2⟩; replace hb00 := bl_call hb00 (Nat.le_refl _) hb2; replace hx := hx.call hb2; clear x0 x1 x2 x3 x4 x5 x6 x7 x8 x9 x10 x11 x12; clear hb2; obtain ⟨⟨x0, x1, x2, x3, x4, x5⟩, ⟨x6, x7, x8, x9, x10, x11⟩, x12⟩ := hx.get6))
  clear x0 x1 x2 x3 x4 x5 x6 x7 x8 x9 x10 x11 x12
  go_wp2_with fail
  refine (H1.out _ hb00).mono ?_
  rintro e w3 ⟨g1, rfl, hB1, hg1, hb3⟩
  rw [HS1.out]
  replace hb00 := bl_call hb00 (Nat.le_refl _) hb3
  replace hx := hx.call hb3
  clear hb3
  go_wp2_with fail
  refine (H2.out _ hb00).mono ?_
  rintro e w4 ⟨g2, rfl, hB2, hg2, hb4⟩
  rw [HS2.out]
  replace hb00 := bl_call hb00 (Nat.le_refl _) hb4
  replace hx := hx.call hb4
  replace hB1 := hB1.call hb4
  clear hb4
  have hv1 : SlK w4 w4.heap.size (.slice (some ⟨g1, 0, none⟩) n n) s1 := by
    have h := hB1.slK (by rw [HS1.out]; omega) hB1.lt
    rwa [HS1.out] at h
  have hv2 : SlK w4 w4.heap.size (.slice (some ⟨g2, 0, none⟩) n n) s2 := by
    have h := hB2.slK (by rw [HS2.out]; omega) hB2.lt
    rwa [HS2.out] at h
  have hl1 : s1.length ≤ 1000000 := by rw [HS1.out]; exact hn
  have hl2 : s2.length ≤ 1000000 := by rw [HS2.out]; exact hn
  clear hB1 hB2
  go_upto_region 11 with fail
  refine region_G (n := 8) (m := 9) (f := 8) (by kernel_rfl) (by kernel_rfl) rfl ?_
  refine WpG.takeD 0 (some 51) (v := ?_) rfl rfl (by kernel_rfl) (fun _ _ _ h => h) (.val rfl (fun wz hwz => ?_)) ?_
  rotate_left
  · go_simp; try (with_reducible rfl)
  (simp only [Act.put]); (try simp only [List.setIfInBounds_toArray]); (try simp only [List.set_cons_succ]); (try simp only [List.set_cons_zero])
  refine WpG.takeD 1 (some 52) (v := ?_) rfl rfl (by kernel_rfl) (fun _ _ _ h => h) (.val rfl (fun wz hwz => ?_)) ?_
  rotate_left
  · go_simp; try (with_reducible rfl)
  (simp only [Act.put]); (try simp only [List.setIfInBounds_toArray]); (try simp only [List.set_cons_succ]); (try simp only [List.set_cons_zero])
  refine WpG.takeD 4 (some 55) (v := ?_) rfl rfl (by kernel_rfl) (fun _ _ _ h => h) (.val rfl (fun wz hwz => ?_)) ?_
  rotate_left
  · go_simp; try (with_reducible rfl)
  (simp only [Act.put]); (try simp only [List.setIfInBounds_toArray]); (try simp only [List.set_cons_succ]); (try simp only [List.set_cons_zero])
  refine WpG.takeD 5 (some 56) (v := ?_) rfl rfl (by kernel_rfl) (fun _ _ _ h => h) (.val rfl (fun wz hwz => ?_)) ?_
  rotate_left
  · go_simp; try (with_reducible rfl)
  (simp only [Act.put]); (try simp only [List.setIfInBounds_toArray]); (try simp only [List.set_cons_succ]); (try simp only [List.set_cons_zero])
  refine WpG.oneD 2 (some 53) rfl rfl (by kernel_rfl) (fun x : Option Addr × Nat × Nat => Value.slice x.1 x.2.1 x.2.2) (fun x wz => ∀ wy, Below wz.heap.size wz wy → (convert 132 9 (.slice x.1 x.2.1 x.2.2)).run Try.prog wy = .ok (.string (strOfNums (vecB s1))) wy) (fun _ _ _ h hb wy hb2 => h wy (hb.trans (hb2.mono hb.size))) (Fresh.call rfl (fun wz hwz => (field_Vec hf _ s1 wz (hv1.later (hwz)) hl1).mono fun e w' ⟨A, n, cp, he, hc, hb⟩ => ⟨(A, n, cp), he, hc, hb⟩) (fun wz hwz => by go_simp; try (with_reducible rfl))) (fun xa w0 hw0 hR0 => ?_)
  (simp only [Act.put]); (try simp only [List.setIfInBounds_toArray]); (try simp only [List.set_cons_succ]); (try simp only [List.set_cons_zero])
  refine WpG.takeD 3 (some 54) (v := ?_) rfl rfl (by kernel_rfl) (fun _ _ _ h => h) (.val rfl (fun wz hwz => ?_)) ?_
  rotate_left
  · (obtain ⟨hcz, hfz⟩ := bcell (hwz.1); have hcv := hwz.2 wz (Below.refl _ _); go_simp; try (with_reducible rfl))
  (simp only [Act.put]); (try simp only [List.setIfInBounds_toArray]); (try simp only [List.set_cons_succ]); (try simp only [List.set_cons_zero])
  refine WpG.oneD 6 (some 57) rfl rfl (by kernel_rfl) (fun x : Option Addr × Nat × Nat => Value.slice x.1 x.2.1 x.2.2) (fun x wz => ∀ wy, Below wz.heap.size wz wy → (convert 132 9 (.slice x.1 x.2.1 x.2.2)).run Try.prog wy = .ok (.string (strOfNums (vecB s2))) wy) (fun _ _ _ h hb wy hb2 => h wy (hb.trans (hb2.mono hb.size))) (Fresh.call rfl (fun wz hwz => (field_Vec hf _ s2 wz (hv2.later (hwz.1)) hl2).mono fun e w' ⟨A, n, cp, he, hc, hb⟩ => ⟨(A, n, cp), he, hc, hb⟩) (fun wz hwz => by go_simp; try (with_reducible rfl))) (fun xb w0' hw0' hR0' => ?_)
  (simp only [Act.put]); (try simp only [List.setIfInBounds_toArray]); (try simp only [List.set_cons_succ]); (try simp only [List.set_cons_zero])
  refine WpG.takeD 7 (some 58) (v := ?_) rfl rfl (by kernel_rfl) (fun _ _ _ h => h) (.val rfl (fun wz hwz => ?_)) ?_
  rotate_left
  · (obtain ⟨hcz, hfz⟩ := bcell (hwz.1.1); have hcv := hwz.2 wz (Below.refl _ _); go_simp; try (with_reducible rfl))
  (simp only [Act.put]); (try simp only [List.setIfInBounds_toArray]); (try simp only [List.set_cons_succ]); (try simp only [List.set_cons_zero])
  refine WpG.done (by kernel_rfl) (fun w5 hS => ?_)
  (try simp only [List.drop_succ_cons]); (try simp only [List.drop_zero]); (try simp only [Nat.reduceSub]); (try simp only [List.take_succ_cons]); (try simp only [List.take_zero])
  all_goals
    replace hb00 := bl_call hb00 (Nat.le_refl _) hS.1.1
    rcases HN.out with h | ⟨hne, hstr⟩
    · subst h
      go_wp2_with fail
      refine (H3.out _ hb00).mono ?_
      rintro e w6 ⟨g3, rfl, hB3, hg3, hb6⟩
      rw [HR1.out]
      replace hb00 := bl_call hb00 (Nat.le_refl _) hb6
      clear hb6
      go_wp2_with fail
      refine (H4.out _ hb00).mono ?_
      rintro e w7 ⟨g4, rfl, hB4, hg4, hb7⟩
      rw [HR2.out]
      replace hb00 := bl_call hb00 (Nat.le_refl _) hb7
      replace hB3 := hB3.call hb7
      clear hb7
      go_wp2_with fail
      go_ret3
      refine .inl ⟨rfl, _, _, rfl, ?_, ?_, hb00⟩
      · have h := hB3.slK (by rw [HR1.out]; omega) hB3.lt
        rwa [HR1.out] at h
      · have h := hB4.slK (by rw [HR2.out]; omega) hB4.lt
        rwa [HR2.out] at h
    · go_wp2_with fail
      go_ret3
      exact .inr ⟨hne, rfl, hb00⟩
end

end Go.Proofs.Ytiphahbeedeebaa
