/-
  PfU, PfS, RRuns, PfFp, PfBd, PfDe, PfFg: for ProofForged.
-/
import Derived.Test.YtfbfbijkkbflkaaGreatDoorPab
namespace Go.Proofs.YtfbfbijkkbflkaaGreatDoor
open Go.RowKit Fm
set_option linter.unusedVariables false
set_option maxRecDepth 100000

theorem any_pow {f L : Nat} (hL : L ≤ 10) (x : Fin (Pm f)) : (pows (rootK f L) (2 ^ L)).any (fun p => decide (p = x)) = decide (Fm.kpow x (2 ^ L) = 1) := by
  have hr := rt_root f L (by omega)
  rw [Bool.eq_iff_iff, List.any_eq_true, decide_eq_true_iff]
  constructor
  · rintro ⟨p, hp, he⟩
    obtain rfl : p = x := by simpa using he
    unfold pows ofF at hp
    obtain ⟨k, _, rfl⟩ := List.mem_map.1 hp
    rw [← Fm.kpow_mul, Nat.mul_comm, Fm.kpow_mul, hr.one, one_kpow]
  · intro h
    obtain ⟨k, hk, rfl⟩ := Rt.only hr (by omega) h
    exact ⟨_, List.mem_of_getElem? (pows_get _ _ _ hk), by simp⟩

end Go.Proofs.YtfbfbijkkbflkaaGreatDoor

namespace Go.Proofs.YtfbfbijkkbflkaaGreatDoor
open Go.RowKit Fm
set_option linter.unusedVariables false
set_option maxRecDepth 100000

section
variable {f : Nat} (hf : IsF f)
include hf

set_option maxHeartbeats 8000000 in
theorem law11_someA (y : CK) (n s : Nat) (hn2 : n ≤ 2000) (hs10 : s ≤ 10) (vl : Value) (l : List E) (w : World) (hl : SlE w w.heap.size vl l) :
    Calls Tryz.prog 20 #[y.val f, vl, .int .i64 (n : Nat), .int .i64 (s : Nat)] w (RetV f n w) := by
  obtain ⟨⟨A, c, rfl, hlc, hcm, hA⟩, hok⟩ := hl
  have hfb0 : (1 : Int) ≤ (f : Int) := by rcases hf.or with rfl | rfl <;> omega
  have hfb1 : (f : Int) ≤ 2 := by rcases hf.or with rfl | rfl <;> omega
  unfold CK.val
  obtain ⟨K, hK⟩ : ∃ K : Int, ((y.k : Nat) : Int) = K := ⟨_, rfl⟩
  obtain ⟨B, hB⟩ : ∃ K : Int, ((y.b : Nat) : Int) = K := ⟨_, rfl⟩
  obtain ⟨N, hN⟩ : ∃ K : Int, ((y.l : Nat) : Int) = K := ⟨_, rfl⟩
  obtain ⟨M, hM⟩ : ∃ K : Int, ((y.m : Nat) : Int) = K := ⟨_, rfl⟩
  obtain ⟨C, hC⟩ : ∃ K : Int, ((y.c : Nat) : Int) = K := ⟨_, rfl⟩
  rw [hK, hB, hN, hM, hC]
  clear hK hB hN hM hC
  have hmk := make_elem n (by omega)
  have hb00 : Below w.heap.size w w := Below.refl _ _
  go_enter Tryz.func20, Tryz.ntmps20
  go_upto_region 1 with fail
  have hx := Vs.new w [.int .u8 K, .int .u8 f, .int .i64 B, .int .i64 N, .int .i64 M, .int .i64 C] #[.int .u8 K, .int .u8 f, .int .i64 B, .int .i64 N, .int .i64 M, .int .i64 C] 30 rfl
  have hbA : Below w.heap.size w (w.alloc (.cells #[.int .u8 K, .int .u8 f, .int .i64 B, .int .i64 N, .int .i64 M, .int .i64 C] 30)) := by repeat (first | exact Below.refl _ _ | with_reducible assumption | (refine bl_alloc ?_ (Nat.le_refl _) _))
  replace hb00 := bl_call hb00 (Nat.le_refl _) hbA
  clear hbA
  generalize w.alloc (.cells #[.int .u8 K, .int .u8 f, .int .i64 B, .int .i64 N, .int .i64 M, .int .i64 C] 30) = w1 at hb00 hx ⊢
  obtain ⟨⟨x0, x1, x2, x3, x4, x5⟩, ⟨x6, x7, x8, x9, x10, x11⟩, x12⟩ := hx.get6
  go_upto_region 2 with fail
  have hBk : BlkE (w1.alloc (.cells (cellsE (List.replicate n (0, 0))).toArray 36)) w1.heap.size (List.replicate n (0, 0)) := heap_alloc_new w1 _
  have hbA : Below w1.heap.size w1 (w1.alloc (.cells (cellsE (List.replicate n (0, 0))).toArray 36)) := by repeat (first | exact Below.refl _ _ | with_reducible assumption | (refine bl_alloc ?_ (Nat.le_refl _) _) | (refine bl_set ?_ (by dsimp only; omega) _) | (refine Below.drew ?_) | (refine bl_drewN ?_ _) | (refine bl_call ?_ (Nat.le_refl _) (by assumption)))
  have hgx : w.heap.size < w1.heap.size := hx.lt
  clear x0 x1 x2 x3 x4 x5 x6 x7 x8 x9 x10 x11 x12
  replace hb00 := bl_call hb00 (Nat.le_refl _) hbA
  replace hx := hx.call hbA
  clear hbA
  obtain ⟨g, hg⟩ : ∃ g, w1.heap.size = g := ⟨_, rfl⟩
  rw [hg] at hBk hgx ⊢
  generalize w1.alloc (.cells (cellsE (List.replicate n (0, 0))).toArray 36) = w2 at hBk hx hb00 ⊢
  clear hg hmk
  go_wp2_with fail
  go_loopw [15] (fun i wr => ∃ (k : Nat) (zs : KL f), zs.length = k ∧ k ≤ n ∧ i = .int .i64 k ∧ BlkE wr g (esK zs ++ List.replicate (n - k) (0, 0)) ∧ Vs wr w.heap.size [.int .u8 K, .int .u8 f, .int .i64 B, .int .i64 N, .int .i64 M, .int .i64 C] ∧ Below w.heap.size w wr) (fun i _ => n - (intOf i).toNat)
  case atStart => exact ⟨0, [], rfl, Nat.zero_le _, rfl, hBk, hx, hb00⟩
  case round =>
    clear hBk hx hb00
    obtain ⟨k, zs, hzl, hk, rfl, hBk, hx, hbw⟩ := hrel
    obtain ⟨⟨x0, x1, x2, x3, x4, x5⟩, ⟨x6, x7, x8, x9, x10, x11⟩, x12⟩ := hx.get6
    have HZ := Lib.hid hzl
    clear hzl
    by_cases hlt : k < n
    · by_cases hl0 : l.length = 0
      · rw [fill_none zs n k hlt] at hBk
        have HBK := Lib.hid hBk
        clear hBk hA
        go_wp2
        go_roundw
        case rel => exact ⟨k + 1, zs ++ [0], (by rw [List.length_append, HZ.out]; rfl), by omega, by go_num, HBK.out, hx, hbw⟩
        case measure => simp [intOf]; omega
      · obtain ⟨b, o, rfl, hBl, hr⟩ := hA (by omega)
        obtain ⟨q, hq⟩ : ∃ q : Nat, k * s = q := ⟨_, rfl⟩
        have hqb : q ≤ 20000 := by rw [← hq]; exact Nat.le_trans (Nat.mul_le_mul (show k ≤ 2000 by omega) hs10) (by decide)
        have hqi : (k : Int) * (s : Int) = (q : Int) := by rw [← hq]; exact (Int.natCast_mul k s).symm
        obtain ⟨p, hp⟩ : ∃ p : Nat, q + s = p := ⟨_, rfl⟩
        have hw1 : IntKind.i64.wrap (q : Int) = (q : Int) := IntWalk.i64_in _ (by omega)
        have hw2 : IntKind.i64.wrap ((q : Int) + (s : Int)) = (p : Int) := by rw [IntWalk.i64_in _ (by omega)]; omega
        clear hq
        have hjm : p % l.length < l.length := Nat.mod_lt _ (by omega)
        obtain ⟨⟨e0, e1⟩, he⟩ : ∃ e, l[p % l.length]? = some e := ⟨_, List.getElem?_eq_getElem hjm⟩
        obtain ⟨h0, h1, h2, h3⟩ := hok _ (List.mem_of_getElem? he)
        obtain ⟨c0, c1⟩ := (hr.below hbw hBl) _ _ he
        dsimp only at h0 h1 h2 h3 c0 c1
        have hbl : b < wr.heap.size := Nat.lt_of_lt_of_le hBl hbw.size
        have HO := Lib.hid (fun wz => ref_OfL hf e0 e1 wz h0 h1 h2 h3)
        obtain ⟨x, hxx⟩ : ∃ x, kL f e0 e1 = x := ⟨_, rfl⟩
        rw [hxx] at HO
        have hjn : 0 ≤ (p : Int) % (l.length : Int) := Int.emod_nonneg _ (by omega)
        have hjl : (p : Int) % (l.length : Int) < (l.length : Int) := Int.emod_lt_of_pos _ (by omega)
        have hjt : ((p : Int) % (l.length : Int)).toNat = p % l.length := by rw [← Int.natCast_emod, Int.toNat_natCast]
        have hjd : (p : Int).tmod (l.length : Int) = (p : Int) % (l.length : Int) := Int.tmod_eq_emod_of_nonneg (by omega)
        have hgl : g < wr.heap.size := hBk.lt
        have hl9 : ¬ (l.length = 0) := hl0
        have hwf : IntKind.i64.wrap (f : Int) = (f : Int) := IntWalk.i64_in _ (by omega)
        clear he hr hA hxx
        go_upto_region 6 with fail
        refine region_B (n := 18) (m := 19) (f := 18) (by kernel_rfl) (by kernel_rfl) rfl ?_
        refine WpH.takeD 0 (some 21) (v := ?_) rfl rfl (by kernel_rfl) (fun _ _ _ h => h) (.val rfl (fun wz hwz => ?_)) ?_
        rotate_left
        · go_simp; try (with_reducible rfl)
        simp only [Act.put, List.setIfInBounds_toArray, List.set_cons_succ, List.set_cons_zero]
        refine WpH.takeD 1 (some 22) (v := ?_) rfl rfl (by kernel_rfl) (fun _ _ _ h => h) (.val rfl (fun wz hwz => ?_)) ?_
        rotate_left
        · go_simp; try (with_reducible rfl)
        simp only [Act.put, List.setIfInBounds_toArray, List.set_cons_succ, List.set_cons_zero]
        refine WpH.takeD 2 (some 23) (v := ?_) rfl rfl (by kernel_rfl) (fun _ _ _ h => h) (.val rfl (fun wz hwz => ?_)) ?_
        rotate_left
        · go_simp; try (with_reducible rfl)
        simp only [Act.put, List.setIfInBounds_toArray, List.set_cons_succ, List.set_cons_zero]
        refine WpH.takeD 3 (some 24) (v := ?_) rfl rfl (by kernel_rfl) (fun _ _ _ h => h) (.val rfl (fun wz hwz => ?_)) ?_
        rotate_left
        · (obtain ⟨hcz, hfz⟩ := bcell hwz; go_simp; try (with_reducible rfl))
        simp only [Act.put, List.setIfInBounds_toArray, List.set_cons_succ, List.set_cons_zero]
        refine WpH.takeD 4 (some 25) (v := ?_) rfl rfl (by kernel_rfl) (fun _ _ _ h => h) (.val rfl (fun wz hwz => ?_)) ?_
        rotate_left
        · go_simp; try (with_reducible rfl)
        simp only [Act.put, List.setIfInBounds_toArray, List.set_cons_succ, List.set_cons_zero]
        refine WpH.takeD 5 (some 26) (v := ?_) rfl rfl (by kernel_rfl) (fun _ _ _ h => h) (.val rfl (fun wz hwz => ?_)) ?_
        rotate_left
        · go_simp; try (with_reducible rfl)
        simp only [Act.put, List.setIfInBounds_toArray, List.set_cons_succ, List.set_cons_zero]
        refine WpH.takeD 6 (some 27) (v := ?_) rfl rfl (by kernel_rfl) (fun _ _ _ h => h) (.val rfl (fun wz hwz => ?_)) ?_
        rotate_left
        · go_simp; try (with_reducible rfl)
        simp only [Act.put, List.setIfInBounds_toArray, List.set_cons_succ, List.set_cons_zero]
        refine WpH.takeD 7 (some 28) (v := ?_) rfl rfl (by kernel_rfl) (fun _ _ _ h => h) (.val rfl (fun wz hwz => ?_)) ?_
        rotate_left
        · go_simp; try (with_reducible rfl)
        simp only [Act.put, List.setIfInBounds_toArray, List.set_cons_succ, List.set_cons_zero]
        refine WpH.takeD 8 (some 29) (v := ?_) rfl rfl (by kernel_rfl) (fun _ _ _ h => h) (.val rfl (fun wz hwz => ?_)) ?_
        rotate_left
        · go_simp; try (with_reducible rfl)
        simp only [Act.put, List.setIfInBounds_toArray, List.set_cons_succ, List.set_cons_zero]
        refine WpH.takeD 9 (some 30) (v := ?_) rfl rfl (by kernel_rfl) (fun _ _ _ h => h) (.val rfl (fun wz hwz => ?_)) ?_
        rotate_left
        · go_simp; try (with_reducible rfl)
        simp only [Act.put, List.setIfInBounds_toArray, List.set_cons_succ, List.set_cons_zero]
        refine WpH.takeD 10 (some 31) (v := ?_) rfl rfl (by kernel_rfl) (fun _ _ _ h => h) (.val rfl (fun wz hwz => ?_)) ?_
        rotate_left
        · go_simp; try (with_reducible rfl)
        simp only [Act.put, List.setIfInBounds_toArray, List.set_cons_succ, List.set_cons_zero]
        refine WpH.takeD 11 (some 32) (v := ?_) rfl rfl (by kernel_rfl) (fun _ _ _ h => h) (.val rfl (fun wz hwz => ?_)) ?_
        rotate_left
        · go_simp; try (with_reducible rfl)
        simp only [Act.put, List.setIfInBounds_toArray, List.set_cons_succ, List.set_cons_zero]
        refine WpH.takeD 12 (some 33) (v := ?_) rfl rfl (by kernel_rfl) (fun _ _ _ h => h) (.val rfl (fun wz hwz => ?_)) ?_
        rotate_left
        · go_simp; try (with_reducible rfl)
        simp only [Act.put, List.setIfInBounds_toArray, List.set_cons_succ, List.set_cons_zero]
        refine WpH.takeD 13 (some 34) (v := ?_) rfl rfl (by kernel_rfl) (fun _ _ _ h => h) (.val rfl (fun wz hwz => ?_)) ?_
        rotate_left
        · go_simp; try (with_reducible rfl)
        simp only [Act.put, List.setIfInBounds_toArray, List.set_cons_succ, List.set_cons_zero]
        refine WpH.takeD 14 (some 35) (v := ?_) rfl rfl (by kernel_rfl) (fun _ _ _ h => h) (.val rfl (fun wz hwz => ?_)) ?_
        rotate_left
        · go_simp; try (with_reducible rfl)
        simp only [Act.put, List.setIfInBounds_toArray, List.set_cons_succ, List.set_cons_zero]
        refine WpH.takeD 15 (some 36) (v := ?_) rfl rfl (by kernel_rfl) (fun _ _ _ h => h) (.val rfl (fun wz hwz => ?_)) ?_
        rotate_left
        · (obtain ⟨hcz, hfz⟩ := bcell hwz; go_simp; try (with_reducible rfl))
        simp only [Act.put, List.setIfInBounds_toArray, List.set_cons_succ, List.set_cons_zero]
        refine WpH.takeD 16 (some 37) rfl rfl (by kernel_rfl) (fun _ _ _ h => h) (.call rfl (fun wz hwz => HO.out wz) (fun wz hwz => ?_)) ?_
        · go_simp; try (with_reducible rfl)
        simp only [Act.put, List.setIfInBounds_toArray, List.set_cons_succ, List.set_cons_zero]
        refine WpH.takeD 17 (some 38) (v := ?_) rfl rfl (by kernel_rfl) (fun _ _ _ h => h) (.val rfl (fun wz hwz => ?_)) ?_
        rotate_left
        · go_simp; try (with_reducible rfl)
        simp only [Act.put, List.setIfInBounds_toArray, List.set_cons_succ, List.set_cons_zero]
        refine WpH.doneB (by kernel_rfl) (fun w6 hw6 => ?_)
        (try simp only [List.drop_succ_cons]); (try simp only [List.drop_zero]); (try simp only [Nat.reduceSub]); (try simp only [List.take_succ_cons]); (try simp only [List.take_zero])
        replace hBk := hBk.call hw6
        clear x0 x1 x2 x3 x4 x5 x6 x7 x8 x9 x10 x11 x12
        replace hbw := bl_call hbw (Nat.le_refl _) hw6
        replace hx := hx.call hw6
        obtain ⟨⟨x0, x1, x2, x3, x4, x5⟩, ⟨x6, x7, x8, x9, x10, x11⟩, x12⟩ := hx.get6
        have hzk : ∃ u v : Value, w6.cell? ⟨g, k * 2, none⟩ = some u ∧ w6.cell? ⟨g, k * 2 + 1, none⟩ = some v := by
          have hlen : k < (esK zs ++ List.replicate (n - k) ((0, 0) : E)).length := by
            rw [List.length_append, List.length_replicate, esK_length, HZ.out]
            omega
          obtain ⟨e1, e2⟩ := hBk.row k _ (List.getElem?_eq_getElem hlen)
          exact ⟨_, _, e1, e2⟩
        obtain ⟨u, v, z0, z1⟩ := hzk
        have fz0 := hBk.frozen (k * 2)
        have fz1 := hBk.frozen (k * 2 + 1)
        have HS : Hid ((esK zs ++ List.replicate (n - k) ((0, 0) : E)).set k (lo x, hi x) = esK (zs ++ [x]) ++ List.replicate (n - (k + 1)) (0, 0)) := fill_put zs n k HZ.out hlt x _ _ rfl
        have HBS := Lib.hid (hBk.set k (lo x) (hi x))
        clear hBk
        have hgw : w.heap.size ≤ g := by omega
        go_wp2
        go_roundw
        case rel =>
          have h := HBS.out
          rw [HS.out] at h
          exact ⟨k + 1, zs ++ [x], (by rw [List.length_append, HZ.out]; rfl), by omega, by go_num, h, (hx.far (by dsimp only; omega) _).far (by dsimp only; omega) _, by repeat (first | exact Below.refl _ _ | with_reducible assumption | (refine bl_alloc ?_ (Nat.le_refl _) _) | (refine bl_set ?_ (by dsimp only; omega) _) | (refine Below.drew ?_) | (refine bl_drewN ?_ _) | (refine bl_call ?_ (Nat.le_refl _) (by assumption)))⟩
        case measure => simp [intOf]; omega
    · obtain rfl : k = n := by omega
      rw [Nat.sub_self, List.replicate_zero, List.append_nil] at hBk
      go_wp2
      go_ret
      exact ⟨g, zs, HZ.out, rfl, hBk, by omega, hbw⟩
end

end Go.Proofs.YtfbfbijkkbflkaaGreatDoor

namespace Go.Proofs.YtfbfbijkkbflkaaGreatDoor
open Go.RowKit Fm
set_option linter.unusedVariables false
set_option maxRecDepth 100000

theorem BlkE.slM {f n : Nat} {w : World} {g : Nat} {l : KL f} (h : BlkE w g (esK l)) (hl : l.length = n) (hn : n ≤ 1000000) : SlK w w.heap.size (.slice (some ⟨g, 0, none⟩) n n) l := by
  subst hl
  exact h.slK (by omega) h.lt

section
variable {f : Nat} (hf : IsF f)
include hf

end

end Go.Proofs.YtfbfbijkkbflkaaGreatDoor

namespace Go.Proofs.YtfbfbijkkbflkaaGreatDoor
open Go.RowKit Fm
set_option linter.unusedVariables false
set_option maxRecDepth 100000

section
variable {f : Nat}
def decC (a : Fin (Pm f)) (P : KL f) (x : Fin (Pm f)) : Bool :=
  decide ((qryL .count 1 [a] [] 1 P x).getD 0 0 = 0) && decide (gval (.mul : Gad f) (((qryL .count 1 [a] [] 1 P x).drop 1).take 2) = (qryL .count 1 [a] [] 1 P x).getD 3 0)
def lineC (a s : Fin (Pm f)) (i : Nat) : KL f := coefsK 1 (padTo 1 (lineA s (argOf .count [a] [] 1) i 1))
theorem qry_count (a : Fin (Pm f)) (P : KL f) (x : Fin (Pm f)) : qryL .count 1 [a] [] 1 P x = [ansQ 1 (P.drop 2) 0 - a, ev x (lineC a ((P.take 2).getD 0 0) 0), ev x (lineC a ((P.take 2).getD 1 0) 1), ev x (P.drop 2)] := rfl
theorem decC_iff (a : Fin (Pm f)) (P : KL f) (x : Fin (Pm f)) (h : decC a P x = true) : ansQ 1 (P.drop 2) 0 - a = 0 ∧ ev x (lineC a ((P.take 2).getD 0 0) 0) * ev x (lineC a ((P.take 2).getD 1 0) 1) = ev x (P.drop 2) := by
  unfold decC at h
  rw [qry_count, Bool.and_eq_true, decide_eq_true_iff, decide_eq_true_iff] at h
  obtain ⟨h1, h2⟩ := h
  refine ⟨h1, ?_⟩
  have h3 : (0 : Fin (Pm f)) + ev x (lineC a ((P.take 2).getD 0 0) 0) * ev x (lineC a ((P.take 2).getD 1 0) 1) = ev x (P.drop 2) := h2
  rw [← h3]
  grind
theorem lineC_at (a s : Fin (Pm f)) (i : Nat) (hi : i < 2) : ev (Fm.kpow (rootK f 1) 1) (lineC a s i) = a := by
  unfold lineC
  rw [ev_coefs (by omega) _ (padTo_length (by rw [lineA_length]; decide)) 1 (by decide), padTo_getD, lineA_at _ _ _ _ _ (by omega)]
  rcases (by omega : i = 0 ∨ i = 1) with rfl | rfl <;> rfl
def polyC (a : Fin (Pm f)) (P : KL f) : KL f := ofF 3 fun k => (prodL (lineC a ((P.take 2).getD 0 0) 0) (lineC a ((P.take 2).getD 1 0) 1)).getD k 0 - (P.drop 2).getD k 0
theorem polyC_ev (a : Fin (Pm f)) (P : KL f) (hP : P.length = 5) (x : Fin (Pm f)) : ev x (polyC a P) = ev x (lineC a ((P.take 2).getD 0 0) 0) * ev x (lineC a ((P.take 2).getD 1 0) 1) - ev x (P.drop 2) := by
  have hl : ∀ s i, (lineC a s i).length = 2 := fun s i => coefsK_length 1 _
  unfold polyC
  rw [ofF_ev, ← prodL_ev, ev_sm' x (prodL _ _) 3 (by rw [prodL_length, hl, hl]; decide), ev_sm' x (P.drop 2) 3 (by rw [List.length_drop, hP]; decide), ← sm_sub]
  exact sm_congr fun i _ => by grind
theorem forged_count (hf : IsF f) (a : Fin (Pm f)) (ha0 : a ≠ 0) (ha1 : a ≠ 1) (P : KL f) (hP : P.length = 5) (r : Nat) (hr : r < 1000) (hit : Nat → Bool) (hh : ∀ i, i < 12 → hit i = true → decC a P (nK f (r + i + 2)) = true) :
    ((List.range 12).filter hit).length ≤ 2 := by
  rcases Nat.lt_or_ge 2 ((List.range 12).filter hit).length with h | h
  · exfalso
    have hz : ∀ i, i ∈ (List.range 12).filter hit → ansQ 1 (P.drop 2) 0 - a = 0 ∧ ev (nK f (r + i + 2)) (polyC a P) = 0 := fun i hi => by
      rw [List.mem_filter, List.mem_range] at hi
      obtain ⟨h1, h2⟩ := decC_iff a P _ (hh i hi.1 hi.2)
      refine ⟨h1, ?_⟩
      rw [polyC_ev a P hP, h2]
      grind
    have hnd : (((List.range 12).filter hit).map fun i => nK f (r + i + 2)).Nodup := by
      unfold List.Nodup
      rw [List.pairwise_map]
      have h1 : ((List.range 12).filter hit).Pairwise (· ≠ ·) := List.Pairwise.filter _ List.nodup_range
      refine List.Pairwise.imp_of_mem (fun {i j} hi hj hij he => ?_) h1
      rw [List.mem_filter, List.mem_range] at hi hj
      have := nK_small hf (a := r + i + 2) (b := r + j + 2) (by omega) (by omega) he
      exact hij (by omega)
    have hev := no_roots 3 (polyC a P) (Nat.le_of_eq (ofF_length ..)) _ hnd (by rw [List.length_map]; omega) (fun x hx => by
      obtain ⟨i, hi, rfl⟩ := List.mem_map.1 hx
      exact (hz i hi).2) (Fm.kpow (rootK f 1) 1)
    obtain ⟨i, hi⟩ : ∃ i, i ∈ (List.range 12).filter hit := by
      cases hl : (List.range 12).filter hit with
      | nil => rw [hl] at h; simp at h
      | cons i t => exact ⟨i, by simp⟩
    have h0 := (hz i hi).1
    rw [polyC_ev a P hP, lineC_at a _ 0 (by omega), lineC_at a _ 1 (by omega)] at hev
    have h1 : ev (Fm.kpow (rootK f 1) 1) (P.drop 2) = ansQ 1 (P.drop 2) 0 := rfl
    rw [h1] at hev
    have h2 : a * a = a * 1 := by grind
    exact ha1 (k_cancel ha0 h2)
  · exact h
end

end Go.Proofs.YtfbfbijkkbflkaaGreatDoor

namespace Go.Proofs.YtfbfbijkkbflkaaGreatDoor
open Go.RowKit Fm
set_option linter.unusedVariables false
set_option maxRecDepth 100000

def CK.pows : CK → Nat
  | .count => 0
  | .sum b => b
  | .vec _ _ c => c
  | .hist _ c => c
  | .multi _ _ c => c
theorem CK.pows_le {y : CK} (h : y.ok) : y.pows ≤ 100 := by
  cases y with
  | count => exact Nat.zero_le _
  | sum b => have := h.2; show b ≤ 100; omega
  | vec b l c => have := h.2.2.2; show c ≤ 100; omega
  | hist l c => have := h.2.2; show c ≤ 100; omega
  | multi l m c => have := h.2.2.2; show c ≤ 100; omega

section
variable {f : Nat} (hf : IsF f)
include hf
set_option maxHeartbeats 4000000 in
theorem proof_Bound (y : CK) (hy : y.ok) (hcl : y.calls ≤ 511) (N : Nat) (hN : nextP (y.calls + 1) = N) (w : World) : Calls Tryz.prog 45 #[y.val f] w (RetI (y.pows + 2 * (N - 1)) w) := by
  have HGAD : Hid (∀ wz, Calls Tryz.prog 27 #[y.val f] wz (RetG2 (y.gad f) wz)) := fun wz => circuit_Gadget2 hf y hy wz
  have HDEG : Hid (∀ wz (k : Int) (A : Option Addr) (a c : Nat) (n : Int), RepG wz wz.heap.size k (.slice A a c) n (y.gad f) → Calls Tryz.prog 60 #[.agg #[.int .u8 k, .slice A a c, .int .i64 n]] wz fun e w' => e = .returned (.int .i64 2) ∧ Below wz.heap.size wz w') := fun wz k A a c n h => by
    have h2 := gadget_Degree wz _ (y.gad f) k _ n h
    rwa [gad_degree] at h2
  have HDOM : Hid (∀ wz, Calls Tryz.prog 30 #[y.val f] wz (RetI N wz)) := fun wz => by
    have h := circuit_Domain f y hy hcl wz
    rwa [hN] at h
  have hN2 := nextP_le (y.calls + 1)
  rw [hN] at hN2
  have hp := CK.pows_le hy
  obtain ⟨m1, hm1⟩ : ∃ m, N - 1 = m := ⟨_, rfl⟩
  obtain ⟨m2, hm2⟩ : ∃ m, 2 * m1 = m := ⟨_, rfl⟩
  rw [hm1, hm2]
  have hw1 : IntKind.i64.wrap ((N : Int) - 1) = (m1 : Int) := by rw [IntWalk.i64_in _ (by omega)]; omega
  have hw2 : IntKind.i64.wrap (2 * (m1 : Int)) = (m2 : Int) := by rw [IntWalk.i64_in _ (by omega)]; omega
  have hm2l : m2 ≤ 4000 := by omega
  clear hm1 hm2 hN2 hN
  cases y with
  | count =>
    rw [val_count] at *
    have hw3 : IntKind.i64.wrap ((m2 : Int)) = (m2 : Int) := IntWalk.i64_in _ (by omega)
    show Calls _ _ _ _ (RetI (0 + m2) w)
    rw [Nat.zero_add]
    clear hp hy hcl
    go_enter Tryz.func45, Tryz.ntmps45
    go_upto_region 1 with fail
    have hyy := Vs.new w [.int .u8 1, .int .u8 f, .int .i64 0, .int .i64 0, .int .i64 0, .int .i64 0] #[.int .u8 1, .int .u8 f, .int .i64 0, .int .i64 0, .int .i64 0, .int .i64 0] 30 rfl
    have hb00 : Below w.heap.size w (w.alloc (.cells #[.int .u8 1, .int .u8 f, .int .i64 0, .int .i64 0, .int .i64 0, .int .i64 0] 30)) := by repeat (first | exact Below.refl _ _ | with_reducible assumption | (refine bl_alloc ?_ (Nat.le_refl _) _))
    have hszn : w.heap.size + 1 ≤ (w.alloc (.cells #[.int .u8 1, .int .u8 f, .int .i64 0, .int .i64 0, .int .i64 0, .int .i64 0] 30)).heap.size := by simp only [World.size_alloc]; omega
    generalize (w.alloc (.cells #[.int .u8 1, .int .u8 f, .int .i64 0, .int .i64 0, .int .i64 0, .int .i64 0] 30)) = w1 at hyy hb00 hszn ⊢
    obtain ⟨⟨yy0, yy1, yy2, yy3, yy4, yy5⟩, ⟨yy6, yy7, yy8, yy9, yy10, yy11⟩, yy12⟩ := hyy.get6
    go_upto_region 2 with (go_at_call 27; refine (HGAD.out _).mono ?_; rintro e w3 ⟨kd, sl, nn, rfl, hR3, hb3, hSL3⟩; obtain ⟨A2, a2, c2, rfl⟩ := RepG.sl hR3)
    clear yy0 yy1 yy2 yy3 yy4 yy5 yy6 yy7 yy8 yy9 yy10 yy11 yy12
    replace hb00 := bl_call hb00 (Nat.le_refl _) hb3
    replace hyy := hyy.call hb3
    clear hb3 hSL3
    have hgg := Vs.new w3 [.int .u8 kd, .slice A2 a2 c2, .int .i64 nn] #[.int .u8 kd, .slice A2 a2 c2, .int .i64 nn] 54 rfl
    have hbA : Below w3.heap.size w3 (w3.alloc (.cells #[.int .u8 kd, .slice A2 a2 c2, .int .i64 nn] 54)) := (Below.refl _ _).alloc (Nat.le_refl _) _
    replace hb00 := bl_call hb00 (Nat.le_refl _) hbA
    replace hyy := hyy.call hbA
    have hR4 := hR3.later hbA
    generalize w3.alloc (.cells #[.int .u8 kd, .slice A2 a2 c2, .int .i64 nn] 54) = w4 at *
    clear hbA hR3
    obtain ⟨gg0, gg1, gg2, gg3, gg4, gg5, gg6⟩ := hgg.get3
    obtain ⟨⟨yy0, yy1, yy2, yy3, yy4, yy5⟩, ⟨yy6, yy7, yy8, yy9, yy10, yy11⟩, yy12⟩ := hyy.get6
    go_upto_region 10 with fail
    refine region_B (n := 8) (m := 9) (f := 8) (by kernel_rfl) (by kernel_rfl) rfl ?_
    refine WpH.takeD 0 (some 19) (v := ?_) rfl rfl (by kernel_rfl) (fun _ _ _ h => h) (.val rfl (fun wz hwz => ?_)) ?_
    rotate_left
    · go_simp; try (with_reducible rfl)
    simp only [Act.put, List.setIfInBounds_toArray, List.set_cons_succ, List.set_cons_zero]
    refine WpH.takeD 1 (some 20) (v := ?_) rfl rfl (by kernel_rfl) (fun _ _ _ h => h) (.val rfl (fun wz hwz => ?_)) ?_
    rotate_left
    · (obtain ⟨hcz, hfz⟩ := bcell hwz; go_simp; try (with_reducible rfl))
    simp only [Act.put, List.setIfInBounds_toArray, List.set_cons_succ, List.set_cons_zero]
    refine WpH.takeD 2 (some 21) rfl rfl (by kernel_rfl) (fun _ _ _ h => h) (.call rfl (fun wz hwz => HDEG.out wz kd A2 a2 c2 nn (hR4.later hwz)) (fun wz hwz => ?_)) ?_
    · go_simp; try (with_reducible rfl)
    simp only [Act.put, List.setIfInBounds_toArray, List.set_cons_succ, List.set_cons_zero]
    refine WpH.takeD 3 (some 22) (v := ?_) rfl rfl (by kernel_rfl) (fun _ _ _ h => h) (.val rfl (fun wz hwz => ?_)) ?_
    rotate_left
    · (obtain ⟨hcz, hfz⟩ := bcell hwz; go_simp; try (with_reducible rfl))
    simp only [Act.put, List.setIfInBounds_toArray, List.set_cons_succ, List.set_cons_zero]
    refine WpH.takeD 4 (some 23) rfl rfl (by kernel_rfl) (fun _ _ _ h => h) (.call rfl (fun wz hwz => HDOM.out wz) (fun wz hwz => ?_)) ?_
    · go_simp; try (with_reducible rfl)
    simp only [Act.put, List.setIfInBounds_toArray, List.set_cons_succ, List.set_cons_zero]
    refine WpH.takeD 5 (some 24) (v := ?_) rfl rfl (by kernel_rfl) (fun _ _ _ h => h) (.val rfl (fun wz hwz => ?_)) ?_
    rotate_left
    · go_simp; try (with_reducible rfl)
    simp only [Act.put, List.setIfInBounds_toArray, List.set_cons_succ, List.set_cons_zero]
    refine WpH.takeD 6 (some 25) (v := ?_) rfl rfl (by kernel_rfl) (fun _ _ _ h => h) (.val rfl (fun wz hwz => ?_)) ?_
    rotate_left
    · go_simp; try (with_reducible rfl)
    simp only [Act.put, List.setIfInBounds_toArray, List.set_cons_succ, List.set_cons_zero]
    refine WpH.takeD 7 (some 26) (v := ?_) rfl rfl (by kernel_rfl) (fun _ _ _ h => h) (.val rfl (fun wz hwz => ?_)) ?_
    rotate_left
    · go_simp; try (with_reducible rfl)
    simp only [Act.put, List.setIfInBounds_toArray, List.set_cons_succ, List.set_cons_zero]
    refine WpH.doneB (by kernel_rfl) (fun w6 hw6 => ?_)
    (try simp only [List.drop_succ_cons]); (try simp only [List.drop_zero]); (try simp only [Nat.reduceSub]); (try simp only [List.take_succ_cons]); (try simp only [List.take_zero])
    go_wp2_with fail
    go_ret
    exact ⟨by first | rfl | simp, bl_call hb00 (Nat.le_refl _) hw6⟩
  | sum b =>
    rw [val_sum] at *
    obtain ⟨r, hr⟩ : ∃ r, b + m2 = r := ⟨_, rfl⟩
    have hpb : b ≤ 100 := hp
    have hw3 : IntKind.i64.wrap ((b : Int) + (m2 : Int)) = (r : Int) := by rw [IntWalk.i64_in _ (by omega)]; omega
    show Calls _ _ _ _ (RetI (b + m2) w)
    rw [hr]
    clear hp hy hcl hr hpb
    go_enter Tryz.func45, Tryz.ntmps45
    go_upto_region 1 with fail
    have hyy := Vs.new w [.int .u8 2, .int .u8 f, .int .i64 b, .int .i64 0, .int .i64 0, .int .i64 0] #[.int .u8 2, .int .u8 f, .int .i64 b, .int .i64 0, .int .i64 0, .int .i64 0] 30 rfl
    have hb00 : Below w.heap.size w (w.alloc (.cells #[.int .u8 2, .int .u8 f, .int .i64 b, .int .i64 0, .int .i64 0, .int .i64 0] 30)) := by repeat (first | exact Below.refl _ _ | with_reducible assumption | (refine bl_alloc ?_ (Nat.le_refl _) _))
    have hszn : w.heap.size + 1 ≤ (w.alloc (.cells #[.int .u8 2, .int .u8 f, .int .i64 b, .int .i64 0, .int .i64 0, .int .i64 0] 30)).heap.size := by simp only [World.size_alloc]; omega
    generalize (w.alloc (.cells #[.int .u8 2, .int .u8 f, .int .i64 b, .int .i64 0, .int .i64 0, .int .i64 0] 30)) = w1 at hyy hb00 hszn ⊢
    obtain ⟨⟨yy0, yy1, yy2, yy3, yy4, yy5⟩, ⟨yy6, yy7, yy8, yy9, yy10, yy11⟩, yy12⟩ := hyy.get6
    go_upto_region 2 with (go_at_call 27; refine (HGAD.out _).mono ?_; rintro e w3 ⟨kd, sl, nn, rfl, hR3, hb3, hSL3⟩; obtain ⟨A2, a2, c2, rfl⟩ := RepG.sl hR3)
    clear yy0 yy1 yy2 yy3 yy4 yy5 yy6 yy7 yy8 yy9 yy10 yy11 yy12
    replace hb00 := bl_call hb00 (Nat.le_refl _) hb3
    replace hyy := hyy.call hb3
    clear hb3 hSL3
    have hgg := Vs.new w3 [.int .u8 kd, .slice A2 a2 c2, .int .i64 nn] #[.int .u8 kd, .slice A2 a2 c2, .int .i64 nn] 54 rfl
    have hbA : Below w3.heap.size w3 (w3.alloc (.cells #[.int .u8 kd, .slice A2 a2 c2, .int .i64 nn] 54)) := (Below.refl _ _).alloc (Nat.le_refl _) _
    replace hb00 := bl_call hb00 (Nat.le_refl _) hbA
    replace hyy := hyy.call hbA
    have hR4 := hR3.later hbA
    generalize w3.alloc (.cells #[.int .u8 kd, .slice A2 a2 c2, .int .i64 nn] 54) = w4 at *
    clear hbA hR3
    obtain ⟨gg0, gg1, gg2, gg3, gg4, gg5, gg6⟩ := hgg.get3
    obtain ⟨⟨yy0, yy1, yy2, yy3, yy4, yy5⟩, ⟨yy6, yy7, yy8, yy9, yy10, yy11⟩, yy12⟩ := hyy.get6
    go_upto_region 10 with fail
    refine region_B (n := 8) (m := 9) (f := 8) (by kernel_rfl) (by kernel_rfl) rfl ?_
    refine WpH.takeD 0 (some 19) (v := ?_) rfl rfl (by kernel_rfl) (fun _ _ _ h => h) (.val rfl (fun wz hwz => ?_)) ?_
    rotate_left
    · go_simp; try (with_reducible rfl)
    simp only [Act.put, List.setIfInBounds_toArray, List.set_cons_succ, List.set_cons_zero]
    refine WpH.takeD 1 (some 20) (v := ?_) rfl rfl (by kernel_rfl) (fun _ _ _ h => h) (.val rfl (fun wz hwz => ?_)) ?_
    rotate_left
    · (obtain ⟨hcz, hfz⟩ := bcell hwz; go_simp; try (with_reducible rfl))
    simp only [Act.put, List.setIfInBounds_toArray, List.set_cons_succ, List.set_cons_zero]
    refine WpH.takeD 2 (some 21) rfl rfl (by kernel_rfl) (fun _ _ _ h => h) (.call rfl (fun wz hwz => HDEG.out wz kd A2 a2 c2 nn (hR4.later hwz)) (fun wz hwz => ?_)) ?_
    · go_simp; try (with_reducible rfl)
    simp only [Act.put, List.setIfInBounds_toArray, List.set_cons_succ, List.set_cons_zero]
    refine WpH.takeD 3 (some 22) (v := ?_) rfl rfl (by kernel_rfl) (fun _ _ _ h => h) (.val rfl (fun wz hwz => ?_)) ?_
    rotate_left
    · (obtain ⟨hcz, hfz⟩ := bcell hwz; go_simp; try (with_reducible rfl))
    simp only [Act.put, List.setIfInBounds_toArray, List.set_cons_succ, List.set_cons_zero]
    refine WpH.takeD 4 (some 23) rfl rfl (by kernel_rfl) (fun _ _ _ h => h) (.call rfl (fun wz hwz => HDOM.out wz) (fun wz hwz => ?_)) ?_
    · go_simp; try (with_reducible rfl)
    simp only [Act.put, List.setIfInBounds_toArray, List.set_cons_succ, List.set_cons_zero]
    refine WpH.takeD 5 (some 24) (v := ?_) rfl rfl (by kernel_rfl) (fun _ _ _ h => h) (.val rfl (fun wz hwz => ?_)) ?_
    rotate_left
    · go_simp; try (with_reducible rfl)
    simp only [Act.put, List.setIfInBounds_toArray, List.set_cons_succ, List.set_cons_zero]
    refine WpH.takeD 6 (some 25) (v := ?_) rfl rfl (by kernel_rfl) (fun _ _ _ h => h) (.val rfl (fun wz hwz => ?_)) ?_
    rotate_left
    · go_simp; try (with_reducible rfl)
    simp only [Act.put, List.setIfInBounds_toArray, List.set_cons_succ, List.set_cons_zero]
    refine WpH.takeD 7 (some 26) (v := ?_) rfl rfl (by kernel_rfl) (fun _ _ _ h => h) (.val rfl (fun wz hwz => ?_)) ?_
    rotate_left
    · go_simp; try (with_reducible rfl)
    simp only [Act.put, List.setIfInBounds_toArray, List.set_cons_succ, List.set_cons_zero]
    refine WpH.doneB (by kernel_rfl) (fun w6 hw6 => ?_)
    (try simp only [List.drop_succ_cons]); (try simp only [List.drop_zero]); (try simp only [Nat.reduceSub]); (try simp only [List.take_succ_cons]); (try simp only [List.take_zero])
    go_wp2_with fail
    go_ret
    exact ⟨by first | rfl | simp, bl_call hb00 (Nat.le_refl _) hw6⟩
  | vec bb l c =>
    rw [val_vec] at *
    obtain ⟨r, hr⟩ : ∃ r, c + m2 = r := ⟨_, rfl⟩
    have hpb : c ≤ 100 := hp
    have hw3 : IntKind.i64.wrap ((c : Int) + (m2 : Int)) = (r : Int) := by rw [IntWalk.i64_in _ (by omega)]; omega
    show Calls _ _ _ _ (RetI (c + m2) w)
    rw [hr]
    clear hp hy hcl hr hpb
    go_enter Tryz.func45, Tryz.ntmps45
    go_upto_region 1 with fail
    have hyy := Vs.new w [.int .u8 3, .int .u8 f, .int .i64 bb, .int .i64 l, .int .i64 0, .int .i64 c] #[.int .u8 3, .int .u8 f, .int .i64 bb, .int .i64 l, .int .i64 0, .int .i64 c] 30 rfl
    have hb00 : Below w.heap.size w (w.alloc (.cells #[.int .u8 3, .int .u8 f, .int .i64 bb, .int .i64 l, .int .i64 0, .int .i64 c] 30)) := by repeat (first | exact Below.refl _ _ | with_reducible assumption | (refine bl_alloc ?_ (Nat.le_refl _) _))
    have hszn : w.heap.size + 1 ≤ (w.alloc (.cells #[.int .u8 3, .int .u8 f, .int .i64 bb, .int .i64 l, .int .i64 0, .int .i64 c] 30)).heap.size := by simp only [World.size_alloc]; omega
    generalize (w.alloc (.cells #[.int .u8 3, .int .u8 f, .int .i64 bb, .int .i64 l, .int .i64 0, .int .i64 c] 30)) = w1 at hyy hb00 hszn ⊢
    obtain ⟨⟨yy0, yy1, yy2, yy3, yy4, yy5⟩, ⟨yy6, yy7, yy8, yy9, yy10, yy11⟩, yy12⟩ := hyy.get6
    go_upto_region 2 with (go_at_call 27; refine (HGAD.out _).mono ?_; rintro e w3 ⟨kd, sl, nn, rfl, hR3, hb3, hSL3⟩; obtain ⟨A2, a2, c2, rfl⟩ := RepG.sl hR3)
    clear yy0 yy1 yy2 yy3 yy4 yy5 yy6 yy7 yy8 yy9 yy10 yy11 yy12
    replace hb00 := bl_call hb00 (Nat.le_refl _) hb3
    replace hyy := hyy.call hb3
    clear hb3 hSL3
    have hgg := Vs.new w3 [.int .u8 kd, .slice A2 a2 c2, .int .i64 nn] #[.int .u8 kd, .slice A2 a2 c2, .int .i64 nn] 54 rfl
    have hbA : Below w3.heap.size w3 (w3.alloc (.cells #[.int .u8 kd, .slice A2 a2 c2, .int .i64 nn] 54)) := (Below.refl _ _).alloc (Nat.le_refl _) _
    replace hb00 := bl_call hb00 (Nat.le_refl _) hbA
    replace hyy := hyy.call hbA
    have hR4 := hR3.later hbA
    generalize w3.alloc (.cells #[.int .u8 kd, .slice A2 a2 c2, .int .i64 nn] 54) = w4 at *
    clear hbA hR3
    obtain ⟨gg0, gg1, gg2, gg3, gg4, gg5, gg6⟩ := hgg.get3
    obtain ⟨⟨yy0, yy1, yy2, yy3, yy4, yy5⟩, ⟨yy6, yy7, yy8, yy9, yy10, yy11⟩, yy12⟩ := hyy.get6
    go_upto_region 10 with fail
    refine region_B (n := 8) (m := 9) (f := 8) (by kernel_rfl) (by kernel_rfl) rfl ?_
    refine WpH.takeD 0 (some 19) (v := ?_) rfl rfl (by kernel_rfl) (fun _ _ _ h => h) (.val rfl (fun wz hwz => ?_)) ?_
    rotate_left
    · go_simp; try (with_reducible rfl)
    simp only [Act.put, List.setIfInBounds_toArray, List.set_cons_succ, List.set_cons_zero]
    refine WpH.takeD 1 (some 20) (v := ?_) rfl rfl (by kernel_rfl) (fun _ _ _ h => h) (.val rfl (fun wz hwz => ?_)) ?_
    rotate_left
    · (obtain ⟨hcz, hfz⟩ := bcell hwz; go_simp; try (with_reducible rfl))
    simp only [Act.put, List.setIfInBounds_toArray, List.set_cons_succ, List.set_cons_zero]
    refine WpH.takeD 2 (some 21) rfl rfl (by kernel_rfl) (fun _ _ _ h => h) (.call rfl (fun wz hwz => HDEG.out wz kd A2 a2 c2 nn (hR4.later hwz)) (fun wz hwz => ?_)) ?_
    · go_simp; try (with_reducible rfl)
    simp only [Act.put, List.setIfInBounds_toArray, List.set_cons_succ, List.set_cons_zero]
    refine WpH.takeD 3 (some 22) (v := ?_) rfl rfl (by kernel_rfl) (fun _ _ _ h => h) (.val rfl (fun wz hwz => ?_)) ?_
    rotate_left
    · (obtain ⟨hcz, hfz⟩ := bcell hwz; go_simp; try (with_reducible rfl))
    simp only [Act.put, List.setIfInBounds_toArray, List.set_cons_succ, List.set_cons_zero]
    refine WpH.takeD 4 (some 23) rfl rfl (by kernel_rfl) (fun _ _ _ h => h) (.call rfl (fun wz hwz => HDOM.out wz) (fun wz hwz => ?_)) ?_
    · go_simp; try (with_reducible rfl)
    simp only [Act.put, List.setIfInBounds_toArray, List.set_cons_succ, List.set_cons_zero]
    refine WpH.takeD 5 (some 24) (v := ?_) rfl rfl (by kernel_rfl) (fun _ _ _ h => h) (.val rfl (fun wz hwz => ?_)) ?_
    rotate_left
    · go_simp; try (with_reducible rfl)
    simp only [Act.put, List.setIfInBounds_toArray, List.set_cons_succ, List.set_cons_zero]
    refine WpH.takeD 6 (some 25) (v := ?_) rfl rfl (by kernel_rfl) (fun _ _ _ h => h) (.val rfl (fun wz hwz => ?_)) ?_
    rotate_left
    · go_simp; try (with_reducible rfl)
    simp only [Act.put, List.setIfInBounds_toArray, List.set_cons_succ, List.set_cons_zero]
    refine WpH.takeD 7 (some 26) (v := ?_) rfl rfl (by kernel_rfl) (fun _ _ _ h => h) (.val rfl (fun wz hwz => ?_)) ?_
    rotate_left
    · go_simp; try (with_reducible rfl)
    simp only [Act.put, List.setIfInBounds_toArray, List.set_cons_succ, List.set_cons_zero]
    refine WpH.doneB (by kernel_rfl) (fun w6 hw6 => ?_)
    (try simp only [List.drop_succ_cons]); (try simp only [List.drop_zero]); (try simp only [Nat.reduceSub]); (try simp only [List.take_succ_cons]); (try simp only [List.take_zero])
    go_wp2_with fail
    go_ret
    exact ⟨by first | rfl | simp, bl_call hb00 (Nat.le_refl _) hw6⟩
  | hist l c =>
    rw [val_hist] at *
    obtain ⟨r, hr⟩ : ∃ r, c + m2 = r := ⟨_, rfl⟩
    have hpb : c ≤ 100 := hp
    have hw3 : IntKind.i64.wrap ((c : Int) + (m2 : Int)) = (r : Int) := by rw [IntWalk.i64_in _ (by omega)]; omega
    show Calls _ _ _ _ (RetI (c + m2) w)
    rw [hr]
    clear hp hy hcl hr hpb
    go_enter Tryz.func45, Tryz.ntmps45
    go_upto_region 1 with fail
    have hyy := Vs.new w [.int .u8 4, .int .u8 f, .int .i64 0, .int .i64 l, .int .i64 0, .int .i64 c] #[.int .u8 4, .int .u8 f, .int .i64 0, .int .i64 l, .int .i64 0, .int .i64 c] 30 rfl
    have hb00 : Below w.heap.size w (w.alloc (.cells #[.int .u8 4, .int .u8 f, .int .i64 0, .int .i64 l, .int .i64 0, .int .i64 c] 30)) := by repeat (first | exact Below.refl _ _ | with_reducible assumption | (refine bl_alloc ?_ (Nat.le_refl _) _))
    have hszn : w.heap.size + 1 ≤ (w.alloc (.cells #[.int .u8 4, .int .u8 f, .int .i64 0, .int .i64 l, .int .i64 0, .int .i64 c] 30)).heap.size := by simp only [World.size_alloc]; omega
    generalize (w.alloc (.cells #[.int .u8 4, .int .u8 f, .int .i64 0, .int .i64 l, .int .i64 0, .int .i64 c] 30)) = w1 at hyy hb00 hszn ⊢
    obtain ⟨⟨yy0, yy1, yy2, yy3, yy4, yy5⟩, ⟨yy6, yy7, yy8, yy9, yy10, yy11⟩, yy12⟩ := hyy.get6
    go_upto_region 2 with (go_at_call 27; refine (HGAD.out _).mono ?_; rintro e w3 ⟨kd, sl, nn, rfl, hR3, hb3, hSL3⟩; obtain ⟨A2, a2, c2, rfl⟩ := RepG.sl hR3)
    clear yy0 yy1 yy2 yy3 yy4 yy5 yy6 yy7 yy8 yy9 yy10 yy11 yy12
    replace hb00 := bl_call hb00 (Nat.le_refl _) hb3
    replace hyy := hyy.call hb3
    clear hb3 hSL3
    have hgg := Vs.new w3 [.int .u8 kd, .slice A2 a2 c2, .int .i64 nn] #[.int .u8 kd, .slice A2 a2 c2, .int .i64 nn] 54 rfl
    have hbA : Below w3.heap.size w3 (w3.alloc (.cells #[.int .u8 kd, .slice A2 a2 c2, .int .i64 nn] 54)) := (Below.refl _ _).alloc (Nat.le_refl _) _
    replace hb00 := bl_call hb00 (Nat.le_refl _) hbA
    replace hyy := hyy.call hbA
    have hR4 := hR3.later hbA
    generalize w3.alloc (.cells #[.int .u8 kd, .slice A2 a2 c2, .int .i64 nn] 54) = w4 at *
    clear hbA hR3
    obtain ⟨gg0, gg1, gg2, gg3, gg4, gg5, gg6⟩ := hgg.get3
    obtain ⟨⟨yy0, yy1, yy2, yy3, yy4, yy5⟩, ⟨yy6, yy7, yy8, yy9, yy10, yy11⟩, yy12⟩ := hyy.get6
    go_upto_region 10 with fail
    refine region_B (n := 8) (m := 9) (f := 8) (by kernel_rfl) (by kernel_rfl) rfl ?_
    refine WpH.takeD 0 (some 19) (v := ?_) rfl rfl (by kernel_rfl) (fun _ _ _ h => h) (.val rfl (fun wz hwz => ?_)) ?_
    rotate_left
    · go_simp; try (with_reducible rfl)
    simp only [Act.put, List.setIfInBounds_toArray, List.set_cons_succ, List.set_cons_zero]
    refine WpH.takeD 1 (some 20) (v := ?_) rfl rfl (by kernel_rfl) (fun _ _ _ h => h) (.val rfl (fun wz hwz => ?_)) ?_
    rotate_left
    · (obtain ⟨hcz, hfz⟩ := bcell hwz; go_simp; try (with_reducible rfl))
    simp only [Act.put, List.setIfInBounds_toArray, List.set_cons_succ, List.set_cons_zero]
    refine WpH.takeD 2 (some 21) rfl rfl (by kernel_rfl) (fun _ _ _ h => h) (.call rfl (fun wz hwz => HDEG.out wz kd A2 a2 c2 nn (hR4.later hwz)) (fun wz hwz => ?_)) ?_
    · go_simp; try (with_reducible rfl)
    simp only [Act.put, List.setIfInBounds_toArray, List.set_cons_succ, List.set_cons_zero]
    refine WpH.takeD 3 (some 22) (v := ?_) rfl rfl (by kernel_rfl) (fun _ _ _ h => h) (.val rfl (fun wz hwz => ?_)) ?_
    rotate_left
    · (obtain ⟨hcz, hfz⟩ := bcell hwz; go_simp; try (with_reducible rfl))
    simp only [Act.put, List.setIfInBounds_toArray, List.set_cons_succ, List.set_cons_zero]
    refine WpH.takeD 4 (some 23) rfl rfl (by kernel_rfl) (fun _ _ _ h => h) (.call rfl (fun wz hwz => HDOM.out wz) (fun wz hwz => ?_)) ?_
    · go_simp; try (with_reducible rfl)
    simp only [Act.put, List.setIfInBounds_toArray, List.set_cons_succ, List.set_cons_zero]
    refine WpH.takeD 5 (some 24) (v := ?_) rfl rfl (by kernel_rfl) (fun _ _ _ h => h) (.val rfl (fun wz hwz => ?_)) ?_
    rotate_left
    · go_simp; try (with_reducible rfl)
    simp only [Act.put, List.setIfInBounds_toArray, List.set_cons_succ, List.set_cons_zero]
    refine WpH.takeD 6 (some 25) (v := ?_) rfl rfl (by kernel_rfl) (fun _ _ _ h => h) (.val rfl (fun wz hwz => ?_)) ?_
    rotate_left
    · go_simp; try (with_reducible rfl)
    simp only [Act.put, List.setIfInBounds_toArray, List.set_cons_succ, List.set_cons_zero]
    refine WpH.takeD 7 (some 26) (v := ?_) rfl rfl (by kernel_rfl) (fun _ _ _ h => h) (.val rfl (fun wz hwz => ?_)) ?_
    rotate_left
    · go_simp; try (with_reducible rfl)
    simp only [Act.put, List.setIfInBounds_toArray, List.set_cons_succ, List.set_cons_zero]
    refine WpH.doneB (by kernel_rfl) (fun w6 hw6 => ?_)
    (try simp only [List.drop_succ_cons]); (try simp only [List.drop_zero]); (try simp only [Nat.reduceSub]); (try simp only [List.take_succ_cons]); (try simp only [List.take_zero])
    go_wp2_with fail
    go_ret
    exact ⟨by first | rfl | simp, bl_call hb00 (Nat.le_refl _) hw6⟩
  | multi l m c =>
    rw [val_multi] at *
    obtain ⟨r, hr⟩ : ∃ r, c + m2 = r := ⟨_, rfl⟩
    have hpb : c ≤ 100 := hp
    have hw3 : IntKind.i64.wrap ((c : Int) + (m2 : Int)) = (r : Int) := by rw [IntWalk.i64_in _ (by omega)]; omega
    show Calls _ _ _ _ (RetI (c + m2) w)
    rw [hr]
    clear hp hy hcl hr hpb
    go_enter Tryz.func45, Tryz.ntmps45
    go_upto_region 1 with fail
    have hyy := Vs.new w [.int .u8 5, .int .u8 f, .int .i64 0, .int .i64 l, .int .i64 m, .int .i64 c] #[.int .u8 5, .int .u8 f, .int .i64 0, .int .i64 l, .int .i64 m, .int .i64 c] 30 rfl
    have hb00 : Below w.heap.size w (w.alloc (.cells #[.int .u8 5, .int .u8 f, .int .i64 0, .int .i64 l, .int .i64 m, .int .i64 c] 30)) := by repeat (first | exact Below.refl _ _ | with_reducible assumption | (refine bl_alloc ?_ (Nat.le_refl _) _))
    have hszn : w.heap.size + 1 ≤ (w.alloc (.cells #[.int .u8 5, .int .u8 f, .int .i64 0, .int .i64 l, .int .i64 m, .int .i64 c] 30)).heap.size := by simp only [World.size_alloc]; omega
    generalize (w.alloc (.cells #[.int .u8 5, .int .u8 f, .int .i64 0, .int .i64 l, .int .i64 m, .int .i64 c] 30)) = w1 at hyy hb00 hszn ⊢
    obtain ⟨⟨yy0, yy1, yy2, yy3, yy4, yy5⟩, ⟨yy6, yy7, yy8, yy9, yy10, yy11⟩, yy12⟩ := hyy.get6
    go_upto_region 2 with (go_at_call 27; refine (HGAD.out _).mono ?_; rintro e w3 ⟨kd, sl, nn, rfl, hR3, hb3, hSL3⟩; obtain ⟨A2, a2, c2, rfl⟩ := RepG.sl hR3)
    clear yy0 yy1 yy2 yy3 yy4 yy5 yy6 yy7 yy8 yy9 yy10 yy11 yy12
    replace hb00 := bl_call hb00 (Nat.le_refl _) hb3
    replace hyy := hyy.call hb3
    clear hb3 hSL3
    have hgg := Vs.new w3 [.int .u8 kd, .slice A2 a2 c2, .int .i64 nn] #[.int .u8 kd, .slice A2 a2 c2, .int .i64 nn] 54 rfl
    have hbA : Below w3.heap.size w3 (w3.alloc (.cells #[.int .u8 kd, .slice A2 a2 c2, .int .i64 nn] 54)) := (Below.refl _ _).alloc (Nat.le_refl _) _
    replace hb00 := bl_call hb00 (Nat.le_refl _) hbA
    replace hyy := hyy.call hbA
    have hR4 := hR3.later hbA
    generalize w3.alloc (.cells #[.int .u8 kd, .slice A2 a2 c2, .int .i64 nn] 54) = w4 at *
    clear hbA hR3
    obtain ⟨gg0, gg1, gg2, gg3, gg4, gg5, gg6⟩ := hgg.get3
    obtain ⟨⟨yy0, yy1, yy2, yy3, yy4, yy5⟩, ⟨yy6, yy7, yy8, yy9, yy10, yy11⟩, yy12⟩ := hyy.get6
    go_upto_region 10 with fail
    refine region_B (n := 8) (m := 9) (f := 8) (by kernel_rfl) (by kernel_rfl) rfl ?_
    refine WpH.takeD 0 (some 19) (v := ?_) rfl rfl (by kernel_rfl) (fun _ _ _ h => h) (.val rfl (fun wz hwz => ?_)) ?_
    rotate_left
    · go_simp; try (with_reducible rfl)
    simp only [Act.put, List.setIfInBounds_toArray, List.set_cons_succ, List.set_cons_zero]
    refine WpH.takeD 1 (some 20) (v := ?_) rfl rfl (by kernel_rfl) (fun _ _ _ h => h) (.val rfl (fun wz hwz => ?_)) ?_
    rotate_left
    · (obtain ⟨hcz, hfz⟩ := bcell hwz; go_simp; try (with_reducible rfl))
    simp only [Act.put, List.setIfInBounds_toArray, List.set_cons_succ, List.set_cons_zero]
    refine WpH.takeD 2 (some 21) rfl rfl (by kernel_rfl) (fun _ _ _ h => h) (.call rfl (fun wz hwz => HDEG.out wz kd A2 a2 c2 nn (hR4.later hwz)) (fun wz hwz => ?_)) ?_
    · go_simp; try (with_reducible rfl)
    simp only [Act.put, List.setIfInBounds_toArray, List.set_cons_succ, List.set_cons_zero]
    refine WpH.takeD 3 (some 22) (v := ?_) rfl rfl (by kernel_rfl) (fun _ _ _ h => h) (.val rfl (fun wz hwz => ?_)) ?_
    rotate_left
    · (obtain ⟨hcz, hfz⟩ := bcell hwz; go_simp; try (with_reducible rfl))
    simp only [Act.put, List.setIfInBounds_toArray, List.set_cons_succ, List.set_cons_zero]
    refine WpH.takeD 4 (some 23) rfl rfl (by kernel_rfl) (fun _ _ _ h => h) (.call rfl (fun wz hwz => HDOM.out wz) (fun wz hwz => ?_)) ?_
    · go_simp; try (with_reducible rfl)
    simp only [Act.put, List.setIfInBounds_toArray, List.set_cons_succ, List.set_cons_zero]
    refine WpH.takeD 5 (some 24) (v := ?_) rfl rfl (by kernel_rfl) (fun _ _ _ h => h) (.val rfl (fun wz hwz => ?_)) ?_
    rotate_left
    · go_simp; try (with_reducible rfl)
    simp only [Act.put, List.setIfInBounds_toArray, List.set_cons_succ, List.set_cons_zero]
    refine WpH.takeD 6 (some 25) (v := ?_) rfl rfl (by kernel_rfl) (fun _ _ _ h => h) (.val rfl (fun wz hwz => ?_)) ?_
    rotate_left
    · go_simp; try (with_reducible rfl)
    simp only [Act.put, List.setIfInBounds_toArray, List.set_cons_succ, List.set_cons_zero]
    refine WpH.takeD 7 (some 26) (v := ?_) rfl rfl (by kernel_rfl) (fun _ _ _ h => h) (.val rfl (fun wz hwz => ?_)) ?_
    rotate_left
    · go_simp; try (with_reducible rfl)
    simp only [Act.put, List.setIfInBounds_toArray, List.set_cons_succ, List.set_cons_zero]
    refine WpH.doneB (by kernel_rfl) (fun w6 hw6 => ?_)
    (try simp only [List.drop_succ_cons]); (try simp only [List.drop_zero]); (try simp only [Nat.reduceSub]); (try simp only [List.take_succ_cons]); (try simp only [List.take_zero])
    go_wp2_with fail
    go_ret
    exact ⟨by first | rfl | simp, bl_call hb00 (Nat.le_refl _) hw6⟩
end

end Go.Proofs.YtfbfbijkkbflkaaGreatDoor

namespace Go.Proofs.YtfbfbijkkbflkaaGreatDoor
open Go.RowKit Fm
set_option linter.unusedVariables false
set_option maxRecDepth 100000

def DeT {f : Nat} (w3 : World) (gd : Gad f) (o1 : Option (Int × Value × Int)) (o2 : Option Nat) (wz : World) : Prop := Below w3.heap.size w3 wz ∧ ∀ q, o1 = some q → RepG wz wz.heap.size q.1 q.2.1 q.2.2 gd
structure DeK {f : Nat} (w3 : World) (gd : Gad f) (u v : Value) (o1 : Option (Int × Value × Int)) (o2 : Option Nat) (s1 : Bool) (wz : World) : Prop where
  t : DeT w3 gd o1 o2 wz
  b : ∀ b, o2 = some b → w3.heap.size ≤ b ∧ V2 wz b (if s1 then u else .int .u64 0) (if s1 then v else .int .u64 0)
  d : ∀ (q : Int × Value × Int) (b : Nat) (p : Addr) (a c : Nat), o1 = some q → o2 = some b → q.2.1 = .slice (some p) a c → p.block ≠ b
theorem DeK.clo {f : Nat} {w3 : World} {gd : Gad f} {u v : Value} {o1 : Option (Int × Value × Int)} {o2 : Option Nat} {s1 : Bool} : Clo (DeK w3 gd u v o1 o2 s1) := fun _ _ h hb =>
  ⟨⟨bl_call h.t.1 (Nat.le_refl _) hb, fun q e => (h.t.2 q e).later hb⟩, fun b e => ⟨(h.b b e).1, (h.b b e).2.call hb⟩, h.d⟩
theorem DeK.mk1 {f : Nat} {w3 w w' : World} {gd : Gad f} {u v : Value} {o2 : Option Nat} {s1 : Bool} (h : DeK w3 gd u v none o2 s1 w) (q : Int × Value × Int) (hq : RepG w' w'.heap.size q.1 q.2.1 q.2.2 gd) (hb : Below w.heap.size w w') (hn : ∀ (p : Addr) (a c : Nat), q.2.1 = .slice (some p) a c → w.heap.size ≤ p.block) : DeK w3 gd u v (some q) o2 s1 w' :=
  ⟨⟨bl_call h.t.1 (Nat.le_refl _) hb, fun q' e => by injection e with e; subst e; exact hq⟩, fun b e => ⟨(h.b b e).1, (h.b b e).2.call hb⟩, fun q' b p a c e1 e2 e3 => by
    injection e1 with e1
    subst e1
    have h1 := hn p a c e3
    have h2 := (h.b b e2).2.lt
    omega⟩
theorem DeK.mk2 {f : Nat} {w3 w : World} {gd : Gad f} {u v : Value} {o1 : Option (Int × Value × Int)} (h : DeK w3 gd u v o1 none false w) : DeK w3 gd u v o1 (some w.heap.size) false (w.alloc (.cells #[.int .u64 0, .int .u64 0] 36)) := by
  have h2 := DeK.clo _ _ h ((Below.refl w.heap.size w).alloc (Nat.le_refl _) (.cells #[.int .u64 0, .int .u64 0] 36))
  refine ⟨h2.t, fun b e => ?_, fun q b p a c e1 e2 e3 => ?_⟩
  · injection e with e
    subst e
    exact ⟨h.t.1.size, V2.new w _ _ _⟩
  · injection e2 with e2
    have h3 := (h.t.2 q e1).ltB p a c e3
    omega
theorem DeK.put {f : Nat} {w3 w : World} {gd : Gad f} {u v : Value} {q : Int × Value × Int} {b : Nat} (h : DeK w3 gd u v (some q) (some b) false w) : DeK w3 gd u v (some q) (some b) true ((w.setCell ⟨b, 0, none⟩ u).setCell ⟨b, 1, none⟩ v) := by
  refine ⟨⟨bl_st h.t.1 (h.b b rfl).1 u v, fun q' e => ?_⟩, fun b' e => ?_, h.d⟩
  · injection e with e
    subst e
    refine (h.t.2 q rfl).same fun p a c hs => ?_
    have h1 := h.d q b p a c rfl rfl hs
    have h2 := (h.t.2 q rfl).ltB p a c hs
    exact ⟨(Below.heap_setCell _ _ _ _ h1).trans (Below.heap_setCell _ _ _ _ h1), by simpa [World.setCell] using h2⟩
  · injection e with e
    subst e
    exact ⟨(h.b b rfl).1, (h.b b rfl).2.set u v⟩
theorem DeK.start {f : Nat} (w3 : World) (gd : Gad f) (u v : Value) : DeK w3 gd u v none none false w3.drew :=
  ⟨⟨(Below.refl _ _).drew, fun _ e => (by cases e)⟩, fun _ e => (by cases e), fun _ _ _ _ _ e => (by cases e)⟩

section
variable {f : Nat} (hf : IsF f)
include hf

set_option maxHeartbeats 8000000 in
theorem proof_Decide (y : CK) (hy : y.ok) (hcl : y.calls ≤ 511) (vl : Value) (l : KL f) (hl : l.length = y.arity + 2) (w : World) (hs : SlK w w.heap.size vl l) :
    Calls Tryz.prog 36 #[y.val f, vl] w fun e w' => e = .returned (.tuple #[.bool (decide (l.getD 0 0 = 0) && decide (gval (y.gad f) ((l.drop 1).take y.arity) = l.getD (y.arity + 1) 0)), .int .i64 0]) ∧ Below w.heap.size w w' := by
  have HCHK : Hid (∀ wz, Calls Tryz.prog 48 #[y.val f] wz (RetC 0 wz)) := fun wz => by
    have h := circuit_Check_ok hf y hy wz
    rwa [CK.code_ok (by omega)] at h
  have HGAD : Hid (∀ wz, Calls Tryz.prog 27 #[y.val f] wz (RetG2 (y.gad f) wz)) := fun wz => circuit_Gadget2 hf y hy wz
  have HVER : Hid (∀ wz, Calls Tryz.prog 43 #[y.val f] wz (RetI (y.arity + 2) wz)) := fun wz => circuit_Verifier hf y hy wz
  have hal := CK.arity_le hy
  have hga := gad_arity f y
  obtain ⟨A, c, rfl, hlc, hcm, hA⟩ := id hs
  obtain ⟨b, o, rfl, hbl, hrow⟩ := hA (by omega)
  have HROW := Lib.hid hrow
  have HLL := Lib.hid hl
  have HSL := Lib.hid hs
  rw [hl] at hlc HSL ⊢
  unfold CK.val at HCHK HGAD HVER ⊢
  generalize y.gad f = gd at *
  generalize y.arity = ar at *
  generalize ((y.k : Nat) : Int) = K at *
  generalize ((y.b : Nat) : Int) = B at *
  generalize ((y.l : Nat) : Int) = NN at *
  generalize ((y.m : Nat) : Int) = M at *
  generalize ((y.c : Nat) : Int) = C at *
  have HGA := Lib.hid hga
  have HLA := Lib.hid (hl)
  have HOF := Lib.hid (fun wz (k : Int) (sl : Value) (n : Int) (h : RepG wz wz.heap.size k sl n gd) (vi : Value) (hs : SlK wz wz.heap.size vi ((l.drop 1).take ar)) => gadget_Of hf wz gd k sl n h vi ((l.drop 1).take ar) hs (by rw [HGA.out, List.length_take, List.length_drop, HLA.out]; omega))
  have HSLI : Hid (∀ wz, Below w.heap.size w wz → SlK wz wz.heap.size (.slice (some ⟨b, o + 2, none⟩) ar (c - 1)) ((l.drop 1).take ar)) := fun wz hb => by
    have hlt : ((l.drop 1).take ar).length = ar := by rw [List.length_take, List.length_drop, HLA.out]; omega
    refine ⟨_, _, by rw [hlt], by omega, by omega, fun _ => ⟨b, o + 2, rfl, Nat.lt_of_lt_of_le hbl hb.size, fun i e hi => ?_⟩⟩
    have hi2 : (esK l)[i + 1]? = some e := by
      unfold esK at hi ⊢
      rw [List.getElem?_map] at hi ⊢
      have hia : i < ar := by
        rcases Nat.lt_or_ge i ar with h | h
        · exact h
        · rw [List.getElem?_eq_none (by omega)] at hi
          cases hi
      rw [List.getElem?_take_of_lt hia, List.getElem?_drop, Nat.add_comm 1 i] at hi
      exact hi
    have h := (hrow.below hb hbl) (i + 1) e hi2
    rw [show o + (i + 1) * 2 = o + 2 + i * 2 by omega] at h
    exact h
  obtain ⟨x0, hx0⟩ : ∃ x, l[0]? = some x := ⟨_, List.getElem?_eq_getElem (by omega)⟩
  obtain ⟨y1, hy1⟩ : ∃ x, l[ar + 1]? = some x := ⟨_, List.getElem?_eq_getElem (by omega)⟩
  have HXA : Hid (∀ wz, Below w.heap.size w wz → b < wz.heap.size ∧ wz.cell? ⟨b, o, none⟩ = some (.int .u64 (lo x0)) ∧ wz.cell? ⟨b, o + 1, none⟩ = some (.int .u64 (hi x0)) ∧ wz.cell? ⟨b, o + (ar + 1) * 2, none⟩ = some (.int .u64 (lo y1)) ∧ wz.cell? ⟨b, o + (ar + 1) * 2 + 1, none⟩ = some (.int .u64 (hi y1))) := fun wz hb => by
    have h0 := (hrow.below hb hbl).kat hx0
    have h1 := (hrow.below hb hbl).kat hy1
    rw [Nat.zero_mul, Nat.add_zero] at h0
    exact ⟨Nat.lt_of_lt_of_le hbl hb.size, h0.1, h0.2, h1.1, h1.2⟩
  have hg0 : l.getD 0 0 = x0 := by rw [List.getD_eq_getElem?_getD, hx0]; rfl
  have hg1 : l.getD (ar + 1) 0 = y1 := by rw [List.getD_eq_getElem?_getD, hy1]; rfl
  rw [hg0, hg1]
  clear hg0 hg1 hx0 hy1
  obtain ⟨z, hz9⟩ : ∃ z, gval gd ((l.drop 1).take ar) = z := ⟨_, rfl⟩
  rw [hz9] at HOF ⊢
  clear hz9
  obtain ⟨n2, hn2⟩ : ∃ n2, ar + 2 = n2 := ⟨_, rfl⟩
  have HN2 := Lib.hid hn2
  rw [hn2] at hlc HSL HVER ⊢
  obtain ⟨m1, hm1⟩ : ∃ m1, ar + 1 = m1 := ⟨_, rfl⟩
  have HM1 := Lib.hid hm1
  have hw1 : IntKind.i64.wrap ((n2 : Int) - 1) = (m1 : Int) := by rw [IntWalk.i64_in _ (by omega)]; omega
  have g1 : (0 : Int) ≤ (m1 : Int) := by omega
  have g2 : m1 ≤ c := by omega
  have g3 : 1 ≤ m1 := by omega
  have g4 : (m1 : Int) ≤ (c : Int) := by omega
  have g5 : m1 - 1 = ar := by omega
  have g6 : (1 : Int) ≤ (m1 : Int) := by omega
  have g7 : ¬ (c = 1) := by omega
  clear hA hrow hl hs hy hcl hga hn2 hm1
  go_enter Tryz.func36, Tryz.ntmps36
  go_upto_region 1 with fail
  have hyy := Vs.new w [.int .u8 K, .int .u8 f, .int .i64 B, .int .i64 NN, .int .i64 M, .int .i64 C] #[.int .u8 K, .int .u8 f, .int .i64 B, .int .i64 NN, .int .i64 M, .int .i64 C] 30 rfl
  have hb00 : Below w.heap.size w (w.alloc (.cells #[.int .u8 K, .int .u8 f, .int .i64 B, .int .i64 NN, .int .i64 M, .int .i64 C] 30)) := by repeat (first | exact Below.refl _ _ | with_reducible assumption | (refine bl_alloc ?_ (Nat.le_refl _) _))
  have hszn : w.heap.size + 1 ≤ (w.alloc (.cells #[.int .u8 K, .int .u8 f, .int .i64 B, .int .i64 NN, .int .i64 M, .int .i64 C] 30)).heap.size := by simp only [World.size_alloc]; omega
  generalize (w.alloc (.cells #[.int .u8 K, .int .u8 f, .int .i64 B, .int .i64 NN, .int .i64 M, .int .i64 C] 30)) = w1 at hyy hb00 hszn ⊢
  obtain ⟨⟨yy0, yy1, yy2, yy3, yy4, yy5⟩, ⟨yy6, yy7, yy8, yy9, yy10, yy11⟩, yy12⟩ := hyy.get6
  go_upto_region 2 with (go_at_call 48; refine (HCHK.out _).mono ?_; rintro e w2 ⟨rfl, hb2⟩)
  clear yy0 yy1 yy2 yy3 yy4 yy5 yy6 yy7 yy8 yy9 yy10 yy11 yy12
  replace hb00 := bl_call hb00 (Nat.le_refl _) hb2
  replace hyy := hyy.call hb2
  clear hb2
  obtain ⟨⟨yy0, yy1, yy2, yy3, yy4, yy5⟩, ⟨yy6, yy7, yy8, yy9, yy10, yy11⟩, yy12⟩ := hyy.get6
  go_upto_region 7 with (go_at_call 43; refine (HVER.out _).mono ?_; rintro e w3 ⟨rfl, hb3⟩)
  clear yy0 yy1 yy2 yy3 yy4 yy5 yy6 yy7 yy8 yy9 yy10 yy11 yy12
  replace hb00 := bl_call hb00 (Nat.le_refl _) hb3
  replace hyy := hyy.call hb3
  clear hb3
  have HYY := Lib.hid hyy
  have HB3 := Lib.hid hb00
  clear hyy
  apply region_Z2 (n := 13) (m := 14) (f := 13) (fun x0 x1 => (DeK w3 gd (.int .u64 (lo z)) (.int .u64 (hi z))) (some x0) (some x1) true) ((DeT w3 gd) none none) ((DeK w3 gd (.int .u64 (lo z)) (.int .u64 (hi z))) none none false) ((fun _ h => h.t)) (DeK.clo) ((DeK.start w3 gd _ _))
  case hm => kernel_rfl
  case hB => kernel_rfl
  case hf => rfl
  case' h =>
    refine WpX.takeD 0 (some 24) (v := ?_) rfl rfl (by kernel_rfl) (fun _ _ _ h => h) (.val rfl (fun wz hwz => ?_)) ?_
    rotate_left
    · (have hz := (HYY.out.call hwz.1).get6; obtain ⟨⟨z0, z1, z2, z3, z4, z5⟩, ⟨y0, y1, y2, y3, y4, y5⟩, y6⟩ := hz; go_simp; try (with_reducible rfl))
    simp only [Act.put, List.setIfInBounds_toArray, List.set_cons_succ, List.set_cons_zero]
    refine WpX.takeD 2 (some 26) (v := ?_) rfl rfl (by kernel_rfl) (fun _ _ _ h => h) (.val rfl (fun wz hwz => ?_)) ?_
    rotate_left
    · go_simp; try (with_reducible rfl)
    simp only [Act.put, List.setIfInBounds_toArray, List.set_cons_succ, List.set_cons_zero]
    refine WpX.takeD 3 (some 27) (v := ?_) rfl rfl (by kernel_rfl) (fun _ _ _ h => h) (.val rfl (fun wz hwz => ?_)) ?_
    rotate_left
    · (have hz := (HYY.out.call hwz.1).get6; obtain ⟨⟨z0, z1, z2, z3, z4, z5⟩, ⟨y0, y1, y2, y3, y4, y5⟩, y6⟩ := hz; go_simp; try (with_reducible rfl))
    simp only [Act.put, List.setIfInBounds_toArray, List.set_cons_succ, List.set_cons_zero]
    refine WpX.takeD 4 (some 28) (v := ?_) rfl rfl (by kernel_rfl) (fun _ _ _ h => h) (.val rfl (fun wz hwz => ?_)) ?_
    rotate_left
    · go_simp; try (with_reducible rfl)
    simp only [Act.put, List.setIfInBounds_toArray, List.set_cons_succ, List.set_cons_zero]
    refine WpX.takeD 5 (some 29) (v := ?_) rfl rfl (by kernel_rfl) (fun _ _ _ h => h) (.val rfl (fun wz hwz => ?_)) ?_
    rotate_left
    · go_simp; try (with_reducible rfl)
    simp only [Act.put, List.setIfInBounds_toArray, List.set_cons_succ, List.set_cons_zero]
    refine WpX.takeD 6 (some 30) (v := ?_) rfl rfl (by kernel_rfl) (fun _ _ _ h => h) (.val rfl (fun wz hwz => ?_)) ?_
    rotate_left
    · go_simp; try (with_reducible rfl)
    simp only [Act.put, List.setIfInBounds_toArray, List.set_cons_succ, List.set_cons_zero]
    refine WpX.twoD 1 11 (some 25) (some 8) rfl rfl rfl rfl (by kernel_rfl) (fun q : Int × Value × Int => Value.agg #[.int .u8 q.1, q.2.1, .int .i64 q.2.2]) (fun gq => (DeT w3 gd) (some gq) none) (fun gq => (DeK w3 gd (.int .u64 (lo z)) (.int .u64 (hi z))) (some gq) none false) (Turns.call rfl (fun _ _ h => ⟨h.1, fun _ e => (by cases e)⟩) (fun _ => (fun _ h => h.t)) (fun _ => DeK.clo) (fun wz hS => (HGAD.out wz).mono fun e w' ⟨k, sl, n, he, hr, hb, hn⟩ => ⟨(k, sl, n), he, hS.mk1 (k, sl, n) hr hb hn⟩) (fun wz hS => by go_simp; try (with_reducible rfl))) (fun b : Nat => Value.pointer (some ⟨b, 0, none⟩)) (fun xb => (DeT w3 gd) none (some xb)) (fun xb => (DeK w3 gd (.int .u64 (lo z)) (.int .u64 (hi z))) none (some xb) false) (Turns.val rfl (fun _ _ h => h) (fun _ => (fun _ h => h.t)) (fun _ => DeK.clo) (fun wz hS => ⟨wz.heap.size, wz.alloc (.cells #[.int .u64 0, .int .u64 0] 36), by go_simp; try (with_reducible rfl), hS.mk2⟩)) (fun gq => ?rz7_2a) (fun xb => ?rz7_2b)
    case' rz7_2a =>
      simp only [Act.put, List.setIfInBounds_toArray, List.set_cons_succ, List.set_cons_zero]
      refine WpX.takeD 7 (some 31) rfl rfl (by kernel_rfl) (fun _ _ _ h => h) (.call rfl (fun wz hwz => HOF.out wz gq.1 gq.2.1 gq.2.2 (hwz.2 gq rfl) (.slice (some ⟨b, o + 2, none⟩) ar (c - 1)) (HSLI.out wz (bl_call HB3.out (Nat.le_refl _) hwz.1))) (fun wz hwz => ?_)) ?_
      · go_simp; try (with_reducible rfl)
      simp only [Act.put, List.setIfInBounds_toArray, List.set_cons_succ, List.set_cons_zero]
      refine WpX.takeD 8 (some 23) (v := ?_) rfl rfl (by kernel_rfl) (fun _ _ _ h => h) (.val rfl (fun wz hwz => ?_)) ?_
      rotate_left
      · go_simp; try (with_reducible rfl)
      simp only [Act.put, List.setIfInBounds_toArray, List.set_cons_succ, List.set_cons_zero]
      refine WpX.takeD 9 (some 32) (v := ?_) rfl rfl (by kernel_rfl) (fun _ _ _ h => h) (.val rfl (fun wz hwz => ?_)) ?_
      rotate_left
      · go_simp; try (with_reducible rfl)
      simp only [Act.put, List.setIfInBounds_toArray, List.set_cons_succ, List.set_cons_zero]
      refine WpX.takeD 10 (some 33) (v := ?_) rfl rfl (by kernel_rfl) (fun _ _ _ h => h) (.val rfl (fun wz hwz => ?_)) ?_
      rotate_left
      · go_simp; try (with_reducible rfl)
      simp only [Act.put, List.setIfInBounds_toArray, List.set_cons_succ, List.set_cons_zero]
      refine WpX.oneD 11 (some 8) rfl rfl (by kernel_rfl) (fun b : Nat => Value.pointer (some ⟨b, 0, none⟩)) (fun xb => (DeT w3 gd) (some gq) (some xb)) (fun xb => (DeK w3 gd (.int .u64 (lo z)) (.int .u64 (hi z))) (some gq) (some xb) false) (Turns.val rfl (fun _ _ h => h) (fun _ => (fun _ h => h.t)) (fun _ => DeK.clo) (fun wz hS => ⟨wz.heap.size, wz.alloc (.cells #[.int .u64 0, .int .u64 0] 36), by go_simp; try (with_reducible rfl), hS.mk2⟩)) (fun xb => ?_)
      simp only [Act.put, List.setIfInBounds_toArray, List.set_cons_succ, List.set_cons_zero]
      refine WpX.oneSkip 12 none rfl rfl (by kernel_rfl) ((DeT w3 gd) (some gq) (some xb)) ((DeK w3 gd (.int .u64 (lo z)) (.int .u64 (hi z))) (some gq) (some xb) true) (fun _ h => h) ((fun _ h => h.t)) (DeK.clo) rfl (fun wz hS => ?_) ?_
      · (obtain ⟨c0, c1, c2, c3, c4⟩ := (hS.b xb rfl).2; exact ⟨_, by go_simp; try (with_reducible rfl), hS.put⟩)
      simp only [Act.put]
      refine WpX.done (by kernel_rfl) (fun w5 hS => ⟨gq, xb, rfl, ?_⟩)
      · exact hS
    case' rz7_2b =>
      simp only [Act.put, List.setIfInBounds_toArray, List.set_cons_succ, List.set_cons_zero]
      refine WpX.oneD 1 (some 25) rfl rfl (by kernel_rfl) (fun q : Int × Value × Int => Value.agg #[.int .u8 q.1, q.2.1, .int .i64 q.2.2]) (fun gq => (DeT w3 gd) (some gq) (some xb)) (fun gq => (DeK w3 gd (.int .u64 (lo z)) (.int .u64 (hi z))) (some gq) (some xb) false) (Turns.call rfl (fun _ _ h => ⟨h.1, fun _ e => (by cases e)⟩) (fun _ => (fun _ h => h.t)) (fun _ => DeK.clo) (fun wz hS => (HGAD.out wz).mono fun e w' ⟨k, sl, n, he, hr, hb, hn⟩ => ⟨(k, sl, n), he, hS.mk1 (k, sl, n) hr hb hn⟩) (fun wz hS => by go_simp; try (with_reducible rfl))) (fun gq => ?_)
      simp only [Act.put, List.setIfInBounds_toArray, List.set_cons_succ, List.set_cons_zero]
      refine WpX.takeD 7 (some 31) rfl rfl (by kernel_rfl) (fun _ _ _ h => h) (.call rfl (fun wz hwz => HOF.out wz gq.1 gq.2.1 gq.2.2 (hwz.2 gq rfl) (.slice (some ⟨b, o + 2, none⟩) ar (c - 1)) (HSLI.out wz (bl_call HB3.out (Nat.le_refl _) hwz.1))) (fun wz hwz => ?_)) ?_
      · go_simp; try (with_reducible rfl)
      simp only [Act.put, List.setIfInBounds_toArray, List.set_cons_succ, List.set_cons_zero]
      refine WpX.takeD 8 (some 23) (v := ?_) rfl rfl (by kernel_rfl) (fun _ _ _ h => h) (.val rfl (fun wz hwz => ?_)) ?_
      rotate_left
      · go_simp; try (with_reducible rfl)
      simp only [Act.put, List.setIfInBounds_toArray, List.set_cons_succ, List.set_cons_zero]
      refine WpX.takeD 9 (some 32) (v := ?_) rfl rfl (by kernel_rfl) (fun _ _ _ h => h) (.val rfl (fun wz hwz => ?_)) ?_
      rotate_left
      · go_simp; try (with_reducible rfl)
      simp only [Act.put, List.setIfInBounds_toArray, List.set_cons_succ, List.set_cons_zero]
      refine WpX.takeD 10 (some 33) (v := ?_) rfl rfl (by kernel_rfl) (fun _ _ _ h => h) (.val rfl (fun wz hwz => ?_)) ?_
      rotate_left
      · go_simp; try (with_reducible rfl)
      simp only [Act.put, List.setIfInBounds_toArray, List.set_cons_succ, List.set_cons_zero]
      refine WpX.oneSkip 12 none rfl rfl (by kernel_rfl) ((DeT w3 gd) (some gq) (some xb)) ((DeK w3 gd (.int .u64 (lo z)) (.int .u64 (hi z))) (some gq) (some xb) true) (fun _ h => h) ((fun _ h => h.t)) (DeK.clo) rfl (fun wz hS => ?_) ?_
      · (obtain ⟨c0, c1, c2, c3, c4⟩ := (hS.b xb rfl).2; exact ⟨_, by go_simp; try (with_reducible rfl), hS.put⟩)
      simp only [Act.put]
      refine WpX.done (by kernel_rfl) (fun w5 hS => ⟨gq, xb, rfl, ?_⟩)
      · exact hS
  intro gq xb w5 hS
  (try simp only [List.drop_succ_cons]); (try simp only [List.drop_zero]); (try simp only [Nat.reduceSub]); (try simp only [List.take_succ_cons]); (try simp only [List.take_zero])
  have hb5 := bl_call HB3.out (Nat.le_refl _) hS.t.1
  obtain ⟨hxb, hv5⟩ := hS.b xb rfl
  have HV5 := Lib.hid hv5
  have HB5 := Lib.hid hb5
  obtain ⟨hbl5, k0, k1, k2, k3⟩ := HXA.out w5 hb5
  rw [HM1.out] at k2 k3
  clear hS hv5 hb5
  have EQL : ∀ (a0 a1 b0 b1 : Int) (wz : World), (Op.equalIn 10000 36 (.agg #[.int .u64 a0, .int .u64 a1]) (.agg #[.int .u64 b0, .int .u64 b1])).run Tryz.prog wz = .ok (a0 == b0 && a1 == b1) wz := fun a0 a1 b0 b1 wz => run_equalIn_elem 9998 a0 a1 b0 b1 wz
  have e1 : (lo z == lo y1 && hi z == hi y1) = decide (z = y1) := vK_eq z y1
  have e0 : (lo x0 == 0 && hi x0 == 0) = decide (x0 = 0) := vK_eq0 x0
  have HN3 := HN2.out
  have HM3 := HM1.out
  obtain ⟨v0, v1, v2, v3, v4⟩ := V2.mk HV5.out.c0 HV5.out.c1 HV5.out.f0 HV5.out.f1 HV5.out.lt
  have hm2 : (m1 : Int) < (n2 : Int) := by omega
  have hn1 : 0 < n2 := by omega
  have hm3 : m1 < n2 := by omega
  clear HXA HOF HSLI HLA HGA HROW HLL HSL HCHK HGAD HVER HN3 HM3
  go_upto_region 10 with fail
  by_cases hx0 : x0 = 0
  · have e2 : decide (x0 = 0) = true := decide_eq_true hx0
    clear hx0
    refine region_B (n := 14) (m := 15) (f := 14) (by kernel_rfl) (by kernel_rfl) rfl ?_
    refine WpH.takeD 0 (some 37) (v := ?_) rfl rfl (by kernel_rfl) (fun _ _ _ h => h) (.val rfl (fun wz hwz => ?_)) ?_
    rotate_left
    · go_simp; try (with_reducible rfl)
    simp only [Act.put, List.setIfInBounds_toArray, List.set_cons_succ, List.set_cons_zero]
    refine WpH.takeD 1 (some 38) (v := ?_) rfl rfl (by kernel_rfl) (fun _ _ _ h => h) (.val rfl (fun wz hwz => ?_)) ?_
    rotate_left
    · go_simp; try (with_reducible rfl)
    simp only [Act.put, List.setIfInBounds_toArray, List.set_cons_succ, List.set_cons_zero]
    refine WpH.takeD 2 (some 39) (v := ?_) rfl rfl (by kernel_rfl) (fun _ _ _ h => h) (.val rfl (fun wz hwz => ?_)) ?_
    rotate_left
    · (obtain ⟨hcz, hfz⟩ := bcell hwz; go_simp; try (with_reducible rfl))
    simp only [Act.put, List.setIfInBounds_toArray, List.set_cons_succ, List.set_cons_zero]
    refine WpH.takeD 3 (some 40) (v := ?_) rfl rfl (by kernel_rfl) (fun _ _ _ h => h) (.val rfl (fun wz hwz => ?_)) ?_
    rotate_left
    · go_simp; try (with_reducible rfl)
    simp only [Act.put, List.setIfInBounds_toArray, List.set_cons_succ, List.set_cons_zero]
    refine WpH.takeD 4 (some 41) (v := ?_) rfl rfl (by kernel_rfl) (fun _ _ _ h => h) (.val rfl (fun wz hwz => ?_)) ?_
    rotate_left
    · go_simp; try (with_reducible rfl)
    simp only [Act.put, List.setIfInBounds_toArray, List.set_cons_succ, List.set_cons_zero]
    refine WpH.takeD 5 (some 42) (v := ?_) rfl rfl (by kernel_rfl) (fun _ _ _ h => h) (.val rfl (fun wz hwz => ?_)) ?_
    rotate_left
    · go_simp; try (with_reducible rfl)
    simp only [Act.put, List.setIfInBounds_toArray, List.set_cons_succ, List.set_cons_zero]
    refine WpH.takeD 6 (some 43) (v := ?_) rfl rfl (by kernel_rfl) (fun _ _ _ h => h) (.val rfl (fun wz hwz => ?_)) ?_
    rotate_left
    · (obtain ⟨hcz, hfz⟩ := bcell hwz; go_simp; try (with_reducible rfl))
    simp only [Act.put, List.setIfInBounds_toArray, List.set_cons_succ, List.set_cons_zero]
    refine WpH.takeD 7 (some 44) (v := ?_) rfl rfl (by kernel_rfl) (fun _ _ _ h => h) (.val rfl (fun wz hwz => ?_)) ?_
    rotate_left
    · go_simp; try (with_reducible rfl)
    simp only [Act.put, List.setIfInBounds_toArray, List.set_cons_succ, List.set_cons_zero]
    refine WpH.takeD 8 (some 45) (v := ?_) rfl rfl (by kernel_rfl) (fun _ _ _ h => h) (.val rfl (fun wz hwz => ?_)) ?_
    rotate_left
    · go_simp; try (with_reducible rfl)
    simp only [Act.put, List.setIfInBounds_toArray, List.set_cons_succ, List.set_cons_zero]
    refine WpH.takeD 9 (some 46) (v := ?_) rfl rfl (by kernel_rfl) (fun _ _ _ h => h) (.val rfl (fun wz hwz => ?_)) ?_
    rotate_left
    · go_simp; try (with_reducible rfl)
    simp only [Act.put, List.setIfInBounds_toArray, List.set_cons_succ, List.set_cons_zero]
    refine WpH.takeD 10 (some 47) (v := ?_) rfl rfl (by kernel_rfl) (fun _ _ _ h => h) (.val rfl (fun wz hwz => ?_)) ?_
    rotate_left
    · (obtain ⟨hcz, hfz⟩ := bcell hwz; go_simp; try (with_reducible rfl))
    simp only [Act.put, List.setIfInBounds_toArray, List.set_cons_succ, List.set_cons_zero]
    refine WpH.takeD 11 (some 48) (v := ?_) rfl rfl (by kernel_rfl) (fun _ _ _ h => h) (.val rfl (fun wz hwz => ?_)) ?_
    rotate_left
    · go_simp; try (with_reducible rfl)
    simp only [Act.put, List.setIfInBounds_toArray, List.set_cons_succ, List.set_cons_zero]
    refine WpH.takeD 12 (some 49) (v := ?_) rfl rfl (by kernel_rfl) (fun _ _ _ h => h) (.val rfl (fun wz hwz => ?_)) ?_
    rotate_left
    · go_simp; try (with_reducible rfl)
    simp only [Act.put, List.setIfInBounds_toArray, List.set_cons_succ, List.set_cons_zero]
    refine WpH.takeD 13 (some 4) (v := ?_) rfl rfl (by kernel_rfl) (fun _ _ _ h => h) (.val rfl (fun wz hwz => ?_)) ?_
    rotate_left
    · go_simp; try (with_reducible rfl)
    simp only [Act.put, List.setIfInBounds_toArray, List.set_cons_succ, List.set_cons_zero]
    refine WpH.doneB (by kernel_rfl) (fun w6 hw6 => ?_)
    (try simp only [List.drop_succ_cons]); (try simp only [List.drop_zero]); (try simp only [Nat.reduceSub]); (try simp only [List.take_succ_cons]); (try simp only [List.take_zero])
    go_wp2_with fail
    go_ret2
    exact ⟨by first | rfl | (simp [e2]; done) | (rw [e2]; rfl), bl_call HB5.out (Nat.le_refl _) hw6⟩
  · have e2 : decide (x0 = 0) = false := decide_eq_false hx0
    clear hx0
    refine region_B (n := 14) (m := 15) (f := 14) (by kernel_rfl) (by kernel_rfl) rfl ?_
    refine WpH.takeD 0 (some 37) (v := ?_) rfl rfl (by kernel_rfl) (fun _ _ _ h => h) (.val rfl (fun wz hwz => ?_)) ?_
    rotate_left
    · go_simp; try (with_reducible rfl)
    simp only [Act.put, List.setIfInBounds_toArray, List.set_cons_succ, List.set_cons_zero]
    refine WpH.takeD 1 (some 38) (v := ?_) rfl rfl (by kernel_rfl) (fun _ _ _ h => h) (.val rfl (fun wz hwz => ?_)) ?_
    rotate_left
    · go_simp; try (with_reducible rfl)
    simp only [Act.put, List.setIfInBounds_toArray, List.set_cons_succ, List.set_cons_zero]
    refine WpH.takeD 2 (some 39) (v := ?_) rfl rfl (by kernel_rfl) (fun _ _ _ h => h) (.val rfl (fun wz hwz => ?_)) ?_
    rotate_left
    · (obtain ⟨hcz, hfz⟩ := bcell hwz; go_simp; try (with_reducible rfl))
    simp only [Act.put, List.setIfInBounds_toArray, List.set_cons_succ, List.set_cons_zero]
    refine WpH.takeD 3 (some 40) (v := ?_) rfl rfl (by kernel_rfl) (fun _ _ _ h => h) (.val rfl (fun wz hwz => ?_)) ?_
    rotate_left
    · go_simp; try (with_reducible rfl)
    simp only [Act.put, List.setIfInBounds_toArray, List.set_cons_succ, List.set_cons_zero]
    refine WpH.takeD 4 (some 41) (v := ?_) rfl rfl (by kernel_rfl) (fun _ _ _ h => h) (.val rfl (fun wz hwz => ?_)) ?_
    rotate_left
    · go_simp; try (with_reducible rfl)
    simp only [Act.put, List.setIfInBounds_toArray, List.set_cons_succ, List.set_cons_zero]
    refine WpH.takeD 5 (some 42) (v := ?_) rfl rfl (by kernel_rfl) (fun _ _ _ h => h) (.val rfl (fun wz hwz => ?_)) ?_
    rotate_left
    · go_simp; try (with_reducible rfl)
    simp only [Act.put, List.setIfInBounds_toArray, List.set_cons_succ, List.set_cons_zero]
    refine WpH.takeD 6 (some 43) rfl rfl (by kernel_rfl) (fun _ _ _ h => h) (.skip rfl) ?_
    simp only [Act.put, List.setIfInBounds_toArray, List.set_cons_succ, List.set_cons_zero]
    refine WpH.takeD 7 (some 44) rfl rfl (by kernel_rfl) (fun _ _ _ h => h) (.skip rfl) ?_
    simp only [Act.put, List.setIfInBounds_toArray, List.set_cons_succ, List.set_cons_zero]
    refine WpH.takeD 8 (some 45) rfl rfl (by kernel_rfl) (fun _ _ _ h => h) (.skip rfl) ?_
    simp only [Act.put, List.setIfInBounds_toArray, List.set_cons_succ, List.set_cons_zero]
    refine WpH.takeD 9 (some 46) rfl rfl (by kernel_rfl) (fun _ _ _ h => h) (.skip rfl) ?_
    simp only [Act.put, List.setIfInBounds_toArray, List.set_cons_succ, List.set_cons_zero]
    refine WpH.takeD 10 (some 47) rfl rfl (by kernel_rfl) (fun _ _ _ h => h) (.skip rfl) ?_
    simp only [Act.put, List.setIfInBounds_toArray, List.set_cons_succ, List.set_cons_zero]
    refine WpH.takeD 11 (some 48) rfl rfl (by kernel_rfl) (fun _ _ _ h => h) (.skip rfl) ?_
    simp only [Act.put, List.setIfInBounds_toArray, List.set_cons_succ, List.set_cons_zero]
    refine WpH.takeD 12 (some 49) (v := ?_) rfl rfl (by kernel_rfl) (fun _ _ _ h => h) (.val rfl (fun wz hwz => ?_)) ?_
    rotate_left
    · go_simp; try (with_reducible rfl)
    simp only [Act.put, List.setIfInBounds_toArray, List.set_cons_succ, List.set_cons_zero]
    refine WpH.takeD 13 (some 4) (v := ?_) rfl rfl (by kernel_rfl) (fun _ _ _ h => h) (.val rfl (fun wz hwz => ?_)) ?_
    rotate_left
    · go_simp; try (with_reducible rfl)
    simp only [Act.put, List.setIfInBounds_toArray, List.set_cons_succ, List.set_cons_zero]
    refine WpH.doneB (by kernel_rfl) (fun w6 hw6 => ?_)
    (try simp only [List.drop_succ_cons]); (try simp only [List.drop_zero]); (try simp only [Nat.reduceSub]); (try simp only [List.take_succ_cons]); (try simp only [List.take_zero])
    go_wp2_with fail
    go_ret2
    exact ⟨by first | rfl | (simp [e2]; done) | (rw [e2]; rfl), bl_call HB5.out (Nat.le_refl _) hw6⟩
end

end Go.Proofs.YtfbfbijkkbflkaaGreatDoor

namespace Go.Proofs.YtfbfbijkkbflkaaGreatDoor
open Go.RowKit Fm
set_option linter.unusedVariables false
set_option maxRecDepth 100000

def cntC (hit : Nat → Bool) (i : Nat) : Nat := ((List.range i).filter hit).length
theorem cntC_succ (hit : Nat → Bool) (i : Nat) : cntC hit (i + 1) = cntC hit i + (if hit i = true then 1 else 0) := by
  unfold cntC
  rw [List.range_succ, List.filter_append, List.length_append]
  cases h : hit i <;> simp [h]
set_option maxHeartbeats 16000000 in
theorem walk_ProofForged (large : Bool) (a fr : Int) (vp : Value) (ps : List E) (w : World) (hT : TabW w) (ha : 0 ≤ a ∧ a ≤ 18446744073709551615) (hps : SlE w w.heap.size vp ps) (hfr : 0 ≤ fr ∧ fr ≤ 18446744073709551615) :
    Calls Tryz.prog 8 #[.bool large, .int .u64 a, vp, .int .u64 fr] w fun e w' => e = .returned (.bool true) ∧ Below w.heap.size w w' := by
  obtain ⟨F, hF, hlg⟩ : ∃ F : Nat, IsF F ∧ ((large = false ∧ F = 1) ∨ (large = true ∧ F = 2)) := by
    cases large
    · exact ⟨1, isF1, .inl ⟨rfl, rfl⟩⟩
    · exact ⟨2, isF2, .inr ⟨rfl, rfl⟩⟩
  have HAW : Hid (∀ wz, Below w.heap.size w wz → Calls Tryz.prog 10 #[] wz fun e w' => e = .returned (.bool true) ∧ Below wz.heap.size wz w') := fun wz h => law11_Awake wz (hT.call h)
  obtain ⟨z, hz⟩ : ∃ z, kL F a 0 = z := ⟨_, rfl⟩
  have HOF : Hid (∀ wz, Calls Tryz.prog 44 #[.int .i64 (F : Int), .agg #[.int .u64 a, .int .u64 0]] wz (RetK z wz)) := fun wz => by
    rw [← hz]
    exact ref_OfL hF a 0 wz ha.1 ha.2 (by omega) (by omega)
  have hN : nextP (CK.count.calls + 1) = 2 ^ 1 := by decide
  have HPRF : Hid (∀ wz, Calls Tryz.prog 21 #[.agg #[.int .u8 1, .int .u8 (F : Int), .int .i64 0, .int .i64 0, .int .i64 0, .int .i64 0]] wz (RetI 5 wz)) := fun wz => circuit_Proof hF .count trivial (by decide) wz
  have HSOM : Hid (∀ wz, Below w.heap.size w wz → Calls Tryz.prog 20 #[.agg #[.int .u8 1, .int .u8 (F : Int), .int .i64 0, .int .i64 0, .int .i64 0, .int .i64 0], vp, .int .i64 5, .int .i64 1] wz fun e w' => ∃ q : Nat × KL F, e = .returned (.slice (some ⟨q.1, 0, none⟩) 5 5) ∧ (q.2.length = 5 ∧ wz.heap.size ≤ q.1 ∧ BlkE w' q.1 (esK q.2)) ∧ Below wz.heap.size wz w') :=
    fun wz hb => (law11_someA hF .count 5 1 (by omega) (by omega) vp ps wz ((hps.below hb).mono hb.size)).mono fun e w' ⟨g, zs, h1, h2, h3, h4, h5⟩ => ⟨(g, zs), h2, ⟨h1, h4, h3⟩, h5⟩
  have HOUT : Hid (∀ wz (n : Nat), n ≤ 2000 → Below w.heap.size w wz → Calls Tryz.prog 23 #[.agg #[.int .u8 1, .int .u8 (F : Int), .int .i64 0, .int .i64 0, .int .i64 0, .int .i64 0], .agg #[.int .u64 (n : Nat), .int .u64 0]] wz fun e w' => e = .returned (.tuple #[vK (nK F n), .bool (!decide (Fm.kpow (nK F n) (2 ^ 1) = 1))]) ∧ Below wz.heap.size wz w') := fun wz n hn h => by
    have h2 := law11_outside hF .count trivial (by decide) 1 (by omega) hN (n : Int) 0 (by omega) (by omega) (by omega) (by omega) wz (hT.call h)
    rwa [any_pow (by omega)] at h2
  have HQY : Hid (∀ (wz : World) (n gv gp : Nat) (p : KL F), Fm.kpow (nK F n) (2 ^ 1) ≠ 1 → Below w.heap.size w wz → gv ≠ gp → p.length = 5 → BlkE wz gv (esK [z]) → BlkE wz gp (esK p) →
      Calls Tryz.prog 24 #[.agg #[.int .u8 1, .int .u8 (F : Int), .int .i64 0, .int .i64 0, .int .i64 0, .int .i64 0], .slice (some ⟨gv, 0, none⟩) 1 1, .slice (some ⟨gp, 0, none⟩) 5 5, .slice none 0 0, .agg #[.int .u64 (lo (nK F n)), .int .u64 (hi (nK F n))], .int .i64 1] wz fun e w' =>
        ∃ q : Option Addr × Nat, e = .returned (.tuple #[.slice q.1 4 q.2, .int .i64 0]) ∧ SlK w' w'.heap.size (.slice q.1 4 q.2) (qryL .count 1 [z] [] 1 p (nK F n)) ∧ Below wz.heap.size wz w') := fun wz n gv gp p h1 hb n1 hp bv bp => by
    have h := proof_Query hF .count trivial (by decide) 1 (by omega) hN 1 (.inl rfl) [z] p [] rfl rfl hp (nK F n) (.slice (some ⟨gv, 0, none⟩) 1 1) (.slice none 0 0) gp 0 5 wz (hT.call hb)
      (SlX.of rfl (Nat.le_refl _) (by omega) bv.lt n1 bv.rowE) (SlX.nilX _ wz) (bp.slM hp (by decide))
    rw [nK_one, kinv_one] at h
    refine h.mono ?_
    rintro e w' (⟨h, _⟩ | ⟨_, q, he, hs, hb'⟩)
    · exact absurd h h1
    · rw [qryL_length] at he hs
      exact ⟨q, he, hs, hb'⟩
  have HDEC : Hid (∀ (wz : World) (vz : Value) (p : KL F) (x : Fin (Pm F)), SlK wz wz.heap.size vz (qryL .count 1 [z] [] 1 p x) →
      Calls Tryz.prog 36 #[.agg #[.int .u8 1, .int .u8 (F : Int), .int .i64 0, .int .i64 0, .int .i64 0, .int .i64 0], vz] wz fun e w' => e = .returned (.tuple #[.bool (decC z p x), .int .i64 0]) ∧ Below wz.heap.size wz w') := fun wz vz p x hz => proof_Decide hF .count trivial (by decide) vz _ (qryL_length ..) wz hz
  have HBND : Hid (∀ wz, Calls Tryz.prog 45 #[.agg #[.int .u8 1, .int .u8 (F : Int), .int .i64 0, .int .i64 0, .int .i64 0, .int .i64 0]] wz fun e w' => e = .returned (.int .i64 2) ∧ Below wz.heap.size wz w') := fun wz => proof_Bound hF .count trivial (by decide) (2 ^ 1) hN wz
  have HCNT : Hid (z ≠ 0 → z ≠ 1 → ∀ (p : KL F) (r : Nat) (hit : Nat → Bool), p.length = 5 → r < 1000 → (∀ i, i < 12 → hit i = true → decC z p (nK F (r + i + 2)) = true) → cntC hit 12 ≤ 2) := fun h0 h1 p r hit hp hr hh => forged_count hF z h0 h1 p hp r hr hit hh
  have hc1 : lo (1 : Fin (Pm F)) = 1 ∧ hi (1 : Fin (Pm F)) = 0 := by
    have h := Prod.mk.inj (eK_nK hF (n := 1) (by omega))
    rw [nK_one] at h
    exact h
  have e0 : (lo z == 0 && hi z == 0) = decide (z = 0) := vK_eq0 z
  have e1 : (lo z == 1 && hi z == 0) = decide (z = 1) := by
    have h := vK_eq z 1
    rwa [hc1.1, hc1.2] at h
  have EQL : ∀ (a0 a1 b0 b1 : Int) (wz : World), (Op.equalIn 10000 36 (.agg #[.int .u64 a0, .int .u64 a1]) (.agg #[.int .u64 b0, .int .u64 b1])).run Tryz.prog wz = .ok (a0 == b0 && a1 == b1) wz := fun a0 a1 b0 b1 wz => run_equalIn_elem 9998 a0 a1 b0 b1 wz
  obtain ⟨⟨Ap, cp, rfl, _, _, _⟩, _⟩ := id hps
  obtain ⟨fn, rfl⟩ : ∃ q : Nat, fr = (q : Int) := ⟨fr.toNat, by omega⟩
  obtain ⟨r, hr⟩ : ∃ r, fn % 1000 = r := ⟨_, rfl⟩
  have hr1 : r < 1000 := by rw [← hr]; exact Nat.mod_lt _ (by omega)
  have hrd : (fn : Int).tmod 1000 = (r : Int) := by rw [Int.tmod_eq_emod_of_nonneg (by omega)]; omega
  have hfb0 : (1 : Int) ≤ (F : Int) := by rcases hF.or with rfl | rfl <;> omega
  have hfb1 : (F : Int) ≤ 2 := by rcases hF.or with rfl | rfl <;> omega
  have hwf : IntKind.i64.wrap (F : Int) = (F : Int) := IntWalk.i64_in _ (by omega)
  clear hz hc1 hr hps ha hfr hT hN
  have hb00 : Below w.heap.size w w := Below.refl _ _
  go_enter Tryz.func8, Tryz.ntmps8
  go_upto_region 4 with (first
    | (go_at_call 10; refine (HAW.out _ hb00).mono ?_; rintro e w2 ⟨rfl, hb2⟩; replace hb00 := bl_call hb00 (Nat.le_refl _) hb2))
  clear hb2
  have hyb := hb00.size
  have hY := Vs.new w2 [.int .u8 1, .int .u8 1, .int .i64 0, .int .i64 0, .int .i64 0, .int .i64 0] #[.int .u8 1, .int .u8 1, .int .i64 0, .int .i64 0, .int .i64 0, .int .i64 0] 30 rfl
  have hbA : Below w2.heap.size w2 (w2.alloc (.cells #[.int .u8 1, .int .u8 1, .int .i64 0, .int .i64 0, .int .i64 0, .int .i64 0] 30)) := by repeat (first | exact Below.refl _ _ | with_reducible assumption | (refine bl_alloc ?_ (Nat.le_refl _) _))
  replace hb00 := bl_call hb00 (Nat.le_refl _) hbA
  clear hbA
  generalize w2.alloc (.cells #[.int .u8 1, .int .u8 1, .int .i64 0, .int .i64 0, .int .i64 0, .int .i64 0] 30) = w3 at hb00 hY ⊢
  obtain ⟨yb, hybe⟩ : ∃ q, w2.heap.size = q := ⟨_, rfl⟩
  rw [hybe] at hY hyb
  simp only [hybe]
  clear hybe
  rcases hlg with ⟨rfl, h⟩ | ⟨rfl, h⟩
  · have hF1 : ((F : Nat) : Int) = 1 := by omega
    replace hY : Vs w3 yb [.int .u8 1, .int .u8 (F : Int), .int .i64 0, .int .i64 0, .int .i64 0, .int .i64 0] := by rw [hF1]; exact hY
    clear hF1 h
    obtain ⟨⟨Y0, Y1, Y2, Y3, Y4, Y5⟩, ⟨Y6, Y7, Y8, Y9, Y10, Y11⟩, Y12⟩ := hY.get6
    go_upto_region 7 with (first
      | (go_at_call 44; refine (HOF.out _).mono ?_; rintro e w5 ⟨rfl, hb5⟩; replace hb00 := bl_call hb00 (Nat.le_refl _) hb5; replace hY := hY.call hb5; clear Y0 Y1 Y2 Y3 Y4 Y5 Y6 Y7 Y8 Y9 Y10 Y11 Y12; clear hb5; obtain ⟨⟨Y0, Y1, Y2, Y3, Y4, Y5⟩, ⟨Y6, Y7, Y8, Y9, Y10, Y11⟩, Y12⟩ := hY.get6))
    clear Y0 Y1 Y2 Y3 Y4 Y5 Y6 Y7 Y8 Y9 Y10 Y11 Y12
    have hBI : BlkE (w5.alloc (.cells #[.int .u64 (lo z), .int .u64 (hi z)] 36)) w5.heap.size (esK [z]) := heap_alloc_new w5 _
    have hbA : Below w5.heap.size w5 (w5.alloc (.cells #[.int .u64 (lo z), .int .u64 (hi z)] 36)) := (Below.refl _ _).alloc (Nat.le_refl _) _
    replace hb00 := bl_call hb00 (Nat.le_refl _) hbA
    replace hY := hY.call hbA
    obtain ⟨gi, hgie⟩ : ∃ q, w5.heap.size = q := ⟨_, rfl⟩
    generalize w5.alloc (.cells #[.int .u64 (lo z), .int .u64 (hi z)] 36) = w6 at *
    clear hbA
    rw [hgie] at hBI
    simp only [hgie]
    clear hgie
    have lgi := hBI.lt
    have k0 : w6.cell? ⟨gi, 0, none⟩ = some (.int .u64 (lo z)) := (hBI.rowE.kat (l := [z]) (i := 0) rfl).1
    have k1 : w6.cell? ⟨gi, 1, none⟩ = some (.int .u64 (hi z)) := (hBI.rowE.kat (l := [z]) (i := 0) rfl).2
    by_cases hz0 : z = 0
    · have f0 : decide (z = 0) = true := decide_eq_true hz0
      clear hz0
      go_wp2_with fail
      go_ret
      exact ⟨rfl, hb00⟩
    have f0 : decide (z = 0) = false := decide_eq_false hz0
    by_cases hz1 : z = 1
    · have f1 : decide (z = 1) = true := decide_eq_true hz1
      clear hz1 hz0
      go_wp2_with fail
      go_ret
      exact ⟨rfl, hb00⟩
    have f1 : decide (z = 1) = false := decide_eq_false hz1
    have HCN := Lib.hid (HCNT.out hz0 hz1)
    clear hz0 hz1 HCNT
    go_upto_region 9 with fail
    clear k0 k1 e0 e1 f0 f1
    obtain ⟨⟨Y0, Y1, Y2, Y3, Y4, Y5⟩, ⟨Y6, Y7, Y8, Y9, Y10, Y11⟩, Y12⟩ := hY.get6
    refine region_G (n := 5) (m := 6) (f := 5) (by kernel_rfl) (by kernel_rfl) rfl ?_
    refine WpG.takeD 0 (some 44) (v := ?_) rfl rfl (by kernel_rfl) (fun _ _ _ h => h) (.val rfl (fun wz hwz => ?_)) ?_
    rotate_left
    · (obtain ⟨hcz, hfz⟩ := bcell (hwz); go_simp; try (with_reducible rfl))
    simp only [Act.put, List.setIfInBounds_toArray, List.set_cons_succ, List.set_cons_zero]
    refine WpG.takeD 1 (some 45) (v := ?_) rfl rfl (by kernel_rfl) (fun _ _ _ h => h) (.val rfl (fun wz hwz => ?_)) ?_
    rotate_left
    · go_simp; try (with_reducible rfl)
    simp only [Act.put, List.setIfInBounds_toArray, List.set_cons_succ, List.set_cons_zero]
    refine WpG.takeD 2 (some 46) (v := ?_) rfl rfl (by kernel_rfl) (fun _ _ _ h => h) (.val rfl (fun wz hwz => ?_)) ?_
    rotate_left
    · (obtain ⟨hcz, hfz⟩ := bcell (hwz); go_simp; try (with_reducible rfl))
    simp only [Act.put, List.setIfInBounds_toArray, List.set_cons_succ, List.set_cons_zero]
    refine WpG.takeD 3 (some 47) rfl rfl (by kernel_rfl) (fun _ _ _ h => h) (.call rfl (fun wz hwz => HPRF.out wz) (fun wz hwz => ?_)) ?_
    · go_simp; try (with_reducible rfl)
    simp only [Act.put, List.setIfInBounds_toArray, List.set_cons_succ, List.set_cons_zero]
    refine WpG.oneD 4 (some 48) rfl rfl (by kernel_rfl) (fun q : Nat × KL F => Value.slice (some ⟨q.1, 0, none⟩) 5 5) (fun q wz => q.2.length = 5 ∧ w6.heap.size ≤ q.1 ∧ BlkE wz q.1 (esK q.2)) (fun _ _ _ h hb => ⟨h.1, h.2.1, h.2.2.call hb⟩) (Fresh.call rfl (fun wz hwz => (HSOM.out wz (bl_call hb00 (Nat.le_refl _) (hwz))).mono fun e w' ⟨q, h1, ⟨h2, h3, h4⟩, h5⟩ => ⟨q, h1, ⟨h2, Nat.le_trans (hwz).size h3, h4⟩, h5⟩) (fun wz hwz => by go_simp; try (with_reducible rfl))) (fun qp w0p hw0p hR0p => ?_)
    simp only [Act.put, List.setIfInBounds_toArray, List.set_cons_succ, List.set_cons_zero]
    obtain ⟨gp, p⟩ := qp; dsimp only
    refine WpG.done (by kernel_rfl) (fun w7 hS => ?_)
    (try simp only [List.drop_succ_cons]); (try simp only [List.drop_zero]); (try simp only [Nat.reduceSub]); (try simp only [List.take_succ_cons]); (try simp only [List.take_zero])
    obtain ⟨hb7, hpl, hgp, hBP⟩ := hS
    try dsimp only at hpl hgp hBP
    clear Y0 Y1 Y2 Y3 Y4 Y5 Y6 Y7 Y8 Y9 Y10 Y11 Y12
    replace hb00 := bl_call hb00 (Nat.le_refl _) hb7
    replace hY := hY.call hb7
    replace hBI := hBI.call hb7
    have HPL := Lib.hid hpl
    have hgg : gi ≠ gp := by omega
    obtain ⟨hit, hhit⟩ : ∃ hit : Nat → Bool, hit = fun i => !decide (Fm.kpow (nK F (r + i + 2)) (2 ^ 1) = 1) && decC z p (nK F (r + i + 2)) := ⟨_, rfl⟩
    have HC12 : Hid (cntC hit 12 ≤ 2) := HCN.out p r hit hpl hr1 fun i _ h => by
      rw [hhit] at h
      exact (Bool.and_eq_true_iff.1 h).2
    have HHIT : Hid (∀ i, hit i = (!decide (Fm.kpow (nK F (r + i + 2)) (2 ^ 1) = 1) && decC z p (nK F (r + i + 2)))) := fun i => by rw [hhit]
    have hc0 : Hid (0 = cntC hit 0) := rfl
    clear hb7 hpl hgp lgi hhit HCN HSOM HPRF
    go_upto_region 11 with fail
    go_wp2_with fail
    go_loopw [12, 49] (fun v12 v49 wr => ∃ (i c : Nat), i ≤ 12 ∧ v49 = .int .u64 i ∧ v12 = .int .i64 c ∧ Hid (c = cntC hit i) ∧ c ≤ i ∧ Vs wr yb [.int .u8 1, .int .u8 (F : Int), .int .i64 0, .int .i64 0, .int .i64 0, .int .i64 0] ∧ BlkE wr gi (esK [z]) ∧ BlkE wr gp (esK p) ∧ Below w.heap.size w wr) (fun _ v49 _ => 12 - (intOf v49).toNat)
    case atStart => exact ⟨0, 0, by omega, rfl, rfl, hc0, by omega, hY, hBI, hBP, hb00⟩
    case round =>
      clear hY hBI hBP hb00 hc0
      obtain ⟨i, c, hi12, rfl, rfl, hcc, hci, hY, hBI, hBP, hb00⟩ := hrel
      by_cases hlt : i < 12
      · obtain ⟨s1, hs1⟩ : ∃ q, r + i = q := ⟨_, rfl⟩
        obtain ⟨n9, hn9⟩ : ∃ q, s1 + 2 = q := ⟨_, rfl⟩
        have hu1 : IntKind.u64.wrap ((r : Int) + (i : Int)) = (s1 : Int) := by rw [IntWalk.u64_in _ (by omega)]; omega
        have hu2 : IntKind.u64.wrap ((s1 : Int) + 2) = (n9 : Int) := by rw [IntWalk.u64_in _ (by omega)]; omega
        have hn2 : n9 ≤ 2000 := by omega
        have HHI : Hid (hit i = (!decide (Fm.kpow (nK F n9) (2 ^ 1) = 1) && decC z p (nK F n9))) := by
          have h := HHIT.out i
          rw [show r + i + 2 = n9 by omega] at h
          exact h
        have HCS := Lib.hid (cntC_succ hit i)
        clear hs1 hn9
        obtain ⟨⟨Y0, Y1, Y2, Y3, Y4, Y5⟩, ⟨Y6, Y7, Y8, Y9, Y10, Y11⟩, Y12⟩ := hY.get6
        go_upto_region 15 with (first
          | (go_at_call 23; refine (HOUT.out _ n9 hn2 hb00).mono ?_; rintro e w8 ⟨rfl, hb8⟩; replace hb00 := bl_call hb00 (Nat.le_refl _) hb8; replace hY := hY.call hb8; replace hBI := hBI.call hb8; replace hBP := hBP.call hb8; clear Y0 Y1 Y2 Y3 Y4 Y5 Y6 Y7 Y8 Y9 Y10 Y11 Y12; clear hb8; obtain ⟨⟨Y0, Y1, Y2, Y3, Y4, Y5⟩, ⟨Y6, Y7, Y8, Y9, Y10, Y11⟩, Y12⟩ := hY.get6))
        clear Y0 Y1 Y2 Y3 Y4 Y5 Y6 Y7 Y8 Y9 Y10 Y11 Y12
        have hpt := V2.new w8 (.int .u64 (lo (nK F n9))) (.int .u64 (hi (nK F n9))) 36
        have hbA : Below w8.heap.size w8 (w8.alloc (.cells #[.int .u64 (lo (nK F n9)), .int .u64 (hi (nK F n9))] 36)) := by repeat (first | exact Below.refl _ _ | with_reducible assumption | (refine bl_alloc ?_ (Nat.le_refl _) _))
        replace hb00 := bl_call hb00 (Nat.le_refl _) hbA
        replace hY := hY.call hbA
        replace hBI := hBI.call hbA
        replace hBP := hBP.call hbA
        clear hbA
        generalize w8.alloc (.cells #[.int .u64 (lo (nK F n9)), .int .u64 (hi (nK F n9))] 36) = w9 at hb00 hY hBI hBP hpt ⊢
        clear hu1 hu2
        by_cases hx1 : Fm.kpow (nK F n9) (2 ^ 1) = 1
        · have hdx : decide (Fm.kpow (nK F n9) (2 ^ 1) = 1) = true := decide_eq_true hx1
          have hno : Hid (c = cntC hit (i + 1)) := by
            show c = _
            rw [HCS.out, HHI.out, hdx]
            exact hcc.out
          clear hx1
          go_wp2_with fail
          go_roundw
          case rel => exact ⟨i + 1, c, by omega, by go_num, rfl, hno, by omega, hY, hBI, hBP, hb00⟩
          case measure => simp [intOf]; omega
        · have hdx : decide (Fm.kpow (nK F n9) (2 ^ 1) = 1) = false := decide_eq_false hx1
          have HQ := Lib.hid (fun wz hb b1 b2 => HQY.out wz n9 gi gp p hx1 hb hgg HPL.out b1 b2)
          clear hx1
          obtain ⟨⟨Y0, Y1, Y2, Y3, Y4, Y5⟩, ⟨Y6, Y7, Y8, Y9, Y10, Y11⟩, Y12⟩ := hY.get6
          obtain ⟨pt0, pt1, pt2, pt3, pt4⟩ := V2.mk hpt.c0 hpt.c1 hpt.f0 hpt.f1 hpt.lt
          go_upto_region 17 with (first
            | (go_at_call 24; refine (HQ.out _ hb00 hBI hBP).mono ?_; rintro e w10 ⟨qz, rfl, hZ, hb10⟩; replace hb00 := bl_call hb00 (Nat.le_refl _) hb10; replace hY := hY.call hb10; replace hBI := hBI.call hb10; replace hBP := hBP.call hb10; clear Y0 Y1 Y2 Y3 Y4 Y5 Y6 Y7 Y8 Y9 Y10 Y11 Y12; clear hb10; obtain ⟨⟨Y0, Y1, Y2, Y3, Y4, Y5⟩, ⟨Y6, Y7, Y8, Y9, Y10, Y11⟩, Y12⟩ := hY.get6))
          clear Y0 Y1 Y2 Y3 Y4 Y5 Y6 Y7 Y8 Y9 Y10 Y11 Y12
          clear pt0 pt1 pt2 pt3 pt4 hpt HQ
          obtain ⟨za, zc⟩ := qz
          try dsimp only at hZ ⊢
          obtain ⟨⟨Y0, Y1, Y2, Y3, Y4, Y5⟩, ⟨Y6, Y7, Y8, Y9, Y10, Y11⟩, Y12⟩ := hY.get6
          go_upto_region 20 with (first
            | (go_at_call 36; refine (HDEC.out _ _ p (nK F n9) hZ).mono ?_; rintro e w11 ⟨rfl, hb11⟩; replace hb00 := bl_call hb00 (Nat.le_refl _) hb11; replace hY := hY.call hb11; replace hBI := hBI.call hb11; replace hBP := hBP.call hb11; clear Y0 Y1 Y2 Y3 Y4 Y5 Y6 Y7 Y8 Y9 Y10 Y11 Y12; clear hb11; obtain ⟨⟨Y0, Y1, Y2, Y3, Y4, Y5⟩, ⟨Y6, Y7, Y8, Y9, Y10, Y11⟩, Y12⟩ := hY.get6))
          clear Y0 Y1 Y2 Y3 Y4 Y5 Y6 Y7 Y8 Y9 Y10 Y11 Y12
          clear hZ
          cases hd : decC z p (nK F n9)
          · have hno : Hid (c = cntC hit (i + 1)) := by
              show c = _
              rw [HCS.out, HHI.out, hdx, hd]
              exact hcc.out
            clear hdx
            go_wp2_with fail
            go_roundw
            case rel => exact ⟨i + 1, c, by omega, by go_num, rfl, hno, by omega, hY, hBI, hBP, hb00⟩
            case measure => simp [intOf]; omega
          · have hyes : Hid (c + 1 = cntC hit (i + 1)) := by
              show c + 1 = _
              rw [HCS.out, HHI.out, hdx, hd]
              exact congrArg (· + 1) hcc.out
            have hwc : IntKind.i64.wrap ((c : Int) + 1) = ((c + 1 : Nat) : Int) := by rw [IntWalk.i64_in _ (by omega)]; omega
            clear hdx
            go_wp2_with fail
            go_roundw
            case rel => exact ⟨i + 1, c + 1, by omega, by go_num, by go_num, hyes, by omega, hY, hBI, hBP, hb00⟩
            case measure => simp [intOf]; omega
      · obtain rfl : i = 12 := by omega
        have hc2 : c ≤ 2 := by
          have h1 := hcc.out
          have h2 := HC12.out
          omega
        clear hBI hBP
        obtain ⟨⟨Y0, Y1, Y2, Y3, Y4, Y5⟩, ⟨Y6, Y7, Y8, Y9, Y10, Y11⟩, Y12⟩ := hY.get6
        go_wp2_with (first
          | (go_at_call 45; refine (HBND.out _).mono ?_; rintro e w12 ⟨rfl, hb12⟩; replace hb00 := bl_call hb00 (Nat.le_refl _) hb12; replace hY := hY.call hb12; clear Y0 Y1 Y2 Y3 Y4 Y5 Y6 Y7 Y8 Y9 Y10 Y11 Y12; clear hb12; obtain ⟨⟨Y0, Y1, Y2, Y3, Y4, Y5⟩, ⟨Y6, Y7, Y8, Y9, Y10, Y11⟩, Y12⟩ := hY.get6))
        go_ret
        exact ⟨rfl, hb00⟩
  · have hF1 : ((F : Nat) : Int) = 2 := by omega
    obtain ⟨⟨Y0, Y1, Y2, Y3, Y4, Y5⟩, ⟨Y6, Y7, Y8, Y9, Y10, Y11⟩, Y12⟩ := hY.get6
    go_upto_region 6 with fail
    clear Y0 Y1 Y2 Y3 Y4 Y5 Y6 Y7 Y8 Y9 Y10 Y11 Y12
    replace hY : Vs (w3.setCell ⟨yb, 1, none⟩ (.int .u8 2)) yb [.int .u8 1, .int .u8 (F : Int), .int .i64 0, .int .i64 0, .int .i64 0, .int .i64 0] := by rw [hF1]; exact hY.put 1 (by simp) _
    replace hb00 := bl_set (p := ⟨yb, 1, none⟩) hb00 (by dsimp only; omega) (.int .u8 2)
    generalize w3.setCell ⟨yb, 1, none⟩ (.int .u8 2) = w4 at *
    clear hF1 h
    obtain ⟨⟨Y0, Y1, Y2, Y3, Y4, Y5⟩, ⟨Y6, Y7, Y8, Y9, Y10, Y11⟩, Y12⟩ := hY.get6
    go_upto_region 7 with (first
      | (go_at_call 44; refine (HOF.out _).mono ?_; rintro e w5 ⟨rfl, hb5⟩; replace hb00 := bl_call hb00 (Nat.le_refl _) hb5; replace hY := hY.call hb5; clear Y0 Y1 Y2 Y3 Y4 Y5 Y6 Y7 Y8 Y9 Y10 Y11 Y12; clear hb5; obtain ⟨⟨Y0, Y1, Y2, Y3, Y4, Y5⟩, ⟨Y6, Y7, Y8, Y9, Y10, Y11⟩, Y12⟩ := hY.get6))
    clear Y0 Y1 Y2 Y3 Y4 Y5 Y6 Y7 Y8 Y9 Y10 Y11 Y12
    have hBI : BlkE (w5.alloc (.cells #[.int .u64 (lo z), .int .u64 (hi z)] 36)) w5.heap.size (esK [z]) := heap_alloc_new w5 _
    have hbA : Below w5.heap.size w5 (w5.alloc (.cells #[.int .u64 (lo z), .int .u64 (hi z)] 36)) := (Below.refl _ _).alloc (Nat.le_refl _) _
    replace hb00 := bl_call hb00 (Nat.le_refl _) hbA
    replace hY := hY.call hbA
    obtain ⟨gi, hgie⟩ : ∃ q, w5.heap.size = q := ⟨_, rfl⟩
    generalize w5.alloc (.cells #[.int .u64 (lo z), .int .u64 (hi z)] 36) = w6 at *
    clear hbA
    rw [hgie] at hBI
    simp only [hgie]
    clear hgie
    have lgi := hBI.lt
    have k0 : w6.cell? ⟨gi, 0, none⟩ = some (.int .u64 (lo z)) := (hBI.rowE.kat (l := [z]) (i := 0) rfl).1
    have k1 : w6.cell? ⟨gi, 1, none⟩ = some (.int .u64 (hi z)) := (hBI.rowE.kat (l := [z]) (i := 0) rfl).2
    by_cases hz0 : z = 0
    · have f0 : decide (z = 0) = true := decide_eq_true hz0
      clear hz0
      go_wp2_with fail
      go_ret
      exact ⟨rfl, hb00⟩
    have f0 : decide (z = 0) = false := decide_eq_false hz0
    by_cases hz1 : z = 1
    · have f1 : decide (z = 1) = true := decide_eq_true hz1
      clear hz1 hz0
      go_wp2_with fail
      go_ret
      exact ⟨rfl, hb00⟩
    have f1 : decide (z = 1) = false := decide_eq_false hz1
    have HCN := Lib.hid (HCNT.out hz0 hz1)
    clear hz0 hz1 HCNT
    go_upto_region 9 with fail
    clear k0 k1 e0 e1 f0 f1
    obtain ⟨⟨Y0, Y1, Y2, Y3, Y4, Y5⟩, ⟨Y6, Y7, Y8, Y9, Y10, Y11⟩, Y12⟩ := hY.get6
    refine region_G (n := 5) (m := 6) (f := 5) (by kernel_rfl) (by kernel_rfl) rfl ?_
    refine WpG.takeD 0 (some 44) (v := ?_) rfl rfl (by kernel_rfl) (fun _ _ _ h => h) (.val rfl (fun wz hwz => ?_)) ?_
    rotate_left
    · (obtain ⟨hcz, hfz⟩ := bcell (hwz); go_simp; try (with_reducible rfl))
    simp only [Act.put, List.setIfInBounds_toArray, List.set_cons_succ, List.set_cons_zero]
    refine WpG.takeD 1 (some 45) (v := ?_) rfl rfl (by kernel_rfl) (fun _ _ _ h => h) (.val rfl (fun wz hwz => ?_)) ?_
    rotate_left
    · go_simp; try (with_reducible rfl)
    simp only [Act.put, List.setIfInBounds_toArray, List.set_cons_succ, List.set_cons_zero]
    refine WpG.takeD 2 (some 46) (v := ?_) rfl rfl (by kernel_rfl) (fun _ _ _ h => h) (.val rfl (fun wz hwz => ?_)) ?_
    rotate_left
    · (obtain ⟨hcz, hfz⟩ := bcell (hwz); go_simp; try (with_reducible rfl))
    simp only [Act.put, List.setIfInBounds_toArray, List.set_cons_succ, List.set_cons_zero]
    refine WpG.takeD 3 (some 47) rfl rfl (by kernel_rfl) (fun _ _ _ h => h) (.call rfl (fun wz hwz => HPRF.out wz) (fun wz hwz => ?_)) ?_
    · go_simp; try (with_reducible rfl)
    simp only [Act.put, List.setIfInBounds_toArray, List.set_cons_succ, List.set_cons_zero]
    refine WpG.oneD 4 (some 48) rfl rfl (by kernel_rfl) (fun q : Nat × KL F => Value.slice (some ⟨q.1, 0, none⟩) 5 5) (fun q wz => q.2.length = 5 ∧ w6.heap.size ≤ q.1 ∧ BlkE wz q.1 (esK q.2)) (fun _ _ _ h hb => ⟨h.1, h.2.1, h.2.2.call hb⟩) (Fresh.call rfl (fun wz hwz => (HSOM.out wz (bl_call hb00 (Nat.le_refl _) (hwz))).mono fun e w' ⟨q, h1, ⟨h2, h3, h4⟩, h5⟩ => ⟨q, h1, ⟨h2, Nat.le_trans (hwz).size h3, h4⟩, h5⟩) (fun wz hwz => by go_simp; try (with_reducible rfl))) (fun qp w0p hw0p hR0p => ?_)
    simp only [Act.put, List.setIfInBounds_toArray, List.set_cons_succ, List.set_cons_zero]
    obtain ⟨gp, p⟩ := qp; dsimp only
    refine WpG.done (by kernel_rfl) (fun w7 hS => ?_)
    (try simp only [List.drop_succ_cons]); (try simp only [List.drop_zero]); (try simp only [Nat.reduceSub]); (try simp only [List.take_succ_cons]); (try simp only [List.take_zero])
    obtain ⟨hb7, hpl, hgp, hBP⟩ := hS
    try dsimp only at hpl hgp hBP
    clear Y0 Y1 Y2 Y3 Y4 Y5 Y6 Y7 Y8 Y9 Y10 Y11 Y12
    replace hb00 := bl_call hb00 (Nat.le_refl _) hb7
    replace hY := hY.call hb7
    replace hBI := hBI.call hb7
    have HPL := Lib.hid hpl
    have hgg : gi ≠ gp := by omega
    obtain ⟨hit, hhit⟩ : ∃ hit : Nat → Bool, hit = fun i => !decide (Fm.kpow (nK F (r + i + 2)) (2 ^ 1) = 1) && decC z p (nK F (r + i + 2)) := ⟨_, rfl⟩
    have HC12 : Hid (cntC hit 12 ≤ 2) := HCN.out p r hit hpl hr1 fun i _ h => by
      rw [hhit] at h
      exact (Bool.and_eq_true_iff.1 h).2
    have HHIT : Hid (∀ i, hit i = (!decide (Fm.kpow (nK F (r + i + 2)) (2 ^ 1) = 1) && decC z p (nK F (r + i + 2)))) := fun i => by rw [hhit]
    have hc0 : Hid (0 = cntC hit 0) := rfl
    clear hb7 hpl hgp lgi hhit HCN HSOM HPRF
    go_upto_region 11 with fail
    go_wp2_with fail
    go_loopw [12, 49] (fun v12 v49 wr => ∃ (i c : Nat), i ≤ 12 ∧ v49 = .int .u64 i ∧ v12 = .int .i64 c ∧ Hid (c = cntC hit i) ∧ c ≤ i ∧ Vs wr yb [.int .u8 1, .int .u8 (F : Int), .int .i64 0, .int .i64 0, .int .i64 0, .int .i64 0] ∧ BlkE wr gi (esK [z]) ∧ BlkE wr gp (esK p) ∧ Below w.heap.size w wr) (fun _ v49 _ => 12 - (intOf v49).toNat)
    case atStart => exact ⟨0, 0, by omega, rfl, rfl, hc0, by omega, hY, hBI, hBP, hb00⟩
    case round =>
      clear hY hBI hBP hb00 hc0
      obtain ⟨i, c, hi12, rfl, rfl, hcc, hci, hY, hBI, hBP, hb00⟩ := hrel
      by_cases hlt : i < 12
      · obtain ⟨s1, hs1⟩ : ∃ q, r + i = q := ⟨_, rfl⟩
        obtain ⟨n9, hn9⟩ : ∃ q, s1 + 2 = q := ⟨_, rfl⟩
        have hu1 : IntKind.u64.wrap ((r : Int) + (i : Int)) = (s1 : Int) := by rw [IntWalk.u64_in _ (by omega)]; omega
        have hu2 : IntKind.u64.wrap ((s1 : Int) + 2) = (n9 : Int) := by rw [IntWalk.u64_in _ (by omega)]; omega
        have hn2 : n9 ≤ 2000 := by omega
        have HHI : Hid (hit i = (!decide (Fm.kpow (nK F n9) (2 ^ 1) = 1) && decC z p (nK F n9))) := by
          have h := HHIT.out i
          rw [show r + i + 2 = n9 by omega] at h
          exact h
        have HCS := Lib.hid (cntC_succ hit i)
        clear hs1 hn9
        obtain ⟨⟨Y0, Y1, Y2, Y3, Y4, Y5⟩, ⟨Y6, Y7, Y8, Y9, Y10, Y11⟩, Y12⟩ := hY.get6
        go_upto_region 15 with (first
          | (go_at_call 23; refine (HOUT.out _ n9 hn2 hb00).mono ?_; rintro e w8 ⟨rfl, hb8⟩; replace hb00 := bl_call hb00 (Nat.le_refl _) hb8; replace hY := hY.call hb8; replace hBI := hBI.call hb8; replace hBP := hBP.call hb8; clear Y0 Y1 Y2 Y3 Y4 Y5 Y6 Y7 Y8 Y9 Y10 Y11 Y12; clear hb8; obtain ⟨⟨Y0, Y1, Y2, Y3, Y4, Y5⟩, ⟨Y6, Y7, Y8, Y9, Y10, Y11⟩, Y12⟩ := hY.get6))
        clear Y0 Y1 Y2 Y3 Y4 Y5 Y6 Y7 Y8 Y9 Y10 Y11 Y12
        have hpt := V2.new w8 (.int .u64 (lo (nK F n9))) (.int .u64 (hi (nK F n9))) 36
        have hbA : Below w8.heap.size w8 (w8.alloc (.cells #[.int .u64 (lo (nK F n9)), .int .u64 (hi (nK F n9))] 36)) := by repeat (first | exact Below.refl _ _ | with_reducible assumption | (refine bl_alloc ?_ (Nat.le_refl _) _))
        replace hb00 := bl_call hb00 (Nat.le_refl _) hbA
        replace hY := hY.call hbA
        replace hBI := hBI.call hbA
        replace hBP := hBP.call hbA
        clear hbA
        generalize w8.alloc (.cells #[.int .u64 (lo (nK F n9)), .int .u64 (hi (nK F n9))] 36) = w9 at hb00 hY hBI hBP hpt ⊢
        clear hu1 hu2
        by_cases hx1 : Fm.kpow (nK F n9) (2 ^ 1) = 1
        · have hdx : decide (Fm.kpow (nK F n9) (2 ^ 1) = 1) = true := decide_eq_true hx1
          have hno : Hid (c = cntC hit (i + 1)) := by
            show c = _
            rw [HCS.out, HHI.out, hdx]
            exact hcc.out
          clear hx1
          go_wp2_with fail
          go_roundw
          case rel => exact ⟨i + 1, c, by omega, by go_num, rfl, hno, by omega, hY, hBI, hBP, hb00⟩
          case measure => simp [intOf]; omega
        · have hdx : decide (Fm.kpow (nK F n9) (2 ^ 1) = 1) = false := decide_eq_false hx1
          have HQ := Lib.hid (fun wz hb b1 b2 => HQY.out wz n9 gi gp p hx1 hb hgg HPL.out b1 b2)
          clear hx1
          obtain ⟨⟨Y0, Y1, Y2, Y3, Y4, Y5⟩, ⟨Y6, Y7, Y8, Y9, Y10, Y11⟩, Y12⟩ := hY.get6
          obtain ⟨pt0, pt1, pt2, pt3, pt4⟩ := V2.mk hpt.c0 hpt.c1 hpt.f0 hpt.f1 hpt.lt
          go_upto_region 17 with (first
            | (go_at_call 24; refine (HQ.out _ hb00 hBI hBP).mono ?_; rintro e w10 ⟨qz, rfl, hZ, hb10⟩; replace hb00 := bl_call hb00 (Nat.le_refl _) hb10; replace hY := hY.call hb10; replace hBI := hBI.call hb10; replace hBP := hBP.call hb10; clear Y0 Y1 Y2 Y3 Y4 Y5 Y6 Y7 Y8 Y9 Y10 Y11 Y12; clear hb10; obtain ⟨⟨Y0, Y1, Y2, Y3, Y4, Y5⟩, ⟨Y6, Y7, Y8, Y9, Y10, Y11⟩, Y12⟩ := hY.get6))
          clear Y0 Y1 Y2 Y3 Y4 Y5 Y6 Y7 Y8 Y9 Y10 Y11 Y12
          clear pt0 pt1 pt2 pt3 pt4 hpt HQ
          obtain ⟨za, zc⟩ := qz
          try dsimp only at hZ ⊢
          obtain ⟨⟨Y0, Y1, Y2, Y3, Y4, Y5⟩, ⟨Y6, Y7, Y8, Y9, Y10, Y11⟩, Y12⟩ := hY.get6
          go_upto_region 20 with (first
            | (go_at_call 36; refine (HDEC.out _ _ p (nK F n9) hZ).mono ?_; rintro e w11 ⟨rfl, hb11⟩; replace hb00 := bl_call hb00 (Nat.le_refl _) hb11; replace hY := hY.call hb11; replace hBI := hBI.call hb11; replace hBP := hBP.call hb11; clear Y0 Y1 Y2 Y3 Y4 Y5 Y6 Y7 Y8 Y9 Y10 Y11 Y12; clear hb11; obtain ⟨⟨Y0, Y1, Y2, Y3, Y4, Y5⟩, ⟨Y6, Y7, Y8, Y9, Y10, Y11⟩, Y12⟩ := hY.get6))
          clear Y0 Y1 Y2 Y3 Y4 Y5 Y6 Y7 Y8 Y9 Y10 Y11 Y12
          clear hZ
          cases hd : decC z p (nK F n9)
          · have hno : Hid (c = cntC hit (i + 1)) := by
              show c = _
              rw [HCS.out, HHI.out, hdx, hd]
              exact hcc.out
            clear hdx
            go_wp2_with fail
            go_roundw
            case rel => exact ⟨i + 1, c, by omega, by go_num, rfl, hno, by omega, hY, hBI, hBP, hb00⟩
            case measure => simp [intOf]; omega
          · have hyes : Hid (c + 1 = cntC hit (i + 1)) := by
              show c + 1 = _
              rw [HCS.out, HHI.out, hdx, hd]
              exact congrArg (· + 1) hcc.out
            have hwc : IntKind.i64.wrap ((c : Int) + 1) = ((c + 1 : Nat) : Int) := by rw [IntWalk.i64_in _ (by omega)]; omega
            clear hdx
            go_wp2_with fail
            go_roundw
            case rel => exact ⟨i + 1, c + 1, by omega, by go_num, by go_num, hyes, by omega, hY, hBI, hBP, hb00⟩
            case measure => simp [intOf]; omega
      · obtain rfl : i = 12 := by omega
        have hc2 : c ≤ 2 := by
          have h1 := hcc.out
          have h2 := HC12.out
          omega
        clear hBI hBP
        obtain ⟨⟨Y0, Y1, Y2, Y3, Y4, Y5⟩, ⟨Y6, Y7, Y8, Y9, Y10, Y11⟩, Y12⟩ := hY.get6
        go_wp2_with (first
          | (go_at_call 45; refine (HBND.out _).mono ?_; rintro e w12 ⟨rfl, hb12⟩; replace hb00 := bl_call hb00 (Nat.le_refl _) hb12; replace hY := hY.call hb12; clear Y0 Y1 Y2 Y3 Y4 Y5 Y6 Y7 Y8 Y9 Y10 Y11 Y12; clear hb12; obtain ⟨⟨Y0, Y1, Y2, Y3, Y4, Y5⟩, ⟨Y6, Y7, Y8, Y9, Y10, Y11⟩, Y12⟩ := hY.get6))
        go_ret
        exact ⟨rfl, hb00⟩

end Go.Proofs.YtfbfbijkkbflkaaGreatDoor
