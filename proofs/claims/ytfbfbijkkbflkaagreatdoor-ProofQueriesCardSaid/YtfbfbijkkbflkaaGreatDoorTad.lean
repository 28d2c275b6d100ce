/-
 PfS, Joint, RRuns, PfDe, PfDi: for ProofQueries.
-/
import Derived.Test.YtfbfbijkkbflkaaGreatDoorTab
namespace Go.Proofs.YtfbfbijkkbflkaaGreatDoor
open Go.RowKit Fm
set_option linter.unusedVariables false
set_option maxRecDepth 100000

section
variable {f : Nat} (hf : IsF f)
include hf

set_option maxHeartbeats 8000000 in
theorem law11_someA (y : CK) (n s : Nat) (hn2 : n ≤ 2000) (hs10 : s ≤ 10) (vl : Value) (l : List E) (w : World) (hl : SlE w w.heap.size vl l) :
  Calls Tryz.prog 20 #[y.val f, vl, .int .i64 (n : Nat), .int .i64 (s : Nat)] w (RetV f n w) := by
 obtain ⟨⟨A, c, rfl, hlc, hcm, hA⟩, hok⟩ := hl
 have hfb0 : (1 : Int) ≤ (f : Int) := by rcases hf.or with rfl | rfl <;> omega
 have hfb1 : (f : Int) ≤ 2 := by rcases hf.or with rfl | rfl <;> omega
 unfold CK.val
 obtain ⟨K, hK⟩ : ∃ K : Int, ((y.k : Nat) : Int) = K := ⟨_, rfl⟩
 obtain ⟨B, hB⟩ : ∃ K : Int, ((y.b : Nat) : Int) = K := ⟨_, rfl⟩
 obtain ⟨N, hN⟩ : ∃ K : Int, ((y.l : Nat) : Int) = K := ⟨_, rfl⟩
 obtain ⟨M, hM⟩ : ∃ K : Int, ((y.m : Nat) : Int) = K := ⟨_, rfl⟩
 obtain ⟨C, hC⟩ : ∃ K : Int, ((y.c : Nat) : Int) = K := ⟨_, rfl⟩
 rw [hK, hB, hN, hM, hC]
 clear hK hB hN hM hC
 have hmk := make_elem n (by omega)
 have hb00 : Below w.heap.size w w := Below.refl _ _
 go_enter Tryz.func20, Tryz.ntmps20
 go_upto_region 1 with fail
 have hx := Vs.new w [.int .u8 K, .int .u8 f, .int .i64 B, .int .i64 N, .int .i64 M, .int .i64 C] #[.int .u8 K, .int .u8 f, .int .i64 B, .int .i64 N, .int .i64 M, .int .i64 C] 30 rfl
 have hbA : Below w.heap.size w (w.alloc (.cells #[.int .u8 K, .int .u8 f, .int .i64 B, .int .i64 N, .int .i64 M, .int .i64 C] 30)) := by repeat (first | exact bA | with_reducible assumption | apply bB)
 replace hb00 := bl_call hb00 (Nat.le_refl _) hbA
 clear hbA
 generalize w.alloc (.cells #[.int .u8 K, .int .u8 f, .int .i64 B, .int .i64 N, .int .i64 M, .int .i64 C] 30) = w1 at hb00 hx ⊢
 obtain ⟨⟨x0, x1, x2, x3, x4, x5⟩, ⟨x6, x7, x8, x9, x10, x11⟩, x12⟩ := hx.get6
 go_upto_region 2 with fail
 have hBk : BlkE (w1.alloc (.cells (cellsE (List.replicate n (0, 0))).toArray 36)) w1.heap.size (List.replicate n (0, 0)) := heap_alloc_new w1 _
 have hbA : Below w1.heap.size w1 (w1.alloc (.cells (cellsE (List.replicate n (0, 0))).toArray 36)) := by repeat (first | exact bA | with_reducible assumption | apply bB | (refine bC ?_ (by dsimp only; omega)) | apply bD | apply bE | (refine bF ?_ (by assumption)))
 have hgx : w.heap.size < w1.heap.size := hx.lt
 clear x0 x1 x2 x3 x4 x5 x6 x7 x8 x9 x10 x11 x12
 replace hb00 := bl_call hb00 (Nat.le_refl _) hbA
 replace hx := hx.call hbA
 clear hbA
 obtain ⟨g, hg⟩ : ∃ g, w1.heap.size = g := ⟨_, rfl⟩
 rw [hg] at hBk hgx ⊢
 generalize w1.alloc (.cells (cellsE (List.replicate n (0, 0))).toArray 36) = w2 at hBk hx hb00 ⊢
 clear hg hmk
 go_wp2_with fail
 go_loopw [15] (fun i wr => ∃ (k : Nat) (zs : KL f), zs.length = k ∧ k ≤ n ∧ i = .int .i64 k ∧ BlkE wr g (esK zs ++ List.replicate (n - k) (0, 0)) ∧ Vs wr w.heap.size [.int .u8 K, .int .u8 f, .int .i64 B, .int .i64 N, .int .i64 M, .int .i64 C] ∧ Below w.heap.size w wr) (fun i _ => n - (intOf i).toNat)
 case atStart => exact ⟨0, [], rfl, Nat.zero_le _, rfl, hBk, hx, hb00⟩
 case round =>
  clear hBk hx hb00
  obtain ⟨k, zs, hzl, hk, rfl, hBk, hx, hbw⟩ := hrel
  obtain ⟨⟨x0, x1, x2, x3, x4, x5⟩, ⟨x6, x7, x8, x9, x10, x11⟩, x12⟩ := hx.get6
  have HZ := Lib.hid hzl
  clear hzl
  by_cases hlt : k < n
  ·by_cases hl0 : l.length = 0
   ·rw [fill_none zs n k hlt] at hBk
    have HBK := Lib.hid hBk
    clear hBk hA
    go_wp2
    go_roundw
    case rel => exact ⟨k + 1, zs ++ [0], (by rw [List.length_append, HZ.out]; rfl), by omega, by go_num, HBK.out, hx, hbw⟩
    case measure => simp [intOf]; omega
   ·obtain ⟨b, o, rfl, hBl, hr⟩ := hA (by omega)
    obtain ⟨q, hq⟩ : ∃ q : Nat, k * s = q := ⟨_, rfl⟩
    have hqb : q ≤ 20000 := by rw [← hq]; exact Nat.le_trans (Nat.mul_le_mul (show k ≤ 2000 by omega) hs10) (by decide)
    have hqi : (k : Int) * (s : Int) = (q : Int) := by rw [← hq]; exact (Int.natCast_mul k s).symm
    obtain ⟨p, hp⟩ : ∃ p : Nat, q + s = p := ⟨_, rfl⟩
    have hw1 : IntKind.i64.wrap (q : Int) = (q : Int) := IntWalk.i64_in _ (by omega)
    have hw2 : IntKind.i64.wrap ((q : Int) + (s : Int)) = (p : Int) := by rw [IntWalk.i64_in _ (by omega)]; omega
    clear hq
    have hjm : p % l.length < l.length := Nat.mod_lt _ (by omega)
    obtain ⟨⟨e0, e1⟩, he⟩ : ∃ e, l[p % l.length]? = some e := ⟨_, List.getElem?_eq_getElem hjm⟩
    obtain ⟨h0, h1, h2, h3⟩ := hok _ (List.mem_of_getElem? he)
    obtain ⟨c0, c1⟩ := (hr.below hbw hBl) _ _ he
    dsimp only at h0 h1 h2 h3 c0 c1
    have hbl : b < wr.heap.size := Nat.lt_of_lt_of_le hBl hbw.size
    have HO := Lib.hid (fun wz => ref_OfL hf e0 e1 wz h0 h1 h2 h3)
    obtain ⟨x, hxx⟩ : ∃ x, kL f e0 e1 = x := ⟨_, rfl⟩
    rw [hxx] at HO
    have hjn : 0 ≤ (p : Int) % (l.length : Int) := Int.emod_nonneg _ (by omega)
    have hjl : (p : Int) % (l.length : Int) < (l.length : Int) := Int.emod_lt_of_pos _ (by omega)
    have hjt : ((p : Int) % (l.length : Int)).toNat = p % l.length := by rw [← Int.natCast_emod, Int.toNat_natCast]
    have hjd : (p : Int).tmod (l.length : Int) = (p : Int) % (l.length : Int) := Int.tmod_eq_emod_of_nonneg (by omega)
    have hgl : g < wr.heap.size := hBk.lt
    have hl9 : ¬ (l.length = 0) := hl0
    have hwf : IntKind.i64.wrap (f : Int) = (f : Int) := IntWalk.i64_in _ (by omega)
    clear he hr hA hxx
    go_upto_region 6 with fail
    refine region_B (n := 18) (m := 19) (f := 18) (by kernel_rfl) (by kernel_rfl) rfl ?_
    refine WpH.vD 0 (some 21) ?_ rfl rfl (by kernel_rfl) (fun _ _ _ h => h) rfl (fun wz hwz => ?_) ?_
    rotate_left
    ·go_simp; try (with_reducible rfl)
    simp only [Zp, Zq, Zr, Zs]
    refine WpH.vD 1 (some 22) ?_ rfl rfl (by kernel_rfl) (fun _ _ _ h => h) rfl (fun wz hwz => ?_) ?_
    rotate_left
    ·go_simp; try (with_reducible rfl)
    simp only [Zp, Zq, Zr, Zs]
    refine WpH.vD 2 (some 23) ?_ rfl rfl (by kernel_rfl) (fun _ _ _ h => h) rfl (fun wz hwz => ?_) ?_
    rotate_left
    ·go_simp; try (with_reducible rfl)
    simp only [Zp, Zq, Zr, Zs]
    refine WpH.vD 3 (some 24) ?_ rfl rfl (by kernel_rfl) (fun _ _ _ h => h) rfl (fun wz hwz => ?_) ?_
    rotate_left
    ·(obtain ⟨hcz, hfz⟩ := bcell hwz; go_simp; try (with_reducible rfl))
    simp only [Zp, Zq, Zr, Zs]
    refine WpH.vD 4 (some 25) ?_ rfl rfl (by kernel_rfl) (fun _ _ _ h => h) rfl (fun wz hwz => ?_) ?_
    rotate_left
    ·go_simp; try (with_reducible rfl)
    simp only [Zp, Zq, Zr, Zs]
    refine WpH.vD 5 (some 26) ?_ rfl rfl (by kernel_rfl) (fun _ _ _ h => h) rfl (fun wz hwz => ?_) ?_
    rotate_left
    ·go_simp; try (with_reducible rfl)
    simp only [Zp, Zq, Zr, Zs]
    refine WpH.vD 6 (some 27) ?_ rfl rfl (by kernel_rfl) (fun _ _ _ h => h) rfl (fun wz hwz => ?_) ?_
    rotate_left
    ·go_simp; try (with_reducible rfl)
    simp only [Zp, Zq, Zr, Zs]
    refine WpH.vD 7 (some 28) ?_ rfl rfl (by kernel_rfl) (fun _ _ _ h => h) rfl (fun wz hwz => ?_) ?_
    rotate_left
    ·go_simp; try (with_reducible rfl)
    simp only [Zp, Zq, Zr, Zs]
    refine WpH.vD 8 (some 29) ?_ rfl rfl (by kernel_rfl) (fun _ _ _ h => h) rfl (fun wz hwz => ?_) ?_
    rotate_left
    ·go_simp; try (with_reducible rfl)
    simp only [Zp, Zq, Zr, Zs]
    refine WpH.vD 9 (some 30) ?_ rfl rfl (by kernel_rfl) (fun _ _ _ h => h) rfl (fun wz hwz => ?_) ?_
    rotate_left
    ·go_simp; try (with_reducible rfl)
    simp only [Zp, Zq, Zr, Zs]
    refine WpH.vD 10 (some 31) ?_ rfl rfl (by kernel_rfl) (fun _ _ _ h => h) rfl (fun wz hwz => ?_) ?_
    rotate_left
    ·go_simp; try (with_reducible rfl)
    simp only [Zp, Zq, Zr, Zs]
    refine WpH.vD 11 (some 32) ?_ rfl rfl (by kernel_rfl) (fun _ _ _ h => h) rfl (fun wz hwz => ?_) ?_
    rotate_left
    ·go_simp; try (with_reducible rfl)
    simp only [Zp, Zq, Zr, Zs]
    refine WpH.vD 12 (some 33) ?_ rfl rfl (by kernel_rfl) (fun _ _ _ h => h) rfl (fun wz hwz => ?_) ?_
    rotate_left
    ·go_simp; try (with_reducible rfl)
    simp only [Zp, Zq, Zr, Zs]
    refine WpH.vD 13 (some 34) ?_ rfl rfl (by kernel_rfl) (fun _ _ _ h => h) rfl (fun wz hwz => ?_) ?_
    rotate_left
    ·go_simp; try (with_reducible rfl)
    simp only [Zp, Zq, Zr, Zs]
    refine WpH.vD 14 (some 35) ?_ rfl rfl (by kernel_rfl) (fun _ _ _ h => h) rfl (fun wz hwz => ?_) ?_
    rotate_left
    ·go_simp; try (with_reducible rfl)
    simp only [Zp, Zq, Zr, Zs]
    refine WpH.vD 15 (some 36) ?_ rfl rfl (by kernel_rfl) (fun _ _ _ h => h) rfl (fun wz hwz => ?_) ?_
    rotate_left
    ·(obtain ⟨hcz, hfz⟩ := bcell hwz; go_simp; try (with_reducible rfl))
    simp only [Zp, Zq, Zr, Zs]
    refine WpH.takeD 16 (some 37) rfl rfl (by kernel_rfl) (fun _ _ _ h => h) (.call rfl (fun wz hwz => HO.out wz) (fun wz hwz => ?_)) ?_
    ·go_simp; try (with_reducible rfl)
    simp only [Zp, Zq, Zr, Zs]
    refine WpH.vD 17 (some 38) ?_ rfl rfl (by kernel_rfl) (fun _ _ _ h => h) rfl (fun wz hwz => ?_) ?_
    rotate_left
    ·go_simp; try (with_reducible rfl)
    simp only [Zp, Zq, Zr, Zs]
    refine WpH.doneB (by kernel_rfl) (fun w6 hw6 => ?_)
    (try simp only [List.drop_succ_cons]); (try simp only [List.drop_zero]); (try simp only [Nat.reduceSub]); (try simp only [List.take_succ_cons]); (try simp only [List.take_zero])
    replace hBk := hBk.call hw6
    clear x0 x1 x2 x3 x4 x5 x6 x7 x8 x9 x10 x11 x12
    replace hbw := bl_call hbw (Nat.le_refl _) hw6
    replace hx := hx.call hw6
    obtain ⟨⟨x0, x1, x2, x3, x4, x5⟩, ⟨x6, x7, x8, x9, x10, x11⟩, x12⟩ := hx.get6
    have hzk : ∃ u v : Value, w6.cell? ⟨g, k * 2, none⟩ = some u ∧ w6.cell? ⟨g, k * 2 + 1, none⟩ = some v := by
     have hlen : k < (esK zs ++ List.replicate (n - k) ((0, 0) : E)).length := by
      rw [List.length_append, List.length_replicate, esK_length, HZ.out]
      omega
     obtain ⟨e1, e2⟩ := hBk.row k _ (List.getElem?_eq_getElem hlen)
     exact ⟨_, _, e1, e2⟩
    obtain ⟨u, v, z0, z1⟩ := hzk
    have fz0 := hBk.frozen (k * 2)
    have fz1 := hBk.frozen (k * 2 + 1)
    have HS : Hid ((esK zs ++ List.replicate (n - k) ((0, 0) : E)).set k (lo x, hi x) = esK (zs ++ [x]) ++ List.replicate (n - (k + 1)) (0, 0)) := fill_put zs n k HZ.out hlt x _ _ rfl
    have HBS := Lib.hid (hBk.set k (lo x) (hi x))
    clear hBk
    have hgw : w.heap.size ≤ g := by omega
    go_wp2
    go_roundw
    case rel =>
     have h := HBS.out
     rw [HS.out] at h
     exact ⟨k + 1, zs ++ [x], (by rw [List.length_append, HZ.out]; rfl), by omega, by go_num, h, (hx.far (by dsimp only; omega) _).far (by dsimp only; omega) _, by repeat (first | exact bA | with_reducible assumption | apply bB | (refine bC ?_ (by dsimp only; omega)) | apply bD | apply bE | (refine bF ?_ (by assumption)))⟩
    case measure => simp [intOf]; omega
  ·obtain rfl : k = n := by omega
   rw [Nat.sub_self, List.replicate_zero, List.append_nil] at hBk
   go_wp2
   go_ret
   exact ⟨g, zs, HZ.out, rfl, hBk, by omega, hbw⟩
theorem law11_some (y : CK) (n s : Nat) (hn2 : n ≤ 2000) (hs10 : s ≤ 10) (vl : Value) (l : List E) (w : World) (hl : SlE w w.heap.size vl l) (hl60 : l.length ≤ 60) :
  Calls Tryz.prog 20 #[y.val f, vl, .int .i64 (n : Nat), .int .i64 (s : Nat)] w (RetV f n w) := law11_someA hf y n s hn2 hs10 vl l w hl
end

end Go.Proofs.YtfbfbijkkbflkaaGreatDoor

namespace Go.Proofs.YtfbfbijkkbflkaaGreatDoor
open Go.RowKit Fm
set_option linter.unusedVariables false
set_option maxRecDepth 100000

section
variable {f : Nat} (hf : IsF f)
include hf

set_option maxHeartbeats 8000000 in
theorem law10_Joint (y : CK) (hy : y.ok) (hcl : y.calls ≤ 511) (vl : Value) (l : List E) (w : World) (hl : SlE w w.heap.size vl l) (hl60 : l.length ≤ 60) :
  Calls Tryz.prog 19 #[y.val f, vl, .int .i64 1] w (RetV f y.joint w) := by
 have HI := Lib.hid (fun wz => circuit_Joint f y hy wz)
 have hnin : y.joint ≤ 512 := by cases y <;> simp only [CK.joint] <;> (try simp only [CK.calls] at hcl ⊢) <;> omega
 obtain ⟨⟨A, c, rfl, hlc, hcm, hA⟩, hok⟩ := hl
 have hfb0 : (1 : Int) ≤ (f : Int) := by rcases hf.or with rfl | rfl <;> omega
 have hfb1 : (f : Int) ≤ 2 := by rcases hf.or with rfl | rfl <;> omega
 unfold CK.val at HI ⊢
 obtain ⟨K, hK⟩ : ∃ K : Int, ((y.k : Nat) : Int) = K := ⟨_, rfl⟩
 obtain ⟨B, hB⟩ : ∃ K : Int, ((y.b : Nat) : Int) = K := ⟨_, rfl⟩
 obtain ⟨N, hN⟩ : ∃ K : Int, ((y.l : Nat) : Int) = K := ⟨_, rfl⟩
 obtain ⟨M, hM⟩ : ∃ K : Int, ((y.m : Nat) : Int) = K := ⟨_, rfl⟩
 obtain ⟨C, hC⟩ : ∃ K : Int, ((y.c : Nat) : Int) = K := ⟨_, rfl⟩
 rw [hK, hB, hN, hM, hC] at HI ⊢
 clear hK hB hN hM hC hy
 clear hcl
 generalize y.joint = n at *
 have hmk := make_elem n (by omega)
 have hb00 : Below w.heap.size w w := Below.refl _ _
 go_enter Tryz.func19, Tryz.ntmps19
 go_upto_region 1 with fail
 have hx := Vs.new w [.int .u8 K, .int .u8 f, .int .i64 B, .int .i64 N, .int .i64 M, .int .i64 C] #[.int .u8 K, .int .u8 f, .int .i64 B, .int .i64 N, .int .i64 M, .int .i64 C] 30 rfl
 have hbA : Below w.heap.size w (w.alloc (.cells #[.int .u8 K, .int .u8 f, .int .i64 B, .int .i64 N, .int .i64 M, .int .i64 C] 30)) := by repeat (first | exact bA | with_reducible assumption | apply bB)
 replace hb00 := bl_call hb00 (Nat.le_refl _) hbA
 clear hbA
 generalize w.alloc (.cells #[.int .u8 K, .int .u8 f, .int .i64 B, .int .i64 N, .int .i64 M, .int .i64 C] 30) = w1 at hb00 hx ⊢
 obtain ⟨⟨x0, x1, x2, x3, x4, x5⟩, ⟨x6, x7, x8, x9, x10, x11⟩, x12⟩ := hx.get6
 go_upto_region 2 with (first
  | (go_at_call 14; refine (HI.out _).mono ?_; rintro e w2 ⟨rfl, hb2⟩; replace hb00 := bl_call hb00 (Nat.le_refl _) hb2; replace hx := hx.call hb2; obtain ⟨⟨x0, x1, x2, x3, x4, x5⟩, ⟨x6, x7, x8, x9, x10, x11⟩, x12⟩ := hx.get6))
 have hBk : BlkE (w2.alloc (.cells (cellsE (List.replicate n (0, 0))).toArray 36)) w2.heap.size (List.replicate n (0, 0)) := heap_alloc_new w2 _
 have hbA : Below w2.heap.size w2 (w2.alloc (.cells (cellsE (List.replicate n (0, 0))).toArray 36)) := by repeat (first | exact bA | with_reducible assumption | apply bB | (refine bC ?_ (by dsimp only; omega)) | apply bD | apply bE | (refine bF ?_ (by assumption)))
 have hgx : w.heap.size < w2.heap.size := hx.lt
 clear x0 x1 x2 x3 x4 x5 x6 x7 x8 x9 x10 x11 x12
 replace hb00 := bl_call hb00 (Nat.le_refl _) hbA
 replace hx := hx.call hbA
 clear hbA hb2
 obtain ⟨g, hg⟩ : ∃ g, w2.heap.size = g := ⟨_, rfl⟩
 rw [hg] at hBk hgx ⊢
 generalize w2.alloc (.cells (cellsE (List.replicate n (0, 0))).toArray 36) = w3 at hBk hx hb00 ⊢
 clear hg hmk HI
 go_wp2_with fail
 go_loopw [16] (fun i wr => ∃ (k : Nat) (zs : KL f), zs.length = k ∧ k ≤ n ∧ i = .int .i64 k ∧ BlkE wr g (esK zs ++ List.replicate (n - k) (0, 0)) ∧ Vs wr w.heap.size [.int .u8 K, .int .u8 f, .int .i64 B, .int .i64 N, .int .i64 M, .int .i64 C] ∧ Below w.heap.size w wr) (fun i _ => n - (intOf i).toNat)
 case atStart => exact ⟨0, [], rfl, Nat.zero_le _, rfl, hBk, hx, hb00⟩
 case round =>
  clear hBk hx hb00
  obtain ⟨k, zs, hzl, hk, rfl, hBk, hx, hbw⟩ := hrel
  obtain ⟨⟨x0, x1, x2, x3, x4, x5⟩, ⟨x6, x7, x8, x9, x10, x11⟩, x12⟩ := hx.get6
  have HZ := Lib.hid hzl
  clear hzl
  by_cases hlt : k < n
  ·by_cases hl0 : l.length = 0
   ·rw [fill_none zs n k hlt] at hBk
    have HBK := Lib.hid hBk
    clear hBk hA
    go_wp2
    go_roundw
    case rel => exact ⟨k + 1, zs ++ [0], (by rw [List.length_append, HZ.out]; rfl), by omega, by go_num, HBK.out, hx, hbw⟩
    case measure => simp [intOf]; omega
   ·obtain ⟨b, o, rfl, hBl, hr⟩ := hA (by omega)
    obtain ⟨p, hp⟩ : ∃ p : Nat, k * 7 + 3 = p := ⟨_, rfl⟩
    have hw1 : IntKind.i64.wrap ((k : Int) * 7) = (k : Int) * 7 := IntWalk.i64_in _ (by omega)
    have hw2 : IntKind.i64.wrap ((k : Int) * 7 + 3) = (p : Int) := by rw [IntWalk.i64_in _ (by omega)]; omega
    have hjm : p % l.length < l.length := Nat.mod_lt _ (by omega)
    obtain ⟨⟨e0, e1⟩, he⟩ : ∃ e, l[p % l.length]? = some e := ⟨_, List.getElem?_eq_getElem hjm⟩
    obtain ⟨h0, h1, h2, h3⟩ := hok _ (List.mem_of_getElem? he)
    obtain ⟨c0, c1⟩ := (hr.below hbw hBl) _ _ he
    dsimp only at h0 h1 h2 h3 c0 c1
    have hbl : b < wr.heap.size := Nat.lt_of_lt_of_le hBl hbw.size
    have HO := Lib.hid (fun wz => ref_OfL hf e0 e1 wz h0 h1 h2 h3)
    obtain ⟨x, hxx⟩ : ∃ x, kL f e0 e1 = x := ⟨_, rfl⟩
    rw [hxx] at HO
    have hjn : 0 ≤ (p : Int) % (l.length : Int) := Int.emod_nonneg _ (by omega)
    have hjl : (p : Int) % (l.length : Int) < (l.length : Int) := Int.emod_lt_of_pos _ (by omega)
    have hjt : ((p : Int) % (l.length : Int)).toNat = p % l.length := by rw [← Int.natCast_emod, Int.toNat_natCast]
    have hjd : (p : Int).tmod (l.length : Int) = (p : Int) % (l.length : Int) := Int.tmod_eq_emod_of_nonneg (by omega)
    have hgl : g < wr.heap.size := hBk.lt
    have hl9 : ¬ (l.length = 0) := hl0
    have hwf : IntKind.i64.wrap (f : Int) = (f : Int) := IntWalk.i64_in _ (by omega)
    clear he hr hA hxx
    go_upto_region 6 with fail
    refine region_B (n := 16) (m := 17) (f := 16) (by kernel_rfl) (by kernel_rfl) rfl ?_
    refine WpH.vD 0 (some 22) ?_ rfl rfl (by kernel_rfl) (fun _ _ _ h => h) rfl (fun wz hwz => ?_) ?_
    rotate_left
    ·go_simp; try (with_reducible rfl)
    simp only [Zp, Zq, Zr, Zs]
    refine WpH.vD 1 (some 23) ?_ rfl rfl (by kernel_rfl) (fun _ _ _ h => h) rfl (fun wz hwz => ?_) ?_
    rotate_left
    ·go_simp; try (with_reducible rfl)
    simp only [Zp, Zq, Zr, Zs]
    refine WpH.vD 2 (some 24) ?_ rfl rfl (by kernel_rfl) (fun _ _ _ h => h) rfl (fun wz hwz => ?_) ?_
    rotate_left
    ·go_simp; try (with_reducible rfl)
    simp only [Zp, Zq, Zr, Zs]
    refine WpH.vD 3 (some 25) ?_ rfl rfl (by kernel_rfl) (fun _ _ _ h => h) rfl (fun wz hwz => ?_) ?_
    rotate_left
    ·(obtain ⟨hcz, hfz⟩ := bcell hwz; go_simp; try (with_reducible rfl))
    simp only [Zp, Zq, Zr, Zs]
    refine WpH.vD 4 (some 26) ?_ rfl rfl (by kernel_rfl) (fun _ _ _ h => h) rfl (fun wz hwz => ?_) ?_
    rotate_left
    ·go_simp; try (with_reducible rfl)
    simp only [Zp, Zq, Zr, Zs]
    refine WpH.vD 5 (some 27) ?_ rfl rfl (by kernel_rfl) (fun _ _ _ h => h) rfl (fun wz hwz => ?_) ?_
    rotate_left
    ·go_simp; try (with_reducible rfl)
    simp only [Zp, Zq, Zr, Zs]
    refine WpH.vD 6 (some 28) ?_ rfl rfl (by kernel_rfl) (fun _ _ _ h => h) rfl (fun wz hwz => ?_) ?_
    rotate_left
    ·go_simp; try (with_reducible rfl)
    simp only [Zp, Zq, Zr, Zs]
    refine WpH.vD 7 (some 29) ?_ rfl rfl (by kernel_rfl) (fun _ _ _ h => h) rfl (fun wz hwz => ?_) ?_
    rotate_left
    ·go_simp; try (with_reducible rfl)
    simp only [Zp, Zq, Zr, Zs]
    refine WpH.vD 8 (some 30) ?_ rfl rfl (by kernel_rfl) (fun _ _ _ h => h) rfl (fun wz hwz => ?_) ?_
    rotate_left
    ·go_simp; try (with_reducible rfl)
    simp only [Zp, Zq, Zr, Zs]
    refine WpH.vD 9 (some 31) ?_ rfl rfl (by kernel_rfl) (fun _ _ _ h => h) rfl (fun wz hwz => ?_) ?_
    rotate_left
    ·go_simp; try (with_reducible rfl)
    simp only [Zp, Zq, Zr, Zs]
    refine WpH.vD 10 (some 32) ?_ rfl rfl (by kernel_rfl) (fun _ _ _ h => h) rfl (fun wz hwz => ?_) ?_
    rotate_left
    ·go_simp; try (with_reducible rfl)
    simp only [Zp, Zq, Zr, Zs]
    refine WpH.vD 11 (some 33) ?_ rfl rfl (by kernel_rfl) (fun _ _ _ h => h) rfl (fun wz hwz => ?_) ?_
    rotate_left
    ·go_simp; try (with_reducible rfl)
    simp only [Zp, Zq, Zr, Zs]
    refine WpH.vD 12 (some 34) ?_ rfl rfl (by kernel_rfl) (fun _ _ _ h => h) rfl (fun wz hwz => ?_) ?_
    rotate_left
    ·go_simp; try (with_reducible rfl)
    simp only [Zp, Zq, Zr, Zs]
    refine WpH.vD 13 (some 35) ?_ rfl rfl (by kernel_rfl) (fun _ _ _ h => h) rfl (fun wz hwz => ?_) ?_
    rotate_left
    ·(obtain ⟨hcz, hfz⟩ := bcell hwz; go_simp; try (with_reducible rfl))
    simp only [Zp, Zq, Zr, Zs]
    refine WpH.takeD 14 (some 36) rfl rfl (by kernel_rfl) (fun _ _ _ h => h) (.call rfl (fun wz hwz => HO.out wz) (fun wz hwz => ?_)) ?_
    ·go_simp; try (with_reducible rfl)
    simp only [Zp, Zq, Zr, Zs]
    refine WpH.vD 15 (some 37) ?_ rfl rfl (by kernel_rfl) (fun _ _ _ h => h) rfl (fun wz hwz => ?_) ?_
    rotate_left
    ·go_simp; try (with_reducible rfl)
    simp only [Zp, Zq, Zr, Zs]
    refine WpH.doneB (by kernel_rfl) (fun w6 hw6 => ?_)
    (try simp only [List.drop_succ_cons]); (try simp only [List.drop_zero]); (try simp only [Nat.reduceSub]); (try simp only [List.take_succ_cons]); (try simp only [List.take_zero])
    replace hBk := hBk.call hw6
    clear x0 x1 x2 x3 x4 x5 x6 x7 x8 x9 x10 x11 x12
    replace hbw := bl_call hbw (Nat.le_refl _) hw6
    replace hx := hx.call hw6
    obtain ⟨⟨x0, x1, x2, x3, x4, x5⟩, ⟨x6, x7, x8, x9, x10, x11⟩, x12⟩ := hx.get6
    have hzk : ∃ u v : Value, w6.cell? ⟨g, k * 2, none⟩ = some u ∧ w6.cell? ⟨g, k * 2 + 1, none⟩ = some v := by
     have hlen : k < (esK zs ++ List.replicate (n - k) ((0, 0) : E)).length := by
      rw [List.length_append, List.length_replicate, esK_length, HZ.out]
      omega
     obtain ⟨e1, e2⟩ := hBk.row k _ (List.getElem?_eq_getElem hlen)
     exact ⟨_, _, e1, e2⟩
    obtain ⟨u, v, z0, z1⟩ := hzk
    have fz0 := hBk.frozen (k * 2)
    have fz1 := hBk.frozen (k * 2 + 1)
    have HS : Hid ((esK zs ++ List.replicate (n - k) ((0, 0) : E)).set k (lo x, hi x) = esK (zs ++ [x]) ++ List.replicate (n - (k + 1)) (0, 0)) := fill_put zs n k HZ.out hlt x _ _ rfl
    have HBS := Lib.hid (hBk.set k (lo x) (hi x))
    clear hBk
    have hgw : w.heap.size ≤ g := by omega
    go_wp2
    go_roundw
    case rel =>
     have h := HBS.out
     rw [HS.out] at h
     exact ⟨k + 1, zs ++ [x], (by rw [List.length_append, HZ.out]; rfl), by omega, by go_num, h, (hx.far (by dsimp only; omega) _).far (by dsimp only; omega) _, by repeat (first | exact bA | with_reducible assumption | apply bB | (refine bC ?_ (by dsimp only; omega)) | apply bD | apply bE | (refine bF ?_ (by assumption)))⟩
    case measure => simp [intOf]; omega
  ·obtain rfl : k = n := by omega
   rw [Nat.sub_self, List.replicate_zero, List.append_nil] at hBk
   go_wp2
   go_ret
   exact ⟨g, zs, HZ.out, rfl, hBk, by omega, hbw⟩
end

end Go.Proofs.YtfbfbijkkbflkaaGreatDoor

namespace Go.Proofs.YtfbfbijkkbflkaaGreatDoor
open Go.RowKit Fm
set_option linter.unusedVariables false
set_option maxRecDepth 100000

theorem BlkE.slM {f n : Nat} {w : World} {g : Nat} {l : KL f} (h : BlkE w g (esK l)) (hl : l.length = n) (hn : n ≤ 1000000) : SlK w w.heap.size (.slice (some ⟨g, 0, none⟩) n n) l := by
 subst hl
 exact h.slK (by omega) h.lt

section
variable {f : Nat} (hf : IsF f)
include hf

def InvRun (cs : List Value) (cb yb k : Nat) (D : Nat → Prop) (w : World) : Prop := D = (fun q => q = cb ∨ q = yb) ∧ Vs w cb [.int .i64 (k : Nat)] ∧ Vs w yb cs
omit hf in
theorem Vs.sameH {w w' : World} {b : Nat} {cs : List Value} (h : Vs w b cs) (hb : w'.heap[b]? = w.heap[b]?) : Vs w' b cs :=
 ⟨fun i v hi => (World.cell?_of_block (w := w) (a := ⟨b, i, none⟩) hb).trans (h.cell i v hi), fun i hi => (World.frozen?_of_block (w := w) (a := ⟨b, i, none⟩) hb).trans (h.frz i hi), by
  have h1 := h.lt
  rcases Nat.lt_or_ge b w'.heap.size with h2 | h2
  ·exact h2
  ·rw [Array.getElem?_eq_none h2, Array.getElem?_eq_getElem h1] at hb
   cases hb⟩
omit hf in
theorem InvRun.st {cs : List Value} {cb yb k : Nat} {w : World} (h1 : Vs w cb [.int .i64 (k : Nat)]) (h2 : Vs w yb cs) : St (InvRun cs cb yb k) (fun q => q = cb ∨ q = yb) w :=
 ⟨⟨rfl, h1, h2⟩, fun q hq => by
  rcases hq with rfl | rfl
  ·exact h1.lt
  ·exact h2.lt, fun w w' ⟨e, g1, g2⟩ hb => ⟨e, g1.sameH (hb cb (.inl rfl)), g2.sameH (hb yb (.inr rfl))⟩⟩

end

end Go.Proofs.YtfbfbijkkbflkaaGreatDoor

namespace Go.Proofs.YtfbfbijkkbflkaaGreatDoor
open Go.RowKit Fm
set_option linter.unusedVariables false
set_option maxRecDepth 100000

def DeT {f : Nat} (w3 : World) (gd : Gad f) (o1 : Option (Int × Value × Int)) (o2 : Option Nat) (wz : World) : Prop := Below w3.heap.size w3 wz ∧ ∀ q, o1 = some q → RepG wz wz.heap.size q.1 q.2.1 q.2.2 gd
structure DeK {f : Nat} (w3 : World) (gd : Gad f) (u v : Value) (o1 : Option (Int × Value × Int)) (o2 : Option Nat) (s1 : Bool) (wz : World) : Prop where
 t : DeT w3 gd o1 o2 wz
 b : ∀ b, o2 = some b → w3.heap.size ≤ b ∧ V2 wz b (if s1 then u else .int .u64 0) (if s1 then v else .int .u64 0)
 d : ∀ (q : Int × Value × Int) (b : Nat) (p : Addr) (a c : Nat), o1 = some q → o2 = some b → q.2.1 = .slice (some p) a c → p.block ≠ b
theorem DeK.clo {f : Nat} {w3 : World} {gd : Gad f} {u v : Value} {o1 : Option (Int × Value × Int)} {o2 : Option Nat} {s1 : Bool} : Clo (DeK w3 gd u v o1 o2 s1) := fun _ _ h hb =>
 ⟨⟨bl_call h.t.1 (Nat.le_refl _) hb, fun q e => (h.t.2 q e).later hb⟩, fun b e => ⟨(h.b b e).1, (h.b b e).2.call hb⟩, h.d⟩
theorem DeK.mk1 {f : Nat} {w3 w w' : World} {gd : Gad f} {u v : Value} {o2 : Option Nat} {s1 : Bool} (h : DeK w3 gd u v none o2 s1 w) (q : Int × Value × Int) (hq : RepG w' w'.heap.size q.1 q.2.1 q.2.2 gd) (hb : Below w.heap.size w w') (hn : ∀ (p : Addr) (a c : Nat), q.2.1 = .slice (some p) a c → w.heap.size ≤ p.block) : DeK w3 gd u v (some q) o2 s1 w' :=
 ⟨⟨bl_call h.t.1 (Nat.le_refl _) hb, fun q' e => by injection e with e; subst e; exact hq⟩, fun b e => ⟨(h.b b e).1, (h.b b e).2.call hb⟩, fun q' b p a c e1 e2 e3 => by
  injection e1 with e1
  subst e1
  have h1 := hn p a c e3
  have h2 := (h.b b e2).2.lt
  omega⟩
theorem DeK.mk2 {f : Nat} {w3 w : World} {gd : Gad f} {u v : Value} {o1 : Option (Int × Value × Int)} (h : DeK w3 gd u v o1 none false w) : DeK w3 gd u v o1 (some w.heap.size) false (w.alloc (.cells #[.int .u64 0, .int .u64 0] 36)) := by
 have h2 := DeK.clo _ _ h ((Below.refl w.heap.size w).alloc (Nat.le_refl _) (.cells #[.int .u64 0, .int .u64 0] 36))
 refine ⟨h2.t, fun b e => ?_, fun q b p a c e1 e2 e3 => ?_⟩
 ·injection e with e
  subst e
  exact ⟨h.t.1.size, V2.new w _ _ _⟩
 ·injection e2 with e2
  have h3 := (h.t.2 q e1).ltB p a c e3
  omega
theorem DeK.put {f : Nat} {w3 w : World} {gd : Gad f} {u v : Value} {q : Int × Value × Int} {b : Nat} (h : DeK w3 gd u v (some q) (some b) false w) : DeK w3 gd u v (some q) (some b) true ((w.setCell ⟨b, 0, none⟩ u).setCell ⟨b, 1, none⟩ v) := by
 refine ⟨⟨bl_st h.t.1 (h.b b rfl).1 u v, fun q' e => ?_⟩, fun b' e => ?_, h.d⟩
 ·injection e with e
  subst e
  refine (h.t.2 q rfl).same fun p a c hs => ?_
  have h1 := h.d q b p a c rfl rfl hs
  have h2 := (h.t.2 q rfl).ltB p a c hs
  exact ⟨(Below.heap_setCell _ _ _ _ h1).trans (Below.heap_setCell _ _ _ _ h1), by simpa [World.setCell] using h2⟩
 ·injection e with e
  subst e
  exact ⟨(h.b b rfl).1, (h.b b rfl).2.set u v⟩
theorem DeK.start {f : Nat} (w3 : World) (gd : Gad f) (u v : Value) : DeK w3 gd u v none none false w3.drew :=
 ⟨⟨(Below.refl _ _).drew, fun _ e => (by cases e)⟩, fun _ e => (by cases e), fun _ _ _ _ _ e => (by cases e)⟩

section
variable {f : Nat} (hf : IsF f)
include hf

set_option maxHeartbeats 8000000 in
theorem proof_Decide (y : CK) (hy : y.ok) (hcl : y.calls ≤ 511) (vl : Value) (l : KL f) (hl : l.length = y.arity + 2) (w : World) (hs : SlK w w.heap.size vl l) :
  Calls Tryz.prog 36 #[y.val f, vl] w fun e w' => e = .returned (.tuple #[.bool (decide (l.getD 0 0 = 0) && decide (gval (y.gad f) ((l.drop 1).take y.arity) = l.getD (y.arity + 1) 0)), .int .i64 0]) ∧ Below w.heap.size w w' := by
 have HCHK : Hid (∀ wz, Calls Tryz.prog 48 #[y.val f] wz (RetC 0 wz)) := fun wz => by
  have h := circuit_Check_ok hf y hy wz
  rwa [CK.code_ok (by omega)] at h
 have HGAD : Hid (∀ wz, Calls Tryz.prog 27 #[y.val f] wz (RetG2 (y.gad f) wz)) := fun wz => circuit_Gadget2 hf y hy wz
 have HVER : Hid (∀ wz, Calls Tryz.prog 43 #[y.val f] wz (RetI (y.arity + 2) wz)) := fun wz => circuit_Verifier hf y hy wz
 have hal := CK.arity_le hy
 have hga := gad_arity f y
 obtain ⟨A, c, rfl, hlc, hcm, hA⟩ := id hs
 obtain ⟨b, o, rfl, hbl, hrow⟩ := hA (by omega)
 have HROW := Lib.hid hrow
 have HLL := Lib.hid hl
 have HSL := Lib.hid hs
 rw [hl] at hlc HSL ⊢
 unfold CK.val at HCHK HGAD HVER ⊢
 generalize y.gad f = gd at *
 generalize y.arity = ar at *
 generalize ((y.k : Nat) : Int) = K at *
 generalize ((y.b : Nat) : Int) = B at *
 generalize ((y.l : Nat) : Int) = NN at *
 generalize ((y.m : Nat) : Int) = M at *
 generalize ((y.c : Nat) : Int) = C at *
 have HGA := Lib.hid hga
 have HLA := Lib.hid (hl)
 have HOF := Lib.hid (fun wz (k : Int) (sl : Value) (n : Int) (h : RepG wz wz.heap.size k sl n gd) (vi : Value) (hs : SlK wz wz.heap.size vi ((l.drop 1).take ar)) => gadget_Of hf wz gd k sl n h vi ((l.drop 1).take ar) hs (by rw [HGA.out, List.length_take, List.length_drop, HLA.out]; omega))
 have HSLI : Hid (∀ wz, Below w.heap.size w wz → SlK wz wz.heap.size (.slice (some ⟨b, o + 2, none⟩) ar (c - 1)) ((l.drop 1).take ar)) := fun wz hb => by
  have hlt : ((l.drop 1).take ar).length = ar := by rw [List.length_take, List.length_drop, HLA.out]; omega
  refine ⟨_, _, by rw [hlt], by omega, by omega, fun _ => ⟨b, o + 2, rfl, Nat.lt_of_lt_of_le hbl hb.size, fun i e hi => ?_⟩⟩
  have hi2 : (esK l)[i + 1]? = some e := by
   unfold esK at hi ⊢
   rw [List.getElem?_map] at hi ⊢
   have hia : i < ar := by
    rcases Nat.lt_or_ge i ar with h | h
    ·exact h
    ·rw [List.getElem?_eq_none (by omega)] at hi
     cases hi
   rw [List.getElem?_take_of_lt hia, List.getElem?_drop, Nat.add_comm 1 i] at hi
   exact hi
  have h := (hrow.below hb hbl) (i + 1) e hi2
  rw [show o + (i + 1) * 2 = o + 2 + i * 2 by omega] at h
  exact h
 obtain ⟨x0, hx0⟩ : ∃ x, l[0]? = some x := ⟨_, List.getElem?_eq_getElem (by omega)⟩
 obtain ⟨y1, hy1⟩ : ∃ x, l[ar + 1]? = some x := ⟨_, List.getElem?_eq_getElem (by omega)⟩
 have HXA : Hid (∀ wz, Below w.heap.size w wz → b < wz.heap.size ∧ wz.cell? ⟨b, o, none⟩ = some (.int .u64 (lo x0)) ∧ wz.cell? ⟨b, o + 1, none⟩ = some (.int .u64 (hi x0)) ∧ wz.cell? ⟨b, o + (ar + 1) * 2, none⟩ = some (.int .u64 (lo y1)) ∧ wz.cell? ⟨b, o + (ar + 1) * 2 + 1, none⟩ = some (.int .u64 (hi y1))) := fun wz hb => by
  have h0 := (hrow.below hb hbl).kat hx0
  have h1 := (hrow.below hb hbl).kat hy1
  rw [Nat.zero_mul, Nat.add_zero] at h0
  exact ⟨Nat.lt_of_lt_of_le hbl hb.size, h0.1, h0.2, h1.1, h1.2⟩
 have hg0 : l.getD 0 0 = x0 := by rw [List.getD_eq_getElem?_getD, hx0]; rfl
 have hg1 : l.getD (ar + 1) 0 = y1 := by rw [List.getD_eq_getElem?_getD, hy1]; rfl
 rw [hg0, hg1]
 clear hg0 hg1 hx0 hy1
 obtain ⟨z, hz9⟩ : ∃ z, gval gd ((l.drop 1).take ar) = z := ⟨_, rfl⟩
 rw [hz9] at HOF ⊢
 clear hz9
 obtain ⟨n2, hn2⟩ : ∃ n2, ar + 2 = n2 := ⟨_, rfl⟩
 have HN2 := Lib.hid hn2
 rw [hn2] at hlc HSL HVER ⊢
 obtain ⟨m1, hm1⟩ : ∃ m1, ar + 1 = m1 := ⟨_, rfl⟩
 have HM1 := Lib.hid hm1
 have hw1 : IntKind.i64.wrap ((n2 : Int) - 1) = (m1 : Int) := by rw [IntWalk.i64_in _ (by omega)]; omega
 have g1 : (0 : Int) ≤ (m1 : Int) := by omega
 have g2 : m1 ≤ c := by omega
 have g3 : 1 ≤ m1 := by omega
 have g4 : (m1 : Int) ≤ (c : Int) := by omega
 have g5 : m1 - 1 = ar := by omega
 have g6 : (1 : Int) ≤ (m1 : Int) := by omega
 have g7 : ¬ (c = 1) := by omega
 clear hA hrow hl hs hy hcl hga hn2 hm1
 go_enter Tryz.func36, Tryz.ntmps36
 go_upto_region 1 with fail
 have hyy := Vs.new w [.int .u8 K, .int .u8 f, .int .i64 B, .int .i64 NN, .int .i64 M, .int .i64 C] #[.int .u8 K, .int .u8 f, .int .i64 B, .int .i64 NN, .int .i64 M, .int .i64 C] 30 rfl
 have hb00 : Below w.heap.size w (w.alloc (.cells #[.int .u8 K, .int .u8 f, .int .i64 B, .int .i64 NN, .int .i64 M, .int .i64 C] 30)) := by repeat (first | exact bA | with_reducible assumption | apply bB)
 have hszn : w.heap.size + 1 ≤ (w.alloc (.cells #[.int .u8 K, .int .u8 f, .int .i64 B, .int .i64 NN, .int .i64 M, .int .i64 C] 30)).heap.size := by simp only [World.size_alloc]; omega
 generalize (w.alloc (.cells #[.int .u8 K, .int .u8 f, .int .i64 B, .int .i64 NN, .int .i64 M, .int .i64 C] 30)) = w1 at hyy hb00 hszn ⊢
 obtain ⟨⟨yy0, yy1, yy2, yy3, yy4, yy5⟩, ⟨yy6, yy7, yy8, yy9, yy10, yy11⟩, yy12⟩ := hyy.get6
 go_upto_region 2 with (go_at_call 48; refine (HCHK.out _).mono ?_; rintro e w2 ⟨rfl, hb2⟩)
 clear yy0 yy1 yy2 yy3 yy4 yy5 yy6 yy7 yy8 yy9 yy10 yy11 yy12
 replace hb00 := bl_call hb00 (Nat.le_refl _) hb2
 replace hyy := hyy.call hb2
 clear hb2
 obtain ⟨⟨yy0, yy1, yy2, yy3, yy4, yy5⟩, ⟨yy6, yy7, yy8, yy9, yy10, yy11⟩, yy12⟩ := hyy.get6
 go_upto_region 7 with (go_at_call 43; refine (HVER.out _).mono ?_; rintro e w3 ⟨rfl, hb3⟩)
 clear yy0 yy1 yy2 yy3 yy4 yy5 yy6 yy7 yy8 yy9 yy10 yy11 yy12
 replace hb00 := bl_call hb00 (Nat.le_refl _) hb3
 replace hyy := hyy.call hb3
 clear hb3
 have HYY := Lib.hid hyy
 have HB3 := Lib.hid hb00
 clear hyy
 apply region_Z2 (n := 13) (m := 14) (f := 13) (fun x0 x1 => (DeK w3 gd (.int .u64 (lo z)) (.int .u64 (hi z))) (some x0) (some x1) true) ((DeT w3 gd) none none) ((DeK w3 gd (.int .u64 (lo z)) (.int .u64 (hi z))) none none false) ((fun _ h => h.t)) (DeK.clo) ((DeK.start w3 gd _ _))
 case hm => kernel_rfl
 case hB => kernel_rfl
 case hf => rfl
 case' h =>
  refine WpX.vD 0 (some 24) ?_ rfl rfl (by kernel_rfl) (fun _ _ _ h => h) rfl (fun wz hwz => ?_) ?_
  rotate_left
  ·(have hz := (HYY.out.call hwz.1).get6; obtain ⟨⟨z0, z1, z2, z3, z4, z5⟩, ⟨y0, y1, y2, y3, y4, y5⟩, y6⟩ := hz; go_simp; try (with_reducible rfl))
  simp only [Zp, Zq, Zr, Zs]
  refine WpX.vD 2 (some 26) ?_ rfl rfl (by kernel_rfl) (fun _ _ _ h => h) rfl (fun wz hwz => ?_) ?_
  rotate_left
  ·go_simp; try (with_reducible rfl)
  simp only [Zp, Zq, Zr, Zs]
  refine WpX.vD 3 (some 27) ?_ rfl rfl (by kernel_rfl) (fun _ _ _ h => h) rfl (fun wz hwz => ?_) ?_
  rotate_left
  ·(have hz := (HYY.out.call hwz.1).get6; obtain ⟨⟨z0, z1, z2, z3, z4, z5⟩, ⟨y0, y1, y2, y3, y4, y5⟩, y6⟩ := hz; go_simp; try (with_reducible rfl))
  simp only [Zp, Zq, Zr, Zs]
  refine WpX.vD 4 (some 28) ?_ rfl rfl (by kernel_rfl) (fun _ _ _ h => h) rfl (fun wz hwz => ?_) ?_
  rotate_left
  ·go_simp; try (with_reducible rfl)
  simp only [Zp, Zq, Zr, Zs]
  refine WpX.vD 5 (some 29) ?_ rfl rfl (by kernel_rfl) (fun _ _ _ h => h) rfl (fun wz hwz => ?_) ?_
  rotate_left
  ·go_simp; try (with_reducible rfl)
  simp only [Zp, Zq, Zr, Zs]
  refine WpX.vD 6 (some 30) ?_ rfl rfl (by kernel_rfl) (fun _ _ _ h => h) rfl (fun wz hwz => ?_) ?_
  rotate_left
  ·go_simp; try (with_reducible rfl)
  simp only [Zp, Zq, Zr, Zs]
  refine WpX.twoD 1 11 (some 25) (some 8) rfl rfl rfl rfl (by kernel_rfl) (fun q : Int × Value × Int => Value.agg #[.int .u8 q.1, q.2.1, .int .i64 q.2.2]) (fun gq => (DeT w3 gd) (some gq) none) (fun gq => (DeK w3 gd (.int .u64 (lo z)) (.int .u64 (hi z))) (some gq) none false) (Turns.call rfl (fun _ _ h => ⟨h.1, fun _ e => (by cases e)⟩) (fun _ => (fun _ h => h.t)) (fun _ => DeK.clo) (fun wz hS => (HGAD.out wz).mono fun e w' ⟨k, sl, n, he, hr, hb, hn⟩ => ⟨(k, sl, n), he, hS.mk1 (k, sl, n) hr hb hn⟩) (fun wz hS => by go_simp; try (with_reducible rfl))) (fun b : Nat => Value.pointer (some ⟨b, 0, none⟩)) (fun xb => (DeT w3 gd) none (some xb)) (fun xb => (DeK w3 gd (.int .u64 (lo z)) (.int .u64 (hi z))) none (some xb) false) (Turns.val rfl (fun _ _ h => h) (fun _ => (fun _ h => h.t)) (fun _ => DeK.clo) (fun wz hS => ⟨wz.heap.size, wz.alloc (.cells #[.int .u64 0, .int .u64 0] 36), by go_simp; try (with_reducible rfl), hS.mk2⟩)) (fun gq => ?rz7_13a) (fun xb => ?rz7_13b)
  case' rz7_13a =>
   simp only [Zp, Zq, Zr, Zs]
   refine WpX.takeD 7 (some 31) rfl rfl (by kernel_rfl) (fun _ _ _ h => h) (.call rfl (fun wz hwz => HOF.out wz gq.1 gq.2.1 gq.2.2 (hwz.2 gq rfl) (.slice (some ⟨b, o + 2, none⟩) ar (c - 1)) (HSLI.out wz (bl_call HB3.out (Nat.le_refl _) hwz.1))) (fun wz hwz => ?_)) ?_
   ·go_simp; try (with_reducible rfl)
   simp only [Zp, Zq, Zr, Zs]
   refine WpX.vD 8 (some 23) ?_ rfl rfl (by kernel_rfl) (fun _ _ _ h => h) rfl (fun wz hwz => ?_) ?_
   rotate_left
   ·go_simp; try (with_reducible rfl)
   simp only [Zp, Zq, Zr, Zs]
   refine WpX.vD 9 (some 32) ?_ rfl rfl (by kernel_rfl) (fun _ _ _ h => h) rfl (fun wz hwz => ?_) ?_
   rotate_left
   ·go_simp; try (with_reducible rfl)
   simp only [Zp, Zq, Zr, Zs]
   refine WpX.vD 10 (some 33) ?_ rfl rfl (by kernel_rfl) (fun _ _ _ h => h) rfl (fun wz hwz => ?_) ?_
   rotate_left
   ·go_simp; try (with_reducible rfl)
   simp only [Zp, Zq, Zr, Zs]
   refine WpX.oneD 11 (some 8) rfl rfl (by kernel_rfl) (fun b : Nat => Value.pointer (some ⟨b, 0, none⟩)) (fun xb => (DeT w3 gd) (some gq) (some xb)) (fun xb => (DeK w3 gd (.int .u64 (lo z)) (.int .u64 (hi z))) (some gq) (some xb) false) (Turns.val rfl (fun _ _ h => h) (fun _ => (fun _ h => h.t)) (fun _ => DeK.clo) (fun wz hS => ⟨wz.heap.size, wz.alloc (.cells #[.int .u64 0, .int .u64 0] 36), by go_simp; try (with_reducible rfl), hS.mk2⟩)) (fun xb => ?_)
   simp only [Zp, Zq, Zr, Zs]
   refine WpX.oneSkip 12 none rfl rfl (by kernel_rfl) ((DeT w3 gd) (some gq) (some xb)) ((DeK w3 gd (.int .u64 (lo z)) (.int .u64 (hi z))) (some gq) (some xb) true) (fun _ h => h) ((fun _ h => h.t)) (DeK.clo) rfl (fun wz hS => ?_) ?_
   ·(obtain ⟨c0, c1, c2, c3, c4⟩ := (hS.b xb rfl).2; exact ⟨_, by go_simp; try (with_reducible rfl), hS.put⟩)
   simp only [Act.put]
   refine WpX.done (by kernel_rfl) (fun w5 hS => ⟨gq, xb, rfl, ?_⟩)
   ·exact hS
  case' rz7_13b =>
   simp only [Zp, Zq, Zr, Zs]
   refine WpX.oneD 1 (some 25) rfl rfl (by kernel_rfl) (fun q : Int × Value × Int => Value.agg #[.int .u8 q.1, q.2.1, .int .i64 q.2.2]) (fun gq => (DeT w3 gd) (some gq) (some xb)) (fun gq => (DeK w3 gd (.int .u64 (lo z)) (.int .u64 (hi z))) (some gq) (some xb) false) (Turns.call rfl (fun _ _ h => ⟨h.1, fun _ e => (by cases e)⟩) (fun _ => (fun _ h => h.t)) (fun _ => DeK.clo) (fun wz hS => (HGAD.out wz).mono fun e w' ⟨k, sl, n, he, hr, hb, hn⟩ => ⟨(k, sl, n), he, hS.mk1 (k, sl, n) hr hb hn⟩) (fun wz hS => by go_simp; try (with_reducible rfl))) (fun gq => ?_)
   simp only [Zp, Zq, Zr, Zs]
   refine WpX.takeD 7 (some 31) rfl rfl (by kernel_rfl) (fun _ _ _ h => h) (.call rfl (fun wz hwz => HOF.out wz gq.1 gq.2.1 gq.2.2 (hwz.2 gq rfl) (.slice (some ⟨b, o + 2, none⟩) ar (c - 1)) (HSLI.out wz (bl_call HB3.out (Nat.le_refl _) hwz.1))) (fun wz hwz => ?_)) ?_
   ·go_simp; try (with_reducible rfl)
   simp only [Zp, Zq, Zr, Zs]
   refine WpX.vD 8 (some 23) ?_ rfl rfl (by kernel_rfl) (fun _ _ _ h => h) rfl (fun wz hwz => ?_) ?_
   rotate_left
   ·go_simp; try (with_reducible rfl)
   simp only [Zp, Zq, Zr, Zs]
   refine WpX.vD 9 (some 32) ?_ rfl rfl (by kernel_rfl) (fun _ _ _ h => h) rfl (fun wz hwz => ?_) ?_
   rotate_left
   ·go_simp; try (with_reducible rfl)
   simp only [Zp, Zq, Zr, Zs]
   refine WpX.vD 10 (some 33) ?_ rfl rfl (by kernel_rfl) (fun _ _ _ h => h) rfl (fun wz hwz => ?_) ?_
   rotate_left
   ·go_simp; try (with_reducible rfl)
   simp only [Zp, Zq, Zr, Zs]
   refine WpX.oneSkip 12 none rfl rfl (by kernel_rfl) ((DeT w3 gd) (some gq) (some xb)) ((DeK w3 gd (.int .u64 (lo z)) (.int .u64 (hi z))) (some gq) (some xb) true) (fun _ h => h) ((fun _ h => h.t)) (DeK.clo) rfl (fun wz hS => ?_) ?_
   ·(obtain ⟨c0, c1, c2, c3, c4⟩ := (hS.b xb rfl).2; exact ⟨_, by go_simp; try (with_reducible rfl), hS.put⟩)
   simp only [Act.put]
   refine WpX.done (by kernel_rfl) (fun w5 hS => ⟨gq, xb, rfl, ?_⟩)
   ·exact hS
 intro gq xb w5 hS
 (try simp only [List.drop_succ_cons]); (try simp only [List.drop_zero]); (try simp only [Nat.reduceSub]); (try simp only [List.take_succ_cons]); (try simp only [List.take_zero])
 have hb5 := bl_call HB3.out (Nat.le_refl _) hS.t.1
 obtain ⟨hxb, hv5⟩ := hS.b xb rfl
 have HV5 := Lib.hid hv5
 have HB5 := Lib.hid hb5
 obtain ⟨hbl5, k0, k1, k2, k3⟩ := HXA.out w5 hb5
 rw [HM1.out] at k2 k3
 clear hS hv5 hb5
 have EQL : ∀ (a0 a1 b0 b1 : Int) (wz : World), (Op.equalIn 10000 36 (.agg #[.int .u64 a0, .int .u64 a1]) (.agg #[.int .u64 b0, .int .u64 b1])).run Tryz.prog wz = .ok (a0 == b0 && a1 == b1) wz := fun a0 a1 b0 b1 wz => run_equalIn_elem 9998 a0 a1 b0 b1 wz
 have e1 : (lo z == lo y1 && hi z == hi y1) = decide (z = y1) := vK_eq z y1
 have e0 : (lo x0 == 0 && hi x0 == 0) = decide (x0 = 0) := vK_eq0 x0
 have HN3 := HN2.out
 have HM3 := HM1.out
 obtain ⟨v0, v1, v2, v3, v4⟩ := V2.mk HV5.out.c0 HV5.out.c1 HV5.out.f0 HV5.out.f1 HV5.out.lt
 have hm2 : (m1 : Int) < (n2 : Int) := by omega
 have hn1 : 0 < n2 := by omega
 have hm3 : m1 < n2 := by omega
 clear HXA HOF HSLI HLA HGA HROW HLL HSL HCHK HGAD HVER HN3 HM3
 go_upto_region 10 with fail
 by_cases hx0 : x0 = 0
 ·have e2 : decide (x0 = 0) = true := decide_eq_true hx0
  clear hx0
  refine region_B (n := 14) (m := 15) (f := 14) (by kernel_rfl) (by kernel_rfl) rfl ?_
  refine WpH.vD 0 (some 37) ?_ rfl rfl (by kernel_rfl) (fun _ _ _ h => h) rfl (fun wz hwz => ?_) ?_
  rotate_left
  ·go_simp; try (with_reducible rfl)
  simp only [Zp, Zq, Zr, Zs]
  refine WpH.vD 1 (some 38) ?_ rfl rfl (by kernel_rfl) (fun _ _ _ h => h) rfl (fun wz hwz => ?_) ?_
  rotate_left
  ·go_simp; try (with_reducible rfl)
  simp only [Zp, Zq, Zr, Zs]
  refine WpH.vD 2 (some 39) ?_ rfl rfl (by kernel_rfl) (fun _ _ _ h => h) rfl (fun wz hwz => ?_) ?_
  rotate_left
  ·(obtain ⟨hcz, hfz⟩ := bcell hwz; go_simp; try (with_reducible rfl))
  simp only [Zp, Zq, Zr, Zs]
  refine WpH.vD 3 (some 40) ?_ rfl rfl (by kernel_rfl) (fun _ _ _ h => h) rfl (fun wz hwz => ?_) ?_
  rotate_left
  ·go_simp; try (with_reducible rfl)
  simp only [Zp, Zq, Zr, Zs]
  refine WpH.vD 4 (some 41) ?_ rfl rfl (by kernel_rfl) (fun _ _ _ h => h) rfl (fun wz hwz => ?_) ?_
  rotate_left
  ·go_simp; try (with_reducible rfl)
  simp only [Zp, Zq, Zr, Zs]
  refine WpH.vD 5 (some 42) ?_ rfl rfl (by kernel_rfl) (fun _ _ _ h => h) rfl (fun wz hwz => ?_) ?_
  rotate_left
  ·go_simp; try (with_reducible rfl)
  simp only [Zp, Zq, Zr, Zs]
  refine WpH.vD 6 (some 43) ?_ rfl rfl (by kernel_rfl) (fun _ _ _ h => h) rfl (fun wz hwz => ?_) ?_
  rotate_left
  ·(obtain ⟨hcz, hfz⟩ := bcell hwz; go_simp; try (with_reducible rfl))
  simp only [Zp, Zq, Zr, Zs]
  refine WpH.vD 7 (some 44) ?_ rfl rfl (by kernel_rfl) (fun _ _ _ h => h) rfl (fun wz hwz => ?_) ?_
  rotate_left
  ·go_simp; try (with_reducible rfl)
  simp only [Zp, Zq, Zr, Zs]
  refine WpH.vD 8 (some 45) ?_ rfl rfl (by kernel_rfl) (fun _ _ _ h => h) rfl (fun wz hwz => ?_) ?_
  rotate_left
  ·go_simp; try (with_reducible rfl)
  simp only [Zp, Zq, Zr, Zs]
  refine WpH.vD 9 (some 46) ?_ rfl rfl (by kernel_rfl) (fun _ _ _ h => h) rfl (fun wz hwz => ?_) ?_
  rotate_left
  ·go_simp; try (with_reducible rfl)
  simp only [Zp, Zq, Zr, Zs]
  refine WpH.vD 10 (some 47) ?_ rfl rfl (by kernel_rfl) (fun _ _ _ h => h) rfl (fun wz hwz => ?_) ?_
  rotate_left
  ·(obtain ⟨hcz, hfz⟩ := bcell hwz; go_simp; try (with_reducible rfl))
  simp only [Zp, Zq, Zr, Zs]
  refine WpH.vD 11 (some 48) ?_ rfl rfl (by kernel_rfl) (fun _ _ _ h => h) rfl (fun wz hwz => ?_) ?_
  rotate_left
  ·go_simp; try (with_reducible rfl)
  simp only [Zp, Zq, Zr, Zs]
  refine WpH.vD 12 (some 49) ?_ rfl rfl (by kernel_rfl) (fun _ _ _ h => h) rfl (fun wz hwz => ?_) ?_
  rotate_left
  ·go_simp; try (with_reducible rfl)
  simp only [Zp, Zq, Zr, Zs]
  refine WpH.vD 13 (some 4) ?_ rfl rfl (by kernel_rfl) (fun _ _ _ h => h) rfl (fun wz hwz => ?_) ?_
  rotate_left
  ·go_simp; try (with_reducible rfl)
  simp only [Zp, Zq, Zr, Zs]
  refine WpH.doneB (by kernel_rfl) (fun w6 hw6 => ?_)
  (try simp only [List.drop_succ_cons]); (try simp only [List.drop_zero]); (try simp only [Nat.reduceSub]); (try simp only [List.take_succ_cons]); (try simp only [List.take_zero])
  go_wp2_with fail
  go_ret2
  exact ⟨by first | rfl | (simp [e2]; done) | (rw [e2]; rfl), bl_call HB5.out (Nat.le_refl _) hw6⟩
 ·have e2 : decide (x0 = 0) = false := decide_eq_false hx0
  clear hx0
  refine region_B (n := 14) (m := 15) (f := 14) (by kernel_rfl) (by kernel_rfl) rfl ?_
  refine WpH.vD 0 (some 37) ?_ rfl rfl (by kernel_rfl) (fun _ _ _ h => h) rfl (fun wz hwz => ?_) ?_
  rotate_left
  ·go_simp; try (with_reducible rfl)
  simp only [Zp, Zq, Zr, Zs]
  refine WpH.vD 1 (some 38) ?_ rfl rfl (by kernel_rfl) (fun _ _ _ h => h) rfl (fun wz hwz => ?_) ?_
  rotate_left
  ·go_simp; try (with_reducible rfl)
  simp only [Zp, Zq, Zr, Zs]
  refine WpH.vD 2 (some 39) ?_ rfl rfl (by kernel_rfl) (fun _ _ _ h => h) rfl (fun wz hwz => ?_) ?_
  rotate_left
  ·(obtain ⟨hcz, hfz⟩ := bcell hwz; go_simp; try (with_reducible rfl))
  simp only [Zp, Zq, Zr, Zs]
  refine WpH.vD 3 (some 40) ?_ rfl rfl (by kernel_rfl) (fun _ _ _ h => h) rfl (fun wz hwz => ?_) ?_
  rotate_left
  ·go_simp; try (with_reducible rfl)
  simp only [Zp, Zq, Zr, Zs]
  refine WpH.vD 4 (some 41) ?_ rfl rfl (by kernel_rfl) (fun _ _ _ h => h) rfl (fun wz hwz => ?_) ?_
  rotate_left
  ·go_simp; try (with_reducible rfl)
  simp only [Zp, Zq, Zr, Zs]
  refine WpH.vD 5 (some 42) ?_ rfl rfl (by kernel_rfl) (fun _ _ _ h => h) rfl (fun wz hwz => ?_) ?_
  rotate_left
  ·go_simp; try (with_reducible rfl)
  simp only [Zp, Zq, Zr, Zs]
  refine WpH.takeD 6 (some 43) rfl rfl (by kernel_rfl) (fun _ _ _ h => h) (.skip rfl) ?_
  simp only [Zp, Zq, Zr, Zs]
  refine WpH.takeD 7 (some 44) rfl rfl (by kernel_rfl) (fun _ _ _ h => h) (.skip rfl) ?_
  simp only [Zp, Zq, Zr, Zs]
  refine WpH.takeD 8 (some 45) rfl rfl (by kernel_rfl) (fun _ _ _ h => h) (.skip rfl) ?_
  simp only [Zp, Zq, Zr, Zs]
  refine WpH.takeD 9 (some 46) rfl rfl (by kernel_rfl) (fun _ _ _ h => h) (.skip rfl) ?_
  simp only [Zp, Zq, Zr, Zs]
  refine WpH.takeD 10 (some 47) rfl rfl (by kernel_rfl) (fun _ _ _ h => h) (.skip rfl) ?_
  simp only [Zp, Zq, Zr, Zs]
  refine WpH.takeD 11 (some 48) rfl rfl (by kernel_rfl) (fun _ _ _ h => h) (.skip rfl) ?_
  simp only [Zp, Zq, Zr, Zs]
  refine WpH.vD 12 (some 49) ?_ rfl rfl (by kernel_rfl) (fun _ _ _ h => h) rfl (fun wz hwz => ?_) ?_
  rotate_left
  ·go_simp; try (with_reducible rfl)
  simp only [Zp, Zq, Zr, Zs]
  refine WpH.vD 13 (some 4) ?_ rfl rfl (by kernel_rfl) (fun _ _ _ h => h) rfl (fun wz hwz => ?_) ?_
  rotate_left
  ·go_simp; try (with_reducible rfl)
  simp only [Zp, Zq, Zr, Zs]
  refine WpH.doneB (by kernel_rfl) (fun w6 hw6 => ?_)
  (try simp only [List.drop_succ_cons]); (try simp only [List.drop_zero]); (try simp only [Nat.reduceSub]); (try simp only [List.take_succ_cons]); (try simp only [List.take_zero])
  go_wp2_with fail
  go_ret2
  exact ⟨by first | rfl | (simp [e2]; done) | (rw [e2]; rfl), bl_call HB5.out (Nat.le_refl _) hw6⟩
end

end Go.Proofs.YtfbfbijkkbflkaaGreatDoor

namespace Go.Proofs.YtfbfbijkkbflkaaGreatDoor
open Go.RowKit Fm
set_option linter.unusedVariables false
set_option maxRecDepth 100000

structure CapD {f : Nat} (E : Nat → Prop) (wE : World) (gb yb : Nat) (kd : Int) (sl : Value) (nn : Int) (cs : List Value) (gd : Gad f) : Prop where
 g : Vs wE gb [.int .u8 kd, sl, .int .i64 nn]
 y : Vs wE yb cs
 r : RepG wE wE.heap.size kd sl nn gd
 eg : E gb
 ey : E yb
 es : ∀ (p : Addr) (a c : Nat), sl = .slice (some p) a c → E p.block
 lt : ∀ q, E q → q < wE.heap.size
theorem CapD.at {f : Nat} {E : Nat → Prop} {wE w : World} {gb yb : Nat} {kd : Int} {sl : Value} {nn : Int} {cs : List Value} {gd : Gad f} (h : CapD E wE gb yb kd sl nn cs gd) (ha : Agr E wE w) :
  Vs w gb [.int .u8 kd, sl, .int .i64 nn] ∧ Vs w yb cs ∧ RepG w w.heap.size kd sl nn gd :=
 ⟨h.g.sameW (ha _ h.eg), h.y.sameW (ha _ h.ey), h.r.same fun p a c hs => ⟨ha _ (h.es p a c hs), ha.lt (h.es p a c hs) (h.lt _ (h.es p a c hs))⟩⟩
def InvD (E : Nat → Prop) (wE : World) (k : Nat) (D : Nat → Prop) (w : World) : Prop := D = E ∧ Agr E wE w
theorem InvD.st {E : Nat → Prop} {wE w : World} (k : Nat) (h : Agr E wE w) (hl : ∀ q, E q → q < wE.heap.size) : St (InvD E wE k) E w :=
 ⟨⟨rfl, h⟩, fun q hq => h.lt hq (hl q hq), fun w w' ⟨_, h⟩ hb => ⟨rfl, fun q hq => (hb q hq).trans (h q hq)⟩⟩

section
variable {f : Nat} (hf : IsF f)
include hf

end

end Go.Proofs.YtfbfbijkkbflkaaGreatDoor
