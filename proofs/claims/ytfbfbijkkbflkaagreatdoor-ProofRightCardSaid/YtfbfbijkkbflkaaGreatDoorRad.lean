/-
 PfS, Joint, RRuns, PfDe, PfDi, PfU2, Enc, Enc2: for ProofRight.
-/
import Derived.Test.YtfbfbijkkbflkaaGreatDoorRac
namespace Go.Proofs.YtfbfbijkkbflkaaGreatDoor
open Go.RowKit Fm
set_option linter.unusedVariables false
set_option maxRecDepth 100000

section
variable {f : Nat} (hf : IsF f)
include hf

set_option maxHeartbeats 8000000 in
theorem law11_someA (y : CK) (n s : Nat) (hn2 : n ≤ 2000) (hs10 : s ≤ 10) (vl : Value) (l : List E) (w : World) (hl : SlE w w.heap.size vl l) :
  Calls Tryz.prog 20 #[y.val f, vl, .int .i64 (n : Nat), .int .i64 (s : Nat)] w (RetV f n w) := by
 obtain ⟨⟨A, c, rfl, hlc, hcm, hA⟩, hok⟩ := hl
 have hfb0 : (1 : Int) ≤ (f : Int) := by rcases hf.or with rfl | rfl <;> omega
 have hfb1 : (f : Int) ≤ 2 := by rcases hf.or with rfl | rfl <;> omega
 unfold CK.val
 obtain ⟨K, hK⟩ : ∃ K : Int, ((y.k : Nat) : Int) = K := ⟨_, rfl⟩
 obtain ⟨B, hB⟩ : ∃ K : Int, ((y.b : Nat) : Int) = K := ⟨_, rfl⟩
 obtain ⟨N, hN⟩ : ∃ K : Int, ((y.l : Nat) : Int) = K := ⟨_, rfl⟩
 obtain ⟨M, hM⟩ : ∃ K : Int, ((y.m : Nat) : Int) = K := ⟨_, rfl⟩
 obtain ⟨C, hC⟩ : ∃ K : Int, ((y.c : Nat) : Int) = K := ⟨_, rfl⟩
 rw [hK, hB, hN, hM, hC]
 clear hK hB hN hM hC
 have hmk := make_elem n (by omega)
 have hb00 : Below w.heap.size w w := Below.refl _ _
 go_enter Tryz.func20, Tryz.ntmps20
 go_upto_region 1 with fail
 have hx := Vs.new w [.int .u8 K, .int .u8 f, .int .i64 B, .int .i64 N, .int .i64 M, .int .i64 C] #[.int .u8 K, .int .u8 f, .int .i64 B, .int .i64 N, .int .i64 M, .int .i64 C] 30 rfl
 have hbA : Below w.heap.size w (w.alloc (.cells #[.int .u8 K, .int .u8 f, .int .i64 B, .int .i64 N, .int .i64 M, .int .i64 C] 30)) := by repeat (first | exact bA | with_reducible assumption | apply bB)
 replace hb00 := bl_call hb00 (Nat.le_refl _) hbA
 clear hbA
 generalize w.alloc (.cells #[.int .u8 K, .int .u8 f, .int .i64 B, .int .i64 N, .int .i64 M, .int .i64 C] 30) = w1 at hb00 hx ⊢
 obtain ⟨⟨x0, x1, x2, x3, x4, x5⟩, ⟨x6, x7, x8, x9, x10, x11⟩, x12⟩ := hx.get6
 go_upto_region 2 with fail
 have hBk : BlkE (w1.alloc (.cells (cellsE (List.replicate n (0, 0))).toArray 36)) w1.heap.size (List.replicate n (0, 0)) := heap_alloc_new w1 _
 have hbA : Below w1.heap.size w1 (w1.alloc (.cells (cellsE (List.replicate n (0, 0))).toArray 36)) := by repeat (first | exact bA | with_reducible assumption | apply bB | (refine bC ?_ (by dsimp only; omega)) | apply bD | apply bE | (refine bF ?_ (by assumption)))
 have hgx : w.heap.size < w1.heap.size := hx.lt
 clear x0 x1 x2 x3 x4 x5 x6 x7 x8 x9 x10 x11 x12
 replace hb00 := bl_call hb00 (Nat.le_refl _) hbA
 replace hx := hx.call hbA
 clear hbA
 obtain ⟨g, hg⟩ : ∃ g, w1.heap.size = g := ⟨_, rfl⟩
 rw [hg] at hBk hgx ⊢
 generalize w1.alloc (.cells (cellsE (List.replicate n (0, 0))).toArray 36) = w2 at hBk hx hb00 ⊢
 clear hg hmk
 go_wp2_with fail
 go_loopw [15] (fun i wr => ∃ (k : Nat) (zs : KL f), zs.length = k ∧ k ≤ n ∧ i = .int .i64 k ∧ BlkE wr g (esK zs ++ List.replicate (n - k) (0, 0)) ∧ Vs wr w.heap.size [.int .u8 K, .int .u8 f, .int .i64 B, .int .i64 N, .int .i64 M, .int .i64 C] ∧ Below w.heap.size w wr) (fun i _ => n - (intOf i).toNat)
 case atStart => exact ⟨0, [], rfl, Nat.zero_le _, rfl, hBk, hx, hb00⟩
 case round =>
  clear hBk hx hb00
  obtain ⟨k, zs, hzl, hk, rfl, hBk, hx, hbw⟩ := hrel
  obtain ⟨⟨x0, x1, x2, x3, x4, x5⟩, ⟨x6, x7, x8, x9, x10, x11⟩, x12⟩ := hx.get6
  have HZ := Lib.hid hzl
  clear hzl
  by_cases hlt : k < n
  ·by_cases hl0 : l.length = 0
   ·rw [fill_none zs n k hlt] at hBk
    have HBK := Lib.hid hBk
    clear hBk hA
    go_wp2
    go_roundw
    case rel => exact ⟨k + 1, zs ++ [0], (by rw [List.length_append, HZ.out]; rfl), by omega, by go_num, HBK.out, hx, hbw⟩
    case measure => simp [intOf]; omega
   ·obtain ⟨b, o, rfl, hBl, hr⟩ := hA (by omega)
    obtain ⟨q, hq⟩ : ∃ q : Nat, k * s = q := ⟨_, rfl⟩
    have hqb : q ≤ 20000 := by rw [← hq]; exact Nat.le_trans (Nat.mul_le_mul (show k ≤ 2000 by omega) hs10) (by decide)
    have hqi : (k : Int) * (s : Int) = (q : Int) := by rw [← hq]; exact (Int.natCast_mul k s).symm
    obtain ⟨p, hp⟩ : ∃ p : Nat, q + s = p := ⟨_, rfl⟩
    have hw1 : IntKind.i64.wrap (q : Int) = (q : Int) := IntWalk.i64_in _ (by omega)
    have hw2 : IntKind.i64.wrap ((q : Int) + (s : Int)) = (p : Int) := by rw [IntWalk.i64_in _ (by omega)]; omega
    clear hq
    have hjm : p % l.length < l.length := Nat.mod_lt _ (by omega)
    obtain ⟨⟨e0, e1⟩, he⟩ : ∃ e, l[p % l.length]? = some e := ⟨_, List.getElem?_eq_getElem hjm⟩
    obtain ⟨h0, h1, h2, h3⟩ := hok _ (List.mem_of_getElem? he)
    obtain ⟨c0, c1⟩ := (hr.below hbw hBl) _ _ he
    dsimp only at h0 h1 h2 h3 c0 c1
    have hbl : b < wr.heap.size := Nat.lt_of_lt_of_le hBl hbw.size
    have HO := Lib.hid (fun wz => ref_OfL hf e0 e1 wz h0 h1 h2 h3)
    obtain ⟨x, hxx⟩ : ∃ x, kL f e0 e1 = x := ⟨_, rfl⟩
    rw [hxx] at HO
    have hjn : 0 ≤ (p : Int) % (l.length : Int) := Int.emod_nonneg _ (by omega)
    have hjl : (p : Int) % (l.length : Int) < (l.length : Int) := Int.emod_lt_of_pos _ (by omega)
    have hjt : ((p : Int) % (l.length : Int)).toNat = p % l.length := by rw [← Int.natCast_emod, Int.toNat_natCast]
    have hjd : (p : Int).tmod (l.length : Int) = (p : Int) % (l.length : Int) := Int.tmod_eq_emod_of_nonneg (by omega)
    have hgl : g < wr.heap.size := hBk.lt
    have hl9 : ¬ (l.length = 0) := hl0
    have hwf : IntKind.i64.wrap (f : Int) = (f : Int) := IntWalk.i64_in _ (by omega)
    clear he hr hA hxx
    go_upto_region 6 with fail
    refine region_B (n := 18) (m := 19) (f := 18) (by kernel_rfl) (by kernel_rfl) rfl ?_
    refine WpH.vD 0 (some 21) ?_ rfl rfl (by kernel_rfl) (fun _ _ _ h => h) rfl (fun wz hwz => ?_) ?_
    rotate_left
    ·go_simp; try (with_reducible rfl)
    simp only [Zp, Zq, Zr, Zs]
    refine WpH.vD 1 (some 22) ?_ rfl rfl (by kernel_rfl) (fun _ _ _ h => h) rfl (fun wz hwz => ?_) ?_
    rotate_left
    ·go_simp; try (with_reducible rfl)
    simp only [Zp, Zq, Zr, Zs]
    refine WpH.vD 2 (some 23) ?_ rfl rfl (by kernel_rfl) (fun _ _ _ h => h) rfl (fun wz hwz => ?_) ?_
    rotate_left
    ·go_simp; try (with_reducible rfl)
    simp only [Zp, Zq, Zr, Zs]
    refine WpH.vD 3 (some 24) ?_ rfl rfl (by kernel_rfl) (fun _ _ _ h => h) rfl (fun wz hwz => ?_) ?_
    rotate_left
    ·(obtain ⟨hcz, hfz⟩ := bcell hwz; go_simp; try (with_reducible rfl))
    simp only [Zp, Zq, Zr, Zs]
    refine WpH.vD 4 (some 25) ?_ rfl rfl (by kernel_rfl) (fun _ _ _ h => h) rfl (fun wz hwz => ?_) ?_
    rotate_left
    ·go_simp; try (with_reducible rfl)
    simp only [Zp, Zq, Zr, Zs]
    refine WpH.vD 5 (some 26) ?_ rfl rfl (by kernel_rfl) (fun _ _ _ h => h) rfl (fun wz hwz => ?_) ?_
    rotate_left
    ·go_simp; try (with_reducible rfl)
    simp only [Zp, Zq, Zr, Zs]
    refine WpH.vD 6 (some 27) ?_ rfl rfl (by kernel_rfl) (fun _ _ _ h => h) rfl (fun wz hwz => ?_) ?_
    rotate_left
    ·go_simp; try (with_reducible rfl)
    simp only [Zp, Zq, Zr, Zs]
    refine WpH.vD 7 (some 28) ?_ rfl rfl (by kernel_rfl) (fun _ _ _ h => h) rfl (fun wz hwz => ?_) ?_
    rotate_left
    ·go_simp; try (with_reducible rfl)
    simp only [Zp, Zq, Zr, Zs]
    refine WpH.vD 8 (some 29) ?_ rfl rfl (by kernel_rfl) (fun _ _ _ h => h) rfl (fun wz hwz => ?_) ?_
    rotate_left
    ·go_simp; try (with_reducible rfl)
    simp only [Zp, Zq, Zr, Zs]
    refine WpH.vD 9 (some 30) ?_ rfl rfl (by kernel_rfl) (fun _ _ _ h => h) rfl (fun wz hwz => ?_) ?_
    rotate_left
    ·go_simp; try (with_reducible rfl)
    simp only [Zp, Zq, Zr, Zs]
    refine WpH.vD 10 (some 31) ?_ rfl rfl (by kernel_rfl) (fun _ _ _ h => h) rfl (fun wz hwz => ?_) ?_
    rotate_left
    ·go_simp; try (with_reducible rfl)
    simp only [Zp, Zq, Zr, Zs]
    refine WpH.vD 11 (some 32) ?_ rfl rfl (by kernel_rfl) (fun _ _ _ h => h) rfl (fun wz hwz => ?_) ?_
    rotate_left
    ·go_simp; try (with_reducible rfl)
    simp only [Zp, Zq, Zr, Zs]
    refine WpH.vD 12 (some 33) ?_ rfl rfl (by kernel_rfl) (fun _ _ _ h => h) rfl (fun wz hwz => ?_) ?_
    rotate_left
    ·go_simp; try (with_reducible rfl)
    simp only [Zp, Zq, Zr, Zs]
    refine WpH.vD 13 (some 34) ?_ rfl rfl (by kernel_rfl) (fun _ _ _ h => h) rfl (fun wz hwz => ?_) ?_
    rotate_left
    ·go_simp; try (with_reducible rfl)
    simp only [Zp, Zq, Zr, Zs]
    refine WpH.vD 14 (some 35) ?_ rfl rfl (by kernel_rfl) (fun _ _ _ h => h) rfl (fun wz hwz => ?_) ?_
    rotate_left
    ·go_simp; try (with_reducible rfl)
    simp only [Zp, Zq, Zr, Zs]
    refine WpH.vD 15 (some 36) ?_ rfl rfl (by kernel_rfl) (fun _ _ _ h => h) rfl (fun wz hwz => ?_) ?_
    rotate_left
    ·(obtain ⟨hcz, hfz⟩ := bcell hwz; go_simp; try (with_reducible rfl))
    simp only [Zp, Zq, Zr, Zs]
    refine WpH.takeD 16 (some 37) rfl rfl (by kernel_rfl) (fun _ _ _ h => h) (.call rfl (fun wz hwz => HO.out wz) (fun wz hwz => ?_)) ?_
    ·go_simp; try (with_reducible rfl)
    simp only [Zp, Zq, Zr, Zs]
    refine WpH.vD 17 (some 38) ?_ rfl rfl (by kernel_rfl) (fun _ _ _ h => h) rfl (fun wz hwz => ?_) ?_
    rotate_left
    ·go_simp; try (with_reducible rfl)
    simp only [Zp, Zq, Zr, Zs]
    refine WpH.doneB (by kernel_rfl) (fun w6 hw6 => ?_)
    (try simp only [List.drop_succ_cons]); (try simp only [List.drop_zero]); (try simp only [Nat.reduceSub]); (try simp only [List.take_succ_cons]); (try simp only [List.take_zero])
    replace hBk := hBk.call hw6
    clear x0 x1 x2 x3 x4 x5 x6 x7 x8 x9 x10 x11 x12
    replace hbw := bl_call hbw (Nat.le_refl _) hw6
    replace hx := hx.call hw6
    obtain ⟨⟨x0, x1, x2, x3, x4, x5⟩, ⟨x6, x7, x8, x9, x10, x11⟩, x12⟩ := hx.get6
    have hzk : ∃ u v : Value, w6.cell? ⟨g, k * 2, none⟩ = some u ∧ w6.cell? ⟨g, k * 2 + 1, none⟩ = some v := by
     have hlen : k < (esK zs ++ List.replicate (n - k) ((0, 0) : E)).length := by
      rw [List.length_append, List.length_replicate, esK_length, HZ.out]
      omega
     obtain ⟨e1, e2⟩ := hBk.row k _ (List.getElem?_eq_getElem hlen)
     exact ⟨_, _, e1, e2⟩
    obtain ⟨u, v, z0, z1⟩ := hzk
    have fz0 := hBk.frozen (k * 2)
    have fz1 := hBk.frozen (k * 2 + 1)
    have HS : Hid ((esK zs ++ List.replicate (n - k) ((0, 0) : E)).set k (lo x, hi x) = esK (zs ++ [x]) ++ List.replicate (n - (k + 1)) (0, 0)) := fill_put zs n k HZ.out hlt x _ _ rfl
    have HBS := Lib.hid (hBk.set k (lo x) (hi x))
    clear hBk
    have hgw : w.heap.size ≤ g := by omega
    go_wp2
    go_roundw
    case rel =>
     have h := HBS.out
     rw [HS.out] at h
     exact ⟨k + 1, zs ++ [x], (by rw [List.length_append, HZ.out]; rfl), by omega, by go_num, h, (hx.far (by dsimp only; omega) _).far (by dsimp only; omega) _, by repeat (first | exact bA | with_reducible assumption | apply bB | (refine bC ?_ (by dsimp only; omega)) | apply bD | apply bE | (refine bF ?_ (by assumption)))⟩
    case measure => simp [intOf]; omega
  ·obtain rfl : k = n := by omega
   rw [Nat.sub_self, List.replicate_zero, List.append_nil] at hBk
   go_wp2
   go_ret
   exact ⟨g, zs, HZ.out, rfl, hBk, by omega, hbw⟩
theorem law11_some (y : CK) (n s : Nat) (hn2 : n ≤ 2000) (hs10 : s ≤ 10) (vl : Value) (l : List E) (w : World) (hl : SlE w w.heap.size vl l) (hl60 : l.length ≤ 60) :
  Calls Tryz.prog 20 #[y.val f, vl, .int .i64 (n : Nat), .int .i64 (s : Nat)] w (RetV f n w) := law11_someA hf y n s hn2 hs10 vl l w hl
end

end Go.Proofs.YtfbfbijkkbflkaaGreatDoor

namespace Go.Proofs.YtfbfbijkkbflkaaGreatDoor
open Go.RowKit Fm
set_option linter.unusedVariables false
set_option maxRecDepth 100000

section
variable {f : Nat} (hf : IsF f)
include hf

set_option maxHeartbeats 8000000 in
theorem law10_Joint (y : CK) (hy : y.ok) (hcl : y.calls ≤ 511) (vl : Value) (l : List E) (w : World) (hl : SlE w w.heap.size vl l) (hl60 : l.length ≤ 60) :
  Calls Tryz.prog 19 #[y.val f, vl, .int .i64 1] w (RetV f y.joint w) := by
 have HI := Lib.hid (fun wz => circuit_Joint f y hy wz)
 have hnin : y.joint ≤ 512 := by cases y <;> simp only [CK.joint] <;> (try simp only [CK.calls] at hcl ⊢) <;> omega
 obtain ⟨⟨A, c, rfl, hlc, hcm, hA⟩, hok⟩ := hl
 have hfb0 : (1 : Int) ≤ (f : Int) := by rcases hf.or with rfl | rfl <;> omega
 have hfb1 : (f : Int) ≤ 2 := by rcases hf.or with rfl | rfl <;> omega
 unfold CK.val at HI ⊢
 obtain ⟨K, hK⟩ : ∃ K : Int, ((y.k : Nat) : Int) = K := ⟨_, rfl⟩
 obtain ⟨B, hB⟩ : ∃ K : Int, ((y.b : Nat) : Int) = K := ⟨_, rfl⟩
 obtain ⟨N, hN⟩ : ∃ K : Int, ((y.l : Nat) : Int) = K := ⟨_, rfl⟩
 obtain ⟨M, hM⟩ : ∃ K : Int, ((y.m : Nat) : Int) = K := ⟨_, rfl⟩
 obtain ⟨C, hC⟩ : ∃ K : Int, ((y.c : Nat) : Int) = K := ⟨_, rfl⟩
 rw [hK, hB, hN, hM, hC] at HI ⊢
 clear hK hB hN hM hC hy
 clear hcl
 generalize y.joint = n at *
 have hmk := make_elem n (by omega)
 have hb00 : Below w.heap.size w w := Below.refl _ _
 go_enter Tryz.func19, Tryz.ntmps19
 go_upto_region 1 with fail
 have hx := Vs.new w [.int .u8 K, .int .u8 f, .int .i64 B, .int .i64 N, .int .i64 M, .int .i64 C] #[.int .u8 K, .int .u8 f, .int .i64 B, .int .i64 N, .int .i64 M, .int .i64 C] 30 rfl
 have hbA : Below w.heap.size w (w.alloc (.cells #[.int .u8 K, .int .u8 f, .int .i64 B, .int .i64 N, .int .i64 M, .int .i64 C] 30)) := by repeat (first | exact bA | with_reducible assumption | apply bB)
 replace hb00 := bl_call hb00 (Nat.le_refl _) hbA
 clear hbA
 generalize w.alloc (.cells #[.int .u8 K, .int .u8 f, .int .i64 B, .int .i64 N, .int .i64 M, .int .i64 C] 30) = w1 at hb00 hx ⊢
 obtain ⟨⟨x0, x1, x2, x3, x4, x5⟩, ⟨x6, x7, x8, x9, x10, x11⟩, x12⟩ := hx.get6
 go_upto_region 2 with (first
  | (go_at_call 14; refine (HI.out _).mono ?_; rintro e w2 ⟨rfl, hb2⟩; replace hb00 := bl_call hb00 (Nat.le_refl _) hb2; replace hx := hx.call hb2; obtain ⟨⟨x0, x1, x2, x3, x4, x5⟩, ⟨x6, x7, x8, x9, x10, x11⟩, x12⟩ := hx.get6))
 have hBk : BlkE (w2.alloc (.cells (cellsE (List.replicate n (0, 0))).toArray 36)) w2.heap.size (List.replicate n (0, 0)) := heap_alloc_new w2 _
 have hbA : Below w2.heap.size w2 (w2.alloc (.cells (cellsE (List.replicate n (0, 0))).toArray 36)) := by repeat (first | exact bA | with_reducible assumption | apply bB | (refine bC ?_ (by dsimp only; omega)) | apply bD | apply bE | (refine bF ?_ (by assumption)))
 have hgx : w.heap.size < w2.heap.size := hx.lt
 clear x0 x1 x2 x3 x4 x5 x6 x7 x8 x9 x10 x11 x12
 replace hb00 := bl_call hb00 (Nat.le_refl _) hbA
 replace hx := hx.call hbA
 clear hbA hb2
 obtain ⟨g, hg⟩ : ∃ g, w2.heap.size = g := ⟨_, rfl⟩
 rw [hg] at hBk hgx ⊢
 generalize w2.alloc (.cells (cellsE (List.replicate n (0, 0))).toArray 36) = w3 at hBk hx hb00 ⊢
 clear hg hmk HI
 go_wp2_with fail
 go_loopw [16] (fun i wr => ∃ (k : Nat) (zs : KL f), zs.length = k ∧ k ≤ n ∧ i = .int .i64 k ∧ BlkE wr g (esK zs ++ List.replicate (n - k) (0, 0)) ∧ Vs wr w.heap.size [.int .u8 K, .int .u8 f, .int .i64 B, .int .i64 N, .int .i64 M, .int .i64 C] ∧ Below w.heap.size w wr) (fun i _ => n - (intOf i).toNat)
 case atStart => exact ⟨0, [], rfl, Nat.zero_le _, rfl, hBk, hx, hb00⟩
 case round =>
  clear hBk hx hb00
  obtain ⟨k, zs, hzl, hk, rfl, hBk, hx, hbw⟩ := hrel
  obtain ⟨⟨x0, x1, x2, x3, x4, x5⟩, ⟨x6, x7, x8, x9, x10, x11⟩, x12⟩ := hx.get6
  have HZ := Lib.hid hzl
  clear hzl
  by_cases hlt : k < n
  ·by_cases hl0 : l.length = 0
   ·rw [fill_none zs n k hlt] at hBk
    have HBK := Lib.hid hBk
    clear hBk hA
    go_wp2
    go_roundw
    case rel => exact ⟨k + 1, zs ++ [0], (by rw [List.length_append, HZ.out]; rfl), by omega, by go_num, HBK.out, hx, hbw⟩
    case measure => simp [intOf]; omega
   ·obtain ⟨b, o, rfl, hBl, hr⟩ := hA (by omega)
    obtain ⟨p, hp⟩ : ∃ p : Nat, k * 7 + 3 = p := ⟨_, rfl⟩
    have hw1 : IntKind.i64.wrap ((k : Int) * 7) = (k : Int) * 7 := IntWalk.i64_in _ (by omega)
    have hw2 : IntKind.i64.wrap ((k : Int) * 7 + 3) = (p : Int) := by rw [IntWalk.i64_in _ (by omega)]; omega
    have hjm : p % l.length < l.length := Nat.mod_lt _ (by omega)
    obtain ⟨⟨e0, e1⟩, he⟩ : ∃ e, l[p % l.length]? = some e := ⟨_, List.getElem?_eq_getElem hjm⟩
    obtain ⟨h0, h1, h2, h3⟩ := hok _ (List.mem_of_getElem? he)
    obtain ⟨c0, c1⟩ := (hr.below hbw hBl) _ _ he
    dsimp only at h0 h1 h2 h3 c0 c1
    have hbl : b < wr.heap.size := Nat.lt_of_lt_of_le hBl hbw.size
    have HO := Lib.hid (fun wz => ref_OfL hf e0 e1 wz h0 h1 h2 h3)
    obtain ⟨x, hxx⟩ : ∃ x, kL f e0 e1 = x := ⟨_, rfl⟩
    rw [hxx] at HO
    have hjn : 0 ≤ (p : Int) % (l.length : Int) := Int.emod_nonneg _ (by omega)
    have hjl : (p : Int) % (l.length : Int) < (l.length : Int) := Int.emod_lt_of_pos _ (by omega)
    have hjt : ((p : Int) % (l.length : Int)).toNat = p % l.length := by rw [← Int.natCast_emod, Int.toNat_natCast]
    have hjd : (p : Int).tmod (l.length : Int) = (p : Int) % (l.length : Int) := Int.tmod_eq_emod_of_nonneg (by omega)
    have hgl : g < wr.heap.size := hBk.lt
    have hl9 : ¬ (l.length = 0) := hl0
    have hwf : IntKind.i64.wrap (f : Int) = (f : Int) := IntWalk.i64_in _ (by omega)
    clear he hr hA hxx
    go_upto_region 6 with fail
    refine region_B (n := 16) (m := 17) (f := 16) (by kernel_rfl) (by kernel_rfl) rfl ?_
    refine WpH.vD 0 (some 22) ?_ rfl rfl (by kernel_rfl) (fun _ _ _ h => h) rfl (fun wz hwz => ?_) ?_
    rotate_left
    ·go_simp; try (with_reducible rfl)
    simp only [Zp, Zq, Zr, Zs]
    refine WpH.vD 1 (some 23) ?_ rfl rfl (by kernel_rfl) (fun _ _ _ h => h) rfl (fun wz hwz => ?_) ?_
    rotate_left
    ·go_simp; try (with_reducible rfl)
    simp only [Zp, Zq, Zr, Zs]
    refine WpH.vD 2 (some 24) ?_ rfl rfl (by kernel_rfl) (fun _ _ _ h => h) rfl (fun wz hwz => ?_) ?_
    rotate_left
    ·go_simp; try (with_reducible rfl)
    simp only [Zp, Zq, Zr, Zs]
    refine WpH.vD 3 (some 25) ?_ rfl rfl (by kernel_rfl) (fun _ _ _ h => h) rfl (fun wz hwz => ?_) ?_
    rotate_left
    ·(obtain ⟨hcz, hfz⟩ := bcell hwz; go_simp; try (with_reducible rfl))
    simp only [Zp, Zq, Zr, Zs]
    refine WpH.vD 4 (some 26) ?_ rfl rfl (by kernel_rfl) (fun _ _ _ h => h) rfl (fun wz hwz => ?_) ?_
    rotate_left
    ·go_simp; try (with_reducible rfl)
    simp only [Zp, Zq, Zr, Zs]
    refine WpH.vD 5 (some 27) ?_ rfl rfl (by kernel_rfl) (fun _ _ _ h => h) rfl (fun wz hwz => ?_) ?_
    rotate_left
    ·go_simp; try (with_reducible rfl)
    simp only [Zp, Zq, Zr, Zs]
    refine WpH.vD 6 (some 28) ?_ rfl rfl (by kernel_rfl) (fun _ _ _ h => h) rfl (fun wz hwz => ?_) ?_
    rotate_left
    ·go_simp; try (with_reducible rfl)
    simp only [Zp, Zq, Zr, Zs]
    refine WpH.vD 7 (some 29) ?_ rfl rfl (by kernel_rfl) (fun _ _ _ h => h) rfl (fun wz hwz => ?_) ?_
    rotate_left
    ·go_simp; try (with_reducible rfl)
    simp only [Zp, Zq, Zr, Zs]
    refine WpH.vD 8 (some 30) ?_ rfl rfl (by kernel_rfl) (fun _ _ _ h => h) rfl (fun wz hwz => ?_) ?_
    rotate_left
    ·go_simp; try (with_reducible rfl)
    simp only [Zp, Zq, Zr, Zs]
    refine WpH.vD 9 (some 31) ?_ rfl rfl (by kernel_rfl) (fun _ _ _ h => h) rfl (fun wz hwz => ?_) ?_
    rotate_left
    ·go_simp; try (with_reducible rfl)
    simp only [Zp, Zq, Zr, Zs]
    refine WpH.vD 10 (some 32) ?_ rfl rfl (by kernel_rfl) (fun _ _ _ h => h) rfl (fun wz hwz => ?_) ?_
    rotate_left
    ·go_simp; try (with_reducible rfl)
    simp only [Zp, Zq, Zr, Zs]
    refine WpH.vD 11 (some 33) ?_ rfl rfl (by kernel_rfl) (fun _ _ _ h => h) rfl (fun wz hwz => ?_) ?_
    rotate_left
    ·go_simp; try (with_reducible rfl)
    simp only [Zp, Zq, Zr, Zs]
    refine WpH.vD 12 (some 34) ?_ rfl rfl (by kernel_rfl) (fun _ _ _ h => h) rfl (fun wz hwz => ?_) ?_
    rotate_left
    ·go_simp; try (with_reducible rfl)
    simp only [Zp, Zq, Zr, Zs]
    refine WpH.vD 13 (some 35) ?_ rfl rfl (by kernel_rfl) (fun _ _ _ h => h) rfl (fun wz hwz => ?_) ?_
    rotate_left
    ·(obtain ⟨hcz, hfz⟩ := bcell hwz; go_simp; try (with_reducible rfl))
    simp only [Zp, Zq, Zr, Zs]
    refine WpH.takeD 14 (some 36) rfl rfl (by kernel_rfl) (fun _ _ _ h => h) (.call rfl (fun wz hwz => HO.out wz) (fun wz hwz => ?_)) ?_
    ·go_simp; try (with_reducible rfl)
    simp only [Zp, Zq, Zr, Zs]
    refine WpH.vD 15 (some 37) ?_ rfl rfl (by kernel_rfl) (fun _ _ _ h => h) rfl (fun wz hwz => ?_) ?_
    rotate_left
    ·go_simp; try (with_reducible rfl)
    simp only [Zp, Zq, Zr, Zs]
    refine WpH.doneB (by kernel_rfl) (fun w6 hw6 => ?_)
    (try simp only [List.drop_succ_cons]); (try simp only [List.drop_zero]); (try simp only [Nat.reduceSub]); (try simp only [List.take_succ_cons]); (try simp only [List.take_zero])
    replace hBk := hBk.call hw6
    clear x0 x1 x2 x3 x4 x5 x6 x7 x8 x9 x10 x11 x12
    replace hbw := bl_call hbw (Nat.le_refl _) hw6
    replace hx := hx.call hw6
    obtain ⟨⟨x0, x1, x2, x3, x4, x5⟩, ⟨x6, x7, x8, x9, x10, x11⟩, x12⟩ := hx.get6
    have hzk : ∃ u v : Value, w6.cell? ⟨g, k * 2, none⟩ = some u ∧ w6.cell? ⟨g, k * 2 + 1, none⟩ = some v := by
     have hlen : k < (esK zs ++ List.replicate (n - k) ((0, 0) : E)).length := by
      rw [List.length_append, List.length_replicate, esK_length, HZ.out]
      omega
     obtain ⟨e1, e2⟩ := hBk.row k _ (List.getElem?_eq_getElem hlen)
     exact ⟨_, _, e1, e2⟩
    obtain ⟨u, v, z0, z1⟩ := hzk
    have fz0 := hBk.frozen (k * 2)
    have fz1 := hBk.frozen (k * 2 + 1)
    have HS : Hid ((esK zs ++ List.replicate (n - k) ((0, 0) : E)).set k (lo x, hi x) = esK (zs ++ [x]) ++ List.replicate (n - (k + 1)) (0, 0)) := fill_put zs n k HZ.out hlt x _ _ rfl
    have HBS := Lib.hid (hBk.set k (lo x) (hi x))
    clear hBk
    have hgw : w.heap.size ≤ g := by omega
    go_wp2
    go_roundw
    case rel =>
     have h := HBS.out
     rw [HS.out] at h
     exact ⟨k + 1, zs ++ [x], (by rw [List.length_append, HZ.out]; rfl), by omega, by go_num, h, (hx.far (by dsimp only; omega) _).far (by dsimp only; omega) _, by repeat (first | exact bA | with_reducible assumption | apply bB | (refine bC ?_ (by dsimp only; omega)) | apply bD | apply bE | (refine bF ?_ (by assumption)))⟩
    case measure => simp [intOf]; omega
  ·obtain rfl : k = n := by omega
   rw [Nat.sub_self, List.replicate_zero, List.append_nil] at hBk
   go_wp2
   go_ret
   exact ⟨g, zs, HZ.out, rfl, hBk, by omega, hbw⟩
end

end Go.Proofs.YtfbfbijkkbflkaaGreatDoor

namespace Go.Proofs.YtfbfbijkkbflkaaGreatDoor
open Go.RowKit Fm
set_option linter.unusedVariables false
set_option maxRecDepth 100000

theorem BlkE.slM {f n : Nat} {w : World} {g : Nat} {l : KL f} (h : BlkE w g (esK l)) (hl : l.length = n) (hn : n ≤ 1000000) : SlK w w.heap.size (.slice (some ⟨g, 0, none⟩) n n) l := by
 subst hl
 exact h.slK (by omega) h.lt

section
variable {f : Nat} (hf : IsF f)
include hf

def InvRun (cs : List Value) (cb yb k : Nat) (D : Nat → Prop) (w : World) : Prop := D = (fun q => q = cb ∨ q = yb) ∧ Vs w cb [.int .i64 (k : Nat)] ∧ Vs w yb cs
omit hf in
theorem Vs.sameH {w w' : World} {b : Nat} {cs : List Value} (h : Vs w b cs) (hb : w'.heap[b]? = w.heap[b]?) : Vs w' b cs :=
 ⟨fun i v hi => (World.cell?_of_block (w := w) (a := ⟨b, i, none⟩) hb).trans (h.cell i v hi), fun i hi => (World.frozen?_of_block (w := w) (a := ⟨b, i, none⟩) hb).trans (h.frz i hi), by
  have h1 := h.lt
  rcases Nat.lt_or_ge b w'.heap.size with h2 | h2
  ·exact h2
  ·rw [Array.getElem?_eq_none h2, Array.getElem?_eq_getElem h1] at hb
   cases hb⟩
omit hf in
theorem InvRun.st {cs : List Value} {cb yb k : Nat} {w : World} (h1 : Vs w cb [.int .i64 (k : Nat)]) (h2 : Vs w yb cs) : St (InvRun cs cb yb k) (fun q => q = cb ∨ q = yb) w :=
 ⟨⟨rfl, h1, h2⟩, fun q hq => by
  rcases hq with rfl | rfl
  ·exact h1.lt
  ·exact h2.lt, fun w w' ⟨e, g1, g2⟩ hb => ⟨e, g1.sameH (hb cb (.inl rfl)), g2.sameH (hb yb (.inr rfl))⟩⟩

end

end Go.Proofs.YtfbfbijkkbflkaaGreatDoor

namespace Go.Proofs.YtfbfbijkkbflkaaGreatDoor
open Go.RowKit Fm
set_option linter.unusedVariables false
set_option maxRecDepth 100000

def DeT {f : Nat} (w3 : World) (gd : Gad f) (o1 : Option (Int × Value × Int)) (o2 : Option Nat) (wz : World) : Prop := Below w3.heap.size w3 wz ∧ ∀ q, o1 = some q → RepG wz wz.heap.size q.1 q.2.1 q.2.2 gd
structure DeK {f : Nat} (w3 : World) (gd : Gad f) (u v : Value) (o1 : Option (Int × Value × Int)) (o2 : Option Nat) (s1 : Bool) (wz : World) : Prop where
 t : DeT w3 gd o1 o2 wz
 b : ∀ b, o2 = some b → w3.heap.size ≤ b ∧ V2 wz b (if s1 then u else .int .u64 0) (if s1 then v else .int .u64 0)
 d : ∀ (q : Int × Value × Int) (b : Nat) (p : Addr) (a c : Nat), o1 = some q → o2 = some b → q.2.1 = .slice (some p) a c → p.block ≠ b
theorem DeK.clo {f : Nat} {w3 : World} {gd : Gad f} {u v : Value} {o1 : Option (Int × Value × Int)} {o2 : Option Nat} {s1 : Bool} : Clo (DeK w3 gd u v o1 o2 s1) := fun _ _ h hb =>
 ⟨⟨bl_call h.t.1 (Nat.le_refl _) hb, fun q e => (h.t.2 q e).later hb⟩, fun b e => ⟨(h.b b e).1, (h.b b e).2.call hb⟩, h.d⟩
theorem DeK.mk1 {f : Nat} {w3 w w' : World} {gd : Gad f} {u v : Value} {o2 : Option Nat} {s1 : Bool} (h : DeK w3 gd u v none o2 s1 w) (q : Int × Value × Int) (hq : RepG w' w'.heap.size q.1 q.2.1 q.2.2 gd) (hb : Below w.heap.size w w') (hn : ∀ (p : Addr) (a c : Nat), q.2.1 = .slice (some p) a c → w.heap.size ≤ p.block) : DeK w3 gd u v (some q) o2 s1 w' :=
 ⟨⟨bl_call h.t.1 (Nat.le_refl _) hb, fun q' e => by injection e with e; subst e; exact hq⟩, fun b e => ⟨(h.b b e).1, (h.b b e).2.call hb⟩, fun q' b p a c e1 e2 e3 => by
  injection e1 with e1
  subst e1
  have h1 := hn p a c e3
  have h2 := (h.b b e2).2.lt
  omega⟩
theorem DeK.mk2 {f : Nat} {w3 w : World} {gd : Gad f} {u v : Value} {o1 : Option (Int × Value × Int)} (h : DeK w3 gd u v o1 none false w) : DeK w3 gd u v o1 (some w.heap.size) false (w.alloc (.cells #[.int .u64 0, .int .u64 0] 36)) := by
 have h2 := DeK.clo _ _ h ((Below.refl w.heap.size w).alloc (Nat.le_refl _) (.cells #[.int .u64 0, .int .u64 0] 36))
 refine ⟨h2.t, fun b e => ?_, fun q b p a c e1 e2 e3 => ?_⟩
 ·injection e with e
  subst e
  exact ⟨h.t.1.size, V2.new w _ _ _⟩
 ·injection e2 with e2
  have h3 := (h.t.2 q e1).ltB p a c e3
  omega
theorem DeK.put {f : Nat} {w3 w : World} {gd : Gad f} {u v : Value} {q : Int × Value × Int} {b : Nat} (h : DeK w3 gd u v (some q) (some b) false w) : DeK w3 gd u v (some q) (some b) true ((w.setCell ⟨b, 0, none⟩ u).setCell ⟨b, 1, none⟩ v) := by
 refine ⟨⟨bl_st h.t.1 (h.b b rfl).1 u v, fun q' e => ?_⟩, fun b' e => ?_, h.d⟩
 ·injection e with e
  subst e
  refine (h.t.2 q rfl).same fun p a c hs => ?_
  have h1 := h.d q b p a c rfl rfl hs
  have h2 := (h.t.2 q rfl).ltB p a c hs
  exact ⟨(Below.heap_setCell _ _ _ _ h1).trans (Below.heap_setCell _ _ _ _ h1), by simpa [World.setCell] using h2⟩
 ·injection e with e
  subst e
  exact ⟨(h.b b rfl).1, (h.b b rfl).2.set u v⟩
theorem DeK.start {f : Nat} (w3 : World) (gd : Gad f) (u v : Value) : DeK w3 gd u v none none false w3.drew :=
 ⟨⟨(Below.refl _ _).drew, fun _ e => (by cases e)⟩, fun _ e => (by cases e), fun _ _ _ _ _ e => (by cases e)⟩

section
variable {f : Nat} (hf : IsF f)
include hf

set_option maxHeartbeats 8000000 in
theorem proof_Decide (y : CK) (hy : y.ok) (hcl : y.calls ≤ 511) (vl : Value) (l : KL f) (hl : l.length = y.arity + 2) (w : World) (hs : SlK w w.heap.size vl l) :
  Calls Tryz.prog 36 #[y.val f, vl] w fun e w' => e = .returned (.tuple #[.bool (decide (l.getD 0 0 = 0) && decide (gval (y.gad f) ((l.drop 1).take y.arity) = l.getD (y.arity + 1) 0)), .int .i64 0]) ∧ Below w.heap.size w w' := by
 have HCHK : Hid (∀ wz, Calls Tryz.prog 48 #[y.val f] wz (RetC 0 wz)) := fun wz => by
  have h := circuit_Check_ok hf y hy wz
  rwa [CK.code_ok (by omega)] at h
 have HGAD : Hid (∀ wz, Calls Tryz.prog 27 #[y.val f] wz (RetG2 (y.gad f) wz)) := fun wz => circuit_Gadget2 hf y hy wz
 have HVER : Hid (∀ wz, Calls Tryz.prog 43 #[y.val f] wz (RetI (y.arity + 2) wz)) := fun wz => circuit_Verifier hf y hy wz
 have hal := CK.arity_le hy
 have hga := gad_arity f y
 obtain ⟨A, c, rfl, hlc, hcm, hA⟩ := id hs
 obtain ⟨b, o, rfl, hbl, hrow⟩ := hA (by omega)
 have HROW := Lib.hid hrow
 have HLL := Lib.hid hl
 have HSL := Lib.hid hs
 rw [hl] at hlc HSL ⊢
 unfold CK.val at HCHK HGAD HVER ⊢
 generalize y.gad f = gd at *
 generalize y.arity = ar at *
 generalize ((y.k : Nat) : Int) = K at *
 generalize ((y.b : Nat) : Int) = B at *
 generalize ((y.l : Nat) : Int) = NN at *
 generalize ((y.m : Nat) : Int) = M at *
 generalize ((y.c : Nat) : Int) = C at *
 have HGA := Lib.hid hga
 have HLA := Lib.hid (hl)
 have HOF := Lib.hid (fun wz (k : Int) (sl : Value) (n : Int) (h : RepG wz wz.heap.size k sl n gd) (vi : Value) (hs : SlK wz wz.heap.size vi ((l.drop 1).take ar)) => gadget_Of hf wz gd k sl n h vi ((l.drop 1).take ar) hs (by rw [HGA.out, List.length_take, List.length_drop, HLA.out]; omega))
 have HSLI : Hid (∀ wz, Below w.heap.size w wz → SlK wz wz.heap.size (.slice (some ⟨b, o + 2, none⟩) ar (c - 1)) ((l.drop 1).take ar)) := fun wz hb => by
  have hlt : ((l.drop 1).take ar).length = ar := by rw [List.length_take, List.length_drop, HLA.out]; omega
  refine ⟨_, _, by rw [hlt], by omega, by omega, fun _ => ⟨b, o + 2, rfl, Nat.lt_of_lt_of_le hbl hb.size, fun i e hi => ?_⟩⟩
  have hi2 : (esK l)[i + 1]? = some e := by
   unfold esK at hi ⊢
   rw [List.getElem?_map] at hi ⊢
   have hia : i < ar := by
    rcases Nat.lt_or_ge i ar with h | h
    ·exact h
    ·rw [List.getElem?_eq_none (by omega)] at hi
     cases hi
   rw [List.getElem?_take_of_lt hia, List.getElem?_drop, Nat.add_comm 1 i] at hi
   exact hi
  have h := (hrow.below hb hbl) (i + 1) e hi2
  rw [show o + (i + 1) * 2 = o + 2 + i * 2 by omega] at h
  exact h
 obtain ⟨x0, hx0⟩ : ∃ x, l[0]? = some x := ⟨_, List.getElem?_eq_getElem (by omega)⟩
 obtain ⟨y1, hy1⟩ : ∃ x, l[ar + 1]? = some x := ⟨_, List.getElem?_eq_getElem (by omega)⟩
 have HXA : Hid (∀ wz, Below w.heap.size w wz → b < wz.heap.size ∧ wz.cell? ⟨b, o, none⟩ = some (.int .u64 (lo x0)) ∧ wz.cell? ⟨b, o + 1, none⟩ = some (.int .u64 (hi x0)) ∧ wz.cell? ⟨b, o + (ar + 1) * 2, none⟩ = some (.int .u64 (lo y1)) ∧ wz.cell? ⟨b, o + (ar + 1) * 2 + 1, none⟩ = some (.int .u64 (hi y1))) := fun wz hb => by
  have h0 := (hrow.below hb hbl).kat hx0
  have h1 := (hrow.below hb hbl).kat hy1
  rw [Nat.zero_mul, Nat.add_zero] at h0
  exact ⟨Nat.lt_of_lt_of_le hbl hb.size, h0.1, h0.2, h1.1, h1.2⟩
 have hg0 : l.getD 0 0 = x0 := by rw [List.getD_eq_getElem?_getD, hx0]; rfl
 have hg1 : l.getD (ar + 1) 0 = y1 := by rw [List.getD_eq_getElem?_getD, hy1]; rfl
 rw [hg0, hg1]
 clear hg0 hg1 hx0 hy1
 obtain ⟨z, hz9⟩ : ∃ z, gval gd ((l.drop 1).take ar) = z := ⟨_, rfl⟩
 rw [hz9] at HOF ⊢
 clear hz9
 obtain ⟨n2, hn2⟩ : ∃ n2, ar + 2 = n2 := ⟨_, rfl⟩
 have HN2 := Lib.hid hn2
 rw [hn2] at hlc HSL HVER ⊢
 obtain ⟨m1, hm1⟩ : ∃ m1, ar + 1 = m1 := ⟨_, rfl⟩
 have HM1 := Lib.hid hm1
 have hw1 : IntKind.i64.wrap ((n2 : Int) - 1) = (m1 : Int) := by rw [IntWalk.i64_in _ (by omega)]; omega
 have g1 : (0 : Int) ≤ (m1 : Int) := by omega
 have g2 : m1 ≤ c := by omega
 have g3 : 1 ≤ m1 := by omega
 have g4 : (m1 : Int) ≤ (c : Int) := by omega
 have g5 : m1 - 1 = ar := by omega
 have g6 : (1 : Int) ≤ (m1 : Int) := by omega
 have g7 : ¬ (c = 1) := by omega
 clear hA hrow hl hs hy hcl hga hn2 hm1
 go_enter Tryz.func36, Tryz.ntmps36
 go_upto_region 1 with fail
 have hyy := Vs.new w [.int .u8 K, .int .u8 f, .int .i64 B, .int .i64 NN, .int .i64 M, .int .i64 C] #[.int .u8 K, .int .u8 f, .int .i64 B, .int .i64 NN, .int .i64 M, .int .i64 C] 30 rfl
 have hb00 : Below w.heap.size w (w.alloc (.cells #[.int .u8 K, .int .u8 f, .int .i64 B, .int .i64 NN, .int .i64 M, .int .i64 C] 30)) := by repeat (first | exact bA | with_reducible assumption | apply bB)
 have hszn : w.heap.size + 1 ≤ (w.alloc (.cells #[.int .u8 K, .int .u8 f, .int .i64 B, .int .i64 NN, .int .i64 M, .int .i64 C] 30)).heap.size := by simp only [World.size_alloc]; omega
 generalize (w.alloc (.cells #[.int .u8 K, .int .u8 f, .int .i64 B, .int .i64 NN, .int .i64 M, .int .i64 C] 30)) = w1 at hyy hb00 hszn ⊢
 obtain ⟨⟨yy0, yy1, yy2, yy3, yy4, yy5⟩, ⟨yy6, yy7, yy8, yy9, yy10, yy11⟩, yy12⟩ := hyy.get6
 go_upto_region 2 with (go_at_call 48; refine (HCHK.out _).mono ?_; rintro e w2 ⟨rfl, hb2⟩)
 clear yy0 yy1 yy2 yy3 yy4 yy5 yy6 yy7 yy8 yy9 yy10 yy11 yy12
 replace hb00 := bl_call hb00 (Nat.le_refl _) hb2
 replace hyy := hyy.call hb2
 clear hb2
 obtain ⟨⟨yy0, yy1, yy2, yy3, yy4, yy5⟩, ⟨yy6, yy7, yy8, yy9, yy10, yy11⟩, yy12⟩ := hyy.get6
 go_upto_region 7 with (go_at_call 43; refine (HVER.out _).mono ?_; rintro e w3 ⟨rfl, hb3⟩)
 clear yy0 yy1 yy2 yy3 yy4 yy5 yy6 yy7 yy8 yy9 yy10 yy11 yy12
 replace hb00 := bl_call hb00 (Nat.le_refl _) hb3
 replace hyy := hyy.call hb3
 clear hb3
 have HYY := Lib.hid hyy
 have HB3 := Lib.hid hb00
 clear hyy
 apply region_Z2 (n := 13) (m := 14) (f := 13) (fun x0 x1 => (DeK w3 gd (.int .u64 (lo z)) (.int .u64 (hi z))) (some x0) (some x1) true) ((DeT w3 gd) none none) ((DeK w3 gd (.int .u64 (lo z)) (.int .u64 (hi z))) none none false) ((fun _ h => h.t)) (DeK.clo) ((DeK.start w3 gd _ _))
 case hm => kernel_rfl
 case hB => kernel_rfl
 case hf => rfl
 case' h =>
  refine WpX.vD 0 (some 24) ?_ rfl rfl (by kernel_rfl) (fun _ _ _ h => h) rfl (fun wz hwz => ?_) ?_
  rotate_left
  ·(have hz := (HYY.out.call hwz.1).get6; obtain ⟨⟨z0, z1, z2, z3, z4, z5⟩, ⟨y0, y1, y2, y3, y4, y5⟩, y6⟩ := hz; go_simp; try (with_reducible rfl))
  simp only [Zp, Zq, Zr, Zs]
  refine WpX.vD 2 (some 26) ?_ rfl rfl (by kernel_rfl) (fun _ _ _ h => h) rfl (fun wz hwz => ?_) ?_
  rotate_left
  ·go_simp; try (with_reducible rfl)
  simp only [Zp, Zq, Zr, Zs]
  refine WpX.vD 3 (some 27) ?_ rfl rfl (by kernel_rfl) (fun _ _ _ h => h) rfl (fun wz hwz => ?_) ?_
  rotate_left
  ·(have hz := (HYY.out.call hwz.1).get6; obtain ⟨⟨z0, z1, z2, z3, z4, z5⟩, ⟨y0, y1, y2, y3, y4, y5⟩, y6⟩ := hz; go_simp; try (with_reducible rfl))
  simp only [Zp, Zq, Zr, Zs]
  refine WpX.vD 4 (some 28) ?_ rfl rfl (by kernel_rfl) (fun _ _ _ h => h) rfl (fun wz hwz => ?_) ?_
  rotate_left
  ·go_simp; try (with_reducible rfl)
  simp only [Zp, Zq, Zr, Zs]
  refine WpX.vD 5 (some 29) ?_ rfl rfl (by kernel_rfl) (fun _ _ _ h => h) rfl (fun wz hwz => ?_) ?_
  rotate_left
  ·go_simp; try (with_reducible rfl)
  simp only [Zp, Zq, Zr, Zs]
  refine WpX.vD 6 (some 30) ?_ rfl rfl (by kernel_rfl) (fun _ _ _ h => h) rfl (fun wz hwz => ?_) ?_
  rotate_left
  ·go_simp; try (with_reducible rfl)
  simp only [Zp, Zq, Zr, Zs]
  refine WpX.twoD 1 11 (some 25) (some 8) rfl rfl rfl rfl (by kernel_rfl) (fun q : Int × Value × Int => Value.agg #[.int .u8 q.1, q.2.1, .int .i64 q.2.2]) (fun gq => (DeT w3 gd) (some gq) none) (fun gq => (DeK w3 gd (.int .u64 (lo z)) (.int .u64 (hi z))) (some gq) none false) (Turns.call rfl (fun _ _ h => ⟨h.1, fun _ e => (by cases e)⟩) (fun _ => (fun _ h => h.t)) (fun _ => DeK.clo) (fun wz hS => (HGAD.out wz).mono fun e w' ⟨k, sl, n, he, hr, hb, hn⟩ => ⟨(k, sl, n), he, hS.mk1 (k, sl, n) hr hb hn⟩) (fun wz hS => by go_simp; try (with_reducible rfl))) (fun b : Nat => Value.pointer (some ⟨b, 0, none⟩)) (fun xb => (DeT w3 gd) none (some xb)) (fun xb => (DeK w3 gd (.int .u64 (lo z)) (.int .u64 (hi z))) none (some xb) false) (Turns.val rfl (fun _ _ h => h) (fun _ => (fun _ h => h.t)) (fun _ => DeK.clo) (fun wz hS => ⟨wz.heap.size, wz.alloc (.cells #[.int .u64 0, .int .u64 0] 36), by go_simp; try (with_reducible rfl), hS.mk2⟩)) (fun gq => ?rz7_27a) (fun xb => ?rz7_27b)
  case' rz7_27a =>
   simp only [Zp, Zq, Zr, Zs]
   refine WpX.takeD 7 (some 31) rfl rfl (by kernel_rfl) (fun _ _ _ h => h) (.call rfl (fun wz hwz => HOF.out wz gq.1 gq.2.1 gq.2.2 (hwz.2 gq rfl) (.slice (some ⟨b, o + 2, none⟩) ar (c - 1)) (HSLI.out wz (bl_call HB3.out (Nat.le_refl _) hwz.1))) (fun wz hwz => ?_)) ?_
   ·go_simp; try (with_reducible rfl)
   simp only [Zp, Zq, Zr, Zs]
   refine WpX.vD 8 (some 23) ?_ rfl rfl (by kernel_rfl) (fun _ _ _ h => h) rfl (fun wz hwz => ?_) ?_
   rotate_left
   ·go_simp; try (with_reducible rfl)
   simp only [Zp, Zq, Zr, Zs]
   refine WpX.vD 9 (some 32) ?_ rfl rfl (by kernel_rfl) (fun _ _ _ h => h) rfl (fun wz hwz => ?_) ?_
   rotate_left
   ·go_simp; try (with_reducible rfl)
   simp only [Zp, Zq, Zr, Zs]
   refine WpX.vD 10 (some 33) ?_ rfl rfl (by kernel_rfl) (fun _ _ _ h => h) rfl (fun wz hwz => ?_) ?_
   rotate_left
   ·go_simp; try (with_reducible rfl)
   simp only [Zp, Zq, Zr, Zs]
   refine WpX.oneD 11 (some 8) rfl rfl (by kernel_rfl) (fun b : Nat => Value.pointer (some ⟨b, 0, none⟩)) (fun xb => (DeT w3 gd) (some gq) (some xb)) (fun xb => (DeK w3 gd (.int .u64 (lo z)) (.int .u64 (hi z))) (some gq) (some xb) false) (Turns.val rfl (fun _ _ h => h) (fun _ => (fun _ h => h.t)) (fun _ => DeK.clo) (fun wz hS => ⟨wz.heap.size, wz.alloc (.cells #[.int .u64 0, .int .u64 0] 36), by go_simp; try (with_reducible rfl), hS.mk2⟩)) (fun xb => ?_)
   simp only [Zp, Zq, Zr, Zs]
   refine WpX.oneSkip 12 none rfl rfl (by kernel_rfl) ((DeT w3 gd) (some gq) (some xb)) ((DeK w3 gd (.int .u64 (lo z)) (.int .u64 (hi z))) (some gq) (some xb) true) (fun _ h => h) ((fun _ h => h.t)) (DeK.clo) rfl (fun wz hS => ?_) ?_
   ·(obtain ⟨c0, c1, c2, c3, c4⟩ := (hS.b xb rfl).2; exact ⟨_, by go_simp; try (with_reducible rfl), hS.put⟩)
   simp only [Act.put]
   refine WpX.done (by kernel_rfl) (fun w5 hS => ⟨gq, xb, rfl, ?_⟩)
   ·exact hS
  case' rz7_27b =>
   simp only [Zp, Zq, Zr, Zs]
   refine WpX.oneD 1 (some 25) rfl rfl (by kernel_rfl) (fun q : Int × Value × Int => Value.agg #[.int .u8 q.1, q.2.1, .int .i64 q.2.2]) (fun gq => (DeT w3 gd) (some gq) (some xb)) (fun gq => (DeK w3 gd (.int .u64 (lo z)) (.int .u64 (hi z))) (some gq) (some xb) false) (Turns.call rfl (fun _ _ h => ⟨h.1, fun _ e => (by cases e)⟩) (fun _ => (fun _ h => h.t)) (fun _ => DeK.clo) (fun wz hS => (HGAD.out wz).mono fun e w' ⟨k, sl, n, he, hr, hb, hn⟩ => ⟨(k, sl, n), he, hS.mk1 (k, sl, n) hr hb hn⟩) (fun wz hS => by go_simp; try (with_reducible rfl))) (fun gq => ?_)
   simp only [Zp, Zq, Zr, Zs]
   refine WpX.takeD 7 (some 31) rfl rfl (by kernel_rfl) (fun _ _ _ h => h) (.call rfl (fun wz hwz => HOF.out wz gq.1 gq.2.1 gq.2.2 (hwz.2 gq rfl) (.slice (some ⟨b, o + 2, none⟩) ar (c - 1)) (HSLI.out wz (bl_call HB3.out (Nat.le_refl _) hwz.1))) (fun wz hwz => ?_)) ?_
   ·go_simp; try (with_reducible rfl)
   simp only [Zp, Zq, Zr, Zs]
   refine WpX.vD 8 (some 23) ?_ rfl rfl (by kernel_rfl) (fun _ _ _ h => h) rfl (fun wz hwz => ?_) ?_
   rotate_left
   ·go_simp; try (with_reducible rfl)
   simp only [Zp, Zq, Zr, Zs]
   refine WpX.vD 9 (some 32) ?_ rfl rfl (by kernel_rfl) (fun _ _ _ h => h) rfl (fun wz hwz => ?_) ?_
   rotate_left
   ·go_simp; try (with_reducible rfl)
   simp only [Zp, Zq, Zr, Zs]
   refine WpX.vD 10 (some 33) ?_ rfl rfl (by kernel_rfl) (fun _ _ _ h => h) rfl (fun wz hwz => ?_) ?_
   rotate_left
   ·go_simp; try (with_reducible rfl)
   simp only [Zp, Zq, Zr, Zs]
   refine WpX.oneSkip 12 none rfl rfl (by kernel_rfl) ((DeT w3 gd) (some gq) (some xb)) ((DeK w3 gd (.int .u64 (lo z)) (.int .u64 (hi z))) (some gq) (some xb) true) (fun _ h => h) ((fun _ h => h.t)) (DeK.clo) rfl (fun wz hS => ?_) ?_
   ·(obtain ⟨c0, c1, c2, c3, c4⟩ := (hS.b xb rfl).2; exact ⟨_, by go_simp; try (with_reducible rfl), hS.put⟩)
   simp only [Act.put]
   refine WpX.done (by kernel_rfl) (fun w5 hS => ⟨gq, xb, rfl, ?_⟩)
   ·exact hS
 intro gq xb w5 hS
 (try simp only [List.drop_succ_cons]); (try simp only [List.drop_zero]); (try simp only [Nat.reduceSub]); (try simp only [List.take_succ_cons]); (try simp only [List.take_zero])
 have hb5 := bl_call HB3.out (Nat.le_refl _) hS.t.1
 obtain ⟨hxb, hv5⟩ := hS.b xb rfl
 have HV5 := Lib.hid hv5
 have HB5 := Lib.hid hb5
 obtain ⟨hbl5, k0, k1, k2, k3⟩ := HXA.out w5 hb5
 rw [HM1.out] at k2 k3
 clear hS hv5 hb5
 have EQL : ∀ (a0 a1 b0 b1 : Int) (wz : World), (Op.equalIn 10000 36 (.agg #[.int .u64 a0, .int .u64 a1]) (.agg #[.int .u64 b0, .int .u64 b1])).run Tryz.prog wz = .ok (a0 == b0 && a1 == b1) wz := fun a0 a1 b0 b1 wz => run_equalIn_elem 9998 a0 a1 b0 b1 wz
 have e1 : (lo z == lo y1 && hi z == hi y1) = decide (z = y1) := vK_eq z y1
 have e0 : (lo x0 == 0 && hi x0 == 0) = decide (x0 = 0) := vK_eq0 x0
 have HN3 := HN2.out
 have HM3 := HM1.out
 obtain ⟨v0, v1, v2, v3, v4⟩ := V2.mk HV5.out.c0 HV5.out.c1 HV5.out.f0 HV5.out.f1 HV5.out.lt
 have hm2 : (m1 : Int) < (n2 : Int) := by omega
 have hn1 : 0 < n2 := by omega
 have hm3 : m1 < n2 := by omega
 clear HXA HOF HSLI HLA HGA HROW HLL HSL HCHK HGAD HVER HN3 HM3
 go_upto_region 10 with fail
 by_cases hx0 : x0 = 0
 ·have e2 : decide (x0 = 0) = true := decide_eq_true hx0
  clear hx0
  refine region_B (n := 14) (m := 15) (f := 14) (by kernel_rfl) (by kernel_rfl) rfl ?_
  refine WpH.vD 0 (some 37) ?_ rfl rfl (by kernel_rfl) (fun _ _ _ h => h) rfl (fun wz hwz => ?_) ?_
  rotate_left
  ·go_simp; try (with_reducible rfl)
  simp only [Zp, Zq, Zr, Zs]
  refine WpH.vD 1 (some 38) ?_ rfl rfl (by kernel_rfl) (fun _ _ _ h => h) rfl (fun wz hwz => ?_) ?_
  rotate_left
  ·go_simp; try (with_reducible rfl)
  simp only [Zp, Zq, Zr, Zs]
  refine WpH.vD 2 (some 39) ?_ rfl rfl (by kernel_rfl) (fun _ _ _ h => h) rfl (fun wz hwz => ?_) ?_
  rotate_left
  ·(obtain ⟨hcz, hfz⟩ := bcell hwz; go_simp; try (with_reducible rfl))
  simp only [Zp, Zq, Zr, Zs]
  refine WpH.vD 3 (some 40) ?_ rfl rfl (by kernel_rfl) (fun _ _ _ h => h) rfl (fun wz hwz => ?_) ?_
  rotate_left
  ·go_simp; try (with_reducible rfl)
  simp only [Zp, Zq, Zr, Zs]
  refine WpH.vD 4 (some 41) ?_ rfl rfl (by kernel_rfl) (fun _ _ _ h => h) rfl (fun wz hwz => ?_) ?_
  rotate_left
  ·go_simp; try (with_reducible rfl)
  simp only [Zp, Zq, Zr, Zs]
  refine WpH.vD 5 (some 42) ?_ rfl rfl (by kernel_rfl) (fun _ _ _ h => h) rfl (fun wz hwz => ?_) ?_
  rotate_left
  ·go_simp; try (with_reducible rfl)
  simp only [Zp, Zq, Zr, Zs]
  refine WpH.vD 6 (some 43) ?_ rfl rfl (by kernel_rfl) (fun _ _ _ h => h) rfl (fun wz hwz => ?_) ?_
  rotate_left
  ·(obtain ⟨hcz, hfz⟩ := bcell hwz; go_simp; try (with_reducible rfl))
  simp only [Zp, Zq, Zr, Zs]
  refine WpH.vD 7 (some 44) ?_ rfl rfl (by kernel_rfl) (fun _ _ _ h => h) rfl (fun wz hwz => ?_) ?_
  rotate_left
  ·go_simp; try (with_reducible rfl)
  simp only [Zp, Zq, Zr, Zs]
  refine WpH.vD 8 (some 45) ?_ rfl rfl (by kernel_rfl) (fun _ _ _ h => h) rfl (fun wz hwz => ?_) ?_
  rotate_left
  ·go_simp; try (with_reducible rfl)
  simp only [Zp, Zq, Zr, Zs]
  refine WpH.vD 9 (some 46) ?_ rfl rfl (by kernel_rfl) (fun _ _ _ h => h) rfl (fun wz hwz => ?_) ?_
  rotate_left
  ·go_simp; try (with_reducible rfl)
  simp only [Zp, Zq, Zr, Zs]
  refine WpH.vD 10 (some 47) ?_ rfl rfl (by kernel_rfl) (fun _ _ _ h => h) rfl (fun wz hwz => ?_) ?_
  rotate_left
  ·(obtain ⟨hcz, hfz⟩ := bcell hwz; go_simp; try (with_reducible rfl))
  simp only [Zp, Zq, Zr, Zs]
  refine WpH.vD 11 (some 48) ?_ rfl rfl (by kernel_rfl) (fun _ _ _ h => h) rfl (fun wz hwz => ?_) ?_
  rotate_left
  ·go_simp; try (with_reducible rfl)
  simp only [Zp, Zq, Zr, Zs]
  refine WpH.vD 12 (some 49) ?_ rfl rfl (by kernel_rfl) (fun _ _ _ h => h) rfl (fun wz hwz => ?_) ?_
  rotate_left
  ·go_simp; try (with_reducible rfl)
  simp only [Zp, Zq, Zr, Zs]
  refine WpH.vD 13 (some 4) ?_ rfl rfl (by kernel_rfl) (fun _ _ _ h => h) rfl (fun wz hwz => ?_) ?_
  rotate_left
  ·go_simp; try (with_reducible rfl)
  simp only [Zp, Zq, Zr, Zs]
  refine WpH.doneB (by kernel_rfl) (fun w6 hw6 => ?_)
  (try simp only [List.drop_succ_cons]); (try simp only [List.drop_zero]); (try simp only [Nat.reduceSub]); (try simp only [List.take_succ_cons]); (try simp only [List.take_zero])
  go_wp2_with fail
  go_ret2
  exact ⟨by first | rfl | (simp [e2]; done) | (rw [e2]; rfl), bl_call HB5.out (Nat.le_refl _) hw6⟩
 ·have e2 : decide (x0 = 0) = false := decide_eq_false hx0
  clear hx0
  refine region_B (n := 14) (m := 15) (f := 14) (by kernel_rfl) (by kernel_rfl) rfl ?_
  refine WpH.vD 0 (some 37) ?_ rfl rfl (by kernel_rfl) (fun _ _ _ h => h) rfl (fun wz hwz => ?_) ?_
  rotate_left
  ·go_simp; try (with_reducible rfl)
  simp only [Zp, Zq, Zr, Zs]
  refine WpH.vD 1 (some 38) ?_ rfl rfl (by kernel_rfl) (fun _ _ _ h => h) rfl (fun wz hwz => ?_) ?_
  rotate_left
  ·go_simp; try (with_reducible rfl)
  simp only [Zp, Zq, Zr, Zs]
  refine WpH.vD 2 (some 39) ?_ rfl rfl (by kernel_rfl) (fun _ _ _ h => h) rfl (fun wz hwz => ?_) ?_
  rotate_left
  ·(obtain ⟨hcz, hfz⟩ := bcell hwz; go_simp; try (with_reducible rfl))
  simp only [Zp, Zq, Zr, Zs]
  refine WpH.vD 3 (some 40) ?_ rfl rfl (by kernel_rfl) (fun _ _ _ h => h) rfl (fun wz hwz => ?_) ?_
  rotate_left
  ·go_simp; try (with_reducible rfl)
  simp only [Zp, Zq, Zr, Zs]
  refine WpH.vD 4 (some 41) ?_ rfl rfl (by kernel_rfl) (fun _ _ _ h => h) rfl (fun wz hwz => ?_) ?_
  rotate_left
  ·go_simp; try (with_reducible rfl)
  simp only [Zp, Zq, Zr, Zs]
  refine WpH.vD 5 (some 42) ?_ rfl rfl (by kernel_rfl) (fun _ _ _ h => h) rfl (fun wz hwz => ?_) ?_
  rotate_left
  ·go_simp; try (with_reducible rfl)
  simp only [Zp, Zq, Zr, Zs]
  refine WpH.takeD 6 (some 43) rfl rfl (by kernel_rfl) (fun _ _ _ h => h) (.skip rfl) ?_
  simp only [Zp, Zq, Zr, Zs]
  refine WpH.takeD 7 (some 44) rfl rfl (by kernel_rfl) (fun _ _ _ h => h) (.skip rfl) ?_
  simp only [Zp, Zq, Zr, Zs]
  refine WpH.takeD 8 (some 45) rfl rfl (by kernel_rfl) (fun _ _ _ h => h) (.skip rfl) ?_
  simp only [Zp, Zq, Zr, Zs]
  refine WpH.takeD 9 (some 46) rfl rfl (by kernel_rfl) (fun _ _ _ h => h) (.skip rfl) ?_
  simp only [Zp, Zq, Zr, Zs]
  refine WpH.takeD 10 (some 47) rfl rfl (by kernel_rfl) (fun _ _ _ h => h) (.skip rfl) ?_
  simp only [Zp, Zq, Zr, Zs]
  refine WpH.takeD 11 (some 48) rfl rfl (by kernel_rfl) (fun _ _ _ h => h) (.skip rfl) ?_
  simp only [Zp, Zq, Zr, Zs]
  refine WpH.vD 12 (some 49) ?_ rfl rfl (by kernel_rfl) (fun _ _ _ h => h) rfl (fun wz hwz => ?_) ?_
  rotate_left
  ·go_simp; try (with_reducible rfl)
  simp only [Zp, Zq, Zr, Zs]
  refine WpH.vD 13 (some 4) ?_ rfl rfl (by kernel_rfl) (fun _ _ _ h => h) rfl (fun wz hwz => ?_) ?_
  rotate_left
  ·go_simp; try (with_reducible rfl)
  simp only [Zp, Zq, Zr, Zs]
  refine WpH.doneB (by kernel_rfl) (fun w6 hw6 => ?_)
  (try simp only [List.drop_succ_cons]); (try simp only [List.drop_zero]); (try simp only [Nat.reduceSub]); (try simp only [List.take_succ_cons]); (try simp only [List.take_zero])
  go_wp2_with fail
  go_ret2
  exact ⟨by first | rfl | (simp [e2]; done) | (rw [e2]; rfl), bl_call HB5.out (Nat.le_refl _) hw6⟩
end

end Go.Proofs.YtfbfbijkkbflkaaGreatDoor

namespace Go.Proofs.YtfbfbijkkbflkaaGreatDoor
open Go.RowKit Fm
set_option linter.unusedVariables false
set_option maxRecDepth 100000

structure CapD {f : Nat} (E : Nat → Prop) (wE : World) (gb yb : Nat) (kd : Int) (sl : Value) (nn : Int) (cs : List Value) (gd : Gad f) : Prop where
 g : Vs wE gb [.int .u8 kd, sl, .int .i64 nn]
 y : Vs wE yb cs
 r : RepG wE wE.heap.size kd sl nn gd
 eg : E gb
 ey : E yb
 es : ∀ (p : Addr) (a c : Nat), sl = .slice (some p) a c → E p.block
 lt : ∀ q, E q → q < wE.heap.size
theorem CapD.at {f : Nat} {E : Nat → Prop} {wE w : World} {gb yb : Nat} {kd : Int} {sl : Value} {nn : Int} {cs : List Value} {gd : Gad f} (h : CapD E wE gb yb kd sl nn cs gd) (ha : Agr E wE w) :
  Vs w gb [.int .u8 kd, sl, .int .i64 nn] ∧ Vs w yb cs ∧ RepG w w.heap.size kd sl nn gd :=
 ⟨h.g.sameW (ha _ h.eg), h.y.sameW (ha _ h.ey), h.r.same fun p a c hs => ⟨ha _ (h.es p a c hs), ha.lt (h.es p a c hs) (h.lt _ (h.es p a c hs))⟩⟩
def InvD (E : Nat → Prop) (wE : World) (k : Nat) (D : Nat → Prop) (w : World) : Prop := D = E ∧ Agr E wE w
theorem InvD.st {E : Nat → Prop} {wE w : World} (k : Nat) (h : Agr E wE w) (hl : ∀ q, E q → q < wE.heap.size) : St (InvD E wE k) E w :=
 ⟨⟨rfl, h⟩, fun q hq => h.lt hq (hl q hq), fun w w' ⟨_, h⟩ hb => ⟨rfl, fun q hq => (hb q hq).trans (h q hq)⟩⟩

section
variable {f : Nat} (hf : IsF f)
include hf

end

end Go.Proofs.YtfbfbijkkbflkaaGreatDoor

namespace Go.Proofs.YtfbfbijkkbflkaaGreatDoor
open Go.RowKit Fm
set_option linter.unusedVariables false
set_option maxRecDepth 100000

section
variable {f : Nat} (hf : IsF f)
include hf
omit hf in
theorem dec_prv (y : CK) (hy : y.ok) {L : Nat} (hL : L ≤ 10) (hn : y.calls + 1 ≤ 2 ^ L) (v j seeds : KL f) (hl : v.length = y.nin) (hs : seeds.length = y.arity) (tot : Nat) (x : Fin (Pm f)) (l : KL f) (hl9 : qryL y L v j 1 (prvL L (y.gad f) seeds (argOf y v j 1) y.calls tot) x = l) :
  (decide (l.getD 0 0 = 0) && decide (gval (y.gad f) ((l.drop 1).take y.arity) = l.getD (y.arity + 1) 0)) = decide (dirF y v j = 0) := by
 subst hl9
 rw [qry_prv y hy hL hn v j seeds hl hs tot x, gad_arity f y]
 obtain ⟨h1, h2, h3⟩ := dec_list (dirF y v j) (gval (y.gad f) ((polysA L seeds (argOf y v j 1) y.calls y.arity).map (ev x))) ((polysA L seeds (argOf y v j 1) y.calls y.arity).map (ev x)) y.arity (by rw [List.length_map, polysA_length])
 rw [h1, h2, h3, decide_eq_true (rfl : gval (y.gad f) _ = gval (y.gad f) _), Bool.and_true]
theorem decide_prv (y : CK) (hy : y.ok) (hcl : y.calls ≤ 511) {L : Nat} (hL : L ≤ 10) (hn : y.calls + 1 ≤ 2 ^ L) (v j seeds : KL f) (hl : v.length = y.nin) (hs : seeds.length = y.arity) (tot : Nat) (x : Fin (Pm f)) (vz : Value) (w : World)
  (hz : SlK w w.heap.size vz (qryL y L v j 1 (prvL L (y.gad f) seeds (argOf y v j 1) y.calls tot) x)) :
  Calls Tryz.prog 36 #[y.val f, vz] w fun e w' => e = .returned (.tuple #[.bool (decide (dirF y v j = 0)), .int .i64 0]) ∧ Below w.heap.size w w' := by
 obtain ⟨l, hl9⟩ : ∃ l, qryL y L v j 1 (prvL L (y.gad f) seeds (argOf y v j 1) y.calls tot) x = l := ⟨_, rfl⟩
 have hlen : l.length = y.arity + 2 := by rw [← hl9, qryL_length]
 rw [hl9] at hz
 have h := proof_Decide hf y hy hcl vz l hlen w hz
 rwa [dec_prv y hy hL hn v j seeds hl hs tot x l hl9] at h
end

end Go.Proofs.YtfbfbijkkbflkaaGreatDoor

namespace Go.Proofs.YtfbfbijkkbflkaaGreatDoor
open Go.RowKit Fm
set_option linter.unusedVariables false
set_option maxRecDepth 100000

def okNums (b : Nat) (ms : List Nat) : Prop := ∀ x, x ∈ ms → x < 2 ^ b
def encNums (b : Nat) (ms : List Nat) : List Nat := ms.flatMap fun n => bitsL n b
theorem encNums_length (b : Nat) (ms : List Nat) : (encNums b ms).length = ms.length * b := by
 unfold encNums
 induction ms with
 | nil => simp
 | cons x l ih => rw [List.flatMap_cons, List.length_append, ih, bitsL_length, List.length_cons, Nat.succ_mul, Nat.add_comm]
theorem encNums_take {b : Nat} {ms : List Nat} {k n : Nat} (h : ms[k]? = some n) : encNums b (ms.take (k + 1)) = encNums b (ms.take k) ++ bitsL n b := by
 unfold encNums
 rw [List.take_add_one, h, List.flatMap_append]
 simp
def encOne (l n : Nat) : List Nat := (List.replicate l 0).set n 1
theorem encOne_length (l n : Nat) : (encOne l n).length = l := by unfold encOne; rw [List.length_set, List.length_replicate]

section
variable {f : Nat} (hf : IsF f)
include hf

set_option maxHeartbeats 8000000 in
theorem circuit_Encode_nums2 (b n m c : Nat) (N : Int) (hb1 : 1 ≤ b) (hb2 : b ≤ 32) (hn2 : n ≤ 64) (vm : Value) (ms : List Nat) (w : World) (hm : SlU w w.heap.size vm (natsI ms)) (hl : ms.length = n)
  (HC : Hid (∀ wz, Calls Tryz.prog 48 #[.agg #[.int .u8 2, .int .u8 f, .int .i64 b, .int .i64 N, .int .i64 m, .int .i64 c]] wz (RetC 0 wz)))
  (HO : Hid (∀ wz, Calls Tryz.prog 93 #[.agg #[.int .u8 2, .int .u8 f, .int .i64 b, .int .i64 N, .int .i64 m, .int .i64 c]] wz (RetI n wz))) :
  Calls Tryz.prog 46 #[.agg #[.int .u8 2, .int .u8 f, .int .i64 b, .int .i64 N, .int .i64 m, .int .i64 c], vm] w (RetEnc (okNums b ms) ((encNums b ms).map (nK f)) w) := by
 obtain ⟨⟨A, cc, rfl, hcc, hcm, hA⟩, hok⟩ := hm
 rw [natsI_length, hl] at hcc hA
 rw [natsI_length, hl]
 have HL := Lib.hid hl
 have hfb0 : (1 : Int) ≤ (f : Int) := by rcases hf.or with rfl | rfl <;> omega
 have hfb1 : (f : Int) ≤ 2 := by rcases hf.or with rfl | rfl <;> omega
 have HBO := Lib.hid (fun (x : Nat) (hn : x ≤ 18446744073709551615) wz => circuit_bitsOf hf 2 b N m c x b hn (by omega) wz)
 have HBQ : Hid (∀ x : Nat, x ≤ 18446744073709551615 → ∀ wz, Calls Tryz.prog 94 #[.agg #[.int .u8 2, .int .u8 f, .int .i64 b, .int .i64 N, .int .i64 m, .int .i64 c], .int .u64 x, .int .i64 b] wz fun e w' => ∃ (A9 : Option Addr) (c9 : Nat), e = .returned (Value.slice A9 b c9) ∧ SlK w' w'.heap.size (.slice A9 b c9) ((bitsL x b).map (nK f)) ∧ Below wz.heap.size wz w') := by
  intro x hx wz
  refine (HBO.out x hx wz).mono ?_
  rintro e w' ⟨v, rfl, hown', hb'⟩
  have hlen : ((bitsL x b).map (nK f)).length = b := by rw [List.length_map, bitsL_length]
  rw [hlen] at hown'
  obtain ⟨A9, c9, rfl⟩ := own_shape hown'
  exact ⟨A9, c9, rfl, own_sl hlen hown', hb'⟩
 have hb00 : Below w.heap.size w w := Below.refl _ _
 clear hl HBO
 go_enter Tryz.func46, Tryz.ntmps46
 go_upto_region 1 with fail
 have hx := Vs.new w [.int .u8 2, .int .u8 f, .int .i64 b, .int .i64 N, .int .i64 m, .int .i64 c] #[.int .u8 2, .int .u8 f, .int .i64 b, .int .i64 N, .int .i64 m, .int .i64 c] 30 rfl
 have hbA : Below w.heap.size w (w.alloc (.cells #[.int .u8 2, .int .u8 f, .int .i64 b, .int .i64 N, .int .i64 m, .int .i64 c] 30)) := by repeat (first | exact bA | with_reducible assumption | apply bB)
 replace hb00 := bl_call hb00 (Nat.le_refl _) hbA
 clear hbA
 generalize w.alloc (.cells #[.int .u8 2, .int .u8 f, .int .i64 b, .int .i64 N, .int .i64 m, .int .i64 c] 30) = w1 at hb00 hx ⊢
 obtain ⟨⟨x0, x1, x2, x3, x4, x5⟩, ⟨x6, x7, x8, x9, x10, x11⟩, x12⟩ := hx.get6
 go_upto_region 20 with (first
  | (go_at_call 48; refine (HC.out _).mono ?_; rintro e w2 ⟨rfl, hb2⟩; replace hb00 := bl_call hb00 (Nat.le_refl _) hb2; replace hx := hx.call hb2; clear x0 x1 x2 x3 x4 x5 x6 x7 x8 x9 x10 x11 x12; clear hb2; obtain ⟨⟨x0, x1, x2, x3, x4, x5⟩, ⟨x6, x7, x8, x9, x10, x11⟩, x12⟩ := hx.get6)
  | (go_at_call 93; refine (HO.out _).mono ?_; rintro e w3 ⟨rfl, hb3⟩; replace hb00 := bl_call hb00 (Nat.le_refl _) hb3; replace hx := hx.call hb3; clear x0 x1 x2 x3 x4 x5 x6 x7 x8 x9 x10 x11 x12; clear hb3; obtain ⟨⟨x0, x1, x2, x3, x4, x5⟩, ⟨x6, x7, x8, x9, x10, x11⟩, x12⟩ := hx.get6))
 have hsz : w.heap.size + 1 ≤ w3.heap.size := hx.lt
 clear HC HO
 clear x0 x1 x2 x3 x4 x5 x6 x7 x8 x9 x10 x11 x12
 go_wp2_with fail
 go_loopw [8, 56] (fun v8 i wr => ∃ (k p : Nat) (A' : Option Addr) (cp : Nat), k ≤ n ∧ i = .int .i64 k ∧ v8 = .slice A' p cp ∧ Hid (p = k * b) ∧ p ≤ 32 * k ∧ Hid (∀ x, x ∈ ms.take k → x < 2 ^ b) ∧
   Vs wr w.heap.size [.int .u8 2, .int .u8 f, .int .i64 b, .int .i64 N, .int .i64 m, .int .i64 c] ∧ wr.ownsRow (w.heap.size + 1) 36 2 (.slice A' p cp) p (cellsE (esK ((encNums b (ms.take k)).map (nK f)))) ∧ Below w.heap.size w wr ∧ w.heap.size + 1 ≤ wr.heap.size) (fun _ i _ => n - (intOf i).toNat)
 case atStart => exact ⟨0, 0, none, 0, Nat.zero_le _, rfl, rfl, (by rw [Nat.zero_mul] : 0 = 0 * b), by omega, fun x h => (by simp at h), hx, World.ownsRow_nil _ _ _ _, hb00, hsz⟩
 case round =>
  clear hx hb00 hsz
  obtain ⟨k, p, A', cp, hk, rfl, rfl, hp, hp32, hall, hx, hown, hbw, hsz⟩ := hrel
  obtain ⟨⟨x0, x1, x2, x3, x4, x5⟩, ⟨x6, x7, x8, x9, x10, x11⟩, x12⟩ := hx.get6
  by_cases hlt : k < n
  ·obtain ⟨bb, o, rfl, hB, hr⟩ := hA (by omega)
   obtain ⟨x, hx9⟩ : ∃ n, ms[k]? = some n := ⟨_, List.getElem?_eq_getElem (by rw [HL.out]; exact hlt)⟩
   have d0 := (hr.below hbw hB) _ _ (natsI_at hx9)
   have hbnd := hok _ (List.mem_of_getElem? (natsI_at hx9))
   have hx64 : x ≤ 18446744073709551615 := by have := hbnd.2; omega
   have HN := Lib.hid hx9
   clear hx9 hr hA hbnd
   by_cases hxb : x < 2 ^ b
   ·have hsh : (x : Int) / 2 ^ b = 0 := by
     have h1 : x / 2 ^ b = 0 := Nat.div_eq_of_lt hxb
     have h2 : (x : Int) / 2 ^ b = ((x / 2 ^ b : Nat) : Int) := by rw [Int.natCast_ediv, Int.natCast_pow]; rfl
     rw [h2, h1]
     rfl
    have HA2 := Lib.hid (all_take HN.out hall.out hxb)
    have HT2 : Hid (esK ((encNums b (ms.take (k + 1))).map (nK f)) = esK ((encNums b (ms.take k)).map (nK f)) ++ esK ((bitsL x b).map (nK f))) := by
     show esK ((encNums b (ms.take (k + 1))).map (nK f)) = _
     rw [encNums_take HN.out, List.map_append, esK_append]
    have HM : Hid ((esK ((bitsL x b).map (nK f))).length = b) := by show (esK _).length = b; rw [esK_length, List.length_map, bitsL_length]
    have HP : Hid (p + b = (k + 1) * b) := by show p + b = (k + 1) * b; rw [hp.out, Nat.succ_mul]
    have hk1 : p + b ≤ 1099511627776 := by omega
    obtain ⟨ys, hys⟩ : ∃ ys, esK ((bitsL x b).map (nK f)) = ys := ⟨_, rfl⟩
    have HYS := Lib.hid hys
    rw [hys] at HT2 HM
    have HBY := Lib.hid (fun wz => HBQ.out x hx64 wz)
    clear hxb hys
    go_wp2_with (first
     | (go_at_call 94; refine (HBY.out _).mono ?_; rintro e w6 ⟨A9, c9, rfl, hE, hb6⟩; have hbw6 := bl_call hbw (Nat.le_refl _) hb6; have hx6 := hx.call hb6; have HOW := Lib.hid (own_call hown hb6); have hz6 := hb6.size; have hbase : w.heap.size + 1 ≤ w6.heap.size := (by omega); have HR1 : Hid (0 < b → ∃ b o, A9 = some ⟨b, o, none⟩ ∧ RowE w6 b o ys) := (fun hq0 => by
       obtain ⟨A8, c8, h8, _, _, h9⟩ := hE
       have hlen : ((bitsL x b).map (nK f)).length = b := by rw [List.length_map, bitsL_length]
       rw [hlen] at h8 h9
       injection h8 with h1 h2 h3
       subst h1
       obtain ⟨b8, o8, e8, _, r8⟩ := h9 hq0
       rw [HYS.out] at r8
       exact ⟨b8, o8, e8, r8⟩))
     | (at_builtin; (refine wpList_append_E rfl (.tmp 65) (.tmp 70) rfl (w.heap.size + 1) _ p (esK ((encNums b (ms.take k)).map (nK f))) rfl HOW.out A9 b c9 ys rfl HM.out HR1.out hk1 hbase ?_; intro v2 w7 hown7 hg7 hat7; have hb7 : Below (w.heap.size + 1) w6 w7 := (Below.refl _ _).grown hg7 hbase (fun q hq => (HOW.out.lt q hq).1); obtain ⟨A7, cap7, hv7⟩ := own_shape hown7; rw [hv7])))
    rw [hv7, ← HT2.out] at hown7
    have hx7 := hx6.belowB hb7 (by omega)
    have hbw7 : Below w.heap.size w w7 := hbw6.trans (hb7.mono (by omega))
    have hz7 := hb7.size
    go_roundw
    case rel => exact ⟨k + 1, p + b, _, cap7, by omega, by go_num, rfl, HP.out, by omega, HA2.out, hx7, hown7, hbw7, by omega⟩
    case measure => simp [intOf]; omega
   ·have hsh : ((x : Int) / 2 ^ b == 0) = false := by
     have h1 : 0 < x / 2 ^ b := Nat.div_pos (by omega) (Nat.two_pow_pos b)
     have h2 : (x : Int) / 2 ^ b = ((x / 2 ^ b : Nat) : Int) := by rw [Int.natCast_ediv, Int.natCast_pow]; rfl
     rw [h2, beq_eq_false_iff_ne]
     omega
    have hsh2 : ((x : Int) / 2 ^ b != 0) = true := by simpa using hsh
    have hbad : ¬ okNums b ms := fun h => hxb (h x (List.mem_of_getElem? HN.out))
    have HBAD := Lib.hid hbad
    clear hbad hxb
    go_wp2_with fail
    go_ret2
    exact .inr ⟨HBAD.out, rfl, hbw⟩
  ·obtain rfl : k = n := by omega
   rw [List.take_of_length_le (by rw [HL.out]; exact Nat.le_refl _)] at hall hown
   have HLE : Hid (((encNums b ms).map (nK f)).length = p) := by show ((encNums b ms).map (nK f)).length = p; rw [List.length_map, encNums_length, HL.out, hp.out]
   go_wp2_with fail
   go_ret2
   exact .inl ⟨hall.out, _, rfl, by rw [HLE.out]; exact own_mono hown (by omega), hbw⟩
set_option maxHeartbeats 8000000 in
theorem circuit_Encode_nums3 (b n m c : Nat) (N : Int) (hb1 : 1 ≤ b) (hb2 : b ≤ 32) (hn2 : n ≤ 64) (vm : Value) (ms : List Nat) (w : World) (hm : SlU w w.heap.size vm (natsI ms)) (hl : ms.length = n)
  (HC : Hid (∀ wz, Calls Tryz.prog 48 #[.agg #[.int .u8 3, .int .u8 f, .int .i64 b, .int .i64 N, .int .i64 m, .int .i64 c]] wz (RetC 0 wz)))
  (HO : Hid (∀ wz, Calls Tryz.prog 93 #[.agg #[.int .u8 3, .int .u8 f, .int .i64 b, .int .i64 N, .int .i64 m, .int .i64 c]] wz (RetI n wz))) :
  Calls Tryz.prog 46 #[.agg #[.int .u8 3, .int .u8 f, .int .i64 b, .int .i64 N, .int .i64 m, .int .i64 c], vm] w (RetEnc (okNums b ms) ((encNums b ms).map (nK f)) w) := by
 obtain ⟨⟨A, cc, rfl, hcc, hcm, hA⟩, hok⟩ := hm
 rw [natsI_length, hl] at hcc hA
 rw [natsI_length, hl]
 have HL := Lib.hid hl
 have hfb0 : (1 : Int) ≤ (f : Int) := by rcases hf.or with rfl | rfl <;> omega
 have hfb1 : (f : Int) ≤ 2 := by rcases hf.or with rfl | rfl <;> omega
 have HBO := Lib.hid (fun (x : Nat) (hn : x ≤ 18446744073709551615) wz => circuit_bitsOf hf 3 b N m c x b hn (by omega) wz)
 have HBQ : Hid (∀ x : Nat, x ≤ 18446744073709551615 → ∀ wz, Calls Tryz.prog 94 #[.agg #[.int .u8 3, .int .u8 f, .int .i64 b, .int .i64 N, .int .i64 m, .int .i64 c], .int .u64 x, .int .i64 b] wz fun e w' => ∃ (A9 : Option Addr) (c9 : Nat), e = .returned (Value.slice A9 b c9) ∧ SlK w' w'.heap.size (.slice A9 b c9) ((bitsL x b).map (nK f)) ∧ Below wz.heap.size wz w') := by
  intro x hx wz
  refine (HBO.out x hx wz).mono ?_
  rintro e w' ⟨v, rfl, hown', hb'⟩
  have hlen : ((bitsL x b).map (nK f)).length = b := by rw [List.length_map, bitsL_length]
  rw [hlen] at hown'
  obtain ⟨A9, c9, rfl⟩ := own_shape hown'
  exact ⟨A9, c9, rfl, own_sl hlen hown', hb'⟩
 have hb00 : Below w.heap.size w w := Below.refl _ _
 clear hl HBO
 go_enter Tryz.func46, Tryz.ntmps46
 go_upto_region 1 with fail
 have hx := Vs.new w [.int .u8 3, .int .u8 f, .int .i64 b, .int .i64 N, .int .i64 m, .int .i64 c] #[.int .u8 3, .int .u8 f, .int .i64 b, .int .i64 N, .int .i64 m, .int .i64 c] 30 rfl
 have hbA : Below w.heap.size w (w.alloc (.cells #[.int .u8 3, .int .u8 f, .int .i64 b, .int .i64 N, .int .i64 m, .int .i64 c] 30)) := by repeat (first | exact bA | with_reducible assumption | apply bB)
 replace hb00 := bl_call hb00 (Nat.le_refl _) hbA
 clear hbA
 generalize w.alloc (.cells #[.int .u8 3, .int .u8 f, .int .i64 b, .int .i64 N, .int .i64 m, .int .i64 c] 30) = w1 at hb00 hx ⊢
 obtain ⟨⟨x0, x1, x2, x3, x4, x5⟩, ⟨x6, x7, x8, x9, x10, x11⟩, x12⟩ := hx.get6
 go_upto_region 20 with (first
  | (go_at_call 48; refine (HC.out _).mono ?_; rintro e w2 ⟨rfl, hb2⟩; replace hb00 := bl_call hb00 (Nat.le_refl _) hb2; replace hx := hx.call hb2; clear x0 x1 x2 x3 x4 x5 x6 x7 x8 x9 x10 x11 x12; clear hb2; obtain ⟨⟨x0, x1, x2, x3, x4, x5⟩, ⟨x6, x7, x8, x9, x10, x11⟩, x12⟩ := hx.get6)
  | (go_at_call 93; refine (HO.out _).mono ?_; rintro e w3 ⟨rfl, hb3⟩; replace hb00 := bl_call hb00 (Nat.le_refl _) hb3; replace hx := hx.call hb3; clear x0 x1 x2 x3 x4 x5 x6 x7 x8 x9 x10 x11 x12; clear hb3; obtain ⟨⟨x0, x1, x2, x3, x4, x5⟩, ⟨x6, x7, x8, x9, x10, x11⟩, x12⟩ := hx.get6))
 have hsz : w.heap.size + 1 ≤ w3.heap.size := hx.lt
 clear HC HO
 clear x0 x1 x2 x3 x4 x5 x6 x7 x8 x9 x10 x11 x12
 go_wp2_with fail
 go_loopw [8, 56] (fun v8 i wr => ∃ (k p : Nat) (A' : Option Addr) (cp : Nat), k ≤ n ∧ i = .int .i64 k ∧ v8 = .slice A' p cp ∧ Hid (p = k * b) ∧ p ≤ 32 * k ∧ Hid (∀ x, x ∈ ms.take k → x < 2 ^ b) ∧
   Vs wr w.heap.size [.int .u8 3, .int .u8 f, .int .i64 b, .int .i64 N, .int .i64 m, .int .i64 c] ∧ wr.ownsRow (w.heap.size + 1) 36 2 (.slice A' p cp) p (cellsE (esK ((encNums b (ms.take k)).map (nK f)))) ∧ Below w.heap.size w wr ∧ w.heap.size + 1 ≤ wr.heap.size) (fun _ i _ => n - (intOf i).toNat)
 case atStart => exact ⟨0, 0, none, 0, Nat.zero_le _, rfl, rfl, (by rw [Nat.zero_mul] : 0 = 0 * b), by omega, fun x h => (by simp at h), hx, World.ownsRow_nil _ _ _ _, hb00, hsz⟩
 case round =>
  clear hx hb00 hsz
  obtain ⟨k, p, A', cp, hk, rfl, rfl, hp, hp32, hall, hx, hown, hbw, hsz⟩ := hrel
  obtain ⟨⟨x0, x1, x2, x3, x4, x5⟩, ⟨x6, x7, x8, x9, x10, x11⟩, x12⟩ := hx.get6
  by_cases hlt : k < n
  ·obtain ⟨bb, o, rfl, hB, hr⟩ := hA (by omega)
   obtain ⟨x, hx9⟩ : ∃ n, ms[k]? = some n := ⟨_, List.getElem?_eq_getElem (by rw [HL.out]; exact hlt)⟩
   have d0 := (hr.below hbw hB) _ _ (natsI_at hx9)
   have hbnd := hok _ (List.mem_of_getElem? (natsI_at hx9))
   have hx64 : x ≤ 18446744073709551615 := by have := hbnd.2; omega
   have HN := Lib.hid hx9
   clear hx9 hr hA hbnd
   by_cases hxb : x < 2 ^ b
   ·have hsh : (x : Int) / 2 ^ b = 0 := by
     have h1 : x / 2 ^ b = 0 := Nat.div_eq_of_lt hxb
     have h2 : (x : Int) / 2 ^ b = ((x / 2 ^ b : Nat) : Int) := by rw [Int.natCast_ediv, Int.natCast_pow]; rfl
     rw [h2, h1]
     rfl
    have HA2 := Lib.hid (all_take HN.out hall.out hxb)
    have HT2 : Hid (esK ((encNums b (ms.take (k + 1))).map (nK f)) = esK ((encNums b (ms.take k)).map (nK f)) ++ esK ((bitsL x b).map (nK f))) := by
     show esK ((encNums b (ms.take (k + 1))).map (nK f)) = _
     rw [encNums_take HN.out, List.map_append, esK_append]
    have HM : Hid ((esK ((bitsL x b).map (nK f))).length = b) := by show (esK _).length = b; rw [esK_length, List.length_map, bitsL_length]
    have HP : Hid (p + b = (k + 1) * b) := by show p + b = (k + 1) * b; rw [hp.out, Nat.succ_mul]
    have hk1 : p + b ≤ 1099511627776 := by omega
    obtain ⟨ys, hys⟩ : ∃ ys, esK ((bitsL x b).map (nK f)) = ys := ⟨_, rfl⟩
    have HYS := Lib.hid hys
    rw [hys] at HT2 HM
    have HBY := Lib.hid (fun wz => HBQ.out x hx64 wz)
    clear hxb hys
    go_wp2_with (first
     | (go_at_call 94; refine (HBY.out _).mono ?_; rintro e w6 ⟨A9, c9, rfl, hE, hb6⟩; have hbw6 := bl_call hbw (Nat.le_refl _) hb6; have hx6 := hx.call hb6; have HOW := Lib.hid (own_call hown hb6); have hz6 := hb6.size; have hbase : w.heap.size + 1 ≤ w6.heap.size := (by omega); have HR1 : Hid (0 < b → ∃ b o, A9 = some ⟨b, o, none⟩ ∧ RowE w6 b o ys) := (fun hq0 => by
       obtain ⟨A8, c8, h8, _, _, h9⟩ := hE
       have hlen : ((bitsL x b).map (nK f)).length = b := by rw [List.length_map, bitsL_length]
       rw [hlen] at h8 h9
       injection h8 with h1 h2 h3
       subst h1
       obtain ⟨b8, o8, e8, _, r8⟩ := h9 hq0
       rw [HYS.out] at r8
       exact ⟨b8, o8, e8, r8⟩))
     | (at_builtin; (refine wpList_append_E rfl (.tmp 65) (.tmp 70) rfl (w.heap.size + 1) _ p (esK ((encNums b (ms.take k)).map (nK f))) rfl HOW.out A9 b c9 ys rfl HM.out HR1.out hk1 hbase ?_; intro v2 w7 hown7 hg7 hat7; have hb7 : Below (w.heap.size + 1) w6 w7 := (Below.refl _ _).grown hg7 hbase (fun q hq => (HOW.out.lt q hq).1); obtain ⟨A7, cap7, hv7⟩ := own_shape hown7; rw [hv7])))
    rw [hv7, ← HT2.out] at hown7
    have hx7 := hx6.belowB hb7 (by omega)
    have hbw7 : Below w.heap.size w w7 := hbw6.trans (hb7.mono (by omega))
    have hz7 := hb7.size
    go_roundw
    case rel => exact ⟨k + 1, p + b, _, cap7, by omega, by go_num, rfl, HP.out, by omega, HA2.out, hx7, hown7, hbw7, by omega⟩
    case measure => simp [intOf]; omega
   ·have hsh : ((x : Int) / 2 ^ b == 0) = false := by
     have h1 : 0 < x / 2 ^ b := Nat.div_pos (by omega) (Nat.two_pow_pos b)
     have h2 : (x : Int) / 2 ^ b = ((x / 2 ^ b : Nat) : Int) := by rw [Int.natCast_ediv, Int.natCast_pow]; rfl
     rw [h2, beq_eq_false_iff_ne]
     omega
    have hsh2 : ((x : Int) / 2 ^ b != 0) = true := by simpa using hsh
    have hbad : ¬ okNums b ms := fun h => hxb (h x (List.mem_of_getElem? HN.out))
    have HBAD := Lib.hid hbad
    clear hbad hxb
    go_wp2_with fail
    go_ret2
    exact .inr ⟨HBAD.out, rfl, hbw⟩
  ·obtain rfl : k = n := by omega
   rw [List.take_of_length_le (by rw [HL.out]; exact Nat.le_refl _)] at hall hown
   have HLE : Hid (((encNums b ms).map (nK f)).length = p) := by show ((encNums b ms).map (nK f)).length = p; rw [List.length_map, encNums_length, HL.out, hp.out]
   go_wp2_with fail
   go_ret2
   exact .inl ⟨hall.out, _, rfl, by rw [HLE.out]; exact own_mono hown (by omega), hbw⟩
end

end Go.Proofs.YtfbfbijkkbflkaaGreatDoor

namespace Go.Proofs.YtfbfbijkkbflkaaGreatDoor
open Go.RowKit Fm
set_option linter.unusedVariables false
set_option maxRecDepth 100000

def okOne (l n : Nat) : Prop := n < l

section
variable {f : Nat} (hf : IsF f)
include hf

set_option maxHeartbeats 8000000 in
theorem circuit_Encode_count (hcalls : ¬ 511 < CK.count.calls) (vm : Value) (ms : List Nat) (w : World) (hm : SlU w w.heap.size vm (natsI ms)) (hl : ms.length = 1) :
  Calls Tryz.prog 46 #[CK.count.val f, vm] w (RetEnc (∀ x, x ∈ ms → x ≤ 1) (ms.map (nK f)) w) := by
 have HC : Hid (∀ wz, Calls Tryz.prog 48 #[CK.count.val f] wz (RetC 0 wz)) := by
  intro wz
  have h := circuit_Check_ok hf .count trivial wz
  rwa [CK.code_ok hcalls] at h
 have HO : Hid (∀ wz, Calls Tryz.prog 93 #[CK.count.val f] wz fun e w' => e = .returned (.int .i64 1) ∧ Below wz.heap.size wz w') := fun wz => circuit_Out f .count trivial wz
 rw [val_count] at HC HO ⊢
 obtain ⟨⟨A, cc, rfl, hcc, hcm, hA⟩, hok⟩ := hm
 rw [natsI_length, hl] at hcc hA
 rw [natsI_length, hl]
 have HOF := Lib.hid (fun (n : Nat) (hn : n ≤ 18446744073709551615) wz => field_Of hf (n : Int) wz (by omega) (by omega))
 have HL := Lib.hid hl
 have hfb0 : (1 : Int) ≤ (f : Int) := by rcases hf.or with rfl | rfl <;> omega
 have hfb1 : (f : Int) ≤ 2 := by rcases hf.or with rfl | rfl <;> omega
 have hb00 : Below w.heap.size w w := Below.refl _ _
 clear hl hok hcalls
 go_enter Tryz.func46, Tryz.ntmps46
 go_upto_region 1 with fail
 have hx := Vs.new w [.int .u8 1, .int .u8 f, .int .i64 0, .int .i64 0, .int .i64 0, .int .i64 0] #[.int .u8 1, .int .u8 f, .int .i64 0, .int .i64 0, .int .i64 0, .int .i64 0] 30 rfl
 have hbA : Below w.heap.size w (w.alloc (.cells #[.int .u8 1, .int .u8 f, .int .i64 0, .int .i64 0, .int .i64 0, .int .i64 0] 30)) := by repeat (first | exact bA | with_reducible assumption | apply bB)
 replace hb00 := bl_call hb00 (Nat.le_refl _) hbA
 clear hbA
 generalize w.alloc (.cells #[.int .u8 1, .int .u8 f, .int .i64 0, .int .i64 0, .int .i64 0, .int .i64 0] 30) = w1 at hb00 hx ⊢
 obtain ⟨⟨x0, x1, x2, x3, x4, x5⟩, ⟨x6, x7, x8, x9, x10, x11⟩, x12⟩ := hx.get6
 go_upto_region 28 with (first
  | (go_at_call 48; refine (HC.out _).mono ?_; rintro e w2 ⟨rfl, hb2⟩; replace hb00 := bl_call hb00 (Nat.le_refl _) hb2; replace hx := hx.call hb2; clear x0 x1 x2 x3 x4 x5 x6 x7 x8 x9 x10 x11 x12; clear hb2; obtain ⟨⟨x0, x1, x2, x3, x4, x5⟩, ⟨x6, x7, x8, x9, x10, x11⟩, x12⟩ := hx.get6)
  | (go_at_call 93; refine (HO.out _).mono ?_; rintro e w3 ⟨rfl, hb3⟩; replace hb00 := bl_call hb00 (Nat.le_refl _) hb3; replace hx := hx.call hb3; clear x0 x1 x2 x3 x4 x5 x6 x7 x8 x9 x10 x11 x12; clear hb3; obtain ⟨⟨x0, x1, x2, x3, x4, x5⟩, ⟨x6, x7, x8, x9, x10, x11⟩, x12⟩ := hx.get6))
 have hsz : w.heap.size + 1 ≤ w3.heap.size := hx.lt
 clear HC HO
 clear x0 x1 x2 x3 x4 x5 x6 x7 x8 x9 x10 x11 x12
 go_wp2_with fail
 go_loopw [8, 9, 76] (fun v8 v9 i wr => ∃ (k : Nat) (A' : Option Addr) (cp s : Nat), k ≤ 1 ∧ i = .int .i64 k ∧ v8 = .slice A' k cp ∧ v9 = .int .i64 s ∧ s ≤ k ∧ Hid (∀ x, x ∈ ms.take k → x ≤ 1) ∧
   Vs wr w.heap.size [.int .u8 1, .int .u8 f, .int .i64 0, .int .i64 0, .int .i64 0, .int .i64 0] ∧ wr.ownsRow (w.heap.size + 1) 36 2 (.slice A' k cp) k (cellsE (esK ((ms.take k).map (nK f)))) ∧ Below w.heap.size w wr ∧ w.heap.size + 1 ≤ wr.heap.size) (fun _ _ i _ => 1 - (intOf i).toNat)
 case atStart => exact ⟨0, none, 0, 0, Nat.zero_le _, rfl, rfl, rfl, Nat.le_refl _, fun x h => (by simp at h), hx, World.ownsRow_nil _ _ _ _, hb00, hsz⟩
 case round =>
  clear hx hb00 hsz
  obtain ⟨k, A', cp, s, hk, rfl, rfl, rfl, hsk, hall, hx, hown, hbw, hsz⟩ := hrel
  obtain ⟨⟨x0, x1, x2, x3, x4, x5⟩, ⟨x6, x7, x8, x9, x10, x11⟩, x12⟩ := hx.get6
  by_cases hlt : k < 1
  ·obtain ⟨b, o, rfl, hB, hr⟩ := hA (by omega)
   obtain ⟨n, hn⟩ : ∃ n, ms[k]? = some n := ⟨_, List.getElem?_eq_getElem (by rw [HL.out]; exact hlt)⟩
   have d0 := (hr.below hbw hB) _ _ (natsI_at hn)
   have HN := Lib.hid hn
   clear hn hr hA
   by_cases hn1 : n ≤ 1
   ·have hn2 : n ≤ 18446744073709551615 := by omega
    have HA2 := Lib.hid (all_take HN.out hall.out hn1)
    have HT2 : Hid (esK ((ms.take (k + 1)).map (nK f)) = esK ((ms.take k).map (nK f)) ++ [eK (nK f n)]) := by
     show esK ((ms.take (k + 1)).map (nK f)) = _
     rw [List.take_add_one, HN.out, List.map_append, esK_append]
     rfl
    have hk1 : k + 1 ≤ 1099511627776 := by omega
    obtain ⟨y, hy⟩ : ∃ y, kL f (n : Int) 0 = y := ⟨_, rfl⟩
    have HOY : Hid (∀ wz, Calls Tryz.prog 52 #[.int .u8 f, .int .u64 n] wz (RetK y wz)) := by
     intro wz
     have h := HOF.out n hn2 wz
     rwa [hy] at h
    have HTY : Hid (esK ((ms.take (k + 1)).map (nK f)) = esK ((ms.take k).map (nK f)) ++ [eK y]) := by rw [← hy]; exact HT2.out
    clear HT2 hy
    go_wp2_with (first
     | (go_at_call 52; refine (HOY.out _).mono ?_; rintro e w6 ⟨rfl, hb6⟩; have hbw6 := bl_call hbw (Nat.le_refl _) hb6; have hx6 := hx.call hb6; have hown6 := own_call hown hb6; have hs6 := hb6.size; have HOW := Lib.hid (hown6.alloc (.cells #[.int .u64 (lo y), .int .u64 (hi y)] 36)); have hbase : w.heap.size + 1 ≤ (w6.alloc (.cells #[.int .u64 (lo y), .int .u64 (hi y)] 36)).heap.size := (by rw [World.size_alloc]; omega); have HR1 := Lib.hid (show 0 < 1 → ∃ b o, (some ⟨w6.heap.size, 0, none⟩ : Option Addr) = some ⟨b, o, none⟩ ∧ RowE (w6.alloc (.cells #[.int .u64 (lo y), .int .u64 (hi y)] 36)) b o [eK y] from fun _ => ⟨_, _, rfl, (BlkE.new w6 [eK y] _ rfl).rowE⟩); clear hown6)
     | (at_builtin; (refine wpList_append_E rfl (.tmp 86) (.tmp 91) rfl (w.heap.size + 1) _ k (esK ((ms.take k).map (nK f))) rfl HOW.out (some ⟨w6.heap.size, 0, none⟩) 1 1 [eK y] rfl rfl HR1.out hk1 hbase ?_; intro v2 w7 hown7 hg7 hat7; have hb7 : Below (w.heap.size + 1) (w6.alloc (.cells #[.int .u64 (lo y), .int .u64 (hi y)] 36)) w7 := (Below.refl _ _).grown hg7 hbase (fun q hq => (HOW.out.lt q hq).1); obtain ⟨g2, cap2, hv2⟩ := own_slice hown7; rw [hv2])))
    rw [hv2, ← HTY.out] at hown7
    have hx7 := (hx6.alloc (.cells #[.int .u64 (lo y), .int .u64 (hi y)] 36)).belowB hb7 (by omega)
    have hbw7 : Below w.heap.size w w7 := (hbw6.alloc (by omega) (.cells #[.int .u64 (lo y), .int .u64 (hi y)] 36)).trans (hb7.mono (by omega))
    have hz7 := hb7.size
    go_roundw
    case rel => exact ⟨k + 1, _, cap2, s + n, by omega, by go_num, rfl, by go_num, by omega, HA2.out, hx7, hown7, hbw7, by omega⟩
    case measure => simp [intOf]; omega
   ·have hbad : ¬ (∀ x, x ∈ ms → x ≤ 1) := fun h => hn1 (h n (List.mem_of_getElem? HN.out))
    have HBAD := Lib.hid hbad
    clear hbad
    go_wp2_with fail
    go_ret2
    exact .inr ⟨HBAD.out, rfl, hbw⟩
  ·obtain rfl : k = 1 := by omega
   rw [List.take_of_length_le (by rw [HL.out]; exact Nat.le_refl _)] at hall hown
   have HLE : Hid ((ms.map (nK f)).length = 1) := by show (ms.map (nK f)).length = 1; rw [List.length_map, HL.out]
   go_wp2_with fail
   go_ret2
   exact .inl ⟨hall.out, _, rfl, by rw [HLE.out]; exact own_mono hown (by omega), hbw⟩

omit hf in
theorem own_blk {w : World} {g n base : Nat} {xs : List E} (h : BlkE w g xs) (hn : xs.length = n) (hb : base ≤ g) (hm : n ≤ 1099511627776) : w.ownsRow base 36 2 (.slice (some ⟨g, 0, none⟩) n n) n (cellsE xs) := by
 have hl : (cellsE xs).length = n * 2 := by rw [length_cellsE, hn]
 exact ⟨hl, .inr ⟨g, n, _, rfl, hb, h, Nat.le_refl _, by unfold maxLen; omega, by simp [hl], by simp [← hl]⟩⟩

set_option maxHeartbeats 8000000 in
theorem circuit_Encode_hist (l c : Nat) (hy : (CK.hist l c).ok) (hcalls : ¬ 511 < (CK.hist l c).calls) (vm : Value) (n : Nat) (w : World) (hm : SlU w w.heap.size vm (natsI [n])) :
  Calls Tryz.prog 46 #[(CK.hist l c).val f, vm] w (RetEnc (okOne l n) ((encOne l n).map (nK f)) w) := by
 have HC : Hid (∀ wz, Calls Tryz.prog 48 #[(CK.hist l c).val f] wz (RetC 0 wz)) := by
  intro wz
  have h := circuit_Check_ok hf (.hist l c) hy wz
  rwa [CK.code_ok hcalls] at h
 have HO : Hid (∀ wz, Calls Tryz.prog 93 #[(CK.hist l c).val f] wz (RetI l wz)) := fun wz => circuit_Out f (.hist l c) hy wz
 rw [val_hist] at HC HO ⊢
 have hl64 : l ≤ 64 := hy.1.2
 have hl1 : 1 ≤ l := hy.1.1
 obtain ⟨⟨A, cc, rfl, hcc, hcm, hA⟩, hok⟩ := hm
 rw [natsI_length] at hcc hA ⊢
 obtain ⟨bb, o, rfl, hB, hr⟩ := hA (by simp)
 have hn64 : n ≤ 18446744073709551615 := by have := (hok (n : Int) (by simp [natsI])).2; omega
 have D0 : Hid (∀ wz, Below w.heap.size w wz → wz.cell? ⟨bb, o, none⟩ = some (.int .u64 n)) := fun wz hb => (hr.below hb hB) 0 n rfl
 have HONE := Lib.hid (fun wz => field_One hf wz)
 have hfb0 : (1 : Int) ≤ (f : Int) := by rcases hf.or with rfl | rfl <;> omega
 have hfb1 : (f : Int) ≤ 2 := by rcases hf.or with rfl | rfl <;> omega
 have hmk := make_elem l (by omega)
 have hwl : IntKind.u64.wrap (l : Int) = (l : Int) := IntWalk.u64_in _ (by omega)
 have hb00 : Below w.heap.size w w := Below.refl _ _
 clear hA hr hok hcalls hy
 rw [show ([n] : List Nat).length = 1 from rfl]
 go_enter Tryz.func46, Tryz.ntmps46
 go_upto_region 1 with fail
 have hx := Vs.new w [.int .u8 4, .int .u8 f, .int .i64 0, .int .i64 l, .int .i64 0, .int .i64 c] #[.int .u8 4, .int .u8 f, .int .i64 0, .int .i64 l, .int .i64 0, .int .i64 c] 30 rfl
 have hbA : Below w.heap.size w (w.alloc (.cells #[.int .u8 4, .int .u8 f, .int .i64 0, .int .i64 l, .int .i64 0, .int .i64 c] 30)) := by repeat (first | exact bA | with_reducible assumption | apply bB)
 replace hb00 := bl_call hb00 (Nat.le_refl _) hbA
 clear hbA
 generalize w.alloc (.cells #[.int .u8 4, .int .u8 f, .int .i64 0, .int .i64 l, .int .i64 0, .int .i64 c] 30) = w1 at hb00 hx ⊢
 obtain ⟨⟨x0, x1, x2, x3, x4, x5⟩, ⟨x6, x7, x8, x9, x10, x11⟩, x12⟩ := hx.get6
 go_upto_region 13 with (first
  | (go_at_call 48; refine (HC.out _).mono ?_; rintro e w2 ⟨rfl, hb2⟩; replace hb00 := bl_call hb00 (Nat.le_refl _) hb2; replace hx := hx.call hb2; clear x0 x1 x2 x3 x4 x5 x6 x7 x8 x9 x10 x11 x12; clear hb2; obtain ⟨⟨x0, x1, x2, x3, x4, x5⟩, ⟨x6, x7, x8, x9, x10, x11⟩, x12⟩ := hx.get6)
  | (go_at_call 93; refine (HO.out _).mono ?_; rintro e w3 ⟨rfl, hb3⟩; replace hb00 := bl_call hb00 (Nat.le_refl _) hb3; replace hx := hx.call hb3; clear x0 x1 x2 x3 x4 x5 x6 x7 x8 x9 x10 x11 x12; clear hb3; obtain ⟨⟨x0, x1, x2, x3, x4, x5⟩, ⟨x6, x7, x8, x9, x10, x11⟩, x12⟩ := hx.get6))
 have d0 := D0.out _ hb00
 have hbb : bb < w3.heap.size := Nat.lt_of_lt_of_le hB hb00.size
 by_cases hnl : n < l
 rotate_left
 ·have hd : decide ((l : Int) ≤ (n : Int)) = true := decide_eq_true (by omega)
  have HNG : Hid (¬ okOne l n) := hnl
  refine region_B (n := 6) (m := 7) (f := 6) (by kernel_rfl) (by kernel_rfl) rfl ?_
  refine WpH.vD 0 (some 32) ?_ rfl rfl (by kernel_rfl) (fun _ _ _ h => h) rfl (fun wz hwz => ?_) ?_
  rotate_left
  ·go_simp; try (with_reducible rfl)
  simp only [Zp, Zq, Zr, Zs]
  refine WpH.vD 1 (some 33) ?_ rfl rfl (by kernel_rfl) (fun _ _ _ h => h) rfl (fun wz hwz => ?_) ?_
  rotate_left
  ·go_simp; try (with_reducible rfl)
  simp only [Zp, Zq, Zr, Zs]
  refine WpH.vD 2 (some 34) ?_ rfl rfl (by kernel_rfl) (fun _ _ _ h => h) rfl (fun wz hwz => ?_) ?_
  rotate_left
  ·(obtain ⟨hcz, hfz⟩ := bcell hwz; go_simp; try (with_reducible rfl))
  simp only [Zp, Zq, Zr, Zs]
  refine WpH.vD 3 (some 35) ?_ rfl rfl (by kernel_rfl) (fun _ _ _ h => h) rfl (fun wz hwz => ?_) ?_
  rotate_left
  ·go_simp; try (with_reducible rfl)
  simp only [Zp, Zq, Zr, Zs]
  refine WpH.vD 4 (some 36) ?_ rfl rfl (by kernel_rfl) (fun _ _ _ h => h) rfl (fun wz hwz => ?_) ?_
  rotate_left
  ·(obtain ⟨hcz, hfz⟩ := bcell hwz; go_simp; try (with_reducible rfl))
  simp only [Zp, Zq, Zr, Zs]
  refine WpH.vD 5 (some 37) ?_ rfl rfl (by kernel_rfl) (fun _ _ _ h => h) rfl (fun wz hwz => ?_) ?_
  rotate_left
  ·go_simp; try (with_reducible rfl)
  simp only [Zp, Zq, Zr, Zs]
  refine WpH.doneB (by kernel_rfl) (fun w4 hw4 => ?_)
  (try simp only [List.drop_succ_cons]); (try simp only [List.drop_zero]); (try simp only [Nat.reduceSub]); (try simp only [List.take_succ_cons]); (try simp only [List.take_zero])
  replace hb00 := bl_call hb00 (Nat.le_refl _) hw4
  replace hx := hx.call hw4
  go_wp2_with fail
  go_ret2
  exact .inr ⟨HNG.out, rfl, hb00⟩
 have hd : decide ((l : Int) ≤ (n : Int)) = false := decide_eq_false (by omega)
 have HNL : Hid (okOne l n) := hnl
 refine region_B (n := 6) (m := 7) (f := 6) (by kernel_rfl) (by kernel_rfl) rfl ?_
 refine WpH.vD 0 (some 32) ?_ rfl rfl (by kernel_rfl) (fun _ _ _ h => h) rfl (fun wz hwz => ?_) ?_
 rotate_left
 ·go_simp; try (with_reducible rfl)
 simp only [Zp, Zq, Zr, Zs]
 refine WpH.vD 1 (some 33) ?_ rfl rfl (by kernel_rfl) (fun _ _ _ h => h) rfl (fun wz hwz => ?_) ?_
 rotate_left
 ·go_simp; try (with_reducible rfl)
 simp only [Zp, Zq, Zr, Zs]
 refine WpH.vD 2 (some 34) ?_ rfl rfl (by kernel_rfl) (fun _ _ _ h => h) rfl (fun wz hwz => ?_) ?_
 rotate_left
 ·(obtain ⟨hcz, hfz⟩ := bcell hwz; go_simp; try (with_reducible rfl))
 simp only [Zp, Zq, Zr, Zs]
 refine WpH.vD 3 (some 35) ?_ rfl rfl (by kernel_rfl) (fun _ _ _ h => h) rfl (fun wz hwz => ?_) ?_
 rotate_left
 ·go_simp; try (with_reducible rfl)
 simp only [Zp, Zq, Zr, Zs]
 refine WpH.vD 4 (some 36) ?_ rfl rfl (by kernel_rfl) (fun _ _ _ h => h) rfl (fun wz hwz => ?_) ?_
 rotate_left
 ·(obtain ⟨hcz, hfz⟩ := bcell hwz; go_simp; try (with_reducible rfl))
 simp only [Zp, Zq, Zr, Zs]
 refine WpH.vD 5 (some 37) ?_ rfl rfl (by kernel_rfl) (fun _ _ _ h => h) rfl (fun wz hwz => ?_) ?_
 rotate_left
 ·go_simp; try (with_reducible rfl)
 simp only [Zp, Zq, Zr, Zs]
 refine WpH.doneB (by kernel_rfl) (fun w4 hw4 => ?_)
 (try simp only [List.drop_succ_cons]); (try simp only [List.drop_zero]); (try simp only [Nat.reduceSub]); (try simp only [List.take_succ_cons]); (try simp only [List.take_zero])
 clear x0 x1 x2 x3 x4 x5 x6 x7 x8 x9 x10 x11 x12
 replace hb00 := bl_call hb00 (Nat.le_refl _) hw4
 replace hx := hx.call hw4
 clear hw4 d0 hbb
 obtain ⟨⟨x0, x1, x2, x3, x4, x5⟩, ⟨x6, x7, x8, x9, x10, x11⟩, x12⟩ := hx.get6
 go_upto_region 16 with fail
 clear x0 x1 x2 x3 x4 x5 x6 x7 x8 x9 x10 x11 x12
 have hBk : BlkE (w4.alloc (.cells (cellsE (List.replicate l (0, 0))).toArray 36)) w4.heap.size (List.replicate l (0, 0)) := heap_alloc_new w4 _
 have hbA : Below w4.heap.size w4 (w4.alloc (.cells (cellsE (List.replicate l (0, 0))).toArray 36)) := by repeat (first | exact bA | with_reducible assumption | apply bB | (refine bC ?_ (by dsimp only; omega)) | apply bD | apply bE | (refine bF ?_ (by assumption)))
 have hgx : w.heap.size < w4.heap.size := hx.lt
 replace hb00 := bl_call hb00 (Nat.le_refl _) hbA
 replace hx := hx.call hbA
 clear hbA hmk
 generalize w4.alloc (.cells (cellsE (List.replicate l (0, 0))).toArray 36) = w5 at hBk hx hb00 ⊢
 generalize w4.heap.size = g at *
 have d0 := D0.out _ hb00
 have hbb : bb < w5.heap.size := Nat.lt_of_lt_of_le hB hb00.size
 have hgl := hBk.lt
 have hni : (n : Int) < (l : Int) := by omega
 obtain ⟨⟨x0, x1, x2, x3, x4, x5⟩, ⟨x6, x7, x8, x9, x10, x11⟩, x12⟩ := hx.get6
 refine region_B (n := 8) (m := 9) (f := 8) (by kernel_rfl) (by kernel_rfl) rfl ?_
 refine WpH.vD 0 (some 42) ?_ rfl rfl (by kernel_rfl) (fun _ _ _ h => h) rfl (fun wz hwz => ?_) ?_
 rotate_left
 ·go_simp; try (with_reducible rfl)
 simp only [Zp, Zq, Zr, Zs]
 refine WpH.vD 1 (some 43) ?_ rfl rfl (by kernel_rfl) (fun _ _ _ h => h) rfl (fun wz hwz => ?_) ?_
 rotate_left
 ·go_simp; try (with_reducible rfl)
 simp only [Zp, Zq, Zr, Zs]
 refine WpH.vD 2 (some 44) ?_ rfl rfl (by kernel_rfl) (fun _ _ _ h => h) rfl (fun wz hwz => ?_) ?_
 rotate_left
 ·go_simp; try (with_reducible rfl)
 simp only [Zp, Zq, Zr, Zs]
 refine WpH.vD 3 (some 45) ?_ rfl rfl (by kernel_rfl) (fun _ _ _ h => h) rfl (fun wz hwz => ?_) ?_
 rotate_left
 ·(obtain ⟨hcz, hfz⟩ := bcell hwz; go_simp; try (with_reducible rfl))
 simp only [Zp, Zq, Zr, Zs]
 refine WpH.vD 4 (some 46) ?_ rfl rfl (by kernel_rfl) (fun _ _ _ h => h) rfl (fun wz hwz => ?_) ?_
 rotate_left
 ·go_simp; try (with_reducible rfl)
 simp only [Zp, Zq, Zr, Zs]
 refine WpH.vD 5 (some 47) ?_ rfl rfl (by kernel_rfl) (fun _ _ _ h => h) rfl (fun wz hwz => ?_) ?_
 rotate_left
 ·(obtain ⟨hcz, hfz⟩ := bcell hwz; go_simp; try (with_reducible rfl))
 simp only [Zp, Zq, Zr, Zs]
 refine WpH.takeD 6 (some 48) rfl rfl (by kernel_rfl) (fun _ _ _ h => h) (.call rfl (fun wz hwz => HONE.out wz) (fun wz hwz => ?_)) ?_
 ·go_simp; try (with_reducible rfl)
 simp only [Zp, Zq, Zr, Zs]
 refine WpH.vD 7 (some 49) ?_ rfl rfl (by kernel_rfl) (fun _ _ _ h => h) rfl (fun wz hwz => ?_) ?_
 rotate_left
 ·go_simp; try (with_reducible rfl)
 simp only [Zp, Zq, Zr, Zs]
 refine WpH.doneB (by kernel_rfl) (fun w6 hw6 => ?_)
 (try simp only [List.drop_succ_cons]); (try simp only [List.drop_zero]); (try simp only [Nat.reduceSub]); (try simp only [List.take_succ_cons]); (try simp only [List.take_zero])
 clear x0 x1 x2 x3 x4 x5 x6 x7 x8 x9 x10 x11 x12
 clear d0 hbb hgl
 replace hBk := hBk.call hw6
 replace hb00 := bl_call hb00 (Nat.le_refl _) hw6
 replace hx := hx.call hw6
 clear hw6
 have hzn : (List.replicate l ((0, 0) : E))[n]? = some (0, 0) := by rw [List.getElem?_replicate, if_pos hnl]
 obtain ⟨z0, z1⟩ := hBk.row n _ hzn
 have fz0 := hBk.frozen (n * 2)
 have fz1 := hBk.frozen (n * 2 + 1)
 have HL : Hid ((List.replicate l ((0, 0) : E)).set n (lo (1 : Fin (Pm f)), hi (1 : Fin (Pm f))) = esK ((encOne l n).map (nK f))) := by
  show (List.replicate l ((0, 0) : E)).set n (eK (1 : Fin (Pm f))) = esK ((encOne l n).map (nK f))
  unfold encOne esK
  rw [List.map_set, List.map_replicate, List.map_set, List.map_replicate, nK_zero, nK_one, eK_zero]
 have HB2 := Lib.hid (hBk.set n (lo (1 : Fin (Pm f))) (hi (1 : Fin (Pm f))))
 clear hBk hzn
 go_wp2_with fail
 go_ret2
 have hB2 := HB2.out
 rw [HL.out] at hB2
 have hlen : ((encOne l n).map (nK f)).length = l := by rw [List.length_map, encOne_length]
 have hwg : w.heap.size ≤ g := by omega
 refine .inl ⟨HNL.out, _, rfl, ?_, bl_set (p := ⟨g, n * 2 + 1, none⟩) (bl_set (p := ⟨g, n * 2, none⟩) hb00 hwg _) hwg _⟩
 rw [hlen]
 exact own_blk hB2 (by rw [esK_length, hlen]) (by omega) (by omega)

def CK.meas : CK → Nat
 | hist _ _ => 1
 | y => y.nout
def okEnc (y : CK) (ms : List Nat) : Prop :=
 match y with
 | .count => ∀ x, x ∈ ms → x ≤ 1
 | .sum b => okNums b ms
 | .vec b _ _ => okNums b ms
 | .hist l _ => okOne l (ms.headD 0)
 | .multi _ m _ => okMulti m ms
def encL (y : CK) (ms : List Nat) : List Nat :=
 match y with
 | .count => ms
 | .sum b => encNums b ms
 | .vec b _ _ => encNums b ms
 | .hist l _ => encOne l (ms.headD 0)
 | .multi _ m _ => encMulti m ms

theorem circuit_Encode (y : CK) (hy : y.ok) (hcalls : ¬ 511 < y.calls) (vm : Value) (ms : List Nat) (w : World) (hm : SlU w w.heap.size vm (natsI ms)) (hl : ms.length = y.meas) :
  Calls Tryz.prog 46 #[y.val f, vm] w (RetEnc (okEnc y ms) ((encL y ms).map (nK f)) w) := by
 have HC : Hid (∀ wz, Calls Tryz.prog 48 #[y.val f] wz (RetC 0 wz)) := by
  intro wz
  have h := circuit_Check_ok hf y hy wz
  rwa [CK.code_ok hcalls] at h
 have HO := Lib.hid (fun wz => circuit_Out f y hy wz)
 cases y with
 | count => exact circuit_Encode_count hf hcalls vm ms w hm hl
 | sum b => exact circuit_Encode_nums2 hf b 1 0 0 0 hy.1 hy.2 (by omega) vm ms w hm hl HC HO
 | vec b n c => exact circuit_Encode_nums3 hf b n 0 c n hy.1.1 hy.1.2 hy.2.1.2 vm ms w hm hl HC HO
 | hist l c =>
  match ms, hl with
  | [n], _ => exact circuit_Encode_hist hf l c hy hcalls vm n w hm
 | multi l m c => exact circuit_Encode_multi hf l m c hy hcalls vm ms w hm hl

end

end Go.Proofs.YtfbfbijkkbflkaaGreatDoor
