/-
 RegZ, Vector, LaidN, RRuns, PfBd, PfDi, PfJp, PfBb, PfJt: for ProofJoint.
-/
import Derived.Test.YtfbfbijkkbflkaaGreatDoorRows
import Derived.Test.YtfbfbijkkbflkaaGreatDoorTie
import Derived.ProofKit
import Derived.LaidMore
import Derived.OpenShut
import Derived.Stop.Joined
import Derived.Test.YtfbfbijkkbflkaaGreatDoorMba
import Derived.Test.YtfbfbijkkbflkaaGreatDoorSaa
namespace Go.Proofs.YtfbfbijkkbflkaaGreatDoor
open Go Go.RowKit
set_option linter.unusedVariables false

section
variable {P : Program} {ops : Array Oper} {Q : Exit → Act → World → Prop} {md : Region.Mode} {n m : Nat} {L : Act → World → Prop} {f : Nat} {listed : Array Bool} {a : Act} {T S : World → Prop}
variable {L' : Act → World → Prop}
theorem region_Z2 {id n m f : Nat} {l : List Oper} {a : Act} {w : World} {α β : Type} (R : α → β → World → Prop) (T S : World → Prop) (hST : ∀ w, S w → T w) (hC : Clo S) (hS : S w.drew) {E : α → β → Act} (hm : P.follows .mixedOrders = true) (hB : partsB .any l.toArray n m (Array.replicate l.length false) = true) (hf : f + (m - n) = l.length)
  (h : WpX P .any l.toArray Q n m (fun a w => ∃ x y, a = E x y ∧ R x y w) f (Array.replicate l.length false) a T S)
  (hc : ∀ x y w', R x y w' → wpList P l.toArray Q ((l.drop n).take (m - n)) (E x y) w') : (Code.region id l.toArray true).wp P Q a w :=
 region_X T S hST hC hS hm hB hf (h.monoZ fun _ w ⟨x, y, e, hr⟩ => e ▸ hc x y w hr)
end

end Go.Proofs.YtfbfbijkkbflkaaGreatDoor

namespace Go.Proofs.YtfbfbijkkbflkaaGreatDoor
open Go.RowKit Fm
set_option linter.unusedVariables false
set_option maxRecDepth 100000

def RetV (f n : Nat) (w : World) (e : Ending) (w' : World) : Prop :=
 ∃ (g : Nat) (zs : KL f), zs.length = n ∧ e = .returned (.slice (some ⟨g, 0, none⟩) n n) ∧ BlkE w' g (esK zs) ∧ w.heap.size ≤ g ∧ Below w.heap.size w w'

theorem fill_put {f : Nat} (zs : KL f) (n k : Nat) (hz : zs.length = k) (hk : k < n) (y : Fin (Pm f)) (a b : Int) (hy : eK y = (a, b)) :
  (esK zs ++ List.replicate (n - k) ((0, 0) : E)).set k (a, b) = esK (zs ++ [y]) ++ List.replicate (n - (k + 1)) (0, 0) := by
 have hl : (esK zs).length = k := by rw [esK_length, hz]
 rw [List.set_append_right _ _ (by rw [hl]; exact Nat.le_refl _), hl, Nat.sub_self, show n - k = (n - (k + 1)) + 1 by omega, List.replicate_succ, List.set_cons_zero, esK_append, esK_cons, esK_nil, hy, List.append_assoc]
 rfl
theorem fill_none {f : Nat} (zs : KL f) (n k : Nat) (hk : k < n) :
  esK zs ++ List.replicate (n - k) ((0, 0) : E) = esK (zs ++ [(0 : Fin (Pm f))]) ++ List.replicate (n - (k + 1)) (0, 0) := by
 rw [show n - k = (n - (k + 1)) + 1 by omega, List.replicate_succ, esK_append, esK_cons, esK_nil, eK_zero, List.append_assoc]
 rfl
section
variable {f : Nat} (hf : IsF f)
include hf

set_option maxHeartbeats 8000000 in
theorem law10_Vector (y : CK) (hy : y.ok) (vl : Value) (l : List E) (sm : Bool) (w : World) (hl : SlE w w.heap.size vl l) (hl60 : l.length ≤ 60) :
  Calls Tryz.prog 12 #[y.val f, vl, .bool sm] w (RetV f y.nin w) := by
 have HI := Lib.hid (fun wz => circuit_In f y hy wz)
 have hnin := CK.nin_le hy
 obtain ⟨⟨A, c, rfl, hlc, hcm, hA⟩, hok⟩ := hl
 have hfb0 : (1 : Int) ≤ (f : Int) := by rcases hf.or with rfl | rfl <;> omega
 have hfb1 : (f : Int) ≤ 2 := by rcases hf.or with rfl | rfl <;> omega
 unfold CK.val at HI ⊢
 obtain ⟨K, hK⟩ : ∃ K : Int, ((y.k : Nat) : Int) = K := ⟨_, rfl⟩
 obtain ⟨B, hB⟩ : ∃ K : Int, ((y.b : Nat) : Int) = K := ⟨_, rfl⟩
 obtain ⟨N, hN⟩ : ∃ K : Int, ((y.l : Nat) : Int) = K := ⟨_, rfl⟩
 obtain ⟨M, hM⟩ : ∃ K : Int, ((y.m : Nat) : Int) = K := ⟨_, rfl⟩
 obtain ⟨C, hC⟩ : ∃ K : Int, ((y.c : Nat) : Int) = K := ⟨_, rfl⟩
 rw [hK, hB, hN, hM, hC] at HI ⊢
 clear hK hB hN hM hC hy
 generalize y.nin = n at *
 have hmk := make_elem n (by omega)
 have hb00 : Below w.heap.size w w := Below.refl _ _
 go_enter Tryz.func12, Tryz.ntmps12
 go_upto_region 1 with fail
 have hx := Vs.new w [.int .u8 K, .int .u8 f, .int .i64 B, .int .i64 N, .int .i64 M, .int .i64 C] #[.int .u8 K, .int .u8 f, .int .i64 B, .int .i64 N, .int .i64 M, .int .i64 C] 30 rfl
 have hbA : Below w.heap.size w (w.alloc (.cells #[.int .u8 K, .int .u8 f, .int .i64 B, .int .i64 N, .int .i64 M, .int .i64 C] 30)) := by repeat (first | exact bA | with_reducible assumption | apply bB)
 replace hb00 := bl_call hb00 (Nat.le_refl _) hbA
 clear hbA
 generalize w.alloc (.cells #[.int .u8 K, .int .u8 f, .int .i64 B, .int .i64 N, .int .i64 M, .int .i64 C] 30) = w1 at hb00 hx ⊢
 obtain ⟨⟨x0, x1, x2, x3, x4, x5⟩, ⟨x6, x7, x8, x9, x10, x11⟩, x12⟩ := hx.get6
 go_upto_region 2 with (first
  | (go_at_call 42; refine (HI.out _).mono ?_; rintro e w2 ⟨rfl, hb2⟩; replace hb00 := bl_call hb00 (Nat.le_refl _) hb2; replace hx := hx.call hb2; obtain ⟨⟨x0, x1, x2, x3, x4, x5⟩, ⟨x6, x7, x8, x9, x10, x11⟩, x12⟩ := hx.get6))
 have hBk : BlkE (w2.alloc (.cells (cellsE (List.replicate n (0, 0))).toArray 36)) w2.heap.size (List.replicate n (0, 0)) := heap_alloc_new w2 _
 have hbA : Below w2.heap.size w2 (w2.alloc (.cells (cellsE (List.replicate n (0, 0))).toArray 36)) := by repeat (first | exact bA | with_reducible assumption | apply bB | (refine bC ?_ (by dsimp only; omega)) | apply bD | apply bE | (refine bF ?_ (by assumption)))
 have hgx : w.heap.size < w2.heap.size := hx.lt
 clear x0 x1 x2 x3 x4 x5 x6 x7 x8 x9 x10 x11 x12
 replace hb00 := bl_call hb00 (Nat.le_refl _) hbA
 replace hx := hx.call hbA
 clear hbA hb2
 obtain ⟨g, hg⟩ : ∃ g, w2.heap.size = g := ⟨_, rfl⟩
 rw [hg] at hBk hgx ⊢
 generalize w2.alloc (.cells (cellsE (List.replicate n (0, 0))).toArray 36) = w3 at hBk hx hb00 ⊢
 clear hg hmk HI
 go_wp2_with fail
 go_loopw [14] (fun i wr => ∃ (k : Nat) (zs : KL f), zs.length = k ∧ k ≤ n ∧ i = .int .i64 k ∧ BlkE wr g (esK zs ++ List.replicate (n - k) (0, 0)) ∧ Vs wr w.heap.size [.int .u8 K, .int .u8 f, .int .i64 B, .int .i64 N, .int .i64 M, .int .i64 C] ∧ Below w.heap.size w wr) (fun i _ => n - (intOf i).toNat)
 case atStart => exact ⟨0, [], rfl, Nat.zero_le _, rfl, hBk, hx, hb00⟩
 case round =>
  clear hBk hx hb00
  obtain ⟨k, zs, hzl, hk, rfl, hBk, hx, hbw⟩ := hrel
  obtain ⟨⟨x0, x1, x2, x3, x4, x5⟩, ⟨x6, x7, x8, x9, x10, x11⟩, x12⟩ := hx.get6
  have HZ := Lib.hid hzl
  clear hzl
  by_cases hlt : k < n
  ·by_cases hl0 : l.length = 0
   ·rw [fill_none zs n k hlt] at hBk
    have HBK := Lib.hid hBk
    clear hBk hA
    go_wp2
    go_roundw
    case rel => exact ⟨k + 1, zs ++ [0], (by rw [List.length_append, HZ.out]; rfl), by omega, by go_num, HBK.out, hx, hbw⟩
    case measure => simp [intOf]; omega
   ·obtain ⟨b, o, rfl, hBl, hr⟩ := hA (by omega)
    have hjm : k % l.length < l.length := Nat.mod_lt _ (by omega)
    obtain ⟨⟨e0, e1⟩, he⟩ : ∃ e, l[k % l.length]? = some e := ⟨_, List.getElem?_eq_getElem hjm⟩
    obtain ⟨h0, h1, h2, h3⟩ := hok _ (List.mem_of_getElem? he)
    obtain ⟨c0, c1⟩ := (hr.below hbw hBl) _ _ he
    dsimp only at h0 h1 h2 h3 c0 c1
    have hbl : b < wr.heap.size := Nat.lt_of_lt_of_le hBl hbw.size
    have HO := Lib.hid (fun wz => ref_OfL hf e0 e1 wz h0 h1 h2 h3)
    obtain ⟨x, hxx⟩ : ∃ x, kL f e0 e1 = x := ⟨_, rfl⟩
    rw [hxx] at HO
    have hjn : 0 ≤ (k : Int) % (l.length : Int) := Int.emod_nonneg _ (by omega)
    have hjl : (k : Int) % (l.length : Int) < (l.length : Int) := Int.emod_lt_of_pos _ (by omega)
    have hjt : ((k : Int) % (l.length : Int)).toNat = k % l.length := by rw [← Int.natCast_emod, Int.toNat_natCast]
    have hjd : (k : Int).tmod (l.length : Int) = (k : Int) % (l.length : Int) := Int.tmod_eq_emod_of_nonneg (by omega)
    have hgl : g < wr.heap.size := hBk.lt
    have hl9 : ¬ (l.length = 0) := hl0
    have hwf : IntKind.i64.wrap (f : Int) = (f : Int) := IntWalk.i64_in _ (by omega)
    clear he hr hA hxx
    go_upto_region 6 with fail
    refine region_B (n := 14) (m := 15) (f := 14) (by kernel_rfl) (by kernel_rfl) rfl ?_
    refine WpH.vD 0 (some 20) ?_ rfl rfl (by kernel_rfl) (fun _ _ _ h => h) rfl (fun wz hwz => ?_) ?_
    rotate_left
    ·go_simp; try (with_reducible rfl)
    simp only [Zp, Zq, Zr, Zs]
    refine WpH.vD 1 (some 21) ?_ rfl rfl (by kernel_rfl) (fun _ _ _ h => h) rfl (fun wz hwz => ?_) ?_
    rotate_left
    ·go_simp; try (with_reducible rfl)
    simp only [Zp, Zq, Zr, Zs]
    refine WpH.vD 2 (some 22) ?_ rfl rfl (by kernel_rfl) (fun _ _ _ h => h) rfl (fun wz hwz => ?_) ?_
    rotate_left
    ·go_simp; try (with_reducible rfl)
    simp only [Zp, Zq, Zr, Zs]
    refine WpH.vD 3 (some 23) ?_ rfl rfl (by kernel_rfl) (fun _ _ _ h => h) rfl (fun wz hwz => ?_) ?_
    rotate_left
    ·(obtain ⟨hcz, hfz⟩ := bcell hwz; go_simp; try (with_reducible rfl))
    simp only [Zp, Zq, Zr, Zs]
    refine WpH.vD 4 (some 24) ?_ rfl rfl (by kernel_rfl) (fun _ _ _ h => h) rfl (fun wz hwz => ?_) ?_
    rotate_left
    ·go_simp; try (with_reducible rfl)
    simp only [Zp, Zq, Zr, Zs]
    refine WpH.vD 5 (some 25) ?_ rfl rfl (by kernel_rfl) (fun _ _ _ h => h) rfl (fun wz hwz => ?_) ?_
    rotate_left
    ·go_simp; try (with_reducible rfl)
    simp only [Zp, Zq, Zr, Zs]
    refine WpH.vD 6 (some 26) ?_ rfl rfl (by kernel_rfl) (fun _ _ _ h => h) rfl (fun wz hwz => ?_) ?_
    rotate_left
    ·go_simp; try (with_reducible rfl)
    simp only [Zp, Zq, Zr, Zs]
    refine WpH.vD 7 (some 27) ?_ rfl rfl (by kernel_rfl) (fun _ _ _ h => h) rfl (fun wz hwz => ?_) ?_
    rotate_left
    ·go_simp; try (with_reducible rfl)
    simp only [Zp, Zq, Zr, Zs]
    refine WpH.vD 8 (some 28) ?_ rfl rfl (by kernel_rfl) (fun _ _ _ h => h) rfl (fun wz hwz => ?_) ?_
    rotate_left
    ·go_simp; try (with_reducible rfl)
    simp only [Zp, Zq, Zr, Zs]
    refine WpH.vD 9 (some 29) ?_ rfl rfl (by kernel_rfl) (fun _ _ _ h => h) rfl (fun wz hwz => ?_) ?_
    rotate_left
    ·go_simp; try (with_reducible rfl)
    simp only [Zp, Zq, Zr, Zs]
    refine WpH.vD 10 (some 30) ?_ rfl rfl (by kernel_rfl) (fun _ _ _ h => h) rfl (fun wz hwz => ?_) ?_
    rotate_left
    ·go_simp; try (with_reducible rfl)
    simp only [Zp, Zq, Zr, Zs]
    refine WpH.vD 11 (some 31) ?_ rfl rfl (by kernel_rfl) (fun _ _ _ h => h) rfl (fun wz hwz => ?_) ?_
    rotate_left
    ·(obtain ⟨hcz, hfz⟩ := bcell hwz; go_simp; try (with_reducible rfl))
    simp only [Zp, Zq, Zr, Zs]
    refine WpH.takeD 12 (some 32) rfl rfl (by kernel_rfl) (fun _ _ _ h => h) (.call rfl (fun wz hwz => HO.out wz) (fun wz hwz => ?_)) ?_
    ·go_simp; try (with_reducible rfl)
    simp only [Zp, Zq, Zr, Zs]
    refine WpH.vD 13 (some 33) ?_ rfl rfl (by kernel_rfl) (fun _ _ _ h => h) rfl (fun wz hwz => ?_) ?_
    rotate_left
    ·go_simp; try (with_reducible rfl)
    simp only [Zp, Zq, Zr, Zs]
    refine WpH.doneB (by kernel_rfl) (fun w6 hw6 => ?_)
    (try simp only [List.drop_succ_cons]); (try simp only [List.drop_zero]); (try simp only [Nat.reduceSub]); (try simp only [List.take_succ_cons]); (try simp only [List.take_zero])
    replace hBk := hBk.call hw6
    clear x0 x1 x2 x3 x4 x5 x6 x7 x8 x9 x10 x11 x12
    replace hbw := bl_call hbw (Nat.le_refl _) hw6
    replace hx := hx.call hw6
    obtain ⟨⟨x0, x1, x2, x3, x4, x5⟩, ⟨x6, x7, x8, x9, x10, x11⟩, x12⟩ := hx.get6
    have hzk : ∃ u v : Value, w6.cell? ⟨g, k * 2, none⟩ = some u ∧ w6.cell? ⟨g, k * 2 + 1, none⟩ = some v := by
     have hlen : k < (esK zs ++ List.replicate (n - k) ((0, 0) : E)).length := by
      rw [List.length_append, List.length_replicate, esK_length, HZ.out]
      omega
     obtain ⟨e1, e2⟩ := hBk.row k _ (List.getElem?_eq_getElem hlen)
     exact ⟨_, _, e1, e2⟩
    obtain ⟨u, v, z0, z1⟩ := hzk
    have fz0 := hBk.frozen (k * 2)
    have fz1 := hBk.frozen (k * 2 + 1)
    have HS : Hid ((esK zs ++ List.replicate (n - k) ((0, 0) : E)).set k (lo x, hi x) = esK (zs ++ [x]) ++ List.replicate (n - (k + 1)) (0, 0)) := fill_put zs n k HZ.out hlt x _ _ rfl
    have HBS := Lib.hid (hBk.set k (lo x) (hi x))
    clear hBk
    have hgw : w.heap.size ≤ g := by omega
    cases sm with
    | false =>
     go_wp2
     go_roundw
     case rel =>
      have h := HBS.out
      rw [HS.out] at h
      exact ⟨k + 1, zs ++ [x], (by rw [List.length_append, HZ.out]; rfl), by omega, by go_num, h, (hx.far (by dsimp only; omega) _).far (by dsimp only; omega) _, by repeat (first | exact bA | with_reducible assumption | apply bB | (refine bC ?_ (by dsimp only; omega)) | apply bD | apply bE | (refine bF ?_ (by assumption)))⟩
     case measure => simp [intOf]; omega
    | true =>
     obtain ⟨q, hq, hq2⟩ : ∃ q : Nat, lo x % 2 = (q : Int) ∧ q ≤ 1 := ⟨(lo x % 2).toNat, by omega, by omega⟩
     have hx0 := lo_0 x
     have hqm : (lo x).tmod 2 = (q : Int) := by rw [Int.tmod_eq_emod_of_nonneg hx0]; exact hq
     have hwq : IntKind.u64.wrap (q : Int) = (q : Int) := IntWalk.u64_in _ (by omega)
     go_upto_region 8 with fail
     clear x0 x1 x2 x3 x4 x5 x6 x7 x8 x9 x10 x11 x12
     have hB2 := HBS.out
     have hx2 := (hx.far (p := ⟨g, k * 2, none⟩) (by dsimp only; omega) (.int .u64 (lo x))).far (p := ⟨g, k * 2 + 1, none⟩) (by dsimp only; omega) (.int .u64 (hi x))
     have hbw2 := bl_set (p := ⟨g, k * 2 + 1, none⟩) (bl_set (p := ⟨g, k * 2, none⟩) hbw hgw (.int .u64 (lo x))) hgw (.int .u64 (hi x))
     clear hx hbw HBS z0 z1 fz0 fz1 hw6
     generalize (w6.setCell ⟨g, k * 2, none⟩ (.int .u64 (lo x))).setCell ⟨g, k * 2 + 1, none⟩ (.int .u64 (hi x)) = w7 at hB2 hx2 hbw2 ⊢
     rw [HS.out] at hB2
     have hzx : (esK (zs ++ [x]) ++ List.replicate (n - (k + 1)) ((0, 0) : E))[k]? = some (lo x, hi x) := by
      rw [← HS.out, List.getElem?_set_self]
      ·rw [List.length_append, List.length_replicate, esK_length, HZ.out]
       omega
     obtain ⟨z0, z1⟩ := hB2.row k _ hzx
     have fz0 := hB2.frozen (k * 2)
     have fz1 := hB2.frozen (k * 2 + 1)
     have HB3 : Hid (BlkE ((w7.setCell ⟨g, k * 2, none⟩ (.int .u64 q)).setCell ⟨g, k * 2 + 1, none⟩ (.int .u64 0)) g (esK (zs ++ [nK f q]) ++ List.replicate (n - (k + 1)) (0, 0))) := by
      have h := hB2.set k (q : Int) 0
      rw [← HS.out, List.set_set, fill_put zs n k HZ.out hlt (nK f q) _ _ (eK_nK hf (by omega))] at h
      exact h
     clear hB2 hzx
     dsimp only at z0 z1
     go_wp2
     go_roundw
     case rel => exact ⟨k + 1, zs ++ [nK f q], (by rw [List.length_append, HZ.out]; rfl), by omega, by go_num, HB3.out, (hx2.far (by dsimp only; omega) _).far (by dsimp only; omega) _, by repeat (first | exact bA | with_reducible assumption | apply bB | (refine bC ?_ (by dsimp only; omega)) | apply bD | apply bE | (refine bF ?_ (by assumption)))⟩
     case measure => simp [intOf]; omega
  ·obtain rfl : k = n := by omega
   rw [Nat.sub_self, List.replicate_zero, List.append_nil] at hBk
   go_wp2
   go_ret
   exact ⟨g, zs, HZ.out, rfl, hBk, by omega, hbw⟩
end

end Go.Proofs.YtfbfbijkkbflkaaGreatDoor

namespace Go.Proofs.YtfbfbijkkbflkaaGreatDoor
open Go Go.ChangeShapes Go.WideShapes Go.ChangeAt Go.WideMaps Go.WideElems Go.RowKit

theorem rng_u64 {n : Int} (h : (Lit.int .u64 n).wf = true) : 0 ≤ n ∧ n ≤ 18446744073709551615 := by simpa [Lit.wf, IntKind.min, IntKind.max, IntKind.signed, IntKind.bits] using h
end Go.Proofs.YtfbfbijkkbflkaaGreatDoor

namespace Go.Proofs.YtfbfbijkkbflkaaGreatDoor
open Go.RowKit Fm
set_option linter.unusedVariables false
set_option maxRecDepth 100000

theorem BlkE.slM {f n : Nat} {w : World} {g : Nat} {l : KL f} (h : BlkE w g (esK l)) (hl : l.length = n) (hn : n ≤ 1000000) : SlK w w.heap.size (.slice (some ⟨g, 0, none⟩) n n) l := by
 subst hl
 exact h.slK (by omega) h.lt

section
variable {f : Nat} (hf : IsF f)
include hf

end

end Go.Proofs.YtfbfbijkkbflkaaGreatDoor

namespace Go.Proofs.YtfbfbijkkbflkaaGreatDoor
open Go.RowKit Fm
set_option linter.unusedVariables false
set_option maxRecDepth 100000

def CK.pows : CK → Nat
 | .count => 0
 | .sum b => b
 | .vec _ _ c => c
 | .hist _ c => c
 | .multi _ _ c => c
theorem CK.pows_le {y : CK} (h : y.ok) : y.pows ≤ 100 := by
 cases y with
 | count => exact Nat.zero_le _
 | sum b => have := h.2; show b ≤ 100; omega
 | vec b l c => have := h.2.2.2; show c ≤ 100; omega
 | hist l c => have := h.2.2; show c ≤ 100; omega
 | multi l m c => have := h.2.2.2; show c ≤ 100; omega

section
variable {f : Nat} (hf : IsF f)
include hf
set_option maxHeartbeats 4000000 in
theorem proof_Bound (y : CK) (hy : y.ok) (hcl : y.calls ≤ 511) (N : Nat) (hN : nextP (y.calls + 1) = N) (w : World) : Calls Tryz.prog 45 #[y.val f] w (RetI (y.pows + 2 * (N - 1)) w) := by
 have HGAD : Hid (∀ wz, Calls Tryz.prog 27 #[y.val f] wz (RetG2 (y.gad f) wz)) := fun wz => circuit_Gadget2 hf y hy wz
 have HDEG : Hid (∀ wz (k : Int) (A : Option Addr) (a c : Nat) (n : Int), RepG wz wz.heap.size k (.slice A a c) n (y.gad f) → Calls Tryz.prog 60 #[.agg #[.int .u8 k, .slice A a c, .int .i64 n]] wz fun e w' => e = .returned (.int .i64 2) ∧ Below wz.heap.size wz w') := fun wz k A a c n h => by
  have h2 := gadget_Degree wz _ (y.gad f) k _ n h
  rwa [gad_degree] at h2
 have HDOM : Hid (∀ wz, Calls Tryz.prog 30 #[y.val f] wz (RetI N wz)) := fun wz => by
  have h := circuit_Domain f y hy hcl wz
  rwa [hN] at h
 have hN2 := nextP_le (y.calls + 1)
 rw [hN] at hN2
 have hp := CK.pows_le hy
 obtain ⟨m1, hm1⟩ : ∃ m, N - 1 = m := ⟨_, rfl⟩
 obtain ⟨m2, hm2⟩ : ∃ m, 2 * m1 = m := ⟨_, rfl⟩
 rw [hm1, hm2]
 have hw1 : IntKind.i64.wrap ((N : Int) - 1) = (m1 : Int) := by rw [IntWalk.i64_in _ (by omega)]; omega
 have hw2 : IntKind.i64.wrap (2 * (m1 : Int)) = (m2 : Int) := by rw [IntWalk.i64_in _ (by omega)]; omega
 have hm2l : m2 ≤ 4000 := by omega
 clear hm1 hm2 hN2 hN
 cases y with
 | count =>
  rw [val_count] at *
  have hw3 : IntKind.i64.wrap ((m2 : Int)) = (m2 : Int) := IntWalk.i64_in _ (by omega)
  show Calls _ _ _ _ (RetI (0 + m2) w)
  rw [Nat.zero_add]
  clear hp hy hcl
  go_enter Tryz.func45, Tryz.ntmps45
  go_upto_region 1 with fail
  have hyy := Vs.new w [.int .u8 1, .int .u8 f, .int .i64 0, .int .i64 0, .int .i64 0, .int .i64 0] #[.int .u8 1, .int .u8 f, .int .i64 0, .int .i64 0, .int .i64 0, .int .i64 0] 30 rfl
  have hb00 : Below w.heap.size w (w.alloc (.cells #[.int .u8 1, .int .u8 f, .int .i64 0, .int .i64 0, .int .i64 0, .int .i64 0] 30)) := by repeat (first | exact bA | with_reducible assumption | apply bB)
  have hszn : w.heap.size + 1 ≤ (w.alloc (.cells #[.int .u8 1, .int .u8 f, .int .i64 0, .int .i64 0, .int .i64 0, .int .i64 0] 30)).heap.size := by simp only [World.size_alloc]; omega
  generalize (w.alloc (.cells #[.int .u8 1, .int .u8 f, .int .i64 0, .int .i64 0, .int .i64 0, .int .i64 0] 30)) = w1 at hyy hb00 hszn ⊢
  obtain ⟨⟨yy0, yy1, yy2, yy3, yy4, yy5⟩, ⟨yy6, yy7, yy8, yy9, yy10, yy11⟩, yy12⟩ := hyy.get6
  go_upto_region 2 with (go_at_call 27; refine (HGAD.out _).mono ?_; rintro e w3 ⟨kd, sl, nn, rfl, hR3, hb3, hSL3⟩; obtain ⟨A2, a2, c2, rfl⟩ := RepG.sl hR3)
  clear yy0 yy1 yy2 yy3 yy4 yy5 yy6 yy7 yy8 yy9 yy10 yy11 yy12
  replace hb00 := bl_call hb00 (Nat.le_refl _) hb3
  replace hyy := hyy.call hb3
  clear hb3 hSL3
  have hgg := Vs.new w3 [.int .u8 kd, .slice A2 a2 c2, .int .i64 nn] #[.int .u8 kd, .slice A2 a2 c2, .int .i64 nn] 54 rfl
  have hbA : Below w3.heap.size w3 (w3.alloc (.cells #[.int .u8 kd, .slice A2 a2 c2, .int .i64 nn] 54)) := (Below.refl _ _).alloc (Nat.le_refl _) _
  replace hb00 := bl_call hb00 (Nat.le_refl _) hbA
  replace hyy := hyy.call hbA
  have hR4 := hR3.later hbA
  generalize w3.alloc (.cells #[.int .u8 kd, .slice A2 a2 c2, .int .i64 nn] 54) = w4 at *
  clear hbA hR3
  obtain ⟨gg0, gg1, gg2, gg3, gg4, gg5, gg6⟩ := hgg.get3
  obtain ⟨⟨yy0, yy1, yy2, yy3, yy4, yy5⟩, ⟨yy6, yy7, yy8, yy9, yy10, yy11⟩, yy12⟩ := hyy.get6
  go_upto_region 10 with fail
  refine region_B (n := 8) (m := 9) (f := 8) (by kernel_rfl) (by kernel_rfl) rfl ?_
  refine WpH.vD 0 (some 19) ?_ rfl rfl (by kernel_rfl) (fun _ _ _ h => h) rfl (fun wz hwz => ?_) ?_
  rotate_left
  ·go_simp; try (with_reducible rfl)
  simp only [Zp, Zq, Zr, Zs]
  refine WpH.vD 1 (some 20) ?_ rfl rfl (by kernel_rfl) (fun _ _ _ h => h) rfl (fun wz hwz => ?_) ?_
  rotate_left
  ·(obtain ⟨hcz, hfz⟩ := bcell hwz; go_simp; try (with_reducible rfl))
  simp only [Zp, Zq, Zr, Zs]
  refine WpH.takeD 2 (some 21) rfl rfl (by kernel_rfl) (fun _ _ _ h => h) (.call rfl (fun wz hwz => HDEG.out wz kd A2 a2 c2 nn (hR4.later hwz)) (fun wz hwz => ?_)) ?_
  ·go_simp; try (with_reducible rfl)
  simp only [Zp, Zq, Zr, Zs]
  refine WpH.vD 3 (some 22) ?_ rfl rfl (by kernel_rfl) (fun _ _ _ h => h) rfl (fun wz hwz => ?_) ?_
  rotate_left
  ·(obtain ⟨hcz, hfz⟩ := bcell hwz; go_simp; try (with_reducible rfl))
  simp only [Zp, Zq, Zr, Zs]
  refine WpH.takeD 4 (some 23) rfl rfl (by kernel_rfl) (fun _ _ _ h => h) (.call rfl (fun wz hwz => HDOM.out wz) (fun wz hwz => ?_)) ?_
  ·go_simp; try (with_reducible rfl)
  simp only [Zp, Zq, Zr, Zs]
  refine WpH.vD 5 (some 24) ?_ rfl rfl (by kernel_rfl) (fun _ _ _ h => h) rfl (fun wz hwz => ?_) ?_
  rotate_left
  ·go_simp; try (with_reducible rfl)
  simp only [Zp, Zq, Zr, Zs]
  refine WpH.vD 6 (some 25) ?_ rfl rfl (by kernel_rfl) (fun _ _ _ h => h) rfl (fun wz hwz => ?_) ?_
  rotate_left
  ·go_simp; try (with_reducible rfl)
  simp only [Zp, Zq, Zr, Zs]
  refine WpH.vD 7 (some 26) ?_ rfl rfl (by kernel_rfl) (fun _ _ _ h => h) rfl (fun wz hwz => ?_) ?_
  rotate_left
  ·go_simp; try (with_reducible rfl)
  simp only [Zp, Zq, Zr, Zs]
  refine WpH.doneB (by kernel_rfl) (fun w6 hw6 => ?_)
  (try simp only [List.drop_succ_cons]); (try simp only [List.drop_zero]); (try simp only [Nat.reduceSub]); (try simp only [List.take_succ_cons]); (try simp only [List.take_zero])
  go_wp2_with fail
  go_ret
  exact ⟨by first | rfl | simp, bl_call hb00 (Nat.le_refl _) hw6⟩
 | sum b =>
  rw [val_sum] at *
  obtain ⟨r, hr⟩ : ∃ r, b + m2 = r := ⟨_, rfl⟩
  have hpb : b ≤ 100 := hp
  have hw3 : IntKind.i64.wrap ((b : Int) + (m2 : Int)) = (r : Int) := by rw [IntWalk.i64_in _ (by omega)]; omega
  show Calls _ _ _ _ (RetI (b + m2) w)
  rw [hr]
  clear hp hy hcl hr hpb
  go_enter Tryz.func45, Tryz.ntmps45
  go_upto_region 1 with fail
  have hyy := Vs.new w [.int .u8 2, .int .u8 f, .int .i64 b, .int .i64 0, .int .i64 0, .int .i64 0] #[.int .u8 2, .int .u8 f, .int .i64 b, .int .i64 0, .int .i64 0, .int .i64 0] 30 rfl
  have hb00 : Below w.heap.size w (w.alloc (.cells #[.int .u8 2, .int .u8 f, .int .i64 b, .int .i64 0, .int .i64 0, .int .i64 0] 30)) := by repeat (first | exact bA | with_reducible assumption | apply bB)
  have hszn : w.heap.size + 1 ≤ (w.alloc (.cells #[.int .u8 2, .int .u8 f, .int .i64 b, .int .i64 0, .int .i64 0, .int .i64 0] 30)).heap.size := by simp only [World.size_alloc]; omega
  generalize (w.alloc (.cells #[.int .u8 2, .int .u8 f, .int .i64 b, .int .i64 0, .int .i64 0, .int .i64 0] 30)) = w1 at hyy hb00 hszn ⊢
  obtain ⟨⟨yy0, yy1, yy2, yy3, yy4, yy5⟩, ⟨yy6, yy7, yy8, yy9, yy10, yy11⟩, yy12⟩ := hyy.get6
  go_upto_region 2 with (go_at_call 27; refine (HGAD.out _).mono ?_; rintro e w3 ⟨kd, sl, nn, rfl, hR3, hb3, hSL3⟩; obtain ⟨A2, a2, c2, rfl⟩ := RepG.sl hR3)
  clear yy0 yy1 yy2 yy3 yy4 yy5 yy6 yy7 yy8 yy9 yy10 yy11 yy12
  replace hb00 := bl_call hb00 (Nat.le_refl _) hb3
  replace hyy := hyy.call hb3
  clear hb3 hSL3
  have hgg := Vs.new w3 [.int .u8 kd, .slice A2 a2 c2, .int .i64 nn] #[.int .u8 kd, .slice A2 a2 c2, .int .i64 nn] 54 rfl
  have hbA : Below w3.heap.size w3 (w3.alloc (.cells #[.int .u8 kd, .slice A2 a2 c2, .int .i64 nn] 54)) := (Below.refl _ _).alloc (Nat.le_refl _) _
  replace hb00 := bl_call hb00 (Nat.le_refl _) hbA
  replace hyy := hyy.call hbA
  have hR4 := hR3.later hbA
  generalize w3.alloc (.cells #[.int .u8 kd, .slice A2 a2 c2, .int .i64 nn] 54) = w4 at *
  clear hbA hR3
  obtain ⟨gg0, gg1, gg2, gg3, gg4, gg5, gg6⟩ := hgg.get3
  obtain ⟨⟨yy0, yy1, yy2, yy3, yy4, yy5⟩, ⟨yy6, yy7, yy8, yy9, yy10, yy11⟩, yy12⟩ := hyy.get6
  go_upto_region 10 with fail
  refine region_B (n := 8) (m := 9) (f := 8) (by kernel_rfl) (by kernel_rfl) rfl ?_
  refine WpH.vD 0 (some 19) ?_ rfl rfl (by kernel_rfl) (fun _ _ _ h => h) rfl (fun wz hwz => ?_) ?_
  rotate_left
  ·go_simp; try (with_reducible rfl)
  simp only [Zp, Zq, Zr, Zs]
  refine WpH.vD 1 (some 20) ?_ rfl rfl (by kernel_rfl) (fun _ _ _ h => h) rfl (fun wz hwz => ?_) ?_
  rotate_left
  ·(obtain ⟨hcz, hfz⟩ := bcell hwz; go_simp; try (with_reducible rfl))
  simp only [Zp, Zq, Zr, Zs]
  refine WpH.takeD 2 (some 21) rfl rfl (by kernel_rfl) (fun _ _ _ h => h) (.call rfl (fun wz hwz => HDEG.out wz kd A2 a2 c2 nn (hR4.later hwz)) (fun wz hwz => ?_)) ?_
  ·go_simp; try (with_reducible rfl)
  simp only [Zp, Zq, Zr, Zs]
  refine WpH.vD 3 (some 22) ?_ rfl rfl (by kernel_rfl) (fun _ _ _ h => h) rfl (fun wz hwz => ?_) ?_
  rotate_left
  ·(obtain ⟨hcz, hfz⟩ := bcell hwz; go_simp; try (with_reducible rfl))
  simp only [Zp, Zq, Zr, Zs]
  refine WpH.takeD 4 (some 23) rfl rfl (by kernel_rfl) (fun _ _ _ h => h) (.call rfl (fun wz hwz => HDOM.out wz) (fun wz hwz => ?_)) ?_
  ·go_simp; try (with_reducible rfl)
  simp only [Zp, Zq, Zr, Zs]
  refine WpH.vD 5 (some 24) ?_ rfl rfl (by kernel_rfl) (fun _ _ _ h => h) rfl (fun wz hwz => ?_) ?_
  rotate_left
  ·go_simp; try (with_reducible rfl)
  simp only [Zp, Zq, Zr, Zs]
  refine WpH.vD 6 (some 25) ?_ rfl rfl (by kernel_rfl) (fun _ _ _ h => h) rfl (fun wz hwz => ?_) ?_
  rotate_left
  ·go_simp; try (with_reducible rfl)
  simp only [Zp, Zq, Zr, Zs]
  refine WpH.vD 7 (some 26) ?_ rfl rfl (by kernel_rfl) (fun _ _ _ h => h) rfl (fun wz hwz => ?_) ?_
  rotate_left
  ·go_simp; try (with_reducible rfl)
  simp only [Zp, Zq, Zr, Zs]
  refine WpH.doneB (by kernel_rfl) (fun w6 hw6 => ?_)
  (try simp only [List.drop_succ_cons]); (try simp only [List.drop_zero]); (try simp only [Nat.reduceSub]); (try simp only [List.take_succ_cons]); (try simp only [List.take_zero])
  go_wp2_with fail
  go_ret
  exact ⟨by first | rfl | simp, bl_call hb00 (Nat.le_refl _) hw6⟩
 | vec bb l c =>
  rw [val_vec] at *
  obtain ⟨r, hr⟩ : ∃ r, c + m2 = r := ⟨_, rfl⟩
  have hpb : c ≤ 100 := hp
  have hw3 : IntKind.i64.wrap ((c : Int) + (m2 : Int)) = (r : Int) := by rw [IntWalk.i64_in _ (by omega)]; omega
  show Calls _ _ _ _ (RetI (c + m2) w)
  rw [hr]
  clear hp hy hcl hr hpb
  go_enter Tryz.func45, Tryz.ntmps45
  go_upto_region 1 with fail
  have hyy := Vs.new w [.int .u8 3, .int .u8 f, .int .i64 bb, .int .i64 l, .int .i64 0, .int .i64 c] #[.int .u8 3, .int .u8 f, .int .i64 bb, .int .i64 l, .int .i64 0, .int .i64 c] 30 rfl
  have hb00 : Below w.heap.size w (w.alloc (.cells #[.int .u8 3, .int .u8 f, .int .i64 bb, .int .i64 l, .int .i64 0, .int .i64 c] 30)) := by repeat (first | exact bA | with_reducible assumption | apply bB)
  have hszn : w.heap.size + 1 ≤ (w.alloc (.cells #[.int .u8 3, .int .u8 f, .int .i64 bb, .int .i64 l, .int .i64 0, .int .i64 c] 30)).heap.size := by simp only [World.size_alloc]; omega
  generalize (w.alloc (.cells #[.int .u8 3, .int .u8 f, .int .i64 bb, .int .i64 l, .int .i64 0, .int .i64 c] 30)) = w1 at hyy hb00 hszn ⊢
  obtain ⟨⟨yy0, yy1, yy2, yy3, yy4, yy5⟩, ⟨yy6, yy7, yy8, yy9, yy10, yy11⟩, yy12⟩ := hyy.get6
  go_upto_region 2 with (go_at_call 27; refine (HGAD.out _).mono ?_; rintro e w3 ⟨kd, sl, nn, rfl, hR3, hb3, hSL3⟩; obtain ⟨A2, a2, c2, rfl⟩ := RepG.sl hR3)
  clear yy0 yy1 yy2 yy3 yy4 yy5 yy6 yy7 yy8 yy9 yy10 yy11 yy12
  replace hb00 := bl_call hb00 (Nat.le_refl _) hb3
  replace hyy := hyy.call hb3
  clear hb3 hSL3
  have hgg := Vs.new w3 [.int .u8 kd, .slice A2 a2 c2, .int .i64 nn] #[.int .u8 kd, .slice A2 a2 c2, .int .i64 nn] 54 rfl
  have hbA : Below w3.heap.size w3 (w3.alloc (.cells #[.int .u8 kd, .slice A2 a2 c2, .int .i64 nn] 54)) := (Below.refl _ _).alloc (Nat.le_refl _) _
  replace hb00 := bl_call hb00 (Nat.le_refl _) hbA
  replace hyy := hyy.call hbA
  have hR4 := hR3.later hbA
  generalize w3.alloc (.cells #[.int .u8 kd, .slice A2 a2 c2, .int .i64 nn] 54) = w4 at *
  clear hbA hR3
  obtain ⟨gg0, gg1, gg2, gg3, gg4, gg5, gg6⟩ := hgg.get3
  obtain ⟨⟨yy0, yy1, yy2, yy3, yy4, yy5⟩, ⟨yy6, yy7, yy8, yy9, yy10, yy11⟩, yy12⟩ := hyy.get6
  go_upto_region 10 with fail
  refine region_B (n := 8) (m := 9) (f := 8) (by kernel_rfl) (by kernel_rfl) rfl ?_
  refine WpH.vD 0 (some 19) ?_ rfl rfl (by kernel_rfl) (fun _ _ _ h => h) rfl (fun wz hwz => ?_) ?_
  rotate_left
  ·go_simp; try (with_reducible rfl)
  simp only [Zp, Zq, Zr, Zs]
  refine WpH.vD 1 (some 20) ?_ rfl rfl (by kernel_rfl) (fun _ _ _ h => h) rfl (fun wz hwz => ?_) ?_
  rotate_left
  ·(obtain ⟨hcz, hfz⟩ := bcell hwz; go_simp; try (with_reducible rfl))
  simp only [Zp, Zq, Zr, Zs]
  refine WpH.takeD 2 (some 21) rfl rfl (by kernel_rfl) (fun _ _ _ h => h) (.call rfl (fun wz hwz => HDEG.out wz kd A2 a2 c2 nn (hR4.later hwz)) (fun wz hwz => ?_)) ?_
  ·go_simp; try (with_reducible rfl)
  simp only [Zp, Zq, Zr, Zs]
  refine WpH.vD 3 (some 22) ?_ rfl rfl (by kernel_rfl) (fun _ _ _ h => h) rfl (fun wz hwz => ?_) ?_
  rotate_left
  ·(obtain ⟨hcz, hfz⟩ := bcell hwz; go_simp; try (with_reducible rfl))
  simp only [Zp, Zq, Zr, Zs]
  refine WpH.takeD 4 (some 23) rfl rfl (by kernel_rfl) (fun _ _ _ h => h) (.call rfl (fun wz hwz => HDOM.out wz) (fun wz hwz => ?_)) ?_
  ·go_simp; try (with_reducible rfl)
  simp only [Zp, Zq, Zr, Zs]
  refine WpH.vD 5 (some 24) ?_ rfl rfl (by kernel_rfl) (fun _ _ _ h => h) rfl (fun wz hwz => ?_) ?_
  rotate_left
  ·go_simp; try (with_reducible rfl)
  simp only [Zp, Zq, Zr, Zs]
  refine WpH.vD 6 (some 25) ?_ rfl rfl (by kernel_rfl) (fun _ _ _ h => h) rfl (fun wz hwz => ?_) ?_
  rotate_left
  ·go_simp; try (with_reducible rfl)
  simp only [Zp, Zq, Zr, Zs]
  refine WpH.vD 7 (some 26) ?_ rfl rfl (by kernel_rfl) (fun _ _ _ h => h) rfl (fun wz hwz => ?_) ?_
  rotate_left
  ·go_simp; try (with_reducible rfl)
  simp only [Zp, Zq, Zr, Zs]
  refine WpH.doneB (by kernel_rfl) (fun w6 hw6 => ?_)
  (try simp only [List.drop_succ_cons]); (try simp only [List.drop_zero]); (try simp only [Nat.reduceSub]); (try simp only [List.take_succ_cons]); (try simp only [List.take_zero])
  go_wp2_with fail
  go_ret
  exact ⟨by first | rfl | simp, bl_call hb00 (Nat.le_refl _) hw6⟩
 | hist l c =>
  rw [val_hist] at *
  obtain ⟨r, hr⟩ : ∃ r, c + m2 = r := ⟨_, rfl⟩
  have hpb : c ≤ 100 := hp
  have hw3 : IntKind.i64.wrap ((c : Int) + (m2 : Int)) = (r : Int) := by rw [IntWalk.i64_in _ (by omega)]; omega
  show Calls _ _ _ _ (RetI (c + m2) w)
  rw [hr]
  clear hp hy hcl hr hpb
  go_enter Tryz.func45, Tryz.ntmps45
  go_upto_region 1 with fail
  have hyy := Vs.new w [.int .u8 4, .int .u8 f, .int .i64 0, .int .i64 l, .int .i64 0, .int .i64 c] #[.int .u8 4, .int .u8 f, .int .i64 0, .int .i64 l, .int .i64 0, .int .i64 c] 30 rfl
  have hb00 : Below w.heap.size w (w.alloc (.cells #[.int .u8 4, .int .u8 f, .int .i64 0, .int .i64 l, .int .i64 0, .int .i64 c] 30)) := by repeat (first | exact bA | with_reducible assumption | apply bB)
  have hszn : w.heap.size + 1 ≤ (w.alloc (.cells #[.int .u8 4, .int .u8 f, .int .i64 0, .int .i64 l, .int .i64 0, .int .i64 c] 30)).heap.size := by simp only [World.size_alloc]; omega
  generalize (w.alloc (.cells #[.int .u8 4, .int .u8 f, .int .i64 0, .int .i64 l, .int .i64 0, .int .i64 c] 30)) = w1 at hyy hb00 hszn ⊢
  obtain ⟨⟨yy0, yy1, yy2, yy3, yy4, yy5⟩, ⟨yy6, yy7, yy8, yy9, yy10, yy11⟩, yy12⟩ := hyy.get6
  go_upto_region 2 with (go_at_call 27; refine (HGAD.out _).mono ?_; rintro e w3 ⟨kd, sl, nn, rfl, hR3, hb3, hSL3⟩; obtain ⟨A2, a2, c2, rfl⟩ := RepG.sl hR3)
  clear yy0 yy1 yy2 yy3 yy4 yy5 yy6 yy7 yy8 yy9 yy10 yy11 yy12
  replace hb00 := bl_call hb00 (Nat.le_refl _) hb3
  replace hyy := hyy.call hb3
  clear hb3 hSL3
  have hgg := Vs.new w3 [.int .u8 kd, .slice A2 a2 c2, .int .i64 nn] #[.int .u8 kd, .slice A2 a2 c2, .int .i64 nn] 54 rfl
  have hbA : Below w3.heap.size w3 (w3.alloc (.cells #[.int .u8 kd, .slice A2 a2 c2, .int .i64 nn] 54)) := (Below.refl _ _).alloc (Nat.le_refl _) _
  replace hb00 := bl_call hb00 (Nat.le_refl _) hbA
  replace hyy := hyy.call hbA
  have hR4 := hR3.later hbA
  generalize w3.alloc (.cells #[.int .u8 kd, .slice A2 a2 c2, .int .i64 nn] 54) = w4 at *
  clear hbA hR3
  obtain ⟨gg0, gg1, gg2, gg3, gg4, gg5, gg6⟩ := hgg.get3
  obtain ⟨⟨yy0, yy1, yy2, yy3, yy4, yy5⟩, ⟨yy6, yy7, yy8, yy9, yy10, yy11⟩, yy12⟩ := hyy.get6
  go_upto_region 10 with fail
  refine region_B (n := 8) (m := 9) (f := 8) (by kernel_rfl) (by kernel_rfl) rfl ?_
  refine WpH.vD 0 (some 19) ?_ rfl rfl (by kernel_rfl) (fun _ _ _ h => h) rfl (fun wz hwz => ?_) ?_
  rotate_left
  ·go_simp; try (with_reducible rfl)
  simp only [Zp, Zq, Zr, Zs]
  refine WpH.vD 1 (some 20) ?_ rfl rfl (by kernel_rfl) (fun _ _ _ h => h) rfl (fun wz hwz => ?_) ?_
  rotate_left
  ·(obtain ⟨hcz, hfz⟩ := bcell hwz; go_simp; try (with_reducible rfl))
  simp only [Zp, Zq, Zr, Zs]
  refine WpH.takeD 2 (some 21) rfl rfl (by kernel_rfl) (fun _ _ _ h => h) (.call rfl (fun wz hwz => HDEG.out wz kd A2 a2 c2 nn (hR4.later hwz)) (fun wz hwz => ?_)) ?_
  ·go_simp; try (with_reducible rfl)
  simp only [Zp, Zq, Zr, Zs]
  refine WpH.vD 3 (some 22) ?_ rfl rfl (by kernel_rfl) (fun _ _ _ h => h) rfl (fun wz hwz => ?_) ?_
  rotate_left
  ·(obtain ⟨hcz, hfz⟩ := bcell hwz; go_simp; try (with_reducible rfl))
  simp only [Zp, Zq, Zr, Zs]
  refine WpH.takeD 4 (some 23) rfl rfl (by kernel_rfl) (fun _ _ _ h => h) (.call rfl (fun wz hwz => HDOM.out wz) (fun wz hwz => ?_)) ?_
  ·go_simp; try (with_reducible rfl)
  simp only [Zp, Zq, Zr, Zs]
  refine WpH.vD 5 (some 24) ?_ rfl rfl (by kernel_rfl) (fun _ _ _ h => h) rfl (fun wz hwz => ?_) ?_
  rotate_left
  ·go_simp; try (with_reducible rfl)
  simp only [Zp, Zq, Zr, Zs]
  refine WpH.vD 6 (some 25) ?_ rfl rfl (by kernel_rfl) (fun _ _ _ h => h) rfl (fun wz hwz => ?_) ?_
  rotate_left
  ·go_simp; try (with_reducible rfl)
  simp only [Zp, Zq, Zr, Zs]
  refine WpH.vD 7 (some 26) ?_ rfl rfl (by kernel_rfl) (fun _ _ _ h => h) rfl (fun wz hwz => ?_) ?_
  rotate_left
  ·go_simp; try (with_reducible rfl)
  simp only [Zp, Zq, Zr, Zs]
  refine WpH.doneB (by kernel_rfl) (fun w6 hw6 => ?_)
  (try simp only [List.drop_succ_cons]); (try simp only [List.drop_zero]); (try simp only [Nat.reduceSub]); (try simp only [List.take_succ_cons]); (try simp only [List.take_zero])
  go_wp2_with fail
  go_ret
  exact ⟨by first | rfl | simp, bl_call hb00 (Nat.le_refl _) hw6⟩
 | multi l m c =>
  rw [val_multi] at *
  obtain ⟨r, hr⟩ : ∃ r, c + m2 = r := ⟨_, rfl⟩
  have hpb : c ≤ 100 := hp
  have hw3 : IntKind.i64.wrap ((c : Int) + (m2 : Int)) = (r : Int) := by rw [IntWalk.i64_in _ (by omega)]; omega
  show Calls _ _ _ _ (RetI (c + m2) w)
  rw [hr]
  clear hp hy hcl hr hpb
  go_enter Tryz.func45, Tryz.ntmps45
  go_upto_region 1 with fail
  have hyy := Vs.new w [.int .u8 5, .int .u8 f, .int .i64 0, .int .i64 l, .int .i64 m, .int .i64 c] #[.int .u8 5, .int .u8 f, .int .i64 0, .int .i64 l, .int .i64 m, .int .i64 c] 30 rfl
  have hb00 : Below w.heap.size w (w.alloc (.cells #[.int .u8 5, .int .u8 f, .int .i64 0, .int .i64 l, .int .i64 m, .int .i64 c] 30)) := by repeat (first | exact bA | with_reducible assumption | apply bB)
  have hszn : w.heap.size + 1 ≤ (w.alloc (.cells #[.int .u8 5, .int .u8 f, .int .i64 0, .int .i64 l, .int .i64 m, .int .i64 c] 30)).heap.size := by simp only [World.size_alloc]; omega
  generalize (w.alloc (.cells #[.int .u8 5, .int .u8 f, .int .i64 0, .int .i64 l, .int .i64 m, .int .i64 c] 30)) = w1 at hyy hb00 hszn ⊢
  obtain ⟨⟨yy0, yy1, yy2, yy3, yy4, yy5⟩, ⟨yy6, yy7, yy8, yy9, yy10, yy11⟩, yy12⟩ := hyy.get6
  go_upto_region 2 with (go_at_call 27; refine (HGAD.out _).mono ?_; rintro e w3 ⟨kd, sl, nn, rfl, hR3, hb3, hSL3⟩; obtain ⟨A2, a2, c2, rfl⟩ := RepG.sl hR3)
  clear yy0 yy1 yy2 yy3 yy4 yy5 yy6 yy7 yy8 yy9 yy10 yy11 yy12
  replace hb00 := bl_call hb00 (Nat.le_refl _) hb3
  replace hyy := hyy.call hb3
  clear hb3 hSL3
  have hgg := Vs.new w3 [.int .u8 kd, .slice A2 a2 c2, .int .i64 nn] #[.int .u8 kd, .slice A2 a2 c2, .int .i64 nn] 54 rfl
  have hbA : Below w3.heap.size w3 (w3.alloc (.cells #[.int .u8 kd, .slice A2 a2 c2, .int .i64 nn] 54)) := (Below.refl _ _).alloc (Nat.le_refl _) _
  replace hb00 := bl_call hb00 (Nat.le_refl _) hbA
  replace hyy := hyy.call hbA
  have hR4 := hR3.later hbA
  generalize w3.alloc (.cells #[.int .u8 kd, .slice A2 a2 c2, .int .i64 nn] 54) = w4 at *
  clear hbA hR3
  obtain ⟨gg0, gg1, gg2, gg3, gg4, gg5, gg6⟩ := hgg.get3
  obtain ⟨⟨yy0, yy1, yy2, yy3, yy4, yy5⟩, ⟨yy6, yy7, yy8, yy9, yy10, yy11⟩, yy12⟩ := hyy.get6
  go_upto_region 10 with fail
  refine region_B (n := 8) (m := 9) (f := 8) (by kernel_rfl) (by kernel_rfl) rfl ?_
  refine WpH.vD 0 (some 19) ?_ rfl rfl (by kernel_rfl) (fun _ _ _ h => h) rfl (fun wz hwz => ?_) ?_
  rotate_left
  ·go_simp; try (with_reducible rfl)
  simp only [Zp, Zq, Zr, Zs]
  refine WpH.vD 1 (some 20) ?_ rfl rfl (by kernel_rfl) (fun _ _ _ h => h) rfl (fun wz hwz => ?_) ?_
  rotate_left
  ·(obtain ⟨hcz, hfz⟩ := bcell hwz; go_simp; try (with_reducible rfl))
  simp only [Zp, Zq, Zr, Zs]
  refine WpH.takeD 2 (some 21) rfl rfl (by kernel_rfl) (fun _ _ _ h => h) (.call rfl (fun wz hwz => HDEG.out wz kd A2 a2 c2 nn (hR4.later hwz)) (fun wz hwz => ?_)) ?_
  ·go_simp; try (with_reducible rfl)
  simp only [Zp, Zq, Zr, Zs]
  refine WpH.vD 3 (some 22) ?_ rfl rfl (by kernel_rfl) (fun _ _ _ h => h) rfl (fun wz hwz => ?_) ?_
  rotate_left
  ·(obtain ⟨hcz, hfz⟩ := bcell hwz; go_simp; try (with_reducible rfl))
  simp only [Zp, Zq, Zr, Zs]
  refine WpH.takeD 4 (some 23) rfl rfl (by kernel_rfl) (fun _ _ _ h => h) (.call rfl (fun wz hwz => HDOM.out wz) (fun wz hwz => ?_)) ?_
  ·go_simp; try (with_reducible rfl)
  simp only [Zp, Zq, Zr, Zs]
  refine WpH.vD 5 (some 24) ?_ rfl rfl (by kernel_rfl) (fun _ _ _ h => h) rfl (fun wz hwz => ?_) ?_
  rotate_left
  ·go_simp; try (with_reducible rfl)
  simp only [Zp, Zq, Zr, Zs]
  refine WpH.vD 6 (some 25) ?_ rfl rfl (by kernel_rfl) (fun _ _ _ h => h) rfl (fun wz hwz => ?_) ?_
  rotate_left
  ·go_simp; try (with_reducible rfl)
  simp only [Zp, Zq, Zr, Zs]
  refine WpH.vD 7 (some 26) ?_ rfl rfl (by kernel_rfl) (fun _ _ _ h => h) rfl (fun wz hwz => ?_) ?_
  rotate_left
  ·go_simp; try (with_reducible rfl)
  simp only [Zp, Zq, Zr, Zs]
  refine WpH.doneB (by kernel_rfl) (fun w6 hw6 => ?_)
  (try simp only [List.drop_succ_cons]); (try simp only [List.drop_zero]); (try simp only [Nat.reduceSub]); (try simp only [List.take_succ_cons]); (try simp only [List.take_zero])
  go_wp2_with fail
  go_ret
  exact ⟨by first | rfl | simp, bl_call hb00 (Nat.le_refl _) hw6⟩
end

end Go.Proofs.YtfbfbijkkbflkaaGreatDoor

namespace Go.Proofs.YtfbfbijkkbflkaaGreatDoor
open Go.RowKit Fm
set_option linter.unusedVariables false
set_option maxRecDepth 100000

structure CapD {f : Nat} (E : Nat → Prop) (wE : World) (gb yb : Nat) (kd : Int) (sl : Value) (nn : Int) (cs : List Value) (gd : Gad f) : Prop where
 g : Vs wE gb [.int .u8 kd, sl, .int .i64 nn]
 y : Vs wE yb cs
 r : RepG wE wE.heap.size kd sl nn gd
 eg : E gb
 ey : E yb
 es : ∀ (p : Addr) (a c : Nat), sl = .slice (some p) a c → E p.block
 lt : ∀ q, E q → q < wE.heap.size
theorem CapD.at {f : Nat} {E : Nat → Prop} {wE w : World} {gb yb : Nat} {kd : Int} {sl : Value} {nn : Int} {cs : List Value} {gd : Gad f} (h : CapD E wE gb yb kd sl nn cs gd) (ha : Agr E wE w) :
  Vs w gb [.int .u8 kd, sl, .int .i64 nn] ∧ Vs w yb cs ∧ RepG w w.heap.size kd sl nn gd :=
 ⟨h.g.sameW (ha _ h.eg), h.y.sameW (ha _ h.ey), h.r.same fun p a c hs => ⟨ha _ (h.es p a c hs), ha.lt (h.es p a c hs) (h.lt _ (h.es p a c hs))⟩⟩
def InvD (E : Nat → Prop) (wE : World) (k : Nat) (D : Nat → Prop) (w : World) : Prop := D = E ∧ Agr E wE w
theorem InvD.st {E : Nat → Prop} {wE w : World} (k : Nat) (h : Agr E wE w) (hl : ∀ q, E q → q < wE.heap.size) : St (InvD E wE k) E w :=
 ⟨⟨rfl, h⟩, fun q hq => h.lt hq (hl q hq), fun w w' ⟨_, h⟩ hb => ⟨rfl, fun q hq => (hb q hq).trans (h q hq)⟩⟩

section
variable {f : Nat} (hf : IsF f)
include hf

set_option maxHeartbeats 4000000 in
theorem direct_closure (E : Nat → Prop) (wE : World) (gb yb : Nat) (kd : Int) (sl : Value) (nn K B N M C : Int) (gd : Gad f) (hC : CapD E wE gb yb kd sl nn [.int .u8 K, .int .u8 f, .int .i64 B, .int .i64 N, .int .i64 M, .int .i64 C] gd)
  (l : KL f) (hla : l.length = gd.arity) (w : World) (va : Value) (hAg : Agr E wE w) (hl : SlK w w.heap.size va l) :
  Calls Tryz.prog 59 #[va, .pointer (some ⟨gb, 0, none⟩), .pointer (some ⟨yb, 0, none⟩)] w fun e w' => e = .returned (.tuple #[vK (gval gd l), .int .i64 0]) ∧ Below w.heap.size w w' := by
 obtain ⟨hga, hya, h3⟩ := hC.at hAg
 have HOF : Hid (∀ wz, Below w.heap.size w wz → Calls Tryz.prog 37 #[.agg #[.int .u8 kd, sl, .int .i64 nn], .int .u8 f, va] wz (RetK0 (gval gd l) wz)) := fun wz hb => (gadget_Of hf wz gd kd sl nn (h3.later hb) va l (hl.later hb) hla).mono fun e w' h => h
 obtain ⟨z, hz⟩ : ∃ z, gval gd l = z := ⟨_, rfl⟩
 rw [hz] at HOF ⊢
 obtain ⟨A, c, rfl, _, _, _⟩ := id hl
 obtain ⟨A2, a2, c2, rfl⟩ := RepG.sl h3
 clear hz hla hl hAg hC h3
 go_enter Tryz.func59, Tryz.ntmps59
 go_upto_region 1 with fail
 have s0 := V2.new w (.int .u64 0) (.int .u64 0) 36
 have hb00 : Below w.heap.size w (w.alloc (.cells #[(.int .u64 0), (.int .u64 0)] 36)) := by repeat (first | exact bA | with_reducible assumption | apply bB)
 have hsz : w.heap.size + 1 ≤ (w.alloc (.cells #[(.int .u64 0), (.int .u64 0)] 36)).heap.size := by simp only [World.size_alloc]; omega
 generalize (w.alloc (.cells #[(.int .u64 0), (.int .u64 0)] 36)) = w1 at s0 hb00 hsz ⊢
 replace hga := hga.call hb00
 replace hya := hya.call hb00
 obtain ⟨ga0, ga1, ga2, ga3, ga4, ga5, ga6⟩ := hga.get3
 obtain ⟨⟨ya0, ya1, ya2, ya3, ya4, ya5⟩, ⟨ya6, ya7, ya8, ya9, ya10, ya11⟩, ya12⟩ := hya.get6
 go_wp2_with (go_at_call 37; refine (HOF.out _ hb00).mono ?_; rintro e w3 ⟨rfl, hb3⟩; have HB3 := Lib.hid hb3; obtain ⟨t0, t1, t2, t3, t4⟩ := s0.call hb3; clear hb3)
 refine bodyPost_ret (results_v2_tmp (b := w.heap.size) (u := .int .u64 (lo z)) (v := .int .u64 (hi z)) ?_ rfl rfl) rfl ?_
 ·exact V2.set ⟨t0, t1, t2, t3, t4⟩ _ _
 ·exact ⟨rfl, bl_st (bl_call hb00 (Nat.le_refl _) HB3.out) (Nat.le_refl _) _ _⟩
theorem asked_direct (y : CK) (v j : KL f) (E : Nat → Prop) (wE : World) (gb yb : Nat) (kd : Int) (sl : Value) (nn : Int)
  (hC : CapD E wE gb yb kd sl nn [.int .u8 (y.k : Nat), .int .u8 f, .int .i64 (y.b : Nat), .int .i64 (y.l : Nat), .int .i64 (y.m : Nat), .int .i64 (y.c : Nat)] (y.gad f)) :
  Asked y v j 1 59 #[.pointer (some ⟨gb, 0, none⟩), .pointer (some ⟨yb, 0, none⟩)] (InvD E wE) (fun k => gval (y.gad f) (argOf y v j 1 k)) 0 := by
 refine ⟨fun args w => by kernel_rfl, fun k D w va hk hst hv => ?_⟩
 obtain ⟨rfl, hA⟩ := hst.here
 refine (direct_closure hf D wE gb yb kd sl nn _ _ _ _ _ (y.gad f) hC (argOf y v j 1 k) (argOf_lenP y v j 1 k) w va hA hv.toK).mono ?_
 rintro e w' ⟨rfl, hb⟩
 exact ⟨rfl, _, InvD.st (k + 1) (hA.exc (S := fun _ => False) (exc_of hb) (fun q _ h => h) hC.lt) hC.lt, fun q hq => .inl hq, exc_of hb⟩

set_option maxHeartbeats 4000000 in
theorem proof_Direct (y : CK) (hy : y.ok) (hcl : y.calls ≤ 511) (v j : KL f) (hl : v.length = y.nin) (hjl : j.length = y.joint) (vl vj : Value) (w : World) (hv : SlK w w.heap.size vl v) (hj : SlK w w.heap.size vj j) :
  Calls Tryz.prog 18 #[y.val f, vl, vj] w (RetK0 (dirF y v j) w) := by
 have HGAD : Hid (∀ wz, Calls Tryz.prog 27 #[y.val f] wz (RetG2 (y.gad f) wz)) := fun wz => circuit_Gadget2 hf y hy wz
 have HRUN : Hid (∀ (wz : World) (E : Nat → Prop) (gb yb : Nat) (kd : Int) (sl : Value) (nn : Int),
   CapD E wz gb yb kd sl nn [.int .u8 (y.k : Nat), .int .u8 f, .int .i64 (y.b : Nat), .int .i64 (y.l : Nat), .int .i64 (y.m : Nat), .int .i64 (y.c : Nat)] (y.gad f) → SlX E wz vl v → SlX E wz vj j →
   Calls Tryz.prog 32 #[y.val f, vl, vj, .int .i64 1, .func (.func 59) #[] #[.pointer (some ⟨gb, 0, none⟩), .pointer (some ⟨yb, 0, none⟩)]] wz fun e w' =>
    e = .returned (.tuple #[vK (dirF y v j), .int .i64 0]) ∧ Exc E wz.heap.size wz w') := fun wz E gb yb kd sl nn hC h1 h2 => by
  have h := circuit_RunOk hf y hy hcl 1 1 (.inl rfl) (by rw [nK_one, kinv_one]) v j _ _ E _ _ 0 (asked_direct hf y v j E wz gb yb kd sl nn hC) hl hjl vl vj wz h1 h2 (InvD.st 0 (fun q _ => rfl) hC.lt)
  refine h.mono ?_
  rintro e w' ⟨⟨_, rfl, D', hst, hD⟩ | ⟨h0, _⟩, hE⟩
  ·refine ⟨?_, hE⟩
   rw [runF_dir y hy v j hl]
  ·exact absurd rfl h0
 have HV := Lib.hid hv
 have HJ := Lib.hid hj
 obtain ⟨dir, hdir⟩ : ∃ d, dirF y v j = d := ⟨_, rfl⟩
 rw [hdir] at HRUN ⊢
 unfold CK.val at HGAD HRUN ⊢
 generalize y.gad f = gd at *
 generalize ((y.k : Nat) : Int) = K at *
 generalize ((y.b : Nat) : Int) = B at *
 generalize ((y.l : Nat) : Int) = NN at *
 generalize ((y.m : Nat) : Int) = M at *
 generalize ((y.c : Nat) : Int) = C at *
 clear hy hcl hl hjl hv hj hdir
 have hmf : ∀ (fn : Fn) (first cap : Array Value) (w : World), (Instr.makeFunc fn first cap).run Tryz.prog w = .ok (.func fn first cap) w := fun _ _ _ _ => rfl
 go_enter Tryz.func18, Tryz.ntmps18
 go_upto_region 1 with fail
 have hyy := (Vs.new w [.int .u8 K, .int .u8 f, .int .i64 B, .int .i64 NN, .int .i64 M, .int .i64 C] #[.int .u8 K, .int .u8 f, .int .i64 B, .int .i64 NN, .int .i64 M, .int .i64 C] 30 rfl).alloc (.cells #[.int .u64 0, .int .u64 0] 36)
 have s0 := V2.new (w.alloc (.cells #[.int .u8 K, .int .u8 f, .int .i64 B, .int .i64 NN, .int .i64 M, .int .i64 C] 30)) (.int .u64 0) (.int .u64 0) 36
 simp only [World.size_alloc] at s0
 have hb00 : Below w.heap.size w ((w.alloc (.cells #[.int .u8 K, .int .u8 f, .int .i64 B, .int .i64 NN, .int .i64 M, .int .i64 C] 30)).alloc (.cells #[.int .u64 0, .int .u64 0] 36)) := by repeat (first | exact bA | with_reducible assumption | apply bB)
 have hszn : w.heap.size + 2 ≤ ((w.alloc (.cells #[.int .u8 K, .int .u8 f, .int .i64 B, .int .i64 NN, .int .i64 M, .int .i64 C] 30)).alloc (.cells #[.int .u64 0, .int .u64 0] 36)).heap.size := by simp only [World.size_alloc]; omega
 generalize ((w.alloc (.cells #[.int .u8 K, .int .u8 f, .int .i64 B, .int .i64 NN, .int .i64 M, .int .i64 C] 30)).alloc (.cells #[.int .u64 0, .int .u64 0] 36)) = w1 at hyy s0 hb00 hszn ⊢
 obtain ⟨⟨yy0, yy1, yy2, yy3, yy4, yy5⟩, ⟨yy6, yy7, yy8, yy9, yy10, yy11⟩, yy12⟩ := hyy.get6
 go_upto_region 2 with (go_at_call 27; refine (HGAD.out _).mono ?_; rintro e w3 ⟨kd, sl, nn, rfl, hR3, hb3, hSL3⟩; obtain ⟨A2, a2, c2, rfl⟩ := RepG.sl hR3)
 clear yy0 yy1 yy2 yy3 yy4 yy5 yy6 yy7 yy8 yy9 yy10 yy11 yy12
 have h13 := hb3.size
 have hltp := hR3.ltB
 replace hb00 := bl_call hb00 (Nat.le_refl _) hb3
 replace hyy := hyy.call hb3
 replace s0 := s0.call hb3
 clear hb3
 have hgg := Vs.new w3 [.int .u8 kd, .slice A2 a2 c2, .int .i64 nn] #[.int .u8 kd, .slice A2 a2 c2, .int .i64 nn] 54 rfl
 have hbA : Below w3.heap.size w3 (w3.alloc (.cells #[.int .u8 kd, .slice A2 a2 c2, .int .i64 nn] 54)) := (Below.refl _ _).alloc (Nat.le_refl _) _
 replace hb00 := bl_call hb00 (Nat.le_refl _) hbA
 replace hyy := hyy.call hbA
 replace s0 := s0.call hbA
 have hR4 := hR3.later hbA
 have hsz4 : (w3.alloc (.cells #[.int .u8 kd, .slice A2 a2 c2, .int .i64 nn] 54)).heap.size = w3.heap.size + 1 := World.size_alloc _ _
 obtain ⟨gb, hgb⟩ : ∃ z, w3.heap.size = z := ⟨_, rfl⟩
 generalize w3.alloc (.cells #[.int .u8 kd, .slice A2 a2 c2, .int .i64 nn] 54) = w4 at *
 clear hbA hR3
 rw [hgb] at hgg hsz4 hltp h13
 simp only [hgb]
 clear hgb
 obtain ⟨E, hEd⟩ : ∃ E : Nat → Prop, E = fun q => q = gb ∨ q = w.heap.size ∨ (w1.heap.size ≤ q ∧ q < gb) := ⟨_, rfl⟩
 have hCap : CapD E w4 gb w.heap.size kd (.slice A2 a2 c2) nn [.int .u8 K, .int .u8 f, .int .i64 B, .int .i64 NN, .int .i64 M, .int .i64 C] gd := by
  rw [hEd]
  exact ⟨hgg, hyy, hR4, .inl rfl, .inr (.inl rfl), fun p a c h => .inr (.inr ⟨hSL3 p a c h, hltp p a c h⟩), fun q hq => by rcases hq with hq | hq | hq <;> omega⟩
 have hElo : ∀ q, E q → w.heap.size ≤ q ∧ q ≠ w.heap.size + 1 := fun q hq => by
  rw [hEd] at hq
  rcases hq with hq | hq | hq <;> omega
 have HR := Lib.hid (HRUN.out w4 E gb w.heap.size kd (.slice A2 a2 c2) nn hCap ((HV.out.below hb00).out hb00.size fun q hq => (hElo q hq).1) ((HJ.out.below hb00).out hb00.size fun q hq => (hElo q hq).1))
 have HEL := Lib.hid hElo
 have HB := Lib.hid hb00
 have HS := Lib.hid s0
 have hgl := hgg.lt
 have hyl := hyy.lt
 clear hElo hCap hEd hR4 hSL3 hltp HRUN HGAD s0 hb00
 obtain ⟨⟨yy0, yy1, yy2, yy3, yy4, yy5⟩, ⟨yy6, yy7, yy8, yy9, yy10, yy11⟩, yy12⟩ := hyy.get6
 go_wp2_with (go_at_call 32; refine HR.out.mono ?_; rintro e w5 ⟨rfl, hE⟩; have HE := Lib.hid hE; obtain ⟨t0, t1, t2, t3, t4⟩ := HS.out.exc (fun h => (HEL.out _ h).2 rfl) hE; clear hE)
 refine bodyPost_ret (results_v2_tmp (b := w.heap.size + 1) (u := .int .u64 (lo dir)) (v := .int .u64 (hi dir)) ?_ rfl rfl) rfl ?_
 ·exact V2.set ⟨t0, t1, t2, t3, t4⟩ _ _
 ·exact ⟨rfl, bl_st (HB.out.trans ((HE.out.mono HB.out.size).below fun k hk hD => by have := (HEL.out k hD).1; omega)) (by omega) _ _⟩
end

end Go.Proofs.YtfbfbijkkbflkaaGreatDoor

namespace Go.Proofs.YtfbfbijkkbflkaaGreatDoor
open Go.RowKit Fm
set_option linter.unusedVariables false
set_option maxRecDepth 100000

section
variable {f : Nat}
def CK.rst : CK → Bool
 | .hist _ _ => true
 | .multi _ _ _ => true
 | _ => false
def restF (y : CK) (v : KL f) : Fin (Pm f) :=
 match y with
 | .hist l c => ksum (v.take l) - 1
 | .multi l m c => ksum (v.take l) + nK f (offN m) - knum (v.drop l)
 | _ => 0
def jntF (y : CK) (r : Fin (Pm f)) : KL f := if y.rst then [r, kpw r (y.c + 1)] else [r]
def cfF (y : CK) (v : KL f) (i : Nat) : Fin (Pm f) := (if i < y.nin then v.getD i 0 * (v.getD i 0 - 1) else 0) + (if y.rst = true ∧ i = y.c then restF y v else 0)
def jpoly (y : CK) (v : KL f) : KL f := 0 :: ofF (y.pows + 1) (cfF y v)
theorem jpoly_length (y : CK) (v : KL f) : (jpoly y v).length = y.pows + 2 := by
 unfold jpoly
 rw [List.length_cons, ofF_length]
def CK.one (y : CK) : Prop := match y with
 | .count => False
 | .sum _ => True
 | y => y.calls ≤ 1
theorem one_le {y : CK} (hy : y.ok) (h : y.one) : y.nin ≤ y.pows := by
 have hc : ∀ n c : Nat, 1 ≤ c → (n + c - 1) / c ≤ 1 → n ≤ c := fun n c hc h => by
  have h1 := ceil_spec (n := n) hc
  have h2 : (n + c - 1) / c * c ≤ 1 * c := Nat.mul_le_mul_right c h
  omega
 cases y with
 | count => exact h.elim
 | sum b => exact Nat.le_refl _
 | vec b l c => exact hc _ c hy.2.2.1 h
 | hist l c => exact hc _ c hy.2.1 h
 | multi l m c => exact hc _ c hy.2.2.1 h
theorem acc_sm (g : Nat → Fin (Pm f)) : ∀ n, acc g n = sm g n
 | 0 => rfl
 | n + 1 => by
  show acc g n + g n = sm g n + g n
  rw [acc_sm g n]
theorem dirG_one (v j : KL f) (s i : Nat) (hi : i < s) (r : Fin (Pm f)) (hj : j.getD 0 0 = r) : dirG v j s i = kpw r (i + 1) * (v.getD i 0 * (v.getD i 0 - 1)) := by
 unfold dirG
 rw [Nat.div_eq_of_lt hi, Nat.mod_eq_of_lt hi, hj]
theorem jpoly_ev (y : CK) (v : KL f) (r : Fin (Pm f)) : ev r (jpoly y v) = sm (fun i => cfF y v i * Fm.kpow r (i + 1)) (y.pows + 1) := by
 unfold jpoly
 rw [ev_cons, ofF_ev, ← sm_mulr]
 have h : ∀ a : Fin (Pm f), a + 0 = a := fun a => by grind
 rw [h]
 exact sm_congr fun i _ => by rw [Fm.kpow_succ]; grind
theorem bits_part (y : CK) (v j : KL f) (r : Fin (Pm f)) (s n : Nat) (hn : n = y.nin) (hs : n ≤ s) (hp : n ≤ y.pows) (hj : j.getD 0 0 = r) : acc (dirG v j s) n = sm (fun i => (if i < y.nin then v.getD i 0 * (v.getD i 0 - 1) else 0) * Fm.kpow r (i + 1)) (y.pows + 1) := by
 rw [acc_sm]
 have h1 := sm_more (g := fun i => (if i < y.nin then v.getD i 0 * (v.getD i 0 - 1) else 0) * Fm.kpow r (i + 1)) (m := n) (n := y.pows + 1) (by omega) (fun i h1 h2 => by
  show (if i < y.nin then _ else _) * _ = _
  rw [if_neg (by omega)]
  grind)
 rw [h1]
 refine sm_congr fun i hi => ?_
 rw [dirG_one v j s i (by omega) r hj, if_pos (by omega), kpw_fm]
 grind
theorem jdir (y : CK) (hy : y.ok) (h1 : y.one) (v : KL f) (r : Fin (Pm f)) : dirF y v (jntF y r) = ev r (jpoly y v) := by
 have hle := one_le hy h1
 rw [jpoly_ev]
 have hsum : sm (fun i => cfF y v i * Fm.kpow r (i + 1)) (y.pows + 1) = sm (fun i => (if i < y.nin then v.getD i 0 * (v.getD i 0 - 1) else 0) * Fm.kpow r (i + 1)) (y.pows + 1) + sm (fun i => (if y.rst = true ∧ i = y.c then restF y v else 0) * Fm.kpow r (i + 1)) (y.pows + 1) := by
  rw [← sm_add]
  exact sm_congr fun i _ => by unfold cfF; grind
 have h0 : y.rst = false → sm (fun i => (if y.rst = true ∧ i = y.c then restF y v else 0) * Fm.kpow r (i + 1)) (y.pows + 1) = 0 := fun h => sm_none fun i _ => by
  rw [if_neg (by rw [h]; simp)]
  grind
 have h2 : y.rst = true → y.c = y.pows → sm (fun i => (if y.rst = true ∧ i = y.c then restF y v else 0) * Fm.kpow r (i + 1)) (y.pows + 1) = restF y v * Fm.kpow r (y.c + 1) := fun h hc => by
  rw [sm_one (k := y.c) (by omega) (fun i _ hne => by rw [if_neg (by simp [hne])]; grind), if_pos ⟨h, rfl⟩]
 rw [hsum]
 cases y with
 | count => exact h1.elim
 | sum b =>
  rw [h0 rfl, ← bits_part (.sum b) v [r] r b b rfl (Nat.le_refl _) hle rfl]
  show acc (dirG v [r] b) b = _
  grind
 | vec b l c =>
  rw [h0 rfl, ← bits_part (.vec b l c) v [r] r c (l * b) rfl hle hle rfl]
  show acc (dirG v [r] c) (l * b) = _
  grind
 | hist l c =>
  rw [h2 rfl rfl, ← bits_part (.hist l c) v [r, kpw r (c + 1)] r c l rfl hle hle rfl, ← kpw_fm]
  show acc (dirG v [r, kpw r (c + 1)] c) l + kpw r (c + 1) * (ksum (v.take l) - 1) = _ + (ksum (v.take l) - 1) * kpw r (c + 1)
  grind
 | multi l m c =>
  rw [h2 rfl rfl, ← bits_part (.multi l m c) v [r, kpw r (c + 1)] r c (l + Lib.bitLen m) rfl hle hle rfl, ← kpw_fm]
  show acc (dirG v [r, kpw r (c + 1)] c) (l + Lib.bitLen m) + kpw r (c + 1) * (ksum (v.take l) + nK f (offN m) - knum (v.drop l)) = _ + (ksum (v.take l) + nK f (offN m) - knum (v.drop l)) * kpw r (c + 1)
  grind
theorem jok (y : CK) (hy : y.ok) (h1 : y.one) (v : KL f) (hl : v.length = y.nin) (hz : ∀ i, (jpoly y v).getD i 0 = 0) : okVec y v := by
 have hle := one_le hy h1
 have hcf : ∀ i, i < y.pows + 1 → cfF y v i = 0 := fun i hi => by
  have h := hz (i + 1)
  have h2 : (jpoly y v).getD (i + 1) 0 = (ofF (y.pows + 1) (cfF y v)).getD i 0 := rfl
  rw [h2, ofF_getD, if_pos hi] at h
  exact h
 have hcc : y.rst = true → y.c = y.pows := fun h => by cases y <;> first | rfl | cases h
 refine ⟨fun x hx => ?_, ?_⟩
 ·obtain ⟨i, hi, rfl⟩ := List.mem_iff_getElem.1 hx
  have h := hcf i (by omega)
  unfold cfF at h
  rw [if_pos (by omega), if_neg (by
   rintro ⟨hr, rfl⟩
   have := hcc hr
   omega), Fm.getD_in hi] at h
  by_cases h0 : v[i] = 0
  ·exact .inl h0
  ·right
   exact k_cancel h0 (by grind)
 ·cases y with
  | count => exact h1.elim
  | sum b => trivial
  | vec b l c => trivial
  | hist l c =>
   have h := hcf c (by show c < c + 1; omega)
   have hn : (CK.hist l c).nin ≤ c := hle
   unfold cfF at h
   rw [if_neg (by omega), if_pos ⟨rfl, rfl⟩] at h
   have h2 : (0 : Fin (Pm f)) + (ksum (v.take l) - 1) = 0 := h
   have h3 : v.take l = v := List.take_of_length_le (by rw [hl]; exact Nat.le_refl _)
   rw [h3] at h2
   show ksum v = 1
   grind
  | multi l m c =>
   have h := hcf c (by show c < c + 1; omega)
   have hn : (CK.multi l m c).nin ≤ c := hle
   unfold cfF at h
   rw [if_neg (by omega), if_pos ⟨rfl, rfl⟩] at h
   have h2 : (0 : Fin (Pm f)) + (ksum (v.take l) + nK f (offN m) - knum (v.drop l)) = 0 := h
   show ksum (v.take l) + nK f (offN m) = knum (v.drop l)
   grind
theorem joint_count (hf : IsF f) (y : CK) (hy : y.ok) (h1 : y.one) (v : KL f) (hl : v.length = y.nin) (hv : ¬ okVec y v) (m n : Nat) (hm : m < 1000) (hn : n ≤ 1000) (hit : Nat → Bool) (hh : ∀ i, i < n → hit i = true → dirF y v (jntF y (nK f (m + i + 1))) = 0) : ((List.range n).filter hit).length ≤ y.pows + 1 := by
 rcases Nat.lt_or_ge (y.pows + 1) ((List.range n).filter hit).length with h | h
 ·exfalso
  apply hv
  refine jok y hy h1 v hl (zero_poly (y.pows + 2) (jpoly y v) (Nat.le_of_eq (jpoly_length y v)) (((List.range n).filter hit).map fun i => nK f (m + i + 1)) ?_ (by rw [List.length_map]; omega) (fun x hx => ?_))
  ·unfold List.Nodup
   rw [List.pairwise_map]
   have h2 : ((List.range n).filter hit).Pairwise (· ≠ ·) := List.Pairwise.filter _ List.nodup_range
   refine List.Pairwise.imp_of_mem (fun {i j} hi hj hij he => ?_) h2
   rw [List.mem_filter, List.mem_range] at hi hj
   have := nK_small hf (a := m + i + 1) (b := m + j + 1) (by omega) (by omega) he
   exact hij (by omega)
  ·obtain ⟨i, hi, rfl⟩ := List.mem_map.1 hx
   rw [List.mem_filter, List.mem_range] at hi
   rw [← jdir y hy h1 v]
   exact hh i hi.1 hi.2
 ·exact h
end

end Go.Proofs.YtfbfbijkkbflkaaGreatDoor

namespace Go.Proofs.YtfbfbijkkbflkaaGreatDoor
open Go.RowKit Fm
set_option linter.unusedVariables false
set_option maxRecDepth 100000

/-! ### two gadgets come up -/
def GgK {f : Nat} (w0 : World) (gd : Gad f) (o1 o2 : Option (Int × Value × Int)) (wz : World) : Prop := Below w0.heap.size w0 wz ∧ (∀ q, o1 = some q → RepG wz wz.heap.size q.1 q.2.1 q.2.2 gd) ∧ ∀ q, o2 = some q → RepG wz wz.heap.size q.1 q.2.1 q.2.2 gd
theorem GgK.clo {f : Nat} {w0 : World} {gd : Gad f} {o1 o2 : Option (Int × Value × Int)} : Clo (GgK w0 gd o1 o2) := fun _ _ h hb => ⟨bl_call h.1 (Nat.le_refl _) hb, fun q e => (h.2.1 q e).later hb, fun q e => (h.2.2 q e).later hb⟩
theorem GgK.start {f : Nat} (w0 : World) (gd : Gad f) : GgK w0 gd none none w0.drew := ⟨(Below.refl _ _).drew, fun _ e => (by cases e), fun _ e => (by cases e)⟩
theorem GgK.mk1 {f : Nat} {w0 w w' : World} {gd : Gad f} {o2 : Option (Int × Value × Int)} (h : GgK w0 gd none o2 w) (q : Int × Value × Int) (hq : RepG w' w'.heap.size q.1 q.2.1 q.2.2 gd) (hb : Below w.heap.size w w') : GgK w0 gd (some q) o2 w' :=
 ⟨bl_call h.1 (Nat.le_refl _) hb, fun q' e => by injection e with e; subst e; exact hq, fun q e => (h.2.2 q e).later hb⟩
theorem GgK.mk2 {f : Nat} {w0 w w' : World} {gd : Gad f} {o1 : Option (Int × Value × Int)} (h : GgK w0 gd o1 none w) (q : Int × Value × Int) (hq : RepG w' w'.heap.size q.1 q.2.1 q.2.2 gd) (hb : Below w.heap.size w w') : GgK w0 gd o1 (some q) w' :=
 ⟨bl_call h.1 (Nat.le_refl _) hb, fun q e => (h.2.1 q e).later hb, fun q' e => by injection e with e; subst e; exact hq⟩

section
variable {f : Nat} (hf : IsF f)
include hf
set_option maxHeartbeats 4000000 in
theorem proof_Gadget (y : CK) (hy : y.ok) (w : World) : Calls Tryz.prog 58 #[y.val f] w fun e w' => ∃ q : Int × Value × Int, e = .returned (.agg #[.int .u8 q.1, q.2.1, .int .i64 q.2.2]) ∧ RepG w' w'.heap.size q.1 q.2.1 q.2.2 (y.gad f) ∧ Below w.heap.size w w' := by
 have HGAD : Hid (∀ wz, Calls Tryz.prog 27 #[y.val f] wz (RetG2 (y.gad f) wz)) := fun wz => circuit_Gadget2 hf y hy wz
 unfold CK.val at HGAD ⊢
 generalize y.gad f = gd at *
 generalize ((y.k : Nat) : Int) = K at *
 generalize ((y.b : Nat) : Int) = B at *
 generalize ((y.l : Nat) : Int) = NN at *
 generalize ((y.m : Nat) : Int) = M at *
 generalize ((y.c : Nat) : Int) = C at *
 clear hy
 go_enter Tryz.func58, Tryz.ntmps58
 go_upto_region 1 with fail
 have hyy := (Vs.new w [.int .u8 K, .int .u8 f, .int .i64 B, .int .i64 NN, .int .i64 M, .int .i64 C] #[.int .u8 K, .int .u8 f, .int .i64 B, .int .i64 NN, .int .i64 M, .int .i64 C] 30 rfl).alloc (.cells #[.int .u8 0, .slice none 0 0, .int .i64 0] 54)
 have hr := Vs.new (w.alloc (.cells #[.int .u8 K, .int .u8 f, .int .i64 B, .int .i64 NN, .int .i64 M, .int .i64 C] 30)) [.int .u8 0, .slice none 0 0, .int .i64 0] #[.int .u8 0, .slice none 0 0, .int .i64 0] 54 rfl
 simp only [World.size_alloc] at hr
 have hb00 : Below w.heap.size w ((w.alloc (.cells #[.int .u8 K, .int .u8 f, .int .i64 B, .int .i64 NN, .int .i64 M, .int .i64 C] 30)).alloc (.cells #[.int .u8 0, .slice none 0 0, .int .i64 0] 54)) := by repeat (first | exact bA | with_reducible assumption | apply bB)
 have hszn : w.heap.size + 2 ≤ ((w.alloc (.cells #[.int .u8 K, .int .u8 f, .int .i64 B, .int .i64 NN, .int .i64 M, .int .i64 C] 30)).alloc (.cells #[.int .u8 0, .slice none 0 0, .int .i64 0] 54)).heap.size := by simp only [World.size_alloc]; omega
 generalize ((w.alloc (.cells #[.int .u8 K, .int .u8 f, .int .i64 B, .int .i64 NN, .int .i64 M, .int .i64 C] 30)).alloc (.cells #[.int .u8 0, .slice none 0 0, .int .i64 0] 54)) = w1 at hyy hr hb00 hszn ⊢
 have hrl := hr.lt
 obtain ⟨⟨yy0, yy1, yy2, yy3, yy4, yy5⟩, ⟨yy6, yy7, yy8, yy9, yy10, yy11⟩, yy12⟩ := hyy.get6
 obtain ⟨r0, r1, r2, r3, r4, r5, r6⟩ := hr.get3
 go_wp2_with (go_at_call 27; refine (HGAD.out _).mono ?_; rintro e w3 ⟨kd, sl, nn, rfl, hR3, hb3, hSL3⟩; obtain ⟨A2, a2, c2, rfl⟩ := RepG.sl hR3; replace hr := hr.call hb3; replace hb00 := bl_call hb00 (Nat.le_refl _) hb3; have HR3 := Lib.hid hR3; have HS3 := Lib.hid hSL3; clear hb3 hR3 hSL3 yy0 yy1 yy2 yy3 yy4 yy5 yy6 yy7 yy8 yy9 yy10 yy11 yy12 r0 r1 r2 r3 r4 r5 r6; obtain ⟨r0, r1, r2, r3, r4, r5, r6⟩ := hr.get3)
 have hS := Vs.set3 hr (.int .u8 kd) (.slice A2 a2 c2) (.int .i64 nn)
 refine bodyPost_ret (results_gadget (b := w.heap.size + 1) hS rfl rfl) rfl ?_
 refine ⟨(kd, .slice A2 a2 c2, nn), rfl, ?_, bl_st3 (b := w.heap.size + 1) hb00 (by omega) _ _ _⟩
 refine HR3.out.same fun p a c h => ?_
 have h1 := HS3.out p a c h
 have h2 := HR3.out.ltB p a c h
 have hne : p.block ≠ w.heap.size + 1 := by omega
 exact ⟨(Below.heap_setCell _ _ _ _ hne).trans ((Below.heap_setCell _ _ _ _ hne).trans (Below.heap_setCell _ _ _ _ hne)), by simpa [World.setCell] using h2⟩

set_option maxHeartbeats 8000000 in
theorem law11_bounds (y : CK) (hy : y.ok) (hcl : y.calls ≤ 511) (w : World) : Calls Tryz.prog 17 #[y.val f] w fun e w' => e = .returned (.bool true) ∧ Below w.heap.size w w' := by
 obtain ⟨N, hN⟩ : ∃ N, nextP (y.calls + 1) = N := ⟨_, rfl⟩
 have HBND : Hid (∀ wz, Calls Tryz.prog 45 #[y.val f] wz (RetI (y.pows + 2 * (N - 1)) wz)) := fun wz => proof_Bound hf y hy hcl N hN wz
 have hk := y.k_le
 have hff : f = 1 ∨ f = 2 := hf.or
 have HREF : Hid (∀ wz, Calls Tryz.prog 40 #[y.val f] wz fun e w' => e = .returned (y.rval f) ∧ Below wz.heap.size wz w') := fun wz => law10_Ref _ _ _ _ _ _ (by omega) (by omega) (by omega) (by omega) wz
 have HDOM : Hid (∀ wz, Calls Tryz.prog 57 #[y.rval f] wz (RetI N wz)) := fun wz => by
  have h := ref9_Domain f y hy hcl wz
  rwa [hN] at h
 have HPG : Hid (∀ wz, Calls Tryz.prog 58 #[y.val f] wz fun e w' => ∃ q : Int × Value × Int, e = .returned (.agg #[.int .u8 q.1, q.2.1, .int .i64 q.2.2]) ∧ RepG w' w'.heap.size q.1 q.2.1 q.2.2 (y.gad f) ∧ Below wz.heap.size wz w') := fun wz => proof_Gadget hf y hy wz
 have HGD : Hid (∀ wz, Calls Tryz.prog 27 #[y.val f] wz fun e w' => ∃ q : Int × Value × Int, e = .returned (.agg #[.int .u8 q.1, q.2.1, .int .i64 q.2.2]) ∧ RepG w' w'.heap.size q.1 q.2.1 q.2.2 (y.gad f) ∧ Below wz.heap.size wz w') := fun wz => (circuit_Gadget2 hf y hy wz).mono fun e w' ⟨k, sl, n, he, hr, hb, _⟩ => ⟨(k, sl, n), he, hr, hb⟩
 have hga := gad_arity f y
 have HARI : Hid (∀ wz (B : Nat) (k : Int) (sl : Value) (n : Int), RepG wz B k sl n (y.gad f) → Calls Tryz.prog 28 #[.agg #[.int .u8 k, sl, .int .i64 n]] wz fun e w' => e = .returned (.int .i64 (y.arity : Nat)) ∧ Below wz.heap.size wz w') := fun wz B k sl n h => by
  have h2 := gadget_Arity wz B (y.gad f) k sl n h
  rwa [hga] at h2
 have hN2 := nextP_le (y.calls + 1)
 rw [hN] at hN2
 have hp := CK.pows_le hy
 obtain ⟨m1, hm1⟩ : ∃ m, N - 1 = m := ⟨_, rfl⟩
 obtain ⟨m2, hm2⟩ : ∃ m, 2 * m1 = m := ⟨_, rfl⟩
 rw [hm1, hm2] at HBND
 have hw1 : IntKind.i64.wrap ((N : Int) - 1) = (m1 : Int) := by rw [IntWalk.i64_in _ (by omega)]; omega
 have hw2 : IntKind.i64.wrap (2 * (m1 : Int)) = (m2 : Int) := by rw [IntWalk.i64_in _ (by omega)]; omega
 have hm2l : m2 ≤ 4000 := by omega
 clear hm1 hm2 hN2 hN hk hff hga
 cases y with
 | count =>
  rw [val_count] at *
  rw [rval_count] at *
  have hw3 : IntKind.i64.wrap ((m2 : Int)) = (m2 : Int) := IntWalk.i64_in _ (by omega)
  have hq : (CK.count.pows + m2) = m2 := Nat.zero_add m2
  rw [hq] at HBND
  clear hp hy hcl hq
  generalize CK.count.gad f = gd at *
  generalize CK.count.arity = ar at *
  go_enter Tryz.func17, Tryz.ntmps17
  go_upto_region 1 with fail
  have hyy := Vs.new w [.int .u8 1, .int .u8 f, .int .i64 0, .int .i64 0, .int .i64 0, .int .i64 0] #[.int .u8 1, .int .u8 f, .int .i64 0, .int .i64 0, .int .i64 0, .int .i64 0] 30 rfl
  have hb00 : Below w.heap.size w (w.alloc (.cells #[.int .u8 1, .int .u8 f, .int .i64 0, .int .i64 0, .int .i64 0, .int .i64 0] 30)) := by repeat (first | exact bA | with_reducible assumption | apply bB)
  have hszn : w.heap.size + 1 ≤ (w.alloc (.cells #[.int .u8 1, .int .u8 f, .int .i64 0, .int .i64 0, .int .i64 0, .int .i64 0] 30)).heap.size := by simp only [World.size_alloc]; omega
  generalize (w.alloc (.cells #[.int .u8 1, .int .u8 f, .int .i64 0, .int .i64 0, .int .i64 0, .int .i64 0] 30)) = w1 at hyy hb00 hszn ⊢
  obtain ⟨⟨yy0, yy1, yy2, yy3, yy4, yy5⟩, ⟨yy6, yy7, yy8, yy9, yy10, yy11⟩, yy12⟩ := hyy.get6
  go_upto_region 9 with fail
  have HYY := Lib.hid hyy
  apply region_Z2 (n := 19) (m := 20) (f := 19) (fun x0 x1 => (GgK w1 gd) (some x0) (some x1) ) ((GgK w1 gd) none none) ((GgK w1 gd) none none) ((fun _ h => h)) (GgK.clo) ((GgK.start w1 gd))
  case hm => kernel_rfl
  case hB => kernel_rfl
  case hf => rfl
  case' h =>
   refine WpX.vD 0 (some 16) ?_ rfl rfl (by kernel_rfl) (fun _ _ _ h => h) rfl (fun wz hwz => ?_) ?_
   rotate_left
   ·(have hz := (HYY.out.call hwz.1).get6; obtain ⟨⟨z0, z1, z2, z3, z4, z5⟩, ⟨y0, y1, y2, y3, y4, y5⟩, y6⟩ := hz; go_simp; try (with_reducible rfl))
   simp only [Zp, Zq, Zr, Zs]
   refine WpX.takeD 1 (some 17) rfl rfl (by kernel_rfl) (fun _ _ _ h => h) (.call rfl (fun wz hwz => HBND.out wz) (fun wz hwz => ?_)) ?_
   ·go_simp; try (with_reducible rfl)
   simp only [Zp, Zq, Zr, Zs]
   refine WpX.vD 2 (some 18) ?_ rfl rfl (by kernel_rfl) (fun _ _ _ h => h) rfl (fun wz hwz => ?_) ?_
   rotate_left
   ·go_simp; try (with_reducible rfl)
   simp only [Zp, Zq, Zr, Zs]
   refine WpX.vD 3 (some 19) ?_ rfl rfl (by kernel_rfl) (fun _ _ _ h => h) rfl (fun wz hwz => ?_) ?_
   rotate_left
   ·(have hz := (HYY.out.call hwz.1).get6; obtain ⟨⟨z0, z1, z2, z3, z4, z5⟩, ⟨y0, y1, y2, y3, y4, y5⟩, y6⟩ := hz; go_simp; try (with_reducible rfl))
   simp only [Zp, Zq, Zr, Zs]
   refine WpX.takeD 4 (some 20) rfl rfl (by kernel_rfl) (fun _ _ _ h => h) (.call rfl (fun wz hwz => HREF.out wz) (fun wz hwz => ?_)) ?_
   ·go_simp; try (with_reducible rfl)
   simp only [Zp, Zq, Zr, Zs]
   refine WpX.takeD 5 (some 21) rfl rfl (by kernel_rfl) (fun _ _ _ h => h) (.call rfl (fun wz hwz => HDOM.out wz) (fun wz hwz => ?_)) ?_
   ·go_simp; try (with_reducible rfl)
   simp only [Zp, Zq, Zr, Zs]
   refine WpX.vD 6 (some 22) ?_ rfl rfl (by kernel_rfl) (fun _ _ _ h => h) rfl (fun wz hwz => ?_) ?_
   rotate_left
   ·go_simp; try (with_reducible rfl)
   simp only [Zp, Zq, Zr, Zs]
   refine WpX.vD 7 (some 23) ?_ rfl rfl (by kernel_rfl) (fun _ _ _ h => h) rfl (fun wz hwz => ?_) ?_
   rotate_left
   ·go_simp; try (with_reducible rfl)
   simp only [Zp, Zq, Zr, Zs]
   refine WpX.vD 8 (some 24) ?_ rfl rfl (by kernel_rfl) (fun _ _ _ h => h) rfl (fun wz hwz => ?_) ?_
   rotate_left
   ·go_simp; try (with_reducible rfl)
   simp only [Zp, Zq, Zr, Zs]
   refine WpX.vD 9 (some 25) ?_ rfl rfl (by kernel_rfl) (fun _ _ _ h => h) rfl (fun wz hwz => ?_) ?_
   rotate_left
   ·go_simp; try (with_reducible rfl)
   simp only [Zp, Zq, Zr, Zs]
   refine WpX.vD 10 (some 26) ?_ rfl rfl (by kernel_rfl) (fun _ _ _ h => h) rfl (fun wz hwz => ?_) ?_
   rotate_left
   ·go_simp; try (with_reducible rfl)
   simp only [Zp, Zq, Zr, Zs]
   refine WpX.vD 11 (some 27) ?_ rfl rfl (by kernel_rfl) (fun _ _ _ h => h) rfl (fun wz hwz => ?_) ?_
   rotate_left
   ·(have hz := (HYY.out.call hwz.1).get6; obtain ⟨⟨z0, z1, z2, z3, z4, z5⟩, ⟨y0, y1, y2, y3, y4, y5⟩, y6⟩ := hz; go_simp; try (with_reducible rfl))
   simp only [Zp, Zq, Zr, Zs]
   refine WpX.vD 14 (some 30) ?_ rfl rfl (by kernel_rfl) (fun _ _ _ h => h) rfl (fun wz hwz => ?_) ?_
   rotate_left
   ·(have hz := (HYY.out.call hwz.1).get6; obtain ⟨⟨z0, z1, z2, z3, z4, z5⟩, ⟨y0, y1, y2, y3, y4, y5⟩, y6⟩ := hz; go_simp; try (with_reducible rfl))
   simp only [Zp, Zq, Zr, Zs]
   refine WpX.oneD 12 (some 28) rfl rfl (by kernel_rfl) (fun q : Int × Value × Int => Value.agg #[.int .u8 q.1, q.2.1, .int .i64 q.2.2]) (fun qa => (GgK w1 gd) (some qa) none) (fun qa => (GgK w1 gd) (some qa) none) (Turns.call rfl (fun _ _ h => ⟨h.1, fun _ e => (by cases e), h.2.2⟩) (fun _ => (fun _ h => h)) (fun _ => GgK.clo) (fun wz hS => (HPG.out wz).mono fun e w' ⟨q, he, hr, hb⟩ => ⟨q, he, hS.mk1 q hr hb⟩) (fun wz hS => by go_simp; try (with_reducible rfl))) (fun qa => ?_)
   simp only [Zp, Zq, Zr, Zs]
   refine WpX.takeD 13 (some 29) rfl rfl (by kernel_rfl) (fun _ _ _ h => h) (.call rfl (fun wz hwz => HARI.out wz _ qa.1 qa.2.1 qa.2.2 (hwz.2.1 qa rfl)) (fun wz hwz => ?_)) ?_
   ·go_simp; try (with_reducible rfl)
   simp only [Zp, Zq, Zr, Zs]
   refine WpX.oneD 15 (some 31) rfl rfl (by kernel_rfl) (fun q : Int × Value × Int => Value.agg #[.int .u8 q.1, q.2.1, .int .i64 q.2.2]) (fun qb => (GgK w1 gd) (some qa) (some qb)) (fun qb => (GgK w1 gd) (some qa) (some qb)) (Turns.call rfl (fun _ _ h => ⟨h.1, h.2.1, fun _ e => (by cases e)⟩) (fun _ => (fun _ h => h)) (fun _ => GgK.clo) (fun wz hS => (HGD.out wz).mono fun e w' ⟨q, he, hr, hb⟩ => ⟨q, he, hS.mk2 q hr hb⟩) (fun wz hS => by go_simp; try (with_reducible rfl))) (fun qb => ?_)
   simp only [Zp, Zq, Zr, Zs]
   refine WpX.takeD 16 (some 32) rfl rfl (by kernel_rfl) (fun _ _ _ h => h) (.call rfl (fun wz hwz => HARI.out wz _ qb.1 qb.2.1 qb.2.2 (hwz.2.2 qb rfl)) (fun wz hwz => ?_)) ?_
   ·go_simp; try (with_reducible rfl)
   simp only [Zp, Zq, Zr, Zs]
   refine WpX.vD 17 (some 33) ?_ rfl rfl (by kernel_rfl) (fun _ _ _ h => h) rfl (fun wz hwz => ?_) ?_
   rotate_left
   ·go_simp; try (with_reducible rfl)
   simp only [Zp, Zq, Zr, Zs]
   refine WpX.vD 18 (some 34) ?_ rfl rfl (by kernel_rfl) (fun _ _ _ h => h) rfl (fun wz hwz => ?_) ?_
   rotate_left
   ·go_simp; try (with_reducible rfl)
   simp only [Zp, Zq, Zr, Zs]
   refine WpX.done (by kernel_rfl) (fun w6 hS => ⟨qa, qb, rfl, ?_⟩)
   ·exact hS
  intro qa qb w6 hS
  (try simp only [List.drop_succ_cons]); (try simp only [List.drop_zero]); (try simp only [Nat.reduceSub]); (try simp only [List.take_succ_cons]); (try simp only [List.take_zero])
  go_wp2_with fail
  go_ret
  exact ⟨rfl, bl_call hb00 (Nat.le_refl _) hS.1⟩
 | sum b =>
  rw [val_sum] at *
  rw [rval_sum] at *
  obtain ⟨r, hr⟩ : ∃ r, b + m2 = r := ⟨_, rfl⟩
  have hpb : b ≤ 100 := hp
  have hw3 : IntKind.i64.wrap ((b : Int) + (m2 : Int)) = (r : Int) := by rw [IntWalk.i64_in _ (by omega)]; omega
  have hq : ((CK.sum b).pows + m2) = r := hr
  rw [hq] at HBND
  clear hp hy hcl hr hpb hq
  generalize (CK.sum b).gad f = gd at *
  generalize (CK.sum b).arity = ar at *
  go_enter Tryz.func17, Tryz.ntmps17
  go_upto_region 1 with fail
  have hyy := Vs.new w [.int .u8 2, .int .u8 f, .int .i64 b, .int .i64 0, .int .i64 0, .int .i64 0] #[.int .u8 2, .int .u8 f, .int .i64 b, .int .i64 0, .int .i64 0, .int .i64 0] 30 rfl
  have hb00 : Below w.heap.size w (w.alloc (.cells #[.int .u8 2, .int .u8 f, .int .i64 b, .int .i64 0, .int .i64 0, .int .i64 0] 30)) := by repeat (first | exact bA | with_reducible assumption | apply bB)
  have hszn : w.heap.size + 1 ≤ (w.alloc (.cells #[.int .u8 2, .int .u8 f, .int .i64 b, .int .i64 0, .int .i64 0, .int .i64 0] 30)).heap.size := by simp only [World.size_alloc]; omega
  generalize (w.alloc (.cells #[.int .u8 2, .int .u8 f, .int .i64 b, .int .i64 0, .int .i64 0, .int .i64 0] 30)) = w1 at hyy hb00 hszn ⊢
  obtain ⟨⟨yy0, yy1, yy2, yy3, yy4, yy5⟩, ⟨yy6, yy7, yy8, yy9, yy10, yy11⟩, yy12⟩ := hyy.get6
  go_upto_region 9 with fail
  have HYY := Lib.hid hyy
  apply region_Z2 (n := 19) (m := 20) (f := 19) (fun x0 x1 => (GgK w1 gd) (some x0) (some x1) ) ((GgK w1 gd) none none) ((GgK w1 gd) none none) ((fun _ h => h)) (GgK.clo) ((GgK.start w1 gd))
  case hm => kernel_rfl
  case hB => kernel_rfl
  case hf => rfl
  case' h =>
   refine WpX.vD 0 (some 16) ?_ rfl rfl (by kernel_rfl) (fun _ _ _ h => h) rfl (fun wz hwz => ?_) ?_
   rotate_left
   ·(have hz := (HYY.out.call hwz.1).get6; obtain ⟨⟨z0, z1, z2, z3, z4, z5⟩, ⟨y0, y1, y2, y3, y4, y5⟩, y6⟩ := hz; go_simp; try (with_reducible rfl))
   simp only [Zp, Zq, Zr, Zs]
   refine WpX.takeD 1 (some 17) rfl rfl (by kernel_rfl) (fun _ _ _ h => h) (.call rfl (fun wz hwz => HBND.out wz) (fun wz hwz => ?_)) ?_
   ·go_simp; try (with_reducible rfl)
   simp only [Zp, Zq, Zr, Zs]
   refine WpX.vD 2 (some 18) ?_ rfl rfl (by kernel_rfl) (fun _ _ _ h => h) rfl (fun wz hwz => ?_) ?_
   rotate_left
   ·go_simp; try (with_reducible rfl)
   simp only [Zp, Zq, Zr, Zs]
   refine WpX.vD 3 (some 19) ?_ rfl rfl (by kernel_rfl) (fun _ _ _ h => h) rfl (fun wz hwz => ?_) ?_
   rotate_left
   ·(have hz := (HYY.out.call hwz.1).get6; obtain ⟨⟨z0, z1, z2, z3, z4, z5⟩, ⟨y0, y1, y2, y3, y4, y5⟩, y6⟩ := hz; go_simp; try (with_reducible rfl))
   simp only [Zp, Zq, Zr, Zs]
   refine WpX.takeD 4 (some 20) rfl rfl (by kernel_rfl) (fun _ _ _ h => h) (.call rfl (fun wz hwz => HREF.out wz) (fun wz hwz => ?_)) ?_
   ·go_simp; try (with_reducible rfl)
   simp only [Zp, Zq, Zr, Zs]
   refine WpX.takeD 5 (some 21) rfl rfl (by kernel_rfl) (fun _ _ _ h => h) (.call rfl (fun wz hwz => HDOM.out wz) (fun wz hwz => ?_)) ?_
   ·go_simp; try (with_reducible rfl)
   simp only [Zp, Zq, Zr, Zs]
   refine WpX.vD 6 (some 22) ?_ rfl rfl (by kernel_rfl) (fun _ _ _ h => h) rfl (fun wz hwz => ?_) ?_
   rotate_left
   ·go_simp; try (with_reducible rfl)
   simp only [Zp, Zq, Zr, Zs]
   refine WpX.vD 7 (some 23) ?_ rfl rfl (by kernel_rfl) (fun _ _ _ h => h) rfl (fun wz hwz => ?_) ?_
   rotate_left
   ·go_simp; try (with_reducible rfl)
   simp only [Zp, Zq, Zr, Zs]
   refine WpX.vD 8 (some 24) ?_ rfl rfl (by kernel_rfl) (fun _ _ _ h => h) rfl (fun wz hwz => ?_) ?_
   rotate_left
   ·go_simp; try (with_reducible rfl)
   simp only [Zp, Zq, Zr, Zs]
   refine WpX.vD 9 (some 25) ?_ rfl rfl (by kernel_rfl) (fun _ _ _ h => h) rfl (fun wz hwz => ?_) ?_
   rotate_left
   ·go_simp; try (with_reducible rfl)
   simp only [Zp, Zq, Zr, Zs]
   refine WpX.vD 10 (some 26) ?_ rfl rfl (by kernel_rfl) (fun _ _ _ h => h) rfl (fun wz hwz => ?_) ?_
   rotate_left
   ·go_simp; try (with_reducible rfl)
   simp only [Zp, Zq, Zr, Zs]
   refine WpX.vD 11 (some 27) ?_ rfl rfl (by kernel_rfl) (fun _ _ _ h => h) rfl (fun wz hwz => ?_) ?_
   rotate_left
   ·(have hz := (HYY.out.call hwz.1).get6; obtain ⟨⟨z0, z1, z2, z3, z4, z5⟩, ⟨y0, y1, y2, y3, y4, y5⟩, y6⟩ := hz; go_simp; try (with_reducible rfl))
   simp only [Zp, Zq, Zr, Zs]
   refine WpX.vD 14 (some 30) ?_ rfl rfl (by kernel_rfl) (fun _ _ _ h => h) rfl (fun wz hwz => ?_) ?_
   rotate_left
   ·(have hz := (HYY.out.call hwz.1).get6; obtain ⟨⟨z0, z1, z2, z3, z4, z5⟩, ⟨y0, y1, y2, y3, y4, y5⟩, y6⟩ := hz; go_simp; try (with_reducible rfl))
   simp only [Zp, Zq, Zr, Zs]
   refine WpX.oneD 12 (some 28) rfl rfl (by kernel_rfl) (fun q : Int × Value × Int => Value.agg #[.int .u8 q.1, q.2.1, .int .i64 q.2.2]) (fun qa => (GgK w1 gd) (some qa) none) (fun qa => (GgK w1 gd) (some qa) none) (Turns.call rfl (fun _ _ h => ⟨h.1, fun _ e => (by cases e), h.2.2⟩) (fun _ => (fun _ h => h)) (fun _ => GgK.clo) (fun wz hS => (HPG.out wz).mono fun e w' ⟨q, he, hr, hb⟩ => ⟨q, he, hS.mk1 q hr hb⟩) (fun wz hS => by go_simp; try (with_reducible rfl))) (fun qa => ?_)
   simp only [Zp, Zq, Zr, Zs]
   refine WpX.takeD 13 (some 29) rfl rfl (by kernel_rfl) (fun _ _ _ h => h) (.call rfl (fun wz hwz => HARI.out wz _ qa.1 qa.2.1 qa.2.2 (hwz.2.1 qa rfl)) (fun wz hwz => ?_)) ?_
   ·go_simp; try (with_reducible rfl)
   simp only [Zp, Zq, Zr, Zs]
   refine WpX.oneD 15 (some 31) rfl rfl (by kernel_rfl) (fun q : Int × Value × Int => Value.agg #[.int .u8 q.1, q.2.1, .int .i64 q.2.2]) (fun qb => (GgK w1 gd) (some qa) (some qb)) (fun qb => (GgK w1 gd) (some qa) (some qb)) (Turns.call rfl (fun _ _ h => ⟨h.1, h.2.1, fun _ e => (by cases e)⟩) (fun _ => (fun _ h => h)) (fun _ => GgK.clo) (fun wz hS => (HGD.out wz).mono fun e w' ⟨q, he, hr, hb⟩ => ⟨q, he, hS.mk2 q hr hb⟩) (fun wz hS => by go_simp; try (with_reducible rfl))) (fun qb => ?_)
   simp only [Zp, Zq, Zr, Zs]
   refine WpX.takeD 16 (some 32) rfl rfl (by kernel_rfl) (fun _ _ _ h => h) (.call rfl (fun wz hwz => HARI.out wz _ qb.1 qb.2.1 qb.2.2 (hwz.2.2 qb rfl)) (fun wz hwz => ?_)) ?_
   ·go_simp; try (with_reducible rfl)
   simp only [Zp, Zq, Zr, Zs]
   refine WpX.vD 17 (some 33) ?_ rfl rfl (by kernel_rfl) (fun _ _ _ h => h) rfl (fun wz hwz => ?_) ?_
   rotate_left
   ·go_simp; try (with_reducible rfl)
   simp only [Zp, Zq, Zr, Zs]
   refine WpX.vD 18 (some 34) ?_ rfl rfl (by kernel_rfl) (fun _ _ _ h => h) rfl (fun wz hwz => ?_) ?_
   rotate_left
   ·go_simp; try (with_reducible rfl)
   simp only [Zp, Zq, Zr, Zs]
   refine WpX.done (by kernel_rfl) (fun w6 hS => ⟨qa, qb, rfl, ?_⟩)
   ·exact hS
  intro qa qb w6 hS
  (try simp only [List.drop_succ_cons]); (try simp only [List.drop_zero]); (try simp only [Nat.reduceSub]); (try simp only [List.take_succ_cons]); (try simp only [List.take_zero])
  go_wp2_with fail
  go_ret
  exact ⟨rfl, bl_call hb00 (Nat.le_refl _) hS.1⟩
 | vec bb l c =>
  rw [val_vec] at *
  rw [rval_vec] at *
  obtain ⟨r, hr⟩ : ∃ r, c + m2 = r := ⟨_, rfl⟩
  have hpb : c ≤ 100 := hp
  have hw3 : IntKind.i64.wrap ((c : Int) + (m2 : Int)) = (r : Int) := by rw [IntWalk.i64_in _ (by omega)]; omega
  have hq : ((CK.vec bb l c).pows + m2) = r := hr
  rw [hq] at HBND
  clear hp hy hcl hr hpb hq
  generalize (CK.vec bb l c).gad f = gd at *
  generalize (CK.vec bb l c).arity = ar at *
  go_enter Tryz.func17, Tryz.ntmps17
  go_upto_region 1 with fail
  have hyy := Vs.new w [.int .u8 3, .int .u8 f, .int .i64 bb, .int .i64 l, .int .i64 0, .int .i64 c] #[.int .u8 3, .int .u8 f, .int .i64 bb, .int .i64 l, .int .i64 0, .int .i64 c] 30 rfl
  have hb00 : Below w.heap.size w (w.alloc (.cells #[.int .u8 3, .int .u8 f, .int .i64 bb, .int .i64 l, .int .i64 0, .int .i64 c] 30)) := by repeat (first | exact bA | with_reducible assumption | apply bB)
  have hszn : w.heap.size + 1 ≤ (w.alloc (.cells #[.int .u8 3, .int .u8 f, .int .i64 bb, .int .i64 l, .int .i64 0, .int .i64 c] 30)).heap.size := by simp only [World.size_alloc]; omega
  generalize (w.alloc (.cells #[.int .u8 3, .int .u8 f, .int .i64 bb, .int .i64 l, .int .i64 0, .int .i64 c] 30)) = w1 at hyy hb00 hszn ⊢
  obtain ⟨⟨yy0, yy1, yy2, yy3, yy4, yy5⟩, ⟨yy6, yy7, yy8, yy9, yy10, yy11⟩, yy12⟩ := hyy.get6
  go_upto_region 9 with fail
  have HYY := Lib.hid hyy
  apply region_Z2 (n := 19) (m := 20) (f := 19) (fun x0 x1 => (GgK w1 gd) (some x0) (some x1) ) ((GgK w1 gd) none none) ((GgK w1 gd) none none) ((fun _ h => h)) (GgK.clo) ((GgK.start w1 gd))
  case hm => kernel_rfl
  case hB => kernel_rfl
  case hf => rfl
  case' h =>
   refine WpX.vD 0 (some 16) ?_ rfl rfl (by kernel_rfl) (fun _ _ _ h => h) rfl (fun wz hwz => ?_) ?_
   rotate_left
   ·(have hz := (HYY.out.call hwz.1).get6; obtain ⟨⟨z0, z1, z2, z3, z4, z5⟩, ⟨y0, y1, y2, y3, y4, y5⟩, y6⟩ := hz; go_simp; try (with_reducible rfl))
   simp only [Zp, Zq, Zr, Zs]
   refine WpX.takeD 1 (some 17) rfl rfl (by kernel_rfl) (fun _ _ _ h => h) (.call rfl (fun wz hwz => HBND.out wz) (fun wz hwz => ?_)) ?_
   ·go_simp; try (with_reducible rfl)
   simp only [Zp, Zq, Zr, Zs]
   refine WpX.vD 2 (some 18) ?_ rfl rfl (by kernel_rfl) (fun _ _ _ h => h) rfl (fun wz hwz => ?_) ?_
   rotate_left
   ·go_simp; try (with_reducible rfl)
   simp only [Zp, Zq, Zr, Zs]
   refine WpX.vD 3 (some 19) ?_ rfl rfl (by kernel_rfl) (fun _ _ _ h => h) rfl (fun wz hwz => ?_) ?_
   rotate_left
   ·(have hz := (HYY.out.call hwz.1).get6; obtain ⟨⟨z0, z1, z2, z3, z4, z5⟩, ⟨y0, y1, y2, y3, y4, y5⟩, y6⟩ := hz; go_simp; try (with_reducible rfl))
   simp only [Zp, Zq, Zr, Zs]
   refine WpX.takeD 4 (some 20) rfl rfl (by kernel_rfl) (fun _ _ _ h => h) (.call rfl (fun wz hwz => HREF.out wz) (fun wz hwz => ?_)) ?_
   ·go_simp; try (with_reducible rfl)
   simp only [Zp, Zq, Zr, Zs]
   refine WpX.takeD 5 (some 21) rfl rfl (by kernel_rfl) (fun _ _ _ h => h) (.call rfl (fun wz hwz => HDOM.out wz) (fun wz hwz => ?_)) ?_
   ·go_simp; try (with_reducible rfl)
   simp only [Zp, Zq, Zr, Zs]
   refine WpX.vD 6 (some 22) ?_ rfl rfl (by kernel_rfl) (fun _ _ _ h => h) rfl (fun wz hwz => ?_) ?_
   rotate_left
   ·go_simp; try (with_reducible rfl)
   simp only [Zp, Zq, Zr, Zs]
   refine WpX.vD 7 (some 23) ?_ rfl rfl (by kernel_rfl) (fun _ _ _ h => h) rfl (fun wz hwz => ?_) ?_
   rotate_left
   ·go_simp; try (with_reducible rfl)
   simp only [Zp, Zq, Zr, Zs]
   refine WpX.vD 8 (some 24) ?_ rfl rfl (by kernel_rfl) (fun _ _ _ h => h) rfl (fun wz hwz => ?_) ?_
   rotate_left
   ·go_simp; try (with_reducible rfl)
   simp only [Zp, Zq, Zr, Zs]
   refine WpX.vD 9 (some 25) ?_ rfl rfl (by kernel_rfl) (fun _ _ _ h => h) rfl (fun wz hwz => ?_) ?_
   rotate_left
   ·go_simp; try (with_reducible rfl)
   simp only [Zp, Zq, Zr, Zs]
   refine WpX.vD 10 (some 26) ?_ rfl rfl (by kernel_rfl) (fun _ _ _ h => h) rfl (fun wz hwz => ?_) ?_
   rotate_left
   ·go_simp; try (with_reducible rfl)
   simp only [Zp, Zq, Zr, Zs]
   refine WpX.vD 11 (some 27) ?_ rfl rfl (by kernel_rfl) (fun _ _ _ h => h) rfl (fun wz hwz => ?_) ?_
   rotate_left
   ·(have hz := (HYY.out.call hwz.1).get6; obtain ⟨⟨z0, z1, z2, z3, z4, z5⟩, ⟨y0, y1, y2, y3, y4, y5⟩, y6⟩ := hz; go_simp; try (with_reducible rfl))
   simp only [Zp, Zq, Zr, Zs]
   refine WpX.vD 14 (some 30) ?_ rfl rfl (by kernel_rfl) (fun _ _ _ h => h) rfl (fun wz hwz => ?_) ?_
   rotate_left
   ·(have hz := (HYY.out.call hwz.1).get6; obtain ⟨⟨z0, z1, z2, z3, z4, z5⟩, ⟨y0, y1, y2, y3, y4, y5⟩, y6⟩ := hz; go_simp; try (with_reducible rfl))
   simp only [Zp, Zq, Zr, Zs]
   refine WpX.oneD 12 (some 28) rfl rfl (by kernel_rfl) (fun q : Int × Value × Int => Value.agg #[.int .u8 q.1, q.2.1, .int .i64 q.2.2]) (fun qa => (GgK w1 gd) (some qa) none) (fun qa => (GgK w1 gd) (some qa) none) (Turns.call rfl (fun _ _ h => ⟨h.1, fun _ e => (by cases e), h.2.2⟩) (fun _ => (fun _ h => h)) (fun _ => GgK.clo) (fun wz hS => (HPG.out wz).mono fun e w' ⟨q, he, hr, hb⟩ => ⟨q, he, hS.mk1 q hr hb⟩) (fun wz hS => by go_simp; try (with_reducible rfl))) (fun qa => ?_)
   simp only [Zp, Zq, Zr, Zs]
   refine WpX.takeD 13 (some 29) rfl rfl (by kernel_rfl) (fun _ _ _ h => h) (.call rfl (fun wz hwz => HARI.out wz _ qa.1 qa.2.1 qa.2.2 (hwz.2.1 qa rfl)) (fun wz hwz => ?_)) ?_
   ·go_simp; try (with_reducible rfl)
   simp only [Zp, Zq, Zr, Zs]
   refine WpX.oneD 15 (some 31) rfl rfl (by kernel_rfl) (fun q : Int × Value × Int => Value.agg #[.int .u8 q.1, q.2.1, .int .i64 q.2.2]) (fun qb => (GgK w1 gd) (some qa) (some qb)) (fun qb => (GgK w1 gd) (some qa) (some qb)) (Turns.call rfl (fun _ _ h => ⟨h.1, h.2.1, fun _ e => (by cases e)⟩) (fun _ => (fun _ h => h)) (fun _ => GgK.clo) (fun wz hS => (HGD.out wz).mono fun e w' ⟨q, he, hr, hb⟩ => ⟨q, he, hS.mk2 q hr hb⟩) (fun wz hS => by go_simp; try (with_reducible rfl))) (fun qb => ?_)
   simp only [Zp, Zq, Zr, Zs]
   refine WpX.takeD 16 (some 32) rfl rfl (by kernel_rfl) (fun _ _ _ h => h) (.call rfl (fun wz hwz => HARI.out wz _ qb.1 qb.2.1 qb.2.2 (hwz.2.2 qb rfl)) (fun wz hwz => ?_)) ?_
   ·go_simp; try (with_reducible rfl)
   simp only [Zp, Zq, Zr, Zs]
   refine WpX.vD 17 (some 33) ?_ rfl rfl (by kernel_rfl) (fun _ _ _ h => h) rfl (fun wz hwz => ?_) ?_
   rotate_left
   ·go_simp; try (with_reducible rfl)
   simp only [Zp, Zq, Zr, Zs]
   refine WpX.vD 18 (some 34) ?_ rfl rfl (by kernel_rfl) (fun _ _ _ h => h) rfl (fun wz hwz => ?_) ?_
   rotate_left
   ·go_simp; try (with_reducible rfl)
   simp only [Zp, Zq, Zr, Zs]
   refine WpX.done (by kernel_rfl) (fun w6 hS => ⟨qa, qb, rfl, ?_⟩)
   ·exact hS
  intro qa qb w6 hS
  (try simp only [List.drop_succ_cons]); (try simp only [List.drop_zero]); (try simp only [Nat.reduceSub]); (try simp only [List.take_succ_cons]); (try simp only [List.take_zero])
  go_wp2_with fail
  go_ret
  exact ⟨rfl, bl_call hb00 (Nat.le_refl _) hS.1⟩
 | hist l c =>
  rw [val_hist] at *
  rw [rval_hist] at *
  obtain ⟨r, hr⟩ : ∃ r, c + m2 = r := ⟨_, rfl⟩
  have hpb : c ≤ 100 := hp
  have hw3 : IntKind.i64.wrap ((c : Int) + (m2 : Int)) = (r : Int) := by rw [IntWalk.i64_in _ (by omega)]; omega
  have hq : ((CK.hist l c).pows + m2) = r := hr
  rw [hq] at HBND
  clear hp hy hcl hr hpb hq
  generalize (CK.hist l c).gad f = gd at *
  generalize (CK.hist l c).arity = ar at *
  go_enter Tryz.func17, Tryz.ntmps17
  go_upto_region 1 with fail
  have hyy := Vs.new w [.int .u8 4, .int .u8 f, .int .i64 0, .int .i64 l, .int .i64 0, .int .i64 c] #[.int .u8 4, .int .u8 f, .int .i64 0, .int .i64 l, .int .i64 0, .int .i64 c] 30 rfl
  have hb00 : Below w.heap.size w (w.alloc (.cells #[.int .u8 4, .int .u8 f, .int .i64 0, .int .i64 l, .int .i64 0, .int .i64 c] 30)) := by repeat (first | exact bA | with_reducible assumption | apply bB)
  have hszn : w.heap.size + 1 ≤ (w.alloc (.cells #[.int .u8 4, .int .u8 f, .int .i64 0, .int .i64 l, .int .i64 0, .int .i64 c] 30)).heap.size := by simp only [World.size_alloc]; omega
  generalize (w.alloc (.cells #[.int .u8 4, .int .u8 f, .int .i64 0, .int .i64 l, .int .i64 0, .int .i64 c] 30)) = w1 at hyy hb00 hszn ⊢
  obtain ⟨⟨yy0, yy1, yy2, yy3, yy4, yy5⟩, ⟨yy6, yy7, yy8, yy9, yy10, yy11⟩, yy12⟩ := hyy.get6
  go_upto_region 9 with fail
  have HYY := Lib.hid hyy
  apply region_Z2 (n := 19) (m := 20) (f := 19) (fun x0 x1 => (GgK w1 gd) (some x0) (some x1) ) ((GgK w1 gd) none none) ((GgK w1 gd) none none) ((fun _ h => h)) (GgK.clo) ((GgK.start w1 gd))
  case hm => kernel_rfl
  case hB => kernel_rfl
  case hf => rfl
  case' h =>
   refine WpX.vD 0 (some 16) ?_ rfl rfl (by kernel_rfl) (fun _ _ _ h => h) rfl (fun wz hwz => ?_) ?_
   rotate_left
   ·(have hz := (HYY.out.call hwz.1).get6; obtain ⟨⟨z0, z1, z2, z3, z4, z5⟩, ⟨y0, y1, y2, y3, y4, y5⟩, y6⟩ := hz; go_simp; try (with_reducible rfl))
   simp only [Zp, Zq, Zr, Zs]
   refine WpX.takeD 1 (some 17) rfl rfl (by kernel_rfl) (fun _ _ _ h => h) (.call rfl (fun wz hwz => HBND.out wz) (fun wz hwz => ?_)) ?_
   ·go_simp; try (with_reducible rfl)
   simp only [Zp, Zq, Zr, Zs]
   refine WpX.vD 2 (some 18) ?_ rfl rfl (by kernel_rfl) (fun _ _ _ h => h) rfl (fun wz hwz => ?_) ?_
   rotate_left
   ·go_simp; try (with_reducible rfl)
   simp only [Zp, Zq, Zr, Zs]
   refine WpX.vD 3 (some 19) ?_ rfl rfl (by kernel_rfl) (fun _ _ _ h => h) rfl (fun wz hwz => ?_) ?_
   rotate_left
   ·(have hz := (HYY.out.call hwz.1).get6; obtain ⟨⟨z0, z1, z2, z3, z4, z5⟩, ⟨y0, y1, y2, y3, y4, y5⟩, y6⟩ := hz; go_simp; try (with_reducible rfl))
   simp only [Zp, Zq, Zr, Zs]
   refine WpX.takeD 4 (some 20) rfl rfl (by kernel_rfl) (fun _ _ _ h => h) (.call rfl (fun wz hwz => HREF.out wz) (fun wz hwz => ?_)) ?_
   ·go_simp; try (with_reducible rfl)
   simp only [Zp, Zq, Zr, Zs]
   refine WpX.takeD 5 (some 21) rfl rfl (by kernel_rfl) (fun _ _ _ h => h) (.call rfl (fun wz hwz => HDOM.out wz) (fun wz hwz => ?_)) ?_
   ·go_simp; try (with_reducible rfl)
   simp only [Zp, Zq, Zr, Zs]
   refine WpX.vD 6 (some 22) ?_ rfl rfl (by kernel_rfl) (fun _ _ _ h => h) rfl (fun wz hwz => ?_) ?_
   rotate_left
   ·go_simp; try (with_reducible rfl)
   simp only [Zp, Zq, Zr, Zs]
   refine WpX.vD 7 (some 23) ?_ rfl rfl (by kernel_rfl) (fun _ _ _ h => h) rfl (fun wz hwz => ?_) ?_
   rotate_left
   ·go_simp; try (with_reducible rfl)
   simp only [Zp, Zq, Zr, Zs]
   refine WpX.vD 8 (some 24) ?_ rfl rfl (by kernel_rfl) (fun _ _ _ h => h) rfl (fun wz hwz => ?_) ?_
   rotate_left
   ·go_simp; try (with_reducible rfl)
   simp only [Zp, Zq, Zr, Zs]
   refine WpX.vD 9 (some 25) ?_ rfl rfl (by kernel_rfl) (fun _ _ _ h => h) rfl (fun wz hwz => ?_) ?_
   rotate_left
   ·go_simp; try (with_reducible rfl)
   simp only [Zp, Zq, Zr, Zs]
   refine WpX.vD 10 (some 26) ?_ rfl rfl (by kernel_rfl) (fun _ _ _ h => h) rfl (fun wz hwz => ?_) ?_
   rotate_left
   ·go_simp; try (with_reducible rfl)
   simp only [Zp, Zq, Zr, Zs]
   refine WpX.vD 11 (some 27) ?_ rfl rfl (by kernel_rfl) (fun _ _ _ h => h) rfl (fun wz hwz => ?_) ?_
   rotate_left
   ·(have hz := (HYY.out.call hwz.1).get6; obtain ⟨⟨z0, z1, z2, z3, z4, z5⟩, ⟨y0, y1, y2, y3, y4, y5⟩, y6⟩ := hz; go_simp; try (with_reducible rfl))
   simp only [Zp, Zq, Zr, Zs]
   refine WpX.vD 14 (some 30) ?_ rfl rfl (by kernel_rfl) (fun _ _ _ h => h) rfl (fun wz hwz => ?_) ?_
   rotate_left
   ·(have hz := (HYY.out.call hwz.1).get6; obtain ⟨⟨z0, z1, z2, z3, z4, z5⟩, ⟨y0, y1, y2, y3, y4, y5⟩, y6⟩ := hz; go_simp; try (with_reducible rfl))
   simp only [Zp, Zq, Zr, Zs]
   refine WpX.oneD 12 (some 28) rfl rfl (by kernel_rfl) (fun q : Int × Value × Int => Value.agg #[.int .u8 q.1, q.2.1, .int .i64 q.2.2]) (fun qa => (GgK w1 gd) (some qa) none) (fun qa => (GgK w1 gd) (some qa) none) (Turns.call rfl (fun _ _ h => ⟨h.1, fun _ e => (by cases e), h.2.2⟩) (fun _ => (fun _ h => h)) (fun _ => GgK.clo) (fun wz hS => (HPG.out wz).mono fun e w' ⟨q, he, hr, hb⟩ => ⟨q, he, hS.mk1 q hr hb⟩) (fun wz hS => by go_simp; try (with_reducible rfl))) (fun qa => ?_)
   simp only [Zp, Zq, Zr, Zs]
   refine WpX.takeD 13 (some 29) rfl rfl (by kernel_rfl) (fun _ _ _ h => h) (.call rfl (fun wz hwz => HARI.out wz _ qa.1 qa.2.1 qa.2.2 (hwz.2.1 qa rfl)) (fun wz hwz => ?_)) ?_
   ·go_simp; try (with_reducible rfl)
   simp only [Zp, Zq, Zr, Zs]
   refine WpX.oneD 15 (some 31) rfl rfl (by kernel_rfl) (fun q : Int × Value × Int => Value.agg #[.int .u8 q.1, q.2.1, .int .i64 q.2.2]) (fun qb => (GgK w1 gd) (some qa) (some qb)) (fun qb => (GgK w1 gd) (some qa) (some qb)) (Turns.call rfl (fun _ _ h => ⟨h.1, h.2.1, fun _ e => (by cases e)⟩) (fun _ => (fun _ h => h)) (fun _ => GgK.clo) (fun wz hS => (HGD.out wz).mono fun e w' ⟨q, he, hr, hb⟩ => ⟨q, he, hS.mk2 q hr hb⟩) (fun wz hS => by go_simp; try (with_reducible rfl))) (fun qb => ?_)
   simp only [Zp, Zq, Zr, Zs]
   refine WpX.takeD 16 (some 32) rfl rfl (by kernel_rfl) (fun _ _ _ h => h) (.call rfl (fun wz hwz => HARI.out wz _ qb.1 qb.2.1 qb.2.2 (hwz.2.2 qb rfl)) (fun wz hwz => ?_)) ?_
   ·go_simp; try (with_reducible rfl)
   simp only [Zp, Zq, Zr, Zs]
   refine WpX.vD 17 (some 33) ?_ rfl rfl (by kernel_rfl) (fun _ _ _ h => h) rfl (fun wz hwz => ?_) ?_
   rotate_left
   ·go_simp; try (with_reducible rfl)
   simp only [Zp, Zq, Zr, Zs]
   refine WpX.vD 18 (some 34) ?_ rfl rfl (by kernel_rfl) (fun _ _ _ h => h) rfl (fun wz hwz => ?_) ?_
   rotate_left
   ·go_simp; try (with_reducible rfl)
   simp only [Zp, Zq, Zr, Zs]
   refine WpX.done (by kernel_rfl) (fun w6 hS => ⟨qa, qb, rfl, ?_⟩)
   ·exact hS
  intro qa qb w6 hS
  (try simp only [List.drop_succ_cons]); (try simp only [List.drop_zero]); (try simp only [Nat.reduceSub]); (try simp only [List.take_succ_cons]); (try simp only [List.take_zero])
  go_wp2_with fail
  go_ret
  exact ⟨rfl, bl_call hb00 (Nat.le_refl _) hS.1⟩
 | multi l m c =>
  rw [val_multi] at *
  rw [rval_multi] at *
  obtain ⟨r, hr⟩ : ∃ r, c + m2 = r := ⟨_, rfl⟩
  have hpb : c ≤ 100 := hp
  have hw3 : IntKind.i64.wrap ((c : Int) + (m2 : Int)) = (r : Int) := by rw [IntWalk.i64_in _ (by omega)]; omega
  have hq : ((CK.multi l m c).pows + m2) = r := hr
  rw [hq] at HBND
  clear hp hy hcl hr hpb hq
  generalize (CK.multi l m c).gad f = gd at *
  generalize (CK.multi l m c).arity = ar at *
  go_enter Tryz.func17, Tryz.ntmps17
  go_upto_region 1 with fail
  have hyy := Vs.new w [.int .u8 5, .int .u8 f, .int .i64 0, .int .i64 l, .int .i64 m, .int .i64 c] #[.int .u8 5, .int .u8 f, .int .i64 0, .int .i64 l, .int .i64 m, .int .i64 c] 30 rfl
  have hb00 : Below w.heap.size w (w.alloc (.cells #[.int .u8 5, .int .u8 f, .int .i64 0, .int .i64 l, .int .i64 m, .int .i64 c] 30)) := by repeat (first | exact bA | with_reducible assumption | apply bB)
  have hszn : w.heap.size + 1 ≤ (w.alloc (.cells #[.int .u8 5, .int .u8 f, .int .i64 0, .int .i64 l, .int .i64 m, .int .i64 c] 30)).heap.size := by simp only [World.size_alloc]; omega
  generalize (w.alloc (.cells #[.int .u8 5, .int .u8 f, .int .i64 0, .int .i64 l, .int .i64 m, .int .i64 c] 30)) = w1 at hyy hb00 hszn ⊢
  obtain ⟨⟨yy0, yy1, yy2, yy3, yy4, yy5⟩, ⟨yy6, yy7, yy8, yy9, yy10, yy11⟩, yy12⟩ := hyy.get6
  go_upto_region 9 with fail
  have HYY := Lib.hid hyy
  apply region_Z2 (n := 19) (m := 20) (f := 19) (fun x0 x1 => (GgK w1 gd) (some x0) (some x1) ) ((GgK w1 gd) none none) ((GgK w1 gd) none none) ((fun _ h => h)) (GgK.clo) ((GgK.start w1 gd))
  case hm => kernel_rfl
  case hB => kernel_rfl
  case hf => rfl
  case' h =>
   refine WpX.vD 0 (some 16) ?_ rfl rfl (by kernel_rfl) (fun _ _ _ h => h) rfl (fun wz hwz => ?_) ?_
   rotate_left
   ·(have hz := (HYY.out.call hwz.1).get6; obtain ⟨⟨z0, z1, z2, z3, z4, z5⟩, ⟨y0, y1, y2, y3, y4, y5⟩, y6⟩ := hz; go_simp; try (with_reducible rfl))
   simp only [Zp, Zq, Zr, Zs]
   refine WpX.takeD 1 (some 17) rfl rfl (by kernel_rfl) (fun _ _ _ h => h) (.call rfl (fun wz hwz => HBND.out wz) (fun wz hwz => ?_)) ?_
   ·go_simp; try (with_reducible rfl)
   simp only [Zp, Zq, Zr, Zs]
   refine WpX.vD 2 (some 18) ?_ rfl rfl (by kernel_rfl) (fun _ _ _ h => h) rfl (fun wz hwz => ?_) ?_
   rotate_left
   ·go_simp; try (with_reducible rfl)
   simp only [Zp, Zq, Zr, Zs]
   refine WpX.vD 3 (some 19) ?_ rfl rfl (by kernel_rfl) (fun _ _ _ h => h) rfl (fun wz hwz => ?_) ?_
   rotate_left
   ·(have hz := (HYY.out.call hwz.1).get6; obtain ⟨⟨z0, z1, z2, z3, z4, z5⟩, ⟨y0, y1, y2, y3, y4, y5⟩, y6⟩ := hz; go_simp; try (with_reducible rfl))
   simp only [Zp, Zq, Zr, Zs]
   refine WpX.takeD 4 (some 20) rfl rfl (by kernel_rfl) (fun _ _ _ h => h) (.call rfl (fun wz hwz => HREF.out wz) (fun wz hwz => ?_)) ?_
   ·go_simp; try (with_reducible rfl)
   simp only [Zp, Zq, Zr, Zs]
   refine WpX.takeD 5 (some 21) rfl rfl (by kernel_rfl) (fun _ _ _ h => h) (.call rfl (fun wz hwz => HDOM.out wz) (fun wz hwz => ?_)) ?_
   ·go_simp; try (with_reducible rfl)
   simp only [Zp, Zq, Zr, Zs]
   refine WpX.vD 6 (some 22) ?_ rfl rfl (by kernel_rfl) (fun _ _ _ h => h) rfl (fun wz hwz => ?_) ?_
   rotate_left
   ·go_simp; try (with_reducible rfl)
   simp only [Zp, Zq, Zr, Zs]
   refine WpX.vD 7 (some 23) ?_ rfl rfl (by kernel_rfl) (fun _ _ _ h => h) rfl (fun wz hwz => ?_) ?_
   rotate_left
   ·go_simp; try (with_reducible rfl)
   simp only [Zp, Zq, Zr, Zs]
   refine WpX.vD 8 (some 24) ?_ rfl rfl (by kernel_rfl) (fun _ _ _ h => h) rfl (fun wz hwz => ?_) ?_
   rotate_left
   ·go_simp; try (with_reducible rfl)
   simp only [Zp, Zq, Zr, Zs]
   refine WpX.vD 9 (some 25) ?_ rfl rfl (by kernel_rfl) (fun _ _ _ h => h) rfl (fun wz hwz => ?_) ?_
   rotate_left
   ·go_simp; try (with_reducible rfl)
   simp only [Zp, Zq, Zr, Zs]
   refine WpX.vD 10 (some 26) ?_ rfl rfl (by kernel_rfl) (fun _ _ _ h => h) rfl (fun wz hwz => ?_) ?_
   rotate_left
   ·go_simp; try (with_reducible rfl)
   simp only [Zp, Zq, Zr, Zs]
   refine WpX.vD 11 (some 27) ?_ rfl rfl (by kernel_rfl) (fun _ _ _ h => h) rfl (fun wz hwz => ?_) ?_
   rotate_left
   ·(have hz := (HYY.out.call hwz.1).get6; obtain ⟨⟨z0, z1, z2, z3, z4, z5⟩, ⟨y0, y1, y2, y3, y4, y5⟩, y6⟩ := hz; go_simp; try (with_reducible rfl))
   simp only [Zp, Zq, Zr, Zs]
   refine WpX.vD 14 (some 30) ?_ rfl rfl (by kernel_rfl) (fun _ _ _ h => h) rfl (fun wz hwz => ?_) ?_
   rotate_left
   ·(have hz := (HYY.out.call hwz.1).get6; obtain ⟨⟨z0, z1, z2, z3, z4, z5⟩, ⟨y0, y1, y2, y3, y4, y5⟩, y6⟩ := hz; go_simp; try (with_reducible rfl))
   simp only [Zp, Zq, Zr, Zs]
   refine WpX.oneD 12 (some 28) rfl rfl (by kernel_rfl) (fun q : Int × Value × Int => Value.agg #[.int .u8 q.1, q.2.1, .int .i64 q.2.2]) (fun qa => (GgK w1 gd) (some qa) none) (fun qa => (GgK w1 gd) (some qa) none) (Turns.call rfl (fun _ _ h => ⟨h.1, fun _ e => (by cases e), h.2.2⟩) (fun _ => (fun _ h => h)) (fun _ => GgK.clo) (fun wz hS => (HPG.out wz).mono fun e w' ⟨q, he, hr, hb⟩ => ⟨q, he, hS.mk1 q hr hb⟩) (fun wz hS => by go_simp; try (with_reducible rfl))) (fun qa => ?_)
   simp only [Zp, Zq, Zr, Zs]
   refine WpX.takeD 13 (some 29) rfl rfl (by kernel_rfl) (fun _ _ _ h => h) (.call rfl (fun wz hwz => HARI.out wz _ qa.1 qa.2.1 qa.2.2 (hwz.2.1 qa rfl)) (fun wz hwz => ?_)) ?_
   ·go_simp; try (with_reducible rfl)
   simp only [Zp, Zq, Zr, Zs]
   refine WpX.oneD 15 (some 31) rfl rfl (by kernel_rfl) (fun q : Int × Value × Int => Value.agg #[.int .u8 q.1, q.2.1, .int .i64 q.2.2]) (fun qb => (GgK w1 gd) (some qa) (some qb)) (fun qb => (GgK w1 gd) (some qa) (some qb)) (Turns.call rfl (fun _ _ h => ⟨h.1, h.2.1, fun _ e => (by cases e)⟩) (fun _ => (fun _ h => h)) (fun _ => GgK.clo) (fun wz hS => (HGD.out wz).mono fun e w' ⟨q, he, hr, hb⟩ => ⟨q, he, hS.mk2 q hr hb⟩) (fun wz hS => by go_simp; try (with_reducible rfl))) (fun qb => ?_)
   simp only [Zp, Zq, Zr, Zs]
   refine WpX.takeD 16 (some 32) rfl rfl (by kernel_rfl) (fun _ _ _ h => h) (.call rfl (fun wz hwz => HARI.out wz _ qb.1 qb.2.1 qb.2.2 (hwz.2.2 qb rfl)) (fun wz hwz => ?_)) ?_
   ·go_simp; try (with_reducible rfl)
   simp only [Zp, Zq, Zr, Zs]
   refine WpX.vD 17 (some 33) ?_ rfl rfl (by kernel_rfl) (fun _ _ _ h => h) rfl (fun wz hwz => ?_) ?_
   rotate_left
   ·go_simp; try (with_reducible rfl)
   simp only [Zp, Zq, Zr, Zs]
   refine WpX.vD 18 (some 34) ?_ rfl rfl (by kernel_rfl) (fun _ _ _ h => h) rfl (fun wz hwz => ?_) ?_
   rotate_left
   ·go_simp; try (with_reducible rfl)
   simp only [Zp, Zq, Zr, Zs]
   refine WpX.done (by kernel_rfl) (fun w6 hS => ⟨qa, qb, rfl, ?_⟩)
   ·exact hS
  intro qa qb w6 hS
  (try simp only [List.drop_succ_cons]); (try simp only [List.drop_zero]); (try simp only [Nat.reduceSub]); (try simp only [List.take_succ_cons]); (try simp only [List.take_zero])
  go_wp2_with fail
  go_ret
  exact ⟨rfl, bl_call hb00 (Nat.le_refl _) hS.1⟩
end

end Go.Proofs.YtfbfbijkkbflkaaGreatDoor

namespace Go.Proofs.YtfbfbijkkbflkaaGreatDoor
open Go.RowKit Fm
set_option linter.unusedVariables false
set_option maxRecDepth 100000

def cntJ (hit : Nat → Bool) (i : Nat) : Nat := ((List.range i).filter hit).length
theorem cntJ_succ (hit : Nat → Bool) (i : Nat) : cntJ hit (i + 1) = cntJ hit i + (if hit i = true then 1 else 0) := by
 unfold cntJ
 rw [List.range_succ, List.filter_append, List.length_append]
 cases h : hit i <;> simp [h]
theorem one_calls {y : CK} (hy : y.ok) (h : y.one) (hk : y.k ≠ 2) : y.calls = 1 := by
 have h0 := CK.calls_pos hy
 cases y with
 | count => exact h.elim
 | sum b => exact absurd rfl hk
 | vec b l c => have h2 : (CK.vec b l c).calls ≤ 1 := h; omega
 | hist l c => have h2 : (CK.hist l c).calls ≤ 1 := h; omega
 | multi l m c => have h2 : (CK.multi l m c).calls ≤ 1 := h; omega
theorem many_calls {y : CK} (h : ¬ y.one) (hk : y.k ≠ 1) : 1 < y.calls ∧ y.k ≠ 2 := by
 cases y with
 | count => exact absurd rfl hk
 | sum b => exact absurd trivial h
 | vec b l c => exact ⟨Nat.lt_of_not_le h, by show (3 : Nat) ≠ 2; decide⟩
 | hist l c => exact ⟨Nat.lt_of_not_le h, by show (4 : Nat) ≠ 2; decide⟩
 | multi l m c => exact ⟨Nat.lt_of_not_le h, by show (5 : Nat) ≠ 2; decide⟩
theorem kinds (y : CK) (hy : y.ok) (hk : y.k ≠ 1) : ((y.k = 2 ∧ y.pows = y.b ∧ y.rst = false) ∨ (y.k ≠ 2 ∧ y.pows = y.c ∧ 1 ≤ y.c)) ∧ ((y.rst = false ∧ y.k ≠ 4 ∧ y.k ≠ 5) ∨ (y.rst = true ∧ y.k = 4) ∨ (y.rst = true ∧ y.k = 5)) := by
 cases y with
 | count => exact absurd rfl hk
 | sum b => exact ⟨.inl ⟨rfl, rfl, rfl⟩, .inl ⟨rfl, by show (2 : Nat) ≠ 4; decide, by show (2 : Nat) ≠ 5; decide⟩⟩
 | vec b l c => exact ⟨.inr ⟨by show (3 : Nat) ≠ 2; decide, rfl, hy.2.2.1⟩, .inl ⟨rfl, by show (3 : Nat) ≠ 4; decide, by show (3 : Nat) ≠ 5; decide⟩⟩
 | hist l c => exact ⟨.inr ⟨by show (4 : Nat) ≠ 2; decide, rfl, hy.2.1⟩, .inr (.inl ⟨rfl, rfl⟩)⟩
 | multi l m c => exact ⟨.inr ⟨by show (5 : Nat) ≠ 2; decide, rfl, hy.2.2.1⟩, .inr (.inr ⟨rfl, rfl⟩)⟩
section
variable {f : Nat}
theorem jnt_is (y : CK) (hy : y.ok) (h : y.one) (r : Fin (Pm f)) : (y.rst = false → List.replicate y.joint r = jntF y r) ∧ (y.rst = true → (List.replicate y.joint r).set (y.joint - 1) (Fm.kpow r (y.c + 1)) = jntF y r) := by
 cases y with
 | count => exact h.elim
 | sum b => exact ⟨fun _ => rfl, fun h => (by cases h)⟩
 | vec b l c =>
  have h1 : (CK.vec b l c).calls = 1 := one_calls hy h (by show (3 : Nat) ≠ 2; decide)
  refine ⟨fun _ => ?_, fun h => (by cases h)⟩
  show List.replicate (CK.vec b l c).calls r = [r]
  rw [h1]
  rfl
 | hist l c =>
  have h1 : (CK.hist l c).calls = 1 := one_calls hy h (by show (4 : Nat) ≠ 2; decide)
  refine ⟨fun h => (by cases h), fun _ => ?_⟩
  show (List.replicate ((CK.hist l c).calls + 1) r).set ((CK.hist l c).calls + 1 - 1) (Fm.kpow r (c + 1)) = [r, kpw r (c + 1)]
  rw [h1, kpw_fm]
  rfl
 | multi l m c =>
  have h1 : (CK.multi l m c).calls = 1 := one_calls hy h (by show (5 : Nat) ≠ 2; decide)
  refine ⟨fun h => (by cases h), fun _ => ?_⟩
  show (List.replicate ((CK.multi l m c).calls + 1) r).set ((CK.multi l m c).calls + 1 - 1) (Fm.kpow r (c + 1)) = [r, kpw r (c + 1)]
  rw [h1, kpw_fm]
  rfl
theorem fill_next (r : Fin (Pm f)) (n k : Nat) (hk : k < n) : (List.replicate k r ++ List.replicate (n - k) (0 : Fin (Pm f))).set k r = List.replicate (k + 1) r ++ List.replicate (n - (k + 1)) 0 := by
 obtain ⟨d, hd⟩ : ∃ d, n - k = d + 1 := ⟨n - k - 1, by omega⟩
 rw [hd, show n - (k + 1) = d by omega, List.set_append_right _ _ (by rw [List.length_replicate]; exact Nat.le_refl _), List.length_replicate, Nat.sub_self]
 show List.replicate k r ++ (r :: List.replicate d 0) = _
 rw [List.replicate_succ', List.append_assoc]
 rfl
end

end Go.Proofs.YtfbfbijkkbflkaaGreatDoor
