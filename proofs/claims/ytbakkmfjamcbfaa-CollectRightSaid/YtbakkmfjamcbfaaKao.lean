/-
 KeG, KeH: what the statements of this layer share.
-/
import Derived.BigQuiet
import Derived.Laws.Bits64b
import Derived.Test.YtbakkmfjamcbfaaKan
namespace Go.Proofs.Ytbakkmfjamcbfaa
open Go.RowKit Fm
set_option linter.unusedVariables false
set_option maxRecDepth 100000

theorem permF_length {S : List Int} (h : S.length = 25) : (permF S).length = 25 := permS_length h 12
def flipF (S : List Int) (p : Nat) (c : Int) : List Int := S.set (p / 8) (X64 (S.getD (p / 8) 0) (IntKind.u64.wrap (c * 2 ^ min (8 * (p % 8)) 64)))
theorem flipF_length {S : List Int} (h : S.length = 25) (p : Nat) (c : Int) : (flipF S p c).length = 25 := by
 unfold flipF
 rw [List.length_set, h]

set_option maxHeartbeats 4000000 in
theorem keccak_flip (S : List Int) (hS : S.length = 25) (rest : List Value) (p : Nat) (hp : p < 200) (c : Int) (hc : 0 ≤ c ∧ c ≤ 255) (b : Nat) (w : World) (hb : Vs w b (u64s S ++ rest)) :
  Calls Try.prog 112 #[.pointer (some ⟨b, 0, none⟩), .int .i64 (p : Int), .int .u8 c] w fun e w' => e = .returned (.tuple #[]) ∧ Vs w' b (u64s (flipF S p c) ++ rest) ∧ Exc (fun q => q = b) w.heap.size w w' := by
 have HX : ∀ a b : Int, bits BinOp.xor IntKind.u64 a b = X64 a b := fun _ _ => rfl
 obtain ⟨q, hq⟩ : ∃ q, p / 8 = q := ⟨_, rfl⟩
 obtain ⟨r, hr⟩ : ∃ r, p % 8 = r := ⟨_, rfl⟩
 obtain ⟨n, hn⟩ : ∃ n, 8 * r = n := ⟨_, rfl⟩
 have hq25 : q < 25 := by omega
 have hq1 : (q : Int) < 25 := by omega
 have htq : (p : Int).tdiv 8 = (q : Int) := by rw [Int.tdiv_eq_ediv_of_nonneg (by omega)]; omega
 have htr : (p : Int).tmod 8 = (r : Int) := by rw [Int.tmod_eq_emod_of_nonneg (by omega)]; omega
 have hw1 : IntKind.i64.wrap (8 * (r : Int)) = (n : Int) := by rw [IntWalk.i64_in _ (by omega)]; omega
 have hwq : IntKind.i64.wrap (q : Int) = (q : Int) := IntWalk.i64_in _ (by omega)
 have hwc : IntKind.u64.wrap c = c := IntWalk.u64_in _ (by omega)
 obtain ⟨c0, c1, c2⟩ := hb.atL (i := q) (by omega)
 obtain ⟨x9, hx9⟩ : ∃ z, S.getD q 0 = z := ⟨_, rfl⟩
 rw [hx9] at c0
 have HF : Hid (flipF S p c = S.set q (X64 x9 (IntKind.u64.wrap (c * 2 ^ min n 64)))) := by
  show _ = _
  unfold flipF
  rw [hq, hr, hn, hx9]
 have HS := Lib.hid hS
 clear hq hr hn hx9 hc hS
 have hb00 : Below w.heap.size w w := Below.refl _ _
 go_enter Try.func112, Try.ntmps112
 go_upto_region 0 with fail
 refine region_B (n := 17) (m := 18) (f := 17) (by kernel_rfl) (by kernel_rfl) rfl ?_
 refine WpH.vD 0 (some 6) ?_ rfl rfl (by kernel_rfl) (fun _ _ _ h => h) rfl (fun wz hwz => ?_) ?_
 rotate_left
 ·go_simp; try (with_reducible rfl)
 simp only [Zp, Zq, Zr, Zs]
 refine WpH.vD 1 (some 7) ?_ rfl rfl (by kernel_rfl) (fun _ _ _ h => h) rfl (fun wz hwz => ?_) ?_
 rotate_left
 ·go_simp; try (with_reducible rfl)
 simp only [Zp, Zq, Zr, Zs]
 refine WpH.vD 2 (some 8) ?_ rfl rfl (by kernel_rfl) (fun _ _ _ h => h) rfl (fun wz hwz => ?_) ?_
 rotate_left
 ·go_simp; try (with_reducible rfl)
 simp only [Zp, Zq, Zr, Zs]
 refine WpH.vD 3 (some 9) ?_ rfl rfl (by kernel_rfl) (fun _ _ _ h => h) rfl (fun wz hwz => ?_) ?_
 rotate_left
 ·go_simp; try (with_reducible rfl)
 simp only [Zp, Zq, Zr, Zs]
 refine WpH.vD 4 (some 10) ?_ rfl rfl (by kernel_rfl) (fun _ _ _ h => h) rfl (fun wz hwz => ?_) ?_
 rotate_left
 ·go_simp; try (with_reducible rfl)
 simp only [Zp, Zq, Zr, Zs]
 refine WpH.vD 5 (some 11) ?_ rfl rfl (by kernel_rfl) (fun _ _ _ h => h) rfl (fun wz hwz => ?_) ?_
 rotate_left
 ·go_simp; try (with_reducible rfl)
 simp only [Zp, Zq, Zr, Zs]
 refine WpH.vD 6 (some 12) ?_ rfl rfl (by kernel_rfl) (fun _ _ _ h => h) rfl (fun wz hwz => ?_) ?_
 rotate_left
 ·(obtain ⟨hcz, hfz⟩ := bcell hwz; go_simp; try (with_reducible rfl))
 simp only [Zp, Zq, Zr, Zs]
 refine WpH.vD 7 (some 13) ?_ rfl rfl (by kernel_rfl) (fun _ _ _ h => h) rfl (fun wz hwz => ?_) ?_
 rotate_left
 ·go_simp; try (with_reducible rfl)
 simp only [Zp, Zq, Zr, Zs]
 refine WpH.vD 8 (some 14) ?_ rfl rfl (by kernel_rfl) (fun _ _ _ h => h) rfl (fun wz hwz => ?_) ?_
 rotate_left
 ·go_simp; try (with_reducible rfl)
 simp only [Zp, Zq, Zr, Zs]
 refine WpH.vD 9 (some 15) ?_ rfl rfl (by kernel_rfl) (fun _ _ _ h => h) rfl (fun wz hwz => ?_) ?_
 rotate_left
 ·go_simp; try (with_reducible rfl)
 simp only [Zp, Zq, Zr, Zs]
 refine WpH.vD 10 (some 16) ?_ rfl rfl (by kernel_rfl) (fun _ _ _ h => h) rfl (fun wz hwz => ?_) ?_
 rotate_left
 ·go_simp; try (with_reducible rfl)
 simp only [Zp, Zq, Zr, Zs]
 refine WpH.vD 11 (some 17) ?_ rfl rfl (by kernel_rfl) (fun _ _ _ h => h) rfl (fun wz hwz => ?_) ?_
 rotate_left
 ·go_simp; try (with_reducible rfl)
 simp only [Zp, Zq, Zr, Zs]
 refine WpH.vD 12 (some 18) ?_ rfl rfl (by kernel_rfl) (fun _ _ _ h => h) rfl (fun wz hwz => ?_) ?_
 rotate_left
 ·go_simp; try (with_reducible rfl)
 simp only [Zp, Zq, Zr, Zs]
 refine WpH.vD 13 (some 19) ?_ rfl rfl (by kernel_rfl) (fun _ _ _ h => h) rfl (fun wz hwz => ?_) ?_
 rotate_left
 ·go_simp; try (with_reducible rfl)
 simp only [Zp, Zq, Zr, Zs]
 refine WpH.vD 14 (some 20) ?_ rfl rfl (by kernel_rfl) (fun _ _ _ h => h) rfl (fun wz hwz => ?_) ?_
 rotate_left
 ·go_simp; try (with_reducible rfl)
 simp only [Zp, Zq, Zr, Zs]
 refine WpH.vD 15 (some 21) ?_ rfl rfl (by kernel_rfl) (fun _ _ _ h => h) rfl (fun wz hwz => ?_) ?_
 rotate_left
 ·go_simp; try (with_reducible rfl)
 simp only [Zp, Zq, Zr, Zs]
 refine WpH.vD 16 (some 22) ?_ rfl rfl (by kernel_rfl) (fun _ _ _ h => h) rfl (fun wz hwz => ?_) ?_
 rotate_left
 ·go_simp; try (with_reducible rfl)
 simp only [Zp, Zq, Zr, Zs]
 refine WpH.doneB (by kernel_rfl) (fun w1 hw1 => ?_)
 (try simp only [List.drop_succ_cons]); (try simp only [List.drop_zero]); (try simp only [Nat.reduceSub]); (try simp only [List.take_succ_cons]); (try simp only [List.take_zero])
 clear c0 c1 c2
 have hb1 := hb.call hw1
 obtain ⟨c0, c1, c2⟩ := hb1.atL (i := q) (by rw [HS.out]; exact hq25)
 have HN := Lib.hid (hb1.putL (i := q) (by rw [HS.out]; exact hq25) (X64 x9 (IntKind.u64.wrap (c * 2 ^ min n 64))))
 have HE : Hid (Exc (fun q => q = b) w.heap.size w w1) := exc_of hw1
 have HSZ : Hid (w.heap.size ≤ w1.heap.size) := hw1.size
 clear hb hb1 hw1 hb00
 go_wp2_with fail
 try go_upto_region 99 with fail
 exact end_none Try.results112 rfl ⟨rfl, by rw [HF.out]; exact HN.out, HE.out.trans ⟨rfl, rfl, rfl, by simp [World.setCell], fun k hk hn => Below.heap_setCell _ _ _ _ (fun e => hn e)⟩⟩

end Go.Proofs.Ytbakkmfjamcbfaa

namespace Go.Proofs.Ytbakkmfjamcbfaa
open Go.RowKit Fm
set_option linter.unusedVariables false
set_option maxRecDepth 100000

def Sp (w : World) (b : Nat) (S : List Int) (p : Nat) (d : Int) (g : Bool) : Prop := Vs w b (u64s S ++ [.int .i64 (p : Int), .int .u8 d, .bool g])
theorem Sp.cells {w : World} {b : Nat} {S : List Int} {p : Nat} {d : Int} {g : Bool} (h : Sp w b S p d g) (hS : S.length = 25) :
  (w.cell? ⟨b, 25, none⟩ = some (.int .i64 (p : Int)) ∧ w.cell? ⟨b, 26, none⟩ = some (.int .u8 d) ∧ w.cell? ⟨b, 27, none⟩ = some (.bool g)) ∧ (w.frozen? ⟨b, 25, none⟩ = false ∧ w.frozen? ⟨b, 26, none⟩ = false ∧ w.frozen? ⟨b, 27, none⟩ = false) ∧ b < w.heap.size := by
 have hl : (u64s S).length = 25 := by rw [u64s_length, hS]
 have hf : ∀ i, i < 28 → w.frozen? ⟨b, i, none⟩ = false := fun i hi => Vs.frz h i (by rw [List.length_append, hl]; exact hi)
 refine ⟨⟨Vs.cell h 25 _ ?_, Vs.cell h 26 _ ?_, Vs.cell h 27 _ ?_⟩, ⟨hf 25 (by omega), hf 26 (by omega), hf 27 (by omega)⟩, Vs.lt h⟩
 ·rw [List.getElem?_append_right (by omega), hl]; rfl
 ·rw [List.getElem?_append_right (by omega), hl]; rfl
 ·rw [List.getElem?_append_right (by omega), hl]; rfl
theorem Sp.setP {w : World} {b : Nat} {S : List Int} {p : Nat} {d : Int} {g : Bool} (h : Sp w b S p d g) (hS : S.length = 25) (p' : Nat) : Sp (w.setCell ⟨b, 25, none⟩ (.int .i64 (p' : Int))) b S p' d g := by
 have hl : (u64s S).length = 25 := by rw [u64s_length, hS]
 have h2 := Vs.put h 25 (by rw [List.length_append, hl]; show 25 < 28; omega) (.int .i64 (p' : Int))
 rw [List.set_append_right _ _ (by omega), hl] at h2
 exact h2
theorem Sp.setG {w : World} {b : Nat} {S : List Int} {p : Nat} {d : Int} {g : Bool} (h : Sp w b S p d g) (hS : S.length = 25) (g' : Bool) : Sp (w.setCell ⟨b, 27, none⟩ (.bool g')) b S p d g' := by
 have hl : (u64s S).length = 25 := by rw [u64s_length, hS]
 have h2 := Vs.put h 27 (by rw [List.length_append, hl]; show 27 < 28; omega) (.bool g')
 rw [List.set_append_right _ _ (by omega), hl] at h2
 exact h2
theorem Sp.call {w w' : World} {b : Nat} {S : List Int} {p : Nat} {d : Int} {g : Bool} (h : Sp w b S p d g) (hb : Below w.heap.size w w') : Sp w' b S p d g := Vs.call h hb

def stepW (s : List Int × Nat) (c : Int) : List Int × Nat := if s.2 = 168 then (flipF (permF s.1) 0 c, 1) else (flipF s.1 s.2 c, s.2 + 1)
theorem stepW_ok (T : List Int) (q : Nat) (c : Int) (h1 : T.length = 25) (h2 : q ≤ 168) : (stepW (T, q) c).1.length = 25 ∧ (stepW (T, q) c).2 ≤ 168 := by
 unfold stepW
 dsimp only
 by_cases h : q = 168
 ·rw [if_pos h]
  have h3 := flipF_length (permF_length h1) 0 c
  generalize flipF (permF T) 0 c = U at h3 ⊢
  exact ⟨h3, (by omega : 1 ≤ 168)⟩
 ·rw [if_neg h]
  have h3 := flipF_length h1 q c
  generalize flipF T q c = U at h3 ⊢
  exact ⟨h3, (by omega : q + 1 ≤ 168)⟩
def writeS (S : List Int) (p : Nat) (xs : List Int) : Nat → List Int × Nat
 | 0 => (S, p)
 | i + 1 => stepW (writeS S p xs i) (xs.getD i 0)
theorem writeS_ok {S : List Int} {p : Nat} {xs : List Int} (hS : S.length = 25) (hp : p ≤ 168) (i : Nat) : (writeS S p xs i).1.length = 25 ∧ (writeS S p xs i).2 ≤ 168 := by
 induction i with
 | zero => exact ⟨hS, hp⟩
 | succ i ih => exact stepW_ok _ _ _ ih.1 ih.2

set_option maxHeartbeats 4000000 in
theorem keccak_Write (S : List Int) (hS : S.length = 25) (p : Nat) (hp : p ≤ 168) (d : Int) (xs : List Int) (hx : ∀ i, i < xs.length → 0 ≤ xs.getD i 0 ∧ xs.getD i 0 ≤ 255) (hxl : xs.length ≤ 1000000) (bb o cc : Nat) (b : Nat) (w : World) (hb : Sp w b S p d false)
  (hrow : ∀ i, i < xs.length → w.cell? ⟨bb, o + i, none⟩ = some (.int .u8 (xs.getD i 0))) (hbb : bb < w.heap.size) (hne : bb ≠ b) :
  Calls Try.prog 94 #[.pointer (some ⟨b, 0, none⟩), .slice (some ⟨bb, o, none⟩) xs.length cc] w fun e w' => e = .returned (.tuple #[]) ∧ Sp w' b (writeS S p xs xs.length).1 (writeS S p xs xs.length).2 d false ∧ Exc (fun q => q = b) w.heap.size w w' := by
 have HS := Lib.hid hS
 have HROW := Lib.hid hrow
 have HX := Lib.hid hx
 have HP := Lib.hid hp
 have HXL := Lib.hid hxl
 have HBB : Hid (bb < w.heap.size) := hbb
 have HNE : Hid (bb ≠ b) := hne
 obtain ⟨n, hn⟩ : ∃ n, xs.length = n := ⟨_, rfl⟩
 have HN := Lib.hid hn
 rw [hn]
 have hE0 : Exc (fun q => q = b) w.heap.size w w := exc_of (Below.refl _ _)
 obtain ⟨⟨c0, c1, c2⟩, ⟨c3, c4, c5⟩, c6⟩ := hb.cells hS
 clear hS hrow hx hp hxl hbb hne hn
 go_enter Try.func94, Try.ntmps94
 go_wp2_with fail
 clear c0 c1 c2 c3 c4 c5 c6
 have hb0 : Sp w b (writeS S p xs 0).1 (writeS S p xs 0).2 d false := hb
 clear hb
 go_loopw [16] (fun v16 wr => ∃ i : Nat, i ≤ n ∧ v16 = .int .i64 i ∧ Sp wr b (writeS S p xs i).1 (writeS S p xs i).2 d false ∧ Exc (fun q => q = b) w.heap.size w wr) (fun v16 _ => n - (intOf v16).toNat)
 case atStart => exact ⟨0, Nat.zero_le _, rfl, hb0, hE0⟩
 case round =>
  clear hb0 hE0
  obtain ⟨i, hin, rfl, hb, hE⟩ := hrel
  by_cases hlt : i < n
  ·obtain ⟨h1, h2⟩ := writeS_ok (xs := xs) HS.out HP.out i
   have HST : Hid (writeS S p xs (i + 1) = stepW (writeS S p xs i) (xs.getD i 0)) := rfl
   obtain ⟨⟨T, q⟩, hT⟩ : ∃ z, writeS S p xs i = z := ⟨_, rfl⟩
   rw [hT] at HST hb h1 h2
   dsimp only at hb h1 h2
   obtain ⟨y, hy⟩ : ∃ z, xs.getD i 0 = z := ⟨_, rfl⟩
   have hyr := HX.out i (by rw [HN.out]; exact hlt)
   have hrw := cell_exc (HROW.out i (by rw [HN.out]; exact hlt)) HNE.out hE
   rw [hy] at HST hyr hrw
   have hbr : bb < wr.heap.size := Nat.lt_of_lt_of_le HBB.out hE.size
   have H1 := Lib.hid h1
   have HY := Lib.hid hyr
   obtain ⟨⟨c0, c1, c2⟩, ⟨c3, c4, c5⟩, c6⟩ := hb.cells h1
   by_cases hq : q = 168
   ·have hq1 : ((q : Int) == 168) = true := by rw [beq_iff_eq]; omega
    have HPm : Hid (∀ wz, Sp wz b T q d false → Calls Try.prog 111 #[.pointer (some ⟨b, 0, none⟩)] wz fun e w' => e = .returned (.tuple #[]) ∧ Sp w' b (permF T) q d false ∧ Exc (fun q => q = b) wz.heap.size wz w') := fun wz h => keccak_Permute T H1.out _ b wz h
    have hpl := permF_length H1.out
    have HST1 : Hid (writeS S p xs (i + 1) = (flipF (permF T) 0 y, 1)) := by
     show _ = _
     rw [HST.out]
     unfold stepW
     exact if_pos hq
    generalize permF T = U at HPm hpl HST1
    have HU := Lib.hid hpl
    have HF : Hid (∀ wz, Sp wz b U 0 d false → Calls Try.prog 112 #[.pointer (some ⟨b, 0, none⟩), .int .i64 0, .int .u8 y] wz fun e w' => e = .returned (.tuple #[]) ∧ Sp w' b (flipF U 0 y) 0 d false ∧ Exc (fun q => q = b) wz.heap.size wz w') := fun wz h => keccak_flip U HU.out _ 0 (by omega) y HY.out b wz h
    have hfl := flipF_length HU.out 0 y
    generalize flipF U 0 y = X at HF HST1 hfl
    have HV := Lib.hid hfl
    clear hT hy hyr h1 hfl hpl hq HST
    go_upto_region 6 with (go_at_call 111; refine (HPm.out _ hb).mono ?_; rintro e w2 ⟨rfl, hb2, hE2⟩)
    clear c0 c1 c2 c3 c4 c5 c6 hb
    replace hE := hE.trans (hE2.mono hE.size)
    obtain ⟨⟨c0, c1, c2⟩, ⟨c3, c4, c5⟩, c6⟩ := hb2.cells HU.out
    have hb3 : Sp (w2.setCell ⟨b, 25, none⟩ (.int .i64 0)) b U 0 d false := hb2.setP HU.out 0
    replace hE : Exc (fun q => q = b) w.heap.size w (w2.setCell ⟨b, 25, none⟩ (.int .i64 0)) := hE.trans ⟨rfl, rfl, rfl, by simp [World.setCell], fun k hk hn => Below.heap_setCell _ _ _ _ (fun e => hn e)⟩
    have hrw3 := cell_exc (HROW.out i (by rw [HN.out]; exact hlt)) HNE.out hE
    clear hE2 hb2
    go_upto_region 7 with fail
    obtain ⟨w3, hw3⟩ : ∃ z, w2.setCell ⟨b, 25, none⟩ (.int .i64 0) = z := ⟨_, rfl⟩
    rw [hw3] at hb3 hE hrw3 ⊢
    clear hw3 c0 c1 c2 c3 c4 c5 c6 hrw hrw3
    obtain ⟨⟨c0, c1, c2⟩, ⟨c3, c4, c5⟩, c6⟩ := hb3.cells HU.out
    go_upto_region 8 with (go_at_call 112; refine (HF.out _ hb3).mono ?_; rintro e w4 ⟨rfl, hb4, hE4⟩)
    clear c0 c1 c2 c3 c4 c5 c6 hb3
    replace hE := hE.trans (hE4.mono hE.size)
    obtain ⟨⟨c0, c1, c2⟩, ⟨c3, c4, c5⟩, c6⟩ := hb4.cells HV.out
    have HNN := Lib.hid (hb4.setP HV.out 1)
    clear hE4 hb4
    have hn6 : n ≤ 1000000 := by rw [← HN.out]; exact HXL.out
    go_wp2_with fail
    go_roundw
    case rel => exact ⟨i + 1, by omega, by go_num, by rw [HST1.out]; exact HNN.out, hE.trans ⟨rfl, rfl, rfl, by simp [World.setCell], fun k hk hn => Below.heap_setCell _ _ _ _ (fun e => hn e)⟩⟩
    case measure => simp [intOf]; omega
   ·have hq1 : ((q : Int) == 168) = false := by rw [beq_eq_false_iff_ne]; omega
    have HF : Hid (∀ wz, Sp wz b T q d false → Calls Try.prog 112 #[.pointer (some ⟨b, 0, none⟩), .int .i64 (q : Int), .int .u8 y] wz fun e w' => e = .returned (.tuple #[]) ∧ Sp w' b (flipF T q y) q d false ∧ Exc (fun q => q = b) wz.heap.size wz w') := fun wz h => keccak_flip T H1.out _ q (by omega) y HY.out b wz h
    have HST2 : Hid (writeS S p xs (i + 1) = (flipF T q y, q + 1)) := by
     show _ = _
     rw [HST.out]
     unfold stepW
     exact if_neg hq
    have hfl := flipF_length H1.out q y
    have hw1 : IntKind.i64.wrap ((q : Int) + 1) = ((q + 1 : Nat) : Int) := by rw [IntWalk.i64_in _ (by omega)]; omega
    generalize flipF T q y = U at HF HST2 hfl
    have HU := Lib.hid hfl
    clear hT hy hyr h1 hfl hq HST
    go_upto_region 8 with (go_at_call 112; refine (HF.out _ hb).mono ?_; rintro e w2 ⟨rfl, hb2, hE2⟩)
    clear c0 c1 c2 c3 c4 c5 c6 hrw hb
    replace hE := hE.trans (hE2.mono hE.size)
    obtain ⟨⟨c0, c1, c2⟩, ⟨c3, c4, c5⟩, c6⟩ := hb2.cells HU.out
    have HNN := Lib.hid (hb2.setP HU.out (q + 1))
    clear hE2 hb2
    have hn6 : n ≤ 1000000 := by rw [← HN.out]; exact HXL.out
    go_wp2_with fail
    go_roundw
    case rel => exact ⟨i + 1, by omega, by go_num, by rw [HST2.out]; exact HNN.out, hE.trans ⟨rfl, rfl, rfl, by simp [World.setCell], fun k hk hn => Below.heap_setCell _ _ _ _ (fun e => hn e)⟩⟩
    case measure => simp [intOf]; omega
  ·have hie : i = n := by omega
   have HB : Hid (Sp wr b (writeS S p xs n).1 (writeS S p xs n).2 d false) := by
    rw [hie] at hb
    exact hb
   have HE := Lib.hid hE
   clear hb hE hie
   go_upto_region 99 with fail
   exact end_none Try.results94 rfl ⟨rfl, HB.out, HE.out⟩

end Go.Proofs.Ytbakkmfjamcbfaa
