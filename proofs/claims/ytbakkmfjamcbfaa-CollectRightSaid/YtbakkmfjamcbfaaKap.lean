/-
 KeI: what the statements of this layer share.
-/
import Derived.BigQuiet
import Derived.Laws.Bits64b
import Derived.Test.YtbakkmfjamcbfaaKao
namespace Go.Proofs.Ytbakkmfjamcbfaa
open Go.RowKit Fm
set_option linter.unusedVariables false
set_option maxRecDepth 100000

def turnS (S : List Int) (p : Nat) : List Int × Nat := if p = 168 then (permF S, 0) else (S, p)
theorem turnS_ok {S : List Int} {p : Nat} (hS : S.length = 25) (hp : p ≤ 168) : (turnS S p).1.length = 25 ∧ (turnS S p).2 ≤ 167 := by
 have h1 := permF_length hS
 unfold turnS
 generalize permF S = U at h1 ⊢
 by_cases h : p = 168
 ·rw [if_pos h]
  exact ⟨h1, Nat.zero_le 167⟩
 ·rw [if_neg h]
  exact ⟨hS, (by omega : p ≤ 167)⟩
def endS (S : List Int) (p : Nat) (d : Int) : List Int := permF (flipF (flipF (turnS S p).1 (turnS S p).2 d) 167 128)
theorem endS_length {S : List Int} {p : Nat} (hS : S.length = 25) (hp : p ≤ 168) (d : Int) : (endS S p d).length = 25 := permF_length (flipF_length (flipF_length (turnS_ok hS hp).1 _ _) _ _)

theorem exc_set9 {B : Nat} {w0 w : World} {b i : Nat} {v : Value} (h : Exc (fun q => q = b) B w0 w) : Exc (fun q => q = b) B w0 (w.setCell ⟨b, i, none⟩ v) :=
 h.trans ⟨rfl, rfl, rfl, by simp [World.setCell], fun k hk hn => Below.heap_setCell _ _ _ _ (fun e => hn e)⟩


set_option maxHeartbeats 4000000 in
theorem keccak_end (S : List Int) (hS : S.length = 25) (p : Nat) (hp : p ≤ 168) (d : Int) (hd : 0 ≤ d ∧ d ≤ 255) (b : Nat) (w : World) (hb : Sp w b S p d false) :
  Calls Try.prog 113 #[.pointer (some ⟨b, 0, none⟩)] w fun e w' => e = .returned (.tuple #[]) ∧ Sp w' b (endS S p d) 0 d true ∧ Exc (fun q => q = b) w.heap.size w w' := by
 have HS := Lib.hid hS
 have HD := Lib.hid hd
 have HP := Lib.hid hp
 obtain ⟨hU, hq⟩ := turnS_ok hS hp
 have HT : Hid (turnS S p = (if p = 168 then (permF S, 0) else (S, p))) := rfl
 have HPm : Hid (∀ wz, Sp wz b S p d false → Calls Try.prog 111 #[.pointer (some ⟨b, 0, none⟩)] wz fun e w' => e = .returned (.tuple #[]) ∧ Sp w' b (permF S) p d false ∧ Exc (fun q => q = b) wz.heap.size wz w') := fun wz h => keccak_Permute S hS _ b wz h
 have hpl := permF_length hS
 show Calls _ _ _ _ fun e w' => e = .returned (.tuple #[]) ∧ Sp w' b (permF (flipF (flipF (turnS S p).1 (turnS S p).2 d) 167 128)) 0 d true ∧ Exc (fun q => q = b) w.heap.size w w'
 generalize turnS S p = z at *
 obtain ⟨U, q⟩ := z
 dsimp only at hU hq ⊢
 have HF1 : Hid (∀ wz, Sp wz b U q d false → Calls Try.prog 112 #[.pointer (some ⟨b, 0, none⟩), .int .i64 (q : Int), .int .u8 d] wz fun e w' => e = .returned (.tuple #[]) ∧ Sp w' b (flipF U q d) q d false ∧ Exc (fun q => q = b) wz.heap.size wz w') := fun wz h => keccak_flip U hU _ q (by omega) d HD.out b wz h
 have h2 := flipF_length hU q d
 generalize flipF U q d = U2 at HF1 h2 ⊢
 have HF2 : Hid (∀ wz, Sp wz b U2 q d false → Calls Try.prog 112 #[.pointer (some ⟨b, 0, none⟩), .int .i64 167, .int .u8 128] wz fun e w' => e = .returned (.tuple #[]) ∧ Sp w' b (flipF U2 167 128) q d false ∧ Exc (fun q => q = b) wz.heap.size wz w') := fun wz h => keccak_flip U2 h2 _ 167 (by omega) 128 (by omega) b wz h
 have h3 := flipF_length h2 167 128
 generalize flipF U2 167 128 = U3 at HF2 h3 ⊢
 have HP3 : Hid (∀ wz, Sp wz b U3 q d false → Calls Try.prog 111 #[.pointer (some ⟨b, 0, none⟩)] wz fun e w' => e = .returned (.tuple #[]) ∧ Sp w' b (permF U3) q d false ∧ Exc (fun q => q = b) wz.heap.size wz w') := fun wz h => keccak_Permute U3 h3 _ b wz h
 have h4 := permF_length h3
 generalize permF U3 = U4 at HP3 h4 ⊢
 have HL := Lib.hid h4
 have HU := Lib.hid hU
 have HQ := Lib.hid hq
 generalize permF S = S1 at HT HPm hpl
 have HPL := Lib.hid hpl
 have hE : Exc (fun q => q = b) w.heap.size w w := exc_of (Below.refl _ _)
 obtain ⟨⟨c0, c1, c2⟩, ⟨c3, c4, c5⟩, c6⟩ := hb.cells hS
 clear hS hp hd h2 h3 h4 hU hq hpl
 by_cases hp : p = 168
 ·have hz := HT.out
  rw [if_pos hp] at hz
  injection hz with hz1 hz2
  subst hz1
  subst hz2
  subst hp
  have HFLAG : Hid True := trivial
  go_enter Try.func113, Try.ntmps113
  go_upto_region 2 with (go_at_call 111; refine (HPm.out _ hb).mono ?_; rintro e w2 ⟨rfl, hb2, hE2⟩)
  clear c0 c1 c2 c3 c4 c5 c6 hb
  replace hE := hE.trans (hE2.mono hE.size)
  obtain ⟨⟨c0, c1, c2⟩, ⟨c3, c4, c5⟩, c6⟩ := hb2.cells HU.out
  have hb3 : Sp (w2.setCell ⟨b, 25, none⟩ (.int .i64 0)) b U 0 d false := hb2.setP HU.out 0
  replace hE : Exc (fun q => q = b) w.heap.size w (w2.setCell ⟨b, 25, none⟩ (.int .i64 0)) := exc_set9 hE
  clear hE2 hb2
  go_upto_region 3 with fail
  obtain ⟨w3, hw3⟩ : ∃ z, w2.setCell ⟨b, 25, none⟩ (.int .i64 0) = z := ⟨_, rfl⟩
  rw [hw3] at hb3 hE ⊢
  clear hw3 c0 c1 c2 c3 c4 c5 c6
  obtain ⟨⟨c0, c1, c2⟩, ⟨c3, c4, c5⟩, c6⟩ := hb3.cells HU.out
  have hb00 := Below.refl w3.heap.size w3
  refine region_B (n := 9) (m := 10) (f := 9) (by kernel_rfl) (by kernel_rfl) rfl ?_
  refine WpH.vD 0 (some 14) ?_ rfl rfl (by kernel_rfl) (fun _ _ _ h => h) rfl (fun wz hwz => ?_) ?_
  rotate_left
  ·go_simp; try (with_reducible rfl)
  simp only [Zp, Zq, Zr, Zs]
  refine WpH.vD 1 (some 15) ?_ rfl rfl (by kernel_rfl) (fun _ _ _ h => h) rfl (fun wz hwz => ?_) ?_
  rotate_left
  ·go_simp; try (with_reducible rfl)
  simp only [Zp, Zq, Zr, Zs]
  refine WpH.vD 2 (some 16) ?_ rfl rfl (by kernel_rfl) (fun _ _ _ h => h) rfl (fun wz hwz => ?_) ?_
  rotate_left
  ·go_simp; try (with_reducible rfl)
  simp only [Zp, Zq, Zr, Zs]
  refine WpH.vD 3 (some 17) ?_ rfl rfl (by kernel_rfl) (fun _ _ _ h => h) rfl (fun wz hwz => ?_) ?_
  rotate_left
  ·go_simp; try (with_reducible rfl)
  simp only [Zp, Zq, Zr, Zs]
  refine WpH.vD 4 (some 18) ?_ rfl rfl (by kernel_rfl) (fun _ _ _ h => h) rfl (fun wz hwz => ?_) ?_
  rotate_left
  ·(obtain ⟨hcz, hfz⟩ := bcell hwz; go_simp; try (with_reducible rfl))
  simp only [Zp, Zq, Zr, Zs]
  refine WpH.vD 5 (some 19) ?_ rfl rfl (by kernel_rfl) (fun _ _ _ h => h) rfl (fun wz hwz => ?_) ?_
  rotate_left
  ·go_simp; try (with_reducible rfl)
  simp only [Zp, Zq, Zr, Zs]
  refine WpH.vD 6 (some 20) ?_ rfl rfl (by kernel_rfl) (fun _ _ _ h => h) rfl (fun wz hwz => ?_) ?_
  rotate_left
  ·go_simp; try (with_reducible rfl)
  simp only [Zp, Zq, Zr, Zs]
  refine WpH.vD 7 (some 21) ?_ rfl rfl (by kernel_rfl) (fun _ _ _ h => h) rfl (fun wz hwz => ?_) ?_
  rotate_left
  ·go_simp; try (with_reducible rfl)
  simp only [Zp, Zq, Zr, Zs]
  refine WpH.vD 8 (some 22) ?_ rfl rfl (by kernel_rfl) (fun _ _ _ h => h) rfl (fun wz hwz => ?_) ?_
  rotate_left
  ·(obtain ⟨hcz, hfz⟩ := bcell hwz; go_simp; try (with_reducible rfl))
  simp only [Zp, Zq, Zr, Zs]
  refine WpH.doneB (by kernel_rfl) (fun w4 hw4 => ?_)
  (try simp only [List.drop_succ_cons]); (try simp only [List.drop_zero]); (try simp only [Nat.reduceSub]); (try simp only [List.take_succ_cons]); (try simp only [List.take_zero])
  have hb4 := hb3.call hw4
  replace hE := hE.call hw4
  clear hb3 c0 c1 c2 c3 c4 c5 c6 hw4 hb00
  go_upto_region 4 with (go_at_call 112; refine (HF1.out _ hb4).mono ?_; rintro e w5 ⟨rfl, hb5, hE5⟩)
  replace hE := hE.trans (hE5.mono hE.size)
  clear hE5 hb4
  go_upto_region 5 with (go_at_call 112; refine (HF2.out _ hb5).mono ?_; rintro e w6 ⟨rfl, hb6, hE6⟩)
  replace hE := hE.trans (hE6.mono hE.size)
  clear hE6 hb5
  go_upto_region 6 with (go_at_call 111; refine (HP3.out _ hb6).mono ?_; rintro e w7 ⟨rfl, hb7, hE7⟩)
  replace hE := hE.trans (hE7.mono hE.size)
  clear hE7 hb6
  obtain ⟨⟨c0, c1, c2⟩, ⟨c3, c4, c5⟩, c6⟩ := hb7.cells HL.out
  have HNN := Lib.hid ((hb7.setP HL.out 0).setG HL.out true)
  have HEE := Lib.hid (exc_set9 (i := 27) (v := .bool true) (exc_set9 (i := 25) (v := .int .i64 0) hE))
  clear hb7 hE
  go_upto_region 99 with fail
  exact end_none Try.results113 rfl ⟨rfl, HNN.out, HEE.out⟩
 ·have hz := HT.out
  rw [if_neg hp] at hz
  injection hz with hz1 hz2
  subst hz1
  subst hz2
  have hp1 : ((q : Int) == 168) = false := by rw [beq_eq_false_iff_ne]; omega
  go_enter Try.func113, Try.ntmps113
  go_upto_region 3 with fail
  obtain ⟨w3, hw3⟩ : ∃ z, w = z := ⟨_, rfl⟩
  have hb3 := hb
  rw [hw3] at hb3
  clear hp hp1 hb
  replace hE : Exc (fun q => q = b) w.heap.size w w3 := by
   rw [← hw3]
   exact hE
  rw [hw3] at c0 c1 c2 c3 c4 c5 c6 ⊢
  have HEE0 := Lib.hid hE
  have hb00 := Below.refl w3.heap.size w3
  refine region_B (n := 9) (m := 10) (f := 9) (by kernel_rfl) (by kernel_rfl) rfl ?_
  refine WpH.vD 0 (some 14) ?_ rfl rfl (by kernel_rfl) (fun _ _ _ h => h) rfl (fun wz hwz => ?_) ?_
  rotate_left
  ·go_simp; try (with_reducible rfl)
  simp only [Zp, Zq, Zr, Zs]
  refine WpH.vD 1 (some 15) ?_ rfl rfl (by kernel_rfl) (fun _ _ _ h => h) rfl (fun wz hwz => ?_) ?_
  rotate_left
  ·go_simp; try (with_reducible rfl)
  simp only [Zp, Zq, Zr, Zs]
  refine WpH.vD 2 (some 16) ?_ rfl rfl (by kernel_rfl) (fun _ _ _ h => h) rfl (fun wz hwz => ?_) ?_
  rotate_left
  ·go_simp; try (with_reducible rfl)
  simp only [Zp, Zq, Zr, Zs]
  refine WpH.vD 3 (some 17) ?_ rfl rfl (by kernel_rfl) (fun _ _ _ h => h) rfl (fun wz hwz => ?_) ?_
  rotate_left
  ·go_simp; try (with_reducible rfl)
  simp only [Zp, Zq, Zr, Zs]
  refine WpH.vD 4 (some 18) ?_ rfl rfl (by kernel_rfl) (fun _ _ _ h => h) rfl (fun wz hwz => ?_) ?_
  rotate_left
  ·(obtain ⟨hcz, hfz⟩ := bcell hwz; go_simp; try (with_reducible rfl))
  simp only [Zp, Zq, Zr, Zs]
  refine WpH.vD 5 (some 19) ?_ rfl rfl (by kernel_rfl) (fun _ _ _ h => h) rfl (fun wz hwz => ?_) ?_
  rotate_left
  ·go_simp; try (with_reducible rfl)
  simp only [Zp, Zq, Zr, Zs]
  refine WpH.vD 6 (some 20) ?_ rfl rfl (by kernel_rfl) (fun _ _ _ h => h) rfl (fun wz hwz => ?_) ?_
  rotate_left
  ·go_simp; try (with_reducible rfl)
  simp only [Zp, Zq, Zr, Zs]
  refine WpH.vD 7 (some 21) ?_ rfl rfl (by kernel_rfl) (fun _ _ _ h => h) rfl (fun wz hwz => ?_) ?_
  rotate_left
  ·go_simp; try (with_reducible rfl)
  simp only [Zp, Zq, Zr, Zs]
  refine WpH.vD 8 (some 22) ?_ rfl rfl (by kernel_rfl) (fun _ _ _ h => h) rfl (fun wz hwz => ?_) ?_
  rotate_left
  ·(obtain ⟨hcz, hfz⟩ := bcell hwz; go_simp; try (with_reducible rfl))
  simp only [Zp, Zq, Zr, Zs]
  refine WpH.doneB (by kernel_rfl) (fun w4 hw4 => ?_)
  (try simp only [List.drop_succ_cons]); (try simp only [List.drop_zero]); (try simp only [Nat.reduceSub]); (try simp only [List.take_succ_cons]); (try simp only [List.take_zero])
  have hb4 := hb3.call hw4
  replace hE := hE.call hw4
  clear hb3 c0 c1 c2 c3 c4 c5 c6 hw4 hb00
  go_upto_region 4 with (go_at_call 112; refine (HF1.out _ hb4).mono ?_; rintro e w5 ⟨rfl, hb5, hE5⟩)
  replace hE := hE.trans (hE5.mono hE.size)
  clear hE5 hb4
  go_upto_region 5 with (go_at_call 112; refine (HF2.out _ hb5).mono ?_; rintro e w6 ⟨rfl, hb6, hE6⟩)
  replace hE := hE.trans (hE6.mono hE.size)
  clear hE6 hb5
  go_upto_region 6 with (go_at_call 111; refine (HP3.out _ hb6).mono ?_; rintro e w7 ⟨rfl, hb7, hE7⟩)
  replace hE := hE.trans (hE7.mono hE.size)
  clear hE7 hb6
  obtain ⟨⟨c0, c1, c2⟩, ⟨c3, c4, c5⟩, c6⟩ := hb7.cells HL.out
  have HNN := Lib.hid ((hb7.setP HL.out 0).setG HL.out true)
  have HEE := Lib.hid (exc_set9 (i := 27) (v := .bool true) (exc_set9 (i := 25) (v := .int .i64 0) hE))
  clear hb7 hE
  go_upto_region 99 with fail
  exact end_none Try.results113 rfl ⟨rfl, HNN.out, HEE.out⟩

end Go.Proofs.Ytbakkmfjamcbfaa
