/-
 KeB, KeC: what the statements of this layer share.
-/
import Derived.BigQuiet
import Derived.Laws.Bits64b
import Derived.Deep.MidRow
import Derived.Deep.WholeRow
import Derived.Test.YtbakkmfjamcbfaaKak
namespace Go.Proofs.Ytbakkmfjamcbfaa
open Go.RowKit Fm
set_option linter.unusedVariables false
set_option maxRecDepth 100000

def u64s (l : List Int) : List Value := l.map (.int .u64)
theorem u64s_length (l : List Int) : (u64s l).length = l.length := List.length_map ..
theorem u64s_at {l : List Int} {i : Nat} (h : i < l.length) : (u64s l)[i]? = some (.int .u64 (l.getD i 0)) := by
 unfold u64s
 rw [List.getElem?_map, List.getD_eq_getElem?_getD, List.getElem?_eq_getElem h]
 rfl
theorem u64s_set (l : List Int) (i : Nat) (x : Int) : (u64s l).set i (.int .u64 x) = u64s (l.set i x) := by
 unfold u64s
 rw [List.map_set]
theorem Vs.atL {w : World} {b : Nat} {l : List Int} {rest : List Value} {i : Nat} (h : Vs w b (u64s l ++ rest)) (hi : i < l.length) : w.cell? ⟨b, i, none⟩ = some (.int .u64 (l.getD i 0)) ∧ w.frozen? ⟨b, i, none⟩ = false ∧ b < w.heap.size := by
 refine ⟨h.cell i _ ?_, h.frz i ?_, h.lt⟩
 ·rw [List.getElem?_append_left (by rw [u64s_length]; exact hi)]
  exact u64s_at hi
 ·rw [List.length_append, u64s_length]
  omega
theorem Vs.putL {w : World} {b : Nat} {l : List Int} {rest : List Value} {i : Nat} (h : Vs w b (u64s l ++ rest)) (hi : i < l.length) (x : Int) : Vs (w.setCell ⟨b, i, none⟩ (.int .u64 x)) b (u64s (l.set i x) ++ rest) := by
 have h2 := h.put i (by rw [List.length_append, u64s_length]; omega) (.int .u64 x)
 rwa [List.set_append_left _ _ (by rw [u64s_length]; exact hi), u64s_set] at h2

theorem end_none {P : Program} {fn : Func} {R : Ending → World → Prop} {a : Act} {w : World} (hr : fn.results = #[]) (hd : a.defers = []) (hR : R (.returned (.tuple #[])) w) : bodyPost P fn R .normal a w :=
 bodyPost_end (by simp [results, hr]) hd hR
def X64 (a b : Int) : Int := bits BinOp.xor IntKind.u64 a b
def mixS (S : List Int) : Nat → List Int
 | 0 => List.replicate 5 0
 | i + 1 => (mixS S i).set (i % 5) (X64 ((mixS S i).getD (i % 5) 0) (S.getD i 0))
theorem mixS_length (S : List Int) : ∀ i, (mixS S i).length = 5
 | 0 => rfl
 | i + 1 => by
  show ((mixS S i).set _ _).length = 5
  rw [List.length_set, mixS_length S i]
def mixR (S sm : List Int) : Nat → List Int
 | 0 => S
 | i + 1 => (mixR S sm i).set i (X64 ((mixR S sm i).getD i 0) (X64 (sm.getD ((i + 4) % 5) 0) (rotI (sm.getD ((i + 1) % 5) 0) 1)))
theorem mixR_length (S sm : List Int) : ∀ i, (mixR S sm i).length = S.length
 | 0 => rfl
 | i + 1 => by
  show ((mixR S sm i).set _ _).length = _
  rw [List.length_set, mixR_length S sm i]
def mixF (S : List Int) : List Int := mixR S (mixS S 25) 25

set_option maxHeartbeats 8000000 in
theorem keccak_mix (S : List Int) (hS : S.length = 25) (rest : List Value) (b : Nat) (w : World) (hb : Vs w b (u64s S ++ rest)) :
  Calls Try.prog 127 #[.pointer (some ⟨b, 0, none⟩)] w fun e w' => e = .returned (.tuple #[]) ∧ Vs w' b (u64s (mixF S) ++ rest) ∧ Exc (fun q => q = b) w.heap.size w w' := by
 have HX : ∀ a b : Int, bits BinOp.xor IntKind.u64 a b = X64 a b := fun _ _ => rfl
 have HROT : Hid (∀ (x : Int) wz, Calls Try.prog 135 #[.int .u64 x, .int .i64 1] wz fun e w' => e = .returned (.int .u64 (rotI x 1)) ∧ wz = w') := fun x wz => bits_RotL x 1 wz (by decide)
 have HS := Lib.hid hS
 have hbl := hb.lt
 have hb00 : Below w.heap.size w w := Below.refl _ _
 go_enter Try.func127, Try.ntmps127
 go_upto_region 1 with fail
 have hs := Vs.new w [.int .u64 0, .int .u64 0, .int .u64 0, .int .u64 0, .int .u64 0] #[.int .u64 0, .int .u64 0, .int .u64 0, .int .u64 0, .int .u64 0] 216 rfl
 have hbA : Below w.heap.size w (w.alloc (.cells #[.int .u64 0, .int .u64 0, .int .u64 0, .int .u64 0, .int .u64 0] 216)) := by repeat (first | exact bA | with_reducible assumption | apply bB)
 replace hb00 := bl_call hb00 (Nat.le_refl _) hbA
 replace hb := hb.call hbA
 clear hbA
 generalize w.alloc (.cells #[.int .u64 0, .int .u64 0, .int .u64 0, .int .u64 0, .int .u64 0] 216) = w1 at hb00 hb hs ⊢
 obtain ⟨sb, hsbe⟩ : ∃ z, w.heap.size = z := ⟨_, rfl⟩
 rw [hsbe] at hs hbl
 simp only [hsbe]
 have HSB : Hid (w.heap.size = sb) := hsbe
 clear hsbe
 have hs1 : Vs w1 sb (u64s (mixS S 0) ++ []) := hs
 clear hs
 go_wp2_with fail
 go_loopw [7] (fun v7 wr => ∃ i : Nat, i ≤ 25 ∧ v7 = .int .i64 i ∧ Vs wr sb (u64s (mixS S i) ++ []) ∧ Vs wr b (u64s S ++ rest) ∧ Below w.heap.size w wr) (fun v7 _ => 25 - (intOf v7).toNat)
 case atStart => exact ⟨0, by omega, rfl, hs1, hb, hb00⟩
 case round =>
  clear hs1 hb hb00
  obtain ⟨i, hin, rfl, hs1, hb, hb00⟩ := hrel
  by_cases hlt : i < 25
  ·obtain ⟨c0, c1, c2⟩ := hb.atL (i := i) (by rw [HS.out]; exact hlt)
   obtain ⟨y9, hy9⟩ : ∃ z, S.getD i 0 = z := ⟨_, rfl⟩
   rw [hy9] at c0
   have hi1 : (i : Int) < 25 := by omega
   go_upto_region 3 with fail
   refine region_B (n := 5) (m := 6) (f := 5) (by kernel_rfl) (by kernel_rfl) rfl ?_
   refine WpH.vD 0 (some 9) ?_ rfl rfl (by kernel_rfl) (fun _ _ _ h => h) rfl (fun wz hwz => ?_) ?_
   rotate_left
   ·go_simp; try (with_reducible rfl)
   simp only [Zp, Zq, Zr, Zs]
   refine WpH.vD 1 (some 10) ?_ rfl rfl (by kernel_rfl) (fun _ _ _ h => h) rfl (fun wz hwz => ?_) ?_
   rotate_left
   ·go_simp; try (with_reducible rfl)
   simp only [Zp, Zq, Zr, Zs]
   refine WpH.vD 2 (some 11) ?_ rfl rfl (by kernel_rfl) (fun _ _ _ h => h) rfl (fun wz hwz => ?_) ?_
   rotate_left
   ·go_simp; try (with_reducible rfl)
   simp only [Zp, Zq, Zr, Zs]
   refine WpH.vD 3 (some 12) ?_ rfl rfl (by kernel_rfl) (fun _ _ _ h => h) rfl (fun wz hwz => ?_) ?_
   rotate_left
   ·(obtain ⟨hcz, hfz⟩ := bcell hwz; go_simp; try (with_reducible rfl))
   simp only [Zp, Zq, Zr, Zs]
   refine WpH.vD 4 (some 3) ?_ rfl rfl (by kernel_rfl) (fun _ _ _ h => h) rfl (fun wz hwz => ?_) ?_
   rotate_left
   ·go_simp; try (with_reducible rfl)
   simp only [Zp, Zq, Zr, Zs]
   refine WpH.doneB (by kernel_rfl) (fun w3 hw3 => ?_)
   (try simp only [List.drop_succ_cons]); (try simp only [List.drop_zero]); (try simp only [Nat.reduceSub]); (try simp only [List.take_succ_cons]); (try simp only [List.take_zero])
   clear c0 c1 c2 hi1
   replace hb00 := bl_call hb00 (Nat.le_refl _) hw3
   replace hs1 := hs1.call hw3
   replace hb := hb.call hw3
   clear hw3
   obtain ⟨r, hr⟩ : ∃ r, i % 5 = r := ⟨_, rfl⟩
   have hr5 : r < 5 := by omega
   have htm : (i : Int).tmod 5 = (r : Int) := by rw [Int.tmod_eq_emod_of_nonneg (by omega)]; omega
   have hr1 : (r : Int) < 5 := by omega
   obtain ⟨s0, s1, s2⟩ := hs1.atL (i := r) (by rw [mixS_length]; exact hr5)
   obtain ⟨x9, hx9⟩ : ∃ z, (mixS S i).getD r 0 = z := ⟨_, rfl⟩
   rw [hx9] at s0
   have HN := Lib.hid (hs1.putL (i := r) (by rw [mixS_length]; exact hr5) (X64 x9 y9))
   have HE : Hid ((mixS S i).set r (X64 x9 y9) = mixS S (i + 1)) := by
    show _ = (mixS S i).set (i % 5) (X64 ((mixS S i).getD (i % 5) 0) (S.getD i 0))
    rw [hr, hx9, hy9]
   have hne : sb ≠ b := by omega
   clear hs1 hx9 hy9 hr
   go_wp2_with fail
   go_roundw
   case rel => exact ⟨i + 1, by omega, by go_num, by rw [← HE.out]; exact HN.out, hb.far (p := ⟨sb, r, none⟩) hne _, bl_set (p := ⟨sb, r, none⟩) hb00 (Nat.le_of_eq HSB.out) _⟩
   case measure => simp [intOf]; omega
  ·have hie : i = 25 := by omega
   go_upto_region 6 with fail
   rw [hie] at hs1
   clear hie hin hlt
   obtain ⟨sm, hsm⟩ : ∃ l, mixS S 25 = l := ⟨_, rfl⟩
   have hsl : sm.length = 5 := by rw [← hsm, mixS_length]
   have HSL := Lib.hid hsl
   have HSM : Hid (mixF S = mixR S sm 25) := by show _ = _; unfold mixF; rw [hsm]
   rw [hsm] at hs1
   clear hsm hsl
   have hb1 : Vs wr b (u64s (mixR S sm 0) ++ rest) := hb
   clear hb
   go_wp2_with fail
   go_loopw [21] (fun v21 wq => ∃ i : Nat, i ≤ 25 ∧ v21 = .int .i64 i ∧ Vs wq sb (u64s sm ++ []) ∧ Vs wq b (u64s (mixR S sm i) ++ rest) ∧ Exc (fun q => q = b) w.heap.size w wq) (fun v21 _ => 25 - (intOf v21).toNat)
   case atStart => exact ⟨0, by omega, rfl, hs1, hb1, exc_of hb00⟩
   case round =>
    clear hs1 hb1 hb00
    obtain ⟨i, hin, rfl, hs1, hb1, hE⟩ := hrel
    by_cases hlt : i < 25
    ·have hil : i < (mixR S sm i).length := by rw [mixR_length, HS.out]; exact hlt
     obtain ⟨c0, c1, c2⟩ := hb1.atL (i := i) hil
     obtain ⟨r1, hr1⟩ : ∃ r, (i + 4) % 5 = r := ⟨_, rfl⟩
     obtain ⟨r2, hr2⟩ : ∃ r, (i + 1) % 5 = r := ⟨_, rfl⟩
     have hw1 : IntKind.i64.wrap ((i : Int) + 4) = (i : Int) + 4 := IntWalk.i64_in _ (by omega)
     have hw2 : IntKind.i64.wrap ((i : Int) + 1) = (i : Int) + 1 := IntWalk.i64_in _ (by omega)
     have ht1 : ((i : Int) + 4).tmod 5 = (r1 : Int) := by rw [Int.tmod_eq_emod_of_nonneg (by omega)]; omega
     have ht2 : ((i : Int) + 1).tmod 5 = (r2 : Int) := by rw [Int.tmod_eq_emod_of_nonneg (by omega)]; omega
     have hr15 : r1 < 5 := by omega
     have hr25 : r2 < 5 := by omega
     have hri1 : (r1 : Int) < 5 := by omega
     have hri2 : (r2 : Int) < 5 := by omega
     have hi1 : (i : Int) < 25 := by omega
     obtain ⟨s0, s1, s2⟩ := hs1.atL (i := r1) (by rw [HSL.out]; exact hr15)
     obtain ⟨s3, s4, s5⟩ := hs1.atL (i := r2) (by rw [HSL.out]; exact hr25)
     obtain ⟨a9, ha9⟩ : ∃ z, (mixR S sm i).getD i 0 = z := ⟨_, rfl⟩
     obtain ⟨b9, hb9⟩ : ∃ z, sm.getD r1 0 = z := ⟨_, rfl⟩
     obtain ⟨c9, hc9⟩ : ∃ z, sm.getD r2 0 = z := ⟨_, rfl⟩
     obtain ⟨d9, hd9⟩ : ∃ z, rotI c9 1 = z := ⟨_, rfl⟩
     have HRC : Hid (∀ wz, Calls Try.prog 135 #[.int .u64 c9, .int .i64 1] wz fun e w' => e = .returned (.int .u64 d9) ∧ Below wz.heap.size wz w') := fun wz => by
      rw [← hd9]
      exact (HROT.out c9 wz).mono fun e w' ⟨h1, h2⟩ => ⟨h1, h2 ▸ Below.refl _ _⟩
     rw [ha9] at c0
     rw [hb9] at s0
     rw [hc9] at s3
     have HIL := Lib.hid hil
     have HNE : Hid ((mixR S sm i).set i (X64 a9 (X64 b9 d9)) = mixR S sm (i + 1)) := by
      show _ = (mixR S sm i).set i (X64 ((mixR S sm i).getD i 0) (X64 (sm.getD ((i + 4) % 5) 0) (rotI (sm.getD ((i + 1) % 5) 0) 1)))
      rw [ha9, hr1, hr2, hb9, hc9, hd9]
     clear ha9 hb9 hc9 hd9 hr1 hr2 hil
     go_upto_region 9 with fail
     refine region_B (n := 20) (m := 21) (f := 20) (by kernel_rfl) (by kernel_rfl) rfl ?_
     refine WpH.vD 0 (some 24) ?_ rfl rfl (by kernel_rfl) (fun _ _ _ h => h) rfl (fun wz hwz => ?_) ?_
     rotate_left
     ·go_simp; try (with_reducible rfl)
     simp only [Zp, Zq, Zr, Zs]
     refine WpH.vD 1 (some 25) ?_ rfl rfl (by kernel_rfl) (fun _ _ _ h => h) rfl (fun wz hwz => ?_) ?_
     rotate_left
     ·go_simp; try (with_reducible rfl)
     simp only [Zp, Zq, Zr, Zs]
     refine WpH.vD 2 (some 26) ?_ rfl rfl (by kernel_rfl) (fun _ _ _ h => h) rfl (fun wz hwz => ?_) ?_
     rotate_left
     ·go_simp; try (with_reducible rfl)
     simp only [Zp, Zq, Zr, Zs]
     refine WpH.vD 3 (some 27) ?_ rfl rfl (by kernel_rfl) (fun _ _ _ h => h) rfl (fun wz hwz => ?_) ?_
     rotate_left
     ·go_simp; try (with_reducible rfl)
     simp only [Zp, Zq, Zr, Zs]
     refine WpH.vD 4 (some 28) ?_ rfl rfl (by kernel_rfl) (fun _ _ _ h => h) rfl (fun wz hwz => ?_) ?_
     rotate_left
     ·(obtain ⟨hcz, hfz⟩ := bcell hwz; go_simp; try (with_reducible rfl))
     simp only [Zp, Zq, Zr, Zs]
     refine WpH.vD 5 (some 29) ?_ rfl rfl (by kernel_rfl) (fun _ _ _ h => h) rfl (fun wz hwz => ?_) ?_
     rotate_left
     ·go_simp; try (with_reducible rfl)
     simp only [Zp, Zq, Zr, Zs]
     refine WpH.vD 6 (some 30) ?_ rfl rfl (by kernel_rfl) (fun _ _ _ h => h) rfl (fun wz hwz => ?_) ?_
     rotate_left
     ·go_simp; try (with_reducible rfl)
     simp only [Zp, Zq, Zr, Zs]
     refine WpH.vD 7 (some 31) ?_ rfl rfl (by kernel_rfl) (fun _ _ _ h => h) rfl (fun wz hwz => ?_) ?_
     rotate_left
     ·go_simp; try (with_reducible rfl)
     simp only [Zp, Zq, Zr, Zs]
     refine WpH.vD 8 (some 32) ?_ rfl rfl (by kernel_rfl) (fun _ _ _ h => h) rfl (fun wz hwz => ?_) ?_
     rotate_left
     ·go_simp; try (with_reducible rfl)
     simp only [Zp, Zq, Zr, Zs]
     refine WpH.vD 9 (some 33) ?_ rfl rfl (by kernel_rfl) (fun _ _ _ h => h) rfl (fun wz hwz => ?_) ?_
     rotate_left
     ·(obtain ⟨hcz, hfz⟩ := bcell hwz; go_simp; try (with_reducible rfl))
     simp only [Zp, Zq, Zr, Zs]
     refine WpH.vD 10 (some 34) ?_ rfl rfl (by kernel_rfl) (fun _ _ _ h => h) rfl (fun wz hwz => ?_) ?_
     rotate_left
     ·go_simp; try (with_reducible rfl)
     simp only [Zp, Zq, Zr, Zs]
     refine WpH.vD 11 (some 35) ?_ rfl rfl (by kernel_rfl) (fun _ _ _ h => h) rfl (fun wz hwz => ?_) ?_
     rotate_left
     ·go_simp; try (with_reducible rfl)
     simp only [Zp, Zq, Zr, Zs]
     refine WpH.vD 12 (some 36) ?_ rfl rfl (by kernel_rfl) (fun _ _ _ h => h) rfl (fun wz hwz => ?_) ?_
     rotate_left
     ·go_simp; try (with_reducible rfl)
     simp only [Zp, Zq, Zr, Zs]
     refine WpH.vD 13 (some 37) ?_ rfl rfl (by kernel_rfl) (fun _ _ _ h => h) rfl (fun wz hwz => ?_) ?_
     rotate_left
     ·go_simp; try (with_reducible rfl)
     simp only [Zp, Zq, Zr, Zs]
     refine WpH.vD 14 (some 38) ?_ rfl rfl (by kernel_rfl) (fun _ _ _ h => h) rfl (fun wz hwz => ?_) ?_
     rotate_left
     ·(obtain ⟨hcz, hfz⟩ := bcell hwz; go_simp; try (with_reducible rfl))
     simp only [Zp, Zq, Zr, Zs]
     refine WpH.takeD 15 (some 39) rfl rfl (by kernel_rfl) (fun _ _ _ h => h) (.call rfl (fun wz hwz => HRC.out wz) (fun wz hwz => ?_)) ?_
     ·go_simp; try (with_reducible rfl)
     simp only [Zp, Zq, Zr, Zs]
     refine WpH.vD 16 (some 40) ?_ rfl rfl (by kernel_rfl) (fun _ _ _ h => h) rfl (fun wz hwz => ?_) ?_
     rotate_left
     ·go_simp; try (with_reducible rfl)
     simp only [Zp, Zq, Zr, Zs]
     refine WpH.vD 17 (some 41) ?_ rfl rfl (by kernel_rfl) (fun _ _ _ h => h) rfl (fun wz hwz => ?_) ?_
     rotate_left
     ·go_simp; try (with_reducible rfl)
     simp only [Zp, Zq, Zr, Zs]
     refine WpH.vD 18 (some 42) ?_ rfl rfl (by kernel_rfl) (fun _ _ _ h => h) rfl (fun wz hwz => ?_) ?_
     rotate_left
     ·go_simp; try (with_reducible rfl)
     simp only [Zp, Zq, Zr, Zs]
     refine WpH.vD 19 (some 43) ?_ rfl rfl (by kernel_rfl) (fun _ _ _ h => h) rfl (fun wz hwz => ?_) ?_
     rotate_left
     ·go_simp; try (with_reducible rfl)
     simp only [Zp, Zq, Zr, Zs]
     refine WpH.doneB (by kernel_rfl) (fun w3 hw3 => ?_)
     (try simp only [List.drop_succ_cons]); (try simp only [List.drop_zero]); (try simp only [Nat.reduceSub]); (try simp only [List.take_succ_cons]); (try simp only [List.take_zero])
     clear c0 c1 c2 s0 s1 s2 s3 s4 s5 hw1 hw2 ht1 ht2 hr15 hr25 hri1 hri2 hi1
     replace hs1 := hs1.call hw3
     replace hb1 := hb1.call hw3
     replace hE := hE.call hw3
     clear hw3
     obtain ⟨c0, c1, c2⟩ := hb1.atL (i := i) HIL.out
     have HN := Lib.hid (hb1.putL (i := i) HIL.out (X64 a9 (X64 b9 d9)))
     have hne : b ≠ sb := by omega
     clear hb1
     go_wp2_with fail
     go_roundw
     case rel => exact ⟨i + 1, by omega, by go_num, hs1.far (p := ⟨b, i, none⟩) hne _, by rw [← HNE.out]; exact HN.out, hE.trans ⟨rfl, rfl, rfl, by simp [World.setCell], fun k hk hn => Below.heap_setCell _ _ _ _ (fun e => hn e)⟩⟩
     case measure => simp [intOf]; omega
    ·have hie : i = 25 := by omega
     rw [hie, ← HSM.out] at hb1
     have HB := Lib.hid hb1
     have HEE := Lib.hid hE
     clear hie hin hb1 hs1 hE HSM HSL HROT HX
     go_upto_region 99 with fail
     exact end_none Try.results127 rfl ⟨rfl, HB.out, HEE.out⟩

end Go.Proofs.Ytbakkmfjamcbfaa

namespace Go.Proofs.Ytbakkmfjamcbfaa
open Go.RowKit Fm
set_option linter.unusedVariables false
set_option maxRecDepth 100000

def trnL : List Nat := [0, 1, 62, 28, 27, 36, 44, 6, 55, 20, 3, 10, 43, 25, 39, 41, 45, 15, 21, 8, 18, 2, 61, 56, 14]
def i64s (l : List Nat) : List Value := l.map fun n : Nat => .int .i64 (n : Int)
abbrev trnA : Array Value := #[.int .i64 0, .int .i64 1, .int .i64 62, .int .i64 28, .int .i64 27, .int .i64 36, .int .i64 44, .int .i64 6, .int .i64 55, .int .i64 20, .int .i64 3, .int .i64 10, .int .i64 43, .int .i64 25, .int .i64 39, .int .i64 41, .int .i64 45, .int .i64 15, .int .i64 21, .int .i64 8, .int .i64 18, .int .i64 2, .int .i64 61, .int .i64 56, .int .i64 14]
abbrev z25 : Array Value := #[.int .i64 0, .int .i64 0, .int .i64 0, .int .i64 0, .int .i64 0, .int .i64 0, .int .i64 0, .int .i64 0, .int .i64 0, .int .i64 0, .int .i64 0, .int .i64 0, .int .i64 0, .int .i64 0, .int .i64 0, .int .i64 0, .int .i64 0, .int .i64 0, .int .i64 0, .int .i64 0, .int .i64 0, .int .i64 0, .int .i64 0, .int .i64 0, .int .i64 0]
theorem trnA_eq : trnA = (i64s trnL).toArray := by rfl
theorem results_row {P : Program} {fn : Func} {p : Tmp} {t : TypeId} {tmps : Array Value} {w : World} {b : Nat} {v : Value} (hl : (loadVar t ⟨b, 0, none⟩).run P w = .ok v w) (h : fn.results = #[.cell p t]) (hp : tmps.getD p undef = .pointer (some ⟨b, 0, none⟩)) :
  (results fn tmps).run P w = .ok v w := by
 rw [Array.getD_eq_getD_getElem?] at hp
 simp only [results, h]
 simp [hp, asAddr, hl]

set_option maxHeartbeats 2000000 in
theorem keccak_turns (w : World) : Calls Try.prog 136 #[] w fun e w' => e = .returned (.agg trnA) ∧ Below w.heap.size w w' := by
 go_enter Try.func136, Try.ntmps136
 go_upto_region 1 with fail
 refine wp_region_lit ?_
 refine wpList_val (v := .agg trnA) (w' := w.alloc (.cells z25 218)) rfl (by kernel_rfl) ?_
 refine wpList_skip (w' := w.alloc (.cells trnA 218)) rfl (exec_store_new _ _ _ _ _ rfl w z25 trnA (by kernel_rfl) (by kernel_rfl) (by kernel_rfl) rfl (by kernel_rfl)) ?_
 have hV := Vs.new w trnA.toList trnA 218 rfl
 have hbA : Below w.heap.size w (w.alloc (.cells trnA 218)) := (Below.refl _ _).alloc (Nat.le_refl _) _
 have hh : (w.alloc (.cells trnA 218)).heap[w.heap.size]? = some (.cells trnA 218) := heap_alloc_new w _
 generalize w.alloc (.cells trnA 218) = w1 at hV hbA hh ⊢
 go_upto_region 99 with fail
 exact bodyPost_ret (results_row (b := w.heap.size) (run_loadVar_row w1 w.heap.size _ _ trnA (0, 0) _ hh Try.underlying218 rfl (by kernel_rfl)) rfl rfl) rfl ⟨rfl, hbA⟩

abbrev conA : Array Value := #[.int .u64 2147516555, .int .u64 9223372036854775947, .int .u64 9223372036854808713, .int .u64 9223372036854808579, .int .u64 9223372036854808578, .int .u64 9223372036854775936, .int .u64 32778, .int .u64 9223372039002259466, .int .u64 9223372039002292353, .int .u64 9223372036854808704, .int .u64 2147483649, .int .u64 9223372039002292232]
abbrev z12 : Array Value := #[.int .u64 0, .int .u64 0, .int .u64 0, .int .u64 0, .int .u64 0, .int .u64 0, .int .u64 0, .int .u64 0, .int .u64 0, .int .u64 0, .int .u64 0, .int .u64 0]
def conL : List Int := [2147516555, 9223372036854775947, 9223372036854808713, 9223372036854808579, 9223372036854808578, 9223372036854775936, 32778, 9223372039002259466, 9223372039002292353, 9223372036854808704, 2147483649, 9223372039002292232]
set_option maxHeartbeats 2000000 in
theorem keccak_constants (w : World) : Calls Try.prog 126 #[] w fun e w' => e = .returned (.agg conA) ∧ Below w.heap.size w w' := by
 go_enter Try.func126, Try.ntmps126
 go_upto_region 1 with fail
 refine wp_region_lit ?_
 refine wpList_val (v := .agg conA) (w' := w.alloc (.cells z12 212)) rfl (by kernel_rfl) ?_
 refine wpList_skip (w' := w.alloc (.cells conA 212)) rfl (exec_store_new _ _ _ _ _ rfl w z12 conA (by kernel_rfl) (by kernel_rfl) (by kernel_rfl) rfl (by kernel_rfl)) ?_
 have hbA : Below w.heap.size w (w.alloc (.cells conA 212)) := (Below.refl _ _).alloc (Nat.le_refl _) _
 have hh : (w.alloc (.cells conA 212)).heap[w.heap.size]? = some (.cells conA 212) := heap_alloc_new w _
 generalize w.alloc (.cells conA 212) = w1 at hbA hh ⊢
 go_upto_region 99 with fail
 exact bodyPost_ret (results_row (b := w.heap.size) (run_loadVar_row w1 w.heap.size _ _ conA (0, 0) _ hh Try.underlying212 rfl (by kernel_rfl)) rfl rfl) rfl ⟨rfl, hbA⟩

end Go.Proofs.Ytbakkmfjamcbfaa
