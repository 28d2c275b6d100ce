/-
 KeE, KeF: what the statements of this layer share.
-/
import Derived.BigQuiet
import Derived.Laws.Bits64b
import Derived.Test.YtbakkmfjamcbfaaKam
namespace Go.Proofs.Ytbakkmfjamcbfaa
open Go.RowKit Fm
set_option linter.unusedVariables false
set_option maxRecDepth 100000

def N64 (a : Int) : Int := X64 (if IntKind.u64.signed = true then -1 else IntKind.u64.max) a
def A64 (a b : Int) : Int := bits BinOp.and IntKind.u64 a b
def bendO (S : List Int) : Nat → List Int
 | 0 => List.replicate 25 0
 | i + 1 => (bendO S i).set i (X64 (S.getD i 0) (A64 (N64 (S.getD (i / 5 * 5 + (i + 1) % 5) 0)) (S.getD (i / 5 * 5 + (i + 2) % 5) 0)))
theorem bendO_length (S : List Int) : ∀ i, (bendO S i).length = 25
 | 0 => rfl
 | i + 1 => by
  show ((bendO S i).set _ _).length = 25
  rw [List.length_set, bendO_length S i]
def bendF (S : List Int) : List Int := bendO S 25

set_option maxHeartbeats 4000000 in
theorem keccak_bend (S : List Int) (hS : S.length = 25) (rest : List Value) (b : Nat) (w : World) (hb : Vs w b (u64s S ++ rest)) :
  Calls Try.prog 129 #[.pointer (some ⟨b, 0, none⟩)] w fun e w' => e = .returned (.tuple #[]) ∧ Vs w' b (u64s (bendF S) ++ rest) ∧ Exc (fun q => q = b) w.heap.size w w' := by
 have HX : ∀ a b : Int, bits BinOp.xor IntKind.u64 a b = X64 a b := fun _ _ => rfl
 have HA : ∀ a b : Int, bits BinOp.and IntKind.u64 a b = A64 a b := fun _ _ => rfl
 have HS := Lib.hid hS
 have hbl := hb.lt
 have hb00 : Below w.heap.size w w := Below.refl _ _
 go_enter Try.func129, Try.ntmps129
 go_upto_region 1 with fail
 have hO9 := Vs.new w [.int .u64 0, .int .u64 0, .int .u64 0, .int .u64 0, .int .u64 0, .int .u64 0, .int .u64 0, .int .u64 0, .int .u64 0, .int .u64 0, .int .u64 0, .int .u64 0, .int .u64 0, .int .u64 0, .int .u64 0, .int .u64 0, .int .u64 0, .int .u64 0, .int .u64 0, .int .u64 0, .int .u64 0, .int .u64 0, .int .u64 0, .int .u64 0, .int .u64 0] #[.int .u64 0, .int .u64 0, .int .u64 0, .int .u64 0, .int .u64 0, .int .u64 0, .int .u64 0, .int .u64 0, .int .u64 0, .int .u64 0, .int .u64 0, .int .u64 0, .int .u64 0, .int .u64 0, .int .u64 0, .int .u64 0, .int .u64 0, .int .u64 0, .int .u64 0, .int .u64 0, .int .u64 0, .int .u64 0, .int .u64 0, .int .u64 0, .int .u64 0] 197 rfl
 have hbA : Below w.heap.size w (w.alloc (.cells #[.int .u64 0, .int .u64 0, .int .u64 0, .int .u64 0, .int .u64 0, .int .u64 0, .int .u64 0, .int .u64 0, .int .u64 0, .int .u64 0, .int .u64 0, .int .u64 0, .int .u64 0, .int .u64 0, .int .u64 0, .int .u64 0, .int .u64 0, .int .u64 0, .int .u64 0, .int .u64 0, .int .u64 0, .int .u64 0, .int .u64 0, .int .u64 0, .int .u64 0] 197)) := by repeat (first | exact bA | with_reducible assumption | apply bB)
 replace hb00 := bl_call hb00 (Nat.le_refl _) hbA
 replace hb := hb.call hbA
 clear hbA
 generalize w.alloc (.cells #[.int .u64 0, .int .u64 0, .int .u64 0, .int .u64 0, .int .u64 0, .int .u64 0, .int .u64 0, .int .u64 0, .int .u64 0, .int .u64 0, .int .u64 0, .int .u64 0, .int .u64 0, .int .u64 0, .int .u64 0, .int .u64 0, .int .u64 0, .int .u64 0, .int .u64 0, .int .u64 0, .int .u64 0, .int .u64 0, .int .u64 0, .int .u64 0, .int .u64 0] 197) = w3 at hb00 hb hO9 ⊢
 obtain ⟨ob, hobe⟩ : ∃ z, w.heap.size = z := ⟨_, rfl⟩
 rw [hobe] at hO9 hbl
 simp only [hobe]
 have HWB : Hid (w.heap.size = ob) := hobe
 clear hobe
 have hO : Vs w3 ob (u64s (bendO S 0) ++ []) := hO9
 clear hO9
 go_wp2_with fail
 go_loopw [7] (fun v7 wr => ∃ i : Nat, i ≤ 25 ∧ v7 = .int .i64 i ∧ Vs wr ob (u64s (bendO S i) ++ []) ∧ Vs wr b (u64s S ++ rest) ∧ Below w.heap.size w wr) (fun v7 _ => 25 - (intOf v7).toNat)
 case atStart => exact ⟨0, by omega, rfl, hO, hb, hb00⟩
 case round =>
  clear hO hb hb00
  obtain ⟨i, hin, rfl, hO, hb, hb00⟩ := hrel
  by_cases hlt : i < 25
  ·obtain ⟨c0, c1, c2⟩ := hb.atL (i := i) (by rw [HS.out]; exact hlt)
   obtain ⟨y9, hy9⟩ : ∃ z, S.getD i 0 = z := ⟨_, rfl⟩
   rw [hy9] at c0
   have hi1 : (i : Int) < 25 := by omega
   go_upto_region 3 with fail
   refine region_B (n := 5) (m := 6) (f := 5) (by kernel_rfl) (by kernel_rfl) rfl ?_
   refine WpH.vD 0 (some 9) ?_ rfl rfl (by kernel_rfl) (fun _ _ _ h => h) rfl (fun wz hwz => ?_) ?_
   rotate_left
   ·go_simp; try (with_reducible rfl)
   simp only [Zp, Zq, Zr, Zs]
   refine WpH.vD 1 (some 10) ?_ rfl rfl (by kernel_rfl) (fun _ _ _ h => h) rfl (fun wz hwz => ?_) ?_
   rotate_left
   ·go_simp; try (with_reducible rfl)
   simp only [Zp, Zq, Zr, Zs]
   refine WpH.vD 2 (some 11) ?_ rfl rfl (by kernel_rfl) (fun _ _ _ h => h) rfl (fun wz hwz => ?_) ?_
   rotate_left
   ·go_simp; try (with_reducible rfl)
   simp only [Zp, Zq, Zr, Zs]
   refine WpH.vD 3 (some 12) ?_ rfl rfl (by kernel_rfl) (fun _ _ _ h => h) rfl (fun wz hwz => ?_) ?_
   rotate_left
   ·(obtain ⟨hcz, hfz⟩ := bcell hwz; go_simp; try (with_reducible rfl))
   simp only [Zp, Zq, Zr, Zs]
   refine WpH.vD 4 (some 3) ?_ rfl rfl (by kernel_rfl) (fun _ _ _ h => h) rfl (fun wz hwz => ?_) ?_
   rotate_left
   ·go_simp; try (with_reducible rfl)
   simp only [Zp, Zq, Zr, Zs]
   refine WpH.doneB (by kernel_rfl) (fun w4 hw4 => ?_)
   (try simp only [List.drop_succ_cons]); (try simp only [List.drop_zero]); (try simp only [Nat.reduceSub]); (try simp only [List.take_succ_cons]); (try simp only [List.take_zero])
   clear c0 c1 c2
   replace hb00 := bl_call hb00 (Nat.le_refl _) hw4
   replace hO := hO.call hw4
   replace hb := hb.call hw4
   clear hw4
   obtain ⟨q, hq⟩ : ∃ q, i / 5 = q := ⟨_, rfl⟩
   obtain ⟨o5, ho5⟩ : ∃ o, q * 5 = o := ⟨_, rfl⟩
   obtain ⟨r1, hr1⟩ : ∃ r, (i + 1) % 5 = r := ⟨_, rfl⟩
   obtain ⟨r2, hr2⟩ : ∃ r, (i + 2) % 5 = r := ⟨_, rfl⟩
   obtain ⟨i1, hi1e⟩ : ∃ r, o5 + r1 = r := ⟨_, rfl⟩
   obtain ⟨i2, hi2e⟩ : ∃ r, o5 + r2 = r := ⟨_, rfl⟩
   have htq : (i : Int).tdiv 5 = (q : Int) := by rw [Int.tdiv_eq_ediv_of_nonneg (by omega)]; omega
   have hwq : IntKind.i64.wrap (q : Int) = (q : Int) := IntWalk.i64_in _ (by omega)
   have hw1 : IntKind.i64.wrap ((q : Int) * 5) = (o5 : Int) := by rw [IntWalk.i64_in _ (by omega)]; omega
   have hw2 : IntKind.i64.wrap ((i : Int) + 1) = (i : Int) + 1 := IntWalk.i64_in _ (by omega)
   have hw3 : IntKind.i64.wrap ((i : Int) + 2) = (i : Int) + 2 := IntWalk.i64_in _ (by omega)
   have ht1 : ((i : Int) + 1).tmod 5 = (r1 : Int) := by rw [Int.tmod_eq_emod_of_nonneg (by omega)]; omega
   have ht2 : ((i : Int) + 2).tmod 5 = (r2 : Int) := by rw [Int.tmod_eq_emod_of_nonneg (by omega)]; omega
   have hz4 : IntKind.i64.wrap ((o5 : Int) + (r1 : Int)) = (i1 : Int) := by rw [IntWalk.i64_in _ (by omega)]; omega
   have hz5 : IntKind.i64.wrap ((o5 : Int) + (r2 : Int)) = (i2 : Int) := by rw [IntWalk.i64_in _ (by omega)]; omega
   have h125 : i1 < 25 := by omega
   have h225 : i2 < 25 := by omega
   have h126 : (i1 : Int) < 25 := by omega
   have h226 : (i2 : Int) < 25 := by omega
   obtain ⟨s0, s1, s2⟩ := hb.atL (i := i1) (by rw [HS.out]; exact h125)
   obtain ⟨s3, s4, s5⟩ := hb.atL (i := i2) (by rw [HS.out]; exact h225)
   obtain ⟨a9, ha9⟩ : ∃ z, S.getD i1 0 = z := ⟨_, rfl⟩
   obtain ⟨b9, hb9⟩ : ∃ z, S.getD i2 0 = z := ⟨_, rfl⟩
   rw [ha9] at s0
   rw [hb9] at s3
   have hbl4 := hb.lt
   have hol4 := hO.lt
   have HNE : Hid ((bendO S i).set i (X64 y9 (A64 (N64 a9) b9)) = bendO S (i + 1)) := by
    show _ = (bendO S i).set i (X64 (S.getD i 0) (A64 (N64 (S.getD (i / 5 * 5 + (i + 1) % 5) 0)) (S.getD (i / 5 * 5 + (i + 2) % 5) 0)))
    rw [hq, hr1, hr2, ho5, hi1e, hi2e, hy9, ha9, hb9]
   clear hy9 ha9 hb9 hq ho5 hr1 hr2 hi1e hi2e
   go_upto_region 5 with fail
   refine region_B (n := 24) (m := 25) (f := 24) (by kernel_rfl) (by kernel_rfl) rfl ?_
   refine WpH.vD 0 (some 16) ?_ rfl rfl (by kernel_rfl) (fun _ _ _ h => h) rfl (fun wz hwz => ?_) ?_
   rotate_left
   ·go_simp; try (with_reducible rfl)
   simp only [Zp, Zq, Zr, Zs]
   refine WpH.vD 1 (some 17) ?_ rfl rfl (by kernel_rfl) (fun _ _ _ h => h) rfl (fun wz hwz => ?_) ?_
   rotate_left
   ·go_simp; try (with_reducible rfl)
   simp only [Zp, Zq, Zr, Zs]
   refine WpH.vD 2 (some 18) ?_ rfl rfl (by kernel_rfl) (fun _ _ _ h => h) rfl (fun wz hwz => ?_) ?_
   rotate_left
   ·go_simp; try (with_reducible rfl)
   simp only [Zp, Zq, Zr, Zs]
   refine WpH.vD 3 (some 19) ?_ rfl rfl (by kernel_rfl) (fun _ _ _ h => h) rfl (fun wz hwz => ?_) ?_
   rotate_left
   ·go_simp; try (with_reducible rfl)
   simp only [Zp, Zq, Zr, Zs]
   refine WpH.vD 4 (some 20) ?_ rfl rfl (by kernel_rfl) (fun _ _ _ h => h) rfl (fun wz hwz => ?_) ?_
   rotate_left
   ·go_simp; try (with_reducible rfl)
   simp only [Zp, Zq, Zr, Zs]
   refine WpH.vD 5 (some 21) ?_ rfl rfl (by kernel_rfl) (fun _ _ _ h => h) rfl (fun wz hwz => ?_) ?_
   rotate_left
   ·go_simp; try (with_reducible rfl)
   simp only [Zp, Zq, Zr, Zs]
   refine WpH.vD 6 (some 22) ?_ rfl rfl (by kernel_rfl) (fun _ _ _ h => h) rfl (fun wz hwz => ?_) ?_
   rotate_left
   ·go_simp; try (with_reducible rfl)
   simp only [Zp, Zq, Zr, Zs]
   refine WpH.vD 7 (some 23) ?_ rfl rfl (by kernel_rfl) (fun _ _ _ h => h) rfl (fun wz hwz => ?_) ?_
   rotate_left
   ·go_simp; try (with_reducible rfl)
   simp only [Zp, Zq, Zr, Zs]
   refine WpH.vD 8 (some 24) ?_ rfl rfl (by kernel_rfl) (fun _ _ _ h => h) rfl (fun wz hwz => ?_) ?_
   rotate_left
   ·go_simp; try (with_reducible rfl)
   simp only [Zp, Zq, Zr, Zs]
   refine WpH.vD 9 (some 25) ?_ rfl rfl (by kernel_rfl) (fun _ _ _ h => h) rfl (fun wz hwz => ?_) ?_
   rotate_left
   ·go_simp; try (with_reducible rfl)
   simp only [Zp, Zq, Zr, Zs]
   refine WpH.vD 10 (some 26) ?_ rfl rfl (by kernel_rfl) (fun _ _ _ h => h) rfl (fun wz hwz => ?_) ?_
   rotate_left
   ·(obtain ⟨hcz, hfz⟩ := bcell hwz; go_simp; try (with_reducible rfl))
   simp only [Zp, Zq, Zr, Zs]
   refine WpH.vD 11 (some 27) ?_ rfl rfl (by kernel_rfl) (fun _ _ _ h => h) rfl (fun wz hwz => ?_) ?_
   rotate_left
   ·go_simp; try (with_reducible rfl)
   simp only [Zp, Zq, Zr, Zs]
   refine WpH.vD 12 (some 28) ?_ rfl rfl (by kernel_rfl) (fun _ _ _ h => h) rfl (fun wz hwz => ?_) ?_
   rotate_left
   ·go_simp; try (with_reducible rfl)
   simp only [Zp, Zq, Zr, Zs]
   refine WpH.vD 13 (some 29) ?_ rfl rfl (by kernel_rfl) (fun _ _ _ h => h) rfl (fun wz hwz => ?_) ?_
   rotate_left
   ·go_simp; try (with_reducible rfl)
   simp only [Zp, Zq, Zr, Zs]
   refine WpH.vD 14 (some 30) ?_ rfl rfl (by kernel_rfl) (fun _ _ _ h => h) rfl (fun wz hwz => ?_) ?_
   rotate_left
   ·go_simp; try (with_reducible rfl)
   simp only [Zp, Zq, Zr, Zs]
   refine WpH.vD 15 (some 31) ?_ rfl rfl (by kernel_rfl) (fun _ _ _ h => h) rfl (fun wz hwz => ?_) ?_
   rotate_left
   ·go_simp; try (with_reducible rfl)
   simp only [Zp, Zq, Zr, Zs]
   refine WpH.vD 16 (some 32) ?_ rfl rfl (by kernel_rfl) (fun _ _ _ h => h) rfl (fun wz hwz => ?_) ?_
   rotate_left
   ·go_simp; try (with_reducible rfl)
   simp only [Zp, Zq, Zr, Zs]
   refine WpH.vD 17 (some 33) ?_ rfl rfl (by kernel_rfl) (fun _ _ _ h => h) rfl (fun wz hwz => ?_) ?_
   rotate_left
   ·go_simp; try (with_reducible rfl)
   simp only [Zp, Zq, Zr, Zs]
   refine WpH.vD 18 (some 34) ?_ rfl rfl (by kernel_rfl) (fun _ _ _ h => h) rfl (fun wz hwz => ?_) ?_
   rotate_left
   ·go_simp; try (with_reducible rfl)
   simp only [Zp, Zq, Zr, Zs]
   refine WpH.vD 19 (some 35) ?_ rfl rfl (by kernel_rfl) (fun _ _ _ h => h) rfl (fun wz hwz => ?_) ?_
   rotate_left
   ·go_simp; try (with_reducible rfl)
   simp only [Zp, Zq, Zr, Zs]
   refine WpH.vD 20 (some 36) ?_ rfl rfl (by kernel_rfl) (fun _ _ _ h => h) rfl (fun wz hwz => ?_) ?_
   rotate_left
   ·(obtain ⟨hcz, hfz⟩ := bcell hwz; go_simp; try (with_reducible rfl))
   simp only [Zp, Zq, Zr, Zs]
   refine WpH.vD 21 (some 37) ?_ rfl rfl (by kernel_rfl) (fun _ _ _ h => h) rfl (fun wz hwz => ?_) ?_
   rotate_left
   ·go_simp; try (with_reducible rfl)
   simp only [Zp, Zq, Zr, Zs]
   refine WpH.vD 22 (some 38) ?_ rfl rfl (by kernel_rfl) (fun _ _ _ h => h) rfl (fun wz hwz => ?_) ?_
   rotate_left
   ·go_simp; try (with_reducible rfl)
   simp only [Zp, Zq, Zr, Zs]
   refine WpH.vD 23 (some 39) ?_ rfl rfl (by kernel_rfl) (fun _ _ _ h => h) rfl (fun wz hwz => ?_) ?_
   rotate_left
   ·go_simp; try (with_reducible rfl)
   simp only [Zp, Zq, Zr, Zs]
   refine WpH.doneB (by kernel_rfl) (fun w5 hw5 => ?_)
   (try simp only [List.drop_succ_cons]); (try simp only [List.drop_zero]); (try simp only [Nat.reduceSub]); (try simp only [List.take_succ_cons]); (try simp only [List.take_zero])
   clear s0 s1 s2 s3 s4 s5 htq hwq hw1 hw2 hw3 ht1 ht2 hz4 hz5 h126 h226 hbl4 hol4
   replace hb00 := bl_call hb00 (Nat.le_refl _) hw5
   replace hO := hO.call hw5
   replace hb := hb.call hw5
   clear hw5
   obtain ⟨o0, o1, o2⟩ := hO.atL (i := i) (by rw [bendO_length]; exact hlt)
   have HN := Lib.hid (hO.putL (i := i) (by rw [bendO_length]; exact hlt) (X64 y9 (A64 (N64 a9) b9)))
   have hne : ob ≠ b := by omega
   have hwo : w.heap.size ≤ ob := Nat.le_of_eq HWB.out
   clear hO
   go_wp2_with fail
   go_roundw
   case rel => exact ⟨i + 1, by omega, by go_num, by rw [← HNE.out]; exact HN.out, hb.far (p := ⟨ob, i, none⟩) hne _, bl_set (p := ⟨ob, i, none⟩) hb00 hwo _⟩
   case measure => simp [intOf]; omega
  ·have hie : i = 25 := by omega
   go_upto_region 7 with fail
   rw [hie] at hO
   clear hie hin hlt
   have HML : Hid ((bendO S 25).length = 25) := bendO_length S 25
   have HMF : Hid (bendF S = bendO S 25) := by show _ = _; unfold bendF; exact Eq.refl _
   generalize bendO S 25 = M at hO HML HMF
   refine wp_region_lit ?_
   refine wpList_val (v := .pointer (some ⟨b, 0, none⟩)) (w' := wr) rfl (by kernel_rfl) ?_
   refine wpList_load_mid rfl 197 (.tmp 2) rfl ob 0 (by kernel_rfl) (u64s M) _ hO.range Try.underlying197 rfl (by rw [u64s_length, HML.out]; kernel_rfl) ?_
   refine wpList_val (v := .pointer (some ⟨b, 0, none⟩)) (w' := wr) rfl (by kernel_rfl) ?_
   refine wpList_store_mid rfl 197 (.tmp 43) (.tmp 42) rfl b 0 (u64s M).toArray (by kernel_rfl) (by kernel_rfl) (by rw [List.size_toArray, u64s_length, HML.out, ← HS.out]; exact hb.thereL) (by rw [List.size_toArray, u64s_length, HML.out]; kernel_rfl) (oneU _) ?_
   have HB := Lib.hid (hb.setAll (l' := M) (by rw [HML.out, HS.out]))
   have HE := Lib.hid (exc_setCells (S := fun q => q = b) b rfl (u64s M) 0 wr (exc_of hb00))
   clear hb hO hb00
   go_upto_region 99 with fail
   exact end_none Try.results129 rfl ⟨rfl, by rw [HMF.out]; exact HB.out, HE.out⟩

end Go.Proofs.Ytbakkmfjamcbfaa

namespace Go.Proofs.Ytbakkmfjamcbfaa
open Go.RowKit Fm
set_option linter.unusedVariables false
set_option maxRecDepth 100000

theorem mixF_length {S : List Int} (h : S.length = 25) : (mixF S).length = 25 := (mixR_length S _ 25).trans h
theorem moveF_length (S : List Int) : (moveF S).length = 25 := moveO_length S 25
theorem bendF_length (S : List Int) : (bendF S).length = 25 := bendO_length S 25
def roundF (S : List Int) (c : Int) : List Int := (bendF (moveF (mixF S))).set 0 (X64 ((bendF (moveF (mixF S))).getD 0 0) c)
theorem roundF_length (S : List Int) (c : Int) : (roundF S c).length = 25 := by
 unfold roundF
 rw [List.length_set, bendF_length]
def permS (S : List Int) : Nat → List Int
 | 0 => S
 | i + 1 => roundF (permS S i) (conL.getD i 0)
theorem permS_length {S : List Int} (h : S.length = 25) : ∀ i, (permS S i).length = 25
 | 0 => h
 | i + 1 => roundF_length _ _
def permF (S : List Int) : List Int := permS S 12
theorem con_idx (i : Nat) (h : i < 12) (w : World) : (Instr.index 212 (.agg conA) (.int .i64 (i : Int))).run Try.prog w = .ok (.int .u64 (conL.getD i 0)) w := by
 obtain rfl | rfl | rfl | rfl | rfl | rfl | rfl | rfl | rfl | rfl | rfl | rfl : i = 0 ∨ i = 1 ∨ i = 2 ∨ i = 3 ∨ i = 4 ∨ i = 5 ∨ i = 6 ∨ i = 7 ∨ i = 8 ∨ i = 9 ∨ i = 10 ∨ i = 11 := by omega
 all_goals kernel_rfl

set_option maxHeartbeats 4000000 in
theorem keccak_Permute (S : List Int) (hS : S.length = 25) (rest : List Value) (b : Nat) (w : World) (hb : Vs w b (u64s S ++ rest)) :
  Calls Try.prog 111 #[.pointer (some ⟨b, 0, none⟩)] w fun e w' => e = .returned (.tuple #[]) ∧ Vs w' b (u64s (permF S) ++ rest) ∧ Exc (fun q => q = b) w.heap.size w w' := by
 have HX : ∀ a b : Int, bits BinOp.xor IntKind.u64 a b = X64 a b := fun _ _ => rfl
 have HCO : Hid (∀ wz, Calls Try.prog 126 #[] wz fun e w' => e = .returned (.agg conA) ∧ Below wz.heap.size wz w') := keccak_constants
 have HS := Lib.hid hS
 have hbl := hb.lt
 have hb00 : Below w.heap.size w w := Below.refl _ _
 obtain ⟨cA, hcA⟩ : ∃ c, conA = c := ⟨_, rfl⟩
 have HCA : Hid (∀ i : Nat, i < 12 → ∀ w, (Instr.index 212 (.agg cA) (.int .i64 (i : Int))).run Try.prog w = .ok (.int .u64 (conL.getD i 0)) w) := fun i h w => by rw [← hcA]; exact con_idx i h w
 rw [hcA] at HCO
 clear hcA
 go_enter Try.func111, Try.ntmps111
 go_upto_region 2 with (go_at_call 126; refine (HCO.out _).mono ?_; rintro e w1 ⟨rfl, hb1⟩; replace hb00 := bl_call hb00 (Nat.le_refl _) hb1; replace hb := hb.call hb1; clear hb1)
 go_loopw [7] (fun v7 wr => ∃ i : Nat, i ≤ 12 ∧ v7 = .int .i64 i ∧ Vs wr b (u64s (permS S i) ++ rest) ∧ Exc (fun q => q = b) w.heap.size w wr) (fun v7 _ => 12 - (intOf v7).toNat)
 case atStart => exact ⟨0, by omega, rfl, hb, exc_of hb00⟩
 case round =>
  clear hb hb00
  obtain ⟨i, hin, rfl, hb, hE⟩ := hrel
  by_cases hlt : i < 12
  ·obtain ⟨c9, hc9⟩ : ∃ z, conL.getD i 0 = z := ⟨_, rfl⟩
   have hci := HCA.out i hlt
   rw [hc9] at hci
   have hi1 : (i : Int) < 12 := by omega
   have hl0 := permS_length HS.out i
   obtain ⟨P0, hP0⟩ : ∃ z, permS S i = z := ⟨_, rfl⟩
   have HNE : Hid (roundF P0 c9 = permS S (i + 1)) := by
    show _ = roundF (permS S i) (conL.getD i 0)
    rw [hP0, hc9]
   rw [hP0] at hb hl0
   obtain ⟨P1, hP1⟩ : ∃ z, mixF P0 = z := ⟨_, rfl⟩
   obtain ⟨P2, hP2⟩ : ∃ z, moveF P1 = z := ⟨_, rfl⟩
   obtain ⟨P3, hP3⟩ : ∃ z, bendF P2 = z := ⟨_, rfl⟩
   have hl1 : P1.length = 25 := by rw [← hP1]; exact mixF_length hl0
   have hl2 : P2.length = 25 := by rw [← hP2]; exact moveF_length _
   have hl3 : P3.length = 25 := by rw [← hP3]; exact bendF_length _
   have HRD : Hid (roundF P0 c9 = P3.set 0 (X64 (P3.getD 0 0) c9)) := by
    show _ = _
    unfold roundF
    rw [hP1, hP2, hP3]
   have HM1 : Hid (∀ wz, Vs wz b (u64s P0 ++ rest) → Calls Try.prog 127 #[.pointer (some ⟨b, 0, none⟩)] wz fun e w' => e = .returned (.tuple #[]) ∧ Vs w' b (u64s P1 ++ rest) ∧ Exc (fun q => q = b) wz.heap.size wz w') := fun wz h => by
    rw [← hP1]
    exact keccak_mix P0 hl0 rest b wz h
   have HM2 : Hid (∀ wz, Vs wz b (u64s P1 ++ rest) → Calls Try.prog 128 #[.pointer (some ⟨b, 0, none⟩)] wz fun e w' => e = .returned (.tuple #[]) ∧ Vs w' b (u64s P2 ++ rest) ∧ Exc (fun q => q = b) wz.heap.size wz w') := fun wz h => by
    rw [← hP2]
    exact keccak_move P1 hl1 rest b wz h
   have HM3 : Hid (∀ wz, Vs wz b (u64s P2 ++ rest) → Calls Try.prog 129 #[.pointer (some ⟨b, 0, none⟩)] wz fun e w' => e = .returned (.tuple #[]) ∧ Vs w' b (u64s P3 ++ rest) ∧ Exc (fun q => q = b) wz.heap.size wz w') := fun wz h => by
    rw [← hP3]
    exact keccak_bend P2 hl2 rest b wz h
   obtain ⟨x9, hx9⟩ : ∃ z, P3.getD 0 0 = z := ⟨_, rfl⟩
   rw [hx9] at HRD
   clear hP0 hP1 hP2 hP3 hc9 hl0 hl1 hl2
   go_upto_region 5 with (go_at_call 127; refine (HM1.out _ hb).mono ?_; rintro e w2 ⟨rfl, hb2, hE2⟩)
   replace hE := hE.trans (hE2.mono hE.size)
   clear hb hE2 HM1 hci
   go_upto_region 6 with (go_at_call 128; refine (HM2.out _ hb2).mono ?_; rintro e w3 ⟨rfl, hb3, hE3⟩)
   replace hE := hE.trans (hE3.mono hE.size)
   clear hb2 hE3 HM2
   go_upto_region 7 with (go_at_call 129; refine (HM3.out _ hb3).mono ?_; rintro e w4 ⟨rfl, hb4, hE4⟩)
   replace hE := hE.trans (hE4.mono hE.size)
   clear hb3 hE4 HM3
   obtain ⟨c0, c1, c2⟩ := hb4.atL (i := 0) (by omega)
   rw [hx9] at c0
   refine region_B (n := 8) (m := 9) (f := 8) (by kernel_rfl) (by kernel_rfl) rfl ?_
   refine WpH.vD 0 (some 16) ?_ rfl rfl (by kernel_rfl) (fun _ _ _ h => h) rfl (fun wz hwz => ?_) ?_
   rotate_left
   ·go_simp; try (with_reducible rfl)
   simp only [Zp, Zq, Zr, Zs]
   refine WpH.vD 1 (some 17) ?_ rfl rfl (by kernel_rfl) (fun _ _ _ h => h) rfl (fun wz hwz => ?_) ?_
   rotate_left
   ·go_simp; try (with_reducible rfl)
   simp only [Zp, Zq, Zr, Zs]
   refine WpH.vD 2 (some 18) ?_ rfl rfl (by kernel_rfl) (fun _ _ _ h => h) rfl (fun wz hwz => ?_) ?_
   rotate_left
   ·go_simp; try (with_reducible rfl)
   simp only [Zp, Zq, Zr, Zs]
   refine WpH.vD 3 (some 19) ?_ rfl rfl (by kernel_rfl) (fun _ _ _ h => h) rfl (fun wz hwz => ?_) ?_
   rotate_left
   ·(obtain ⟨hcz, hfz⟩ := bcell hwz; go_simp; try (with_reducible rfl))
   simp only [Zp, Zq, Zr, Zs]
   refine WpH.vD 4 (some 20) ?_ rfl rfl (by kernel_rfl) (fun _ _ _ h => h) rfl (fun wz hwz => ?_) ?_
   rotate_left
   ·go_simp; try (with_reducible rfl)
   simp only [Zp, Zq, Zr, Zs]
   refine WpH.vD 5 (some 21) ?_ rfl rfl (by kernel_rfl) (fun _ _ _ h => h) rfl (fun wz hwz => ?_) ?_
   rotate_left
   ·go_simp; try (with_reducible rfl)
   simp only [Zp, Zq, Zr, Zs]
   refine WpH.vD 6 (some 22) ?_ rfl rfl (by kernel_rfl) (fun _ _ _ h => h) rfl (fun wz hwz => ?_) ?_
   rotate_left
   ·go_simp; try (with_reducible rfl)
   simp only [Zp, Zq, Zr, Zs]
   refine WpH.vD 7 (some 23) ?_ rfl rfl (by kernel_rfl) (fun _ _ _ h => h) rfl (fun wz hwz => ?_) ?_
   rotate_left
   ·go_simp; try (with_reducible rfl)
   simp only [Zp, Zq, Zr, Zs]
   refine WpH.doneB (by kernel_rfl) (fun w5 hw5 => ?_)
   (try simp only [List.drop_succ_cons]); (try simp only [List.drop_zero]); (try simp only [Nat.reduceSub]); (try simp only [List.take_succ_cons]); (try simp only [List.take_zero])
   clear c0 c1 c2
   replace hb4 := hb4.call hw5
   replace hE := hE.trans ((exc_of hw5).mono hE.size)
   obtain ⟨c0, c1, c2⟩ := hb4.atL (i := 0) (by omega)
   have HN := Lib.hid (hb4.putL (i := 0) (by omega) (X64 x9 c9))
   clear hb4 hx9
   go_wp2_with fail
   go_roundw
   case rel => exact ⟨i + 1, by omega, by go_num, by rw [← HNE.out, HRD.out]; exact HN.out, hE.trans ⟨rfl, rfl, rfl, by simp [World.setCell], fun k hk hn => Below.heap_setCell _ _ _ _ (fun e => hn e)⟩⟩
   case measure => simp [intOf]; omega
  ·have hie : i = 12 := by omega
   have HB : Hid (Vs wr b (u64s (permF S) ++ rest)) := by
    rw [hie] at hb
    exact hb
   have HE := Lib.hid hE
   clear hb hE hie
   go_upto_region 99 with fail
   exact end_none Try.results111 rfl ⟨rfl, HB.out, HE.out⟩

end Go.Proofs.Ytbakkmfjamcbfaa
