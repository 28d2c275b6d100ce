/-
 KeJ, KeK, TaskA, TaA: what the statements of this layer share.
-/
import Derived.BigQuiet
import Derived.Laws.Bits64b
import Derived.ChangeKeysEq
import Derived.IntWalk
import Derived.Test.YtbakkmfjamcbfaaKap
namespace Go.Proofs.Ytbakkmfjamcbfaa
open Go.RowKit Fm
set_option linter.unusedVariables false
set_option maxRecDepth 100000

def byteS (U : List Int) (q : Nat) : Int := IntKind.u8.wrap (U.getD (q / 8) 0 / 2 ^ min (8 * (q % 8)) 64)
def stepR (z : (List Int × Nat) × List Int) : (List Int × Nat) × List Int :=
 (((turnS z.1.1 z.1.2).1, (turnS z.1.1 z.1.2).2 + 1), z.2 ++ [byteS (turnS z.1.1 z.1.2).1 (turnS z.1.1 z.1.2).2])
def readS (T : List Int) : Nat → (List Int × Nat) × List Int
 | 0 => ((T, 0), [])
 | i + 1 => stepR (readS T i)
theorem stepR_ok {z : (List Int × Nat) × List Int} {i : Nat} (h1 : z.1.1.length = 25) (h2 : z.1.2 ≤ 168) (h3 : z.2.length = i) : (stepR z).1.1.length = 25 ∧ (stepR z).1.2 ≤ 168 ∧ (stepR z).2.length = i + 1 := by
 obtain ⟨k1, k2⟩ := turnS_ok h1 h2
 unfold stepR
 generalize turnS z.1.1 z.1.2 = u at k1 k2 ⊢
 dsimp only
 refine ⟨k1, by omega, ?_⟩
 rw [List.length_append, h3]
 rfl
theorem readS_ok {T : List Int} (hT : T.length = 25) (i : Nat) : (readS T i).1.1.length = 25 ∧ (readS T i).1.2 ≤ 168 ∧ (readS T i).2.length = i := by
 induction i with
 | zero => exact ⟨hT, Nat.zero_le 168, rfl⟩
 | succ i ih => exact stepR_ok ih.1 ih.2.1 ih.2.2
theorem byte_range (x : Int) : 0 ≤ IntKind.u8.wrap x ∧ IntKind.u8.wrap x ≤ 255 := by
 have h1 := Int.emod_nonneg x (show (256 : Int) ≠ 0 by decide)
 have h2 := Int.emod_lt_of_pos x (show (0 : Int) < 256 by decide)
 have h3 : IntKind.u8.wrap x = x % 256 := by
  simp [IntKind.wrap, IntKind.signed, IntKind.bits]
 omega
theorem readS_range (T : List Int) (i : Nat) : ∀ x, x ∈ (readS T i).2 → 0 ≤ x ∧ x ≤ 255 := by
 induction i with
 | zero =>
  intro x h
  cases h
 | succ i ih =>
  intro x h
  have h0 : x ∈ (stepR (readS T i)).2 := h
  unfold stepR at h0
  rcases List.mem_append.1 h0 with h1 | h1
  ·exact ih x h1
  ·rw [List.mem_singleton.1 h1]
   exact byte_range _

theorem own_excK {S : Nat → Prop} {w w' : World} {base : Nat} {e : TypeId} {size n : Nat} {v : Value} {xs : List Value} (h : w.ownsRow base e size v n xs) (hn : ∀ k, base ≤ k → ¬ S k) (hb : Exc S w.heap.size w w') : w'.ownsRow base e size v n xs := by
 refine ⟨h.1, ?_⟩
 rcases h.2 with h | ⟨g, cap, cur, hv, h2, h3, h4⟩
 ·exact .inl h
 ·have hlt := (Array.getElem?_eq_some_iff.1 h3).1
  exact .inr ⟨g, cap, cur, hv, h2, (hb.block _ hlt (hn g h2)).trans h3, h4⟩
theorem own_sl9 {w : World} {base : Nat} {e : TypeId} {size : Nat} {v : Value} {n : Nat} {xs : List Value} (h : w.ownsRow base e size v n xs) (hn : 0 < n) : ∃ g cap, v = .slice (some ⟨g, 0, none⟩) n cap := by
 rcases h.2 with ⟨_, h0⟩ | ⟨g, cap, _, hv, _⟩
 ·omega
 ·exact ⟨g, cap, hv⟩
theorem make_byte16 (w : World) : (Instr.makeSlice 28 (.int .i64 0) (.int .i64 16)).run Try.prog w = .ok (.slice (some ⟨w.heap.size, 0, none⟩) 0 16) (w.alloc (.cells (Array.replicate 16 (.int .u8 0)) 5)) := by
 obtain ⟨i, hi, hz, h1, h2⟩ := info_parts infoU8
 have hr := run_make (P := Try.prog) w 28 5 i _ Try.underlying28 hi hz .i64 .i64 0 16 (by omega) (by omega) (by rw [h2]; omega) (by omega)
 rw [hr, h1]
 have hm : madeCells (Value.int IntKind.u8 0).cells (Int.toNat 16 * 1) = Array.replicate 16 (.int .u8 0) := by kernel_rfl
 rw [hm]
 rfl


set_option maxHeartbeats 4000000 in
theorem keccak_Read (S : List Int) (hS : S.length = 25) (p : Nat) (hp : p ≤ 168) (d : Int) (hd : 0 ≤ d ∧ d ≤ 255) (b : Nat) (w : World) (hb : Sp w b S p d false) :
  Calls Try.prog 95 #[.pointer (some ⟨b, 0, none⟩), .int .i64 16] w fun e w' => ∃ g cp, e = .returned (.slice (some ⟨g, 0, none⟩) 16 cp) ∧ w'.ownsRow w.heap.size 5 1 (.slice (some ⟨g, 0, none⟩) 16 cp) 16 (cells8 (readS (endS S p d) 16).2) ∧ Exc (fun q => q = b) w.heap.size w w' := by
 have hl := endS_length hS hp d
 have HEN : Hid (∀ wz, Sp wz b S p d false → Calls Try.prog 113 #[.pointer (some ⟨b, 0, none⟩)] wz fun e w' => e = .returned (.tuple #[]) ∧ Sp w' b (endS S p d) 0 d true ∧ Exc (fun q => q = b) wz.heap.size wz w') := fun wz h => keccak_end S hS p hp d hd b wz h
 generalize endS S p d = T at hl HEN ⊢
 have HL := Lib.hid hl
 obtain ⟨⟨c0, c1, c2⟩, ⟨c3, c4, c5⟩, c6⟩ := hb.cells hS
 have hmk := make_byte16
 have hmin : min (16 : Int) 65536 = 16 := by decide
 have HB : Hid (b < w.heap.size) := c6
 clear hl hS hp hd
 go_enter Try.func95, Try.ntmps95
 go_upto_region 5 with (go_at_call 113; refine (HEN.out _ hb).mono ?_; rintro e w2 ⟨rfl, hb2, hE2⟩)
 clear c0 c1 c2 c3 c4 c5 c6 hb
 go_upto_region 6 with fail
 have hO : (w2.alloc (.cells (Array.replicate 16 (.int .u8 0)) 5)).ownsRow w.heap.size 5 1 (.slice (some ⟨w2.heap.size, 0, none⟩) 0 16) 0 (cells8 (readS T 0).2) :=
  ⟨rfl, .inr ⟨_, _, _, rfl, hE2.size, heap_alloc_new w2 _, by omega, by unfold maxLen; omega, rfl, rfl⟩⟩
 have hb3 : Sp (w2.alloc (.cells (Array.replicate 16 (.int .u8 0)) 5)) b (readS T 0).1.1 (readS T 0).1.2 d true := hb2.call ((Below.refl _ _).alloc (Nat.le_refl _) _)
 have hE3 := hE2.call ((Below.refl w2.heap.size w2).alloc (Nat.le_refl _) (.cells (Array.replicate 16 (.int .u8 0)) 5))
 clear hE2 hb2 hmk
 generalize w2.alloc (.cells (Array.replicate 16 (.int .u8 0)) 5) = w3 at hO hb3 hE3 ⊢
 obtain ⟨g3, hg3⟩ : ∃ z, w2.heap.size = z := ⟨_, rfl⟩
 rw [hg3] at hO
 simp only [hg3]
 clear hg3
 clear hmin
 have HIV : Hid (∀ i, (readS T i).1.1.length = 25 ∧ (readS T i).1.2 ≤ 168 ∧ (readS T i).2.length = i) := readS_ok HL.out
 go_upto_region 6 with fail
 have hmin : min (16 : Int) 65536 = 16 := by decide
 go_wp2_with fail
 go_loopw [5, 24] (fun v5 v24 wr => ∃ (i g cp : Nat), i ≤ 16 ∧ v24 = .int .i64 i ∧ v5 = .slice (some ⟨g, 0, none⟩) i cp ∧ wr.ownsRow w.heap.size 5 1 (.slice (some ⟨g, 0, none⟩) i cp) i (cells8 (readS T i).2) ∧ Sp wr b (readS T i).1.1 (readS T i).1.2 d true ∧ Exc (fun q => q = b) w.heap.size w wr) (fun _ v24 _ => 16 - (intOf v24).toNat)
 case atStart => exact ⟨0, g3, 16, by omega, rfl, rfl, hO, hb3, hE3⟩
 case round =>
  clear hO hb3 hE3
  obtain ⟨i, g, cp, hin, rfl, rfl, hO, hb, hE⟩ := hrel
  by_cases hlt : i < 16
  ·obtain ⟨h1, h2, h3⟩ := HIV.out i
   have HST : Hid (readS T (i + 1) = stepR (readS T i)) := rfl
   obtain ⟨⟨⟨U, q⟩, out⟩, hT⟩ : ∃ z, readS T i = z := ⟨_, rfl⟩
   rw [hT] at HST hb h1 h2 h3 hO
   dsimp only at hb h1 h2 h3 hO
   have H1 := Lib.hid h1
   have HO := Lib.hid hO
   have HOL := Lib.hid h3
   obtain ⟨⟨c0, c1, c2⟩, ⟨c3, c4, c5⟩, c6⟩ := hb.cells h1
   have HT2 : Hid (turnS U q = (if q = 168 then (permF U, 0) else (U, q))) := rfl
   obtain ⟨hu, hq⟩ := turnS_ok h1 h2
   unfold stepR at HST
   dsimp only at HST
   clear hT
   by_cases hr : q = 168
   ·have hr1 : ((q : Int) == 168) = true := by rw [beq_iff_eq]; omega
    have HPm : Hid (∀ wz, Sp wz b U q d true → Calls Try.prog 111 #[.pointer (some ⟨b, 0, none⟩)] wz fun e w' => e = .returned (.tuple #[]) ∧ Sp w' b (permF U) q d true ∧ Exc (fun q => q = b) wz.heap.size wz w') := fun wz h => keccak_Permute U H1.out _ b wz h
    have hz := HT2.out
    rw [if_pos hr] at hz
    rw [hz] at HST hu hq
    dsimp only at HST hu hq
    generalize permF U = U2 at HPm HST hu
    have HU := Lib.hid hu
    clear hz HT2 hu h1 h2 h3 hr hq
    go_upto_region 10 with (go_at_call 111; refine (HPm.out _ hb).mono ?_; rintro e w2 ⟨rfl, hb2, hE2⟩)
    clear c0 c1 c2 c3 c4 c5 c6 hb hr1 HPm H1
    have HO2 := Lib.hid (own_excK (S := fun q => q = b) hO (fun k hk e => by
     have e2 : k = b := e
     have := HB.out
     omega) hE2)
    replace hE := hE.trans (hE2.mono hE.size)
    clear hO HO hE2
    obtain ⟨⟨c0, c1, c2⟩, ⟨c3, c4, c5⟩, c6⟩ := hb2.cells HU.out
    have hb3 : Sp (w2.setCell ⟨b, 25, none⟩ (.int .i64 0)) b U2 0 d true := hb2.setP HU.out 0
    replace hE : Exc (fun q => q = b) w.heap.size w (w2.setCell ⟨b, 25, none⟩ (.int .i64 0)) := exc_set9 hE
    have HO : Hid ((w2.setCell ⟨b, 25, none⟩ (.int .i64 0)).ownsRow w.heap.size 5 1 (.slice (some ⟨g, 0, none⟩) i cp) i (cells8 out)) := own_excK (S := fun q => q = b) HO2.out (fun k hk e => by
     have e2 : k = b := e
     have := HB.out
     omega) (exc_set9 (exc_of (Below.refl _ _)))
    clear hb2 HO2
    go_upto_region 11 with fail
    obtain ⟨w3, hw3⟩ : ∃ z, w2.setCell ⟨b, 25, none⟩ (.int .i64 0) = z := ⟨_, rfl⟩
    rw [hw3] at hb3 hE HO ⊢
    clear hw3 c0 c1 c2 c3 c4 c5 c6
    obtain ⟨q9, hq0⟩ : ∃ z : Nat, z = 0 := ⟨0, rfl⟩
    have hq : q9 ≤ 167 := by omega
    have hb39 : Sp w3 b U2 q9 d true := by
     rw [hq0]
     exact hb3
    have HST9 : Hid (readS T (i + 1) = ((U2, q9 + 1), out ++ [byteS U2 q9])) := by
     rw [hq0]
     exact HST
    clear hq0 hb3 HST
    have HST := HST9
    have hb3 := hb39
    clear HST9 hb39
    obtain ⟨⟨c0, c1, c2⟩, ⟨c3, c4, c5⟩, c6⟩ := hb3.cells HU.out
    obtain ⟨qd, hqd⟩ : ∃ z, q9 / 8 = z := ⟨_, rfl⟩
    obtain ⟨qr, hqr⟩ : ∃ z, q9 % 8 = z := ⟨_, rfl⟩
    obtain ⟨n, hn⟩ : ∃ n, 8 * qr = n := ⟨_, rfl⟩
    have hq25 : qd < 25 := by omega
    have hq1 : (qd : Int) < 25 := by omega
    have htq : (q9 : Int).tdiv 8 = (qd : Int) := by rw [Int.tdiv_eq_ediv_of_nonneg (by omega)]; omega
    have htr : (q9 : Int).tmod 8 = (qr : Int) := by rw [Int.tmod_eq_emod_of_nonneg (by omega)]; omega
    have hw1 : IntKind.i64.wrap (8 * (qr : Int)) = (n : Int) := by rw [IntWalk.i64_in _ (by omega)]; omega
    have hwq : IntKind.i64.wrap (qd : Int) = (qd : Int) := IntWalk.i64_in _ (by omega)
    obtain ⟨a0, a1, a2⟩ := Vs.atL (i := qd) hb3 (by rw [HU.out]; exact hq25)
    obtain ⟨x9, hx9⟩ : ∃ z, U2.getD qd 0 = z := ⟨_, rfl⟩
    rw [hx9] at a0
    have HY : Hid (byteS U2 q9 = IntKind.u8.wrap (x9 / 2 ^ min n 64)) := by
     show _ = _
     unfold byteS
     rw [hqd, hqr, hn, hx9]
    obtain ⟨y, hy⟩ : ∃ z, IntKind.u8.wrap (x9 / 2 ^ min n 64) = z := ⟨_, rfl⟩
    clear hqd hqr hn hx9
    have hb00 := Below.refl w3.heap.size w3
    refine region_G (n := 20) (m := 22) (f := 20) (by kernel_rfl) (by kernel_rfl) rfl ?_
    refine WpG.vD 0 (some 38) ?_ rfl rfl (by kernel_rfl) (fun _ _ _ h => h) rfl (fun wz hwz => ?_) ?_
    rotate_left
    ·go_simp; try (with_reducible rfl)
    simp only [Zp, Zq, Zr, Zs]
    refine WpG.vD 1 (some 39) ?_ rfl rfl (by kernel_rfl) (fun _ _ _ h => h) rfl (fun wz hwz => ?_) ?_
    rotate_left
    ·go_simp; try (with_reducible rfl)
    simp only [Zp, Zq, Zr, Zs]
    refine WpG.vD 2 (some 40) ?_ rfl rfl (by kernel_rfl) (fun _ _ _ h => h) rfl (fun wz hwz => ?_) ?_
    rotate_left
    ·go_simp; try (with_reducible rfl)
    simp only [Zp, Zq, Zr, Zs]
    refine WpG.vD 3 (some 41) ?_ rfl rfl (by kernel_rfl) (fun _ _ _ h => h) rfl (fun wz hwz => ?_) ?_
    rotate_left
    ·go_simp; try (with_reducible rfl)
    simp only [Zp, Zq, Zr, Zs]
    refine WpG.vD 4 (some 42) ?_ rfl rfl (by kernel_rfl) (fun _ _ _ h => h) rfl (fun wz hwz => ?_) ?_
    rotate_left
    ·go_simp; try (with_reducible rfl)
    simp only [Zp, Zq, Zr, Zs]
    refine WpG.vD 5 (some 43) ?_ rfl rfl (by kernel_rfl) (fun _ _ _ h => h) rfl (fun wz hwz => ?_) ?_
    rotate_left
    ·(obtain ⟨hcz, hfz⟩ := bcell (hwz); go_simp; try (with_reducible rfl))
    simp only [Zp, Zq, Zr, Zs]
    refine WpG.vD 6 (some 44) ?_ rfl rfl (by kernel_rfl) (fun _ _ _ h => h) rfl (fun wz hwz => ?_) ?_
    rotate_left
    ·go_simp; try (with_reducible rfl)
    simp only [Zp, Zq, Zr, Zs]
    refine WpG.vD 7 (some 45) ?_ rfl rfl (by kernel_rfl) (fun _ _ _ h => h) rfl (fun wz hwz => ?_) ?_
    rotate_left
    ·go_simp; try (with_reducible rfl)
    simp only [Zp, Zq, Zr, Zs]
    refine WpG.vD 8 (some 46) ?_ rfl rfl (by kernel_rfl) (fun _ _ _ h => h) rfl (fun wz hwz => ?_) ?_
    rotate_left
    ·go_simp; try (with_reducible rfl)
    simp only [Zp, Zq, Zr, Zs]
    refine WpG.vD 9 (some 47) ?_ rfl rfl (by kernel_rfl) (fun _ _ _ h => h) rfl (fun wz hwz => ?_) ?_
    rotate_left
    ·go_simp; try (with_reducible rfl)
    simp only [Zp, Zq, Zr, Zs]
    refine WpG.vD 10 (some 48) ?_ rfl rfl (by kernel_rfl) (fun _ _ _ h => h) rfl (fun wz hwz => ?_) ?_
    rotate_left
    ·(obtain ⟨hcz, hfz⟩ := bcell (hwz); go_simp; try (with_reducible rfl))
    simp only [Zp, Zq, Zr, Zs]
    refine WpG.vD 11 (some 49) ?_ rfl rfl (by kernel_rfl) (fun _ _ _ h => h) rfl (fun wz hwz => ?_) ?_
    rotate_left
    ·go_simp; try (with_reducible rfl)
    simp only [Zp, Zq, Zr, Zs]
    refine WpG.vD 12 (some 50) ?_ rfl rfl (by kernel_rfl) (fun _ _ _ h => h) rfl (fun wz hwz => ?_) ?_
    rotate_left
    ·go_simp; try (with_reducible rfl)
    simp only [Zp, Zq, Zr, Zs]
    refine WpG.vD 13 (some 51) ?_ rfl rfl (by kernel_rfl) (fun _ _ _ h => h) rfl (fun wz hwz => ?_) ?_
    rotate_left
    ·go_simp; try (with_reducible rfl)
    simp only [Zp, Zq, Zr, Zs]
    refine WpG.vD 14 (some 52) ?_ rfl rfl (by kernel_rfl) (fun _ _ _ h => h) rfl (fun wz hwz => ?_) ?_
    rotate_left
    ·(obtain ⟨hcz, hfz⟩ := bcell (hwz); go_simp; try (with_reducible rfl))
    simp only [Zp, Zq, Zr, Zs]
    refine WpG.vD 15 (some 53) ?_ rfl rfl (by kernel_rfl) (fun _ _ _ h => h) rfl (fun wz hwz => ?_) ?_
    rotate_left
    ·go_simp; try (with_reducible rfl)
    simp only [Zp, Zq, Zr, Zs]
    refine WpG.vD 16 (some 54) ?_ rfl rfl (by kernel_rfl) (fun _ _ _ h => h) rfl (fun wz hwz => ?_) ?_
    rotate_left
    ·go_simp; try (with_reducible rfl)
    simp only [Zp, Zq, Zr, Zs]
    refine WpG.vD 17 (some 55) ?_ rfl rfl (by kernel_rfl) (fun _ _ _ h => h) rfl (fun wz hwz => ?_) ?_
    rotate_left
    ·go_simp; try (with_reducible rfl)
    simp only [Zp, Zq, Zr, Zs]
    refine WpG.vD 18 (some 56) ?_ rfl rfl (by kernel_rfl) (fun _ _ _ h => h) rfl (fun wz hwz => ?_) ?_
    rotate_left
    ·go_simp; try (with_reducible rfl)
    simp only [Zp, Zq, Zr, Zs]
    refine WpG.oneD 19 (some 57) rfl rfl (by kernel_rfl) (fun b : Nat => Value.slice (some ⟨b, 0, none⟩) 1 1) (fun b wz => w3.heap.size ≤ b ∧ Vs wz b [.int .u8 y]) (fun _ _ _ h hb => ⟨h.1, h.2.call hb⟩) (Fresh.slice 1 1 [.int .u8 y] 5 rfl (fun wz hwz => (hwz).size) (fun wz hwz => by go_simp; try (with_reducible rfl)) (R := fun b wz => Vs wz b [.int .u8 y]) (fun wz hwz => Vs.new wz _ _ _ rfl)) (fun nb w0 hw0 hR0 => ?_)
    simp only [Zp, Zq, Zr, Zs]
    refine WpG.done (by kernel_rfl) (fun w4 hS => ?_)
    (try simp only [List.drop_succ_cons]); (try simp only [List.drop_zero]); (try simp only [Nat.reduceSub]); (try simp only [List.take_succ_cons]); (try simp only [List.take_zero])
    obtain ⟨hb4, hnb, hV⟩ := hS
    have HST2 : Hid (readS T (i + 1) = ((U2, q9 + 1), out ++ [y])) := by
     show _ = _
     rw [HST.out, HY.out, hy]
    have HOW := Lib.hid (own_call HO.out hb4)
    have HR1 := Lib.hid (show 0 < 1 → ∃ b o, (some ⟨nb, 0, none⟩ : Option Addr) = some ⟨b, o, none⟩ ∧ RowB w4 b o [y] from fun _ => ⟨nb, 0, rfl, fun i e hi => by
     match i, hi with
     | 0, hi =>
      obtain rfl : y = e := by simpa using hi
      exact hV.cell 0 _ rfl⟩)
    have hk1 : i + 1 ≤ 1099511627776 := by omega
    have hE4 := hE.call hb4
    have hbase : w.heap.size ≤ w4.heap.size := hE4.size
    have hb4s : Sp w4 b U2 q9 d true := hb3.call hb4
    clear hb4 hnb hV hE hb3 c0 c1 c2 c3 c4 c5 c6 a0 a1 a2 HO HST HY hy hw0 hR0 hb00 htq htr hwq hw1
    go_upto_region 12 with (at_builtin; (refine wpList_append_B rfl (.tmp 38) (.tmp 57) rfl w.heap.size _ i out rfl HOW.out (some ⟨nb, 0, none⟩) 1 1 [y] rfl rfl HR1.out hk1 hbase ?_; intro v2 w5 hown5 hg5 hat5; obtain ⟨g2, cap2, hv2⟩ := own_sl9 hown5 (Nat.succ_pos i); rw [hv2]))
    rw [hv2] at hown5
    have hbB := HB.out
    have hgb := (HOW.out.lt g rfl).1
    have hE5 : Exc (fun q => q = g) w4.heap.size w4 w5 := ⟨hg5.os, hg5.tape, hg5.output, hg5.size, fun k hk hn => hg5.block k hk (fun e => hn (by
     have e2 : some k = some g := e
     injection e2))⟩
    have hb5 : Sp w5 b U2 q9 d true := Vs.exc (S := fun q => q = g) hb4s (fun e => by
     have e2 : b = g := e
     omega) hE5
    have hE6 := hE4.trans (exc_of ((Below.refl w.heap.size w4).grown hg5 hbase (fun q hq => (HOW.out.lt q hq).1)))
    clear HOW HR1 hg5 hat5 hbase hE5 hb4s hE4 hgb
    obtain ⟨⟨c0, c1, c2⟩, ⟨c3, c4, c5⟩, c6⟩ := hb5.cells HU.out
    have HNN := Lib.hid (hb5.setP HU.out (q9 + 1))
    have HEE := Lib.hid (exc_set9 (i := 25) (v := .int .i64 ((q9 + 1 : Nat) : Int)) hE6)
    have HOO : Hid ((w5.setCell ⟨b, 25, none⟩ (.int .i64 ((q9 + 1 : Nat) : Int))).ownsRow w.heap.size 5 1 (.slice (some ⟨g2, 0, none⟩) (i + 1) cap2) (i + 1) (cells8 (out ++ [y]))) :=
     own_excK (S := fun q => q = b) hown5 (fun k hk e => by
      have e2 : k = b := e
      omega) (exc_set9 (exc_of (Below.refl _ _)))
    clear hb5 hE6 hown5 hv2 hbB
    go_wp2_with fail
    go_roundw
    case rel => exact ⟨i + 1, g2, cap2, by omega, by go_num, rfl, by rw [HST2.out]; exact HOO.out, by rw [HST2.out]; exact HNN.out, HEE.out⟩
    case measure => simp [intOf]; omega
   ·have hr1 : ((q : Int) == 168) = false := by rw [beq_eq_false_iff_ne]; omega
    have hz := HT2.out
    rw [if_neg hr] at hz
    rw [hz] at HST hu hq
    dsimp only at HST hu hq
    have HU := Lib.hid hu
    clear hz HT2 hu h1 h2 h3 hr hO
    go_upto_region 11 with fail
    clear hr1
    have hb3 := hb
    clear hb
    obtain ⟨w3, hw3⟩ : ∃ z, wr = z := ⟨_, rfl⟩
    rw [hw3] at hb3 hE HO c0 c1 c2 c3 c4 c5 c6 ⊢
    clear hw3
    obtain ⟨qd, hqd⟩ : ∃ z, q / 8 = z := ⟨_, rfl⟩
    obtain ⟨qr, hqr⟩ : ∃ z, q % 8 = z := ⟨_, rfl⟩
    obtain ⟨n, hn⟩ : ∃ n, 8 * qr = n := ⟨_, rfl⟩
    have hq25 : qd < 25 := by omega
    have hq1 : (qd : Int) < 25 := by omega
    have htq : (q : Int).tdiv 8 = (qd : Int) := by rw [Int.tdiv_eq_ediv_of_nonneg (by omega)]; omega
    have htr : (q : Int).tmod 8 = (qr : Int) := by rw [Int.tmod_eq_emod_of_nonneg (by omega)]; omega
    have hw1 : IntKind.i64.wrap (8 * (qr : Int)) = (n : Int) := by rw [IntWalk.i64_in _ (by omega)]; omega
    have hwq : IntKind.i64.wrap (qd : Int) = (qd : Int) := IntWalk.i64_in _ (by omega)
    obtain ⟨a0, a1, a2⟩ := Vs.atL (i := qd) hb3 (by rw [HU.out]; exact hq25)
    obtain ⟨x9, hx9⟩ : ∃ z, U.getD qd 0 = z := ⟨_, rfl⟩
    rw [hx9] at a0
    have HY : Hid (byteS U q = IntKind.u8.wrap (x9 / 2 ^ min n 64)) := by
     show _ = _
     unfold byteS
     rw [hqd, hqr, hn, hx9]
    obtain ⟨y, hy⟩ : ∃ z, IntKind.u8.wrap (x9 / 2 ^ min n 64) = z := ⟨_, rfl⟩
    clear hqd hqr hn hx9
    have hb00 := Below.refl w3.heap.size w3
    refine region_G (n := 20) (m := 22) (f := 20) (by kernel_rfl) (by kernel_rfl) rfl ?_
    refine WpG.vD 0 (some 38) ?_ rfl rfl (by kernel_rfl) (fun _ _ _ h => h) rfl (fun wz hwz => ?_) ?_
    rotate_left
    ·go_simp; try (with_reducible rfl)
    simp only [Zp, Zq, Zr, Zs]
    refine WpG.vD 1 (some 39) ?_ rfl rfl (by kernel_rfl) (fun _ _ _ h => h) rfl (fun wz hwz => ?_) ?_
    rotate_left
    ·go_simp; try (with_reducible rfl)
    simp only [Zp, Zq, Zr, Zs]
    refine WpG.vD 2 (some 40) ?_ rfl rfl (by kernel_rfl) (fun _ _ _ h => h) rfl (fun wz hwz => ?_) ?_
    rotate_left
    ·go_simp; try (with_reducible rfl)
    simp only [Zp, Zq, Zr, Zs]
    refine WpG.vD 3 (some 41) ?_ rfl rfl (by kernel_rfl) (fun _ _ _ h => h) rfl (fun wz hwz => ?_) ?_
    rotate_left
    ·go_simp; try (with_reducible rfl)
    simp only [Zp, Zq, Zr, Zs]
    refine WpG.vD 4 (some 42) ?_ rfl rfl (by kernel_rfl) (fun _ _ _ h => h) rfl (fun wz hwz => ?_) ?_
    rotate_left
    ·go_simp; try (with_reducible rfl)
    simp only [Zp, Zq, Zr, Zs]
    refine WpG.vD 5 (some 43) ?_ rfl rfl (by kernel_rfl) (fun _ _ _ h => h) rfl (fun wz hwz => ?_) ?_
    rotate_left
    ·(obtain ⟨hcz, hfz⟩ := bcell (hwz); go_simp; try (with_reducible rfl))
    simp only [Zp, Zq, Zr, Zs]
    refine WpG.vD 6 (some 44) ?_ rfl rfl (by kernel_rfl) (fun _ _ _ h => h) rfl (fun wz hwz => ?_) ?_
    rotate_left
    ·go_simp; try (with_reducible rfl)
    simp only [Zp, Zq, Zr, Zs]
    refine WpG.vD 7 (some 45) ?_ rfl rfl (by kernel_rfl) (fun _ _ _ h => h) rfl (fun wz hwz => ?_) ?_
    rotate_left
    ·go_simp; try (with_reducible rfl)
    simp only [Zp, Zq, Zr, Zs]
    refine WpG.vD 8 (some 46) ?_ rfl rfl (by kernel_rfl) (fun _ _ _ h => h) rfl (fun wz hwz => ?_) ?_
    rotate_left
    ·go_simp; try (with_reducible rfl)
    simp only [Zp, Zq, Zr, Zs]
    refine WpG.vD 9 (some 47) ?_ rfl rfl (by kernel_rfl) (fun _ _ _ h => h) rfl (fun wz hwz => ?_) ?_
    rotate_left
    ·go_simp; try (with_reducible rfl)
    simp only [Zp, Zq, Zr, Zs]
    refine WpG.vD 10 (some 48) ?_ rfl rfl (by kernel_rfl) (fun _ _ _ h => h) rfl (fun wz hwz => ?_) ?_
    rotate_left
    ·(obtain ⟨hcz, hfz⟩ := bcell (hwz); go_simp; try (with_reducible rfl))
    simp only [Zp, Zq, Zr, Zs]
    refine WpG.vD 11 (some 49) ?_ rfl rfl (by kernel_rfl) (fun _ _ _ h => h) rfl (fun wz hwz => ?_) ?_
    rotate_left
    ·go_simp; try (with_reducible rfl)
    simp only [Zp, Zq, Zr, Zs]
    refine WpG.vD 12 (some 50) ?_ rfl rfl (by kernel_rfl) (fun _ _ _ h => h) rfl (fun wz hwz => ?_) ?_
    rotate_left
    ·go_simp; try (with_reducible rfl)
    simp only [Zp, Zq, Zr, Zs]
    refine WpG.vD 13 (some 51) ?_ rfl rfl (by kernel_rfl) (fun _ _ _ h => h) rfl (fun wz hwz => ?_) ?_
    rotate_left
    ·go_simp; try (with_reducible rfl)
    simp only [Zp, Zq, Zr, Zs]
    refine WpG.vD 14 (some 52) ?_ rfl rfl (by kernel_rfl) (fun _ _ _ h => h) rfl (fun wz hwz => ?_) ?_
    rotate_left
    ·(obtain ⟨hcz, hfz⟩ := bcell (hwz); go_simp; try (with_reducible rfl))
    simp only [Zp, Zq, Zr, Zs]
    refine WpG.vD 15 (some 53) ?_ rfl rfl (by kernel_rfl) (fun _ _ _ h => h) rfl (fun wz hwz => ?_) ?_
    rotate_left
    ·go_simp; try (with_reducible rfl)
    simp only [Zp, Zq, Zr, Zs]
    refine WpG.vD 16 (some 54) ?_ rfl rfl (by kernel_rfl) (fun _ _ _ h => h) rfl (fun wz hwz => ?_) ?_
    rotate_left
    ·go_simp; try (with_reducible rfl)
    simp only [Zp, Zq, Zr, Zs]
    refine WpG.vD 17 (some 55) ?_ rfl rfl (by kernel_rfl) (fun _ _ _ h => h) rfl (fun wz hwz => ?_) ?_
    rotate_left
    ·go_simp; try (with_reducible rfl)
    simp only [Zp, Zq, Zr, Zs]
    refine WpG.vD 18 (some 56) ?_ rfl rfl (by kernel_rfl) (fun _ _ _ h => h) rfl (fun wz hwz => ?_) ?_
    rotate_left
    ·go_simp; try (with_reducible rfl)
    simp only [Zp, Zq, Zr, Zs]
    refine WpG.oneD 19 (some 57) rfl rfl (by kernel_rfl) (fun b : Nat => Value.slice (some ⟨b, 0, none⟩) 1 1) (fun b wz => w3.heap.size ≤ b ∧ Vs wz b [.int .u8 y]) (fun _ _ _ h hb => ⟨h.1, h.2.call hb⟩) (Fresh.slice 1 1 [.int .u8 y] 5 rfl (fun wz hwz => (hwz).size) (fun wz hwz => by go_simp; try (with_reducible rfl)) (R := fun b wz => Vs wz b [.int .u8 y]) (fun wz hwz => Vs.new wz _ _ _ rfl)) (fun nb w0 hw0 hR0 => ?_)
    simp only [Zp, Zq, Zr, Zs]
    refine WpG.done (by kernel_rfl) (fun w4 hS => ?_)
    (try simp only [List.drop_succ_cons]); (try simp only [List.drop_zero]); (try simp only [Nat.reduceSub]); (try simp only [List.take_succ_cons]); (try simp only [List.take_zero])
    obtain ⟨hb4, hnb, hV⟩ := hS
    have HST2 : Hid (readS T (i + 1) = ((U, q + 1), out ++ [y])) := by
     show _ = _
     rw [HST.out, HY.out, hy]
    have HOW := Lib.hid (own_call HO.out hb4)
    have HR1 := Lib.hid (show 0 < 1 → ∃ b o, (some ⟨nb, 0, none⟩ : Option Addr) = some ⟨b, o, none⟩ ∧ RowB w4 b o [y] from fun _ => ⟨nb, 0, rfl, fun i e hi => by
     match i, hi with
     | 0, hi =>
      obtain rfl : y = e := by simpa using hi
      exact hV.cell 0 _ rfl⟩)
    have hk1 : i + 1 ≤ 1099511627776 := by omega
    have hE4 := hE.call hb4
    have hbase : w.heap.size ≤ w4.heap.size := hE4.size
    have hb4s : Sp w4 b U q d true := hb3.call hb4
    clear hb4 hnb hV hE hb3 c0 c1 c2 c3 c4 c5 c6 a0 a1 a2 HO HST HY hy hw0 hR0 hb00 htq htr hwq hw1
    go_upto_region 12 with (at_builtin; (refine wpList_append_B rfl (.tmp 38) (.tmp 57) rfl w.heap.size _ i out rfl HOW.out (some ⟨nb, 0, none⟩) 1 1 [y] rfl rfl HR1.out hk1 hbase ?_; intro v2 w5 hown5 hg5 hat5; obtain ⟨g2, cap2, hv2⟩ := own_sl9 hown5 (Nat.succ_pos i); rw [hv2]))
    rw [hv2] at hown5
    have hbB := HB.out
    have hgb := (HOW.out.lt g rfl).1
    have hE5 : Exc (fun q => q = g) w4.heap.size w4 w5 := ⟨hg5.os, hg5.tape, hg5.output, hg5.size, fun k hk hn => hg5.block k hk (fun e => hn (by
     have e2 : some k = some g := e
     injection e2))⟩
    have hb5 : Sp w5 b U q d true := Vs.exc (S := fun q => q = g) hb4s (fun e => by
     have e2 : b = g := e
     omega) hE5
    have hE6 := hE4.trans (exc_of ((Below.refl w.heap.size w4).grown hg5 hbase (fun q hq => (HOW.out.lt q hq).1)))
    clear HOW HR1 hg5 hat5 hbase hE5 hb4s hE4 hgb
    obtain ⟨⟨c0, c1, c2⟩, ⟨c3, c4, c5⟩, c6⟩ := hb5.cells HU.out
    have HNN := Lib.hid (hb5.setP HU.out (q + 1))
    have HEE := Lib.hid (exc_set9 (i := 25) (v := .int .i64 ((q + 1 : Nat) : Int)) hE6)
    have HOO : Hid ((w5.setCell ⟨b, 25, none⟩ (.int .i64 ((q + 1 : Nat) : Int))).ownsRow w.heap.size 5 1 (.slice (some ⟨g2, 0, none⟩) (i + 1) cap2) (i + 1) (cells8 (out ++ [y]))) :=
     own_excK (S := fun q => q = b) hown5 (fun k hk e => by
      have e2 : k = b := e
      omega) (exc_set9 (exc_of (Below.refl _ _)))
    clear hb5 hE6 hown5 hv2 hbB
    go_wp2_with fail
    go_roundw
    case rel => exact ⟨i + 1, g2, cap2, by omega, by go_num, rfl, by rw [HST2.out]; exact HOO.out, by rw [HST2.out]; exact HNN.out, HEE.out⟩
    case measure => simp [intOf]; omega
  ·obtain rfl : i = 16 := by omega
   have HO := Lib.hid hO
   have HE := Lib.hid hE
   clear hO hb hE
   go_wp2_with fail
   go_ret
   exact ⟨g, cp, rfl, HO.out, HE.out⟩

end Go.Proofs.Ytbakkmfjamcbfaa

namespace Go.Proofs.Ytbakkmfjamcbfaa
open Go.RowKit Fm
set_option linter.unusedVariables false
set_option maxRecDepth 100000

def z25L : List Int := List.replicate 25 0
theorem z25L_length : z25L.length = 25 := rfl

set_option maxHeartbeats 4000000 in
theorem keccak_New (d : Int) (hd : 1 ≤ d ∧ d ≤ 127) (w : World) :
  Calls Try.prog 93 #[.int .u8 d] w fun e w' => ∃ g, e = .returned (.pointer (some ⟨g, 0, none⟩)) ∧ Sp w' g z25L 0 d false ∧ w.heap.size ≤ g ∧ Below w.heap.size w w' := by
 have h1 : decide (d < 1) = false := by simp; omega
 have h2 : decide (127 < d) = false := by simp; omega
 clear hd
 go_enter Try.func93, Try.ntmps93
 go_upto_region 3 with fail
 clear h1 h2
 go_wp2_with fail
 go_ret
 refine ⟨_, rfl, ?_, Nat.le_refl _, (Below.refl _ _).alloc (Nat.le_refl _) _⟩
 exact Vs.new _ _ _ _ rfl

def hashF (d : Int) (xs : List Int) : List Int := (readS (endS (writeS z25L 0 xs xs.length).1 (writeS z25L 0 xs xs.length).2 d) 16).2
theorem hashF_ok (d : Int) (xs : List Int) : (hashF d xs).length = 16 ∧ ∀ x, x ∈ hashF d xs → 0 ≤ x ∧ x ≤ 255 := by
 obtain ⟨h1, h2⟩ := writeS_ok (xs := xs) z25L_length (Nat.zero_le 168) xs.length
 exact ⟨(readS_ok (endS_length h1 h2 d) 16).2.2, readS_range _ _⟩
theorem own_base9 {w : World} {base base' : Nat} {e : TypeId} {size n : Nat} {v : Value} {xs : List Value} (h : w.ownsRow base e size v n xs) (hb : base' ≤ base) : w.ownsRow base' e size v n xs := by
 refine ⟨h.1, ?_⟩
 rcases h.2 with h | ⟨g', cap, cur, hv, h2, h3⟩
 ·exact .inl h
 ·exact .inr ⟨g', cap, cur, hv, Nat.le_trans hb h2, h3⟩
theorem exc_own {B b : Nat} {w w' : World} (h : Exc (fun q => q = b) B w w') (hb : B ≤ b) : Below B w w' := h.below fun k hk e => by
 have e2 : k = b := e
 omega

set_option maxHeartbeats 4000000 in
theorem keccak_Hash (d : Int) (hd : 1 ≤ d ∧ d ≤ 127) (xs : List Int) (hx : ∀ i, i < xs.length → 0 ≤ xs.getD i 0 ∧ xs.getD i 0 ≤ 255) (hxl : xs.length ≤ 1000000) (bb o cc : Nat) (w : World)
  (hrow : ∀ i, i < xs.length → w.cell? ⟨bb, o + i, none⟩ = some (.int .u8 (xs.getD i 0))) (hbb : bb < w.heap.size) :
  Calls Try.prog 57 #[.int .u8 d, .slice (some ⟨bb, o, none⟩) xs.length cc, .int .i64 16] w fun e w' => ∃ g cp, e = .returned (.slice (some ⟨g, 0, none⟩) 16 cp) ∧ w'.ownsRow w.heap.size 5 1 (.slice (some ⟨g, 0, none⟩) 16 cp) 16 (cells8 (hashF d xs)) ∧ Below w.heap.size w w' := by
 obtain ⟨h1, h2⟩ := writeS_ok (xs := xs) z25L_length (Nat.zero_le 168) xs.length
 have HNW : Hid (∀ wz, Calls Try.prog 93 #[.int .u8 d] wz fun e w' => ∃ g, e = .returned (.pointer (some ⟨g, 0, none⟩)) ∧ Sp w' g z25L 0 d false ∧ wz.heap.size ≤ g ∧ Below wz.heap.size wz w') := keccak_New d hd
 have HWR : Hid (∀ (b : Nat) (wz : World), Sp wz b z25L 0 d false → (∀ i, i < xs.length → wz.cell? ⟨bb, o + i, none⟩ = some (.int .u8 (xs.getD i 0))) → bb < wz.heap.size → bb ≠ b →
   Calls Try.prog 94 #[.pointer (some ⟨b, 0, none⟩), .slice (some ⟨bb, o, none⟩) xs.length cc] wz fun e w' => e = .returned (.tuple #[]) ∧ Sp w' b (writeS z25L 0 xs xs.length).1 (writeS z25L 0 xs xs.length).2 d false ∧ Exc (fun q => q = b) wz.heap.size wz w') :=
  fun b wz h1 h2 h3 h4 => keccak_Write z25L z25L_length 0 (Nat.zero_le 168) d xs hx hxl bb o cc b wz h1 h2 h3 h4
 show Calls _ _ _ _ fun e w' => ∃ g cp, e = .returned (.slice (some ⟨g, 0, none⟩) 16 cp) ∧ w'.ownsRow w.heap.size 5 1 (.slice (some ⟨g, 0, none⟩) 16 cp) 16 (cells8 (readS (endS (writeS z25L 0 xs xs.length).1 (writeS z25L 0 xs xs.length).2 d) 16).2) ∧ Below w.heap.size w w'
 generalize writeS z25L 0 xs xs.length = z at h1 h2 HWR ⊢
 obtain ⟨S, p⟩ := z
 dsimp only at h1 h2 HWR ⊢
 have HRD : Hid (∀ (b : Nat) (wz : World), Sp wz b S p d false → Calls Try.prog 95 #[.pointer (some ⟨b, 0, none⟩), .int .i64 16] wz fun e w' => ∃ g cp, e = .returned (.slice (some ⟨g, 0, none⟩) 16 cp) ∧ w'.ownsRow wz.heap.size 5 1 (.slice (some ⟨g, 0, none⟩) 16 cp) 16 (cells8 (readS (endS S p d) 16).2) ∧ Exc (fun q => q = b) wz.heap.size wz w') :=
  fun b wz h => keccak_Read S h1 p h2 d (by omega) b wz h
 generalize (readS (endS S p d) 16).2 = ys at HRD ⊢
 have HROW := Lib.hid hrow
 have HBB : Hid (bb < w.heap.size) := hbb
 clear hrow hbb h1 h2 hx hxl hd
 go_enter Try.func57, Try.ntmps57
 go_upto_region 2 with (go_at_call 93; refine (HNW.out _).mono ?_; rintro e w1 ⟨b, rfl, hs1, hg1, hb1⟩)
 have HR1 : Hid (∀ i, i < xs.length → w1.cell? ⟨bb, o + i, none⟩ = some (.int .u8 (xs.getD i 0))) := fun i hi => (hb1.cell (p := ⟨bb, o + i, none⟩) HBB.out).trans (HROW.out i hi)
 have HBB1 : Hid (bb < w1.heap.size) := Nat.lt_of_lt_of_le HBB.out hb1.size
 have HNE : Hid (bb ≠ b) := fun e => by
  have := HBB.out
  omega
 have HG : Hid (w.heap.size ≤ b) := hg1
 have HB1 := Lib.hid hb1
 clear hb1 hg1
 go_upto_region 3 with (go_at_call 94; refine (HWR.out _ _ hs1 HR1.out HBB1.out HNE.out).mono ?_; rintro e w2 ⟨rfl, hs2, hE2⟩)
 have HB2 : Hid (Below w.heap.size w w2) := HB1.out.trans (exc_own (hE2.mono HB1.out.size) HG.out)
 clear hs1 hE2
 go_wp2_with (go_at_call 95; refine (HRD.out _ _ hs2).mono ?_; rintro e w3 ⟨g, cp, rfl, ho3, hE3⟩)
 have HB3 : Hid (Below w.heap.size w w3) := HB2.out.trans (exc_own (hE3.mono HB2.out.size) HG.out)
 have HO := Lib.hid (own_base9 ho3 HB2.out.size)
 clear hs2 hE3 ho3
 try go_wp2_with fail
 go_ret
 exact ⟨g, cp, rfl, HO.out, HB3.out⟩

end Go.Proofs.Ytbakkmfjamcbfaa

namespace Go.Proofs.Ytbakkmfjamcbfaa
open Go.RowKit Fm
set_option linter.unusedVariables false
set_option maxRecDepth 100000

theorem small_code {y : CK} (h : ¬ 511 < y.calls) (hy : y.ok) {F : Nat} (hF : IsF F) (p : Int) (hp : 1 ≤ p ∧ p ≤ 3) (s : ByteArray) (hs : s.size ≤ 32) (w : World) :
  Calls Try.prog 43 #[.agg #[.int .u8 (y.k : Nat), .int .u8 F, .int .i64 (y.b : Nat), .int .i64 (y.l : Nat), .int .i64 (y.m : Nat), .int .i64 (y.c : Nat), .int .i64 p, .string s]] w (RetC 0 w) := by
 have hC : ∀ wz, Calls Try.prog 60 #[y.val F] wz (RetC 0 wz) := fun wz => by
  have h1 := circuit_Check_ok hF y hy wz
  rwa [CK.code_ok h] at h1
 have h2 := task_Check_of ⟨⟨y.k, F, y.b, y.l, y.m, y.c⟩, p, s⟩ 0 hC w
 rw [if_pos rfl, if_neg (by
  show ¬ (p < 1 ∨ 3 < p ∨ 32 < s.size)
  omega)] at h2
 exact h2

end Go.Proofs.Ytbakkmfjamcbfaa

namespace Go.Proofs.Ytbakkmfjamcbfaa
open Go.RowKit Fm
set_option linter.unusedVariables false
set_option maxRecDepth 100000

/-! ### 'exclusive or' of bytes -/
def X8 (a b : Int) : Int := bits BinOp.xor IntKind.u8 a b
theorem X8_eq (a b : Int) : X8 a b = (((BitVec.ofInt 8 a ^^^ BitVec.ofInt 8 b).toNat : Nat) : Int) := by
 have h := (BitVec.ofInt 8 a ^^^ BitVec.ofInt 8 b).isLt
 show IntKind.u8.wrap (((BitVec.ofInt 8 a ^^^ BitVec.ofInt 8 b).toNat : Nat) : Int) = _
 exact IntWalk.u8_in _ (by omega)
theorem ofInt_toNat8 (v : BitVec 8) : BitVec.ofInt 8 ((v.toNat : Nat) : Int) = v := by
 simp
theorem X8_comm (a b : Int) : X8 a b = X8 b a := by rw [X8_eq, X8_eq, BitVec.xor_comm]
theorem X8_assoc (a b c : Int) : X8 (X8 a b) c = X8 a (X8 b c) := by
 simp only [X8_eq, ofInt_toNat8, BitVec.xor_assoc]
theorem X8_zero {a : Int} (h : 0 ≤ a ∧ a ≤ 255) : X8 0 a = a := by
 rw [X8_eq]
 obtain ⟨n, rfl⟩ : ∃ n : Nat, a = n := ⟨a.toNat, by omega⟩
 have h2 : n < 256 := by omega
 have h3 : BitVec.ofInt 8 0 = 0#8 := rfl
 have h4 : BitVec.ofInt 8 (n : Int) = BitVec.ofNat 8 n := by simp
 rw [h3, h4, BitVec.zero_xor, BitVec.toNat_ofNat]
 omega
theorem X8_range (a b : Int) : 0 ≤ X8 a b ∧ X8 a b ≤ 255 := by
 rw [X8_eq]
 have h := (BitVec.ofInt 8 a ^^^ BitVec.ofInt 8 b).isLt
 omega

def xorL (a b : List Int) : List Int := List.zipWith X8 a b
theorem xorL_length {a b : List Int} {n : Nat} (h1 : a.length = n) (h2 : b.length = n) : (xorL a b).length = n := by
 unfold xorL
 rw [List.length_zipWith, h1, h2, Nat.min_self]
theorem xorL_comm (a b : List Int) : xorL a b = xorL b a := by
 unfold xorL
 exact List.zipWith_comm_of_comm (fun x y => X8_comm x y)
theorem xorL_assoc : ∀ (a b c : List Int), xorL (xorL a b) c = xorL a (xorL b c)
 | [], _, _ => by simp [xorL]
 | _ :: _, [], _ => by simp [xorL]
 | _ :: _, _ :: _, [] => by simp [xorL]
 | x :: a, y :: b, z :: c => by
  have ih := xorL_assoc a b c
  unfold xorL at ih ⊢
  simp only [List.zipWith_cons_cons, X8_assoc, ih]
def B8 (k : List Int) : Prop := ∀ x, x ∈ k → 0 ≤ x ∧ x ≤ 255
theorem xorL_B8 {a b : List Int} : B8 (xorL a b) := by
 intro x hx
 unfold xorL at hx
 rw [List.mem_iff_getElem?] at hx
 obtain ⟨i, hi⟩ := hx
 rw [List.getElem?_zipWith] at hi
 revert hi
 cases a[i]? <;> cases b[i]? <;> intro hi <;> simp at hi
 rw [← hi]
 exact X8_range _ _
theorem xorL_zero : ∀ (n : Nat) (a : List Int), a.length = n → B8 a → xorL (List.replicate n 0) a = a
 | 0, [], _, _ => rfl
 | n + 1, x :: a, h, hb => by
  have ih := xorL_zero n a (by simpa using h) fun y hy => hb y (List.mem_cons_of_mem _ hy)
  unfold xorL at ih ⊢
  rw [List.replicate_succ, List.zipWith_cons_cons, ih, X8_zero (hb x (List.mem_cons_self ..))]

/-! ### loads and stores of many cells at once -/
theorem Vs.rangeP {w : World} {b : Nat} {p l q : List Value} (h : Vs w b (p ++ l ++ q)) : w.rangeAt b p.length l := fun j v hj => by
 refine h.cell (p.length + j) v ?_
 have hl := (List.getElem?_eq_some_iff.1 hj).1
 rw [List.append_assoc, List.getElem?_append_right (by omega), Nat.add_sub_cancel_left, List.getElem?_append_left hl]
 exact hj
theorem Vs.rangeW {w : World} {b : Nat} {l : List Value} (h : Vs w b l) : w.rangeAt b 0 l := fun j v hj => by
 rw [Nat.zero_add]
 exact h.cell j v hj
theorem Vs.thereW {w : World} {b : Nat} {l : List Value} (h : Vs w b l) : w.there b 0 l.length := fun j hj => by
 rw [Nat.zero_add, h.cell j _ (List.getElem?_eq_getElem hj)]
 exact ⟨rfl, h.frz j hj⟩
theorem Vs.setW {w : World} {b : Nat} {l l' : List Value} (h : Vs w b l) (hl : l'.length = l.length) : Vs (w.setCells b 0 l') b l' := by
 refine ⟨fun i v hi => ?_, fun i hi => ?_, by rw [size_setCells]; exact h.lt⟩
 ·have hil := (List.getElem?_eq_some_iff.1 hi).1
  have h1 := World.cell?_setCells_in b l' 0 w (fun j hj => (h.thereW j (by rw [← hl]; exact hj)).1) i hil
  rw [Nat.zero_add] at h1
  rw [h1]
  rw [List.getElem?_eq_getElem hil] at hi
  exact hi
 ·rw [World.frozen?_setCells]
  exact h.frz i (by rw [← hl]; exact hi)
theorem Vs.farW {w : World} {b b' : Nat} {l : List Value} (h : Vs w b l) (hb : b' ≠ b) (o : Nat) (l' : List Value) : Vs (w.setCells b' o l') b l := by
 refine ⟨fun i v hi => ?_, fun i hi => ?_, by rw [size_setCells]; exact h.lt⟩
 ·rw [World.cell?_setCells_out b' l' o w ⟨b, i, none⟩ (fun e _ => absurd e.symm hb)]
  exact h.cell i v hi
 ·rw [World.frozen?_setCells]
  exact h.frz i hi
theorem bl_setCells {B : Nat} {a w : World} {b : Nat} (h : Below B a w) (hb : B ≤ b) (o : Nat) (l : List Value) : Below B a (w.setCells b o l) :=
 (exc_setCells (S := fun q => q = b) b rfl l o w (exc_of h)).below fun k hk e => by
  have e2 : k = b := e
  omega
theorem load_W {w : World} {b : Nat} {l : List Value} {T : TypeId} {d : TypeDesc} (h : Vs w b l) (hu : Try.prog.underlying T = some d) (hd : d.isRow = true) (hi : (Try.prog.info? T).map (·.size) = some l.length) :
  (Instr.loadAt T (.pointer (some ⟨b, 0, none⟩))).run Try.prog w = .ok (.agg l.toArray) w := run_loadAt_mid w b 0 T l d h.rangeW hu hd hi
theorem loadVar_W {w : World} {b : Nat} {l : List Value} {T : TypeId} {d : TypeDesc} (h : Vs w b l) (hu : Try.prog.underlying T = some d) (hd : d.isRow = true) (hi : (Try.prog.info? T).map (·.size) = some l.length) :
  (loadVar T ⟨b, 0, none⟩).run Try.prog w = .ok (.agg l.toArray) w := run_loadVar_mid w b 0 T l d h.rangeW hu hd hi
theorem load_P {w : World} {b : Nat} {p l q : List Value} {T : TypeId} {d : TypeDesc} (h : Vs w b (p ++ l ++ q)) (hu : Try.prog.underlying T = some d) (hd : d.isRow = true) (hi : (Try.prog.info? T).map (·.size) = some l.length) :
  (Instr.loadAt T (.pointer (some ⟨b, p.length, none⟩))).run Try.prog w = .ok (.agg l.toArray) w := run_loadAt_mid w b _ T l d h.rangeP hu hd hi
theorem store_W {w : World} {b : Nat} {l l' : List Value} {T : TypeId} (h : Vs w b l) (hl : l'.length = l.length) (hi : (Try.prog.info? T).map (·.size) = some l'.length) (h1 : ∀ v, v ∈ l' → v.oneCell' = true) :
  (Instr.storeAt T (.pointer (some ⟨b, 0, none⟩)) (.agg l'.toArray)).run Try.prog w = .ok () (w.setCells b 0 l') :=
 run_storeAt_mid w b 0 T l'.toArray (by rw [List.size_toArray, hl]; exact h.thereW) (by rw [List.size_toArray]; exact hi) (all_oneCell_toArray h1)
theorem one8 (k : List Int) : ∀ v, v ∈ cells8 k → v.oneCell' = true := fun v hv => by
 obtain ⟨x, _, rfl⟩ := List.mem_map.1 hv
 rfl

theorem exec_load {w : World} {ρ : Operand → Value} {o : Oper} {T : TypeId} {x : Operand} {p v : Value} (ho : o.op = .load T x) (hx : ρ x = p) (h : (Instr.loadAt T p).run Try.prog w = .ok v w) : (execOp ρ o).run Try.prog w = .ok (.value v) w := by
 unfold execOp
 simp only [ho, hx, Sem.run_bind, h, Result.andThen_ok, Sem.run_pure]
theorem exec_store {w w' : World} {ρ : Operand → Value} {o : Oper} {T : TypeId} {x y : Operand} {p v : Value} (ho : o.op = .store T x y) (hx : ρ x = p) (hy : ρ y = v) (h : (Instr.storeAt T p v).run Try.prog w = .ok () w') : (execOp ρ o).run Try.prog w = .ok .skip w' := by
 unfold execOp
 simp only [ho, hx, hy, Sem.run_bind, h, Result.andThen_ok, Sem.run_pure]
theorem exec_build {w : World} {ρ : Operand → Value} {o : Oper} {T : TypeId} {ps : Array (Nat × Operand)} {qs : Array (Nat × Value)} {v : Value} (ho : o.op = .build T ps) (hx : (ps.map fun (i, x) => (i, ρ x)) = qs) (h : (Instr.build T qs).run Try.prog w = .ok v w) : (execOp ρ o).run Try.prog w = .ok (.value v) w := by
 unfold execOp
 simp only [ho, hx, Sem.run_bind, h, Result.andThen_ok, Sem.run_pure]
theorem wpList_valD {ops : Array Oper} {Q : Exit → Act → World → Prop} {a : Act} {w w' : World} {rest : List Oper} {o : Oper} {v : Value} (d : Option Tmp) (hd : o.dst = d) (hg : o.guard = none)
  (h : (execOp a.eval o).run Try.prog w = .ok (.value v) w') (hK : wpList Try.prog ops Q rest (a.put d v) w') : wpList Try.prog ops Q (o :: rest) a w := wpList_val hg h (by rw [hd]; exact hK)
theorem wpList_skipD {ops : Array Oper} {Q : Exit → Act → World → Prop} {a : Act} {w w' : World} {rest : List Oper} {o : Oper} (hd : o.dst = none) (hg : o.guard = none)
  (h : (execOp a.eval o).run Try.prog w = .ok .skip w') (hK : wpList Try.prog ops Q rest a w') : wpList Try.prog ops Q (o :: rest) a w := wpList_skip hg h (by rw [hd]; exact hK)
theorem wpList_callD {ops : Array Oper} {rest : List Oper} {o : Oper} {a : Act} {w : World} {Q : Exit → Act → World → Prop} (d : Option Tmp) (hd : o.dst = d) (hg : o.guard = none) (f : FuncId) (args : Array Value) (hrun : (execOp a.eval o).run Try.prog w = .ok (.enter f args) w) {Post : Ending → World → Prop}
  (hc : Calls Try.prog f args w Post) (h : ∀ e w', Post e w' → ∃ v, e = .returned v ∧ wpList Try.prog ops Q rest (a.put d v) w') : wpList Try.prog ops Q (o :: rest) a w :=
 wpList_callB hg f args hrun hc fun e w' hp => by
  obtain ⟨v, h1, h2⟩ := h e w' hp
  exact ⟨v, h1, by rw [hd]; exact h2⟩

theorem wpList_valG {ops : Array Oper} {Q : Exit → Act → World → Prop} {a : Act} {w w' : World} {rest : List Oper} {o : Oper} {v : Value} (d : Option Tmp) (hd : o.dst = d) (hg : Region.wanted o (yielded ops a.tmps) = true)
  (h : (execOp a.eval o).run Try.prog w = .ok (.value v) w') (hK : wpList Try.prog ops Q rest (a.put d v) w') : wpList Try.prog ops Q (o :: rest) a w :=
 wpList_step fun K hk => by
  rw [if_pos hg]
  unfold Oper.wp
  rw [h]
  exact hk _ _ (by rw [hd]; exact hK)
theorem wpList_callG {ops : Array Oper} {rest : List Oper} {o : Oper} {a : Act} {w : World} {Q : Exit → Act → World → Prop} (d : Option Tmp) (hd : o.dst = d) (hg : Region.wanted o (yielded ops a.tmps) = true) (f : FuncId) (args : Array Value) (hrun : (execOp a.eval o).run Try.prog w = .ok (.enter f args) w) {Post : Ending → World → Prop}
  (hc : Calls Try.prog f args w Post) (h : ∀ e w', Post e w' → ∃ v, e = .returned v ∧ wpList Try.prog ops Q rest (a.put d v) w') : wpList Try.prog ops Q (o :: rest) a w :=
 wpList_step fun K hk => by
  rw [if_pos hg]
  unfold Oper.wp
  rw [hrun, Oper.upon_enter]
  refine hc.mono fun e w'' hh => ?_
  obtain ⟨v, rfl, h2⟩ := h e w'' hh
  exact hk _ _ (by rw [hd]; exact h2)
/-! ### a total's eighteen cells -/
def totL (v : Value) (m : Int) (k : List Int) : List Value := v :: .int .i64 m :: cells8 k
theorem totL_length (v : Value) (m : Int) {k : List Int} (hk : k.length = 16) : (totL v m k).length = 18 := by
 show (cells8 k).length + 1 + 1 = 18
 rw [cells8_length, hk]
def z16 : List Int := List.replicate 16 0
theorem z16_length : z16.length = 16 := rfl
theorem totL_one {v : Value} (hv : v.oneCell' = true) (m : Int) (k : List Int) : ∀ x, x ∈ totL v m k → x.oneCell' = true := fun x hx => by
 rcases List.mem_cons.1 hx with rfl | hx
 ·exact hv
 ·rcases List.mem_cons.1 hx with rfl | hx
  ·rfl
  ·exact one8 k x hx
theorem size_check : (Try.prog.info? 74).map (·.size) = some 16 := by kernel_rfl
theorem size_total : (Try.prog.info? 76).map (·.size) = some 18 := by kernel_rfl
theorem size_id : (Try.prog.info? 34).map (·.size) = some 16 := by kernel_rfl
section
variable {w : World} {b : Nat} {k : List Int} {v : Value} {m : Int}
theorem Vs.load16 (h : Vs w b (cells8 k)) (hk : k.length = 16) : (Instr.loadAt 74 (.pointer (some ⟨b, 0, none⟩))).run Try.prog w = .ok (.agg (cells8 k).toArray) w :=
 load_W h Try.underlying74 rfl (by rw [cells8_length, hk]; exact size_check)
theorem Vs.loadId (h : Vs w b (cells8 k)) (hk : k.length = 16) : (Instr.loadAt 34 (.pointer (some ⟨b, 0, none⟩))).run Try.prog w = .ok (.agg (cells8 k).toArray) w :=
 load_W h Try.underlying34 rfl (by rw [cells8_length, hk]; exact size_id)
theorem Vs.loadT (h : Vs w b (totL v m k)) (hk : k.length = 16) : (Instr.loadAt 76 (.pointer (some ⟨b, 0, none⟩))).run Try.prog w = .ok (.agg (totL v m k).toArray) w :=
 load_W h Try.underlying76 rfl (by rw [totL_length v m hk]; exact size_total)
theorem Vs.loadTC (h : Vs w b (totL v m k)) (hk : k.length = 16) : (Instr.loadAt 74 (.pointer (some ⟨b, 2, none⟩))).run Try.prog w = .ok (.agg (cells8 k).toArray) w := by
 have h2 : Vs w b ([v, .int .i64 m] ++ cells8 k ++ []) := by rw [List.append_nil]; exact h
 exact load_P h2 Try.underlying74 rfl (by rw [cells8_length, hk]; exact size_check)
theorem Vs.store16 {k' : List Int} (h : Vs w b (cells8 k')) (hk' : k'.length = 16) (hk : k.length = 16) : (Instr.storeAt 74 (.pointer (some ⟨b, 0, none⟩)) (.agg (cells8 k).toArray)).run Try.prog w = .ok () (w.setCells b 0 (cells8 k)) :=
 store_W h (by rw [cells8_length, cells8_length, hk, hk']) (by rw [cells8_length, hk]; exact size_check) (one8 k)
theorem Vs.storeT {v' : Value} {m' : Int} {k' : List Int} (h : Vs w b (totL v' m' k')) (hk' : k'.length = 16) (hk : k.length = 16) (hv : v.oneCell' = true) : (Instr.storeAt 76 (.pointer (some ⟨b, 0, none⟩)) (.agg (totL v m k).toArray)).run Try.prog w = .ok () (w.setCells b 0 (totL v m k)) :=
 store_W h (by rw [totL_length _ _ hk, totL_length _ _ hk']) (by rw [totL_length _ _ hk]; exact size_total) (totL_one hv m k)
theorem Vs.set16 {k' : List Int} (h : Vs w b (cells8 k')) (hk' : k'.length = 16) (hk : k.length = 16) : Vs (w.setCells b 0 (cells8 k)) b (cells8 k) := h.setW (by rw [cells8_length, cells8_length, hk, hk'])
theorem Vs.setT {v' : Value} {m' : Int} {k' : List Int} (h : Vs w b (totL v' m' k')) (hk' : k'.length = 16) (hk : k.length = 16) : Vs (w.setCells b 0 (totL v m k)) b (totL v m k) := h.setW (by rw [totL_length _ _ hk, totL_length _ _ hk'])
theorem Vs.tot (h : Vs w b (totL v m k)) : w.cell? ⟨b, 0, none⟩ = some v ∧ w.cell? ⟨b, 1, none⟩ = some (.int .i64 m) ∧ w.frozen? ⟨b, 0, none⟩ = false ∧ w.frozen? ⟨b, 1, none⟩ = false ∧ b < w.heap.size :=
 ⟨h.cell 0 _ rfl, h.cell 1 _ rfl, h.frz 0 (Nat.zero_lt_succ _), h.frz 1 (Nat.succ_lt_succ (Nat.zero_lt_succ _)), h.lt⟩
theorem Vs.at16 (h : Vs w b (cells8 k)) {i : Nat} (hi : i < k.length) : w.cell? ⟨b, i, none⟩ = some (.int .u8 (k.getD i 0)) ∧ w.frozen? ⟨b, i, none⟩ = false ∧ b < w.heap.size := by
 refine ⟨h.cell i _ (cells8_at ?_), h.frz i (by rw [cells8_length]; exact hi), h.lt⟩
 rw [List.getD_eq_getElem?_getD, List.getElem?_eq_getElem hi]
 rfl
theorem Vs.put16 (h : Vs w b (cells8 k)) {i : Nat} (hi : i < k.length) (x : Int) : Vs (w.setCell ⟨b, i, none⟩ (.int .u8 x)) b (cells8 (k.set i x)) := by
 have h2 := h.put i (by rw [cells8_length]; exact hi) (.int .u8 x)
 have h3 : (cells8 k).set i (.int .u8 x) = cells8 (k.set i x) := by
  unfold cells8
  rw [List.map_set]
 rwa [h3] at h2
theorem results_check {fn : Func} {p : Tmp} {tmps : Array Value} (hv : Vs w b (cells8 k)) (hk : k.length = 16) (h : fn.results = #[.cell p 74]) (hp : tmps.getD p undef = .pointer (some ⟨b, 0, none⟩)) :
  (results fn tmps).run Try.prog w = .ok (.agg (cells8 k).toArray) w := by
 have hl : (loadVar 74 ⟨b, 0, none⟩).run Try.prog w = _ := loadVar_W hv Try.underlying74 rfl (by rw [cells8_length, hk]; exact size_check)
 rw [Array.getD_eq_getD_getElem?] at hp
 simp only [results, h]
 simp [asAddr, hp, hl]
theorem results_total {fn : Func} {p : Tmp} {tmps : Array Value} (hv : Vs w b (totL v m k)) (hk : k.length = 16) (h : fn.results = #[.cell p 76]) (hp : tmps.getD p undef = .pointer (some ⟨b, 0, none⟩)) :
  (results fn tmps).run Try.prog w = .ok (.agg (totL v m k).toArray) w := by
 have hl : (loadVar 76 ⟨b, 0, none⟩).run Try.prog w = _ := loadVar_W hv Try.underlying76 rfl (by rw [totL_length _ _ hk]; exact size_total)
 rw [Array.getD_eq_getD_getElem?] at hp
 simp only [results, h]
 simp [asAddr, hp, hl]
theorem results_totalE {fn : Func} {p e : Tmp} {tmps : Array Value} (hv : Vs w b (totL v m k)) (hk : k.length = 16) (h : fn.results = #[.cell p 76, .tmp e]) (hp : tmps.getD p undef = .pointer (some ⟨b, 0, none⟩)) :
  (results fn tmps).run Try.prog w = .ok (.tuple #[.agg (totL v m k).toArray, tmps.getD e undef]) w := by
 have hl : (loadVar 76 ⟨b, 0, none⟩).run Try.prog w = _ := loadVar_W hv Try.underlying76 rfl (by rw [totL_length _ _ hk]; exact size_total)
 rw [results_cell_tmp h, hp]
 simp only [asAddr, Sem.run_pure, Result.andThen, hl]
end

theorem list16 {α : Type} {k : List α} (h : k.length = 16) : ∃ x0 x1 x2 x3 x4 x5 x6 x7 y0 y1 y2 y3 y4 y5 y6 y7, k = [x0, x1, x2, x3, x4, x5, x6, x7, y0, y1, y2, y3, y4, y5, y6, y7] := by
 match k, h with
 | [x0, x1, x2, x3, x4, x5, x6, x7, y0, y1, y2, y3, y4, y5, y6, y7], _ => exact ⟨_, _, _, _, _, _, _, _, _, _, _, _, _, _, _, _, rfl⟩

theorem build_total (s : Option Addr) (n c : Nat) (m : Int) {k : List Int} (hk : k.length = 16) (w : World) :
  (Instr.build 76 #[(0, .slice s n c), (1, .int .i64 m), (2, .agg (cells8 k).toArray)]).run Try.prog w = .ok (.agg (totL (.slice s n c) m k).toArray) w := by
 obtain ⟨x0, x1, x2, x3, x4, x5, x6, x7, y0, y1, y2, y3, y4, y5, y6, y7, rfl⟩ := list16 hk
 kernel_rfl
theorem build_total1 (s : Option Addr) (n c : Nat) (w : World) :
  (Instr.build 76 #[(0, .slice s n c)]).run Try.prog w = .ok (.agg (totL (.slice s n c) 0 z16).toArray) w := by kernel_rfl
/-! ### '==' of sixteen bytes -/
theorem info_u8s : (Try.prog.info? 5).isSome = true := by kernel_rfl
theorem cells_u8s : Try.prog.cellsOf 5 = 1 := by kernel_rfl
theorem eqItems8 (d : Nat) (w : World) : ∀ (r : Nat) (o : Nat) (a b : List Int), a.length = o + r → b.length = o + r →
  (Op.eqItems (d + 1) 5 1 (cells8 a).toArray (cells8 b).toArray (List.range' o r)).run Try.prog w = .ok (a.drop o == b.drop o) w
 | 0, o, a, b, ha, hb => by
  rw [List.drop_of_length_le (by omega), List.drop_of_length_le (by omega)]
  rfl
 | r + 1, o, a, b, ha, hb => by
  have hx : ∀ (l : List Int), l.length = o + (r + 1) → (part 5 (cells8 l).toArray (o * 1)).run Try.prog w = .ok (.int .u8 (l.getD o 0)) w := fun l hl => by
   have h1 : (cells8 l)[o]? = some (.int .u8 (l.getD o 0)) := cells8_at (by rw [List.getD_eq_getElem?_getD, List.getElem?_eq_getElem (by omega)]; rfl)
   have h2 : (cells8 l).toArray[o]? = some (.int .u8 (l.getD o 0)) := by rw [List.getElem?_toArray]; exact h1
   simp [part, isAgg, run_underlying Try.underlying5, h2]
  have hd : ∀ (l : List Int), l.length = o + (r + 1) → l.drop o = l.getD o 0 :: l.drop (o + 1) := fun l hl => by
   rw [List.getD_eq_getElem?_getD, List.getElem?_eq_getElem (by omega)]
   exact List.drop_eq_getElem_cons (by omega)
  have e0 : ∀ (x y : Int), (Op.equalIn (d + 1) 5 (.int .u8 x) (.int .u8 y)).run Try.prog w = .ok (x == y) w := fun x y => run_equalIn_int w d 5 .u8 .u8 x y Try.underlying5
  rw [List.range'_succ, hd a ha, hd b hb]
  have ih := eqItems8 d w r (o + 1) a b (by omega) (by omega)
  simp only [Op.eqItems, Sem.run_bind, hx a ha, hx b hb, e0, Result.andThen_ok, List.cons_beq_cons]
  cases h : (a.getD o 0 == b.getD o 0)
  ·simp
  ·simp [ih]
theorem run_equalIn_16 (d : Nat) {T : TypeId} (hu : Try.prog.underlying T = some (.array 16 5)) {a b : List Int} (ha : a.length = 16) (hb : b.length = 16) (w : World) :
  (Op.equalIn (d + 2) T (.agg (cells8 a).toArray) (.agg (cells8 b).toArray)).run Try.prog w = .ok (a == b) w := by
 obtain ⟨i, hi⟩ : ∃ i, Try.prog.info? 5 = some i := Option.isSome_iff_exists.1 info_u8s
 rw [run_equalIn_array w (d + 1) _ _ hu hi, cells_u8s, List.range_eq_range']
 exact eqItems8 d w 16 0 a b ha hb
end Go.Proofs.Ytbakkmfjamcbfaa
