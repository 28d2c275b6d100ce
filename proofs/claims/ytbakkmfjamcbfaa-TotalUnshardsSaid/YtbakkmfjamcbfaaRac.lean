/-
 Decode, ExcA, Bytes, Swap, RegZ, Sls, RwA, RefV, TaO, OpenTo, Vector, Enc, Enc2: for TotalUnshards.
-/
import Derived.BigQuiet
import Derived.Laws.BytesArg
import Derived.Test.YtbakkmfjamcbfaaKat
import Derived.Test.YtbakkmfjamcbfaaKax
import Derived.Test.YtbakkmfjamcbfaaRab
namespace Go.Proofs.Ytbakkmfjamcbfaa
open Go.RowKit Fm
set_option linter.unusedVariables false
set_option maxRecDepth 100000

def RetNil (n : Int) (w : World) (e : Ending) (w' : World) : Prop := e = .returned (.tuple #[.slice none 0 0, .int .i64 n]) ∧ Below w.heap.size w w'

def decBad (most : Nat) (k : Int) (e : E) : Bool := e.2 != 0 || decide (k * most < e.1)
def decN (y : CK) (l : List E) (k : Int) : Int := if l.length = y.nout then (if k < 0 ∨ 256 < k then 6 else if l.any (decBad y.most k) then 6 else 0) else 9
def RetDec (y : CK) (l : List E) (k : Int) (w : World) (e : Ending) (w' : World) : Prop :=
 (decN y l k ≠ 0 ∧ RetNil (decN y l k) w e w') ∨ (decN y l k = 0 ∧ ∃ v, e = .returned (.tuple #[v, .int .i64 0]) ∧ SlU w' w'.heap.size v (l.map (·.1)) ∧ Below w.heap.size w w')

theorem CK.most_le {y : CK} (h : y.ok) : y.most ≤ 4294967296 := by
 cases y with
 | sum b => show 2 ^ b - 1 ≤ 4294967296; have := pow32 h.2; omega
 | vec b l c => show 2 ^ b - 1 ≤ 4294967296; have := pow32 h.1.2; omega
 | count => show 1 ≤ 4294967296; omega
 | hist l c => show 1 ≤ 4294967296; omega
 | multi l m c => show 1 ≤ 4294967296; omega

theorem Pm_ge {f : Nat} (hf : IsF f) : (1152921504606846976 : Int) ≤ ((Pm f : Nat) : Int) := by
 rcases hf.or with rfl | rfl <;> decide

theorem any_take {α : Type} {p : α → Bool} {l : List α} {q : Nat} {e : α} (h : l[q]? = some e) (ha : (l.take q).any p = false) (he : p e = false) : (l.take (q + 1)).any p = false := by
 rw [List.take_add_one, h, List.any_append, ha]
 simp [he]

set_option maxHeartbeats 4000000 in
theorem circuit_Decode {f : Nat} (hf : IsF f) (y : CK) (hy : y.ok) (hcalls : ¬ 511 < y.calls) (vs : Value) (l : List E) (k : Int) (w : World) (hl : SlE w w.heap.size vs l) (hl70 : l.length ≤ 70) :
  Calls Try.prog 70 #[y.val f, vs, .int .i64 k] w (RetDec y l k w) := by
 have HC : Hid (∀ wz, Calls Try.prog 60 #[y.val f] wz (RetC 0 wz)) := by
  intro wz
  have h := circuit_Check_ok hf y hy wz
  rwa [CK.code_ok hcalls] at h
 have HO := Lib.hid (fun wz => circuit_Out f y hy wz)
 have HM := Lib.hid (fun wz => circuit_Most f y hy wz)
 have hmo := CK.most_le hy
 obtain ⟨⟨A, c, rfl, hlc, hcm, hA⟩, hok⟩ := hl
 obtain ⟨nout, hno⟩ : ∃ n, y.nout = n := ⟨_, rfl⟩
 obtain ⟨mo, hmos⟩ : ∃ n, y.most = n := ⟨_, rfl⟩
 rw [hno] at HO
 rw [hmos] at HM hmo
 have HNO := Lib.hid hno
 have HMO := Lib.hid hmos
 unfold CK.val at HC HO HM ⊢
 have hfb0 : (1 : Int) ≤ (f : Int) := by rcases hf.or with rfl | rfl <;> omega
 have hfb1 : (f : Int) ≤ 2 := by rcases hf.or with rfl | rfl <;> omega
 obtain ⟨K, hK⟩ : ∃ K : Int, ((y.k : Nat) : Int) = K := ⟨_, rfl⟩
 obtain ⟨B, hB⟩ : ∃ K : Int, ((y.b : Nat) : Int) = K := ⟨_, rfl⟩
 obtain ⟨N, hN⟩ : ∃ K : Int, ((y.l : Nat) : Int) = K := ⟨_, rfl⟩
 obtain ⟨M, hM⟩ : ∃ K : Int, ((y.m : Nat) : Int) = K := ⟨_, rfl⟩
 obtain ⟨C, hC⟩ : ∃ K : Int, ((y.c : Nat) : Int) = K := ⟨_, rfl⟩
 rw [hK, hB, hN, hM, hC] at HC HO HM ⊢
 clear hK hB hN hM hC hno hmos hcalls hy
 have hb00 : Below w.heap.size w w := Below.refl _ _
 go_enter Try.func70, Try.ntmps70
 go_upto_region 1 with fail
 have hx := Vs.new w [.int .u8 K, .int .u8 f, .int .i64 B, .int .i64 N, .int .i64 M, .int .i64 C] #[.int .u8 K, .int .u8 f, .int .i64 B, .int .i64 N, .int .i64 M, .int .i64 C] 60 rfl
 have hbA : Below w.heap.size w (w.alloc (.cells #[.int .u8 K, .int .u8 f, .int .i64 B, .int .i64 N, .int .i64 M, .int .i64 C] 60)) := by repeat (first | exact bA | with_reducible assumption | apply bB)
 replace hb00 := bl_call hb00 (Nat.le_refl _) hbA
 clear hbA
 generalize w.alloc (.cells #[.int .u8 K, .int .u8 f, .int .i64 B, .int .i64 N, .int .i64 M, .int .i64 C] 60) = w1 at hb00 hx ⊢
 obtain ⟨⟨x0, x1, x2, x3, x4, x5⟩, ⟨x6, x7, x8, x9, x10, x11⟩, x12⟩ := hx.get6
 have hxl : w.heap.size < w1.heap.size := hx.lt
 by_cases hn : l.length = nout
 rotate_left
 ·have HD : Hid (decN y l k = 9) := by
   show decN y l k = 9
   unfold decN
   rw [HNO.out, if_neg hn]
  go_wp2_with (first
   | (go_at_call 60; refine (HC.out _).mono ?_; rintro e w2 ⟨rfl, hb2⟩; replace hb00 := bl_call hb00 (Nat.le_refl _) hb2; replace hx := hx.call hb2; obtain ⟨⟨x0, x1, x2, x3, x4, x5⟩, ⟨x6, x7, x8, x9, x10, x11⟩, x12⟩ := hx.get6)
   | (go_at_call 32; refine (HO.out _).mono ?_; rintro e w3 ⟨rfl, hb3⟩; replace hb00 := bl_call hb00 (Nat.le_refl _) hb3; replace hx := hx.call hb3; obtain ⟨⟨x0, x1, x2, x3, x4, x5⟩, ⟨x6, x7, x8, x9, x10, x11⟩, x12⟩ := hx.get6))
  go_ret2
  exact .inl ⟨by rw [HD.out]; omega, by rw [HD.out]; exact ⟨rfl, hb00⟩⟩
 have HN := Lib.hid hn
 rw [← hn] at HO
 clear hn
 by_cases hk : k < 0 ∨ 256 < k
 ·have HD : Hid (decN y l k = 6) := by
   show decN y l k = 6
   unfold decN
   rw [HNO.out, if_pos HN.out, if_pos hk]
  rcases hk with hk | hk
  all_goals
   go_wp2_with (first
    | (go_at_call 60; refine (HC.out _).mono ?_; rintro e w2 ⟨rfl, hb2⟩; replace hb00 := bl_call hb00 (Nat.le_refl _) hb2; replace hx := hx.call hb2; obtain ⟨⟨x0, x1, x2, x3, x4, x5⟩, ⟨x6, x7, x8, x9, x10, x11⟩, x12⟩ := hx.get6)
    | (go_at_call 32; refine (HO.out _).mono ?_; rintro e w3 ⟨rfl, hb3⟩; replace hb00 := bl_call hb00 (Nat.le_refl _) hb3; replace hx := hx.call hb3; obtain ⟨⟨x0, x1, x2, x3, x4, x5⟩, ⟨x6, x7, x8, x9, x10, x11⟩, x12⟩ := hx.get6))
   go_ret2
   exact .inl ⟨by rw [HD.out]; omega, by rw [HD.out]; exact ⟨rfl, hb00⟩⟩
 have HD : Hid (decN y l k = if l.any (decBad mo k) then 6 else 0) := by
  show decN y l k = _
  unfold decN
  rw [HNO.out, HMO.out, if_pos HN.out, if_neg hk]
 obtain ⟨kn, rfl⟩ : ∃ kn : Nat, k = (kn : Int) := ⟨k.toNat, by omega⟩
 have hk2 : kn ≤ 256 := by omega
 clear hk
 go_upto_region 10 with (first
  | (go_at_call 60; refine (HC.out _).mono ?_; rintro e w2 ⟨rfl, hb2⟩; replace hb00 := bl_call hb00 (Nat.le_refl _) hb2; replace hx := hx.call hb2; obtain ⟨⟨x0, x1, x2, x3, x4, x5⟩, ⟨x6, x7, x8, x9, x10, x11⟩, x12⟩ := hx.get6)
  | (go_at_call 32; refine (HO.out _).mono ?_; rintro e w3 ⟨rfl, hb3⟩; replace hb00 := bl_call hb00 (Nat.le_refl _) hb3; replace hx := hx.call hb3; obtain ⟨⟨x0, x1, x2, x3, x4, x5⟩, ⟨x6, x7, x8, x9, x10, x11⟩, x12⟩ := hx.get6))
 have hsz : w.heap.size + 1 ≤ w3.heap.size := hx.lt
 clear HC HO hb2 hb3
 clear x0 x1 x2 x3 x4 x5 x6 x7 x8 x9 x10 x11 x12
 have hkm : kn * mo ≤ 256 * 4294967296 := Nat.mul_le_mul hk2 hmo
 obtain ⟨KM, hKM⟩ : ∃ KM : Nat, kn * mo = KM := ⟨_, rfl⟩
 have hKMi : (kn : Int) * (mo : Int) = (KM : Int) := by rw [← hKM]; exact (Int.natCast_mul kn mo).symm
 rw [hKM] at hkm
 have hw1 : IntKind.u64.wrap (kn : Int) = (kn : Int) := IntWalk.u64_in _ (by omega)
 have hw2 : IntKind.u64.wrap (KM : Int) = (KM : Int) := IntWalk.u64_in _ (by omega)
 clear hKM
 go_wp2_with fail
 go_loopw [9, 30] (fun v9 i wr => ∃ (q : Nat) (A' : Option Addr) (cp : Nat), q ≤ l.length ∧ i = .int .i64 q ∧ v9 = .slice A' q cp ∧ Hid ((l.take q).any (decBad mo kn) = false) ∧
   Vs wr w.heap.size [.int .u8 K, .int .u8 f, .int .i64 B, .int .i64 N, .int .i64 M, .int .i64 C] ∧ wr.ownsRow (w.heap.size + 1) 22 1 (.slice A' q cp) q (cellsU ((l.take q).map (·.1))) ∧ Below w.heap.size w wr ∧ w.heap.size + 1 ≤ wr.heap.size) (fun _ i _ => l.length - (intOf i).toNat)
 case atStart => exact ⟨0, none, 0, Nat.zero_le _, rfl, rfl, (by rw [List.take_zero]; rfl : (l.take 0).any (decBad mo kn) = false), hx, World.ownsRow_nil _ _ _ _, hb00, hsz⟩
 case round =>
  clear hx hb00 hsz hxl
  obtain ⟨q, A', cp, hq, rfl, rfl, hany, hx, hown, hbw, hsz⟩ := hrel
  obtain ⟨⟨x0, x1, x2, x3, x4, x5⟩, ⟨x6, x7, x8, x9, x10, x11⟩, x12⟩ := hx.get6
  by_cases hlt : q < l.length
  ·obtain ⟨b, o, rfl, hBb, hr⟩ := hA (by omega)
   obtain ⟨⟨a0, a1⟩, he⟩ : ∃ e, l[q]? = some e := ⟨_, List.getElem?_eq_getElem hlt⟩
   obtain ⟨h0, h1, h2, h3⟩ := hok _ (List.mem_of_getElem? he)
   obtain ⟨d0, d1⟩ := (hr.below hbw hBb) _ _ he
   dsimp only at h0 h1 h2 h3 d0 d1
   have HE := Lib.hid he
   clear he hr hA
   go_upto_region 12 with fail
   clear x0 x1 x2 x3 x4 x5 x6 x7 x8 x9 x10 x11 x12
   replace hown := own_call hown ((Below.refl _ _).alloc (Nat.le_refl _) (.cells #[.int .u64 a0, .int .u64 a1] 99))
   have hsz4 : w.heap.size + 1 ≤ (wr.alloc (.cells #[.int .u64 a0, .int .u64 a1] 99)).heap.size := by rw [World.size_alloc]; omega
   have hv := V2.new wr (.int .u64 a0) (.int .u64 a1) 99
   have hbA : Below wr.heap.size wr (wr.alloc (.cells #[.int .u64 a0, .int .u64 a1] 99)) := (Below.refl _ _).alloc (Nat.le_refl _) _
   replace hbw := bl_call hbw (Nat.le_refl _) hbA
   replace hx := hx.call hbA
   clear hbA
   generalize wr.alloc (.cells #[.int .u64 a0, .int .u64 a1] 99) = w4 at hown hsz4 hv hx hbw ⊢
   obtain ⟨⟨x0, x1, x2, x3, x4, x5⟩, ⟨x6, x7, x8, x9, x10, x11⟩, x12⟩ := hx.get6
   obtain ⟨v0, v1, v2, v3, v4⟩ := V2.mk hv.c0 hv.c1 hv.f0 hv.f1 hv.lt
   have hpm := Pm_ge hf
   have hbz : wr.heap.size < w4.heap.size := hv.lt
   by_cases hin : a0 + 18446744073709551616 * a1 < ((Pm f : Nat) : Int)
   rotate_left
   ·have hbad : decBad mo kn (a0, a1) = true := by
     unfold decBad
     dsimp only
     rw [hKMi, Bool.or_eq_true, decide_eq_true_eq, bne_iff_ne]
     omega
    have HIN : Hid (∀ wz, Calls Try.prog 104 #[.int .u8 f, .agg #[.int .u64 a0, .int .u64 a1]] wz fun e w' => e = .returned (.bool false) ∧ Below wz.heap.size wz w') := by
     intro wz
     have h := field_In f _ a0 a1 wz (FM.ofN hf) h0 h1 h2 h3
     rwa [decide_eq_false hin] at h
    have HD6 : Hid (decN y l kn = 6) := by
     show decN y l kn = 6
     rw [HD.out, if_pos (List.any_eq_true.2 ⟨_, List.mem_of_getElem? HE.out, hbad⟩)]
    clear hbad hin
    refine region_B (n := 19) (m := 20) (f := 19) (by kernel_rfl) (by kernel_rfl) rfl ?_
    refine WpH.vD 0 (some 34) ?_ rfl rfl (by kernel_rfl) (fun _ _ _ h => h) rfl (fun wz hwz => ?_) ?_
    rotate_left
    ·go_simp; try (with_reducible rfl)
    simp only [Zp, Zq, Zr, Zs]
    refine WpH.vD 1 (some 35) ?_ rfl rfl (by kernel_rfl) (fun _ _ _ h => h) rfl (fun wz hwz => ?_) ?_
    rotate_left
    ·(obtain ⟨hcz, hfz⟩ := bcell hwz; go_simp; try (with_reducible rfl))
    simp only [Zp, Zq, Zr, Zs]
    refine WpH.vD 2 (some 36) ?_ rfl rfl (by kernel_rfl) (fun _ _ _ h => h) rfl (fun wz hwz => ?_) ?_
    rotate_left
    ·(obtain ⟨hcz, hfz⟩ := bcell hwz; go_simp; try (with_reducible rfl))
    simp only [Zp, Zq, Zr, Zs]
    refine WpH.takeD 3 (some 37) rfl rfl (by kernel_rfl) (fun _ _ _ h => h) (.call rfl (fun wz hwz => HIN.out wz) (fun wz hwz => ?_)) ?_
    ·go_simp; try (with_reducible rfl)
    simp only [Zp, Zq, Zr, Zs]
    refine WpH.vD 4 (some 38) ?_ rfl rfl (by kernel_rfl) (fun _ _ _ h => h) rfl (fun wz hwz => ?_) ?_
    rotate_left
    ·go_simp; try (with_reducible rfl)
    simp only [Zp, Zq, Zr, Zs]
    refine WpH.vD 5 (some 39) ?_ rfl rfl (by kernel_rfl) (fun _ _ _ h => h) rfl (fun wz hwz => ?_) ?_
    rotate_left
    ·go_simp; try (with_reducible rfl)
    simp only [Zp, Zq, Zr, Zs]
    refine WpH.takeD 6 (some 40) rfl rfl (by kernel_rfl) (fun _ _ _ h => h) (.skip rfl) ?_
    simp only [Zp, Zq, Zr, Zs]
    refine WpH.takeD 7 (some 41) rfl rfl (by kernel_rfl) (fun _ _ _ h => h) (.skip rfl) ?_
    simp only [Zp, Zq, Zr, Zs]
    refine WpH.takeD 8 (some 42) rfl rfl (by kernel_rfl) (fun _ _ _ h => h) (.skip rfl) ?_
    simp only [Zp, Zq, Zr, Zs]
    refine WpH.vD 9 (some 43) ?_ rfl rfl (by kernel_rfl) (fun _ _ _ h => h) rfl (fun wz hwz => ?_) ?_
    rotate_left
    ·go_simp; try (with_reducible rfl)
    simp only [Zp, Zq, Zr, Zs]
    refine WpH.vD 10 (some 44) ?_ rfl rfl (by kernel_rfl) (fun _ _ _ h => h) rfl (fun wz hwz => ?_) ?_
    rotate_left
    ·go_simp; try (with_reducible rfl)
    simp only [Zp, Zq, Zr, Zs]
    refine WpH.takeD 11 (some 45) rfl rfl (by kernel_rfl) (fun _ _ _ h => h) (.skip rfl) ?_
    simp only [Zp, Zq, Zr, Zs]
    refine WpH.takeD 12 (some 46) rfl rfl (by kernel_rfl) (fun _ _ _ h => h) (.skip rfl) ?_
    simp only [Zp, Zq, Zr, Zs]
    refine WpH.takeD 13 (some 47) rfl rfl (by kernel_rfl) (fun _ _ _ h => h) (.skip rfl) ?_
    simp only [Zp, Zq, Zr, Zs]
    refine WpH.takeD 14 (some 48) rfl rfl (by kernel_rfl) (fun _ _ _ h => h) (.skip rfl) ?_
    simp only [Zp, Zq, Zr, Zs]
    refine WpH.takeD 15 (some 49) rfl rfl (by kernel_rfl) (fun _ _ _ h => h) (.skip rfl) ?_
    simp only [Zp, Zq, Zr, Zs]
    refine WpH.takeD 16 (some 50) rfl rfl (by kernel_rfl) (fun _ _ _ h => h) (.skip rfl) ?_
    simp only [Zp, Zq, Zr, Zs]
    refine WpH.takeD 17 (some 51) rfl rfl (by kernel_rfl) (fun _ _ _ h => h) (.skip rfl) ?_
    simp only [Zp, Zq, Zr, Zs]
    refine WpH.takeD 18 (some 52) rfl rfl (by kernel_rfl) (fun _ _ _ h => h) (.skip rfl) ?_
    simp only [Zp, Zq, Zr, Zs]
    refine WpH.doneB (by kernel_rfl) (fun w6 hw6 => ?_)
    (try simp only [List.drop_succ_cons]); (try simp only [List.drop_zero]); (try simp only [Nat.reduceSub]); (try simp only [List.take_succ_cons]); (try simp only [List.take_zero])
    clear x0 x1 x2 x3 x4 x5 x6 x7 x8 x9 x10 x11 x12 v0 v1 v2 v3 v4
    replace hbw := bl_call hbw (Nat.le_refl _) hw6
    replace hx := hx.call hw6
    replace hv := hv.call hw6
    replace hown := own_call hown hw6
    go_wp2_with fail
    go_ret2
    exact .inl ⟨by rw [HD6.out]; omega, by rw [HD6.out]; exact ⟨rfl, hbw⟩⟩
   have HIN : Hid (∀ wz, Calls Try.prog 104 #[.int .u8 f, .agg #[.int .u64 a0, .int .u64 a1]] wz fun e w' => e = .returned (.bool true) ∧ Below wz.heap.size wz w') := by
    intro wz
    have h := field_In f _ a0 a1 wz (FM.ofN hf) h0 h1 h2 h3
    rwa [decide_eq_true hin] at h
   clear hin hpm
   by_cases hz : a1 = 0
   rotate_left
   ·have hbad : decBad mo kn (a0, a1) = true := by
     unfold decBad
     dsimp only
     rw [Bool.or_eq_true, bne_iff_ne]
     exact .inl hz
    have HD6 : Hid (decN y l kn = 6) := by
     show decN y l kn = 6
     rw [HD.out, if_pos (List.any_eq_true.2 ⟨_, List.mem_of_getElem? HE.out, hbad⟩)]
    have hz1 : (a1 == 0) = false := by simpa using hz
    have hz2 : (a1 != 0) = true := by simpa using hz
    clear hbad
    refine region_B (n := 19) (m := 20) (f := 19) (by kernel_rfl) (by kernel_rfl) rfl ?_
    refine WpH.vD 0 (some 34) ?_ rfl rfl (by kernel_rfl) (fun _ _ _ h => h) rfl (fun wz hwz => ?_) ?_
    rotate_left
    ·go_simp; try (with_reducible rfl)
    simp only [Zp, Zq, Zr, Zs]
    refine WpH.vD 1 (some 35) ?_ rfl rfl (by kernel_rfl) (fun _ _ _ h => h) rfl (fun wz hwz => ?_) ?_
    rotate_left
    ·(obtain ⟨hcz, hfz⟩ := bcell hwz; go_simp; try (with_reducible rfl))
    simp only [Zp, Zq, Zr, Zs]
    refine WpH.vD 2 (some 36) ?_ rfl rfl (by kernel_rfl) (fun _ _ _ h => h) rfl (fun wz hwz => ?_) ?_
    rotate_left
    ·(obtain ⟨hcz, hfz⟩ := bcell hwz; go_simp; try (with_reducible rfl))
    simp only [Zp, Zq, Zr, Zs]
    refine WpH.takeD 3 (some 37) rfl rfl (by kernel_rfl) (fun _ _ _ h => h) (.call rfl (fun wz hwz => HIN.out wz) (fun wz hwz => ?_)) ?_
    ·go_simp; try (with_reducible rfl)
    simp only [Zp, Zq, Zr, Zs]
    refine WpH.vD 4 (some 38) ?_ rfl rfl (by kernel_rfl) (fun _ _ _ h => h) rfl (fun wz hwz => ?_) ?_
    rotate_left
    ·go_simp; try (with_reducible rfl)
    simp only [Zp, Zq, Zr, Zs]
    refine WpH.vD 5 (some 39) ?_ rfl rfl (by kernel_rfl) (fun _ _ _ h => h) rfl (fun wz hwz => ?_) ?_
    rotate_left
    ·go_simp; try (with_reducible rfl)
    simp only [Zp, Zq, Zr, Zs]
    refine WpH.vD 6 (some 40) ?_ rfl rfl (by kernel_rfl) (fun _ _ _ h => h) rfl (fun wz hwz => ?_) ?_
    rotate_left
    ·go_simp; try (with_reducible rfl)
    simp only [Zp, Zq, Zr, Zs]
    refine WpH.vD 7 (some 41) ?_ rfl rfl (by kernel_rfl) (fun _ _ _ h => h) rfl (fun wz hwz => ?_) ?_
    rotate_left
    ·(obtain ⟨hcz, hfz⟩ := bcell hwz; go_simp; try (with_reducible rfl))
    simp only [Zp, Zq, Zr, Zs]
    refine WpH.vD 8 (some 42) ?_ rfl rfl (by kernel_rfl) (fun _ _ _ h => h) rfl (fun wz hwz => ?_) ?_
    rotate_left
    ·go_simp; try (with_reducible rfl)
    simp only [Zp, Zq, Zr, Zs]
    refine WpH.vD 9 (some 43) ?_ rfl rfl (by kernel_rfl) (fun _ _ _ h => h) rfl (fun wz hwz => ?_) ?_
    rotate_left
    ·go_simp; try (with_reducible rfl)
    simp only [Zp, Zq, Zr, Zs]
    refine WpH.vD 10 (some 44) ?_ rfl rfl (by kernel_rfl) (fun _ _ _ h => h) rfl (fun wz hwz => ?_) ?_
    rotate_left
    ·go_simp; try (with_reducible rfl)
    simp only [Zp, Zq, Zr, Zs]
    refine WpH.takeD 11 (some 45) rfl rfl (by kernel_rfl) (fun _ _ _ h => h) (.skip rfl) ?_
    simp only [Zp, Zq, Zr, Zs]
    refine WpH.takeD 12 (some 46) rfl rfl (by kernel_rfl) (fun _ _ _ h => h) (.skip rfl) ?_
    simp only [Zp, Zq, Zr, Zs]
    refine WpH.takeD 13 (some 47) rfl rfl (by kernel_rfl) (fun _ _ _ h => h) (.skip rfl) ?_
    simp only [Zp, Zq, Zr, Zs]
    refine WpH.takeD 14 (some 48) rfl rfl (by kernel_rfl) (fun _ _ _ h => h) (.skip rfl) ?_
    simp only [Zp, Zq, Zr, Zs]
    refine WpH.takeD 15 (some 49) rfl rfl (by kernel_rfl) (fun _ _ _ h => h) (.skip rfl) ?_
    simp only [Zp, Zq, Zr, Zs]
    refine WpH.takeD 16 (some 50) rfl rfl (by kernel_rfl) (fun _ _ _ h => h) (.skip rfl) ?_
    simp only [Zp, Zq, Zr, Zs]
    refine WpH.takeD 17 (some 51) rfl rfl (by kernel_rfl) (fun _ _ _ h => h) (.skip rfl) ?_
    simp only [Zp, Zq, Zr, Zs]
    refine WpH.takeD 18 (some 52) rfl rfl (by kernel_rfl) (fun _ _ _ h => h) (.skip rfl) ?_
    simp only [Zp, Zq, Zr, Zs]
    refine WpH.doneB (by kernel_rfl) (fun w6 hw6 => ?_)
    (try simp only [List.drop_succ_cons]); (try simp only [List.drop_zero]); (try simp only [Nat.reduceSub]); (try simp only [List.take_succ_cons]); (try simp only [List.take_zero])
    clear x0 x1 x2 x3 x4 x5 x6 x7 x8 x9 x10 x11 x12 v0 v1 v2 v3 v4
    replace hbw := bl_call hbw (Nat.le_refl _) hw6
    replace hx := hx.call hw6
    replace hv := hv.call hw6
    replace hown := own_call hown hw6
    go_wp2_with fail
    go_ret2
    exact .inl ⟨by rw [HD6.out]; omega, by rw [HD6.out]; exact ⟨rfl, hbw⟩⟩
   subst hz
   by_cases hgt : (KM : Int) < a0
   ·have hbad : decBad mo kn (a0, 0) = true := by
     unfold decBad
     dsimp only
     rw [hKMi, Bool.or_eq_true, decide_eq_true_eq]
     exact .inr hgt
    have HD6 : Hid (decN y l kn = 6) := by
     show decN y l kn = 6
     rw [HD.out, if_pos (List.any_eq_true.2 ⟨_, List.mem_of_getElem? HE.out, hbad⟩)]
    have hd : decide ((KM : Int) < a0) = true := decide_eq_true hgt
    clear hbad
    refine region_B (n := 19) (m := 20) (f := 19) (by kernel_rfl) (by kernel_rfl) rfl ?_
    refine WpH.vD 0 (some 34) ?_ rfl rfl (by kernel_rfl) (fun _ _ _ h => h) rfl (fun wz hwz => ?_) ?_
    rotate_left
    ·go_simp; try (with_reducible rfl)
    simp only [Zp, Zq, Zr, Zs]
    refine WpH.vD 1 (some 35) ?_ rfl rfl (by kernel_rfl) (fun _ _ _ h => h) rfl (fun wz hwz => ?_) ?_
    rotate_left
    ·(obtain ⟨hcz, hfz⟩ := bcell hwz; go_simp; try (with_reducible rfl))
    simp only [Zp, Zq, Zr, Zs]
    refine WpH.vD 2 (some 36) ?_ rfl rfl (by kernel_rfl) (fun _ _ _ h => h) rfl (fun wz hwz => ?_) ?_
    rotate_left
    ·(obtain ⟨hcz, hfz⟩ := bcell hwz; go_simp; try (with_reducible rfl))
    simp only [Zp, Zq, Zr, Zs]
    refine WpH.takeD 3 (some 37) rfl rfl (by kernel_rfl) (fun _ _ _ h => h) (.call rfl (fun wz hwz => HIN.out wz) (fun wz hwz => ?_)) ?_
    ·go_simp; try (with_reducible rfl)
    simp only [Zp, Zq, Zr, Zs]
    refine WpH.vD 4 (some 38) ?_ rfl rfl (by kernel_rfl) (fun _ _ _ h => h) rfl (fun wz hwz => ?_) ?_
    rotate_left
    ·go_simp; try (with_reducible rfl)
    simp only [Zp, Zq, Zr, Zs]
    refine WpH.vD 5 (some 39) ?_ rfl rfl (by kernel_rfl) (fun _ _ _ h => h) rfl (fun wz hwz => ?_) ?_
    rotate_left
    ·go_simp; try (with_reducible rfl)
    simp only [Zp, Zq, Zr, Zs]
    refine WpH.vD 6 (some 40) ?_ rfl rfl (by kernel_rfl) (fun _ _ _ h => h) rfl (fun wz hwz => ?_) ?_
    rotate_left
    ·go_simp; try (with_reducible rfl)
    simp only [Zp, Zq, Zr, Zs]
    refine WpH.vD 7 (some 41) ?_ rfl rfl (by kernel_rfl) (fun _ _ _ h => h) rfl (fun wz hwz => ?_) ?_
    rotate_left
    ·(obtain ⟨hcz, hfz⟩ := bcell hwz; go_simp; try (with_reducible rfl))
    simp only [Zp, Zq, Zr, Zs]
    refine WpH.vD 8 (some 42) ?_ rfl rfl (by kernel_rfl) (fun _ _ _ h => h) rfl (fun wz hwz => ?_) ?_
    rotate_left
    ·go_simp; try (with_reducible rfl)
    simp only [Zp, Zq, Zr, Zs]
    refine WpH.vD 9 (some 43) ?_ rfl rfl (by kernel_rfl) (fun _ _ _ h => h) rfl (fun wz hwz => ?_) ?_
    rotate_left
    ·go_simp; try (with_reducible rfl)
    simp only [Zp, Zq, Zr, Zs]
    refine WpH.vD 10 (some 44) ?_ rfl rfl (by kernel_rfl) (fun _ _ _ h => h) rfl (fun wz hwz => ?_) ?_
    rotate_left
    ·go_simp; try (with_reducible rfl)
    simp only [Zp, Zq, Zr, Zs]
    refine WpH.vD 11 (some 45) ?_ rfl rfl (by kernel_rfl) (fun _ _ _ h => h) rfl (fun wz hwz => ?_) ?_
    rotate_left
    ·go_simp; try (with_reducible rfl)
    simp only [Zp, Zq, Zr, Zs]
    refine WpH.vD 12 (some 46) ?_ rfl rfl (by kernel_rfl) (fun _ _ _ h => h) rfl (fun wz hwz => ?_) ?_
    rotate_left
    ·(obtain ⟨hcz, hfz⟩ := bcell hwz; go_simp; try (with_reducible rfl))
    simp only [Zp, Zq, Zr, Zs]
    refine WpH.vD 13 (some 47) ?_ rfl rfl (by kernel_rfl) (fun _ _ _ h => h) rfl (fun wz hwz => ?_) ?_
    rotate_left
    ·go_simp; try (with_reducible rfl)
    simp only [Zp, Zq, Zr, Zs]
    refine WpH.vD 14 (some 48) ?_ rfl rfl (by kernel_rfl) (fun _ _ _ h => h) rfl (fun wz hwz => ?_) ?_
    rotate_left
    ·go_simp; try (with_reducible rfl)
    simp only [Zp, Zq, Zr, Zs]
    refine WpH.vD 15 (some 49) ?_ rfl rfl (by kernel_rfl) (fun _ _ _ h => h) rfl (fun wz hwz => ?_) ?_
    rotate_left
    ·(obtain ⟨hcz, hfz⟩ := bcell hwz; go_simp; try (with_reducible rfl))
    simp only [Zp, Zq, Zr, Zs]
    refine WpH.takeD 16 (some 50) rfl rfl (by kernel_rfl) (fun _ _ _ h => h) (.call rfl (fun wz hwz => HM.out wz) (fun wz hwz => ?_)) ?_
    ·go_simp; try (with_reducible rfl)
    simp only [Zp, Zq, Zr, Zs]
    refine WpH.vD 17 (some 51) ?_ rfl rfl (by kernel_rfl) (fun _ _ _ h => h) rfl (fun wz hwz => ?_) ?_
    rotate_left
    ·go_simp; try (with_reducible rfl)
    simp only [Zp, Zq, Zr, Zs]
    refine WpH.vD 18 (some 52) ?_ rfl rfl (by kernel_rfl) (fun _ _ _ h => h) rfl (fun wz hwz => ?_) ?_
    rotate_left
    ·go_simp; try (with_reducible rfl)
    simp only [Zp, Zq, Zr, Zs]
    refine WpH.doneB (by kernel_rfl) (fun w6 hw6 => ?_)
    (try simp only [List.drop_succ_cons]); (try simp only [List.drop_zero]); (try simp only [Nat.reduceSub]); (try simp only [List.take_succ_cons]); (try simp only [List.take_zero])
    clear x0 x1 x2 x3 x4 x5 x6 x7 x8 x9 x10 x11 x12 v0 v1 v2 v3 v4
    replace hbw := bl_call hbw (Nat.le_refl _) hw6
    replace hx := hx.call hw6
    replace hv := hv.call hw6
    replace hown := own_call hown hw6
    go_wp2_with fail
    go_ret2
    exact .inl ⟨by rw [HD6.out]; omega, by rw [HD6.out]; exact ⟨rfl, hbw⟩⟩
   ·have hgood : decBad mo kn (a0, 0) = false := by
     unfold decBad
     dsimp only
     rw [hKMi, Bool.or_eq_false_iff, decide_eq_false_iff_not]
     exact ⟨rfl, hgt⟩
    have HANY := Lib.hid (any_take HE.out hany.out hgood)
    have hd : decide ((KM : Int) < a0) = false := decide_eq_false hgt
    clear hgood hgt
    refine region_B (n := 19) (m := 20) (f := 19) (by kernel_rfl) (by kernel_rfl) rfl ?_
    refine WpH.vD 0 (some 34) ?_ rfl rfl (by kernel_rfl) (fun _ _ _ h => h) rfl (fun wz hwz => ?_) ?_
    rotate_left
    ·go_simp; try (with_reducible rfl)
    simp only [Zp, Zq, Zr, Zs]
    refine WpH.vD 1 (some 35) ?_ rfl rfl (by kernel_rfl) (fun _ _ _ h => h) rfl (fun wz hwz => ?_) ?_
    rotate_left
    ·(obtain ⟨hcz, hfz⟩ := bcell hwz; go_simp; try (with_reducible rfl))
    simp only [Zp, Zq, Zr, Zs]
    refine WpH.vD 2 (some 36) ?_ rfl rfl (by kernel_rfl) (fun _ _ _ h => h) rfl (fun wz hwz => ?_) ?_
    rotate_left
    ·(obtain ⟨hcz, hfz⟩ := bcell hwz; go_simp; try (with_reducible rfl))
    simp only [Zp, Zq, Zr, Zs]
    refine WpH.takeD 3 (some 37) rfl rfl (by kernel_rfl) (fun _ _ _ h => h) (.call rfl (fun wz hwz => HIN.out wz) (fun wz hwz => ?_)) ?_
    ·go_simp; try (with_reducible rfl)
    simp only [Zp, Zq, Zr, Zs]
    refine WpH.vD 4 (some 38) ?_ rfl rfl (by kernel_rfl) (fun _ _ _ h => h) rfl (fun wz hwz => ?_) ?_
    rotate_left
    ·go_simp; try (with_reducible rfl)
    simp only [Zp, Zq, Zr, Zs]
    refine WpH.vD 5 (some 39) ?_ rfl rfl (by kernel_rfl) (fun _ _ _ h => h) rfl (fun wz hwz => ?_) ?_
    rotate_left
    ·go_simp; try (with_reducible rfl)
    simp only [Zp, Zq, Zr, Zs]
    refine WpH.vD 6 (some 40) ?_ rfl rfl (by kernel_rfl) (fun _ _ _ h => h) rfl (fun wz hwz => ?_) ?_
    rotate_left
    ·go_simp; try (with_reducible rfl)
    simp only [Zp, Zq, Zr, Zs]
    refine WpH.vD 7 (some 41) ?_ rfl rfl (by kernel_rfl) (fun _ _ _ h => h) rfl (fun wz hwz => ?_) ?_
    rotate_left
    ·(obtain ⟨hcz, hfz⟩ := bcell hwz; go_simp; try (with_reducible rfl))
    simp only [Zp, Zq, Zr, Zs]
    refine WpH.vD 8 (some 42) ?_ rfl rfl (by kernel_rfl) (fun _ _ _ h => h) rfl (fun wz hwz => ?_) ?_
    rotate_left
    ·go_simp; try (with_reducible rfl)
    simp only [Zp, Zq, Zr, Zs]
    refine WpH.vD 9 (some 43) ?_ rfl rfl (by kernel_rfl) (fun _ _ _ h => h) rfl (fun wz hwz => ?_) ?_
    rotate_left
    ·go_simp; try (with_reducible rfl)
    simp only [Zp, Zq, Zr, Zs]
    refine WpH.vD 10 (some 44) ?_ rfl rfl (by kernel_rfl) (fun _ _ _ h => h) rfl (fun wz hwz => ?_) ?_
    rotate_left
    ·go_simp; try (with_reducible rfl)
    simp only [Zp, Zq, Zr, Zs]
    refine WpH.vD 11 (some 45) ?_ rfl rfl (by kernel_rfl) (fun _ _ _ h => h) rfl (fun wz hwz => ?_) ?_
    rotate_left
    ·go_simp; try (with_reducible rfl)
    simp only [Zp, Zq, Zr, Zs]
    refine WpH.vD 12 (some 46) ?_ rfl rfl (by kernel_rfl) (fun _ _ _ h => h) rfl (fun wz hwz => ?_) ?_
    rotate_left
    ·(obtain ⟨hcz, hfz⟩ := bcell hwz; go_simp; try (with_reducible rfl))
    simp only [Zp, Zq, Zr, Zs]
    refine WpH.vD 13 (some 47) ?_ rfl rfl (by kernel_rfl) (fun _ _ _ h => h) rfl (fun wz hwz => ?_) ?_
    rotate_left
    ·go_simp; try (with_reducible rfl)
    simp only [Zp, Zq, Zr, Zs]
    refine WpH.vD 14 (some 48) ?_ rfl rfl (by kernel_rfl) (fun _ _ _ h => h) rfl (fun wz hwz => ?_) ?_
    rotate_left
    ·go_simp; try (with_reducible rfl)
    simp only [Zp, Zq, Zr, Zs]
    refine WpH.vD 15 (some 49) ?_ rfl rfl (by kernel_rfl) (fun _ _ _ h => h) rfl (fun wz hwz => ?_) ?_
    rotate_left
    ·(obtain ⟨hcz, hfz⟩ := bcell hwz; go_simp; try (with_reducible rfl))
    simp only [Zp, Zq, Zr, Zs]
    refine WpH.takeD 16 (some 50) rfl rfl (by kernel_rfl) (fun _ _ _ h => h) (.call rfl (fun wz hwz => HM.out wz) (fun wz hwz => ?_)) ?_
    ·go_simp; try (with_reducible rfl)
    simp only [Zp, Zq, Zr, Zs]
    refine WpH.vD 17 (some 51) ?_ rfl rfl (by kernel_rfl) (fun _ _ _ h => h) rfl (fun wz hwz => ?_) ?_
    rotate_left
    ·go_simp; try (with_reducible rfl)
    simp only [Zp, Zq, Zr, Zs]
    refine WpH.vD 18 (some 52) ?_ rfl rfl (by kernel_rfl) (fun _ _ _ h => h) rfl (fun wz hwz => ?_) ?_
    rotate_left
    ·go_simp; try (with_reducible rfl)
    simp only [Zp, Zq, Zr, Zs]
    refine WpH.doneB (by kernel_rfl) (fun w6 hw6 => ?_)
    (try simp only [List.drop_succ_cons]); (try simp only [List.drop_zero]); (try simp only [Nat.reduceSub]); (try simp only [List.take_succ_cons]); (try simp only [List.take_zero])
    clear x0 x1 x2 x3 x4 x5 x6 x7 x8 x9 x10 x11 x12 v0 v1 v2 v3 v4
    have hz6 := hw6.size
    replace hbw := bl_call hbw (Nat.le_refl _) hw6
    replace hx := hx.call hw6
    replace hv := hv.call hw6
    replace hown := own_call hown hw6
    obtain ⟨⟨x0, x1, x2, x3, x4, x5⟩, ⟨x6, x7, x8, x9, x10, x11⟩, x12⟩ := hx.get6
    obtain ⟨v0, v1, v2, v3, v4⟩ := V2.mk hv.c0 hv.c1 hv.f0 hv.f1 hv.lt
    obtain ⟨zs, hzs⟩ : ∃ zs : List Int, (l.take q).map (·.1) = zs := ⟨_, rfl⟩
    rw [hzs] at hown
    have HZS := Lib.hid hzs
    have HOW := Lib.hid (hown.alloc (.cells #[.int .u64 a0] 22))
    have hbase : w.heap.size + 1 ≤ (w6.alloc (.cells #[.int .u64 a0] 22)).heap.size := by rw [World.size_alloc]; omega
    have HR1 : Hid (0 < 1 → ∃ b o, (some ⟨w6.heap.size, 0, none⟩ : Option Addr) = some ⟨b, o, none⟩ ∧ RowU (w6.alloc (.cells #[.int .u64 a0] 22)) b o [a0]) := by
     intro _
     refine ⟨_, _, rfl, fun i e hi => ?_⟩
     have hV := Vs.new w6 [.int .u64 a0] #[.int .u64 a0] 22 rfl
     match i, hi with
     | 0, hi =>
      obtain rfl : a0 = e := by simpa using hi
      exact hV.cell 0 _ rfl
     | i + 1, hi => simp at hi
    have HT : Hid (cellsU ((l.take (q + 1)).map (·.1)) = cellsU (zs ++ [a0])) := by
     show cellsU ((l.take (q + 1)).map (·.1)) = _
     rw [List.take_add_one, HE.out, List.map_append, HZS.out]
     rfl
    have hk1 : q + 1 ≤ 1099511627776 := by omega
    clear hown hw6 hzs
    go_wp2_with (at_builtin; (refine wpList_append_U rfl (.tmp 54) (.tmp 57) rfl (w.heap.size + 1) _ q zs rfl HOW.out (some ⟨w6.heap.size, 0, none⟩) 1 1 [a0] rfl rfl HR1.out hk1 hbase ?_; intro v2 w7 hown7 hg7 hat7; have hb7 : Below (w.heap.size + 1) (w6.alloc (.cells #[.int .u64 a0] 22)) w7 := (Below.refl _ _).grown hg7 hbase (fun q hq => (HOW.out.lt q hq).1); obtain ⟨g2, cap2, hv2⟩ := own_slice hown7; rw [hv2]))
    rw [hv2, ← HT.out] at hown7
    have hx7 := (hx.alloc (.cells #[.int .u64 a0] 22)).belowB hb7 (by omega)
    have hbw7 : Below w.heap.size w w7 := (hbw.alloc (by have := hbw.size; omega) (.cells #[.int .u64 a0] 22)).trans (hb7.mono (by omega))
    have hz7 := hb7.size
    go_roundw
    case rel => exact ⟨q + 1, _, cap2, by omega, by go_num, rfl, HANY.out, hx7, hown7, hbw7, by omega⟩
    case measure => simp [intOf]; omega
  ·obtain rfl : q = l.length := by omega
   rw [List.take_length] at hany hown
   have HD0 : Hid (decN y l kn = 0) := by
    show decN y l kn = 0
    rw [HD.out, hany.out]
    rfl
   go_wp2_with fail
   go_ret2
   refine .inr ⟨HD0.out, _, rfl, ?_, hbw⟩
   have hlen : (l.map (·.1)).length = l.length := List.length_map ..
   exact SlU.of_own (xs := l.map (·.1)) (by rw [hlen]; exact hown) (fun e he => by
    obtain ⟨x, hx, rfl⟩ := List.mem_map.1 he
    exact ⟨(hok x hx).1, (hok x hx).2.1⟩)

end Go.Proofs.Ytbakkmfjamcbfaa

namespace Go.Proofs.Ytbakkmfjamcbfaa
open Go.RowKit Fm
set_option linter.unusedVariables false
set_option maxRecDepth 100000

section
variable {S : Nat → Prop} {B : Nat} {a w w' w'' : World}
theorem Exc.two (w : World) (b b' : Nat) (x y x' y' : Value) : Exc (fun q => q = b ∨ q = b') w.heap.size w ((((w.setCell ⟨b, 0, none⟩ x).setCell ⟨b, 1, none⟩ y).setCell ⟨b', 0, none⟩ x').setCell ⟨b', 1, none⟩ y') :=
 ⟨rfl, rfl, rfl, by simp [World.setCell], fun k hk hn => by
  have h1 : k ≠ b := fun e => hn (.inl e)
  have h2 : k ≠ b' := fun e => hn (.inr e)
  rw [Below.heap_setCell _ _ y' k h2, Below.heap_setCell _ _ x' k h2, Below.heap_setCell _ _ y k h1, Below.heap_setCell _ _ x k h1]⟩
variable {f : Nat} {v : Value} {l : KL f}
end

end Go.Proofs.Ytbakkmfjamcbfaa

namespace Go.Proofs.Ytbakkmfjamcbfaa
open Go.RowKit Fm
set_option linter.unusedVariables false
set_option maxRecDepth 100000

theorem u8_wrap (n : Int) : IntKind.u8.wrap n = n % 256 := by
 first | rfl | simp [IntKind.wrap, IntKind.signed, IntKind.bits, IntKind.min, IntKind.max]
end Go.Proofs.Ytbakkmfjamcbfaa

namespace Go.Proofs.Ytbakkmfjamcbfaa
open Go.RowKit Fm Go.ChangeShapes Go.WideShapes Go.Deep
set_option linter.unusedVariables false
set_option maxRecDepth 100000

section
variable {f : Nat} (hf : IsF f)
include hf

def subL (a b : KL f) : KL f := List.zipWith (· - ·) a b
omit hf in
theorem zip_subL (a b : KL f) : zipO (· - ·) f (Pm f : Int) (esK a) (esK b) = esK (subL a b) := zip_esK _ _ (fun x y => kI_sub x y) _ rfl a b
theorem field_SubVecK (va vb : Value) (a b : KL f) (w : World) (ha : SlK w w.heap.size va a) (hb : SlK w w.heap.size vb b) (hl : a.length = b.length) (hn : a.length ≤ 1000000) :
  Calls Try.prog 36 #[.int .u8 f, va, vb] w (RetSK (subL a b) w) :=
 (field_SubVec f _ (FM.ofN hf) va vb (esK a) (esK b) w ha.toE hb.toE (by rw [esK_length, esK_length, hl]) (by rw [esK_length]; omega)).mono fun e w' ⟨g, he, hB, h1, h2⟩ => by
  rw [zip_subL] at he hB
  exact ⟨g, by rw [← esK_length]; exact he, hB, h1, h2⟩
end

end Go.Proofs.Ytbakkmfjamcbfaa

namespace Go.Proofs.Ytbakkmfjamcbfaa
open Go Go.RowKit
set_option linter.unusedVariables false

section
variable {P : Program} {ops : Array Oper} {Q : Exit → Act → World → Prop} {md : Region.Mode} {n m : Nat} {L : Act → World → Prop} {f : Nat} {listed : Array Bool} {a : Act} {T S : World → Prop}
variable {L' : Act → World → Prop}
theorem region_Z3 {id n m f : Nat} {l : List Oper} {a : Act} {w : World} {α β γ : Type} (R : α → β → γ → World → Prop) (T S : World → Prop) (hST : ∀ w, S w → T w) (hC : Clo S) (hS : S w.drew) {E : α → β → γ → Act} (hm : P.follows .mixedOrders = true) (hB : partsB .any l.toArray n m (Array.replicate l.length false) = true) (hf : f + (m - n) = l.length)
  (h : WpX P .any l.toArray Q n m (fun a w => ∃ x y z, a = E x y z ∧ R x y z w) f (Array.replicate l.length false) a T S)
  (hc : ∀ x y z w', R x y z w' → wpList P l.toArray Q ((l.drop n).take (m - n)) (E x y z) w') : (Code.region id l.toArray true).wp P Q a w :=
 region_X T S hST hC hS hm hB hf (h.monoZ fun _ w ⟨x, y, z, e, hr⟩ => e ▸ hc x y z w hr)
end

end Go.Proofs.Ytbakkmfjamcbfaa

namespace Go.Proofs.Ytbakkmfjamcbfaa
open Go.RowKit Fm
set_option linter.unusedVariables false
set_option maxRecDepth 100000

theorem PsK.get {f : Nat} {w : World} {vs : List Value} {ps : List (KL f)} (h : PsK w vs ps) {i : Nat} {p : KL f} (hp : ps[i]? = some p) : ∃ v, vs[i]? = some v ∧ SlK w w.heap.size v p := by
 obtain ⟨hlt, _⟩ := List.getElem?_eq_some_iff.1 hp
 have hv : vs[i]? = some (vs[i]'(by rw [h.len]; exact hlt)) := List.getElem?_eq_getElem _
 exact ⟨_, hv, h.at' _ _ _ hv hp⟩

end Go.Proofs.Ytbakkmfjamcbfaa

namespace Go.Proofs.Ytbakkmfjamcbfaa
open Go.RowKit Fm
set_option linter.unusedVariables false
set_option maxRecDepth 100000

section
variable {f : Nat}

theorem RwK.drew {w : World} {g : Nat} {l : KL f} (h : RwK w g l) : RwK w.drew g l := Vs.drew h
end

end Go.Proofs.Ytbakkmfjamcbfaa

namespace Go.Proofs.Ytbakkmfjamcbfaa
open Go.RowKit Fm
set_option linter.unusedVariables false
set_option maxRecDepth 100000

theorem kpow_nK (f : Nat) : ∀ j, kpow f j = nK f (2 ^ j)
 | 0 => (nK_one f).symm
 | j + 1 => by rw [kpow, kpow_nK f j, Nat.pow_succ, Nat.mul_two, nK_add]

section
variable {f : Nat} (hf : IsF f)
include hf

end

end Go.Proofs.Ytbakkmfjamcbfaa

namespace Go.Proofs.Ytbakkmfjamcbfaa
open Go.RowKit Fm
set_option linter.unusedVariables false
set_option maxRecDepth 100000

section
variable {P : Program} {ops : Array Oper} {Q : Exit → Act → World → Prop} {md : Region.Mode} {n m : Nat} {L : Act → World → Prop} {f : Nat} {listed : Array Bool} {a : Act} {T S : World → Prop}
end

def TeT (w0 : World) (xb : Nat) (o1 o2 : Option Nat) (wz : World) : Prop := Exc (fun q => q = xb) w0.heap.size w0 wz
structure TeK (w0 : World) (xb n : Nat) (v : Value) (M : Int) (K : List Int) (zs : List E) (o1 o2 : Option Nat) (s : Bool) (wz : World) : Prop where
 t : Exc (fun q => q = xb) w0.heap.size w0 wz
 l : xb < w0.heap.size
 a : ∀ g, o1 = some g → w0.heap.size ≤ g ∧ BlkE wz g zs
 b : ∀ g, o2 = some g → w0.heap.size ≤ g ∧ BlkE wz g zs
 v : s = false → Vs wz xb (totL v M K)
 u : s = true → ∀ g, o1 = some g → Vs wz xb (totL (.slice (some ⟨g, 0, none⟩) n n) M K)
section
variable {w0 w w' : World} {xb n : Nat} {v : Value} {M : Int} {K : List Int} {zs : List E} {o1 o2 : Option Nat} {s : Bool}
theorem TeK.weak (o1 o2 : Option Nat) (s : Bool) (w : World) (h : TeK w0 xb n v M K zs o1 o2 s w) : TeT w0 xb o1 o2 w := h.t
theorem TeK.clo : Clo (TeK w0 xb n v M K zs o1 o2 s) := fun w w' h hb => ⟨h.t.call hb, h.l, fun g e => ⟨(h.a g e).1, (h.a g e).2.call hb⟩, fun g e => ⟨(h.b g e).1, (h.b g e).2.call hb⟩, fun e => (h.v e).call hb, fun e g e2 => (h.u e g e2).call hb⟩
theorem TeK.start (h : Vs w0 xb (totL v M K)) : TeK w0 xb n v M K zs none none false w0.drew :=
 ⟨exc_of ((Below.refl _ _).drew), h.lt, fun _ e => (by cases e), fun _ e => (by cases e), fun _ => h.drew, fun e => (by cases e)⟩
theorem TeK.mkA {cs : Array Value} (h : TeK w0 xb n v M K zs none o2 false w) (hc : cs = (cellsE zs).toArray) : TeK w0 xb n v M K zs (some w.heap.size) o2 false (w.alloc (.cells cs 99)) := by
 have h2 := TeK.clo _ _ h ((Below.refl w.heap.size w).alloc (Nat.le_refl _) (.cells cs 99))
 refine ⟨h2.t, h2.l, fun g e => ?_, h2.b, h2.v, fun e => (by cases e)⟩
 injection e with e
 subst e
 exact ⟨h.t.size, BlkE.new w zs cs hc⟩
theorem TeK.mkB {cs : Array Value} (h : TeK w0 xb n v M K zs o1 none s w) (hc : cs = (cellsE zs).toArray) : TeK w0 xb n v M K zs o1 (some w.heap.size) s (w.alloc (.cells cs 99)) := by
 have h2 := TeK.clo _ _ h ((Below.refl w.heap.size w).alloc (Nat.le_refl _) (.cells cs 99))
 refine ⟨h2.t, h2.l, h2.a, fun g e => ?_, h2.v, h2.u⟩
 injection e with e
 subst e
 exact ⟨h.t.size, BlkE.new w zs cs hc⟩
theorem BlkE.far1 {g b i : Nat} {xs : List E} (h : BlkE w g xs) (hb : b ≠ g) (x : Value) : BlkE (w.setCell ⟨b, i, none⟩ x) g xs := (Below.heap_setCell w ⟨b, i, none⟩ x g (fun e => hb e.symm)).trans h
theorem Vs.totPutS (h : Vs w xb (totL v M K)) (u : Value) : Vs (w.setCell ⟨xb, 0, none⟩ u) xb (totL u M K) := h.put 0 (Nat.zero_lt_succ _) u
theorem TeK.put {g : Nat} (h : TeK w0 xb n v M K zs (some g) o2 false w) : TeK w0 xb n v M K zs (some g) o2 true (w.setCell ⟨xb, 0, none⟩ (.slice (some ⟨g, 0, none⟩) n n)) := by
 have hl := h.l
 refine ⟨exc_sc h.t (.inl rfl) 0 _, h.l, fun q e => ⟨(h.a q e).1, (h.a q e).2.far1 (by have := (h.a q e).1; omega) _⟩, fun q e => ⟨(h.b q e).1, (h.b q e).2.far1 (by have := (h.b q e).1; omega) _⟩, fun e => (by cases e), fun _ q e => ?_⟩
 injection e with e
 subst e
 exact (h.v rfl).totPutS _
end

/-! ### a region that makes a row, asks for a total, and stores it into a new variable -/
def AnT (w0 : World) (o1 : Option Nat) (o2 : Option (Value × Int × List Int)) (o3 : Option Nat) (wz : World) : Prop := Below w0.heap.size w0 wz
structure AnK (w0 : World) (zs : List E) (o1 : Option Nat) (o2 : Option (Value × Int × List Int)) (o3 : Option Nat) (s : Bool) (wz : World) : Prop where
 t : Below w0.heap.size w0 wz
 a : ∀ g, o1 = some g → w0.heap.size ≤ g ∧ BlkE wz g zs
 b : ∀ q, o2 = some q → q.1.oneCell' = true ∧ q.2.2.length = 16
 c : ∀ x, o3 = some x → w0.heap.size ≤ x ∧ (s = false → Vs wz x (totL (.slice none 0 0) 0 z16))
section
variable {w0 w w' : World} {zs : List E} {o1 : Option Nat} {o2 : Option (Value × Int × List Int)} {o3 : Option Nat} {s : Bool}
theorem AnK.weak (o1 : Option Nat) (o2 : Option (Value × Int × List Int)) (o3 : Option Nat) (s : Bool) (w : World) (h : AnK w0 zs o1 o2 o3 s w) : AnT w0 o1 o2 o3 w := h.t
theorem AnK.clo : Clo (AnK w0 zs o1 o2 o3 s) := fun w w' h hb => ⟨bl_call h.t (Nat.le_refl _) hb, fun g e => ⟨(h.a g e).1, (h.a g e).2.call hb⟩, h.b, fun x e => ⟨(h.c x e).1, fun e1 => ((h.c x e).2 e1).call hb⟩⟩
theorem AnK.start (w0 : World) : AnK w0 zs none none none false w0.drew := ⟨(Below.refl _ _).drew, fun _ e => (by cases e), fun _ e => (by cases e), fun _ e => (by cases e)⟩
theorem AnK.mkA {cs : Array Value} (h : AnK w0 zs none o2 o3 s w) (hc : cs = (cellsE zs).toArray) : AnK w0 zs (some w.heap.size) o2 o3 s (w.alloc (.cells cs 99)) := by
 have h2 := AnK.clo _ _ h ((Below.refl w.heap.size w).alloc (Nat.le_refl _) (.cells cs 99))
 refine ⟨h2.t, fun g e => ?_, h2.b, h2.c⟩
 injection e with e
 subst e
 exact ⟨h.t.size, BlkE.new w zs cs hc⟩
theorem AnK.mkB (q : Value × Int × List Int) (h : AnK w0 zs o1 none o3 s w) (h1 : q.1.oneCell' = true) (h2 : q.2.2.length = 16) (hb : Below w.heap.size w w') : AnK w0 zs o1 (some q) o3 s w' := by
 have h3 := AnK.clo _ _ h hb
 refine ⟨h3.t, h3.a, fun q' e => ?_, h3.c⟩
 injection e with e
 subst e
 exact ⟨h1, h2⟩
theorem AnK.mkC {cs : Array Value} {t : TypeId} (h : AnK w0 zs o1 o2 none false w) (hc : cs = (totL (.slice none 0 0) 0 z16).toArray) : AnK w0 zs o1 o2 (some w.heap.size) false (w.alloc (.cells cs t)) := by
 have h2 := AnK.clo _ _ h ((Below.refl w.heap.size w).alloc (Nat.le_refl _) (.cells cs t))
 refine ⟨h2.t, h2.a, h2.b, fun x e => ?_⟩
 injection e with e
 subst e
 exact ⟨h.t.size, fun _ => Vs.new w _ cs t hc⟩
theorem AnK.put {x : Nat} (h : AnK w0 zs o1 o2 (some x) false w) (l : List Value) : AnK w0 zs o1 o2 (some x) true (w.setCells x 0 l) := by
 obtain ⟨hx, hv⟩ := h.c x rfl
 refine ⟨bl_setCells h.t hx _ _, fun q e => ⟨(h.a q e).1, (h.a q e).2.farC (fun e2 => blk_vs (h.a q e).2 (hv rfl) e2.symm) _ _⟩, h.b, fun y e => ?_⟩
 injection e with e
 subst e
 exact ⟨hx, fun e1 => (by cases e1)⟩
end

/-! ### a total's check is written -/
end Go.Proofs.Ytbakkmfjamcbfaa

namespace Go.Proofs.Ytbakkmfjamcbfaa
open Go.RowKit Go.Joins Go.ChangeShapes Go.WideShapes Go.Deep
set_option linter.unusedVariables false
set_option maxRecDepth 100000

section
variable {H : Type} {enc : TypeId × Value → H} {W : World} {base : Nat} {sp : Nat → Bool} {hd : Bool}

theorem okWide_array {P : Program} {w : World} {r : Reach} {b0 : Nat} {t e : TypeId} {n : Nat} {v : Value} (ht : P.underlying t = some (.array n e)) (h : Value.okWide P w r b0 t v) : ∃ cs, v = .agg cs ∧ cs.size = P.cellsOf t := by
 simp only [Value.okWide, ht] at h
 obtain ⟨cs, h1, h2, _⟩ := h
 exact ⟨cs, h1, h2⟩

theorem open_id {r : Reach} {b0 : Nat} {v : Value} {d : DataW H} {ps : List MemPlace} (hval : Value.okWide Try.prog W r b0 34 v) (h : DataW.Trod enc Try.prog W base sp hd 34 v d ps) :
  ∃ k : List Int, v = .agg (cells8 k).toArray ∧ k.length = 16 ∧ B8 k := by
 obtain ⟨cs, rfl, hsz⟩ := okWide_array Try.underlying34 hval
 obtain ⟨l⟩ := cs
 obtain ⟨fuel, hf⟩ := h
 have hf2 : DataW.trod enc Try.prog W base sp hd fuel 34 l = some (d, ps) := hf
 obtain ⟨k, rfl, h1, h2⟩ := trod_b16 Try.underlying34 (by kernel_rfl) hf2
 exact ⟨k, rfl, h1, h2⟩

end

end Go.Proofs.Ytbakkmfjamcbfaa

namespace Go.Proofs.Ytbakkmfjamcbfaa
open Go.RowKit Fm
set_option linter.unusedVariables false
set_option maxRecDepth 100000

theorem eK_nK {f : Nat} (hf : IsF f) {n : Nat} (hn : n < 4294967296) : eK (nK f n) = ((n : Int), 0) := by
 rw [nK_kI, eK_kI]
 have h : (n : Int) % (Pm f : Int) = n := by
  rcases hf.or with rfl | rfl
  ·rw [show ((Pm 1 : Nat) : Int) = 18446744069414584321 from rfl]; omega
  ·rw [show ((Pm 2 : Nat) : Int) = 340282366920938462946865773367900766209 from rfl]; omega
 rw [h]
 simp only [eN, Prod.mk.injEq]
 omega

section
variable {f : Nat} (hf : IsF f)
include hf

end

end Go.Proofs.Ytbakkmfjamcbfaa

namespace Go.Proofs.Ytbakkmfjamcbfaa
open Go.RowKit Fm
set_option linter.unusedVariables false
set_option maxRecDepth 100000

def okNums (b : Nat) (ms : List Nat) : Prop := ∀ x, x ∈ ms → x < 2 ^ b
def encNums (b : Nat) (ms : List Nat) : List Nat := ms.flatMap fun n => bitsL n b
theorem encNums_length (b : Nat) (ms : List Nat) : (encNums b ms).length = ms.length * b := by
 unfold encNums
 induction ms with
 | nil => simp
 | cons x l ih => rw [List.flatMap_cons, List.length_append, ih, bitsL_length, List.length_cons, Nat.succ_mul, Nat.add_comm]
theorem encNums_take {b : Nat} {ms : List Nat} {k n : Nat} (h : ms[k]? = some n) : encNums b (ms.take (k + 1)) = encNums b (ms.take k) ++ bitsL n b := by
 unfold encNums
 rw [List.take_add_one, h, List.flatMap_append]
 simp
def encOne (l n : Nat) : List Nat := (List.replicate l 0).set n 1
theorem encOne_length (l n : Nat) : (encOne l n).length = l := by unfold encOne; rw [List.length_set, List.length_replicate]

section
variable {f : Nat} (hf : IsF f)
include hf

set_option maxHeartbeats 8000000 in
theorem circuit_Encode_nums2 (b n m c : Nat) (N : Int) (hb1 : 1 ≤ b) (hb2 : b ≤ 32) (hn2 : n ≤ 64) (vm : Value) (ms : List Nat) (w : World) (hm : SlU w w.heap.size vm (natsI ms)) (hl : ms.length = n)
  (HC : Hid (∀ wz, Calls Try.prog 60 #[.agg #[.int .u8 2, .int .u8 f, .int .i64 b, .int .i64 N, .int .i64 m, .int .i64 c]] wz (RetC 0 wz)))
  (HO : Hid (∀ wz, Calls Try.prog 32 #[.agg #[.int .u8 2, .int .u8 f, .int .i64 b, .int .i64 N, .int .i64 m, .int .i64 c]] wz (RetI n wz))) :
  Calls Try.prog 33 #[.agg #[.int .u8 2, .int .u8 f, .int .i64 b, .int .i64 N, .int .i64 m, .int .i64 c], vm] w (RetEnc (okNums b ms) ((encNums b ms).map (nK f)) w) := by
 obtain ⟨⟨A, cc, rfl, hcc, hcm, hA⟩, hok⟩ := hm
 rw [natsI_length, hl] at hcc hA
 rw [natsI_length, hl]
 have HL := Lib.hid hl
 have hfb0 : (1 : Int) ≤ (f : Int) := by rcases hf.or with rfl | rfl <;> omega
 have hfb1 : (f : Int) ≤ 2 := by rcases hf.or with rfl | rfl <;> omega
 have HBO := Lib.hid (fun (x : Nat) (hn : x ≤ 18446744073709551615) wz => circuit_bitsOf hf 2 b N m c x b hn (by omega) wz)
 have HBQ : Hid (∀ x : Nat, x ≤ 18446744073709551615 → ∀ wz, Calls Try.prog 62 #[.agg #[.int .u8 2, .int .u8 f, .int .i64 b, .int .i64 N, .int .i64 m, .int .i64 c], .int .u64 x, .int .i64 b] wz fun e w' => ∃ (A9 : Option Addr) (c9 : Nat), e = .returned (Value.slice A9 b c9) ∧ SlK w' w'.heap.size (.slice A9 b c9) ((bitsL x b).map (nK f)) ∧ Below wz.heap.size wz w') := by
  intro x hx wz
  refine (HBO.out x hx wz).mono ?_
  rintro e w' ⟨v, rfl, hown', hb'⟩
  have hlen : ((bitsL x b).map (nK f)).length = b := by rw [List.length_map, bitsL_length]
  rw [hlen] at hown'
  obtain ⟨A9, c9, rfl⟩ := own_shape hown'
  exact ⟨A9, c9, rfl, own_sl hlen hown', hb'⟩
 have hb00 : Below w.heap.size w w := Below.refl _ _
 clear hl HBO
 go_enter Try.func33, Try.ntmps33
 go_upto_region 1 with fail
 have hx := Vs.new w [.int .u8 2, .int .u8 f, .int .i64 b, .int .i64 N, .int .i64 m, .int .i64 c] #[.int .u8 2, .int .u8 f, .int .i64 b, .int .i64 N, .int .i64 m, .int .i64 c] 60 rfl
 have hbA : Below w.heap.size w (w.alloc (.cells #[.int .u8 2, .int .u8 f, .int .i64 b, .int .i64 N, .int .i64 m, .int .i64 c] 60)) := by repeat (first | exact bA | with_reducible assumption | apply bB)
 replace hb00 := bl_call hb00 (Nat.le_refl _) hbA
 clear hbA
 generalize w.alloc (.cells #[.int .u8 2, .int .u8 f, .int .i64 b, .int .i64 N, .int .i64 m, .int .i64 c] 60) = w1 at hb00 hx ⊢
 obtain ⟨⟨x0, x1, x2, x3, x4, x5⟩, ⟨x6, x7, x8, x9, x10, x11⟩, x12⟩ := hx.get6
 go_upto_region 20 with (first
  | (go_at_call 60; refine (HC.out _).mono ?_; rintro e w2 ⟨rfl, hb2⟩; replace hb00 := bl_call hb00 (Nat.le_refl _) hb2; replace hx := hx.call hb2; clear x0 x1 x2 x3 x4 x5 x6 x7 x8 x9 x10 x11 x12; clear hb2; obtain ⟨⟨x0, x1, x2, x3, x4, x5⟩, ⟨x6, x7, x8, x9, x10, x11⟩, x12⟩ := hx.get6)
  | (go_at_call 32; refine (HO.out _).mono ?_; rintro e w3 ⟨rfl, hb3⟩; replace hb00 := bl_call hb00 (Nat.le_refl _) hb3; replace hx := hx.call hb3; clear x0 x1 x2 x3 x4 x5 x6 x7 x8 x9 x10 x11 x12; clear hb3; obtain ⟨⟨x0, x1, x2, x3, x4, x5⟩, ⟨x6, x7, x8, x9, x10, x11⟩, x12⟩ := hx.get6))
 have hsz : w.heap.size + 1 ≤ w3.heap.size := hx.lt
 clear HC HO
 clear x0 x1 x2 x3 x4 x5 x6 x7 x8 x9 x10 x11 x12
 go_wp2_with fail
 go_loopw [8, 56] (fun v8 i wr => ∃ (k p : Nat) (A' : Option Addr) (cp : Nat), k ≤ n ∧ i = .int .i64 k ∧ v8 = .slice A' p cp ∧ Hid (p = k * b) ∧ p ≤ 32 * k ∧ Hid (∀ x, x ∈ ms.take k → x < 2 ^ b) ∧
   Vs wr w.heap.size [.int .u8 2, .int .u8 f, .int .i64 b, .int .i64 N, .int .i64 m, .int .i64 c] ∧ wr.ownsRow (w.heap.size + 1) 99 2 (.slice A' p cp) p (cellsE (esK ((encNums b (ms.take k)).map (nK f)))) ∧ Below w.heap.size w wr ∧ w.heap.size + 1 ≤ wr.heap.size) (fun _ i _ => n - (intOf i).toNat)
 case atStart => exact ⟨0, 0, none, 0, Nat.zero_le _, rfl, rfl, (by rw [Nat.zero_mul] : 0 = 0 * b), by omega, fun x h => (by simp at h), hx, World.ownsRow_nil _ _ _ _, hb00, hsz⟩
 case round =>
  clear hx hb00 hsz
  obtain ⟨k, p, A', cp, hk, rfl, rfl, hp, hp32, hall, hx, hown, hbw, hsz⟩ := hrel
  obtain ⟨⟨x0, x1, x2, x3, x4, x5⟩, ⟨x6, x7, x8, x9, x10, x11⟩, x12⟩ := hx.get6
  by_cases hlt : k < n
  ·obtain ⟨bb, o, rfl, hB, hr⟩ := hA (by omega)
   obtain ⟨x, hx9⟩ : ∃ n, ms[k]? = some n := ⟨_, List.getElem?_eq_getElem (by rw [HL.out]; exact hlt)⟩
   have d0 := (hr.below hbw hB) _ _ (natsI_at hx9)
   have hbnd := hok _ (List.mem_of_getElem? (natsI_at hx9))
   have hx64 : x ≤ 18446744073709551615 := by have := hbnd.2; omega
   have HN := Lib.hid hx9
   clear hx9 hr hA hbnd
   by_cases hxb : x < 2 ^ b
   ·have hsh : (x : Int) / 2 ^ b = 0 := by
     have h1 : x / 2 ^ b = 0 := Nat.div_eq_of_lt hxb
     have h2 : (x : Int) / 2 ^ b = ((x / 2 ^ b : Nat) : Int) := by rw [Int.natCast_ediv, Int.natCast_pow]; rfl
     rw [h2, h1]
     rfl
    have HA2 := Lib.hid (all_take HN.out hall.out hxb)
    have HT2 : Hid (esK ((encNums b (ms.take (k + 1))).map (nK f)) = esK ((encNums b (ms.take k)).map (nK f)) ++ esK ((bitsL x b).map (nK f))) := by
     show esK ((encNums b (ms.take (k + 1))).map (nK f)) = _
     rw [encNums_take HN.out, List.map_append, esK_append]
    have HM : Hid ((esK ((bitsL x b).map (nK f))).length = b) := by show (esK _).length = b; rw [esK_length, List.length_map, bitsL_length]
    have HP : Hid (p + b = (k + 1) * b) := by show p + b = (k + 1) * b; rw [hp.out, Nat.succ_mul]
    have hk1 : p + b ≤ 1099511627776 := by omega
    obtain ⟨ys, hys⟩ : ∃ ys, esK ((bitsL x b).map (nK f)) = ys := ⟨_, rfl⟩
    have HYS := Lib.hid hys
    rw [hys] at HT2 HM
    have HBY := Lib.hid (fun wz => HBQ.out x hx64 wz)
    clear hxb hys
    go_wp2_with (first
     | (go_at_call 62; refine (HBY.out _).mono ?_; rintro e w6 ⟨A9, c9, rfl, hE, hb6⟩; have hbw6 := bl_call hbw (Nat.le_refl _) hb6; have hx6 := hx.call hb6; have HOW := Lib.hid (own_call hown hb6); have hz6 := hb6.size; have hbase : w.heap.size + 1 ≤ w6.heap.size := (by omega); have HR1 : Hid (0 < b → ∃ b o, A9 = some ⟨b, o, none⟩ ∧ RowE w6 b o ys) := (fun hq0 => by
       obtain ⟨A8, c8, h8, _, _, h9⟩ := hE
       have hlen : ((bitsL x b).map (nK f)).length = b := by rw [List.length_map, bitsL_length]
       rw [hlen] at h8 h9
       injection h8 with h1 h2 h3
       subst h1
       obtain ⟨b8, o8, e8, _, r8⟩ := h9 hq0
       rw [HYS.out] at r8
       exact ⟨b8, o8, e8, r8⟩))
     | (at_builtin; (refine wpList_append_E rfl (.tmp 65) (.tmp 70) rfl (w.heap.size + 1) _ p (esK ((encNums b (ms.take k)).map (nK f))) rfl HOW.out A9 b c9 ys rfl HM.out HR1.out hk1 hbase ?_; intro v2 w7 hown7 hg7 hat7; have hb7 : Below (w.heap.size + 1) w6 w7 := (Below.refl _ _).grown hg7 hbase (fun q hq => (HOW.out.lt q hq).1); obtain ⟨A7, cap7, hv7⟩ := own_shape hown7; rw [hv7])))
    rw [hv7, ← HT2.out] at hown7
    have hx7 := hx6.belowB hb7 (by omega)
    have hbw7 : Below w.heap.size w w7 := hbw6.trans (hb7.mono (by omega))
    have hz7 := hb7.size
    go_roundw
    case rel => exact ⟨k + 1, p + b, _, cap7, by omega, by go_num, rfl, HP.out, by omega, HA2.out, hx7, hown7, hbw7, by omega⟩
    case measure => simp [intOf]; omega
   ·have hsh : ((x : Int) / 2 ^ b == 0) = false := by
     have h1 : 0 < x / 2 ^ b := Nat.div_pos (by omega) (Nat.two_pow_pos b)
     have h2 : (x : Int) / 2 ^ b = ((x / 2 ^ b : Nat) : Int) := by rw [Int.natCast_ediv, Int.natCast_pow]; rfl
     rw [h2, beq_eq_false_iff_ne]
     omega
    have hsh2 : ((x : Int) / 2 ^ b != 0) = true := by simpa using hsh
    have hbad : ¬ okNums b ms := fun h => hxb (h x (List.mem_of_getElem? HN.out))
    have HBAD := Lib.hid hbad
    clear hbad hxb
    go_wp2_with fail
    go_ret2
    exact .inr ⟨HBAD.out, rfl, hbw⟩
  ·obtain rfl : k = n := by omega
   rw [List.take_of_length_le (by rw [HL.out]; exact Nat.le_refl _)] at hall hown
   have HLE : Hid (((encNums b ms).map (nK f)).length = p) := by show ((encNums b ms).map (nK f)).length = p; rw [List.length_map, encNums_length, HL.out, hp.out]
   go_wp2_with fail
   go_ret2
   exact .inl ⟨hall.out, _, rfl, by rw [HLE.out]; exact own_mono hown (by omega), hbw⟩
set_option maxHeartbeats 8000000 in
theorem circuit_Encode_nums3 (b n m c : Nat) (N : Int) (hb1 : 1 ≤ b) (hb2 : b ≤ 32) (hn2 : n ≤ 64) (vm : Value) (ms : List Nat) (w : World) (hm : SlU w w.heap.size vm (natsI ms)) (hl : ms.length = n)
  (HC : Hid (∀ wz, Calls Try.prog 60 #[.agg #[.int .u8 3, .int .u8 f, .int .i64 b, .int .i64 N, .int .i64 m, .int .i64 c]] wz (RetC 0 wz)))
  (HO : Hid (∀ wz, Calls Try.prog 32 #[.agg #[.int .u8 3, .int .u8 f, .int .i64 b, .int .i64 N, .int .i64 m, .int .i64 c]] wz (RetI n wz))) :
  Calls Try.prog 33 #[.agg #[.int .u8 3, .int .u8 f, .int .i64 b, .int .i64 N, .int .i64 m, .int .i64 c], vm] w (RetEnc (okNums b ms) ((encNums b ms).map (nK f)) w) := by
 obtain ⟨⟨A, cc, rfl, hcc, hcm, hA⟩, hok⟩ := hm
 rw [natsI_length, hl] at hcc hA
 rw [natsI_length, hl]
 have HL := Lib.hid hl
 have hfb0 : (1 : Int) ≤ (f : Int) := by rcases hf.or with rfl | rfl <;> omega
 have hfb1 : (f : Int) ≤ 2 := by rcases hf.or with rfl | rfl <;> omega
 have HBO := Lib.hid (fun (x : Nat) (hn : x ≤ 18446744073709551615) wz => circuit_bitsOf hf 3 b N m c x b hn (by omega) wz)
 have HBQ : Hid (∀ x : Nat, x ≤ 18446744073709551615 → ∀ wz, Calls Try.prog 62 #[.agg #[.int .u8 3, .int .u8 f, .int .i64 b, .int .i64 N, .int .i64 m, .int .i64 c], .int .u64 x, .int .i64 b] wz fun e w' => ∃ (A9 : Option Addr) (c9 : Nat), e = .returned (Value.slice A9 b c9) ∧ SlK w' w'.heap.size (.slice A9 b c9) ((bitsL x b).map (nK f)) ∧ Below wz.heap.size wz w') := by
  intro x hx wz
  refine (HBO.out x hx wz).mono ?_
  rintro e w' ⟨v, rfl, hown', hb'⟩
  have hlen : ((bitsL x b).map (nK f)).length = b := by rw [List.length_map, bitsL_length]
  rw [hlen] at hown'
  obtain ⟨A9, c9, rfl⟩ := own_shape hown'
  exact ⟨A9, c9, rfl, own_sl hlen hown', hb'⟩
 have hb00 : Below w.heap.size w w := Below.refl _ _
 clear hl HBO
 go_enter Try.func33, Try.ntmps33
 go_upto_region 1 with fail
 have hx := Vs.new w [.int .u8 3, .int .u8 f, .int .i64 b, .int .i64 N, .int .i64 m, .int .i64 c] #[.int .u8 3, .int .u8 f, .int .i64 b, .int .i64 N, .int .i64 m, .int .i64 c] 60 rfl
 have hbA : Below w.heap.size w (w.alloc (.cells #[.int .u8 3, .int .u8 f, .int .i64 b, .int .i64 N, .int .i64 m, .int .i64 c] 60)) := by repeat (first | exact bA | with_reducible assumption | apply bB)
 replace hb00 := bl_call hb00 (Nat.le_refl _) hbA
 clear hbA
 generalize w.alloc (.cells #[.int .u8 3, .int .u8 f, .int .i64 b, .int .i64 N, .int .i64 m, .int .i64 c] 60) = w1 at hb00 hx ⊢
 obtain ⟨⟨x0, x1, x2, x3, x4, x5⟩, ⟨x6, x7, x8, x9, x10, x11⟩, x12⟩ := hx.get6
 go_upto_region 20 with (first
  | (go_at_call 60; refine (HC.out _).mono ?_; rintro e w2 ⟨rfl, hb2⟩; replace hb00 := bl_call hb00 (Nat.le_refl _) hb2; replace hx := hx.call hb2; clear x0 x1 x2 x3 x4 x5 x6 x7 x8 x9 x10 x11 x12; clear hb2; obtain ⟨⟨x0, x1, x2, x3, x4, x5⟩, ⟨x6, x7, x8, x9, x10, x11⟩, x12⟩ := hx.get6)
  | (go_at_call 32; refine (HO.out _).mono ?_; rintro e w3 ⟨rfl, hb3⟩; replace hb00 := bl_call hb00 (Nat.le_refl _) hb3; replace hx := hx.call hb3; clear x0 x1 x2 x3 x4 x5 x6 x7 x8 x9 x10 x11 x12; clear hb3; obtain ⟨⟨x0, x1, x2, x3, x4, x5⟩, ⟨x6, x7, x8, x9, x10, x11⟩, x12⟩ := hx.get6))
 have hsz : w.heap.size + 1 ≤ w3.heap.size := hx.lt
 clear HC HO
 clear x0 x1 x2 x3 x4 x5 x6 x7 x8 x9 x10 x11 x12
 go_wp2_with fail
 go_loopw [8, 56] (fun v8 i wr => ∃ (k p : Nat) (A' : Option Addr) (cp : Nat), k ≤ n ∧ i = .int .i64 k ∧ v8 = .slice A' p cp ∧ Hid (p = k * b) ∧ p ≤ 32 * k ∧ Hid (∀ x, x ∈ ms.take k → x < 2 ^ b) ∧
   Vs wr w.heap.size [.int .u8 3, .int .u8 f, .int .i64 b, .int .i64 N, .int .i64 m, .int .i64 c] ∧ wr.ownsRow (w.heap.size + 1) 99 2 (.slice A' p cp) p (cellsE (esK ((encNums b (ms.take k)).map (nK f)))) ∧ Below w.heap.size w wr ∧ w.heap.size + 1 ≤ wr.heap.size) (fun _ i _ => n - (intOf i).toNat)
 case atStart => exact ⟨0, 0, none, 0, Nat.zero_le _, rfl, rfl, (by rw [Nat.zero_mul] : 0 = 0 * b), by omega, fun x h => (by simp at h), hx, World.ownsRow_nil _ _ _ _, hb00, hsz⟩
 case round =>
  clear hx hb00 hsz
  obtain ⟨k, p, A', cp, hk, rfl, rfl, hp, hp32, hall, hx, hown, hbw, hsz⟩ := hrel
  obtain ⟨⟨x0, x1, x2, x3, x4, x5⟩, ⟨x6, x7, x8, x9, x10, x11⟩, x12⟩ := hx.get6
  by_cases hlt : k < n
  ·obtain ⟨bb, o, rfl, hB, hr⟩ := hA (by omega)
   obtain ⟨x, hx9⟩ : ∃ n, ms[k]? = some n := ⟨_, List.getElem?_eq_getElem (by rw [HL.out]; exact hlt)⟩
   have d0 := (hr.below hbw hB) _ _ (natsI_at hx9)
   have hbnd := hok _ (List.mem_of_getElem? (natsI_at hx9))
   have hx64 : x ≤ 18446744073709551615 := by have := hbnd.2; omega
   have HN := Lib.hid hx9
   clear hx9 hr hA hbnd
   by_cases hxb : x < 2 ^ b
   ·have hsh : (x : Int) / 2 ^ b = 0 := by
     have h1 : x / 2 ^ b = 0 := Nat.div_eq_of_lt hxb
     have h2 : (x : Int) / 2 ^ b = ((x / 2 ^ b : Nat) : Int) := by rw [Int.natCast_ediv, Int.natCast_pow]; rfl
     rw [h2, h1]
     rfl
    have HA2 := Lib.hid (all_take HN.out hall.out hxb)
    have HT2 : Hid (esK ((encNums b (ms.take (k + 1))).map (nK f)) = esK ((encNums b (ms.take k)).map (nK f)) ++ esK ((bitsL x b).map (nK f))) := by
     show esK ((encNums b (ms.take (k + 1))).map (nK f)) = _
     rw [encNums_take HN.out, List.map_append, esK_append]
    have HM : Hid ((esK ((bitsL x b).map (nK f))).length = b) := by show (esK _).length = b; rw [esK_length, List.length_map, bitsL_length]
    have HP : Hid (p + b = (k + 1) * b) := by show p + b = (k + 1) * b; rw [hp.out, Nat.succ_mul]
    have hk1 : p + b ≤ 1099511627776 := by omega
    obtain ⟨ys, hys⟩ : ∃ ys, esK ((bitsL x b).map (nK f)) = ys := ⟨_, rfl⟩
    have HYS := Lib.hid hys
    rw [hys] at HT2 HM
    have HBY := Lib.hid (fun wz => HBQ.out x hx64 wz)
    clear hxb hys
    go_wp2_with (first
     | (go_at_call 62; refine (HBY.out _).mono ?_; rintro e w6 ⟨A9, c9, rfl, hE, hb6⟩; have hbw6 := bl_call hbw (Nat.le_refl _) hb6; have hx6 := hx.call hb6; have HOW := Lib.hid (own_call hown hb6); have hz6 := hb6.size; have hbase : w.heap.size + 1 ≤ w6.heap.size := (by omega); have HR1 : Hid (0 < b → ∃ b o, A9 = some ⟨b, o, none⟩ ∧ RowE w6 b o ys) := (fun hq0 => by
       obtain ⟨A8, c8, h8, _, _, h9⟩ := hE
       have hlen : ((bitsL x b).map (nK f)).length = b := by rw [List.length_map, bitsL_length]
       rw [hlen] at h8 h9
       injection h8 with h1 h2 h3
       subst h1
       obtain ⟨b8, o8, e8, _, r8⟩ := h9 hq0
       rw [HYS.out] at r8
       exact ⟨b8, o8, e8, r8⟩))
     | (at_builtin; (refine wpList_append_E rfl (.tmp 65) (.tmp 70) rfl (w.heap.size + 1) _ p (esK ((encNums b (ms.take k)).map (nK f))) rfl HOW.out A9 b c9 ys rfl HM.out HR1.out hk1 hbase ?_; intro v2 w7 hown7 hg7 hat7; have hb7 : Below (w.heap.size + 1) w6 w7 := (Below.refl _ _).grown hg7 hbase (fun q hq => (HOW.out.lt q hq).1); obtain ⟨A7, cap7, hv7⟩ := own_shape hown7; rw [hv7])))
    rw [hv7, ← HT2.out] at hown7
    have hx7 := hx6.belowB hb7 (by omega)
    have hbw7 : Below w.heap.size w w7 := hbw6.trans (hb7.mono (by omega))
    have hz7 := hb7.size
    go_roundw
    case rel => exact ⟨k + 1, p + b, _, cap7, by omega, by go_num, rfl, HP.out, by omega, HA2.out, hx7, hown7, hbw7, by omega⟩
    case measure => simp [intOf]; omega
   ·have hsh : ((x : Int) / 2 ^ b == 0) = false := by
     have h1 : 0 < x / 2 ^ b := Nat.div_pos (by omega) (Nat.two_pow_pos b)
     have h2 : (x : Int) / 2 ^ b = ((x / 2 ^ b : Nat) : Int) := by rw [Int.natCast_ediv, Int.natCast_pow]; rfl
     rw [h2, beq_eq_false_iff_ne]
     omega
    have hsh2 : ((x : Int) / 2 ^ b != 0) = true := by simpa using hsh
    have hbad : ¬ okNums b ms := fun h => hxb (h x (List.mem_of_getElem? HN.out))
    have HBAD := Lib.hid hbad
    clear hbad hxb
    go_wp2_with fail
    go_ret2
    exact .inr ⟨HBAD.out, rfl, hbw⟩
  ·obtain rfl : k = n := by omega
   rw [List.take_of_length_le (by rw [HL.out]; exact Nat.le_refl _)] at hall hown
   have HLE : Hid (((encNums b ms).map (nK f)).length = p) := by show ((encNums b ms).map (nK f)).length = p; rw [List.length_map, encNums_length, HL.out, hp.out]
   go_wp2_with fail
   go_ret2
   exact .inl ⟨hall.out, _, rfl, by rw [HLE.out]; exact own_mono hown (by omega), hbw⟩
end

end Go.Proofs.Ytbakkmfjamcbfaa

namespace Go.Proofs.Ytbakkmfjamcbfaa
open Go.RowKit Fm
set_option linter.unusedVariables false
set_option maxRecDepth 100000

def okOne (l n : Nat) : Prop := n < l

section
variable {f : Nat} (hf : IsF f)
include hf

set_option maxHeartbeats 8000000 in
theorem circuit_Encode_count (hcalls : ¬ 511 < CK.count.calls) (vm : Value) (ms : List Nat) (w : World) (hm : SlU w w.heap.size vm (natsI ms)) (hl : ms.length = 1) :
  Calls Try.prog 33 #[CK.count.val f, vm] w (RetEnc (∀ x, x ∈ ms → x ≤ 1) (ms.map (nK f)) w) := by
 have HC : Hid (∀ wz, Calls Try.prog 60 #[CK.count.val f] wz (RetC 0 wz)) := by
  intro wz
  have h := circuit_Check_ok hf .count trivial wz
  rwa [CK.code_ok hcalls] at h
 have HO : Hid (∀ wz, Calls Try.prog 32 #[CK.count.val f] wz fun e w' => e = .returned (.int .i64 1) ∧ Below wz.heap.size wz w') := fun wz => circuit_Out f .count trivial wz
 rw [val_count] at HC HO ⊢
 obtain ⟨⟨A, cc, rfl, hcc, hcm, hA⟩, hok⟩ := hm
 rw [natsI_length, hl] at hcc hA
 rw [natsI_length, hl]
 have HOF := Lib.hid (fun (n : Nat) (hn : n ≤ 18446744073709551615) wz => field_Of hf (n : Int) wz (by omega) (by omega))
 have HL := Lib.hid hl
 have hfb0 : (1 : Int) ≤ (f : Int) := by rcases hf.or with rfl | rfl <;> omega
 have hfb1 : (f : Int) ≤ 2 := by rcases hf.or with rfl | rfl <;> omega
 have hb00 : Below w.heap.size w w := Below.refl _ _
 clear hl hok hcalls
 go_enter Try.func33, Try.ntmps33
 go_upto_region 1 with fail
 have hx := Vs.new w [.int .u8 1, .int .u8 f, .int .i64 0, .int .i64 0, .int .i64 0, .int .i64 0] #[.int .u8 1, .int .u8 f, .int .i64 0, .int .i64 0, .int .i64 0, .int .i64 0] 60 rfl
 have hbA : Below w.heap.size w (w.alloc (.cells #[.int .u8 1, .int .u8 f, .int .i64 0, .int .i64 0, .int .i64 0, .int .i64 0] 60)) := by repeat (first | exact bA | with_reducible assumption | apply bB)
 replace hb00 := bl_call hb00 (Nat.le_refl _) hbA
 clear hbA
 generalize w.alloc (.cells #[.int .u8 1, .int .u8 f, .int .i64 0, .int .i64 0, .int .i64 0, .int .i64 0] 60) = w1 at hb00 hx ⊢
 obtain ⟨⟨x0, x1, x2, x3, x4, x5⟩, ⟨x6, x7, x8, x9, x10, x11⟩, x12⟩ := hx.get6
 go_upto_region 28 with (first
  | (go_at_call 60; refine (HC.out _).mono ?_; rintro e w2 ⟨rfl, hb2⟩; replace hb00 := bl_call hb00 (Nat.le_refl _) hb2; replace hx := hx.call hb2; clear x0 x1 x2 x3 x4 x5 x6 x7 x8 x9 x10 x11 x12; clear hb2; obtain ⟨⟨x0, x1, x2, x3, x4, x5⟩, ⟨x6, x7, x8, x9, x10, x11⟩, x12⟩ := hx.get6)
  | (go_at_call 32; refine (HO.out _).mono ?_; rintro e w3 ⟨rfl, hb3⟩; replace hb00 := bl_call hb00 (Nat.le_refl _) hb3; replace hx := hx.call hb3; clear x0 x1 x2 x3 x4 x5 x6 x7 x8 x9 x10 x11 x12; clear hb3; obtain ⟨⟨x0, x1, x2, x3, x4, x5⟩, ⟨x6, x7, x8, x9, x10, x11⟩, x12⟩ := hx.get6))
 have hsz : w.heap.size + 1 ≤ w3.heap.size := hx.lt
 clear HC HO
 clear x0 x1 x2 x3 x4 x5 x6 x7 x8 x9 x10 x11 x12
 go_wp2_with fail
 go_loopw [8, 9, 76] (fun v8 v9 i wr => ∃ (k : Nat) (A' : Option Addr) (cp s : Nat), k ≤ 1 ∧ i = .int .i64 k ∧ v8 = .slice A' k cp ∧ v9 = .int .i64 s ∧ s ≤ k ∧ Hid (∀ x, x ∈ ms.take k → x ≤ 1) ∧
   Vs wr w.heap.size [.int .u8 1, .int .u8 f, .int .i64 0, .int .i64 0, .int .i64 0, .int .i64 0] ∧ wr.ownsRow (w.heap.size + 1) 99 2 (.slice A' k cp) k (cellsE (esK ((ms.take k).map (nK f)))) ∧ Below w.heap.size w wr ∧ w.heap.size + 1 ≤ wr.heap.size) (fun _ _ i _ => 1 - (intOf i).toNat)
 case atStart => exact ⟨0, none, 0, 0, Nat.zero_le _, rfl, rfl, rfl, Nat.le_refl _, fun x h => (by simp at h), hx, World.ownsRow_nil _ _ _ _, hb00, hsz⟩
 case round =>
  clear hx hb00 hsz
  obtain ⟨k, A', cp, s, hk, rfl, rfl, rfl, hsk, hall, hx, hown, hbw, hsz⟩ := hrel
  obtain ⟨⟨x0, x1, x2, x3, x4, x5⟩, ⟨x6, x7, x8, x9, x10, x11⟩, x12⟩ := hx.get6
  by_cases hlt : k < 1
  ·obtain ⟨b, o, rfl, hB, hr⟩ := hA (by omega)
   obtain ⟨n, hn⟩ : ∃ n, ms[k]? = some n := ⟨_, List.getElem?_eq_getElem (by rw [HL.out]; exact hlt)⟩
   have d0 := (hr.below hbw hB) _ _ (natsI_at hn)
   have HN := Lib.hid hn
   clear hn hr hA
   by_cases hn1 : n ≤ 1
   ·have hn2 : n ≤ 18446744073709551615 := by omega
    have HA2 := Lib.hid (all_take HN.out hall.out hn1)
    have HT2 : Hid (esK ((ms.take (k + 1)).map (nK f)) = esK ((ms.take k).map (nK f)) ++ [eK (nK f n)]) := by
     show esK ((ms.take (k + 1)).map (nK f)) = _
     rw [List.take_add_one, HN.out, List.map_append, esK_append]
     rfl
    have hk1 : k + 1 ≤ 1099511627776 := by omega
    obtain ⟨y, hy⟩ : ∃ y, kL f (n : Int) 0 = y := ⟨_, rfl⟩
    have HOY : Hid (∀ wz, Calls Try.prog 63 #[.int .u8 f, .int .u64 n] wz (RetK y wz)) := by
     intro wz
     have h := HOF.out n hn2 wz
     rwa [hy] at h
    have HTY : Hid (esK ((ms.take (k + 1)).map (nK f)) = esK ((ms.take k).map (nK f)) ++ [eK y]) := by rw [← hy]; exact HT2.out
    clear HT2 hy
    go_wp2_with (first
     | (go_at_call 63; refine (HOY.out _).mono ?_; rintro e w6 ⟨rfl, hb6⟩; have hbw6 := bl_call hbw (Nat.le_refl _) hb6; have hx6 := hx.call hb6; have hown6 := own_call hown hb6; have hs6 := hb6.size; have HOW := Lib.hid (hown6.alloc (.cells #[.int .u64 (lo y), .int .u64 (hi y)] 99)); have hbase : w.heap.size + 1 ≤ (w6.alloc (.cells #[.int .u64 (lo y), .int .u64 (hi y)] 99)).heap.size := (by rw [World.size_alloc]; omega); have HR1 := Lib.hid (show 0 < 1 → ∃ b o, (some ⟨w6.heap.size, 0, none⟩ : Option Addr) = some ⟨b, o, none⟩ ∧ RowE (w6.alloc (.cells #[.int .u64 (lo y), .int .u64 (hi y)] 99)) b o [eK y] from fun _ => ⟨_, _, rfl, (BlkE.new w6 [eK y] _ rfl).rowE⟩); clear hown6)
     | (at_builtin; (refine wpList_append_E rfl (.tmp 86) (.tmp 91) rfl (w.heap.size + 1) _ k (esK ((ms.take k).map (nK f))) rfl HOW.out (some ⟨w6.heap.size, 0, none⟩) 1 1 [eK y] rfl rfl HR1.out hk1 hbase ?_; intro v2 w7 hown7 hg7 hat7; have hb7 : Below (w.heap.size + 1) (w6.alloc (.cells #[.int .u64 (lo y), .int .u64 (hi y)] 99)) w7 := (Below.refl _ _).grown hg7 hbase (fun q hq => (HOW.out.lt q hq).1); obtain ⟨g2, cap2, hv2⟩ := own_slice hown7; rw [hv2])))
    rw [hv2, ← HTY.out] at hown7
    have hx7 := (hx6.alloc (.cells #[.int .u64 (lo y), .int .u64 (hi y)] 99)).belowB hb7 (by omega)
    have hbw7 : Below w.heap.size w w7 := (hbw6.alloc (by omega) (.cells #[.int .u64 (lo y), .int .u64 (hi y)] 99)).trans (hb7.mono (by omega))
    have hz7 := hb7.size
    go_roundw
    case rel => exact ⟨k + 1, _, cap2, s + n, by omega, by go_num, rfl, by go_num, by omega, HA2.out, hx7, hown7, hbw7, by omega⟩
    case measure => simp [intOf]; omega
   ·have hbad : ¬ (∀ x, x ∈ ms → x ≤ 1) := fun h => hn1 (h n (List.mem_of_getElem? HN.out))
    have HBAD := Lib.hid hbad
    clear hbad
    go_wp2_with fail
    go_ret2
    exact .inr ⟨HBAD.out, rfl, hbw⟩
  ·obtain rfl : k = 1 := by omega
   rw [List.take_of_length_le (by rw [HL.out]; exact Nat.le_refl _)] at hall hown
   have HLE : Hid ((ms.map (nK f)).length = 1) := by show (ms.map (nK f)).length = 1; rw [List.length_map, HL.out]
   go_wp2_with fail
   go_ret2
   exact .inl ⟨hall.out, _, rfl, by rw [HLE.out]; exact own_mono hown (by omega), hbw⟩

omit hf in
theorem own_blk {w : World} {g n base : Nat} {xs : List E} (h : BlkE w g xs) (hn : xs.length = n) (hb : base ≤ g) (hm : n ≤ 1099511627776) : w.ownsRow base 99 2 (.slice (some ⟨g, 0, none⟩) n n) n (cellsE xs) := by
 have hl : (cellsE xs).length = n * 2 := by rw [length_cellsE, hn]
 exact ⟨hl, .inr ⟨g, n, _, rfl, hb, h, Nat.le_refl _, by unfold maxLen; omega, by simp [hl], by simp [← hl]⟩⟩

set_option maxHeartbeats 8000000 in
theorem circuit_Encode_hist (l c : Nat) (hy : (CK.hist l c).ok) (hcalls : ¬ 511 < (CK.hist l c).calls) (vm : Value) (n : Nat) (w : World) (hm : SlU w w.heap.size vm (natsI [n])) :
  Calls Try.prog 33 #[(CK.hist l c).val f, vm] w (RetEnc (okOne l n) ((encOne l n).map (nK f)) w) := by
 have HC : Hid (∀ wz, Calls Try.prog 60 #[(CK.hist l c).val f] wz (RetC 0 wz)) := by
  intro wz
  have h := circuit_Check_ok hf (.hist l c) hy wz
  rwa [CK.code_ok hcalls] at h
 have HO : Hid (∀ wz, Calls Try.prog 32 #[(CK.hist l c).val f] wz (RetI l wz)) := fun wz => circuit_Out f (.hist l c) hy wz
 rw [val_hist] at HC HO ⊢
 have hl64 : l ≤ 64 := hy.1.2
 have hl1 : 1 ≤ l := hy.1.1
 obtain ⟨⟨A, cc, rfl, hcc, hcm, hA⟩, hok⟩ := hm
 rw [natsI_length] at hcc hA ⊢
 obtain ⟨bb, o, rfl, hB, hr⟩ := hA (by simp)
 have hn64 : n ≤ 18446744073709551615 := by have := (hok (n : Int) (by simp [natsI])).2; omega
 have D0 : Hid (∀ wz, Below w.heap.size w wz → wz.cell? ⟨bb, o, none⟩ = some (.int .u64 n)) := fun wz hb => (hr.below hb hB) 0 n rfl
 have HONE := Lib.hid (fun wz => field_One hf wz)
 have hfb0 : (1 : Int) ≤ (f : Int) := by rcases hf.or with rfl | rfl <;> omega
 have hfb1 : (f : Int) ≤ 2 := by rcases hf.or with rfl | rfl <;> omega
 have hmk := make_elem l (by omega)
 have hwl : IntKind.u64.wrap (l : Int) = (l : Int) := IntWalk.u64_in _ (by omega)
 have hb00 : Below w.heap.size w w := Below.refl _ _
 clear hA hr hok hcalls hy
 rw [show ([n] : List Nat).length = 1 from rfl]
 go_enter Try.func33, Try.ntmps33
 go_upto_region 1 with fail
 have hx := Vs.new w [.int .u8 4, .int .u8 f, .int .i64 0, .int .i64 l, .int .i64 0, .int .i64 c] #[.int .u8 4, .int .u8 f, .int .i64 0, .int .i64 l, .int .i64 0, .int .i64 c] 60 rfl
 have hbA : Below w.heap.size w (w.alloc (.cells #[.int .u8 4, .int .u8 f, .int .i64 0, .int .i64 l, .int .i64 0, .int .i64 c] 60)) := by repeat (first | exact bA | with_reducible assumption | apply bB)
 replace hb00 := bl_call hb00 (Nat.le_refl _) hbA
 clear hbA
 generalize w.alloc (.cells #[.int .u8 4, .int .u8 f, .int .i64 0, .int .i64 l, .int .i64 0, .int .i64 c] 60) = w1 at hb00 hx ⊢
 obtain ⟨⟨x0, x1, x2, x3, x4, x5⟩, ⟨x6, x7, x8, x9, x10, x11⟩, x12⟩ := hx.get6
 go_upto_region 13 with (first
  | (go_at_call 60; refine (HC.out _).mono ?_; rintro e w2 ⟨rfl, hb2⟩; replace hb00 := bl_call hb00 (Nat.le_refl _) hb2; replace hx := hx.call hb2; clear x0 x1 x2 x3 x4 x5 x6 x7 x8 x9 x10 x11 x12; clear hb2; obtain ⟨⟨x0, x1, x2, x3, x4, x5⟩, ⟨x6, x7, x8, x9, x10, x11⟩, x12⟩ := hx.get6)
  | (go_at_call 32; refine (HO.out _).mono ?_; rintro e w3 ⟨rfl, hb3⟩; replace hb00 := bl_call hb00 (Nat.le_refl _) hb3; replace hx := hx.call hb3; clear x0 x1 x2 x3 x4 x5 x6 x7 x8 x9 x10 x11 x12; clear hb3; obtain ⟨⟨x0, x1, x2, x3, x4, x5⟩, ⟨x6, x7, x8, x9, x10, x11⟩, x12⟩ := hx.get6))
 have d0 := D0.out _ hb00
 have hbb : bb < w3.heap.size := Nat.lt_of_lt_of_le hB hb00.size
 by_cases hnl : n < l
 rotate_left
 ·have hd : decide ((l : Int) ≤ (n : Int)) = true := decide_eq_true (by omega)
  have HNG : Hid (¬ okOne l n) := hnl
  refine region_B (n := 6) (m := 7) (f := 6) (by kernel_rfl) (by kernel_rfl) rfl ?_
  refine WpH.vD 0 (some 32) ?_ rfl rfl (by kernel_rfl) (fun _ _ _ h => h) rfl (fun wz hwz => ?_) ?_
  rotate_left
  ·go_simp; try (with_reducible rfl)
  simp only [Zp, Zq, Zr, Zs]
  refine WpH.vD 1 (some 33) ?_ rfl rfl (by kernel_rfl) (fun _ _ _ h => h) rfl (fun wz hwz => ?_) ?_
  rotate_left
  ·go_simp; try (with_reducible rfl)
  simp only [Zp, Zq, Zr, Zs]
  refine WpH.vD 2 (some 34) ?_ rfl rfl (by kernel_rfl) (fun _ _ _ h => h) rfl (fun wz hwz => ?_) ?_
  rotate_left
  ·(obtain ⟨hcz, hfz⟩ := bcell hwz; go_simp; try (with_reducible rfl))
  simp only [Zp, Zq, Zr, Zs]
  refine WpH.vD 3 (some 35) ?_ rfl rfl (by kernel_rfl) (fun _ _ _ h => h) rfl (fun wz hwz => ?_) ?_
  rotate_left
  ·go_simp; try (with_reducible rfl)
  simp only [Zp, Zq, Zr, Zs]
  refine WpH.vD 4 (some 36) ?_ rfl rfl (by kernel_rfl) (fun _ _ _ h => h) rfl (fun wz hwz => ?_) ?_
  rotate_left
  ·(obtain ⟨hcz, hfz⟩ := bcell hwz; go_simp; try (with_reducible rfl))
  simp only [Zp, Zq, Zr, Zs]
  refine WpH.vD 5 (some 37) ?_ rfl rfl (by kernel_rfl) (fun _ _ _ h => h) rfl (fun wz hwz => ?_) ?_
  rotate_left
  ·go_simp; try (with_reducible rfl)
  simp only [Zp, Zq, Zr, Zs]
  refine WpH.doneB (by kernel_rfl) (fun w4 hw4 => ?_)
  (try simp only [List.drop_succ_cons]); (try simp only [List.drop_zero]); (try simp only [Nat.reduceSub]); (try simp only [List.take_succ_cons]); (try simp only [List.take_zero])
  replace hb00 := bl_call hb00 (Nat.le_refl _) hw4
  replace hx := hx.call hw4
  go_wp2_with fail
  go_ret2
  exact .inr ⟨HNG.out, rfl, hb00⟩
 have hd : decide ((l : Int) ≤ (n : Int)) = false := decide_eq_false (by omega)
 have HNL : Hid (okOne l n) := hnl
 refine region_B (n := 6) (m := 7) (f := 6) (by kernel_rfl) (by kernel_rfl) rfl ?_
 refine WpH.vD 0 (some 32) ?_ rfl rfl (by kernel_rfl) (fun _ _ _ h => h) rfl (fun wz hwz => ?_) ?_
 rotate_left
 ·go_simp; try (with_reducible rfl)
 simp only [Zp, Zq, Zr, Zs]
 refine WpH.vD 1 (some 33) ?_ rfl rfl (by kernel_rfl) (fun _ _ _ h => h) rfl (fun wz hwz => ?_) ?_
 rotate_left
 ·go_simp; try (with_reducible rfl)
 simp only [Zp, Zq, Zr, Zs]
 refine WpH.vD 2 (some 34) ?_ rfl rfl (by kernel_rfl) (fun _ _ _ h => h) rfl (fun wz hwz => ?_) ?_
 rotate_left
 ·(obtain ⟨hcz, hfz⟩ := bcell hwz; go_simp; try (with_reducible rfl))
 simp only [Zp, Zq, Zr, Zs]
 refine WpH.vD 3 (some 35) ?_ rfl rfl (by kernel_rfl) (fun _ _ _ h => h) rfl (fun wz hwz => ?_) ?_
 rotate_left
 ·go_simp; try (with_reducible rfl)
 simp only [Zp, Zq, Zr, Zs]
 refine WpH.vD 4 (some 36) ?_ rfl rfl (by kernel_rfl) (fun _ _ _ h => h) rfl (fun wz hwz => ?_) ?_
 rotate_left
 ·(obtain ⟨hcz, hfz⟩ := bcell hwz; go_simp; try (with_reducible rfl))
 simp only [Zp, Zq, Zr, Zs]
 refine WpH.vD 5 (some 37) ?_ rfl rfl (by kernel_rfl) (fun _ _ _ h => h) rfl (fun wz hwz => ?_) ?_
 rotate_left
 ·go_simp; try (with_reducible rfl)
 simp only [Zp, Zq, Zr, Zs]
 refine WpH.doneB (by kernel_rfl) (fun w4 hw4 => ?_)
 (try simp only [List.drop_succ_cons]); (try simp only [List.drop_zero]); (try simp only [Nat.reduceSub]); (try simp only [List.take_succ_cons]); (try simp only [List.take_zero])
 clear x0 x1 x2 x3 x4 x5 x6 x7 x8 x9 x10 x11 x12
 replace hb00 := bl_call hb00 (Nat.le_refl _) hw4
 replace hx := hx.call hw4
 clear hw4 d0 hbb
 obtain ⟨⟨x0, x1, x2, x3, x4, x5⟩, ⟨x6, x7, x8, x9, x10, x11⟩, x12⟩ := hx.get6
 go_upto_region 16 with fail
 clear x0 x1 x2 x3 x4 x5 x6 x7 x8 x9 x10 x11 x12
 have hBk : BlkE (w4.alloc (.cells (cellsE (List.replicate l (0, 0))).toArray 99)) w4.heap.size (List.replicate l (0, 0)) := heap_alloc_new w4 _
 have hbA : Below w4.heap.size w4 (w4.alloc (.cells (cellsE (List.replicate l (0, 0))).toArray 99)) := by repeat (first | exact bA | with_reducible assumption | apply bB | (refine bC ?_ (by dsimp only; omega)) | apply bD | apply bE | (refine bF ?_ (by assumption)))
 have hgx : w.heap.size < w4.heap.size := hx.lt
 replace hb00 := bl_call hb00 (Nat.le_refl _) hbA
 replace hx := hx.call hbA
 clear hbA hmk
 generalize w4.alloc (.cells (cellsE (List.replicate l (0, 0))).toArray 99) = w5 at hBk hx hb00 ⊢
 generalize w4.heap.size = g at *
 have d0 := D0.out _ hb00
 have hbb : bb < w5.heap.size := Nat.lt_of_lt_of_le hB hb00.size
 have hgl := hBk.lt
 have hni : (n : Int) < (l : Int) := by omega
 obtain ⟨⟨x0, x1, x2, x3, x4, x5⟩, ⟨x6, x7, x8, x9, x10, x11⟩, x12⟩ := hx.get6
 refine region_B (n := 8) (m := 9) (f := 8) (by kernel_rfl) (by kernel_rfl) rfl ?_
 refine WpH.vD 0 (some 42) ?_ rfl rfl (by kernel_rfl) (fun _ _ _ h => h) rfl (fun wz hwz => ?_) ?_
 rotate_left
 ·go_simp; try (with_reducible rfl)
 simp only [Zp, Zq, Zr, Zs]
 refine WpH.vD 1 (some 43) ?_ rfl rfl (by kernel_rfl) (fun _ _ _ h => h) rfl (fun wz hwz => ?_) ?_
 rotate_left
 ·go_simp; try (with_reducible rfl)
 simp only [Zp, Zq, Zr, Zs]
 refine WpH.vD 2 (some 44) ?_ rfl rfl (by kernel_rfl) (fun _ _ _ h => h) rfl (fun wz hwz => ?_) ?_
 rotate_left
 ·go_simp; try (with_reducible rfl)
 simp only [Zp, Zq, Zr, Zs]
 refine WpH.vD 3 (some 45) ?_ rfl rfl (by kernel_rfl) (fun _ _ _ h => h) rfl (fun wz hwz => ?_) ?_
 rotate_left
 ·(obtain ⟨hcz, hfz⟩ := bcell hwz; go_simp; try (with_reducible rfl))
 simp only [Zp, Zq, Zr, Zs]
 refine WpH.vD 4 (some 46) ?_ rfl rfl (by kernel_rfl) (fun _ _ _ h => h) rfl (fun wz hwz => ?_) ?_
 rotate_left
 ·go_simp; try (with_reducible rfl)
 simp only [Zp, Zq, Zr, Zs]
 refine WpH.vD 5 (some 47) ?_ rfl rfl (by kernel_rfl) (fun _ _ _ h => h) rfl (fun wz hwz => ?_) ?_
 rotate_left
 ·(obtain ⟨hcz, hfz⟩ := bcell hwz; go_simp; try (with_reducible rfl))
 simp only [Zp, Zq, Zr, Zs]
 refine WpH.takeD 6 (some 48) rfl rfl (by kernel_rfl) (fun _ _ _ h => h) (.call rfl (fun wz hwz => HONE.out wz) (fun wz hwz => ?_)) ?_
 ·go_simp; try (with_reducible rfl)
 simp only [Zp, Zq, Zr, Zs]
 refine WpH.vD 7 (some 49) ?_ rfl rfl (by kernel_rfl) (fun _ _ _ h => h) rfl (fun wz hwz => ?_) ?_
 rotate_left
 ·go_simp; try (with_reducible rfl)
 simp only [Zp, Zq, Zr, Zs]
 refine WpH.doneB (by kernel_rfl) (fun w6 hw6 => ?_)
 (try simp only [List.drop_succ_cons]); (try simp only [List.drop_zero]); (try simp only [Nat.reduceSub]); (try simp only [List.take_succ_cons]); (try simp only [List.take_zero])
 clear x0 x1 x2 x3 x4 x5 x6 x7 x8 x9 x10 x11 x12
 clear d0 hbb hgl
 replace hBk := hBk.call hw6
 replace hb00 := bl_call hb00 (Nat.le_refl _) hw6
 replace hx := hx.call hw6
 clear hw6
 have hzn : (List.replicate l ((0, 0) : E))[n]? = some (0, 0) := by rw [List.getElem?_replicate, if_pos hnl]
 obtain ⟨z0, z1⟩ := hBk.row n _ hzn
 have fz0 := hBk.frozen (n * 2)
 have fz1 := hBk.frozen (n * 2 + 1)
 have HL : Hid ((List.replicate l ((0, 0) : E)).set n (lo (1 : Fin (Pm f)), hi (1 : Fin (Pm f))) = esK ((encOne l n).map (nK f))) := by
  show (List.replicate l ((0, 0) : E)).set n (eK (1 : Fin (Pm f))) = esK ((encOne l n).map (nK f))
  unfold encOne esK
  rw [List.map_set, List.map_replicate, List.map_set, List.map_replicate, nK_zero, nK_one, eK_zero]
 have HB2 := Lib.hid (hBk.set n (lo (1 : Fin (Pm f))) (hi (1 : Fin (Pm f))))
 clear hBk hzn
 go_wp2_with fail
 go_ret2
 have hB2 := HB2.out
 rw [HL.out] at hB2
 have hlen : ((encOne l n).map (nK f)).length = l := by rw [List.length_map, encOne_length]
 have hwg : w.heap.size ≤ g := by omega
 refine .inl ⟨HNL.out, _, rfl, ?_, bl_set (p := ⟨g, n * 2 + 1, none⟩) (bl_set (p := ⟨g, n * 2, none⟩) hb00 hwg _) hwg _⟩
 rw [hlen]
 exact own_blk hB2 (by rw [esK_length, hlen]) (by omega) (by omega)

def CK.meas : CK → Nat
 | hist _ _ => 1
 | y => y.nout
def okEnc (y : CK) (ms : List Nat) : Prop :=
 match y with
 | .count => ∀ x, x ∈ ms → x ≤ 1
 | .sum b => okNums b ms
 | .vec b _ _ => okNums b ms
 | .hist l _ => okOne l (ms.headD 0)
 | .multi _ m _ => okMulti m ms
def encL (y : CK) (ms : List Nat) : List Nat :=
 match y with
 | .count => ms
 | .sum b => encNums b ms
 | .vec b _ _ => encNums b ms
 | .hist l _ => encOne l (ms.headD 0)
 | .multi _ m _ => encMulti m ms

theorem circuit_Encode (y : CK) (hy : y.ok) (hcalls : ¬ 511 < y.calls) (vm : Value) (ms : List Nat) (w : World) (hm : SlU w w.heap.size vm (natsI ms)) (hl : ms.length = y.meas) :
  Calls Try.prog 33 #[y.val f, vm] w (RetEnc (okEnc y ms) ((encL y ms).map (nK f)) w) := by
 have HC : Hid (∀ wz, Calls Try.prog 60 #[y.val f] wz (RetC 0 wz)) := by
  intro wz
  have h := circuit_Check_ok hf y hy wz
  rwa [CK.code_ok hcalls] at h
 have HO := Lib.hid (fun wz => circuit_Out f y hy wz)
 cases y with
 | count => exact circuit_Encode_count hf hcalls vm ms w hm hl
 | sum b => exact circuit_Encode_nums2 hf b 1 0 0 0 hy.1 hy.2 (by omega) vm ms w hm hl HC HO
 | vec b n c => exact circuit_Encode_nums3 hf b n 0 c n hy.1.1 hy.1.2 hy.2.1.2 vm ms w hm hl HC HO
 | hist l c =>
  match ms, hl with
  | [n], _ => exact circuit_Encode_hist hf l c hy hcalls vm n w hm
 | multi l m c => exact circuit_Encode_multi hf l m c hy hcalls vm ms w hm hl

end

end Go.Proofs.Ytbakkmfjamcbfaa
