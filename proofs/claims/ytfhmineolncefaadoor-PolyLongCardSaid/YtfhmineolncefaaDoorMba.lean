/-
  WALK: tallymanlaw05.PolyLong.
-/
import Derived.Test.YtfhmineolncefaaDoorMaw
import Derived.Test.YtfhmineolncefaaDoorMat
import Derived.Test.YtfhmineolncefaaDoorMax
import Derived.Test.YtfhmineolncefaaDoorMao
import Derived.Test.YtfhmineolncefaaDoorMag
namespace Go.Proofs.YtfhmineolncefaaDoor
open Go.RowKit Fm
set_option linter.unusedVariables false
set_option maxRecDepth 100000

section
variable {f : Nat}
theorem trim_top (l : KL f) (h : l.getD (l.length - 1) 0 ≠ 0) : trim l = l := by
  have h1 : l.length - 1 < (trim l).length := Nat.lt_of_not_le fun hle => h (by rw [← trim_getD, Fm.getD_end hle])
  have h2 := trim_take l
  rw [List.take_of_length_le (by omega)] at h2
  exact h2
theorem pmul_top {p q : KL f} {M N : Nat} (hp : p.length = M) (hq : q.length = N) (hM : 0 < M) (hN : 0 < N) (hp1 : p.getD (M - 1) 0 ≠ 0) (hq1 : q.getD (N - 1) 0 ≠ 0) : trim p = p ∧ trim q = q ∧ (pmul p q).length + 1 = M + N := by
  have h1 : trim p = p := trim_top p (by rw [hp]; exact hp1)
  have h2 : trim q = q := trim_top q (by rw [hq]; exact hq1)
  refine ⟨h1, h2, ?_⟩
  unfold pmul
  rw [prodL_trim h1 h2 (List.ne_nil_of_length_pos (by omega)) (List.ne_nil_of_length_pos (by omega)), prodL_length]
  omega

variable (hf : IsF f)
include hf
theorem poly_Mul_many (va vb : Value) (a b : KL f) (w : World) (ha : SlK w w.heap.size va a) (hb : SlK w w.heap.size vb b) (hal : a.length ≤ 100000) (hbl : b.length ≤ 100000) (ha0 : trim a ≠ []) (hb0 : trim b ≠ []) (hn : 1025 < (trim a).length + (trim b).length) :
    Calls Tryd.prog 29 #[.int .u8 f, va, vb] w (RetNil 5 w) := by
  have HVA := Lib.hid (fun wz => field_ValidT hf wz)
  have HTA : Hid (Calls Tryd.prog 40 #[va] w (RetSq (trim a) w)) := (poly_Trim va a w ha (by omega)).mono fun _ _ h => h.sq
  have HTB : Hid (∀ wz, SlK wz wz.heap.size vb b → Calls Tryd.prog 40 #[vb] wz (RetSq (trim b) wz)) := fun wz h => (poly_Trim vb b wz h (by omega)).mono fun _ _ h => h.sq
  have HB0 := Lib.hid hb
  have hta := trim_le a
  have htb := trim_le b
  have hp1 := List.length_pos_iff.2 ha0
  have hp2 := List.length_pos_iff.2 hb0
  obtain ⟨A, ca, rfl, _, _, _⟩ := ha
  obtain ⟨B, cb, rfl, _, _, _⟩ := hb
  clear ha0 hb0
  generalize trim a = ta at *
  generalize trim b = tb at *
  obtain ⟨la, hla⟩ : ∃ z, ta.length = z := ⟨_, rfl⟩
  obtain ⟨lb, hlb⟩ : ∃ z, tb.length = z := ⟨_, rfl⟩
  have HLA := Lib.hid hla
  have HLB := Lib.hid hlb
  rw [hla] at hta hp1 hn
  rw [hlb] at htb hp2 hn
  clear hla hlb
  have t3 : ((la : Int) == 0) = false := by rw [beq_eq_false_iff_ne]; omega
  have t4 : ((lb : Int) == 0) = false := by rw [beq_eq_false_iff_ne]; omega
  obtain ⟨n, hn1⟩ : ∃ n, la + lb - 1 = n := ⟨_, rfl⟩
  have hni : (la : Int) + (lb : Int) - 1 = (n : Int) := by omega
  have hn4 : 1024 < n := by omega
  have hn9 : n ≤ 300000 := by omega
  have t1 : ¬ (la = 0) := by omega
  have t2 : ¬ (lb = 0) := by omega
  clear hn1
  have hb00 : Below w.heap.size w w := Below.refl _ _
  go_enter Tryd.func29, Tryd.ntmps29
  go_wp2_with fail
  refine (HVA.out _).mono ?_
  rintro e w' ⟨rfl, rfl⟩
  go_wp2_with fail
  refine HTA.out.mono ?_
  rintro e w1 ⟨⟨xA, xc⟩, rfl, hx, hb1⟩
  dsimp only at hx ⊢
  replace hb00 := bl_call hb00 (Nat.le_refl _) hb1
  clear hb1
  go_wp2_with fail
  refine (HTB.out _ (HB0.out.later hb00)).mono ?_
  rintro e w2 ⟨⟨yA, yc⟩, rfl, hy, hb2⟩
  dsimp only at hy ⊢
  replace hb00 := bl_call hb00 (Nat.le_refl _) hb2
  clear hb2 HTA HTB HB0 HVA hx hy
  rw [HLA.out, HLB.out]
  go_wp2_with fail
  go_ret2
  exact ⟨rfl, hb00⟩
end

theorem lohi2b : lo ((1 : Fin (Pm 2)) + 1) = 2 ∧ hi ((1 : Fin (Pm 2)) + 1) = 0 := vK_of (by decide +kernel) (by omega) (by omega)
set_option maxHeartbeats 16000000 in
theorem walk_PolyLong (n : Int) (vl : Value) (i k : Int) (l : List E) (x : E) (w : World) (hT : TabW w) (hn : 0 ≤ n ∧ n ≤ 255) (hl : SlE w w.heap.size vl l) (hi0 : 0 ≤ i ∧ i ≤ 65535) (hk0 : 0 ≤ k ∧ k ≤ 65535) (hx : okE x) :
    Calls Tryd.prog 6 #[.int .u8 n, vl, .int .u16 i, .int .u16 k, .agg #[.int .u64 x.1, .int .u64 x.2]] w fun e w' => e = .returned (.bool true) ∧ Below w.heap.size w w' := by
  obtain ⟨f, hf, hF⟩ := law03_FN n hn.1 hn.2
  obtain ⟨x0, x1⟩ := x
  obtain ⟨hx0, hx1, hx2, hx3⟩ := hx
  dsimp only at hx0 hx1 hx2 hx3 ⊢
  have heq := eql_elem
  have HF := Lib.hid hF
  have HAW := Lib.hid (fun wz h => law05_Awake wz h)
  have htl := hT.lt
  have hfb0 : (1 : Int) ≤ (f : Int) := by rcases hf.or with rfl | rfl <;> omega
  have hfb1 : (f : Int) ≤ 2 := by rcases hf.or with rfl | rfl <;> omega
  have hwF : IntKind.i64.wrap (f : Int) = (f : Int) := IntWalk.i64_in _ (by omega)
  have HOX := Lib.hid (fun wz => ref_OfL hf x0 x1 wz hx0 hx1 hx2 hx3)
  have HOF := Lib.hid (fun a0 a1 wz h0 h1 k0 k1 => ref_OfL hf a0 a1 wz h0 h1 k0 k1)
  obtain ⟨mm, hM1, hMi⟩ : ∃ m : Nat, m ≤ 599 ∧ i.tmod 600 = (m : Int) := ⟨(i % 600).toNat, by omega, by rw [Int.tmod_eq_emod_of_nonneg hi0.1]; omega⟩
  obtain ⟨nn9, hN1, hNi⟩ : ∃ m : Nat, m ≤ 599 ∧ k.tmod 600 = (m : Int) := ⟨(k % 600).toNat, by omega, by rw [Int.tmod_eq_emod_of_nonneg hk0.1]; omega⟩
  have hMi2 : i % 600 = (mm : Int) := by rw [← hMi, Int.tmod_eq_emod_of_nonneg hi0.1]
  have hNi2 : k % 600 = (nn9 : Int) := by rw [← hNi, Int.tmod_eq_emod_of_nonneg hk0.1]
  obtain ⟨M, hM⟩ : ∃ M, mm + 1 = M := ⟨_, rfl⟩
  obtain ⟨N, hN⟩ : ∃ N, nn9 + 1 = N := ⟨_, rfl⟩
  have hMs : (1 : Int) + (mm : Int) = (M : Int) := by omega
  have hNs : (1 : Int) + (nn9 : Int) = (N : Int) := by omega
  have hMd : (M : Int) - 1 = (mm : Int) := by omega
  have hNd : (N : Int) - 1 = (nn9 : Int) := by omega
  have HM := Lib.hid hM
  have HN := Lib.hid hN
  have hM6 : M ≤ 600 := by omega
  have hN6 : N ≤ 600 := by omega
  have hmM : mm < M := by omega
  have hnN : nn9 < N := by omega
  have hwi : IntKind.i64.wrap i = i := IntWalk.i64_in _ (by omega)
  have hwk : IntKind.i64.wrap k = k := IntWalk.i64_in _ (by omega)
  have hwM : IntKind.i64.wrap (M : Int) = (M : Int) := IntWalk.i64_in _ (by omega)
  have hwN : IntKind.i64.wrap (N : Int) = (N : Int) := IntWalk.i64_in _ (by omega)
  have hwM1 : IntKind.i64.wrap (mm : Int) = (mm : Int) := IntWalk.i64_in _ (by omega)
  have hwN1 : IntKind.i64.wrap (nn9 : Int) = (nn9 : Int) := IntWalk.i64_in _ (by omega)
  clear hM hN
  have hmkM := make_elem M (by omega)
  have hmkN := make_elem N (by omega)
  have HL := Lib.hid hl
  obtain ⟨⟨A1, c1, rfl, _, _, hA⟩, hok⟩ := hl
  have HA := Lib.hid hA
  have HOK := Lib.hid hok
  clear hA hok
  have hb00 : Below w.heap.size w w := Below.refl _ _
  go_enter Tryd.func6, Tryd.ntmps6
  go_upto_region 1 with fail
  have q0 := V2.new w (.int .u64 x0) (.int .u64 x1) 28
  have hbA : Below w.heap.size w (w.alloc (.cells #[.int .u64 x0, .int .u64 x1] 28)) := by repeat (first | exact Below.refl _ _ | with_reducible assumption | (refine bl_alloc ?_ (Nat.le_refl _) _))
  replace hb00 := bl_call hb00 (Nat.le_refl _) hbA
  replace hT := hT.call hbA
  clear hbA
  generalize w.alloc (.cells #[.int .u64 x0, .int .u64 x1] 28) = w1 at hb00 hT q0 ⊢
  go_wp2_with fail
  refine (HAW.out _ hT).mono ?_
  rintro e w2 ⟨rfl, hb2⟩
  replace hb00 := bl_call hb00 (Nat.le_refl _) hb2
  replace hT := hT.call hb2
  replace q0 := q0.call hb2
  clear hb2
  go_upto_region 4 with (first
    | (go_at_call 16; refine (HF.out _).mono ?_; rintro e wq ⟨rfl, rfl⟩))
  obtain ⟨q00, q01, q02, q03, q04⟩ := V2.mk q0.c0 q0.c1 q0.f0 q0.f1 q0.lt
  go_wp2_with fail
  refine (HOX.out _).mono ?_
  rintro e w5 ⟨rfl, hb5⟩
  clear q00 q01 q02 q03 q04
  replace hb00 := bl_call hb00 (Nat.le_refl _) hb5
  replace hT := hT.call hb5
  replace q0 := q0.call hb5
  clear hb5
  obtain ⟨y, hy⟩ : ∃ y, kL f x0 x1 = y := ⟨_, rfl⟩
  rw [hy]
  clear hy
  obtain ⟨q00, q01, q02, q03, q04⟩ := V2.mk q0.c0 q0.c1 q0.f0 q0.f1 q0.lt
  go_upto_region 5 with fail
  clear q00 q01 q02 q03 q04
  replace hT := (hT.st (p := ⟨w.heap.size, 0, none⟩) (by dsimp only; omega) (.int .u64 (lo y))).st (p := ⟨w.heap.size, 1, none⟩) (by dsimp only; omega) (.int .u64 (hi y))
  replace hb00 := bl_st hb00 (b := w.heap.size) (Nat.le_refl _) (.int .u64 (lo y)) (.int .u64 (hi y))
  replace q0 : V2 ((w5.setCell ⟨w.heap.size, 0, none⟩ (.int .u64 (lo y))).setCell ⟨w.heap.size, 1, none⟩ (.int .u64 (hi y))) w.heap.size (.int .u64 (lo y)) (.int .u64 (hi y)) := V2.set q0 _ _
  generalize (w5.setCell ⟨w.heap.size, 0, none⟩ (.int .u64 (lo y))).setCell ⟨w.heap.size, 1, none⟩ (.int .u64 (hi y)) = w6 at hT hb00 q0 ⊢
  apply region_G2 (n := 11) (m := 12) (f := 11) ((fun ga gb wz => Below w6.heap.size w6 wz ∧ (w6.heap.size ≤ ga ∧ RwK wz ga (List.replicate M (0 : Fin (Pm f)))) ∧ (w6.heap.size ≤ gb ∧ RwK wz gb (List.replicate N (0 : Fin (Pm f)))) ∧ ga ≠ gb))
  case hm => kernel_rfl
  case hB => kernel_rfl
  case hf => rfl
  case' h =>
    refine WpG.takeD 0 (some 29) (v := ?_) rfl rfl (by kernel_rfl) (fun _ _ _ h => h) (.val rfl (fun wz hwz => ?_)) ?_
    rotate_left
    · go_simp; try (with_reducible rfl)
    (simp only [Act.put]); (try simp only [List.setIfInBounds_toArray]); (try simp only [List.set_cons_succ]); (try simp only [List.set_cons_zero])
    refine WpG.takeD 1 (some 30) (v := ?_) rfl rfl (by kernel_rfl) (fun _ _ _ h => h) (.val rfl (fun wz hwz => ?_)) ?_
    rotate_left
    · go_simp; try (with_reducible rfl)
    (simp only [Act.put]); (try simp only [List.setIfInBounds_toArray]); (try simp only [List.set_cons_succ]); (try simp only [List.set_cons_zero])
    refine WpG.takeD 2 (some 31) (v := ?_) rfl rfl (by kernel_rfl) (fun _ _ _ h => h) (.val rfl (fun wz hwz => ?_)) ?_
    rotate_left
    · go_simp; try (with_reducible rfl)
    (simp only [Act.put]); (try simp only [List.setIfInBounds_toArray]); (try simp only [List.set_cons_succ]); (try simp only [List.set_cons_zero])
    refine WpG.takeD 3 (some 32) (v := ?_) rfl rfl (by kernel_rfl) (fun _ _ _ h => h) (.val rfl (fun wz hwz => ?_)) ?_
    rotate_left
    · go_simp; try (with_reducible rfl)
    (simp only [Act.put]); (try simp only [List.setIfInBounds_toArray]); (try simp only [List.set_cons_succ]); (try simp only [List.set_cons_zero])
    refine WpG.takeD 5 (some 34) (v := ?_) rfl rfl (by kernel_rfl) (fun _ _ _ h => h) (.val rfl (fun wz hwz => ?_)) ?_
    rotate_left
    · go_simp; try (with_reducible rfl)
    (simp only [Act.put]); (try simp only [List.setIfInBounds_toArray]); (try simp only [List.set_cons_succ]); (try simp only [List.set_cons_zero])
    refine WpG.takeD 6 (some 35) (v := ?_) rfl rfl (by kernel_rfl) (fun _ _ _ h => h) (.val rfl (fun wz hwz => ?_)) ?_
    rotate_left
    · go_simp; try (with_reducible rfl)
    (simp only [Act.put]); (try simp only [List.setIfInBounds_toArray]); (try simp only [List.set_cons_succ]); (try simp only [List.set_cons_zero])
    refine WpG.takeD 7 (some 36) (v := ?_) rfl rfl (by kernel_rfl) (fun _ _ _ h => h) (.val rfl (fun wz hwz => ?_)) ?_
    rotate_left
    · go_simp; try (with_reducible rfl)
    (simp only [Act.put]); (try simp only [List.setIfInBounds_toArray]); (try simp only [List.set_cons_succ]); (try simp only [List.set_cons_zero])
    refine WpG.takeD 8 (some 37) (v := ?_) rfl rfl (by kernel_rfl) (fun _ _ _ h => h) (.val rfl (fun wz hwz => ?_)) ?_
    rotate_left
    · go_simp; try (with_reducible rfl)
    (simp only [Act.put]); (try simp only [List.setIfInBounds_toArray]); (try simp only [List.set_cons_succ]); (try simp only [List.set_cons_zero])
    refine WpG.twoD 4 9 (some 33) (some 38) rfl rfl rfl rfl (by kernel_rfl) (fun b : Nat => Value.slice (some ⟨b, 0, none⟩) M M) (fun b wz => w6.heap.size ≤ b ∧ RwK wz b (List.replicate M (0 : Fin (Pm f)))) (fun _ _ _ h hb => ⟨h.1, h.2.call hb⟩) (Fresh.slice M M (cellsE (List.replicate M (0, 0))) 28 rfl (fun wz hwz => (hwz).size) (fun wz hwz => by go_simp; try (with_reducible rfl)) (R := fun b wz => RwK wz b (List.replicate M (0 : Fin (Pm f)))) (fun wz hwz => RwK.new wz _ _ (by unfold esK; rw [List.map_replicate, eK_zero]) _)) (fun b : Nat => Value.slice (some ⟨b, 0, none⟩) N N) (fun b wz => w6.heap.size ≤ b ∧ RwK wz b (List.replicate N (0 : Fin (Pm f)))) (fun _ _ _ h hb => ⟨h.1, h.2.call hb⟩) (Fresh.slice N N (cellsE (List.replicate N (0, 0))) 28 rfl (fun wz hwz => (hwz).size) (fun wz hwz => by go_simp; try (with_reducible rfl)) (R := fun b wz => RwK wz b (List.replicate N (0 : Fin (Pm f)))) (fun wz hwz => RwK.new wz _ _ (by unfold esK; rw [List.map_replicate, eK_zero]) _)) (fun ga w0ga hw0ga hR0ga => ?rg5_1a) (fun gb w0gb hw0gb hR0gb => ?rg5_1b)
    case' rg5_1a =>
      (simp only [Act.put]); (try simp only [List.setIfInBounds_toArray]); (try simp only [List.set_cons_succ]); (try simp only [List.set_cons_zero])
      refine WpG.takeD 10 (some 13) (v := ?_) rfl rfl (by kernel_rfl) (fun _ _ _ h => h) (.val rfl (fun wz hwz => ?_)) ?_
      rotate_left
      · go_simp; try (with_reducible rfl)
      (simp only [Act.put]); (try simp only [List.setIfInBounds_toArray]); (try simp only [List.set_cons_succ]); (try simp only [List.set_cons_zero])
      refine WpG.oneD 9 (some 38) rfl rfl (by kernel_rfl) (fun b : Nat => Value.slice (some ⟨b, 0, none⟩) N N) (fun b wz => ga + 1 ≤ b ∧ RwK wz b (List.replicate N (0 : Fin (Pm f)))) (fun _ _ _ h hb => ⟨h.1, h.2.call hb⟩) (Fresh.slice N N (cellsE (List.replicate N (0, 0))) 28 rfl (fun wz hwz => (hwz.2).2.lt) (fun wz hwz => by go_simp; try (with_reducible rfl)) (R := fun b wz => RwK wz b (List.replicate N (0 : Fin (Pm f)))) (fun wz hwz => RwK.new wz _ _ (by unfold esK; rw [List.map_replicate, eK_zero]) _)) (fun gb w0gb hw0gb hR0gb => ?_)
      (simp only [Act.put]); (try simp only [List.setIfInBounds_toArray]); (try simp only [List.set_cons_succ]); (try simp only [List.set_cons_zero])
      refine WpG.done (by kernel_rfl) (fun w7 hS => ⟨ga, gb, rfl, ?_⟩)
      · (obtain ⟨⟨h1, h2, h2'⟩, h3, h3'⟩ := hS; first | exact ⟨h1, ⟨h2, h2'⟩, ⟨by omega, h3'⟩, by omega⟩ | exact ⟨h1, ⟨by omega, h3'⟩, ⟨h2, h2'⟩, by omega⟩)
    case' rg5_1b =>
      (simp only [Act.put]); (try simp only [List.setIfInBounds_toArray]); (try simp only [List.set_cons_succ]); (try simp only [List.set_cons_zero])
      refine WpG.oneD 4 (some 33) rfl rfl (by kernel_rfl) (fun b : Nat => Value.slice (some ⟨b, 0, none⟩) M M) (fun b wz => gb + 1 ≤ b ∧ RwK wz b (List.replicate M (0 : Fin (Pm f)))) (fun _ _ _ h hb => ⟨h.1, h.2.call hb⟩) (Fresh.slice M M (cellsE (List.replicate M (0, 0))) 28 rfl (fun wz hwz => (hwz.2).2.lt) (fun wz hwz => by go_simp; try (with_reducible rfl)) (R := fun b wz => RwK wz b (List.replicate M (0 : Fin (Pm f)))) (fun wz hwz => RwK.new wz _ _ (by unfold esK; rw [List.map_replicate, eK_zero]) _)) (fun ga w0ga hw0ga hR0ga => ?_)
      (simp only [Act.put]); (try simp only [List.setIfInBounds_toArray]); (try simp only [List.set_cons_succ]); (try simp only [List.set_cons_zero])
      refine WpG.takeD 10 (some 13) (v := ?_) rfl rfl (by kernel_rfl) (fun _ _ _ h => h) (.val rfl (fun wz hwz => ?_)) ?_
      rotate_left
      · go_simp; try (with_reducible rfl)
      (simp only [Act.put]); (try simp only [List.setIfInBounds_toArray]); (try simp only [List.set_cons_succ]); (try simp only [List.set_cons_zero])
      refine WpG.done (by kernel_rfl) (fun w7 hS => ⟨ga, gb, rfl, ?_⟩)
      · (obtain ⟨⟨h1, h2, h2'⟩, h3, h3'⟩ := hS; first | exact ⟨h1, ⟨h2, h2'⟩, ⟨by omega, h3'⟩, by omega⟩ | exact ⟨h1, ⟨by omega, h3'⟩, ⟨h2, h2'⟩, by omega⟩)
  intro ga gb w7 hS
  (try simp only [List.drop_succ_cons]); (try simp only [List.drop_zero]); (try simp only [Nat.reduceSub]); (try simp only [List.take_succ_cons]); (try simp only [List.take_zero])
  obtain ⟨hb7, ⟨hga, ra⟩, ⟨hgb, rb⟩, hgab⟩ := hS
  have HX := Lib.hid q0
  have HTB := Lib.hid hT
  have hwga : w.heap.size ≤ ga := Nat.le_trans hb00.size hga
  have hwgb : w.heap.size ≤ gb := Nat.le_trans hb00.size hgb
  have hgba : gb ≠ ga := fun e => hgab e.symm
  clear hmkM hmkN q0 hT htl HAW HF HOX
  go_wp2_with fail
  go_loopw [41] (fun jv wr => ∃ (j : Nat) (P : KL f), j ≤ M ∧ jv = .int .i64 j ∧ Hid (P.length = M) ∧ RwK wr ga P ∧ RwK wr gb (List.replicate N 0) ∧ Below w6.heap.size w6 wr) (fun jv _ => M - (intOf jv).toNat)
  case atStart => exact ⟨0, _, Nat.zero_le _, rfl, List.length_replicate .., ra, rb, hb7⟩
  case round =>
    clear ra rb hb7
    obtain ⟨j, P, hj, rfl, hP, ra, rb, hbo⟩ := hrel
    by_cases hjM : j < M
    · have g1 : (0 : Int) ≤ (j : Int) := by omega
      have g3 : (j : Int) < (M : Int) := by omega
      by_cases hl0 : 0 < l.length
      · skip
        obtain ⟨q, hq⟩ : ∃ q : Nat, (j : Int).tmod (l.length : Int) = (q : Int) := ⟨((j : Int) % (l.length : Int)).toNat, by rw [Int.tmod_eq_emod_of_nonneg (by omega)]; have := Int.emod_nonneg (j : Int) (show (l.length : Int) ≠ 0 by omega); omega⟩
        have hql : q < l.length := by
          have h1 := Int.emod_lt_of_pos (j : Int) (show (0 : Int) < (l.length : Int) by omega)
          rw [← Int.tmod_eq_emod_of_nonneg (by omega), hq] at h1
          omega
        have hqe : (j : Int) % (l.length : Int) = (q : Int) := by rw [← hq, Int.tmod_eq_emod_of_nonneg (by omega)]
        obtain ⟨b, o, hAe, hbw, hrow⟩ := HA.out hl0
        obtain ⟨⟨x0, x1⟩, he⟩ : ∃ e, l[q]? = some e := ⟨_, List.getElem?_eq_getElem hql⟩
        obtain ⟨hx0, hx1, hx2, hx3⟩ := HOK.out _ (List.mem_of_getElem? he)
        obtain ⟨c0, c1⟩ := (hrow.below (bl_call hb00 (Nat.le_refl _) hbo) hbw) q _ he
        dsimp only at hx0 hx1 hx2 hx3 c0 c1
        subst hAe
        have g5 : (0 : Int) ≤ (q : Int) := by omega
        have g6 : (q : Int) < (l.length : Int) := by omega
        have g7 : ((l.length : Int) == 0) = false := by rw [beq_eq_false_iff_ne]; omega
        have g8 : ¬ (l.length = 0) := by omega
        clear he hrow
        go_wp2_with fail
        refine (HOF.out x0 x1 _ hx0 hx1 hx2 hx3).mono ?_
        rintro e w8 ⟨rfl, hb8⟩
        clear c0 c1
        replace hbo := hbo.trans (hb8.mono hbo.size)
        replace ra := ra.call hb8
        replace rb := rb.call hb8
        clear hb8
        obtain ⟨y9, hy9⟩ : ∃ x, P[j]? = some x := ⟨_, List.getElem?_eq_getElem (by have := hP.out; omega)⟩
        obtain ⟨c0, c1⟩ := ra.at hy9
        obtain ⟨f0, f1⟩ := ra.frz (i := j) (by have := hP.out; omega)
        have g9 := ra.lt
        clear hy9
        go_wp2_with fail
        go_roundw
        case rel => exact ⟨j + 1, _, by omega, by go_num, by show _ = _; rw [List.length_set]; exact hP.out, ra.set j (by have := hP.out; omega) (kL f x0 x1), (rb.far (by dsimp only; omega) _).far (by dsimp only; omega) _, bl_set (bl_set hbo (p := ⟨ga, j * 2, none⟩) hga _) (p := ⟨ga, j * 2 + 1, none⟩) hga _⟩
        case measure => simp [intOf]; omega
      · have t6 : ¬ (0 < l.length) := hl0
        go_wp2_with fail
        go_roundw
        case rel => exact ⟨j + 1, P, by omega, by go_num, hP, ra, rb, hbo⟩
        case measure => simp [intOf]; omega
    · obtain hje : j = M := by omega
      subst hje
      go_wp2_with fail
      go_loopw [62] (fun jv wr => ∃ (k9 : Nat) (Q : KL f), k9 ≤ N ∧ jv = .int .i64 k9 ∧ Hid (Q.length = N) ∧ RwK wr ga P ∧ RwK wr gb Q ∧ Below w6.heap.size w6 wr) (fun jv _ => N - (intOf jv).toNat)
      case atStart => exact ⟨0, _, Nat.zero_le _, rfl, List.length_replicate .., ra, rb, hbo⟩
      case round =>
        clear ra rb hbo
        obtain ⟨k9, Q, hk9, rfl, hQ, ra, rb, hbo⟩ := hrel
        by_cases hkN : k9 < N
        · have g1 : (0 : Int) ≤ (k9 : Int) := by omega
          have g3 : (k9 : Int) < (N : Int) := by omega
          by_cases hl0 : 0 < l.length
          · obtain ⟨J, hJ⟩ : ∃ J, k9 * 3 + 1 = J := ⟨_, rfl⟩
            obtain ⟨J3, hJ3⟩ : ∃ J, k9 * 3 = J := ⟨_, rfl⟩
            have hJi3 : (k9 : Int) * 3 = (J3 : Int) := by omega
            have hJi : (J3 : Int) + 1 = (J : Int) := by omega
            clear hJ hJ3
            obtain ⟨q, hq⟩ : ∃ q : Nat, (J : Int).tmod (l.length : Int) = (q : Int) := ⟨((J : Int) % (l.length : Int)).toNat, by rw [Int.tmod_eq_emod_of_nonneg (by omega)]; have := Int.emod_nonneg (J : Int) (show (l.length : Int) ≠ 0 by omega); omega⟩
            have hql : q < l.length := by
              have h1 := Int.emod_lt_of_pos (J : Int) (show (0 : Int) < (l.length : Int) by omega)
              rw [← Int.tmod_eq_emod_of_nonneg (by omega), hq] at h1
              omega
            have hqe : (J : Int) % (l.length : Int) = (q : Int) := by rw [← hq, Int.tmod_eq_emod_of_nonneg (by omega)]
            obtain ⟨b, o, hAe, hbw, hrow⟩ := HA.out hl0
            obtain ⟨⟨x0, x1⟩, he⟩ : ∃ e, l[q]? = some e := ⟨_, List.getElem?_eq_getElem hql⟩
            obtain ⟨hx0, hx1, hx2, hx3⟩ := HOK.out _ (List.mem_of_getElem? he)
            obtain ⟨c0, c1⟩ := (hrow.below (bl_call hb00 (Nat.le_refl _) hbo) hbw) q _ he
            dsimp only at hx0 hx1 hx2 hx3 c0 c1
            subst hAe
            have g5 : (0 : Int) ≤ (q : Int) := by omega
            have g6 : (q : Int) < (l.length : Int) := by omega
            have g7 : ((l.length : Int) == 0) = false := by rw [beq_eq_false_iff_ne]; omega
            have g8 : ¬ (l.length = 0) := by omega
            clear he hrow
            go_wp2_with fail
            refine (HOF.out x0 x1 _ hx0 hx1 hx2 hx3).mono ?_
            rintro e w8 ⟨rfl, hb8⟩
            clear c0 c1
            replace hbo := hbo.trans (hb8.mono hbo.size)
            replace ra := ra.call hb8
            replace rb := rb.call hb8
            clear hb8
            obtain ⟨y9, hy9⟩ : ∃ x, Q[k9]? = some x := ⟨_, List.getElem?_eq_getElem (by have := hQ.out; omega)⟩
            obtain ⟨c0, c1⟩ := rb.at hy9
            obtain ⟨f0, f1⟩ := rb.frz (i := k9) (by have := hQ.out; omega)
            have g9 := rb.lt
            clear hy9
            go_wp2_with fail
            go_roundw
            case rel => exact ⟨k9 + 1, _, by omega, by go_num, by show _ = _; rw [List.length_set]; exact hQ.out, (ra.far (by dsimp only; omega) _).far (by dsimp only; omega) _, rb.set k9 (by have := hQ.out; omega) (kL f x0 x1), bl_set (bl_set hbo (p := ⟨gb, k9 * 2, none⟩) hgb _) (p := ⟨gb, k9 * 2 + 1, none⟩) hgb _⟩
            case measure => simp [intOf]; omega
          · have t6 : ¬ (0 < l.length) := hl0
            go_wp2_with fail
            go_roundw
            case rel => exact ⟨k9 + 1, Q, by omega, by go_num, hQ, ra, rb, hbo⟩
            case measure => simp [intOf]; omega
        · obtain hke : k9 = N := by omega
          subst hke
          obtain ⟨y1, hy1⟩ : ∃ x, P[mm]? = some x := ⟨_, List.getElem?_eq_getElem (by have := hP.out; omega)⟩
          obtain ⟨y2, hy2⟩ : ∃ x, Q[nn9]? = some x := ⟨_, List.getElem?_eq_getElem (by have := hQ.out; omega)⟩
          obtain ⟨c0, c1⟩ := ra.at hy1
          obtain ⟨f0, f1⟩ := ra.frz (i := mm) (by have := hP.out; omega)
          obtain ⟨e0, e1⟩ := rb.at hy2
          obtain ⟨h0, h1⟩ := rb.frz (i := nn9) (by have := hQ.out; omega)
          have g9 := ra.lt
          have g10 := rb.lt
          have g1 : (0 : Int) ≤ (mm : Int) := by omega
          have g2 : (mm : Int) < (j : Int) := by omega
          have g3 : (0 : Int) ≤ (nn9 : Int) := by omega
          have g4 : (nn9 : Int) < (k9 : Int) := by omega
          obtain ⟨two, htwo⟩ : ∃ t : Fin (Pm f), t = 1 + 1 := ⟨_, rfl⟩
          have H2 : Hid (lo two = 2 ∧ hi two = 0 ∧ two ≠ 0) := by
            subst htwo
            rcases hf.or with rfl | rfl
            · exact ⟨lohi2.1, lohi2.2, by decide +kernel⟩
            · exact ⟨lohi2b.1, lohi2b.2, by decide +kernel⟩
          clear hy1 hy2 htwo
          go_upto_region 19 with fail
          clear c0 c1 f0 f1 e0 e1 h0 h1 g9 g10
          replace ra := ra.set mm (by have := hP.out; omega) 1
          rw [lo_one, hi_one] at ra
          replace rb := (rb.far (p := ⟨ga, mm * 2, none⟩) (by dsimp only; omega) (.int .u64 1)).far (p := ⟨ga, mm * 2 + 1, none⟩) (by dsimp only; omega) (.int .u64 0)
          replace rb := rb.set nn9 (by have := hQ.out; omega) two
          rw [H2.out.1, H2.out.2.1] at rb
          replace ra := (ra.far (p := ⟨gb, nn9 * 2, none⟩) (by dsimp only; omega) (.int .u64 2)).far (p := ⟨gb, nn9 * 2 + 1, none⟩) (by dsimp only; omega) (.int .u64 0)
          replace hbo := bl_set (bl_set (bl_set (bl_set hbo (p := ⟨ga, mm * 2, none⟩) hga (.int .u64 1)) (p := ⟨ga, mm * 2 + 1, none⟩) hga (.int .u64 0)) (p := ⟨gb, nn9 * 2, none⟩) hgb (.int .u64 2)) (p := ⟨gb, nn9 * 2 + 1, none⟩) hgb (.int .u64 0)
          generalize (((wr.setCell ⟨ga, mm * 2, none⟩ (.int .u64 1)).setCell ⟨ga, mm * 2 + 1, none⟩ (.int .u64 0)).setCell ⟨gb, nn9 * 2, none⟩ (.int .u64 2)).setCell ⟨gb, nn9 * 2 + 1, none⟩ (.int .u64 0) = w9 at ra rb hbo ⊢
          have HPL : Hid ((P.set mm 1).length = j) := by show _ = _; rw [List.length_set]; exact hP.out
          have HQL : Hid ((Q.set nn9 two).length = k9) := by show _ = _; rw [List.length_set]; exact hQ.out
          have HPT : Hid ((P.set mm 1).getD (j - 1) 0 ≠ 0) := by
            show _ ≠ _
            rw [set_getD _ _ _ (by have := hP.out; omega), if_pos (by have := HM.out; omega)]
            exact k_one_ne
          have HQT : Hid ((Q.set nn9 two).getD (k9 - 1) 0 ≠ 0) := by
            show _ ≠ _
            rw [set_getD _ _ _ (by have := hQ.out; omega), if_pos (by have := HN.out; omega)]
            exact H2.out.2.2
          generalize P.set mm 1 = P2 at *
          generalize Q.set nn9 two = Q2 at *
          obtain ⟨hpt, hqt, hpq⟩ := pmul_top HPL.out HQL.out (by omega) (by omega) HPT.out HQT.out
          have sp := ra.sl HPL.out (Nat.le_refl _) (by omega)
          have sq := rb.sl HQL.out (Nat.le_refl _) (by omega)
          obtain ⟨S, hS9⟩ : ∃ S, (pmul P2 Q2).length = S := ⟨_, rfl⟩
          rw [hS9] at hpq
          have hSi : (j : Int) + (k9 : Int) - 1 = (S : Int) := by omega
          have hSm : S ≤ 1200 := by omega
          have HSL := Lib.hid hS9
          have HPTT := Lib.hid hpt
          have HQTT := Lib.hid hqt
          have HJK := Lib.hid hpq
          clear hpq hS9 hpt hqt ra rb hP hQ HM HN HPT HQT H2
          by_cases hbig : 1024 < S
          · have HMM := Lib.hid (poly_Mul_many hf _ _ P2 Q2 w9 sp sq (by rw [HPL.out]; omega) (by rw [HQL.out]; omega) (by rw [HPTT.out]; exact List.ne_nil_of_length_pos (by rw [HPL.out]; omega)) (by rw [HQTT.out]; exact List.ne_nil_of_length_pos (by rw [HQL.out]; omega)) (by rw [HPTT.out, HQTT.out, HPL.out, HQL.out]; have := HJK.out; omega))
            clear sp sq
            go_wp2_with fail
            refine HMM.out.mono ?_
            rintro e w10 ⟨rfl, hb10⟩
            replace hbo := hbo.trans (hb10.mono hbo.size)
            clear hb10
            go_wp2_with fail
            go_ret
            exact ⟨rfl, bl_call hb00 (Nat.le_refl _) hbo⟩
          · have HMM := Lib.hid (poly_Mul hf _ _ P2 Q2 w9 (HTB.out.call hbo) sp sq (by rw [HPL.out]; omega) (by rw [HQL.out]; omega) (by rw [HPTT.out, HQTT.out, HPL.out, HQL.out]; have := HJK.out; omega))
            have hnb : ¬ (1024 < S) := hbig
            go_wp2_with fail
            refine HMM.out.mono ?_
            rintro e w10 ⟨v, rfl, hom, hb10⟩
            obtain ⟨AM, cM, rfl⟩ := own_shape hom
            have hms := own_sl rfl hom
            rw [HSL.out] at hms ⊢
            replace hbo := hbo.trans (hb10.mono hbo.size)
            replace sp := sp.later hb10
            replace sq := sq.later hb10
            clear hb10 hom HMM
            have q0 := HX.out.call hbo
            have hxl := q0.lt
            obtain ⟨v1, hv1⟩ : ∃ v, ev y P2 = v := ⟨_, rfl⟩
            obtain ⟨v2, hv2⟩ : ∃ v, ev y Q2 = v := ⟨_, rfl⟩
            have HAm : Hid (∀ wz, Below w10.heap.size w10 wz → Calls Tryd.prog 30 #[.int .u8 f, .slice AM S cM, vK y] wz (RetK (v1 * v2) wz)) := fun wz hb => by
              have h := poly_At hf _ _ y wz (hms.later hb) (by rw [HSL.out]; omega)
              rwa [horner_ev, ev_pmul, hv1, hv2] at h
            have HAp : Hid (∀ wz, Below w10.heap.size w10 wz → Calls Tryd.prog 30 #[.int .u8 f, .slice (some ⟨ga, 0, none⟩) j j, vK y] wz (RetK v1 wz)) := fun wz hb => by
              have h := poly_At hf _ _ y wz (sp.later hb) (by rw [HPL.out]; omega)
              rwa [horner_ev, hv1] at h
            have HAq : Hid (∀ wz, Below w10.heap.size w10 wz → Calls Tryd.prog 30 #[.int .u8 f, .slice (some ⟨gb, 0, none⟩) k9 k9, vK y] wz (RetK v2 wz)) := fun wz hb => by
              have h := poly_At hf _ _ y wz (sq.later hb) (by rw [HQL.out]; omega)
              rwa [horner_ev, hv2] at h
            have HMU := Lib.hid (fun wz => field_MulK hf v1 v2 wz)
            have hws : IntKind.i64.wrap (S : Int) = (S : Int) := IntWalk.i64_in _ (by omega)
            have hwjk : IntKind.i64.wrap ((j : Int) + (k9 : Int)) = (j : Int) + (k9 : Int) := IntWalk.i64_in _ (by omega)
            clear hv1 hv2 hms sp sq
            go_upto_region 22 with fail
            obtain ⟨q00, q01, q02, q03, q04⟩ := V2.mk q0.c0 q0.c1 q0.f0 q0.f1 q0.lt
            refine region_B (n := 30) (m := 31) (f := 30) (by kernel_rfl) (by kernel_rfl) rfl ?_
            refine WpH.takeD 0 (some 116) (v := ?_) rfl rfl (by kernel_rfl) (fun _ _ _ h => h) (.val rfl (fun wz hwz => ?_)) ?_
            rotate_left
            · go_simp; try (with_reducible rfl)
            (simp only [Act.put]); (try simp only [List.setIfInBounds_toArray]); (try simp only [List.set_cons_succ]); (try simp only [List.set_cons_zero])
            refine WpH.takeD 1 (some 117) (v := ?_) rfl rfl (by kernel_rfl) (fun _ _ _ h => h) (.val rfl (fun wz hwz => ?_)) ?_
            rotate_left
            · go_simp; try (with_reducible rfl)
            (simp only [Act.put]); (try simp only [List.setIfInBounds_toArray]); (try simp only [List.set_cons_succ]); (try simp only [List.set_cons_zero])
            refine WpH.takeD 2 (some 118) (v := ?_) rfl rfl (by kernel_rfl) (fun _ _ _ h => h) (.val rfl (fun wz hwz => ?_)) ?_
            rotate_left
            · go_simp; try (with_reducible rfl)
            (simp only [Act.put]); (try simp only [List.setIfInBounds_toArray]); (try simp only [List.set_cons_succ]); (try simp only [List.set_cons_zero])
            refine WpH.takeD 3 (some 119) (v := ?_) rfl rfl (by kernel_rfl) (fun _ _ _ h => h) (.val rfl (fun wz hwz => ?_)) ?_
            rotate_left
            · go_simp; try (with_reducible rfl)
            (simp only [Act.put]); (try simp only [List.setIfInBounds_toArray]); (try simp only [List.set_cons_succ]); (try simp only [List.set_cons_zero])
            refine WpH.takeD 4 (some 120) (v := ?_) rfl rfl (by kernel_rfl) (fun _ _ _ h => h) (.val rfl (fun wz hwz => ?_)) ?_
            rotate_left
            · go_simp; try (with_reducible rfl)
            (simp only [Act.put]); (try simp only [List.setIfInBounds_toArray]); (try simp only [List.set_cons_succ]); (try simp only [List.set_cons_zero])
            refine WpH.takeD 5 (some 121) (v := ?_) rfl rfl (by kernel_rfl) (fun _ _ _ h => h) (.val rfl (fun wz hwz => ?_)) ?_
            rotate_left
            · go_simp; try (with_reducible rfl)
            (simp only [Act.put]); (try simp only [List.setIfInBounds_toArray]); (try simp only [List.set_cons_succ]); (try simp only [List.set_cons_zero])
            refine WpH.takeD 6 (some 122) (v := ?_) rfl rfl (by kernel_rfl) (fun _ _ _ h => h) (.val rfl (fun wz hwz => ?_)) ?_
            rotate_left
            · go_simp; try (with_reducible rfl)
            (simp only [Act.put]); (try simp only [List.setIfInBounds_toArray]); (try simp only [List.set_cons_succ]); (try simp only [List.set_cons_zero])
            refine WpH.takeD 7 (some 123) (v := ?_) rfl rfl (by kernel_rfl) (fun _ _ _ h => h) (.val rfl (fun wz hwz => ?_)) ?_
            rotate_left
            · go_simp; try (with_reducible rfl)
            (simp only [Act.put]); (try simp only [List.setIfInBounds_toArray]); (try simp only [List.set_cons_succ]); (try simp only [List.set_cons_zero])
            refine WpH.takeD 8 (some 124) (v := ?_) rfl rfl (by kernel_rfl) (fun _ _ _ h => h) (.val rfl (fun wz hwz => ?_)) ?_
            rotate_left
            · go_simp; try (with_reducible rfl)
            (simp only [Act.put]); (try simp only [List.setIfInBounds_toArray]); (try simp only [List.set_cons_succ]); (try simp only [List.set_cons_zero])
            refine WpH.takeD 9 (some 125) (v := ?_) rfl rfl (by kernel_rfl) (fun _ _ _ h => h) (.val rfl (fun wz hwz => ?_)) ?_
            rotate_left
            · go_simp; try (with_reducible rfl)
            (simp only [Act.put]); (try simp only [List.setIfInBounds_toArray]); (try simp only [List.set_cons_succ]); (try simp only [List.set_cons_zero])
            refine WpH.takeD 10 (some 126) (v := ?_) rfl rfl (by kernel_rfl) (fun _ _ _ h => h) (.val rfl (fun wz hwz => ?_)) ?_
            rotate_left
            · go_simp; try (with_reducible rfl)
            (simp only [Act.put]); (try simp only [List.setIfInBounds_toArray]); (try simp only [List.set_cons_succ]); (try simp only [List.set_cons_zero])
            refine WpH.takeD 11 (some 127) (v := ?_) rfl rfl (by kernel_rfl) (fun _ _ _ h => h) (.val rfl (fun wz hwz => ?_)) ?_
            rotate_left
            · go_simp; try (with_reducible rfl)
            (simp only [Act.put]); (try simp only [List.setIfInBounds_toArray]); (try simp only [List.set_cons_succ]); (try simp only [List.set_cons_zero])
            refine WpH.takeD 12 (some 128) (v := ?_) rfl rfl (by kernel_rfl) (fun _ _ _ h => h) (.val rfl (fun wz hwz => ?_)) ?_
            rotate_left
            · go_simp; try (with_reducible rfl)
            (simp only [Act.put]); (try simp only [List.setIfInBounds_toArray]); (try simp only [List.set_cons_succ]); (try simp only [List.set_cons_zero])
            refine WpH.takeD 13 (some 129) (v := ?_) rfl rfl (by kernel_rfl) (fun _ _ _ h => h) (.val rfl (fun wz hwz => ?_)) ?_
            rotate_left
            · go_simp; try (with_reducible rfl)
            (simp only [Act.put]); (try simp only [List.setIfInBounds_toArray]); (try simp only [List.set_cons_succ]); (try simp only [List.set_cons_zero])
            refine WpH.takeD 14 (some 130) (v := ?_) rfl rfl (by kernel_rfl) (fun _ _ _ h => h) (.val rfl (fun wz hwz => ?_)) ?_
            rotate_left
            · go_simp; try (with_reducible rfl)
            (simp only [Act.put]); (try simp only [List.setIfInBounds_toArray]); (try simp only [List.set_cons_succ]); (try simp only [List.set_cons_zero])
            refine WpH.takeD 15 (some 131) (v := ?_) rfl rfl (by kernel_rfl) (fun _ _ _ h => h) (.val rfl (fun wz hwz => ?_)) ?_
            rotate_left
            · go_simp; try (with_reducible rfl)
            (simp only [Act.put]); (try simp only [List.setIfInBounds_toArray]); (try simp only [List.set_cons_succ]); (try simp only [List.set_cons_zero])
            refine WpH.takeD 16 (some 132) (v := ?_) rfl rfl (by kernel_rfl) (fun _ _ _ h => h) (.val rfl (fun wz hwz => ?_)) ?_
            rotate_left
            · (obtain ⟨hcz, hfz⟩ := bcell hwz; go_simp; try (with_reducible rfl))
            (simp only [Act.put]); (try simp only [List.setIfInBounds_toArray]); (try simp only [List.set_cons_succ]); (try simp only [List.set_cons_zero])
            refine WpH.takeD 17 (some 133) rfl rfl (by kernel_rfl) (fun _ _ _ h => h) (.call rfl (fun wz hwz => HAm.out wz hwz) (fun wz hwz => ?_)) ?_
            · go_simp; try (with_reducible rfl)
            (simp only [Act.put]); (try simp only [List.setIfInBounds_toArray]); (try simp only [List.set_cons_succ]); (try simp only [List.set_cons_zero])
            refine WpH.takeD 18 (some 134) (v := ?_) rfl rfl (by kernel_rfl) (fun _ _ _ h => h) (.val rfl (fun wz hwz => ?_)) ?_
            rotate_left
            · go_simp; try (with_reducible rfl)
            (simp only [Act.put]); (try simp only [List.setIfInBounds_toArray]); (try simp only [List.set_cons_succ]); (try simp only [List.set_cons_zero])
            refine WpH.takeD 19 (some 135) (v := ?_) rfl rfl (by kernel_rfl) (fun _ _ _ h => h) (.val rfl (fun wz hwz => ?_)) ?_
            rotate_left
            · go_simp; try (with_reducible rfl)
            (simp only [Act.put]); (try simp only [List.setIfInBounds_toArray]); (try simp only [List.set_cons_succ]); (try simp only [List.set_cons_zero])
            refine WpH.takeD 20 (some 136) (v := ?_) rfl rfl (by kernel_rfl) (fun _ _ _ h => h) (.val rfl (fun wz hwz => ?_)) ?_
            rotate_left
            · go_simp; try (with_reducible rfl)
            (simp only [Act.put]); (try simp only [List.setIfInBounds_toArray]); (try simp only [List.set_cons_succ]); (try simp only [List.set_cons_zero])
            refine WpH.takeD 21 (some 137) (v := ?_) rfl rfl (by kernel_rfl) (fun _ _ _ h => h) (.val rfl (fun wz hwz => ?_)) ?_
            rotate_left
            · (obtain ⟨hcz, hfz⟩ := bcell hwz; go_simp; try (with_reducible rfl))
            (simp only [Act.put]); (try simp only [List.setIfInBounds_toArray]); (try simp only [List.set_cons_succ]); (try simp only [List.set_cons_zero])
            refine WpH.takeD 22 (some 138) rfl rfl (by kernel_rfl) (fun _ _ _ h => h) (.call rfl (fun wz hwz => HAp.out wz hwz) (fun wz hwz => ?_)) ?_
            · go_simp; try (with_reducible rfl)
            (simp only [Act.put]); (try simp only [List.setIfInBounds_toArray]); (try simp only [List.set_cons_succ]); (try simp only [List.set_cons_zero])
            refine WpH.takeD 23 (some 139) (v := ?_) rfl rfl (by kernel_rfl) (fun _ _ _ h => h) (.val rfl (fun wz hwz => ?_)) ?_
            rotate_left
            · go_simp; try (with_reducible rfl)
            (simp only [Act.put]); (try simp only [List.setIfInBounds_toArray]); (try simp only [List.set_cons_succ]); (try simp only [List.set_cons_zero])
            refine WpH.takeD 24 (some 140) (v := ?_) rfl rfl (by kernel_rfl) (fun _ _ _ h => h) (.val rfl (fun wz hwz => ?_)) ?_
            rotate_left
            · go_simp; try (with_reducible rfl)
            (simp only [Act.put]); (try simp only [List.setIfInBounds_toArray]); (try simp only [List.set_cons_succ]); (try simp only [List.set_cons_zero])
            refine WpH.takeD 25 (some 141) (v := ?_) rfl rfl (by kernel_rfl) (fun _ _ _ h => h) (.val rfl (fun wz hwz => ?_)) ?_
            rotate_left
            · (obtain ⟨hcz, hfz⟩ := bcell hwz; go_simp; try (with_reducible rfl))
            (simp only [Act.put]); (try simp only [List.setIfInBounds_toArray]); (try simp only [List.set_cons_succ]); (try simp only [List.set_cons_zero])
            refine WpH.takeD 26 (some 142) rfl rfl (by kernel_rfl) (fun _ _ _ h => h) (.call rfl (fun wz hwz => HAq.out wz hwz) (fun wz hwz => ?_)) ?_
            · go_simp; try (with_reducible rfl)
            (simp only [Act.put]); (try simp only [List.setIfInBounds_toArray]); (try simp only [List.set_cons_succ]); (try simp only [List.set_cons_zero])
            refine WpH.takeD 27 (some 143) rfl rfl (by kernel_rfl) (fun _ _ _ h => h) (.call rfl (fun wz hwz => HMU.out wz) (fun wz hwz => ?_)) ?_
            · go_simp; try (with_reducible rfl)
            (simp only [Act.put]); (try simp only [List.setIfInBounds_toArray]); (try simp only [List.set_cons_succ]); (try simp only [List.set_cons_zero])
            refine WpH.takeD 28 (some 144) (v := ?_) rfl rfl (by kernel_rfl) (fun _ _ _ h => h) (.val rfl (fun wz hwz => ?_)) ?_
            rotate_left
            · go_simp; try (with_reducible rfl)
            (simp only [Act.put]); (try simp only [List.setIfInBounds_toArray]); (try simp only [List.set_cons_succ]); (try simp only [List.set_cons_zero])
            refine WpH.takeD 29 (some 145) (v := ?_) rfl rfl (by kernel_rfl) (fun _ _ _ h => h) (.val rfl (fun wz hwz => ?_)) ?_
            rotate_left
            · go_simp; try (with_reducible rfl)
            (simp only [Act.put]); (try simp only [List.setIfInBounds_toArray]); (try simp only [List.set_cons_succ]); (try simp only [List.set_cons_zero])
            refine WpH.doneB (by kernel_rfl) (fun w11 hw11 => ?_)
            (try simp only [List.drop_succ_cons]); (try simp only [List.drop_zero]); (try simp only [Nat.reduceSub]); (try simp only [List.take_succ_cons]); (try simp only [List.take_zero])
            clear q00 q01 q02 q03 q04
            replace hbo := hbo.trans (hw11.mono hbo.size)
            clear hw11 q0
            go_wp2_with fail
            go_ret
            exact ⟨rfl, bl_call hb00 (Nat.le_refl _) hbo⟩

end Go.Proofs.YtfhmineolncefaaDoor
