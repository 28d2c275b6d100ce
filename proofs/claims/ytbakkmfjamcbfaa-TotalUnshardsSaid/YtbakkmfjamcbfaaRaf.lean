/-
 TruncN: for TotalUnshards.
-/
import Derived.BigQuiet
import Derived.Test.YtbakkmfjamcbfaaRae
namespace Go.Proofs.Ytbakkmfjamcbfaa
open Go.RowKit Fm
set_option linter.unusedVariables false
set_option maxRecDepth 100000
def RetSN (zs : List E) (w : World) (e : Ending) (w' : World) : Prop := ∃ v, e = .returned (.tuple #[v, .int .i64 0]) ∧ (SlE w' w'.heap.size v zs ∧ ∀ q, v.ownBlock = some q → w.heap.size ≤ q) ∧ Below w.heap.size w w'
section
variable {f : Nat} (hf : IsF f)
include hf
set_option maxHeartbeats 4000000 in
theorem circuit_TruncateN_nums2 (b n m c : Nat) (hb1 : 1 ≤ b) (hb2 : b ≤ 32) (hn2 : n ≤ 64) (N : Int) (vl : Value) (l : List E) (w : World) (hl : SlE w w.heap.size vl l) (hlen : l.length = n * b)
  (HC : Hid (∀ wz, Calls Try.prog 60 #[.agg #[.int .u8 2, .int .u8 f, .int .i64 b, .int .i64 N, .int .i64 m, .int .i64 c]] wz (RetC 0 wz)))
  (HI : Hid (∀ wz, Calls Try.prog 66 #[.agg #[.int .u8 2, .int .u8 f, .int .i64 b, .int .i64 N, .int .i64 m, .int .i64 c]] wz (RetI l.length wz))) :
  Calls Try.prog 35 #[.agg #[.int .u8 2, .int .u8 f, .int .i64 b, .int .i64 N, .int .i64 m, .int .i64 c], vl] w (RetSN (numsE (f := f) b n l) w) := by
 have HSL := Lib.hid hl
 obtain ⟨⟨A, cc, rfl, hlc, hcm, hA⟩, hok⟩ := hl
 have hfb0 : (1 : Int) ≤ (f : Int) := by rcases hf.or with rfl | rfl <;> omega
 have hfb1 : (f : Int) ≤ 2 := by rcases hf.or with rfl | rfl <;> omega
 have hl2 : l.length ≤ 2048 := by rw [hlen]; exact Nat.le_trans (Nat.mul_le_mul hn2 hb2) (by omega)
 have HLEN := Lib.hid hlen
 have hb00 : Below w.heap.size w w := Below.refl _ _
 have HZL := Lib.hid (numsE_length (f := f) b n l)
 clear hlen
 go_enter Try.func35, Try.ntmps35
 go_upto_region 1 with fail
 have hx := Vs.new w [.int .u8 2, .int .u8 f, .int .i64 b, .int .i64 N, .int .i64 m, .int .i64 c] #[.int .u8 2, .int .u8 f, .int .i64 b, .int .i64 N, .int .i64 m, .int .i64 c] 60 rfl
 have hbA : Below w.heap.size w (w.alloc (.cells #[.int .u8 2, .int .u8 f, .int .i64 b, .int .i64 N, .int .i64 m, .int .i64 c] 60)) := by repeat (first | exact bA | with_reducible assumption | apply bB)
 replace hb00 := bl_call hb00 (Nat.le_refl _) hbA
 clear hbA
 generalize w.alloc (.cells #[.int .u8 2, .int .u8 f, .int .i64 b, .int .i64 N, .int .i64 m, .int .i64 c] 60) = w1 at hb00 hx ⊢
 obtain ⟨⟨x0, x1, x2, x3, x4, x5⟩, ⟨x6, x7, x8, x9, x10, x11⟩, x12⟩ := hx.get6
 have hxl : w.heap.size < w1.heap.size := hx.lt
 go_upto_region 10 with (first
  | (go_at_call 60; refine (HC.out _).mono ?_; rintro e w2 ⟨rfl, hb2⟩; replace hb00 := bl_call hb00 (Nat.le_refl _) hb2; replace hx := hx.call hb2; obtain ⟨⟨x0, x1, x2, x3, x4, x5⟩, ⟨x6, x7, x8, x9, x10, x11⟩, x12⟩ := hx.get6)
  | (go_at_call 66; refine (HI.out _).mono ?_; rintro e w3 ⟨rfl, hb3⟩; replace hb00 := bl_call hb00 (Nat.le_refl _) hb3; replace hx := hx.call hb3; obtain ⟨⟨x0, x1, x2, x3, x4, x5⟩, ⟨x6, x7, x8, x9, x10, x11⟩, x12⟩ := hx.get6))
 have hsz : w.heap.size + 1 ≤ w3.heap.size := hx.lt
 clear HC HI hb2 hb3
 clear x0 x1 x2 x3 x4 x5 x6 x7 x8 x9 x10 x11 x12
 go_wp2_with fail
 go_loopw [1, 7] (fun v1 v7 wr => ∃ (j p r : Nat) (A' : Option Addr) (cp : Nat) (A1 : Option Addr) (c1 : Nat), j ≤ n ∧ Hid (p = j * b) ∧ Hid (r = (n - j) * b) ∧ r ≤ 2048 ∧ v1 = .slice A1 r c1 ∧ v7 = .slice A' j cp ∧ Hid (SlE w w.heap.size (.slice A1 r c1) (l.drop p)) ∧
  Vs wr w.heap.size [.int .u8 2, .int .u8 f, .int .i64 b, .int .i64 N, .int .i64 m, .int .i64 c] ∧ wr.ownsRow (w.heap.size + 1) 99 2 (.slice A' j cp) j (cellsE ((numsE (f := f) b n l).take j)) ∧ Below w.heap.size w wr ∧ w.heap.size + 1 ≤ wr.heap.size) (fun v1 _ _ => lenV v1)
 case atStart => exact ⟨0, 0, l.length, none, 0, A, cc, Nat.zero_le _, (by rw [Nat.zero_mul] : 0 = 0 * b), (by rw [Nat.sub_zero]; exact HLEN.out : l.length = (n - 0) * b), hl2, rfl, rfl, (by rw [List.drop_zero]; exact HSL.out : SlE w w.heap.size (.slice A l.length cc) (l.drop 0)), hx, World.ownsRow_nil _ _ _ _, hb00, hsz⟩
 case round =>
  clear hx hb00 hsz hxl
  obtain ⟨j, p, r, A', cp, A1, c1, hj, hp, hr, hr2, rfl, rfl, hsl, hx, hown, hbw, hsz⟩ := hrel
  obtain ⟨⟨x0, x1, x2, x3, x4, x5⟩, ⟨x6, x7, x8, x9, x10, x11⟩, x12⟩ := hx.get6
  by_cases hjn : j < n
  ·have hbr : b ≤ r := by rw [hr.out]; exact Nat.le_mul_of_pos_left b (by omega)
   have hrl : (l.drop p).length = r ∧ r ≤ c1 ∧ c1 ≤ 9223372036854775807 ∧ ∃ bl o, A1 = some ⟨bl, o, none⟩ := by
    obtain ⟨⟨A2, c2, hh, h1, h2, h3⟩, _⟩ := hsl.out
    injection hh with e1 e2 e3
    subst e1 e3
    rw [← e2] at h1 h3
    obtain ⟨bl, o, hA, _⟩ := h3 (by omega)
    exact ⟨e2.symm, h1, h2, bl, o, hA⟩
   obtain ⟨hrl, hrc, hcm1, bl, o, rfl⟩ := hrl
   have HRL := Lib.hid hrl
   have HTK := Lib.hid (hsl.out.takeN (n := b) hbr)
   have hbl2 : ((l.drop p).take b).length = b := by rw [List.length_take]; omega
   have HNUM : Hid (∀ wz, Below w.heap.size w wz → Calls Try.prog 67 #[.agg #[.int .u8 2, .int .u8 f, .int .i64 b, .int .i64 N, .int .i64 m, .int .i64 c], .slice (some ⟨bl, o, none⟩) b c1] wz (RetK (knum (kEs f ((l.drop p).take b))) wz)) :=
    fun wz hb => circuit_numberL hf 2 b m c N _ ((l.drop p).take b) wz ((HTK.out.below hb).mono hb.size) (by rw [hbl2]; omega)
   obtain ⟨s, hs⟩ : ∃ s, knum (kEs f ((l.drop p).take b)) = s := ⟨_, rfl⟩
   rw [hs] at HNUM
   have HAT : Hid ((numsE (f := f) b n l)[j]? = some (eK s)) := by
    show (numsE (f := f) b n l)[j]? = some (eK s)
    rw [numsE_at b n l j hjn, ← hs, ← hp.out]
    unfold kEs
    rw [List.map_take, List.map_drop]
   have hb0 : (0 : Int) ≤ (b : Int) := by omega
   have hbri : (b : Int) ≤ (r : Int) := by omega
   have hbc : b ≤ c1 := by omega
   have hbc2 : (b : Int) ≤ (c1 : Int) := by omega
   have hr0 : (0 : Int) < (r : Int) := by omega
   clear hs hrl hbl2 HTK
   go_upto_region 12 with fail
   refine region_G (n := 8) (m := 10) (f := 8) (by kernel_rfl) (by kernel_rfl) rfl ?_
   refine WpG.vD 0 (some 30) ?_ rfl rfl (by kernel_rfl) (fun _ _ _ h => h) rfl (fun wz hwz => ?_) ?_
   rotate_left
   ·go_simp; try (with_reducible rfl)
   simp only [Zp, Zq, Zr, Zs]
   refine WpG.vD 1 (some 31) ?_ rfl rfl (by kernel_rfl) (fun _ _ _ h => h) rfl (fun wz hwz => ?_) ?_
   rotate_left
   ·(obtain ⟨hcz, hfz⟩ := bcell (hwz); go_simp; try (with_reducible rfl))
   simp only [Zp, Zq, Zr, Zs]
   refine WpG.vD 2 (some 32) ?_ rfl rfl (by kernel_rfl) (fun _ _ _ h => h) rfl (fun wz hwz => ?_) ?_
   rotate_left
   ·go_simp; try (with_reducible rfl)
   simp only [Zp, Zq, Zr, Zs]
   refine WpG.vD 3 (some 33) ?_ rfl rfl (by kernel_rfl) (fun _ _ _ h => h) rfl (fun wz hwz => ?_) ?_
   rotate_left
   ·go_simp; try (with_reducible rfl)
   simp only [Zp, Zq, Zr, Zs]
   refine WpG.vD 4 (some 34) ?_ rfl rfl (by kernel_rfl) (fun _ _ _ h => h) rfl (fun wz hwz => ?_) ?_
   rotate_left
   ·(obtain ⟨hcz, hfz⟩ := bcell (hwz); go_simp; try (with_reducible rfl))
   simp only [Zp, Zq, Zr, Zs]
   refine WpG.vD 5 (some 35) ?_ rfl rfl (by kernel_rfl) (fun _ _ _ h => h) rfl (fun wz hwz => ?_) ?_
   rotate_left
   ·go_simp; try (with_reducible rfl)
   simp only [Zp, Zq, Zr, Zs]
   refine WpG.takeD 6 (some 36) rfl rfl (by kernel_rfl) (fun _ _ _ h => h) (.call rfl (fun wz hwz => HNUM.out wz (hbw.trans ((hwz).mono hbw.size))) (fun wz hwz => ?_)) ?_
   ·go_simp; try (with_reducible rfl)
   simp only [Zp, Zq, Zr, Zs]
   refine WpG.oneD 7 (some 37) rfl rfl (by kernel_rfl) (fun g : Nat => Value.slice (some ⟨g, 0, none⟩) 1 1) (fun g wz => wr.heap.size ≤ g ∧ BlkE wz g [eK s]) (fun _ _ _ h hb => ⟨h.1, h.2.call hb⟩) (Fresh.slice 1 1 [.int .u64 (lo s), .int .u64 (hi s)] 99 rfl (fun wz hwz => (hwz).size) (fun wz hwz => by go_simp; try (with_reducible rfl)) (R := fun g wz => BlkE wz g [eK s]) (fun wz hwz => BlkE.new wz _ _ rfl)) (fun sb w0 hw0 hR0 => ?_)
   simp only [Zp, Zq, Zr, Zs]
   refine WpG.done (by kernel_rfl) (fun w6 hS => ?_)
   (try simp only [List.drop_succ_cons]); (try simp only [List.drop_zero]); (try simp only [Nat.reduceSub]); (try simp only [List.take_succ_cons]); (try simp only [List.take_zero])
   obtain ⟨hb6, hsb, hBs⟩ := hS
   clear x0 x1 x2 x3 x4 x5 x6 x7 x8 x9 x10 x11 x12
   have hz6 := hb6.size
   replace hbw := bl_call hbw (Nat.le_refl _) hb6
   replace hx := hx.call hb6
   replace hown := own_call hown hb6
   obtain ⟨⟨x0, x1, x2, x3, x4, x5⟩, ⟨x6, x7, x8, x9, x10, x11⟩, x12⟩ := hx.get6
   obtain ⟨zs, hzs⟩ : ∃ zs, (numsE (f := f) b n l).take j = zs := ⟨_, rfl⟩
   rw [hzs] at hown
   have HOW := Lib.hid hown
   have HT : Hid (cellsE ((numsE (f := f) b n l).take (j + 1)) = cellsE (zs ++ [eK s])) := by
    show cellsE ((numsE (f := f) b n l).take (j + 1)) = _
    rw [List.take_add_one, HAT.out, hzs]
    rfl
   have HR1 : Hid (0 < 1 → ∃ b o, (some ⟨sb, 0, none⟩ : Option Addr) = some ⟨b, o, none⟩ ∧ RowE w6 b o [eK s]) := fun _ => ⟨_, _, rfl, hBs.rowE⟩
   have hk1 : j + 1 ≤ 1099511627776 := by omega
   have hbase : w.heap.size + 1 ≤ w6.heap.size := by omega
   have HP : Hid (p + b = (j + 1) * b) := by show p + b = (j + 1) * b; rw [hp.out, Nat.succ_mul]
   have HRR : Hid (r - b = (n - (j + 1)) * b) := by
    show r - b = (n - (j + 1)) * b
    obtain ⟨d, hd⟩ : ∃ d, n - j = d + 1 := ⟨n - j - 1, by omega⟩
    rw [hr.out, hd, show n - (j + 1) = d by omega, Nat.succ_mul, Nat.add_sub_cancel]
   clear hown hzs hb6 hBs hR0 hw0
   by_cases hcb : c1 = b
   ·subst hcb
    obtain rfl : r = c1 := by omega
    have HSN : Hid (SlE w w.heap.size (.slice (some ⟨bl, o, none⟩) 0 0) (l.drop (p + r))) := by
     have h0 : l.drop (p + r) = [] := by rw [← List.drop_drop]; exact List.drop_eq_nil_of_le (by rw [HRL.out]; exact Nat.le_refl _)
     rw [h0]
     exact ⟨⟨_, 0, rfl, Nat.le_refl _, by omega, fun h => absurd h (by simp)⟩, fun e he => by cases he⟩
    go_upto_region 11 with (at_builtin; (refine wpList_append_E rfl (.tmp 30) (.tmp 37) rfl (w.heap.size + 1) _ j zs rfl HOW.out (some ⟨sb, 0, none⟩) 1 1 [eK s] rfl rfl HR1.out hk1 hbase ?_; intro v2 w7 hown7 hg7 hat7; have hb7 : Below (w.heap.size + 1) w6 w7 := (Below.refl _ _).grown hg7 hbase (fun q hq => (HOW.out.lt q hq).1); obtain ⟨g2, cap2, hv2⟩ := own_slice hown7; rw [hv2]))
    rw [hv2, ← HT.out] at hown7
    clear x0 x1 x2 x3 x4 x5 x6 x7 x8 x9 x10 x11 x12
    have hx7 := hx.belowB hb7 (by omega)
    have hbw7 : Below w.heap.size w w7 := hbw.trans (hb7.mono (by omega))
    have hz7 := hb7.size
    obtain ⟨⟨x70, x71, x72, x73, x74, x75⟩, ⟨x76, x77, x78, x79, x710, x711⟩, x712⟩ := hx7.get6
    go_wp2_with fail
    go_roundw
    case rel => exact ⟨j + 1, p + r, 0, _, cap2, _, _, by omega, HP.out, (by have h := HRR.out; rw [Nat.sub_self] at h; exact h : 0 = (n - (j + 1)) * r), by omega, rfl, rfl, HSN.out, hx7, hown7, hbw7, by omega⟩
    case measure => simp [lenV]; omega
   ·have HSN : Hid (SlE w w.heap.size (.slice (some ⟨bl, o + b * 2, none⟩) (r - b) (c1 - b)) (l.drop (p + b))) := by
     show SlE w w.heap.size _ _
     by_cases hrb : b < r
     ·have h := hsl.out.dropN hrb
      rwa [List.drop_drop] at h
     ·have h0 : l.drop (p + b) = [] := by rw [← List.drop_drop]; exact List.drop_eq_nil_of_le (by rw [HRL.out]; omega)
      rw [h0, show r - b = 0 by omega]
      exact ⟨⟨_, c1 - b, rfl, by simp, by omega, fun h => absurd h (by simp)⟩, fun e he => by cases he⟩
    go_upto_region 11 with (at_builtin; (refine wpList_append_E rfl (.tmp 30) (.tmp 37) rfl (w.heap.size + 1) _ j zs rfl HOW.out (some ⟨sb, 0, none⟩) 1 1 [eK s] rfl rfl HR1.out hk1 hbase ?_; intro v2 w7 hown7 hg7 hat7; have hb7 : Below (w.heap.size + 1) w6 w7 := (Below.refl _ _).grown hg7 hbase (fun q hq => (HOW.out.lt q hq).1); obtain ⟨g2, cap2, hv2⟩ := own_slice hown7; rw [hv2]))
    rw [hv2, ← HT.out] at hown7
    clear x0 x1 x2 x3 x4 x5 x6 x7 x8 x9 x10 x11 x12
    have hx7 := hx.belowB hb7 (by omega)
    have hbw7 : Below w.heap.size w w7 := hbw.trans (hb7.mono (by omega))
    have hz7 := hb7.size
    obtain ⟨⟨x70, x71, x72, x73, x74, x75⟩, ⟨x76, x77, x78, x79, x710, x711⟩, x712⟩ := hx7.get6
    go_wp2_with fail
    go_roundw
    case rel => exact ⟨j + 1, p + b, r - b, _, cap2, _, _, by omega, HP.out, HRR.out, by omega, rfl, rfl, HSN.out, hx7, hown7, hbw7, by omega⟩
    case measure => simp [lenV]; omega
  ·obtain rfl : j = n := by omega
   have hr0 : r = 0 := by rw [hr.out, Nat.sub_self, Nat.zero_mul]
   subst hr0
   rw [List.take_of_length_le (by rw [HZL.out]; exact Nat.le_refl _)] at hown
   go_wp2_with fail
   go_ret2
   exact ⟨_, rfl, ⟨SlE.of_own (xs := numsE (f := f) b j l) (by rw [HZL.out]; exact hown) (numsE_ok b j l), fun q hq => Nat.le_trans (Nat.le_succ _) (World.ownsRow.lt hown q hq).1⟩, hbw⟩
set_option maxHeartbeats 4000000 in
theorem circuit_TruncateN_nums3 (b n m c : Nat) (hb1 : 1 ≤ b) (hb2 : b ≤ 32) (hn2 : n ≤ 64) (N : Int) (vl : Value) (l : List E) (w : World) (hl : SlE w w.heap.size vl l) (hlen : l.length = n * b)
  (HC : Hid (∀ wz, Calls Try.prog 60 #[.agg #[.int .u8 3, .int .u8 f, .int .i64 b, .int .i64 N, .int .i64 m, .int .i64 c]] wz (RetC 0 wz)))
  (HI : Hid (∀ wz, Calls Try.prog 66 #[.agg #[.int .u8 3, .int .u8 f, .int .i64 b, .int .i64 N, .int .i64 m, .int .i64 c]] wz (RetI l.length wz))) :
  Calls Try.prog 35 #[.agg #[.int .u8 3, .int .u8 f, .int .i64 b, .int .i64 N, .int .i64 m, .int .i64 c], vl] w (RetSN (numsE (f := f) b n l) w) := by
 have HSL := Lib.hid hl
 obtain ⟨⟨A, cc, rfl, hlc, hcm, hA⟩, hok⟩ := hl
 have hfb0 : (1 : Int) ≤ (f : Int) := by rcases hf.or with rfl | rfl <;> omega
 have hfb1 : (f : Int) ≤ 2 := by rcases hf.or with rfl | rfl <;> omega
 have hl2 : l.length ≤ 2048 := by rw [hlen]; exact Nat.le_trans (Nat.mul_le_mul hn2 hb2) (by omega)
 have HLEN := Lib.hid hlen
 have hb00 : Below w.heap.size w w := Below.refl _ _
 have HZL := Lib.hid (numsE_length (f := f) b n l)
 clear hlen
 go_enter Try.func35, Try.ntmps35
 go_upto_region 1 with fail
 have hx := Vs.new w [.int .u8 3, .int .u8 f, .int .i64 b, .int .i64 N, .int .i64 m, .int .i64 c] #[.int .u8 3, .int .u8 f, .int .i64 b, .int .i64 N, .int .i64 m, .int .i64 c] 60 rfl
 have hbA : Below w.heap.size w (w.alloc (.cells #[.int .u8 3, .int .u8 f, .int .i64 b, .int .i64 N, .int .i64 m, .int .i64 c] 60)) := by repeat (first | exact bA | with_reducible assumption | apply bB)
 replace hb00 := bl_call hb00 (Nat.le_refl _) hbA
 clear hbA
 generalize w.alloc (.cells #[.int .u8 3, .int .u8 f, .int .i64 b, .int .i64 N, .int .i64 m, .int .i64 c] 60) = w1 at hb00 hx ⊢
 obtain ⟨⟨x0, x1, x2, x3, x4, x5⟩, ⟨x6, x7, x8, x9, x10, x11⟩, x12⟩ := hx.get6
 have hxl : w.heap.size < w1.heap.size := hx.lt
 go_upto_region 10 with (first
  | (go_at_call 60; refine (HC.out _).mono ?_; rintro e w2 ⟨rfl, hb2⟩; replace hb00 := bl_call hb00 (Nat.le_refl _) hb2; replace hx := hx.call hb2; obtain ⟨⟨x0, x1, x2, x3, x4, x5⟩, ⟨x6, x7, x8, x9, x10, x11⟩, x12⟩ := hx.get6)
  | (go_at_call 66; refine (HI.out _).mono ?_; rintro e w3 ⟨rfl, hb3⟩; replace hb00 := bl_call hb00 (Nat.le_refl _) hb3; replace hx := hx.call hb3; obtain ⟨⟨x0, x1, x2, x3, x4, x5⟩, ⟨x6, x7, x8, x9, x10, x11⟩, x12⟩ := hx.get6))
 have hsz : w.heap.size + 1 ≤ w3.heap.size := hx.lt
 clear HC HI hb2 hb3
 clear x0 x1 x2 x3 x4 x5 x6 x7 x8 x9 x10 x11 x12
 go_wp2_with fail
 go_loopw [1, 7] (fun v1 v7 wr => ∃ (j p r : Nat) (A' : Option Addr) (cp : Nat) (A1 : Option Addr) (c1 : Nat), j ≤ n ∧ Hid (p = j * b) ∧ Hid (r = (n - j) * b) ∧ r ≤ 2048 ∧ v1 = .slice A1 r c1 ∧ v7 = .slice A' j cp ∧ Hid (SlE w w.heap.size (.slice A1 r c1) (l.drop p)) ∧
  Vs wr w.heap.size [.int .u8 3, .int .u8 f, .int .i64 b, .int .i64 N, .int .i64 m, .int .i64 c] ∧ wr.ownsRow (w.heap.size + 1) 99 2 (.slice A' j cp) j (cellsE ((numsE (f := f) b n l).take j)) ∧ Below w.heap.size w wr ∧ w.heap.size + 1 ≤ wr.heap.size) (fun v1 _ _ => lenV v1)
 case atStart => exact ⟨0, 0, l.length, none, 0, A, cc, Nat.zero_le _, (by rw [Nat.zero_mul] : 0 = 0 * b), (by rw [Nat.sub_zero]; exact HLEN.out : l.length = (n - 0) * b), hl2, rfl, rfl, (by rw [List.drop_zero]; exact HSL.out : SlE w w.heap.size (.slice A l.length cc) (l.drop 0)), hx, World.ownsRow_nil _ _ _ _, hb00, hsz⟩
 case round =>
  clear hx hb00 hsz hxl
  obtain ⟨j, p, r, A', cp, A1, c1, hj, hp, hr, hr2, rfl, rfl, hsl, hx, hown, hbw, hsz⟩ := hrel
  obtain ⟨⟨x0, x1, x2, x3, x4, x5⟩, ⟨x6, x7, x8, x9, x10, x11⟩, x12⟩ := hx.get6
  by_cases hjn : j < n
  ·have hbr : b ≤ r := by rw [hr.out]; exact Nat.le_mul_of_pos_left b (by omega)
   have hrl : (l.drop p).length = r ∧ r ≤ c1 ∧ c1 ≤ 9223372036854775807 ∧ ∃ bl o, A1 = some ⟨bl, o, none⟩ := by
    obtain ⟨⟨A2, c2, hh, h1, h2, h3⟩, _⟩ := hsl.out
    injection hh with e1 e2 e3
    subst e1 e3
    rw [← e2] at h1 h3
    obtain ⟨bl, o, hA, _⟩ := h3 (by omega)
    exact ⟨e2.symm, h1, h2, bl, o, hA⟩
   obtain ⟨hrl, hrc, hcm1, bl, o, rfl⟩ := hrl
   have HRL := Lib.hid hrl
   have HTK := Lib.hid (hsl.out.takeN (n := b) hbr)
   have hbl2 : ((l.drop p).take b).length = b := by rw [List.length_take]; omega
   have HNUM : Hid (∀ wz, Below w.heap.size w wz → Calls Try.prog 67 #[.agg #[.int .u8 3, .int .u8 f, .int .i64 b, .int .i64 N, .int .i64 m, .int .i64 c], .slice (some ⟨bl, o, none⟩) b c1] wz (RetK (knum (kEs f ((l.drop p).take b))) wz)) :=
    fun wz hb => circuit_numberL hf 3 b m c N _ ((l.drop p).take b) wz ((HTK.out.below hb).mono hb.size) (by rw [hbl2]; omega)
   obtain ⟨s, hs⟩ : ∃ s, knum (kEs f ((l.drop p).take b)) = s := ⟨_, rfl⟩
   rw [hs] at HNUM
   have HAT : Hid ((numsE (f := f) b n l)[j]? = some (eK s)) := by
    show (numsE (f := f) b n l)[j]? = some (eK s)
    rw [numsE_at b n l j hjn, ← hs, ← hp.out]
    unfold kEs
    rw [List.map_take, List.map_drop]
   have hb0 : (0 : Int) ≤ (b : Int) := by omega
   have hbri : (b : Int) ≤ (r : Int) := by omega
   have hbc : b ≤ c1 := by omega
   have hbc2 : (b : Int) ≤ (c1 : Int) := by omega
   have hr0 : (0 : Int) < (r : Int) := by omega
   clear hs hrl hbl2 HTK
   go_upto_region 12 with fail
   refine region_G (n := 8) (m := 10) (f := 8) (by kernel_rfl) (by kernel_rfl) rfl ?_
   refine WpG.vD 0 (some 30) ?_ rfl rfl (by kernel_rfl) (fun _ _ _ h => h) rfl (fun wz hwz => ?_) ?_
   rotate_left
   ·go_simp; try (with_reducible rfl)
   simp only [Zp, Zq, Zr, Zs]
   refine WpG.vD 1 (some 31) ?_ rfl rfl (by kernel_rfl) (fun _ _ _ h => h) rfl (fun wz hwz => ?_) ?_
   rotate_left
   ·(obtain ⟨hcz, hfz⟩ := bcell (hwz); go_simp; try (with_reducible rfl))
   simp only [Zp, Zq, Zr, Zs]
   refine WpG.vD 2 (some 32) ?_ rfl rfl (by kernel_rfl) (fun _ _ _ h => h) rfl (fun wz hwz => ?_) ?_
   rotate_left
   ·go_simp; try (with_reducible rfl)
   simp only [Zp, Zq, Zr, Zs]
   refine WpG.vD 3 (some 33) ?_ rfl rfl (by kernel_rfl) (fun _ _ _ h => h) rfl (fun wz hwz => ?_) ?_
   rotate_left
   ·go_simp; try (with_reducible rfl)
   simp only [Zp, Zq, Zr, Zs]
   refine WpG.vD 4 (some 34) ?_ rfl rfl (by kernel_rfl) (fun _ _ _ h => h) rfl (fun wz hwz => ?_) ?_
   rotate_left
   ·(obtain ⟨hcz, hfz⟩ := bcell (hwz); go_simp; try (with_reducible rfl))
   simp only [Zp, Zq, Zr, Zs]
   refine WpG.vD 5 (some 35) ?_ rfl rfl (by kernel_rfl) (fun _ _ _ h => h) rfl (fun wz hwz => ?_) ?_
   rotate_left
   ·go_simp; try (with_reducible rfl)
   simp only [Zp, Zq, Zr, Zs]
   refine WpG.takeD 6 (some 36) rfl rfl (by kernel_rfl) (fun _ _ _ h => h) (.call rfl (fun wz hwz => HNUM.out wz (hbw.trans ((hwz).mono hbw.size))) (fun wz hwz => ?_)) ?_
   ·go_simp; try (with_reducible rfl)
   simp only [Zp, Zq, Zr, Zs]
   refine WpG.oneD 7 (some 37) rfl rfl (by kernel_rfl) (fun g : Nat => Value.slice (some ⟨g, 0, none⟩) 1 1) (fun g wz => wr.heap.size ≤ g ∧ BlkE wz g [eK s]) (fun _ _ _ h hb => ⟨h.1, h.2.call hb⟩) (Fresh.slice 1 1 [.int .u64 (lo s), .int .u64 (hi s)] 99 rfl (fun wz hwz => (hwz).size) (fun wz hwz => by go_simp; try (with_reducible rfl)) (R := fun g wz => BlkE wz g [eK s]) (fun wz hwz => BlkE.new wz _ _ rfl)) (fun sb w0 hw0 hR0 => ?_)
   simp only [Zp, Zq, Zr, Zs]
   refine WpG.done (by kernel_rfl) (fun w6 hS => ?_)
   (try simp only [List.drop_succ_cons]); (try simp only [List.drop_zero]); (try simp only [Nat.reduceSub]); (try simp only [List.take_succ_cons]); (try simp only [List.take_zero])
   obtain ⟨hb6, hsb, hBs⟩ := hS
   clear x0 x1 x2 x3 x4 x5 x6 x7 x8 x9 x10 x11 x12
   have hz6 := hb6.size
   replace hbw := bl_call hbw (Nat.le_refl _) hb6
   replace hx := hx.call hb6
   replace hown := own_call hown hb6
   obtain ⟨⟨x0, x1, x2, x3, x4, x5⟩, ⟨x6, x7, x8, x9, x10, x11⟩, x12⟩ := hx.get6
   obtain ⟨zs, hzs⟩ : ∃ zs, (numsE (f := f) b n l).take j = zs := ⟨_, rfl⟩
   rw [hzs] at hown
   have HOW := Lib.hid hown
   have HT : Hid (cellsE ((numsE (f := f) b n l).take (j + 1)) = cellsE (zs ++ [eK s])) := by
    show cellsE ((numsE (f := f) b n l).take (j + 1)) = _
    rw [List.take_add_one, HAT.out, hzs]
    rfl
   have HR1 : Hid (0 < 1 → ∃ b o, (some ⟨sb, 0, none⟩ : Option Addr) = some ⟨b, o, none⟩ ∧ RowE w6 b o [eK s]) := fun _ => ⟨_, _, rfl, hBs.rowE⟩
   have hk1 : j + 1 ≤ 1099511627776 := by omega
   have hbase : w.heap.size + 1 ≤ w6.heap.size := by omega
   have HP : Hid (p + b = (j + 1) * b) := by show p + b = (j + 1) * b; rw [hp.out, Nat.succ_mul]
   have HRR : Hid (r - b = (n - (j + 1)) * b) := by
    show r - b = (n - (j + 1)) * b
    obtain ⟨d, hd⟩ : ∃ d, n - j = d + 1 := ⟨n - j - 1, by omega⟩
    rw [hr.out, hd, show n - (j + 1) = d by omega, Nat.succ_mul, Nat.add_sub_cancel]
   clear hown hzs hb6 hBs hR0 hw0
   by_cases hcb : c1 = b
   ·subst hcb
    obtain rfl : r = c1 := by omega
    have HSN : Hid (SlE w w.heap.size (.slice (some ⟨bl, o, none⟩) 0 0) (l.drop (p + r))) := by
     have h0 : l.drop (p + r) = [] := by rw [← List.drop_drop]; exact List.drop_eq_nil_of_le (by rw [HRL.out]; exact Nat.le_refl _)
     rw [h0]
     exact ⟨⟨_, 0, rfl, Nat.le_refl _, by omega, fun h => absurd h (by simp)⟩, fun e he => by cases he⟩
    go_upto_region 11 with (at_builtin; (refine wpList_append_E rfl (.tmp 30) (.tmp 37) rfl (w.heap.size + 1) _ j zs rfl HOW.out (some ⟨sb, 0, none⟩) 1 1 [eK s] rfl rfl HR1.out hk1 hbase ?_; intro v2 w7 hown7 hg7 hat7; have hb7 : Below (w.heap.size + 1) w6 w7 := (Below.refl _ _).grown hg7 hbase (fun q hq => (HOW.out.lt q hq).1); obtain ⟨g2, cap2, hv2⟩ := own_slice hown7; rw [hv2]))
    rw [hv2, ← HT.out] at hown7
    clear x0 x1 x2 x3 x4 x5 x6 x7 x8 x9 x10 x11 x12
    have hx7 := hx.belowB hb7 (by omega)
    have hbw7 : Below w.heap.size w w7 := hbw.trans (hb7.mono (by omega))
    have hz7 := hb7.size
    obtain ⟨⟨x70, x71, x72, x73, x74, x75⟩, ⟨x76, x77, x78, x79, x710, x711⟩, x712⟩ := hx7.get6
    go_wp2_with fail
    go_roundw
    case rel => exact ⟨j + 1, p + r, 0, _, cap2, _, _, by omega, HP.out, (by have h := HRR.out; rw [Nat.sub_self] at h; exact h : 0 = (n - (j + 1)) * r), by omega, rfl, rfl, HSN.out, hx7, hown7, hbw7, by omega⟩
    case measure => simp [lenV]; omega
   ·have HSN : Hid (SlE w w.heap.size (.slice (some ⟨bl, o + b * 2, none⟩) (r - b) (c1 - b)) (l.drop (p + b))) := by
     show SlE w w.heap.size _ _
     by_cases hrb : b < r
     ·have h := hsl.out.dropN hrb
      rwa [List.drop_drop] at h
     ·have h0 : l.drop (p + b) = [] := by rw [← List.drop_drop]; exact List.drop_eq_nil_of_le (by rw [HRL.out]; omega)
      rw [h0, show r - b = 0 by omega]
      exact ⟨⟨_, c1 - b, rfl, by simp, by omega, fun h => absurd h (by simp)⟩, fun e he => by cases he⟩
    go_upto_region 11 with (at_builtin; (refine wpList_append_E rfl (.tmp 30) (.tmp 37) rfl (w.heap.size + 1) _ j zs rfl HOW.out (some ⟨sb, 0, none⟩) 1 1 [eK s] rfl rfl HR1.out hk1 hbase ?_; intro v2 w7 hown7 hg7 hat7; have hb7 : Below (w.heap.size + 1) w6 w7 := (Below.refl _ _).grown hg7 hbase (fun q hq => (HOW.out.lt q hq).1); obtain ⟨g2, cap2, hv2⟩ := own_slice hown7; rw [hv2]))
    rw [hv2, ← HT.out] at hown7
    clear x0 x1 x2 x3 x4 x5 x6 x7 x8 x9 x10 x11 x12
    have hx7 := hx.belowB hb7 (by omega)
    have hbw7 : Below w.heap.size w w7 := hbw.trans (hb7.mono (by omega))
    have hz7 := hb7.size
    obtain ⟨⟨x70, x71, x72, x73, x74, x75⟩, ⟨x76, x77, x78, x79, x710, x711⟩, x712⟩ := hx7.get6
    go_wp2_with fail
    go_roundw
    case rel => exact ⟨j + 1, p + b, r - b, _, cap2, _, _, by omega, HP.out, HRR.out, by omega, rfl, rfl, HSN.out, hx7, hown7, hbw7, by omega⟩
    case measure => simp [lenV]; omega
  ·obtain rfl : j = n := by omega
   have hr0 : r = 0 := by rw [hr.out, Nat.sub_self, Nat.zero_mul]
   subst hr0
   rw [List.take_of_length_le (by rw [HZL.out]; exact Nat.le_refl _)] at hown
   go_wp2_with fail
   go_ret2
   exact ⟨_, rfl, ⟨SlE.of_own (xs := numsE (f := f) b j l) (by rw [HZL.out]; exact hown) (numsE_ok b j l), fun q hq => Nat.le_trans (Nat.le_succ _) (World.ownsRow.lt hown q hq).1⟩, hbw⟩

omit hf in
set_option maxHeartbeats 4000000 in
theorem circuit_TruncateN_first (K B N M C : Int) (n : Nat) (hk2 : ¬ K = 2) (hk3 : ¬ K = 3) (vl : Value) (l : List E) (w : World) (hl : SlE w w.heap.size vl l) (hnl : n ≤ l.length) (hl2 : l.length ≤ 2048)
  (HC : Hid (∀ wz, Calls Try.prog 60 #[.agg #[.int .u8 K, .int .u8 f, .int .i64 B, .int .i64 N, .int .i64 M, .int .i64 C]] wz (RetC 0 wz)))
  (HI : Hid (∀ wz, Calls Try.prog 66 #[.agg #[.int .u8 K, .int .u8 f, .int .i64 B, .int .i64 N, .int .i64 M, .int .i64 C]] wz (RetI l.length wz)))
  (HO : Hid (∀ wz, Calls Try.prog 32 #[.agg #[.int .u8 K, .int .u8 f, .int .i64 B, .int .i64 N, .int .i64 M, .int .i64 C]] wz (RetI n wz))) :
  Calls Try.prog 35 #[.agg #[.int .u8 K, .int .u8 f, .int .i64 B, .int .i64 N, .int .i64 M, .int .i64 C], vl] w (RetSN (l.take n) w) := by
 have HSL := Lib.hid hl
 obtain ⟨⟨A, cc, rfl, hlc, hcm, hA⟩, hok⟩ := hl
 have HTK := Lib.hid (HSL.out.takeN (n := n) hnl)
 have hb00 : Below w.heap.size w w := Below.refl _ _
 have HM : Hid ((l.take n).length = n) := by show (l.take n).length = n; rw [List.length_take]; omega
 have hn0 : (0 : Int) ≤ (n : Int) := by omega
 have hnc : n ≤ cc := by omega
 have hnci : (n : Int) ≤ (cc : Int) := by omega
 have hnli : (n : Int) ≤ (l.length : Int) := by omega
 clear hA
 go_enter Try.func35, Try.ntmps35
 go_upto_region 1 with fail
 have hx := Vs.new w [.int .u8 K, .int .u8 f, .int .i64 B, .int .i64 N, .int .i64 M, .int .i64 C] #[.int .u8 K, .int .u8 f, .int .i64 B, .int .i64 N, .int .i64 M, .int .i64 C] 60 rfl
 have hbA : Below w.heap.size w (w.alloc (.cells #[.int .u8 K, .int .u8 f, .int .i64 B, .int .i64 N, .int .i64 M, .int .i64 C] 60)) := by repeat (first | exact bA | with_reducible assumption | apply bB)
 replace hb00 := bl_call hb00 (Nat.le_refl _) hbA
 clear hbA
 generalize w.alloc (.cells #[.int .u8 K, .int .u8 f, .int .i64 B, .int .i64 N, .int .i64 M, .int .i64 C] 60) = w1 at hb00 hx ⊢
 obtain ⟨⟨x0, x1, x2, x3, x4, x5⟩, ⟨x6, x7, x8, x9, x10, x11⟩, x12⟩ := hx.get6
 go_upto_region 14 with (first
  | (go_at_call 60; refine (HC.out _).mono ?_; rintro e w2 ⟨rfl, hb2⟩; replace hb00 := bl_call hb00 (Nat.le_refl _) hb2; replace hx := hx.call hb2; obtain ⟨⟨x0, x1, x2, x3, x4, x5⟩, ⟨x6, x7, x8, x9, x10, x11⟩, x12⟩ := hx.get6)
  | (go_at_call 66; refine (HI.out _).mono ?_; rintro e w3 ⟨rfl, hb3⟩; replace hb00 := bl_call hb00 (Nat.le_refl _) hb3; replace hx := hx.call hb3; obtain ⟨⟨x0, x1, x2, x3, x4, x5⟩, ⟨x6, x7, x8, x9, x10, x11⟩, x12⟩ := hx.get6))
 have hsz : w.heap.size + 1 ≤ w3.heap.size := hx.lt
 clear HC HI hb2 hb3
 clear x0 x1 x2 x3 x4 x5 x6 x7 x8 x9 x10 x11 x12
 have hown0 : (w3.alloc (.cells #[] 99)).ownsRow w3.heap.size 99 2 (.slice (some ⟨w3.heap.size, 0, none⟩) 0 0) 0 (cellsE []) := World.ownsRow_made w3 #[] 0 (Nat.le_refl _) (by unfold maxLen; omega) rfl
 have hbA : Below w3.heap.size w3 (w3.alloc (.cells #[] 99)) := by repeat (first | exact bA | with_reducible assumption | apply bB | (refine bC ?_ (by dsimp only; omega)) | apply bD | apply bE | (refine bF ?_ (by assumption)))
 replace hb00 := bl_call hb00 (Nat.le_refl _) hbA
 replace hx := hx.call hbA
 obtain ⟨⟨x0, x1, x2, x3, x4, x5⟩, ⟨x6, x7, x8, x9, x10, x11⟩, x12⟩ := hx.get6
 have HW0 := Lib.hid hown0
 have hz3 : w3.heap.size ≤ (w3.alloc (.cells #[] 99)).heap.size := by rw [World.size_alloc]; omega
 clear hown0
 go_wp2_with (first
  | (go_at_call 32; refine (HO.out _).mono ?_; rintro e w5 ⟨rfl, hb5⟩; have hbw5 := bl_call hb00 (Nat.le_refl _) hb5; have HOW := Lib.hid (own_call HW0.out hb5); have hbase : w3.heap.size ≤ w5.heap.size := Nat.le_trans hz3 hb5.size; have HR1 : Hid (0 < n → ∃ b o, A = some ⟨b, o, none⟩ ∧ RowE w5 b o (l.take n)) := (fun h0 => by
    obtain ⟨⟨A2, c2, hh, _, _, h3⟩, _⟩ := HTK.out.later hbw5
    injection hh with e1 e2 e3
    subst e1
    rw [← e2] at h3
    obtain ⟨b, o, hA, _, hr⟩ := h3 h0
    exact ⟨b, o, hA, hr⟩))
  | (at_builtin; (refine wpList_append_E rfl (.tmp 40) (.tmp 44) rfl w3.heap.size _ 0 [] rfl HOW.out A n cc (l.take n) rfl HM.out HR1.out (by omega) hbase ?_; intro v2 w7 hown7 hg7 hat7; have hb7 : Below w3.heap.size w5 w7 := (Below.refl _ _).grown hg7 hbase (fun q hq => (HOW.out.lt q hq).1); obtain ⟨g2, cap2, hv2⟩ := own_shape hown7; rw [hv2])))
 go_ret2
 rw [hv2, Nat.zero_add, List.nil_append] at hown7
 exact ⟨_, rfl, ⟨SlE.of_own (xs := l.take n) (by rw [HM.out]; exact hown7) (fun e he => hok e (List.mem_of_mem_take he)), fun q hq => (by have := (World.ownsRow.lt hown7 q hq).1; omega)⟩, hbw5.trans (hb7.mono (by omega))⟩

theorem circuit_TruncateN (y : CK) (hy : y.ok) (hcalls : ¬ 511 < y.calls) (vl : Value) (l : List E) (w : World) (hl : SlE w w.heap.size vl l) (hlen : l.length = y.nin) :
  Calls Try.prog 35 #[y.val f, vl] w (RetSN (truncE f y l) w) := by
 have HC : Hid (∀ wz, Calls Try.prog 60 #[y.val f] wz (RetC 0 wz)) := by
  intro wz
  have h := circuit_Check_ok hf y hy wz
  rwa [CK.code_ok hcalls] at h
 have HI : Hid (∀ wz, Calls Try.prog 66 #[y.val f] wz (RetI l.length wz)) := by
  intro wz
  rw [hlen]
  exact circuit_In f y hy wz
 have HO := Lib.hid (fun wz => circuit_Out f y hy wz)
 have hnin := CK.nin_le hy
 cases y with
 | sum b => exact circuit_TruncateN_nums2 hf b 1 0 0 hy.1 hy.2 (by omega) 0 vl l w hl (by rw [hlen]; exact (Nat.one_mul b).symm) HC HI
 | vec b n c => exact circuit_TruncateN_nums3 hf b n 0 c hy.1.1 hy.1.2 hy.2.1.2 n vl l w hl hlen HC HI
 | count => exact circuit_TruncateN_first 1 0 0 0 0 1 (by decide) (by decide) vl l w hl (by rw [hlen]; exact CK.nout_nin .count (by decide)) (by rw [hlen]; exact hnin) HC HI HO
 | hist n c => exact circuit_TruncateN_first 4 0 n 0 c n (by decide) (by decide) vl l w hl (by rw [hlen]; exact Nat.le_refl _) (by rw [hlen]; exact hnin) HC HI HO
 | multi n m c => exact circuit_TruncateN_first 5 0 n m c n (by decide) (by decide) vl l w hl (by rw [hlen]; exact Nat.le_add_right _ _) (by rw [hlen]; exact hnin) HC HI HO

end

end Go.Proofs.Ytbakkmfjamcbfaa
