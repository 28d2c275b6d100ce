/-
 PkF, PkG, PkH, PkI, PkK, PkJ: for TotalBytes.
-/
import Derived.BigQuiet
import Derived.WalkLawsBesides
import Derived.Recover
import Derived.Test.YtbakkmfjamcbfaaTab
namespace Go.Proofs.Ytbakkmfjamcbfaa
open Go.RowKit Fm
set_option linter.unusedVariables false
set_option maxRecDepth 100000

def RetTV (f n : Nat) (bs : List Int) (w : World) (e : Ending) (w' : World) : Prop :=
 (∃ (S : KL f) (A : Option Addr) (c : Nat), e = .returned (.tuple #[.slice A n c, .int .i64 0]) ∧ S.length = n ∧ vecB S = bs ∧ w'.ownsRow w.heap.size 99 2 (.slice A n c) n (cellsE (esK S)) ∧ Below w.heap.size w w') ∨
 (e = .returned (.tuple #[.slice none 0 0, .int .i64 7]) ∧ (∀ S : KL f, S.length = n → vecB S ≠ bs) ∧ Below w.heap.size w w')

theorem RowB.dropS {w : World} {b o : Nat} {xs : List Int} (h : RowB w b o xs) (s : Nat) : RowB w b (o + s) (xs.drop s) := fun i e hi => by
 rw [List.getElem?_drop] at hi
 have := h _ _ hi
 rwa [Nat.add_assoc]
theorem RowB.takeS {w : World} {b o : Nat} {xs : List Int} (h : RowB w b o xs) (s : Nat) : RowB w b o (xs.take s) := fun i e hi => h i e (by
 rw [List.getElem?_take] at hi
 split at hi
 ·exact hi
 ·cases hi)
theorem vecB_snoc {f : Nat} (l : KL f) (x : Fin (Pm f)) : vecB (l ++ [x]) = vecB l ++ bytesK x := by
 unfold vecB
 rw [List.flatMap_append]
 simp

theorem vecB_miss {f : Nat} (l T : KL f) (rest : List Int) (S : Nat) (hS : sizeK f = S) (h : vecB T = vecB l ++ rest) (hk : l.length < T.length) : ∃ y : Fin (Pm f), bytesK y = rest.take S := by
 have h1 : vecB (T.take l.length) ++ vecB (T.drop l.length) = vecB l ++ rest := by
  rw [← h]
  unfold vecB
  rw [← List.flatMap_append, List.take_append_drop]
 have h2 := (List.append_inj h1 (by rw [vecB_length, vecB_length, List.length_take, Nat.min_eq_left (by omega)])).2
 obtain ⟨y, T', hy⟩ : ∃ y T', T.drop l.length = y :: T' := by
  cases hd : T.drop l.length with
  | nil =>
   have := List.drop_eq_nil_iff.1 hd
   omega
  | cons y T' => exact ⟨y, T', rfl⟩
 refine ⟨y, ?_⟩
 rw [← h2, hy]
 have e : vecB (y :: T') = bytesK y ++ vecB T' := by
  unfold vecB
  rw [List.flatMap_cons]
 rw [e, List.take_append_of_le_length (by rw [bytesK_length, hS]; exact Nat.le_refl _), List.take_of_length_le (by rw [bytesK_length, hS]; exact Nat.le_refl _)]

theorem tkE_shape {f : Nat} {bs : List Int} {v : Value} {c : Int} (h : TkE (f := f) bs v c) : ∃ v0 v1 : Int, v = .agg #[.int .u64 v0, .int .u64 v1] ∧ ((∃ x : Fin (Pm f), bytesK x = bs ∧ v0 = lo x ∧ v1 = hi x ∧ c = 0) ∨ ((∀ x : Fin (Pm f), bytesK x ≠ bs) ∧ c = 7)) := by
 rcases h with ⟨x, hx, rfl, rfl⟩ | ⟨h, rfl, rfl⟩
 ·exact ⟨_, _, rfl, .inl ⟨x, hx, rfl, rfl, rfl⟩⟩
 ·exact ⟨_, _, rfl, .inr ⟨h, rfl⟩⟩

section
variable {f : Nat} (hf : IsF f)
include hf

set_option maxHeartbeats 8000000 in
theorem field_TakeVec (bs : List Int) (n m : Nat) (hm : bs.length = m) (hmn : m = n * sizeK f) (hn : n ≤ 4096) (h8 : B8 bs) (A : Option Addr) (c : Nat) (hc : m ≤ c ∧ c ≤ 9223372036854775807) (w : World) (hr : 0 < m → ∃ b o, A = some ⟨b, o, none⟩ ∧ RowB w b o bs ∧ b < w.heap.size) :
  Calls Try.prog 80 #[.int .u8 f, .slice A m c, .int .i64 n] w (RetTV f n bs w) := by
 have HV := Lib.hid (field_ValidK hf)
 have HSZ := Lib.hid (field_Size hf)
 have HTK := Lib.hid (field_Take hf)
 have hsk : sizeK f ≤ 16 ∧ 1 ≤ sizeK f := by unfold sizeK; split <;> omega
 have hm4 : m ≤ 4096 * 16 := by rw [hmn]; exact Nat.mul_le_mul hn hsk.1
 have HBK := Lib.hid (fun x : Fin (Pm f) => bytesK_length x)
 obtain ⟨S, hS⟩ : ∃ S, sizeK f = S := ⟨_, rfl⟩
 rw [hS] at HSZ hsk hmn HTK HBK
 have hmul : (n : Int) * (S : Int) = (m : Int) := by rw [hmn, Int.natCast_mul]
 have hwm : IntKind.i64.wrap (m : Int) = (m : Int) := IntWalk.i64_in _ (by omega)
 have HS := Lib.hid hS
 have HMN := Lib.hid hmn
 have HM := Lib.hid hm
 have H8 := Lib.hid h8
 have HR := Lib.hid hr
 have hfb0 : (1 : Int) ≤ (f : Int) := by rcases hf.or with rfl | rfl <;> omega
 have hfb1 : (f : Int) ≤ 2 := by rcases hf.or with rfl | rfl <;> omega
 clear hS hmn hm h8 hr
 go_enter Try.func80, Try.ntmps80
 go_wp2_with (first
  | (go_at_call 97; refine (HV.out _).mono ?_; rintro e w5 ⟨rfl, rfl⟩)
  | (go_at_call 81; refine (HSZ.out _).mono ?_; rintro e w5 ⟨rfl, rfl⟩))
 go_loopw [1, 8] (fun v1 v8 wr => ∃ (l : KL f) (rest : List Int) (A1 : Option Addr) (j q c1 : Nat) (A8 : Option Addr) (k c8 : Nat), l.length = k ∧ k + j = n ∧ bs = vecB l ++ rest ∧ rest.length = q ∧ q = j * S ∧ q ≤ c1 ∧ c1 ≤ 9223372036854775807 ∧ v1 = .slice A1 q c1 ∧ v8 = .slice A8 k c8 ∧ (0 < q → ∃ b o, A1 = some ⟨b, o, none⟩ ∧ RowB w b o rest ∧ b < w.heap.size) ∧ wr.ownsRow w.heap.size 99 2 (.slice A8 k c8) k (cellsE (esK l)) ∧ Below w.heap.size w wr) (fun v1 _ wr => match v1 with | .slice _ q _ => q | _ => 0)
 case atStart => exact ⟨[], bs, A, n, m, c, none, 0, 0, rfl, by omega, rfl, HM.out, HMN.out, hc.1, hc.2, rfl, rfl, HR.out, World.ownsRow_nil _ _ _ _, Below.refl _ _⟩
 case round =>
  obtain ⟨l, rest, A1, j, q, c1, A8, k, c8, hlk, hkj, hbs, hrl, hqj, hqc, hc1, rfl, rfl, hrow, hown, hbw⟩ := hrel
  have HOWN := Lib.hid hown
  have HBS := Lib.hid hbs
  have HLK := Lib.hid hlk
  have HRL := Lib.hid hrl
  by_cases hq : 0 < q
  ·obtain ⟨b, o, rfl, hrb, hblt⟩ := hrow hq
   obtain ⟨j1, rfl⟩ : ∃ j1, j = j1 + 1 := by
    cases j with
    | zero => rw [Nat.zero_mul] at hqj; omega
    | succ j1 => exact ⟨j1, rfl⟩
   rw [Nat.succ_mul] at hqj
   obtain ⟨q1, hq1⟩ : ∃ q1, j1 * S = q1 := ⟨_, rfl⟩
   rw [hq1] at hqj
   have HQ1 := Lib.hid hq1
   have hSq : (S : Int) ≤ (q : Int) := by omega
   have hSc : (S : Int) ≤ (c1 : Int) := by omega
   have hS0 : (0 : Int) ≤ (S : Int) := by omega
   have HT9 := Lib.hid (HTK.out (rest.take S) (by rw [List.length_take, hrl]; omega) (fun x hx => H8.out x (by rw [hbs]; exact List.mem_append_right _ (List.mem_of_mem_take hx))) b o S c1 rfl wr (hrb.takeS S |>.belowB hbw hblt) (Nat.lt_of_lt_of_le hblt hbw.size))
   have HRB := Lib.hid hrb
   have HQJ := Lib.hid hqj
   have HROW := Lib.hid hrow
   clear hq1 hbs hlk hrl hrow hown hrb hqj
   go_upto_region 10 with fail
   go_upto_region 11 with (first
    | (go_at_call 81; refine (HSZ.out _).mono ?_; rintro e w5 ⟨rfl, rfl⟩)
    | (go_at_call 110; refine HT9.out.mono ?_; rintro e w5 ⟨v, cc, rfl, hT5, hb5⟩; obtain ⟨v0, v1, rfl, hT6⟩ := tkE_shape hT5; have HT6 := Lib.hid hT6; clear hT5 hT6))
   rcases HT6.out with ⟨x, hx, rfl, rfl, rfl⟩ | ⟨hno, rfl⟩
   ·have HX := Lib.hid hx
    clear HT6 hx HT9
    have hbw5 := bl_call hbw (Nat.le_refl _) hb5
    have hown5 := own_call HOWN.out hb5
    clear hbw hb5
    have hbA := (Below.refl w5.heap.size w5).alloc (Nat.le_refl _) (.cells #[.int .u64 (lo x), .int .u64 (hi x)] 99)
    have he : V2 (w5.alloc (.cells #[.int .u64 (lo x), .int .u64 (hi x)] 99)) w5.heap.size (.int .u64 (lo x)) (.int .u64 (hi x)) := V2.new _ _ _ _
    have hown6 := own_call hown5 hbA
    have hbw6 := bl_call hbw5 (Nat.le_refl _) hbA
    clear hbA hown5 hbw5
    have hsz6 := hbw6.size
    generalize w5.alloc (.cells #[.int .u64 (lo x), .int .u64 (hi x)] 99) = w6 at he hown6 hbw6 hsz6 ⊢
    generalize w5.heap.size = eb at he ⊢
    obtain ⟨e0, e1, e2, e3, e4⟩ := V2.mk he.c0 he.c1 he.f0 he.f1 he.lt
    have hal := (Below.refl w6.heap.size w6).alloc (Nat.le_refl _) (.cells #[.int .u64 (lo x), .int .u64 (hi x)] 99)
    have HOW7 := Lib.hid (own_call hown6 hal)
    have HBW7 := Lib.hid (bl_call hbw6 (Nat.le_refl _) hal)
    have hE : BlkE (w6.alloc (.cells #[.int .u64 (lo x), .int .u64 (hi x)] 99)) w6.heap.size [eK x] := BlkE.new w6 [eK x] _ rfl
    have HR1 := Lib.hid (show 0 < 1 → ∃ b o, (some ⟨w6.heap.size, 0, none⟩ : Option Addr) = some ⟨b, o, none⟩ ∧ RowE (w6.alloc (.cells #[.int .u64 (lo x), .int .u64 (hi x)] 99)) b o [eK x] from fun _ => ⟨_, _, rfl, hE.rowE⟩)
    have hk1 : k + 1 ≤ 1099511627776 := by omega
    have hbase : w.heap.size ≤ (w6.alloc (.cells #[.int .u64 (lo x), .int .u64 (hi x)] 99)).heap.size := Nat.le_trans hsz6 hal.size
    have HKJ := Lib.hid hkj
    have HBN := Lib.hid (show q1 ≤ c1 - S ∧ c1 - S ≤ 9223372036854775807 by have := HQJ.out; omega)
    have HQS := Lib.hid (show q - S = q1 by have := HQJ.out; omega)
    clear hal hown6 hbw6 hE hsz6 hkj
    go_wp2_with (first
     | (go_at_call 81; refine (HSZ.out _).mono ?_; rintro e w5 ⟨rfl, rfl⟩)
     | (at_builtin; (refine wpList_append_E rfl (.tmp 49) (.tmp 51) rfl w.heap.size _ k (esK l) rfl HOW7.out (some ⟨w6.heap.size, 0, none⟩) 1 1 [eK x] rfl rfl HR1.out hk1 hbase ?_; intro v2 w7 hown7 hg7 hat7; have hb7 : Below w.heap.size _ w7 := (Below.refl _ _).grown hg7 hbase (fun q hq => (HOW7.out.lt q hq).1); obtain ⟨g2, cap2, hv2⟩ := own_slice hown7; rw [hv2])))
    rw [hv2] at hown7
    have e9 : esK (l ++ [x]) = esK l ++ [eK x] := by rw [esK_append]; rfl
    refine ⟨⟨l ++ [x], rest.drop S, _, j1, q1, c1 - S, some ⟨g2, 0, none⟩, k + 1, cap2, ?_, ?_, ?_, ?_, HQ1.out.symm, HBN.out.1, HBN.out.2, by rw [HQS.out], rfl, ?_, by rw [e9]; exact hown7, HBW7.out.trans hb7⟩, ?_⟩
    ·rw [List.length_append, HLK.out]; rfl
    ·have := HKJ.out; omega
    ·rw [vecB_snoc, HX.out, List.append_assoc, List.take_append_drop]; exact HBS.out
    ·rw [List.length_drop, HRL.out]; exact HQS.out
    ·intro hp
     have h1 := HQJ.out
     have h2 := HBN.out.1
     exact ⟨b, o + S, by rw [if_neg (by omega)], HRB.out.dropS S, hblt⟩
    ·show q - S < q
     omega
   ·have HNO := Lib.hid hno
    have HBW := Lib.hid (bl_call hbw (Nat.le_refl _) hb5)
    have HKJ := Lib.hid hkj
    clear HT6 hno HT9 hbw hb5 hkj
    go_wp2_with fail
    go_ret2
    refine .inr ⟨rfl, fun T hT hv => ?_, by have hb9 := HBW.out; repeat (first | assumption | (refine bl_alloc ?_ (Nat.le_refl _) _))⟩
    obtain ⟨y, hy⟩ := vecB_miss l T rest S HS.out (hv.trans HBS.out) (by rw [HLK.out, hT]; have := HKJ.out; omega)
    exact HNO.out y hy
  ·have hj0 : j = 0 := by
    cases j with
    | zero => rfl
    | succ j1 => rw [Nat.succ_mul] at hqj; omega
   subst hj0
   obtain rfl : k = n := by omega
   obtain rfl : q = 0 := by omega
   have HBW := Lib.hid hbw
   obtain rfl : rest = [] := List.eq_nil_of_length_eq_zero hrl
   clear hbw hown hrow hbs hlk hrl hqj
   go_wp2_with fail
   go_ret2
   exact .inl ⟨l, A8, c8, rfl, HLK.out, by have h := HBS.out; rw [List.append_nil] at h; exact h.symm, HOWN.out, HBW.out⟩
end

end Go.Proofs.Ytbakkmfjamcbfaa

namespace Go.Proofs.Ytbakkmfjamcbfaa
open Go.RowKit Fm
set_option linter.unusedVariables false
set_option maxRecDepth 100000

structure RdL (w : World) (rb : Nat) (B : Nat) (xs : List Int) : Prop where
 ex : ∃ (A : Option Addr) (c : Nat), Vs w rb [.slice A xs.length c, .bool true] ∧ xs.length ≤ c ∧ c ≤ 9223372036854775807 ∧ (0 < xs.length → ∃ b o, A = some ⟨b, o, none⟩ ∧ b < B ∧ RowB w b o xs)
 l : B ≤ rb
theorem RdL.call {w w' : World} {rb B : Nat} {xs : List Int} (h : RdL w rb B xs) (hb : Below w.heap.size w w') : RdL w' rb B xs := by
 obtain ⟨⟨A, c, h1, h2, h3, h4⟩, h5⟩ := h
 refine ⟨⟨A, c, h1.call hb, h2, h3, fun hp => ?_⟩, h5⟩
 obtain ⟨b, o, e1, e2, e3⟩ := h4 hp
 have hlt := h1.lt
 exact ⟨b, o, e1, e2, fun i e hi => (hb.cell (p := ⟨b, o + i, none⟩) (by dsimp only; omega)).trans (e3 i e hi)⟩

set_option maxHeartbeats 4000000 in
theorem reader_Fail (rb B : Nat) (xs : List Int) (e : Int) (he : (e != 0) = true) (w : World) (h : RdL w rb B xs) :
  Calls Try.prog 82 #[.pointer (some ⟨rb, 0, none⟩), .int .i64 e] w fun en w' => en = .panicked [{ v := .iface 192 (.agg #[.int .i64 e]), recovered := false }] ∧ w' = w := by
 obtain ⟨⟨A, c, hV, _, _, _⟩, _⟩ := h
 have V0 := hV.cell 0 _ rfl
 have V1 := hV.cell 1 _ rfl
 go_enter Try.func82, Try.ntmps82
 go_wp2_with fail
 exact ⟨rfl, rfl, rfl⟩

set_option maxHeartbeats 4000000 in
theorem reader_Fail0 (rb B : Nat) (xs : List Int) (w : World) (h : RdL w rb B xs) :
  Calls Try.prog 82 #[.pointer (some ⟨rb, 0, none⟩), .int .i64 0] w fun en w' => en = .returned (.tuple #[]) ∧ w' = w := by
 obtain ⟨⟨A, c, hV, _, _, _⟩, _⟩ := h
 have V0 := hV.cell 0 _ rfl
 have V1 := hV.cell 1 _ rfl
 go_enter Try.func82, Try.ntmps82
 go_wp2_with fail
 exact end_none Try.results82 rfl ⟨rfl, rfl⟩

def RetRd (rb B : Nat) (bs rest : List Int) (w : World) (e : Ending) (w' : World) : Prop :=
 ∃ (A : Option Addr) (c : Nat), e = .returned (.slice A bs.length c) ∧ w'.ownsRow w.heap.size 5 1 (.slice A bs.length c) bs.length (cells8 bs) ∧ RdL w' rb B rest ∧ Exc (fun q => q = rb) w.heap.size w w'

set_option maxHeartbeats 4000000 in
theorem reader_Raw (rb B : Nat) (xs : List Int) (m : Nat) (hm : m ≤ xs.length) (hm9 : m ≤ 1000000000) (w : World) (h : RdL w rb B xs) :
  Calls Try.prog 79 #[.pointer (some ⟨rb, 0, none⟩), .int .i64 m] w (RetRd rb B (xs.take m) (xs.drop m) w) := by
 obtain ⟨⟨A, c, hV, hc, hc9, hr⟩, hB⟩ := h
 obtain ⟨q, hq⟩ : ∃ q, xs.length = q := ⟨_, rfl⟩
 rw [hq] at hm hV hc hr
 have HQ := Lib.hid hq
 have HR := Lib.hid hr
 have hb1 : Below w.heap.size w (w.alloc (.cells #[] 5)) := (Below.refl _ _).alloc (Nat.le_refl _) _
 have hown0 : (w.alloc (.cells #[] 5)).ownsRow w.heap.size 5 1 (.slice (some ⟨w.heap.size, 0, none⟩) 0 0) 0 (cells8 []) := World.ownsRow_made w #[] 0 (Nat.le_refl _) (by unfold maxLen; omega) rfl
 have HW := Lib.hid hown0
 have hlt := hV.lt
 have HSRC := Lib.hid (show 0 < m → ∃ b o, A = some ⟨b, o, none⟩ ∧ RowB (w.alloc (.cells #[] 5)) b o (xs.take m) from fun hp => by
  obtain ⟨b, o, e1, e2, e3⟩ := hr (by omega)
  exact ⟨b, o, e1, (e3.takeS m).belowB hb1 (by omega)⟩)
 have HML := Lib.hid (show (xs.take m).length = m by rw [List.length_take, hq]; omega)
 have hk1 : 0 + m ≤ 1099511627776 := by omega
 have V0 := hV.cell 0 _ rfl
 have V1 := hV.cell 1 _ rfl
 have F0 := hV.frz 0 (by simp)
 clear hown0 hq hr
 go_enter Try.func79, Try.ntmps79
 go_upto_region 5 with fail
 go_wp2_with (at_builtin; (refine wpList_append_B rfl (.tmp 28) (.tmp 34) rfl w.heap.size _ 0 [] rfl HW.out A m c (xs.take m) rfl HML.out HSRC.out hk1 (by simp) ?_; intro v2 w2 hown2 hg2 hat2; have hb2 : Below w.heap.size w w2 := hb1.trans ((Below.refl _ _).grown hg2 (by simp) (fun k hk => Nat.le_of_eq (Option.some.inj hk))); rw [Nat.zero_add, List.nil_append] at hown2; obtain ⟨g2, cap2, hv2⟩ := own_shape hown2; subst hv2; have hV2 := hV.call hb2; clear V0 V1 F0; have V0 := hV2.cell 0 _ rfl; have V1 := hV2.cell 1 _ rfl; have F0 := hV2.frz 0 (by simp)))
 ·have hx : Exc (fun q => q = rb) w.heap.size w (w2.setCell ⟨rb, 0, none⟩ (.slice A (q - m) 0)) := exc_sc (S := fun q => q = rb) (exc_of hb2) (.inl rfl) 0 _
  have hv := hV2.put 0 (by simp) (.slice A (q - m) 0)
  have hdl : (xs.drop m).length = q - m := by rw [List.length_drop, HQ.out]
  go_ret
  refine ⟨g2, cap2, by rw [HML.out]; rfl, ?_, ⟨⟨A, 0, ?_, ?_, ?_, ?_⟩, hB⟩, hx⟩
  ·rw [HML.out]
   exact own_other hown2 (exc_sc (S := fun q => q = rb) (exc_of (Below.refl _ _)) (.inl rfl) 0 _) (fun g hg (e : g = rb) => by
    have := (hown2.lt g hg).1
    omega)
  ·rw [hdl]
   exact hv
  ·rw [hdl]
   omega
  ·omega
  ·intro hp
   rw [hdl] at hp
   omega
 ·have hx : Exc (fun q => q = rb) w.heap.size w (w2.setCell ⟨rb, 0, none⟩ (.slice (Option.map (fun x => x.add m) A) (q - m) (c - m))) := exc_sc (S := fun q => q = rb) (exc_of hb2) (.inl rfl) 0 _
  have hv := hV2.put 0 (by simp) (.slice (Option.map (fun x => x.add m) A) (q - m) (c - m))
  have hdl : (xs.drop m).length = q - m := by rw [List.length_drop, HQ.out]
  go_ret
  refine ⟨g2, cap2, by rw [HML.out]; rfl, ?_, ⟨⟨(Option.map (fun x => x.add m) A), c - m, ?_, ?_, ?_, ?_⟩, hB⟩, hx⟩
  ·rw [HML.out]
   exact own_other hown2 (exc_sc (S := fun q => q = rb) (exc_of (Below.refl _ _)) (.inl rfl) 0 _) (fun g hg (e : g = rb) => by
    have := (hown2.lt g hg).1
    omega)
  ·rw [hdl]
   exact hv
  ·rw [hdl]
   omega
  ·omega
  ·intro hp
   rw [hdl] at hp
   obtain ⟨b, o, rfl, e2, e3⟩ := HR.out (by omega)
   refine ⟨b, o + m, ?_, e2, fun i e hi => ?_⟩
   ·show some ((⟨b, o, none⟩ : Addr).add m) = _
    rw [Addr.add_mid]
   ·exact (hx.cell (p := ⟨b, o + m + i, none⟩) (by dsimp only; omega) (by dsimp only; omega)).trans (e3.dropS m i e hi)

end Go.Proofs.Ytbakkmfjamcbfaa

namespace Go.Proofs.Ytbakkmfjamcbfaa
open Go.RowKit Fm
set_option linter.unusedVariables false
set_option maxRecDepth 100000

def RetPan (c : Int) (rb B : Nat) (w : World) (e : Ending) (w' : World) : Prop :=
 e = .panicked [{ v := .iface 192 (.agg #[.int .i64 c]), recovered := false }] ∧ (∃ xs, RdL w' rb B xs) ∧ Exc (fun q => q = rb) w.heap.size w w'

set_option maxHeartbeats 4000000 in
theorem reader_RawS (rb B : Nat) (xs : List Int) (m : Nat) (hm : xs.length < m) (hm9 : m ≤ 1000000000) (w : World) (h : RdL w rb B xs) :
  Calls Try.prog 79 #[.pointer (some ⟨rb, 0, none⟩), .int .i64 m] w (RetPan 3 rb B w) := by
 have HH := Lib.hid h
 have HF := Lib.hid (reader_Fail rb B xs 3 rfl w h)
 obtain ⟨⟨A, c, hV, hc, hc9, hr⟩, hB⟩ := h
 have V0 := hV.cell 0 _ rfl
 have V1 := hV.cell 1 _ rfl
 clear hr
 go_enter Try.func79, Try.ntmps79
 go_wp2_with (go_at_call 82; refine HF.out.mono ?_; rintro e w5 ⟨rfl, rfl⟩)
 exact ⟨rfl, rfl, ⟨_, HH.out⟩, exc_of (Below.refl _ _)⟩

set_option maxHeartbeats 4000000 in
theorem reader_UintS (rb B : Nat) (xs : List Int) (hm : xs.length < 4) (w : World) (h : RdL w rb B xs) :
  Calls Try.prog 109 #[.pointer (some ⟨rb, 0, none⟩), .int .i64 4] w (RetPan 3 rb B w) := by
 have HF := Lib.hid (reader_RawS rb B xs 4 hm (by omega) w h)
 clear h
 go_enter Try.func109, Try.ntmps109
 go_wp2_with (go_at_call 79; refine HF.out.mono ?_; rintro e w5 ⟨rfl, hR, hx⟩)
 exact ⟨rfl, rfl, hR, hx⟩

set_option maxHeartbeats 4000000 in
theorem reader_Uint (rb B : Nat) (xs : List Int) (hm : 4 ≤ xs.length) (h8 : B8 xs) (w : World) (h : RdL w rb B xs) :
  Calls Try.prog 109 #[.pointer (some ⟨rb, 0, none⟩), .int .i64 4] w fun e w' => e = .returned (.int .u64 (valB (xs.take 4) : Nat)) ∧ RdL w' rb B (xs.drop 4) ∧ Exc (fun q => q = rb) w.heap.size w w' := by
 have HF := Lib.hid (reader_Raw rb B xs 4 hm (by omega) w h)
 have hl4 : (xs.take 4).length = 4 := by rw [List.length_take]; omega
 have hb4 : B8 (xs.take 4) := fun x hx => h8 x (List.mem_of_mem_take hx)
 clear h h8
 generalize xs.take 4 = bs at *
 have HL := Lib.hid hl4
 have H8 := Lib.hid hb4
 clear hl4 hb4
 go_enter Try.func109, Try.ntmps109
 go_wp2_with (go_at_call 79; refine HF.out.mono ?_; rintro e w5 ⟨A5, c5, rfl, hown5, hR5, hx5⟩; rw [HL.out] at hown5 ⊢)
 obtain ⟨b, o, rfl, hrow⟩ := own_srcB hown5 (by omega)
 have HROW := Lib.hid hrow
 have HR5 := Lib.hid hR5
 have HX5 := Lib.hid hx5
 have hblt : b < w5.heap.size := (hown5.lt b rfl).2
 clear hrow hR5 hx5 hown5 HF
 go_loopw [5, 14] (fun v5 v14 wr => ∃ k : Nat, k ≤ 4 ∧ v14 = .int .i64 k ∧ v5 = .int .u64 ((valB (bs.take k) : Nat) : Int) ∧ wr = w5) (fun _ v14 _ => 4 - (intOf v14).toNat)
 case atStart => exact ⟨0, by omega, rfl, rfl, rfl⟩
 case round =>
  obtain ⟨k, hk, rfl, rfl, rfl⟩ := hrel
  by_cases hlt : k < 4
  ·have hat : bs[k]? = some (bs.getD k 0) := by rw [List.getD_eq_getElem?_getD, List.getElem?_eq_getElem (by rw [HL.out]; exact hlt)]; rfl
   obtain ⟨r0, r1⟩ := H8.out _ (List.mem_of_getElem? hat)
   have hcell := HROW.out k _ hat
   have ha := valB_lt (bs.take k) (fun x hx => H8.out x (List.mem_of_mem_take hx))
   rw [List.length_take, HL.out, Nat.min_eq_left hk, show (256 : Nat) = 2 ^ 8 from rfl, ← Nat.pow_mul] at ha
   have HV := Lib.hid (valB_take bs k _ hat)
   generalize valB (bs.take k) = a at *
   generalize bs.getD k 0 = c at *
   obtain ⟨s, hs⟩ : ∃ s, 8 * k = s := ⟨_, rfl⟩
   rw [hs] at HV ha
   have hsi : (8 : Int) * (k : Int) = (s : Int) := by omega
   have hs64 : s ≤ 56 := by omega
   have hs0 : (0 : Int) ≤ (s : Int) := by omega
   have hor := or_byte a s c ha ⟨r0, r1⟩ hs64
   have hw8 : IntKind.i64.wrap (s : Int) = (s : Int) := IntWalk.i64_in _ (by omega)
   obtain ⟨d, hd⟩ : ∃ d, a + c.toNat * 2 ^ s = d := ⟨_, rfl⟩
   rw [hd] at hor
   have HD : Hid (valB (bs.take (k + 1)) = d) := Lib.hid (HV.out.trans hd)
   clear hs hd hat ha HV
   go_wp2_with fail
   go_roundw
   case rel => exact ⟨k + 1, by omega, by go_num, by rw [HD.out], trivial⟩
   case measure => simp [intOf]; omega
  ·obtain rfl : k = 4 := by omega
   rw [List.take_of_length_le (by rw [HL.out]; exact Nat.le_refl _)]
   go_wp2_with fail
   go_ret
   exact ⟨rfl, HR5.out, HX5.out⟩

end Go.Proofs.Ytbakkmfjamcbfaa

namespace Go.Proofs.Ytbakkmfjamcbfaa
open Go.RowKit Fm
set_option linter.unusedVariables false
set_option maxRecDepth 100000

set_option maxHeartbeats 4000000 in
theorem reader_CountS (rb B : Nat) (xs : List Int) (hm : xs.length < 4) (w : World) (h : RdL w rb B xs) :
  Calls Try.prog 78 #[.pointer (some ⟨rb, 0, none⟩), .int .i64 4, .int .u64 256] w (RetPan 3 rb B w) := by
 have HF := Lib.hid (reader_UintS rb B xs hm w h)
 clear h
 go_enter Try.func78, Try.ntmps78
 go_wp2_with (go_at_call 109; refine HF.out.mono ?_; rintro e w5 ⟨rfl, hR, hx⟩)
 exact ⟨rfl, rfl, hR, hx⟩

set_option maxHeartbeats 4000000 in
theorem reader_Count (rb B : Nat) (xs : List Int) (hm : 4 ≤ xs.length) (h8 : B8 xs) (hv : valB (xs.take 4) ≤ 256) (w : World) (h : RdL w rb B xs) :
  Calls Try.prog 78 #[.pointer (some ⟨rb, 0, none⟩), .int .i64 4, .int .u64 256] w fun e w' => e = .returned (.int .i64 (valB (xs.take 4) : Nat)) ∧ RdL w' rb B (xs.drop 4) ∧ Exc (fun q => q = rb) w.heap.size w w' := by
 have HF := Lib.hid (reader_Uint rb B xs hm h8 w h)
 clear h h8
 generalize valB (xs.take 4) = v at *
 have hd : (256 : Int) < (v : Int) ↔ False := by simp; omega
 have hdd : decide ((256 : Int) < (v : Int)) = false := by simp; omega
 have hw : IntKind.i64.wrap (v : Int) = (v : Int) := IntWalk.i64_in _ (by omega)
 clear hd
 go_enter Try.func78, Try.ntmps78
 go_wp2_with (go_at_call 109; refine HF.out.mono ?_; rintro e w5 ⟨rfl, hR, hx⟩)
 go_ret
 exact ⟨rfl, hR, hx⟩

set_option maxHeartbeats 4000000 in
theorem reader_CountB (rb B : Nat) (xs : List Int) (hm : 4 ≤ xs.length) (h8 : B8 xs) (hv : ¬ valB (xs.take 4) ≤ 256) (w : World) (h : RdL w rb B xs) :
  Calls Try.prog 78 #[.pointer (some ⟨rb, 0, none⟩), .int .i64 4, .int .u64 256] w (RetPan 6 rb B w) := by
 have HF := Lib.hid (reader_Uint rb B xs hm h8 w h)
 have HP := Lib.hid (fun wz (hz : RdL wz rb B (xs.drop 4)) => reader_Fail rb B (xs.drop 4) 6 rfl wz hz)
 clear h h8
 generalize valB (xs.take 4) = v at *
 have hdd : decide ((256 : Int) < (v : Int)) = true := by simp; omega
 go_enter Try.func78, Try.ntmps78
 go_wp2_with (first
  | (go_at_call 109; refine HF.out.mono ?_; rintro e w5 ⟨rfl, hR, hx⟩; have HPP := Lib.hid (HP.out w5 hR); have HRR := Lib.hid hR; clear hR)
  | (go_at_call 82; refine HPP.out.mono ?_; rintro e w6 ⟨rfl, rfl⟩))
 exact ⟨rfl, rfl, ⟨_, HRR.out⟩, hx⟩

end Go.Proofs.Ytbakkmfjamcbfaa

namespace Go.Proofs.Ytbakkmfjamcbfaa
open Go.RowKit Fm
set_option linter.unusedVariables false
set_option maxRecDepth 100000

theorem rd_equalIn_func (d : Nat) (fn : Fn) (first cap : Array Value) (w : World) : (Op.equalIn (d + 1) 168 (.func fn first cap) .nilFunc).run Try.prog w = .ok false w := by
 simp [Op.equalIn, Sem.run_bind, run_underlying Try.underlying168]
theorem rd_eql_func (fn : Fn) (first cap : Array Value) (w : World) : (binOp .eql 168 (.func fn first cap) .nilFunc).run Try.prog w = .ok (.bool false) w := by
 have h := rd_equalIn_func 9999 fn first cap w
 simp only [binOp, Op.equal, Sem.run_bind]
 rw [show Op.maxDepth = 9999 + 1 from rfl, h]
 rfl

theorem rd_assert (w : World) (v : Value) : (Instr.typeAssert (.iface 192 v) 20 192 true).run Try.prog w = .ok (.tuple #[v, .bool true]) w := by kernel_rfl

set_option maxHeartbeats 4000000 in
theorem catch_stop (pb rb eb : Nat) (c x : Int) (v1 : Value) (older : List PanicEntry) (w : World) (hP : Vs w pb [.pointer (some ⟨rb, 0, none⟩)]) (hR : Vs w rb [v1, .bool true]) (hE : Vs w eb [.int .i64 x]) (hne : eb ≠ rb) :
  CallsD Try.prog 108 #[.pointer (some ⟨pb, 0, none⟩), .pointer (some ⟨eb, 0, none⟩)] (.panicking ({ v := .iface 192 (.agg #[.int .i64 c]), recovered := false } :: older)) w fun e u' w' =>
   e = .returned (.tuple #[]) ∧ u' = .panicking ({ v := .iface 192 (.agg #[.int .i64 c]), recovered := true } :: older) ∧ Exc (fun q => q = rb ∨ q = eb) w.heap.size w w' ∧ Vs w' eb [.int .i64 c] := by
 have P0 := hP.cell 0 _ rfl
 have R1 := hR.cell 1 _ rfl
 have R1f := hR.frz 1 (by simp)
 have E0 := hE.cell 0 _ rfl
 have E0f := hE.frz 0 (by simp)
 have hrl := hR.lt
 have hel := hE.lt
 refine callsD_of_wpS Try.func108 rfl fun c₀ cs hu => ?_
 apply wpS_seq
 apply wpS_region
 simp [wpOpsS, go_sem, P0, R1, R1f, Try.ntmps108, Exit.thenS]
 apply wpS_seq
 apply wpS_region
 simp [wpOpsS, go_sem, recoverD, hu, Exit.thenS]
 refine wpS_of_wp ?_
 change Code.wp _ _ _ { tmps := #[.pointer (some ⟨pb, 0, none⟩), .pointer (some ⟨eb, 0, none⟩), undef, undef, undef, .pointer (some ⟨rb, 0, none⟩), .pointer (some ⟨rb, 0, none⟩), .pointer (some ⟨rb, 1, none⟩), .iface 192 (.agg #[.int .i64 c]), undef, undef, undef, undef, undef, undef, undef], defers := [] } _
 have E1 : (w.setCell ⟨rb, 1, none⟩ (.bool false)).cell? ⟨eb, 0, none⟩ = some (.int .i64 x) := (hE.far (p := ⟨rb, 1, none⟩) (by dsimp only; omega) (.bool false)).cell 0 _ rfl
 have hta := rd_assert
 go_wp2_with fail
 have hx1 : Exc (fun q => q = rb ∨ q = eb) w.heap.size w ((w.setCell ⟨rb, 1, none⟩ (.bool false)).setCell ⟨eb, 0, none⟩ (.int .i64 c)) := exc_sc (S := fun q => q = rb ∨ q = eb) (exc_sc (S := fun q => q = rb ∨ q = eb) (exc_of (Below.refl _ _)) (.inl (.inl rfl)) 1 _) (.inl (.inr rfl)) 0 _
 have hv1 : Vs ((w.setCell ⟨rb, 1, none⟩ (.bool false)).setCell ⟨eb, 0, none⟩ (.int .i64 c)) eb [.int .i64 c] := Vs.put (hE.far (p := ⟨rb, 1, none⟩) (by dsimp only; omega) (.bool false)) 0 (by simp) (.int .i64 c)
 have hb1 : Below ((w.setCell ⟨rb, 1, none⟩ (.bool false)).setCell ⟨eb, 0, none⟩ (.int .i64 c)).heap.size ((w.setCell ⟨rb, 1, none⟩ (.bool false)).setCell ⟨eb, 0, none⟩ (.int .i64 c)) (((w.setCell ⟨rb, 1, none⟩ (.bool false)).setCell ⟨eb, 0, none⟩ (.int .i64 c)).alloc (.cells #[.int .i64 c] 192)) := (Below.refl _ _).alloc (Nat.le_refl _) _
 refine ⟨rfl, _, rfl, _, ?_, rfl, rfl, hx1.call hb1, hv1.call hb1⟩
 simp [results, Try.results108, go_sem]

set_option maxHeartbeats 4000000 in
theorem catch_none (pb rb eb : Nat) (x : Int) (v1 : Value) (w : World) (hP : Vs w pb [.pointer (some ⟨rb, 0, none⟩)]) (hR : Vs w rb [v1, .bool true]) (hE : Vs w eb [.int .i64 x]) (hne : eb ≠ rb) :
  CallsD Try.prog 108 #[.pointer (some ⟨pb, 0, none⟩), .pointer (some ⟨eb, 0, none⟩)] .returning w fun e u' w' =>
   e = .returned (.tuple #[]) ∧ u' = .returning ∧ Exc (fun q => q = rb ∨ q = eb) w.heap.size w w' ∧ Vs w' eb [.int .i64 x] := by
 have P0 := hP.cell 0 _ rfl
 have R1 := hR.cell 1 _ rfl
 have R1f := hR.frz 1 (by simp)
 have hrl := hR.lt
 have hel := hE.lt
 refine callsD_of_wpS Try.func108 rfl fun c₀ cs hu => ?_
 apply wpS_seq
 apply wpS_region
 simp [wpOpsS, go_sem, P0, R1, R1f, Try.ntmps108, Exit.thenS]
 apply wpS_seq
 apply wpS_region
 simp [wpOpsS, go_sem, recoverD, hu, Exit.thenS]
 refine wpS_of_wp ?_
 change Code.wp _ _ _ { tmps := #[.pointer (some ⟨pb, 0, none⟩), .pointer (some ⟨eb, 0, none⟩), undef, undef, undef, .pointer (some ⟨rb, 0, none⟩), .pointer (some ⟨rb, 0, none⟩), .pointer (some ⟨rb, 1, none⟩), .nilIface, undef, undef, undef, undef, undef, undef, undef], defers := [] } _
 go_wp2_with fail
 have hx1 : Exc (fun q => q = rb ∨ q = eb) w.heap.size w (w.setCell ⟨rb, 1, none⟩ (.bool false)) := exc_sc (S := fun q => q = rb ∨ q = eb) (exc_of (Below.refl _ _)) (.inl (.inl rfl)) 1 _
 refine ⟨rfl, .returning, by rw [← hu], _, ?_, rfl, rfl, hx1, hE.far (p := ⟨rb, 1, none⟩) (by dsimp only; omega) (.bool false)⟩
 simp [results, Try.results108, go_sem]

def RetRead (S : Nat → Prop) (T : Nat → Int → World → Prop) (U : Nat → List Int → World → Prop) (w : World) (e : Ending) (w' : World) : Prop :=
 ∃ (code : Int) (B0 : Nat), e = .returned (.int .i64 code) ∧ w.heap.size ≤ B0 ∧ Exc S w.heap.size w w' ∧ (T B0 code w' ∨ ∃ rest, U B0 rest w' ∧ code = if rest.length = 0 then 0 else 27)
def CloTk (S : Nat → Prop) (T : Nat → Int → World → Prop) (U : Nat → List Int → World → Prop) (rb B : Nat) (w : World) (e : Ending) (w' : World) : Prop :=
 Exc (fun q => q = rb ∨ S q) w.heap.size w w' ∧
 ((∃ c, e = .panicked [{ v := .iface 192 (.agg #[.int .i64 c]), recovered := false }] ∧ (∃ xs, RdL w' rb B xs) ∧ T w.heap.size c w') ∨
  (e = .returned (.tuple #[]) ∧ ∃ rest, RdL w' rb B rest ∧ U w.heap.size rest w'))

set_option maxHeartbeats 4000000 in
theorem pack_Read (S : Nat → Prop) (T : Nat → Int → World → Prop) (U : Nat → List Int → World → Prop) (g : FuncId) (cap : Array Value) (A : Option Addr) (bs : List Int) (c : Nat) (w : World) (B : Nat) (hBw : B ≤ w.heap.size)
  (hent : ∀ args wz, (callFunc g args).run Try.prog wz = .ok (.enter g args) wz)
  (hc : bs.length ≤ c ∧ c ≤ 9223372036854775807) (hrow : 0 < bs.length → ∃ b o, A = some ⟨b, o, none⟩ ∧ b < B ∧ RowB w b o bs)
  (hS : ∀ q, S q → q < w.heap.size)
  (hT : ∀ B0 c w1 w2, w.heap.size ≤ B0 → T B0 c w1 → Exc (fun q => w.heap.size ≤ q ∧ q < B0) w1.heap.size w1 w2 → T B0 c w2)
  (hU : ∀ B0 r w1 w2, w.heap.size ≤ B0 → U B0 r w1 → Exc (fun q => w.heap.size ≤ q ∧ q < B0) w1.heap.size w1 w2 → U B0 r w2)
  (H : ∀ wz rb, w.heap.size ≤ rb → Below w.heap.size w wz → RdL wz rb B bs → Calls Try.prog g (#[.pointer (some ⟨rb, 0, none⟩)] ++ cap) wz (CloTk S T U rb B wz)) :
  Calls Try.prog 76 #[.slice A bs.length c, .func (.func g) #[] cap] w (RetRead S T U w) := by
 have hmf : ∀ (fn : Fn) (first cap : Array Value) (w : World), (Instr.makeFunc fn first cap).run Try.prog w = .ok (.func fn first cap) w := fun _ _ _ _ => rfl
 have heq := rd_eql_func (.func g) #[] cap
 have HROW := Lib.hid hrow
 have HS := Lib.hid hS
 have HT := Lib.hid hT
 have HU := Lib.hid hU
 have HH := Lib.hid H
 have HC := Lib.hid hc
 obtain ⟨ln, hln⟩ : ∃ z, bs.length = z := ⟨_, rfl⟩
 have HLN := Lib.hid hln
 rw [hln]
 clear hrow hS hT hU H hc hln
 have hb00 : Below w.heap.size w w := Below.refl _ _
 go_enter_defers Try.func76, Try.ntmps76
 go_upto_region 3 with fail
 have hE := Vs.new w [.int .i64 0] #[.int .i64 0] 24 rfl
 have hbA : Below w.heap.size w (w.alloc (.cells #[.int .i64 0] 24)) := by repeat (first | exact bA | with_reducible assumption | apply bB)
 replace hb00 := bl_call hb00 (Nat.le_refl _) hbA
 clear hbA
 generalize w.alloc (.cells #[.int .i64 0] 24) = w1 at hb00 hE ⊢
 go_upto_region 4 with fail
 have hR := (Vs.new w1 ([.slice A ln c, .bool true]) (#[.slice A ln c, .bool true]) 190 rfl).alloc (.cells #[.pointer (some ⟨w1.heap.size, 0, none⟩)] 163)
 have hP := Vs.new (w1.alloc (.cells #[.slice A ln c, .bool true] 190)) [.pointer (some ⟨w1.heap.size, 0, none⟩)] #[.pointer (some ⟨w1.heap.size, 0, none⟩)] 163 rfl
 simp only [World.size_alloc] at hP
 have hb12 : Below w1.heap.size w1 ((w1.alloc (.cells #[.slice A ln c, .bool true] 190)).alloc (.cells #[.pointer (some ⟨w1.heap.size, 0, none⟩)] 163)) := by repeat (first | exact bA | with_reducible assumption | apply bB)
 have hszn : w1.heap.size + 2 ≤ ((w1.alloc (.cells #[.slice A ln c, .bool true] 190)).alloc (.cells #[.pointer (some ⟨w1.heap.size, 0, none⟩)] 163)).heap.size := by simp only [World.size_alloc]; omega
 generalize ((w1.alloc (.cells #[.slice A ln c, .bool true] 190)).alloc (.cells #[.pointer (some ⟨w1.heap.size, 0, none⟩)] 163)) = w2 at hR hP hb12 hszn ⊢
 have hE2 := hE.call hb12
 have hel := hE.lt
 have hb02 := bl_call hb00 (Nat.le_refl _) hb12
 have hsz1 := hb00.size
 clear hE hb00 hb12
 obtain ⟨rb, hrb⟩ : ∃ z, w1.heap.size = z := ⟨_, rfl⟩
 rw [hrb] at hR hP hel hsz1
 simp only [hrb]
 clear hrb hszn
 have hRd : RdL w2 rb B bs := ⟨⟨A, c, by rw [HLN.out]; exact hR, HC.out.1, HC.out.2, fun hp => by
  obtain ⟨b, o, e1, e2, e3⟩ := HROW.out hp
  exact ⟨b, o, e1, e2, e3.belowB hb02 (by omega)⟩⟩, Nat.le_trans hBw hsz1⟩
 have HCL := Lib.hid (HH.out w2 rb hsz1 hb02 hRd)
 have hP0 := hP.cell 0 _ rfl
 have hplt := hP.lt
 clear HH hR hRd
 have hE9 : ¬ (w.heap.size = rb ∨ S w.heap.size) := fun h => by
  rcases h with h | h
  ·omega
  ·have := HS.out _ h
   omega
 have hP9 : ¬ (rb + 1 = rb ∨ S (rb + 1)) := fun h => by
  rcases h with h | h
  ·omega
  ·have := HS.out _ h
   omega
 have hs2 := hb02.size
 have HX2 : Hid (∀ wz, Exc (fun q => q = rb ∨ S q) w2.heap.size w2 wz → Exc S w.heap.size w wz) := Lib.hid fun wz h => (exc_of hb02).trans ((h.mono hs2).less fun q hq h => by
  rcases h with h | h
  ·omega
  ·exact h)
 go_wp2_with fail
 refine HCL.out.mono ?_
 rintro e w3 ⟨hx3, h3⟩
 have hE3 := hE2.exc hE9 hx3
 have hP3 := hP.exc hP9 hx3
 have HX3 := Lib.hid (HX2.out w3 hx3)
 have hs3 := hx3.size
 clear hE2 hP hP0 hx3 HX2 hb02 HCL
 rcases h3 with ⟨cd, rfl, ⟨xs, hRx⟩, hTx⟩ | ⟨rfl, rest, hRx, hUx⟩
 ·obtain ⟨⟨A3, c3, hV3, _⟩, _⟩ := hRx
  refine leaves_cons (f := 108) (args := #[.pointer (some ⟨rb + 1, 0, none⟩), .pointer (some ⟨w.heap.size, 0, none⟩)]) (by simp) (by simp [go_sem]) ?_
  refine (catch_stop (rb + 1) rb w.heap.size cd 0 _ [] w3 hP3 hV3 hE3 (by omega)).mono ?_
  rintro e u' w4 ⟨rfl, rfl, hx4, hE4⟩
  have hE40 := hE4.cell 0 _ rfl
  refine ⟨.int .i64 cd, by simp [results, Try.results76, go_sem, hE40], cd, w2.heap.size, rfl, hs2, HX3.out.trans ((hx4.mono (by omega)).less fun q hq h => by omega), .inl (HT.out _ _ _ _ hs2 hTx (hx4.less fun q hq h => by omega))⟩
 ·obtain ⟨⟨A3, c3, hV3, _⟩, _⟩ := hRx
  have r0 := hV3.cell 0 _ rfl
  have p0 := hP3.cell 0 _ rfl
  have e0 := hE3.cell 0 _ rfl
  have e1 := hE3.frz 0 (by simp)
  obtain ⟨q, hq⟩ : ∃ q, rest.length = q := ⟨_, rfl⟩
  rw [hq] at r0 hV3
  have HQ := Lib.hid hq
  clear hq
  by_cases hz : q = 0
  ·subst hz
   go_wp2_with fail
   have hE4 : Vs (w3.setCell ⟨w.heap.size, 0, none⟩ (.int .i64 0)) w.heap.size [.int .i64 0] := hE3.put 0 (by simp) _
   have hx4 : Exc (fun q => q = w.heap.size) w3.heap.size w3 (w3.setCell ⟨w.heap.size, 0, none⟩ (.int .i64 0)) := exc_sc (S := fun q => q = w.heap.size) (exc_of (Below.refl _ _)) (.inl rfl) 0 _
   have hV4 := hV3.exc (S := fun q => q = w.heap.size) (fun e => by omega) hx4
   have hP4 := hP3.exc (S := fun q => q = w.heap.size) (fun e => by omega) hx4
   have HX4 := Lib.hid (HX3.out.trans ((hx4.mono (by omega)).less (T := S) fun q hq h => by omega))
   have HU4 := Lib.hid (HU.out _ _ _ _ hs2 hUx (hx4.less fun q hq h => by omega))
   have hs4 := hx4.size
   clear hx4 hV3 hP3 hE3 e0 e1 r0 p0 HX3 hUx
   generalize w3.setCell ⟨w.heap.size, 0, none⟩ (.int .i64 0) = w4 at hE4 hV4 hP4 HX4 HU4 hs4 ⊢
   refine leaves_cons (f := 108) (args := #[.pointer (some ⟨rb + 1, 0, none⟩), .pointer (some ⟨w.heap.size, 0, none⟩)]) (by simp) (by simp [go_sem]) ?_
   refine (catch_none (rb + 1) rb w.heap.size 0 _ w4 hP4 hV4 hE4 (by omega)).mono ?_
   rintro e u' w5 ⟨rfl, rfl, hx5, hE5⟩
   have hE50 := hE5.cell 0 _ rfl
   refine ⟨.int .i64 0, by simp [results, Try.results76, go_sem, hE50], 0, w2.heap.size, rfl, hs2, HX4.out.trans ((hx5.mono (by omega)).less fun q hq h => by omega), .inr ⟨rest, HU.out _ _ _ _ hs2 HU4.out (hx5.less fun q hq h => by omega), ?_⟩⟩
   rw [HQ.out]
   rfl
  ·have hz2 : 0 < q := by omega
   clear hz
   go_wp2_with fail
   have hE4 : Vs (w3.setCell ⟨w.heap.size, 0, none⟩ (.int .i64 27)) w.heap.size [.int .i64 27] := hE3.put 0 (by simp) _
   have hx4 : Exc (fun q => q = w.heap.size) w3.heap.size w3 (w3.setCell ⟨w.heap.size, 0, none⟩ (.int .i64 27)) := exc_sc (S := fun q => q = w.heap.size) (exc_of (Below.refl _ _)) (.inl rfl) 0 _
   have hV4 := hV3.exc (S := fun q => q = w.heap.size) (fun e => by omega) hx4
   have hP4 := hP3.exc (S := fun q => q = w.heap.size) (fun e => by omega) hx4
   have HX4 := Lib.hid (HX3.out.trans ((hx4.mono (by omega)).less (T := S) fun q hq h => by omega))
   have HU4 := Lib.hid (HU.out _ _ _ _ hs2 hUx (hx4.less fun q hq h => by omega))
   have hs4 := hx4.size
   clear hx4 hV3 hP3 hE3 e0 e1 r0 p0 HX3 hUx
   generalize w3.setCell ⟨w.heap.size, 0, none⟩ (.int .i64 27) = w4 at hE4 hV4 hP4 HX4 HU4 hs4 ⊢
   refine leaves_cons (f := 108) (args := #[.pointer (some ⟨rb + 1, 0, none⟩), .pointer (some ⟨w.heap.size, 0, none⟩)]) (by simp) (by simp [go_sem]) ?_
   refine (catch_none (rb + 1) rb w.heap.size 27 _ w4 hP4 hV4 hE4 (by omega)).mono ?_
   rintro e u' w5 ⟨rfl, rfl, hx5, hE5⟩
   have hE50 := hE5.cell 0 _ rfl
   refine ⟨.int .i64 27, by simp [results, Try.results76, go_sem, hE50], 27, w2.heap.size, rfl, hs2, HX4.out.trans ((hx5.mono (by omega)).less fun q hq h => by omega), .inr ⟨rest, HU.out _ _ _ _ hs2 HU4.out (hx5.less fun q hq h => by omega), ?_⟩⟩
   rw [HQ.out]
   rw [if_neg (by omega)]

end Go.Proofs.Ytbakkmfjamcbfaa

namespace Go.Proofs.Ytbakkmfjamcbfaa
open Go.RowKit Fm
set_option linter.unusedVariables false
set_option maxRecDepth 100000

section
variable {P : Program} {ops : Array Oper} {Q : Exit → Act → World → Prop} {md : Region.Mode} {n m : Nat} {L : Act → World → Prop} {f : Nat} {listed : Array Bool} {a : Act} {T S : World → Prop}
theorem WpX.dieD (i : Nat) {oi : Oper} (hi : ops[i]? = some oi) (hB : (decide (i < n) && decide (Region.ready md ops listed = [i])) = true) (hw : Region.wanted oi (yielded ops a.tmps) = true)
  {g : FuncId} {args : Array Value} (h : ∀ w, S w → (execOp a.eval oi).run P w = .ok (.enter g args) w)
  (hc : ∀ w, S w → Calls P g args w (fun e w' => ∃ c, e = .panicked c ∧ Q (.panic c) a w')) : WpX P md ops Q n m L (f + 1) listed a T S := by
 simp only [Bool.and_eq_true, decide_eq_true_eq] at hB
 obtain ⟨hin, hr⟩ := hB
 intro hST hC hp inv
 refine ⟨by rw [hr]; simp, fun j hj => ?_⟩
 have hj' : j = i := by rw [hr] at hj; simpa using hj
 subst hj'
 refine ⟨hin, fun w hS => ?_⟩
 unfold Go.wpOp
 simp only [hi, hw, if_true]
 refine .inl ?_
 unfold Oper.wp
 rw [h w hS]
 refine Calls.mono (hc w hS) fun e w'' ⟨c, he, hq⟩ => ?_
 subst he
 exact hq
end

section
variable {P : Program} {Q : Exit → Act → World → Prop}
theorem region_Z1 {id n m f : Nat} {l : List Oper} {a : Act} {w : World} {α : Type} (R : α → World → Prop) (T S : World → Prop) (hST : ∀ w, S w → T w) (hC : Clo S) (hS : S w.drew) {E : α → Act} (hm : P.follows .mixedOrders = true) (hB : partsB .any l.toArray n m (Array.replicate l.length false) = true) (hf : f + (m - n) = l.length)
  (h : WpX P .any l.toArray Q n m (fun a w => ∃ x, a = E x ∧ R x w) f (Array.replicate l.length false) a T S)
  (hc : ∀ x w', R x w' → wpList P l.toArray Q ((l.drop n).take (m - n)) (E x) w') : (Code.region id l.toArray true).wp P Q a w :=
 region_X T S hST hC hS hm hB hf (h.monoZ fun _ w ⟨x, e, hr⟩ => e ▸ hc x w hr)
end
def RjT (w0 : World) (rb : Nat) (o : Option (Option Addr × Nat)) (w : World) : Prop := Exc (fun q => q = rb) w0.heap.size w0 w
structure RjK (w0 : World) (rb B : Nat) (xs ys bs : List Int) (o : Option (Option Addr × Nat)) (w : World) : Prop where
 t : Exc (fun q => q = rb) w0.heap.size w0 w
 a : o = none → RdL w rb B xs
 b : ∀ p, o = some p → RdL w rb B ys ∧ w.ownsRow w0.heap.size 5 1 (.slice p.1 bs.length p.2) bs.length (cells8 bs)
section
variable {w0 w w' : World} {rb B : Nat} {xs ys bs : List Int} {o : Option (Option Addr × Nat)}
theorem RjK.weak (o : Option (Option Addr × Nat)) (w : World) (h : RjK w0 rb B xs ys bs o w) : RjT w0 rb o w := h.t
theorem RjK.clo : Clo (RjK w0 rb B xs ys bs o) := fun w w' h hb => ⟨h.t.later hb, fun e => (h.a e).call hb, fun p e => ⟨(h.b p e).1.call hb, own_call (h.b p e).2 hb⟩⟩
theorem RjK.start (h : RdL w0 rb B xs) : RjK w0 rb B xs ys bs none w0.drew := ⟨exc_of ((Below.refl _ _).drew), fun _ => h.call ((Below.refl _ _).drew), fun p e => by cases e⟩
theorem RjK.took (h : RjK w0 rb B xs ys bs none w) {e : Ending} (hr : RetRd rb B bs ys w e w') : ∃ p : Option Addr × Nat, e = .returned (.slice p.1 bs.length p.2) ∧ RjK w0 rb B xs ys bs (some p) w' := by
 obtain ⟨A, c, he, ho, hd, hx⟩ := hr
 refine ⟨(A, c), he, h.t.more hx (fun q hq => .inl hq), (fun e => by cases e), fun p e => ?_⟩
 injection e with e
 subst e
 exact ⟨hd, own_lower ho h.t.size⟩
end

theorem RdL.exc {w w' : World} {rb B x : Nat} {xs : List Int} (h : RdL w rb B xs) (hx : Exc (fun q => q = x) w.heap.size w w') (h1 : rb ≠ x) (h2 : B ≤ x) : RdL w' rb B xs := by
 obtain ⟨⟨A, c, a1, a2, a3, a4⟩, h5⟩ := h
 refine ⟨⟨A, c, a1.exc (S := fun q => q = x) h1 hx, a2, a3, fun hp => ?_⟩, h5⟩
 obtain ⟨b, o, e1, e2, e3⟩ := a4 hp
 have hlt := a1.lt
 exact ⟨b, o, e1, e2, fun i e hi => (hx.cell (p := ⟨b, o + i, none⟩) (by dsimp only; omega) (by dsimp only; omega)).trans (e3 i e hi)⟩

theorem own_src0 {w : World} {B n c : Nat} {A : Option Addr} {xs : List Int} (h : w.ownsRow B 5 1 (.slice A n c) n (cells8 xs)) (hn : 0 < n) : ∃ b, A = some ⟨b, 0, none⟩ ∧ RowB w b 0 xs := by
 rcases h.2 with ⟨hv, h0⟩ | ⟨g, cap, cur, hv, _⟩
 ·omega
 ·injection hv with e1 e2 e3
  subst e1
  exact ⟨g, rfl, (own_rowB h).1⟩
theorem own_cap {w : World} {B n c : Nat} {A : Option Addr} {xs : List Int} (h : w.ownsRow B 5 1 (.slice A n c) n (cells8 xs)) : n ≤ c ∧ c ≤ 9223372036854775807 ∧ (0 < n → ∃ b, A = some ⟨b, 0, none⟩ ∧ RowB w b 0 xs ∧ b < w.heap.size) := by
 rcases h.2 with ⟨hv, h0⟩ | ⟨g, cap, cur, hv, h2, h3, h4, h5, h6, h7⟩
 ·injection hv with e1 e2 e3
  omega
 ·injection hv with e1 e2 e3
  subst e1
  unfold maxLen at h5
  exact ⟨by omega, by omega, fun _ => ⟨g, rfl, (own_rowB h).1, (own_rowB h).2.1⟩⟩
theorem Vs.thereT {w : World} {b : Nat} {v : Value} {m : Int} {k : List Int} (h : Vs w b (totL v m k)) (j : Nat) (hj : j < k.length) : (w.cell? ⟨b, 2 + j, none⟩).isSome = true ∧ w.frozen? ⟨b, 2 + j, none⟩ = false := by
 obtain ⟨h1, h2⟩ := h.totK hj
 exact ⟨by rw [h1]; rfl, h2⟩
theorem Vs.copyT {w : World} {b : Nat} {v : Value} {m : Int} {k k2 : List Int} (h : Vs w b (totL v m k)) (hl : k2.length = k.length) : Vs (w.setCells b 2 (cells8 k2)) b (totL v m k2) := by
 have hlc : (cells8 k2).length = k.length := by rw [cells8_length, hl]
 refine ⟨fun i u hi => ?_, fun i hi => ?_, by rw [size_setCells]; exact h.lt⟩
 ·match i, hi with
  | 0, hi =>
   rw [World.cell?_setCells_out b _ 2 w ⟨b, 0, none⟩ (fun _ _ => .inl (by simp))]
   exact h.cell 0 u hi
  | 1, hi =>
   rw [World.cell?_setCells_out b _ 2 w ⟨b, 1, none⟩ (fun _ _ => .inl (by simp))]
   exact h.cell 1 u hi
  | j + 2, hi =>
   have hj : (cells8 k2)[j]? = some u := hi
   have hjl := (List.getElem?_eq_some_iff.1 hj).1
   have h1 := World.cell?_setCells_in b (cells8 k2) 2 w (fun q hq => (h.thereT q (by rw [← hlc]; exact hq)).1) j hjl
   rw [Nat.add_comm 2 j] at h1
   rw [h1]
   rw [List.getElem?_eq_getElem hjl] at hj
   exact hj
 ·rw [World.frozen?_setCells]
  exact h.frz i (by
   have e1 : (totL v m k2).length = (cells8 k2).length + 1 + 1 := rfl
   have e2 : (totL v m k).length = (cells8 k).length + 1 + 1 := rfl
   rw [e2, cells8_length]
   rw [e1, hlc] at hi
   exact hi)
theorem wpList_copyT {w : World} {ops : Array Oper} {rest : List Oper} {o : Oper} {a : Act} {Q : Exit → Act → World → Prop} (hgd : o.guard = none) (s x : Operand) (dT sT : TypeId)
  (ho : o.op = .call { callee := .builtin .copy, args := #[s, x], argTypes := #[dT, sT] }) (hu : Try.prog.underlying dT = some (.slice 5))
  (b dc g sc : Nat) (v : Value) (m : Int) (hs : a.eval s = .slice (some ⟨b, 2, none⟩) 16 dc) (hx : a.eval x = .slice (some ⟨g, 0, none⟩) 16 sc) (cs old : List Int) (hcs : cs.length = 16) (hold : old.length = 16) (hb : Vs w b (totL v m old)) (hrow : RowB w g 0 cs)
  (h : wpList Try.prog ops Q rest (a.put o.dst (.int .i64 16)) (w.setCells b 2 (cells8 cs))) : wpList Try.prog ops Q (o :: rest) a w := by
 have hl : (cells8 cs).length = 16 := by rw [cells8_length, hcs]
 have hrun := run_copy_cells (P := Try.prog) w dT sT o.type 5 b 2 16 dc ⟨g, 0, none⟩ 16 sc (cells8 cs) hu (by kernel_rfl) hl (fun j u hu => hrow.cells j u hu)
  (fun j hj => (hb.thereT j (by rw [hold, ← hl]; exact hj)).1) (fun j hj => (hb.thereT j (by rw [hold, ← hl]; exact hj)).2) (one8 cs)
 rw [hl] at hrun
 refine wpList_plain hgd fun K hK => ?_
 unfold Oper.wp execOp
 simp only [ho, resolve, invoke, builtin, Sem.run_bind, Sem.run_pure, Result.andThen_ok, List.map_toArray, List.map_cons, List.map_nil, hs, hx, hrun]
 exact hK _ _ h

abbrev TvQ := Option Addr × Nat × Nat × Int
def TvOk (f n : Nat) (bs : List Int) (B : Nat) (q : TvQ) (w : World) : Prop :=
 (∃ S : KL f, q.2.1 = n ∧ q.2.2.2 = 0 ∧ S.length = n ∧ vecB S = bs ∧ w.ownsRow B 99 2 (.slice q.1 n q.2.2.1) n (cellsE (esK S))) ∨ (q.1 = none ∧ q.2.1 = 0 ∧ q.2.2.1 = 0 ∧ q.2.2.2 = 7 ∧ ∀ S : KL f, S.length = n → vecB S ≠ bs)
theorem TvOk.call {f n B : Nat} {bs : List Int} {q : TvQ} {w w' : World} (h : TvOk f n bs B q w) (hb : Below w.heap.size w w') : TvOk f n bs B q w' := by
 rcases h with ⟨S, h1, h2, h3, h4, h5⟩ | h
 ·exact .inl ⟨S, h1, h2, h3, h4, own_call h5 hb⟩
 ·exact .inr h
structure RkK (w0 : World) (rb B : Nat) (xs ys bs : List Int) (f n : Nat) (o : Option (Option Addr × Nat)) (q : Option TvQ) (w : World) : Prop where
 k : RjK w0 rb B xs ys bs o w
 q : ∀ p, q = some p → TvOk f n bs w0.heap.size p w
def RkT (w0 : World) (rb : Nat) (o : Option (Option Addr × Nat)) (q : Option TvQ) (w : World) : Prop := Exc (fun q => q = rb) w0.heap.size w0 w
section
variable {w0 w w' : World} {rb B f n : Nat} {xs ys bs : List Int} {o : Option (Option Addr × Nat)} {q : Option TvQ}
theorem RkK.weak (o : Option (Option Addr × Nat)) (q : Option TvQ) (w : World) (h : RkK w0 rb B xs ys bs f n o q w) : RkT w0 rb o q w := h.k.t
theorem RkK.clo : Clo (RkK w0 rb B xs ys bs f n o q) := fun w w' h hb => ⟨RjK.clo w w' h.k hb, fun p e => (h.q p e).call hb⟩
theorem RkK.start (h : RdL w0 rb B xs) : RkK w0 rb B xs ys bs f n none none w0.drew := ⟨RjK.start h, fun p e => by cases e⟩
theorem RkK.took (h : RkK w0 rb B xs ys bs f n none none w) {e : Ending} (hr : RetRd rb B bs ys w e w') : ∃ p : Option Addr × Nat, e = .returned (.slice p.1 bs.length p.2) ∧ RkK w0 rb B xs ys bs f n (some p) none w' := by
 obtain ⟨p, he, hk⟩ := h.k.took hr
 exact ⟨p, he, hk, fun p e => by cases e⟩
theorem RkK.vec {p : Option Addr × Nat} (h : RkK w0 rb B xs ys bs f n (some p) none w) {e : Ending} (hr : RetTV f n bs w e w') : ∃ q : TvQ, e = .returned (.tuple #[.slice q.1 q.2.1 q.2.2.1, .int .i64 q.2.2.2]) ∧ RkK w0 rb B xs ys bs f n (some p) (some q) w' := by
 rcases hr with ⟨S, A, c, he, hl, hv, ho, hb⟩ | ⟨he, hn, hb⟩
 ·refine ⟨(A, n, c, 0), he, RjK.clo w w' h.k hb, fun q e => ?_⟩
  injection e with e
  subst e
  exact .inl ⟨S, rfl, rfl, hl, hv, own_lower ho h.k.t.size⟩
 ·refine ⟨(none, 0, 0, 7), he, RjK.clo w w' h.k hb, fun q e => ?_⟩
  injection e with e
  subst e
  exact .inr ⟨rfl, rfl, rfl, rfl, hn⟩
end

def TkErr (f n M : Nat) (bs : List Int) (c : Int) : Prop :=
 (c = 3 ∧ bs.length < 20 + M) ∨ (c = 6 ∧ 4 ≤ bs.length ∧ ¬ valB (bs.take 4) ≤ 256) ∨ (c = 7 ∧ 20 + M ≤ bs.length ∧ ∀ S : KL f, S.length = n → vecB S ≠ ((bs.drop 4).drop 16).take M)
def TkRes (f n M xb B0 : Nat) (bs : List Int) (w : World) : Prop :=
 20 + M ≤ bs.length ∧ valB (bs.take 4) ≤ 256 ∧ ∃ (A : Option Addr) (c : Nat) (S : KL f), Vs w xb (totL (.slice A n c) (valB (bs.take 4) : Nat) ((bs.drop 4).take 16)) ∧ w.ownsRow B0 99 2 (.slice A n c) n (cellsE (esK S)) ∧ S.length = n ∧ vecB S = ((bs.drop 4).drop 16).take M
def RetTkC (f n M rb B xb : Nat) (bs : List Int) (w : World) (e : Ending) (w' : World) : Prop :=
 Exc (fun q => q = rb ∨ q = xb) w.heap.size w w' ∧
 ((∃ c, e = .panicked [{ v := .iface 192 (.agg #[.int .i64 c]), recovered := false }] ∧ (∃ xs, RdL w' rb B xs) ∧ TkErr f n M bs c) ∨
  (e = .returned (.tuple #[]) ∧ RdL w' rb B (((bs.drop 4).drop 16).drop M) ∧ TkRes f n M xb w.heap.size bs w'))

end Go.Proofs.Ytbakkmfjamcbfaa
