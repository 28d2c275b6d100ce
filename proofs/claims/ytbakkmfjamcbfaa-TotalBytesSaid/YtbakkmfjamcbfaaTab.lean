/-
 Nums8, PkA, PkB, PkC, PkD, PkE: for TotalBytes.
-/
import Derived.BigQuiet
import Derived.Laws.BitsAllLaws
import Derived.Deep.MidRow
import Derived.Test.YtbakkmfjamcbfaaKav
import Derived.Test.YtbakkmfjamcbfaaTaa
namespace Go.Proofs.Ytbakkmfjamcbfaa
open Go.RowKit Fm Go.ChangeShapes Go.WideShapes Go.Deep
set_option linter.unusedVariables false
set_option maxRecDepth 100000

def Row8 (w : World) (b o : Nat) (xs : List Int) : Prop := ∀ (i : Nat) (e : Int), xs[i]? = some e → w.cell? ⟨b, o + i, none⟩ = some (.int .u8 e)
def ok8 (e : Int) : Prop := 0 ≤ e ∧ e ≤ 255

structure Sl8 (w : World) (B : Nat) (v : Value) (xs : List Int) : Prop where
 ex : ∃ (A : Option Addr) (c : Nat), v = .slice A xs.length c ∧ xs.length ≤ c ∧ c ≤ 9223372036854775807 ∧ (0 < xs.length → ∃ b o, A = some ⟨b, o, none⟩ ∧ b < B ∧ Row8 w b o xs)
 ok : ∀ e, e ∈ xs → ok8 e

theorem Row8.below {w w' : World} {B b o : Nat} {xs : List Int} (h : Row8 w b o xs) (hb : Below B w w') (hB : b < B) : Row8 w' b o xs := fun i e hi => (hb.cell (p := ⟨b, o + i, none⟩) hB).trans (h i e hi)
theorem Sl8.below {w w' : World} {B : Nat} {v : Value} {xs : List Int} (h : Sl8 w B v xs) (hb : Below B w w') : Sl8 w' B v xs := by
 obtain ⟨⟨A, c, hv, h1, h2, h3⟩, ok⟩ := h
 exact ⟨⟨A, c, hv, h1, h2, fun hn => let ⟨b, o, hA, hB, hr⟩ := h3 hn; ⟨b, o, hA, hB, hr.below hb hB⟩⟩, ok⟩
theorem Sl8.mono {w : World} {B B' : Nat} {v : Value} {xs : List Int} (h : Sl8 w B v xs) (hB : B ≤ B') : Sl8 w B' v xs := by
 obtain ⟨⟨A, c, hv, h1, h2, h3⟩, ok⟩ := h
 exact ⟨⟨A, c, hv, h1, h2, fun hn => let ⟨b, o, hA, hb, hr⟩ := h3 hn; ⟨b, o, hA, Nat.lt_of_lt_of_le hb hB, hr⟩⟩, ok⟩
theorem Sl8.nil (w : World) (B : Nat) : Sl8 w B (.slice none 0 0) [] := ⟨⟨none, 0, rfl, Nat.le_refl _, by simp, fun h => absurd h (by simp)⟩, fun _ h => by cases h⟩

theorem cellsOf_u8 : Try.prog.cellsOf 5 = 1 := by kernel_rfl
section
variable {H : Type} {enc : TypeId × Value → H} {W : World} {base : Nat} {sp : Nat → Bool} {hd : Bool}
theorem open_u8s {r : Reach} {b0 : Nat} {v : Value} {d : DataW H} {ps : List MemPlace} (hval : Value.okWide Try.prog W r b0 28 v) (h : DataW.Trod enc Try.prog W base sp hd 28 v d ps) :
  ∃ xs : List Int, Sl8 W W.heap.size v xs := by
 obtain ⟨a0, len, cap, rfl⟩ := okWide_slice Try.underlying28 hval
 obtain ⟨fuel, hf⟩ := h
 rcases open_slice Try.underlying28 hf with ⟨hcs, _⟩ | ⟨a, len', cap', m, n, D, Pl, hcs, _, hle, hcm, hm, _, hi⟩
 ·simp only [Value.cells, List.cons.injEq, Value.slice.injEq, and_true] at hcs
  obtain ⟨rfl, rfl, rfl⟩ := hcs
  exact ⟨[], Sl8.nil _ _⟩
 ·simp only [Value.cells, List.cons.injEq, Value.slice.injEq, and_true] at hcs
  obtain ⟨rfl, rfl, rfl⟩ := hcs
  have hlm : len ≤ m := by rw [hm]; split <;> omega
  have key : ∀ i, i < len → ∃ e : Int, W.cell? (a.add i) = some (.int .u8 e) ∧ ok8 e := by
   intro i hil
   obtain ⟨cs', hc, ht⟩ := hi i (by omega)
   rw [cellsOf_u8] at hc
   obtain ⟨e, he, _, hw⟩ := DataW.trod_int Try.underlying5 ht
   subst he
   obtain ⟨_, _, hat⟩ := World.cells?_some hc
   have h0 := hat 0 (by omega)
   have e0 : (a.add (i * 1)).add 0 = a.add i := by rw [Nat.mul_one]; rfl
   rw [e0] at h0
   exact ⟨e, h0, wf_u8 hw⟩
  have hex : ∃ f : Nat → Int, ∀ i, i < len → W.cell? (a.add i) = some (.int .u8 (f i)) ∧ ok8 (f i) := by
   refine ⟨fun i => if hil : i < len then Classical.choose (key i hil) else 0, fun i hil => ?_⟩
   simp only [dif_pos hil]
   exact Classical.choose_spec (key i hil)
  obtain ⟨f, hfi⟩ := hex
  refine ⟨(List.range len).map f, ⟨⟨some a, cap, by simp, by simpa using hle, by unfold maxLen at hcm; omega, fun hn => ?_⟩, ?_⟩⟩
  ·have hl0 : 0 < len := by simpa using hn
   have hc0 := (hfi 0 hl0).1
   have ha0 : a.add 0 = a := rfl
   rw [ha0] at hc0
   have hlt := lt_of_cell hc0
   obtain ⟨b, o, s⟩ := a
   have hs : s = none := by
    cases s with
    | none => rfl
    | some q => simp [World.cell?] at hc0; split at hc0 <;> simp_all
   subst hs
   refine ⟨b, o, rfl, hlt, fun i e hie => ?_⟩
   have hil : i < len := by
    have := (List.getElem?_eq_some_iff.1 hie).1
    simpa using this
   have hee : e = f i := by
    rw [List.getElem?_map, List.getElem?_range hil] at hie
    simpa using hie.symm
   subst hee
   obtain ⟨k0, _⟩ := hfi i hil
   have ea : (⟨b, o, none⟩ : Addr).add i = ⟨b, o + i, none⟩ := by
    unfold Addr.add
    split <;> simp_all
   rw [ea] at k0
   exact k0
  ·intro e he
   rw [List.mem_map] at he
   obtain ⟨i, hir, rfl⟩ := he
   exact (hfi i (by simpa using hir)).2
end

end Go.Proofs.Ytbakkmfjamcbfaa

namespace Go.Proofs.Ytbakkmfjamcbfaa
open Go.RowKit Fm
set_option linter.unusedVariables false
set_option maxRecDepth 100000

def RetOB (bs : List Int) (w : World) (e : Ending) (w' : World) : Prop :=
 ∃ (A : Option Addr) (c : Nat), e = .returned (.slice A bs.length c) ∧ w'.ownsRow w.heap.size 5 1 (.slice A bs.length c) bs.length (cells8 bs) ∧ Below w.heap.size w w'

theorem own_srcB {w : World} {B n c : Nat} {A : Option Addr} {xs : List Int} (h : w.ownsRow B 5 1 (.slice A n c) n (cells8 xs)) : 0 < n → ∃ b o, A = some ⟨b, o, none⟩ ∧ RowB w b o xs := by
 intro hn
 rcases A with _ | ⟨g, o, s⟩
 ·rcases h.2 with ⟨hv, h0⟩ | ⟨g, cap, cur, hv, _⟩
  ·omega
  ·cases hv
 ·rcases h.2 with ⟨hv, h0⟩ | ⟨g, cap, cur, hv, _⟩
  ·cases hv
  ·injection hv with e1 e2 e3
   injection e1 with e1
   injection e1 with e1 e4 e5
   subst e1
   subst e4
   subst e5
   exact ⟨g, 0, rfl, (own_rowB h).1⟩

structure Wr (w : World) (B b : Nat) (xs : List Int) : Prop where
 ex : ∃ (A : Option Addr) (c : Nat), Vs w b [.slice A xs.length c] ∧ w.ownsRow B 5 1 (.slice A xs.length c) xs.length (cells8 xs) ∧ ∀ g, (Value.slice A xs.length c).ownBlock = some g → g ≠ b
 l : B ≤ b
 lb : B ≤ w.heap.size
theorem Wr.call {w w' : World} {B b : Nat} {xs : List Int} (h : Wr w B b xs) (hb : Below w.heap.size w w') : Wr w' B b xs := by
 obtain ⟨⟨A, c, h1, h2, h3⟩, h4, h5⟩ := h
 exact ⟨⟨A, c, h1.call hb, own_call h2 hb, h3⟩, h4, Nat.le_trans h5 hb.size⟩

set_option maxHeartbeats 4000000 in
theorem pack_Raw (B b : Nat) (xs ys : List Int) (A : Option Addr) (m c : Nat) (w : World) (h : Wr w B b xs) (hm : ys.length = m) (hy : 0 < m → ∃ b o, A = some ⟨b, o, none⟩ ∧ RowB w b o ys) (hn : xs.length + m ≤ 1000000) :
  Calls Try.prog 72 #[.pointer (some ⟨b, 0, none⟩), .slice A m c] w fun e w' => e = .returned (.tuple #[]) ∧ Wr w' B b (xs ++ ys) ∧ Below B w w' := by
 obtain ⟨⟨A1, c1, hV, hown, hob⟩, hBb, hBw⟩ := h
 have HOW := Lib.hid hown
 have HY := Lib.hid hy
 have HM := Lib.hid hm
 have hk1 : xs.length + m ≤ 1099511627776 := by omega
 clear hy hm hown hn
 go_enter Try.func72, Try.ntmps72
 obtain ⟨V0, V1, V2⟩ := hV.get1
 go_wp2_with (at_builtin; (refine wpList_append_B rfl (.tmp 10) (.tmp 11) rfl B _ xs.length xs rfl HOW.out A m c ys rfl HM.out HY.out hk1 hBw ?_; intro v2 w7 hown7 hg7 hat7; obtain ⟨g2, cap2, hv2⟩ := own_shape hown7; subst hv2; have hV7 := hV.exc (S := fun q => (Value.slice A1 xs.length c1).ownBlock = some q) (fun e => hob _ e rfl) (grown_exc hg7); clear V0 V1 V2; obtain ⟨V0, V1, V2⟩ := hV7.get1))
 have hb7 := (Below.refl B w).grown hg7 hBw (fun q hq => (HOW.out.lt q hq).1)
 have hne : ∀ q, (Value.slice g2 (xs.length + m) cap2).ownBlock = some q → q ≠ b := fun q hq => by
  rcases hat7 with h | h
  ·exact hob q (h ▸ hq)
  ·rw [h] at hq
   injection hq with hq
   have := hV.lt
   omega
 have hl : (xs ++ ys).length = xs.length + m := by rw [List.length_append, HM.out]
 refine end_none Try.results72 rfl ⟨rfl, ⟨⟨g2, cap2, ?_, ?_, ?_⟩, hBb, ?_⟩, ?_⟩
 ·rw [hl]
  exact hV7.put 0 (Nat.zero_lt_succ _) _
 ·rw [hl]
  exact own_other hown7 (exc_sc (S := fun q => q = b) (exc_of (Below.refl _ _)) (.inl rfl) 0 _) (fun g hg => hne g hg)
 ·rw [hl]
  exact hne
 ·exact Nat.le_trans hBw (bl_set (p := ⟨b, 0, none⟩) hb7 hBb (.slice g2 (xs.length + m) cap2)).size
 ·exact bl_set (p := ⟨b, 0, none⟩) hb7 hBb _

set_option maxHeartbeats 4000000 in
theorem pack_Uint4 (B b : Nat) (xs : List Int) (x : Nat) (w : World) (h : Wr w B b xs) (hn : xs.length ≤ 900000) :
  Calls Try.prog 71 #[.pointer (some ⟨b, 0, none⟩), .int .u64 x, .int .i64 4] w fun e w' => e = .returned (.tuple #[]) ∧ Wr w' B b (xs ++ bytesN x 4) ∧ Below B w w' := by
 have HH := Lib.hid h
 have HBL := Lib.hid (bytesN_length x 4)
 clear h
 go_enter Try.func71, Try.ntmps71
 go_wp2_with fail
 go_loopw [10] (fun i wr => ∃ k : Nat, k ≤ 4 ∧ i = .int .i64 k ∧ Wr wr B b (xs ++ (bytesN x 4).take k) ∧ Below B w wr) (fun i _ => 4 - (intOf i).toNat)
 case atStart => exact ⟨0, by omega, rfl, by rw [List.take_zero, List.append_nil]; exact HH.out, Below.refl _ _⟩
 case round =>
  obtain ⟨k, hk, rfl, hW, hbw⟩ := hrel
  by_cases hlt : k < 4
  ·obtain ⟨s, hs⟩ : ∃ s, 8 * k = s := ⟨_, rfl⟩
   have hsi : (8 : Int) * (k : Int) = (s : Int) := by omega
   have hs64 : s ≤ 56 := by omega
   have hs0 : (0 : Int) ≤ (s : Int) := by omega
   have hwr := byteN_wrap x s
   have hat : (bytesN x 4)[k]? = some ((x / 2 ^ s % 256 : Nat) : Int) := by rw [bytesN_at x 4 k hlt, ← hs]; rfl
   obtain ⟨d, hd⟩ : ∃ d, x / 2 ^ s % 256 = d := ⟨_, rfl⟩
   rw [hd] at hwr hat
   have HL : Hid (xs ++ (bytesN x 4).take (k + 1) = (xs ++ (bytesN x 4).take k) ++ [(d : Int)]) := by
    show _ = _
    rw [List.take_add_one, hat, List.append_assoc]
    rfl
   have hw8 : IntKind.i64.wrap (s : Int) = (s : Int) := IntWalk.i64_in _ (by omega)
   have hal := (Below.refl wr.heap.size wr).alloc (Nat.le_refl _) (.cells #[.int .u8 (d : Int)] 5)
   have hR1 : RowB (wr.alloc (.cells #[.int .u8 (d : Int)] 5)) wr.heap.size 0 [(d : Int)] := fun i e hi => by
    have hn := (Vs.new wr [.int .u8 (d : Int)] #[.int .u8 (d : Int)] 5 rfl).cell
    match i, hi with
    | 0, hi =>
     injection hi with hi
     subst hi
     exact hn 0 _ rfl
   have HC := Lib.hid (pack_Raw B b (xs ++ (bytesN x 4).take k) [(d : Int)] (some ⟨wr.heap.size, 0, none⟩) 1 1 _ (hW.call hal) rfl (fun _ => ⟨_, _, rfl, hR1⟩) (by rw [List.length_append, List.length_take]; omega))
   have HBW := Lib.hid (bl_call hbw HH.out.lb hal)
   clear hs hd hat hR1 hal hW hbw
   go_wp2_with (go_at_call 72; refine HC.out.mono ?_; rintro e w3 ⟨rfl, hW3, hb3⟩)
   go_roundw
   case rel => exact ⟨k + 1, by omega, by go_num, by rw [HL.out]; exact hW3, HBW.out.trans hb3⟩
   case measure => simp [intOf]; omega
  ·obtain rfl : k = 4 := by omega
   rw [List.take_of_length_le (by rw [HBL.out]; exact Nat.le_refl _)] at hW
   go_wp2_with fail
   exact end_none Try.results71 rfl ⟨rfl, hW, hbw⟩

set_option maxHeartbeats 4000000 in
theorem pack_Bytes (B b : Nat) (xs : List Int) (w : World) (h : Wr w B b xs) (hn : xs.length ≤ 1000000) :
  Calls Try.prog 74 #[.pointer (some ⟨b, 0, none⟩)] w (RetOB xs w) := by
 obtain ⟨⟨A1, c1, hV, hown, hob⟩, hBb, hBw⟩ := h
 have HOW := Lib.hid hown
 clear hown
 go_enter Try.func74, Try.ntmps74
 obtain ⟨V0, V1, V2⟩ := hV.get1
 have hb1 : Below w.heap.size w (w.alloc (.cells #[] 5)) := (Below.refl _ _).alloc (Nat.le_refl _) _
 have hown0 : (w.alloc (.cells #[] 5)).ownsRow w.heap.size 5 1 (.slice (some ⟨w.heap.size, 0, none⟩) 0 0) 0 (cells8 []) := World.ownsRow_made w #[] 0 (Nat.le_refl _) (by unfold maxLen; omega) rfl
 have HW := Lib.hid hown0
 have HSRC := Lib.hid (own_srcB (own_call HOW.out hb1))
 have hk1 : 0 + xs.length ≤ 1099511627776 := by omega
 clear hown0 hn
 go_wp2_with (at_builtin; (refine wpList_append_B rfl (.tmp 5) (.tmp 9) rfl w.heap.size _ 0 [] rfl HW.out A1 xs.length c1 xs rfl rfl HSRC.out hk1 (by simp) ?_; intro v2 w2 hown2 hg2 hat2; have hb2 : Below w.heap.size w w2 := hb1.trans ((Below.refl _ _).grown hg2 (by simp) (fun k hk => Nat.le_of_eq (Option.some.inj hk))); rw [Nat.zero_add, List.nil_append] at hown2; obtain ⟨g2, cap2, hv2⟩ := own_shape hown2; subst hv2))
 go_ret
 exact ⟨g2, cap2, rfl, hown2, hb2⟩

section
variable {f : Nat} (hf : IsF f)
include hf

set_option maxHeartbeats 4000000 in
theorem field_VecO (vl : Value) (l : KL f) (w : World) (hl : SlK w w.heap.size vl l) (hn : l.length ≤ 1000000) :
  Calls Try.prog 73 #[.int .u8 f, vl] w (RetOB (vecB l) w) := by
 obtain ⟨A, c, rfl, hc, hcm, hA⟩ := hl
 have HBY := Lib.hid (fun (x : Fin (Pm f)) wz => field_Bytes hf x wz)
 have hfb0 : (1 : Int) ≤ (f : Int) := by rcases hf.or with rfl | rfl <;> omega
 have hfb1 : (f : Int) ≤ 2 := by rcases hf.or with rfl | rfl <;> omega
 have hsk : sizeK f ≤ 16 ∧ 1 ≤ sizeK f := by unfold sizeK; split <;> omega
 obtain ⟨S, hS⟩ : ∃ S, sizeK f = S := ⟨_, rfl⟩
 rw [hS] at HBY hsk
 have HS := Lib.hid hS
 clear hS
 go_enter Try.func73, Try.ntmps73
 go_wp2_with fail
 go_loopw [5, 10] (fun v5 i wr => ∃ (k : Nat) (A' : Option Addr) (m cp : Nat), k ≤ l.length ∧ i = .int .i64 k ∧ v5 = .slice A' m cp ∧ m ≤ 16 * k ∧ Hid ((vecB (l.take k)).length = m) ∧ wr.ownsRow w.heap.size 5 1 (.slice A' m cp) m (cells8 (vecB (l.take k))) ∧ Below w.heap.size w wr) (fun _ i _ => l.length - (intOf i).toNat)
 case atStart => exact ⟨0, none, 0, 0, Nat.zero_le _, rfl, rfl, by omega, (by rw [List.take_zero]; rfl : (vecB (l.take 0)).length = 0), World.ownsRow_nil _ _ _ _, Below.refl _ _⟩
 case round =>
  obtain ⟨k, A', m, cp, hk, rfl, rfl, hm, hml, hown, hbw⟩ := hrel
  by_cases hlt : k < l.length
  ·obtain ⟨b, o, rfl, hB, hr⟩ := hA (by omega)
   obtain ⟨x, he⟩ : ∃ e, l[k]? = some e := ⟨_, List.getElem?_eq_getElem hlt⟩
   obtain ⟨d0, d1⟩ := (hr.below hbw hB).kat he
   have HV : Hid (vecB (l.take (k + 1)) = vecB (l.take k) ++ bytesK x) := by
    show vecB (l.take (k + 1)) = _
    unfold vecB
    rw [List.take_add_one, he, List.flatMap_append]
    simp
   have HXL : Hid ((bytesK x).length = S) := by show (bytesK x).length = S; rw [bytesK_length, HS.out]
   clear he hr hA
   go_upto_region 5 with fail
   have hz := hbw.size
   have hx := V2.new wr (.int .u64 (lo x)) (.int .u64 (hi x)) 99
   have hbA : Below wr.heap.size wr (wr.alloc (.cells #[.int .u64 (lo x), .int .u64 (hi x)] 99)) := by repeat (first | exact bA | with_reducible assumption | apply bB)
   replace hbw := bl_call hbw (Nat.le_refl _) hbA
   replace hown := own_call hown hbA
   clear hbA
   generalize wr.alloc (.cells #[.int .u64 (lo x), .int .u64 (hi x)] 99) = w4 at hbw hown hx ⊢
   obtain ⟨x0, x1, x2, x3, x4⟩ := V2.mk hx.c0 hx.c1 hx.f0 hx.f1 hx.lt
   generalize vecB (l.take k) = zs at *
   have hz4 := hbw.size
   go_wp2_with (first
    | (go_at_call 106; refine (HBY.out x _).mono ?_; rintro e w5 ⟨g, rfl, hg, hgl, hb5⟩; have hbw5 := bl_call hbw (Nat.le_refl _) hb5; have HOW := Lib.hid (own_call hown hb5); have hbase : w.heap.size ≤ w5.heap.size := hbw5.size; have HR1 : Hid (0 < S → ∃ b o, (some ⟨g, 0, none⟩ : Option Addr) = some ⟨b, o, none⟩ ∧ RowB w5 b o (bytesK x)) := (fun _ => ⟨g, 0, rfl, fun i e hi => by rw [Nat.zero_add]; exact hg.cell i _ (cells8_at hi)⟩); have hk1 : m + S ≤ 1099511627776 := by omega)
    | (at_builtin; (refine wpList_append_B rfl (.tmp 14) (.tmp 17) rfl w.heap.size _ m zs rfl HOW.out (some ⟨g, 0, none⟩) S S (bytesK x) rfl HXL.out HR1.out hk1 hbase ?_; intro v2 w7 hown7 hg7 hat7; have hb7 : Below w.heap.size w5 w7 := (Below.refl _ _).grown hg7 hbase (fun q hq => (HOW.out.lt q hq).1); obtain ⟨g2, cap2, hv2⟩ := own_shape hown7; rw [hv2])))
   rw [hv2, ← HV.out] at hown7
   go_roundw
   case rel => exact ⟨k + 1, _, m + S, cap2, by omega, by go_num, rfl, by omega, (by rw [HV.out, List.length_append, HXL.out, hml.out] : (vecB (l.take (k + 1))).length = m + S), hown7, hbw5.trans hb7⟩
   case measure => simp [intOf]; omega
  ·obtain rfl : k = l.length := by omega
   rw [List.take_length] at hml hown
   go_wp2_with fail
   go_ret
   have hml9 := hml.out
   subst hml9
   exact ⟨_, _, rfl, hown, hbw⟩
end

end Go.Proofs.Ytbakkmfjamcbfaa

namespace Go.Proofs.Ytbakkmfjamcbfaa
open Go.RowKit Fm
set_option linter.unusedVariables false
set_option maxRecDepth 100000

def putB {f : Nat} (N : Nat) (K : List Int) (S : KL f) : List Int := bytesN N 4 ++ (K ++ vecB S)

theorem Vs.rowK {w : World} {b : Nat} {v : Value} {m : Int} {k : List Int} (h : Vs w b (totL v m k)) : RowB w b 2 k := fun i e hi => by
 have hlt : i < k.length := (List.getElem?_eq_some_iff.1 hi).1
 have h1 := (h.totK hlt).1
 rw [List.getD_eq_getElem?_getD, hi] at h1
 exact h1

theorem own_lower {w : World} {B B' : Nat} {e : TypeId} {size : Nat} {v : Value} {n : Nat} {xs : List Value} (h : w.ownsRow B e size v n xs) (hb : B' ≤ B) : w.ownsRow B' e size v n xs :=
 ⟨h.1, h.2.imp id fun ⟨g, cap, cur, h1, h2, h3⟩ => ⟨g, cap, cur, h1, Nat.le_trans hb h2, h3⟩⟩

section
variable {f : Nat} (hf : IsF f)
include hf

set_option maxHeartbeats 4000000 in
theorem total_Put (k b l m c p : Int) (s : ByteArray) (vx : Value) (S : KL f) (N : Nat) (K : List Int) (w : World) (hx : SlK w w.heap.size vx S) (hS : S.length ≤ 1000) (hN : N ≤ 1000000) (hK : K.length = 16) :
  Calls Try.prog 39 #[.agg (totL vx (N : Int) K).toArray, .agg #[.int .u8 k, .int .u8 f, .int .i64 b, .int .i64 l, .int .i64 m, .int .i64 c, .int .i64 p, .string s]] w (RetOB (putB N K S) w) := by
 have hfb0 : (1 : Int) ≤ (f : Int) := by rcases hf.or with rfl | rfl <;> omega
 have hfb1 : (f : Int) ≤ 2 := by rcases hf.or with rfl | rfl <;> omega
 have hsk : sizeK f ≤ 16 ∧ 1 ≤ sizeK f := by unfold sizeK; split <;> omega
 have HVL : Hid ((vecB S).length ≤ 16000) := by
  show (vecB S).length ≤ 16000
  rw [vecB_length]
  calc S.length * sizeK f ≤ 1000 * 16 := Nat.mul_le_mul hS hsk.1
   _ = 16000 := rfl
 have HS9 := Lib.hid hS
 have HK := Lib.hid hK
 have HX := Lib.hid hx
 have hwN : IntKind.u64.wrap (N : Int) = (N : Int) := IntWalk.u64_in _ (by omega)
 clear hS hsk hx
 go_enter Try.func39, Try.ntmps39
 go_upto_region 1 with fail
 have hX := (Vs.new w (totL vx (N : Int) K) ((totL vx (N : Int) K).toArray) 76 rfl).alloc (.cells #[.int .u8 k, .int .u8 f, .int .i64 b, .int .i64 l, .int .i64 m, .int .i64 c, .int .i64 p, .string s] 62)
 have hT := Vs.new (w.alloc (.cells (totL vx (N : Int) K).toArray 76)) [.int .u8 k, .int .u8 f, .int .i64 b, .int .i64 l, .int .i64 m, .int .i64 c, .int .i64 p, .string s] #[.int .u8 k, .int .u8 f, .int .i64 b, .int .i64 l, .int .i64 m, .int .i64 c, .int .i64 p, .string s] 62 rfl
 simp only [World.size_alloc] at hT
 have hb00 : Below w.heap.size w ((w.alloc (.cells (totL vx (N : Int) K).toArray 76)).alloc (.cells #[.int .u8 k, .int .u8 f, .int .i64 b, .int .i64 l, .int .i64 m, .int .i64 c, .int .i64 p, .string s] 62)) := by repeat (first | exact bA | with_reducible assumption | apply bB)
 have hszn : w.heap.size + 2 ≤ ((w.alloc (.cells (totL vx (N : Int) K).toArray 76)).alloc (.cells #[.int .u8 k, .int .u8 f, .int .i64 b, .int .i64 l, .int .i64 m, .int .i64 c, .int .i64 p, .string s] 62)).heap.size := by simp only [World.size_alloc]; omega
 generalize ((w.alloc (.cells (totL vx (N : Int) K).toArray 76)).alloc (.cells #[.int .u8 k, .int .u8 f, .int .i64 b, .int .i64 l, .int .i64 m, .int .i64 c, .int .i64 p, .string s] 62)) = w1 at hX hT hb00 hszn ⊢
 have hW1 : Wr (w1.alloc (.cells #[.slice none 0 0] 156)) w1.heap.size w1.heap.size [] := ⟨⟨none, 0, Vs.new w1 _ _ 156 rfl, World.ownsRow_nil _ _ _ _, fun g h => by cases h⟩, Nat.le_refl _, by simp⟩
 have hbA := (Below.refl w1.heap.size w1).alloc (Nat.le_refl _) (.cells #[.slice none 0 0] 156)
 go_upto_region 2 with fail
 generalize w1.alloc (.cells #[.slice none 0 0] 156) = w2 at hW1 hbA ⊢
 have hX2 := hX.call hbA
 obtain ⟨x0, x1, x2, x3, x4⟩ := hX2.tot
 go_upto_region 3 with (go_at_call 71; refine (pack_Uint4 w1.heap.size w1.heap.size [] N _ hW1 (by simp)).mono ?_; rintro e w3 ⟨rfl, hW3, hb3⟩)
 rw [List.nil_append] at hW3
 clear x0 x1 x2 x3 x4 hX2 hW1
 have hbB := hbA.trans hb3
 clear hbA hb3
 have hX3 := hX.call hbB
 have hr3 := hX3.rowK
 obtain ⟨x0, x1, x2, x3, x4⟩ := hX3.tot
 have HR3 := Lib.hid (fun (_ : 0 < 16) => (⟨w.heap.size, 2, rfl, hr3⟩ : ∃ b o, (some ⟨w.heap.size, 2, none⟩ : Option Addr) = some ⟨b, o, none⟩ ∧ RowB w3 b o K))
 have HRW := Lib.hid (pack_Raw w1.heap.size w1.heap.size _ K (some ⟨w.heap.size, 2, none⟩) 16 16 w3 hW3 HK.out HR3.out (by rw [bytesN_length]; omega))
 clear hr3 hW3
 go_upto_region 4 with (go_at_call 72; refine HRW.out.mono ?_; rintro e w4 ⟨rfl, hW4, hb4⟩)
 clear x0 x1 x2 x3 x4 hX3
 have hbC := hbB.trans hb4
 clear hbB hb4
 have hX4 := hX.call hbC
 have hT4 := hT.call hbC
 have HX4 := HX.out.later (hb00.trans (hbC.mono hb00.size))
 obtain ⟨x0, x1, x2, x3, x4⟩ := hX4.tot
 obtain ⟨⟨T40, T41, T42, T43, T44, T45, T46, T47⟩, ⟨T48, T49, T410, T411, T412, T413, T414, T415⟩, T416⟩ := hT4.get8
 have HVE := Lib.hid (field_VecO hf vx S w4 HX4 (by have := HS9.out; omega))
 have HW4 := Lib.hid hW4
 have HBC := Lib.hid hbC
 have HB00 := Lib.hid hb00
 clear hb00 hbC
 clear hW4 hX hT HX4 hX4
 have HNX : Hid (∀ (A : Option Addr) (cc : Nat) wz, wz.ownsRow w4.heap.size 5 1 (.slice A (vecB S).length cc) (vecB S).length (cells8 (vecB S)) → Below w4.heap.size w4 wz → Calls Try.prog 72 #[.pointer (some ⟨w1.heap.size, 0, none⟩), .slice A (vecB S).length cc] wz fun e w' => e = .returned (.tuple #[]) ∧ Wr w' w1.heap.size w1.heap.size (putB N K S) ∧ Below w1.heap.size wz w') := Lib.hid fun A cc wz h1 h2 => (pack_Raw w1.heap.size w1.heap.size _ (vecB S) A (vecB S).length cc wz (HW4.out.call h2) rfl (own_srcB h1) (by rw [List.length_append, bytesN_length, HK.out]; have := HVL.out; omega)).mono fun e w' ⟨he, h3, h4⟩ => ⟨he, by unfold putB; rw [← List.append_assoc]; exact h3, h4⟩
 have HPL : Hid ((putB N K S).length ≤ 1000000) := by
  show (putB N K S).length ≤ 1000000
  unfold putB
  rw [List.length_append, List.length_append, bytesN_length, HK.out]
  have := HVL.out
  omega
 clear hwN
 go_upto_region 5 with (first
  | (go_at_call 73; refine HVE.out.mono ?_; rintro e w5 ⟨A5, c5, rfl, ho5, hb5⟩; have HN5 := Lib.hid (HNX.out A5 c5 w5 ho5 hb5); have HB5 := Lib.hid (HBC.out.trans (hb5.mono HBC.out.size)); clear HNX HVE ho5 hb5 x0 x1 x2 x3 x4; clear T40 T41 T42 T43 T44 T45 T46 T47 T48 T49 T410 T411 T412 T413 T414 T415 T416)
  | (go_at_call 72; refine HN5.out.mono ?_; rintro e w6 ⟨rfl, hW6, hb6⟩))
 have HBY := Lib.hid (pack_Bytes w1.heap.size w1.heap.size _ w6 hW6 HPL.out)
 have HB6 := Lib.hid (HB00.out.trans ((HB5.out.trans hb6).mono HB00.out.size))
 clear hb6 hW6
 go_wp2_with (go_at_call 74; refine HBY.out.mono ?_; rintro e w7 ⟨A7, c7, rfl, ho7, hb7⟩)
 go_ret
 exact ⟨A7, c7, rfl, own_lower ho7 HB6.out.size, bl_call HB6.out (Nat.le_refl _) hb7⟩
end

end Go.Proofs.Ytbakkmfjamcbfaa

namespace Go.Proofs.Ytbakkmfjamcbfaa
open Go.RowKit Fm
set_option linter.unusedVariables false
set_option maxRecDepth 100000

def valB : List Int → Nat
 | [] => 0
 | b :: l => b.toNat + 256 * valB l
theorem valB_snoc (l : List Int) (b : Int) : valB (l ++ [b]) = valB l + b.toNat * 256 ^ l.length := by
 induction l with
 | nil => simp [valB]
 | cons a l ih =>
  show a.toNat + 256 * valB (l ++ [b]) = a.toNat + 256 * valB l + b.toNat * 256 ^ (l.length + 1)
  rw [ih, Nat.mul_add, Nat.pow_succ, Nat.add_assoc]
  have : 256 * (b.toNat * 256 ^ l.length) = b.toNat * (256 ^ l.length * 256) := by rw [Nat.mul_left_comm, Nat.mul_comm (256 ^ l.length)]
  rw [this]
theorem valB_lt (l : List Int) (h : B8 l) : valB l < 256 ^ l.length := by
 induction l with
 | nil => simp [valB]
 | cons a l ih =>
  have h1 := ih fun x hx => h x (List.mem_cons_of_mem _ hx)
  have h2 := h a (List.mem_cons_self ..)
  show a.toNat + 256 * valB l < 256 ^ (l.length + 1)
  rw [Nat.pow_succ]
  omega
theorem valB_take (l : List Int) (i : Nat) (b : Int) (h : l[i]? = some b) : valB (l.take (i + 1)) = valB (l.take i) + b.toNat * 2 ^ (8 * i) := by
 have hlt : i < l.length := (List.getElem?_eq_some_iff.1 h).1
 rw [List.take_add_one, h, Option.toList_some, valB_snoc, List.length_take, Nat.min_eq_left (by omega), show (256 : Nat) = 2 ^ 8 from rfl, ← Nat.pow_mul]
theorem valB_bytesN (n : Nat) : ∀ x, x < 256 ^ n → valB (bytesN x n) = x := by
 intro x hx
 have key : ∀ i, i ≤ n → valB ((bytesN x n).take i) = x % 256 ^ i := by
  intro i
  induction i with
  | zero => intro _; simp [valB, Nat.mod_one]
  | succ i ih =>
   intro hi
   rw [valB_take _ i _ (bytesN_at x n i (by omega)), ih (by omega), Nat.pow_succ, Nat.mod_mul, Int.toNat_natCast, byteN_256, Nat.pow_mul, show (2 : Nat) ^ 8 = 256 from rfl, Nat.mul_comm]
 have h := key n (Nat.le_refl _)
 rwa [List.take_of_length_le (by rw [bytesN_length]; exact Nat.le_refl _), Nat.mod_eq_of_lt hx] at h
theorem or_byte (a s : Nat) (c : Int) (ha : a < 2 ^ s) (hc : 0 ≤ c ∧ c ≤ 255) (hs : s ≤ 56) : bits BinOp.or IntKind.u64 (a : Int) (IntKind.u64.wrap (c * 2 ^ s)) = ((a + c.toNat * 2 ^ s : Nat) : Int) := by
 obtain ⟨n, rfl⟩ := Int.eq_ofNat_of_zero_le hc.1
 have hp : (2 : Nat) ^ s ≤ 2 ^ 56 := Nat.pow_le_pow_right (by omega) hs
 have e56 : (2 : Nat) ^ 56 = 72057594037927936 := rfl
 have h1 : n * 2 ^ s ≤ 255 * 2 ^ s := Nat.mul_le_mul_right _ (by omega)
 have hw : IntKind.u64.wrap (((n : Nat) : Int) * 2 ^ s) = ((n * 2 ^ s : Nat) : Int) := by
  have e : ((n : Nat) : Int) * 2 ^ s = ((n * 2 ^ s : Nat) : Int) := by rw [Int.natCast_mul, Int.natCast_pow]; rfl
  rw [e]
  exact IntWalk.u64_in _ (by omega)
 rw [hw, u64_or_nat _ _ (by omega) (by omega), Nat.or_comm, ← Nat.shiftLeft_eq, ← Nat.shiftLeft_add_eq_or_of_lt ha, Int.toNat_natCast, Nat.shiftLeft_eq, Nat.add_comm]

theorem list8 {l : List Int} (h : l.length = 8) : ∃ b0 b1 b2 b3 b4 b5 b6 b7, l = [b0, b1, b2, b3, b4, b5, b6, b7] := by
 match l, h with
 | [b0, b1, b2, b3, b4, b5, b6, b7], _ => exact ⟨_, _, _, _, _, _, _, _, rfl⟩

set_option maxHeartbeats 4000000 in
theorem gold_Take (bs : List Int) (hl : bs.length = 8) (h8 : B8 bs) (w : World) :
  Calls Try.prog 124 #[.agg (cells8 bs).toArray] w fun e w' => ∃ (v : Nat) (c : Int), e = .returned (.tuple #[.int .u64 (v : Int), .int .i64 c]) ∧ Below w.heap.size w w' ∧ (valB bs < 18446744069414584321 ∧ c = 0 ∧ v = valB bs ∨ ¬ valB bs < 18446744069414584321 ∧ c = 7 ∧ v = 0) := by
 have hlt := valB_lt bs h8
 rw [hl] at hlt
 have hlt2 : valB bs < 18446744073709551616 := hlt
 have HIN := Lib.hid (gold_In ((valB bs : Nat) : Int) · (by omega) (by omega))
 have hidx : ∀ k : Nat, k < 8 → ∀ w, (Instr.index 205 (.agg (cells8 bs).toArray) (.int .i64 (k : Int))).run Try.prog w = .ok (.int .u8 (bs.getD k 0)) w := by
  obtain ⟨b0, b1, b2, b3, b4, b5, b6, b7, rfl⟩ := list8 hl
  intro k hk w
  obtain rfl | rfl | rfl | rfl | rfl | rfl | rfl | rfl : k = 0 ∨ k = 1 ∨ k = 2 ∨ k = 3 ∨ k = 4 ∨ k = 5 ∨ k = 6 ∨ k = 7 := by omega
  all_goals kernel_rfl
 have HLD : Hid (∀ wz bk, Vs wz bk (cells8 bs) → (Instr.loadAt 205 (.pointer (some ⟨bk, 0, none⟩))).run Try.prog wz = .ok (.agg (cells8 bs).toArray) wz) := by
  obtain ⟨b0, b1, b2, b3, b4, b5, b6, b7, rfl⟩ := list8 hl
  intro wz bk h
  exact load_b8 h
 have HIDX := Lib.hid hidx
 have HL := Lib.hid hl
 have H8 := Lib.hid h8
 clear hlt hidx hl h8
 go_enter Try.func124, Try.ntmps124
 go_upto_region 1 with fail
 have hx := Vs.new w (cells8 bs) ((cells8 bs).toArray) 205 rfl
 have hb00 : Below w.heap.size w (w.alloc (.cells (cells8 bs).toArray 205)) := by repeat (first | exact bA | with_reducible assumption | apply bB)
 have hszn : w.heap.size + 1 ≤ (w.alloc (.cells (cells8 bs).toArray 205)).heap.size := by simp only [World.size_alloc]; omega
 generalize (w.alloc (.cells (cells8 bs).toArray 205)) = w1 at hx hb00 hszn ⊢
 go_upto_region 2 with fail
 refine wp_region_lit ?_
 refine wpList_valD (some 7) rfl rfl (exec_load rfl (by kernel_rfl) (HLD.out _ _ hx)) ?_
 simp only [Zp, Zq, Zr, Zs]
 refine wpList_valD (some 8) rfl rfl (by (go_simp; first | with_reducible rfl | exact ⟨rfl, rfl⟩ | (trace_state; fail))) ?_
 simp only [Zp, Zq, Zr, Zs]
 clear hx HLD
 go_wp2_with fail
 go_loopw [4, 8] (fun v4 v8 wr => ∃ k : Nat, k ≤ 8 ∧ v8 = .int .i64 k ∧ v4 = .int .u64 ((valB (bs.take k) : Nat) : Int) ∧ wr = w1) (fun _ v8 _ => 8 - (intOf v8).toNat)
 case atStart => exact ⟨0, by omega, rfl, rfl, rfl⟩
 case round =>
  obtain ⟨k, hk, rfl, rfl, rfl⟩ := hrel
  by_cases hlt : k < 8
  ·have hi := HIDX.out k hlt
   have hat : bs[k]? = some (bs.getD k 0) := by rw [List.getD_eq_getElem?_getD, List.getElem?_eq_getElem (by rw [HL.out]; exact hlt)]; rfl
   obtain ⟨r0, r1⟩ := H8.out _ (List.mem_of_getElem? hat)
   have ha := valB_lt (bs.take k) (fun x hx => H8.out x (List.mem_of_mem_take hx))
   rw [List.length_take, HL.out, Nat.min_eq_left hk, show (256 : Nat) = 2 ^ 8 from rfl, ← Nat.pow_mul] at ha
   have HV := Lib.hid (valB_take bs k _ hat)
   generalize valB (bs.take k) = a at *
   generalize bs.getD k 0 = c at *
   obtain ⟨s, hs⟩ : ∃ s, 8 * k = s := ⟨_, rfl⟩
   rw [hs] at HV ha
   have hsi : (8 : Int) * (k : Int) = (s : Int) := by omega
   have hs64 : s ≤ 56 := by omega
   have hs0 : (0 : Int) ≤ (s : Int) := by omega
   have hor := or_byte a s c ha ⟨r0, r1⟩ hs64
   have hw8 : IntKind.i64.wrap (s : Int) = (s : Int) := IntWalk.i64_in _ (by omega)
   obtain ⟨d, hd⟩ : ∃ d, a + c.toNat * 2 ^ s = d := ⟨_, rfl⟩
   rw [hd] at hor
   have HD : Hid (valB (bs.take (k + 1)) = d) := Lib.hid (HV.out.trans hd)
   clear hs hd hat ha HV
   go_wp2_with fail
   go_roundw
   case rel => exact ⟨k + 1, by omega, by go_num, by rw [HD.out], trivial⟩
   case measure => simp [intOf]; omega
  ·obtain rfl : k = 8 := by omega
   rw [List.take_of_length_le (by rw [HL.out]; exact Nat.le_refl _)]
   have HB := Lib.hid hb00
   by_cases hp : valB bs < 18446744069414584321
   ·have hd : decide (((valB bs : Nat) : Int) < 18446744069414584321) = true := decide_eq_true (by omega)
    rw [hd] at HIN
    have HP := Lib.hid hp
    clear hp hd hlt2
    go_wp2_with (go_at_call 120; refine (HIN.out _).mono ?_; rintro e w3 ⟨rfl, rfl⟩)
    go_ret2
    exact ⟨_, _, rfl, HB.out, .inl ⟨HP.out, rfl, rfl⟩⟩
   ·have hd : decide (((valB bs : Nat) : Int) < 18446744069414584321) = false := decide_eq_false (by omega)
    rw [hd] at HIN
    have HP := Lib.hid hp
    clear hp hd hlt2
    go_wp2_with (go_at_call 120; refine (HIN.out _).mono ?_; rintro e w3 ⟨rfl, rfl⟩)
    go_ret2
    exact ⟨0, _, rfl, HB.out, .inr ⟨HP.out, rfl, rfl⟩⟩

end Go.Proofs.Ytbakkmfjamcbfaa

namespace Go.Proofs.Ytbakkmfjamcbfaa
open Go.RowKit Fm
set_option linter.unusedVariables false
set_option maxRecDepth 100000

theorem list16p {l : List Int} (h : l.length = 16) : ∃ b0 b1 b2 b3 b4 b5 b6 b7 b8 b9 ba bb bc bd be bf, l = [b0, b1, b2, b3, b4, b5, b6, b7, b8, b9, ba, bb, bc, bd, be, bf] := by
 match l, h with
 | [b0, b1, b2, b3, b4, b5, b6, b7, b8, b9, ba, bb, bc, bd, be, bf], _ => exact ⟨_, _, _, _, _, _, _, _, _, _, _, _, _, _, _, _, rfl⟩

set_option maxHeartbeats 4000000 in
theorem wide_Take (bs : List Int) (hl : bs.length = 16) (h8 : B8 bs) (w : World) :
  Calls Try.prog 125 #[.agg (cells8 bs).toArray] w fun e w' => ∃ (v0 v1 : Nat) (c : Int), e = .returned (.tuple #[.agg #[.int .u64 (v0 : Int), .int .u64 (v1 : Int)], .int .i64 c]) ∧ Below w.heap.size w w' ∧
   ((valB (bs.take 8) : Nat) + 18446744073709551616 * valB (bs.drop 8) < 340282366920938462946865773367900766209 ∧ c = 0 ∧ v0 = valB (bs.take 8) ∧ v1 = valB (bs.drop 8) ∨ ¬ valB (bs.take 8) + 18446744073709551616 * valB (bs.drop 8) < 340282366920938462946865773367900766209 ∧ c = 7 ∧ v0 = 0 ∧ v1 = 0) := by
 have hl1 : (bs.take 8).length = 8 := by rw [List.length_take]; omega
 have hl2 : (bs.drop 8).length = 8 := by rw [List.length_drop]; omega
 have hb1 : B8 (bs.take 8) := fun x hx => h8 x (List.mem_of_mem_take hx)
 have hb2 : B8 (bs.drop 8) := fun x hx => h8 x (List.mem_of_mem_drop hx)
 have hlt := valB_lt _ hb1
 rw [hl1] at hlt
 have hlt2 : valB (bs.take 8) < 18446744073709551616 := hlt
 have HIN := Lib.hid (wide_In ((valB (bs.take 8) : Nat) : Int) ((valB (bs.drop 8) : Nat) : Int) · (by omega) (by omega))
 have hidx : ∀ k : Nat, k < 16 → ∀ w, (Instr.index 23 (.agg (cells8 bs).toArray) (.int .i64 (k : Int))).run Try.prog w = .ok (.int .u8 (bs.getD k 0)) w := by
  obtain ⟨b0, b1, b2, b3, b4, b5, b6, b7, b8, b9, ba, bb, bc, bd, be, bf, rfl⟩ := list16p hl
  intro k hk w
  obtain rfl | rfl | rfl | rfl | rfl | rfl | rfl | rfl | rfl | rfl | rfl | rfl | rfl | rfl | rfl | rfl : k = 0 ∨ k = 1 ∨ k = 2 ∨ k = 3 ∨ k = 4 ∨ k = 5 ∨ k = 6 ∨ k = 7 ∨ k = 8 ∨ k = 9 ∨ k = 10 ∨ k = 11 ∨ k = 12 ∨ k = 13 ∨ k = 14 ∨ k = 15 := by omega
  all_goals kernel_rfl
 have HLD : Hid (∀ wz bk, Vs wz bk (cells8 bs) → (Instr.loadAt 23 (.pointer (some ⟨bk, 0, none⟩))).run Try.prog wz = .ok (.agg (cells8 bs).toArray) wz) := by
  obtain ⟨b0, b1, b2, b3, b4, b5, b6, b7, b8, b9, ba, bb, bc, bd, be, bf, rfl⟩ := list16p hl
  intro wz bk h
  exact load_b16 h
 have HIDX := Lib.hid hidx
 have HL := Lib.hid hl
 have H8 := Lib.hid h8
 have HA : Hid (∀ k, k < 8 → ∃ c, bs.getD k 0 = c ∧ (0 ≤ c ∧ c ≤ 255) ∧ valB ((bs.take 8).take k) < 2 ^ (8 * k) ∧ valB ((bs.take 8).take (k + 1)) = valB ((bs.take 8).take k) + c.toNat * 2 ^ (8 * k)) := fun k hk => by
  have hat : (bs.take 8)[k]? = some (bs.getD k 0) := by rw [List.getD_eq_getElem?_getD, List.getElem?_take_of_lt hk, List.getElem?_eq_getElem (by rw [HL.out]; omega)]; rfl
  refine ⟨_, rfl, hb1 _ (List.mem_of_getElem? hat), ?_, valB_take _ k _ hat⟩
  have ha := valB_lt ((bs.take 8).take k) (fun x hx => hb1 x (List.mem_of_mem_take hx))
  rwa [List.length_take, hl1, Nat.min_eq_left (by omega), show (256 : Nat) = 2 ^ 8 from rfl, ← Nat.pow_mul] at ha
 have HB : Hid (∀ k, k < 8 → ∃ c, bs.getD (8 + k) 0 = c ∧ (0 ≤ c ∧ c ≤ 255) ∧ valB ((bs.drop 8).take k) < 2 ^ (8 * k) ∧ valB ((bs.drop 8).take (k + 1)) = valB ((bs.drop 8).take k) + c.toNat * 2 ^ (8 * k)) := fun k hk => by
  have hat : (bs.drop 8)[k]? = some (bs.getD (8 + k) 0) := by rw [List.getD_eq_getElem?_getD, List.getElem?_drop, List.getElem?_eq_getElem (by rw [HL.out]; omega)]; rfl
  refine ⟨_, rfl, hb2 _ (List.mem_of_getElem? hat), ?_, valB_take _ k _ hat⟩
  have ha := valB_lt ((bs.drop 8).take k) (fun x hx => hb2 x (List.mem_of_mem_take hx))
  rwa [List.length_take, hl2, Nat.min_eq_left (by omega), show (256 : Nat) = 2 ^ 8 from rfl, ← Nat.pow_mul] at ha
 have HL1 := Lib.hid hl1
 have HL2 := Lib.hid hl2
 clear hlt hidx hl h8 hl1 hl2 hb1 hb2
 generalize hT : bs.take 8 = lo8 at *
 generalize hD : bs.drop 8 = hi8 at *
 clear hT hD
 go_enter Try.func125, Try.ntmps125
 go_upto_region 2 with fail
 have hx := ((Vs.new w (cells8 bs) ((cells8 bs).toArray) 23 rfl).alloc (.cells #[.int .u64 0, .int .u64 0] 99)).alloc (.cells #[.int .u64 0, .int .u64 0] 99)
 have hs := (V2.new (w.alloc (.cells (cells8 bs).toArray 23)) (.int .u64 0) (.int .u64 0) 99).alloc (.cells #[.int .u64 0, .int .u64 0] 99)
 have he := V2.new ((w.alloc (.cells (cells8 bs).toArray 23)).alloc (.cells #[.int .u64 0, .int .u64 0] 99)) (.int .u64 0) (.int .u64 0) 99
 simp only [World.size_alloc] at hs he
 have hb00 : Below w.heap.size w (((w.alloc (.cells (cells8 bs).toArray 23)).alloc (.cells #[.int .u64 0, .int .u64 0] 99)).alloc (.cells #[.int .u64 0, .int .u64 0] 99)) := by repeat (first | exact bA | with_reducible assumption | apply bB)
 have hszn : w.heap.size + 3 ≤ (((w.alloc (.cells (cells8 bs).toArray 23)).alloc (.cells #[.int .u64 0, .int .u64 0] 99)).alloc (.cells #[.int .u64 0, .int .u64 0] 99)).heap.size := by simp only [World.size_alloc]; omega
 generalize (((w.alloc (.cells (cells8 bs).toArray 23)).alloc (.cells #[.int .u64 0, .int .u64 0] 99)).alloc (.cells #[.int .u64 0, .int .u64 0] 99)) = w1 at hx hs he hb00 hszn ⊢
 have hs0 := hs
 have he0 := he
 clear hs he
 refine wp_region_lit ?_
 refine wpList_valD (some 7) rfl rfl (exec_load rfl (by kernel_rfl) (HLD.out _ _ hx)) ?_
 simp only [Zp, Zq, Zr, Zs]
 refine wpList_valD (some 8) rfl rfl (by (go_simp; first | with_reducible rfl | exact ⟨rfl, rfl⟩ | (trace_state; fail))) ?_
 simp only [Zp, Zq, Zr, Zs]
 clear hx HLD
 go_wp2_with fail
 go_loopw [8] (fun v8 wr => ∃ k : Nat, k ≤ 16 ∧ v8 = .int .i64 k ∧ Below w.heap.size w wr ∧ V2 wr (w.heap.size + 1) (.int .u64 0) (.int .u64 0) ∧ V2 wr (w.heap.size + 1 + 1) (.int .u64 ((valB (lo8.take k) : Nat) : Int)) (.int .u64 ((valB (hi8.take (k - 8)) : Nat) : Int))) (fun v8 _ => 16 - (intOf v8).toNat)
 case atStart => exact ⟨0, by omega, rfl, hb00, hs0, he0⟩
 case round =>
  clear hb00 hs0 he0
  obtain ⟨k, hk, rfl, hbw, hsv, hev⟩ := hrel
  by_cases hlt : k < 16
  ·have hi := HIDX.out k hlt
   by_cases h8 : k < 8
   ·obtain ⟨c, hc, ⟨r0, r1⟩, ha, hv⟩ := HA.out k h8
    rw [hc] at hi
    rw [show k - 8 = 0 by omega] at hev
    have HV := Lib.hid hv
    have HK0 : Hid (k + 1 - 8 = 0) := by show k + 1 - 8 = 0; omega
    have HH8 : Hid (k < 8) := Lib.hid h8
    generalize valB (lo8.take k) = a at *
    obtain ⟨s, hs⟩ : ∃ s, 8 * k = s := ⟨_, rfl⟩
    rw [hs] at ha HV
    have hsi : (8 : Int) * (k : Int) = (s : Int) := by omega
    have hs64 : s ≤ 56 := by omega
    have hs0 : (0 : Int) ≤ (s : Int) := by omega
    have hor := or_byte a s c ha ⟨r0, r1⟩ hs64
    have hw8 : IntKind.i64.wrap (s : Int) = (s : Int) := IntWalk.i64_in _ (by omega)
    obtain ⟨d, hd⟩ : ∃ d, a + c.toNat * 2 ^ s = d := ⟨_, rfl⟩
    rw [hd] at hor HV
    have hk0 : (0 : Int) ≤ (k : Int) := by omega
    have hq1 : (k : Int) / 8 = 0 := by omega
    have hq2 : (k : Int).tdiv 8 = 0 := by rw [Int.tdiv_eq_ediv_of_nonneg hk0]; exact hq1
    have hm1 : (k : Int) % 8 = (k : Int) := by omega
    have hm2 : (k : Int).tmod 8 = (k : Int) := by rw [Int.tmod_eq_emod_of_nonneg hk0]; exact hm1
    have hw0 : IntKind.i64.wrap 0 = 0 := rfl
    have hwk : IntKind.i64.wrap (k : Int) = (k : Int) := IntWalk.i64_in _ (by omega)
    have hwc : IntKind.u64.wrap c = c := IntWalk.u64_in _ (by omega)
    have HSV := Lib.hid hsv
    have HBW := Lib.hid hbw
    have HEV := Lib.hid hev
    obtain ⟨ev0, ev1, ev2, ev3, ev4⟩ := V2.mk hev.c0 hev.c1 hev.f0 hev.f1 hev.lt
    clear hs hd ha hc hv h8 hev
    go_upto_region 5 with fail
    refine region_B (n := 12) (m := 13) (f := 12) (by kernel_rfl) (by kernel_rfl) rfl ?_
    refine WpH.vD 0 (some 12) ?_ rfl rfl (by kernel_rfl) (fun _ _ _ h => h) rfl (fun wz hwz => ?_) ?_
    rotate_left
    ·go_simp; try (with_reducible rfl)
    simp only [Zp, Zq, Zr, Zs]
    refine WpH.vD 1 (some 13) ?_ rfl rfl (by kernel_rfl) (fun _ _ _ h => h) rfl (fun wz hwz => ?_) ?_
    rotate_left
    ·go_simp; try (with_reducible rfl)
    simp only [Zp, Zq, Zr, Zs]
    refine WpH.vD 2 (some 14) ?_ rfl rfl (by kernel_rfl) (fun _ _ _ h => h) rfl (fun wz hwz => ?_) ?_
    rotate_left
    ·go_simp; try (with_reducible rfl)
    simp only [Zp, Zq, Zr, Zs]
    refine WpH.vD 3 (some 15) ?_ rfl rfl (by kernel_rfl) (fun _ _ _ h => h) rfl (fun wz hwz => ?_) ?_
    rotate_left
    ·(obtain ⟨hcz, hfz⟩ := bcell hwz; go_simp; try (with_reducible rfl))
    simp only [Zp, Zq, Zr, Zs]
    refine WpH.vD 4 (some 16) ?_ rfl rfl (by kernel_rfl) (fun _ _ _ h => h) rfl (fun wz hwz => ?_) ?_
    rotate_left
    ·go_simp; try (with_reducible rfl)
    simp only [Zp, Zq, Zr, Zs]
    refine WpH.vD 5 (some 17) ?_ rfl rfl (by kernel_rfl) (fun _ _ _ h => h) rfl (fun wz hwz => ?_) ?_
    rotate_left
    ·go_simp; try (with_reducible rfl)
    simp only [Zp, Zq, Zr, Zs]
    refine WpH.vD 6 (some 18) ?_ rfl rfl (by kernel_rfl) (fun _ _ _ h => h) rfl (fun wz hwz => ?_) ?_
    rotate_left
    ·go_simp; try (with_reducible rfl)
    simp only [Zp, Zq, Zr, Zs]
    refine WpH.vD 7 (some 19) ?_ rfl rfl (by kernel_rfl) (fun _ _ _ h => h) rfl (fun wz hwz => ?_) ?_
    rotate_left
    ·go_simp; try (with_reducible rfl)
    simp only [Zp, Zq, Zr, Zs]
    refine WpH.vD 8 (some 20) ?_ rfl rfl (by kernel_rfl) (fun _ _ _ h => h) rfl (fun wz hwz => ?_) ?_
    rotate_left
    ·go_simp; try (with_reducible rfl)
    simp only [Zp, Zq, Zr, Zs]
    refine WpH.vD 9 (some 21) ?_ rfl rfl (by kernel_rfl) (fun _ _ _ h => h) rfl (fun wz hwz => ?_) ?_
    rotate_left
    ·go_simp; try (with_reducible rfl)
    simp only [Zp, Zq, Zr, Zs]
    refine WpH.vD 10 (some 22) ?_ rfl rfl (by kernel_rfl) (fun _ _ _ h => h) rfl (fun wz hwz => ?_) ?_
    rotate_left
    ·go_simp; try (with_reducible rfl)
    simp only [Zp, Zq, Zr, Zs]
    refine WpH.vD 11 (some 23) ?_ rfl rfl (by kernel_rfl) (fun _ _ _ h => h) rfl (fun wz hwz => ?_) ?_
    rotate_left
    ·go_simp; try (with_reducible rfl)
    simp only [Zp, Zq, Zr, Zs]
    refine WpH.doneB (by kernel_rfl) (fun w4 hw4 => ?_)
    (try simp only [List.drop_succ_cons]); (try simp only [List.drop_zero]); (try simp only [Nat.reduceSub]); (try simp only [List.take_succ_cons]); (try simp only [List.take_zero])
    have hev4 := HEV.out.call hw4
    have HEV5 := Lib.hid ((Vs.of2 hev4).put 0 (by simp) (.int .u64 (d : Int))).to2
    have HSV5 := Lib.hid ((HSV.out.call hw4).setOther (p := ⟨w.heap.size + 1 + 1, 0, none⟩) (by dsimp only; omega) (.int .u64 (d : Int)))
    have HBW5 := Lib.hid (bl_set (p := ⟨w.heap.size + 1 + 1, 0, none⟩) (bl_call HBW.out (Nat.le_refl _) hw4) (by dsimp only; omega) (.int .u64 (d : Int)))
    clear ev0 ev1 ev2 ev3 ev4 hw4 HEV HSV HBW
    obtain ⟨ev40, ev41, ev42, ev43, ev44⟩ := V2.mk hev4.c0 hev4.c1 hev4.f0 hev4.f1 hev4.lt
    go_wp2_with fail
    go_roundw
    case rel => exact ⟨k + 1, by omega, by go_num, HBW5.out, HSV5.out, by rw [HK0.out, HV.out]; exact HEV5.out⟩
    case measure => simp [intOf]; omega
   ·obtain ⟨c, hc, ⟨r0, r1⟩, ha, hv⟩ := HB.out (k - 8) (by omega)
    rw [show 8 + (k - 8) = k by omega] at hc
    rw [hc] at hi
    rw [List.take_of_length_le (by rw [HL1.out]; omega)] at hev
    have HV := Lib.hid hv
    have HK0 : Hid (k + 1 - 8 = k - 8 + 1) := by show k + 1 - 8 = k - 8 + 1; omega
    have HH8 : Hid (8 ≤ k) := Lib.hid (by omega)
    generalize valB (hi8.take (k - 8)) = a at *
    obtain ⟨s, hs⟩ : ∃ s, 8 * (k - 8) = s := ⟨_, rfl⟩
    rw [hs] at ha HV
    obtain ⟨r, hr⟩ : ∃ r : Nat, k - 8 = r := ⟨_, rfl⟩
    have hsi : (8 : Int) * (r : Int) = (s : Int) := by omega
    have hs64 : s ≤ 56 := by omega
    have hs0 : (0 : Int) ≤ (s : Int) := by omega
    have hor := or_byte a s c ha ⟨r0, r1⟩ hs64
    have hw8 : IntKind.i64.wrap (s : Int) = (s : Int) := IntWalk.i64_in _ (by omega)
    obtain ⟨d, hd⟩ : ∃ d, a + c.toNat * 2 ^ s = d := ⟨_, rfl⟩
    rw [hd] at hor HV
    have hk0 : (0 : Int) ≤ (k : Int) := by omega
    have hq1 : (k : Int) / 8 = 1 := by omega
    have hq2 : (k : Int).tdiv 8 = 1 := by rw [Int.tdiv_eq_ediv_of_nonneg hk0]; exact hq1
    have hm1 : (k : Int) % 8 = (r : Int) := by omega
    have hm2 : (k : Int).tmod 8 = (r : Int) := by rw [Int.tmod_eq_emod_of_nonneg hk0]; exact hm1
    have hw0 : IntKind.i64.wrap 1 = 1 := rfl
    have hwk : IntKind.i64.wrap (r : Int) = (r : Int) := IntWalk.i64_in _ (by omega)
    have hwc : IntKind.u64.wrap c = c := IntWalk.u64_in _ (by omega)
    have HSV := Lib.hid hsv
    have HBW := Lib.hid hbw
    have HEV := Lib.hid hev
    obtain ⟨ev0, ev1, ev2, ev3, ev4⟩ := V2.mk hev.c0 hev.c1 hev.f0 hev.f1 hev.lt
    clear hs hd ha hc hv hr h8 hev
    go_upto_region 5 with fail
    refine region_B (n := 12) (m := 13) (f := 12) (by kernel_rfl) (by kernel_rfl) rfl ?_
    refine WpH.vD 0 (some 12) ?_ rfl rfl (by kernel_rfl) (fun _ _ _ h => h) rfl (fun wz hwz => ?_) ?_
    rotate_left
    ·go_simp; try (with_reducible rfl)
    simp only [Zp, Zq, Zr, Zs]
    refine WpH.vD 1 (some 13) ?_ rfl rfl (by kernel_rfl) (fun _ _ _ h => h) rfl (fun wz hwz => ?_) ?_
    rotate_left
    ·go_simp; try (with_reducible rfl)
    simp only [Zp, Zq, Zr, Zs]
    refine WpH.vD 2 (some 14) ?_ rfl rfl (by kernel_rfl) (fun _ _ _ h => h) rfl (fun wz hwz => ?_) ?_
    rotate_left
    ·go_simp; try (with_reducible rfl)
    simp only [Zp, Zq, Zr, Zs]
    refine WpH.vD 3 (some 15) ?_ rfl rfl (by kernel_rfl) (fun _ _ _ h => h) rfl (fun wz hwz => ?_) ?_
    rotate_left
    ·(obtain ⟨hcz, hfz⟩ := bcell hwz; go_simp; try (with_reducible rfl))
    simp only [Zp, Zq, Zr, Zs]
    refine WpH.vD 4 (some 16) ?_ rfl rfl (by kernel_rfl) (fun _ _ _ h => h) rfl (fun wz hwz => ?_) ?_
    rotate_left
    ·go_simp; try (with_reducible rfl)
    simp only [Zp, Zq, Zr, Zs]
    refine WpH.vD 5 (some 17) ?_ rfl rfl (by kernel_rfl) (fun _ _ _ h => h) rfl (fun wz hwz => ?_) ?_
    rotate_left
    ·go_simp; try (with_reducible rfl)
    simp only [Zp, Zq, Zr, Zs]
    refine WpH.vD 6 (some 18) ?_ rfl rfl (by kernel_rfl) (fun _ _ _ h => h) rfl (fun wz hwz => ?_) ?_
    rotate_left
    ·go_simp; try (with_reducible rfl)
    simp only [Zp, Zq, Zr, Zs]
    refine WpH.vD 7 (some 19) ?_ rfl rfl (by kernel_rfl) (fun _ _ _ h => h) rfl (fun wz hwz => ?_) ?_
    rotate_left
    ·go_simp; try (with_reducible rfl)
    simp only [Zp, Zq, Zr, Zs]
    refine WpH.vD 8 (some 20) ?_ rfl rfl (by kernel_rfl) (fun _ _ _ h => h) rfl (fun wz hwz => ?_) ?_
    rotate_left
    ·go_simp; try (with_reducible rfl)
    simp only [Zp, Zq, Zr, Zs]
    refine WpH.vD 9 (some 21) ?_ rfl rfl (by kernel_rfl) (fun _ _ _ h => h) rfl (fun wz hwz => ?_) ?_
    rotate_left
    ·go_simp; try (with_reducible rfl)
    simp only [Zp, Zq, Zr, Zs]
    refine WpH.vD 10 (some 22) ?_ rfl rfl (by kernel_rfl) (fun _ _ _ h => h) rfl (fun wz hwz => ?_) ?_
    rotate_left
    ·go_simp; try (with_reducible rfl)
    simp only [Zp, Zq, Zr, Zs]
    refine WpH.vD 11 (some 23) ?_ rfl rfl (by kernel_rfl) (fun _ _ _ h => h) rfl (fun wz hwz => ?_) ?_
    rotate_left
    ·go_simp; try (with_reducible rfl)
    simp only [Zp, Zq, Zr, Zs]
    refine WpH.doneB (by kernel_rfl) (fun w4 hw4 => ?_)
    (try simp only [List.drop_succ_cons]); (try simp only [List.drop_zero]); (try simp only [Nat.reduceSub]); (try simp only [List.take_succ_cons]); (try simp only [List.take_zero])
    have hev4 := HEV.out.call hw4
    have HEV5 := Lib.hid ((Vs.of2 hev4).put 1 (by simp) (.int .u64 (d : Int))).to2
    have HSV5 := Lib.hid ((HSV.out.call hw4).setOther (p := ⟨w.heap.size + 1 + 1, 1, none⟩) (by dsimp only; omega) (.int .u64 (d : Int)))
    have HBW5 := Lib.hid (bl_set (p := ⟨w.heap.size + 1 + 1, 1, none⟩) (bl_call HBW.out (Nat.le_refl _) hw4) (by dsimp only; omega) (.int .u64 (d : Int)))
    clear ev0 ev1 ev2 ev3 ev4 hw4 HEV HSV HBW
    obtain ⟨ev40, ev41, ev42, ev43, ev44⟩ := V2.mk hev4.c0 hev4.c1 hev4.f0 hev4.f1 hev4.lt
    go_wp2_with fail
    go_roundw
    case rel => exact ⟨k + 1, by omega, by go_num, HBW5.out, HSV5.out, by rw [HK0.out, HV.out, List.take_of_length_le (by rw [HL1.out]; have := HH8.out; omega)]; exact HEV5.out⟩
    case measure => simp [intOf]; omega
  ·obtain rfl : k = 16 := by omega
   rw [List.take_of_length_le (by rw [HL1.out]; omega), List.take_of_length_le (by rw [HL2.out]; omega)] at hev
   by_cases hp : valB lo8 + 18446744073709551616 * valB hi8 < 340282366920938462946865773367900766209
   ·have hd : decide (((valB lo8 : Nat) : Int) + 18446744073709551616 * ((valB hi8 : Nat) : Int) < 340282366920938462946865773367900766209) = true := decide_eq_true (by omega)
    rw [hd] at HIN
    have HP := Lib.hid hp
    have hb00 := hbw
    clear hp hd hlt2 hbw
    obtain ⟨sv0, sv1, sv2, sv3, sv4⟩ := V2.mk hsv.c0 hsv.c1 hsv.f0 hsv.f1 hsv.lt
    obtain ⟨ev0, ev1, ev2, ev3, ev4⟩ := V2.mk hev.c0 hev.c1 hev.f0 hev.f1 hev.lt
    go_wp2_with (first
     | (go_at_call 121; refine (HIN.out _).mono ?_; rintro e w3 ⟨rfl, hb3⟩; replace hb00 := bl_call hb00 (Nat.le_refl _) hb3; replace hsv := hsv.call hb3; replace hev := hev.call hb3; clear sv0 sv1 sv2 sv3 sv4 ev0 ev1 ev2 ev3 ev4; clear hb3; obtain ⟨sv0, sv1, sv2, sv3, sv4⟩ := V2.mk hsv.c0 hsv.c1 hsv.f0 hsv.f1 hsv.lt; obtain ⟨ev0, ev1, ev2, ev3, ev4⟩ := V2.mk hev.c0 hev.c1 hev.f0 hev.f1 hev.lt))
    refine bodyPost_ret (results_v2_tmp (b := w.heap.size + 1) (u := .int .u64 ((valB lo8 : Nat) : Int)) (v := .int .u64 ((valB hi8 : Nat) : Int)) ?_ rfl rfl) rfl ?_
    ·exact V2.set hsv _ _
    ·exact ⟨_, _, _, rfl, by repeat (first | exact bA | with_reducible assumption | apply bB | (refine bC ?_ (by dsimp only; omega)) | apply bD | apply bE | (refine bF ?_ (by assumption))), .inl ⟨HP.out, rfl, rfl, rfl⟩⟩
   ·have hd : decide (((valB lo8 : Nat) : Int) + 18446744073709551616 * ((valB hi8 : Nat) : Int) < 340282366920938462946865773367900766209) = false := decide_eq_false (by omega)
    rw [hd] at HIN
    have HP := Lib.hid hp
    have hb00 := hbw
    clear hp hd hlt2 hbw
    obtain ⟨sv0, sv1, sv2, sv3, sv4⟩ := V2.mk hsv.c0 hsv.c1 hsv.f0 hsv.f1 hsv.lt
    obtain ⟨ev0, ev1, ev2, ev3, ev4⟩ := V2.mk hev.c0 hev.c1 hev.f0 hev.f1 hev.lt
    go_wp2_with (first
     | (go_at_call 121; refine (HIN.out _).mono ?_; rintro e w3 ⟨rfl, hb3⟩; replace hb00 := bl_call hb00 (Nat.le_refl _) hb3; replace hsv := hsv.call hb3; replace hev := hev.call hb3; clear sv0 sv1 sv2 sv3 sv4 ev0 ev1 ev2 ev3 ev4; clear hb3; obtain ⟨sv0, sv1, sv2, sv3, sv4⟩ := V2.mk hsv.c0 hsv.c1 hsv.f0 hsv.f1 hsv.lt; obtain ⟨ev0, ev1, ev2, ev3, ev4⟩ := V2.mk hev.c0 hev.c1 hev.f0 hev.f1 hev.lt))
    refine bodyPost_ret (results_v2_tmp (b := w.heap.size + 1) (u := .int .u64 ((0 : Nat) : Int)) (v := .int .u64 ((0 : Nat) : Int)) ?_ rfl rfl) rfl ?_
    ·first | exact V2.set hsv _ _ | exact hsv
    ·exact ⟨0, 0, _, rfl, by repeat (first | exact bA | with_reducible assumption | apply bB | (refine bC ?_ (by dsimp only; omega)) | apply bD | apply bE | (refine bF ?_ (by assumption))), .inr ⟨HP.out, rfl, rfl, rfl⟩⟩

end Go.Proofs.Ytbakkmfjamcbfaa

namespace Go.Proofs.Ytbakkmfjamcbfaa
open Go.RowKit Fm
set_option linter.unusedVariables false
set_option maxRecDepth 100000

theorem bytesN_cons (b v n : Nat) (hb : b < 256) : bytesN (b + 256 * v) (n + 1) = (b : Int) :: bytesN v n := by
 refine List.ext_getElem? fun i => ?_
 by_cases hi : i < n + 1
 ·rw [bytesN_at _ _ _ hi]
  match i, hi with
  | 0, _ =>
   show some ((byteN (b + 256 * v) 0 : Nat) : Int) = some (b : Int)
   rw [byteN_256, Nat.pow_zero, Nat.div_one, Nat.add_mul_mod_self_left, Nat.mod_eq_of_lt hb]
  | i + 1, hi =>
   rw [List.getElem?_cons_succ, bytesN_at _ _ _ (by omega), byteN_256, byteN_256, Nat.pow_succ, Nat.mul_comm (256 ^ i), ← Nat.div_div_eq_div_mul, Nat.add_mul_div_left _ _ (by omega), Nat.div_eq_of_lt hb, Nat.zero_add]
 ·rw [List.getElem?_eq_none (by rw [bytesN_length]; omega), List.getElem?_eq_none (by rw [List.length_cons, bytesN_length]; omega)]
theorem bytesN_valB : ∀ (l : List Int), B8 l → bytesN (valB l) l.length = l := by
 intro l
 induction l with
 | nil => intro _; rfl
 | cons a l ih =>
  intro h
  have h2 := h a (List.mem_cons_self ..)
  show bytesN (a.toNat + 256 * valB l) (l.length + 1) = a :: l
  rw [bytesN_cons _ _ _ (by omega), ih fun x hx => h x (List.mem_cons_of_mem _ hx)]
  congr 1
  omega

def TkE {f : Nat} (bs : List Int) (v : Value) (c : Int) : Prop := (∃ x : Fin (Pm f), bytesK x = bs ∧ v = vK x ∧ c = 0) ∨ ((∀ x : Fin (Pm f), bytesK x ≠ bs) ∧ v = .agg #[.int .u64 0, .int .u64 0] ∧ c = 7)

theorem tkE_gold (bs : List Int) (hl : bs.length = 8) (h8 : B8 bs) (v : Nat) (c : Int) (h : valB bs < 18446744069414584321 ∧ c = 0 ∧ v = valB bs ∨ ¬ valB bs < 18446744069414584321 ∧ c = 7 ∧ v = 0) : TkE (f := 1) bs (.agg #[.int .u64 (v : Int), .int .u64 0]) c := by
 have hp : Pm 1 = 18446744069414584321 := rfl
 rcases h with ⟨h1, rfl, rfl⟩ | ⟨h1, rfl, rfl⟩
 ·have hlo : ∀ x : Fin (Pm 1), x.val = valB bs → lo x = (valB bs : Int) ∧ hi x = 0 := fun x hx => by
   have h2 := val_lohi x
   have h3 := lo_0 x
   have h4 := lo_1 x
   have h5 := hi_0 x
   have h6 := x.isLt
   omega
  obtain ⟨k1, k2⟩ := hlo ⟨valB bs, by omega⟩ rfl
  refine .inl ⟨⟨valB bs, by omega⟩, ?_, ?_, rfl⟩
  ·unfold bytesK
   rw [if_pos rfl, k1, Int.toNat_natCast, ← hl, bytesN_valB bs h8]
  ·unfold vK
   rw [k1, k2]
 ·refine .inr ⟨fun x hx => h1 ?_, rfl, rfl⟩
  have h2 := val_lohi x
  have h3 := lo_0 x
  have h4 := lo_1 x
  have h5 := hi_0 x
  have h6 := x.isLt
  rw [← hx]
  unfold bytesK
  rw [if_pos rfl, valB_bytesN 8 _ (by show (lo x).toNat < 18446744073709551616; omega)]
  omega
theorem tkE_wide (bs : List Int) (hl : bs.length = 16) (h8 : B8 bs) (v0 v1 : Nat) (c : Int) (h : valB (bs.take 8) + 18446744073709551616 * valB (bs.drop 8) < 340282366920938462946865773367900766209 ∧ c = 0 ∧ v0 = valB (bs.take 8) ∧ v1 = valB (bs.drop 8) ∨ ¬ valB (bs.take 8) + 18446744073709551616 * valB (bs.drop 8) < 340282366920938462946865773367900766209 ∧ c = 7 ∧ v0 = 0 ∧ v1 = 0) : TkE (f := 2) bs (.agg #[.int .u64 (v0 : Int), .int .u64 (v1 : Int)]) c := by
 have hp : Pm 2 = 340282366920938462946865773367900766209 := rfl
 have hl1 : (bs.take 8).length = 8 := by rw [List.length_take]; omega
 have hl2 : (bs.drop 8).length = 8 := by rw [List.length_drop]; omega
 have hb1 : B8 (bs.take 8) := fun x hx => h8 x (List.mem_of_mem_take hx)
 have hb2 : B8 (bs.drop 8) := fun x hx => h8 x (List.mem_of_mem_drop hx)
 have hlt := valB_lt _ hb1
 rw [hl1] at hlt
 have hlt1 : valB (bs.take 8) < 18446744073709551616 := hlt
 have e1 := bytesN_valB _ hb1
 have e2 := bytesN_valB _ hb2
 rw [hl1] at e1
 rw [hl2] at e2
 rcases h with ⟨h1, rfl, rfl, rfl⟩ | ⟨h1, rfl, rfl, rfl⟩
 ·have hlo : ∀ x : Fin (Pm 2), x.val = valB (bs.take 8) + 18446744073709551616 * valB (bs.drop 8) → lo x = (valB (bs.take 8) : Int) ∧ hi x = (valB (bs.drop 8) : Int) := fun x hx => by
   have h2 := val_lohi x
   have h3 := lo_0 x
   have h4 := lo_1 x
   have h5 := hi_0 x
   have h6 := x.isLt
   omega
  obtain ⟨k1, k2⟩ := hlo ⟨valB (bs.take 8) + 18446744073709551616 * valB (bs.drop 8), by omega⟩ rfl
  refine .inl ⟨⟨valB (bs.take 8) + 18446744073709551616 * valB (bs.drop 8), by omega⟩, ?_, ?_, rfl⟩
  ·unfold bytesK
   rw [if_neg (by decide), k1, k2, Int.toNat_natCast, Int.toNat_natCast, e1, e2, List.take_append_drop]
  ·unfold vK
   rw [k1, k2]
 ·refine .inr ⟨fun x hx => h1 ?_, rfl, rfl⟩
  have h2 := val_lohi x
  have h3 := lo_0 x
  have h4 := lo_1 x
  have h5 := hi_0 x
  have h6 := x.isLt
  have hb : bytesK x = bytesN (lo x).toNat 8 ++ bytesN (hi x).toNat 8 := by
   unfold bytesK
   rw [if_neg (by decide)]
  rw [hb] at hx
  have t1 : bs.take 8 = bytesN (lo x).toNat 8 := by rw [← hx, List.take_append_of_le_length (by rw [bytesN_length]; exact Nat.le_refl _), List.take_of_length_le (by rw [bytesN_length]; exact Nat.le_refl _)]
  have t2 : bs.drop 8 = bytesN (hi x).toNat 8 := by
   have e := List.drop_left (l₁ := bytesN (lo x).toNat 8) (l₂ := bytesN (hi x).toNat 8)
   rw [bytesN_length, hx] at e
   exact e
  rw [t1, t2, valB_bytesN 8 _ (by show (lo x).toNat < 18446744073709551616; omega), valB_bytesN 8 _ (by show (hi x).toNat < 18446744073709551616; omega)]
  omega

theorem field_Size {f : Nat} (hf : IsF f) (w : World) : Calls Try.prog 81 #[.int .u8 f] w fun e w' => e = .returned (.int .i64 (sizeK f : Nat)) ∧ w = w' := by
 rcases hf.or with rfl | rfl
 ·go_enter Try.func81, Try.ntmps81
  go_wp2_with fail
  go_ret
  exact ⟨rfl, rfl⟩
 ·go_enter Try.func81, Try.ntmps81
  go_wp2_with fail
  go_ret
  exact ⟨rfl, rfl⟩

def RetTk (f : Nat) (bs : List Int) (w : World) (e : Ending) (w' : World) : Prop := ∃ (v : Value) (c : Int), e = .returned (.tuple #[v, .int .i64 c]) ∧ TkE (f := f) bs v c ∧ Below w.heap.size w w'

set_option maxHeartbeats 4000000 in
theorem field_Take1 (bs : List Int) (hl : bs.length = 8) (h8 : B8 bs) (b o c : Nat) (w : World) (hr : RowB w b o bs) (hlt : b < w.heap.size) :
  Calls Try.prog 110 #[.int .u8 1, .slice (some ⟨b, o, none⟩) 8 c] w (RetTk 1 bs w) := by
 have HV := Lib.hid (field_Valid 1)
 have HS := Lib.hid (field_Size (f := 1) ⟨.inl rfl⟩)
 have HG := Lib.hid (gold_Take bs hl h8)
 have HL := Lib.hid (show (Try.prog.info? 205).map (·.size) = some (cells8 bs).length by rw [cells8_length, hl]; kernel_rfl)
 have HR := Lib.hid hr
 have HT := Lib.hid (tkE_gold bs hl h8)
 clear hl h8 hr
 go_enter Try.func110, Try.ntmps110
 go_upto_region 1 with fail
 have he := V2.new w (.int .u64 0) (.int .u64 0) 99
 have hb00 : Below w.heap.size w (w.alloc (.cells #[.int .u64 0, .int .u64 0] 99)) := by repeat (first | exact bA | with_reducible assumption | apply bB)
 have hszn : w.heap.size + 1 ≤ (w.alloc (.cells #[.int .u64 0, .int .u64 0] 99)).heap.size := by simp only [World.size_alloc]; omega
 generalize (w.alloc (.cells #[.int .u64 0, .int .u64 0] 99)) = w1 at he hb00 hszn ⊢
 obtain ⟨e0, e1, e2, e3, e4⟩ := V2.mk he.c0 he.c1 he.f0 he.f1 he.lt
 have hRR := HR.out.belowB hb00 hlt
 have hra : w1.rangeAt b o (cells8 bs) := fun j v hj => by
  unfold cells8 at hj
  rw [List.getElem?_map] at hj
  cases hq : bs[j]? with
  | none => rw [hq] at hj; cases hj
  | some x =>
   rw [hq] at hj
   injection hj with hj
   subst hj
   exact hRR j x hq
 have hld := run_loadAt_mid w1 b o 205 (cells8 bs) _ hra Try.underlying205 rfl HL.out
 go_upto_region 6 with (first
  | (go_at_call 97; refine (HV.out _).mono ?_; rintro e w5 ⟨rfl, rfl⟩)
  | (go_at_call 81; refine (HS.out _).mono ?_; rintro e w5 ⟨rfl, rfl⟩))
 have hat : ∀ wz, (Instr.arrayAt 205 (.slice (some ⟨b, o, none⟩) 8 c)).run Try.prog wz = .ok (.pointer (some ⟨b, o, none⟩)) wz := fun wz => by kernel_rfl
 refine wp_region_lit ?_
 refine wpList_valD (some 21) rfl rfl (by (go_simp; first | with_reducible rfl | exact ⟨rfl, rfl⟩ | (trace_state; fail))) ?_
 simp only [Zp, Zq, Zr, Zs]
 refine wpList_valD (some 22) rfl rfl (by (have hz := hat w1; go_simp; first | with_reducible rfl | exact ⟨rfl, rfl⟩ | (trace_state; fail))) ?_
 simp only [Zp, Zq, Zr, Zs]
 refine wpList_valD (some 23) rfl rfl (exec_load rfl (by kernel_rfl) hld) ?_
 simp only [Zp, Zq, Zr, Zs]
 refine wpList_callD (some 24) rfl rfl 124 _ ?_ (HG.out _) ?_
 ·go_simp; try (with_reducible rfl)
 rintro e w5 ⟨v, cc, rfl, hb5, hv5⟩
 refine ⟨_, rfl, ?_⟩
 simp only [Zp, Zq, Zr, Zs]
 have HQ5 := Lib.hid hv5
 clear hv5 e0 e1 e2 e3 e4
 replace hb00 := bl_call hb00 (Nat.le_refl _) hb5
 replace he := he.call hb5
 refine wpList_valD (some 20) rfl rfl (by (go_simp; first | with_reducible rfl | exact ⟨rfl, rfl⟩ | (trace_state; fail))) ?_
 simp only [Zp, Zq, Zr, Zs]
 refine wpList_valD (some 25) rfl rfl (by (go_simp; first | with_reducible rfl | exact ⟨rfl, rfl⟩ | (trace_state; fail))) ?_
 simp only [Zp, Zq, Zr, Zs]
 refine wpList_valD (some 26) rfl rfl (by (go_simp; first | with_reducible rfl | exact ⟨rfl, rfl⟩ | (trace_state; fail))) ?_
 simp only [Zp, Zq, Zr, Zs]
 refine wpList_valD (some 6) rfl rfl (by (go_simp; first | with_reducible rfl | exact ⟨rfl, rfl⟩ | (trace_state; fail))) ?_
 simp only [Zp, Zq, Zr, Zs]
 refine wpList_valD (some 7) rfl rfl (by (go_simp; first | with_reducible rfl | exact ⟨rfl, rfl⟩ | (trace_state; fail))) ?_
 simp only [Zp, Zq, Zr, Zs]
 obtain ⟨e0, e1, e2, e3, e4⟩ := V2.mk he.c0 he.c1 he.f0 he.f1 he.lt
 have hbz := Lib.hid hb00
 clear hRR hra hld hat hb5
 go_wp2_with fail
 exact bodyPost_ret (results_v2_tmp (b := w.heap.size) (u := .int .u64 (v : Int)) (v := .int .u64 0) (V2.set he _ _) rfl rfl) rfl ⟨_, _, rfl, HT.out v cc HQ5.out, by repeat (first | exact bA | with_reducible assumption | apply bB | (refine bC ?_ (by dsimp only; omega)) | apply bD | apply bE | (refine bF ?_ (by assumption)))⟩

set_option maxHeartbeats 4000000 in
theorem field_Take2 (bs : List Int) (hl : bs.length = 16) (h8 : B8 bs) (b o c : Nat) (w : World) (hr : RowB w b o bs) (hlt : b < w.heap.size) :
  Calls Try.prog 110 #[.int .u8 2, .slice (some ⟨b, o, none⟩) 16 c] w (RetTk 2 bs w) := by
 have HV := Lib.hid (field_Valid 2)
 have HS := Lib.hid (field_Size (f := 2) ⟨.inr rfl⟩)
 have HG := Lib.hid (wide_Take bs hl h8)
 have HL := Lib.hid (show (Try.prog.info? 23).map (·.size) = some (cells8 bs).length by rw [cells8_length, hl]; kernel_rfl)
 have HR := Lib.hid hr
 have HT := Lib.hid (tkE_wide bs hl h8)
 clear hl h8 hr
 go_enter Try.func110, Try.ntmps110
 go_upto_region 1 with fail
 have he := V2.new w (.int .u64 0) (.int .u64 0) 99
 have hb00 : Below w.heap.size w (w.alloc (.cells #[.int .u64 0, .int .u64 0] 99)) := by repeat (first | exact bA | with_reducible assumption | apply bB)
 have hszn : w.heap.size + 1 ≤ (w.alloc (.cells #[.int .u64 0, .int .u64 0] 99)).heap.size := by simp only [World.size_alloc]; omega
 generalize (w.alloc (.cells #[.int .u64 0, .int .u64 0] 99)) = w1 at he hb00 hszn ⊢
 obtain ⟨e0, e1, e2, e3, e4⟩ := V2.mk he.c0 he.c1 he.f0 he.f1 he.lt
 have hRR := HR.out.belowB hb00 hlt
 have hra : w1.rangeAt b o (cells8 bs) := fun j v hj => by
  unfold cells8 at hj
  rw [List.getElem?_map] at hj
  cases hq : bs[j]? with
  | none => rw [hq] at hj; cases hj
  | some x =>
   rw [hq] at hj
   injection hj with hj
   subst hj
   exact hRR j x hq
 have hld := run_loadAt_mid w1 b o 23 (cells8 bs) _ hra Try.underlying23 rfl HL.out
 go_upto_region 8 with (first
  | (go_at_call 97; refine (HV.out _).mono ?_; rintro e w5 ⟨rfl, rfl⟩)
  | (go_at_call 81; refine (HS.out _).mono ?_; rintro e w5 ⟨rfl, rfl⟩))
 have hat : ∀ wz, (Instr.arrayAt 23 (.slice (some ⟨b, o, none⟩) 16 c)).run Try.prog wz = .ok (.pointer (some ⟨b, o, none⟩)) wz := fun wz => by kernel_rfl
 refine wp_region_lit ?_
 refine wpList_valD (some 30) rfl rfl (by (go_simp; first | with_reducible rfl | exact ⟨rfl, rfl⟩ | (trace_state; fail))) ?_
 simp only [Zp, Zq, Zr, Zs]
 refine wpList_valD (some 31) rfl rfl (by (have hz := hat w1; go_simp; first | with_reducible rfl | exact ⟨rfl, rfl⟩ | (trace_state; fail))) ?_
 simp only [Zp, Zq, Zr, Zs]
 refine wpList_valD (some 32) rfl rfl (exec_load rfl (by kernel_rfl) hld) ?_
 simp only [Zp, Zq, Zr, Zs]
 refine wpList_callD (some 33) rfl rfl 125 _ ?_ (HG.out _) ?_
 ·go_simp; try (with_reducible rfl)
 rintro e w5 ⟨v0, v1, cc, rfl, hb5, hv5⟩
 refine ⟨_, rfl, ?_⟩
 simp only [Zp, Zq, Zr, Zs]
 have HQ5 := Lib.hid hv5
 clear hv5 e0 e1 e2 e3 e4
 replace hb00 := bl_call hb00 (Nat.le_refl _) hb5
 replace he := he.call hb5
 have hbz := Lib.hid hb00
 obtain ⟨e0, e1, e2, e3, e4⟩ := V2.mk he.c0 he.c1 he.f0 he.f1 he.lt
 refine wpList_valD (some 34) rfl rfl (by (go_simp; first | with_reducible rfl | exact ⟨rfl, rfl⟩ | (trace_state; fail))) ?_
 simp only [Zp, Zq, Zr, Zs]
 refine wpList_valD (some 35) rfl rfl (by (go_simp; first | with_reducible rfl | exact ⟨rfl, rfl⟩ | (trace_state; fail))) ?_
 simp only [Zp, Zq, Zr, Zs]
 clear hRR hra hld hat hb5
 go_wp2_with fail
 exact bodyPost_ret (results_v2_tmp (b := w.heap.size) (u := .int .u64 (v0 : Int)) (v := .int .u64 (v1 : Int)) (V2.set he _ _) rfl rfl) rfl ⟨_, _, rfl, HT.out v0 v1 cc HQ5.out, by repeat (first | exact bA | with_reducible assumption | apply bB | (refine bC ?_ (by dsimp only; omega)) | apply bD | apply bE | (refine bF ?_ (by assumption)))⟩

theorem field_Take {f : Nat} (hf : IsF f) (bs : List Int) (hl : bs.length = sizeK f) (h8 : B8 bs) (b o n c : Nat) (hn : n = sizeK f) (w : World) (hr : RowB w b o bs) (hlt : b < w.heap.size) :
  Calls Try.prog 110 #[.int .u8 f, .slice (some ⟨b, o, none⟩) n c] w (RetTk f bs w) := by
 subst hn
 rcases hf.or with rfl | rfl
 ·exact field_Take1 bs hl h8 b o c w hr hlt
 ·exact field_Take2 bs hl h8 b o c w hr hlt

end Go.Proofs.Ytbakkmfjamcbfaa
