/-
 KeD: what the statements of this layer share.
-/
import Derived.BigQuiet
import Derived.Laws.Bits64b
import Derived.Test.YtbakkmfjamcbfaaKal
namespace Go.Proofs.Ytbakkmfjamcbfaa
open Go.RowKit Fm
set_option linter.unusedVariables false
set_option maxRecDepth 100000

def mvAt (i : Nat) : Nat := i / 5 + 5 * ((2 * (i % 5) + 3 * (i / 5)) % 5)
def moveO (S : List Int) : Nat → List Int
 | 0 => List.replicate 25 0
 | i + 1 => (moveO S i).set (mvAt i) (rotI (S.getD i 0) (trnL.getD i 0))
theorem moveO_length (S : List Int) : ∀ i, (moveO S i).length = 25
 | 0 => rfl
 | i + 1 => by
  show ((moveO S i).set _ _).length = 25
  rw [List.length_set, moveO_length S i]
def moveF (S : List Int) : List Int := moveO S 25
theorem trn_le (i : Nat) (h : i < 25) : trnL.getD i 0 ≤ 63 := by
 have h2 : ∀ i : Fin 25, trnL.getD i.val 0 ≤ 63 := by decide +kernel
 exact h2 ⟨i, h⟩
theorem i64s_at (i : Nat) (h : i < 25) : (i64s trnL)[i]? = some (.int .i64 ((trnL.getD i 0 : Nat) : Int)) := by
 have h1 : i < trnL.length := h
 unfold i64s
 rw [List.getElem?_map, List.getD_eq_getElem?_getD, List.getElem?_eq_getElem h1]
 rfl

theorem wpList_callB {P : Program} {ops : Array Oper} {rest : List Oper} {o : Oper} {a : Act} {w : World} {Q : Exit → Act → World → Prop} (hg : o.guard = none) (f : FuncId) (args : Array Value) (hrun : (execOp a.eval o).run P w = .ok (.enter f args) w) {Post : Ending → World → Prop}
  (hc : Calls P f args w Post) (h : ∀ e w', Post e w' → ∃ v, e = .returned v ∧ wpList P ops Q rest (a.put o.dst v) w') : wpList P ops Q (o :: rest) a w := by
 refine wpList_plain hg fun K hK => ?_
 unfold Oper.wp
 rw [hrun, Oper.upon_enter]
 refine hc.mono fun e w'' hh => ?_
 obtain ⟨v, rfl, h2⟩ := h e w'' hh
 exact hK _ _ h2
theorem Vs.range {w : World} {b : Nat} {l : List Int} {rest : List Value} (h : Vs w b (u64s l ++ rest)) : w.rangeAt b 0 (u64s l) := fun j v hj => by
 rw [Nat.zero_add]
 refine h.cell j v ?_
 rw [List.getElem?_append_left (List.getElem?_eq_some_iff.1 hj).1]
 exact hj
theorem Vs.thereL {w : World} {b : Nat} {l : List Int} {rest : List Value} (h : Vs w b (u64s l ++ rest)) : w.there b 0 l.length := fun j hj => by
 obtain ⟨h1, h2, _⟩ := h.atL hj
 rw [Nat.zero_add, h1]
 exact ⟨rfl, h2⟩
theorem size_setCells (b : Nat) : ∀ (vs : List Value) (o : Nat) (w : World), (w.setCells b o vs).heap.size = w.heap.size
 | [], _, _ => rfl
 | v :: r, o, w => by
  rw [World.setCells, size_setCells b r]
  simp [World.setCell]
theorem exc_setCells {S : Nat → Prop} {B : Nat} {a : World} (b : Nat) (hb : S b) : ∀ (vs : List Value) (o : Nat) (w : World), Exc S B a w → Exc S B a (w.setCells b o vs)
 | [], _, _, h => h
 | v :: r, o, w, h => exc_setCells b hb r (o + 1) _ (h.trans ⟨rfl, rfl, rfl, by simp [World.setCell], fun k hk hn => Below.heap_setCell _ _ _ _ (fun e => by
   have e2 : k = b := e
   exact hn (e2 ▸ hb))⟩)
theorem Vs.setAll {w : World} {b : Nat} {l l' : List Int} {rest : List Value} (h : Vs w b (u64s l ++ rest)) (hl : l'.length = l.length) : Vs (w.setCells b 0 (u64s l')) b (u64s l' ++ rest) := by
 refine ⟨fun i v hi => ?_, fun i hi => ?_, by rw [size_setCells]; exact h.lt⟩
 ·by_cases hil : i < (u64s l').length
  ·have h1 := World.cell?_setCells_in b (u64s l') 0 w (fun j hj => by
    rw [u64s_length, hl] at hj
    exact (h.thereL j hj).1) i hil
   rw [Nat.zero_add] at h1
   rw [h1]
   rw [List.getElem?_append_left hil, List.getElem?_eq_getElem hil] at hi
   exact hi
  ·rw [World.cell?_setCells_out b (u64s l') 0 w ⟨b, i, none⟩ (fun _ _ => .inr (by show 0 + _ ≤ i; omega))]
   refine h.cell i v ?_
   rw [List.getElem?_append_right (by omega), u64s_length] at hi
   rw [u64s_length] at hil
   rw [List.getElem?_append_right (by rw [u64s_length, ← hl]; omega), u64s_length, ← hl]
   exact hi
 ·rw [World.frozen?_setCells]
  refine h.frz i ?_
  rw [List.length_append, u64s_length] at hi ⊢
  omega
theorem oneU (l : List Int) : (u64s l).toArray.all (·.oneCell') = true := all_oneCell_toArray fun v hv => by
 obtain ⟨x, _, rfl⟩ := List.mem_map.1 hv
 rfl

set_option maxHeartbeats 4000000 in
theorem keccak_move (S : List Int) (hS : S.length = 25) (rest : List Value) (b : Nat) (w : World) (hb : Vs w b (u64s S ++ rest)) :
  Calls Try.prog 128 #[.pointer (some ⟨b, 0, none⟩)] w fun e w' => e = .returned (.tuple #[]) ∧ Vs w' b (u64s (moveF S) ++ rest) ∧ Exc (fun q => q = b) w.heap.size w w' := by
 have HTR : Hid (∀ wz, Calls Try.prog 136 #[] wz fun e w' => e = .returned (.agg trnA) ∧ Below wz.heap.size wz w') := keccak_turns
 have HS := Lib.hid hS
 have hbl := hb.lt
 have hb00 : Below w.heap.size w w := Below.refl _ _
 go_enter Try.func128, Try.ntmps128
 go_upto_region 0 with fail
 refine wp_region_lit ?_
 refine wpList_callB rfl 136 #[] (by kernel_rfl) (HTR.out w) ?_
 rintro e w1 ⟨rfl, hb1⟩
 refine ⟨_, rfl, ?_⟩
 refine wpList_val (v := .pointer (some ⟨w1.heap.size, 0, none⟩)) (w' := w1.alloc (.cells z25 218)) rfl (by kernel_rfl) ?_
 refine wpList_skip (w' := w1.alloc (.cells trnA 218)) rfl (exec_store_new _ _ _ _ _ rfl w1 z25 trnA (by kernel_rfl) (by kernel_rfl) (by kernel_rfl) rfl (by kernel_rfl)) ?_
 have hT : Vs (w1.alloc (.cells trnA 218)) w1.heap.size (i64s trnL) := Vs.new w1 (i64s trnL) trnA 218 trnA_eq
 have hbA : Below w1.heap.size w1 (w1.alloc (.cells trnA 218)) := (Below.refl _ _).alloc (Nat.le_refl _) _
 have hbw := hb1.size
 replace hb := (hb.call hb1).call hbA
 replace hb00 := bl_call (bl_call hb00 (Nat.le_refl _) hb1) (Nat.le_refl _) hbA
 generalize w1.alloc (.cells trnA 218) = w2 at hT hbA hb hb00 ⊢
 obtain ⟨tb, htb⟩ : ∃ z, w1.heap.size = z := ⟨_, rfl⟩
 rw [htb] at hT hbw
 simp only [htb]
 clear htb hbA hb1
 go_upto_region 2 with fail
 have htl0 : tb < w2.heap.size := hT.lt
 have hO9 := Vs.new w2 [.int .u64 0, .int .u64 0, .int .u64 0, .int .u64 0, .int .u64 0, .int .u64 0, .int .u64 0, .int .u64 0, .int .u64 0, .int .u64 0, .int .u64 0, .int .u64 0, .int .u64 0, .int .u64 0, .int .u64 0, .int .u64 0, .int .u64 0, .int .u64 0, .int .u64 0, .int .u64 0, .int .u64 0, .int .u64 0, .int .u64 0, .int .u64 0, .int .u64 0] #[.int .u64 0, .int .u64 0, .int .u64 0, .int .u64 0, .int .u64 0, .int .u64 0, .int .u64 0, .int .u64 0, .int .u64 0, .int .u64 0, .int .u64 0, .int .u64 0, .int .u64 0, .int .u64 0, .int .u64 0, .int .u64 0, .int .u64 0, .int .u64 0, .int .u64 0, .int .u64 0, .int .u64 0, .int .u64 0, .int .u64 0, .int .u64 0, .int .u64 0] 197 rfl
 have hbA : Below w2.heap.size w2 (w2.alloc (.cells #[.int .u64 0, .int .u64 0, .int .u64 0, .int .u64 0, .int .u64 0, .int .u64 0, .int .u64 0, .int .u64 0, .int .u64 0, .int .u64 0, .int .u64 0, .int .u64 0, .int .u64 0, .int .u64 0, .int .u64 0, .int .u64 0, .int .u64 0, .int .u64 0, .int .u64 0, .int .u64 0, .int .u64 0, .int .u64 0, .int .u64 0, .int .u64 0, .int .u64 0] 197)) := by repeat (first | exact bA | with_reducible assumption | apply bB)
 replace hb00 := bl_call hb00 (Nat.le_refl _) hbA
 replace hb := hb.call hbA
 replace hT := hT.call hbA
 clear hbA
 generalize w2.alloc (.cells #[.int .u64 0, .int .u64 0, .int .u64 0, .int .u64 0, .int .u64 0, .int .u64 0, .int .u64 0, .int .u64 0, .int .u64 0, .int .u64 0, .int .u64 0, .int .u64 0, .int .u64 0, .int .u64 0, .int .u64 0, .int .u64 0, .int .u64 0, .int .u64 0, .int .u64 0, .int .u64 0, .int .u64 0, .int .u64 0, .int .u64 0, .int .u64 0, .int .u64 0] 197) = w3 at hb00 hb hT hO9 ⊢
 obtain ⟨ob, hobe⟩ : ∃ z, w2.heap.size = z := ⟨_, rfl⟩
 have htl := htl0
 rw [hobe] at hO9 htl
 simp only [hobe]
 clear hobe
 have hO : Vs w3 ob (u64s (moveO S 0) ++ []) := hO9
 clear hO9
 go_wp2_with fail
 go_loopw [10] (fun v10 wr => ∃ i : Nat, i ≤ 25 ∧ v10 = .int .i64 i ∧ Vs wr ob (u64s (moveO S i) ++ []) ∧ Vs wr b (u64s S ++ rest) ∧ Vs wr tb (i64s trnL) ∧ Below w.heap.size w wr) (fun v10 _ => 25 - (intOf v10).toNat)
 case atStart => exact ⟨0, by omega, rfl, hO, hb, hT, hb00⟩
 case round =>
  clear hO hb hT hb00
  obtain ⟨i, hin, rfl, hO, hb, hT, hb00⟩ := hrel
  by_cases hlt : i < 25
  ·obtain ⟨c0, c1, c2⟩ := hb.atL (i := i) (by rw [HS.out]; exact hlt)
   obtain ⟨y9, hy9⟩ : ∃ z, S.getD i 0 = z := ⟨_, rfl⟩
   rw [hy9] at c0
   have hi1 : (i : Int) < 25 := by omega
   go_upto_region 4 with fail
   refine region_B (n := 5) (m := 6) (f := 5) (by kernel_rfl) (by kernel_rfl) rfl ?_
   refine WpH.vD 0 (some 12) ?_ rfl rfl (by kernel_rfl) (fun _ _ _ h => h) rfl (fun wz hwz => ?_) ?_
   rotate_left
   ·go_simp; try (with_reducible rfl)
   simp only [Zp, Zq, Zr, Zs]
   refine WpH.vD 1 (some 13) ?_ rfl rfl (by kernel_rfl) (fun _ _ _ h => h) rfl (fun wz hwz => ?_) ?_
   rotate_left
   ·go_simp; try (with_reducible rfl)
   simp only [Zp, Zq, Zr, Zs]
   refine WpH.vD 2 (some 14) ?_ rfl rfl (by kernel_rfl) (fun _ _ _ h => h) rfl (fun wz hwz => ?_) ?_
   rotate_left
   ·go_simp; try (with_reducible rfl)
   simp only [Zp, Zq, Zr, Zs]
   refine WpH.vD 3 (some 15) ?_ rfl rfl (by kernel_rfl) (fun _ _ _ h => h) rfl (fun wz hwz => ?_) ?_
   rotate_left
   ·(obtain ⟨hcz, hfz⟩ := bcell hwz; go_simp; try (with_reducible rfl))
   simp only [Zp, Zq, Zr, Zs]
   refine WpH.vD 4 (some 4) ?_ rfl rfl (by kernel_rfl) (fun _ _ _ h => h) rfl (fun wz hwz => ?_) ?_
   rotate_left
   ·go_simp; try (with_reducible rfl)
   simp only [Zp, Zq, Zr, Zs]
   refine WpH.doneB (by kernel_rfl) (fun w4 hw4 => ?_)
   (try simp only [List.drop_succ_cons]); (try simp only [List.drop_zero]); (try simp only [Nat.reduceSub]); (try simp only [List.take_succ_cons]); (try simp only [List.take_zero])
   clear c0 c1 c2
   replace hb00 := bl_call hb00 (Nat.le_refl _) hw4
   replace hO := hO.call hw4
   replace hb := hb.call hw4
   replace hT := hT.call hw4
   clear hw4
   obtain ⟨r, hr⟩ : ∃ r, i % 5 = r := ⟨_, rfl⟩
   obtain ⟨q, hq⟩ : ∃ q, i / 5 = q := ⟨_, rfl⟩
   obtain ⟨m, hm⟩ : ∃ m, (2 * r + 3 * q) % 5 = m := ⟨_, rfl⟩
   obtain ⟨v, hv⟩ : ∃ v, q + 5 * m = v := ⟨_, rfl⟩
   have hv25 : v < 25 := by omega
   have htr : (i : Int).tmod 5 = (r : Int) := by rw [Int.tmod_eq_emod_of_nonneg (by omega)]; omega
   have htq : (i : Int).tdiv 5 = (q : Int) := by rw [Int.tdiv_eq_ediv_of_nonneg (by omega)]; omega
   obtain ⟨a1, ha1⟩ : ∃ a, 2 * r = a := ⟨_, rfl⟩
   obtain ⟨a2, ha2⟩ : ∃ a, 3 * q = a := ⟨_, rfl⟩
   obtain ⟨a3, ha3⟩ : ∃ a, a1 + a2 = a := ⟨_, rfl⟩
   obtain ⟨a4, ha4⟩ : ∃ a, 5 * m = a := ⟨_, rfl⟩
   have hw1 : IntKind.i64.wrap (2 * (r : Int)) = (a1 : Int) := by rw [IntWalk.i64_in _ (by omega)]; omega
   have hw2 : IntKind.i64.wrap (3 * (q : Int)) = (a2 : Int) := by rw [IntWalk.i64_in _ (by omega)]; omega
   have hw3 : IntKind.i64.wrap ((a1 : Int) + (a2 : Int)) = (a3 : Int) := by rw [IntWalk.i64_in _ (by omega)]; omega
   have htm : (a3 : Int).tmod 5 = (m : Int) := by rw [Int.tmod_eq_emod_of_nonneg (by omega)]; omega
   have hw4 : IntKind.i64.wrap (5 * (m : Int)) = (a4 : Int) := by rw [IntWalk.i64_in _ (by omega)]; omega
   have hw5 : IntKind.i64.wrap ((q : Int) + (a4 : Int)) = (v : Int) := by rw [IntWalk.i64_in _ (by omega)]; omega
   have hwq : IntKind.i64.wrap (q : Int) = (q : Int) := IntWalk.i64_in _ (by omega)
   have hv1 : (v : Int) < 25 := by omega
   obtain ⟨n9, hn9⟩ : ∃ n, trnL.getD i 0 = n := ⟨_, rfl⟩
   have t0 := hT.cell i _ (i64s_at i hlt)
   rw [hn9] at t0
   have t1 := hT.lt
   have hn63 : n9 ≤ 63 := by rw [← hn9]; exact trn_le i hlt
   obtain ⟨d9, hd9⟩ : ∃ z, rotI y9 n9 = z := ⟨_, rfl⟩
   have HRC : Hid (∀ wz, Calls Try.prog 135 #[.int .u64 y9, .int .i64 (n9 : Int)] wz fun e w' => e = .returned (.int .u64 d9) ∧ Below wz.heap.size wz w') := fun wz => by
    rw [← hd9]
    exact (bits_RotL y9 n9 wz hn63).mono fun e w' ⟨h1, h2⟩ => ⟨h1, h2 ▸ Below.refl _ _⟩
   have HNE : Hid ((moveO S i).set v d9 = moveO S (i + 1)) := by
    show _ = (moveO S i).set (mvAt i) (rotI (S.getD i 0) (trnL.getD i 0))
    have he : mvAt i = v := by unfold mvAt; rw [hr, hq, hm, hv]
    rw [he, hy9, hn9, hd9]
   clear hy9 hn9 hd9 hr hq hm hv ha1 ha2 ha3 ha4 hn63
   go_upto_region 7 with (go_at_call 135; refine (HRC.out _).mono ?_; rintro e w5 ⟨rfl, hb5⟩; replace hb00 := bl_call hb00 (Nat.le_refl _) hb5; replace hO := hO.call hb5; replace hb := hb.call hb5; replace hT := hT.call hb5; obtain ⟨o0, o1, o2⟩ := hO.atL (i := v) (by rw [moveO_length]; exact hv25); clear hb5)
   have HN := Lib.hid (hO.putL (i := v) (by rw [moveO_length]; exact hv25) d9)
   have hne : ob ≠ b := by omega
   have hne2 : ob ≠ tb := by omega
   have hwo : w.heap.size ≤ ob := by omega
   clear hO htr htq hw1 hw2 hw3 htm hw4 hw5 hwq hv1 t0 t1 o0 o1 o2
   go_wp2_with fail
   go_roundw
   case rel => exact ⟨i + 1, by omega, by go_num, by rw [← HNE.out]; exact HN.out, hb.far (p := ⟨ob, v, none⟩) hne _, hT.far (p := ⟨ob, v, none⟩) hne2 _, bl_set (p := ⟨ob, v, none⟩) hb00 hwo _⟩
   case measure => simp [intOf]; omega
  ·have hie : i = 25 := by omega
   go_upto_region 8 with fail
   rw [hie] at hO
   clear hie hin hlt hT
   have HML : Hid ((moveO S 25).length = 25) := moveO_length S 25
   have HMF : Hid (moveF S = moveO S 25) := by show _ = _; unfold moveF; exact Eq.refl _
   generalize moveO S 25 = M at hO HML HMF
   refine wp_region_lit ?_
   refine wpList_val (v := .pointer (some ⟨b, 0, none⟩)) (w' := wr) rfl (by kernel_rfl) ?_
   refine wpList_load_mid rfl 197 (.tmp 3) rfl ob 0 (by kernel_rfl) (u64s M) _ hO.range Try.underlying197 rfl (by rw [u64s_length, HML.out]; kernel_rfl) ?_
   refine wpList_val (v := .pointer (some ⟨b, 0, none⟩)) (w' := wr) rfl (by kernel_rfl) ?_
   refine wpList_store_mid rfl 197 (.tmp 38) (.tmp 37) rfl b 0 (u64s M).toArray (by kernel_rfl) (by kernel_rfl) (by rw [List.size_toArray, u64s_length, HML.out, ← HS.out]; exact hb.thereL) (by rw [List.size_toArray, u64s_length, HML.out]; kernel_rfl) (oneU _) ?_
   have HB := Lib.hid (hb.setAll (l' := M) (by rw [HML.out, HS.out]))
   have HE := Lib.hid (exc_setCells (S := fun q => q = b) b rfl (u64s M) 0 wr (exc_of hb00))
   clear hb hO hb00
   go_upto_region 99 with fail
   exact end_none Try.results128 rfl ⟨rfl, by rw [HMF.out]; exact HB.out, HE.out⟩

end Go.Proofs.Ytbakkmfjamcbfaa
