/-
  WALK: poly.Divide.
-/
/-
  WALK: tallymanlaw05.PolyDivides.
-/
import Derived.Test.YtfhmineolncefaaDoorMaw
import Derived.Test.YtfhmineolncefaaDoorMao
import Derived.Test.YtfhmineolncefaaDoorMau
import Derived.Test.YtfhmineolncefaaDoorMag
namespace Go.Proofs.YtfhmineolncefaaDoor
open Go.RowKit Fm
set_option linter.unusedVariables false
set_option maxRecDepth 100000

section
variable {f : Nat}

/-- what a division says: how often, and what is left -/
def DivOf (a b T R : KL f) : Prop := (∀ x, ev x a = ev x T * ev x b + ev x R) ∧ R.length < (trim b).length ∧ trim R = R ∧ trim T = T ∧ T.length ≤ a.length ∧ R.length ≤ a.length
def RetDiv (a b : KL f) (w : World) (e : Ending) (w' : World) : Prop :=
  ∃ (T R : KL f) (t r : Option Addr × Nat), e = .returned (.tuple #[.slice t.1 T.length t.2, .slice r.1 R.length r.2, .int .i64 0]) ∧ SlK w' w'.heap.size (.slice t.1 T.length t.2) T ∧ SlK w' w'.heap.size (.slice r.1 R.length r.2) R ∧ DivOf a b T R ∧ Below w.heap.size w w'

/-- what holds within a division: times T, rest R -/
def DivIn (ta tb : KL f) (lb m lr : Nat) (R T : KL f) : Prop := R.length = lr ∧ T.length = m ∧ trim R = R ∧ (∀ i, i + lb ≤ lr → T.getD i 0 = 0) ∧ ∀ x, ev x ta = ev x T * ev x tb + ev x R
theorem DivIn.start (ta tb : KL f) (lb m lr : Nat) (hl : ta.length = lr) (ht : trim ta = ta) : DivIn ta tb lb m lr ta (List.replicate m 0) :=
  ⟨hl, List.length_replicate .., ht, fun i _ => getD_zeros _ _, fun x => by
    have h : ev x (List.replicate m (0 : Fin (Pm f))) = 0 := by
      rw [← ev_trim]
      rw [show trim (List.replicate m (0 : Fin (Pm f))) = [] from trim_nil fun i => getD_zeros _ _]
      rfl
    rw [h]
    grind⟩
theorem DivIn.next {ta tb : KL f} {lb m lr k : Nat} {R T : KL f} (h : DivIn ta tb lb m lr R T) (hb : tb.length = lb) (hb0 : 0 < lb) (hk : lr = k + lb) (hkm : k < m) {top z : Fin (Pm f)} (htop : top * tb.getD (lb - 1) 0 = 1) (hz : R.getD (lr - 1) 0 = z) :
    (trim (dstep R tb (z * top) k lb)).length < lr ∧ DivIn ta tb lb m (trim (dstep R tb (z * top) k lb)).length (trim (dstep R tb (z * top) k lb)) (T.set k (z * top)) := by
  obtain ⟨h1, h2, h3, h4, h5⟩ := h
  have hs := dstep_trim R tb (z * top) k (by omega) (by omega) (by rw [hb, h1, hz]; grind)
  rw [hb, h1] at hs
  refine ⟨hs, rfl, by rw [List.length_set]; exact h2, trim_trim _, fun i hi => ?_, fun x => ?_⟩
  · rw [set_getD _ _ _ (by omega), if_neg (by omega)]
    exact h4 i (by omega)
  · have h6 := dstep_ev R tb (z * top) k (by omega) x
    rw [hb] at h6
    rw [ev_set _ _ _ _ (by omega), ev_trim, h6, h4 k (by omega), h5 x]
    grind
def slLen : Value → Nat
  | .slice _ n _ => n
  | _ => 0

variable (hf : IsF f)
include hf
set_option maxHeartbeats 8000000 in
theorem poly_Divide (va vb : Value) (a b : KL f) (w : World) (ha : SlK w w.heap.size va a) (hb : SlK w w.heap.size vb b) (hal : (trim a).length ≤ 1024) (hbl : (trim b).length ≤ 1024) (haL : a.length ≤ 100000) (hbL : b.length ≤ 100000) (hb0 : trim b ≠ []) :
    Calls Tryd.prog 33 #[.int .u8 f, va, vb] w (RetDiv a b w) := by
  have HVA := Lib.hid (fun wz => field_ValidT hf wz)
  have HTA : Hid (Calls Tryd.prog 40 #[va] w (RetOwn (trim a) w)) := poly_Trim va a w ha (by omega)
  have HTB := Lib.hid (fun wz (h : SlK wz wz.heap.size vb b) => poly_Trim vb b wz h (by omega))
  have HB0 := Lib.hid hb
  have HMU := Lib.hid (fun x y wz => field_MulK hf x y wz)
  have HSU := Lib.hid (fun x y wz => field_SubK hf x y wz)
  have HIN := Lib.hid (fun x wz => field_Inv hf x wz)
  have hfb0 : (1 : Int) ≤ (f : Int) := by rcases hf.or with rfl | rfl <;> omega
  have hfb1 : (f : Int) ≤ 2 := by rcases hf.or with rfl | rfl <;> omega
  obtain ⟨A, ca, rfl, _, _, _⟩ := ha
  obtain ⟨B, cb, rfl, _, _, _⟩ := hb
  have hta := trim_le a
  have htb := trim_le b
  have HTT : Hid (trim (trim a) = trim a) := trim_trim a
  have HLA2 : Hid ((trim b).getD ((trim b).length - 1) 0 ≠ 0) := trim_last b hb0
  have HDV : Hid (∀ T R : KL f, (∀ x, ev x (trim a) = ev x T * ev x (trim b) + ev x R) → R.length < (trim b).length → trim R = R → T.length ≤ a.length → R.length ≤ (trim a).length → DivOf a b (trim T) R) := fun T R h1 h2 h3 h4 h5 => ⟨fun x => by have h := h1 x; rwa [ev_trim, ev_trim, ← ev_trim x T] at h, h2, h3, trim_trim _, Nat.le_trans (trim_le _) h4, by omega⟩
  have hb00' : 0 < (trim b).length := List.length_pos_iff.2 hb0
  generalize trim a = ta at *
  generalize trim b = tb at *
  obtain ⟨na, hna⟩ : ∃ n, a.length = n := ⟨_, rfl⟩
  obtain ⟨nb, hnb⟩ : ∃ n, b.length = n := ⟨_, rfl⟩
  rw [hna] at hta HTA haL HDV ⊢
  rw [hnb] at htb HTB HB0 hbL ⊢
  clear hna hnb hb0
  have hb00 : Below w.heap.size w w := Below.refl _ _
  go_enter Tryd.func33, Tryd.ntmps33
  go_wp2_with fail
  refine (HVA.out _).mono ?_
  rintro e w' ⟨rfl, rfl⟩
  go_wp2_with fail
  refine HTA.out.mono ?_
  rintro e w1 ⟨v1, rfl, ho1, hb1⟩
  replace hb00 := bl_call hb00 (Nat.le_refl _) hb1
  go_wp2_with fail
  refine (HTB.out _ (HB0.out.later hb00)).mono ?_
  rintro e w2 ⟨v2, rfl, ho2, hb2⟩
  have HLT1 : Hid (∀ q, v1.ownBlock = some q → q < w1.heap.size) := fun q hq => (ho1.lt q hq).2
  replace ho1 := own_call ho1 hb2
  have hb12 := hb1.size
  have HC2 := Lib.hid (own_cases ho2)
  replace hb00 := bl_call hb00 (Nat.le_refl _) hb2
  have hs12 := hb2.size
  clear hb1 hb2 HB0 HTA HTB
  obtain ⟨A1, c1, rfl⟩ := own_shape ho1
  obtain ⟨A2, c2, e2⟩ := own_shape ho2
  obtain ⟨la, hla⟩ : ∃ n, ta.length = n := ⟨_, rfl⟩
  obtain ⟨lb, hlb⟩ : ∃ n, tb.length = n := ⟨_, rfl⟩
  rw [hla] at hal hta ho1 HLT1 HDV ⊢
  rw [hlb] at hbl htb e2 ho2 HC2 hb00' HLA2 HDV
  have HLA := Lib.hid hla
  have HLB := Lib.hid hlb
  subst e2
  clear hla hlb
  have hlb0 : ¬ (lb = 0) := by omega
  obtain ⟨gb, kb, eB, rb, hgb, hkb, hkbm⟩ : ∃ g c, Value.slice A2 lb c2 = .slice (some ⟨g, 0, none⟩) lb c ∧ RwK w2 g tb ∧ w1.heap.size ≤ g ∧ lb ≤ c ∧ c ≤ 9223372036854775807 := by
    rcases HC2.out with ⟨h, h2⟩ | h
    · exact absurd (by rw [← HLB.out, h2]; rfl) hlb0
    · exact h
  injection eB with eB1 _ eB2
  subst eB1
  subst eB2
  have hgb2 := rb.lt
  have t4 : ((lb : Int) == 0) = false := by rw [beq_eq_false_iff_ne]; omega
  obtain ⟨j, hj⟩ : ∃ j, lb - 1 = j := ⟨_, rfl⟩
  rw [hj] at HLA2
  have hji : (lb : Int) - 1 = (j : Int) := by omega
  have hj0 : (0 : Int) ≤ (j : Int) := by omega
  have hj1 : (j : Int) < (lb : Int) := by omega
  have hj2 : lb = j + 1 := by omega
  have HJ := Lib.hid hj2
  clear hj hj2 HC2 ho2
  obtain ⟨z0, hz0⟩ : ∃ z, tb[j]? = some z := ⟨_, List.getElem?_eq_getElem (by rw [HLB.out, HJ.out]; omega)⟩
  have HZ0 : Hid (tb.getD j 0 = z0) := by show _ = _; rw [List.getD_eq_getElem?_getD, hz0]; rfl
  have HZN : Hid (z0 ≠ 0) := by have h := HLA2.out; rwa [HZ0.out] at h
  obtain ⟨d0, d1⟩ := rb.at hz0
  have hn5 : ¬ (1024 < la) := by omega
  have hn6 : ¬ (1024 < lb) := by omega
  clear hz0 HLA2
  go_wp2_with fail
  refine (HIN.out z0 _).mono ?_
  rintro e w3 (⟨h0, _⟩ | ⟨_, rfl, hb3⟩)
  · exact absurd h0 HZN.out
  replace hb00 := bl_call hb00 (Nat.le_refl _) hb3
  replace ho1 := own_call ho1 hb3
  replace rb := rb.call hb3
  have hs23 := hb3.size
  clear hb3 d0 d1
  obtain ⟨top, htop⟩ : ∃ t, kinv z0 = t := ⟨_, rfl⟩
  have HTOP : Hid (top * tb.getD (lb - 1) 0 = 1) := by
    show _ = _
    rw [← htop, show lb - 1 = j by have := HJ.out; omega, HZ0.out]
    have h := mul_kinvK z0 HZN.out
    grind
  rw [htop]
  clear htop HZN HZ0 HIN
  go_upto_region 9 with fail
  have tv := V2.new w3 (.int .u64 (lo top)) (.int .u64 (hi top)) 28
  have hbA : Below w3.heap.size w3 (w3.alloc (.cells #[.int .u64 (lo top), .int .u64 (hi top)] 28)) := by repeat (first | exact Below.refl _ _ | with_reducible assumption | (refine bl_alloc ?_ (Nat.le_refl _) _))
  replace hb00 := bl_call hb00 (Nat.le_refl _) hbA
  replace ho1 := own_call ho1 hbA
  replace rb := rb.call hbA
  clear hbA
  generalize w3.alloc (.cells #[.int .u64 (lo top), .int .u64 (hi top)] 28) = w4 at hb00 ho1 rb tv ⊢
  obtain ⟨tvb, htvb⟩ : ∃ z, w3.heap.size = z := ⟨_, rfl⟩
  rw [htvb] at tv hs23
  simp only [htvb]
  have htvw := tv.lt
  clear htvb
  obtain ⟨m, hm⟩ : ∃ m, la + 1 - lb = m := ⟨_, rfl⟩
  have hmi : max ((la : Int) - (lb : Int) + 1) 0 = (m : Int) := by omega
  have hmm : m ≤ 1024 := by omega
  have hmla : m ≤ la := by omega
  have hml : la ≤ m + lb - 1 := by omega
  have hml2 : lb ≤ la → la + 1 = m + lb := by omega
  have HML := Lib.hid hml2
  have hmk := make_elem m (by omega)
  clear hm hml2
  go_upto_region 12 with fail
  obtain ⟨gt, hgt⟩ : ∃ z, w4.heap.size = z := ⟨_, rfl⟩
  have hB0 := RwK.new w4 (List.replicate m (0 : Fin (Pm f))) (cellsE (List.replicate m (0, 0))).toArray (by unfold esK; rw [List.map_replicate, eK_zero]) 28
  rw [hgt] at hB0 htvw
  replace tv := tv.alloc (.cells (cellsE (List.replicate m (0, 0))).toArray 28)
  replace rb := rb.alloc (.cells (cellsE (List.replicate m (0, 0))).toArray 28)
  have hszw := hb00.size
  replace ho1 := own_call ho1 ((Below.refl _ _).alloc (Nat.le_refl _) (.cells (cellsE (List.replicate m (0, 0))).toArray 28))
  replace hb00 : Below w.heap.size w (w4.alloc (.cells (cellsE (List.replicate m (0, 0))).toArray 28)) := hb00.alloc hszw _
  rw [hgt] at hszw
  simp only [hgt]
  generalize w4.alloc (.cells (cellsE (List.replicate m (0, 0))).toArray 28) = w5 at hB0 hb00 tv rb ho1 ⊢
  clear hmk hgt
  have hg1 : gb < tvb := by omega
  have hg2 : tvb < gt := by omega
  have hwb : w.heap.size ≤ gb := by have := hb00.size; omega
  have HNQ : Hid (∀ q, (Value.slice A1 la c1).ownBlock = some q → q ≠ gt ∧ q ≠ gb ∧ q ≠ tvb) := fun q hq => by have := HLT1.out q hq; omega
  have HST : Hid (DivIn ta tb lb m la ta (List.replicate m 0)) := DivIn.start ta tb lb m la HLA.out HTT.out
  have HNX : Hid (∀ {lr k : Nat} {R T : KL f} {z : Fin (Pm f)}, DivIn ta tb lb m lr R T → lr = k + lb → k < m → R.getD (lr - 1) 0 = z → (trim (dstep R tb (z * top) k lb)).length < lr ∧ DivIn ta tb lb m (trim (dstep R tb (z * top) k lb)).length (trim (dstep R tb (z * top) k lb)) (T.set k (z * top))) := fun h h1 h2 h3 => h.next HLB.out (by omega) h1 h2 HTOP.out h3
  clear HLT1 HTT HVA HTOP hs12 hb12 hgb2 hs23 htvw hszw
  go_wp2_with fail
  go_loopw [7] (fun vr wr => ∃ (R T : KL f) (lr : Nat) (D : Option Addr) (cp : Nat), lr ≤ la ∧ vr = .slice D lr cp ∧ Hid (DivIn ta tb lb m lr R T) ∧ Hid (∀ q, (Value.slice D lr cp).ownBlock = some q → q ≠ gt ∧ q ≠ gb ∧ q ≠ tvb) ∧ wr.ownsRow w.heap.size 28 2 (.slice D lr cp) lr (cellsE (esK R)) ∧ RwK wr gb tb ∧ RwK wr gt T ∧ V2 wr tvb (.int .u64 (lo top)) (.int .u64 (hi top)) ∧ Below w.heap.size w wr) (fun vr _ => slLen vr)
  case atStart => exact ⟨ta, _, la, A1, c1, Nat.le_refl _, rfl, HST, HNQ, ho1, rb, hB0, tv, hb00⟩
  case round =>
    clear ho1 rb hB0 tv hb00 HST HNQ
    obtain ⟨R, T, lr, D, cp, hlr, rfl, hIN, HNQ, hown, rb, rt, tv, hb00⟩ := hrel
    by_cases hge : lb ≤ lr
    · obtain ⟨k, hk⟩ : ∃ k, lr - lb = k := ⟨_, rfl⟩
      have hlr2 : lr = k + lb := by omega
      have hkm : k < m := by have := HML.out; omega
      have HRL : Hid (R.length = lr) := hIN.out.1
      have HTL : Hid (T.length = m) := hIN.out.2.1
      have hlr0 : ¬ (lr = 0) := by omega
      obtain ⟨gr, kr, eR, rr, hgr, hkr, hkrm⟩ : ∃ g c, Value.slice D lr cp = .slice (some ⟨g, 0, none⟩) lr c ∧ RwK wr g R ∧ w.heap.size ≤ g ∧ lr ≤ c ∧ c ≤ 9223372036854775807 := by
        have h := own_cases (w := wr) (base := w.heap.size) (v := .slice D lr cp) (l := R) (by rw [HRL.out]; exact hown)
        rw [HRL.out] at h
        rcases h with ⟨_, h2⟩ | h
        · exact absurd (by rw [← HRL.out, h2]; rfl) hlr0
        · exact h
      injection eR with eR1 _ eR2
      subst eR1
      subst eR2
      obtain ⟨n1, n2, n3⟩ := HNQ.out gr rfl
      obtain ⟨p9, hp9⟩ : ∃ p, lr - 1 = p := ⟨_, rfl⟩
      have hp9i : (lr : Int) - 1 = (p9 : Int) := by omega
      have hp90 : (0 : Int) ≤ (p9 : Int) := by omega
      have hp91 : (p9 : Int) < (lr : Int) := by omega
      have hp9w : IntKind.i64.wrap (p9 : Int) = (p9 : Int) := IntWalk.i64_in _ (by omega)
      have hp9l : p9 < lr := by omega
      obtain ⟨z, hz⟩ : ∃ z, R[p9]? = some z := ⟨_, List.getElem?_eq_getElem (by rw [HRL.out]; omega)⟩
      obtain ⟨d0, d1⟩ := rr.at hz
      obtain ⟨cc, hcc⟩ : ∃ c, z * top = c := ⟨_, rfl⟩
      obtain ⟨hshort, hIN2⟩ := HNX.out hIN.out hlr2 hkm (show R.getD (lr - 1) 0 = z by rw [hp9, List.getD_eq_getElem?_getD, hz]; rfl)
      rw [hcc] at hshort hIN2
      have HSH := Lib.hid hshort
      have HI2 := Lib.hid hIN2
      have HDL : Hid (∀ i, (dstep R tb cc k i).length = lr) := fun i => by rw [dstep_length]; exact HRL.out
      have HDZ : Hid (dstep R tb cc k 0 = R) := dstep_zero ..
      have HDN : Hid (∀ i y v, i < lb → tb.getD i 0 = y → (dstep R tb cc k i).getD (k + i) 0 = v → (dstep R tb cc k i).set (k + i) (v - cc * y) = dstep R tb cc k (i + 1)) := fun i y v h1 h2 h3 => by
        rw [← h2, ← h3, dstep_at _ _ _ _ _ (by rw [HRL.out]; omega)]
        exact dstep_next R tb cc k i (by rw [HRL.out]; omega)
      have hki : (lr : Int) - (lb : Int) = (k : Int) := by omega
      have hk0 : (0 : Int) ≤ (k : Int) := by omega
      have hk1 : (k : Int) < (m : Int) := by omega
      have HZT := Lib.hid hcc
      have HLK := Lib.hid hlr2
      have hgrl := rr.lt
      have htvl := tv.lt
      have hrtl := rt.lt
      have hrbl := rb.lt
      clear hz hcc hshort hIN2 hIN HNX hp9 hk hlr2 hown HNQ
      go_upto_region 14 with fail
      obtain ⟨tv0, tv1, tv2, tv3, tv4⟩ := V2.mk tv.c0 tv.c1 tv.f0 tv.f1 tv.lt
      have hNew := newE_stable (wr.heap.size)
      refine region_N (n := 10) (m := 11) (f := 10) 9 11 (NewE (wr.heap.size)) (by kernel_rfl) (by kernel_rfl) rfl ?_
      refine WpH.takeND hNew 0 (some 64) (v := ?_) rfl rfl (by kernel_rfl) rfl rfl (fun _ _ _ h => h) (.val rfl (fun wz hwz => ?_)) ?_
      rotate_left
      · go_simp; try (with_reducible rfl)
      (simp only [Act.put]); (try simp only [List.setIfInBounds_toArray]); (try simp only [List.set_cons_succ]); (try simp only [List.set_cons_zero])
      refine WpH.takeND hNew 1 (some 65) (v := ?_) rfl rfl (by kernel_rfl) rfl rfl (fun _ _ _ h => h) (.val rfl (fun wz hwz => ?_)) ?_
      rotate_left
      · go_simp; try (with_reducible rfl)
      (simp only [Act.put]); (try simp only [List.setIfInBounds_toArray]); (try simp only [List.set_cons_succ]); (try simp only [List.set_cons_zero])
      refine WpH.takeND hNew 2 (some 66) (v := ?_) rfl rfl (by kernel_rfl) rfl rfl (fun _ _ _ h => h) (.val rfl (fun wz hwz => ?_)) ?_
      rotate_left
      · go_simp; try (with_reducible rfl)
      (simp only [Act.put]); (try simp only [List.setIfInBounds_toArray]); (try simp only [List.set_cons_succ]); (try simp only [List.set_cons_zero])
      refine WpH.takeND hNew 3 (some 67) (v := ?_) rfl rfl (by kernel_rfl) rfl rfl (fun _ _ _ h => h) (.val rfl (fun wz hwz => ?_)) ?_
      rotate_left
      · go_simp; try (with_reducible rfl)
      (simp only [Act.put]); (try simp only [List.setIfInBounds_toArray]); (try simp only [List.set_cons_succ]); (try simp only [List.set_cons_zero])
      refine WpH.takeND hNew 4 (some 68) (v := ?_) rfl rfl (by kernel_rfl) rfl rfl (fun _ _ _ h => h) (.val rfl (fun wz hwz => ?_)) ?_
      rotate_left
      · go_simp; try (with_reducible rfl)
      (simp only [Act.put]); (try simp only [List.setIfInBounds_toArray]); (try simp only [List.set_cons_succ]); (try simp only [List.set_cons_zero])
      refine WpH.takeND hNew 5 (some 69) (v := ?_) rfl rfl (by kernel_rfl) rfl rfl (fun _ _ _ h => h) (.val rfl (fun wz hwz => ?_)) ?_
      rotate_left
      · go_simp; try (with_reducible rfl)
      (simp only [Act.put]); (try simp only [List.setIfInBounds_toArray]); (try simp only [List.set_cons_succ]); (try simp only [List.set_cons_zero])
      refine WpH.takeND hNew 6 (some 70) (v := ?_) rfl rfl (by kernel_rfl) rfl rfl (fun _ _ _ h => h) (.val rfl (fun wz hwz => ?_)) ?_
      rotate_left
      · (obtain ⟨hcz, hfz⟩ := bcell hwz; go_simp; try (with_reducible rfl))
      (simp only [Act.put]); (try simp only [List.setIfInBounds_toArray]); (try simp only [List.set_cons_succ]); (try simp only [List.set_cons_zero])
      refine WpH.takeND hNew 7 (some 71) (v := ?_) rfl rfl (by kernel_rfl) rfl rfl (fun _ _ _ h => h) (.val rfl (fun wz hwz => ?_)) ?_
      rotate_left
      · (obtain ⟨hcz, hfz⟩ := bcell hwz; go_simp; try (with_reducible rfl))
      (simp only [Act.put]); (try simp only [List.setIfInBounds_toArray]); (try simp only [List.set_cons_succ]); (try simp only [List.set_cons_zero])
      refine WpH.takeND hNew 8 (some 72) rfl rfl (by kernel_rfl) rfl rfl (fun _ _ _ h => h) (.call rfl (fun wz hwz => HMU.out z top wz) (fun wz hwz => ?_)) ?_
      · go_simp; try (with_reducible rfl)
      (simp only [Act.put]); (try simp only [List.setIfInBounds_toArray]); (try simp only [List.set_cons_succ]); (try simp only [List.set_cons_zero])
      refine WpH.one (i := 9) (by kernel_rfl) (fun w2 hw2 => ?_)
      refine wpOp_valueD (some 11) rfl rfl rfl (by go_simp; first | rfl | exact ⟨rfl, rfl⟩) ⟨⟨hw2.1.trans (((Below.refl _ _).alloc (Nat.le_refl _) _).mono hw2.1.size), fun _ => ⟨_, rfl, (by have hsz2 := hw2.1.size; (try simp only [World.size_alloc] at hsz2); omega), V2.new _ _ _ _⟩⟩, ?_⟩
      (simp only [Act.put]); (try simp only [List.setIfInBounds_toArray]); (try simp only [List.set_cons_succ]); (try simp only [List.set_cons_zero])
      refine WpH.done (by kernel_rfl) (fun w5 hw5n => ?_)
      obtain ⟨hw5, hnw5⟩ := hw5n
      obtain ⟨cv, hbew5, hBcv, hVcv⟩ := hnw5 rfl
      simp at hbew5
      rw [hbew5]
      clear hNew hnw5 hw2 hbew5 w2
      (try simp only [List.drop_succ_cons]); (try simp only [List.drop_zero]); (try simp only [Nat.reduceSub]); (try simp only [List.take_succ_cons]); (try simp only [List.take_zero])
      clear tv0 tv1 tv2 tv3 tv4
      clear d0 d1
      replace hb00 := bl_call hb00 (Nat.le_refl _) hw5
      replace rb := rb.call hw5
      replace rt := rt.call hw5
      replace tv := tv.call hw5
      replace rr := rr.call hw5
      clear hw5
      rw [HZT.out] at *
      obtain ⟨Vcv0, Vcv1, Vcv2, Vcv3, Vcv4⟩ := V2.mk hVcv.c0 hVcv.c1 hVcv.f0 hVcv.f1 hVcv.lt
      go_upto_region 15 with fail
      clear Vcv0 Vcv1 Vcv2 Vcv3 Vcv4
      replace rr := (rr.far (p := ⟨cv, 0, none⟩) (by dsimp only; omega) (.int .u64 (lo cc))).far (p := ⟨cv, 1, none⟩) (by dsimp only; omega) (.int .u64 (hi cc))
      replace rt := (rt.far (p := ⟨cv, 0, none⟩) (by dsimp only; omega) (.int .u64 (lo cc))).far (p := ⟨cv, 1, none⟩) (by dsimp only; omega) (.int .u64 (hi cc))
      replace rb := (rb.far (p := ⟨cv, 0, none⟩) (by dsimp only; omega) (.int .u64 (lo cc))).far (p := ⟨cv, 1, none⟩) (by dsimp only; omega) (.int .u64 (hi cc))
      replace tv := V2.oth tv (b := cv) (by omega) (.int .u64 (lo cc)) (.int .u64 (hi cc))
      replace hVcv := V2.set hVcv (.int .u64 (lo cc)) (.int .u64 (hi cc))
      replace hb00 := bl_st hb00 (b := cv) (by have := hb00.size; omega) (.int .u64 (lo cc)) (.int .u64 (hi cc))
      generalize (w5.setCell ⟨cv, 0, none⟩ (.int .u64 (lo cc))).setCell ⟨cv, 1, none⟩ (.int .u64 (hi cc)) = w6 at *
      obtain ⟨y9, hy9⟩ : ∃ x, T[k]? = some x := ⟨_, List.getElem?_eq_getElem (by rw [HTL.out]; exact hkm)⟩
      obtain ⟨c0, c1⟩ := rt.at hy9
      obtain ⟨f0, f1⟩ := rt.frz (i := k) (by rw [HTL.out]; exact hkm)
      clear hy9
      obtain ⟨Vcv0, Vcv1, Vcv2, Vcv3, Vcv4⟩ := V2.mk hVcv.c0 hVcv.c1 hVcv.f0 hVcv.f1 hVcv.lt
      go_upto_region 16 with fail
      clear Vcv0 Vcv1 Vcv2 Vcv3 Vcv4
      clear c0 c1 f0 f1
      replace rr := (rr.far (p := ⟨gt, k * 2, none⟩) (by dsimp only; omega) (.int .u64 (lo cc))).far (p := ⟨gt, k * 2 + 1, none⟩) (by dsimp only; omega) (.int .u64 (hi cc))
      replace rb := (rb.far (p := ⟨gt, k * 2, none⟩) (by dsimp only; omega) (.int .u64 (lo cc))).far (p := ⟨gt, k * 2 + 1, none⟩) (by dsimp only; omega) (.int .u64 (hi cc))
      replace tv := V2.setOther (V2.setOther tv (p := ⟨gt, k * 2, none⟩) (by dsimp only; omega) (.int .u64 (lo cc))) (p := ⟨gt, k * 2 + 1, none⟩) (by dsimp only; omega) (.int .u64 (hi cc))
      replace hVcv := V2.setOther (V2.setOther hVcv (p := ⟨gt, k * 2, none⟩) (by dsimp only; omega) (.int .u64 (lo cc))) (p := ⟨gt, k * 2 + 1, none⟩) (by dsimp only; omega) (.int .u64 (hi cc))
      replace rt := rt.set k (by rw [HTL.out]; exact hkm) cc
      replace hb00 := bl_set (bl_set hb00 (p := ⟨gt, k * 2, none⟩) (by dsimp only; omega) (.int .u64 (lo cc))) (p := ⟨gt, k * 2 + 1, none⟩) (by dsimp only; omega) (.int .u64 (hi cc))
      generalize (w6.setCell ⟨gt, k * 2, none⟩ (.int .u64 (lo cc))).setCell ⟨gt, k * 2 + 1, none⟩ (.int .u64 (hi cc)) = w7 at *
      rw [← HDZ.out] at rr
      have q1 : gr < cv := by omega
      have q2 : gb < cv := by omega
      have q3 : gt < cv := by omega
      have q4 : tvb < cv := by omega
      have q5 : w.heap.size ≤ gt := by omega
      clear hgrl htvl hrtl hrbl
      go_wp2_with fail
      go_loopw [79] (fun iv wi => ∃ i : Nat, i ≤ lb ∧ iv = .int .i64 i ∧ RwK wi gr (dstep R tb cc k i) ∧ RwK wi gb tb ∧ RwK wi gt (T.set k cc) ∧ V2 wi tvb (.int .u64 (lo top)) (.int .u64 (hi top)) ∧ V2 wi cv (.int .u64 (lo cc)) (.int .u64 (hi cc)) ∧ Below w.heap.size w wi) (fun iv _ => lb - (intOf iv).toNat)
      case atStart => exact ⟨0, Nat.zero_le _, rfl, rr, rb, rt, tv, hVcv, hb00⟩
      case round =>
        clear rr rb rt tv hVcv hb00
        obtain ⟨i, hil, rfl, rr, rb, rt, tv, hVcv, hb00⟩ := hrel
        by_cases hib : i < lb
        · obtain ⟨y, hy⟩ : ∃ y, tb[i]? = some y := ⟨_, List.getElem?_eq_getElem (by rw [HLB.out]; exact hib)⟩
          have HYB : Hid (tb.getD i 0 = y) := by show _ = _; rw [List.getD_eq_getElem?_getD, hy]; rfl
          obtain ⟨d0, d1⟩ := rb.at hy
          have g1 : (0 : Int) ≤ (i : Int) := by omega
          have g3 : (i : Int) < (lb : Int) := by omega
          have hrbl := rb.lt
          obtain ⟨q, hq⟩ : ∃ q, k + i = q := ⟨_, rfl⟩
          have hql : q < lr := by have := HLK.out; omega
          obtain ⟨v, hv⟩ : ∃ v, (dstep R tb cc k i)[q]? = some v := ⟨_, List.getElem?_eq_getElem (by rw [HDL.out]; exact hql)⟩
          have HNX : Hid ((dstep R tb cc k i).set q (v - cc * y) = dstep R tb cc k (i + 1)) := by
            show _ = _
            rw [← hq]
            refine HDN.out i y v hib HYB.out ?_
            rw [hq, List.getD_eq_getElem?_getD, hv]
            rfl
          have HV := Lib.hid hv
          have v1 : IntKind.i64.wrap (q : Int) = (q : Int) := IntWalk.i64_in _ (by omega)
          have v2 : (k : Int) + (i : Int) = (q : Int) := by omega
          have g4 : (0 : Int) ≤ (q : Int) := by omega
          have g5 : (q : Int) < (lr : Int) := by omega
          have q6 : gr < wr.heap.size := rr.lt
          clear hy hv hq
          go_upto_region 19 with fail
          have y0 := V2.new wr (.int .u64 (lo y)) (.int .u64 (hi y)) 28
          have hbA : Below wr.heap.size wr (wr.alloc (.cells #[.int .u64 (lo y), .int .u64 (hi y)] 28)) := by repeat (first | exact Below.refl _ _ | with_reducible assumption | (refine bl_alloc ?_ (Nat.le_refl _) _))
          replace hb00 := bl_call hb00 (Nat.le_refl _) hbA
          replace rr := rr.call hbA
          replace rb := rb.call hbA
          replace rt := rt.call hbA
          replace tv := tv.call hbA
          replace hVcv := hVcv.call hbA
          clear hbA
          generalize wr.alloc (.cells #[.int .u64 (lo y), .int .u64 (hi y)] 28) = w8 at hb00 rr rb rt tv hVcv y0 ⊢
          obtain ⟨yb, hyb⟩ : ∃ z, wr.heap.size = z := ⟨_, rfl⟩
          rw [hyb] at y0 q6
          simp only [hyb]
          clear hyb d0 d1
          obtain ⟨c0, c1⟩ := rr.at HV.out
          have g9 := rr.lt
          have l1 := y0.lt
          have l2 := hVcv.lt
          obtain ⟨Vcv0, Vcv1, Vcv2, Vcv3, Vcv4⟩ := V2.mk hVcv.c0 hVcv.c1 hVcv.f0 hVcv.f1 hVcv.lt
          obtain ⟨y00, y01, y02, y03, y04⟩ := V2.mk y0.c0 y0.c1 y0.f0 y0.f1 y0.lt
          refine region_B (n := 16) (m := 18) (f := 16) (by kernel_rfl) (by kernel_rfl) rfl ?_
          refine WpH.takeD 0 (some 84) (v := ?_) rfl rfl (by kernel_rfl) (fun _ _ _ h => h) (.val rfl (fun wz hwz => ?_)) ?_
          rotate_left
          · go_simp; try (with_reducible rfl)
          (simp only [Act.put]); (try simp only [List.setIfInBounds_toArray]); (try simp only [List.set_cons_succ]); (try simp only [List.set_cons_zero])
          refine WpH.takeD 1 (some 85) (v := ?_) rfl rfl (by kernel_rfl) (fun _ _ _ h => h) (.val rfl (fun wz hwz => ?_)) ?_
          rotate_left
          · go_simp; try (with_reducible rfl)
          (simp only [Act.put]); (try simp only [List.setIfInBounds_toArray]); (try simp only [List.set_cons_succ]); (try simp only [List.set_cons_zero])
          refine WpH.takeD 2 (some 86) (v := ?_) rfl rfl (by kernel_rfl) (fun _ _ _ h => h) (.val rfl (fun wz hwz => ?_)) ?_
          rotate_left
          · go_simp; try (with_reducible rfl)
          (simp only [Act.put]); (try simp only [List.setIfInBounds_toArray]); (try simp only [List.set_cons_succ]); (try simp only [List.set_cons_zero])
          refine WpH.takeD 3 (some 87) (v := ?_) rfl rfl (by kernel_rfl) (fun _ _ _ h => h) (.val rfl (fun wz hwz => ?_)) ?_
          rotate_left
          · go_simp; try (with_reducible rfl)
          (simp only [Act.put]); (try simp only [List.setIfInBounds_toArray]); (try simp only [List.set_cons_succ]); (try simp only [List.set_cons_zero])
          refine WpH.takeD 4 (some 88) (v := ?_) rfl rfl (by kernel_rfl) (fun _ _ _ h => h) (.val rfl (fun wz hwz => ?_)) ?_
          rotate_left
          · go_simp; try (with_reducible rfl)
          (simp only [Act.put]); (try simp only [List.setIfInBounds_toArray]); (try simp only [List.set_cons_succ]); (try simp only [List.set_cons_zero])
          refine WpH.takeD 5 (some 89) (v := ?_) rfl rfl (by kernel_rfl) (fun _ _ _ h => h) (.val rfl (fun wz hwz => ?_)) ?_
          rotate_left
          · go_simp; try (with_reducible rfl)
          (simp only [Act.put]); (try simp only [List.setIfInBounds_toArray]); (try simp only [List.set_cons_succ]); (try simp only [List.set_cons_zero])
          refine WpH.takeD 6 (some 90) (v := ?_) rfl rfl (by kernel_rfl) (fun _ _ _ h => h) (.val rfl (fun wz hwz => ?_)) ?_
          rotate_left
          · go_simp; try (with_reducible rfl)
          (simp only [Act.put]); (try simp only [List.setIfInBounds_toArray]); (try simp only [List.set_cons_succ]); (try simp only [List.set_cons_zero])
          refine WpH.takeD 7 (some 91) (v := ?_) rfl rfl (by kernel_rfl) (fun _ _ _ h => h) (.val rfl (fun wz hwz => ?_)) ?_
          rotate_left
          · go_simp; try (with_reducible rfl)
          (simp only [Act.put]); (try simp only [List.setIfInBounds_toArray]); (try simp only [List.set_cons_succ]); (try simp only [List.set_cons_zero])
          refine WpH.takeD 8 (some 92) (v := ?_) rfl rfl (by kernel_rfl) (fun _ _ _ h => h) (.val rfl (fun wz hwz => ?_)) ?_
          rotate_left
          · go_simp; try (with_reducible rfl)
          (simp only [Act.put]); (try simp only [List.setIfInBounds_toArray]); (try simp only [List.set_cons_succ]); (try simp only [List.set_cons_zero])
          refine WpH.takeD 9 (some 93) (v := ?_) rfl rfl (by kernel_rfl) (fun _ _ _ h => h) (.val rfl (fun wz hwz => ?_)) ?_
          rotate_left
          · go_simp; try (with_reducible rfl)
          (simp only [Act.put]); (try simp only [List.setIfInBounds_toArray]); (try simp only [List.set_cons_succ]); (try simp only [List.set_cons_zero])
          refine WpH.takeD 10 (some 94) (v := ?_) rfl rfl (by kernel_rfl) (fun _ _ _ h => h) (.val rfl (fun wz hwz => ?_)) ?_
          rotate_left
          · (obtain ⟨hcz, hfz⟩ := bcell hwz; go_simp; try (with_reducible rfl))
          (simp only [Act.put]); (try simp only [List.setIfInBounds_toArray]); (try simp only [List.set_cons_succ]); (try simp only [List.set_cons_zero])
          refine WpH.takeD 11 (some 95) (v := ?_) rfl rfl (by kernel_rfl) (fun _ _ _ h => h) (.val rfl (fun wz hwz => ?_)) ?_
          rotate_left
          · go_simp; try (with_reducible rfl)
          (simp only [Act.put]); (try simp only [List.setIfInBounds_toArray]); (try simp only [List.set_cons_succ]); (try simp only [List.set_cons_zero])
          refine WpH.takeD 12 (some 96) (v := ?_) rfl rfl (by kernel_rfl) (fun _ _ _ h => h) (.val rfl (fun wz hwz => ?_)) ?_
          rotate_left
          · (obtain ⟨hcz, hfz⟩ := bcell hwz; go_simp; try (with_reducible rfl))
          (simp only [Act.put]); (try simp only [List.setIfInBounds_toArray]); (try simp only [List.set_cons_succ]); (try simp only [List.set_cons_zero])
          refine WpH.takeD 13 (some 97) (v := ?_) rfl rfl (by kernel_rfl) (fun _ _ _ h => h) (.val rfl (fun wz hwz => ?_)) ?_
          rotate_left
          · (obtain ⟨hcz, hfz⟩ := bcell hwz; go_simp; try (with_reducible rfl))
          (simp only [Act.put]); (try simp only [List.setIfInBounds_toArray]); (try simp only [List.set_cons_succ]); (try simp only [List.set_cons_zero])
          refine WpH.takeD 14 (some 98) rfl rfl (by kernel_rfl) (fun _ _ _ h => h) (.call rfl (fun wz hwz => HMU.out cc y wz) (fun wz hwz => ?_)) ?_
          · go_simp; try (with_reducible rfl)
          (simp only [Act.put]); (try simp only [List.setIfInBounds_toArray]); (try simp only [List.set_cons_succ]); (try simp only [List.set_cons_zero])
          refine WpH.takeD 15 (some 99) rfl rfl (by kernel_rfl) (fun _ _ _ h => h) (.call rfl (fun wz hwz => HSU.out v (cc * y) wz) (fun wz hwz => ?_)) ?_
          · go_simp; try (with_reducible rfl)
          (simp only [Act.put]); (try simp only [List.setIfInBounds_toArray]); (try simp only [List.set_cons_succ]); (try simp only [List.set_cons_zero])
          refine WpH.doneB (by kernel_rfl) (fun w9 hw9 => ?_)
          (try simp only [List.drop_succ_cons]); (try simp only [List.drop_zero]); (try simp only [Nat.reduceSub]); (try simp only [List.take_succ_cons]); (try simp only [List.take_zero])
          clear Vcv0 Vcv1 Vcv2 Vcv3 Vcv4 y00 y01 y02 y03 y04
          clear c0 c1 g9 l1 l2 y0
          replace hb00 := bl_call hb00 (Nat.le_refl _) hw9
          replace rr := rr.call hw9
          replace rb := rb.call hw9
          replace rt := rt.call hw9
          replace tv := tv.call hw9
          replace hVcv := hVcv.call hw9
          clear hw9
          obtain ⟨c0, c1⟩ := rr.at HV.out
          obtain ⟨f0, f1⟩ := rr.frz (i := q) (by rw [HDL.out]; exact hql)
          have g9 := rr.lt
          go_wp2_with fail
          go_roundw
          case rel =>
            have h := rr.set q (by rw [HDL.out]; exact hql) (v - cc * y)
            rw [HNX.out] at h
            exact ⟨i + 1, by omega, by go_num, h, (rb.far (by dsimp only; omega) _).far (by dsimp only; omega) _, (rt.far (by dsimp only; omega) _).far (by dsimp only; omega) _, V2.setOther (V2.setOther tv (by dsimp only; omega) _) (by dsimp only; omega) _, V2.setOther (V2.setOther hVcv (by dsimp only; omega) _) (by dsimp only; omega) _, by repeat (first | exact Below.refl _ _ | with_reducible assumption | (refine bl_alloc ?_ (Nat.le_refl _) _) | (refine bl_set ?_ (by dsimp only; omega) _) | (refine Below.drew ?_) | (refine bl_drewN ?_ _) | (refine bl_call ?_ (Nat.le_refl _) (by assumption)))⟩
          case measure => simp [intOf]; omega
        · obtain hie : i = lb := by omega
          subst hie
          have sr := rr.sl (HDL.out i) hkr hkrm
          have HTR := Lib.hid (poly_Trim _ (dstep R tb cc k i) _ sr (by rw [HDL.out]; omega))
          have hw1 := rb.lt
          have hw2 := rt.lt
          have hw3 := tv.lt
          clear sr rr hVcv HDL HDN HDZ
          go_wp2_with fail
          refine HTR.out.mono ?_
          rintro e w8 ⟨v, rfl, ho, hb8⟩
          obtain ⟨At, ct, rfl⟩ := own_shape ho
          have hNQ2 : Hid (∀ q, (Value.slice At (trim (dstep R tb cc k i)).length ct).ownBlock = some q → q ≠ gt ∧ q ≠ gb ∧ q ≠ tvb) := fun q hq => by have := (ho.lt q hq).1; omega
          replace ho := own_mono ho hb00.size
          replace hb00 := bl_call hb00 (Nat.le_refl _) hb8
          replace rb := rb.call hb8
          replace rt := rt.call hb8
          replace tv := tv.call hb8
          clear hb8
          go_wp2_with fail
          go_roundw
          case rel => exact ⟨_, _, _, At, ct, by have := HSH.out; omega, rfl, HI2.out, hNQ2, ho, rb, rt, tv, hb00⟩
          case measure => simp only [slLen]; exact HSH.out
    · have hge2 : ¬ (lb ≤ lr) := hge
      have hIN2 := hIN
      have HLN : Hid (R.length = lr) := hIN.out.1
      have st := rt.sl (n := m) (c := m) hIN.out.2.1 (Nat.le_refl _) (by omega)
      have HTR := Lib.hid (poly_Trim _ T _ st (by rw [hIN.out.2.1]; omega))
      have hsr := own_sl HLN.out hown
      have HDF : Hid (DivOf a b (trim T) R) := HDV.out T R hIN.out.2.2.2.2 (by rw [hIN.out.1]; omega) hIN.out.2.2.1 (by rw [hIN.out.2.1]; omega) (by rw [hIN.out.1]; omega)
      clear hIN hIN2 st rt HDV HNX HML
      go_wp2_with fail
      refine HTR.out.mono ?_
      rintro e w7 ⟨v, rfl, ho, hb7⟩
      obtain ⟨At, ct, rfl⟩ := own_shape ho
      have sT := own_sl rfl ho
      have sR := hsr.later hb7
      clear hsr ho hown
      go_wp2_with fail
      go_ret3
      exact ⟨trim T, R, (At, ct), (D, cp), by rw [HLN.out]; rfl, sT, by rw [HLN.out]; exact sR, HDF.out, bl_call hb00 (Nat.le_refl _) hb7⟩
end

end Go.Proofs.YtfhmineolncefaaDoor

namespace Go.Proofs.YtfhmineolncefaaDoor
open Go.RowKit Fm
set_option linter.unusedVariables false
set_option maxRecDepth 100000

/-- an error of a division: nothing comes back -/
def RetNone2 (n : Int) (w : World) (e : Ending) (w' : World) : Prop := e = .returned (.tuple #[.slice none 0 0, .slice none 0 0, .int .i64 n]) ∧ Below w.heap.size w w'

theorem poly_Divide_kind (F : Int) (va vb : Value) (w : World) (h1 : F ≠ 1) (h2 : F ≠ 2) :
    Calls Tryd.prog 33 #[.int .u8 F, va, vb] w (RetNone2 10 w) := by
  have h : (F == 1 || F == 2) = false := by rw [Bool.or_eq_false_iff]; exact ⟨beq_eq_false_iff_ne.2 h1, beq_eq_false_iff_ne.2 h2⟩
  have HV := Lib.hid (field_Valid F w)
  have hV : Hid (Calls Tryd.prog 59 #[.int .u8 F] w fun e w' => e = .returned (.bool false) ∧ w = w') := HV.out.mono fun e w' ⟨h3, h4⟩ => ⟨by rw [h3, h], h4⟩
  clear HV h h1 h2
  go_enter Tryd.func33, Tryd.ntmps33
  go_wp2_with fail
  refine hV.out.mono ?_
  rintro e w' ⟨rfl, rfl⟩
  go_wp2_with fail
  go_ret3
  exact ⟨rfl, Below.refl _ _⟩

section
variable {f : Nat} (hf : IsF f)
include hf
theorem poly_Divide_none (va vb : Value) (a b : KL f) (w : World) (ha : SlK w w.heap.size va a) (hb : SlK w w.heap.size vb b) (haL : a.length ≤ 100000) (hbL : b.length ≤ 100000) (hb0 : trim b = []) :
    Calls Tryd.prog 33 #[.int .u8 f, va, vb] w (RetNone2 8 w) := by
  have HVA := Lib.hid (fun wz => field_ValidT hf wz)
  have HTA : Hid (Calls Tryd.prog 40 #[va] w (RetSq (trim a) w)) := (poly_Trim va a w ha (by omega)).mono fun _ _ h => h.sq
  have HTB : Hid (∀ wz, SlK wz wz.heap.size vb b → Calls Tryd.prog 40 #[vb] wz (RetSq [] wz)) := fun wz h => by
    have h := (poly_Trim vb b wz h (by omega)).mono fun _ _ h => h.sq
    rwa [hb0] at h
  have HB0 := Lib.hid hb
  obtain ⟨A, ca, rfl, _, _, _⟩ := ha
  obtain ⟨B, cb, rfl, _, _, _⟩ := hb
  clear hb0
  have hb00 : Below w.heap.size w w := Below.refl _ _
  go_enter Tryd.func33, Tryd.ntmps33
  go_wp2_with fail
  refine (HVA.out _).mono ?_
  rintro e w' ⟨rfl, rfl⟩
  go_wp2_with fail
  refine HTA.out.mono ?_
  rintro e w1 ⟨q1, rfl, _, hb1⟩
  replace hb00 := bl_call hb00 (Nat.le_refl _) hb1
  clear hb1
  go_wp2_with fail
  refine (HTB.out _ (HB0.out.later hb00)).mono ?_
  rintro e w2 ⟨q2, rfl, _, hb2⟩
  replace hb00 := bl_call hb00 (Nat.le_refl _) hb2
  clear hb2
  simp only [List.length_nil]
  go_wp2_with fail
  go_ret3
  exact ⟨rfl, hb00⟩
end

set_option maxHeartbeats 8000000 in
theorem walk_PolyDivides (n : Int) (va vb : Value) (la lb : List E) (w : World) (hT : TabW w) (hn : 0 ≤ n ∧ n ≤ 255) (hla : SlE w w.heap.size va la) (hlb : SlE w w.heap.size vb lb) :
    Calls Tryd.prog 7 #[.int .u8 n, va, vb] w fun e w' => e = .returned (.bool true) ∧ Below w.heap.size w w' := by
  obtain ⟨f, hf, hF⟩ := law03_FN n hn.1 hn.2
  have HF := Lib.hid hF
  have HAW := Lib.hid (fun wz h => law05_Awake wz h)
  have hfb0 : (1 : Int) ≤ (f : Int) := by rcases hf.or with rfl | rfl <;> omega
  have hfb1 : (f : Int) ≤ 2 := by rcases hf.or with rfl | rfl <;> omega
  have hwF : IntKind.i64.wrap (f : Int) = (f : Int) := IntWalk.i64_in _ (by omega)
  obtain ⟨r, hr, hrm⟩ : ∃ r : Nat, r ≤ 249 ∧ n.tmod 250 = (r : Int) := ⟨(n % 250).toNat, by omega, by rw [Int.tmod_eq_emod_of_nonneg hn.1]; omega⟩
  have hrm2 : n % 250 = (r : Int) := by rw [← hrm, Int.tmod_eq_emod_of_nonneg hn.1]
  have hrm3 : (3 : Int) + (r : Int) = ((3 + r : Nat) : Int) := by omega
  obtain ⟨G, hG⟩ : ∃ G, 3 + r = G := ⟨_, rfl⟩
  rw [hG] at hrm3
  have hG1 : (3 : Int) ≤ (G : Int) := by omega
  have hG2 : (G : Int) ≤ 252 := by omega
  clear hG hr
  have HSM := Lib.hid (fun v l wz hs => law05_some hf v l 16 wz hs (by omega))
  have HSN := Lib.hid (fun v l wz hs => law05_some hf v l 12 wz hs (by omega))
  have HDK := Lib.hid (fun va vb wz => poly_Divide_kind (G : Int) va vb wz (by omega) (by omega))
  have HA := Lib.hid hla
  have HB := Lib.hid hlb
  obtain ⟨⟨A1, c1, rfl, _, _, _⟩, _⟩ := hla
  obtain ⟨⟨A2, c2, rfl, _, _, _⟩, _⟩ := hlb
  have hb00 : Below w.heap.size w w := Below.refl _ _
  go_enter Tryd.func7, Tryd.ntmps7
  go_wp2_with fail
  refine (HAW.out _ hT).mono ?_
  rintro e w2 ⟨rfl, hb2⟩
  replace hb00 := bl_call hb00 (Nat.le_refl _) hb2
  clear hb2 hT HAW
  go_upto_region 4 with (first
    | (go_at_call 16; refine (HF.out _).mono ?_; rintro e wq ⟨rfl, rfl⟩))
  go_wp2_with fail
  refine (HSM.out _ la _ ((HA.out.below hb00).mono hb00.size)).mono ?_
  rintro e w3 ⟨p, hpl, vp, rfl, hop, hb3⟩
  obtain ⟨AP, cP, rfl⟩ := own_shape hop
  have hp := own_sl rfl hop
  clear hop
  replace hb00 := bl_call hb00 (Nat.le_refl _) hb3
  clear hb3
  go_wp2_with fail
  refine (HSN.out _ lb _ ((HB.out.below hb00).mono hb00.size)).mono ?_
  rintro e w4 ⟨q, hql, vq, rfl, hoq, hb4⟩
  obtain ⟨AQ, cQ, rfl⟩ := own_shape hoq
  have hq := own_sl rfl hoq
  clear hoq
  replace hb00 := bl_call hb00 (Nat.le_refl _) hb4
  replace hp := hp.later hb4
  clear hb4 HSM HSN HA HB HF
  have htq := trim_le q
  have htp := trim_le p
  by_cases hq0 : trim q = []
  · have HDV := Lib.hid (poly_Divide_none hf _ _ p q w4 hp hq (by omega) (by omega) hq0)
    have HTQ : Hid (∀ wz, SlK wz wz.heap.size (.slice AQ q.length cQ) q → Calls Tryd.prog 34 #[.slice AQ q.length cQ] wz fun e w' => e = .returned (.slice AQ 0 cQ) ∧ wz = w') := fun wz h => by
      have h := ref_Trim AQ cQ q wz h (by omega)
      rwa [hq0] at h
    clear hq0 htq htp
    go_wp2_with fail
    refine HDV.out.mono ?_
    rintro e w5 ⟨rfl, hb5⟩
    replace hb00 := bl_call hb00 (Nat.le_refl _) hb5
    replace hp := hp.later hb5
    replace hq := hq.later hb5
    clear hb5
    go_wp2_with fail
    refine (HTQ.out _ hq).mono ?_
    rintro e w' ⟨rfl, rfl⟩
    go_wp2_with fail
    go_ret
    exact ⟨rfl, hb00⟩
  · have HDV := Lib.hid (poly_Divide hf _ _ p q w4 hp hq (by omega) (by omega) (by omega) (by omega) hq0)
    have HQ0 : Hid (0 < (trim q).length) := List.length_pos_iff.2 hq0
    clear hq0
    go_wp2_with fail
    refine HDV.out.mono ?_
    rintro e w5 ⟨T, R, ⟨tA, tc⟩, ⟨rA, rc⟩, rfl, hTs, hRs, hD, hb5⟩
    dsimp only at hTs hRs ⊢
    replace hb00 := bl_call hb00 (Nat.le_refl _) hb5
    replace hp := hp.later hb5
    replace hq := hq.later hb5
    clear hb5 HDV
    have hqt := hq.takeK (trim_le q)
    rw [← trim_take] at hqt
    have HTQ := Lib.hid (ref_Trim AQ cQ q w5 hq (by omega))
    have hlQ := HQ0.out
    have hRT : R.length < (trim q).length := hD.2.1
    have hTT := trim_le T
    have hTl : T.length ≤ p.length := hD.2.2.2.2.1
    have HBK : Hid (padd (pmul T (trim q)) R = trim p) := by
      show _ = _
      have h1 : trim (padd (pmul T (trim q)) R) = padd (pmul T (trim q)) R := by unfold padd; exact trim_trim _
      rw [← h1]
      refine trim_ev ?_ (by omega) fun x => ?_
      · have h2 := padd_le (pmul T (trim q)) R
        have h3 := pmul_le T (trim q)
        omega
      · rw [ev_padd, ev_pmul, ev_trim, hD.1 x]
    have HTR : Hid (trim T = T) := hD.2.2.2.1
    have HRR : Hid (trim R = R) := hD.2.2.1
    clear hD
    generalize trim q = u at *
    obtain ⟨lu, hlu⟩ : ∃ z, u.length = z := ⟨_, rfl⟩
    obtain ⟨lr, hlr⟩ : ∃ z, R.length = z := ⟨_, rfl⟩
    obtain ⟨lt, hlt⟩ : ∃ z, T.length = z := ⟨_, rfl⟩
    have HLU := Lib.hid hlu
    have HLR := Lib.hid hlr
    have HLT := Lib.hid hlt
    rw [hlu] at HTQ hlQ hRT htq hqt
    rw [hlr] at hRT hRs ⊢
    rw [hlt] at hTl hTs ⊢
    clear hlu hlr hlt
    have t4 : ((lu : Int) == 0) = false := by rw [beq_eq_false_iff_ne]; omega
    have t5 : ¬ (lu = 0) := by omega
    go_wp2_with fail
    refine HTQ.out.mono ?_
    rintro e w' ⟨rfl, rfl⟩
    go_wp2_with fail
    refine (ref_Product hf _ _ T u _ hTs hqt (by rw [HLT.out]; omega) (by rw [HLU.out]; omega)).mono ?_
    rintro e w6 ⟨⟨mA, mc⟩, rfl, hms, hb6⟩
    dsimp only at hms ⊢
    replace hb00 := bl_call hb00 (Nat.le_refl _) hb6
    replace hp := hp.later hb6
    replace hTs := hTs.later hb6
    replace hRs := hRs.later hb6
    clear hb6 hqt hq
    go_wp2_with fail
    refine (ref_Sum hf _ _ (pmul T u) R _ hms hRs (by have := pmul_le T u; have := HLT.out; have := HLU.out; omega) (by have := HLR.out; omega)).mono ?_
    rintro e w7 ⟨⟨sA, sc⟩, rfl, hss, hb7⟩
    dsimp only at hss ⊢
    rw [HBK.out] at hss ⊢
    replace hb00 := bl_call hb00 (Nat.le_refl _) hb7
    replace hp := hp.later hb7
    replace hTs := hTs.later hb7
    replace hRs := hRs.later hb7
    clear hb7 hms
    go_wp2_with fail
    refine (HDK.out _ _ _).mono ?_
    rintro e w8 ⟨rfl, hb8⟩
    replace hb00 := bl_call hb00 (Nat.le_refl _) hb8
    replace hp := hp.later hb8
    replace hTs := hTs.later hb8
    replace hRs := hRs.later hb8
    replace hss := hss.later hb8
    clear hb8
    have HT1 : Hid (∀ wz, SlK wz wz.heap.size (.slice tA lt tc) T → Calls Tryd.prog 34 #[.slice tA lt tc] wz fun e w' => e = .returned (.slice tA lt tc) ∧ wz = w') := fun wz h => by
      have h2 := ref_Trim tA tc T wz (by rw [HLT.out]; exact h) (by rw [HLT.out]; omega)
      rwa [HTR.out, HLT.out] at h2
    have HT2 : Hid (∀ wz, SlK wz wz.heap.size (.slice rA lr rc) R → Calls Tryd.prog 34 #[.slice rA lr rc] wz fun e w' => e = .returned (.slice rA lr rc) ∧ wz = w') := fun wz h => by
      have h2 := ref_Trim rA rc R wz (by rw [HLR.out]; exact h) (by rw [HLR.out]; omega)
      rwa [HRR.out, HLR.out] at h2
    have HT3 : Hid (∀ wz, SlK wz wz.heap.size (.slice AP p.length cP) p → Calls Tryd.prog 34 #[.slice AP p.length cP] wz fun e w' => e = .returned (.slice AP (trim p).length cP) ∧ wz = w') := fun wz h => ref_Trim AP cP p wz h (by omega)
    go_wp2_with fail
    refine (HT1.out _ hTs).mono ?_
    rintro e w' ⟨rfl, rfl⟩
    go_wp2_with fail
    refine (ref_Same_eq _ _ _ _ _ hTs.toE hTs.toE rfl).mono ?_
    rintro e w9 ⟨rfl, hb9⟩
    replace hb00 := bl_call hb00 (Nat.le_refl _) hb9
    replace hp := hp.later hb9
    replace hTs := hTs.later hb9
    replace hRs := hRs.later hb9
    replace hss := hss.later hb9
    clear hb9
    go_wp2_with fail
    refine (HT2.out _ hRs).mono ?_
    rintro e w' ⟨rfl, rfl⟩
    go_wp2_with fail
    refine (ref_Same_eq _ _ _ _ _ hRs.toE hRs.toE rfl).mono ?_
    rintro e w10 ⟨rfl, hb10⟩
    replace hb00 := bl_call hb00 (Nat.le_refl _) hb10
    replace hp := hp.later hb10
    replace hTs := hTs.later hb10
    replace hRs := hRs.later hb10
    replace hss := hss.later hb10
    clear hb10
    have hpt := hp.takeK (trim_le p)
    rw [← trim_take] at hpt
    go_wp2_with fail
    refine (HT3.out _ hp).mono ?_
    rintro e w' ⟨rfl, rfl⟩
    go_wp2_with fail
    refine (ref_Same_eq _ _ _ _ _ hss.toE hpt.toE rfl).mono ?_
    rintro e w11 ⟨rfl, hb11⟩
    replace hb00 := bl_call hb00 (Nat.le_refl _) hb11
    go_wp2_with fail
    go_ret
    exact ⟨rfl, hb00⟩

end Go.Proofs.YtfhmineolncefaaDoor
