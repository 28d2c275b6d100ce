/-
  Lag, PfM, PfQ, PfQ2, RegZ, Vector, PfQ3: for ProofShares.
-/
import Derived.Test.YtfbfbijkkbflkaaGreatDoorMba
import Derived.Test.YtfbfbijkkbflkaaGreatDoorOaa
namespace Go.Proofs.YtfbfbijkkbflkaaGreatDoor
open Go.RowKit Fm
set_option linter.unusedVariables false
set_option maxRecDepth 100000

section
variable {f : Nat}
theorem ksum_ofF (g : Nat → Fin (Pm f)) : ∀ n, ksum (ofF n g) = sm g n
  | 0 => rfl
  | n + 1 => by
    have h : ofF (n + 1) g = ofF n g ++ [g n] := by
      unfold ofF
      rw [List.range_succ, List.map_append]
      rfl
    rw [h]
    unfold ksum
    rw [List.foldl_append]
    have ih := ksum_ofF g n
    unfold ksum at ih
    rw [ih]
    rfl
theorem lag_sum (L : Nat) (hL : L ≤ 10) (x : Fin (Pm f)) (v : KL f) (hv : v.length = 2 ^ L) (hx : Fm.kpow x (2 ^ L) ≠ 1) : ksum (ofF (2 ^ L) fun i => (wts L x).getD i 0 * v.getD i 0) = ev x (coefsK L v) := by
  rw [ksum_ofF]
  have hr := rt_root f L (by omega)
  have hd : ∀ k, k < 2 ^ L → (x - Fm.kpow (rootK f L) k) * kinv (x - Fm.kpow (rootK f L) k) = 1 := fun k _ => mul_kinvK _ fun h2 => by
    have h3 : x = Fm.kpow (rootK f L) k := by grind
    apply hx
    rw [h3, ← Fm.kpow_mul, Nat.mul_comm, Fm.kpow_mul, hr.one, one_kpow]
  have h := lagrange (x := x) (m := Fm.kinv (nn f (2 ^ L))) hr (mul_kinv _ hr.ne_zero) v hv (fun k => kinv (x - Fm.kpow (rootK f L) k)) hd
  refine Eq.trans (sm_congr fun k hk => ?_) h
  unfold wts
  rw [ofF_getD, if_pos hk]
  unfold wt
  rw [kinv_fm (nK f (2 ^ L)), nn_nK]

variable (hf : IsF f)
include hf
end

end Go.Proofs.YtfbfbijkkbflkaaGreatDoor

namespace Go.Proofs.YtfbfbijkkbflkaaGreatDoor
open Go.RowKit Fm
set_option linter.unusedVariables false
set_option maxRecDepth 100000

section
variable {f : Nat}
theorem padTo_getD (L : Nat) (l : KL f) (i : Nat) : (padTo L l).getD i 0 = l.getD i 0 := by
  unfold padTo
  rw [List.getD_eq_getElem?_getD, List.getD_eq_getElem?_getD]
  by_cases hi : i < l.length
  · rw [List.getElem?_append_left hi]
  · rw [List.getElem?_append_right (by omega), List.getElem?_eq_none (l := l) (by omega)]
    by_cases h2 : i - l.length < 2 ^ L - l.length
    · rw [List.getElem?_replicate, if_pos h2]
      rfl
    · rw [List.getElem?_replicate, if_neg h2]
end

end Go.Proofs.YtfbfbijkkbflkaaGreatDoor

namespace Go.Proofs.YtfbfbijkkbflkaaGreatDoor
open Go.RowKit Fm
set_option linter.unusedVariables false
set_option maxRecDepth 100000

section
variable {f : Nat} (hf : IsF f)
include hf

set_option maxHeartbeats 4000000 in
theorem query_closure (E : Nat → Prop) (wE : World) (pb cb fb qb tb wb sz : Nat) (vp vt : Value) (P T : KL f) (hC : CapQ E wE pb fb qb tb wb vp vt P T) (hcE : ¬ E cb)
    (lsOf : Nat → List (KL f)) (k : Nat) (l : KL f) (hlen : ∀ (i : Nat) (x : KL f), (lsOf k)[i]? = some x → x.length = k + 1) (hk : k + 1 < sz) (hsz : sz ≤ 4096) (hll : (lsOf k).length = l.length) (ha1 : 1 ≤ l.length) (ha2 : l.length ≤ 32) (hstep : apn (lsOf k) l (lsOf k).length = lsOf (k + 1))
    (hP : P.length ≤ 100000) (x : Fin (Pm f)) (hx : T[k + 1]? = some x)
    (D : Nat → Prop) (w : World) (va : Value) (hst : St (InvQ wb sz cb E wE lsOf k) D w) (hl : SlX D w va l) :
    Calls Tryz.prog 65 #[va, .pointer (some ⟨pb, 0, none⟩), .pointer (some ⟨cb, 0, none⟩), .pointer (some ⟨fb, 0, none⟩), .pointer (some ⟨qb, 0, none⟩), .pointer (some ⟨tb, 0, none⟩)] w fun e w' => e = .returned (.tuple #[vK (horner x P), .int .i64 0]) ∧
      ∃ D', St (InvQ wb sz cb E wE lsOf (k + 1)) D' w' ∧ (∀ q, D' q → D q ∨ w.heap.size ≤ q) ∧ Exc D w.heap.size w w' := by
  obtain ⟨lb, cp, vs, hW, hDD, hEW, hAg, hcc⟩ := hst.here
  have hWD : ∀ q, WrD wb lb vs q → D q := fun q hq => (hDD q).2 (.inl hq)
  have hltE := hC.lt
  have hcD : D cb := (hDD cb).2 (.inr (.inl rfl))
  have hcW : ¬ WrD wb lb vs cb := hEW cb (.inl rfl)
  have HASK : Hid (∀ wz, Below w.heap.size w wz → Calls Tryz.prog 66 #[.pointer (some ⟨wb, 0, none⟩), va] wz (RetAsk wb lb cp sz vs (lsOf k) l wz)) := fun wz hb => proof_ask wb lb cp sz k vs (lsOf k) l va wz (hW.call hb) hlen hk hsz ((hl.call hb).set fun b hb => .inl (hWD b hb)) hll.symm (by omega) (by omega)
  obtain ⟨z, hz⟩ : ∃ z, horner x P = z := ⟨_, rfl⟩
  have HAT : Hid (∀ wz, SlK wz wz.heap.size vp P → Calls Tryz.prog 67 #[.int .u8 f, vp, .agg #[.int .u64 (lo x), .int .u64 (hi x)]] wz (RetK z wz)) := fun wz hs => by
    rw [← hz]
    exact poly_At hf vp P x wz hs (by omega)
  rw [hz]
  obtain ⟨h1, h2, h3, h4, h5, h6⟩ := hC.at hAg
  have HCC := Lib.hid hC
  have HAG := Lib.hid hAg
  have HST := Lib.hid hst
  have HSL := Lib.hid hl
  have HW := Lib.hid hW
  have HD := Lib.hid hDD
  have HEW := Lib.hid hEW
  have HSTEP := Lib.hid hstep
  have HLT := Lib.hid hltE
  have HWD := Lib.hid hWD
  have HCV := Lib.hid hcc
  have HCD := Lib.hid hcD
  have HCW := Lib.hid hcW
  have HCE := Lib.hid hcE
  have HX := Lib.hid hx
  have hk4 : k ≤ 4096 := by omega
  obtain ⟨A, cl, cc, rfl⟩ : ∃ (A : Option Addr) (a c : Nat), va = .slice A a c := hl.isSl
  obtain ⟨A2, c2, rfl, _, _, _⟩ := id h5
  obtain ⟨A3, c3, rfl, hc31, hc32, hA3⟩ := id h6
  obtain ⟨b3, o3, rfl, _, _⟩ := hA3 (by have := (List.getElem?_eq_some_iff.1 hx).1; omega)
  have hkT : (k : Int) + 1 < (T.length : Int) := by have := (List.getElem?_eq_some_iff.1 hx).1; omega
  have hkT0 : (0 : Int) ≤ (k : Int) + 1 := by omega
  clear hz hll ha1 ha2 hstep hk hsz hlen hst hl hW hDD hEW hAg hC h1 h2 h3 h4 h5 h6 hltE hWD hcc hcD hcW hcE hx hA3
  go_enter Tryz.func65, Tryz.ntmps65
  go_upto_region 1 with fail
  have s0 := V2.new w (.int .u64 0) (.int .u64 0) 36
  have hbA : Below w.heap.size w (w.alloc (.cells #[.int .u64 0, .int .u64 0] 36)) := (Below.refl _ _).alloc (Nat.le_refl _) _
  have hsz1 : (w.alloc (.cells #[.int .u64 0, .int .u64 0] 36)).heap.size = w.heap.size + 1 := World.size_alloc _ _
  generalize w.alloc (.cells #[.int .u64 0, .int .u64 0] 36) = w1 at s0 hbA hsz1 ⊢
  have hAg1 : Agr E wE w1 := HAG.out.exc (S := fun _ => False) (exc_of hbA) (fun q _ h => h) HLT.out
  have hs0 : ¬ WrD wb lb vs w.heap.size := fun h => by have := HW.out.lt _ h; omega
  have hc1 := HCV.out.call hbA
  have hcl : cb < w.heap.size := HCV.out.lt
  obtain ⟨p0, p1, p2⟩ := (HCC.out.at hAg1).1.get1
  have HAG1 := Lib.hid hAg1
  have HS0 := Lib.hid hs0
  have HS1 := Lib.hid hsz1
  have HBA := Lib.hid hbA
  have HV0 := Lib.hid s0
  have HC1 := Lib.hid hc1
  clear hAg1 hs0 hsz1 hbA s0 hc1
  go_upto_region 2 with (go_at_call 66; refine (HASK.out _ HBA.out).mono ?_; rintro e w2 ⟨rfl, us, hW2, hD2, hE2⟩; clear p0 p1 p2)
  have hAg2 : Agr E wE w2 := HAG1.out.exc hE2 (fun q hq => HEW.out q (.inr hq)) HLT.out
  have hE02 : Exc D w.heap.size w w2 := (exc_of HBA.out).more hE2 (fun q hq => .inl (HWD.out q hq))
  have hv2 : V2 w2 w.heap.size (.int .u64 0) (.int .u64 0) := HV0.out.exc HS0.out hE2
  have hc2 : Vs w2 cb [.int .i64 (k : Nat)] := HC1.out.exc HCW.out hE2
  have hs12 := hE2.size
  have hs1 := HS1.out
  have hcW2 : ¬ WrD wb lb us cb := fun h => (hD2 cb h).elim HCW.out (fun h => by omega)
  -- the count of calls goes up
  obtain ⟨c0, c1, c2⟩ := hc2.get1
  have hw1 : IntKind.i64.wrap ((k : Int) + 1) = (k : Int) + 1 := IntWalk.i64_in _ (by omega)
  have HV2 := Lib.hid hv2
  have HC2 := Lib.hid hc2
  have HE02 := Lib.hid hE02
  have HAG2 := Lib.hid hAg2
  have HW2 := Lib.hid hW2
  have HD2 := Lib.hid hD2
  have HCW2 := Lib.hid hcW2
  have HS12' := Lib.hid hs12
  have HS12 := Lib.hid hs12
  clear hv2 hc2 hE02 hAg2 hW2 hD2 hE2 hcW2 hs12 hs1
  go_upto_region 5 with fail
  have hc3 : Vs (w2.setCell ⟨cb, 0, none⟩ (.int .i64 ((k : Int) + 1))) cb [.int .i64 ((k + 1 : Nat) : Int)] := HC2.out.put 0 (by simp) _
  have hE3 : Exc D w.heap.size w (w2.setCell ⟨cb, 0, none⟩ (.int .i64 ((k : Int) + 1))) := HE02.out.trans ⟨rfl, rfl, rfl, by simp [World.setCell], fun q hq hn => Below.heap_setCell _ _ _ _ (fun e => hn (e ▸ HCD.out))⟩
  have hAg3 : Agr E wE (w2.setCell ⟨cb, 0, none⟩ (.int .i64 ((k : Int) + 1))) := fun q hq => (Below.heap_setCell _ _ _ _ (fun e => HCE.out (by have e2 : q = cb := e; rw [← e2]; exact hq))).trans (HAG2.out q hq)
  have hW3 : WrI wb lb cp sz us (apn (lsOf k) l (lsOf k).length) (w2.setCell ⟨cb, 0, none⟩ (.int .i64 ((k : Int) + 1))) := HW2.out.same fun q hq => Below.heap_setCell _ _ _ _ (fun e => HCW2.out (by have e2 : q = cb := e; rw [← e2]; exact hq))
  have hv3 : V2 (w2.setCell ⟨cb, 0, none⟩ (.int .i64 ((k : Int) + 1))) w.heap.size (.int .u64 0) (.int .u64 0) := ((Vs.of2 HV2.out).far (p := ⟨cb, 0, none⟩) (by dsimp only; omega) _).to2
  have hs3 : w1.heap.size ≤ (w2.setCell ⟨cb, 0, none⟩ (.int .i64 ((k : Int) + 1))).heap.size := by
    have := HS12.out
    simpa [World.setCell] using this
  generalize w2.setCell ⟨cb, 0, none⟩ (.int .i64 ((k : Int) + 1)) = w3 at *
  clear c0 c1 c2
  obtain ⟨h1, hff, hqq, htt, hsp, hst⟩ := HCC.out.at hAg3
  obtain ⟨d3, d4, d5⟩ := hst.cells HX.out
  have HSP := Lib.hid hsp
  have HC3 := Lib.hid hc3
  have HV3 := Lib.hid hv3
  have HE3 := Lib.hid hE3
  have HAG3 := Lib.hid hAg3
  have HW3 := Lib.hid hW3
  have hc3l := hc3.lt
  have hc3c : w3.cell? ⟨cb, 0, none⟩ = some (.int .i64 ((k : Int) + 1)) := hc3.get1.1
  have hc3f := hc3.get1.2.1
  clear h1 hsp hst hE3 hAg3 hW3 hc3
  obtain ⟨ff0, ff1, ff2⟩ := hff.get1
  obtain ⟨qq0, qq1, qq2⟩ := hqq.get1
  obtain ⟨tt0, tt1, tt2⟩ := htt.get1
  refine region_B (n := 7) (m := 9) (f := 7) (by kernel_rfl) (by kernel_rfl) rfl ?_
  refine WpH.takeD 0 (some 19) (v := ?_) rfl rfl (by kernel_rfl) (fun _ _ _ h => h) (.val rfl (fun wz hwz => ?_)) ?_
  rotate_left
  · (obtain ⟨hcz, hfz⟩ := bcell hwz; go_simp; try (with_reducible rfl))
  simp only [Act.put, List.setIfInBounds_toArray, List.set_cons_succ, List.set_cons_zero]
  refine WpH.takeD 1 (some 20) (v := ?_) rfl rfl (by kernel_rfl) (fun _ _ _ h => h) (.val rfl (fun wz hwz => ?_)) ?_
  rotate_left
  · (obtain ⟨hcz, hfz⟩ := bcell hwz; go_simp; try (with_reducible rfl))
  simp only [Act.put, List.setIfInBounds_toArray, List.set_cons_succ, List.set_cons_zero]
  refine WpH.takeD 2 (some 21) (v := ?_) rfl rfl (by kernel_rfl) (fun _ _ _ h => h) (.val rfl (fun wz hwz => ?_)) ?_
  rotate_left
  · (obtain ⟨hcz, hfz⟩ := bcell hwz; go_simp; try (with_reducible rfl))
  simp only [Act.put, List.setIfInBounds_toArray, List.set_cons_succ, List.set_cons_zero]
  refine WpH.takeD 3 (some 22) (v := ?_) rfl rfl (by kernel_rfl) (fun _ _ _ h => h) (.val rfl (fun wz hwz => ?_)) ?_
  rotate_left
  · (obtain ⟨hcz, hfz⟩ := bcell hwz; go_simp; try (with_reducible rfl))
  simp only [Act.put, List.setIfInBounds_toArray, List.set_cons_succ, List.set_cons_zero]
  refine WpH.takeD 4 (some 23) (v := ?_) rfl rfl (by kernel_rfl) (fun _ _ _ h => h) (.val rfl (fun wz hwz => ?_)) ?_
  rotate_left
  · go_simp; try (with_reducible rfl)
  simp only [Act.put, List.setIfInBounds_toArray, List.set_cons_succ, List.set_cons_zero]
  refine WpH.takeD 5 (some 24) (v := ?_) rfl rfl (by kernel_rfl) (fun _ _ _ h => h) (.val rfl (fun wz hwz => ?_)) ?_
  rotate_left
  · (obtain ⟨hcz, hfz⟩ := bcell hwz; go_simp; try (with_reducible rfl))
  simp only [Act.put, List.setIfInBounds_toArray, List.set_cons_succ, List.set_cons_zero]
  refine WpH.takeD 6 (some 25) rfl rfl (by kernel_rfl) (fun _ _ _ h => h) (.call rfl (fun wz hwz => HAT.out wz (HSP.out.later hwz)) (fun wz hwz => ?_)) ?_
  · go_simp; try (with_reducible rfl)
  simp only [Act.put, List.setIfInBounds_toArray, List.set_cons_succ, List.set_cons_zero]
  refine WpH.doneB (by kernel_rfl) (fun w4 hw4 => ?_)
  (try simp only [List.drop_succ_cons]); (try simp only [List.drop_zero]); (try simp only [Nat.reduceSub]); (try simp only [List.take_succ_cons]); (try simp only [List.take_zero])
  have HB4 := Lib.hid hw4
  obtain ⟨t0, t1, t2, t3, t4⟩ := HV3.out.call hw4
  clear hw4
  go_wp2_with fail
  have hs1 := HS1.out
  have hs12 := HS12.out
  have hcl9 : cb < w.heap.size := HCV.out.lt
  have hlw : ∀ q, WrD wb lb us q → q ≠ w.heap.size := fun q hq e => by
    rcases HD2.out q hq with h | h
    · exact HS0.out (e ▸ h)
    · omega
  have hlE : ∀ q, E q → q < w.heap.size := fun q hq => HAG.out.lt hq (HLT.out q hq)
  refine bodyPost_ret (results_v2_tmp (b := w.heap.size) (u := .int .u64 (lo z)) (v := .int .u64 (hi z)) ?_ rfl rfl) rfl ?_
  · exact V2.set ⟨t0, t1, t2, t3, t4⟩ _ _
  · have hc4 := (HC3.out.call HB4.out)
    refine ⟨rfl, fun q => WrD wb lb us q ∨ (q = cb ∨ E q), InvQ.st ⟨lb, cp, us, ?_, fun q => Iff.rfl, ?_, ?_, ?_⟩ HLT.out, ?_, ?_⟩
    · rw [← HSTEP.out]
      exact (HW3.out.call HB4.out).same fun q hq => (Below.heap_setCell _ _ _ _ (hlw q hq)).trans (Below.heap_setCell _ _ _ _ (hlw q hq))
    · rintro q (rfl | hq) hw
      · exact HCW2.out hw
      · exact (HD2.out q hw).elim (HEW.out q (.inr hq)) (fun h => by have := hlE q hq; omega)
    · intro q hq
      have h0 : q ≠ w.heap.size := Nat.ne_of_lt (hlE q hq)
      exact ((Below.heap_setCell _ _ _ _ h0).trans (Below.heap_setCell _ _ _ _ h0)).trans ((HB4.out.block q (HAG3.out.lt hq (HLT.out q hq))).trans (HAG3.out q hq))
    · exact ((hc4.far (p := ⟨w.heap.size, 0, none⟩) (by dsimp only; omega) _).far (p := ⟨w.heap.size, 1, none⟩) (by dsimp only; omega) _)
    · rintro q (hq | rfl | hq)
      · exact (HD2.out q hq).imp (HWD.out q) (fun h => by omega)
      · exact .inl HCD.out
      · exact .inl ((HD.out q).2 (.inr (.inr hq)))
    · exact (HE3.out.call HB4.out).st (Nat.le_refl _) _ _
end

end Go.Proofs.YtfbfbijkkbflkaaGreatDoor

namespace Go.Proofs.YtfbfbijkkbflkaaGreatDoor
open Go.RowKit Fm
set_option linter.unusedVariables false
set_option maxRecDepth 100000

section
variable {f : Nat}
def ansQ (L : Nat) (P : KL f) (k : Nat) : Fin (Pm f) := ev (Fm.kpow (rootK f L) (k + 1)) P
def qryL (y : CK) (L : Nat) (v j : KL f) (part : Fin (Pm f)) (p : KL f) (x : Fin (Pm f)) : KL f :=
  runF y v j part (ansQ L (p.drop y.arity)) :: ((polysA L (p.take y.arity) (argOf y v j part) y.calls y.arity).map (ev x) ++ [ev x (p.drop y.arity)])
theorem qryL_length (y : CK) (L : Nat) (v j : KL f) (part : Fin (Pm f)) (p : KL f) (x : Fin (Pm f)) : (qryL y L v j part p x).length = y.arity + 2 := by
  unfold qryL
  rw [List.length_cons, List.length_append, List.length_map, polysA_length]
  rfl
def RetQy (y : CK) (L : Nat) (v j : KL f) (part : Fin (Pm f)) (p : KL f) (x : Fin (Pm f)) (w : World) (e : Ending) (w' : World) : Prop :=
  (Fm.kpow x (2 ^ L) = 1 ∧ RetE9 12 w e w') ∨ (Fm.kpow x (2 ^ L) ≠ 1 ∧ RetSq0 (qryL y L v j part p x) w e w')
theorem pows_get (x : Fin (Pm f)) (n k : Nat) (h : k < n) : (pows x n)[k]? = some (Fm.kpow x k) := by
  unfold pows ofF
  rw [List.getElem?_map, List.getElem?_range h]
  rfl
end

section
variable {f : Nat} (hf : IsF f)
include hf
theorem asked_query (y : CK) (hy : y.ok) (hcl : y.calls ≤ 511) (v j seeds P : KL f) (part : Fin (Pm f)) (L : Nat) (hN : nextP (y.calls + 1) = 2 ^ L) (E : Nat → Prop) (wE : World) (pb cb fb qb tb wb : Nat) (vp vt : Value)
    (hC : CapQ E wE pb fb qb tb wb vp vt P (pows (rootK f L) (2 ^ L))) (hcE : ¬ E cb) (hP : P.length ≤ 100000) :
    Asked y v j part 65 #[.pointer (some ⟨pb, 0, none⟩), .pointer (some ⟨cb, 0, none⟩), .pointer (some ⟨fb, 0, none⟩), .pointer (some ⟨qb, 0, none⟩), .pointer (some ⟨tb, 0, none⟩)] (InvQ wb (2 ^ L) cb E wE (linesA seeds (argOf y v j part) y.arity)) (ansQ L P) 0 := by
  refine ⟨fun args w => by kernel_rfl, fun k D w va hk hst hv => ?_⟩
  obtain ⟨L', hL', hN', hN2⟩ := nextP_pow (y.calls + 1) (by omega)
  have hN4 := (nextP_le (y.calls + 1)).2
  have hal := CK.arity_le hy
  have hga := gad_arity f y
  have harg := argOf_lenP y v j part k
  have hk2 : k + 1 < 2 ^ L := by rw [← hN, hN']; omega
  exact query_closure hf E wE pb cb fb qb tb wb (2 ^ L) vp vt P _ hC hcE _ k (argOf y v j part k) (fun i x h => linesA_at _ _ _ _ _ _ h) hk2 (by omega) (by rw [linesA_length, harg, hga]) (by rw [harg, hga]; exact hal.1) (by rw [harg, hga]; exact hal.2) (linesA_step _ _ _ _) hP _ (pows_get _ _ _ hk2) D w va hst hv
end

/-! ### c.Field and c.Gadget() are laid in two variables -/
/-! ### the wires begin, and a variable for them -/
def QbT (w0 : World) (o1 : Option (Nat × Nat × Nat × List Value)) (o2 : Option Nat) (wz : World) : Prop := Below w0.heap.size w0 wz
end Go.Proofs.YtfbfbijkkbflkaaGreatDoor

namespace Go.Proofs.YtfbfbijkkbflkaaGreatDoor
open Go Go.RowKit
set_option linter.unusedVariables false

section
variable {P : Program} {ops : Array Oper} {Q : Exit → Act → World → Prop} {md : Region.Mode} {n m : Nat} {L : Act → World → Prop} {f : Nat} {listed : Array Bool} {a : Act} {T S : World → Prop}
variable {L' : Act → World → Prop}
theorem region_Z2 {id n m f : Nat} {l : List Oper} {a : Act} {w : World} {α β : Type} (R : α → β → World → Prop) (T S : World → Prop) (hST : ∀ w, S w → T w) (hC : Clo S) (hS : S w.drew) {E : α → β → Act} (hm : P.follows .mixedOrders = true) (hB : partsB .any l.toArray n m (Array.replicate l.length false) = true) (hf : f + (m - n) = l.length)
    (h : WpX P .any l.toArray Q n m (fun a w => ∃ x y, a = E x y ∧ R x y w) f (Array.replicate l.length false) a T S)
    (hc : ∀ x y w', R x y w' → wpList P l.toArray Q ((l.drop n).take (m - n)) (E x y) w') : (Code.region id l.toArray true).wp P Q a w :=
  region_X T S hST hC hS hm hB hf (h.monoZ fun _ w ⟨x, y, e, hr⟩ => e ▸ hc x y w hr)
end

end Go.Proofs.YtfbfbijkkbflkaaGreatDoor

namespace Go.Proofs.YtfbfbijkkbflkaaGreatDoor
open Go.RowKit Fm
set_option linter.unusedVariables false
set_option maxRecDepth 100000

def RetV (f n : Nat) (w : World) (e : Ending) (w' : World) : Prop :=
  ∃ (g : Nat) (zs : KL f), zs.length = n ∧ e = .returned (.slice (some ⟨g, 0, none⟩) n n) ∧ BlkE w' g (esK zs) ∧ w.heap.size ≤ g ∧ Below w.heap.size w w'

theorem fill_put {f : Nat} (zs : KL f) (n k : Nat) (hz : zs.length = k) (hk : k < n) (y : Fin (Pm f)) (a b : Int) (hy : eK y = (a, b)) :
    (esK zs ++ List.replicate (n - k) ((0, 0) : E)).set k (a, b) = esK (zs ++ [y]) ++ List.replicate (n - (k + 1)) (0, 0) := by
  have hl : (esK zs).length = k := by rw [esK_length, hz]
  rw [List.set_append_right _ _ (by rw [hl]; exact Nat.le_refl _), hl, Nat.sub_self, show n - k = (n - (k + 1)) + 1 by omega, List.replicate_succ, List.set_cons_zero, esK_append, esK_cons, esK_nil, hy, List.append_assoc]
  rfl
theorem fill_none {f : Nat} (zs : KL f) (n k : Nat) (hk : k < n) :
    esK zs ++ List.replicate (n - k) ((0, 0) : E) = esK (zs ++ [(0 : Fin (Pm f))]) ++ List.replicate (n - (k + 1)) (0, 0) := by
  rw [show n - k = (n - (k + 1)) + 1 by omega, List.replicate_succ, esK_append, esK_cons, esK_nil, eK_zero, List.append_assoc]
  rfl
section
variable {f : Nat} (hf : IsF f)
include hf

set_option maxHeartbeats 8000000 in
theorem law10_Vector (y : CK) (hy : y.ok) (vl : Value) (l : List E) (sm : Bool) (w : World) (hl : SlE w w.heap.size vl l) (hl60 : l.length ≤ 60) :
    Calls Tryz.prog 12 #[y.val f, vl, .bool sm] w (RetV f y.nin w) := by
  have HI := Lib.hid (fun wz => circuit_In f y hy wz)
  have hnin := CK.nin_le hy
  obtain ⟨⟨A, c, rfl, hlc, hcm, hA⟩, hok⟩ := hl
  have hfb0 : (1 : Int) ≤ (f : Int) := by rcases hf.or with rfl | rfl <;> omega
  have hfb1 : (f : Int) ≤ 2 := by rcases hf.or with rfl | rfl <;> omega
  unfold CK.val at HI ⊢
  obtain ⟨K, hK⟩ : ∃ K : Int, ((y.k : Nat) : Int) = K := ⟨_, rfl⟩
  obtain ⟨B, hB⟩ : ∃ K : Int, ((y.b : Nat) : Int) = K := ⟨_, rfl⟩
  obtain ⟨N, hN⟩ : ∃ K : Int, ((y.l : Nat) : Int) = K := ⟨_, rfl⟩
  obtain ⟨M, hM⟩ : ∃ K : Int, ((y.m : Nat) : Int) = K := ⟨_, rfl⟩
  obtain ⟨C, hC⟩ : ∃ K : Int, ((y.c : Nat) : Int) = K := ⟨_, rfl⟩
  rw [hK, hB, hN, hM, hC] at HI ⊢
  clear hK hB hN hM hC hy
  generalize y.nin = n at *
  have hmk := make_elem n (by omega)
  have hb00 : Below w.heap.size w w := Below.refl _ _
  go_enter Tryz.func12, Tryz.ntmps12
  go_upto_region 1 with fail
  have hx := Vs.new w [.int .u8 K, .int .u8 f, .int .i64 B, .int .i64 N, .int .i64 M, .int .i64 C] #[.int .u8 K, .int .u8 f, .int .i64 B, .int .i64 N, .int .i64 M, .int .i64 C] 30 rfl
  have hbA : Below w.heap.size w (w.alloc (.cells #[.int .u8 K, .int .u8 f, .int .i64 B, .int .i64 N, .int .i64 M, .int .i64 C] 30)) := by repeat (first | exact Below.refl _ _ | with_reducible assumption | (refine bl_alloc ?_ (Nat.le_refl _) _))
  replace hb00 := bl_call hb00 (Nat.le_refl _) hbA
  clear hbA
  generalize w.alloc (.cells #[.int .u8 K, .int .u8 f, .int .i64 B, .int .i64 N, .int .i64 M, .int .i64 C] 30) = w1 at hb00 hx ⊢
  obtain ⟨⟨x0, x1, x2, x3, x4, x5⟩, ⟨x6, x7, x8, x9, x10, x11⟩, x12⟩ := hx.get6
  go_upto_region 2 with (first
    | (go_at_call 42; refine (HI.out _).mono ?_; rintro e w2 ⟨rfl, hb2⟩; replace hb00 := bl_call hb00 (Nat.le_refl _) hb2; replace hx := hx.call hb2; obtain ⟨⟨x0, x1, x2, x3, x4, x5⟩, ⟨x6, x7, x8, x9, x10, x11⟩, x12⟩ := hx.get6))
  have hBk : BlkE (w2.alloc (.cells (cellsE (List.replicate n (0, 0))).toArray 36)) w2.heap.size (List.replicate n (0, 0)) := heap_alloc_new w2 _
  have hbA : Below w2.heap.size w2 (w2.alloc (.cells (cellsE (List.replicate n (0, 0))).toArray 36)) := by repeat (first | exact Below.refl _ _ | with_reducible assumption | (refine bl_alloc ?_ (Nat.le_refl _) _) | (refine bl_set ?_ (by dsimp only; omega) _) | (refine Below.drew ?_) | (refine bl_drewN ?_ _) | (refine bl_call ?_ (Nat.le_refl _) (by assumption)))
  have hgx : w.heap.size < w2.heap.size := hx.lt
  clear x0 x1 x2 x3 x4 x5 x6 x7 x8 x9 x10 x11 x12
  replace hb00 := bl_call hb00 (Nat.le_refl _) hbA
  replace hx := hx.call hbA
  clear hbA hb2
  obtain ⟨g, hg⟩ : ∃ g, w2.heap.size = g := ⟨_, rfl⟩
  rw [hg] at hBk hgx ⊢
  generalize w2.alloc (.cells (cellsE (List.replicate n (0, 0))).toArray 36) = w3 at hBk hx hb00 ⊢
  clear hg hmk HI
  go_wp2_with fail
  go_loopw [14] (fun i wr => ∃ (k : Nat) (zs : KL f), zs.length = k ∧ k ≤ n ∧ i = .int .i64 k ∧ BlkE wr g (esK zs ++ List.replicate (n - k) (0, 0)) ∧ Vs wr w.heap.size [.int .u8 K, .int .u8 f, .int .i64 B, .int .i64 N, .int .i64 M, .int .i64 C] ∧ Below w.heap.size w wr) (fun i _ => n - (intOf i).toNat)
  case atStart => exact ⟨0, [], rfl, Nat.zero_le _, rfl, hBk, hx, hb00⟩
  case round =>
    clear hBk hx hb00
    obtain ⟨k, zs, hzl, hk, rfl, hBk, hx, hbw⟩ := hrel
    obtain ⟨⟨x0, x1, x2, x3, x4, x5⟩, ⟨x6, x7, x8, x9, x10, x11⟩, x12⟩ := hx.get6
    have HZ := Lib.hid hzl
    clear hzl
    by_cases hlt : k < n
    · by_cases hl0 : l.length = 0
      · rw [fill_none zs n k hlt] at hBk
        have HBK := Lib.hid hBk
        clear hBk hA
        go_wp2
        go_roundw
        case rel => exact ⟨k + 1, zs ++ [0], (by rw [List.length_append, HZ.out]; rfl), by omega, by go_num, HBK.out, hx, hbw⟩
        case measure => simp [intOf]; omega
      · obtain ⟨b, o, rfl, hBl, hr⟩ := hA (by omega)
        have hjm : k % l.length < l.length := Nat.mod_lt _ (by omega)
        obtain ⟨⟨e0, e1⟩, he⟩ : ∃ e, l[k % l.length]? = some e := ⟨_, List.getElem?_eq_getElem hjm⟩
        obtain ⟨h0, h1, h2, h3⟩ := hok _ (List.mem_of_getElem? he)
        obtain ⟨c0, c1⟩ := (hr.below hbw hBl) _ _ he
        dsimp only at h0 h1 h2 h3 c0 c1
        have hbl : b < wr.heap.size := Nat.lt_of_lt_of_le hBl hbw.size
        have HO := Lib.hid (fun wz => ref_OfL hf e0 e1 wz h0 h1 h2 h3)
        obtain ⟨x, hxx⟩ : ∃ x, kL f e0 e1 = x := ⟨_, rfl⟩
        rw [hxx] at HO
        have hjn : 0 ≤ (k : Int) % (l.length : Int) := Int.emod_nonneg _ (by omega)
        have hjl : (k : Int) % (l.length : Int) < (l.length : Int) := Int.emod_lt_of_pos _ (by omega)
        have hjt : ((k : Int) % (l.length : Int)).toNat = k % l.length := by rw [← Int.natCast_emod, Int.toNat_natCast]
        have hjd : (k : Int).tmod (l.length : Int) = (k : Int) % (l.length : Int) := Int.tmod_eq_emod_of_nonneg (by omega)
        have hgl : g < wr.heap.size := hBk.lt
        have hl9 : ¬ (l.length = 0) := hl0
        have hwf : IntKind.i64.wrap (f : Int) = (f : Int) := IntWalk.i64_in _ (by omega)
        clear he hr hA hxx
        go_upto_region 6 with fail
        refine region_B (n := 14) (m := 15) (f := 14) (by kernel_rfl) (by kernel_rfl) rfl ?_
        refine WpH.takeD 0 (some 20) (v := ?_) rfl rfl (by kernel_rfl) (fun _ _ _ h => h) (.val rfl (fun wz hwz => ?_)) ?_
        rotate_left
        · go_simp; try (with_reducible rfl)
        simp only [Act.put, List.setIfInBounds_toArray, List.set_cons_succ, List.set_cons_zero]
        refine WpH.takeD 1 (some 21) (v := ?_) rfl rfl (by kernel_rfl) (fun _ _ _ h => h) (.val rfl (fun wz hwz => ?_)) ?_
        rotate_left
        · go_simp; try (with_reducible rfl)
        simp only [Act.put, List.setIfInBounds_toArray, List.set_cons_succ, List.set_cons_zero]
        refine WpH.takeD 2 (some 22) (v := ?_) rfl rfl (by kernel_rfl) (fun _ _ _ h => h) (.val rfl (fun wz hwz => ?_)) ?_
        rotate_left
        · go_simp; try (with_reducible rfl)
        simp only [Act.put, List.setIfInBounds_toArray, List.set_cons_succ, List.set_cons_zero]
        refine WpH.takeD 3 (some 23) (v := ?_) rfl rfl (by kernel_rfl) (fun _ _ _ h => h) (.val rfl (fun wz hwz => ?_)) ?_
        rotate_left
        · (obtain ⟨hcz, hfz⟩ := bcell hwz; go_simp; try (with_reducible rfl))
        simp only [Act.put, List.setIfInBounds_toArray, List.set_cons_succ, List.set_cons_zero]
        refine WpH.takeD 4 (some 24) (v := ?_) rfl rfl (by kernel_rfl) (fun _ _ _ h => h) (.val rfl (fun wz hwz => ?_)) ?_
        rotate_left
        · go_simp; try (with_reducible rfl)
        simp only [Act.put, List.setIfInBounds_toArray, List.set_cons_succ, List.set_cons_zero]
        refine WpH.takeD 5 (some 25) (v := ?_) rfl rfl (by kernel_rfl) (fun _ _ _ h => h) (.val rfl (fun wz hwz => ?_)) ?_
        rotate_left
        · go_simp; try (with_reducible rfl)
        simp only [Act.put, List.setIfInBounds_toArray, List.set_cons_succ, List.set_cons_zero]
        refine WpH.takeD 6 (some 26) (v := ?_) rfl rfl (by kernel_rfl) (fun _ _ _ h => h) (.val rfl (fun wz hwz => ?_)) ?_
        rotate_left
        · go_simp; try (with_reducible rfl)
        simp only [Act.put, List.setIfInBounds_toArray, List.set_cons_succ, List.set_cons_zero]
        refine WpH.takeD 7 (some 27) (v := ?_) rfl rfl (by kernel_rfl) (fun _ _ _ h => h) (.val rfl (fun wz hwz => ?_)) ?_
        rotate_left
        · go_simp; try (with_reducible rfl)
        simp only [Act.put, List.setIfInBounds_toArray, List.set_cons_succ, List.set_cons_zero]
        refine WpH.takeD 8 (some 28) (v := ?_) rfl rfl (by kernel_rfl) (fun _ _ _ h => h) (.val rfl (fun wz hwz => ?_)) ?_
        rotate_left
        · go_simp; try (with_reducible rfl)
        simp only [Act.put, List.setIfInBounds_toArray, List.set_cons_succ, List.set_cons_zero]
        refine WpH.takeD 9 (some 29) (v := ?_) rfl rfl (by kernel_rfl) (fun _ _ _ h => h) (.val rfl (fun wz hwz => ?_)) ?_
        rotate_left
        · go_simp; try (with_reducible rfl)
        simp only [Act.put, List.setIfInBounds_toArray, List.set_cons_succ, List.set_cons_zero]
        refine WpH.takeD 10 (some 30) (v := ?_) rfl rfl (by kernel_rfl) (fun _ _ _ h => h) (.val rfl (fun wz hwz => ?_)) ?_
        rotate_left
        · go_simp; try (with_reducible rfl)
        simp only [Act.put, List.setIfInBounds_toArray, List.set_cons_succ, List.set_cons_zero]
        refine WpH.takeD 11 (some 31) (v := ?_) rfl rfl (by kernel_rfl) (fun _ _ _ h => h) (.val rfl (fun wz hwz => ?_)) ?_
        rotate_left
        · (obtain ⟨hcz, hfz⟩ := bcell hwz; go_simp; try (with_reducible rfl))
        simp only [Act.put, List.setIfInBounds_toArray, List.set_cons_succ, List.set_cons_zero]
        refine WpH.takeD 12 (some 32) rfl rfl (by kernel_rfl) (fun _ _ _ h => h) (.call rfl (fun wz hwz => HO.out wz) (fun wz hwz => ?_)) ?_
        · go_simp; try (with_reducible rfl)
        simp only [Act.put, List.setIfInBounds_toArray, List.set_cons_succ, List.set_cons_zero]
        refine WpH.takeD 13 (some 33) (v := ?_) rfl rfl (by kernel_rfl) (fun _ _ _ h => h) (.val rfl (fun wz hwz => ?_)) ?_
        rotate_left
        · go_simp; try (with_reducible rfl)
        simp only [Act.put, List.setIfInBounds_toArray, List.set_cons_succ, List.set_cons_zero]
        refine WpH.doneB (by kernel_rfl) (fun w6 hw6 => ?_)
        (try simp only [List.drop_succ_cons]); (try simp only [List.drop_zero]); (try simp only [Nat.reduceSub]); (try simp only [List.take_succ_cons]); (try simp only [List.take_zero])
        replace hBk := hBk.call hw6
        clear x0 x1 x2 x3 x4 x5 x6 x7 x8 x9 x10 x11 x12
        replace hbw := bl_call hbw (Nat.le_refl _) hw6
        replace hx := hx.call hw6
        obtain ⟨⟨x0, x1, x2, x3, x4, x5⟩, ⟨x6, x7, x8, x9, x10, x11⟩, x12⟩ := hx.get6
        have hzk : ∃ u v : Value, w6.cell? ⟨g, k * 2, none⟩ = some u ∧ w6.cell? ⟨g, k * 2 + 1, none⟩ = some v := by
          have hlen : k < (esK zs ++ List.replicate (n - k) ((0, 0) : E)).length := by
            rw [List.length_append, List.length_replicate, esK_length, HZ.out]
            omega
          obtain ⟨e1, e2⟩ := hBk.row k _ (List.getElem?_eq_getElem hlen)
          exact ⟨_, _, e1, e2⟩
        obtain ⟨u, v, z0, z1⟩ := hzk
        have fz0 := hBk.frozen (k * 2)
        have fz1 := hBk.frozen (k * 2 + 1)
        have HS : Hid ((esK zs ++ List.replicate (n - k) ((0, 0) : E)).set k (lo x, hi x) = esK (zs ++ [x]) ++ List.replicate (n - (k + 1)) (0, 0)) := fill_put zs n k HZ.out hlt x _ _ rfl
        have HBS := Lib.hid (hBk.set k (lo x) (hi x))
        clear hBk
        have hgw : w.heap.size ≤ g := by omega
        cases sm with
        | false =>
          go_wp2
          go_roundw
          case rel =>
            have h := HBS.out
            rw [HS.out] at h
            exact ⟨k + 1, zs ++ [x], (by rw [List.length_append, HZ.out]; rfl), by omega, by go_num, h, (hx.far (by dsimp only; omega) _).far (by dsimp only; omega) _, by repeat (first | exact Below.refl _ _ | with_reducible assumption | (refine bl_alloc ?_ (Nat.le_refl _) _) | (refine bl_set ?_ (by dsimp only; omega) _) | (refine Below.drew ?_) | (refine bl_drewN ?_ _) | (refine bl_call ?_ (Nat.le_refl _) (by assumption)))⟩
          case measure => simp [intOf]; omega
        | true =>
          obtain ⟨q, hq, hq2⟩ : ∃ q : Nat, lo x % 2 = (q : Int) ∧ q ≤ 1 := ⟨(lo x % 2).toNat, by omega, by omega⟩
          have hx0 := lo_0 x
          have hqm : (lo x).tmod 2 = (q : Int) := by rw [Int.tmod_eq_emod_of_nonneg hx0]; exact hq
          have hwq : IntKind.u64.wrap (q : Int) = (q : Int) := IntWalk.u64_in _ (by omega)
          go_upto_region 8 with fail
          clear x0 x1 x2 x3 x4 x5 x6 x7 x8 x9 x10 x11 x12
          have hB2 := HBS.out
          have hx2 := (hx.far (p := ⟨g, k * 2, none⟩) (by dsimp only; omega) (.int .u64 (lo x))).far (p := ⟨g, k * 2 + 1, none⟩) (by dsimp only; omega) (.int .u64 (hi x))
          have hbw2 := bl_set (p := ⟨g, k * 2 + 1, none⟩) (bl_set (p := ⟨g, k * 2, none⟩) hbw hgw (.int .u64 (lo x))) hgw (.int .u64 (hi x))
          clear hx hbw HBS z0 z1 fz0 fz1 hw6
          generalize (w6.setCell ⟨g, k * 2, none⟩ (.int .u64 (lo x))).setCell ⟨g, k * 2 + 1, none⟩ (.int .u64 (hi x)) = w7 at hB2 hx2 hbw2 ⊢
          rw [HS.out] at hB2
          have hzx : (esK (zs ++ [x]) ++ List.replicate (n - (k + 1)) ((0, 0) : E))[k]? = some (lo x, hi x) := by
            rw [← HS.out, List.getElem?_set_self]
            · rw [List.length_append, List.length_replicate, esK_length, HZ.out]
              omega
          obtain ⟨z0, z1⟩ := hB2.row k _ hzx
          have fz0 := hB2.frozen (k * 2)
          have fz1 := hB2.frozen (k * 2 + 1)
          have HB3 : Hid (BlkE ((w7.setCell ⟨g, k * 2, none⟩ (.int .u64 q)).setCell ⟨g, k * 2 + 1, none⟩ (.int .u64 0)) g (esK (zs ++ [nK f q]) ++ List.replicate (n - (k + 1)) (0, 0))) := by
            have h := hB2.set k (q : Int) 0
            rw [← HS.out, List.set_set, fill_put zs n k HZ.out hlt (nK f q) _ _ (eK_nK hf (by omega))] at h
            exact h
          clear hB2 hzx
          dsimp only at z0 z1
          go_wp2
          go_roundw
          case rel => exact ⟨k + 1, zs ++ [nK f q], (by rw [List.length_append, HZ.out]; rfl), by omega, by go_num, HB3.out, (hx2.far (by dsimp only; omega) _).far (by dsimp only; omega) _, by repeat (first | exact Below.refl _ _ | with_reducible assumption | (refine bl_alloc ?_ (Nat.le_refl _) _) | (refine bl_set ?_ (by dsimp only; omega) _) | (refine Below.drew ?_) | (refine bl_drewN ?_ _) | (refine bl_call ?_ (Nat.le_refl _) (by assumption)))⟩
          case measure => simp [intOf]; omega
    · obtain rfl : k = n := by omega
      rw [Nat.sub_self, List.replicate_zero, List.append_nil] at hBk
      go_wp2
      go_ret
      exact ⟨g, zs, HZ.out, rfl, hBk, by omega, hbw⟩
end

end Go.Proofs.YtfbfbijkkbflkaaGreatDoor

namespace Go.Proofs.YtfbfbijkkbflkaaGreatDoor
open Go.RowKit Fm
set_option linter.unusedVariables false
set_option maxRecDepth 100000

section
variable {f : Nat}
theorem wpList_append_Ex {w : World} {ops : Array Oper} {rest : List Oper} {o : Oper} {a : Act} {Q : Exit → Act → World → Prop} (hgd : o.guard = none) (s x : Operand)
    (ho : o.op = .call { callee := .builtin .append, args := #[s, x], argTypes := #[24, 24] })
    (base n m : Nat) (v v2 : Value) (l l2 : KL f) (hs : a.eval s = v) (hx : a.eval x = v2) (hl : l.length = n) (hl2 : l2.length = m) (hown : w.ownsRow base 36 2 v n (cellsE (esK l))) (hv2 : SlK w w.heap.size v2 l2) (hbase : base ≤ w.heap.size) (hk : n + m ≤ 1099511627776) (hm : 0 < n + m)
    (h : ∀ (q : Nat × Nat) (w' : World), w'.ownsRow base 36 2 (.slice (some ⟨q.1, 0, none⟩) (n + m) q.2) (n + m) (cellsE (esK (l ++ l2))) → Exc (fun k => v.ownBlock = some k) w.heap.size w w' → (v.ownBlock = some q.1 ∨ q.1 = w.heap.size) → wpList Tryz.prog ops Q rest (a.put o.dst (.slice (some ⟨q.1, 0, none⟩) (n + m) q.2)) w') : wpList Tryz.prog ops Q (o :: rest) a w := by
  subst hl2
  obtain ⟨A, c, rfl, _, _, hA⟩ := hv2
  refine wpList_append_E hgd s x ho base v n (esK l) hs hown A l2.length c (esK l2) hx (esK_length l2) (fun h0 => ?_) hk hbase ?_
  · obtain ⟨b, o', k1, _, k3⟩ := hA h0
    exact ⟨b, o', k1, k3⟩
  · intro v' w' ho2 hg hat
    obtain ⟨g2, c2, rfl⟩ := own_sliceP ho2 hm
    rw [← esK_append] at ho2
    refine h (g2, c2) w' ho2 (grown_exc hg) ?_
    rcases hat with hat | hat
    · exact .inl hat.symm
    · exact .inr (Option.some.inj hat)
theorem row_ne {w : World} {g b o : Nat} {e : E} {l : KL f} (h : BlkE w g [e]) (hr : RowE w b o (esK l)) (hl : 2 ≤ l.length) : b ≠ g := by
  rintro rfl
  obtain ⟨x, hx⟩ : ∃ x, l[1]? = some x := ⟨_, List.getElem?_eq_getElem (by omega)⟩
  have h1 := (hr.kat hx).1
  have h2 : w.heap[b]? = some (.cells (cellsE [e]).toArray 36) := h
  simp only [World.cell?, h2] at h1
  obtain ⟨e0, e1⟩ := e
  simp [cellsE] at h1
theorem SlK.outOf {w : World} {g : Nat} {e : E} {v : Value} {l : KL f} (h : SlK w w.heap.size v l) (hB : BlkE w g [e]) (hl : 2 ≤ l.length) : SlX (fun q => q = g) w v l := by
  obtain ⟨A, c, hv, h1, h2, h3⟩ := h
  refine ⟨A, c, hv, h1, h2, fun h0 => ?_⟩
  obtain ⟨b, o, k1, k2, k3⟩ := h3 h0
  exact ⟨b, o, k1, k2, row_ne hB k3 hl, k3⟩
theorem rowS_ne {w : World} {g b : Nat} {e : E} {us : List Value} {A : Option Addr} {n c : Nat} (h : BlkE w g [e]) (hr : RowS w b 0 us) (hu : us[0]? = some (.slice A n c)) : b ≠ g := by
  rintro rfl
  have h1 := hr 0 _ hu
  have h2 : w.heap[b]? = some (.cells (cellsE [e]).toArray 36) := h
  simp only [World.cell?, h2] at h1
  obtain ⟨e0, e1⟩ := e
  simp [cellsE] at h1
end

def QE (pb fb qb tb bp gt : Nat) : Nat → Prop := fun q => q = pb ∨ q = fb ∨ q = qb ∨ q = tb ∨ q = bp ∨ q = gt
theorem QE.all (pb fb qb tb bp gt : Nat) : QE pb fb qb tb bp gt pb ∧ QE pb fb qb tb bp gt fb ∧ QE pb fb qb tb bp gt qb ∧ QE pb fb qb tb bp gt tb ∧ QE pb fb qb tb bp gt bp ∧ QE pb fb qb tb bp gt gt :=
  ⟨.inl rfl, .inr (.inl rfl), .inr (.inr (.inl rfl)), .inr (.inr (.inr (.inl rfl))), .inr (.inr (.inr (.inr (.inl rfl)))), .inr (.inr (.inr (.inr (.inr rfl))))⟩
theorem qry_blocks (W : Nat → Prop) (n b2 b8 b10 b12 b14 fb gw gt tb pb qb cb bp : Nat) (h1 : n + 1 < b2) (h2 : b2 ≤ fb) (h3 : fb < b8) (h4 : b8 ≤ gw) (h5 : gw < b10) (h6 : b10 ≤ gt) (h7 : gt < tb) (h8 : b12 = tb + 1) (h9 : b12 ≤ pb) (h10 : pb < b14) (h11 : b14 ≤ qb) (h12 : cb = qb + 1) (h13 : bp < n)
    (hd : ∀ q, W q → b12 ≤ q) (hl : ∀ q, W q → q < b14) (hp : ¬ W pb) :
    (∀ q, QE pb fb qb tb bp gt q → (q = bp ∨ n ≤ q) ∧ q < cb ∧ q ≠ gw ∧ q ≠ n + 1 ∧ ¬ W q) ∧ (∀ q, (W q ∨ (q = cb ∨ QE pb fb qb tb bp gt q)) → (q = bp ∨ n ≤ q) ∧ q ≠ gw ∧ q ≠ n + 1 ∧ (q < n → QE pb fb qb tb bp gt q)) ∧ ¬ W cb ∧ ¬ QE pb fb qb tb bp gt cb := by
  have hE : ∀ q, QE pb fb qb tb bp gt q → (q = bp ∨ n ≤ q) ∧ q < cb ∧ q ≠ gw ∧ q ≠ n + 1 ∧ ¬ W q := fun q hq => by
    refine ⟨?_, ?_, ?_, ?_, ?_⟩
    · unfold QE at hq
      omega
    · unfold QE at hq
      omega
    · unfold QE at hq
      omega
    · unfold QE at hq
      omega
    · intro hw
      have k1 := hd q hw
      have k2 := hl q hw
      unfold QE at hq
      rcases hq with hq | hq | hq | hq | hq | hq
      · exact hp (hq ▸ hw)
      all_goals omega
  refine ⟨hE, fun q hq => ?_, fun hw => by have := hl cb hw; omega, fun h => by have := (hE cb h).2.1; omega⟩
  rcases hq with hq | hq | hq
  · have k1 := hd q hq
    exact ⟨by omega, by omega, by omega, fun h => by omega⟩
  · exact ⟨by omega, by omega, by omega, fun h => by omega⟩
  · obtain ⟨k1, k2, k3, k4, _⟩ := hE q hq
    exact ⟨k1, k3, k4, fun _ => hq⟩

end Go.Proofs.YtfbfbijkkbflkaaGreatDoor
