/-
  WALK: CircuitRuns' closure; what circuit.Run says by it.
-/
/-
  WALK: tallymanlaw10.Vector.
-/
import Derived.Test.YtiphahbeedeebaaMau
import Derived.Test.YtiphahbeedeebaaMak
import Derived.Test.YtiphahbeedeebaaMah
import Derived.Test.YtiphahbeedeebaaMan
namespace Go.Proofs.Ytiphahbeedeebaa
open Go.RowKit Fm
set_option linter.unusedVariables false
set_option maxRecDepth 100000

theorem argOf_len {f : Nat} (y : CK) (v j : KL f) (part : Fin (Pm f)) (k : Nat) : (argOf y v j part k).length = (y.gad f).arity := by
  cases y with
  | count => rfl
  | sum b => rfl
  | vec b l c => exact argL_length _ _ _ _ _
  | hist l c => exact argL_length _ _ _ _ _
  | multi l m c => exact argL_length _ _ _ _ _

theorem BlkE.slM {f n : Nat} {w : World} {g : Nat} {l : KL f} (h : BlkE w g (esK l)) (hl : l.length = n) (hn : n ≤ 1000000) : SlK w w.heap.size (.slice (some ⟨g, 0, none⟩) n n) l := by
  subst hl
  exact h.slK (by omega) h.lt

section
variable {f : Nat} (hf : IsF f)
include hf

set_option maxHeartbeats 2000000 in
theorem closure_run (y : CK) (hy : y.ok) (vi : Value) (l : KL f) (cb yb k : Nat) (hk : k ≤ 5000) (w : World) (hne : cb ≠ yb) (hcb : Vs w cb [.int .i64 (k : Nat)])
    (hyb : Vs w yb [.int .u8 (y.k : Nat), .int .u8 f, .int .i64 (y.b : Nat), .int .i64 (y.l : Nat), .int .i64 (y.m : Nat), .int .i64 (y.c : Nat)]) (hl : SlX (fun q => q = cb ∨ q = yb) w vi l) (hlen : l.length = (y.gad f).arity) :
    Calls Try.prog 75 #[vi, .pointer (some ⟨cb, 0, none⟩), .pointer (some ⟨yb, 0, none⟩)] w fun e w' => e = .returned (.tuple #[vK (gval (y.gad f) l), .int .i64 0]) ∧ Vs w' cb [.int .i64 ((k + 1 : Nat) : Int)] ∧
      Vs w' yb [.int .u8 (y.k : Nat), .int .u8 f, .int .i64 (y.b : Nat), .int .i64 (y.l : Nat), .int .i64 (y.m : Nat), .int .i64 (y.c : Nat)] ∧ Exc (fun q => q = cb ∨ q = yb) w.heap.size w w' := by
  have HGAD : Hid (∀ wz, Calls Try.prog 60 #[y.val f] wz (RetG (y.gad f) wz)) := fun wz => circuit_Gadget hf y hy wz
  have HOF := Lib.hid (fun wz (k : Int) (sl : Value) (n : Int) (h : RepG wz wz.heap.size k sl n (y.gad f)) (hs : SlK wz wz.heap.size vi l) => gadget_Of hf wz (y.gad f) k sl n h vi l hs hlen)
  have hfb0 : (1 : Int) ≤ (f : Int) := by rcases hf.or with rfl | rfl <;> omega
  have hfb1 : (f : Int) ≤ 2 := by rcases hf.or with rfl | rfl <;> omega
  obtain ⟨z, hz⟩ : ∃ z, gval (y.gad f) l = z := ⟨_, rfl⟩
  rw [hz] at HOF ⊢
  unfold CK.val at HGAD
  generalize y.gad f = gd at *
  generalize ((y.k : Nat) : Int) = K at *
  generalize ((y.b : Nat) : Int) = B at *
  generalize ((y.l : Nat) : Int) = N at *
  generalize ((y.m : Nat) : Int) = M at *
  generalize ((y.c : Nat) : Int) = C at *
  clear hz hlen hy
  obtain ⟨k2, hk2⟩ : ∃ k2, k + 1 = k2 := ⟨_, rfl⟩
  rw [hk2]
  have hexc : Exc (fun q => q = cb ∨ q = yb) w.heap.size w w := exc_of (Below.refl _ _)
  have hcl := hcb.lt
  have hyl := hyb.lt
  go_enter Try.func75, Try.ntmps75
  go_upto_region 1 with fail
  have s0 := V2.new w (.int .u64 0) (.int .u64 0) 41
  have hbA : Below w.heap.size w (w.alloc (.cells #[.int .u64 0, .int .u64 0] 41)) := by repeat (first | exact Below.refl _ _ | with_reducible assumption | (refine bl_alloc ?_ (Nat.le_refl _) _))
  replace hexc := hexc.call hbA
  replace hcb := hcb.call hbA
  replace hyb := hyb.call hbA
  replace hl := hl.call hbA
  clear hbA
  generalize w.alloc (.cells #[.int .u64 0, .int .u64 0] 41) = w1 at hexc hcb hyb hl s0 ⊢
  obtain ⟨cb0, cb1, cb2⟩ := hcb.get1
  have hk1 : IntKind.i64.wrap ((k : Int) + 1) = (k2 : Int) := by rw [IntWalk.i64_in _ (by omega)]; omega
  clear hk2
  go_upto_region 2 with fail
  clear cb0 cb1 cb2
  have hE1 : Exc (fun q => q = cb ∨ q = yb) w1.heap.size w1 (w1.setCell ⟨cb, 0, none⟩ (.int .i64 (k2 : Int))) :=
    ⟨rfl, rfl, rfl, by simp [World.setCell], fun x hx hn => Below.heap_setCell _ _ _ _ (fun e => hn (.inl e))⟩
  replace hcb : Vs (w1.setCell ⟨cb, 0, none⟩ (.int .i64 (k2 : Int))) cb [.int .i64 (k2 : Int)] := hcb.put 0 (by simp) _
  replace hyb := hyb.far (p := ⟨cb, 0, none⟩) hne (.int .i64 (k2 : Int))
  replace s0 := V2.setOther s0 (p := ⟨cb, 0, none⟩) (by dsimp only; omega) (.int .i64 (k2 : Int))
  replace hl := hl.exc hE1
  replace hexc := hexc.more hE1 (fun q hq => .inl hq)
  clear hE1
  generalize w1.setCell ⟨cb, 0, none⟩ (.int .i64 (k2 : Int)) = w2 at *
  have HLK := Lib.hid hl.toK
  clear hl
  obtain ⟨⟨yb0, yb1, yb2, yb3, yb4, yb5⟩, ⟨yb6, yb7, yb8, yb9, yb10, yb11⟩, yb12⟩ := hyb.get6
  refine region_G (n := 8) (m := 10) (f := 8) (by kernel_rfl) (by kernel_rfl) rfl ?_
  refine WpG.takeD 0 (some 8) (v := ?_) rfl rfl (by kernel_rfl) (fun _ _ _ h => h) (.val rfl (fun wz hwz => ?_)) ?_
  rotate_left
  · (obtain ⟨hcz, hfz⟩ := bcell (hwz); go_simp; try (with_reducible rfl))
  (simp only [Act.put]); (try simp only [List.setIfInBounds_toArray]); (try simp only [List.set_cons_succ]); (try simp only [List.set_cons_zero])
  refine WpG.takeD 2 (some 10) (v := ?_) rfl rfl (by kernel_rfl) (fun _ _ _ h => h) (.val rfl (fun wz hwz => ?_)) ?_
  rotate_left
  · go_simp; try (with_reducible rfl)
  (simp only [Act.put]); (try simp only [List.setIfInBounds_toArray]); (try simp only [List.set_cons_succ]); (try simp only [List.set_cons_zero])
  refine WpG.takeD 3 (some 11) (v := ?_) rfl rfl (by kernel_rfl) (fun _ _ _ h => h) (.val rfl (fun wz hwz => ?_)) ?_
  rotate_left
  · (obtain ⟨hcz, hfz⟩ := bcell (hwz); go_simp; try (with_reducible rfl))
  (simp only [Act.put]); (try simp only [List.setIfInBounds_toArray]); (try simp only [List.set_cons_succ]); (try simp only [List.set_cons_zero])
  refine WpG.takeD 4 (some 12) (v := ?_) rfl rfl (by kernel_rfl) (fun _ _ _ h => h) (.val rfl (fun wz hwz => ?_)) ?_
  rotate_left
  · go_simp; try (with_reducible rfl)
  (simp only [Act.put]); (try simp only [List.setIfInBounds_toArray]); (try simp only [List.set_cons_succ]); (try simp only [List.set_cons_zero])
  refine WpG.oneD 1 (some 9) rfl rfl (by kernel_rfl) (fun q : Int × Value × Int => Value.agg #[.int .u8 q.1, q.2.1, .int .i64 q.2.2]) (fun q wz => RepG wz wz.heap.size q.1 q.2.1 q.2.2 gd) (fun _ _ _ h hb => h.later hb) (Fresh.call rfl (fun wz hwz => (HGAD.out wz).mono fun e w' ⟨k, sl, n, he, hr, hb⟩ => ⟨(k, sl, n), he, hr, hb⟩) (fun wz hwz => by go_simp; try (with_reducible rfl))) (fun gq w0 hw0 hR0 => ?_)
  (simp only [Act.put]); (try simp only [List.setIfInBounds_toArray]); (try simp only [List.set_cons_succ]); (try simp only [List.set_cons_zero])
  refine WpG.takeD 5 (some 13) rfl rfl (by kernel_rfl) (fun _ _ _ h => h) (.call rfl (fun wz hwz => HOF.out wz gq.1 gq.2.1 gq.2.2 (hwz.2) (HLK.out.later (hwz.1))) (fun wz hwz => ?_)) ?_
  · go_simp; try (with_reducible rfl)
  (simp only [Act.put]); (try simp only [List.setIfInBounds_toArray]); (try simp only [List.set_cons_succ]); (try simp only [List.set_cons_zero])
  refine WpG.takeD 6 (some 14) (v := ?_) rfl rfl (by kernel_rfl) (fun _ _ _ h => h) (.val rfl (fun wz hwz => ?_)) ?_
  rotate_left
  · go_simp; try (with_reducible rfl)
  (simp only [Act.put]); (try simp only [List.setIfInBounds_toArray]); (try simp only [List.set_cons_succ]); (try simp only [List.set_cons_zero])
  refine WpG.takeD 7 (some 15) (v := ?_) rfl rfl (by kernel_rfl) (fun _ _ _ h => h) (.val rfl (fun wz hwz => ?_)) ?_
  rotate_left
  · go_simp; try (with_reducible rfl)
  (simp only [Act.put]); (try simp only [List.setIfInBounds_toArray]); (try simp only [List.set_cons_succ]); (try simp only [List.set_cons_zero])
  refine WpG.done (by kernel_rfl) (fun w3 hS => ?_)
  (try simp only [List.drop_succ_cons]); (try simp only [List.drop_zero]); (try simp only [Nat.reduceSub]); (try simp only [List.take_succ_cons]); (try simp only [List.take_zero])
  obtain ⟨hb3, _⟩ := hS
  clear yb0 yb1 yb2 yb3 yb4 yb5 yb6 yb7 yb8 yb9 yb10 yb11 yb12
  replace hexc := hexc.call hb3
  replace hcb := hcb.call hb3
  replace hyb := hyb.call hb3
  replace s0 := s0.call hb3
  obtain ⟨s00, s01, s02, s03, s04⟩ := V2.mk s0.c0 s0.c1 s0.f0 s0.f1 s0.lt
  go_wp2_with fail
  refine bodyPost_ret (results_v2_tmp (b := w.heap.size) (u := .int .u64 (lo z)) (v := .int .u64 (hi z)) ?_ rfl rfl) rfl ?_
  · exact V2.set s0 _ _
  · exact ⟨rfl, (hcb.far (by dsimp only; omega) _).far (by dsimp only; omega) _, (hyb.far (by dsimp only; omega) _).far (by dsimp only; omega) _, hexc.st (Nat.le_refl _) _ _⟩

/-- what the closure holds: how often it was called; the circuit -/
def InvRun (cs : List Value) (cb yb k : Nat) (D : Nat → Prop) (w : World) : Prop := D = (fun q => q = cb ∨ q = yb) ∧ Vs w cb [.int .i64 (k : Nat)] ∧ Vs w yb cs
omit hf in
theorem Vs.sameH {w w' : World} {b : Nat} {cs : List Value} (h : Vs w b cs) (hb : w'.heap[b]? = w.heap[b]?) : Vs w' b cs :=
  ⟨fun i v hi => (World.cell?_of_block (w := w) (a := ⟨b, i, none⟩) hb).trans (h.cell i v hi), fun i hi => (World.frozen?_of_block (w := w) (a := ⟨b, i, none⟩) hb).trans (h.frz i hi), by
    have h1 := h.lt
    rcases Nat.lt_or_ge b w'.heap.size with h2 | h2
    · exact h2
    · rw [Array.getElem?_eq_none h2, Array.getElem?_eq_getElem h1] at hb
      cases hb⟩
omit hf in
theorem InvRun.st {cs : List Value} {cb yb k : Nat} {w : World} (h1 : Vs w cb [.int .i64 (k : Nat)]) (h2 : Vs w yb cs) : St (InvRun cs cb yb k) (fun q => q = cb ∨ q = yb) w :=
  ⟨⟨rfl, h1, h2⟩, fun q hq => by
    rcases hq with rfl | rfl
    · exact h1.lt
    · exact h2.lt, fun w w' ⟨e, g1, g2⟩ hb => ⟨e, g1.sameH (hb cb (.inl rfl)), g2.sameH (hb yb (.inr rfl))⟩⟩

theorem asked_run (y : CK) (hy : y.ok) (hcl : y.calls ≤ 511) (v j : KL f) (part : Fin (Pm f)) (cb yb : Nat) (hne : cb ≠ yb) :
    Asked y v j part 75 #[.pointer (some ⟨cb, 0, none⟩), .pointer (some ⟨yb, 0, none⟩)] (InvRun [.int .u8 (y.k : Nat), .int .u8 f, .int .i64 (y.b : Nat), .int .i64 (y.l : Nat), .int .i64 (y.m : Nat), .int .i64 (y.c : Nat)] cb yb) (fun k => gval (y.gad f) (argOf y v j part k)) 0 := by
  refine ⟨fun args w => by kernel_rfl, fun k D w va hk hst hv => ?_⟩
  obtain ⟨rfl, h1, h2⟩ := hst.here
  refine (closure_run hf y hy va _ cb yb k (by omega) w hne h1 h2 hv (argOf_len y v j part k)).mono ?_
  rintro e w' ⟨rfl, g1, g2, hE⟩
  exact ⟨rfl, _, InvRun.st g1 g2, fun q hq => .inl hq, hE⟩

theorem run_run (y : CK) (hy : y.ok) (hcl : y.calls ≤ 511) (gv gj cb yb : Nat) (v j : KL f) (hl : v.length = y.nin) (hjl : j.length = y.joint) (wz : World) (hv : BlkE wz gv (esK v)) (hj : BlkE wz gj (esK j)) (hv1 : gv ≠ cb ∧ gv ≠ yb) (hj1 : gj ≠ cb ∧ gj ≠ yb) (hne : cb ≠ yb)
    (h1 : Vs wz cb [.int .i64 0]) (h2 : Vs wz yb [.int .u8 (y.k : Nat), .int .u8 f, .int .i64 (y.b : Nat), .int .i64 (y.l : Nat), .int .i64 (y.m : Nat), .int .i64 (y.c : Nat)]) :
    Calls Try.prog 73 #[y.val f, .slice (some ⟨gv, 0, none⟩) y.nin y.nin, .slice (some ⟨gj, 0, none⟩) y.joint y.joint, .int .i64 1, .func (.func 75) #[] #[.pointer (some ⟨cb, 0, none⟩), .pointer (some ⟨yb, 0, none⟩)]] wz fun e w' =>
      e = .returned (.tuple #[vK (dirF y v j), .int .i64 0]) ∧ Vs w' cb [.int .i64 (y.calls : Nat)] ∧ Vs w' yb [.int .u8 (y.k : Nat), .int .u8 f, .int .i64 (y.b : Nat), .int .i64 (y.l : Nat), .int .i64 (y.m : Nat), .int .i64 (y.c : Nat)] ∧ Exc (fun q => q = cb ∨ q = yb) wz.heap.size wz w' := by
  have hnin := CK.nin_le hy
  have hjn : y.joint ≤ 512 := by cases y <;> simp only [CK.joint] <;> (try simp only [CK.calls] at hcl ⊢) <;> omega
  have h := circuit_RunOk hf y hy hcl 1 1 (.inl rfl) (by rw [nK_one, kinv_one]) v j _ _ (fun q => q = cb ∨ q = yb) _ _ 0 (asked_run hf y hy hcl v j 1 cb yb hne) hl hjl (.slice (some ⟨gv, 0, none⟩) y.nin y.nin) (.slice (some ⟨gj, 0, none⟩) y.joint y.joint) wz
    (SlX.of hl (Nat.le_refl _) (by omega) hv.lt (by show ¬ (_ ∨ _); omega) hv.rowE) (SlX.of hjl (Nat.le_refl _) (by omega) hj.lt (by show ¬ (_ ∨ _); omega) hj.rowE) (InvRun.st h1 h2)
  refine h.mono ?_
  rintro e w' ⟨⟨_, rfl, D', hst, _⟩ | ⟨h0, _⟩, hE⟩
  · obtain ⟨_, g1, g2⟩ := hst.here
    refine ⟨?_, g1, g2, hE⟩
    rw [runF_dir y hy v j hl]
  · exact absurd rfl h0
end

end Go.Proofs.Ytiphahbeedeebaa

namespace Go.Proofs.Ytiphahbeedeebaa
open Go.RowKit Fm
set_option linter.unusedVariables false
set_option maxRecDepth 100000

/-- a new slice of n elements of the field comes back -/
def RetV (f n : Nat) (w : World) (e : Ending) (w' : World) : Prop :=
  ∃ (g : Nat) (zs : KL f), zs.length = n ∧ e = .returned (.slice (some ⟨g, 0, none⟩) n n) ∧ BlkE w' g (esK zs) ∧ w.heap.size ≤ g ∧ Below w.heap.size w w'

theorem fill_put {f : Nat} (zs : KL f) (n k : Nat) (hz : zs.length = k) (hk : k < n) (y : Fin (Pm f)) (a b : Int) (hy : eK y = (a, b)) :
    (esK zs ++ List.replicate (n - k) ((0, 0) : E)).set k (a, b) = esK (zs ++ [y]) ++ List.replicate (n - (k + 1)) (0, 0) := by
  have hl : (esK zs).length = k := by rw [esK_length, hz]
  rw [List.set_append_right _ _ (by rw [hl]; exact Nat.le_refl _), hl, Nat.sub_self, show n - k = (n - (k + 1)) + 1 by omega, List.replicate_succ, List.set_cons_zero, esK_append, esK_cons, esK_nil, hy, List.append_assoc]
  rfl
theorem fill_none {f : Nat} (zs : KL f) (n k : Nat) (hk : k < n) :
    esK zs ++ List.replicate (n - k) ((0, 0) : E) = esK (zs ++ [(0 : Fin (Pm f))]) ++ List.replicate (n - (k + 1)) (0, 0) := by
  rw [show n - k = (n - (k + 1)) + 1 by omega, List.replicate_succ, esK_append, esK_cons, esK_nil, eK_zero, List.append_assoc]
  rfl
theorem eK_nK {f : Nat} (hf : IsF f) {n : Nat} (hn : n < 4294967296) : eK (nK f n) = ((n : Int), 0) := by
  rw [nK_kI, eK_kI]
  have h : (n : Int) % (Pm f : Int) = n := by
    rcases hf.or with rfl | rfl
    · rw [show ((Pm 1 : Nat) : Int) = 18446744069414584321 from rfl]; omega
    · rw [show ((Pm 2 : Nat) : Int) = 340282366920938462946865773367900766209 from rfl]; omega
  rw [h]
  simp only [eN, Prod.mk.injEq]
  omega

section
variable {f : Nat} (hf : IsF f)
include hf

set_option maxHeartbeats 8000000 in
theorem law10_Vector (y : CK) (hy : y.ok) (vl : Value) (l : List E) (sm : Bool) (w : World) (hl : SlE w w.heap.size vl l) (hl60 : l.length ≤ 60) :
    Calls Try.prog 44 #[y.val f, vl, .bool sm] w (RetV f y.nin w) := by
  have HI := Lib.hid (fun wz => circuit_In f y hy wz)
  have hnin := CK.nin_le hy
  obtain ⟨⟨A, c, rfl, hlc, hcm, hA⟩, hok⟩ := hl
  have hfb0 : (1 : Int) ≤ (f : Int) := by rcases hf.or with rfl | rfl <;> omega
  have hfb1 : (f : Int) ≤ 2 := by rcases hf.or with rfl | rfl <;> omega
  unfold CK.val at HI ⊢
  obtain ⟨K, hK⟩ : ∃ K : Int, ((y.k : Nat) : Int) = K := ⟨_, rfl⟩
  obtain ⟨B, hB⟩ : ∃ K : Int, ((y.b : Nat) : Int) = K := ⟨_, rfl⟩
  obtain ⟨N, hN⟩ : ∃ K : Int, ((y.l : Nat) : Int) = K := ⟨_, rfl⟩
  obtain ⟨M, hM⟩ : ∃ K : Int, ((y.m : Nat) : Int) = K := ⟨_, rfl⟩
  obtain ⟨C, hC⟩ : ∃ K : Int, ((y.c : Nat) : Int) = K := ⟨_, rfl⟩
  rw [hK, hB, hN, hM, hC] at HI ⊢
  clear hK hB hN hM hC hy
  generalize y.nin = n at *
  have hmk := make_elem n (by omega)
  have hb00 : Below w.heap.size w w := Below.refl _ _
  go_enter Try.func44, Try.ntmps44
  go_upto_region 1 with fail
  have hx := Vs.new w [.int .u8 K, .int .u8 f, .int .i64 B, .int .i64 N, .int .i64 M, .int .i64 C] #[.int .u8 K, .int .u8 f, .int .i64 B, .int .i64 N, .int .i64 M, .int .i64 C] 60 rfl
  have hbA : Below w.heap.size w (w.alloc (.cells #[.int .u8 K, .int .u8 f, .int .i64 B, .int .i64 N, .int .i64 M, .int .i64 C] 60)) := by repeat (first | exact Below.refl _ _ | with_reducible assumption | (refine bl_alloc ?_ (Nat.le_refl _) _))
  replace hb00 := bl_call hb00 (Nat.le_refl _) hbA
  clear hbA
  generalize w.alloc (.cells #[.int .u8 K, .int .u8 f, .int .i64 B, .int .i64 N, .int .i64 M, .int .i64 C] 60) = w1 at hb00 hx ⊢
  obtain ⟨⟨x0, x1, x2, x3, x4, x5⟩, ⟨x6, x7, x8, x9, x10, x11⟩, x12⟩ := hx.get6
  go_upto_region 2 with (first
    | (go_at_call 45; refine (HI.out _).mono ?_; rintro e w2 ⟨rfl, hb2⟩; replace hb00 := bl_call hb00 (Nat.le_refl _) hb2; replace hx := hx.call hb2; obtain ⟨⟨x0, x1, x2, x3, x4, x5⟩, ⟨x6, x7, x8, x9, x10, x11⟩, x12⟩ := hx.get6))
  have hBk : BlkE (w2.alloc (.cells (cellsE (List.replicate n (0, 0))).toArray 41)) w2.heap.size (List.replicate n (0, 0)) := heap_alloc_new w2 _
  have hbA : Below w2.heap.size w2 (w2.alloc (.cells (cellsE (List.replicate n (0, 0))).toArray 41)) := by repeat (first | exact Below.refl _ _ | with_reducible assumption | (refine bl_alloc ?_ (Nat.le_refl _) _) | (refine bl_set ?_ (by dsimp only; omega) _) | (refine Below.drew ?_) | (refine bl_drewN ?_ _) | (refine bl_call ?_ (Nat.le_refl _) (by assumption)))
  have hgx : w.heap.size < w2.heap.size := hx.lt
  clear x0 x1 x2 x3 x4 x5 x6 x7 x8 x9 x10 x11 x12
  replace hb00 := bl_call hb00 (Nat.le_refl _) hbA
  replace hx := hx.call hbA
  clear hbA hb2
  obtain ⟨g, hg⟩ : ∃ g, w2.heap.size = g := ⟨_, rfl⟩
  rw [hg] at hBk hgx ⊢
  generalize w2.alloc (.cells (cellsE (List.replicate n (0, 0))).toArray 41) = w3 at hBk hx hb00 ⊢
  clear hg hmk HI
  go_wp2_with fail
  go_loopw [14] (fun i wr => ∃ (k : Nat) (zs : KL f), zs.length = k ∧ k ≤ n ∧ i = .int .i64 k ∧ BlkE wr g (esK zs ++ List.replicate (n - k) (0, 0)) ∧ Vs wr w.heap.size [.int .u8 K, .int .u8 f, .int .i64 B, .int .i64 N, .int .i64 M, .int .i64 C] ∧ Below w.heap.size w wr) (fun i _ => n - (intOf i).toNat)
  case atStart => exact ⟨0, [], rfl, Nat.zero_le _, rfl, hBk, hx, hb00⟩
  case round =>
    clear hBk hx hb00
    obtain ⟨k, zs, hzl, hk, rfl, hBk, hx, hbw⟩ := hrel
    obtain ⟨⟨x0, x1, x2, x3, x4, x5⟩, ⟨x6, x7, x8, x9, x10, x11⟩, x12⟩ := hx.get6
    have HZ := Lib.hid hzl
    clear hzl
    by_cases hlt : k < n
    · by_cases hl0 : l.length = 0
      · rw [fill_none zs n k hlt] at hBk
        have HBK := Lib.hid hBk
        clear hBk hA
        go_wp2
        go_roundw
        case rel => exact ⟨k + 1, zs ++ [0], (by rw [List.length_append, HZ.out]; rfl), by omega, by go_num, HBK.out, hx, hbw⟩
        case measure => simp [intOf]; omega
      · obtain ⟨b, o, rfl, hBl, hr⟩ := hA (by omega)
        have hjm : k % l.length < l.length := Nat.mod_lt _ (by omega)
        obtain ⟨⟨e0, e1⟩, he⟩ : ∃ e, l[k % l.length]? = some e := ⟨_, List.getElem?_eq_getElem hjm⟩
        obtain ⟨h0, h1, h2, h3⟩ := hok _ (List.mem_of_getElem? he)
        obtain ⟨c0, c1⟩ := (hr.below hbw hBl) _ _ he
        dsimp only at h0 h1 h2 h3 c0 c1
        have hbl : b < wr.heap.size := Nat.lt_of_lt_of_le hBl hbw.size
        have HO := Lib.hid (fun wz => ref_OfL hf e0 e1 wz h0 h1 h2 h3)
        obtain ⟨x, hxx⟩ : ∃ x, kL f e0 e1 = x := ⟨_, rfl⟩
        rw [hxx] at HO
        have hjn : 0 ≤ (k : Int) % (l.length : Int) := Int.emod_nonneg _ (by omega)
        have hjl : (k : Int) % (l.length : Int) < (l.length : Int) := Int.emod_lt_of_pos _ (by omega)
        have hjt : ((k : Int) % (l.length : Int)).toNat = k % l.length := by rw [← Int.natCast_emod, Int.toNat_natCast]
        have hjd : (k : Int).tmod (l.length : Int) = (k : Int) % (l.length : Int) := Int.tmod_eq_emod_of_nonneg (by omega)
        have hgl : g < wr.heap.size := hBk.lt
        have hl9 : ¬ (l.length = 0) := hl0
        have hwf : IntKind.i64.wrap (f : Int) = (f : Int) := IntWalk.i64_in _ (by omega)
        clear he hr hA hxx
        go_upto_region 6 with fail
        refine region_B (n := 14) (m := 15) (f := 14) (by kernel_rfl) (by kernel_rfl) rfl ?_
        refine WpH.takeD 0 (some 20) (v := ?_) rfl rfl (by kernel_rfl) (fun _ _ _ h => h) (.val rfl (fun wz hwz => ?_)) ?_
        rotate_left
        · go_simp; try (with_reducible rfl)
        (simp only [Act.put]); (try simp only [List.setIfInBounds_toArray]); (try simp only [List.set_cons_succ]); (try simp only [List.set_cons_zero])
        refine WpH.takeD 1 (some 21) (v := ?_) rfl rfl (by kernel_rfl) (fun _ _ _ h => h) (.val rfl (fun wz hwz => ?_)) ?_
        rotate_left
        · go_simp; try (with_reducible rfl)
        (simp only [Act.put]); (try simp only [List.setIfInBounds_toArray]); (try simp only [List.set_cons_succ]); (try simp only [List.set_cons_zero])
        refine WpH.takeD 2 (some 22) (v := ?_) rfl rfl (by kernel_rfl) (fun _ _ _ h => h) (.val rfl (fun wz hwz => ?_)) ?_
        rotate_left
        · go_simp; try (with_reducible rfl)
        (simp only [Act.put]); (try simp only [List.setIfInBounds_toArray]); (try simp only [List.set_cons_succ]); (try simp only [List.set_cons_zero])
        refine WpH.takeD 3 (some 23) (v := ?_) rfl rfl (by kernel_rfl) (fun _ _ _ h => h) (.val rfl (fun wz hwz => ?_)) ?_
        rotate_left
        · (obtain ⟨hcz, hfz⟩ := bcell hwz; go_simp; try (with_reducible rfl))
        (simp only [Act.put]); (try simp only [List.setIfInBounds_toArray]); (try simp only [List.set_cons_succ]); (try simp only [List.set_cons_zero])
        refine WpH.takeD 4 (some 24) (v := ?_) rfl rfl (by kernel_rfl) (fun _ _ _ h => h) (.val rfl (fun wz hwz => ?_)) ?_
        rotate_left
        · go_simp; try (with_reducible rfl)
        (simp only [Act.put]); (try simp only [List.setIfInBounds_toArray]); (try simp only [List.set_cons_succ]); (try simp only [List.set_cons_zero])
        refine WpH.takeD 5 (some 25) (v := ?_) rfl rfl (by kernel_rfl) (fun _ _ _ h => h) (.val rfl (fun wz hwz => ?_)) ?_
        rotate_left
        · go_simp; try (with_reducible rfl)
        (simp only [Act.put]); (try simp only [List.setIfInBounds_toArray]); (try simp only [List.set_cons_succ]); (try simp only [List.set_cons_zero])
        refine WpH.takeD 6 (some 26) (v := ?_) rfl rfl (by kernel_rfl) (fun _ _ _ h => h) (.val rfl (fun wz hwz => ?_)) ?_
        rotate_left
        · go_simp; try (with_reducible rfl)
        (simp only [Act.put]); (try simp only [List.setIfInBounds_toArray]); (try simp only [List.set_cons_succ]); (try simp only [List.set_cons_zero])
        refine WpH.takeD 7 (some 27) (v := ?_) rfl rfl (by kernel_rfl) (fun _ _ _ h => h) (.val rfl (fun wz hwz => ?_)) ?_
        rotate_left
        · go_simp; try (with_reducible rfl)
        (simp only [Act.put]); (try simp only [List.setIfInBounds_toArray]); (try simp only [List.set_cons_succ]); (try simp only [List.set_cons_zero])
        refine WpH.takeD 8 (some 28) (v := ?_) rfl rfl (by kernel_rfl) (fun _ _ _ h => h) (.val rfl (fun wz hwz => ?_)) ?_
        rotate_left
        · go_simp; try (with_reducible rfl)
        (simp only [Act.put]); (try simp only [List.setIfInBounds_toArray]); (try simp only [List.set_cons_succ]); (try simp only [List.set_cons_zero])
        refine WpH.takeD 9 (some 29) (v := ?_) rfl rfl (by kernel_rfl) (fun _ _ _ h => h) (.val rfl (fun wz hwz => ?_)) ?_
        rotate_left
        · go_simp; try (with_reducible rfl)
        (simp only [Act.put]); (try simp only [List.setIfInBounds_toArray]); (try simp only [List.set_cons_succ]); (try simp only [List.set_cons_zero])
        refine WpH.takeD 10 (some 30) (v := ?_) rfl rfl (by kernel_rfl) (fun _ _ _ h => h) (.val rfl (fun wz hwz => ?_)) ?_
        rotate_left
        · go_simp; try (with_reducible rfl)
        (simp only [Act.put]); (try simp only [List.setIfInBounds_toArray]); (try simp only [List.set_cons_succ]); (try simp only [List.set_cons_zero])
        refine WpH.takeD 11 (some 31) (v := ?_) rfl rfl (by kernel_rfl) (fun _ _ _ h => h) (.val rfl (fun wz hwz => ?_)) ?_
        rotate_left
        · (obtain ⟨hcz, hfz⟩ := bcell hwz; go_simp; try (with_reducible rfl))
        (simp only [Act.put]); (try simp only [List.setIfInBounds_toArray]); (try simp only [List.set_cons_succ]); (try simp only [List.set_cons_zero])
        refine WpH.takeD 12 (some 32) rfl rfl (by kernel_rfl) (fun _ _ _ h => h) (.call rfl (fun wz hwz => HO.out wz) (fun wz hwz => ?_)) ?_
        · go_simp; try (with_reducible rfl)
        (simp only [Act.put]); (try simp only [List.setIfInBounds_toArray]); (try simp only [List.set_cons_succ]); (try simp only [List.set_cons_zero])
        refine WpH.takeD 13 (some 33) (v := ?_) rfl rfl (by kernel_rfl) (fun _ _ _ h => h) (.val rfl (fun wz hwz => ?_)) ?_
        rotate_left
        · go_simp; try (with_reducible rfl)
        (simp only [Act.put]); (try simp only [List.setIfInBounds_toArray]); (try simp only [List.set_cons_succ]); (try simp only [List.set_cons_zero])
        refine WpH.doneB (by kernel_rfl) (fun w6 hw6 => ?_)
        (try simp only [List.drop_succ_cons]); (try simp only [List.drop_zero]); (try simp only [Nat.reduceSub]); (try simp only [List.take_succ_cons]); (try simp only [List.take_zero])
        replace hBk := hBk.call hw6
        clear x0 x1 x2 x3 x4 x5 x6 x7 x8 x9 x10 x11 x12
        replace hbw := bl_call hbw (Nat.le_refl _) hw6
        replace hx := hx.call hw6
        obtain ⟨⟨x0, x1, x2, x3, x4, x5⟩, ⟨x6, x7, x8, x9, x10, x11⟩, x12⟩ := hx.get6
        have hzk : ∃ u v : Value, w6.cell? ⟨g, k * 2, none⟩ = some u ∧ w6.cell? ⟨g, k * 2 + 1, none⟩ = some v := by
          have hlen : k < (esK zs ++ List.replicate (n - k) ((0, 0) : E)).length := by
            rw [List.length_append, List.length_replicate, esK_length, HZ.out]
            omega
          obtain ⟨e1, e2⟩ := hBk.row k _ (List.getElem?_eq_getElem hlen)
          exact ⟨_, _, e1, e2⟩
        obtain ⟨u, v, z0, z1⟩ := hzk
        have fz0 := hBk.frozen (k * 2)
        have fz1 := hBk.frozen (k * 2 + 1)
        have HS : Hid ((esK zs ++ List.replicate (n - k) ((0, 0) : E)).set k (lo x, hi x) = esK (zs ++ [x]) ++ List.replicate (n - (k + 1)) (0, 0)) := fill_put zs n k HZ.out hlt x _ _ rfl
        have HBS := Lib.hid (hBk.set k (lo x) (hi x))
        clear hBk
        have hgw : w.heap.size ≤ g := by omega
        cases sm with
        | false =>
          go_wp2
          go_roundw
          case rel =>
            have h := HBS.out
            rw [HS.out] at h
            exact ⟨k + 1, zs ++ [x], (by rw [List.length_append, HZ.out]; rfl), by omega, by go_num, h, (hx.far (by dsimp only; omega) _).far (by dsimp only; omega) _, by repeat (first | exact Below.refl _ _ | with_reducible assumption | (refine bl_alloc ?_ (Nat.le_refl _) _) | (refine bl_set ?_ (by dsimp only; omega) _) | (refine Below.drew ?_) | (refine bl_drewN ?_ _) | (refine bl_call ?_ (Nat.le_refl _) (by assumption)))⟩
          case measure => simp [intOf]; omega
        | true =>
          obtain ⟨q, hq, hq2⟩ : ∃ q : Nat, lo x % 2 = (q : Int) ∧ q ≤ 1 := ⟨(lo x % 2).toNat, by omega, by omega⟩
          have hx0 := lo_0 x
          have hqm : (lo x).tmod 2 = (q : Int) := by rw [Int.tmod_eq_emod_of_nonneg hx0]; exact hq
          have hwq : IntKind.u64.wrap (q : Int) = (q : Int) := IntWalk.u64_in _ (by omega)
          go_upto_region 8 with fail
          clear x0 x1 x2 x3 x4 x5 x6 x7 x8 x9 x10 x11 x12
          have hB2 := HBS.out
          have hx2 := (hx.far (p := ⟨g, k * 2, none⟩) (by dsimp only; omega) (.int .u64 (lo x))).far (p := ⟨g, k * 2 + 1, none⟩) (by dsimp only; omega) (.int .u64 (hi x))
          have hbw2 := bl_set (p := ⟨g, k * 2 + 1, none⟩) (bl_set (p := ⟨g, k * 2, none⟩) hbw hgw (.int .u64 (lo x))) hgw (.int .u64 (hi x))
          clear hx hbw HBS z0 z1 fz0 fz1 hw6
          generalize (w6.setCell ⟨g, k * 2, none⟩ (.int .u64 (lo x))).setCell ⟨g, k * 2 + 1, none⟩ (.int .u64 (hi x)) = w7 at hB2 hx2 hbw2 ⊢
          rw [HS.out] at hB2
          have hzx : (esK (zs ++ [x]) ++ List.replicate (n - (k + 1)) ((0, 0) : E))[k]? = some (lo x, hi x) := by
            rw [← HS.out, List.getElem?_set_self]
            · rw [List.length_append, List.length_replicate, esK_length, HZ.out]
              omega
          obtain ⟨z0, z1⟩ := hB2.row k _ hzx
          have fz0 := hB2.frozen (k * 2)
          have fz1 := hB2.frozen (k * 2 + 1)
          have HB3 : Hid (BlkE ((w7.setCell ⟨g, k * 2, none⟩ (.int .u64 q)).setCell ⟨g, k * 2 + 1, none⟩ (.int .u64 0)) g (esK (zs ++ [nK f q]) ++ List.replicate (n - (k + 1)) (0, 0))) := by
            have h := hB2.set k (q : Int) 0
            rw [← HS.out, List.set_set, fill_put zs n k HZ.out hlt (nK f q) _ _ (eK_nK hf (by omega))] at h
            exact h
          clear hB2 hzx
          dsimp only at z0 z1
          go_wp2
          go_roundw
          case rel => exact ⟨k + 1, zs ++ [nK f q], (by rw [List.length_append, HZ.out]; rfl), by omega, by go_num, HB3.out, (hx2.far (by dsimp only; omega) _).far (by dsimp only; omega) _, by repeat (first | exact Below.refl _ _ | with_reducible assumption | (refine bl_alloc ?_ (Nat.le_refl _) _) | (refine bl_set ?_ (by dsimp only; omega) _) | (refine Below.drew ?_) | (refine bl_drewN ?_ _) | (refine bl_call ?_ (Nat.le_refl _) (by assumption)))⟩
          case measure => simp [intOf]; omega
    · obtain rfl : k = n := by omega
      rw [Nat.sub_self, List.replicate_zero, List.append_nil] at hBk
      go_wp2
      go_ret
      exact ⟨g, zs, HZ.out, rfl, hBk, by omega, hbw⟩
end

end Go.Proofs.Ytiphahbeedeebaa
