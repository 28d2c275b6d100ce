/-
 PfPW, Vector, PfK, PfO, LaidN: what the statements of this layer share.
-/
import Derived.Test.YtfbfbijkkbflkaaGreatDoorRows
import Derived.Test.YtfbfbijkkbflkaaGreatDoorTie
import Derived.ProofKit
import Derived.LaidMore
import Derived.OpenShut
import Derived.Stop.Joined
import Derived.Test.YtfbfbijkkbflkaaGreatDoorMaz
namespace Go.Proofs.YtfbfbijkkbflkaaGreatDoor
open Go.RowKit Fm
set_option linter.unusedVariables false
set_option maxRecDepth 100000

def RetSqN {f : Nat} (l : KL f) (w : World) (e : Ending) (w' : World) : Prop := ∃ q : Nat × Nat, e = .returned (.tuple #[.slice (some ⟨q.1, 0, none⟩) l.length q.2, .int .i64 0]) ∧ w.heap.size ≤ q.1 ∧ SlK w' w'.heap.size (.slice (some ⟨q.1, 0, none⟩) l.length q.2) l ∧ Below w.heap.size w w'
theorem RetSqN.sq {f : Nat} {l : KL f} {w w' : World} {e : Ending} (h : RetSqN l w e w') : RetSq0 l w e w' := by
 obtain ⟨q, he, _, hs, hb⟩ := h
 exact ⟨(some ⟨q.1, 0, none⟩, q.2), he, hs, hb⟩

section
variable {f : Nat} (hf : IsF f)
include hf

set_option maxHeartbeats 8000000 in
theorem proof_ProveN (y : CK) (hy : y.ok) (hcl : y.calls ≤ 255) (L : Nat) (hL : L ≤ 8) (hN : nextP (y.calls + 1) = 2 ^ L) (v seeds j : KL f) (hl : v.length = y.nin) (hjl : j.length = y.joint) (hsl : seeds.length = y.arity) (vl vs vj : Value) (w : World) (hT : TabW w)
  (hv : SlK w w.heap.size vl v) (hs : SlK w w.heap.size vs seeds) (hj : SlK w w.heap.size vj j) :
  Calls Tryz.prog 38 #[y.val f, vl, vs, vj] w (RetSqN (prvL L (y.gad f) seeds (argOf y v j 1) y.calls y.proof) w) := by
 have HCHK : Hid (∀ wz, Calls Tryz.prog 48 #[y.val f] wz (RetC 0 wz)) := fun wz => by
  have h := circuit_Check_ok hf y hy wz
  rwa [CK.code_ok (by omega)] at h
 have HGAD : Hid (∀ wz, Calls Tryz.prog 27 #[y.val f] wz (RetG2 (y.gad f) wz)) := fun wz => circuit_Gadget2 hf y hy wz
 have hal := CK.arity_le hy
 have hga := gad_arity f y
 have HARI : Hid (∀ wz (B : Nat) (k : Int) (sl : Value) (n : Int), RepG wz B k sl n (y.gad f) → Calls Tryz.prog 28 #[.agg #[.int .u8 k, sl, .int .i64 n]] wz fun e w' => e = .returned (.int .i64 (y.arity : Nat)) ∧ Below wz.heap.size wz w') := fun wz B k sl n h => by
  have h2 := gadget_Arity wz B (y.gad f) k sl n h
  rwa [hga] at h2
 have HBEG : Hid (∀ wz, SlK wz wz.heap.size vs seeds → Calls Tryz.prog 64 #[y.val f, vs] wz (RetBeg (nextP (y.calls + 1)) seeds wz)) := fun wz h => proof_begin y hy (by omega) vs seeds wz h (by omega) (by omega)
 have HRUN : Hid (∀ (wz : World) (E : Nat → Prop) (wE : World) (pb gb yb wb : Nat) (kd : Int) (sl : Value) (nn : Int) (D : Nat → Prop),
   CapP E wE pb gb yb wb kd sl nn [.int .u8 (y.k : Nat), .int .u8 f, .int .i64 (y.b : Nat), .int .i64 (y.l : Nat), .int .i64 (y.m : Nat), .int .i64 (y.c : Nat)] (y.gad f) → SlX D wz vl v → SlX D wz vj j →
   St (InvW wb (nextP (y.calls + 1)) E (Agr E wE) (linesA seeds (argOf y v j 1) (y.gad f).arity) 0) D wz →
   Calls Tryz.prog 32 #[y.val f, vl, vj, .int .i64 1, .func (.func 84) #[] #[.pointer (some ⟨pb, 0, none⟩), .pointer (some ⟨gb, 0, none⟩), .pointer (some ⟨yb, 0, none⟩)]] wz fun e w' =>
    e = .returned (.tuple #[vK (dirF y v j), .int .i64 0]) ∧ Exc D wz.heap.size wz w' ∧ ∃ D', St (InvW wb (nextP (y.calls + 1)) E (Agr E wE) (linesA seeds (argOf y v j 1) (y.gad f).arity) y.calls) D' w' ∧ ∀ q, D' q → D q ∨ wz.heap.size ≤ q) := fun wz E wE pb gb yb wb kd sl nn D hC h1 h2 h3 => by
  have h := circuit_RunOk hf y hy (by omega) 1 1 (.inl rfl) (by rw [nK_one, kinv_one]) v j _ _ D _ _ 0 (asked_prove hf y hy (by omega) v j seeds E wE pb gb yb wb kd sl nn hC hga) hl hjl vl vj wz h1 h2 h3
  refine h.mono ?_
  rintro e w' ⟨⟨_, rfl, D', hst, hD⟩ | ⟨h0, _⟩, hE⟩
  ·refine ⟨?_, hE, D', hst, hD⟩
   rw [runF_dir y hy v j hl]
  ·exact absurd rfl h0
 have hN4 := (nextP_le (y.calls + 1)).2
 have h8 : 2 ^ L ≤ 256 := Nat.le_trans (Nat.pow_le_pow_right (by omega) hL) (by decide)
 obtain ⟨L', hL', hN', hN2'⟩ := nextP_pow (y.calls + 1) (by omega)
 have hcN : y.calls + 1 ≤ nextP (y.calls + 1) := by rw [hN']; exact hN2'
 have HFUL : Hid (∀ (wz : World) (wb lb cp : Nat) (us : List Value), WrI wb lb cp (nextP (y.calls + 1)) us (linesA seeds (argOf y v j 1) (y.gad f).arity y.calls) wz → Calls Tryz.prog 68 #[.pointer (some ⟨wb, 0, none⟩)] wz (RetFull ((linesA seeds (argOf y v j 1) (y.gad f).arity y.calls).map fun l => l ++ List.replicate (2 ^ L - (y.calls + 1)) 0) wz)) := fun wz wb lb cp us h => by
  have h2 := proof_full wb lb cp (nextP (y.calls + 1)) (y.calls + 1) us _ wz h (fun i l h => linesA_at _ _ _ _ _ _ h) (by omega) hcN (by omega) (by rw [linesA_length]; omega)
  rwa [hN] at h2
 have HCOE : Hid (∀ (wz : World) (u : Value) (l : KL f), l.length = 2 ^ L → TabW wz → SlK wz wz.heap.size u l → Calls Tryz.prog 35 #[.int .u8 f, u] wz (RetBlk0 (coefsK L l) wz)) := fun wz u l h1 h2 h3 => ntt_Coefs hf L (by omega) u l h1 wz h2 h3
 have HPOL := Lib.hid (fun (wz : World) (k : Int) (sl : Value) (n : Int) (b c : Nat) (us : List Value) (ps : List (KL f)) (h1 : RepG wz wz.heap.size k sl n (y.gad f)) (h2 : TabW wz) (h3 : RowS wz b 0 us) (h4 : b < wz.heap.size) (h5 : PsK wz us ps) (h6 : ∀ i, (ps.getD i []).length ≤ 300) (h7 : ps.length = (y.gad f).arity) => gadget_Poly hf wz (y.gad f) k sl n h1 h2 b 0 c us ps h3 h4 h5 h6 h7)
 have HPRF : Hid (∀ wz, Calls Tryz.prog 21 #[y.val f] wz (RetI y.proof wz)) := fun wz => circuit_Proof hf y hy (by omega) wz
 have hplen : (prvA L (y.gad f) seeds (argOf y v j 1) y.calls).length ≤ y.proof := by
  unfold prvA CK.proof
  have h1 : (gpoly (y.gad f) (polysA L seeds (argOf y v j 1) y.calls (y.gad f).arity)).length ≤ (y.gad f).degree * (2 ^ L - 1) + 1 := gpoly_le fun i => by
   unfold polysA
   rw [List.getD_eq_getElem?_getD, List.getElem?_map]
   cases hr : (List.range (y.gad f).arity)[i]? with
   | none => simp
   | some q => simp [coefsK_length]
  rw [gad_degree] at h1
  rw [List.length_append, hsl, hN]
  omega
 have hlz : linesA seeds (argOf y v j 1) (y.gad f).arity 0 = seeds.map fun x => [x] := linesA_zero _ _ _ (by rw [hga, hsl])
 obtain ⟨A, c, rfl, hsc, _, _⟩ := id hs
 have HSD := Lib.hid hs
 have HV := Lib.hid hv
 have HJ := Lib.hid hj
 have HT := Lib.hid hT
 have HLZ := Lib.hid hlz
 have HTT : Hid (y.proof ≤ 1000000) := by
  show y.arity + 2 * (nextP (y.calls + 1) - 1) + 1 ≤ _
  omega
 have HPL := Lib.hid hplen
 have HSL := Lib.hid hsl
 have HGA := Lib.hid hga
 have HNN := Lib.hid hN
 rw [hsl] at hsc HSD HBEG ⊢
 have HAL : Hid (1 ≤ y.arity ∧ y.arity ≤ 32) := hal
 have HNC : Hid (y.calls + 1 ≤ 2 ^ L) := by rw [← hN]; exact hcN
 have H8 := Lib.hid h8
 clear hlz hplen hsl hga hN hs hv hj hT hl hjl hN4 hcN hN' hN2' hL' hcl hal h8
 unfold CK.val at HCHK HGAD HBEG HRUN HPRF ⊢
 generalize y.gad f = gd at *
 generalize argOf y v j 1 = args at *
 generalize y.calls = nc at *
 generalize y.proof = tot at *
 generalize y.arity = ar at *
 generalize dirF y v j = dir at *
 generalize ((y.k : Nat) : Int) = K at *
 generalize ((y.b : Nat) : Int) = B at *
 generalize ((y.l : Nat) : Int) = NN at *
 generalize ((y.m : Nat) : Int) = M at *
 generalize ((y.c : Nat) : Int) = C at *
 clear hy
 go_enter Tryz.func38, Tryz.ntmps38
 go_upto_region 1 with fail
 have hyy := Vs.new w [.int .u8 K, .int .u8 f, .int .i64 B, .int .i64 NN, .int .i64 M, .int .i64 C] #[.int .u8 K, .int .u8 f, .int .i64 B, .int .i64 NN, .int .i64 M, .int .i64 C] 30 rfl
 have hb00 : Below w.heap.size w (w.alloc (.cells #[.int .u8 K, .int .u8 f, .int .i64 B, .int .i64 NN, .int .i64 M, .int .i64 C] 30)) := by repeat (first | exact bA | with_reducible assumption | apply bB)
 have hszn : w.heap.size + 1 ≤ (w.alloc (.cells #[.int .u8 K, .int .u8 f, .int .i64 B, .int .i64 NN, .int .i64 M, .int .i64 C] 30)).heap.size := by simp only [World.size_alloc]; omega
 generalize (w.alloc (.cells #[.int .u8 K, .int .u8 f, .int .i64 B, .int .i64 NN, .int .i64 M, .int .i64 C] 30)) = w1 at hyy hb00 hszn ⊢
 obtain ⟨⟨yy0, yy1, yy2, yy3, yy4, yy5⟩, ⟨yy6, yy7, yy8, yy9, yy10, yy11⟩, yy12⟩ := hyy.get6
 go_upto_region 2 with (go_at_call 48; refine (HCHK.out _).mono ?_; rintro e w2 ⟨rfl, hb2⟩)
 clear yy0 yy1 yy2 yy3 yy4 yy5 yy6 yy7 yy8 yy9 yy10 yy11 yy12
 replace hb00 := bl_call hb00 (Nat.le_refl _) hb2
 replace hyy := hyy.call hb2
 clear hb2
 obtain ⟨⟨yy0, yy1, yy2, yy3, yy4, yy5⟩, ⟨yy6, yy7, yy8, yy9, yy10, yy11⟩, yy12⟩ := hyy.get6
 have hyy0 : w.heap.size < w2.heap.size := hyy.lt
 go_upto_region 5 with (go_at_call 27; refine (HGAD.out _).mono ?_; rintro e w3 ⟨kd, sl, nn, rfl, hR3, hb3, hSL3⟩; obtain ⟨A2, a2, c2, rfl⟩ := RepG.sl hR3)
 clear yy0 yy1 yy2 yy3 yy4 yy5 yy6 yy7 yy8 yy9 yy10 yy11 yy12
 have h23 := hb3.size
 replace hb00 := bl_call hb00 (Nat.le_refl _) hb3
 replace hyy := hyy.call hb3
 clear hb3
 have hgg := Vs.new w3 [.int .u8 kd, .slice A2 a2 c2, .int .i64 nn] #[.int .u8 kd, .slice A2 a2 c2, .int .i64 nn] 54 rfl
 have hbA : Below w3.heap.size w3 (w3.alloc (.cells #[.int .u8 kd, .slice A2 a2 c2, .int .i64 nn] 54)) := (Below.refl _ _).alloc (Nat.le_refl _) _
 replace hb00 := bl_call hb00 (Nat.le_refl _) hbA
 replace hyy := hyy.call hbA
 have hR4 := hR3.later hbA
 have hltp := hR3.ltB
 have hsz4 : (w3.alloc (.cells #[.int .u8 kd, .slice A2 a2 c2, .int .i64 nn] 54)).heap.size = w3.heap.size + 1 := World.size_alloc _ _
 obtain ⟨gb, hgb⟩ : ∃ z, w3.heap.size = z := ⟨_, rfl⟩
 generalize w3.alloc (.cells #[.int .u8 kd, .slice A2 a2 c2, .int .i64 nn] 54) = w4 at *
 clear hbA hR3
 rw [hgb] at hgg hsz4 hltp h23
 simp only [hgb]
 clear hgb
 obtain ⟨gg0, gg1, gg2, gg3, gg4, gg5, gg6⟩ := hgg.get3
 go_upto_region 7 with (go_at_call 28; refine (HARI.out _ _ _ _ _ hR4).mono ?_; rintro e w5 ⟨rfl, hb5⟩)
 clear gg0 gg1 gg2 gg3 gg4 gg5 gg6
 have h45 := hb5.size
 replace hb00 := bl_call hb00 (Nat.le_refl _) hb5
 replace hyy := hyy.call hb5
 replace hgg := hgg.call hb5
 replace hR4 := hR4.later hb5
 clear hb5
 obtain ⟨⟨yy0, yy1, yy2, yy3, yy4, yy5⟩, ⟨yy6, yy7, yy8, yy9, yy10, yy11⟩, yy12⟩ := hyy.get6
 go_upto_region 8 with (go_at_call 64; refine (HBEG.out _ (HSD.out.later hb00)).mono ?_; rintro e w6 ⟨wb, lb, cp, us, rfl, hW6, hD6, hb6⟩)
 clear yy0 yy1 yy2 yy3 yy4 yy5 yy6 yy7 yy8 yy9 yy10 yy11 yy12
 have h56 := hb6.size
 replace hb00 := bl_call hb00 (Nat.le_refl _) hb6
 replace hyy := hyy.call hb6
 replace hgg := hgg.call hb6
 replace hR4 := hR4.later hb6
 clear hb6
 have hpp := Vs.new w6 [.pointer (some ⟨wb, 0, none⟩)] #[.pointer (some ⟨wb, 0, none⟩)] 94 rfl
 have hbA : Below w6.heap.size w6 (w6.alloc (.cells #[.pointer (some ⟨wb, 0, none⟩)] 94)) := (Below.refl _ _).alloc (Nat.le_refl _) _
 replace hb00 := bl_call hb00 (Nat.le_refl _) hbA
 replace hyy := hyy.call hbA
 replace hgg := hgg.call hbA
 replace hR4 := hR4.later hbA
 have hW7 := hW6.call hbA
 have hlt6 := hW6.lt
 have hsz7 : (w6.alloc (.cells #[.pointer (some ⟨wb, 0, none⟩)] 94)).heap.size = w6.heap.size + 1 := World.size_alloc _ _
 obtain ⟨pb, hpb⟩ : ∃ z, w6.heap.size = z := ⟨_, rfl⟩
 generalize w6.alloc (.cells #[.pointer (some ⟨wb, 0, none⟩)] 94) = w7 at *
 clear hbA hW6
 rw [hpb] at hpp hsz7 hlt6 h56
 simp only [hpb]
 clear hpb
 obtain ⟨E, hEd⟩ : ∃ E : Nat → Prop, E = fun q => (w.heap.size ≤ q ∧ q < w5.heap.size) ∨ q = pb := ⟨_, rfl⟩
 obtain ⟨D, hDd⟩ : ∃ D : Nat → Prop, D = fun q => WrD wb lb us q ∨ E q := ⟨_, rfl⟩
 have hCap : CapP E w7 pb gb w.heap.size wb kd (.slice A2 a2 c2) nn [.int .u8 K, .int .u8 f, .int .i64 B, .int .i64 NN, .int .i64 M, .int .i64 C] gd := by
  rw [hEd]
  exact ⟨hpp, hgg, hyy, hR4, .inr rfl, .inl (by omega), .inl (by omega), fun p a c h => .inl (by have h1 := hSL3 p a c h; have h2 := hltp p a c h; omega), fun q hq => by rcases hq with hq | hq <;> omega⟩
 have hElo : ∀ q, E q → w.heap.size ≤ q := fun q hq => by
  rw [hEd] at hq
  rcases hq with hq | hq <;> omega
 have hDlo : ∀ q, D q → w.heap.size ≤ q := fun q hq => by
  rw [hDd] at hq
  rcases hq with hq | hq
  ·have := hD6 q hq
   omega
  ·exact hElo q hq
 have hst7 : St (InvW wb (nextP (nc + 1)) E (Agr E w7) (linesA seeds args gd.arity) 0) D w7 := by
  rw [hDd]
  refine InvW.st ⟨lb, cp, us, ?_, fun q => Iff.rfl, fun q hq hw => ?_, fun q _ => rfl⟩ (fun w h q hq => h.lt hq (hCap.lt q hq)) (fun w w' h hb q hq => (hb q hq).trans (h q hq))
  ·rw [HLZ.out]
   exact hW7
  ·rw [hEd] at hq
   rcases hq with hq | hq
   ·have := hD6 q hw
    omega
   ·have := hlt6 q hw
    omega
 have hx1 : SlX D w7 vl v := (HV.out.below hb00).out hb00.size hDlo
 have hx2 : SlX D w7 vj j := (HJ.out.below hb00).out hb00.size hDlo
 have HR7 := Lib.hid (HRUN.out w7 E w7 pb gb w.heap.size wb kd (.slice A2 a2 c2) nn D hCap hx1 hx2 hst7)
 have HCAP := Lib.hid hCap
 have HDLO := Lib.hid hDlo
 have HELO := Lib.hid hElo
 have HB7 := Lib.hid hb00
 have hmf : ∀ (fn : Fn) (first cap : Array Value) (w : World), (Instr.makeFunc fn first cap).run Tryz.prog w = .ok (.func fn first cap) w := fun _ _ _ _ => rfl
 have hplt := hpp.lt
 have hglt := hgg.lt
 clear hCap hDlo hElo hst7 hx1 hx2 hEd hDd hb00 hR4 hW7 hD6 hlt6 hSL3 hltp hgg HRUN HBEG HARI HGAD HCHK
 obtain ⟨p0, p1, p2⟩ := hpp.get1
 obtain ⟨⟨yy0, yy1, yy2, yy3, yy4, yy5⟩, ⟨yy6, yy7, yy8, yy9, yy10, yy11⟩, yy12⟩ := hyy.get6
 go_upto_region 9 with (go_at_call 32; refine HR7.out.mono ?_; rintro e w8 ⟨rfl, hE8, D8, hst8, hD8⟩)
 clear yy0 yy1 yy2 yy3 yy4 yy5 yy6 yy7 yy8 yy9 yy10 yy11 yy12
 clear p0 p1 p2 hyy hpp hplt hglt
 have hb78 : Below w.heap.size w7 w8 := (hE8.mono HB7.out.size).below fun k hk hD => by have := HDLO.out k hD; omega
 have hb00 := HB7.out.trans hb78
 obtain ⟨lb8, cp8, us8, hW8, hDD8, hEW8, hAg8⟩ := hst8.here
 obtain ⟨hpp, hgg, hyy, hR8⟩ := HCAP.out.at hAg8
 clear hb78 hDD8 hEW8 hAg8 hst8 hE8 hD8
 have hbA : Below w8.heap.size w8 (w8.alloc (.cells #[.int .u64 (lo dir), .int .u64 (hi dir)] 36)) := (Below.refl _ _).alloc (Nat.le_refl _) _
 replace hb00 := bl_call hb00 (Nat.le_refl _) hbA
 replace hyy := hyy.call hbA
 replace hgg := hgg.call hbA
 replace hpp := hpp.call hbA
 replace hR8 := hR8.later hbA
 have hW9 := hW8.call hbA
 generalize w8.alloc (.cells #[.int .u64 (lo dir), .int .u64 (hi dir)] 36) = w9 at *
 clear hbA hW8
 have HFU := Lib.hid (HFUL.out w9 wb lb8 cp8 us8 hW9)
 obtain ⟨PS, hPS⟩ : ∃ PS, ((linesA seeds args gd.arity nc).map fun l => l ++ List.replicate (2 ^ L - (nc + 1)) 0) = PS := ⟨_, rfl⟩
 have HPSL : Hid (PS.length = ar) := by rw [← hPS, List.length_map, linesA_length]; exact HGA.out
 have HPSP : Hid (PS.map (coefsK L) = polysA L seeds args nc gd.arity) := by rw [← hPS]; exact linesA_polys L seeds args gd.arity nc
 have HPSN : Hid (∀ (i : Nat) (l : KL f), PS[i]? = some l → l.length = 2 ^ L) := fun i l h => by
  rw [← hPS, List.getElem?_map] at h
  cases hq : (linesA seeds args gd.arity nc)[i]? with
  | none => rw [hq] at h; cases h
  | some l' =>
   rw [hq] at h
   injection h with h
   have := linesA_at _ _ _ _ _ _ hq
   rw [← h, List.length_append, List.length_replicate]
   have := HNC.out
   omega
 rw [hPS] at HFU
 clear hPS hW9 HFUL
 obtain ⟨p0, p1, p2⟩ := hpp.get1
 go_wp2_with (go_at_call 68; refine HFU.out.mono ?_; rintro e w10 ⟨vf, usf, rfl, hFI⟩; have hFr := hFI.rows; rw [HPSL.out] at hFr; obtain ⟨gf, cf, rfl⟩ := own_sliceP hFr HAL.out.1)
 clear p0 p1 p2 hFr
 have hbl := hFI.bl
 replace hb00 := bl_call hb00 (Nat.le_refl _) hbl
 replace hyy := hyy.call hbl
 replace hgg := hgg.call hbl
 replace hpp := hpp.call hbl
 replace hR8 := hR8.later hbl
 have hT10 := HT.out.call hb00
 have HT10 := Lib.hid hT10
 obtain ⟨hrow, hglf, hus⟩ : RowS w10 gf 0 usf ∧ gf < w10.heap.size ∧ usf.length = ar := by
  have h := hFI.rows
  rw [HPSL.out] at h
  obtain ⟨g', c', hv', h1, _, h2, h3, _⟩ := own_rowS HAL.out.1 h
  injection hv' with e1
  injection e1 with e1
  injection e1 with e1
  subst e1
  exact ⟨h1, h2, h3⟩
 have HROW := Lib.hid hrow
 have HGLF := Lib.hid hglf
 have HUSL := Lib.hid hus
 have hpk := hFI.ps.toK
 have HPK := Lib.hid hpk
 have HB10 := Lib.hid hb00
 have HYY := Lib.hid hyy
 have HGG := Lib.hid hgg
 have HR10 := Lib.hid hR8
 have hF0 : FuI w10 [] ((PS.take 0).map (coefsK L)) (.slice none 0 0) 0 w10 := ⟨World.ownsRow_nil _ _ _ _, PsX.nil _ _, Below.refl _ _⟩
 have har32 : ar ≤ 32 := HAL.out.2
 clear hbl hT10 hrow hglf hus hpk hb00 hyy hgg hpp hR8 hFI
 go_loopw [15, 51] (fun v15 iv wr => ∃ (i : Nat) (us : List Value) (vp : Value), i ≤ ar ∧ iv = .int .i64 i ∧ vp = v15 ∧ FuI w10 us ((PS.take i).map (coefsK L)) vp i wr) (fun _ iv _ => ar - (intOf iv).toNat)
 case atStart => exact ⟨0, [], _, Nat.zero_le _, rfl, rfl, hF0⟩
 case round =>
  clear hF0
  obtain ⟨i, us, vp, hin, rfl, rfl, hFI⟩ := hrel
  by_cases hlt : i < ar
  ·obtain ⟨u, hu⟩ : ∃ u, usf[i]? = some u := ⟨_, List.getElem?_eq_getElem (by rw [HUSL.out]; exact hlt)⟩
   obtain ⟨l, hl⟩ : ∃ l, PS[i]? = some l := ⟨_, List.getElem?_eq_getElem (by rw [HPSL.out]; exact hlt)⟩
   have hb := hFI.bl
   have huc := (HROW.out.below hb HGLF.out) i u hu
   rw [Nat.zero_add] at huc
   have hgl : gf < wr.heap.size := Nat.lt_of_lt_of_le HGLF.out hb.size
   have hsu : SlK wr wr.heap.size u l := (HPK.out.later hb).at' i u l hu hl
   obtain ⟨Au, cu, hvu, _, _, _⟩ := id hsu
   have hyy := HYY.out.call hb
   have HCO := Lib.hid (HCOE.out wr u l (HPSN.out i l hl) (HT10.out.call hb) hsu)
   have HLI := Lib.hid hl
   have HFI := Lib.hid hFI
   have g1 : (0 : Int) ≤ (i : Int) := by omega
   have g2 : (i : Int) < (ar : Int) := by omega
   rw [hvu] at huc HCO
   clear hb hsu hvu hl hu hFI
   obtain ⟨⟨yy0, yy1, yy2, yy3, yy4, yy5⟩, ⟨yy6, yy7, yy8, yy9, yy10, yy11⟩, yy12⟩ := hyy.get6
   go_upto_region 16 with (go_at_call 35; refine HCO.out.mono ?_; rintro e w11 ⟨g, rfl, hRw, hgw, hb11⟩)
   clear yy0 yy1 yy2 yy3 yy4 yy5 yy6 yy7 yy8 yy9 yy10 yy11 yy12
   clear huc hyy hgl
   obtain ⟨n9, hn9⟩ : ∃ z, (coefsK L l).length = z := ⟨_, rfl⟩
   have hn256 : n9 ≤ 256 := by rw [← hn9, coefsK_length]; exact H8.out
   have HN9 := Lib.hid hn9
   simp only [hn9]
   clear hn9
   go_upto_region 18 with fail
   have hFI12 := (HFI.out.call hb11).call ((Below.refl w11.heap.size w11).alloc (Nat.le_refl _) (.cells #[.slice (some ⟨g, 0, none⟩) n9 n9] 24))
   have hcell := (Vs.new w11 [.slice (some ⟨g, 0, none⟩) n9 n9] #[.slice (some ⟨g, 0, none⟩) n9 n9] 24 rfl).get1.1
   have hX11 : SlX (fun b => vp.ownBlock = some b ∨ False) w11 (.slice (some ⟨g, 0, none⟩) n9 n9) (coefsK L l) := SlX.of HN9.out (Nat.le_refl _) (by omega) hRw.lt (fun hs => by
    rcases hs with hs | hs
    ·have := (HFI.out.rows.lt g hs).2
     omega
    ·exact hs) hRw.row
   have hX12 := hX11.call ((Below.refl w11.heap.size w11).alloc (Nat.le_refl _) (.cells #[.slice (some ⟨g, 0, none⟩) n9 n9] 24))
   have HFI12 := Lib.hid hFI12
   have HCELL := Lib.hid hcell
   have HX12 := Lib.hid hX12
   have hi6 : i + 1 ≤ 1000000 := by omega
   clear hFI12 hcell hX11 hX12 hRw hgw hb11
   go_upto_region 19 with (at_builtin; (refine wpList_append_Fu rfl (.tmp 65) (.tmp 67) rfl w10 us _ _ i rfl HFI12.out w11.heap.size 1 (.slice (some ⟨g, 0, none⟩) n9 n9) (coefsK L l) rfl HCELL.out HX12.out hi6 ?_; intro q w13 hFI13))
   have HF13 := Lib.hid hFI13
   clear hFI13
   go_wp2_with fail
   go_roundw
   case rel =>
    refine ⟨i + 1, us ++ [.slice (some ⟨g, 0, none⟩) n9 n9], .slice (some ⟨q.1, 0, none⟩) (i + 1) q.2, by omega, by go_num, rfl, ?_⟩
    have h := HF13.out
    have ht : (PS.take (i + 1)).map (coefsK L) = ((PS.take i).map (coefsK L)) ++ [coefsK L l] := by
     rw [List.take_add_one, HLI.out]
     simp
    rw [ht]
    exact h
   case measure => simp [intOf]; omega
  ·have hie : i = ar := by omega
   simp only [hie]
   rw [hie] at hFI
   rw [List.take_of_length_le (Nat.le_of_eq HPSL.out), HPSP.out] at hFI
   clear hin hlt hie
   have hFr := hFI.rows
   obtain ⟨gp, cq, rfl⟩ := own_sliceP hFr HAL.out.1
   obtain ⟨hrowp, hglp⟩ : RowS wr gp 0 us ∧ gp < wr.heap.size := by
    obtain ⟨g', c', hv', h1, _, h2, _⟩ := own_rowS HAL.out.1 hFr
    injection hv' with e1
    injection e1 with e1
    injection e1 with e1
    subst e1
    exact ⟨h1, h2⟩
   have hb := hFI.bl
   have hyy := HYY.out.call hb
   have hgg := HGG.out.call hb
   have hR := HR10.out.later hb
   have hb00 := bl_call HB10.out (Nat.le_refl _) hb
   have hPO := HPOL.out wr kd (.slice A2 a2 c2) nn gp cq us _ hR (HT10.out.call hb) hrowp hglp hFI.ps.toK (fun i => by
    unfold polysA
    rw [List.getD_eq_getElem?_getD, List.getElem?_map]
    cases hr : (List.range gd.arity)[i]? with
    | none => simp
    | some q =>
     have := H8.out
     simp [coefsK_length]
     omega) (polysA_length _ _ _ _ _)
   rw [polysA_length, HGA.out] at hPO
   have HPA : Hid (∃ P, prvA L gd seeds args nc = seeds ++ P ∧ Calls Tryz.prog 85 #[.agg #[.int .u8 kd, .slice A2 a2 c2, .int .i64 nn], .int .u8 f, .slice (some ⟨gp, 0, none⟩) ar cq] wr (RetSq0 P wr)) := ⟨_, by unfold prvA; rw [HGA.out], hPO⟩
   obtain ⟨P, hPP, hPO⟩ := HPA.out
   have HPO := Lib.hid hPO
   have HPP := Lib.hid hPP
   have hplt : ar + P.length ≤ tot := by
    have h := HPL.out
    rw [hPP, List.length_append, HSL.out] at h
    exact h
   have HPLT := Lib.hid hplt
   have hyl := hyy.lt
   clear hFr hrowp hb hR hPO HPA hPP hplt hFI
   obtain ⟨gg0, gg1, gg2, gg3, gg4, gg5, gg6⟩ := hgg.get3
   obtain ⟨⟨yy0, yy1, yy2, yy3, yy4, yy5⟩, ⟨yy6, yy7, yy8, yy9, yy10, yy11⟩, yy12⟩ := hyy.get6
   go_upto_region 23 with (go_at_call 85; refine HPO.out.mono ?_; rintro e w12 ⟨qp, rfl, hs12, hb12⟩)
   clear gg0 gg1 gg2 gg3 gg4 gg5 gg6 yy0 yy1 yy2 yy3 yy4 yy5 yy6 yy7 yy8 yy9 yy10 yy11 yy12
   replace hb00 := bl_call hb00 (Nat.le_refl _) hb12
   replace hyy := hyy.call hb12
   have hs12 := hs12
   obtain ⟨np, hnp⟩ : ∃ np, P.length = np := ⟨_, rfl⟩
   have HNP := Lib.hid hnp
   rw [hnp] at hs12 HPLT
   simp only [hnp]
   clear hnp hb12 hgg
   obtain ⟨s9, hs9⟩ : ∃ z, ar + np = z := ⟨_, rfl⟩
   obtain ⟨k9, hk9⟩ : ∃ z, tot - s9 = z := ⟨_, rfl⟩
   have HS9 := Lib.hid hs9
   have hst9 : s9 ≤ tot := by rw [← hs9]; exact HPLT.out
   have HTOT : Hid (tot ≤ 1000000) := HTT.out
   have HFIN : Hid (prvL L gd seeds args nc tot = seeds ++ P ++ List.replicate k9 0) := by
    show prvL L gd seeds args nc tot = seeds ++ P ++ List.replicate k9 0
    unfold prvL
    rw [HPP.out, List.length_append, HSL.out, HNP.out, hs9, hk9]
   have HL9 : Hid ((seeds ++ P).length = s9) := by show (seeds ++ P).length = s9; rw [List.length_append, HSL.out, HNP.out, hs9]
   have HK0 : Hid ((tot : Int) - (s9 : Int) = (k9 : Int)) := by show _ = _; omega
   have HK1 : Hid (IntKind.i64.wrap (k9 : Int) = (k9 : Int)) := IntWalk.i64_in _ (by have := HTOT.out; omega)
   have HK2 : Hid (s9 + k9 ≤ 1099511627776) := by have := HTOT.out; show _ ≤ _; omega
   have HB0 : Below w12.heap.size w12 (w12.alloc (.cells #[] 36)) := (Below.refl _ _).alloc (Nat.le_refl _) _
   have HE0 : Hid ((w12.alloc (.cells #[] 36)).ownsRow w12.heap.size 36 2 (.slice (some ⟨w12.heap.size, 0, none⟩) 0 0) 0 (cellsE (esK ([] : KL f)))) := BlkE.own (l := []) (heap_alloc_new w12 _) (by simp) (Nat.le_refl _)
   have HSD12 := Lib.hid (HSD.out.later (bl_call hb00 (Nat.le_refl _) HB0))
   have hle1 := HB0.size
   have hk1 : 0 + ar ≤ 1099511627776 := by omega
   have hm1 : 0 < 0 + ar := by have := HAL.out.1; omega
   have HBB := Lib.hid HB0
   have HB12 := Lib.hid hb00
   have HYY12 := Lib.hid hyy
   have HS12 := Lib.hid hs12
   clear hs9 hk9 hst9 HB0 hb00 hyy hs12
   go_upto_region 24 with (at_builtin; (refine wpList_append_Er rfl (.tmp 81) (.tmp 82) rfl w12.heap.size 0 ar _ _ [] seeds rfl rfl rfl HSL.out HE0.out HSD12.out hle1 hk1 hm1 ?_; intro q1 w14 ho14 hb14; simp only [Nat.zero_add, List.nil_append] at ho14 ⊢))
   have hb24 := HBB.out.trans hb14
   have HS14 := Lib.hid (HS12.out.later hb24)
   have HO14 := Lib.hid ho14
   have HB24 := Lib.hid hb24
   have hle2 := hb24.size
   have hk2 : ar + np ≤ 1099511627776 := by have := HK2.out; have := HS9.out; omega
   have hm2 : 0 < ar + np := by have := HAL.out.1; omega
   clear hb14 ho14 hb24 hle1 hk1 hm1
   go_upto_region 25 with (at_builtin; (refine wpList_append_Er rfl (.tmp 84) (.tmp 85) rfl w12.heap.size ar np _ _ seeds P rfl rfl HSL.out HNP.out HO14.out HS14.out hle2 hk2 hm2 ?_; intro q2 w15 ho15 hb15; simp only [HS9.out] at ho15 ⊢))
   have hb25 := HB24.out.trans hb15
   have hyy := HYY12.out.call hb25
   have HO15 := Lib.hid ho15
   have HB25 := Lib.hid hb25
   have hle3 := hb25.size
   have hz0 := HK0.out
   have hz1 := HK1.out
   clear hb15 ho15 hb25 hle2 hk2 hm2
   obtain ⟨⟨yy0, yy1, yy2, yy3, yy4, yy5⟩, ⟨yy6, yy7, yy8, yy9, yy10, yy11⟩, yy12⟩ := hyy.get6
   go_wp2_with (first
    | (go_at_call 21; refine (HPRF.out _).mono ?_; rintro e w16 ⟨rfl, hb16⟩)
    | (at_builtin; (refine wpList_append_Zr rfl (.tmp 87) (.tmp 92) rfl w12.heap.size q2.1 s9 q2.2 k9 (seeds ++ P) rfl rfl HL9.out (own_call HO15.out hb16) (Nat.le_trans hle3 hb16.size) HK2.out ?_; intro q3 w17 ho17 hb17)))
   go_ret2
   have hlen : (seeds ++ P ++ List.replicate k9 0).length = s9 + k9 := by rw [List.length_append, HL9.out, List.length_replicate]
   rw [HFIN.out]
   refine ⟨(q3.1, q3.2), by rw [hlen]; rfl, Nat.le_trans HB12.out.size (ho17.lt q3.1 rfl).1, by rw [hlen]; exact own_sl hlen ho17, HB12.out.trans (((HB25.out.trans (hb16.mono hle3)).trans hb17).mono HB12.out.size)⟩
theorem proof_Prove (y : CK) (hy : y.ok) (hcl : y.calls ≤ 255) (L : Nat) (hL : L ≤ 8) (hN : nextP (y.calls + 1) = 2 ^ L) (v seeds j : KL f) (hl : v.length = y.nin) (hjl : j.length = y.joint) (hsl : seeds.length = y.arity) (vl vs vj : Value) (w : World) (hT : TabW w)
  (hv : SlK w w.heap.size vl v) (hs : SlK w w.heap.size vs seeds) (hj : SlK w w.heap.size vj j) :
  Calls Tryz.prog 38 #[y.val f, vl, vs, vj] w (RetSq0 (prvL L (y.gad f) seeds (argOf y v j 1) y.calls y.proof) w) :=
 (proof_ProveN hf y hy hcl L hL hN v seeds j hl hjl hsl vl vs vj w hT hv hs hj).mono fun _ _ h => h.sq
end

end Go.Proofs.YtfbfbijkkbflkaaGreatDoor

namespace Go.Proofs.YtfbfbijkkbflkaaGreatDoor
open Go.RowKit Fm
set_option linter.unusedVariables false
set_option maxRecDepth 100000

theorem eK_nK {f : Nat} (hf : IsF f) {n : Nat} (hn : n < 4294967296) : eK (nK f n) = ((n : Int), 0) := by
 rw [nK_kI, eK_kI]
 have h : (n : Int) % (Pm f : Int) = n := by
  rcases hf.or with rfl | rfl
  ·rw [show ((Pm 1 : Nat) : Int) = 18446744069414584321 from rfl]; omega
  ·rw [show ((Pm 2 : Nat) : Int) = 340282366920938462946865773367900766209 from rfl]; omega
 rw [h]
 simp only [eN, Prod.mk.injEq]
 omega

section
variable {f : Nat} (hf : IsF f)
include hf

end

end Go.Proofs.YtfbfbijkkbflkaaGreatDoor

namespace Go.Proofs.YtfbfbijkkbflkaaGreatDoor
open Go.RowKit Fm
set_option linter.unusedVariables false
set_option maxRecDepth 100000

section
variable {f : Nat}
theorem prvA_le (y : CK) (L : Nat) (hN : nextP (y.calls + 1) = 2 ^ L) (seeds : KL f) (hsl : seeds.length = y.arity) (args : Nat → KL f) : (prvA L (y.gad f) seeds args y.calls).length ≤ y.proof := by
 unfold prvA CK.proof
 have h1 : (gpoly (y.gad f) (polysA L seeds args y.calls (y.gad f).arity)).length ≤ (y.gad f).degree * (2 ^ L - 1) + 1 := gpoly_le fun i => by
  unfold polysA
  rw [List.getD_eq_getElem?_getD, List.getElem?_map]
  cases hr : (List.range (y.gad f).arity)[i]? with
  | none => simp
  | some q => simp [coefsK_length]
 rw [gad_degree] at h1
 rw [List.length_append, hsl, hN]
 omega
theorem prvL_length (y : CK) (L : Nat) (hN : nextP (y.calls + 1) = 2 ^ L) (seeds : KL f) (hsl : seeds.length = y.arity) (args : Nat → KL f) : (prvL L (y.gad f) seeds args y.calls y.proof).length = y.proof := by
 have h := prvA_le y L hN seeds hsl args
 unfold prvL
 rw [List.length_append, List.length_replicate]
 omega
theorem prvL_at (L : Nat) (gd : Gad f) (seeds : KL f) (args : Nat → KL f) (n tot i : Nat) (hi : i < seeds.length) : (prvL L gd seeds args n tot)[i]? = seeds[i]? := by
 unfold prvL prvA
 rw [List.append_assoc, List.getElem?_append_left hi]
end

theorem law11_Awake (w : World) (hT : TabW w) : Calls Tryz.prog 10 #[] w fun e w' => e = .returned (.bool true) ∧ Below w.heap.size w w' := by
 have hf : IsF 1 := ⟨.inl rfl⟩
 have HPR : Hid (∀ (wz : World) (b1 b2 : Nat), Below w.heap.size w wz → BlkE wz b1 [((1 : Int), (0 : Int))] → BlkE wz b2 [((3 : Int), (0 : Int)), ((4 : Int), (0 : Int))] →
   Calls Tryz.prog 38 #[.agg #[.int .u8 1, .int .u8 1, .int .i64 0, .int .i64 0, .int .i64 0, .int .i64 0], .slice (some ⟨b1, 0, none⟩) 1 1, .slice (some ⟨b2, 0, none⟩) 2 2, .slice none 0 0] wz fun e w' =>
    ∃ g o c : Nat, e = .returned (.tuple #[.slice (some ⟨g, o, none⟩) 5 c, .int .i64 0]) ∧ w'.cell? ⟨g, o, none⟩ = some (.int .u64 3) ∧ w'.cell? ⟨g, o + 1, none⟩ = some (.int .u64 0) ∧ w'.cell? ⟨g, o + 2, none⟩ = some (.int .u64 4) ∧ w'.cell? ⟨g, o + 3, none⟩ = some (.int .u64 0) ∧ g < w'.heap.size ∧ 5 ≤ c ∧ Below wz.heap.size wz w') := fun wz b1 b2 hb h1 h2 => by
  have e1 : [((1 : Int), (0 : Int))] = esK [nK 1 1] := by unfold esK; rw [List.map_cons, eK_nK hf (by omega)]; rfl
  have e2 : [((3 : Int), (0 : Int)), ((4 : Int), (0 : Int))] = esK [nK 1 3, nK 1 4] := by unfold esK; rw [List.map_cons, List.map_cons, eK_nK hf (by omega), eK_nK hf (by omega)]; rfl
  rw [e1] at h1
  rw [e2] at h2
  have hN : nextP (CK.count.calls + 1) = 2 ^ 1 := by decide
  have h := proof_Prove hf CK.count trivial (by decide) 1 (by omega) hN [nK 1 1] [nK 1 3, nK 1 4] [] rfl rfl rfl (.slice (some ⟨b1, 0, none⟩) 1 1) (.slice (some ⟨b2, 0, none⟩) 2 2) (.slice none 0 0) wz (hT.call hb) (h1.slK (by simp) h1.lt) (h2.slK (by simp) h2.lt) (SlX.nilX (fun _ => False) wz).toK
  refine h.mono ?_
  rintro e w' ⟨q, rfl, hs, hb'⟩
  have hlen := prvL_length (f := 1) CK.count 1 hN [nK 1 3, nK 1 4] rfl (argOf CK.count [nK 1 1] [] 1)
  have a0 := prvL_at (f := 1) 1 (CK.count.gad 1) [nK 1 3, nK 1 4] (argOf CK.count [nK 1 1] [] 1) CK.count.calls CK.count.proof 0 (by simp)
  have a1 := prvL_at (f := 1) 1 (CK.count.gad 1) [nK 1 3, nK 1 4] (argOf CK.count [nK 1 1] [] 1) CK.count.calls CK.count.proof 1 (by simp)
  obtain ⟨A, c, hv, hc, _, hA⟩ := hs
  have h5 : (prvL 1 (CK.count.gad 1) [nK 1 3, nK 1 4] (argOf CK.count [nK 1 1] [] 1) CK.count.calls CK.count.proof).length = 5 := hlen.trans (by decide)
  obtain ⟨b, o, rfl, hbl, hrow⟩ := hA (by omega)
  have k0 := hrow.kat a0
  have k1 := hrow.kat a1
  have c3 : lo (nK 1 3) = 3 ∧ hi (nK 1 3) = 0 := Prod.mk.inj (eK_nK hf (n := 3) (by omega))
  have c4 : lo (nK 1 4) = 4 ∧ hi (nK 1 4) = 0 := Prod.mk.inj (eK_nK hf (n := 4) (by omega))
  rw [c3.1, c3.2] at k0
  rw [c4.1, c4.2] at k1
  rw [h5] at hv hc ⊢
  injection hv with v1 _ v3
  rw [v1, v3]
  exact ⟨b, o, c, rfl, by simpa using k0.1, by simpa using k0.2, by simpa using k1.1, by simpa using k1.2, hbl, hc, hb'⟩
 obtain ⟨w1, hw1⟩ : ∃ z, w.alloc (.cells #[.int .u8 1, .int .u8 1, .int .i64 0, .int .i64 0, .int .i64 0, .int .i64 0] 30) = z := ⟨_, rfl⟩
 obtain ⟨w2, hw2⟩ : ∃ z, w1.alloc (.cells #[.int .u64 1, .int .u64 0] 36) = z := ⟨_, rfl⟩
 obtain ⟨w3, hw3⟩ : ∃ z, w2.alloc (.cells #[.int .u64 3, .int .u64 0, .int .u64 4, .int .u64 0] 36) = z := ⟨_, rfl⟩
 have hs1 : w1.heap.size = w.heap.size + 1 := by rw [← hw1]; exact World.size_alloc _ _
 have hs2 : w2.heap.size = w.heap.size + 1 + 1 := by rw [← hw2, World.size_alloc, hs1]
 have hb01 : Below w.heap.size w w1 := by rw [← hw1]; exact (Below.refl _ _).alloc (Nat.le_refl _) _
 have hb12 : Below w1.heap.size w1 w2 := by rw [← hw2]; exact (Below.refl _ _).alloc (Nat.le_refl _) _
 have hb23 : Below w2.heap.size w2 w3 := by rw [← hw3]; exact (Below.refl _ _).alloc (Nat.le_refl _) _
 have hx2 : BlkE w2 w1.heap.size [((1 : Int), (0 : Int))] := by rw [← hw2]; exact heap_alloc_new w1 _
 have hx3 : BlkE w3 w2.heap.size [((3 : Int), (0 : Int)), ((4 : Int), (0 : Int))] := by rw [← hw3]; exact heap_alloc_new w2 _
 have hb03 : Below w.heap.size w w3 := (hb01.trans (hb12.mono hb01.size)).trans (hb23.mono (Nat.le_trans hb01.size hb12.size))
 have hP := HPR.out w3 _ _ hb03 (hx2.call hb23) hx3
 rw [hs1, hs2] at hP
 have HP := Lib.hid hP
 have HB := Lib.hid hb03
 have HW : Hid (((w.alloc (.cells #[.int .u8 1, .int .u8 1, .int .i64 0, .int .i64 0, .int .i64 0, .int .i64 0] 30)).alloc (.cells #[.int .u64 1, .int .u64 0] 36)).alloc (.cells #[.int .u64 3, .int .u64 0, .int .u64 4, .int .u64 0] 36) = w3) := by show _ = _; rw [hw1, hw2, hw3]
 clear hP hb03 hx2 hx3 hb01 hb12 hb23 hs1 hs2 hw1 hw2 hw3
 have EQL : ∀ (a0 a1 b0 b1 : Int) (wz : World), (Op.equalIn 10000 36 (.agg #[.int .u64 a0, .int .u64 a1]) (.agg #[.int .u64 b0, .int .u64 b1])).run Tryz.prog wz = .ok (a0 == b0 && a1 == b1) wz := fun a0 a1 b0 b1 wz => run_equalIn_elem 9998 a0 a1 b0 b1 wz
 go_enter Tryz.func10, Tryz.ntmps10
 go_wp2_with (go_at_call 38; rw [HW.out]; refine HP.out.mono ?_; rintro e w4 ⟨g, o, c, rfl, c0, c1, c2, c3, c4, c5, hb4⟩)
 go_ret
 exact ⟨rfl, HB.out.trans (hb4.mono HB.out.size)⟩

end Go.Proofs.YtfbfbijkkbflkaaGreatDoor

namespace Go.Proofs.YtfbfbijkkbflkaaGreatDoor
open Go.RowKit Fm
set_option linter.unusedVariables false
set_option maxRecDepth 100000

section
variable {f : Nat} (hf : IsF f)
include hf

set_option maxHeartbeats 4000000 in
theorem law11_outside (y : CK) (hy : y.ok) (hcl : y.calls ≤ 511) (L : Nat) (hL : L ≤ 10) (hN : nextP (y.calls + 1) = 2 ^ L) (e0 e1 : Int) (q0 : 0 ≤ e0) (q1 : e0 ≤ 18446744073709551615) (q2 : 0 ≤ e1) (q3 : e1 ≤ 18446744073709551615) (w : World) (hT : TabW w) :
  Calls Tryz.prog 23 #[y.val f, .agg #[.int .u64 e0, .int .u64 e1]] w fun e w' => e = .returned (.tuple #[vK (kL f e0 e1), .bool (!(pows (rootK f L) (2 ^ L)).any (fun p => decide (p = kL f e0 e1)))]) ∧ Below w.heap.size w w' := by
 have HO := Lib.hid (fun wz => ref_OfL hf e0 e1 wz q0 q1 q2 q3)
 have HD : Hid (∀ wz, Calls Tryz.prog 30 #[y.val f] wz (RetI (2 ^ L) wz)) := fun wz => by
  have h := circuit_Domain f y hy hcl wz
  rwa [hN] at h
 have HLG : Hid (∀ wz, Below w.heap.size w wz → Calls Tryz.prog 29 #[.int .i64 ((2 ^ L : Nat) : Int)] wz fun e w' => e = .returned (.tuple #[.int .i64 L, .bool true]) ∧ wz = w') := fun wz h => ntt_Log_ok L hL wz (hT.call h)
 have HPT := Lib.hid (fun wz => ntt_Points hf L hL wz)
 obtain ⟨x, hx⟩ : ∃ x, kL f e0 e1 = x := ⟨_, rfl⟩
 obtain ⟨PTS, hP⟩ : ∃ P, pows (rootK f L) (2 ^ L) = P := ⟨_, rfl⟩
 obtain ⟨N, hNN⟩ : ∃ N, 2 ^ L = N := ⟨_, rfl⟩
 have hPl : PTS.length = N := by rw [← hP, pows, ofF_length, hNN]
 have hN1 : N ≤ 1024 := by rw [← hNN]; exact Nat.le_trans (Nat.pow_le_pow_right (by omega) hL) (by decide)
 have HPL := Lib.hid hPl
 rw [hx] at HO ⊢
 rw [hP] at HPT ⊢
 rw [hNN] at HD HLG
 have hfb0 : (1 : Int) ≤ (f : Int) := by rcases hf.or with rfl | rfl <;> omega
 have hfb1 : (f : Int) ≤ 2 := by rcases hf.or with rfl | rfl <;> omega
 have hwf : IntKind.i64.wrap (f : Int) = (f : Int) := IntWalk.i64_in _ (by omega)
 unfold CK.val at HD ⊢
 generalize ((y.k : Nat) : Int) = K at *
 generalize ((y.b : Nat) : Int) = B at *
 generalize ((y.l : Nat) : Int) = NN at *
 generalize ((y.m : Nat) : Int) = M at *
 generalize ((y.c : Nat) : Int) = C at *
 clear hy hcl hN hx hP hNN hPl hT
 go_enter Tryz.func23, Tryz.ntmps23
 go_upto_region 1 with fail
 have hyy := ((Vs.new w [.int .u8 K, .int .u8 f, .int .i64 B, .int .i64 NN, .int .i64 M, .int .i64 C] #[.int .u8 K, .int .u8 f, .int .i64 B, .int .i64 NN, .int .i64 M, .int .i64 C] 30 rfl).alloc (.cells #[.int .u64 e0, .int .u64 e1] 36)).alloc (.cells #[.int .u64 0, .int .u64 0] 36)
 have hxx := (V2.new (w.alloc (.cells #[.int .u8 K, .int .u8 f, .int .i64 B, .int .i64 NN, .int .i64 M, .int .i64 C] 30)) (.int .u64 e0) (.int .u64 e1) 36).alloc (.cells #[.int .u64 0, .int .u64 0] 36)
 have hrr := V2.new ((w.alloc (.cells #[.int .u8 K, .int .u8 f, .int .i64 B, .int .i64 NN, .int .i64 M, .int .i64 C] 30)).alloc (.cells #[.int .u64 e0, .int .u64 e1] 36)) (.int .u64 0) (.int .u64 0) 36
 simp only [World.size_alloc] at hxx hrr
 have hb00 : Below w.heap.size w (((w.alloc (.cells #[.int .u8 K, .int .u8 f, .int .i64 B, .int .i64 NN, .int .i64 M, .int .i64 C] 30)).alloc (.cells #[.int .u64 e0, .int .u64 e1] 36)).alloc (.cells #[.int .u64 0, .int .u64 0] 36)) := by repeat (first | exact bA | with_reducible assumption | apply bB)
 have hszn : w.heap.size + 3 ≤ (((w.alloc (.cells #[.int .u8 K, .int .u8 f, .int .i64 B, .int .i64 NN, .int .i64 M, .int .i64 C] 30)).alloc (.cells #[.int .u64 e0, .int .u64 e1] 36)).alloc (.cells #[.int .u64 0, .int .u64 0] 36)).heap.size := by simp only [World.size_alloc]; omega
 generalize (((w.alloc (.cells #[.int .u8 K, .int .u8 f, .int .i64 B, .int .i64 NN, .int .i64 M, .int .i64 C] 30)).alloc (.cells #[.int .u64 e0, .int .u64 e1] 36)).alloc (.cells #[.int .u64 0, .int .u64 0] 36)) = w1 at hyy hxx hrr hb00 hszn ⊢
 obtain ⟨⟨yy0, yy1, yy2, yy3, yy4, yy5⟩, ⟨yy6, yy7, yy8, yy9, yy10, yy11⟩, yy12⟩ := hyy.get6
 obtain ⟨xx0, xx1, xx2, xx3, xx4⟩ := V2.mk hxx.c0 hxx.c1 hxx.f0 hxx.f1 hxx.lt
 go_upto_region 2 with (go_at_call 44; refine (HO.out _).mono ?_; rintro e w2 ⟨rfl, hb2⟩; have HB2 := Lib.hid hb2; obtain ⟨t0, t1, t2, t3, t4⟩ := hxx.call hb2; clear hb2)
 clear yy0 yy1 yy2 yy3 yy4 yy5 yy6 yy7 yy8 yy9 yy10 yy11 yy12 xx0 xx1 xx2 xx3 xx4
 have hb2 := HB2.out
 clear HB2 t0 t1 t2 t3 t4
 have hlx : w.heap.size < w.heap.size + 1 := Nat.lt_succ_self _
 replace hb00 := bl_call hb00 (Nat.le_refl _) hb2
 replace hyy := hyy.call hb2
 replace hxx := hxx.call hb2
 replace hrr := hrr.call hb2
 replace hxx : V2 ((w2.setCell ⟨(w.heap.size + 1), 0, none⟩ (.int .u64 (lo x))).setCell ⟨(w.heap.size + 1), 1, none⟩ (.int .u64 (hi x))) ((w.heap.size + 1)) (.int .u64 (lo x)) (.int .u64 (hi x)) := V2.set hxx _ _
 replace hrr := V2.oth hrr (b := (w.heap.size + 1)) (by omega) (.int .u64 (lo x)) (.int .u64 (hi x))
 replace hyy := (hyy.far (p := ⟨(w.heap.size + 1), 0, none⟩) (by dsimp only; omega) (.int .u64 (lo x))).far (p := ⟨(w.heap.size + 1), 1, none⟩) (by dsimp only; omega) (.int .u64 (hi x))
 replace hb00 := bl_st hb00 (b := (w.heap.size + 1)) (by omega) (.int .u64 (lo x)) (.int .u64 (hi x))
 generalize ((w2.setCell ⟨(w.heap.size + 1), 0, none⟩ (.int .u64 (lo x))).setCell ⟨(w.heap.size + 1), 1, none⟩ (.int .u64 (hi x))) = w3 at hxx hrr hb00 hyy ⊢
 clear hb2
 obtain ⟨⟨yy0, yy1, yy2, yy3, yy4, yy5⟩, ⟨yy6, yy7, yy8, yy9, yy10, yy11⟩, yy12⟩ := hyy.get6
 go_upto_region 3 with (first
  | (go_at_call 30; refine (HD.out _).mono ?_; rintro e w4 ⟨rfl, hb4⟩)
  | (go_at_call 29; refine (HLG.out _ (bl_call hb00 (Nat.le_refl _) hb4)).mono ?_; rintro e w5 ⟨rfl, rfl⟩))
 clear yy0 yy1 yy2 yy3 yy4 yy5 yy6 yy7 yy8 yy9 yy10 yy11 yy12
 replace hb00 := bl_call hb00 (Nat.le_refl _) hb4
 replace hyy := hyy.call hb4
 replace hxx := hxx.call hb4
 replace hrr := hrr.call hb4
 clear hb4
 obtain ⟨⟨yy0, yy1, yy2, yy3, yy4, yy5⟩, ⟨yy6, yy7, yy8, yy9, yy10, yy11⟩, yy12⟩ := hyy.get6
 go_wp2_with (go_at_call 31; refine (HPT.out _).mono ?_; rintro e w6 ⟨vp, rfl, hop, hb6⟩; rw [HPL.out] at hop; obtain ⟨Ap, cp, rfl⟩ := own_shape hop)
 clear yy0 yy1 yy2 yy3 yy4 yy5 yy6 yy7 yy8 yy9 yy10 yy11 yy12
 replace hb00 := bl_call hb00 (Nat.le_refl _) hb6
 replace hyy := hyy.call hb6
 replace hxx := hxx.call hb6
 replace hrr := hrr.call hb6
 have hsp := own_sl HPL.out hop
 have HSP := Lib.hid hsp
 have EQL : ∀ (a0 a1 b0 b1 : Int) (wz : World), (Op.equalIn 10000 36 (.agg #[.int .u64 a0, .int .u64 a1]) (.agg #[.int .u64 b0, .int .u64 b1])).run Tryz.prog wz = .ok (a0 == b0 && a1 == b1) wz := fun a0 a1 b0 b1 wz => run_equalIn_elem 9998 a0 a1 b0 b1 wz
 have hb66 : Below w6.heap.size w6 w6 := Below.refl _ _
 have hny : Hid ((PTS.take 0).any (fun p => decide (p = x)) = false) := rfl
 clear hb6 hop hsp hyy
 go_loopw [32] (fun iv wr => ∃ k : Nat, k ≤ N ∧ iv = .int .i64 k ∧ Hid ((PTS.take k).any (fun p => decide (p = x)) = false) ∧ V2 wr (w.heap.size + 1) (.int .u64 (lo x)) (.int .u64 (hi x)) ∧ V2 wr (w.heap.size + 1 + 1) (.int .u64 0) (.int .u64 0) ∧ Below w.heap.size w wr ∧ Below w6.heap.size w6 wr) (fun iv _ => N - (intOf iv).toNat)
 case atStart => exact ⟨0, Nat.zero_le _, rfl, hny, hxx, hrr, hb00, hb66⟩
 case round =>
  clear hxx hrr hb00 hb66 hny
  obtain ⟨k, hk, rfl, hny, hxx, hrr, hb00, hb66⟩ := hrel
  by_cases hlt : k < N
  ·obtain ⟨p, hp⟩ : ∃ p, PTS[k]? = some p := ⟨_, List.getElem?_eq_getElem (by rw [HPL.out]; exact hlt)⟩
   have hsk := HSP.out.later hb66
   obtain ⟨A', c', hv', _, _, hA⟩ := hsk
   obtain ⟨b, o, hAe, hbl, hrow⟩ := hA (by rw [HPL.out]; omega)
   injection hv' with v1 _ _
   rw [hAe] at v1
   subst v1
   obtain ⟨d0, d1⟩ := hrow.kat hp
   have HP := Lib.hid hp
   have g1 : (0 : Int) ≤ (k : Int) := by omega
   have g2 : (k : Int) < (N : Int) := by omega
   clear hA hAe hrow hp
   go_upto_region 7 with fail
   have hpp := V2.new wr (.int .u64 (lo p)) (.int .u64 (hi p)) 36
   have hbA : Below wr.heap.size wr (wr.alloc (.cells #[.int .u64 (lo p), .int .u64 (hi p)] 36)) := (Below.refl _ _).alloc (Nat.le_refl _) _
   replace hb00 := bl_call hb00 (Nat.le_refl _) hbA
   replace hb66 := bl_call hb66 (Nat.le_refl _) hbA
   replace hxx := hxx.call hbA
   replace hrr := hrr.call hbA
   generalize wr.alloc (.cells #[.int .u64 (lo p), .int .u64 (hi p)] 36) = w7 at *
   clear hbA d0 d1 hbl
   have HRR := Lib.hid hrr
   have HB0 := Lib.hid hb00
   have HB6 := Lib.hid hb66
   have HXX := Lib.hid hxx
   by_cases hpx : p = x
   ·have hq : (lo p == lo x && hi p == hi x) = true := by rw [vK_eq]; exact decide_eq_true hpx
    have HPX := Lib.hid hpx
    have hany : Hid (PTS.any (fun p => decide (p = x)) = true) := List.any_eq_true.2 ⟨p, List.mem_of_getElem? HP.out, decide_eq_true hpx⟩
    clear hpx
    obtain ⟨pp0, pp1, pp2, pp3, pp4⟩ := V2.mk hpp.c0 hpp.c1 hpp.f0 hpp.f1 hpp.lt
    obtain ⟨xx0, xx1, xx2, xx3, xx4⟩ := V2.mk hxx.c0 hxx.c1 hxx.f0 hxx.f1 hxx.lt
    obtain ⟨rr0, rr1, rr2, rr3, rr4⟩ := V2.mk hrr.c0 hrr.c1 hrr.f0 hrr.f1 hrr.lt
    go_wp2_with fail
    refine bodyPost_ret (results_v2_tmp (b := w.heap.size + 1 + 1) (u := .int .u64 (lo x)) (v := .int .u64 (hi x)) ?_ rfl rfl) rfl ?_
    ·exact V2.set HRR.out _ _
    ·exact ⟨by rw [hany.out]; rfl, bl_st HB0.out (by omega) _ _⟩
   ·have hq : (lo p == lo x && hi p == hi x) = false := by rw [vK_eq]; exact decide_eq_false hpx
    have hany : Hid ((PTS.take (k + 1)).any (fun p => decide (p = x)) = false) := by
     show (PTS.take (k + 1)).any _ = false
     rw [List.take_add_one, HP.out, List.any_append, hny.out]
     simp [hpx]
    clear hpx
    obtain ⟨pp0, pp1, pp2, pp3, pp4⟩ := V2.mk hpp.c0 hpp.c1 hpp.f0 hpp.f1 hpp.lt
    obtain ⟨xx0, xx1, xx2, xx3, xx4⟩ := V2.mk hxx.c0 hxx.c1 hxx.f0 hxx.f1 hxx.lt
    go_wp2_with fail
    go_roundw
    case rel => exact ⟨k + 1, by omega, by go_num, hany, HXX.out, HRR.out, HB0.out, HB6.out⟩
    case measure => simp [intOf]; omega
  ·obtain rfl : k = N := by omega
   have hany : PTS.any (fun p => decide (p = x)) = false := by
    have h := hny.out
    rwa [List.take_of_length_le (Nat.le_of_eq HPL.out)] at h
   have HAN := Lib.hid hany
   have HRR := Lib.hid hrr
   clear hany
   obtain ⟨xx0, xx1, xx2, xx3, xx4⟩ := V2.mk hxx.c0 hxx.c1 hxx.f0 hxx.f1 hxx.lt
   obtain ⟨rr0, rr1, rr2, rr3, rr4⟩ := V2.mk hrr.c0 hrr.c1 hrr.f0 hrr.f1 hrr.lt
   go_wp2_with fail
   refine bodyPost_ret (results_v2_tmp (b := w.heap.size + 1 + 1) (u := .int .u64 (lo x)) (v := .int .u64 (hi x)) ?_ rfl rfl) rfl ?_
   ·exact V2.set HRR.out _ _
   ·exact ⟨by rw [HAN.out]; rfl, bl_st hb00 (by omega) _ _⟩
end

end Go.Proofs.YtfbfbijkkbflkaaGreatDoor

namespace Go.Proofs.YtfbfbijkkbflkaaGreatDoor
open Go Go.ChangeShapes Go.WideShapes Go.ChangeAt Go.WideMaps Go.WideElems Go.RowKit

def laid2 : List (String × DataW Unit) := [("math/bits.deBruijn32tab", Rows.laid_math_bits_deBruijn32tab), ("math/bits.deBruijn64tab", Rows.laid_math_bits_deBruijn64tab)]
theorem g64 : Tryz.prog.globalNamed "math/bits.deBruijn64tab" = some 1 := by kernel_rfl
theorem t64 : (Tryz.prog.globals[1]?).map (·.type) = some 145 := by kernel_rfl
theorem c64 : Tryz.prog.cellsOf 145 = 64 := by kernel_rfl
theorem c8 : Tryz.prog.cellsOf 5 = 1 := by kernel_rfl

set_option maxRecDepth 100000 in
theorem door_met (os : Os) (args : Array Value) : laidMetH Tryz.prog laid2 ((World.doorLaid Tryz.prog 400 os).forCall (fun _ _ => 0) ⟨#[], args, []⟩).memory :=
 laidMetH_of_parts3 (fuel := 8) (laidMet_of_run' 8 (by kernel_rfl) (by kernel_rfl)) (by kernel_rfl) (by kernel_rfl)

theorem laid64_at : ∀ j, j < 64 → (match (Rows.laid_math_bits_deBruijn64tab : DataW Unit) with | .agg l => l[j]? | _ => none) = some (.lit (.int .u8 ((Lib.deBruijn64tab.getD j 0 : Nat) : Int))) := by
 intro j hj
 have h : ∀ j : Fin 64, (match (Rows.laid_math_bits_deBruijn64tab : DataW Unit) with | .agg l => l[j.val]? | _ => none) = some (.lit (.int .u8 ((Lib.deBruijn64tab.getD j.val 0 : Nat) : Int))) := by
  intro ⟨j, hj⟩
  have : j = 0 ∨ j = 1 ∨ j = 2 ∨ j = 3 ∨ j = 4 ∨ j = 5 ∨ j = 6 ∨ j = 7 ∨ j = 8 ∨ j = 9 ∨ j = 10 ∨ j = 11 ∨ j = 12 ∨ j = 13 ∨ j = 14 ∨ j = 15 ∨ j = 16 ∨ j = 17 ∨ j = 18 ∨ j = 19 ∨ j = 20 ∨ j = 21 ∨ j = 22 ∨ j = 23 ∨ j = 24 ∨ j = 25 ∨ j = 26 ∨ j = 27 ∨ j = 28 ∨ j = 29 ∨ j = 30 ∨ j = 31 ∨ j = 32 ∨ j = 33 ∨ j = 34 ∨ j = 35 ∨ j = 36 ∨ j = 37 ∨ j = 38 ∨ j = 39 ∨ j = 40 ∨ j = 41 ∨ j = 42 ∨ j = 43 ∨ j = 44 ∨ j = 45 ∨ j = 46 ∨ j = 47 ∨ j = 48 ∨ j = 49 ∨ j = 50 ∨ j = 51 ∨ j = 52 ∨ j = 53 ∨ j = 54 ∨ j = 55 ∨ j = 56 ∨ j = 57 ∨ j = 58 ∨ j = 59 ∨ j = 60 ∨ j = 61 ∨ j = 62 ∨ j = 63 := by omega
  rcases this with rfl|rfl|rfl|rfl|rfl|rfl|rfl|rfl|rfl|rfl|rfl|rfl|rfl|rfl|rfl|rfl|rfl|rfl|rfl|rfl|rfl|rfl|rfl|rfl|rfl|rfl|rfl|rfl|rfl|rfl|rfl|rfl|rfl|rfl|rfl|rfl|rfl|rfl|rfl|rfl|rfl|rfl|rfl|rfl|rfl|rfl|rfl|rfl|rfl|rfl|rfl|rfl|rfl|rfl|rfl|rfl|rfl|rfl|rfl|rfl|rfl|rfl|rfl|rfl <;> rfl
 exact h ⟨j, hj⟩

set_option maxRecDepth 100000 in
theorem tab_of_laid {W : World} (h : laidMetH Tryz.prog laid2 W) : TabW W := by
 rw [MakeChecks.laidMetH_plain _ _ _ (by kernel_rfl)] at h
 obtain ⟨ps, ⟨g0, t0, cs0, f0, p0, q0, hg0, ht0, hv0, hd0, ⟨g1, t1, cs1, f1, p1, q1, hg1, ht1, hv1, hd1, _, _⟩, _⟩, _, _⟩ := h
 obtain rfl := Option.some.inj (g64.symm.trans hg1)
 obtain rfl := Option.some.inj (t64.symm.trans ht1)
 obtain ⟨xs, m1, rfl, hx1, hlen, hn, hel⟩ := DataW.trod_array Tryz.underlying145 hd1
 rw [c64] at hlen
 rw [c8] at hel
 have hat : ∀ j, j < 64 → cs1[j]? = some (.int .u8 ((Lib.deBruijn64tab.getD j 0 : Nat) : Int)) := by
  intro j hj
  have h1 := hel j hj
  rw [List.getElem?_eq_getElem (by omega)] at h1
  obtain ⟨k, e1, e2, _⟩ := DataW.trod_int Tryz.underlying5 h1
  have h2 := laid64_at j hj
  have h3 := congrArg Prod.fst hx1
  dsimp only at h3
  rw [h3] at h2
  dsimp only at h2
  rw [List.getElem?_map, List.getElem?_eq_getElem (by omega), Option.map_some, e2] at h2
  have h4 : k = ((Lib.deBruijn64tab.getD j 0 : Nat) : Int) := by
   injection h2 with h5
   injection h5 with h6
   injection h6
  rw [Nat.mul_one] at e1
  have h5 : (cs1.toList.drop j)[0]? = some (.int .u8 k) := by
   have h7 : ((cs1.toList.drop j).take 1)[0]? = some (.int .u8 k) := by rw [e1]; rfl
   rwa [List.getElem?_take_of_lt (by omega)] at h7
  rw [List.getElem?_drop, Nat.add_zero, Array.getElem?_toList, h4] at h5
  exact h5
 have hc : ∀ j, j < 64 → W.cell? ⟨1, j, none⟩ = some (.int .u8 ((Lib.deBruijn64tab.getD j 0 : Nat) : Int)) := fun j hj => (World.var?_cell g64 hv1 j).trans (hat j hj)
 exact ⟨fun j hj => hc j hj, lt_of_cell (hc 0 (by omega))⟩

end Go.Proofs.YtfbfbijkkbflkaaGreatDoor
