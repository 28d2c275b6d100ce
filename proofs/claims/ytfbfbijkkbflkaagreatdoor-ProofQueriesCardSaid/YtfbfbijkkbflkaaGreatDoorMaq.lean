/-
 Chunks: what the statements of this layer share.
-/
import Derived.Test.YtfbfbijkkbflkaaGreatDoorMap
namespace Go.Proofs.YtfbfbijkkbflkaaGreatDoor
open Go.RowKit Fm
set_option linter.unusedVariables false
set_option maxRecDepth 100000

theorem fill_take {f : Nat} (l p : KL f) (n c : Nat) (hl : l.length = n) (hp : p.length = 2) (hc : n + 2 ≤ c) :
  (esK l ++ List.replicate (c - n) ((0, 0) : E)).take n ++ esK p ++ (esK l ++ List.replicate (c - n) ((0, 0) : E)).drop (n + 2) = esK (l ++ p) ++ List.replicate (c - (n + 2)) (0, 0) := by
 have h1 : (esK l).length = n := by rw [esK_length, hl]
 rw [List.take_left' h1, ← h1, List.drop_append, Nat.add_sub_cancel_left, List.drop_eq_nil_of_le (by omega), List.nil_append, List.drop_replicate, esK_append, h1]
 congr 1

def OnlB (g : Nat) (w : World) (zs : List E) (w' : World) : Prop := Onl g w w' ∧ BlkE w' g zs
theorem OnlB.clo (g : Nat) (w : World) (zs : List E) : Clo (OnlB g w zs) := fun _ _ h hb => ⟨Onl.clo g w _ _ h.1 hb, h.2.call hb⟩
theorem Clo.blk (b : Nat) (zs : List E) : Clo (fun w => BlkE w b zs) := fun _ _ h hb => h.call hb
theorem Clo.const (p : Prop) : Clo (fun _ => p) := fun _ _ h _ => h

section
variable {f : Nat} (hf : IsF f)
include hf

set_option maxHeartbeats 8000000 in
theorem circuit_chunks (y : CK) (hy : y.ok) (hcalls : y.calls ≤ 4096) (c : Nat) (hc1 : 1 ≤ c) (hc16 : c ≤ 16) (hyc : y.c = c) (v j : KL f) (part : Fin (Pm f)) (harg : ∀ k, argOf y v j part k = argL v (j.getD k 0) part (k * c) c) (g : Nat) (cap : Array Value) (D : Nat → Prop) (Inv : Nat → (Nat → Prop) → World → Prop) (ans : Nat → Fin (Pm f)) (cd : Int)
  (HA : Asked y v j part g cap Inv ans cd) (hn1 : 1 ≤ y.calls) (hl : v.length = y.nin) (hj : y.calls ≤ j.length) (vl vj : Value) (w : World) (hin : SlX D w vl v) (hjo : SlX D w vj j) (hinv : St (Inv 0) D w) :
  Calls Tryz.prog 78 #[y.val f, vl, vj, vK part, .func (.func g) #[] cap] w (RetRun (acc ans y.calls) y.calls cd Inv D w) := by
 have HENT := HA.ent
 have HCALLS := Lib.hid (fun wz => circuit_Calls f y hy wz)
 have hnin := CK.nin_le hy
 have hnin1 := CK.nin_pos hy
 have HCALL : Hid (∀ k T wz b r, k < y.calls → j[k]? = some r → St (Inv k) T wz → b < wz.heap.size → ¬ T b → RowE wz b 0 (esK (argL v r part (k * c) c)) → Calls Tryz.prog g (#[.slice (some ⟨b, 0, none⟩) (2 * c) (2 * c)] ++ cap) wz fun e w' => e = .returned (.tuple #[vK (ans k), .int .i64 cd]) ∧ ∃ T', St (Inv (k + 1)) T' w' ∧ (∀ q, T' q → T q ∨ wz.heap.size ≤ q) ∧ Exc T wz.heap.size wz w') := by
  intro k T wz b r hk hx hi hb hn hrow
  refine HA.run k T wz _ hk hi (SlX.of ?_ (Nat.le_refl _) (by omega) hb hn ?_)
  ·rw [harg, argL_length]
  ·rw [harg, getD_of hx]
   exact hrow
 unfold CK.val at HCALLS ⊢
 rw [hyc] at HCALLS ⊢
 have HLEN := Lib.hid hl
 obtain ⟨A, cc, rfl, hcc, hcm, hA⟩ := hin
 obtain ⟨A2, cc2, rfl, hcc2, hcm2, hA2⟩ := hjo
 obtain ⟨bi, oi, rfl, hbi, hni, HRI⟩ := hA (by omega)
 obtain ⟨bj, oj, rfl, hbj, hnj, HRJ⟩ := hA2 (by omega)
 replace HRI := Lib.hid HRI
 replace HRJ := Lib.hid HRJ
 rw [hl]
 clear hA hA2 hl HA harg
 have HADD := Lib.hid (fun (x y : Fin (Pm f)) wz => field_AddK hf x y wz)
 have HSUB := Lib.hid (fun (x y : Fin (Pm f)) wz => field_SubK hf x y wz)
 have HMUL := Lib.hid (fun (x y : Fin (Pm f)) wz => field_MulK hf x y wz)
 have hfb0 : (1 : Int) ≤ (f : Int) := by rcases hf.or with rfl | rfl <;> omega
 have hfb1 : (f : Int) ≤ 2 := by rcases hf.or with rfl | rfl <;> omega
 obtain ⟨K, hK⟩ : ∃ K : Int, ((y.k : Nat) : Int) = K := ⟨_, rfl⟩
 obtain ⟨B, hB⟩ : ∃ K : Int, ((y.b : Nat) : Int) = K := ⟨_, rfl⟩
 obtain ⟨N, hN⟩ : ∃ K : Int, ((y.l : Nat) : Int) = K := ⟨_, rfl⟩
 obtain ⟨M, hM⟩ : ∃ K : Int, ((y.m : Nat) : Int) = K := ⟨_, rfl⟩
 rw [hK, hB, hN, hM] at HCALLS ⊢
 clear hK hB hN hM hy hyc
 generalize y.calls = q at *
 generalize y.nin = n at *
 obtain ⟨e, hec⟩ : ∃ e : Nat, 2 * c = e := ⟨_, rfl⟩
 rw [hec] at HCALL
 have hmk := make_cap e (by omega)
 have hc2 : (2 : Int) * (c : Int) = (e : Int) := by omega
 have hexc : Exc D w.heap.size w w := exc_of (Below.refl _ _)
 have hlt0 := hinv.lt
 go_enter Tryz.func78, Tryz.ntmps78
 go_upto_region 1 with fail
 have hx := ((Vs.new w [.int .u8 K, .int .u8 f, .int .i64 B, .int .i64 N, .int .i64 M, .int .i64 c] #[.int .u8 K, .int .u8 f, .int .i64 B, .int .i64 N, .int .i64 M, .int .i64 c] 30 rfl).alloc (.cells #[.int .u64 (lo part), .int .u64 (hi part)] 36)).alloc (.cells #[.int .u64 0, .int .u64 0] 36)
 have hp := (V2.new (w.alloc (.cells #[.int .u8 K, .int .u8 f, .int .i64 B, .int .i64 N, .int .i64 M, .int .i64 c] 30)) (.int .u64 (lo part)) (.int .u64 (hi part)) 36).alloc (.cells #[.int .u64 0, .int .u64 0] 36)
 have s0 := V2.new ((w.alloc (.cells #[.int .u8 K, .int .u8 f, .int .i64 B, .int .i64 N, .int .i64 M, .int .i64 c] 30)).alloc (.cells #[.int .u64 (lo part), .int .u64 (hi part)] 36)) (.int .u64 0) (.int .u64 0) 36
 simp only [World.size_alloc] at hp s0
 have hb00 : Below w.heap.size w (((w.alloc (.cells #[.int .u8 K, .int .u8 f, .int .i64 B, .int .i64 N, .int .i64 M, .int .i64 c] 30)).alloc (.cells #[.int .u64 (lo part), .int .u64 (hi part)] 36)).alloc (.cells #[.int .u64 0, .int .u64 0] 36)) := by repeat (first | exact bA | with_reducible assumption | apply bB)
 have hszn : w.heap.size + 3 ≤ (((w.alloc (.cells #[.int .u8 K, .int .u8 f, .int .i64 B, .int .i64 N, .int .i64 M, .int .i64 c] 30)).alloc (.cells #[.int .u64 (lo part), .int .u64 (hi part)] 36)).alloc (.cells #[.int .u64 0, .int .u64 0] 36)).heap.size := by simp only [World.size_alloc]; omega
 generalize (((w.alloc (.cells #[.int .u8 K, .int .u8 f, .int .i64 B, .int .i64 N, .int .i64 M, .int .i64 c] 30)).alloc (.cells #[.int .u64 (lo part), .int .u64 (hi part)] 36)).alloc (.cells #[.int .u64 0, .int .u64 0] 36)) = w1 at hx hp s0 hb00 hszn ⊢
 replace hinv := hinv.call hb00
 replace hexc := hexc.call hb00
 obtain ⟨⟨x0, x1, x2, x3, x4, x5⟩, ⟨x6, x7, x8, x9, x10, x11⟩, x12⟩ := hx.get6
 go_upto_region 3 with fail
 clear x0 x1 x2 x3 x4 x5 x6 x7 x8 x9 x10 x11 x12
 have hout := V2.new w1 (.int .u64 0) (.int .u64 0) 36
 have hbA : Below w1.heap.size w1 (w1.alloc (.cells #[.int .u64 0, .int .u64 0] 36)) := by repeat (first | exact bA | with_reducible assumption | apply bB)
 replace hexc := hexc.call hbA
 replace hx := hx.call hbA
 replace hp := hp.call hbA
 replace s0 := s0.call hbA
 replace hinv := hinv.call hbA
 clear hbA
 generalize w1.alloc (.cells #[.int .u64 0, .int .u64 0] 36) = w2 at hexc hx hp s0 hinv hout ⊢
 have hszo : w1.heap.size < w2.heap.size := hout.lt
 obtain ⟨bo, hbo2⟩ : ∃ bo, w1.heap.size = bo := ⟨_, rfl⟩
 rw [hbo2] at hout hszo hszn
 simp only [hbo2]
 clear hbo2 hb00
 obtain ⟨⟨x0, x1, x2, x3, x4, x5⟩, ⟨x6, x7, x8, x9, x10, x11⟩, x12⟩ := hx.get6
 go_upto_region 4 with (first
  | (go_at_call 16; refine (HCALLS.out _).mono ?_; rintro e w3 ⟨rfl, hb3⟩; replace hexc := hexc.call hb3; replace hx := hx.call hb3; replace hp := hp.call hb3; replace s0 := s0.call hb3; replace hinv := hinv.call hb3; replace hout := hout.call hb3; clear x0 x1 x2 x3 x4 x5 x6 x7 x8 x9 x10 x11 x12; clear hb3; obtain ⟨⟨x0, x1, x2, x3, x4, x5⟩, ⟨x6, x7, x8, x9, x10, x11⟩, x12⟩ := hx.get6))
 clear x0 x1 x2 x3 x4 x5 x6 x7 x8 x9 x10 x11 x12
 clear HCALLS
 go_wp2_with fail
 go_loopw [27] (fun i wr => ∃ (k : Nat) (T : Nat → Prop), k ≤ q ∧ i = .int .i64 k ∧ (k = 0 ∨ cd = 0) ∧ Vs wr w.heap.size [.int .u8 K, .int .u8 f, .int .i64 B, .int .i64 N, .int .i64 M, .int .i64 c] ∧ V2 wr (w.heap.size + 1) (.int .u64 (lo part)) (.int .u64 (hi part)) ∧ V2 wr (w.heap.size + 2) (.int .u64 0) (.int .u64 0) ∧
   V2 wr bo (.int .u64 (lo (acc ans k))) (.int .u64 (hi (acc ans k))) ∧ St (Inv k) T wr ∧ Hid (∀ b, T b → D b ∨ w.heap.size ≤ b) ∧ (¬ T w.heap.size ∧ ¬ T (w.heap.size + 1) ∧ ¬ T (w.heap.size + 2) ∧ ¬ T bo) ∧ Exc D w.heap.size w wr) (fun i _ => q - (intOf i).toNat)
 case atStart =>
  refine ⟨0, D, Nat.zero_le _, rfl, .inl rfl, hx, hp, s0, ?_, hinv, fun b h => .inl h, ⟨fun h => ?_, fun h => ?_, fun h => ?_, fun h => ?_⟩, hexc⟩
  ·rw [show acc ans 0 = 0 from rfl, lo_zero, hi_zero]
   exact hout
  all_goals have := hlt0 _ h; omega
 case round =>
  clear hx hp s0 hout hinv hexc
  obtain ⟨k, T, hk, rfl, hk0, hx, hp, s0, hout, hinv, hTD, ⟨n0, n1, n2, no⟩, hexc⟩ := hrel
  have hsz := hexc.size
  have hbol : bo < wr.heap.size := hout.lt
  by_cases hlt : k < q
  rotate_left
  ·obtain rfl : k = q := by omega
   have hcd : cd = 0 := by omega
   obtain ⟨out0, out1, out2, out3, out4⟩ := V2.mk hout.c0 hout.c1 hout.f0 hout.f1 hout.lt
   obtain ⟨s00, s01, s02, s03, s04⟩ := V2.mk s0.c0 s0.c1 s0.f0 s0.f1 s0.lt
   go_wp2_with fail
   refine bodyPost_ret (results_v2_tmp (b := w.heap.size + 2) (u := .int .u64 (lo (acc ans k))) (v := .int .u64 (hi (acc ans k))) ?_ rfl rfl) rfl ?_
   ·exact V2.set s0 _ _
   ·exact ⟨.inl ⟨hcd, rfl, T, hinv.st n2 _ _, hTD.out⟩, hexc.st (by omega) _ _⟩
  obtain ⟨r, he⟩ : ∃ e, j[k]? = some e := ⟨_, List.getElem?_eq_getElem (by omega)⟩
  have HJ := Lib.hid he
  clear he
  obtain ⟨⟨x0, x1, x2, x3, x4, x5⟩, ⟨x6, x7, x8, x9, x10, x11⟩, x12⟩ := hx.get6
  go_upto_region 7 with fail
  clear x0 x1 x2 x3 x4 x5 x6 x7 x8 x9 x10 x11 x12
  have hBk : BlkE (wr.alloc (.cells (cellsE (List.replicate e (0, 0))).toArray 36)) wr.heap.size (List.replicate e (0, 0)) := heap_alloc_new wr _
  have hbA : Below wr.heap.size wr (wr.alloc (.cells (cellsE (List.replicate e (0, 0))).toArray 36)) := by repeat (first | exact bA | with_reducible assumption | apply bB | (refine bC ?_ (by dsimp only; omega)) | apply bD | apply bE | (refine bF ?_ (by assumption)))
  have ng : ¬ T wr.heap.size := fun h => by have := hinv.lt _ h; omega
  replace hexc := hexc.call hbA
  replace hx := hx.call hbA
  replace hp := hp.call hbA
  replace s0 := s0.call hbA
  replace hout := hout.call hbA
  replace hinv := hinv.call hbA
  clear hbA
  obtain ⟨gl, hgl⟩ : ∃ gl, wr.heap.size = gl := ⟨_, rfl⟩
  rw [hgl] at hBk hbol ng ⊢
  generalize wr.alloc (.cells (cellsE (List.replicate e (0, 0))).toArray 36) = w4 at *
  clear hgl hsz hmk
  obtain ⟨d0, d1⟩ := (HRJ.out.exc hnj hexc).kat HJ.out
  have hblj : bj < w4.heap.size := lt_of_cell d0
  go_upto_region 8 with fail
  clear d0 d1 hblj
  have hglx : gl < w4.heap.size := hBk.lt
  have nx : ¬ T w4.heap.size := fun h => by have := hinv.lt _ h; omega
  have hxx := V2.new w4 (.int .u64 (lo r)) (.int .u64 (hi r)) 36
  have hbA : Below w4.heap.size w4 (w4.alloc (.cells #[.int .u64 (lo r), .int .u64 (hi r)] 36)) := by repeat (first | exact bA | with_reducible assumption | apply bB)
  replace hexc := hexc.call hbA
  replace hx := hx.call hbA
  replace hp := hp.call hbA
  replace s0 := s0.call hbA
  replace hout := hout.call hbA
  replace hinv := hinv.call hbA
  replace hBk := hBk.call hbA
  clear hbA
  generalize w4.alloc (.cells #[.int .u64 (lo r), .int .u64 (hi r)] 36) = w5 at hexc hx hp s0 hout hinv hBk hxx ⊢
  obtain ⟨bx, hbx⟩ : ∃ bx, w4.heap.size = bx := ⟨_, rfl⟩
  rw [hbx] at hxx hglx nx ⊢
  clear hbx
  have HKS : ∃ s : Nat, k * c = s ∧ s ≤ 65536 := ⟨_, rfl, Nat.le_trans (Nat.mul_le_mul (show k ≤ 4096 by omega) hc16) (by decide)⟩
  obtain ⟨s, hs, hs6⟩ := HKS
  have hks : (k : Int) * (c : Int) = (s : Int) := by rw [← hs]; exact (Int.natCast_mul k c).symm
  have HS := Lib.hid hs
  clear hs
  obtain ⟨⟨x0, x1, x2, x3, x4, x5⟩, ⟨x6, x7, x8, x9, x10, x11⟩, x12⟩ := hx.get6
  go_wp2_with fail
  clear x0 x1 x2 x3 x4 x5 x6 x7 x8 x9 x10 x11 x12
  go_loopw [15, 40] (fun vl i wi => ∃ t : Nat, t ≤ c ∧ vl = .slice (some ⟨gl, 0, none⟩) (2 * t) e ∧ i = .int .i64 t ∧ Vs wi w.heap.size [.int .u8 K, .int .u8 f, .int .i64 B, .int .i64 N, .int .i64 M, .int .i64 c] ∧ V2 wi (w.heap.size + 1) (.int .u64 (lo part)) (.int .u64 (hi part)) ∧ V2 wi (w.heap.size + 2) (.int .u64 0) (.int .u64 0) ∧
   V2 wi bo (.int .u64 (lo (acc ans k))) (.int .u64 (hi (acc ans k))) ∧ V2 wi bx (.int .u64 (lo (kpw r (t + 1)))) (.int .u64 (hi (kpw r (t + 1)))) ∧ BlkE wi gl (esK (argL v r part s t) ++ List.replicate (e - 2 * t) (0, 0)) ∧ St (Inv k) T wi ∧ Exc D w.heap.size w wi) (fun _ i _ => c - (intOf i).toNat)
  case atStart =>
   refine ⟨0, Nat.zero_le _, rfl, rfl, hx, hp, s0, hout, ?_, hBk, hinv, hexc⟩
   rw [show kpw r (0 + 1) = r by show 1 * r = r; grind]
   exact hxx
  case round =>
   clear hx hp s0 hout hxx hBk hinv hexc
   obtain ⟨t, ht, rfl, rfl, hx, hp, s0, hout, hxx, hBk, hinv, hexc⟩ := hrel
   have hsz := hexc.size
   by_cases htc : t < c
   rotate_left
   ·obtain rfl : t = c := by omega
    rw [hec, Nat.sub_self, List.replicate_zero, List.append_nil] at hBk
    have hglw : gl < wr.heap.size := hBk.lt
    go_wp2_with fail
    refine (HCALL.out k T _ gl r hlt HJ.out hinv hglw ng (by rw [HS.out]; exact hBk.rowE)).mono ?_
    rintro e w6 ⟨rfl, T', hinv6, hT6, hex6⟩
    replace hinv := hinv6
    obtain ⟨hx, n0⟩ := hx.ask n0 hex6 hT6
    obtain ⟨hp, n1⟩ := hp.ask n1 hex6 hT6
    obtain ⟨s0, n2⟩ := s0.ask n2 hex6 hT6
    obtain ⟨hout, no⟩ := hout.ask no hex6 hT6
    have hTD2 : Hid (∀ b, T' b → D b ∨ w.heap.size ≤ b) := fun b h => (hT6 b h).elim (hTD.out b) fun h2 => .inr (by omega)
    replace hexc := hexc.more hex6 hTD.out
    clear hex6 hinv6 hT6 hxx hBk HCALL hTD
    go_upto_region 18 with fail
    have hya := V2.new w6 (.int .u64 (lo (ans k))) (.int .u64 (hi (ans k))) 36
    have hbA : Below w6.heap.size w6 (w6.alloc (.cells #[.int .u64 (lo (ans k)), .int .u64 (hi (ans k))] 36)) := by repeat (first | exact bA | with_reducible assumption | apply bB)
    replace hexc := hexc.call hbA
    replace hx := hx.call hbA
    replace hp := hp.call hbA
    replace s0 := s0.call hbA
    replace hout := hout.call hbA
    replace hinv := hinv.call hbA
    clear hbA
    generalize w6.alloc (.cells #[.int .u64 (lo (ans k)), .int .u64 (hi (ans k))] 36) = w7 at hexc hx hp s0 hout hinv hya ⊢
    by_cases hcd : cd = 0
    ·subst hcd
     obtain ⟨out0, out1, out2, out3, out4⟩ := V2.mk hout.c0 hout.c1 hout.f0 hout.f1 hout.lt
     obtain ⟨ya0, ya1, ya2, ya3, ya4⟩ := V2.mk hya.c0 hya.c1 hya.f0 hya.f1 hya.lt
     go_wp2_with (first
      | (go_at_call 51; refine (HADD.out (acc ans k) (ans k) _).mono ?_; rintro e w8 ⟨rfl, hb8⟩; replace hexc := hexc.call hb8; replace hx := hx.call hb8; replace hp := hp.call hb8; replace s0 := s0.call hb8; replace hout := hout.call hb8; replace hinv := hinv.call hb8; replace hya := hya.call hb8; clear out0 out1 out2 out3 out4 ya0 ya1 ya2 ya3 ya4; clear hb8; obtain ⟨out0, out1, out2, out3, out4⟩ := V2.mk hout.c0 hout.c1 hout.f0 hout.f1 hout.lt; obtain ⟨ya0, ya1, ya2, ya3, ya4⟩ := V2.mk hya.c0 hya.c1 hya.f0 hya.f1 hya.lt))
     clear ya0 ya1 ya2 ya3 ya4
     go_roundw
     case rel =>
      exact ⟨k + 1, T', by omega, by go_num, (by first | exact .inr rfl | exact .inr trivial | simp), (hx.far (by dsimp only; omega) _).far (by dsimp only; omega) _, V2.oth hp (by omega) _ _, V2.oth s0 (by omega) _ _, V2.set hout _ _, hinv.st no _ _, hTD2.out, ⟨n0, n1, n2, no⟩, hexc.st (by omega) _ _⟩
     case measure => simp [intOf]; omega
    ·have hcd1 : (cd == 0) = false := by simpa using hcd
     have hcd2 : (cd != 0) = true := by simpa using hcd
     obtain ⟨s00, s01, s02, s03, s04⟩ := V2.mk s0.c0 s0.c1 s0.f0 s0.f1 s0.lt
     go_wp2_with fail
     refine bodyPost_ret (results_v2_tmp (b := w.heap.size + 2) (u := .int .u64 0) (v := .int .u64 0) ?_ rfl rfl) rfl ?_
     ·first | exact V2.set s0 _ _ | exact s0
     ·obtain rfl : k = 0 := by omega
      exact ⟨.inr ⟨hcd, rfl, T', (by first | exact hinv | exact hinv.st n2 _ _), hTD2.out⟩, (by first | exact hexc | exact hexc.st (by omega) _ _)⟩
   have hglw : gl < wr.heap.size := hBk.lt
   have hbxw : bx < wr.heap.size := hxx.lt
   have na : ¬ T wr.heap.size := fun h => by have := hinv.lt _ h; omega
   have nb : ¬ T (wr.heap.size + 1) := fun h => by have := hinv.lt _ h; omega
   go_upto_region 12 with fail
   have ha := (V2.new wr (.int .u64 0) (.int .u64 0) 36).alloc (.cells #[.int .u64 0, .int .u64 0] 36)
   have hb := V2.new (wr.alloc (.cells #[.int .u64 0, .int .u64 0] 36)) (.int .u64 0) (.int .u64 0) 36
   simp only [World.size_alloc] at hb
   have hbq : Below wr.heap.size wr ((wr.alloc (.cells #[.int .u64 0, .int .u64 0] 36)).alloc (.cells #[.int .u64 0, .int .u64 0] 36)) := by repeat (first | exact bA | with_reducible assumption | apply bB)
   have hszn : wr.heap.size + 2 ≤ ((wr.alloc (.cells #[.int .u64 0, .int .u64 0] 36)).alloc (.cells #[.int .u64 0, .int .u64 0] 36)).heap.size := by simp only [World.size_alloc]; omega
   generalize ((wr.alloc (.cells #[.int .u64 0, .int .u64 0] 36)).alloc (.cells #[.int .u64 0, .int .u64 0] 36)) = w7 at ha hb hbq hszn ⊢
   replace hexc := hexc.call hbq
   replace hx := hx.call hbq
   replace hp := hp.call hbq
   replace s0 := s0.call hbq
   replace hout := hout.call hbq
   replace hxx := hxx.call hbq
   replace hinv := hinv.call hbq
   replace hBk := hBk.call hbq
   obtain ⟨ba, hba⟩ : ∃ ba, wr.heap.size = ba := ⟨_, rfl⟩
   rw [hba] at ha hb na nb hszn hglw hbxw hsz ⊢
   clear hba hbq
   obtain ⟨p, hpst⟩ : ∃ p : Nat, s + t = p := ⟨_, rfl⟩
   have hps : (s : Int) + (t : Int) = (p : Int) := by omega
   have HF : Hid (∀ xa xb : Fin (Pm f), pairL v r part s t = [xa, xb] → (esK (argL v r part s t) ++ List.replicate (e - 2 * t) ((0, 0) : E)).take (2 * t) ++ [eK xa, eK xb] ++ (esK (argL v r part s t) ++ List.replicate (e - 2 * t) ((0, 0) : E)).drop (2 * t + 2) = esK (argL v r part s (t + 1)) ++ List.replicate (e - 2 * (t + 1)) (0, 0)) := by
    intro xa xb h
    have h2 := fill_take (argL v r part s t) [xa, xb] (2 * t) e (argL_length v r part s t) rfl (by omega)
    rw [show argL v r part s (t + 1) = argL v r part s t ++ [xa, xb] by rw [← h]; rfl]
    exact h2
   have hZl : (esK (argL v r part s t) ++ List.replicate (e - 2 * t) ((0, 0) : E)).length = e := by
    rw [List.length_append, List.length_replicate, esK_length, argL_length]
    omega
   obtain ⟨ZS, hZ⟩ : ∃ Z, esK (argL v r part s t) ++ List.replicate (e - 2 * t) ((0, 0) : E) = Z := ⟨_, rfl⟩
   rw [hZ] at HF hZl hBk
   have HZL := Lib.hid hZl
   clear hZ hZl
   obtain ⟨⟨x0, x1, x2, x3, x4, x5⟩, ⟨x6, x7, x8, x9, x10, x11⟩, x12⟩ := hx.get6
   by_cases hpn : p < n
   ·go_upto_region 14 with fail
    clear x0 x1 x2 x3 x4 x5 x6 x7 x8 x9 x10 x11 x12
    obtain ⟨x, hxv⟩ : ∃ x, v[p]? = some x := ⟨_, List.getElem?_eq_getElem (by rw [HLEN.out]; exact hpn)⟩
    have HXV := Lib.hid hxv
    clear hxv
    obtain ⟨d0, d1⟩ := (HRI.out.exc hni hexc).kat HXV.out
    have hbil : bi < w7.heap.size := lt_of_cell d0
    obtain ⟨xx0, xx1, xx2, xx3, xx4⟩ := V2.mk hxx.c0 hxx.c1 hxx.f0 hxx.f1 hxx.lt
    obtain ⟨p0, p1, p2, p3, p4⟩ := V2.mk hp.c0 hp.c1 hp.f0 hp.f1 hp.lt
    refine region_B (n := 14) (m := 16) (f := 14) (by kernel_rfl) (by kernel_rfl) rfl ?_
    refine WpH.vD 0 (some 55) ?_ rfl rfl (by kernel_rfl) (fun _ _ _ h => h) rfl (fun wz hwz => ?_) ?_
    rotate_left
    ·go_simp; try (with_reducible rfl)
    simp only [Zp, Zq, Zr, Zs]
    refine WpH.vD 1 (some 56) ?_ rfl rfl (by kernel_rfl) (fun _ _ _ h => h) rfl (fun wz hwz => ?_) ?_
    rotate_left
    ·(obtain ⟨hcz, hfz⟩ := bcell hwz; go_simp; try (with_reducible rfl))
    simp only [Zp, Zq, Zr, Zs]
    refine WpH.vD 2 (some 57) ?_ rfl rfl (by kernel_rfl) (fun _ _ _ h => h) rfl (fun wz hwz => ?_) ?_
    rotate_left
    ·go_simp; try (with_reducible rfl)
    simp only [Zp, Zq, Zr, Zs]
    refine WpH.vD 3 (some 58) ?_ rfl rfl (by kernel_rfl) (fun _ _ _ h => h) rfl (fun wz hwz => ?_) ?_
    rotate_left
    ·go_simp; try (with_reducible rfl)
    simp only [Zp, Zq, Zr, Zs]
    refine WpH.vD 4 (some 59) ?_ rfl rfl (by kernel_rfl) (fun _ _ _ h => h) rfl (fun wz hwz => ?_) ?_
    rotate_left
    ·go_simp; try (with_reducible rfl)
    simp only [Zp, Zq, Zr, Zs]
    refine WpH.vD 5 (some 60) ?_ rfl rfl (by kernel_rfl) (fun _ _ _ h => h) rfl (fun wz hwz => ?_) ?_
    rotate_left
    ·(obtain ⟨hcz, hfz⟩ := bcell hwz; go_simp; try (with_reducible rfl))
    simp only [Zp, Zq, Zr, Zs]
    refine WpH.takeD 6 (some 61) rfl rfl (by kernel_rfl) (fun _ _ _ h => h) (.call rfl (fun wz hwz => HMUL.out (kpw r (t + 1)) x wz) (fun wz hwz => ?_)) ?_
    ·go_simp; try (with_reducible rfl)
    simp only [Zp, Zq, Zr, Zs]
    refine WpH.vD 7 (some 62) ?_ rfl rfl (by kernel_rfl) (fun _ _ _ h => h) rfl (fun wz hwz => ?_) ?_
    rotate_left
    ·go_simp; try (with_reducible rfl)
    simp only [Zp, Zq, Zr, Zs]
    refine WpH.vD 8 (some 63) ?_ rfl rfl (by kernel_rfl) (fun _ _ _ h => h) rfl (fun wz hwz => ?_) ?_
    rotate_left
    ·go_simp; try (with_reducible rfl)
    simp only [Zp, Zq, Zr, Zs]
    refine WpH.vD 9 (some 64) ?_ rfl rfl (by kernel_rfl) (fun _ _ _ h => h) rfl (fun wz hwz => ?_) ?_
    rotate_left
    ·go_simp; try (with_reducible rfl)
    simp only [Zp, Zq, Zr, Zs]
    refine WpH.vD 10 (some 65) ?_ rfl rfl (by kernel_rfl) (fun _ _ _ h => h) rfl (fun wz hwz => ?_) ?_
    rotate_left
    ·go_simp; try (with_reducible rfl)
    simp only [Zp, Zq, Zr, Zs]
    refine WpH.vD 11 (some 66) ?_ rfl rfl (by kernel_rfl) (fun _ _ _ h => h) rfl (fun wz hwz => ?_) ?_
    rotate_left
    ·(obtain ⟨hcz, hfz⟩ := bcell hwz; go_simp; try (with_reducible rfl))
    simp only [Zp, Zq, Zr, Zs]
    refine WpH.vD 12 (some 67) ?_ rfl rfl (by kernel_rfl) (fun _ _ _ h => h) rfl (fun wz hwz => ?_) ?_
    rotate_left
    ·(obtain ⟨hcz, hfz⟩ := bcell hwz; go_simp; try (with_reducible rfl))
    simp only [Zp, Zq, Zr, Zs]
    refine WpH.takeD 13 (some 68) rfl rfl (by kernel_rfl) (fun _ _ _ h => h) (.call rfl (fun wz hwz => HSUB.out x part wz) (fun wz hwz => ?_)) ?_
    ·go_simp; try (with_reducible rfl)
    simp only [Zp, Zq, Zr, Zs]
    refine WpH.doneB (by kernel_rfl) (fun w8 hw8 => ?_)
    (try simp only [List.drop_succ_cons]); (try simp only [List.drop_zero]); (try simp only [Nat.reduceSub]); (try simp only [List.take_succ_cons]); (try simp only [List.take_zero])
    clear xx0 xx1 xx2 xx3 xx4 p0 p1 p2 p3 p4
    clear d0 d1 hbil
    replace hexc := hexc.call hw8
    replace hx := hx.call hw8
    replace hp := hp.call hw8
    replace s0 := s0.call hw8
    replace hout := hout.call hw8
    replace hxx := hxx.call hw8
    replace hinv := hinv.call hw8
    replace hBk := hBk.call hw8
    replace ha := ha.call hw8
    replace hb := hb.call hw8
    clear hw8
    obtain ⟨a0, a1, a2, a3, a4⟩ := V2.mk ha.c0 ha.c1 ha.f0 ha.f1 ha.lt
    obtain ⟨b0, b1, b2, b3, b4⟩ := V2.mk hb.c0 hb.c1 hb.f0 hb.f1 hb.lt
    go_upto_region 15 with fail
    clear a0 a1 a2 a3 a4 b0 b1 b2 b3 b4
    have HP : Hid (pairL v r part s t = [kpw r (t + 1) * x, x - part]) := pairL_in (by rw [hpst]; exact HXV.out)
    generalize kpw r (t + 1) * x = xa at *
    generalize x - part = xb at *
    have hE := Exc.two w8 ba (ba + 1) (.int .u64 (lo xa)) (.int .u64 (hi xa)) (.int .u64 (lo xb)) (.int .u64 (hi xb))
    replace ha := V2.oth (b := ba + 1) (V2.set ha (.int .u64 (lo xa)) (.int .u64 (hi xa))) (by omega) (.int .u64 (lo xb)) (.int .u64 (hi xb))
    replace hb := V2.set (V2.oth (b := ba) hb (by omega) (.int .u64 (lo xa)) (.int .u64 (hi xa))) (.int .u64 (lo xb)) (.int .u64 (hi xb))
    replace hx := hx.exc (by show ¬ (_ ∨ _); omega) hE
    replace hp := hp.exc (by show ¬ (_ ∨ _); omega) hE
    replace s0 := s0.exc (by show ¬ (_ ∨ _); omega) hE
    replace hout := hout.exc (by show ¬ (_ ∨ _); omega) hE
    replace hxx := hxx.exc (by show ¬ (_ ∨ _); omega) hE
    replace hBk := hBk.exc (by show ¬ (_ ∨ _); omega) hE
    replace hinv := hinv.exc (fun q hq h => by rcases h with rfl | rfl; exact na hq; exact nb hq) hE
    replace hexc := hexc.more hE (fun q h => .inr (by rcases h with rfl | rfl <;> omega))
    clear hE
    generalize (((w8.setCell ⟨ba, 0, none⟩ (.int .u64 (lo xa))).setCell ⟨ba, 1, none⟩ (.int .u64 (hi xa))).setCell ⟨ba + 1, 0, none⟩ (.int .u64 (lo xb))).setCell ⟨ba + 1, 1, none⟩ (.int .u64 (hi xb)) = w9 at *
    have HFF := Lib.hid (HF.out xa xb HP.out)
    have hkj : k < j.length := by omega
    have hJ9 := HRJ.out.exc hnj hexc
    have hbj9 : bj < w9.heap.size := by have := hexc.size; omega
    have hgw9 : gl < w9.heap.size := hBk.lt
    have hsz9 := hexc.size
    refine region_X (Onl gl w9) (OnlB gl w9 ZS) (fun _ h => h.1) (OnlB.clo gl w9 ZS) ⟨Onl.drew gl w9, hBk⟩ (n := 12) (m := 14) (f := 12) (by kernel_rfl) (by kernel_rfl) rfl ?_
    refine WpX.vD 0 (some 69) ?_ rfl rfl (by kernel_rfl) (fun _ _ _ h => h) rfl (fun wz hwz => ?_) ?_
    rotate_left
    ·go_simp; try (with_reducible rfl)
    simp only [Zp, Zq, Zr, Zs]
    refine WpX.vD 1 (some 70) ?_ rfl rfl (by kernel_rfl) (fun _ _ _ h => h) rfl (fun wz hwz => ?_) ?_
    rotate_left
    ·(obtain ⟨f0, f1, f2, f3, f4⟩ := ha.onl (by omega) hwz; go_simp; try (with_reducible rfl))
    simp only [Zp, Zq, Zr, Zs]
    refine WpX.vD 2 (some 71) ?_ rfl rfl (by kernel_rfl) (fun _ _ _ h => h) rfl (fun wz hwz => ?_) ?_
    rotate_left
    ·(obtain ⟨f0, f1, f2, f3, f4⟩ := hb.onl (by omega) hwz; go_simp; try (with_reducible rfl))
    simp only [Zp, Zq, Zr, Zs]
    refine WpX.vD 5 (some 74) ?_ rfl rfl (by kernel_rfl) (fun _ _ _ h => h) rfl (fun wz hwz => ?_) ?_
    rotate_left
    ·go_simp; try (with_reducible rfl)
    simp only [Zp, Zq, Zr, Zs]
    refine WpX.vD 6 (some 75) ?_ rfl rfl (by kernel_rfl) (fun _ _ _ h => h) rfl (fun wz hwz => ?_) ?_
    rotate_left
    ·(obtain ⟨f0, f1, f2, f3, f4⟩ := hxx.onl (by omega) hwz; go_simp; try (with_reducible rfl))
    simp only [Zp, Zq, Zr, Zs]
    refine WpX.vD 7 (some 76) ?_ rfl rfl (by kernel_rfl) (fun _ _ _ h => h) rfl (fun wz hwz => ?_) ?_
    rotate_left
    ·go_simp; try (with_reducible rfl)
    simp only [Zp, Zq, Zr, Zs]
    refine WpX.vD 8 (some 77) ?_ rfl rfl (by kernel_rfl) (fun _ _ _ h => h) rfl (fun wz hwz => ?_) ?_
    rotate_left
    ·go_simp; try (with_reducible rfl)
    simp only [Zp, Zq, Zr, Zs]
    refine WpX.vD 9 (some 78) ?_ rfl rfl (by kernel_rfl) (fun _ _ _ h => h) rfl (fun wz hwz => ?_) ?_
    rotate_left
    ·go_simp; try (with_reducible rfl)
    simp only [Zp, Zq, Zr, Zs]
    refine WpX.vD 10 (some 79) ?_ rfl rfl (by kernel_rfl) (fun _ _ _ h => h) rfl (fun wz hwz => ?_) ?_
    rotate_left
    ·(obtain ⟨f0, f1⟩ := (RowE.exc hJ9 (S := fun q => q = gl) (by show ¬ bj = gl; omega) hwz).kat HJ.out; go_simp; try (with_reducible rfl))
    simp only [Zp, Zq, Zr, Zs]
    refine WpX.oneD 3 (some 72) rfl rfl (by kernel_rfl) (fun b : Nat => Value.slice (some ⟨b, 0, none⟩) 2 2) (fun _ => Onl gl w9) (fun b wz => (OnlB gl w9 ZS wz ∧ gl ≠ b) ∧ BlkE wz b [eK xa, eK xb]) (Turns.val rfl (fun _ _ h => h) (fun _ _ h => h.1.1.1) (fun b => ((OnlB.clo gl w9 ZS).and (Clo.const _)).and (Clo.blk b _)) (fun wz hS => ⟨wz.heap.size, wz.alloc (.cells #[.int .u64 (lo xa), .int .u64 (hi xa), .int .u64 (lo xb), .int .u64 (hi xb)] 36), by go_simp; try (with_reducible rfl), ⟨OnlB.clo gl w9 ZS _ _ hS ((Below.refl _ _).alloc (Nat.le_refl _) _), by have := hS.2.lt; omega⟩, BlkE.new wz [eK xa, eK xb] _ rfl⟩)) (fun nb2 => ?_)
    simp only [Zp, Zq, Zr, Zs]
    refine WpX.oneD 4 (some 73) rfl rfl (by kernel_rfl) (fun _ : Unit => Value.slice (some ⟨gl, 0, none⟩) (2 * t + 2) e) (fun _ => Onl gl w9) (fun _ => OnlB gl w9 (esK (argL v r part s (t + 1)) ++ List.replicate (e - 2 * (t + 1)) (0, 0))) (Turns.val rfl (fun _ _ h => h) (fun _ _ h => h.1) (fun _ => OnlB.clo gl w9 _) (fun wz hS => by obtain ⟨w', hr, hB, hE⟩ := run_append_roomE hS.1.1.2 24 (2 * t) 2 2 e nb2 0 [eK xa, eK xb] rfl hS.2.rowE HZL.out (by omega); exact ⟨(), w', exec_append (.tmp 69) (.tmp 72) rfl rfl rfl hr, hS.1.1.1.more hE, by rw [HFF.out] at hB; exact hB⟩)) (fun u9 => ?_)
    simp only [Zp, Zq, Zr, Zs]
    refine WpX.takeD 11 (some 80) rfl rfl (by kernel_rfl) (fun _ _ _ h => h) (.call rfl (fun wz hwz => HMUL.out (kpw r (t + 1)) r wz) (fun wz hwz => ?_)) ?_
    ·go_simp; try (with_reducible rfl)
    simp only [Zp, Zq, Zr, Zs]
    refine WpX.done (by kernel_rfl) (fun w10 hS => ?_)
    (try simp only [List.drop_succ_cons]); (try simp only [List.drop_zero]); (try simp only [Nat.reduceSub]); (try simp only [List.take_succ_cons]); (try simp only [List.take_zero])
    have hO := hS.1
    replace hx := hx.onl (by omega) hO
    replace hp := hp.onl (by omega) hO
    replace s0 := s0.onl (by omega) hO
    replace hout := hout.onl (by omega) hO
    replace hxx := hxx.onl (by omega) hO
    replace hinv := hinv.exc (fun q hq h => ng (by have h2 : q = gl := h; rw [← h2]; exact hq)) hO
    replace hexc := hexc.more hO (fun q h => .inr (by have h2 : q = gl := h; omega))
    replace hBk := hS.2
    clear hS hO ha hb HFF HP hJ9 hbj9 hgw9 HZL HF
    obtain ⟨xx0, xx1, xx2, xx3, xx4⟩ := V2.mk hxx.c0 hxx.c1 hxx.f0 hxx.f1 hxx.lt
    go_wp2_with fail
    go_roundw
    case rel =>
     exact ⟨t + 1, by omega, rfl, by go_num, (hx.far (by dsimp only; omega) _).far (by dsimp only; omega) _, V2.oth hp (by omega) _ _, V2.oth s0 (by omega) _ _, V2.oth hout (by omega) _ _, V2.set hxx _ _, (hBk.far (by dsimp only; omega) _).far (by dsimp only; omega) _, hinv.st nx _ _, hexc.st (by omega) _ _⟩
    case measure => simp [intOf]; omega
   ·go_upto_region 15 with fail
    clear x0 x1 x2 x3 x4 x5 x6 x7 x8 x9 x10 x11 x12
    have HP : Hid (pairL v r part s t = [0, 0]) := pairL_out (by rw [hpst, HLEN.out]; exact hpn)
    obtain ⟨xa, hxa⟩ : ∃ xa : Fin (Pm f), xa = 0 := ⟨_, rfl⟩
    obtain ⟨xb, hxb⟩ : ∃ xb : Fin (Pm f), xb = 0 := ⟨_, rfl⟩
    replace HP : Hid (pairL v r part s t = [xa, xb]) := by rw [hxa, hxb]; exact HP
    replace ha : V2 w7 ba (.int .u64 (lo xa)) (.int .u64 (hi xa)) := by rw [hxa, lo_zero, hi_zero]; exact ha
    replace hb : V2 w7 (ba + 1) (.int .u64 (lo xb)) (.int .u64 (hi xb)) := by rw [hxb, lo_zero, hi_zero]; exact hb
    clear hxa hxb
    generalize w7 = w9 at *
    have HFF := Lib.hid (HF.out xa xb HP.out)
    have hkj : k < j.length := by omega
    have hJ9 := HRJ.out.exc hnj hexc
    have hbj9 : bj < w9.heap.size := by have := hexc.size; omega
    have hgw9 : gl < w9.heap.size := hBk.lt
    have hsz9 := hexc.size
    refine region_X (Onl gl w9) (OnlB gl w9 ZS) (fun _ h => h.1) (OnlB.clo gl w9 ZS) ⟨Onl.drew gl w9, hBk⟩ (n := 12) (m := 14) (f := 12) (by kernel_rfl) (by kernel_rfl) rfl ?_
    refine WpX.vD 0 (some 69) ?_ rfl rfl (by kernel_rfl) (fun _ _ _ h => h) rfl (fun wz hwz => ?_) ?_
    rotate_left
    ·go_simp; try (with_reducible rfl)
    simp only [Zp, Zq, Zr, Zs]
    refine WpX.vD 1 (some 70) ?_ rfl rfl (by kernel_rfl) (fun _ _ _ h => h) rfl (fun wz hwz => ?_) ?_
    rotate_left
    ·(obtain ⟨f0, f1, f2, f3, f4⟩ := ha.onl (by omega) hwz; go_simp; try (with_reducible rfl))
    simp only [Zp, Zq, Zr, Zs]
    refine WpX.vD 2 (some 71) ?_ rfl rfl (by kernel_rfl) (fun _ _ _ h => h) rfl (fun wz hwz => ?_) ?_
    rotate_left
    ·(obtain ⟨f0, f1, f2, f3, f4⟩ := hb.onl (by omega) hwz; go_simp; try (with_reducible rfl))
    simp only [Zp, Zq, Zr, Zs]
    refine WpX.vD 5 (some 74) ?_ rfl rfl (by kernel_rfl) (fun _ _ _ h => h) rfl (fun wz hwz => ?_) ?_
    rotate_left
    ·go_simp; try (with_reducible rfl)
    simp only [Zp, Zq, Zr, Zs]
    refine WpX.vD 6 (some 75) ?_ rfl rfl (by kernel_rfl) (fun _ _ _ h => h) rfl (fun wz hwz => ?_) ?_
    rotate_left
    ·(obtain ⟨f0, f1, f2, f3, f4⟩ := hxx.onl (by omega) hwz; go_simp; try (with_reducible rfl))
    simp only [Zp, Zq, Zr, Zs]
    refine WpX.vD 7 (some 76) ?_ rfl rfl (by kernel_rfl) (fun _ _ _ h => h) rfl (fun wz hwz => ?_) ?_
    rotate_left
    ·go_simp; try (with_reducible rfl)
    simp only [Zp, Zq, Zr, Zs]
    refine WpX.vD 8 (some 77) ?_ rfl rfl (by kernel_rfl) (fun _ _ _ h => h) rfl (fun wz hwz => ?_) ?_
    rotate_left
    ·go_simp; try (with_reducible rfl)
    simp only [Zp, Zq, Zr, Zs]
    refine WpX.vD 9 (some 78) ?_ rfl rfl (by kernel_rfl) (fun _ _ _ h => h) rfl (fun wz hwz => ?_) ?_
    rotate_left
    ·go_simp; try (with_reducible rfl)
    simp only [Zp, Zq, Zr, Zs]
    refine WpX.vD 10 (some 79) ?_ rfl rfl (by kernel_rfl) (fun _ _ _ h => h) rfl (fun wz hwz => ?_) ?_
    rotate_left
    ·(obtain ⟨f0, f1⟩ := (RowE.exc hJ9 (S := fun q => q = gl) (by show ¬ bj = gl; omega) hwz).kat HJ.out; go_simp; try (with_reducible rfl))
    simp only [Zp, Zq, Zr, Zs]
    refine WpX.oneD 3 (some 72) rfl rfl (by kernel_rfl) (fun b : Nat => Value.slice (some ⟨b, 0, none⟩) 2 2) (fun _ => Onl gl w9) (fun b wz => (OnlB gl w9 ZS wz ∧ gl ≠ b) ∧ BlkE wz b [eK xa, eK xb]) (Turns.val rfl (fun _ _ h => h) (fun _ _ h => h.1.1.1) (fun b => ((OnlB.clo gl w9 ZS).and (Clo.const _)).and (Clo.blk b _)) (fun wz hS => ⟨wz.heap.size, wz.alloc (.cells #[.int .u64 (lo xa), .int .u64 (hi xa), .int .u64 (lo xb), .int .u64 (hi xb)] 36), by go_simp; try (with_reducible rfl), ⟨OnlB.clo gl w9 ZS _ _ hS ((Below.refl _ _).alloc (Nat.le_refl _) _), by have := hS.2.lt; omega⟩, BlkE.new wz [eK xa, eK xb] _ rfl⟩)) (fun nb2 => ?_)
    simp only [Zp, Zq, Zr, Zs]
    refine WpX.oneD 4 (some 73) rfl rfl (by kernel_rfl) (fun _ : Unit => Value.slice (some ⟨gl, 0, none⟩) (2 * t + 2) e) (fun _ => Onl gl w9) (fun _ => OnlB gl w9 (esK (argL v r part s (t + 1)) ++ List.replicate (e - 2 * (t + 1)) (0, 0))) (Turns.val rfl (fun _ _ h => h) (fun _ _ h => h.1) (fun _ => OnlB.clo gl w9 _) (fun wz hS => by obtain ⟨w', hr, hB, hE⟩ := run_append_roomE hS.1.1.2 24 (2 * t) 2 2 e nb2 0 [eK xa, eK xb] rfl hS.2.rowE HZL.out (by omega); exact ⟨(), w', exec_append (.tmp 69) (.tmp 72) rfl rfl rfl hr, hS.1.1.1.more hE, by rw [HFF.out] at hB; exact hB⟩)) (fun u9 => ?_)
    simp only [Zp, Zq, Zr, Zs]
    refine WpX.takeD 11 (some 80) rfl rfl (by kernel_rfl) (fun _ _ _ h => h) (.call rfl (fun wz hwz => HMUL.out (kpw r (t + 1)) r wz) (fun wz hwz => ?_)) ?_
    ·go_simp; try (with_reducible rfl)
    simp only [Zp, Zq, Zr, Zs]
    refine WpX.done (by kernel_rfl) (fun w10 hS => ?_)
    (try simp only [List.drop_succ_cons]); (try simp only [List.drop_zero]); (try simp only [Nat.reduceSub]); (try simp only [List.take_succ_cons]); (try simp only [List.take_zero])
    have hO := hS.1
    replace hx := hx.onl (by omega) hO
    replace hp := hp.onl (by omega) hO
    replace s0 := s0.onl (by omega) hO
    replace hout := hout.onl (by omega) hO
    replace hxx := hxx.onl (by omega) hO
    replace hinv := hinv.exc (fun q hq h => ng (by have h2 : q = gl := h; rw [← h2]; exact hq)) hO
    replace hexc := hexc.more hO (fun q h => .inr (by have h2 : q = gl := h; omega))
    replace hBk := hS.2
    clear hS hO ha hb HFF HP hJ9 hbj9 hgw9 HZL HF
    obtain ⟨xx0, xx1, xx2, xx3, xx4⟩ := V2.mk hxx.c0 hxx.c1 hxx.f0 hxx.f1 hxx.lt
    go_wp2_with fail
    go_roundw
    case rel =>
     exact ⟨t + 1, by omega, rfl, by go_num, (hx.far (by dsimp only; omega) _).far (by dsimp only; omega) _, V2.oth hp (by omega) _ _, V2.oth s0 (by omega) _ _, V2.oth hout (by omega) _ _, V2.set hxx _ _, (hBk.far (by dsimp only; omega) _).far (by dsimp only; omega) _, hinv.st nx _ _, hexc.st (by omega) _ _⟩
    case measure => simp [intOf]; omega
end

end Go.Proofs.YtfbfbijkkbflkaaGreatDoor
