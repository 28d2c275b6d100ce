/-
 Ask, Room, RegX: what the statements of this layer share.
-/
import Derived.Laws.CopyOwn
import Derived.Test.YtfbfbijkkbflkaaGreatDoorMao
namespace Go.Proofs.YtfbfbijkkbflkaaGreatDoor
open Go.RowKit Fm
set_option linter.unusedVariables false
set_option maxRecDepth 100000

section
variable {f : Nat} (hf : IsF f)
include hf

set_option maxHeartbeats 4000000 in
theorem circuit_bits (K B N M C : Int) (q : Nat) (hq : q ≤ 1024) (v j : KL f) (part r : Fin (Pm f)) (hr : j.getD 0 0 = r) (g : Nat) (cap : Array Value) (D : Nat → Prop) (Inv : Nat → (Nat → Prop) → World → Prop) (ans : Nat → Fin (Pm f)) (cd : Int)
  (HA : Asked (.sum q) v j part g cap Inv ans cd) (hq1 : 1 ≤ q) (hl : v.length = q) (vl : Value) (w : World) (hin : SlX D w vl v) (hinv : St (Inv 0) D w) :
  Calls Tryz.prog 77 #[.agg #[.int .u8 K, .int .u8 f, .int .i64 B, .int .i64 N, .int .i64 M, .int .i64 C], vl, vK r, .func (.func g) #[] cap] w (RetRun (bitsF ans r q) q cd Inv D w) := by
 have HENT := HA.ent
 have HCALL : Hid (∀ k T wz b x, k < q → v[k]? = some x → St (Inv k) T wz → b < wz.heap.size → ¬ T b → RowE wz b 0 [eK x] → Calls Tryz.prog g (#[.slice (some ⟨b, 0, none⟩) 1 1] ++ cap) wz fun e w' => e = .returned (.tuple #[vK (ans k), .int .i64 cd]) ∧ ∃ T', St (Inv (k + 1)) T' w' ∧ (∀ q, T' q → T q ∨ wz.heap.size ≤ q) ∧ Exc T wz.heap.size wz w') := by
  intro k T wz b x hk hx hi hb hn hrow
  refine HA.run k T wz _ hk hi (SlX.of ?_ (by omega) (by omega) hb hn ?_)
  ·rfl
  ·show RowE wz b 0 (esK [v.getD k 0])
   rw [getD_of hx]
   exact hrow
 have HLEN := Lib.hid hl
 have HADD := Lib.hid (fun (x y : Fin (Pm f)) wz => field_AddK hf x y wz)
 have HMUL := Lib.hid (fun (x y : Fin (Pm f)) wz => field_MulK hf x y wz)
 have hfb0 : (1 : Int) ≤ (f : Int) := by rcases hf.or with rfl | rfl <;> omega
 have hfb1 : (f : Int) ≤ 2 := by rcases hf.or with rfl | rfl <;> omega
 have hin2 := hin
 obtain ⟨A, cc, rfl, hc, hcm, hA⟩ := hin
 have HIN := Lib.hid hin2
 clear hin2 hA hc hcm hl hr HA
 rw [show v.length = q from HLEN.out]
 rw [show v.length = q from HLEN.out] at HIN
 have hexc : Exc D w.heap.size w w := exc_of (Below.refl _ _)
 have hlt0 := hinv.lt
 go_enter Tryz.func77, Tryz.ntmps77
 go_upto_region 1 with fail
 have hx := ((Vs.new w [.int .u8 K, .int .u8 f, .int .i64 B, .int .i64 N, .int .i64 M, .int .i64 C] #[.int .u8 K, .int .u8 f, .int .i64 B, .int .i64 N, .int .i64 M, .int .i64 C] 30 rfl).alloc (.cells #[.int .u64 (lo r), .int .u64 (hi r)] 36)).alloc (.cells #[.int .u64 0, .int .u64 0] 36)
 have hr := (V2.new (w.alloc (.cells #[.int .u8 K, .int .u8 f, .int .i64 B, .int .i64 N, .int .i64 M, .int .i64 C] 30)) (.int .u64 (lo r)) (.int .u64 (hi r)) 36).alloc (.cells #[.int .u64 0, .int .u64 0] 36)
 have s0 := V2.new ((w.alloc (.cells #[.int .u8 K, .int .u8 f, .int .i64 B, .int .i64 N, .int .i64 M, .int .i64 C] 30)).alloc (.cells #[.int .u64 (lo r), .int .u64 (hi r)] 36)) (.int .u64 0) (.int .u64 0) 36
 simp only [World.size_alloc] at hr s0
 have hb00 : Below w.heap.size w (((w.alloc (.cells #[.int .u8 K, .int .u8 f, .int .i64 B, .int .i64 N, .int .i64 M, .int .i64 C] 30)).alloc (.cells #[.int .u64 (lo r), .int .u64 (hi r)] 36)).alloc (.cells #[.int .u64 0, .int .u64 0] 36)) := by repeat (first | exact bA | with_reducible assumption | apply bB)
 have hszn : w.heap.size + 3 ≤ (((w.alloc (.cells #[.int .u8 K, .int .u8 f, .int .i64 B, .int .i64 N, .int .i64 M, .int .i64 C] 30)).alloc (.cells #[.int .u64 (lo r), .int .u64 (hi r)] 36)).alloc (.cells #[.int .u64 0, .int .u64 0] 36)).heap.size := by simp only [World.size_alloc]; omega
 generalize (((w.alloc (.cells #[.int .u8 K, .int .u8 f, .int .i64 B, .int .i64 N, .int .i64 M, .int .i64 C] 30)).alloc (.cells #[.int .u64 (lo r), .int .u64 (hi r)] 36)).alloc (.cells #[.int .u64 0, .int .u64 0] 36)) = w1 at hx hr s0 hb00 hszn ⊢
 replace hinv := hinv.call hb00
 replace hexc := hexc.call hb00
 obtain ⟨⟨x0, x1, x2, x3, x4, x5⟩, ⟨x6, x7, x8, x9, x10, x11⟩, x12⟩ := hx.get6
 go_upto_region 3 with fail
 clear x0 x1 x2 x3 x4 x5 x6 x7 x8 x9 x10 x11 x12
 have hszm : w.heap.size + 3 ≤ w1.heap.size := hszn
 have hout := V2.new w1 (.int .u64 0) (.int .u64 0) 36
 have hbA : Below w1.heap.size w1 (w1.alloc (.cells #[.int .u64 0, .int .u64 0] 36)) := by repeat (first | exact bA | with_reducible assumption | apply bB)
 replace hexc := hexc.call hbA
 replace hx := hx.call hbA
 replace hr := hr.call hbA
 replace s0 := s0.call hbA
 replace hinv := hinv.call hbA
 clear hbA
 generalize w1.alloc (.cells #[.int .u64 0, .int .u64 0] 36) = w2 at hexc hx hr s0 hinv hout ⊢
 obtain ⟨r0, r1, r2, r3, r4⟩ := V2.mk hr.c0 hr.c1 hr.f0 hr.f1 hr.lt
 go_upto_region 4 with fail
 clear r0 r1 r2 r3 r4
 have hszo : w1.heap.size < w2.heap.size := hout.lt
 have hpw := V2.new w2 (.int .u64 (lo r)) (.int .u64 (hi r)) 36
 have hbA : Below w2.heap.size w2 (w2.alloc (.cells #[.int .u64 (lo r), .int .u64 (hi r)] 36)) := by repeat (first | exact bA | with_reducible assumption | apply bB)
 replace hexc := hexc.call hbA
 replace hx := hx.call hbA
 replace hr := hr.call hbA
 replace s0 := s0.call hbA
 replace hinv := hinv.call hbA
 replace hout := hout.call hbA
 clear hbA
 generalize w2.alloc (.cells #[.int .u64 (lo r), .int .u64 (hi r)] 36) = w3 at hexc hx hr s0 hinv hout hpw ⊢
 have hbo : w.heap.size + 3 ≤ w1.heap.size := hszm
 obtain ⟨bo, hbo2⟩ : ∃ bo, w1.heap.size = bo := ⟨_, rfl⟩
 obtain ⟨bp, hbp2⟩ : ∃ bp, w2.heap.size = bp := ⟨_, rfl⟩
 rw [hbo2] at hout hszo hbo
 rw [hbp2] at hpw hszo
 simp only [hbo2, hbp2]
 clear hbo2 hbp2 hszm hszn hb00
 go_wp2_with fail
 go_loopw [22] (fun i wr => ∃ (k : Nat) (T : Nat → Prop), k ≤ q ∧ i = .int .i64 k ∧ (k = 0 ∨ cd = 0) ∧ V2 wr (w.heap.size + 1) (.int .u64 (lo r)) (.int .u64 (hi r)) ∧ V2 wr (w.heap.size + 2) (.int .u64 0) (.int .u64 0) ∧
   V2 wr bo (.int .u64 (lo (bitsF ans r k))) (.int .u64 (hi (bitsF ans r k))) ∧ V2 wr bp (.int .u64 (lo (kpw r (k + 1)))) (.int .u64 (hi (kpw r (k + 1)))) ∧ St (Inv k) T wr ∧ Hid (∀ b, T b → D b ∨ w.heap.size ≤ b) ∧ (¬ T (w.heap.size + 1) ∧ ¬ T (w.heap.size + 2) ∧ ¬ T bo ∧ ¬ T bp) ∧ Exc D w.heap.size w wr) (fun i _ => q - (intOf i).toNat)
 case atStart =>
  refine ⟨0, D, Nat.zero_le _, rfl, .inl rfl, hr, s0, ?_, ?_, hinv, fun b h => .inl h, ⟨fun h => ?_, fun h => ?_, fun h => ?_, fun h => ?_⟩, hexc⟩
  ·rw [bitsF_zero, lo_zero, hi_zero]
   exact hout
  ·rw [show kpw r (0 + 1) = r by show 1 * r = r; grind]
   exact hpw
  all_goals have := hlt0 _ h; omega
 case round =>
  clear hx hr s0 hout hpw hinv hexc
  obtain ⟨k, T, hk, rfl, hk0, hr, s0, hout, hpw, hinv, hTD, ⟨n1, n2, no, np⟩, hexc⟩ := hrel
  have hsz := hexc.size
  by_cases hlt : k < q
  rotate_left
  ·obtain rfl : k = q := by omega
   have hcd : cd = 0 := by omega
   obtain ⟨out0, out1, out2, out3, out4⟩ := V2.mk hout.c0 hout.c1 hout.f0 hout.f1 hout.lt
   obtain ⟨s00, s01, s02, s03, s04⟩ := V2.mk s0.c0 s0.c1 s0.f0 s0.f1 s0.lt
   go_wp2_with fail
   refine bodyPost_ret (results_v2_tmp (b := w.heap.size + 2) (u := .int .u64 (lo (bitsF ans r k))) (v := .int .u64 (hi (bitsF ans r k))) ?_ rfl rfl) rfl ?_
   ·exact V2.set s0 _ _
   ·exact ⟨.inl ⟨hcd, rfl, T, hinv.st n2 _ _, hTD.out⟩, hexc.st (by omega) _ _⟩
  obtain ⟨x, he⟩ : ∃ e, v[k]? = some e := ⟨_, List.getElem?_eq_getElem (by rw [HLEN.out]; exact hlt)⟩
  obtain ⟨b, o, rfl, hbl, d0, d1⟩ := (HIN.out.exc hexc).at he
  have HX := Lib.hid he
  clear he
  go_upto_region 7 with fail
  have hx := V2.new wr (.int .u64 (lo x)) (.int .u64 (hi x)) 36
  have hbA : Below wr.heap.size wr (wr.alloc (.cells #[.int .u64 (lo x), .int .u64 (hi x)] 36)) := by repeat (first | exact bA | with_reducible assumption | apply bB)
  replace hexc := hexc.call hbA
  replace hr := hr.call hbA
  replace s0 := s0.call hbA
  replace hout := hout.call hbA
  replace hpw := hpw.call hbA
  replace hinv := hinv.call hbA
  clear hbA
  generalize wr.alloc (.cells #[.int .u64 (lo x), .int .u64 (hi x)] 36) = w4 at hexc hr s0 hout hpw hinv hx ⊢
  clear d0 d1
  have hbA : Below w4.heap.size w4 (w4.alloc (.cells #[.int .u64 (lo x), .int .u64 (hi x)] 36)) := by repeat (first | exact bA | with_reducible assumption | apply bB | (refine bC ?_ (by dsimp only; omega)) | apply bD | apply bE | (refine bF ?_ (by assumption)))
  have hrow : RowE (w4.alloc (.cells #[.int .u64 (lo x), .int .u64 (hi x)] 36)) w4.heap.size 0 [eK x] := (BlkE.new w4 [eK x] _ rfl).rowE
  have hlt5 : w4.heap.size < (w4.alloc (.cells #[.int .u64 (lo x), .int .u64 (hi x)] 36)).heap.size := by simp
  have hsz4 := hexc.size
  have hn4 : ¬ T w4.heap.size := fun hs => by have := hinv.lt _ hs; omega
  obtain ⟨x0, x1, x2, x3, x4⟩ := V2.mk hx.c0 hx.c1 hx.f0 hx.f1 hx.lt
  go_wp2_with fail
  clear x0 x1 x2 x3 x4
  replace hexc := hexc.call hbA
  replace hr := hr.call hbA
  replace s0 := s0.call hbA
  replace hout := hout.call hbA
  replace hpw := hpw.call hbA
  replace hinv := hinv.call hbA
  replace hx := hx.call hbA
  clear hbA
  generalize w4.alloc (.cells #[.int .u64 (lo x), .int .u64 (hi x)] 36) = w5 at *
  refine (HCALL.out k T _ _ x hlt HX.out hinv hlt5 hn4 hrow).mono ?_
  rintro e w6 ⟨rfl, T', hinv6, hT6, hex6⟩
  replace hinv := hinv6
  obtain ⟨hr, n1⟩ := hr.ask n1 hex6 hT6
  obtain ⟨s0, n2⟩ := s0.ask n2 hex6 hT6
  obtain ⟨hout, no⟩ := hout.ask no hex6 hT6
  obtain ⟨hpw, np⟩ := hpw.ask np hex6 hT6
  have hTD2 : Hid (∀ b, T' b → D b ∨ w.heap.size ≤ b) := fun b h => (hT6 b h).elim (hTD.out b) fun h2 => .inr (by have := hexc.size; omega)
  replace hexc := hexc.more hex6 hTD.out
  clear hex6 hinv6 hT6 hrow hlt5 hn4 hx HCALL hTD
  go_upto_region 8 with fail
  have hy := V2.new w6 (.int .u64 (lo (ans k))) (.int .u64 (hi (ans k))) 36
  have hbA : Below w6.heap.size w6 (w6.alloc (.cells #[.int .u64 (lo (ans k)), .int .u64 (hi (ans k))] 36)) := by repeat (first | exact bA | with_reducible assumption | apply bB)
  replace hexc := hexc.call hbA
  replace hr := hr.call hbA
  replace s0 := s0.call hbA
  replace hout := hout.call hbA
  replace hpw := hpw.call hbA
  replace hinv := hinv.call hbA
  clear hbA
  generalize w6.alloc (.cells #[.int .u64 (lo (ans k)), .int .u64 (hi (ans k))] 36) = w7 at hexc hr s0 hout hpw hinv hy ⊢
  by_cases hcd : cd = 0
  ·subst hcd
   go_upto_region 10 with fail
   obtain ⟨out0, out1, out2, out3, out4⟩ := V2.mk hout.c0 hout.c1 hout.f0 hout.f1 hout.lt
   obtain ⟨pw0, pw1, pw2, pw3, pw4⟩ := V2.mk hpw.c0 hpw.c1 hpw.f0 hpw.f1 hpw.lt
   obtain ⟨y0, y1, y2, y3, y4⟩ := V2.mk hy.c0 hy.c1 hy.f0 hy.f1 hy.lt
   obtain ⟨r0, r1, r2, r3, r4⟩ := V2.mk hr.c0 hr.c1 hr.f0 hr.f1 hr.lt
   refine region_B (n := 11) (m := 13) (f := 11) (by kernel_rfl) (by kernel_rfl) rfl ?_
   refine WpH.vD 0 (some 37) ?_ rfl rfl (by kernel_rfl) (fun _ _ _ h => h) rfl (fun wz hwz => ?_) ?_
   rotate_left
   ·go_simp; try (with_reducible rfl)
   simp only [Zp, Zq, Zr, Zs]
   refine WpH.vD 1 (some 38) ?_ rfl rfl (by kernel_rfl) (fun _ _ _ h => h) rfl (fun wz hwz => ?_) ?_
   rotate_left
   ·(obtain ⟨hcz, hfz⟩ := bcell hwz; go_simp; try (with_reducible rfl))
   simp only [Zp, Zq, Zr, Zs]
   refine WpH.vD 2 (some 39) ?_ rfl rfl (by kernel_rfl) (fun _ _ _ h => h) rfl (fun wz hwz => ?_) ?_
   rotate_left
   ·go_simp; try (with_reducible rfl)
   simp only [Zp, Zq, Zr, Zs]
   refine WpH.vD 3 (some 40) ?_ rfl rfl (by kernel_rfl) (fun _ _ _ h => h) rfl (fun wz hwz => ?_) ?_
   rotate_left
   ·(obtain ⟨hcz, hfz⟩ := bcell hwz; go_simp; try (with_reducible rfl))
   simp only [Zp, Zq, Zr, Zs]
   refine WpH.vD 4 (some 41) ?_ rfl rfl (by kernel_rfl) (fun _ _ _ h => h) rfl (fun wz hwz => ?_) ?_
   rotate_left
   ·(obtain ⟨hcz, hfz⟩ := bcell hwz; go_simp; try (with_reducible rfl))
   simp only [Zp, Zq, Zr, Zs]
   refine WpH.takeD 5 (some 42) rfl rfl (by kernel_rfl) (fun _ _ _ h => h) (.call rfl (fun wz hwz => HMUL.out (kpw r (k + 1)) (ans k) wz) (fun wz hwz => ?_)) ?_
   ·go_simp; try (with_reducible rfl)
   simp only [Zp, Zq, Zr, Zs]
   refine WpH.takeD 6 (some 43) rfl rfl (by kernel_rfl) (fun _ _ _ h => h) (.call rfl (fun wz hwz => HADD.out (bitsF ans r k) (kpw r (k + 1) * ans k) wz) (fun wz hwz => ?_)) ?_
   ·go_simp; try (with_reducible rfl)
   simp only [Zp, Zq, Zr, Zs]
   refine WpH.vD 7 (some 44) ?_ rfl rfl (by kernel_rfl) (fun _ _ _ h => h) rfl (fun wz hwz => ?_) ?_
   rotate_left
   ·go_simp; try (with_reducible rfl)
   simp only [Zp, Zq, Zr, Zs]
   refine WpH.vD 8 (some 45) ?_ rfl rfl (by kernel_rfl) (fun _ _ _ h => h) rfl (fun wz hwz => ?_) ?_
   rotate_left
   ·(obtain ⟨hcz, hfz⟩ := bcell hwz; go_simp; try (with_reducible rfl))
   simp only [Zp, Zq, Zr, Zs]
   refine WpH.vD 9 (some 46) ?_ rfl rfl (by kernel_rfl) (fun _ _ _ h => h) rfl (fun wz hwz => ?_) ?_
   rotate_left
   ·(obtain ⟨hcz, hfz⟩ := bcell hwz; go_simp; try (with_reducible rfl))
   simp only [Zp, Zq, Zr, Zs]
   refine WpH.takeD 10 (some 47) rfl rfl (by kernel_rfl) (fun _ _ _ h => h) (.call rfl (fun wz hwz => HMUL.out (kpw r (k + 1)) r wz) (fun wz hwz => ?_)) ?_
   ·go_simp; try (with_reducible rfl)
   simp only [Zp, Zq, Zr, Zs]
   refine WpH.doneB (by kernel_rfl) (fun w8 hw8 => ?_)
   (try simp only [List.drop_succ_cons]); (try simp only [List.drop_zero]); (try simp only [Nat.reduceSub]); (try simp only [List.take_succ_cons]); (try simp only [List.take_zero])
   clear out0 out1 out2 out3 out4 pw0 pw1 pw2 pw3 pw4 y0 y1 y2 y3 y4 r0 r1 r2 r3 r4
   replace hexc := hexc.call hw8
   replace hr := hr.call hw8
   replace s0 := s0.call hw8
   replace hout := hout.call hw8
   replace hpw := hpw.call hw8
   replace hinv := hinv.call hw8
   replace hy := hy.call hw8
   clear hw8
   obtain ⟨out0, out1, out2, out3, out4⟩ := V2.mk hout.c0 hout.c1 hout.f0 hout.f1 hout.lt
   obtain ⟨pw0, pw1, pw2, pw3, pw4⟩ := V2.mk hpw.c0 hpw.c1 hpw.f0 hpw.f1 hpw.lt
   go_wp2_with fail
   go_roundw
   case rel =>
    exact ⟨k + 1, T', by omega, by go_num, (by first | exact .inr rfl | exact .inr trivial | simp), V2.oth (V2.oth hr (by omega) _ _) (by omega) _ _, V2.oth (V2.oth s0 (by omega) _ _) (by omega) _ _, V2.oth (V2.set hout _ _) (by omega) _ _, V2.set (V2.oth hpw (by omega) _ _) _ _, (hinv.st no _ _).st np _ _, hTD2.out, ⟨n1, n2, no, np⟩, (hexc.st (by omega) _ _).st (by omega) _ _⟩
   case measure => simp [intOf]; omega
  ·have hcd1 : (cd == 0) = false := by simpa using hcd
   have hcd2 : (cd != 0) = true := by simpa using hcd
   obtain ⟨s00, s01, s02, s03, s04⟩ := V2.mk s0.c0 s0.c1 s0.f0 s0.f1 s0.lt
   go_wp2_with fail
   refine bodyPost_ret (results_v2_tmp (b := w.heap.size + 2) (u := .int .u64 0) (v := .int .u64 0) ?_ rfl rfl) rfl ?_
   ·first | exact V2.set s0 _ _ | exact s0
   ·obtain rfl : k = 0 := by omega
    exact ⟨.inr ⟨hcd, rfl, T', (by first | exact hinv | exact hinv.st n2 _ _), hTD2.out⟩, (by first | exact hexc | exact hexc.st (by omega) _ _)⟩
end

end Go.Proofs.YtfbfbijkkbflkaaGreatDoor

namespace Go.Proofs.YtfbfbijkkbflkaaGreatDoor
open Go.RowKit Fm
set_option linter.unusedVariables false
set_option maxRecDepth 100000

theorem cellsE_take : ∀ (xs : List E) (n : Nat), cellsE (xs.take n) = (cellsE xs).take (n * 2)
 | [], n => by simp [cellsE]
 | x :: l, 0 => by simp [cellsE]
 | x :: l, n + 1 => by
  rw [List.take_succ_cons, show (n + 1) * 2 = n * 2 + 1 + 1 by omega]
  simp only [cellsE, List.take_succ_cons, cellsE_take l n]
theorem cellsE_drop : ∀ (xs : List E) (n : Nat), cellsE (xs.drop n) = (cellsE xs).drop (n * 2)
 | [], n => by simp [cellsE]
 | x :: l, 0 => by simp [cellsE]
 | x :: l, n + 1 => by
  rw [List.drop_succ_cons, show (n + 1) * 2 = n * 2 + 1 + 1 by omega]
  simp only [cellsE, List.drop_succ_cons, cellsE_drop l n]

theorem make_cap (c : Nat) (hc : c ≤ 1099511627776) (w : World) :
  (Instr.makeSlice 24 (.int .i64 0) (.int .i64 (c : Int))).run Tryz.prog w = .ok (.slice (some ⟨w.heap.size, 0, none⟩) 0 c) (w.alloc (.cells (cellsE (List.replicate c (0, 0))).toArray 36)) := by
 obtain ⟨i, hi, hz, h1, h2⟩ := info_parts info_elem
 have hr := run_make (P := Tryz.prog) w 24 36 i _ Tryz.underlying24 hi hz .i64 .i64 0 c (by omega) (by omega) (by rw [h2]; omega) (by omega)
 rw [hr, h1]
 simp only [Int.toNat_natCast, Int.toNat_zero, Value.cells, madeCells_elem]

theorem run_append_roomE {w : World} {g : Nat} {zs : List E} (hg : BlkE w g zs) (ty : TypeId) (n m c cap : Nat) (b o : Nat) (ys : List E) (hm : ys.length = m) (hr : RowE w b o ys) (hz : zs.length = cap) (hroom : n + m ≤ cap) :
  ∃ w', (Builtin.append_ #[24, 24] ty #[.slice (some ⟨g, 0, none⟩) n cap, .slice (some ⟨b, o, none⟩) m c]).run Tryz.prog w = .ok (.slice (some ⟨g, 0, none⟩) (n + m) cap) w' ∧
   BlkE w' g (zs.take n ++ ys ++ zs.drop (n + m)) ∧ Exc (fun q => q = g) w.heap.size w w' := by
 subst hz
 obtain ⟨i, hi, hz, h1, h2⟩ := info_parts info_elem
 have hrun := run_append_room (P := Tryz.prog) w 24 ty 36 i Tryz.underlying24 hi g n zs.length (cellsE zs).toArray hg ⟨b, o, none⟩ m c (cellsE ys) (by rw [length_cellsE, hm, h1]) hr.cells (oneCell_cellsE ys) hroom
  (by rw [h1, length_cellsE]; simp only [List.size_toArray, length_cellsE]; omega)
 refine ⟨_, hrun, ?_, ⟨rfl, rfl, rfl, by simp, fun k hk hne => setRow_other w g k _ hne⟩⟩
 have hlt := hg.lt
 rw [h1, length_cellsE, hm]
 have e : (cellsE (zs.take n ++ ys ++ zs.drop (n + m))).toArray = (List.take (n * 2) (cellsE zs) ++ cellsE ys ++ List.drop (n * 2 + m * 2) (cellsE zs)).toArray := by
  rw [cellsE_append, cellsE_append, cellsE_take, cellsE_drop, Nat.add_mul]
 show (w.setRow g _).heap[g]? = some (.cells (cellsE _).toArray 36 (0, 0))
 rw [e]
 exact setRow_heap w g _ _ _ _ hg

theorem exec_append {w w' : World} {o : Oper} {a : Act} (s x : Operand) (ho : o.op = .call { callee := .builtin .append, args := #[s, x], argTypes := #[24, 24] }) {v1 v2 v' : Value} (hs : a.eval s = v1) (hx : a.eval x = v2)
  (hrun : (Builtin.append_ #[24, 24] o.type #[v1, v2]).run Tryz.prog w = .ok v' w') : (execOp a.eval o).run Tryz.prog w = .ok (.value v') w' := by
 unfold execOp
 simp only [ho, resolve, invoke, builtin, Sem.run_bind, Sem.run_pure, Result.andThen_ok, List.map_toArray, List.map_cons, List.map_nil, hs, hx, hrun]

end Go.Proofs.YtfbfbijkkbflkaaGreatDoor

namespace Go.Proofs.YtfbfbijkkbflkaaGreatDoor
open Go Go.RowKit

section
variable {P : Program} {ops : Array Oper} {Q : Exit → Act → World → Prop} {md : Region.Mode}

def wpX (P : Program) (md : Region.Mode) (ops : Array Oper) (Q : Exit → Act → World → Prop) (n m : Nat) (L : Act → World → Prop) : Nat → Array Bool → Act → (World → Prop) → (World → Prop) → Prop
 | 0, listed, a, _, S => Region.seqB md ops (m - n) n listed = true ∧ ∀ w, S w → L a w
 | f + 1, listed, a, T, S =>
  Region.ready md ops listed ≠ [] ∧
  ∀ i ∈ Region.ready md ops listed, i < n ∧ ∀ w, S w → wpOp P ops Q i (fun a' w' => ∃ T' S' : World → Prop, (∀ w, T' w → T w) ∧ (∀ w, S' w → T' w) ∧ Clo S' ∧ S' w' ∧ wpX P md ops Q n m L f (listed.setIfInBounds i true) a' T' S') a w

theorem wpAny_of_X {n m : Nat} {L : Act → World → Prop} (hL : ∀ listed a w, Region.seqB md ops (m - n) n listed = true → L a w → wpAny P md ops Q (m - n) listed a w) :
  ∀ (f : Nat) (listed : Array Bool) (a : Act) (T S : World → Prop), wpX P md ops Q n m L f listed a T S → ∀ w, S w → wpAny P md ops Q (f + (m - n)) listed a w
 | 0, listed, a, T, S, h, w, hS => by rw [Nat.zero_add]; exact hL _ _ _ h.1 (h.2 w hS)
 | f + 1, listed, a, T, S, h, w, hS => by
  rw [show f + 1 + (m - n) = (f + (m - n)) + 1 by omega]
  refine ⟨fun h0 => absurd h0 h.1, fun i hi => wpOp_mono (fun a' w' h' => ?_) ((h.2 i hi).2 w hS)⟩
  obtain ⟨T', S', _, _, _, hS', hG⟩ := h'
  exact wpAny_of_X hL f _ a' T' S' hG w' hS'

theorem wpX_first {n m : Nat} {L : Act → World → Prop} (hp : Parts md ops n m) {i : Nat} {oi : Oper} {v : Value} (hi : ops[i]? = some oi) (hin : i < n)
  (hQ : ∀ c a w, Q (.panic c) (a.put oi.dst v) w → Q (.panic c) a w) :
  ∀ (f : Nat) (listed : Array Bool) (a : Act) (T S : World → Prop), (∀ w, S w → T w) → Clo S → HInv md ops n m listed →
   (∀ j oj, ops[j]? = some oj → j ≠ i → listed.getD j true = false → (∀ e ∈ oj.after, Region.binds md e = true → e.on ≠ i) → oi.apart ops oj = true) →
   i ∈ Region.ready md ops listed → Det P ops T oi v a →
   wpX P md ops Q n m L f (listed.setIfInBounds i true) (a.put oi.dst v) T S → wpX P md ops Q n m L (f + 1) listed a T S := by
 have hsel := Region.noSelect_spec hp.nosel
 intro f
 induction f with
 | zero =>
  intro listed a T S hST hC inv _ hr hy H
  have hun := (mem_ready.1 hr).1
  refine ⟨fun h => (by rw [h] at hr; cases hr), fun j hj => ?_⟩
  have hjn : j < n := by
   rcases Nat.lt_or_ge j n with h | h
   ·exact h
   ·exact absurd hj (head_only hp inv _ i rfl hin hun j h)
  refine ⟨hjn, fun w hS => ?_⟩
  by_cases hji : j = i
  ·subst hji
   exact hy.wpOp hi (hST _ hS) fun w' hb => ⟨T, S, fun _ h => h, hST, hC, hC _ _ hS hb, H⟩
  ·have := seqB_ready H.1 j (ready_mono hj hji)
   omega
 | succ f ih =>
  intro listed a T S hST hC inv hfree hr hy H
  have hun := (mem_ready.1 hr).1
  refine ⟨fun h => (by rw [h] at hr; cases hr), fun j hj => ?_⟩
  have hjn : j < n := by
   rcases Nat.lt_or_ge j n with h | h
   ·exact h
   ·exact absurd hj (head_only hp inv _ i rfl hin hun j h)
  refine ⟨hjn, fun w hS => ?_⟩
  by_cases hji : j = i
  ·subst hji
   exact hy.wpOp hi (hST _ hS) fun w' hb => ⟨T, S, fun _ h => h, hST, hC, hC _ _ hS hb, H⟩
  ·have h1 := (H.2 j (ready_mono hj hji)).2 w hS
   obtain ⟨hjun, oj, hoj, hall⟩ := mem_ready.1 hj
   have hnot : ∀ e ∈ oj.after, Region.binds md e = true → e.on ≠ i := fun e he hb heq => by
    have h1 := hall e he hb
    rw [heq, getD_both hun] at h1
    cases h1
   have h2 := wpOp_putDet hoj (hfree j oj hoj hji hjun hnot) (fun cs b => hsel i oi cs b hi) (fun cs b => hsel j oj cs b hoj) hQ hy h1
   have hfree' : ∀ k ok, ops[k]? = some ok → k ≠ i → (listed.setIfInBounds j true).getD k true = false →
     (∀ e ∈ ok.after, Region.binds md e = true → e.on ≠ i) → oi.apart ops ok = true := fun k ok hk hki hu hno => by
    refine hfree k ok hk hki ?_ hno
    by_cases hjk : j = k
    ·subst hjk
     exact hjun
    ·rw [getD_set_ne true hjk] at hu
     exact hu
   refine wpOp_mono (fun a' w' h3 => ?_) h2
   have hcomm : (listed.setIfInBounds i true).setIfInBounds j true = (listed.setIfInBounds j true).setIfInBounds i true := (Array.setIfInBounds_comm _ _ hji).symm
   rw [hcomm] at h3
   obtain ⟨hd, T', S', hT', hST', hC', hS', hG⟩ := h3
   exact ⟨T', S', hT', hST', hC', hS', ih (listed.setIfInBounds j true) a' T' S' hST' hC' (inv.set hj hjn hp.lt) hfree' (ready_mono hr (Ne.symm hji)) (hd.weak hT') hG⟩

def WpX (P : Program) (md : Region.Mode) (ops : Array Oper) (Q : Exit → Act → World → Prop) (n m : Nat) (L : Act → World → Prop) (f : Nat) (listed : Array Bool) (a : Act) (T S : World → Prop) : Prop :=
 (∀ w, S w → T w) → Clo S → Parts md ops n m → HInv md ops n m listed → wpX P md ops Q n m L f listed a T S

variable {n m : Nat} {L : Act → World → Prop} {T S : World → Prop} {f : Nat} {listed : Array Bool} {a : Act}

theorem WpX.takeD (i : Nat) (d : Option Tmp) {oi : Oper} {v : Value} (hi : ops[i]? = some oi) (hd : oi.dst = d)
  (hB : (decide (i < n) && Region.free md ops listed i && (Region.ready md ops listed).contains i) = true)
  (hQ : ∀ c a w, Q (.panic c) (a.put d v) w → Q (.panic c) a w)
  (hy : Det P ops T oi v a)
  (h : WpX P md ops Q n m L f (listed.setIfInBounds i true) (a.put d v) T S) : WpX P md ops Q n m L (f + 1) listed a T S := by
 subst hd
 simp only [Bool.and_eq_true, decide_eq_true_eq] at hB
 obtain ⟨⟨hin, hf⟩, hr⟩ := hB
 have hr' : i ∈ Region.ready md ops listed := by simpa using hr
 exact fun hST hC hp inv => wpX_first hp hi hin hQ f listed a T S hST hC inv (Region.free_spec hi hf) hr' hy (h hST hC hp (inv.set hr' hin hp.lt))

def Turns (P : Program) (ops : Array Oper) (T S : World → Prop) {ι : Type} (F : ι → Value) (T' S' : ι → World → Prop) (o : Oper) (a : Act) : Prop :=
 Region.wanted o (yielded ops a.tmps) = true ∧ (∀ x w, T' x w → T w) ∧ (∀ x w, S' x w → T' x w) ∧ (∀ x, Clo (S' x)) ∧ ∀ w, S w → UponV P (fun v w' => ∃ x, v = F x ∧ S' x w') ((execOp a.eval o).run P w)

theorem WpX.vD (i : Nat) (d : Option Tmp) (v : Value) {oi : Oper} (hi : ops[i]? = some oi) (hd : oi.dst = d)
  (hB : (decide (i < n) && Region.free md ops listed i && (Region.ready md ops listed).contains i) = true)
  (hQ : ∀ c a w, Q (.panic c) (a.put d v) w → Q (.panic c) a w)
  (hw : Region.wanted oi (yielded ops a.tmps) = true) (hv : ∀ w, T w → (execOp a.eval oi).run P w = .ok (.value v) w)
  (h : WpX P md ops Q n m L f (listed.setIfInBounds i true) (a.put d v) T S) : WpX P md ops Q n m L (f + 1) listed a T S :=
 WpX.takeD i d hi hd hB hQ (.val hw hv) h

theorem Turns.val {ι : Type} {F : ι → Value} {T' S' : ι → World → Prop} {o : Oper} (hw : Region.wanted o (yielded ops a.tmps) = true) (hT : ∀ x w, T' x w → T w) (hST : ∀ x w, S' x w → T' x w) (hC : ∀ x, Clo (S' x))
  (h : ∀ w, S w → ∃ x w', (execOp a.eval o).run P w = .ok (.value (F x)) w' ∧ S' x w') : Turns P ops T S F T' S' o a :=
 ⟨hw, hT, hST, hC, fun w hS => by
  obtain ⟨x, w', hr, hS'⟩ := h w hS
  rw [hr]
  exact ⟨x, rfl, hS'⟩⟩
theorem Turns.call {ι : Type} {F : ι → Value} {T' S' : ι → World → Prop} {o : Oper} {g : FuncId} {args : Array Value} (hw : Region.wanted o (yielded ops a.tmps) = true) (hT : ∀ x w, T' x w → T w) (hST : ∀ x w, S' x w → T' x w) (hC : ∀ x, Clo (S' x))
  (hc : ∀ w, S w → Calls P g args w (fun e w' => ∃ x, e = .returned (F x) ∧ S' x w')) (h : ∀ w, S w → (execOp a.eval o).run P w = .ok (.enter g args) w) : Turns P ops T S F T' S' o a :=
 ⟨hw, hT, hST, hC, fun w hS => by
  rw [h w hS]
  exact Calls.mono (hc w hS) fun e w' ⟨x, he, hS'⟩ => ⟨F x, he, x, rfl, hS'⟩⟩

theorem Turns.wpOp {i : Nat} {oi : Oper} (hi : ops[i]? = some oi) {ι : Type} {F : ι → Value} {T' S' : ι → World → Prop} (hy : Turns P ops T S F T' S' oi a) {K : Act → World → Prop} {w : World} (hw : S w)
  (h : ∀ x w', S' x w' → K (a.put oi.dst (F x)) w') : wpOp P ops Q i K a w := by
 unfold Go.wpOp
 simp only [hi]
 simp only [hy.1, if_true]
 refine .inl ?_
 unfold Oper.wp
 refine (hy.2.2.2.2 w hw).upon ?_
 rintro u w' ⟨x, rfl, hR⟩
 exact h x w' hR

theorem WpX.oneD (i : Nat) (d : Option Tmp) {oi : Oper} (hi : ops[i]? = some oi) (hd : oi.dst = d) (hB : (decide (i < n) && decide (Region.ready md ops listed = [i])) = true)
  {ι : Type} (F : ι → Value) (T' S' : ι → World → Prop) (hy : Turns P ops T S F T' S' oi a)
  (h : ∀ x, WpX P md ops Q n m L f (listed.setIfInBounds i true) (a.put d (F x)) (T' x) (S' x)) : WpX P md ops Q n m L (f + 1) listed a T S := by
 subst hd
 simp only [Bool.and_eq_true, decide_eq_true_eq] at hB
 obtain ⟨hin, hr⟩ := hB
 intro hST hC hp inv
 refine ⟨by rw [hr]; simp, fun j hj => ?_⟩
 have hj' : j = i := by rw [hr] at hj; simpa using hj
 subst hj'
 refine ⟨hin, fun w hS => hy.wpOp hi hS fun x w' hS' => ?_⟩
 exact ⟨T' x, S' x, hy.2.1 x, hy.2.2.1 x, hy.2.2.2.1 x, hS', h x (hy.2.2.1 x) (hy.2.2.2.1 x) hp (inv.set hj hin hp.lt)⟩

theorem WpX.twoD (i k : Nat) (d d' : Option Tmp) {oi ok : Oper} (hi : ops[i]? = some oi) (hd : oi.dst = d) (hk : ops[k]? = some ok) (hd' : ok.dst = d') (hB : (decide (i < n) && decide (k < n) && decide (Region.ready md ops listed = [i, k])) = true)
  {ι κ : Type} (F : ι → Value) (T' S' : ι → World → Prop) (hy : Turns P ops T S F T' S' oi a)
  (G : κ → Value) (T'' S'' : κ → World → Prop) (hz : Turns P ops T S G T'' S'' ok a)
  (h : ∀ x, WpX P md ops Q n m L f (listed.setIfInBounds i true) (a.put d (F x)) (T' x) (S' x))
  (h' : ∀ x, WpX P md ops Q n m L f (listed.setIfInBounds k true) (a.put d' (G x)) (T'' x) (S'' x)) : WpX P md ops Q n m L (f + 1) listed a T S := by
 subst hd
 subst hd'
 simp only [Bool.and_eq_true, decide_eq_true_eq] at hB
 obtain ⟨⟨hin, hkn⟩, hr⟩ := hB
 intro hST hC hp inv
 refine ⟨by rw [hr]; simp, fun j hj => ?_⟩
 have hj' : j = i ∨ j = k := by rw [hr] at hj; simpa using hj
 rcases hj' with rfl | rfl
 ·refine ⟨hin, fun w hS => hy.wpOp hi hS fun x w' hS' => ?_⟩
  exact ⟨T' x, S' x, hy.2.1 x, hy.2.2.1 x, hy.2.2.2.1 x, hS', h x (hy.2.2.1 x) (hy.2.2.2.1 x) hp (inv.set hj hin hp.lt)⟩
 ·refine ⟨hkn, fun w hS => hz.wpOp hk hS fun x w' hS' => ?_⟩
  exact ⟨T'' x, S'' x, hz.2.1 x, hz.2.2.1 x, hz.2.2.2.1 x, hS', h' x (hz.2.2.1 x) (hz.2.2.2.1 x) hp (inv.set hj hkn hp.lt)⟩

theorem WpX.oneSkip (i : Nat) (d : Option Tmp) {oi : Oper} (hi : ops[i]? = some oi) (hd : oi.dst = d) (hB : (decide (i < n) && decide (Region.ready md ops listed = [i])) = true)
  (T' S' : World → Prop) (hT : ∀ w, T' w → T w) (hST : ∀ w, S' w → T' w) (hC' : Clo S') (hw : Region.wanted oi (yielded ops a.tmps) = true) (hop : ∀ w, S w → ∃ w', (execOp a.eval oi).run P w = .ok .skip w' ∧ S' w')
  (h : WpX P md ops Q n m L f (listed.setIfInBounds i true) (a.put d undef) T' S') : WpX P md ops Q n m L (f + 1) listed a T S := by
 subst hd
 simp only [Bool.and_eq_true, decide_eq_true_eq] at hB
 obtain ⟨hin, hr⟩ := hB
 intro hS0 hC hp inv
 refine ⟨by rw [hr]; simp, fun j hj => ?_⟩
 have hj' : j = i := by rw [hr] at hj; simpa using hj
 subst hj'
 refine ⟨hin, fun w hS => ?_⟩
 obtain ⟨w', hrun, hS'⟩ := hop w hS
 unfold Go.wpOp
 simp only [hi, hw, if_true]
 refine .inl ?_
 unfold Oper.wp
 rw [hrun]
 exact ⟨T', S', hT, hST, hC', hS', h hST hC' hp (inv.set hj hin hp.lt)⟩

theorem WpX.done (hB : Region.seqB md ops (m - n) n listed = true) (h : ∀ w, S w → L a w) : WpX P md ops Q n m L 0 listed a T S := fun _ _ _ _ => ⟨hB, h⟩

theorem region_X {id n m f : Nat} {l : List Oper} {a : Act} {w : World} (T S : World → Prop) (hST : ∀ w, S w → T w) (hC : Clo S) (hS : S w.drew) (hm : P.follows .mixedOrders = true) (hB : partsB .any l.toArray n m (Array.replicate l.length false) = true) (hf : f + (m - n) = l.length)
  (h : WpX P .any l.toArray Q n m (wpList P l.toArray Q ((l.drop n).take (m - n))) f (Array.replicate l.length false) a T S) : (Code.region id l.toArray true).wp P Q a w := by
 refine wp_region_any hm ?_
 obtain ⟨hp, inv⟩ := parts_of hB
 have := wpAny_of_X (md := .any) (n := n) (m := m) (L := wpList P l.toArray Q ((l.drop n).take (m - n))) (fun listed' a' w' hq hl => ?_) f (Array.replicate l.length false) a T S (h hST hC hp inv) w.drew hS
 ·rw [hf] at this
  simpa using this
 ·have hlen : ((l.drop n).take (m - n)).length = m - n := by
   have := hp.le
   simp at this ⊢
   omega
  have := any_of_tail (P := P) (md := .any) (ops := l.toArray) (Q' := Q) ((l.drop n).take (m - n)) n listed' a' w' (fun j hj => ?_) (by rw [hlen]; exact hq) hl
  ·rwa [hlen] at this
  ·rw [hlen] at hj
   simp [hj]
end

end Go.Proofs.YtfbfbijkkbflkaaGreatDoor
