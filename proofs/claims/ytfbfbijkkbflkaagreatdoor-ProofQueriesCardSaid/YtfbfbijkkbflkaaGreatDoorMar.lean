/-
 RunOk, RunVec: what the statements of this layer share.
-/
import Derived.Test.YtfbfbijkkbflkaaGreatDoorMaq
namespace Go.Proofs.YtfbfbijkkbflkaaGreatDoor
open Go.RowKit Fm
set_option linter.unusedVariables false
set_option maxRecDepth 100000

theorem part_of {f : Nat} (hf : IsF f) (sh : Nat) (h : sh = 1 ∨ sh = 2) : ∃ xs : Fin (Pm f), (∀ wz, Calls Tryz.prog 52 #[.int .u8 f, .int .u64 (sh : Int)] wz (RetK xs wz)) ∧
  (∀ wz, Calls Tryz.prog 76 #[.int .u8 f, vK xs] wz fun e w' => e = .returned (.tuple #[vK (kinv (nK f sh)), .int .i64 0]) ∧ Below wz.heap.size wz w') := by
 have hx : nK f sh ≠ 0 := by
  rcases h with rfl | rfl
  ·rw [nK_one]
   exact k_one_ne
  ·exact (kinv_two hf).1
 refine ⟨nK f sh, fun wz => field_Of hf (sh : Int) wz (by omega) (by omega), fun wz => ?_⟩
 refine (field_Inv hf (nK f sh) wz).mono ?_
 rintro e w' (⟨h0, _⟩ | ⟨_, rfl, hb⟩)
 ·exact absurd h0 hx
 ·exact ⟨rfl, hb⟩

theorem CK.calls_pos {y : CK} (h : y.ok) : 1 ≤ y.calls := by
 have hn := CK.nin_pos h
 cases y with
 | count => decide
 | sum b => exact h.1
 | vec b l c =>
  have hs := ceil_spec (n := (CK.vec b l c).nin) h.2.2.1
  rcases Nat.eq_zero_or_pos (CK.vec b l c).calls with h0 | h0
  ·have h1 : ((CK.vec b l c).nin + c - 1) / c = 0 := h0
   rw [h1] at hs
   omega
  ·exact h0
 | hist l c =>
  have hs := ceil_spec (n := (CK.hist l c).nin) h.2.1
  rcases Nat.eq_zero_or_pos (CK.hist l c).calls with h0 | h0
  ·have h1 : ((CK.hist l c).nin + c - 1) / c = 0 := h0
   rw [h1] at hs
   omega
  ·exact h0
 | multi l m c =>
  have hs := ceil_spec (n := (CK.multi l m c).nin) h.2.2.1
  rcases Nat.eq_zero_or_pos (CK.multi l m c).calls with h0 | h0
  ·have h1 : ((CK.multi l m c).nin + c - 1) / c = 0 := h0
   rw [h1] at hs
   omega
  ·exact h0

section
variable {f : Nat} (hf : IsF f)
include hf

set_option maxHeartbeats 4000000 in
theorem circuit_Run_count (B N M C : Int) (part : Fin (Pm f)) (sh : Nat) (hsh : sh = 1 ∨ sh = 2) (hpart : part = kinv (nK f sh)) (v j : KL f) (g : Nat) (cap : Array Value) (D : Nat → Prop) (Inv : Nat → (Nat → Prop) → World → Prop) (ans : Nat → Fin (Pm f)) (cd : Int)
  (HA : Asked .count v j part g cap Inv ans cd) (hl : v.length = 1) (hjl : j.length = 0) (HC : Hid (∀ wz, Calls Tryz.prog 48 #[.agg #[.int .u8 1, .int .u8 f, .int .i64 B, .int .i64 N, .int .i64 M, .int .i64 C]] wz (RetC 0 wz)))
  (HI : Hid (∀ wz, Calls Tryz.prog 42 #[.agg #[.int .u8 1, .int .u8 f, .int .i64 B, .int .i64 N, .int .i64 M, .int .i64 C]] wz (RetI v.length wz)))
  (HJ : Hid (∀ wz, Calls Tryz.prog 14 #[.agg #[.int .u8 1, .int .u8 f, .int .i64 B, .int .i64 N, .int .i64 M, .int .i64 C]] wz (RetI j.length wz)))
  (vl vj : Value) (w : World) (hin : SlX D w vl v) (hjo : SlX D w vj j) (hinv : St (Inv 0) D w) :
  Calls Tryz.prog 32 #[.agg #[.int .u8 1, .int .u8 f, .int .i64 B, .int .i64 N, .int .i64 M, .int .i64 C], vl, vj, .int .i64 (sh : Int), .func (.func g) #[] cap] w (RetRun (runF .count v j part ans) (1) cd Inv D w) := by
 have HIN := Lib.hid hin
 obtain ⟨A, cc, rfl, hcc, hcm, hA⟩ := hin
 obtain ⟨A2, cc2, rfl, hcc2, hcm2, hA2⟩ := hjo
 obtain ⟨bi, oi, rfl, hbi, hni, HR⟩ := hA (by omega)
 have HRI := Lib.hid HR
 obtain ⟨x, hx0⟩ : ∃ e, v[0]? = some e := ⟨_, List.getElem?_eq_getElem (by omega)⟩
 have HX := Lib.hid hx0
 have HRES : Hid (runF .count v j part ans = ans 0 - x) := by show ans 0 - v.getD 0 0 = _; rw [getD_of hx0]
 have HSUB := Lib.hid (fun (x y : Fin (Pm f)) wz => field_SubK hf x y wz)
 have HCALL : Hid (∀ (w7 wz : World) (b : Nat), Rg D w7 (Inv 0) wz → Nb D w7 b [eK x, eK x] wz → Calls Tryz.prog g (#[.slice (some ⟨b, 0, none⟩) 2 2] ++ cap) wz fun e w' => ∃ D1 : Nat → Prop, e = .returned (.tuple #[vK (ans 0), .int .i64 cd]) ∧ Rh D w7 (Inv 1) D1 w' ∧ ∀ c, Nv D w7 c wz → Nv D1 w7 c w') := by
  intro w7 wz b h hb
  refine (HA.run 0 D wz _ (by decide) h.2 (SlX.of (c := 2) (l := argOf .count v j part 0) rfl (Nat.le_refl _) (by omega) hb.2.2.lt hb.1 ?_)).mono ?_
  ·show RowE wz b 0 (esK [v.getD 0 0, v.getD 0 0])
   rw [getD_of hx0]
   exact hb.2.2.rowE
  ·rintro e w' ⟨rfl, D1, hst, hT, hE⟩
   exact ⟨D1, rfl, h.asked hst hT hE, fun c hc => hc.asked hT hE⟩
 rw [HRES.out]
 rw [hl] at HI ⊢
 rw [hjl] at HJ ⊢
 have hlen : (1 : Int) ≤ 1 := by omega
 clear hA hA2 HR hx0 hl hjl
 have heq := eql_func
 have HENT := HA.ent
 obtain ⟨xs, hO, hV⟩ := part_of hf sh hsh
 rw [← hpart] at hV
 have HO := Lib.hid hO
 have HV := Lib.hid hV
 have hsh0 : (0 : Int) ≤ (sh : Int) ∧ (sh : Int) ≤ 2 := by omega
 have hmx : max (sh : Int) 0 = (sh : Int) := by omega
 have hws : IntKind.u64.wrap (sh : Int) = (sh : Int) := IntWalk.u64_in _ (by omega)
 clear hO hV hsh hpart
 have hexc : Exc D w.heap.size w w := exc_of (Below.refl _ _)
 have hlt0 := hinv.lt
 have hfb0 : (1 : Int) ≤ (f : Int) := by rcases hf.or with rfl | rfl <;> omega
 have hfb1 : (f : Int) ≤ 2 := by rcases hf.or with rfl | rfl <;> omega
 go_enter Tryz.func32, Tryz.ntmps32
 go_upto_region 1 with fail
 have hx := (Vs.new w [.int .u8 1, .int .u8 f, .int .i64 B, .int .i64 N, .int .i64 M, .int .i64 C] #[.int .u8 1, .int .u8 f, .int .i64 B, .int .i64 N, .int .i64 M, .int .i64 C] 30 rfl).alloc (.cells #[.int .u64 0, .int .u64 0] 36)
 have s0 := V2.new (w.alloc (.cells #[.int .u8 1, .int .u8 f, .int .i64 B, .int .i64 N, .int .i64 M, .int .i64 C] 30)) (.int .u64 0) (.int .u64 0) 36
 simp only [World.size_alloc] at s0
 have hb00 : Below w.heap.size w ((w.alloc (.cells #[.int .u8 1, .int .u8 f, .int .i64 B, .int .i64 N, .int .i64 M, .int .i64 C] 30)).alloc (.cells #[.int .u64 0, .int .u64 0] 36)) := by repeat (first | exact bA | with_reducible assumption | apply bB)
 have hszn : w.heap.size + 2 ≤ ((w.alloc (.cells #[.int .u8 1, .int .u8 f, .int .i64 B, .int .i64 N, .int .i64 M, .int .i64 C] 30)).alloc (.cells #[.int .u64 0, .int .u64 0] 36)).heap.size := by simp only [World.size_alloc]; omega
 generalize ((w.alloc (.cells #[.int .u8 1, .int .u8 f, .int .i64 B, .int .i64 N, .int .i64 M, .int .i64 C] 30)).alloc (.cells #[.int .u64 0, .int .u64 0] 36)) = w1 at hx s0 hb00 hszn ⊢
 replace hinv := hinv.call hb00
 replace hexc := hexc.call hb00
 clear hb00
 obtain ⟨⟨x0, x1, x2, x3, x4, x5⟩, ⟨x6, x7, x8, x9, x10, x11⟩, x12⟩ := hx.get6
 go_upto_region 9 with (first
  | (go_at_call 48; refine (HC.out _).mono ?_; rintro e w2 ⟨rfl, hb2⟩; replace hexc := hexc.call hb2; replace hx := hx.call hb2; replace s0 := s0.call hb2; replace hinv := hinv.call hb2; clear x0 x1 x2 x3 x4 x5 x6 x7 x8 x9 x10 x11 x12; clear hb2; obtain ⟨⟨x0, x1, x2, x3, x4, x5⟩, ⟨x6, x7, x8, x9, x10, x11⟩, x12⟩ := hx.get6)
  | (go_at_call 42; refine (HI.out _).mono ?_; rintro e w3 ⟨rfl, hb3⟩; replace hexc := hexc.call hb3; replace hx := hx.call hb3; replace s0 := s0.call hb3; replace hinv := hinv.call hb3; clear x0 x1 x2 x3 x4 x5 x6 x7 x8 x9 x10 x11 x12; clear hb3; obtain ⟨⟨x0, x1, x2, x3, x4, x5⟩, ⟨x6, x7, x8, x9, x10, x11⟩, x12⟩ := hx.get6)
  | (go_at_call 14; refine (HJ.out _).mono ?_; rintro e w4 ⟨rfl, hb4⟩; replace hexc := hexc.call hb4; replace hx := hx.call hb4; replace s0 := s0.call hb4; replace hinv := hinv.call hb4; clear x0 x1 x2 x3 x4 x5 x6 x7 x8 x9 x10 x11 x12; clear hb4; obtain ⟨⟨x0, x1, x2, x3, x4, x5⟩, ⟨x6, x7, x8, x9, x10, x11⟩, x12⟩ := hx.get6))
 go_upto_region 10 with (first
  | (go_at_call 52; refine (HO.out _).mono ?_; rintro e w5 ⟨rfl, hb5⟩; replace hexc := hexc.call hb5; replace hx := hx.call hb5; replace s0 := s0.call hb5; replace hinv := hinv.call hb5; clear x0 x1 x2 x3 x4 x5 x6 x7 x8 x9 x10 x11 x12; clear hb5; obtain ⟨⟨x0, x1, x2, x3, x4, x5⟩, ⟨x6, x7, x8, x9, x10, x11⟩, x12⟩ := hx.get6)
  | (go_at_call 76; refine (HV.out _).mono ?_; rintro e w6 ⟨rfl, hb6⟩; replace hexc := hexc.call hb6; replace hx := hx.call hb6; replace s0 := s0.call hb6; replace hinv := hinv.call hb6; clear x0 x1 x2 x3 x4 x5 x6 x7 x8 x9 x10 x11 x12; clear hb6; obtain ⟨⟨x0, x1, x2, x3, x4, x5⟩, ⟨x6, x7, x8, x9, x10, x11⟩, x12⟩ := hx.get6))
 clear x0 x1 x2 x3 x4 x5 x6 x7 x8 x9 x10 x11 x12
 have hs6 := hexc.size
 have hs61 : w.heap.size + 1 < w6.heap.size := s0.lt
 have hpt := V2.new w6 (.int .u64 (lo part)) (.int .u64 (hi part)) 36
 have hbA : Below w6.heap.size w6 (w6.alloc (.cells #[.int .u64 (lo part), .int .u64 (hi part)] 36)) := by repeat (first | exact bA | with_reducible assumption | apply bB)
 replace hexc := hexc.call hbA
 replace hx := hx.call hbA
 replace s0 := s0.call hbA
 replace hinv := hinv.call hbA
 clear hbA
 generalize w6.alloc (.cells #[.int .u64 (lo part), .int .u64 (hi part)] 36) = w7 at hexc hx s0 hinv hpt ⊢
 have hs67 : w6.heap.size < w7.heap.size := hpt.lt
 obtain ⟨bp, hbpe⟩ : ∃ bp, w6.heap.size = bp := ⟨_, rfl⟩
 rw [hbpe] at hpt hs6 hs61 hs67
 simp only [hbpe]
 clear hbpe HO HV HC HI HJ
 obtain ⟨⟨x0, x1, x2, x3, x4, x5⟩, ⟨x6, x7, x8, x9, x10, x11⟩, x12⟩ := hx.get6
 go_upto_region 14 with fail
 clear x0 x1 x2 x3 x4 x5 x6 x7 x8 x9 x10 x11 x12
 have hr0 : RowE w7 bi oi (esK v) := HRI.out.exc hni hexc
 obtain ⟨k0, k1⟩ := hr0.kat HX.out
 rw [Nat.zero_mul, Nat.add_zero] at k0 k1
 refine region_X (fun wz => Exc D w7.heap.size w7 wz) (Rg D w7 (Inv 0)) (fun _ h => h.1) (Rg.clo D w7 (Inv 0)) (Rg.start hinv) (n := 14) (m := 15) (f := 14) (by kernel_rfl) (by kernel_rfl) rfl ?_
 refine WpX.vD 0 (some 63) ?_ rfl rfl (by kernel_rfl) (fun _ _ _ h => h) rfl (fun wz hwz => ?_) ?_
 rotate_left
 ·go_simp; try (with_reducible rfl)
 (simp only [Act.put]); (try simp only [List.setIfInBounds_toArray]); (try simp only [List.set_cons_succ]); (try simp only [List.set_cons_zero])
 refine WpX.vD 1 (some 64) ?_ rfl rfl (by kernel_rfl) (fun _ _ _ h => h) rfl (fun wz hwz => ?_) ?_
 rotate_left
 ·go_simp; try (with_reducible rfl)
 (simp only [Act.put]); (try simp only [List.setIfInBounds_toArray]); (try simp only [List.set_cons_succ]); (try simp only [List.set_cons_zero])
 refine WpX.vD 2 (some 65) ?_ rfl rfl (by kernel_rfl) (fun _ _ _ h => h) rfl (fun wz hwz => ?_) ?_
 rotate_left
 ·go_simp; try (with_reducible rfl)
 (simp only [Act.put]); (try simp only [List.setIfInBounds_toArray]); (try simp only [List.set_cons_succ]); (try simp only [List.set_cons_zero])
 refine WpX.vD 3 (some 66) ?_ rfl rfl (by kernel_rfl) (fun _ _ _ h => h) rfl (fun wz hwz => ?_) ?_
 rotate_left
 ·obtain ⟨f0, f1⟩ := And.intro (cell_exc k0 hni hwz) (cell_exc k1 hni hwz); have hbw := lt_of_cell f0; dsimp only at hbw; go_simp; try (with_reducible rfl)
 (simp only [Act.put]); (try simp only [List.setIfInBounds_toArray]); (try simp only [List.set_cons_succ]); (try simp only [List.set_cons_zero])
 refine WpX.vD 4 (some 67) ?_ rfl rfl (by kernel_rfl) (fun _ _ _ h => h) rfl (fun wz hwz => ?_) ?_
 rotate_left
 ·go_simp; try (with_reducible rfl)
 (simp only [Act.put]); (try simp only [List.setIfInBounds_toArray]); (try simp only [List.set_cons_succ]); (try simp only [List.set_cons_zero])
 refine WpX.vD 5 (some 68) ?_ rfl rfl (by kernel_rfl) (fun _ _ _ h => h) rfl (fun wz hwz => ?_) ?_
 rotate_left
 ·go_simp; try (with_reducible rfl)
 (simp only [Act.put]); (try simp only [List.setIfInBounds_toArray]); (try simp only [List.set_cons_succ]); (try simp only [List.set_cons_zero])
 refine WpX.vD 6 (some 69) ?_ rfl rfl (by kernel_rfl) (fun _ _ _ h => h) rfl (fun wz hwz => ?_) ?_
 rotate_left
 ·obtain ⟨f0, f1⟩ := And.intro (cell_exc k0 hni hwz) (cell_exc k1 hni hwz); have hbw := lt_of_cell f0; dsimp only at hbw; go_simp; try (with_reducible rfl)
 (simp only [Act.put]); (try simp only [List.setIfInBounds_toArray]); (try simp only [List.set_cons_succ]); (try simp only [List.set_cons_zero])
 refine WpX.twoD 7 12 (some 70) (some 16) rfl rfl rfl rfl (by kernel_rfl) (fun b : Nat => Value.slice (some ⟨b, 0, none⟩) 2 2) (fun _ => (fun wz => Exc D w7.heap.size w7 wz)) (fun b wz => (Rg D w7 (Inv 0)) wz ∧ Nb D w7 b [eK x, eK x] wz) (Turns.val rfl (fun _ _ h => h) (fun _ _ h => h.1.1) (fun b => Clo.and (Rg.clo D w7 (Inv 0)) (Nb.clo D w7 b [eK x, eK x])) (fun wz h => ⟨wz.heap.size, wz.alloc (.cells #[.int .u64 (lo x), .int .u64 (hi x), .int .u64 (lo x), .int .u64 (hi x)] 36), by go_simp; try (with_reducible rfl), (Rg.clo D w7 (Inv 0)) _ _ h ((Below.refl _ _).alloc (Nat.le_refl _) _), Nb.new (h).1.size (h).2.lt [eK x, eK x] _ rfl⟩)) (fun c : Nat => Value.pointer (some ⟨c, 0, none⟩)) (fun _ => (fun wz => Exc D w7.heap.size w7 wz)) (fun c wz => (Rg D w7 (Inv 0)) wz ∧ Nv D w7 c wz) (Turns.val rfl (fun _ _ h => h) (fun _ _ h => h.1.1) (fun c => Clo.and (Rg.clo D w7 (Inv 0)) (Nv.clo D w7 c)) (fun wz h => ⟨wz.heap.size, wz.alloc (.cells #[.int .u64 0, .int .u64 0] 36), by go_simp; try (with_reducible rfl), (Rg.clo D w7 (Inv 0)) _ _ h ((Below.refl _ _).alloc (Nat.le_refl _) _), Nv.new (h).1.size (h.2.lt)⟩)) (fun b => ?rga) (fun cb => ?rgb)
 case' rga =>
  (simp only [Act.put]); (try simp only [List.setIfInBounds_toArray]); (try simp only [List.set_cons_succ]); (try simp only [List.set_cons_zero])
  refine WpX.twoD 8 12 (some 71) (some 16) rfl rfl rfl rfl (by kernel_rfl) (fun D1 : Nat → Prop => Value.tuple #[vK (ans 0), .int .i64 cd]) (fun _ => (fun wz => Exc D w7.heap.size w7 wz)) (fun D1 wz => Rh D w7 (Inv 1) D1 wz) (Turns.call rfl (fun _ _ h => h) (fun _ _ h => h.1) (fun D1 => (Rh.clo D w7 (Inv 1) D1)) (fun wz h => (HCALL.out w7 wz b h.1 h.2).mono fun e w' ⟨D1, he, hR, hN⟩ => ⟨D1, he, hR⟩) (fun wz h => by go_simp; try (with_reducible rfl))) (fun c : Nat => Value.pointer (some ⟨c, 0, none⟩)) (fun _ => (fun wz => Exc D w7.heap.size w7 wz)) (fun c wz => (fun wz => Rg D w7 (Inv 0) wz ∧ Nb D w7 b [eK x, eK x] wz) wz ∧ Nv D w7 c wz) (Turns.val rfl (fun _ _ h => h) (fun _ _ h => h.1.1.1) (fun c => Clo.and (Clo.and (Rg.clo D w7 (Inv 0)) (Nb.clo D w7 b [eK x, eK x])) (Nv.clo D w7 c)) (fun wz h => ⟨wz.heap.size, wz.alloc (.cells #[.int .u64 0, .int .u64 0] 36), by go_simp; try (with_reducible rfl), (Clo.and (Rg.clo D w7 (Inv 0)) (Nb.clo D w7 b [eK x, eK x])) _ _ h ((Below.refl _ _).alloc (Nat.le_refl _) _), Nv.new (h.1).1.size (h.1.2.lt)⟩)) (fun D1 => ?rgaa) (fun cb => ?rgab)
 case' rgaa =>
  (simp only [Act.put]); (try simp only [List.setIfInBounds_toArray]); (try simp only [List.set_cons_succ]); (try simp only [List.set_cons_zero])
  refine WpX.vD 9 (some 62) ?_ rfl rfl (by kernel_rfl) (fun _ _ _ h => h) rfl (fun wz hwz => ?_) ?_
  rotate_left
  ·go_simp; try (with_reducible rfl)
  (simp only [Act.put]); (try simp only [List.setIfInBounds_toArray]); (try simp only [List.set_cons_succ]); (try simp only [List.set_cons_zero])
  refine WpX.vD 10 (some 72) ?_ rfl rfl (by kernel_rfl) (fun _ _ _ h => h) rfl (fun wz hwz => ?_) ?_
  rotate_left
  ·go_simp; try (with_reducible rfl)
  (simp only [Act.put]); (try simp only [List.setIfInBounds_toArray]); (try simp only [List.set_cons_succ]); (try simp only [List.set_cons_zero])
  refine WpX.vD 11 (some 73) ?_ rfl rfl (by kernel_rfl) (fun _ _ _ h => h) rfl (fun wz hwz => ?_) ?_
  rotate_left
  ·go_simp; try (with_reducible rfl)
  (simp only [Act.put]); (try simp only [List.setIfInBounds_toArray]); (try simp only [List.set_cons_succ]); (try simp only [List.set_cons_zero])
  refine WpX.oneD 12 (some 16) rfl rfl (by kernel_rfl) (fun c : Nat => Value.pointer (some ⟨c, 0, none⟩)) (fun _ => (fun wz => Exc D w7.heap.size w7 wz)) (fun c wz => (Rh D w7 (Inv 1) D1) wz ∧ Nv D1 w7 c wz) (Turns.val rfl (fun _ _ h => h) (fun _ _ h => h.1.1) (fun c => Clo.and (Rh.clo D w7 (Inv 1) D1) (Nv.clo D1 w7 c)) (fun wz h => ⟨wz.heap.size, wz.alloc (.cells #[.int .u64 0, .int .u64 0] 36), by go_simp; try (with_reducible rfl), (Rh.clo D w7 (Inv 1) D1) _ _ h ((Below.refl _ _).alloc (Nat.le_refl _) _), Nv.new (h).1.size (h.2.1.lt)⟩)) (fun cb => ?_)
  (simp only [Act.put]); (try simp only [List.setIfInBounds_toArray]); (try simp only [List.set_cons_succ]); (try simp only [List.set_cons_zero])
  refine WpX.oneSkip 13 none rfl rfl (by kernel_rfl) (fun wz => Exc D w7.heap.size w7 wz) (fun wz => Rh D w7 (Inv 1) D1 wz ∧ Nw D1 w7 cb (.int .u64 (lo (ans 0))) (.int .u64 (hi (ans 0))) wz) (fun _ h => h) (fun _ h => h.1.1) (Clo.and (Rh.clo D w7 (Inv 1) D1) (Nw.clo D1 w7 cb _ _)) rfl (fun wz h => ?_) ?_
  ·obtain ⟨c0, c1, c2, c3, c4⟩ := h.2.2.2; exact ⟨_, by go_simp; try (with_reducible rfl), Nv.write h _ _⟩
  (simp only [Act.put]); (try simp only [List.setIfInBounds_toArray]); (try simp only [List.set_cons_succ]); (try simp only [List.set_cons_zero])
  refine WpX.done (by kernel_rfl) (fun w8 hS => ?_)
  (try simp only [List.drop_succ_cons]); (try simp only [List.drop_zero]); (try simp only [Nat.reduceSub]); (try simp only [List.take_succ_cons]); (try simp only [List.take_zero])
 case' rgab =>
  (simp only [Act.put]); (try simp only [List.setIfInBounds_toArray]); (try simp only [List.set_cons_succ]); (try simp only [List.set_cons_zero])
  refine WpX.oneD 8 (some 71) rfl rfl (by kernel_rfl) (fun D1 : Nat → Prop => Value.tuple #[vK (ans 0), .int .i64 cd]) (fun _ => (fun wz => Exc D w7.heap.size w7 wz)) (fun D1 wz => (fun wz => Rh D w7 (Inv 1) D1 wz ∧ Nv D1 w7 cb wz) wz) (Turns.call rfl (fun _ _ h => h) (fun _ _ h => h.1.1) (fun D1 => (Clo.and (Rh.clo D w7 (Inv 1) D1) (Nv.clo D1 w7 cb))) (fun wz h => (HCALL.out w7 wz b h.1.1 h.1.2).mono fun e w' ⟨D1, he, hR, hN⟩ => ⟨D1, he, ⟨hR, hN _ h.2⟩⟩) (fun wz h => by go_simp; try (with_reducible rfl))) (fun D1 => ?_)
  (simp only [Act.put]); (try simp only [List.setIfInBounds_toArray]); (try simp only [List.set_cons_succ]); (try simp only [List.set_cons_zero])
  refine WpX.vD 9 (some 62) ?_ rfl rfl (by kernel_rfl) (fun _ _ _ h => h) rfl (fun wz hwz => ?_) ?_
  rotate_left
  ·go_simp; try (with_reducible rfl)
  (simp only [Act.put]); (try simp only [List.setIfInBounds_toArray]); (try simp only [List.set_cons_succ]); (try simp only [List.set_cons_zero])
  refine WpX.vD 10 (some 72) ?_ rfl rfl (by kernel_rfl) (fun _ _ _ h => h) rfl (fun wz hwz => ?_) ?_
  rotate_left
  ·go_simp; try (with_reducible rfl)
  (simp only [Act.put]); (try simp only [List.setIfInBounds_toArray]); (try simp only [List.set_cons_succ]); (try simp only [List.set_cons_zero])
  refine WpX.vD 11 (some 73) ?_ rfl rfl (by kernel_rfl) (fun _ _ _ h => h) rfl (fun wz hwz => ?_) ?_
  rotate_left
  ·go_simp; try (with_reducible rfl)
  (simp only [Act.put]); (try simp only [List.setIfInBounds_toArray]); (try simp only [List.set_cons_succ]); (try simp only [List.set_cons_zero])
  refine WpX.oneSkip 13 none rfl rfl (by kernel_rfl) (fun wz => Exc D w7.heap.size w7 wz) (fun wz => Rh D w7 (Inv 1) D1 wz ∧ Nw D1 w7 cb (.int .u64 (lo (ans 0))) (.int .u64 (hi (ans 0))) wz) (fun _ h => h) (fun _ h => h.1.1) (Clo.and (Rh.clo D w7 (Inv 1) D1) (Nw.clo D1 w7 cb _ _)) rfl (fun wz h => ?_) ?_
  ·obtain ⟨c0, c1, c2, c3, c4⟩ := h.2.2.2; exact ⟨_, by go_simp; try (with_reducible rfl), Nv.write h _ _⟩
  (simp only [Act.put]); (try simp only [List.setIfInBounds_toArray]); (try simp only [List.set_cons_succ]); (try simp only [List.set_cons_zero])
  refine WpX.done (by kernel_rfl) (fun w8 hS => ?_)
  (try simp only [List.drop_succ_cons]); (try simp only [List.drop_zero]); (try simp only [Nat.reduceSub]); (try simp only [List.take_succ_cons]); (try simp only [List.take_zero])
 case' rgb =>
  (simp only [Act.put]); (try simp only [List.setIfInBounds_toArray]); (try simp only [List.set_cons_succ]); (try simp only [List.set_cons_zero])
  refine WpX.oneD 7 (some 70) rfl rfl (by kernel_rfl) (fun b : Nat => Value.slice (some ⟨b, 0, none⟩) 2 2) (fun _ => (fun wz => Exc D w7.heap.size w7 wz)) (fun b wz => (fun wz => Rg D w7 (Inv 0) wz ∧ Nv D w7 cb wz) wz ∧ Nb D w7 b [eK x, eK x] wz) (Turns.val rfl (fun _ _ h => h) (fun _ _ h => h.1.1.1) (fun b => Clo.and (Clo.and (Rg.clo D w7 (Inv 0)) (Nv.clo D w7 cb)) (Nb.clo D w7 b [eK x, eK x])) (fun wz h => ⟨wz.heap.size, wz.alloc (.cells #[.int .u64 (lo x), .int .u64 (hi x), .int .u64 (lo x), .int .u64 (hi x)] 36), by go_simp; try (with_reducible rfl), (Clo.and (Rg.clo D w7 (Inv 0)) (Nv.clo D w7 cb)) _ _ h ((Below.refl _ _).alloc (Nat.le_refl _) _), Nb.new (h.1).1.size (h.1).2.lt [eK x, eK x] _ rfl⟩)) (fun b => ?_)
  (simp only [Act.put]); (try simp only [List.setIfInBounds_toArray]); (try simp only [List.set_cons_succ]); (try simp only [List.set_cons_zero])
  refine WpX.oneD 8 (some 71) rfl rfl (by kernel_rfl) (fun D1 : Nat → Prop => Value.tuple #[vK (ans 0), .int .i64 cd]) (fun _ => (fun wz => Exc D w7.heap.size w7 wz)) (fun D1 wz => (fun wz => Rh D w7 (Inv 1) D1 wz ∧ Nv D1 w7 cb wz) wz) (Turns.call rfl (fun _ _ h => h) (fun _ _ h => h.1.1) (fun D1 => (Clo.and (Rh.clo D w7 (Inv 1) D1) (Nv.clo D1 w7 cb))) (fun wz h => (HCALL.out w7 wz b h.1.1 h.2).mono fun e w' ⟨D1, he, hR, hN⟩ => ⟨D1, he, ⟨hR, hN _ h.1.2⟩⟩) (fun wz h => by go_simp; try (with_reducible rfl))) (fun D1 => ?_)
  (simp only [Act.put]); (try simp only [List.setIfInBounds_toArray]); (try simp only [List.set_cons_succ]); (try simp only [List.set_cons_zero])
  refine WpX.vD 9 (some 62) ?_ rfl rfl (by kernel_rfl) (fun _ _ _ h => h) rfl (fun wz hwz => ?_) ?_
  rotate_left
  ·go_simp; try (with_reducible rfl)
  (simp only [Act.put]); (try simp only [List.setIfInBounds_toArray]); (try simp only [List.set_cons_succ]); (try simp only [List.set_cons_zero])
  refine WpX.vD 10 (some 72) ?_ rfl rfl (by kernel_rfl) (fun _ _ _ h => h) rfl (fun wz hwz => ?_) ?_
  rotate_left
  ·go_simp; try (with_reducible rfl)
  (simp only [Act.put]); (try simp only [List.setIfInBounds_toArray]); (try simp only [List.set_cons_succ]); (try simp only [List.set_cons_zero])
  refine WpX.vD 11 (some 73) ?_ rfl rfl (by kernel_rfl) (fun _ _ _ h => h) rfl (fun wz hwz => ?_) ?_
  rotate_left
  ·go_simp; try (with_reducible rfl)
  (simp only [Act.put]); (try simp only [List.setIfInBounds_toArray]); (try simp only [List.set_cons_succ]); (try simp only [List.set_cons_zero])
  refine WpX.oneSkip 13 none rfl rfl (by kernel_rfl) (fun wz => Exc D w7.heap.size w7 wz) (fun wz => Rh D w7 (Inv 1) D1 wz ∧ Nw D1 w7 cb (.int .u64 (lo (ans 0))) (.int .u64 (hi (ans 0))) wz) (fun _ h => h) (fun _ h => h.1.1) (Clo.and (Rh.clo D w7 (Inv 1) D1) (Nw.clo D1 w7 cb _ _)) rfl (fun wz h => ?_) ?_
  ·obtain ⟨c0, c1, c2, c3, c4⟩ := h.2.2.2; exact ⟨_, by go_simp; try (with_reducible rfl), Nv.write h _ _⟩
  (simp only [Act.put]); (try simp only [List.setIfInBounds_toArray]); (try simp only [List.set_cons_succ]); (try simp only [List.set_cons_zero])
  refine WpX.done (by kernel_rfl) (fun w8 hS => ?_)
  (try simp only [List.drop_succ_cons]); (try simp only [List.drop_zero]); (try simp only [Nat.reduceSub]); (try simp only [List.take_succ_cons]); (try simp only [List.take_zero])
 all_goals
  obtain ⟨⟨hE8, hst, hD1⟩, hn8, hc8, hcb⟩ := hS
  replace s0 := s0.exc (fun h => by have := hlt0 _ h; omega) hE8
  have hs78 := hE8.size
  replace hexc := hexc.more hE8 (fun q hq => .inl hq)
  clear hE8 HCALL
  obtain ⟨k0, k1⟩ := (HRI.out.exc hni hexc).kat HX.out
  rw [Nat.zero_mul, Nat.add_zero] at k0 k1
  have hbw := lt_of_cell k0
  dsimp only at hbw
  have hcbl := hcb.lt
  go_upto_region 15 with fail
  by_cases hcd : cd = 0
  ·subst hcd
   go_upto_region 17 with fail
   obtain ⟨cb0, cb1, cb2, cb3, cb4⟩ := V2.mk hcb.c0 hcb.c1 hcb.f0 hcb.f1 hcb.lt
   refine region_B (n := 6) (m := 8) (f := 6) (by kernel_rfl) (by kernel_rfl) rfl ?_
   refine WpH.vD 0 (some 78) ?_ rfl rfl (by kernel_rfl) (fun _ _ _ h => h) rfl (fun wz hwz => ?_) ?_
   rotate_left
   ·go_simp; try (with_reducible rfl)
   simp only [Zp, Zq, Zr, Zs]
   refine WpH.vD 1 (some 79) ?_ rfl rfl (by kernel_rfl) (fun _ _ _ h => h) rfl (fun wz hwz => ?_) ?_
   rotate_left
   ·(obtain ⟨hcz, hfz⟩ := bcell hwz; go_simp; try (with_reducible rfl))
   simp only [Zp, Zq, Zr, Zs]
   refine WpH.vD 2 (some 80) ?_ rfl rfl (by kernel_rfl) (fun _ _ _ h => h) rfl (fun wz hwz => ?_) ?_
   rotate_left
   ·go_simp; try (with_reducible rfl)
   simp only [Zp, Zq, Zr, Zs]
   refine WpH.vD 3 (some 81) ?_ rfl rfl (by kernel_rfl) (fun _ _ _ h => h) rfl (fun wz hwz => ?_) ?_
   rotate_left
   ·go_simp; try (with_reducible rfl)
   simp only [Zp, Zq, Zr, Zs]
   refine WpH.vD 4 (some 82) ?_ rfl rfl (by kernel_rfl) (fun _ _ _ h => h) rfl (fun wz hwz => ?_) ?_
   rotate_left
   ·(obtain ⟨hcz, hfz⟩ := bcell hwz; go_simp; try (with_reducible rfl))
   simp only [Zp, Zq, Zr, Zs]
   refine WpH.takeD 5 (some 83) rfl rfl (by kernel_rfl) (fun _ _ _ h => h) (.call rfl (fun wz hwz => HSUB.out (ans 0) x wz) (fun wz hwz => ?_)) ?_
   ·go_simp; try (with_reducible rfl)
   simp only [Zp, Zq, Zr, Zs]
   refine WpH.doneB (by kernel_rfl) (fun w9 hw9 => ?_)
   (try simp only [List.drop_succ_cons]); (try simp only [List.drop_zero]); (try simp only [Nat.reduceSub]); (try simp only [List.take_succ_cons]); (try simp only [List.take_zero])
   clear cb0 cb1 cb2 cb3 cb4
   replace hexc := hexc.call hw9
   replace s0 := s0.call hw9
   replace hcb := hcb.call hw9
   replace hst := hst.call hw9
   obtain ⟨s00, s01, s02, s03, s04⟩ := V2.mk s0.c0 s0.c1 s0.f0 s0.f1 s0.lt
   go_wp2_with fail
   refine bodyPost_ret (results_v2_tmp (b := w.heap.size + 1) (u := .int .u64 (lo (ans 0 - x))) (v := .int .u64 (hi (ans 0 - x))) ?_ rfl rfl) rfl ?_
   ·exact V2.set s0 _ _
   ·exact ⟨.inl ⟨rfl, rfl, D1, hst.st (fun h => (hD1 _ h).elim (fun h2 => by have := hlt0 _ h2; omega) (fun h2 => by omega)) _ _, fun q hq => (hD1 q hq).imp_right fun h2 => by omega⟩, hexc.st (by omega) _ _⟩
  ·have hcd1 : (cd == 0) = false := by simpa using hcd
   have hcd2 : (cd != 0) = true := by simpa using hcd
   obtain ⟨s00, s01, s02, s03, s04⟩ := V2.mk s0.c0 s0.c1 s0.f0 s0.f1 s0.lt
   go_wp2_with fail
   refine bodyPost_ret (results_v2_tmp (b := w.heap.size + 1) (u := .int .u64 0) (v := .int .u64 0) ?_ rfl rfl) rfl ?_
   ·first | exact V2.set s0 _ _ | exact s0
   ·exact ⟨.inr ⟨hcd, rfl, D1, (by first | exact hst | exact hst.st (fun h => (hD1 _ h).elim (fun h2 => by have := hlt0 _ h2; omega) (fun h2 => by omega)) _ _), fun q hq => (hD1 q hq).imp_right fun h2 => by omega⟩, (by first | exact hexc | exact hexc.st (by omega) _ _)⟩
set_option maxHeartbeats 4000000 in
theorem circuit_Run_sum (B : Nat) (hB : 1 ≤ B) (hB32 : B ≤ 32) (N M C : Int) (part : Fin (Pm f)) (sh : Nat) (hsh : sh = 1 ∨ sh = 2) (hpart : part = kinv (nK f sh)) (v j : KL f) (g : Nat) (cap : Array Value) (D : Nat → Prop) (Inv : Nat → (Nat → Prop) → World → Prop) (ans : Nat → Fin (Pm f)) (cd : Int)
  (HA : Asked (.sum B) v j part g cap Inv ans cd) (hl : v.length = B) (hjl : j.length = 1) (HC : Hid (∀ wz, Calls Tryz.prog 48 #[.agg #[.int .u8 2, .int .u8 f, .int .i64 B, .int .i64 N, .int .i64 M, .int .i64 C]] wz (RetC 0 wz)))
  (HI : Hid (∀ wz, Calls Tryz.prog 42 #[.agg #[.int .u8 2, .int .u8 f, .int .i64 B, .int .i64 N, .int .i64 M, .int .i64 C]] wz (RetI v.length wz)))
  (HJ : Hid (∀ wz, Calls Tryz.prog 14 #[.agg #[.int .u8 2, .int .u8 f, .int .i64 B, .int .i64 N, .int .i64 M, .int .i64 C]] wz (RetI j.length wz)))
  (vl vj : Value) (w : World) (hin : SlX D w vl v) (hjo : SlX D w vj j) (hinv : St (Inv 0) D w) :
  Calls Tryz.prog 32 #[.agg #[.int .u8 2, .int .u8 f, .int .i64 B, .int .i64 N, .int .i64 M, .int .i64 C], vl, vj, .int .i64 (sh : Int), .func (.func g) #[] cap] w (RetRun (runF (.sum B) v j part ans) (B) cd Inv D w) := by
 obtain ⟨A2, cc2, rfl, hcc2, hcm2, hA2⟩ := id hjo
 obtain ⟨bj, oj, rfl, hbj, hnj, HR⟩ := hA2 (by omega)
 have HRJ := Lib.hid HR
 obtain ⟨r, hr0⟩ : ∃ e, j[0]? = some e := ⟨_, List.getElem?_eq_getElem (by omega)⟩
 have HJ0 := Lib.hid hr0
 have HRES : Hid (runF (.sum B) v j part ans = bitsF ans r B) := by show bitsF ans (j.getD 0 0) B = _; rw [getD_of hr0]
 obtain ⟨A, cc, rfl, hcc, hcm, hA⟩ := id hin
 have HBITS : Hid (∀ wz, SlX D wz (.slice A B cc) v → St (Inv 0) D wz → Calls Tryz.prog 77 #[.agg #[.int .u8 2, .int .u8 f, .int .i64 B, .int .i64 N, .int .i64 M, .int .i64 C], .slice A B cc, vK r, .func (.func g) #[] cap] wz fun e w' => e = .returned (.tuple #[vK (cdx (bitsF ans r B) cd), .int .i64 cd]) ∧ Rd D wz (Jn Inv B cd) w') :=
  fun wz h1 h2 => (circuit_bits hf 2 B N M C B (by omega) v j part r (getD_of hr0) g cap D Inv ans cd HA hB hl _ wz h1 h2).mono fun e w' h => h.uni
 rw [HRES.out]
 rw [hl] at HI hin ⊢
 rw [hjl] at HJ ⊢
 have HIN := Lib.hid hin
 clear hA hA2 HR hr0 hl hjl hin hjo hcc
 have heq := eql_func
 have HENT := HA.ent
 obtain ⟨xs, hO, hV⟩ := part_of hf sh hsh
 rw [← hpart] at hV
 have HO := Lib.hid hO
 have HV := Lib.hid hV
 have hsh0 : (0 : Int) ≤ (sh : Int) ∧ (sh : Int) ≤ 2 := by omega
 have hmx : max (sh : Int) 0 = (sh : Int) := by omega
 have hws : IntKind.u64.wrap (sh : Int) = (sh : Int) := IntWalk.u64_in _ (by omega)
 clear hO hV hsh hpart
 have hexc : Exc D w.heap.size w w := exc_of (Below.refl _ _)
 have hlt0 := hinv.lt
 have hfb0 : (1 : Int) ≤ (f : Int) := by rcases hf.or with rfl | rfl <;> omega
 have hfb1 : (f : Int) ≤ 2 := by rcases hf.or with rfl | rfl <;> omega
 go_enter Tryz.func32, Tryz.ntmps32
 go_upto_region 1 with fail
 have hx := (Vs.new w [.int .u8 2, .int .u8 f, .int .i64 B, .int .i64 N, .int .i64 M, .int .i64 C] #[.int .u8 2, .int .u8 f, .int .i64 B, .int .i64 N, .int .i64 M, .int .i64 C] 30 rfl).alloc (.cells #[.int .u64 0, .int .u64 0] 36)
 have s0 := V2.new (w.alloc (.cells #[.int .u8 2, .int .u8 f, .int .i64 B, .int .i64 N, .int .i64 M, .int .i64 C] 30)) (.int .u64 0) (.int .u64 0) 36
 simp only [World.size_alloc] at s0
 have hb00 : Below w.heap.size w ((w.alloc (.cells #[.int .u8 2, .int .u8 f, .int .i64 B, .int .i64 N, .int .i64 M, .int .i64 C] 30)).alloc (.cells #[.int .u64 0, .int .u64 0] 36)) := by repeat (first | exact bA | with_reducible assumption | apply bB)
 have hszn : w.heap.size + 2 ≤ ((w.alloc (.cells #[.int .u8 2, .int .u8 f, .int .i64 B, .int .i64 N, .int .i64 M, .int .i64 C] 30)).alloc (.cells #[.int .u64 0, .int .u64 0] 36)).heap.size := by simp only [World.size_alloc]; omega
 generalize ((w.alloc (.cells #[.int .u8 2, .int .u8 f, .int .i64 B, .int .i64 N, .int .i64 M, .int .i64 C] 30)).alloc (.cells #[.int .u64 0, .int .u64 0] 36)) = w1 at hx s0 hb00 hszn ⊢
 replace hinv := hinv.call hb00
 replace hexc := hexc.call hb00
 clear hb00
 obtain ⟨⟨x0, x1, x2, x3, x4, x5⟩, ⟨x6, x7, x8, x9, x10, x11⟩, x12⟩ := hx.get6
 go_upto_region 9 with (first
  | (go_at_call 48; refine (HC.out _).mono ?_; rintro e w2 ⟨rfl, hb2⟩; replace hexc := hexc.call hb2; replace hx := hx.call hb2; replace s0 := s0.call hb2; replace hinv := hinv.call hb2; clear x0 x1 x2 x3 x4 x5 x6 x7 x8 x9 x10 x11 x12; clear hb2; obtain ⟨⟨x0, x1, x2, x3, x4, x5⟩, ⟨x6, x7, x8, x9, x10, x11⟩, x12⟩ := hx.get6)
  | (go_at_call 42; refine (HI.out _).mono ?_; rintro e w3 ⟨rfl, hb3⟩; replace hexc := hexc.call hb3; replace hx := hx.call hb3; replace s0 := s0.call hb3; replace hinv := hinv.call hb3; clear x0 x1 x2 x3 x4 x5 x6 x7 x8 x9 x10 x11 x12; clear hb3; obtain ⟨⟨x0, x1, x2, x3, x4, x5⟩, ⟨x6, x7, x8, x9, x10, x11⟩, x12⟩ := hx.get6)
  | (go_at_call 14; refine (HJ.out _).mono ?_; rintro e w4 ⟨rfl, hb4⟩; replace hexc := hexc.call hb4; replace hx := hx.call hb4; replace s0 := s0.call hb4; replace hinv := hinv.call hb4; clear x0 x1 x2 x3 x4 x5 x6 x7 x8 x9 x10 x11 x12; clear hb4; obtain ⟨⟨x0, x1, x2, x3, x4, x5⟩, ⟨x6, x7, x8, x9, x10, x11⟩, x12⟩ := hx.get6))
 go_upto_region 10 with (first
  | (go_at_call 52; refine (HO.out _).mono ?_; rintro e w5 ⟨rfl, hb5⟩; replace hexc := hexc.call hb5; replace hx := hx.call hb5; replace s0 := s0.call hb5; replace hinv := hinv.call hb5; clear x0 x1 x2 x3 x4 x5 x6 x7 x8 x9 x10 x11 x12; clear hb5; obtain ⟨⟨x0, x1, x2, x3, x4, x5⟩, ⟨x6, x7, x8, x9, x10, x11⟩, x12⟩ := hx.get6)
  | (go_at_call 76; refine (HV.out _).mono ?_; rintro e w6 ⟨rfl, hb6⟩; replace hexc := hexc.call hb6; replace hx := hx.call hb6; replace s0 := s0.call hb6; replace hinv := hinv.call hb6; clear x0 x1 x2 x3 x4 x5 x6 x7 x8 x9 x10 x11 x12; clear hb6; obtain ⟨⟨x0, x1, x2, x3, x4, x5⟩, ⟨x6, x7, x8, x9, x10, x11⟩, x12⟩ := hx.get6))
 clear x0 x1 x2 x3 x4 x5 x6 x7 x8 x9 x10 x11 x12
 have hs6 := hexc.size
 have hs61 : w.heap.size + 1 < w6.heap.size := s0.lt
 have hpt := V2.new w6 (.int .u64 (lo part)) (.int .u64 (hi part)) 36
 have hbA : Below w6.heap.size w6 (w6.alloc (.cells #[.int .u64 (lo part), .int .u64 (hi part)] 36)) := by repeat (first | exact bA | with_reducible assumption | apply bB)
 replace hexc := hexc.call hbA
 replace hx := hx.call hbA
 replace s0 := s0.call hbA
 replace hinv := hinv.call hbA
 clear hbA
 generalize w6.alloc (.cells #[.int .u64 (lo part), .int .u64 (hi part)] 36) = w7 at hexc hx s0 hinv hpt ⊢
 have hs67 : w6.heap.size < w7.heap.size := hpt.lt
 obtain ⟨bp, hbpe⟩ : ∃ bp, w6.heap.size = bp := ⟨_, rfl⟩
 rw [hbpe] at hpt hs6 hs61 hs67
 simp only [hbpe]
 clear hbpe HO HV HC HI HJ
 obtain ⟨rb, hrb⟩ : ∃ z, cdx (bitsF ans r B) cd = z := ⟨_, rfl⟩
 rw [hrb] at HBITS
 have HRB := Lib.hid hrb
 clear hrb
 obtain ⟨⟨x0, x1, x2, x3, x4, x5⟩, ⟨x6, x7, x8, x9, x10, x11⟩, x12⟩ := hx.get6
 go_upto_region 19 with fail
 clear x0 x1 x2 x3 x4 x5 x6 x7 x8 x9 x10 x11 x12
 have hr0 : RowE w7 bj oj (esK j) := HRJ.out.exc hnj hexc
 obtain ⟨k0, k1⟩ := hr0.kat HJ0.out
 rw [Nat.zero_mul, Nat.add_zero] at k0 k1
 have HIN7 := Lib.hid (HIN.out.exc hexc)
 have hsz7 := hexc.size
 refine region_X (fun wz => Exc D w7.heap.size w7 wz) (Rg D w7 (Inv 0)) (fun _ h => h.1) (Rg.clo D w7 (Inv 0)) (Rg.start hinv) (n := 9) (m := 11) (f := 9) (by kernel_rfl) (by kernel_rfl) rfl ?_
 refine WpX.vD 0 (some 86) ?_ rfl rfl (by kernel_rfl) (fun _ _ _ h => h) rfl (fun wz hwz => ?_) ?_
 rotate_left
 ·(obtain ⟨⟨f0, f1, f2, f3, f4, f5⟩, ⟨f6, f7, f8, f9, f10, f11⟩, f12⟩ := (hx.exc (fun h => by have := hlt0 _ h; omega) hwz).get6; go_simp; try (with_reducible rfl))
 simp only [Zp, Zq, Zr, Zs]
 refine WpX.vD 1 (some 87) ?_ rfl rfl (by kernel_rfl) (fun _ _ _ h => h) rfl (fun wz hwz => ?_) ?_
 rotate_left
 ·go_simp; try (with_reducible rfl)
 simp only [Zp, Zq, Zr, Zs]
 refine WpX.vD 2 (some 88) ?_ rfl rfl (by kernel_rfl) (fun _ _ _ h => h) rfl (fun wz hwz => ?_) ?_
 rotate_left
 ·go_simp; try (with_reducible rfl)
 simp only [Zp, Zq, Zr, Zs]
 refine WpX.vD 3 (some 89) ?_ rfl rfl (by kernel_rfl) (fun _ _ _ h => h) rfl (fun wz hwz => ?_) ?_
 rotate_left
 ·go_simp; try (with_reducible rfl)
 simp only [Zp, Zq, Zr, Zs]
 refine WpX.vD 4 (some 90) ?_ rfl rfl (by kernel_rfl) (fun _ _ _ h => h) rfl (fun wz hwz => ?_) ?_
 rotate_left
 ·(obtain ⟨f0, f1⟩ := And.intro (cell_exc k0 hnj hwz) (cell_exc k1 hnj hwz); have hbw := lt_of_cell f0; dsimp only at hbw; go_simp; try (with_reducible rfl))
 simp only [Zp, Zq, Zr, Zs]
 refine WpX.vD 5 (some 91) ?_ rfl rfl (by kernel_rfl) (fun _ _ _ h => h) rfl (fun wz hwz => ?_) ?_
 rotate_left
 ·go_simp; try (with_reducible rfl)
 simp only [Zp, Zq, Zr, Zs]
 refine WpX.oneD 6 (some 92) rfl rfl (by kernel_rfl) (fun _ : Unit => Value.tuple #[vK rb, .int .i64 cd]) (fun _ wz => Exc D w7.heap.size w7 wz) (fun _ => Rd D w7 (Jn Inv B cd)) (Turns.call rfl (fun _ _ h => h) (fun _ _ h => h.1) (fun _ => Rd.clo D w7 (Jn Inv B cd)) (fun wz h => (HBITS.out wz (HIN7.out.exc h.1) h.2).mono fun e w' ⟨he, hR⟩ => ⟨(), he, hR.from h.1⟩) (fun wz h => by go_simp; try (with_reducible rfl))) (fun u9 => ?_)
 simp only [Zp, Zq, Zr, Zs]
 refine WpX.vD 7 (some 93) ?_ rfl rfl (by kernel_rfl) (fun _ _ _ h => h) rfl (fun wz hwz => ?_) ?_
 rotate_left
 ·go_simp; try (with_reducible rfl)
 simp only [Zp, Zq, Zr, Zs]
 refine WpX.vD 8 (some 94) ?_ rfl rfl (by kernel_rfl) (fun _ _ _ h => h) rfl (fun wz hwz => ?_) ?_
 rotate_left
 ·go_simp; try (with_reducible rfl)
 simp only [Zp, Zq, Zr, Zs]
 refine WpX.done (by kernel_rfl) (fun w8 hS => ?_)
 (try simp only [List.drop_succ_cons]); (try simp only [List.drop_zero]); (try simp only [Nat.reduceSub]); (try simp only [List.take_succ_cons]); (try simp only [List.take_zero])
 replace s0 := s0.exc (fun h => by have := hlt0 _ h; omega) hS.1
 have hsz8 := hS.1.size
 have hb7 : w.heap.size + 1 < w7.heap.size := by omega
 obtain ⟨s00, s01, s02, s03, s04⟩ := V2.mk s0.c0 s0.c1 s0.f0 s0.f1 s0.lt
 go_wp2_with fail
 refine bodyPost_ret (results_v2_tmp (b := w.heap.size + 1) (u := .int .u64 (lo rb)) (v := .int .u64 (hi rb)) ?_ rfl rfl) rfl ?_
 ·exact V2.set s0 _ _
 ·refine RetRun.ofUni (by rw [HRB.out]; rfl) (hS.fin hexc (by omega) hb7 (fun h => by have := hlt0 _ h; omega) _ _)

end

end Go.Proofs.YtfbfbijkkbflkaaGreatDoor

namespace Go.Proofs.YtfbfbijkkbflkaaGreatDoor
open Go.RowKit Fm
set_option linter.unusedVariables false
set_option maxRecDepth 100000

section
variable {f : Nat} (hf : IsF f)
include hf

set_option maxHeartbeats 4000000 in
theorem circuit_Run_vec (b l c : Nat) (hy : (CK.vec b l c).ok) (hcl : (CK.vec b l c).calls ≤ 511) (part : Fin (Pm f)) (sh : Nat) (hsh : sh = 1 ∨ sh = 2) (hpart : part = kinv (nK f sh)) (v j : KL f) (g : Nat) (cap : Array Value) (D : Nat → Prop) (Inv : Nat → (Nat → Prop) → World → Prop) (ans : Nat → Fin (Pm f)) (cd : Int)
  (HA : Asked (.vec b l c) v j part g cap Inv ans cd) (hl : v.length = (CK.vec b l c).nin) (hjl : j.length = (CK.vec b l c).calls) (HC : Hid (∀ wz, Calls Tryz.prog 48 #[.agg #[.int .u8 3, .int .u8 f, .int .i64 b, .int .i64 l, .int .i64 0, .int .i64 c]] wz (RetC 0 wz)))
  (HI : Hid (∀ wz, Calls Tryz.prog 42 #[.agg #[.int .u8 3, .int .u8 f, .int .i64 b, .int .i64 l, .int .i64 0, .int .i64 c]] wz (RetI v.length wz)))
  (HJ : Hid (∀ wz, Calls Tryz.prog 14 #[.agg #[.int .u8 3, .int .u8 f, .int .i64 b, .int .i64 l, .int .i64 0, .int .i64 c]] wz (RetI j.length wz)))
  (vl vj : Value) (w : World) (hin : SlX D w vl v) (hjo : SlX D w vj j) (hinv : St (Inv 0) D w) :
  Calls Tryz.prog 32 #[.agg #[.int .u8 3, .int .u8 f, .int .i64 b, .int .i64 l, .int .i64 0, .int .i64 c], vl, vj, .int .i64 (sh : Int), .func (.func g) #[] cap] w (RetRun (runF (.vec b l c) v j part ans) ((CK.vec b l c).calls) cd Inv D w) := by
 obtain ⟨A, cc, rfl, hcc, hcm, hA⟩ := id hin
 obtain ⟨A2, cc2, rfl, hcc2, hcm2, hA2⟩ := id hjo
 have hn1 : 1 ≤ (CK.vec b l c).calls := CK.calls_pos hy
 have hnin1 := CK.nin_pos hy
 have hnin := CK.nin_le hy
 obtain ⟨bi, oi, rfl, hbi, hni, HR⟩ := hA (by omega)
 obtain ⟨bj, oj, rfl, hbj, hnj, HR2⟩ := hA2 (by omega)
 have HRJ := Lib.hid HR2
 have HCH : Hid (∀ wz, SlX D wz (.slice (some ⟨bi, oi, none⟩) v.length cc) v → SlX D wz (.slice (some ⟨bj, oj, none⟩) j.length cc2) j → St (Inv 0) D wz → Calls Tryz.prog 78 #[.agg #[.int .u8 3, .int .u8 f, .int .i64 b, .int .i64 l, .int .i64 0, .int .i64 c], .slice (some ⟨bi, oi, none⟩) v.length cc, .slice (some ⟨bj, oj, none⟩) j.length cc2, vK part, .func (.func g) #[] cap] wz fun e w' => e = .returned (.tuple #[vK (cdx (acc ans (CK.vec b l c).calls) cd), .int .i64 cd]) ∧ Rd D wz (Jn Inv (CK.vec b l c).calls cd) w') :=
  fun wz h1 h2 h3 => (circuit_chunks hf (.vec b l c) hy (by omega) c hy.2.2.1 hy.2.2.2 rfl v j part (fun _ => rfl) g cap D Inv ans cd HA hn1 hl (by omega) _ _ wz h1 h2 h3).mono fun e w' h => h.uni
 have HRES : Hid (runF (.vec b l c) v j part ans = acc ans (CK.vec b l c).calls) := by
  show _ = _
  rfl
 rw [HRES.out]
 generalize (CK.vec b l c).calls = q at *
 obtain ⟨nj, hnj2⟩ : ∃ nj, j.length = nj := ⟨_, rfl⟩
 rw [hnj2] at HCH HJ hjo ⊢
 obtain ⟨n, hn⟩ : ∃ n, v.length = n := ⟨_, rfl⟩
 rw [hn] at HCH HI hin hcc ⊢
 have HIN := Lib.hid hin
 have HJO := Lib.hid hjo
 have HENT0 := HA.ent
 clear hA hA2 HR HR2 hin hjo hl hn hnj2 hjl hnin hnin1 hn1 hcl hy HRES hcc2 hbi hbj
 have heq := eql_func
 have HENT := HA.ent
 obtain ⟨xs, hO, hV⟩ := part_of hf sh hsh
 rw [← hpart] at hV
 have HO := Lib.hid hO
 have HV := Lib.hid hV
 have hsh0 : (0 : Int) ≤ (sh : Int) ∧ (sh : Int) ≤ 2 := by omega
 have hmx : max (sh : Int) 0 = (sh : Int) := by omega
 have hws : IntKind.u64.wrap (sh : Int) = (sh : Int) := IntWalk.u64_in _ (by omega)
 clear hO hV hsh hpart
 have hexc : Exc D w.heap.size w w := exc_of (Below.refl _ _)
 have hlt0 := hinv.lt
 have hfb0 : (1 : Int) ≤ (f : Int) := by rcases hf.or with rfl | rfl <;> omega
 have hfb1 : (f : Int) ≤ 2 := by rcases hf.or with rfl | rfl <;> omega
 go_enter Tryz.func32, Tryz.ntmps32
 go_upto_region 1 with fail
 have hx := (Vs.new w [.int .u8 3, .int .u8 f, .int .i64 b, .int .i64 l, .int .i64 0, .int .i64 c] #[.int .u8 3, .int .u8 f, .int .i64 b, .int .i64 l, .int .i64 0, .int .i64 c] 30 rfl).alloc (.cells #[.int .u64 0, .int .u64 0] 36)
 have s0 := V2.new (w.alloc (.cells #[.int .u8 3, .int .u8 f, .int .i64 b, .int .i64 l, .int .i64 0, .int .i64 c] 30)) (.int .u64 0) (.int .u64 0) 36
 simp only [World.size_alloc] at s0
 have hb00 : Below w.heap.size w ((w.alloc (.cells #[.int .u8 3, .int .u8 f, .int .i64 b, .int .i64 l, .int .i64 0, .int .i64 c] 30)).alloc (.cells #[.int .u64 0, .int .u64 0] 36)) := by repeat (first | exact bA | with_reducible assumption | apply bB)
 have hszn : w.heap.size + 2 ≤ ((w.alloc (.cells #[.int .u8 3, .int .u8 f, .int .i64 b, .int .i64 l, .int .i64 0, .int .i64 c] 30)).alloc (.cells #[.int .u64 0, .int .u64 0] 36)).heap.size := by simp only [World.size_alloc]; omega
 generalize ((w.alloc (.cells #[.int .u8 3, .int .u8 f, .int .i64 b, .int .i64 l, .int .i64 0, .int .i64 c] 30)).alloc (.cells #[.int .u64 0, .int .u64 0] 36)) = w1 at hx s0 hb00 hszn ⊢
 replace hinv := hinv.call hb00
 replace hexc := hexc.call hb00
 clear hb00
 obtain ⟨⟨x0, x1, x2, x3, x4, x5⟩, ⟨x6, x7, x8, x9, x10, x11⟩, x12⟩ := hx.get6
 go_upto_region 9 with (first
  | (go_at_call 48; refine (HC.out _).mono ?_; rintro e w2 ⟨rfl, hb2⟩; replace hexc := hexc.call hb2; replace hx := hx.call hb2; replace s0 := s0.call hb2; replace hinv := hinv.call hb2; clear x0 x1 x2 x3 x4 x5 x6 x7 x8 x9 x10 x11 x12; clear hb2; obtain ⟨⟨x0, x1, x2, x3, x4, x5⟩, ⟨x6, x7, x8, x9, x10, x11⟩, x12⟩ := hx.get6)
  | (go_at_call 42; refine (HI.out _).mono ?_; rintro e w3 ⟨rfl, hb3⟩; replace hexc := hexc.call hb3; replace hx := hx.call hb3; replace s0 := s0.call hb3; replace hinv := hinv.call hb3; clear x0 x1 x2 x3 x4 x5 x6 x7 x8 x9 x10 x11 x12; clear hb3; obtain ⟨⟨x0, x1, x2, x3, x4, x5⟩, ⟨x6, x7, x8, x9, x10, x11⟩, x12⟩ := hx.get6)
  | (go_at_call 14; refine (HJ.out _).mono ?_; rintro e w4 ⟨rfl, hb4⟩; replace hexc := hexc.call hb4; replace hx := hx.call hb4; replace s0 := s0.call hb4; replace hinv := hinv.call hb4; clear x0 x1 x2 x3 x4 x5 x6 x7 x8 x9 x10 x11 x12; clear hb4; obtain ⟨⟨x0, x1, x2, x3, x4, x5⟩, ⟨x6, x7, x8, x9, x10, x11⟩, x12⟩ := hx.get6))
 go_upto_region 10 with (first
  | (go_at_call 52; refine (HO.out _).mono ?_; rintro e w5 ⟨rfl, hb5⟩; replace hexc := hexc.call hb5; replace hx := hx.call hb5; replace s0 := s0.call hb5; replace hinv := hinv.call hb5; clear x0 x1 x2 x3 x4 x5 x6 x7 x8 x9 x10 x11 x12; clear hb5; obtain ⟨⟨x0, x1, x2, x3, x4, x5⟩, ⟨x6, x7, x8, x9, x10, x11⟩, x12⟩ := hx.get6)
  | (go_at_call 76; refine (HV.out _).mono ?_; rintro e w6 ⟨rfl, hb6⟩; replace hexc := hexc.call hb6; replace hx := hx.call hb6; replace s0 := s0.call hb6; replace hinv := hinv.call hb6; clear x0 x1 x2 x3 x4 x5 x6 x7 x8 x9 x10 x11 x12; clear hb6; obtain ⟨⟨x0, x1, x2, x3, x4, x5⟩, ⟨x6, x7, x8, x9, x10, x11⟩, x12⟩ := hx.get6))
 clear x0 x1 x2 x3 x4 x5 x6 x7 x8 x9 x10 x11 x12
 have hs6 := hexc.size
 have hs61 : w.heap.size + 1 < w6.heap.size := s0.lt
 have hpt := V2.new w6 (.int .u64 (lo part)) (.int .u64 (hi part)) 36
 have hbA : Below w6.heap.size w6 (w6.alloc (.cells #[.int .u64 (lo part), .int .u64 (hi part)] 36)) := by repeat (first | exact bA | with_reducible assumption | apply bB)
 replace hexc := hexc.call hbA
 replace hx := hx.call hbA
 replace s0 := s0.call hbA
 replace hinv := hinv.call hbA
 clear hbA
 generalize w6.alloc (.cells #[.int .u64 (lo part), .int .u64 (hi part)] 36) = w7 at hexc hx s0 hinv hpt ⊢
 have hs67 : w6.heap.size < w7.heap.size := hpt.lt
 obtain ⟨bp, hbpe⟩ : ∃ bp, w6.heap.size = bp := ⟨_, rfl⟩
 rw [hbpe] at hpt hs6 hs61 hs67
 simp only [hbpe]
 clear hbpe HO HV HC HI HJ
 obtain ⟨rb, hrb⟩ : ∃ z, cdx (acc ans q) cd = z := ⟨_, rfl⟩
 rw [hrb] at HCH
 have HRB := Lib.hid hrb
 clear hrb
 have hsz7 := hexc.size
 obtain ⟨⟨x0, x1, x2, x3, x4, x5⟩, ⟨x6, x7, x8, x9, x10, x11⟩, x12⟩ := hx.get6
 obtain ⟨pt0, pt1, pt2, pt3, pt4⟩ := V2.mk hpt.c0 hpt.c1 hpt.f0 hpt.f1 hpt.lt
 go_wp2_with fail
 clear x0 x1 x2 x3 x4 x5 x6 x7 x8 x9 x10 x11 x12 pt0 pt1 pt2 pt3 pt4
 refine (HCH.out w7 (HIN.out.exc hexc) (HJO.out.exc hexc) hinv).mono ?_
 rintro e w8 ⟨rfl, hR⟩
 clear HCH hinv
 replace hx := hx.exc (fun h => by have := hlt0 _ h; omega) hR.1
 replace s0 := s0.exc (fun h => by have := hlt0 _ h; omega) hR.1
 have hnp : ¬ D bp := fun h => by have := hlt0 _ h; omega
 replace hpt := hpt.exc hnp hR.1
 have hsz8 := hR.1.size
 have hb7 : w.heap.size + 1 < w7.heap.size := by omega
 go_upto_region 21 with fail
 have hob := V2.new w8 (.int .u64 (lo rb)) (.int .u64 (hi rb)) 36
 have hbA : Below w8.heap.size w8 (w8.alloc (.cells #[.int .u64 (lo rb), .int .u64 (hi rb)] 36)) := by repeat (first | exact bA | with_reducible assumption | apply bB)
 replace hR := hR.call hbA
 replace hx := hx.call hbA
 replace s0 := s0.call hbA
 replace hpt := hpt.call hbA
 clear hbA
 generalize w8.alloc (.cells #[.int .u64 (lo rb), .int .u64 (hi rb)] 36) = w9 at hR hx s0 hpt hob ⊢
 obtain ⟨bo, hbo⟩ : ∃ bo, w8.heap.size = bo := ⟨_, rfl⟩
 rw [hbo] at hob
 simp only [hbo]
 by_cases hcd : cd = 0
 rotate_left
 ·have hcd1 : (cd == 0) = false := by simpa using hcd
  have hcd2 : (cd != 0) = true := by simpa using hcd
  skip
  obtain ⟨⟨x0, x1, x2, x3, x4, x5⟩, ⟨x6, x7, x8, x9, x10, x11⟩, x12⟩ := hx.get6
  obtain ⟨ob0, ob1, ob2, ob3, ob4⟩ := V2.mk hob.c0 hob.c1 hob.f0 hob.f1 hob.lt
  obtain ⟨s00, s01, s02, s03, s04⟩ := V2.mk s0.c0 s0.c1 s0.f0 s0.f1 s0.lt
  go_wp2_with fail
  refine bodyPost_ret (results_v2_tmp (b := w.heap.size + 1) (u := .int .u64 (lo rb)) (v := .int .u64 (hi rb)) ?_ rfl rfl) rfl ?_
  ·exact V2.set s0 _ _
  ·refine RetRun.ofUni ?_ ?_
   ·show Ending.returned (.tuple #[vK rb, .int .i64 _]) = _
    rw [HRB.out]
   ·exact hR.fin (b := w.heap.size + 1) hexc (by omega) hb7 (fun h => by have := hlt0 _ h; omega) _ _
 subst hcd
 obtain ⟨⟨x0, x1, x2, x3, x4, x5⟩, ⟨x6, x7, x8, x9, x10, x11⟩, x12⟩ := hx.get6
 obtain ⟨ob0, ob1, ob2, ob3, ob4⟩ := V2.mk hob.c0 hob.c1 hob.f0 hob.f1 hob.lt
 obtain ⟨s00, s01, s02, s03, s04⟩ := V2.mk s0.c0 s0.c1 s0.f0 s0.f1 s0.lt
 go_wp2_with fail
 refine bodyPost_ret (results_v2_tmp (b := w.heap.size + 1) (u := .int .u64 (lo rb)) (v := .int .u64 (hi rb)) ?_ rfl rfl) rfl ?_
 ·exact V2.set s0 _ _
 ·refine RetRun.ofUni ?_ ?_
  ·show Ending.returned (.tuple #[vK rb, .int .i64 _]) = _
   rw [HRB.out]
  ·exact hR.fin (b := w.heap.size + 1) hexc (by omega) hb7 (fun h => by have := hlt0 _ h; omega) _ _

end

end Go.Proofs.YtfbfbijkkbflkaaGreatDoor
